/- Plain laws for the reference of integers and rationals. Plain polynomials: the ring. Plain polynomials: degrees, division, greatest common divisors, derivatives, values. Plain polynomials: primitive parts; how many bits Euclid's way needs. Contracts of the reference of rational. Printed by wip/sym/g_rq.py. Contracts of poly. Printed by wip/sym/g_pol.py. Contracts of poly: division, greatest common divisors. Printed by wip/sym/g_dm.py. Contracts: equality of lists of rationals, polynomials that are made. Printed by wip/sym/g_q5.py. The laws of chapter 5, without programs: common factors, powers. Polynomials that are made of integers; the laws of chapter 5 in the words of lists. More operations of the walk: conversions of integers; elements and fronts of lists of integers. Contracts of make's polynomials, of powers. Printed by wip/sym/g_mk.py. The examples of chapter 5, without programs. The examples of chapter 5, walked. Printed by wip/sym/g_l5.py. Plain laws: larger intervals have larger results; common numbers. Values, without programs: Horner's rule, compositions, enclosures. Horner's rule with whole numbers, without programs; values of sums, products, compositions. Contracts of values of polynomials. Printed by wip/sym/g_ev.py. PolyValues, walked. Printed by wip/sym/g_l5z.py. -/
import Derived.Test.YtnedhbidmfoegaaGreatGcE
namespace Go.Proofs.YtnedhbidmfoegaaGreat
open Go.RowKit
set_option linter.unusedVariables false
namespace Nt
theorem add_div2 {a c : Int} {b d : Nat} (hb : 0 < b) (hd : 0 < d) : (((a * d + c * b : Int)) : Rat) / (((b * d : Int)) : Rat) = mkRat a b + mkRat c d := by
  rw [← add_mk hb hd, Rat.mkRat_eq_div]
  congr 1
theorem mul_div2 {a c : Int} {b d : Nat} : (((a * c : Int)) : Rat) / (((b * d : Int)) : Rat) = mkRat a b * mkRat c d := by
  rw [← mul_mk, Rat.mkRat_eq_div]
  congr 1
end Nt
section
variable {u u' w w' : World} {x y : Sl} {i j : IL} {r r' : RL} {N M K L : Nat} {z z' : Int} {q q' : Rat}
end
end Go.Proofs.YtnedhbidmfoegaaGreat
namespace Go.Proofs.YtnedhbidmfoegaaGreat
set_option linter.unusedVariables false
namespace Nt
namespace Pol
theorem mk_add (l m : List Rat) : mk' (addQ l m) = mk' l + mk' m := ext fun i => by rw [mk_c, addQ_co, c_add, mk_c, mk_c]
theorem C_zero : C 0 = 0 := rfl
end Pol
end Nt
end Go.Proofs.YtnedhbidmfoegaaGreat
namespace Go.Proofs.YtnedhbidmfoegaaGreat
set_option linter.unusedVariables false
namespace Nt
namespace Pol
theorem len_add (p q : Pol) : (p + q).len ≤ max p.len q.len := len_le fun i hi => by rw [c_add, c_ge (by omega), c_ge (by omega)]; exact Rat.add_zero 0
theorem evL_zero {l : List Rat} (h : ∀ i, co l i = 0) (x : Rat) : evL l x = 0 := by
  induction l with
  | nil => rfl
  | cons a l ih =>
    have h0 : a = 0 := h 0
    show a + x * evL l x = 0
    rw [ih fun i => by rw [← co_succ a]; exact h (i + 1), h0]; grind
theorem evL_congr {l m : List Rat} (h : ∀ i, co l i = co m i) (x : Rat) : evL l x = evL m x := by
  induction l generalizing m with
  | nil => rw [evL_zero (l := m) fun i => by rw [← h i, co_nil]]; rfl
  | cons a l ih =>
    cases m with
    | nil => rw [evL_zero (l := a :: l) fun i => by rw [h i, co_nil]]; rfl
    | cons b m =>
      have h0 : a = b := h 0
      show a + x * evL l x = b + x * evL m x
      have e := ih (m := m) (fun i => by have := h (i + 1); rw [co_succ, co_succ] at this; exact this)
      rw [h0, e]
theorem mk_ev (l : List Rat) (x : Rat) : (mk' l).ev x = evL l x := evL_congr (trim_co l) x
theorem ev_zero (x : Rat) : ev 0 x = 0 := evL_zero (fun i => c_zero i) x
theorem ev_cons (a : Rat) (p : Pol) (x : Rat) : ev (C a + X * p) x = a + x * ev p x := by
  have e : C a + X * p = mk' (a :: p.l) := by rw [mk_cons', mk_l]
  rw [e, mk_ev]; rfl
theorem ev_add (p q : Pol) (x : Rat) : ev (p + q) x = ev p x + ev q x := by
  induction p using ind generalizing q with
  | h0 => rw [ev_zero, show (0 : Pol) + q = q by grind]; grind
  | h1 a p ih =>
    induction q using ind with
    | h0 => rw [ev_zero, add_zero]; grind
    | h1 b q _ =>
      have e : C a + X * p + (C b + X * q) = C (a + b) + X * (p + q) := by rw [C_add]; grind
      rw [e, ev_cons, ev_cons, ev_cons, ih]; grind
theorem ev_C (a : Rat) (x : Rat) : ev (C a) x = a := by
  have e : C a = C a + X * 0 := by rw [mul_zero, add_zero]
  rw [e, ev_cons, ev_zero]; grind
theorem ev_Cmul (a : Rat) (p : Pol) (x : Rat) : ev (C a * p) x = a * ev p x := by
  induction p using ind with
  | h0 => rw [mul_zero, ev_zero]; grind
  | h1 b p ih =>
    have e : C a * (C b + X * p) = C (a * b) + X * (C a * p) := by rw [C_mul]; grind
    rw [e, ev_cons, ev_cons, ih]; grind
theorem ev_mul (p q : Pol) (x : Rat) : ev (p * q) x = ev p x * ev q x := by
  induction p using ind with
  | h0 => rw [zero_mul, ev_zero]; grind
  | h1 a p ih =>
    have e : (C a + X * p) * q = C a * q + (C 0 + X * (p * q)) := by rw [C_zero]; grind
    rw [e, ev_add, ev_Cmul, ev_cons, ih, ev_cons]; grind
end Pol
end Nt
end Go.Proofs.YtnedhbidmfoegaaGreat
namespace Go.Proofs.YtnedhbidmfoegaaGreat
set_option linter.unusedVariables false
namespace Nt
theorem der_trim_len (l : List Rat) : (trimQ (derQ l)).length ≤ (trimQ l).length - 1 := by
  refine Pol.len_le (p := Pol.mk' (derQ l)) fun i hi => ?_
  rw [Pol.mk_c, derQ_co, ← trim_co, co_ge (by omega)]
  grind
theorem pot_der {l : List Rat} {A H : Nat} (h : (A + 1) * (A + 1) * 3 ^ (2 * (l.length - 1) + 1) ≤ H * H) : (A + 1) * (A + 1) * 3 ^ pot (trimQ l).length (trimQ (trimQ (derQ l))).length ≤ H * H := by
  refine Nat.le_trans (Nat.mul_le_mul_left _ (Nat.pow_le_pow_right (by omega) ?_)) h
  rw [trim_trim]
  have h1 := der_trim_len l
  have h2 := trim_len l
  unfold pot
  split
  · omega
  · split <;> omega
end Nt
end Go.Proofs.YtnedhbidmfoegaaGreat
namespace Go.Proofs.YtnedhbidmfoegaaGreat
open Go.RowKit
set_option linter.unusedVariables false
theorem k_rqAdd {u w : World} {r1 : RL} {x : Rat} {K : Nat} {r2 : RL} {y : Rat} {L : Nat} (d : Dat u w) (hr1 : RatV u r1 x K) (hr2 : RatV u r2 y L) (hK : K ≤ 100000000) (hL : L ≤ 100000000) : Calls Tryz.prog 18 #[r1.v, r2.v] w (Post u w fun v u' => ∃ r : RL, v = r.v ∧ RatN u' r (x + y) (K + L + 2)) := by
  refine calls_sym (args := [r1.v, r2.v]) Tryz.func18 rfl Tryz.ntmps18 (rs := [.cell 4 26]) Tryz.results18 (le_b rfl) (le_b rfl) d ?_
  refine sw_seq ?_
  refine sw_reg ?_
  refine sy_new 2 ⟨26, r1.cs⟩ ?_
  refine sy_new 3 ⟨26, r2.cs⟩ ?_
  refine sy_new 4 ⟨26, [.bool false, .slice none 0 0, .slice none 0 0]⟩ ?_
  refine sy_next 30 [(2, .adr 2 0), (3, .adr 3 0), (4, .adr 4 0)] [(2, ⟨26, r1.cs⟩), (3, ⟨26, r2.cs⟩), (4, ⟨26, [.bool false, .slice none 0 0, .slice none 0 0]⟩)] ?_
  refine sw_seq ?_
  refine sw_reg ?_
  refine sy_ldv 10 (.v (r1.v)) ty26 part_agg ?_
  refine sy_call 11 105 [r1.v] ?_
  intro w11 u11 e11 d11
  have k15 := k_parts d11 (hr1.ext e11) (by omega)
  with_reducible refine Post.mono k15 ?_
  clear k15
  rintro _ u13 g14 ⟨i12, j12, z12, D12, rfl, hi12, hj12, hp12, hq12, hk12⟩
  refine sy_pure 9 (.v (.tuple #[i12.v, j12.v])) ?_
  refine sy_pure 12 (.v (i12.v)) ?_
  refine sy_pure 13 (.v (j12.v)) ?_
  refine sy_new 5 ⟨24, [.bool false, .slice none 0 0]⟩ ?_
  refine sy_new 6 ⟨24, [.bool false, .slice none 0 0]⟩ ?_
  refine sy_store ⟨24, i12.cs⟩ ty24 ?_
  refine sy_store ⟨24, j12.cs⟩ ty24 ?_
  refine sy_next 30 [(3, .adr 3 0), (4, .adr 4 0), (5, .adr 5 0), (6, .adr 6 0)] [(3, ⟨26, r2.cs⟩), (4, ⟨26, [.bool false, .slice none 0 0, .slice none 0 0]⟩), (5, ⟨24, i12.cs⟩), (6, ⟨24, j12.cs⟩)] ?_
  refine sw_seq ?_
  refine sw_reg ?_
  refine sy_ldv 15 (.v (r2.v)) ty26 part_agg ?_
  refine sy_call 16 105 [r2.v] ?_
  intro w16 u16 e16 d16
  have k20 := k_parts d16 (hr2.ext (e11.trans (g14.ext.trans e16))) (by omega)
  with_reducible refine Post.mono k20 ?_
  clear k20
  rintro _ u18 g19 ⟨i17, j17, z17, D17, rfl, hi17, hj17, hp17, hq17, hk17⟩
  refine sy_pure 14 (.v (.tuple #[i17.v, j17.v])) ?_
  refine sy_pure 17 (.v (i17.v)) ?_
  refine sy_pure 18 (.v (j17.v)) ?_
  refine sy_new 7 ⟨24, [.bool false, .slice none 0 0]⟩ ?_
  refine sy_new 8 ⟨24, [.bool false, .slice none 0 0]⟩ ?_
  refine sy_store ⟨24, i17.cs⟩ ty24 ?_
  refine sy_store ⟨24, j17.cs⟩ ty24 ?_
  refine sy_next 30 [(4, .adr 4 0), (5, .adr 5 0), (6, .adr 6 0), (7, .adr 7 0), (8, .adr 8 0)] [(4, ⟨26, [.bool false, .slice none 0 0, .slice none 0 0]⟩), (5, ⟨24, i12.cs⟩), (6, ⟨24, j12.cs⟩), (7, ⟨24, i17.cs⟩), (8, ⟨24, j17.cs⟩)] ?_
  refine sw_seq ?_
  refine sw_any [0, 0, 3, 0, 0, 31, 63, 0, 0, 511, 1023, 2047] [(0, []), (1, []), (3, []), (4, []), (7, []), (8, []), (2, []), (5, []), (6, []), (9, []), (10, []), (11, [])] (by kernel_rfl) (by kernel_rfl) ?_
  refine sy_ldv 19 (.v (i12.v)) ty24 part_agg ?_
  refine sy_ldv 20 (.v (j17.v)) ty24 part_agg ?_
  refine sy_ldv 22 (.v (i17.v)) ty24 part_agg ?_
  refine sy_ldv 23 (.v (j12.v)) ty24 part_agg ?_
  refine sy_ldv 26 (.v (j12.v)) ty24 part_agg ?_
  refine sy_ldv 27 (.v (j17.v)) ty24 part_agg ?_
  refine sy_call 21 108 [i12.v, j17.v] ?_
  intro w21 u21 e21 d21
  have k26 := k_riMul d21 (hi12.ext (e16.trans (g19.ext.trans e21))) (hj17.ext e21).raw (by omega) (by omega)
  with_reducible refine Post.mono k26 ?_
  clear k26
  rintro _ u24 g25 ⟨i22, rfl, h23⟩
  refine sy_call 24 108 [i17.v, j12.v] ?_
  intro w27 u27 e27 d27
  have k32 := k_riMul d27 (hi17.ext (e21.trans (g25.ext.trans e27))) (hj12.ext (e16.trans (g19.ext.trans (e21.trans (g25.ext.trans e27))))).raw (by omega) (by omega)
  with_reducible refine Post.mono k32 ?_
  clear k32
  rintro _ u30 g31 ⟨i28, rfl, h29⟩
  refine sy_call 25 107 [i22.v, i28.v] ?_
  intro w33 u33 e33 d33
  have k38 := k_riAdd d33 (h23.ext (e27.trans (g31.ext.trans e33))).raw (h29.ext e33).raw (by omega) (by omega)
  with_reducible refine Post.mono k38 ?_
  clear k38
  rintro _ u36 g37 ⟨i34, rfl, h35⟩
  refine sy_call 28 108 [j12.v, j17.v] ?_
  intro w39 u39 e39 d39
  have k44 := k_riMul d39 (hj12.ext (e16.trans (g19.ext.trans (e21.trans (g25.ext.trans (e27.trans (g31.ext.trans (e33.trans (g37.ext.trans e39))))))))).raw (hj17.ext (e21.trans (g25.ext.trans (e27.trans (g31.ext.trans (e33.trans (g37.ext.trans e39))))))).raw (by omega) (by omega)
  with_reducible refine Post.mono k44 ?_
  clear k44
  rintro _ u42 g43 ⟨i40, rfl, h41⟩
  refine sy_call 29 106 [i34.v, i40.v] ?_
  intro w45 u45 e45 d45
  have k50 := k_reduce d45 (h35.ext (e39.trans (g43.ext.trans e45))).raw (h41.ext e45).raw (by omega) (by omega)
  with_reducible refine Post.mono k50 ?_
  clear k50
  rintro _ u48 g49 ⟨r46, rfl, h47⟩
  refine sy_store ⟨26, r46.cs⟩ ty26 ?_
  refine sy_next 30 [(4, .adr 4 0)] [(4, ⟨26, r46.cs⟩)] ?_
  refine sw_ret (ret0 [r46.v] ⟨res_cell ty26 part_agg, trivial⟩ fun u51 e52 => ?_)
  refine ⟨r46, rfl, RatN.more (K := (max (max (K + L) (L + K) + 1) (K + L) + 1)) ?_ (by omega)⟩
  rw [hq12, hq17, ← Nt.add_div2 hp12 hp17]
  exact (h47.ext e52)
theorem k_rqMul {u w : World} {r1 : RL} {x : Rat} {K : Nat} {r2 : RL} {y : Rat} {L : Nat} (d : Dat u w) (hr1 : RatV u r1 x K) (hr2 : RatV u r2 y L) (hK : K ≤ 100000000) (hL : L ≤ 100000000) : Calls Tryz.prog 22 #[r1.v, r2.v] w (Post u w fun v u' => ∃ r : RL, v = r.v ∧ RatN u' r (x * y) (K + L + 1)) := by
  refine calls_sym (args := [r1.v, r2.v]) Tryz.func22 rfl Tryz.ntmps22 (rs := [.cell 4 26]) Tryz.results22 (le_b rfl) (le_b rfl) d ?_
  refine sw_seq ?_
  refine sw_reg ?_
  refine sy_new 2 ⟨26, r1.cs⟩ ?_
  refine sy_new 3 ⟨26, r2.cs⟩ ?_
  refine sy_new 4 ⟨26, [.bool false, .slice none 0 0, .slice none 0 0]⟩ ?_
  refine sy_next 26 [(2, .adr 2 0), (3, .adr 3 0), (4, .adr 4 0)] [(2, ⟨26, r1.cs⟩), (3, ⟨26, r2.cs⟩), (4, ⟨26, [.bool false, .slice none 0 0, .slice none 0 0]⟩)] ?_
  refine sw_seq ?_
  refine sw_reg ?_
  refine sy_ldv 10 (.v (r1.v)) ty26 part_agg ?_
  refine sy_call 11 105 [r1.v] ?_
  intro w11 u11 e11 d11
  have k15 := k_parts d11 (hr1.ext e11) (by omega)
  with_reducible refine Post.mono k15 ?_
  clear k15
  rintro _ u13 g14 ⟨i12, j12, z12, D12, rfl, hi12, hj12, hp12, hq12, hk12⟩
  refine sy_pure 9 (.v (.tuple #[i12.v, j12.v])) ?_
  refine sy_pure 12 (.v (i12.v)) ?_
  refine sy_pure 13 (.v (j12.v)) ?_
  refine sy_new 5 ⟨24, [.bool false, .slice none 0 0]⟩ ?_
  refine sy_new 6 ⟨24, [.bool false, .slice none 0 0]⟩ ?_
  refine sy_store ⟨24, i12.cs⟩ ty24 ?_
  refine sy_store ⟨24, j12.cs⟩ ty24 ?_
  refine sy_next 26 [(3, .adr 3 0), (4, .adr 4 0), (5, .adr 5 0), (6, .adr 6 0)] [(3, ⟨26, r2.cs⟩), (4, ⟨26, [.bool false, .slice none 0 0, .slice none 0 0]⟩), (5, ⟨24, i12.cs⟩), (6, ⟨24, j12.cs⟩)] ?_
  refine sw_seq ?_
  refine sw_reg ?_
  refine sy_ldv 15 (.v (r2.v)) ty26 part_agg ?_
  refine sy_call 16 105 [r2.v] ?_
  intro w16 u16 e16 d16
  have k20 := k_parts d16 (hr2.ext (e11.trans (g14.ext.trans e16))) (by omega)
  with_reducible refine Post.mono k20 ?_
  clear k20
  rintro _ u18 g19 ⟨i17, j17, z17, D17, rfl, hi17, hj17, hp17, hq17, hk17⟩
  refine sy_pure 14 (.v (.tuple #[i17.v, j17.v])) ?_
  refine sy_pure 17 (.v (i17.v)) ?_
  refine sy_pure 18 (.v (j17.v)) ?_
  refine sy_new 7 ⟨24, [.bool false, .slice none 0 0]⟩ ?_
  refine sy_new 8 ⟨24, [.bool false, .slice none 0 0]⟩ ?_
  refine sy_store ⟨24, i17.cs⟩ ty24 ?_
  refine sy_store ⟨24, j17.cs⟩ ty24 ?_
  refine sy_next 26 [(4, .adr 4 0), (5, .adr 5 0), (6, .adr 6 0), (7, .adr 7 0), (8, .adr 8 0)] [(4, ⟨26, [.bool false, .slice none 0 0, .slice none 0 0]⟩), (5, ⟨24, i12.cs⟩), (6, ⟨24, j12.cs⟩), (7, ⟨24, i17.cs⟩), (8, ⟨24, j17.cs⟩)] ?_
  refine sw_seq ?_
  refine sw_any [0, 0, 3, 0, 0, 31, 63, 127] [(0, []), (1, []), (3, []), (4, []), (2, []), (5, []), (6, []), (7, [])] (by kernel_rfl) (by kernel_rfl) ?_
  refine sy_ldv 19 (.v (i12.v)) ty24 part_agg ?_
  refine sy_ldv 20 (.v (i17.v)) ty24 part_agg ?_
  refine sy_ldv 22 (.v (j12.v)) ty24 part_agg ?_
  refine sy_ldv 23 (.v (j17.v)) ty24 part_agg ?_
  refine sy_call 21 108 [i12.v, i17.v] ?_
  intro w21 u21 e21 d21
  have k26 := k_riMul d21 (hi12.ext (e16.trans (g19.ext.trans e21))) (hi17.ext e21) (by omega) (by omega)
  with_reducible refine Post.mono k26 ?_
  clear k26
  rintro _ u24 g25 ⟨i22, rfl, h23⟩
  refine sy_call 24 108 [j12.v, j17.v] ?_
  intro w27 u27 e27 d27
  have k32 := k_riMul d27 (hj12.ext (e16.trans (g19.ext.trans (e21.trans (g25.ext.trans e27))))).raw (hj17.ext (e21.trans (g25.ext.trans e27))).raw (by omega) (by omega)
  with_reducible refine Post.mono k32 ?_
  clear k32
  rintro _ u30 g31 ⟨i28, rfl, h29⟩
  refine sy_call 25 106 [i22.v, i28.v] ?_
  intro w33 u33 e33 d33
  have k38 := k_reduce d33 (h23.ext (e27.trans (g31.ext.trans e33))).raw (h29.ext e33).raw (by omega) (by omega)
  with_reducible refine Post.mono k38 ?_
  clear k38
  rintro _ u36 g37 ⟨r34, rfl, h35⟩
  refine sy_store ⟨26, r34.cs⟩ ty26 ?_
  refine sy_next 26 [(4, .adr 4 0)] [(4, ⟨26, r34.cs⟩)] ?_
  refine sw_ret (ret0 [r34.v] ⟨res_cell ty26 part_agg, trivial⟩ fun u39 e40 => ?_)
  refine ⟨r34, rfl, RatN.more (K := (max (K + L) (K + L) + 1)) ?_ (by omega)⟩
  rw [hq12, hq17, ← Nt.mul_div2]
  exact (h35.ext e40)
end Go.Proofs.YtnedhbidmfoegaaGreat
namespace Go.Proofs.YtnedhbidmfoegaaGreat
open Go.RowKit
set_option linter.unusedVariables false
theorem k_poAdd {u w : World} {x : Sl} {l : List Rat} {y : Sl} {m : List Rat} {K M : Nat} (d : Dat u w) (hx : PolV u x l K) (hy : PolV u y m M) (hK : K ≤ 40000000) (hM : M ≤ 40000000) (hx9 : l.length ≤ 1000000000) (hy9 : m.length ≤ 1000000000) : Calls Tryz.prog 54 #[x.v, y.v] w (Post u w fun v u' => ∃ y : Sl, v = y.v ∧ PolN u' y (Nt.trimQ (Nt.addQ l m)) (K + M + 1)) := by
  have hlen := hx.len
  have hlen2 := hy.len
  refine calls_sym (args := [.slice x.a x.n x.c, .slice y.a y.n y.c]) Tryz.func54 rfl Tryz.ntmps54 (rs := [.tmp 4]) Tryz.results54 (le_b rfl) (le_b rfl) d ?_
  refine sw_seq ?_
  refine sw_reg ?_
  refine sy_pure 4 (.v (.slice none 0 0)) ?_
  refine sy_next 49 [(0, .v (.slice x.a x.n x.c)), (1, .v (.slice y.a y.n y.c))] [] ?_
  refine sw_seq ?_
  refine sw_seq ?_
  refine sw_reg ?_
  refine sy_pure 7 (.v (.slice x.a x.n x.c)) ?_
  refine sy_pure 8 (.v (.int .i64 (x.n : Int))) ?_
  refine sy_pure 9 (.v (.slice y.a y.n y.c)) ?_
  refine sy_pure 10 (.v (.int .i64 (y.n : Int))) ?_
  refine sy_pure 11 (.v (.bool (decide ((x.n : Int) < (y.n : Int))))) ?_
  refine sy_next 49 [(0, .v (.slice x.a x.n x.c)), (1, .v (.slice y.a y.n y.c)), (11, .v (.bool (decide ((x.n : Int) < (y.n : Int)))))] [] ?_
  refine sw_cond (b := decide ((x.n : Int) < (y.n : Int))) (by kernel_rfl) (fun hb11 => ?_) (fun hb11 => ?_)
  · replace hb11 : (decide ((x.n : Int) < (y.n : Int))) = true := hb11
    have qhb11 := of_decide_eq_true hb11
    refine sw_reg ?_
    refine sy_pure 12 (.v (.slice y.a y.n y.c)) ?_
    refine sy_pure 13 (.v (.slice x.a x.n x.c)) ?_
    refine sy_pure 0 (.v (.slice y.a y.n y.c)) ?_
    refine sy_pure 1 (.v (.slice x.a x.n x.c)) ?_
    refine sy_next 49 [(0, .v (.slice y.a y.n y.c)), (1, .v (.slice x.a x.n x.c))] [] ?_
    refine sw_seq ?_
    refine sw_reg ?_
    refine sy_pure 14 (.v (.slice y.a y.n y.c)) ?_
    refine sy_pure 15 (.v (.int .i64 (y.n : Int))) ?_
    refine sy_make 16 (T := 41) (E := 26) (z := .agg #[.bool false, .slice none 0 0, .slice none 0 0]) (size := 3) (bytes := 56) y.n (rcs (List.replicate y.n rl0)) (by kernel_rfl) (by kernel_rfl) rfl rfl (by omega) (by unfold maxLen; omega) (made_rcs _) ?_
    refine sy_pure 5 (.slc 16 0 y.n y.n) ?_
    refine sy_next 49 [(0, .v (.slice y.a y.n y.c)), (1, .v (.slice x.a x.n x.c)), (5, .slc 16 0 y.n y.n)] [(16, ⟨26, rcs (List.replicate y.n rl0)⟩)] ?_
    refine sw_seq ?_
    refine sw_seq ?_
    refine sw_reg ?_
    refine sy_pure 17 (.slc 16 0 y.n y.n) ?_
    refine sy_pure 18 (.v (.int .i64 (y.n : Int))) ?_
    refine sy_pure 19 (.v (.int .i64 0)) ?_
    refine sy_next 49 [(0, .v (.slice y.a y.n y.c)), (1, .v (.slice x.a x.n x.c)), (5, .slc 16 0 y.n y.n), (18, .v (.int .i64 (y.n : Int))), (19, .v (.int .i64 0))] [(16, ⟨26, rcs (List.replicate y.n rl0)⟩)] ?_
    refine sw_block ?_
    refine sw_loop (I := fun m12 S' u' => ∃ (i : Nat) (L : List RL), (m12 = y.n - i) ∧ (i ≤ y.n) ∧ (L.length = y.n) ∧ (S' = St.of 49 [(0, .v (.slice y.a y.n y.c)), (1, .v (.slice x.a x.n x.c)), (5, .slc 16 0 y.n y.n), (18, .v (.int .i64 (y.n : Int))), (19, .v (.int .i64 (i : Int)))] [(16, ⟨26, rcs L⟩)]) ∧ (Ext u u') ∧ (RatsN u' (L.take i) ((Nt.addQ l m).take i) (K + M + 1))) (fun m S u1 u2 e h => by obtain ⟨i, L, hm, p0, p1, hS, hE, f0⟩ := h; exact ⟨i, L, hm, p0, p1, hS, hE.trans e, f0.ext e⟩) _ (T := St.of 49 [(0, .v (.slice y.a y.n y.c)), (1, .v (.slice x.a x.n x.c)), (5, .slc 16 0 y.n y.n), (18, .v (.int .i64 (y.n : Int))), (19, .v (.int .i64 0))] [(16, ⟨26, rcs (List.replicate y.n rl0)⟩)]) (by exact weak_mk _ _ _) ⟨0, List.replicate y.n rl0, rfl, by omega, by simp, rfl, Ext.refl _, RatsN.tnil _ _ _ _⟩ ?_
    rintro m12 _ u12 ⟨i, L, hm12, hi, hL, rfl, e12, hR⟩
    refine sw_seq ?_
    refine sw_reg ?_
    refine sy_pure 20 (.v (.bool (decide ((i : Int) < (y.n : Int))))) ?_
    refine sy_next 49 [(0, .v (.slice y.a y.n y.c)), (1, .v (.slice x.a x.n x.c)), (5, .slc 16 0 y.n y.n), (18, .v (.int .i64 (y.n : Int))), (19, .v (.int .i64 (i : Int))), (20, .v (.bool (decide ((i : Int) < (y.n : Int)))))] [(16, ⟨26, rcs L⟩)] ?_
    refine sw_seq ?_
    refine sw_cond (b := decide ((i : Int) < (y.n : Int))) (by kernel_rfl) (fun hb13 => ?_) (fun hb13 => ?_)
    · replace hb13 : (decide ((i : Int) < (y.n : Int))) = true := hb13
      have qhb13 := of_decide_eq_true hb13
      refine sw_skip (mp_seq ?_)
      refine sw_seq ?_
      refine sw_block ?_
      refine sw_seq ?_
      refine sw_reg ?_
      refine sy_pure 21 (.v (.int .i64 (i : Int))) ?_
      refine sy_pure 6 (.v (.int .i64 (i : Int))) ?_
      refine sy_next 49 [(0, .v (.slice y.a y.n y.c)), (1, .v (.slice x.a x.n x.c)), (5, .slc 16 0 y.n y.n), (6, .v (.int .i64 (i : Int))), (18, .v (.int .i64 (y.n : Int))), (19, .v (.int .i64 (i : Int)))] [(16, ⟨26, rcs L⟩)] ?_
      refine sw_seq ?_
      refine sw_reg ?_
      refine sy_pure 22 (.v (.int .i64 (i : Int))) ?_
      refine sy_pure 23 (.v (.slice x.a x.n x.c)) ?_
      refine sy_pure 24 (.v (.int .i64 (x.n : Int))) ?_
      refine sy_pure 25 (.v (.bool (decide ((i : Int) < (x.n : Int))))) ?_
      refine sy_next 49 [(0, .v (.slice y.a y.n y.c)), (1, .v (.slice x.a x.n x.c)), (5, .slc 16 0 y.n y.n), (6, .v (.int .i64 (i : Int))), (18, .v (.int .i64 (y.n : Int))), (19, .v (.int .i64 (i : Int))), (25, .v (.bool (decide ((i : Int) < (x.n : Int)))))] [(16, ⟨26, rcs L⟩)] ?_
      refine sw_cond (b := decide ((i : Int) < (x.n : Int))) (by kernel_rfl) (fun hb14 => ?_) (fun hb14 => ?_)
      · replace hb14 : (decide ((i : Int) < (x.n : Int))) = true := hb14
        have qhb14 := of_decide_eq_true hb14
        refine sw_any [0, 0, 0, 0, 12, 28, 0, 0, 192, 448, 1020, 2047, 4095] [(0, []), (1, []), (2, []), (3, []), (4, []), (5, []), (6, []), (7, []), (8, []), (9, []), (10, []), (11, []), (12, [])] (by kernel_rfl) (by kernel_rfl) ?_
        refine sy_pure 26 (.slc 16 0 y.n y.n) ?_
        refine sy_pure 27 (.v (.int .i64 (i : Int))) ?_
        refine sy_pure 28 (.v (.slice y.a y.n y.c)) ?_
        refine sy_pure 29 (.v (.int .i64 (i : Int))) ?_
        have hl15 := (hy.ext e12).len
        obtain ⟨r15, b15, o15, hA15, hc15, hr15⟩ := pol_at (hy.ext e12) (i := i) (by omega)
        refine sy_index 30 (o15 + i * 3) (n := y.n) (off := o15) (sz := 3) (i := (i : Int)) (by omega) hA15 (by omega) (by omega) sl41 ?_
        refine sy_ldn 31 r15.cs hc15 ty26 ?_
        refine sy_pure 32 (.v (.slice x.a x.n x.c)) ?_
        refine sy_pure 33 (.v (.int .i64 (i : Int))) ?_
        have hl16 := (hx.ext e12).len
        obtain ⟨r16, b16, o16, hA16, hc16, hr16⟩ := pol_at (hx.ext e12) (i := i) (by omega)
        refine sy_index 34 (o16 + i * 3) (n := x.n) (off := o16) (sz := 3) (i := (i : Int)) (by omega) hA16 (by omega) (by omega) sl41 ?_
        refine sy_ldn 35 r16.cs hc16 ty26 ?_
        refine sy_call 36 104 [r15.v, r16.v] ?_
        intro w17 u17 e17 d17
        have k22 := k_ratAdd d17 (hr15.ext e17) (hr16.ext e17) (by omega) (by omega)
        with_reducible refine Post.mono k22 ?_
        clear k22
        rintro _ u20 g21 ⟨r18, rfl, h19⟩
        refine sy_idxO 37 (off' := i * 3) (n := y.n) (off := 0) (sz := 3) (i := (i : Int)) sl41 (by omega) (by omega) (by omega) ?_
        refine sy_storeO (V := ⟨26, rcs L⟩) (off := i * 3) (rcs ((L).set i r18)) ty26 (by rw [rcs_len]; first | omega | (simp; omega)) (setL_rcs (r := r18) (i := i) (by first | omega | (simp; omega)) rfl) ?_
        refine sy_end ?_
        refine mp_seq ?_
        refine sw_reg ?_
        refine sy_eq 46 (x := .v (.int .i64 (IntKind.i64.wrap ((i : Int) + 1)))) (.v (.int .i64 ((i + 1 : Nat) : Int))) (eqI (by rw [IntWalk.i64_in _ (by omega)]; omega)) ?_
        refine sy_pure 19 (.v (.int .i64 ((i + 1 : Nat) : Int))) ?_
        refine sy_end ?_
        have ht23 : i < (Nt.addQ l m).length := by rw [Nt.addQ_len]; omega
        refine ⟨_, ?_, St.of 49 [(0, .v (.slice y.a y.n y.c)), (1, .v (.slice x.a x.n x.c)), (5, .slc 16 0 y.n y.n), (18, .v (.int .i64 (y.n : Int))), (19, .v (.int .i64 ((i + 1 : Nat) : Int)))] [(16, ⟨26, rcs ((L).set i r18)⟩)], by exact weak_mk _ _ _, i + 1, (L).set i r18, rfl, by omega, by simpa using hL, rfl, (e12.trans (e17.trans g21.ext)), RatsN.tstep (hR.ext (e17.trans g21.ext)) (by omega) ht23 (RatN.more (K := (M + K + 1)) h19 (by omega)) (by have h9 := Nt.addQ_co l m i; unfold Nt.co at h9; show _ = List.getD _ _ _; rw [h9]; exact Rat.add_comm _ _)⟩
        omega
      · replace hb14 : (decide ((i : Int) < (x.n : Int))) = false := hb14
        have qhb14 := of_decide_eq_false hb14
        refine sw_reg ?_
        refine sy_pure 38 (.slc 16 0 y.n y.n) ?_
        refine sy_pure 39 (.v (.int .i64 (i : Int))) ?_
        refine sy_pure 40 (.v (.slice y.a y.n y.c)) ?_
        refine sy_pure 41 (.v (.int .i64 (i : Int))) ?_
        have hl24 := (hy.ext e12).len
        obtain ⟨r24, b24, o24, hA24, hc24, hr24⟩ := pol_at (hy.ext e12) (i := i) (by omega)
        refine sy_index 42 (o24 + i * 3) (n := y.n) (off := o24) (sz := 3) (i := (i : Int)) (by omega) hA24 (by omega) (by omega) sl41 ?_
        refine sy_ldn 43 r24.cs hc24 ty26 ?_
        refine sy_call 44 126 [r24.v] ?_
        intro w25 u25 e25 d25
        have k30 := k_ratTrim d25 (hr24.ext e25) (by omega)
        with_reducible refine Post.mono k30 ?_
        clear k30
        rintro _ u28 g29 ⟨r26, rfl, h27⟩
        refine sy_idxO 45 (off' := i * 3) (n := y.n) (off := 0) (sz := 3) (i := (i : Int)) sl41 (by omega) (by omega) (by omega) ?_
        refine sy_storeO (V := ⟨26, rcs L⟩) (off := i * 3) (rcs ((L).set i r26)) ty26 (by rw [rcs_len]; first | omega | (simp; omega)) (setL_rcs (r := r26) (i := i) (by first | omega | (simp; omega)) rfl) ?_
        refine sy_end ?_
        refine mp_seq ?_
        refine sw_reg ?_
        refine sy_eq 46 (x := .v (.int .i64 (IntKind.i64.wrap ((i : Int) + 1)))) (.v (.int .i64 ((i + 1 : Nat) : Int))) (eqI (by rw [IntWalk.i64_in _ (by omega)]; omega)) ?_
        refine sy_pure 19 (.v (.int .i64 ((i + 1 : Nat) : Int))) ?_
        refine sy_end ?_
        have ht31 : i < (Nt.addQ l m).length := by rw [Nt.addQ_len]; omega
        refine ⟨_, ?_, St.of 49 [(0, .v (.slice y.a y.n y.c)), (1, .v (.slice x.a x.n x.c)), (5, .slc 16 0 y.n y.n), (18, .v (.int .i64 (y.n : Int))), (19, .v (.int .i64 ((i + 1 : Nat) : Int)))] [(16, ⟨26, rcs ((L).set i r26)⟩)], by exact weak_mk _ _ _, i + 1, (L).set i r26, rfl, by omega, by simpa using hL, rfl, (e12.trans (e25.trans g29.ext)), RatsN.tstep (hR.ext (e25.trans g29.ext)) (by omega) ht31 (RatN.more (K := M) h27 (by omega)) (by have h9 := Nt.addQ_co l m i; unfold Nt.co at h9; show _ = List.getD _ _ _; rw [h9]; rw [show l.getD i 0 = 0 from Nt.co_ge (by omega)]; grind)⟩
        omega
    · replace hb13 : (decide ((i : Int) < (y.n : Int))) = false := hb13
      have qhb13 := of_decide_eq_false hb13
      refine sw_exit ?_
      refine mp_seq ?_
      refine sw_seq ?_
      refine sw_pub (r := 5) (t := 16) [5, 16] (by repeat first | exact noAt_of | refine noAt_set ?_ | refine noAt_lit ?_ | refine noAt_new ?_ | refine noAt_setVar ?_ | refine noAt_unpub ?_) (by kernel_rfl) (by rfl) (by rfl) (by kernel_rfl) (fun b32 u33 e34 hb35 hh36 => ?_)
      have hp37 : PolN u33 ⟨some ⟨b32, 0, none⟩, y.n, y.n⟩ (Nt.addQ l m) (K + M + 1) := pol_data1 hh36 (by unfold maxLen; omega) (RatsN.tdone (hR.ext e34) (by omega) (by rw [Nt.addQ_len]; omega)) (by omega)
      refine sw_reg ?_
      refine sy_pure 47 (.v (.slice (some ⟨b32, 0, none⟩) y.n y.n)) ?_
      refine sy_call 48 118 [.slice (some ⟨b32, 0, none⟩) y.n y.n] ?_
      intro w38 u38 e38 d38
      have k41 := k_cut d38 (hp37.ext e38).raw (by omega) (by first | omega | (simp; omega) | (refine Nat.le_trans (Nt.trim_len _) ?_; first | omega | (simp; omega)) | (refine Nat.le_trans (Nt.trim_len _) ?_; simp only [List.length_map]; refine Nat.le_trans (Nt.trim_len _) ?_; first | omega | (simp; omega)))
      with_reducible refine Post.mono k41 ?_
      clear k41
      rintro _ u39 g40 rfl
      refine sy_pure 4 (.v (.slice (some ⟨b32, 0, none⟩) (Nt.trimQ (Nt.addQ l m)).length y.n)) ?_
      refine sy_next 49 [(4, .v (.slice (some ⟨b32, 0, none⟩) (Nt.trimQ (Nt.addQ l m)).length y.n))] [] ?_
      refine sw_ret (ret0 [.slice (some ⟨b32, 0, none⟩) (Nt.trimQ (Nt.addQ l m)).length y.n] ⟨res_tmp, trivial⟩ fun u42 e43 => ?_)
      refine ⟨(⟨some ⟨b32, 0, none⟩, (Nt.trimQ (Nt.addQ l m)).length, y.n⟩ : Sl), rfl, ?_⟩
      exact ((cut_N (hp37.ext (e38.trans g40.ext))).ext e43)
  · replace hb11 : (decide ((x.n : Int) < (y.n : Int))) = false := hb11
    have qhb11 := of_decide_eq_false hb11
    refine sw_skip (mp_seq ?_)
    refine sw_seq ?_
    refine sw_reg ?_
    refine sy_pure 14 (.v (.slice x.a x.n x.c)) ?_
    refine sy_pure 15 (.v (.int .i64 (x.n : Int))) ?_
    refine sy_make 16 (T := 41) (E := 26) (z := .agg #[.bool false, .slice none 0 0, .slice none 0 0]) (size := 3) (bytes := 56) x.n (rcs (List.replicate x.n rl0)) (by kernel_rfl) (by kernel_rfl) rfl rfl (by omega) (by unfold maxLen; omega) (made_rcs _) ?_
    refine sy_pure 5 (.slc 16 0 x.n x.n) ?_
    refine sy_next 49 [(0, .v (.slice x.a x.n x.c)), (1, .v (.slice y.a y.n y.c)), (5, .slc 16 0 x.n x.n)] [(16, ⟨26, rcs (List.replicate x.n rl0)⟩)] ?_
    refine sw_seq ?_
    refine sw_seq ?_
    refine sw_reg ?_
    refine sy_pure 17 (.slc 16 0 x.n x.n) ?_
    refine sy_pure 18 (.v (.int .i64 (x.n : Int))) ?_
    refine sy_pure 19 (.v (.int .i64 0)) ?_
    refine sy_next 49 [(0, .v (.slice x.a x.n x.c)), (1, .v (.slice y.a y.n y.c)), (5, .slc 16 0 x.n x.n), (18, .v (.int .i64 (x.n : Int))), (19, .v (.int .i64 0))] [(16, ⟨26, rcs (List.replicate x.n rl0)⟩)] ?_
    refine sw_block ?_
    refine sw_loop (I := fun m44 S' u' => ∃ (i : Nat) (L : List RL), (m44 = x.n - i) ∧ (i ≤ x.n) ∧ (L.length = x.n) ∧ (S' = St.of 49 [(0, .v (.slice x.a x.n x.c)), (1, .v (.slice y.a y.n y.c)), (5, .slc 16 0 x.n x.n), (18, .v (.int .i64 (x.n : Int))), (19, .v (.int .i64 (i : Int)))] [(16, ⟨26, rcs L⟩)]) ∧ (Ext u u') ∧ (RatsN u' (L.take i) ((Nt.addQ l m).take i) (K + M + 1))) (fun m S u1 u2 e h => by obtain ⟨i, L, hm, p0, p1, hS, hE, f0⟩ := h; exact ⟨i, L, hm, p0, p1, hS, hE.trans e, f0.ext e⟩) _ (T := St.of 49 [(0, .v (.slice x.a x.n x.c)), (1, .v (.slice y.a y.n y.c)), (5, .slc 16 0 x.n x.n), (18, .v (.int .i64 (x.n : Int))), (19, .v (.int .i64 0))] [(16, ⟨26, rcs (List.replicate x.n rl0)⟩)]) (by exact weak_mk _ _ _) ⟨0, List.replicate x.n rl0, rfl, by omega, by simp, rfl, Ext.refl _, RatsN.tnil _ _ _ _⟩ ?_
    rintro m44 _ u44 ⟨i, L, hm44, hi, hL, rfl, e44, hR⟩
    refine sw_seq ?_
    refine sw_reg ?_
    refine sy_pure 20 (.v (.bool (decide ((i : Int) < (x.n : Int))))) ?_
    refine sy_next 49 [(0, .v (.slice x.a x.n x.c)), (1, .v (.slice y.a y.n y.c)), (5, .slc 16 0 x.n x.n), (18, .v (.int .i64 (x.n : Int))), (19, .v (.int .i64 (i : Int))), (20, .v (.bool (decide ((i : Int) < (x.n : Int)))))] [(16, ⟨26, rcs L⟩)] ?_
    refine sw_seq ?_
    refine sw_cond (b := decide ((i : Int) < (x.n : Int))) (by kernel_rfl) (fun hb45 => ?_) (fun hb45 => ?_)
    · replace hb45 : (decide ((i : Int) < (x.n : Int))) = true := hb45
      have qhb45 := of_decide_eq_true hb45
      refine sw_skip (mp_seq ?_)
      refine sw_seq ?_
      refine sw_block ?_
      refine sw_seq ?_
      refine sw_reg ?_
      refine sy_pure 21 (.v (.int .i64 (i : Int))) ?_
      refine sy_pure 6 (.v (.int .i64 (i : Int))) ?_
      refine sy_next 49 [(0, .v (.slice x.a x.n x.c)), (1, .v (.slice y.a y.n y.c)), (5, .slc 16 0 x.n x.n), (6, .v (.int .i64 (i : Int))), (18, .v (.int .i64 (x.n : Int))), (19, .v (.int .i64 (i : Int)))] [(16, ⟨26, rcs L⟩)] ?_
      refine sw_seq ?_
      refine sw_reg ?_
      refine sy_pure 22 (.v (.int .i64 (i : Int))) ?_
      refine sy_pure 23 (.v (.slice y.a y.n y.c)) ?_
      refine sy_pure 24 (.v (.int .i64 (y.n : Int))) ?_
      refine sy_pure 25 (.v (.bool (decide ((i : Int) < (y.n : Int))))) ?_
      refine sy_next 49 [(0, .v (.slice x.a x.n x.c)), (1, .v (.slice y.a y.n y.c)), (5, .slc 16 0 x.n x.n), (6, .v (.int .i64 (i : Int))), (18, .v (.int .i64 (x.n : Int))), (19, .v (.int .i64 (i : Int))), (25, .v (.bool (decide ((i : Int) < (y.n : Int)))))] [(16, ⟨26, rcs L⟩)] ?_
      refine sw_cond (b := decide ((i : Int) < (y.n : Int))) (by kernel_rfl) (fun hb46 => ?_) (fun hb46 => ?_)
      · replace hb46 : (decide ((i : Int) < (y.n : Int))) = true := hb46
        have qhb46 := of_decide_eq_true hb46
        refine sw_any [0, 0, 0, 0, 12, 28, 0, 0, 192, 448, 1020, 2047, 4095] [(0, []), (1, []), (2, []), (3, []), (4, []), (5, []), (6, []), (7, []), (8, []), (9, []), (10, []), (11, []), (12, [])] (by kernel_rfl) (by kernel_rfl) ?_
        refine sy_pure 26 (.slc 16 0 x.n x.n) ?_
        refine sy_pure 27 (.v (.int .i64 (i : Int))) ?_
        refine sy_pure 28 (.v (.slice x.a x.n x.c)) ?_
        refine sy_pure 29 (.v (.int .i64 (i : Int))) ?_
        have hl47 := (hx.ext e44).len
        obtain ⟨r47, b47, o47, hA47, hc47, hr47⟩ := pol_at (hx.ext e44) (i := i) (by omega)
        refine sy_index 30 (o47 + i * 3) (n := x.n) (off := o47) (sz := 3) (i := (i : Int)) (by omega) hA47 (by omega) (by omega) sl41 ?_
        refine sy_ldn 31 r47.cs hc47 ty26 ?_
        refine sy_pure 32 (.v (.slice y.a y.n y.c)) ?_
        refine sy_pure 33 (.v (.int .i64 (i : Int))) ?_
        have hl48 := (hy.ext e44).len
        obtain ⟨r48, b48, o48, hA48, hc48, hr48⟩ := pol_at (hy.ext e44) (i := i) (by omega)
        refine sy_index 34 (o48 + i * 3) (n := y.n) (off := o48) (sz := 3) (i := (i : Int)) (by omega) hA48 (by omega) (by omega) sl41 ?_
        refine sy_ldn 35 r48.cs hc48 ty26 ?_
        refine sy_call 36 104 [r47.v, r48.v] ?_
        intro w49 u49 e49 d49
        have k54 := k_ratAdd d49 (hr47.ext e49) (hr48.ext e49) (by omega) (by omega)
        with_reducible refine Post.mono k54 ?_
        clear k54
        rintro _ u52 g53 ⟨r50, rfl, h51⟩
        refine sy_idxO 37 (off' := i * 3) (n := x.n) (off := 0) (sz := 3) (i := (i : Int)) sl41 (by omega) (by omega) (by omega) ?_
        refine sy_storeO (V := ⟨26, rcs L⟩) (off := i * 3) (rcs ((L).set i r50)) ty26 (by rw [rcs_len]; first | omega | (simp; omega)) (setL_rcs (r := r50) (i := i) (by first | omega | (simp; omega)) rfl) ?_
        refine sy_end ?_
        refine mp_seq ?_
        refine sw_reg ?_
        refine sy_eq 46 (x := .v (.int .i64 (IntKind.i64.wrap ((i : Int) + 1)))) (.v (.int .i64 ((i + 1 : Nat) : Int))) (eqI (by rw [IntWalk.i64_in _ (by omega)]; omega)) ?_
        refine sy_pure 19 (.v (.int .i64 ((i + 1 : Nat) : Int))) ?_
        refine sy_end ?_
        have ht55 : i < (Nt.addQ l m).length := by rw [Nt.addQ_len]; omega
        refine ⟨_, ?_, St.of 49 [(0, .v (.slice x.a x.n x.c)), (1, .v (.slice y.a y.n y.c)), (5, .slc 16 0 x.n x.n), (18, .v (.int .i64 (x.n : Int))), (19, .v (.int .i64 ((i + 1 : Nat) : Int)))] [(16, ⟨26, rcs ((L).set i r50)⟩)], by exact weak_mk _ _ _, i + 1, (L).set i r50, rfl, by omega, by simpa using hL, rfl, (e44.trans (e49.trans g53.ext)), RatsN.tstep (hR.ext (e49.trans g53.ext)) (by omega) ht55 (RatN.more (K := (K + M + 1)) h51 (by omega)) (by have h9 := Nt.addQ_co l m i; unfold Nt.co at h9; show _ = List.getD _ _ _; rw [h9])⟩
        omega
      · replace hb46 : (decide ((i : Int) < (y.n : Int))) = false := hb46
        have qhb46 := of_decide_eq_false hb46
        refine sw_reg ?_
        refine sy_pure 38 (.slc 16 0 x.n x.n) ?_
        refine sy_pure 39 (.v (.int .i64 (i : Int))) ?_
        refine sy_pure 40 (.v (.slice x.a x.n x.c)) ?_
        refine sy_pure 41 (.v (.int .i64 (i : Int))) ?_
        have hl56 := (hx.ext e44).len
        obtain ⟨r56, b56, o56, hA56, hc56, hr56⟩ := pol_at (hx.ext e44) (i := i) (by omega)
        refine sy_index 42 (o56 + i * 3) (n := x.n) (off := o56) (sz := 3) (i := (i : Int)) (by omega) hA56 (by omega) (by omega) sl41 ?_
        refine sy_ldn 43 r56.cs hc56 ty26 ?_
        refine sy_call 44 126 [r56.v] ?_
        intro w57 u57 e57 d57
        have k62 := k_ratTrim d57 (hr56.ext e57) (by omega)
        with_reducible refine Post.mono k62 ?_
        clear k62
        rintro _ u60 g61 ⟨r58, rfl, h59⟩
        refine sy_idxO 45 (off' := i * 3) (n := x.n) (off := 0) (sz := 3) (i := (i : Int)) sl41 (by omega) (by omega) (by omega) ?_
        refine sy_storeO (V := ⟨26, rcs L⟩) (off := i * 3) (rcs ((L).set i r58)) ty26 (by rw [rcs_len]; first | omega | (simp; omega)) (setL_rcs (r := r58) (i := i) (by first | omega | (simp; omega)) rfl) ?_
        refine sy_end ?_
        refine mp_seq ?_
        refine sw_reg ?_
        refine sy_eq 46 (x := .v (.int .i64 (IntKind.i64.wrap ((i : Int) + 1)))) (.v (.int .i64 ((i + 1 : Nat) : Int))) (eqI (by rw [IntWalk.i64_in _ (by omega)]; omega)) ?_
        refine sy_pure 19 (.v (.int .i64 ((i + 1 : Nat) : Int))) ?_
        refine sy_end ?_
        have ht63 : i < (Nt.addQ l m).length := by rw [Nt.addQ_len]; omega
        refine ⟨_, ?_, St.of 49 [(0, .v (.slice x.a x.n x.c)), (1, .v (.slice y.a y.n y.c)), (5, .slc 16 0 x.n x.n), (18, .v (.int .i64 (x.n : Int))), (19, .v (.int .i64 ((i + 1 : Nat) : Int)))] [(16, ⟨26, rcs ((L).set i r58)⟩)], by exact weak_mk _ _ _, i + 1, (L).set i r58, rfl, by omega, by simpa using hL, rfl, (e44.trans (e57.trans g61.ext)), RatsN.tstep (hR.ext (e57.trans g61.ext)) (by omega) ht63 (RatN.more (K := K) h59 (by omega)) (by have h9 := Nt.addQ_co l m i; unfold Nt.co at h9; show _ = List.getD _ _ _; rw [h9]; rw [show m.getD i 0 = 0 from Nt.co_ge (by omega)]; grind)⟩
        omega
    · replace hb45 : (decide ((i : Int) < (x.n : Int))) = false := hb45
      have qhb45 := of_decide_eq_false hb45
      refine sw_exit ?_
      refine mp_seq ?_
      refine sw_seq ?_
      refine sw_pub (r := 5) (t := 16) [5, 16] (by repeat first | exact noAt_of | refine noAt_set ?_ | refine noAt_lit ?_ | refine noAt_new ?_ | refine noAt_setVar ?_ | refine noAt_unpub ?_) (by kernel_rfl) (by rfl) (by rfl) (by kernel_rfl) (fun b64 u65 e66 hb67 hh68 => ?_)
      have hp69 : PolN u65 ⟨some ⟨b64, 0, none⟩, x.n, x.n⟩ (Nt.addQ l m) (K + M + 1) := pol_data1 hh68 (by unfold maxLen; omega) (RatsN.tdone (hR.ext e66) (by omega) (by rw [Nt.addQ_len]; omega)) (by omega)
      refine sw_reg ?_
      refine sy_pure 47 (.v (.slice (some ⟨b64, 0, none⟩) x.n x.n)) ?_
      refine sy_call 48 118 [.slice (some ⟨b64, 0, none⟩) x.n x.n] ?_
      intro w70 u70 e70 d70
      have k73 := k_cut d70 (hp69.ext e70).raw (by omega) (by first | omega | (simp; omega) | (refine Nat.le_trans (Nt.trim_len _) ?_; first | omega | (simp; omega)) | (refine Nat.le_trans (Nt.trim_len _) ?_; simp only [List.length_map]; refine Nat.le_trans (Nt.trim_len _) ?_; first | omega | (simp; omega)))
      with_reducible refine Post.mono k73 ?_
      clear k73
      rintro _ u71 g72 rfl
      refine sy_pure 4 (.v (.slice (some ⟨b64, 0, none⟩) (Nt.trimQ (Nt.addQ l m)).length x.n)) ?_
      refine sy_next 49 [(4, .v (.slice (some ⟨b64, 0, none⟩) (Nt.trimQ (Nt.addQ l m)).length x.n))] [] ?_
      refine sw_ret (ret0 [.slice (some ⟨b64, 0, none⟩) (Nt.trimQ (Nt.addQ l m)).length x.n] ⟨res_tmp, trivial⟩ fun u74 e75 => ?_)
      refine ⟨(⟨some ⟨b64, 0, none⟩, (Nt.trimQ (Nt.addQ l m)).length, x.n⟩ : Sl), rfl, ?_⟩
      exact ((cut_N (hp69.ext (e70.trans g72.ext))).ext e75)
end Go.Proofs.YtnedhbidmfoegaaGreat
namespace Go.Proofs.YtnedhbidmfoegaaGreat
open Go.RowKit
set_option linter.unusedVariables false
theorem k_poDegree {u w : World} {x : Sl} {l : List Rat} {K : Nat} (d : Dat u w) (hx : PolV u x l K) (hK : K ≤ 100000000) (hx9 : l.length ≤ 1000000000) : Calls Tryz.prog 45 #[x.v] w (Post u w fun v u' => v = .int .i64 (((Nt.trimQ l).length : Int) - 1)) := by
  have hlen := hx.len
  have htl := Nt.trim_len l
  refine calls_sym (args := [.slice x.a x.n x.c]) Tryz.func45 rfl Tryz.ntmps45 (rs := [.tmp 2]) Tryz.results45 (le_b rfl) (le_b rfl) d ?_
  refine sw_seq ?_
  refine sw_reg ?_
  refine sy_pure 2 (.v (.int .i64 0)) ?_
  refine sy_next 7 [(0, .v (.slice x.a x.n x.c))] [] ?_
  refine sw_seq ?_
  refine sw_reg ?_
  refine sy_pure 3 (.v (.slice x.a x.n x.c)) ?_
  refine sy_call 4 118 [.slice x.a x.n x.c] ?_
  intro w11 u11 e11 d11
  have k14 := k_cut d11 (hx.ext e11) (by omega) (by first | omega | (simp; omega) | (refine Nat.le_trans (Nt.trim_len _) ?_; first | omega | (simp; omega)) | (refine Nat.le_trans (Nt.trim_len _) ?_; simp only [List.length_map]; refine Nat.le_trans (Nt.trim_len _) ?_; first | omega | (simp; omega)))
  with_reducible refine Post.mono k14 ?_
  clear k14
  rintro _ u12 g13 rfl
  refine sy_pure 5 (.v (.int .i64 (((Nt.trimQ l).length : Nat) : Int))) ?_
  refine sy_eq 6 (x := .v (.int .i64 (IntKind.i64.wrap (((Nt.trimQ l).length : Int) - 1)))) (.v (.int .i64 (((Nt.trimQ l).length : Int) - 1))) (by rw [IntWalk.i64_in _ (by omega)]) ?_
  refine sy_pure 2 (.v (.int .i64 (((Nt.trimQ l).length : Int) - 1))) ?_
  refine sy_next 7 [(2, .v (.int .i64 (((Nt.trimQ l).length : Int) - 1)))] [] ?_
  refine sw_ret (ret0 [.int .i64 (((Nt.trimQ l).length : Int) - 1)] ⟨res_tmp, trivial⟩ fun u15 e16 => ?_)
  rfl
set_option maxHeartbeats 1000000 in
theorem k_poMonic {u w : World} {x : Sl} {l : List Rat} {K : Nat} (d : Dat u w) (hx : PolV u x l K) (hK : K ≤ 40000000) (hx9 : l.length ≤ 1000000000) : Calls Tryz.prog 32 #[x.v] w (Post u w fun v u' => ∃ y : Sl, v = y.v ∧ PolN u' y ((Nt.Pol.mk' l).monic.l) (2 * K + 2)) := by
  have hlen := hx.len
  have htl := Nt.trim_len l
  refine calls_sym (args := [.slice x.a x.n x.c]) Tryz.func32 rfl Tryz.ntmps32 (rs := [.tmp 2]) Tryz.results32 (le_b rfl) (le_b rfl) d ?_
  refine sw_seq ?_
  refine sw_reg ?_
  refine sy_pure 2 (.v (.slice none 0 0)) ?_
  refine sy_next 25 [(0, .v (.slice x.a x.n x.c))] [] ?_
  refine sw_seq ?_
  refine sw_reg ?_
  refine sy_pure 6 (.v (.slice x.a x.n x.c)) ?_
  refine sy_call 7 118 [.slice x.a x.n x.c] ?_
  intro w11 u11 e11 d11
  have k14 := k_cut d11 (hx.ext e11) (by omega) (by first | omega | (simp; omega) | (refine Nat.le_trans (Nt.trim_len _) ?_; first | omega | (simp; omega)) | (refine Nat.le_trans (Nt.trim_len _) ?_; simp only [List.length_map]; refine Nat.le_trans (Nt.trim_len _) ?_; first | omega | (simp; omega)))
  with_reducible refine Post.mono k14 ?_
  clear k14
  rintro _ u12 g13 rfl
  refine sy_pure 3 (.v (.slice x.a (Nt.trimQ l).length x.c)) ?_
  refine sy_next 25 [(3, .v (.slice x.a (Nt.trimQ l).length x.c))] [] ?_
  refine sw_seq ?_
  refine sw_seq ?_
  refine sw_reg ?_
  refine sy_pure 8 (.v (.slice x.a (Nt.trimQ l).length x.c)) ?_
  refine sy_pure 9 (.v (.int .i64 (((Nt.trimQ l).length : Nat) : Int))) ?_
  refine sy_pure 10 (.v (.bool ((((Nt.trimQ l).length : Nat) : Int) == 0))) ?_
  refine sy_next 25 [(3, .v (.slice x.a (Nt.trimQ l).length x.c)), (10, .v (.bool ((((Nt.trimQ l).length : Nat) : Int) == 0)))] [] ?_
  refine sw_cond (b := (((Nt.trimQ l).length : Nat) : Int) == 0) (by kernel_rfl) (fun hb15 => ?_) (fun hb15 => ?_)
  · replace hb15 : ((((Nt.trimQ l).length : Nat) : Int) == 0) = true := hb15
    have qhb15 : (((Nt.trimQ l).length : Nat) : Int) = 0 := by simpa using hb15
    refine sw_seq ?_
    refine sw_reg ?_
    refine sy_pure 2 (.v (.slice none 0 0)) ?_
    refine sy_next 25 [(2, .v (.slice none 0 0))] [] ?_
    refine sw_ret (mpr_seq (ret0 [.slice none 0 0] ⟨res_tmp, trivial⟩ fun u16 e17 => ?_))
    have e9 : Nt.trimQ l = [] := List.eq_nil_of_length_eq_zero (by omega)
    rw [Nt.monic_list, e9]
    exact ⟨⟨none, 0, 0⟩, rfl, pol_nil _ _⟩
  · replace hb15 : ((((Nt.trimQ l).length : Nat) : Int) == 0) = false := hb15
    have qhb15 : ¬ ((((Nt.trimQ l).length : Nat) : Int) = 0) := by simpa using hb15
    refine sw_skip (mp_seq ?_)
    refine sw_seq ?_
    have hq1 : ((Nt.trimQ l).getD (((Nt.trimQ l).length) - 1) 0) ≠ 0 := Nt.nrm_last (Nt.trim_nrm l) (by intro e; have h9 : (Nt.trimQ l).length = 0 := by { rw [e]; rfl }; omega)
    refine sw_any [0, 0, 0, 4, 12, 30, 62, 127, 255, 511, 511, 0, 3071, 8191] [(1, []), (2, []), (3, []), (4, []), (5, []), (6, []), (11, []), (0, []), (7, []), (8, []), (9, []), (10, []), (12, []), (13, [])] (by kernel_rfl) (by kernel_rfl) ?_
    refine sy_pure 13 (.v (.slice x.a (Nt.trimQ l).length x.c)) ?_
    refine sy_pure 14 (.v (.slice x.a (Nt.trimQ l).length x.c)) ?_
    refine sy_pure 15 (.v (.int .i64 (((Nt.trimQ l).length : Nat) : Int))) ?_
    refine sy_eq 16 (x := .v (.int .i64 (IntKind.i64.wrap ((((Nt.trimQ l).length : Nat) : Int) - 1)))) (.v (.int .i64 ((((Nt.trimQ l).length) - 1 : Nat) : Int))) (eqI (by rw [IntWalk.i64_in _ (by omega)]; omega)) ?_
    have hl18 := (cut_V (hx.ext (e11.trans g13.ext))).len
    change (Nt.trimQ l).length = _ at hl18
    obtain ⟨r18, b18, o18, hA18, hc18, hr18⟩ := pol_at (cut_V (hx.ext (e11.trans g13.ext))) (i := ((Nt.trimQ l).length) - 1) (by omega)
    refine sy_index 17 (o18 + (((Nt.trimQ l).length) - 1) * 3) (n := (Nt.trimQ l).length) (off := o18) (sz := 3) (i := ((((Nt.trimQ l).length) - 1 : Nat) : Int)) (by omega) hA18 (by omega) (by omega) sl41 ?_
    refine sy_ldn 18 r18.cs hc18 ty26 ?_
    refine sy_new 4 ⟨26, [.bool false, .slice none 0 0, .slice none 0 0]⟩ ?_
    refine sy_call 12 112 [.int .i64 1] ?_
    intro w19 u19 e19 d19
    have k24 := k_ratOf d19 (z := 1) (by omega) (by omega)
    with_reducible refine Post.mono k24 ?_
    clear k24
    rintro _ u22 g23 ⟨r20, rfl, h21⟩
    refine sy_call 19 99 [r20.v, r18.v] ?_
    intro w25 u25 e25 d25
    have k30 := k_ratDiv1 d25 (h21.ext e25).raw (hr18.ext (e19.trans (g23.ext.trans e25))) hq1 (by omega) (by omega)
    with_reducible refine Post.mono k30 ?_
    clear k30
    rintro _ u28 g29 ⟨r26, rfl, h27⟩
    refine sy_pure 11 (.v (.tuple #[r26.v, .int .i64 0])) ?_
    refine sy_pure 20 (.v (r26.v)) ?_
    refine sy_pure 21 (.v (.int .i64 0)) ?_
    refine sy_store ⟨26, r26.cs⟩ ty26 ?_
    refine sy_pure 5 (.v (.int .i64 0)) ?_
    refine sy_next 25 [(3, .v (.slice x.a (Nt.trimQ l).length x.c)), (4, .adr 4 0)] [(4, ⟨26, r26.cs⟩)] ?_
    refine sw_seq ?_
    refine sw_reg ?_
    refine sy_pure 22 (.v (.slice x.a (Nt.trimQ l).length x.c)) ?_
    refine sy_ldv 23 (.v (r26.v)) ty26 part_agg ?_
    refine sy_call 24 97 [.slice x.a (Nt.trimQ l).length x.c, r26.v] ?_
    intro w31 u31 e31 d31
    have k36 := k_poScale d31 ((cut_V (hx.ext (e11.trans g13.ext))).ext (e19.trans (g23.ext.trans (e25.trans (g29.ext.trans e31))))) (h27.ext e31).raw (by omega) (by first | omega | (simp; omega) | (refine Nat.le_trans (Nt.trim_len _) ?_; first | omega | (simp; omega)) | (refine Nat.le_trans (Nt.trim_len _) ?_; simp only [List.length_map]; refine Nat.le_trans (Nt.trim_len _) ?_; first | omega | (simp; omega))) (by omega)
    with_reducible refine Post.mono k36 ?_
    clear k36
    rintro _ u34 g35 ⟨y32, rfl, h33⟩
    have hly32 := h33.len
    refine sy_pure 2 (.v (.slice y32.a y32.n y32.c)) ?_
    refine sy_next 25 [(2, .v (.slice y32.a y32.n y32.c))] [] ?_
    refine sw_ret (ret0 [.slice y32.a y32.n y32.c] ⟨res_tmp, trivial⟩ fun u37 e38 => ?_)
    rw [Nt.monic_list]
    refine ⟨y32, rfl, PolN.more (K := (K + (2 + K))) ?_ (by omega)⟩
    exact (h33.ext e38)
set_option maxHeartbeats 2000000 in
theorem k_poDivMod {u w : World} {x : Sl} {l : List Rat} {y : Sl} {m : List Rat} {K M : Nat} (d : Dat u w) (hx : PolV u x l K) (hy : PolV u y m M) {a b C : Nat} (hA : Nt.WhL (Nt.prim l) a) (hB : Nt.WhL (Nt.prim m) b) (hC : a + (l.length + 1) * (b + 1) ≤ C) (hC9 : C ≤ 600000000) (hK1 : (l.length + 1) * K ≤ 20000000) (hM1 : (m.length + 1) * M ≤ 20000000) (hS : Nt.dg C + ((l.length * K + 2) + Nt.dg C + (m.length * M + 2)) ≤ 40000000) (hx9 : l.length ≤ 1000000) (hy9 : m.length ≤ 1000000) : Calls Tryz.prog 27 #[x.v, y.v] w (Post u w fun v u' => (v = .tuple #[.slice none 0 0, .slice none 0 0, .int .i64 3] ∧ Nt.trimQ m = []) ∨ (Nt.trimQ m ≠ [] ∧ ∃ (y1 y2 : Sl) (q r : Nt.Pol), v = .tuple #[y1.v, y2.v, .int .i64 0] ∧ PolN u' y1 q.l (Nt.dg C + ((l.length * K + 2) + Nt.dg C + (m.length * M + 2))) ∧ PolN u' y2 r.l (Nt.dg C + ((l.length * K + 2) + Nt.dg C + (m.length * M + 2))) ∧ Nt.Pol.mk' l = q * Nt.Pol.mk' m + r ∧ r.len < (Nt.Pol.mk' m).len)) := by
  have hlen := hx.len
  have hlen2 := hy.len
  have htl := Nt.trim_len l
  have htm := Nt.trim_len m
  have hK2 := hK1
  have hM2 := hM1
  rw [Nat.add_mul] at hK2 hM2
  have hKK : (Nt.trimQ l).length * K ≤ l.length * K := Nat.mul_le_mul_right _ htl
  have hMM : (Nt.trimQ m).length * M ≤ m.length * M := Nat.mul_le_mul_right _ htm
  refine calls_sym (args := [.slice x.a x.n x.c, .slice y.a y.n y.c]) Tryz.func27 rfl Tryz.ntmps27 (rs := [.tmp 4, .tmp 5, .tmp 6]) Tryz.results27 (le_b rfl) (le_b rfl) d ?_
  refine sw_seq ?_
  refine sw_reg ?_
  refine sy_pure 4 (.v (.slice none 0 0)) ?_
  refine sy_pure 5 (.v (.slice none 0 0)) ?_
  refine sy_pure 6 (.v (.int .i64 0)) ?_
  refine sy_next 56 [(0, .v (.slice x.a x.n x.c)), (1, .v (.slice y.a y.n y.c))] [] ?_
  refine sw_seq ?_
  refine sw_reg ?_
  refine sy_pure 19 (.v (.slice x.a x.n x.c)) ?_
  refine sy_call 20 115 [.slice x.a x.n x.c] ?_
  intro w11 u11 e11 d11
  have k18 := k_split d11 (hx.ext e11) (by omega) (by first | omega | (simp; omega) | (refine Nat.le_trans (Nt.trim_len _) ?_; first | omega | (simp; omega)) | (refine Nat.le_trans (Nt.trim_len _) ?_; simp only [List.length_map]; refine Nat.le_trans (Nt.trim_len _) ?_; first | omega | (simp; omega)))
  with_reducible refine Post.mono k18 ?_
  clear k18
  rintro _ u16 g17 ⟨r12, y14, rfl, h13, h15⟩
  have hly14 : y14.n = (Nt.trimQ l).length := by have h9 := h15.len; simpa using h9
  refine sy_pure 18 (.v (.tuple #[r12.v, .slice y14.a y14.n y14.c])) ?_
  refine sy_pure 21 (.v (r12.v)) ?_
  refine sy_pure 22 (.v (.slice y14.a y14.n y14.c)) ?_
  refine sy_new 7 ⟨26, [.bool false, .slice none 0 0, .slice none 0 0]⟩ ?_
  refine sy_store ⟨26, r12.cs⟩ ty26 ?_
  refine sy_pure 8 (.v (.slice y14.a y14.n y14.c)) ?_
  refine sy_next 56 [(1, .v (.slice y.a y.n y.c)), (7, .adr 7 0), (8, .v (.slice y14.a y14.n y14.c))] [(7, ⟨26, r12.cs⟩)] ?_
  refine sw_seq ?_
  refine sw_reg ?_
  refine sy_pure 24 (.v (.slice y.a y.n y.c)) ?_
  refine sy_call 25 115 [.slice y.a y.n y.c] ?_
  intro w19 u19 e19 d19
  have k26 := k_split d19 (hy.ext (e11.trans (g17.ext.trans e19))) (by omega) (by first | omega | (simp; omega) | (refine Nat.le_trans (Nt.trim_len _) ?_; first | omega | (simp; omega)) | (refine Nat.le_trans (Nt.trim_len _) ?_; simp only [List.length_map]; refine Nat.le_trans (Nt.trim_len _) ?_; first | omega | (simp; omega)))
  with_reducible refine Post.mono k26 ?_
  clear k26
  rintro _ u24 g25 ⟨r20, y22, rfl, h21, h23⟩
  have hly22 : y22.n = (Nt.trimQ m).length := by have h9 := h23.len; simpa using h9
  refine sy_pure 23 (.v (.tuple #[r20.v, .slice y22.a y22.n y22.c])) ?_
  refine sy_pure 26 (.v (r20.v)) ?_
  refine sy_pure 27 (.v (.slice y22.a y22.n y22.c)) ?_
  refine sy_new 9 ⟨26, [.bool false, .slice none 0 0, .slice none 0 0]⟩ ?_
  refine sy_store ⟨26, r20.cs⟩ ty26 ?_
  refine sy_pure 10 (.v (.slice y22.a y22.n y22.c)) ?_
  refine sy_next 56 [(7, .adr 7 0), (8, .v (.slice y14.a y14.n y14.c)), (9, .adr 9 0), (10, .v (.slice y22.a y22.n y22.c))] [(7, ⟨26, r12.cs⟩), (9, ⟨26, r20.cs⟩)] ?_
  refine sw_seq ?_
  refine sw_seq ?_
  refine sw_reg ?_
  refine sy_pure 28 (.v (.slice y22.a y22.n y22.c)) ?_
  refine sy_pure 29 (.v (.int .i64 (y22.n : Int))) ?_
  refine sy_pure 30 (.v (.bool ((y22.n : Int) == 0))) ?_
  refine sy_next 56 [(7, .adr 7 0), (8, .v (.slice y14.a y14.n y14.c)), (9, .adr 9 0), (10, .v (.slice y22.a y22.n y22.c)), (30, .v (.bool ((y22.n : Int) == 0)))] [(7, ⟨26, r12.cs⟩), (9, ⟨26, r20.cs⟩)] ?_
  refine sw_cond (b := (y22.n : Int) == 0) (by kernel_rfl) (fun hb27 => ?_) (fun hb27 => ?_)
  · replace hb27 : ((y22.n : Int) == 0) = true := hb27
    have qhb27 : (y22.n : Int) = 0 := by simpa using hb27
    refine sw_seq ?_
    refine sw_reg ?_
    refine sy_pure 4 (.v (.slice none 0 0)) ?_
    refine sy_pure 5 (.v (.slice none 0 0)) ?_
    refine sy_pure 6 (.v (.int .i64 3)) ?_
    refine sy_next 56 [(4, .v (.slice none 0 0)), (5, .v (.slice none 0 0)), (6, .v (.int .i64 3))] [] ?_
    refine sw_ret (mpr_seq (ret0 [.slice none 0 0, .slice none 0 0, .int .i64 3] ⟨res_tmp, res_tmp, res_tmp, trivial⟩ fun u28 e29 => ?_))
    exact .inl ⟨rfl, List.eq_nil_of_length_eq_zero (by omega)⟩
  · replace hb27 : ((y22.n : Int) == 0) = false := hb27
    have qhb27 : ¬ ((y22.n : Int) = 0) := by simpa using hb27
    refine sw_skip (mp_seq ?_)
    refine sw_seq ?_
    have hm1 : Nt.trimQ m ≠ [] := by intro e; have h9 : (Nt.trimQ m).length = 0 := by { rw [e]; rfl }; omega
    have hm2 : 0 < (Nt.prim m).length := by rw [Nt.prim_len]; omega
    refine sw_reg ?_
    refine sy_pure 32 (.v (.slice y14.a y14.n y14.c)) ?_
    refine sy_pure 33 (.v (.slice y22.a y22.n y22.c)) ?_
    refine sy_call 34 116 [.slice y14.a y14.n y14.c, .slice y22.a y22.n y22.c] ?_
    intro w30 u30 e30 d30
    have k34 := k_divide (C := C) d30 (h15.ext (e19.trans (g25.ext.trans e30))) (h23.ext e30) hA hB (Nt.prim_nrm m) hm2 (Nat.le_trans (Nat.add_le_add_left (Nat.mul_le_mul_right _ (by simp; omega)) _) hC) hC9 (by first | omega | (simp; omega)) (by first | omega | (simp; omega))
    with_reducible refine Post.mono k34 ?_
    clear k34
    rintro _ u32 g33 ⟨y31, z31, r31, s31, t31, f31, rfl, ha31, hb31, hc31, hD31, hws31, hwt31⟩
    have hly31 := ha31.len
    have hlz31 := hb31.len
    have hlty31 := hD31.lt
    have htly31 := hD31.tl
    have hsly31 := hD31.sl
    try simp only [List.length_map, Nt.prim_len] at hlty31 htly31 hsly31
    refine sy_pure 31 (.v (.tuple #[.slice y31.a y31.n y31.c, .slice z31.a z31.n z31.c, r31.v])) ?_
    refine sy_pure 35 (.v (.slice y31.a y31.n y31.c)) ?_
    refine sy_pure 36 (.v (.slice z31.a z31.n z31.c)) ?_
    refine sy_pure 37 (.v (r31.v)) ?_
    refine sy_new 13 ⟨26, [.bool false, .slice none 0 0, .slice none 0 0]⟩ ?_
    refine sy_pure 11 (.v (.slice y31.a y31.n y31.c)) ?_
    refine sy_pure 12 (.v (.slice z31.a z31.n z31.c)) ?_
    refine sy_store ⟨26, r31.cs⟩ ty26 ?_
    refine sy_next 56 [(7, .adr 7 0), (9, .adr 9 0), (11, .v (.slice y31.a y31.n y31.c)), (12, .v (.slice z31.a z31.n z31.c)), (13, .adr 13 0)] [(7, ⟨26, r12.cs⟩), (9, ⟨26, r20.cs⟩), (13, ⟨26, r31.cs⟩)] ?_
    refine sw_seq ?_
    refine sw_reg ?_
    refine sy_ldv 39 (.v (r12.v)) ty26 part_agg ?_
    refine sy_ldv 40 (.v (r31.v)) ty26 part_agg ?_
    refine sy_call 41 99 [r12.v, r31.v] ?_
    intro w35 u35 e35 d35
    have k40 := k_ratDiv1 d35 (h13.ext (e19.trans (g25.ext.trans (e30.trans (g33.ext.trans e35))))).raw (hc31.ext e35).raw hD31.f0 (by omega) (by omega)
    with_reducible refine Post.mono k40 ?_
    clear k40
    rintro _ u38 g39 ⟨r36, rfl, h37⟩
    refine sy_pure 38 (.v (.tuple #[r36.v, .int .i64 0])) ?_
    refine sy_pure 42 (.v (r36.v)) ?_
    refine sy_pure 43 (.v (.int .i64 0)) ?_
    refine sy_new 14 ⟨26, [.bool false, .slice none 0 0, .slice none 0 0]⟩ ?_
    refine sy_store ⟨26, r36.cs⟩ ty26 ?_
    refine sy_pure 15 (.v (.int .i64 0)) ?_
    refine sy_next 56 [(9, .adr 9 0), (11, .v (.slice y31.a y31.n y31.c)), (12, .v (.slice z31.a z31.n z31.c)), (14, .adr 14 0)] [(9, ⟨26, r20.cs⟩), (14, ⟨26, r36.cs⟩)] ?_
    refine sw_seq ?_
    refine sw_reg ?_
    refine sy_ldv 45 (.v (r36.v)) ty26 part_agg ?_
    refine sy_ldv 46 (.v (r20.v)) ty26 part_agg ?_
    refine sy_call 47 99 [r36.v, r20.v] ?_
    intro w41 u41 e41 d41
    have k46 := k_ratDiv1 d41 (h37.ext e41).raw (h21.ext (e30.trans (g33.ext.trans (e35.trans (g39.ext.trans e41))))).raw (Nt.msr_ne' hm1) (by omega) (by omega)
    with_reducible refine Post.mono k46 ?_
    clear k46
    rintro _ u44 g45 ⟨r42, rfl, h43⟩
    refine sy_pure 44 (.v (.tuple #[r42.v, .int .i64 0])) ?_
    refine sy_pure 48 (.v (r42.v)) ?_
    refine sy_pure 49 (.v (.int .i64 0)) ?_
    refine sy_new 16 ⟨26, [.bool false, .slice none 0 0, .slice none 0 0]⟩ ?_
    refine sy_store ⟨26, r42.cs⟩ ty26 ?_
    refine sy_pure 17 (.v (.int .i64 0)) ?_
    refine sy_next 56 [(11, .v (.slice y31.a y31.n y31.c)), (12, .v (.slice z31.a z31.n z31.c)), (14, .adr 14 0), (16, .adr 16 0)] [(14, ⟨26, r36.cs⟩), (16, ⟨26, r42.cs⟩)] ?_
    refine sw_seq ?_
    refine sw_any [0, 0, 3, 0, 0, 31, 63, 127, 255] [(0, []), (1, []), (3, []), (4, []), (2, []), (5, []), (6, []), (7, []), (8, [])] (by kernel_rfl) (by kernel_rfl) ?_
    refine sy_pure 50 (.v (.slice y31.a y31.n y31.c)) ?_
    refine sy_ldv 51 (.v (r42.v)) ty26 part_agg ?_
    refine sy_pure 53 (.v (.slice z31.a z31.n z31.c)) ?_
    refine sy_ldv 54 (.v (r36.v)) ty26 part_agg ?_
    refine sy_call 52 97 [.slice y31.a y31.n y31.c, r42.v] ?_
    intro w47 u47 e47 d47
    have k52 := k_poScale d47 (ha31.ext (e35.trans (g39.ext.trans (e41.trans (g45.ext.trans e47))))).raw (h43.ext e47).raw (by omega) (by first | omega | (simp; omega) | (refine Nat.le_trans (Nt.trim_len _) ?_; first | omega | (simp; omega)) | (refine Nat.le_trans (Nt.trim_len _) ?_; simp only [List.length_map]; refine Nat.le_trans (Nt.trim_len _) ?_; first | omega | (simp; omega))) (by omega)
    with_reducible refine Post.mono k52 ?_
    clear k52
    rintro _ u50 g51 ⟨y48, rfl, h49⟩
    have hly48 := h49.len
    refine sy_call 55 97 [.slice z31.a z31.n z31.c, r36.v] ?_
    intro w53 u53 e53 d53
    have k58 := k_poScale d53 (hb31.ext (e35.trans (g39.ext.trans (e41.trans (g45.ext.trans (e47.trans (g51.ext.trans e53))))))).raw (h37.ext (e41.trans (g45.ext.trans (e47.trans (g51.ext.trans e53))))).raw (by omega) (by first | omega | (simp; omega) | (refine Nat.le_trans (Nt.trim_len _) ?_; first | omega | (simp; omega)) | (refine Nat.le_trans (Nt.trim_len _) ?_; simp only [List.length_map]; refine Nat.le_trans (Nt.trim_len _) ?_; first | omega | (simp; omega))) (by omega)
    with_reducible refine Post.mono k58 ?_
    clear k58
    rintro _ u56 g57 ⟨y54, rfl, h55⟩
    have hly54 := h55.len
    refine sy_pure 4 (.v (.slice y48.a y48.n y48.c)) ?_
    refine sy_pure 5 (.v (.slice y54.a y54.n y54.c)) ?_
    refine sy_pure 6 (.v (.int .i64 0)) ?_
    refine sy_next 56 [(4, .v (.slice y48.a y48.n y48.c)), (5, .v (.slice y54.a y54.n y54.c)), (6, .v (.int .i64 0))] [] ?_
    refine sw_ret (ret0 [.slice y48.a y48.n y48.c, .slice y54.a y54.n y54.c, .int .i64 0] ⟨res_tmp, res_tmp, res_tmp, trivial⟩ fun u59 e60 => ?_)
    obtain ⟨e1, e2⟩ := Nt.divmod_parts (l := l) (m := m) hm1 hD31
    exact .inr ⟨hm1, y48, y54, _, _, rfl, PolN.more (K := ((Nt.dg C) + ((((Nt.trimQ l).length * K + 2) + (Nt.dg C)) + ((Nt.trimQ m).length * M + 2)))) (h49.ext (e53.trans (g57.ext.trans e60))) (by omega), PolN.more (K := ((Nt.dg C) + (((Nt.trimQ l).length * K + 2) + (Nt.dg C)))) (h55.ext e60) (by omega), e1, e2⟩
theorem k_poDivMod1 {u w : World} {x y : Sl} {l m : List Rat} {K M : Nat} (d : Dat u w) (hx : PolV u x l K) (hy : PolV u y m M) {a b C : Nat} (hm1 : Nt.trimQ m ≠ []) (hA : Nt.WhL (Nt.prim l) a) (hB : Nt.WhL (Nt.prim m) b) (hC : a + (l.length + 1) * (b + 1) ≤ C) (hC9 : C ≤ 600000000) (hK1 : (l.length + 1) * K ≤ 20000000) (hM1 : (m.length + 1) * M ≤ 20000000) (hS : Nt.dg C + ((l.length * K + 2) + Nt.dg C + (m.length * M + 2)) ≤ 40000000) (hx9 : l.length ≤ 1000000) (hy9 : m.length ≤ 1000000) :
    Calls Tryz.prog 27 #[x.v, y.v] w (Post u w fun v u' => ∃ (y1 y2 : Sl) (q r : Nt.Pol), v = .tuple #[y1.v, y2.v, .int .i64 0] ∧ PolN u' y1 q.l (Nt.dg C + ((l.length * K + 2) + Nt.dg C + (m.length * M + 2))) ∧ PolN u' y2 r.l (Nt.dg C + ((l.length * K + 2) + Nt.dg C + (m.length * M + 2))) ∧ Nt.Pol.mk' l = q * Nt.Pol.mk' m + r ∧ r.len < (Nt.Pol.mk' m).len) :=
  Post.mono (k_poDivMod d hx hy hA hB hC hC9 hK1 hM1 hS hx9 hy9) fun v u' _ h => (h.resolve_left (fun k => hm1 k.2)).2
set_option maxHeartbeats 2000000 in
theorem k_poGcd {u w : World} {x : Sl} {l : List Rat} {y : Sl} {m : List Rat} {K M : Nat} (d : Dat u w) (hx : PolV u x l K) (hy : PolV u y m M) {A H N : Nat} (hA : Nt.WhL (Nt.prim l) A) (hB : Nt.WhL (Nt.prim m) A) (hH : (A + 1) * (A + 1) * 3 ^ Nt.pot (Nt.trimQ l).length (Nt.trimQ m).length ≤ H * H) (hH9 : H ≤ 600000000) (hN1 : l.length ≤ N) (hN2 : m.length ≤ N) (hN : (N + 1) * Nt.dg H ≤ 19000000) (hK1 : (l.length + 1) * K ≤ 20000000) (hM1 : (m.length + 1) * M ≤ 20000000) (hN9 : N ≤ 1000000) : Calls Tryz.prog 30 #[x.v, y.v] w (Post u w fun v u' => ∃ (z : Sl) (g : Nt.Pol) (W : List Rat) (k : Rat), v = z.v ∧ PolN u' z g.l (2 * Nt.dg H + 2) ∧ Nt.Pol.IsGcd (Nt.Pol.mk' l) (Nt.Pol.mk' m) g ∧ k ≠ 0 ∧ (∀ i, Nt.co g.l i = k * Nt.co W i) ∧ Nt.WhL W H) := by
  have hlen := hx.len
  have hlen2 := hy.len
  have htl := Nt.trim_len l
  have htm := Nt.trim_len m
  have hdgH : Nt.dg H ≤ (N + 1) * Nt.dg H := Nat.le_mul_of_pos_left _ (by omega)
  have hAH : A ≤ H := by have h9 := Nt.pot_le hH; omega
  refine calls_sym (args := [.slice x.a x.n x.c, .slice y.a y.n y.c]) Tryz.func30 rfl Tryz.ntmps30 (rs := [.tmp 4]) Tryz.results30 (le_b rfl) (le_b rfl) d ?_
  refine sw_seq ?_
  refine sw_reg ?_
  refine sy_pure 4 (.v (.slice none 0 0)) ?_
  refine sy_next 41 [(0, .v (.slice x.a x.n x.c)), (1, .v (.slice y.a y.n y.c))] [] ?_
  refine sw_seq ?_
  refine sw_reg ?_
  refine sy_pure 13 (.v (.slice x.a x.n x.c)) ?_
  refine sy_call 14 115 [.slice x.a x.n x.c] ?_
  intro w11 u11 e11 d11
  have k18 := k_split d11 (hx.ext e11) (by omega) (by first | omega | (simp; omega) | (refine Nat.le_trans (Nt.trim_len _) ?_; first | omega | (simp; omega)) | (refine Nat.le_trans (Nt.trim_len _) ?_; simp only [List.length_map]; refine Nat.le_trans (Nt.trim_len _) ?_; first | omega | (simp; omega)))
  with_reducible refine Post.mono k18 ?_
  clear k18
  rintro _ u16 g17 ⟨r12, y14, rfl, h13, h15⟩
  have hly14 : y14.n = (Nt.trimQ l).length := by have h9 := h15.len; simpa using h9
  refine sy_pure 12 (.v (.tuple #[r12.v, .slice y14.a y14.n y14.c])) ?_
  refine sy_pure 15 (.v (r12.v)) ?_
  refine sy_pure 16 (.v (.slice y14.a y14.n y14.c)) ?_
  refine sy_new 5 ⟨26, [.bool false, .slice none 0 0, .slice none 0 0]⟩ ?_
  refine sy_store ⟨26, r12.cs⟩ ty26 ?_
  refine sy_pure 6 (.v (.slice y14.a y14.n y14.c)) ?_
  refine sy_next 41 [(1, .v (.slice y.a y.n y.c)), (6, .v (.slice y14.a y14.n y14.c))] [] ?_
  refine sw_seq ?_
  refine sw_reg ?_
  refine sy_pure 18 (.v (.slice y.a y.n y.c)) ?_
  refine sy_call 19 115 [.slice y.a y.n y.c] ?_
  intro w19 u19 e19 d19
  have k26 := k_split d19 (hy.ext (e11.trans (g17.ext.trans e19))) (by omega) (by first | omega | (simp; omega) | (refine Nat.le_trans (Nt.trim_len _) ?_; first | omega | (simp; omega)) | (refine Nat.le_trans (Nt.trim_len _) ?_; simp only [List.length_map]; refine Nat.le_trans (Nt.trim_len _) ?_; first | omega | (simp; omega)))
  with_reducible refine Post.mono k26 ?_
  clear k26
  rintro _ u24 g25 ⟨r20, y22, rfl, h21, h23⟩
  have hly22 : y22.n = (Nt.trimQ m).length := by have h9 := h23.len; simpa using h9
  refine sy_pure 17 (.v (.tuple #[r20.v, .slice y22.a y22.n y22.c])) ?_
  refine sy_pure 20 (.v (r20.v)) ?_
  refine sy_pure 21 (.v (.slice y22.a y22.n y22.c)) ?_
  refine sy_new 7 ⟨26, [.bool false, .slice none 0 0, .slice none 0 0]⟩ ?_
  refine sy_store ⟨26, r20.cs⟩ ty26 ?_
  refine sy_pure 8 (.v (.slice y22.a y22.n y22.c)) ?_
  refine sy_next 41 [(6, .v (.slice y14.a y14.n y14.c)), (8, .v (.slice y22.a y22.n y22.c))] [] ?_
  refine sw_seq ?_
  refine sw_block ?_
  refine sw_loop (I := fun m27 S' u' => ∃ (xa : Sl) (xb : Sl) (pa : List Rat) (pb : List Rat) (A9 : Nat), (m27 = pb.length) ∧ (pa.length ≤ N) ∧ (pb.length ≤ N) ∧ (Nt.Nrm pb) ∧ (Nt.WhL pa A9) ∧ (Nt.WhL pb A9) ∧ ((A9 + 1) * (A9 + 1) * 3 ^ Nt.pot pa.length pb.length ≤ H * H) ∧ (Nt.Pol.Same (Nt.Pol.mk' l) (Nt.Pol.mk' m) (Nt.Pol.mk' pa) (Nt.Pol.mk' pb)) ∧ (S' = St.of 41 [(6, .v (.slice xa.a xa.n xa.c)), (8, .v (.slice xb.a xb.n xb.c))] []) ∧ (Ext u24 u') ∧ (PolN u' xa pa (Nt.dg H)) ∧ (PolN u' xb pb (Nt.dg H))) (fun m S u1 u2 e h => by obtain ⟨xa, xb, pa, pb, A9, hm, p0, p1, p2, p3, p4, p5, p6, hS, hE, f0, f1⟩ := h; exact ⟨xa, xb, pa, pb, A9, hm, p0, p1, p2, p3, p4, p5, p6, hS, hE.trans e, f0.ext e, f1.ext e⟩) _ (T := St.of 41 [(6, .v (.slice y14.a y14.n y14.c)), (8, .v (.slice y22.a y22.n y22.c))] []) (by exact weak_mk _ _ _) ⟨y14, y22, (Nt.prim l), (Nt.prim m), A, rfl, (by rw [Nt.prim_len]; omega), (by rw [Nt.prim_len]; omega), (Nt.prim_nrm m), hA, hB, (by rw [Nt.prim_len, Nt.prim_len]; exact hH), (Nt.prim_same l m), rfl, Ext.refl _, (PolN.fitW (K := (K + ((Nt.trimQ l).length * K + 2))) (h15.ext (e19.trans g25.ext)) (hA.more hAH)), (PolN.fitW (K := (M + ((Nt.trimQ m).length * M + 2))) h23 (hB.more hAH))⟩ ?_
  rintro m27 _ u27 ⟨xa, xb, pa, pb, A9, hm27, hna, hnl, hnb, hWa, hWb, hP, hS, rfl, e27, hFa, hFb⟩
  have hla := hFa.len
  have hlb := hFb.len
  have hA9 := Nt.pot_le hP
  refine sw_seq ?_
  refine sw_seq ?_
  refine sw_reg ?_
  refine sy_pure 22 (.v (.slice xb.a xb.n xb.c)) ?_
  refine sy_pure 23 (.v (.int .i64 (xb.n : Int))) ?_
  refine sy_pure 24 (.v (.bool (decide ((0 : Int) < (xb.n : Int))))) ?_
  refine sy_next 41 [(6, .v (.slice xa.a xa.n xa.c)), (8, .v (.slice xb.a xb.n xb.c)), (24, .v (.bool (decide ((0 : Int) < (xb.n : Int)))))] [] ?_
  refine sw_cond (b := decide ((0 : Int) < (xb.n : Int))) (by kernel_rfl) (fun hb28 => ?_) (fun hb28 => ?_)
  · replace hb28 : (decide ((0 : Int) < (xb.n : Int))) = true := hb28
    have qhb28 := of_decide_eq_true hb28
    refine sw_skip (mp_seq ?_)
    refine sw_block ?_
    refine sw_seq ?_
    have hP0 := Nt.pot_step hP (lr := 0) (by omega) (by omega)
    obtain ⟨C9, hC9⟩ : ∃ C9, A9 + (pa.length - pb.length + 1) * (A9 + 1) = C9 := ⟨_, rfl⟩
    rw [hC9] at hP0
    have hCH := Nt.pot_le hP0
    have hCA : A9 ≤ C9 := by omega
    refine sw_reg ?_
    refine sy_pure 26 (.v (.slice xa.a xa.n xa.c)) ?_
    refine sy_pure 27 (.v (.slice xb.a xb.n xb.c)) ?_
    refine sy_call 28 116 [.slice xa.a xa.n xa.c, .slice xb.a xb.n xb.c] ?_
    intro w29 u29 e29 d29
    have k33 := k_divide (C := C9) d29 (hFa.ext e29) (hFb.ext e29) hWa hWb hnb (by omega) (Nat.le_of_eq hC9) (by omega) (by first | omega | (simp; omega)) (by first | omega | (simp; omega))
    with_reducible refine Post.mono k33 ?_
    clear k33
    rintro _ u31 g32 ⟨y30, z30, r30, s30, t30, f30, rfl, ha30, hb30, hc30, hD30, hws30, hwt30⟩
    have hly30 := ha30.len
    have hlz30 := hb30.len
    have hlty30 := hD30.lt
    have htly30 := hD30.tl
    have hsly30 := hD30.sl
    try simp only [List.length_map, Nt.prim_len] at hlty30 htly30 hsly30
    refine sy_pure 25 (.v (.tuple #[.slice y30.a y30.n y30.c, .slice z30.a z30.n z30.c, r30.v])) ?_
    refine sy_pure 29 (.v (.slice y30.a y30.n y30.c)) ?_
    refine sy_pure 30 (.v (.slice z30.a z30.n z30.c)) ?_
    refine sy_pure 31 (.v (r30.v)) ?_
    refine sy_new 11 ⟨26, [.bool false, .slice none 0 0, .slice none 0 0]⟩ ?_
    refine sy_pure 9 (.v (.slice y30.a y30.n y30.c)) ?_
    refine sy_pure 10 (.v (.slice z30.a z30.n z30.c)) ?_
    refine sy_store ⟨26, r30.cs⟩ ty26 ?_
    refine sy_next 41 [(8, .v (.slice xb.a xb.n xb.c)), (10, .v (.slice z30.a z30.n z30.c))] [] ?_
    refine sw_seq ?_
    refine sw_reg ?_
    refine sy_pure 33 (.v (.slice z30.a z30.n z30.c)) ?_
    refine sy_call 34 115 [.slice z30.a z30.n z30.c] ?_
    intro w34 u34 e34 d34
    have k41 := k_split d34 (hb30.ext e34).raw (Nat.le_trans (Nat.mul_le_mul (show t30.length + 1 ≤ N + 1 by omega) (Nt.dg_mono (show C9 ≤ H by omega))) (by omega)) (by first | omega | (simp; omega) | (refine Nat.le_trans (Nt.trim_len _) ?_; first | omega | (simp; omega)) | (refine Nat.le_trans (Nt.trim_len _) ?_; simp only [List.length_map]; refine Nat.le_trans (Nt.trim_len _) ?_; first | omega | (simp; omega)))
    with_reducible refine Post.mono k41 ?_
    clear k41
    rintro _ u39 g40 ⟨r35, y37, rfl, h36, h38⟩
    have hly37 : y37.n = (Nt.trimQ t30).length := by have h9 := h38.len; simpa using h9
    refine sy_pure 32 (.v (.tuple #[r35.v, .slice y37.a y37.n y37.c])) ?_
    refine sy_pure 35 (.v (r35.v)) ?_
    refine sy_pure 36 (.v (.slice y37.a y37.n y37.c)) ?_
    refine sy_pure 10 (.v (.slice y37.a y37.n y37.c)) ?_
    refine sy_next 41 [(8, .v (.slice xb.a xb.n xb.c)), (10, .v (.slice y37.a y37.n y37.c))] [] ?_
    refine sw_reg ?_
    refine sy_pure 37 (.v (.slice xb.a xb.n xb.c)) ?_
    refine sy_pure 38 (.v (.slice y37.a y37.n y37.c)) ?_
    refine sy_pure 6 (.v (.slice xb.a xb.n xb.c)) ?_
    refine sy_pure 8 (.v (.slice y37.a y37.n y37.c)) ?_
    refine sy_end ?_
    have hpt : (Nt.prim t30).length ≤ t30.length := by rw [Nt.prim_len]; exact Nt.trim_len _
    have hP9 := Nt.pot_step hP (lr := (Nt.prim t30).length) (by omega) (by omega)
    rw [hC9] at hP9
    refine ⟨_, ?_, St.of 41 [(6, .v (.slice xb.a xb.n xb.c)), (8, .v (.slice y37.a y37.n y37.c))] [], by exact weak_mk _ _ _, xb, y37, pb, (Nt.prim t30), C9, rfl, by omega, by omega, (Nt.prim_nrm _), (hWb.more hCA), (Nt.prim_of_wh hwt30), hP9, (Nt.same_step hS hD30), rfl, (e27.trans (e29.trans (g32.ext.trans (e34.trans g40.ext)))), (hFb.ext (e29.trans (g32.ext.trans (e34.trans g40.ext)))), (PolN.fitW (K := ((Nt.dg C9) + ((Nt.trimQ t30).length * (Nt.dg C9) + 2))) h38 ((Nt.prim_of_wh hwt30).more (by omega)))⟩
    omega
  · replace hb28 : (decide ((0 : Int) < (xb.n : Int))) = false := hb28
    have qhb28 := of_decide_eq_false hb28
    refine sw_exit ?_
    refine mp_seq ?_
    refine sw_seq ?_
    refine sw_reg ?_
    refine sy_pure 39 (.v (.slice xa.a xa.n xa.c)) ?_
    refine sy_call 40 32 [.slice xa.a xa.n xa.c] ?_
    intro w42 u42 e42 d42
    have k47 := k_poMonic d42 (hFa.ext e42).raw (by omega) (by first | omega | (simp; omega) | (refine Nat.le_trans (Nt.trim_len _) ?_; first | omega | (simp; omega)) | (refine Nat.le_trans (Nt.trim_len _) ?_; simp only [List.length_map]; refine Nat.le_trans (Nt.trim_len _) ?_; first | omega | (simp; omega)))
    with_reducible refine Post.mono k47 ?_
    clear k47
    rintro _ u45 g46 ⟨y43, rfl, h44⟩
    have hly43 := h44.len
    refine sy_pure 4 (.v (.slice y43.a y43.n y43.c)) ?_
    refine sy_next 41 [(4, .v (.slice y43.a y43.n y43.c))] [] ?_
    refine sw_ret (ret0 [.slice y43.a y43.n y43.c] ⟨res_tmp, trivial⟩ fun u48 e49 => ?_)
    have hb0 : pb.length = 0 := by omega
    have hS9 := hS
    rw [Nt.mk_nil hb0] at hS9
    obtain ⟨k, hk0, hk⟩ := Nt.monic_scaled pa
    exact ⟨y43, _, pa, k, rfl, (h44.ext e49), hS9.gcd, hk0, hk, hWa.more (by omega)⟩
set_option maxHeartbeats 2000000 in
theorem k_poSquarefree {u w : World} {x : Sl} {l : List Rat} {K : Nat} (d : Dat u w) (hx : PolV u x l K) {A H N C : Nat} (hA : Nt.WhL (Nt.prim l) A) (hB : Nt.WhL (Nt.prim (Nt.trimQ (Nt.derQ l))) A) (hH : (A + 1) * (A + 1) * 3 ^ (2 * (l.length - 1) + 1) ≤ H * H) (hH9 : H ≤ 600000000) (hN1 : l.length ≤ N) (hN : (N + 1) * Nt.dg H ≤ 8000000) (hC : A + (l.length + 1) * (H + 1) ≤ C) (hC9 : C ≤ 600000000) (hK1 : (l.length + 1) * (K + 2) ≤ 20000000) (hS : (Nt.dg C + ((l.length * K + 2) + Nt.dg C + (N * (2 * Nt.dg H + 2) + 2))) ≤ 40000000) (hN9 : N ≤ 1000000) : Calls Tryz.prog 36 #[x.v] w (Post u w fun v u' => ∃ (z : Sl) (s : Nt.Pol), v = z.v ∧ PolN u' z s.l (2 * (Nt.dg C + ((l.length * K + 2) + Nt.dg C + (N * (2 * Nt.dg H + 2) + 2))) + 2) ∧ Nt.IsSqf (Nt.Pol.mk' l) s) := by
  have hlen := hx.len
  have hK2 := hK1
  rw [Nat.add_mul] at hK2
  have hNN : (N + 1) * (2 * Nt.dg H + 2) = 2 * ((N + 1) * Nt.dg H) + 2 * (N + 1) := by rw [Nat.mul_add, Nat.mul_left_comm, Nat.mul_comm (N + 1) 2]
  have hdr : (Nt.trimQ (Nt.derQ l)).length ≤ l.length := by have h9 := Nt.trim_len (Nt.derQ l); rw [Nt.derQ_len] at h9; omega
  have hKl : (l.length + 1) * K ≤ (l.length + 1) * (K + 2) := Nat.mul_le_mul_left _ (Nat.le_add_right K 2)
  refine calls_sym (args := [.slice x.a x.n x.c]) Tryz.func36 rfl Tryz.ntmps36 (rs := [.tmp 2]) Tryz.results36 (le_b rfl) (le_b rfl) d ?_
  refine sw_seq ?_
  refine sw_reg ?_
  refine sy_pure 2 (.v (.slice none 0 0)) ?_
  refine sy_next 23 [(0, .v (.slice x.a x.n x.c))] [] ?_
  refine sw_seq ?_
  refine sw_reg ?_
  refine sy_pure 7 (.v (.slice x.a x.n x.c)) ?_
  refine sy_pure 8 (.v (.slice x.a x.n x.c)) ?_
  refine sy_call 9 34 [.slice x.a x.n x.c] ?_
  intro w11 u11 e11 d11
  have k16 := k_poDerivative d11 (hx.ext e11) (by omega) (by first | omega | (simp; omega) | (refine Nat.le_trans (Nt.trim_len _) ?_; first | omega | (simp; omega)) | (refine Nat.le_trans (Nt.trim_len _) ?_; simp only [List.length_map]; refine Nat.le_trans (Nt.trim_len _) ?_; first | omega | (simp; omega)))
  with_reducible refine Post.mono k16 ?_
  clear k16
  rintro _ u14 g15 ⟨y12, rfl, h13⟩
  have hly12 := h13.len
  refine sy_call 10 30 [.slice x.a x.n x.c, .slice y12.a y12.n y12.c] ?_
  intro w17 u17 e17 d17
  have k21 := k_poGcd (H := H) d17 (hx.ext (e11.trans (g15.ext.trans e17))) (h13.ext e17).raw hA hB (Nt.pot_der hH) hH9 (by omega) (by first | omega | (simp; omega) | (refine Nat.le_trans (Nt.trim_len _) ?_; first | omega | (simp; omega)) | (refine Nat.le_trans (Nt.trim_len _) ?_; simp only [List.length_map]; refine Nat.le_trans (Nt.trim_len _) ?_; first | omega | (simp; omega))) (by omega) (by omega) (Nat.le_trans (Nat.mul_le_mul_right _ (show (Nt.trimQ (Nt.derQ l)).length + 1 ≤ l.length + 1 by have h9 := Nt.trim_len (Nt.derQ l); rw [Nt.derQ_len] at h9; omega)) hK1) hN9
  with_reducible refine Post.mono k21 ?_
  clear k21
  rintro _ u19 g20 ⟨z18, g18, W18, k18, rfl, hz18, hg18, hk18, hW18, hw18⟩
  have hlz18 := hz18.len
  refine sy_pure 3 (.v (.slice z18.a z18.n z18.c)) ?_
  refine sy_next 23 [(0, .v (.slice x.a x.n x.c)), (3, .v (.slice z18.a z18.n z18.c))] [] ?_
  refine sw_seq ?_
  refine sw_seq ?_
  refine sw_reg ?_
  refine sy_pure 11 (.v (.slice z18.a z18.n z18.c)) ?_
  refine sy_pure 12 (.v (.int .i64 (z18.n : Int))) ?_
  refine sy_pure 13 (.v (.bool ((z18.n : Int) == 0))) ?_
  refine sy_next 23 [(0, .v (.slice x.a x.n x.c)), (3, .v (.slice z18.a z18.n z18.c)), (13, .v (.bool ((z18.n : Int) == 0)))] [] ?_
  refine sw_cond (b := (z18.n : Int) == 0) (by kernel_rfl) (fun hb22 => ?_) (fun hb22 => ?_)
  · replace hb22 : ((z18.n : Int) == 0) = true := hb22
    have qhb22 : (z18.n : Int) = 0 := by simpa using hb22
    refine sw_seq ?_
    refine sw_reg ?_
    refine sy_pure 2 (.v (.slice none 0 0)) ?_
    refine sy_next 23 [(2, .v (.slice none 0 0))] [] ?_
    refine sw_ret (mpr_seq (ret0 [.slice none 0 0] ⟨res_tmp, trivial⟩ fun u23 e24 => ?_))
    have hg0 : g18 = 0 := Nt.Pol.zero_of_len (by show g18.l.length = 0; omega)
    have hp0 : Nt.Pol.mk' l = 0 := by obtain ⟨u1, e1⟩ := hg18.l; rw [e1, hg0, Nt.Pol.zero_mul]
    exact ⟨⟨none, 0, 0⟩, 0, rfl, by rw [Nt.Pol.zero_l]; exact pol_nil _ _, .inl ⟨hp0, rfl⟩⟩
  · replace hb22 : ((z18.n : Int) == 0) = false := hb22
    have qhb22 : ¬ ((z18.n : Int) = 0) := by simpa using hb22
    refine sw_skip (mp_seq ?_)
    refine sw_seq ?_
    have hgn : g18 ≠ 0 := Nt.Pol.ne_of_len (by show 0 < g18.l.length; omega)
    have hp0 : Nt.Pol.mk' l ≠ 0 := by intro e; obtain ⟨u1, v1, e1⟩ := hg18.s; apply hgn; rw [e1, Nt.mk_trim, Nt.Pol.mk_D, e, Nt.Pol.D_zero, Nt.Pol.mul_zero, Nt.Pol.mul_zero, Nt.Pol.add_zero]
    have hgl : g18.l.length ≤ N := by have h9 := Nt.len_dvd hg18.l hp0; have h8 := Nt.mk_len l; change g18.l.length ≤ _ at h9; omega
    have hgt : Nt.trimQ g18.l ≠ [] := by intro e; have h9 : (Nt.trimQ g18.l).length = 0 := by { rw [e]; rfl }; rw [g18.h] at h9; omega
    have hgm : (g18.l.length + 1) * (2 * Nt.dg H + 2) ≤ (N + 1) * (2 * Nt.dg H + 2) := Nat.mul_le_mul_right _ (by omega)
    have hgm2 : g18.l.length * (2 * Nt.dg H + 2) ≤ N * (2 * Nt.dg H + 2) := Nat.mul_le_mul_right _ hgl
    refine sw_reg ?_
    refine sy_pure 15 (.v (.slice x.a x.n x.c)) ?_
    refine sy_pure 16 (.v (.slice z18.a z18.n z18.c)) ?_
    refine sy_call 17 27 [.slice x.a x.n x.c, .slice z18.a z18.n z18.c] ?_
    intro w25 u25 e25 d25
    have k29 := k_poDivMod1 (C := C) d25 (hx.ext (e11.trans (g15.ext.trans (e17.trans (g20.ext.trans e25))))) (hz18.ext e25).raw hgt hA (Nt.prim_bits hk18 hW18 hw18) hC hC9 (Nat.le_trans (Nat.mul_le_mul_left _ (Nat.le_add_right K 2)) hK1) (Nat.le_trans hgm (by rw [hNN]; omega)) (by omega) (by omega) (by omega)
    with_reducible refine Post.mono k29 ?_
    clear k29
    rintro _ u27 g28 ⟨y26, z26, q26, r26, rfl, ha26, hb26, eq26, el26⟩
    have hly26 := ha26.len
    have hlz26 := hb26.len
    have hlly26 := Nt.div_lenL eq26 el26
    refine sy_pure 14 (.v (.tuple #[.slice y26.a y26.n y26.c, .slice z26.a z26.n z26.c, .int .i64 0])) ?_
    refine sy_pure 18 (.v (.slice y26.a y26.n y26.c)) ?_
    refine sy_pure 19 (.v (.slice z26.a z26.n z26.c)) ?_
    refine sy_pure 20 (.v (.int .i64 0)) ?_
    refine sy_pure 4 (.v (.slice y26.a y26.n y26.c)) ?_
    refine sy_pure 5 (.v (.slice z26.a z26.n z26.c)) ?_
    refine sy_pure 6 (.v (.int .i64 0)) ?_
    refine sy_next 23 [(4, .v (.slice y26.a y26.n y26.c))] [] ?_
    refine sw_seq ?_
    refine sw_reg ?_
    refine sy_pure 21 (.v (.slice y26.a y26.n y26.c)) ?_
    refine sy_call 22 32 [.slice y26.a y26.n y26.c] ?_
    intro w30 u30 e30 d30
    have k35 := k_poMonic d30 (ha26.ext e30).raw (by omega) (by first | omega | (simp; omega) | (refine Nat.le_trans (Nt.trim_len _) ?_; first | omega | (simp; omega)) | (refine Nat.le_trans (Nt.trim_len _) ?_; simp only [List.length_map]; refine Nat.le_trans (Nt.trim_len _) ?_; first | omega | (simp; omega)))
    with_reducible refine Post.mono k35 ?_
    clear k35
    rintro _ u33 g34 ⟨y31, rfl, h32⟩
    have hly31 := h32.len
    refine sy_pure 2 (.v (.slice y31.a y31.n y31.c)) ?_
    refine sy_next 23 [(2, .v (.slice y31.a y31.n y31.c))] [] ?_
    refine sw_ret (ret0 [.slice y31.a y31.n y31.c] ⟨res_tmp, trivial⟩ fun u36 e37 => ?_)
    rw [Nt.Pol.mk_l] at eq26 el26
    obtain ⟨er, ep⟩ := Nt.div_exact eq26 el26 hg18.l
    refine ⟨y31, _, rfl, PolN.more (K := (2 * (Nt.dg C + ((l.length * K + 2) + Nt.dg C + (g18.l.length * (2 * Nt.dg H + 2) + 2))) + 2)) (h32.ext e37) (by omega), .inr ⟨hp0, g18, q26, ?_, hgn, ep, by rw [Nt.Pol.mk_l]⟩⟩
    rw [← Nt.Pol.mk_D, ← Nt.mk_trim (Nt.derQ l)]
    exact hg18
end Go.Proofs.YtnedhbidmfoegaaGreat
namespace Go.Proofs.YtnedhbidmfoegaaGreat
open Go.RowKit
set_option linter.unusedVariables false
set_option maxHeartbeats 1000000 in
theorem k_sameList {u w : World} {x : Sl} {l : List Rat} {y : Sl} {m : List Rat} {K M : Nat} (d : Dat u w) (hx : PolN u x l K) (hy : PolN u y m M) (hx9 : l.length ≤ 1000000000) (hy9 : m.length ≤ 1000000000) : Calls Tryz.prog 117 #[x.v, y.v] w (Post u w fun v u' => v = .bool (decide (l = m))) := by
  have hlen := hx.len
  have hlen2 := hy.len
  refine calls_sym (args := [.slice x.a x.n x.c, .slice y.a y.n y.c]) Tryz.func117 rfl Tryz.ntmps117 (rs := [.tmp 4]) Tryz.results117 (le_b rfl) (le_b rfl) d ?_
  refine sw_seq ?_
  refine sw_reg ?_
  refine sy_pure 4 (.v (.bool false)) ?_
  refine sy_next 27 [(0, .v (.slice x.a x.n x.c)), (1, .v (.slice y.a y.n y.c))] [] ?_
  refine sw_seq ?_
  refine sw_seq ?_
  refine sw_reg ?_
  refine sy_pure 6 (.v (.slice x.a x.n x.c)) ?_
  refine sy_pure 7 (.v (.int .i64 (x.n : Int))) ?_
  refine sy_pure 8 (.v (.slice y.a y.n y.c)) ?_
  refine sy_pure 9 (.v (.int .i64 (y.n : Int))) ?_
  refine sy_pure 10 (.v (.bool ((x.n : Int) != (y.n : Int)))) ?_
  refine sy_next 27 [(0, .v (.slice x.a x.n x.c)), (1, .v (.slice y.a y.n y.c)), (10, .v (.bool ((x.n : Int) != (y.n : Int))))] [] ?_
  refine sw_cond (b := (x.n : Int) != (y.n : Int)) (by kernel_rfl) (fun hb11 => ?_) (fun hb11 => ?_)
  · replace hb11 : ((x.n : Int) != (y.n : Int)) = true := hb11
    refine sw_seq ?_
    refine sw_reg ?_
    refine sy_pure 4 (.v (.bool false)) ?_
    refine sy_next 27 [(4, .v (.bool false))] [] ?_
    refine sw_ret (mpr_seq (ret0 [.bool false] ⟨res_tmp, trivial⟩ fun u12 e13 => ?_))
    have e9 : l ≠ m := by intro e; have h9 := congrArg List.length e; have h8 := hb11; simp at h8; omega
    show Value.bool false = Value.bool _
    rw [decide_eq_false e9]
  · replace hb11 : ((x.n : Int) != (y.n : Int)) = false := hb11
    have hnn : x.n = y.n := by have h9 : (x.n : Int) = (y.n : Int) := (by simpa using hb11); omega
    refine sw_skip (mp_seq ?_)
    refine sw_seq ?_
    refine sw_seq ?_
    refine sw_reg ?_
    refine sy_pure 5 (.v (.int .i64 0)) ?_
    refine sy_next 27 [(0, .v (.slice x.a x.n x.c)), (1, .v (.slice y.a y.n y.c)), (5, .v (.int .i64 0))] [] ?_
    refine sw_block ?_
    refine sw_loop (I := fun m14 S' u' => ∃ (i : Nat), (m14 = x.n - i) ∧ (i ≤ x.n) ∧ (∀ j, j < i → l.getD j 0 = m.getD j 0) ∧ (S' = St.of 27 [(0, .v (.slice x.a x.n x.c)), (1, .v (.slice y.a y.n y.c)), (5, .v (.int .i64 (i : Int)))] []) ∧ (Ext u u')) (fun m S u1 u2 e h => by obtain ⟨i, hm, p0, p1, hS, hE⟩ := h; exact ⟨i, hm, p0, p1, hS, hE.trans e⟩) _ (T := St.of 27 [(0, .v (.slice x.a x.n x.c)), (1, .v (.slice y.a y.n y.c)), (5, .v (.int .i64 0))] []) (by exact weak_mk _ _ _) ⟨0, rfl, by omega, fun j hj => by omega, rfl, Ext.refl _⟩ ?_
    rintro m14 _ u14 ⟨i, hm14, hi, hz, rfl, e14⟩
    refine sw_seq ?_
    refine sw_seq ?_
    refine sw_reg ?_
    refine sy_pure 11 (.v (.int .i64 (i : Int))) ?_
    refine sy_pure 12 (.v (.slice x.a x.n x.c)) ?_
    refine sy_pure 13 (.v (.int .i64 (x.n : Int))) ?_
    refine sy_pure 14 (.v (.bool (decide ((i : Int) < (x.n : Int))))) ?_
    refine sy_next 27 [(0, .v (.slice x.a x.n x.c)), (1, .v (.slice y.a y.n y.c)), (5, .v (.int .i64 (i : Int))), (14, .v (.bool (decide ((i : Int) < (x.n : Int)))))] [] ?_
    refine sw_cond (b := decide ((i : Int) < (x.n : Int))) (by kernel_rfl) (fun hb15 => ?_) (fun hb15 => ?_)
    · replace hb15 : (decide ((i : Int) < (x.n : Int))) = true := hb15
      have qhb15 := of_decide_eq_true hb15
      refine sw_skip (mp_seq ?_)
      refine sw_seq ?_
      refine sw_block ?_
      refine sw_seq ?_
      refine sw_any [0, 0, 3, 7, 0, 0, 48, 112, 255, 511] [(0, []), (1, []), (2, []), (3, []), (4, []), (5, []), (6, []), (7, []), (8, []), (9, [])] (by kernel_rfl) (by kernel_rfl) ?_
      refine sy_pure 17 (.v (.slice x.a x.n x.c)) ?_
      refine sy_pure 18 (.v (.int .i64 (i : Int))) ?_
      have hl16 := (hx.ext e14).len
      obtain ⟨r16, b16, o16, hA16, hc16, hr16⟩ := pol_atN (hx.ext e14) (i := i) (by omega)
      refine sy_index 19 (o16 + i * 3) (n := x.n) (off := o16) (sz := 3) (i := (i : Int)) (by omega) hA16 (by omega) (by omega) sl40 ?_
      refine sy_ldn 20 r16.cs hc16 ty26 ?_
      refine sy_pure 21 (.v (.slice y.a y.n y.c)) ?_
      refine sy_pure 22 (.v (.int .i64 (i : Int))) ?_
      have hl17 := (hy.ext e14).len
      obtain ⟨r17, b17, o17, hA17, hc17, hr17⟩ := pol_atN (hy.ext e14) (i := i) (by omega)
      refine sy_index 23 (o17 + i * 3) (n := y.n) (off := o17) (sz := 3) (i := (i : Int)) (by omega) hA17 (by omega) (by omega) sl40 ?_
      refine sy_ldn 24 r17.cs hc17 ty26 ?_
      refine sy_call 25 71 [r16.v, r17.v] ?_
      intro w18 u18 e18 d18
      have k21 := k_rqSame d18 (hr16.ext e18) (hr17.ext e18)
      with_reducible refine Post.mono k21 ?_
      clear k21
      rintro _ u19 g20 rfl
      refine sy_pure 26 (.v (.bool (!(decide ((l.getD i 0) = (m.getD i 0)))))) ?_
      refine sy_next 27 [(0, .v (.slice x.a x.n x.c)), (1, .v (.slice y.a y.n y.c)), (5, .v (.int .i64 (i : Int))), (26, .v (.bool (!(decide ((l.getD i 0) = (m.getD i 0))))))] [] ?_
      refine sw_cond (b := !(decide ((l.getD i 0) = (m.getD i 0)))) (by kernel_rfl) (fun hb22 => ?_) (fun hb22 => ?_)
      · replace hb22 : (!(decide ((l.getD i 0) = (m.getD i 0)))) = true := hb22
        refine sw_seq ?_
        refine sw_reg ?_
        refine sy_pure 4 (.v (.bool false)) ?_
        refine sy_next 27 [(4, .v (.bool false))] [] ?_
        refine sw_ret (mpr_block (mpr_seq (mpr_loop (mpr_block (mpr_seq (ret0 [.bool false] ⟨res_tmp, trivial⟩ fun u23 e24 => ?_))))))
        have e9 : l ≠ m := by intro e; have h9 := hb22; rw [e] at h9; simp at h9
        show Value.bool false = Value.bool _
        rw [decide_eq_false e9]
      · replace hb22 : (!(decide ((l.getD i 0) = (m.getD i 0)))) = false := hb22
        refine sw_skip (mp_seq ?_)
        refine sw_reg ?_
        refine sy_pure 15 (.v (.int .i64 (i : Int))) ?_
        refine sy_eq 16 (x := .v (.int .i64 (IntKind.i64.wrap ((i : Int) + 1)))) (.v (.int .i64 ((i + 1 : Nat) : Int))) (eqI (by rw [IntWalk.i64_in _ (by omega)]; omega)) ?_
        refine sy_pure 5 (.v (.int .i64 ((i + 1 : Nat) : Int))) ?_
        refine sy_end ?_
        refine ⟨_, ?_, St.of 27 [(0, .v (.slice x.a x.n x.c)), (1, .v (.slice y.a y.n y.c)), (5, .v (.int .i64 ((i + 1 : Nat) : Int)))] [], by exact weak_mk _ _ _, i + 1, rfl, by omega, (fun j hj => by by_cases e : j = i; (rw [e]; have h9 := hb22; simpa using h9); exact hz j (by omega)), rfl, (e14.trans (e18.trans g20.ext))⟩
        omega
    · replace hb15 : (decide ((i : Int) < (x.n : Int))) = false := hb15
      have qhb15 := of_decide_eq_false hb15
      refine sw_exit ?_
      refine mp_seq ?_
      refine sw_seq ?_
      refine sw_reg ?_
      refine sy_pure 4 (.v (.bool true)) ?_
      refine sy_next 27 [(4, .v (.bool true))] [] ?_
      refine sw_ret (ret0 [.bool true] ⟨res_tmp, trivial⟩ fun u25 e26 => ?_)
      have e9 : l = m := Nt.list_ext (by omega) (fun j => by by_cases hj : j < i; exact hz j hj; rw [Nt.co_ge (by omega), Nt.co_ge (by omega)])
      show Value.bool true = Value.bool _
      rw [decide_eq_true e9]
theorem k_r5Equal {u w : World} {x : Sl} {l : List Rat} {y : Sl} {m : List Rat} {K M : Nat} (d : Dat u w) (hx : PolN u x l K) (hy : PolN u y m M) (hx9 : l.length ≤ 1000000000) (hy9 : m.length ≤ 1000000000) : Calls Tryz.prog 29 #[x.v, y.v] w (Post u w fun v u' => v = .bool (decide (l = m))) := by
  have hlen := hx.len
  have hlen2 := hy.len
  refine calls_sym (args := [.slice x.a x.n x.c, .slice y.a y.n y.c]) Tryz.func29 rfl Tryz.ntmps29 (rs := [.tmp 4]) Tryz.results29 (le_b rfl) (le_b rfl) d ?_
  refine sw_seq ?_
  refine sw_reg ?_
  refine sy_pure 4 (.v (.bool false)) ?_
  refine sy_next 8 [(0, .v (.slice x.a x.n x.c)), (1, .v (.slice y.a y.n y.c))] [] ?_
  refine sw_seq ?_
  refine sw_reg ?_
  refine sy_pure 5 (.v (.slice x.a x.n x.c)) ?_
  refine sy_pure 6 (.v (.slice y.a y.n y.c)) ?_
  refine sy_call 7 117 [.slice x.a x.n x.c, .slice y.a y.n y.c] ?_
  intro w11 u11 e11 d11
  have k14 := k_sameList d11 (hx.ext e11) (hy.ext e11) (by first | omega | (simp; omega) | (refine Nat.le_trans (Nt.trim_len _) ?_; first | omega | (simp; omega)) | (refine Nat.le_trans (Nt.trim_len _) ?_; simp only [List.length_map]; refine Nat.le_trans (Nt.trim_len _) ?_; first | omega | (simp; omega))) (by first | omega | (simp; omega) | (refine Nat.le_trans (Nt.trim_len _) ?_; first | omega | (simp; omega)) | (refine Nat.le_trans (Nt.trim_len _) ?_; simp only [List.length_map]; refine Nat.le_trans (Nt.trim_len _) ?_; first | omega | (simp; omega)))
  with_reducible refine Post.mono k14 ?_
  clear k14
  rintro _ u12 g13 rfl
  refine sy_pure 4 (.v (.bool (decide (l = m)))) ?_
  refine sy_next 8 [(4, .v (.bool (decide (l = m))))] [] ?_
  refine sw_ret (ret0 [.bool (decide (l = m))] ⟨res_tmp, trivial⟩ fun u15 e16 => ?_)
  rfl
end Go.Proofs.YtnedhbidmfoegaaGreat
namespace Go.Proofs.YtnedhbidmfoegaaGreat
open Go.RowKit
set_option linter.unusedVariables false
namespace Nt
namespace Pol
theorem monic_zero : (0 : Pol).monic = 0 := by unfold monic; rw [mul_zero]
/-- The greatest common divisor of two multiples. -/
theorem IsGcd.mul {p q g : Pol} (h : IsGcd p q g) (r : Pol) : IsGcd (p * r) (q * r) (g * r).monic := by
  obtain ⟨u1, e1⟩ := h.l
  obtain ⟨u2, e2⟩ := h.r
  obtain ⟨s, t, e3⟩ := h.s
  by_cases h0 : g * r = 0
  · rw [h0, monic_zero]
    exact ⟨.inl rfl, ⟨0, by rw [e1]; grind⟩, ⟨0, by rw [e2]; grind⟩, ⟨0, 0, by grind⟩⟩
  · have h1 := lead_ne h0
    have h2 := C_inv h1
    refine ⟨.inr (monic_lead h0), ⟨C (g * r).lead * u1, ?_⟩, ⟨C (g * r).lead * u2, ?_⟩, ⟨C (1 / (g * r).lead) * s, C (1 / (g * r).lead) * t, ?_⟩⟩
    · unfold monic; grind
    · unfold monic; grind
    · unfold monic; grind
theorem npow_zero (p : Pol) : npow p 0 = 1 := rfl
theorem npow_succ (p : Pol) (n : Nat) : npow p (n + 1) = npow p n * p := rfl
end Pol
section
variable {l m : List Rat} {D E A B n : Nat}
theorem Sm.npow (h : Sm l D A) (n : Nat) : Sm (Pol.npow (Pol.mk' l) n).l (D ^ n) (n * (A + l.length)) := by
  induction n with
  | zero =>
    rw [Pol.npow_zero, Nat.pow_zero, Nat.zero_mul]
    exact (show Sm (List.map (fun z : Int => (z : Rat)) [1]) 1 0 from Sm.ofInts (by decide)).trim
  | succ n ih =>
    rw [Pol.npow_succ, Nat.pow_succ, Nat.add_mul, Nat.one_mul]
    have h9 := (ih.mulR (h.trim : Sm (Pol.mk' l).l D A)).trim.more (B := n * (A + l.length) + (A + l.length)) (by have h8 := trim_len l; change _ + A + (trimQ l).length ≤ _; omega)
    exact h9
theorem len_of_co {a : Nat} (h : ∀ i, a ≤ i → Nt.co l i = 0) : (trimQ l).length ≤ a := Pol.len_le (p := Pol.mk' l) fun i hi => by rw [Pol.mk_c]; exact h i hi
theorem mul_lenQ {a b : Nat} (h1 : l.length ≤ a) (h2 : m.length ≤ b) : (trimQ (mulQ l m)).length ≤ a + b - 1 := len_of_co fun i hi => mulQ_far (by omega)
theorem add_lenQ {a b : Nat} (h1 : l.length ≤ a) (h2 : m.length ≤ b) : (trimQ (addQ l m)).length ≤ max a b := Nat.le_trans (trim_len _) (by rw [addQ_len]; omega)
end
end Nt
end Go.Proofs.YtnedhbidmfoegaaGreat
namespace Go.Proofs.YtnedhbidmfoegaaGreat
open Go.RowKit
set_option linter.unusedVariables false
namespace Nt
/-- A number made of an integer. -/
def mkR (n : Int) : Rat := (((n % 25 - 12 : Int)) : Rat) / (((1 + n.tdiv 25 % 8 : Int)) : Rat)
theorem frac_mul {a b c : Int} (hb : b ≠ 0) : (a : Rat) / (b : Rat) * ((b * c : Int) : Rat) = ((a * c : Int) : Rat) := by
  rw [Rat.intCast_mul, Rat.intCast_mul]
  have : (b : Rat) ≠ 0 := fun e => hb (Rat.intCast_inj.1 (show (b : Rat) = ((0 : Int) : Rat) from e))
  grind
theorem mkR_wh (n : Int) : Wh (mkR n * (((840 : Nat) : Int) : Rat)) 14 := by
  have h1 := Int.emod_nonneg n (show (25 : Int) ≠ 0 by decide)
  have h2 := Int.emod_lt_of_pos n (show (0 : Int) < 25 by decide)
  have h3 := Int.emod_nonneg (n.tdiv 25) (show (8 : Int) ≠ 0 by decide)
  have h4 := Int.emod_lt_of_pos (n.tdiv 25) (show (0 : Int) < 8 by decide)
  unfold mkR
  obtain ⟨a, ha⟩ : ∃ a, n % 25 - 12 = a := ⟨_, rfl⟩
  obtain ⟨b, hb⟩ : ∃ b, 1 + n.tdiv 25 % 8 = b := ⟨_, rfl⟩
  rw [ha, hb]
  obtain ⟨c, hc, hc1, hc2⟩ : ∃ c : Int, ((840 : Nat) : Int) = b * c ∧ 0 ≤ c ∧ c ≤ 840 := by
    rcases (by omega : b = 1 ∨ b = 2 ∨ b = 3 ∨ b = 4 ∨ b = 5 ∨ b = 6 ∨ b = 7 ∨ b = 8) with rfl | rfl | rfl | rfl | rfl | rfl | rfl | rfl
    · exact ⟨840, by decide, by decide, by decide⟩
    · exact ⟨420, by decide, by decide, by decide⟩
    · exact ⟨280, by decide, by decide, by decide⟩
    · exact ⟨210, by decide, by decide, by decide⟩
    · exact ⟨168, by decide, by decide, by decide⟩
    · exact ⟨140, by decide, by decide, by decide⟩
    · exact ⟨120, by decide, by decide, by decide⟩
    · exact ⟨105, by decide, by decide, by decide⟩
  refine ⟨a * c, ?_, ?_⟩
  · rw [hc]; exact frac_mul (by omega)
  · rw [Int.natAbs_mul]
    exact Nat.le_trans (Nat.mul_le_mul (show a.natAbs ≤ 12 by omega) (show c.natAbs ≤ 840 by omega)) (by decide)
theorem mkR_rs (n : Int) : rs (mkR n) ≤ 1 := wh_rs (A := 14) (by omega) (mkR_wh n) (by decide)
/-- The polynomial made of a list. -/
def mkP (l : List Int) (d : Nat) : List Rat := trimQ ((l.take (d + 1)).map mkR)
theorem mkP_len (l : List Int) (d : Nat) : (mkP l d).length ≤ d + 1 := Nat.le_trans (trim_len _) (by simp; omega)
theorem mkP_nrm (l : List Int) (d : Nat) : Nrm (mkP l d) := trim_nrm _
theorem mkP_sm (l : List Int) (d : Nat) : Sm (mkP l d) 840 14 := Sm.trim (Sm.ofAll (by omega) (fun x hx => by
  obtain ⟨z, _, rfl⟩ := List.mem_map.1 hx
  exact mkR_wh z))
section
variable {p q : List Rat} {u v x y : Pol}
end
end Nt
end Go.Proofs.YtnedhbidmfoegaaGreat
namespace Go.Proofs.YtnedhbidmfoegaaGreat
open Go.RowKit
set_option linter.unusedVariables false
section
variable {P : Program} {ops : Array Oper} {w0 : Base} {u0 : World} {S : St} {u u' w : World} {o : Oper} {p : List Tmp} {seq : Bool} {rest : List (Oper × List Tmp)} {K : St → World → Prop}
theorem unwantedU {g : Nat} {b : Bool} {t : Tmp} (h : o.guard = some (g, b)) (ht : (ops[g]?).bind (·.dst) = some t) (hS : S.reg t = some (.v undef)) : ∀ B a, RegOK S B a → Want ops o a false := fun B a hr => by
  have := hr.reg t _ hS
  simp [Want, Region.wanted, h, yielded, ht, this, SV.conc, undef]
end
section
variable {u u' : World} {A : Option Addr} {n c i : Nat} {l : List Int} {k : IntKind}
theorem ints_at (h : SlR k u A n c l) (hi : i < n) : ∃ b o, A = some ⟨b, o, none⟩ ∧ u.cell? ⟨b, o + i * 1, none⟩ = some (.int k (l.getD i 0)) := by
  obtain ⟨h1, h2, h3, h4⟩ := h
  obtain ⟨b, o, e, _, hc⟩ := h4 (by omega)
  exact ⟨b, o, e, by rw [Nat.mul_one]; exact hc i hi⟩
theorem ints_take (h : SlR k u A n c l) {m : Nat} (hm : m ≤ n) : SlR k u A m c (l.take m) := by
  obtain ⟨h1, h2, h3, h4⟩ := h
  refine ⟨by rw [List.length_take]; omega, by omega, h3, fun hp => ?_⟩
  obtain ⟨b, o, e, hb, hc⟩ := h4 (by omega)
  exact ⟨b, o, e, hb, fun i hi => by rw [List.getElem?_take_of_lt hi]; exact hc i (by omega)⟩
theorem ints_bd {lo hi : Int} (h : ∀ z ∈ l, lo ≤ z ∧ z ≤ hi) (h0 : lo ≤ 0 ∧ 0 ≤ hi) (i : Nat) : lo ≤ l.getD i 0 ∧ l.getD i 0 ≤ hi := by
  rw [List.getD_eq_getElem?_getD]
  cases e : l[i]? with
  | none => exact h0
  | some z => exact h z (List.mem_of_getElem? e)
theorem bd_take {lo hi : Int} (h : ∀ z ∈ l, lo ≤ z ∧ z ≤ hi) (m : Nat) : ∀ z ∈ l.take m, lo ≤ z ∧ z ≤ hi := fun z hz => h z (List.mem_of_mem_take hz)
end
end Go.Proofs.YtnedhbidmfoegaaGreat
namespace Go.Proofs.YtnedhbidmfoegaaGreat
open Go.RowKit
set_option linter.unusedVariables false
theorem tdiv25 {n : Int} (h0 : -9223372036854775808 ≤ n) (h1 : n ≤ 9223372036854775807) : -9223372036854775808 ≤ n.tdiv 25 ∧ n.tdiv 25 ≤ 9223372036854775807 := by
  have h := Int.natAbs_tdiv n 25
  change (n.tdiv 25).natAbs = n.natAbs / 25 at h
  omega
theorem k_mkRat {u w : World} {n : Int} (d : Dat u w) (hn0 : -9223372036854775808 ≤ n) (hn1 : n ≤ 9223372036854775807) : Calls Tryz.prog 47 #[.int .i64 n] w (Post u w fun v u' => ∃ r : RL, v = r.v ∧ RatN u' r (Nt.mkR n) 1) := by
  have htd := tdiv25 hn0 hn1
  refine calls_sym (args := [.int .i64 n]) Tryz.func47 rfl Tryz.ntmps47 (rs := [.cell 2 26]) Tryz.results47 (le_b rfl) (le_b rfl) d ?_
  refine sw_seq ?_
  refine sw_reg ?_
  refine sy_new 2 ⟨26, [.bool false, .slice none 0 0, .slice none 0 0]⟩ ?_
  refine sy_next 11 [(0, .v (.int .i64 n)), (2, .adr 2 0)] [(2, ⟨26, [.bool false, .slice none 0 0, .slice none 0 0]⟩)] ?_
  refine sw_seq ?_
  refine sw_reg ?_
  refine sy_pure 3 (.v (.int .i64 n)) ?_
  refine sy_call 4 50 [.int .i64 n, .int .i64 25] ?_
  intro w11 u11 e11 d11
  have k14 := k_Mod d11 (n := n) (m := 25) (by omega) (by omega) (by omega) (by omega)
  with_reducible refine Post.mono k14 ?_
  clear k14
  rintro _ u12 g13 rfl
  refine sy_eq 5 (x := .v (.int .i64 (IntKind.i64.wrap ((n % 25) - 12)))) (.v (.int .i64 ((n % 25) - 12))) (by rw [IntWalk.i64_in _ (by omega)]) ?_
  refine sy_pure 6 (.v (.int .i64 n)) ?_
  refine sy_quo 7 (n.tdiv 25) (by decide) (IntWalk.i64_in _ (by omega)) ?_
  refine sy_call 8 50 [.int .i64 (Int.tdiv n 25), .int .i64 8] ?_
  intro w15 u15 e15 d15
  have k18 := k_Mod d15 (n := Int.tdiv n 25) (m := 8) (by omega) (by omega) (by omega) (by omega)
  with_reducible refine Post.mono k18 ?_
  clear k18
  rintro _ u16 g17 rfl
  refine sy_eq 9 (x := .v (.int .i64 (IntKind.i64.wrap ((1 : Int) + ((Int.tdiv n 25) % 8))))) (.v (.int .i64 ((1 : Int) + ((Int.tdiv n 25) % 8)))) (by rw [IntWalk.i64_in _ (by omega)]) ?_
  refine sy_call 10 49 [.int .i64 ((n % 25) - 12), .int .i64 ((1 : Int) + ((Int.tdiv n 25) % 8))] ?_
  intro w19 u19 e19 d19
  have k24 := k_rqFrac d19 (a := (n % 25) - 12) (b := (1 : Int) + ((Int.tdiv n 25) % 8)) (by omega) (by omega) (by omega) (by omega)
  with_reducible refine Post.mono k24 ?_
  clear k24
  rintro _ u22 g23 ⟨r20, rfl, h21⟩
  refine sy_store ⟨26, r20.cs⟩ ty26 ?_
  refine sy_next 11 [(2, .adr 2 0)] [(2, ⟨26, r20.cs⟩)] ?_
  refine sw_ret (ret0 [r20.v] ⟨res_cell ty26 part_agg, trivial⟩ fun u25 e26 => ?_)
  refine ⟨r20, rfl, RatN.fit (K := 3) ?_ (Nt.mkR_rs n)⟩
  exact (h21.ext e26)
set_option maxHeartbeats 1000000 in
theorem k_mkRats {u w : World} {x : Sl} {l : List Int} (d : Dat u w) (hx : SlR .i64 u x.a x.n x.c l) (hb : ∀ z ∈ l, -9223372036854775808 ≤ z ∧ z ≤ 9223372036854775807) (hx9 : l.length ≤ 1000000000) : Calls Tryz.prog 121 #[x.v] w (Post u w fun v u' => ∃ y : Sl, v = y.v ∧ PolN u' y (l.map Nt.mkR) 1) := by
  have hlen : l.length = x.n := hx.1
  refine calls_sym (args := [.slice x.a x.n x.c]) Tryz.func121 rfl Tryz.ntmps121 (rs := [.tmp 2]) Tryz.results121 (le_b rfl) (le_b rfl) d ?_
  refine sw_seq ?_
  refine sw_reg ?_
  refine sy_pure 2 (.v (.slice none 0 0)) ?_
  refine sy_next 19 [(0, .v (.slice x.a x.n x.c))] [] ?_
  refine sw_seq ?_
  refine sw_reg ?_
  refine sy_pure 3 (.v (.slice none 0 0)) ?_
  refine sy_next 19 [(0, .v (.slice x.a x.n x.c)), (3, .v (.slice none 0 0))] [] ?_
  refine sw_seq ?_
  refine sw_seq ?_
  refine sw_reg ?_
  refine sy_pure 6 (.v (.slice x.a x.n x.c)) ?_
  refine sy_pure 7 (.v (.int .i64 (x.n : Int))) ?_
  refine sy_pure 8 (.v (.int .i64 0)) ?_
  refine sy_next 19 [(3, .v (.slice none 0 0)), (6, .v (.slice x.a x.n x.c)), (7, .v (.int .i64 (x.n : Int))), (8, .v (.int .i64 0))] [] ?_
  refine sw_block ?_
  refine sw_loop (I := fun m11 S' u' => (m11 = x.n ∧ S' = St.of 19 [(3, .v (.slice none 0 0)), (6, .v (.slice x.a x.n x.c)), (7, .v (.int .i64 (x.n : Int))), (8, .v (.int .i64 0))] [] ∧ Ext u u') ∨ (∃ (i : Nat) (L : List RL) (cs : List Value) (cp : Nat), m11 = x.n - i ∧ i ≤ x.n ∧ 0 < i ∧ L.length = i ∧ cs.length = cp * 3 ∧ i ≤ cp ∧ cp ≤ maxLen ∧ cs.take (i * 3) = rcs L ∧ S' = St.of 19 [(3, .slc 16 0 i cp), (6, .v (.slice x.a x.n x.c)), (7, .v (.int .i64 (x.n : Int))), (8, .v (.int .i64 (i : Int)))] [(16, ⟨26, cs⟩)] ∧ Ext u u' ∧ RatsN u' L ((l.map Nt.mkR).take i) 1)) (fun m S u1 u2 e h => by rcases h with ⟨a, b, c⟩ | ⟨a1, a2, a3, a4, b1, b2, b3, b4, b5, b6, b7, b8, b9, b10, b11⟩; exact .inl ⟨a, b, c.trans e⟩; exact .inr ⟨a1, a2, a3, a4, b1, b2, b3, b4, b5, b6, b7, b8, b9, b10.trans e, b11.ext e⟩) _ (T := St.of 19 [(3, .v (.slice none 0 0)), (6, .v (.slice x.a x.n x.c)), (7, .v (.int .i64 (x.n : Int))), (8, .v (.int .i64 0))] []) (by exact weak_mk _ _ _) (.inl ⟨rfl, rfl, Ext.refl _⟩) ?_
  rintro m11 _ u11 (⟨hm11, rfl, e11⟩ | ⟨i, L, cs, cp, hm11, hi, hp, hL, hc, hle, hmx, ht, rfl, e11, hR⟩)
  · change SW _ _ _ _ (St.of 19 [(3, .v (.slice none 0 0)), (6, .v (.slice x.a x.n x.c)), (7, .v (.int .i64 (x.n : Int))), (8, .v (.int .i64 0))] []) _ _
    refine sw_seq ?_
    refine sw_reg ?_
    refine sy_pure 9 (.v (.bool (decide ((0 : Int) < (x.n : Int))))) ?_
    refine sy_next 19 [(3, .v (.slice none 0 0)), (6, .v (.slice x.a x.n x.c)), (7, .v (.int .i64 (x.n : Int))), (8, .v (.int .i64 0)), (9, .v (.bool (decide ((0 : Int) < (x.n : Int)))))] [] ?_
    refine sw_seq ?_
    refine sw_cond (b := decide ((0 : Int) < (x.n : Int))) (by kernel_rfl) (fun hb12 => ?_) (fun hb12 => ?_)
    · replace hb12 : (decide ((0 : Int) < (x.n : Int))) = true := hb12
      have qhb12 := of_decide_eq_true hb12
      refine sw_skip (mp_seq ?_)
      refine sw_seq ?_
      refine sw_block ?_
      refine sw_seq ?_
      refine sw_reg ?_
      have hl13 := ((hx.ext e11)).1
      obtain ⟨b13, o13, hA13, hc13⟩ := ints_at (hx.ext e11) (i := 0) (by omega)
      have hz13 := ints_bd hb (by omega) 0
      refine sy_index 10 (o13 + 0 * 1) (n := x.n) (off := o13) (sz := 1) (i := 0) (by omega) hA13 (by omega) (by omega) sl42 ?_
      refine sy_ld1 11 (.int .i64 (l.getD 0 0)) hc13 ty3 ?_
      refine sy_pure 5 (.v (.int .i64 (l.getD 0 0))) ?_
      refine sy_next 19 [(3, .v (.slice none 0 0)), (5, .v (.int .i64 (l.getD 0 0))), (6, .v (.slice x.a x.n x.c)), (7, .v (.int .i64 (x.n : Int))), (8, .v (.int .i64 0))] [] ?_
      refine sw_reg ?_
      refine sy_pure 12 (.v (.slice none 0 0)) ?_
      refine sy_pure 13 (.v (.int .i64 (l.getD 0 0))) ?_
      refine sy_call 14 47 [.int .i64 (l.getD 0 0)] ?_
      intro w14 u14 e14 d14
      have k19 := k_mkRat d14 (n := (l.getD 0 0)) (by omega) (by omega)
      with_reducible refine Post.mono k19 ?_
      clear k19
      rintro _ u17 g18 ⟨r15, rfl, h16⟩
      refine sy_data 15 ⟨26, r15.cs⟩ 1 (fun b20 u21 e22 h23 => ?_)
      have hp24 : PolN u21 (⟨some ⟨b20, 0, none⟩, 1, 1⟩ : Sl) [(Nt.mkR (l.getD 0 0))] 1 := pol_lit (L := [r15]) h23 (rats1 (h16.ext e22)) rfl (by decide)
      refine sy_app0 16 (T := 40) (E := 26) (z := .agg #[.bool false, .slice none 0 0, .slice none 0 0]) (size := 3) (bytes := 56) (b := b20) (off := 0) (m := 1) r15.cs (by kernel_rfl) (by kernel_rfl) (by kernel_rfl) (by decide) rfl (lit_news ((Ext.refl _).cells h23)) (rl_one r15) (by decide) (by decide) (by decide) ?_
      intro c25 cs25 ha25 hb25 hc25 hd25
      refine sy_pure 3 (.slc 16 0 1 c25) ?_
      refine sy_end ?_
      refine mp_seq ?_
      refine sw_reg ?_
      refine sy_pure 17 (.v (.int .i64 1)) ?_
      refine sy_pure 8 (.v (.int .i64 1)) ?_
      refine sy_end ?_
      have ht26 : 0 < (l.map Nt.mkR).length := by rw [List.length_map]; omega
      refine ⟨_, ?_, St.of 19 [(3, .slc 16 0 1 c25), (6, .v (.slice x.a x.n x.c)), (7, .v (.int .i64 (x.n : Int))), (8, .v (.int .i64 1))] [(16, ⟨26, cs25⟩)], by exact weak_mk _ _ _, .inr ⟨1, [r15], cs25, c25, rfl, by omega, by omega, by simp, hc25, by omega, hb25, hd25, rfl, (e11.trans (e14.trans (g18.ext.trans e22))), (app_first (RatN.more (K := 1) (h16.ext e22) (by omega)) ht26 (by simp [List.getElem?_eq_getElem (show 0 < l.length by omega)]))⟩⟩
      omega
    · replace hb12 : (decide ((0 : Int) < (x.n : Int))) = false := hb12
      have qhb12 := of_decide_eq_false hb12
      refine sw_exit ?_
      refine mp_seq ?_
      refine sw_seq ?_
      have hp27 : PolN u11 ⟨none, 0, 0⟩ (l.map Nt.mkR) 1 := by have h9 : l.map Nt.mkR = [] := List.eq_nil_of_length_eq_zero (by rw [List.length_map]; omega); rw [h9]; exact pol_nil _ _
      refine sw_reg ?_
      refine sy_pure 18 (.v (.slice none 0 0)) ?_
      refine sy_pure 2 (.v (.slice none 0 0)) ?_
      refine sy_next 19 [(2, .v (.slice none 0 0))] [] ?_
      refine sw_ret (ret0 [.slice none 0 0] ⟨res_tmp, trivial⟩ fun u28 e29 => ?_)
      refine ⟨⟨none, 0, 0⟩, rfl, ?_⟩
      exact (hp27.ext e29)
  · change SW _ _ _ _ (St.of 19 [(3, .slc 16 0 i cp), (6, .v (.slice x.a x.n x.c)), (7, .v (.int .i64 (x.n : Int))), (8, .v (.int .i64 (i : Int)))] [(16, ⟨26, cs⟩)]) _ _
    refine sw_seq ?_
    refine sw_reg ?_
    refine sy_pure 9 (.v (.bool (decide ((i : Int) < (x.n : Int))))) ?_
    refine sy_next 19 [(3, .slc 16 0 i cp), (6, .v (.slice x.a x.n x.c)), (7, .v (.int .i64 (x.n : Int))), (8, .v (.int .i64 (i : Int))), (9, .v (.bool (decide ((i : Int) < (x.n : Int)))))] [(16, ⟨26, cs⟩)] ?_
    refine sw_seq ?_
    refine sw_cond (b := decide ((i : Int) < (x.n : Int))) (by kernel_rfl) (fun hb30 => ?_) (fun hb30 => ?_)
    · replace hb30 : (decide ((i : Int) < (x.n : Int))) = true := hb30
      have qhb30 := of_decide_eq_true hb30
      refine sw_skip (mp_seq ?_)
      refine sw_seq ?_
      refine sw_block ?_
      refine sw_seq ?_
      refine sw_reg ?_
      have hl31 := ((hx.ext e11)).1
      obtain ⟨b31, o31, hA31, hc31⟩ := ints_at (hx.ext e11) (i := i) (by omega)
      have hz31 := ints_bd hb (by omega) i
      refine sy_index 10 (o31 + i * 1) (n := x.n) (off := o31) (sz := 1) (i := (i : Int)) (by omega) hA31 (by omega) (by omega) sl42 ?_
      refine sy_ld1 11 (.int .i64 (l.getD i 0)) hc31 ty3 ?_
      refine sy_pure 5 (.v (.int .i64 (l.getD i 0))) ?_
      refine sy_next 19 [(3, .slc 16 0 i cp), (5, .v (.int .i64 (l.getD i 0))), (6, .v (.slice x.a x.n x.c)), (7, .v (.int .i64 (x.n : Int))), (8, .v (.int .i64 (i : Int)))] [(16, ⟨26, cs⟩)] ?_
      refine sw_reg ?_
      refine sy_pure 12 (.slc 16 0 i cp) ?_
      refine sy_pure 13 (.v (.int .i64 (l.getD i 0))) ?_
      refine sy_call 14 47 [.int .i64 (l.getD i 0)] ?_
      intro w32 u32 e32 d32
      have k37 := k_mkRat d32 (n := (l.getD i 0)) (by omega) (by omega)
      with_reducible refine Post.mono k37 ?_
      clear k37
      rintro _ u35 g36 ⟨r33, rfl, h34⟩
      refine sy_data 15 ⟨26, r33.cs⟩ 1 (fun b38 u39 e40 h41 => ?_)
      have hp42 : PolN u39 (⟨some ⟨b38, 0, none⟩, 1, 1⟩ : Sl) [(Nt.mkR (l.getD i 0))] 1 := pol_lit (L := [r33]) h41 (rats1 (h34.ext e40)) rfl (by decide)
      refine sy_app1 16 (T := 40) (E := 26) (z := .agg #[.bool false, .slice none 0 0, .slice none 0 0]) (size := 3) (bytes := 56) (b := b38) (off := 0) (m := 1) (n := i) (cap := cp) (t := 16) (cs0 := cs) [3, 12, 16] r33.cs (by kernel_rfl) (by kernel_rfl) (by kernel_rfl) (by decide) rfl (lit_news ((Ext.refl _).cells h41)) (rl_one r33) (by decide) (by unfold maxLen; omega) (by omega) (by omega) (by omega) (by omega) (by repeat first | exact noAt_of | refine noAt_set ?_ | refine noAt_lit ?_ | refine noAt_new ?_ | refine noAt_setVar ?_ | refine noAt_unpub ?_) ?_
      intro c43 cs43 ha43 hb43 hc43 hd43
      have hd43r : cs43.take ((i + 1) * 3) = rcs (L ++ [r33]) := by rw [hd43, ht, rcs_app]; rfl
      refine sy_pure 3 (.slc 16 0 (i + 1) c43) ?_
      refine sy_end ?_
      refine mp_seq ?_
      refine sw_reg ?_
      refine sy_eq 17 (x := .v (.int .i64 (IntKind.i64.wrap ((i : Int) + 1)))) (.v (.int .i64 ((i + 1 : Nat) : Int))) (eqI (by rw [IntWalk.i64_in _ (by omega)]; omega)) ?_
      refine sy_pure 8 (.v (.int .i64 ((i + 1 : Nat) : Int))) ?_
      refine sy_end ?_
      have ht44 : i < (l.map Nt.mkR).length := by rw [List.length_map]; omega
      refine ⟨_, ?_, St.of 19 [(3, .slc 16 0 (i + 1) c43), (6, .v (.slice x.a x.n x.c)), (7, .v (.int .i64 (x.n : Int))), (8, .v (.int .i64 ((i + 1 : Nat) : Int)))] [(16, ⟨26, cs43⟩)], by exact weak_mk _ _ _, .inr ⟨i + 1, L ++ [r33], cs43, c43, rfl, by omega, by omega, by simp; omega, hc43, by omega, hb43, hd43r, rfl, (e11.trans (e32.trans (g36.ext.trans e40))), (app_next (hR.ext (e32.trans (g36.ext.trans e40))) (RatN.more (K := 1) (h34.ext e40) (by omega)) ht44 (by simp [List.getElem?_eq_getElem (show i < l.length by omega)]))⟩⟩
      omega
    · replace hb30 : (decide ((i : Int) < (x.n : Int))) = false := hb30
      have qhb30 := of_decide_eq_false hb30
      refine sw_exit ?_
      refine mp_seq ?_
      refine sw_seq ?_
      refine sw_pub (r := 3) (t := 16) [3, 16] (by repeat first | exact noAt_of | refine noAt_set ?_ | refine noAt_lit ?_ | refine noAt_new ?_ | refine noAt_setVar ?_ | refine noAt_unpub ?_) (by kernel_rfl) (by rfl) (by rfl) (by kernel_rfl) (fun b46 u47 e48 hb49 hh50 => ?_)
      have hp45 : PolN u47 ⟨some ⟨b46, 0, none⟩, i, cp⟩ (l.map Nt.mkR) 1 := by have h8 := pol_data hh50 ht hc hle hmx (hR.ext e48); rw [List.take_of_length_le (l := l.map Nt.mkR) (by rw [List.length_map]; omega)] at h8; exact h8
      refine sw_reg ?_
      refine sy_pure 18 (.v (.slice (some ⟨b46, 0, none⟩) i cp)) ?_
      refine sy_pure 2 (.v (.slice (some ⟨b46, 0, none⟩) i cp)) ?_
      refine sy_next 19 [(2, .v (.slice (some ⟨b46, 0, none⟩) i cp))] [] ?_
      refine sw_ret (ret0 [.slice (some ⟨b46, 0, none⟩) i cp] ⟨res_tmp, trivial⟩ fun u51 e52 => ?_)
      refine ⟨(⟨some ⟨b46, 0, none⟩, i, cp⟩ : Sl), rfl, ?_⟩
      exact (hp45.ext e52)
set_option maxHeartbeats 1000000 in
theorem k_mkPoly {u w : World} {x : Sl} {l : List Int} {D : Nat} (d : Dat u w) (hx : SlR .i64 u x.a x.n x.c l) (hb : ∀ z ∈ l, -9223372036854775808 ≤ z ∧ z ≤ 9223372036854775807) (hD : D ≤ 1000) : Calls Tryz.prog 39 #[x.v, .int .i64 (D : Int)] w (Post u w fun v u' => ∃ y : Sl, v = y.v ∧ PolN u' y (Nt.mkP l D) 1) := by
  have hlen : l.length = x.n := hx.1
  have hmx : x.n ≤ maxLen := Nat.le_trans hx.2.1 hx.2.2.1
  unfold maxLen at hmx
  refine calls_sym (args := [.slice x.a x.n x.c, .int .i64 (D : Int)]) Tryz.func39 rfl Tryz.ntmps39 (rs := [.tmp 4]) Tryz.results39 (le_b rfl) (le_b rfl) d ?_
  refine sw_seq ?_
  refine sw_reg ?_
  refine sy_pure 4 (.v (.slice none 0 0)) ?_
  refine sy_next 17 [(0, .v (.slice x.a x.n x.c)), (1, .v (.int .i64 (D : Int)))] [] ?_
  refine sw_seq ?_
  refine sw_seq ?_
  refine sw_reg ?_
  refine sy_pure 5 (.v (.slice x.a x.n x.c)) ?_
  refine sy_pure 6 (.v (.int .i64 (x.n : Int))) ?_
  refine sy_pure 7 (.v (.int .i64 (D : Int))) ?_
  refine sy_eq 8 (x := .v (.int .i64 (IntKind.i64.wrap ((D : Int) + 1)))) (.v (.int .i64 ((D + 1 : Nat) : Int))) (eqI (by rw [IntWalk.i64_in _ (by omega)]; omega)) ?_
  refine sy_pure 9 (.v (.bool (decide (((D + 1 : Nat) : Int) < (x.n : Int))))) ?_
  refine sy_next 17 [(0, .v (.slice x.a x.n x.c)), (1, .v (.int .i64 (D : Int))), (9, .v (.bool (decide (((D + 1 : Nat) : Int) < (x.n : Int)))))] [] ?_
  refine sw_cond (b := decide (((D + 1 : Nat) : Int) < (x.n : Int))) (by kernel_rfl) (fun hb11 => ?_) (fun hb11 => ?_)
  · replace hb11 : (decide (((D + 1 : Nat) : Int) < (x.n : Int))) = true := hb11
    have qhb11 := of_decide_eq_true hb11
    refine sw_reg ?_
    refine sy_pure 10 (.v (.slice x.a x.n x.c)) ?_
    refine sy_pure 11 (.v (.int .i64 (D : Int))) ?_
    refine sy_eq 12 (x := .v (.int .i64 (IntKind.i64.wrap ((D : Int) + 1)))) (.v (.int .i64 ((D + 1 : Nat) : Int))) (eqI (by rw [IntWalk.i64_in _ (by omega)]; omega)) ?_
    have hl12 := (hx).1
    have hc12 := (hx).2.1
    refine sy_front 13 (n := x.n) (c := x.c) (D + 1) sl42 rfl (by omega) ?_
    refine sy_pure 0 (.v (.slice x.a (D + 1) x.c)) ?_
    refine sy_next 17 [(0, .v (.slice x.a (D + 1) x.c))] [] ?_
    refine sw_seq ?_
    refine sw_reg ?_
    refine sy_pure 14 (.v (.slice x.a (D + 1) x.c)) ?_
    refine sy_call 15 121 [.slice x.a (D + 1) x.c] ?_
    intro w13 u13 e13 d13
    have k18 := k_mkRats (x := (⟨x.a, D + 1, x.c⟩ : Sl)) d13 ((ints_take (m := (D + 1)) hx (by omega)).ext e13) (bd_take hb (D + 1)) (by have h9 := (((ints_take (m := (D + 1)) hx (by omega)).ext e13)).1; first | omega | (simp; omega))
    with_reducible refine Post.mono k18 ?_
    clear k18
    rintro _ u16 g17 ⟨y14, rfl, h15⟩
    have hly14 := h15.len
    rw [List.length_map] at hly14
    refine sy_call 16 87 [.slice y14.a y14.n y14.c] ?_
    intro w19 u19 e19 d19
    have k24 := k_r5Trim d19 (h15.ext e19).raw (by omega) (by first | omega | (simp; omega) | (refine Nat.le_trans (Nt.trim_len _) ?_; first | omega | (simp; omega)) | (refine Nat.le_trans (Nt.trim_len _) ?_; simp only [List.length_map]; refine Nat.le_trans (Nt.trim_len _) ?_; first | omega | (simp; omega)))
    with_reducible refine Post.mono k24 ?_
    clear k24
    rintro _ u22 g23 ⟨y20, rfl, h21⟩
    have hly20 := h21.len
    refine sy_pure 4 (.v (.slice y20.a y20.n y20.c)) ?_
    refine sy_next 17 [(4, .v (.slice y20.a y20.n y20.c))] [] ?_
    refine sw_ret (ret0 [.slice y20.a y20.n y20.c] ⟨res_tmp, trivial⟩ fun u25 e26 => ?_)
    have e9 : Nt.mkP l D = (Nt.trimQ ((l.take (D + 1)).map Nt.mkR)) := rfl
    rw [e9]
    exact ⟨y20, rfl, (h21.ext e26)⟩
  · replace hb11 : (decide (((D + 1 : Nat) : Int) < (x.n : Int))) = false := hb11
    have qhb11 := of_decide_eq_false hb11
    refine sw_skip (mp_seq ?_)
    refine sw_seq ?_
    refine sw_reg ?_
    refine sy_pure 14 (.v (.slice x.a x.n x.c)) ?_
    refine sy_call 15 121 [.slice x.a x.n x.c] ?_
    intro w27 u27 e27 d27
    have k32 := k_mkRats (x := x) d27 (hx.ext e27) hb (by have h9 := ((hx.ext e27)).1; first | omega | (simp; omega))
    with_reducible refine Post.mono k32 ?_
    clear k32
    rintro _ u30 g31 ⟨y28, rfl, h29⟩
    have hly28 := h29.len
    rw [List.length_map] at hly28
    refine sy_call 16 87 [.slice y28.a y28.n y28.c] ?_
    intro w33 u33 e33 d33
    have k38 := k_r5Trim d33 (h29.ext e33).raw (by omega) (by first | omega | (simp; omega) | (refine Nat.le_trans (Nt.trim_len _) ?_; first | omega | (simp; omega)) | (refine Nat.le_trans (Nt.trim_len _) ?_; simp only [List.length_map]; refine Nat.le_trans (Nt.trim_len _) ?_; first | omega | (simp; omega)))
    with_reducible refine Post.mono k38 ?_
    clear k38
    rintro _ u36 g37 ⟨y34, rfl, h35⟩
    have hly34 := h35.len
    refine sy_pure 4 (.v (.slice y34.a y34.n y34.c)) ?_
    refine sy_next 17 [(4, .v (.slice y34.a y34.n y34.c))] [] ?_
    refine sw_ret (ret0 [.slice y34.a y34.n y34.c] ⟨res_tmp, trivial⟩ fun u39 e40 => ?_)
    have e9 : Nt.mkP l D = (Nt.trimQ (l.map Nt.mkR)) := by unfold Nt.mkP; rw [List.take_of_length_le (by omega)]
    rw [e9]
    exact ⟨y34, rfl, (h35.ext e40)⟩
end Go.Proofs.YtnedhbidmfoegaaGreat
namespace Go.Proofs.YtnedhbidmfoegaaGreat.Nt
open Go.RowKit
open Pol
set_option linter.unusedVariables false
theorem awake_dm {q r : Pol} (h : mk' [((0 : Int) : Rat), ((0 : Int) : Rat), ((1 : Int) : Rat)] = q * mk' [(((-1) : Int) : Rat), ((1 : Int) : Rat)] + r) (hr : r.len < (mk' [(((-1) : Int) : Rat), ((1 : Int) : Rat)]).len) :
    q.l = [((1 : Int) : Rat), ((1 : Int) : Rat)] ∧ r.l = [((1 : Int) : Rat)] := by
  have e : mk' [((0 : Int) : Rat), ((0 : Int) : Rat), ((1 : Int) : Rat)] = mk' [((1 : Int) : Rat), ((1 : Int) : Rat)] * mk' [(((-1) : Int) : Rat), ((1 : Int) : Rat)] + mk' [((1 : Int) : Rat)] := eqk (by decide +kernel)
  have h9 := div_unique (h.symm.trans e) hr (by decide +kernel)
  rw [h9.1, h9.2]
  exact ⟨by decide +kernel, by decide +kernel⟩
theorem awake_sqf {s : Pol} (h : IsSqf (mk' [((0 : Int) : Rat), ((0 : Int) : Rat), (((-1) : Int) : Rat), ((1 : Int) : Rat)]) s) : s.l = [((0 : Int) : Rat), (((-1) : Int) : Rat), ((1 : Int) : Rat)] := by
  have k : IsSqf (mk' [((0 : Int) : Rat), ((0 : Int) : Rat), (((-1) : Int) : Rat), ((1 : Int) : Rat)]) (mk' [((0 : Int) : Rat), (((-1) : Int) : Rat), ((1 : Int) : Rat)]) :=
    .inr ⟨ne_of_len (by decide +kernel), mk' [0, 1], mk' [0, -1, 1],
      ⟨.inr (by decide +kernel), ⟨mk' [0, -1, 1], eqk (by decide +kernel)⟩, ⟨mk' [-2, 3], eqk (by decide +kernel)⟩, ⟨mk' [-9/2], mk' [-1/2, 3/2], eqk (by decide +kernel)⟩⟩,
      ne_of_len (by decide +kernel), eqk (by decide +kernel), eqk (by decide +kernel)⟩
  rw [h.unique k]
  decide +kernel
end Go.Proofs.YtnedhbidmfoegaaGreat.Nt
namespace Go.Proofs.YtnedhbidmfoegaaGreat
open Go.RowKit
set_option linter.unusedVariables false
set_option maxHeartbeats 4000000 in
theorem k_awake5 {u w : World} (d : Dat u w) : Calls Tryz.prog 26 #[] w (Post u w fun v _ => v = .bool true) := by
  refine calls_sym (args := []) Tryz.func26 rfl Tryz.ntmps26 (rs := [.tmp 0]) Tryz.results26 (le_b rfl) (le_b rfl) d ?_
  refine sw_seq ?_
  refine sw_reg ?_
  refine sy_pure 0 (.v (.bool false)) ?_
  refine sy_next 50 [] [] ?_
  refine sw_seq ?_
  refine sw_reg ?_
  refine sy_call 5 41 [.int .i64 1] ?_
  intro w11 u11 e11 d11
  have k16 := k_rqOf d11 (z := 1) (by omega) (by omega)
  with_reducible refine Post.mono k16 ?_
  clear k16
  rintro _ u14 g15 ⟨r12, rfl, h13⟩
  refine sy_new 1 ⟨26, [.bool false, .slice none 0 0, .slice none 0 0]⟩ ?_
  refine sy_store ⟨26, r12.cs⟩ ty26 ?_
  refine sy_next 50 [(1, .adr 1 0)] [(1, ⟨26, r12.cs⟩)] ?_
  refine sw_seq ?_
  refine sw_any [0, 1, 0, 7, 3, 0, 51, 127, 255, 511, 511, 511, 1023, 6143, 16383] [(2, []), (5, []), (0, []), (1, []), (3, []), (4, []), (6, []), (7, [10, 13]), (8, []), (9, []), (10, []), (11, []), (12, []), (13, []), (14, [])] (by kernel_rfl) (by kernel_rfl) ?_
  refine sy_ldv 9 (.v (r12.v)) ty26 part_agg ?_
  refine sy_ldv 12 (.v (r12.v)) ty26 part_agg ?_
  refine sy_call 7 41 [.int .i64 0] ?_
  intro w17 u17 e17 d17
  have k22 := k_rqOf d17 (z := 0) (by omega) (by omega)
  with_reducible refine Post.mono k22 ?_
  clear k22
  rintro _ u20 g21 ⟨r18, rfl, h19⟩
  refine sy_call 8 41 [.int .i64 0] ?_
  intro w23 u23 e23 d23
  have k28 := k_rqOf d23 (z := 0) (by omega) (by omega)
  with_reducible refine Post.mono k28 ?_
  clear k28
  rintro _ u26 g27 ⟨r24, rfl, h25⟩
  refine sy_lit 10 ⟨26, r18.cs ++ r24.cs ++ r12.cs⟩ 3 ?_
  refine sy_call 11 41 [.int .i64 (-1)] ?_
  intro w29 u29 e29 d29
  have k34 := k_rqOf d29 (z := (-1)) (by omega) (by omega)
  with_reducible refine Post.mono k34 ?_
  clear k34
  rintro _ u32 g33 ⟨r30, rfl, h31⟩
  refine sy_lit 13 ⟨26, r30.cs ++ r12.cs⟩ 2 ?_
  refine sy_give 14 27 [.slc 10 0 3 3, .slc 13 0 2 2] [10, 13] (.inr rfl) (pub_mk (by repeat first | exact noAt_of | refine noAt_set ?_ | refine noAt_lit ?_ | refine noAt_new ?_ | refine noAt_setVar ?_ | refine noAt_unpub ?_)) (k := ?_)
  intro B35 w35 u35 e35 d35 v35
  have h37 : u35.heap[B35 10]? = some (.cells #[.bool r18.s, .slice r18.m.a r18.m.n r18.m.c, .slice r18.d.a r18.d.n r18.d.c, .bool r24.s, .slice r24.m.a r24.m.n r24.m.c, .slice r24.d.a r24.d.n r24.d.c, .bool r12.s, .slice r12.m.a r12.m.n r12.m.c, .slice r12.d.a r12.d.n r12.d.c] 26 (0, 0)) := v35 10 (by simp) _ rfl
  obtain ⟨b36, hBb36⟩ : ∃ b, B35 10 = b := ⟨_, rfl⟩
  rw [hBb36] at h37
  have hp38 : PolN u35 (⟨some ⟨b36, 0, none⟩, 3, 3⟩ : Sl) [((0 : Int) : Rat), ((0 : Int) : Rat), ((1 : Int) : Rat)] 2 := pol_lit (L := [r18, r24, r12]) h37 (rats3 (h19.ext (e23.trans (g27.ext.trans (e29.trans (g33.ext.trans e35))))) (h25.ext (e29.trans (g33.ext.trans e35))) (h13.ext (e17.trans (g21.ext.trans (e23.trans (g27.ext.trans (e29.trans (g33.ext.trans e35)))))))) rfl (by decide)
  have h40 : u35.heap[B35 13]? = some (.cells #[.bool r30.s, .slice r30.m.a r30.m.n r30.m.c, .slice r30.d.a r30.d.n r30.d.c, .bool r12.s, .slice r12.m.a r12.m.n r12.m.c, .slice r12.d.a r12.d.n r12.d.c] 26 (0, 0)) := v35 13 (by simp) _ rfl
  obtain ⟨b39, hBb39⟩ : ∃ b, B35 13 = b := ⟨_, rfl⟩
  rw [hBb39] at h40
  have hp41 : PolN u35 (⟨some ⟨b39, 0, none⟩, 2, 2⟩ : Sl) [(((-1) : Int) : Rat), ((1 : Int) : Rat)] 2 := pol_lit (L := [r30, r12]) h40 (rats2 (h31.ext e35) (h13.ext (e17.trans (g21.ext.trans (e23.trans (g27.ext.trans (e29.trans (g33.ext.trans e35)))))))) rfl (by decide)
  show Calls _ _ #[.slice (some ⟨B35 10, 0, none⟩) 3 3, .slice (some ⟨B35 13, 0, none⟩) 2 2] _ _
  rw [hBb36, hBb39]
  have k45 := k_poDivMod1 (C := 9) d35 hp38.raw hp41.raw (show Nt.trimQ [(((-1) : Int) : Rat), ((1 : Int) : Rat)] ≠ [] by decide +kernel) ((show Nt.Sm [((0 : Int) : Rat), ((0 : Int) : Rat), ((1 : Int) : Rat)] 1 1 from Nt.Sm.ofInts (zs := [0, 0, 1]) (by decide))).prim ((show Nt.Sm [(((-1) : Int) : Rat), ((1 : Int) : Rat)] 1 1 from Nt.Sm.ofInts (zs := [(-1), 1]) (by decide))).prim (by have h9 := (show ([((0 : Int) : Rat), ((0 : Int) : Rat), ((1 : Int) : Rat)]).length ≤ 3 by decide); have h8 := (show ([(((-1) : Int) : Rat), ((1 : Int) : Rat)]).length ≤ 2 by decide); omega) (by decide) (by have h9 := (show ([((0 : Int) : Rat), ((0 : Int) : Rat), ((1 : Int) : Rat)]).length ≤ 3 by decide); omega) (by have h9 := (show ([(((-1) : Int) : Rat), ((1 : Int) : Rat)]).length ≤ 2 by decide); omega) (by have h9 := (show ([((0 : Int) : Rat), ((0 : Int) : Rat), ((1 : Int) : Rat)]).length ≤ 3 by decide); have h8 := (show ([(((-1) : Int) : Rat), ((1 : Int) : Rat)]).length ≤ 2 by decide); have h7 : Nt.dg 9 = 1 := (by decide +kernel); omega) (by have h9 := (show ([((0 : Int) : Rat), ((0 : Int) : Rat), ((1 : Int) : Rat)]).length ≤ 3 by decide); omega) (by have h9 := (show ([(((-1) : Int) : Rat), ((1 : Int) : Rat)]).length ≤ 2 by decide); omega)
  with_reducible refine Post.mono k45 ?_
  clear k45
  rintro _ u43 g44 ⟨y42, z42, q42, r42, rfl, ha42, hb42, eq42, el42⟩
  have hly42 := ha42.len
  have hlz42 := hb42.len
  have hlly42 := Nt.div_lenL eq42 el42
  have hm48 : q42.l.length ≤ 3 := by have h9 := (show ([((0 : Int) : Rat), ((0 : Int) : Rat), ((1 : Int) : Rat)]).length ≤ 3 by decide); omega
  have hm49 : r42.l.length ≤ 2 := by have h9 := (show ([(((-1) : Int) : Rat), ((1 : Int) : Rat)]).length ≤ 2 by decide); omega
  have hk46 : PolN _ y42 q42.l 16 := PolN.more ha42 (by have h9 := (show ([((0 : Int) : Rat), ((0 : Int) : Rat), ((1 : Int) : Rat)]).length ≤ 3 by decide); have h8 := (show ([(((-1) : Int) : Rat), ((1 : Int) : Rat)]).length ≤ 2 by decide); have h7 : Nt.dg 9 = 1 := (by decide +kernel); omega)
  have hk47 : PolN _ z42 r42.l 16 := PolN.more hb42 (by have h9 := (show ([((0 : Int) : Rat), ((0 : Int) : Rat), ((1 : Int) : Rat)]).length ≤ 3 by decide); have h8 := (show ([(((-1) : Int) : Rat), ((1 : Int) : Rat)]).length ≤ 2 by decide); have h7 : Nt.dg 9 = 1 := (by decide +kernel); omega)
  refine sy_pure 6 (.v (.tuple #[.slice y42.a y42.n y42.c, .slice z42.a z42.n z42.c, .int .i64 0])) ?_
  refine sy_pure 15 (.v (.slice y42.a y42.n y42.c)) ?_
  refine sy_pure 16 (.v (.slice z42.a z42.n z42.c)) ?_
  refine sy_pure 17 (.v (.int .i64 0)) ?_
  refine sy_pure 2 (.v (.slice y42.a y42.n y42.c)) ?_
  refine sy_pure 3 (.v (.slice z42.a z42.n z42.c)) ?_
  refine sy_pure 4 (.v (.int .i64 0)) ?_
  refine sy_next 50 [(1, .adr 1 0), (2, .v (.slice y42.a y42.n y42.c)), (3, .v (.slice z42.a z42.n z42.c)), (4, .v (.int .i64 0))] [(1, ⟨26, r12.cs⟩)] ?_
  refine sw_seq ?_
  refine sw_any [0, 1, 3, 7, 7, 7, 55, 127, 255, 511, 1023, 1023, 3071, 8191, 16383, 32767, 65535, 131071, 262143, 524287, 1048575, 2097151, 4194303, 1048575, 16777215, 33554431, 67108863, 134217727, 1048575, 536870911, 1073741823, 2147483647, 4294967295] [(0, []), (1, []), (2, []), (3, []), (4, []), (5, []), (6, []), (7, [24]), (8, []), (9, []), (10, []), (11, []), (12, []), (13, [30]), (14, []), (15, []), (16, []), (17, []), (18, []), (19, []), (23, []), (28, []), (20, []), (21, []), (22, []), (24, []), (25, [42]), (26, []), (27, []), (29, []), (30, [47]), (31, []), (32, [])] (by kernel_rfl) (by kernel_rfl) ?_
  refine sy_pure 18 (.v (.int .i64 0)) ?_
  refine sy_pure 19 (.v (.bool true)) ?_
  refine sy_pure 20 (.v (.bool true)) ?_
  refine sy_pure 21 (.v (.slice y42.a y42.n y42.c)) ?_ (hw := wants1 (g := 2) (b := true) (t := 20) (by kernel_rfl) (by kernel_rfl) (by kernel_rfl))
  refine sy_ldv 22 (.v (r12.v)) ty26 part_agg ?_ (hw := wants1 (g := 2) (b := true) (t := 20) (by kernel_rfl) (by kernel_rfl) (by kernel_rfl))
  refine sy_ldv 23 (.v (r12.v)) ty26 part_agg ?_ (hw := wants1 (g := 2) (b := true) (t := 20) (by kernel_rfl) (by kernel_rfl) (by kernel_rfl))
  refine sy_lit 24 ⟨26, r12.cs ++ r12.cs⟩ 2 ?_ (hw := wants1 (g := 2) (b := true) (t := 20) (by kernel_rfl) (by kernel_rfl) (by kernel_rfl))
  refine sy_give 25 29 [.v (.slice y42.a y42.n y42.c), .slc 24 0 2 2] [24] (.inr rfl) (pub_mk (by repeat first | exact noAt_of | refine noAt_set ?_ | refine noAt_lit ?_ | refine noAt_new ?_ | refine noAt_setVar ?_ | refine noAt_unpub ?_)) (k := ?_) (hw := wants1 (g := 2) (b := true) (t := 20) (by kernel_rfl) (by kernel_rfl) (by kernel_rfl))
  intro B50 w50 u50 e50 d50 v50
  have h52 : u50.heap[B50 24]? = some (.cells #[.bool r12.s, .slice r12.m.a r12.m.n r12.m.c, .slice r12.d.a r12.d.n r12.d.c, .bool r12.s, .slice r12.m.a r12.m.n r12.m.c, .slice r12.d.a r12.d.n r12.d.c] 26 (0, 0)) := v50 24 (by simp) _ rfl
  obtain ⟨b51, hBb51⟩ : ∃ b, B50 24 = b := ⟨_, rfl⟩
  rw [hBb51] at h52
  have hp53 : PolN u50 (⟨some ⟨b51, 0, none⟩, 2, 2⟩ : Sl) [((1 : Int) : Rat), ((1 : Int) : Rat)] 2 := pol_lit (L := [r12, r12]) h52 (rats2 (h13.ext (e17.trans (g21.ext.trans (e23.trans (g27.ext.trans (e29.trans (g33.ext.trans (e35.trans (g44.ext.trans e50))))))))) (h13.ext (e17.trans (g21.ext.trans (e23.trans (g27.ext.trans (e29.trans (g33.ext.trans (e35.trans (g44.ext.trans e50)))))))))) rfl (by decide)
  show Calls _ _ #[.slice y42.a y42.n y42.c, .slice (some ⟨B50 24, 0, none⟩) 2 2] _ _
  rw [hBb51]
  have k56 := k_r5Equal d50 (hk46.ext e50) hp53 (by first | omega | (simp; omega) | (refine Nat.le_trans (Nt.trim_len _) ?_; first | omega | (simp; omega)) | (refine Nat.le_trans (Nt.trim_len _) ?_; simp only [List.length_map]; refine Nat.le_trans (Nt.trim_len _) ?_; first | omega | (simp; omega))) (by simp)
  with_reducible refine Post.mono k56 ?_
  clear k56
  rintro _ u54 g55 rfl
  refine sy_pure 26 (.v (.bool (decide (q42.l = [((1 : Int) : Rat), ((1 : Int) : Rat)])))) ?_
  refine sy_eq 27 (x := .v (.bool (decide (q42.l = [((1 : Int) : Rat), ((1 : Int) : Rat)])))) (.v (.bool true)) (by rw [show (decide (q42.l = [((1 : Int) : Rat), ((1 : Int) : Rat)])) = true from decide_eq_true (Nt.awake_dm eq42 el42).1]) ?_
  refine sy_pure 28 (.v (.slice z42.a z42.n z42.c)) ?_ (hw := wants1 (g := 9) (b := true) (t := 27) (by kernel_rfl) (by kernel_rfl) (by kernel_rfl))
  refine sy_ldv 29 (.v (r12.v)) ty26 part_agg ?_ (hw := wants1 (g := 9) (b := true) (t := 27) (by kernel_rfl) (by kernel_rfl) (by kernel_rfl))
  refine sy_lit 30 ⟨26, r12.cs⟩ 1 ?_ (hw := wants1 (g := 9) (b := true) (t := 27) (by kernel_rfl) (by kernel_rfl) (by kernel_rfl))
  refine sy_give 31 29 [.v (.slice z42.a z42.n z42.c), .slc 30 0 1 1] [30] (.inr rfl) (pub_mk (by repeat first | exact noAt_of | refine noAt_set ?_ | refine noAt_lit ?_ | refine noAt_new ?_ | refine noAt_setVar ?_ | refine noAt_unpub ?_)) (k := ?_) (hw := wants1 (g := 9) (b := true) (t := 27) (by kernel_rfl) (by kernel_rfl) (by kernel_rfl))
  intro B58 w58 u58 e58 d58 v58
  have h60 : u58.heap[B58 30]? = some (.cells #[.bool r12.s, .slice r12.m.a r12.m.n r12.m.c, .slice r12.d.a r12.d.n r12.d.c] 26 (0, 0)) := v58 30 (by simp) _ rfl
  obtain ⟨b59, hBb59⟩ : ∃ b, B58 30 = b := ⟨_, rfl⟩
  rw [hBb59] at h60
  have hp61 : PolN u58 (⟨some ⟨b59, 0, none⟩, 1, 1⟩ : Sl) [((1 : Int) : Rat)] 2 := pol_lit (L := [r12]) h60 (rats1 (h13.ext (e17.trans (g21.ext.trans (e23.trans (g27.ext.trans (e29.trans (g33.ext.trans (e35.trans (g44.ext.trans (e50.trans (g55.ext.trans e58)))))))))))) rfl (by decide)
  show Calls _ _ #[.slice z42.a z42.n z42.c, .slice (some ⟨B58 30, 0, none⟩) 1 1] _ _
  rw [hBb59]
  have k64 := k_r5Equal d58 (hk47.ext (e50.trans (g55.ext.trans e58))) hp61 (by first | omega | (simp; omega) | (refine Nat.le_trans (Nt.trim_len _) ?_; first | omega | (simp; omega)) | (refine Nat.le_trans (Nt.trim_len _) ?_; simp only [List.length_map]; refine Nat.le_trans (Nt.trim_len _) ?_; first | omega | (simp; omega))) (by simp)
  with_reducible refine Post.mono k64 ?_
  clear k64
  rintro _ u62 g63 rfl
  refine sy_pure 32 (.v (.bool (decide (r42.l = [((1 : Int) : Rat)])))) ?_
  refine sy_eq 33 (x := .v (.bool (decide (r42.l = [((1 : Int) : Rat)])))) (.v (.bool true)) (by rw [show (decide (r42.l = [((1 : Int) : Rat)])) = true from decide_eq_true (Nt.awake_dm eq42 el42).2]) ?_
  refine sy_call 34 45 [.slice none 0 0] ?_ (hw := wants1 (g := 15) (b := true) (t := 33) (by kernel_rfl) (by kernel_rfl) (by kernel_rfl))
  intro w66 u66 e66 d66
  have k69 := k_poDegree (l := []) (x := ⟨none, 0, 0⟩) d66 (pol_nil _ 1).raw (by omega) (by decide)
  with_reducible refine Post.mono k69 ?_
  clear k69
  rintro _ u67 g68 rfl
  refine sy_pure 35 (.v (.bool ((((Nt.trimQ []).length : Int) - 1) == (-1)))) ?_ (hw := wants1 (g := 15) (b := true) (t := 33) (by kernel_rfl) (by kernel_rfl) (by kernel_rfl))
  refine sy_pure 36 (.v (.bool ((((Nt.trimQ []).length : Int) - 1) == (-1)))) ?_
  refine sy_eq 37 (x := .v (.bool ((((Nt.trimQ []).length : Int) - 1) == (-1)))) (.v (.bool true)) (by rw [show ((((Nt.trimQ []).length : Int) - 1) == (-1)) = true from (by decide +kernel)]) ?_
  refine sy_ldv 41 (.v (r12.v)) ty26 part_agg ?_ (hw := wants1 (g := 19) (b := true) (t := 37) (by kernel_rfl) (by kernel_rfl) (by kernel_rfl))
  refine sy_ldv 46 (.v (r12.v)) ty26 part_agg ?_ (hw := wants1 (g := 19) (b := true) (t := 37) (by kernel_rfl) (by kernel_rfl) (by kernel_rfl))
  refine sy_call 38 41 [.int .i64 0] ?_ (hw := wants1 (g := 19) (b := true) (t := 37) (by kernel_rfl) (by kernel_rfl) (by kernel_rfl))
  intro w71 u71 e71 d71
  have k76 := k_rqOf d71 (z := 0) (by omega) (by omega)
  with_reducible refine Post.mono k76 ?_
  clear k76
  rintro _ u74 g75 ⟨r72, rfl, h73⟩
  refine sy_call 39 41 [.int .i64 0] ?_ (hw := wants1 (g := 19) (b := true) (t := 37) (by kernel_rfl) (by kernel_rfl) (by kernel_rfl))
  intro w77 u77 e77 d77
  have k82 := k_rqOf d77 (z := 0) (by omega) (by omega)
  with_reducible refine Post.mono k82 ?_
  clear k82
  rintro _ u80 g81 ⟨r78, rfl, h79⟩
  refine sy_call 40 41 [.int .i64 (-1)] ?_ (hw := wants1 (g := 19) (b := true) (t := 37) (by kernel_rfl) (by kernel_rfl) (by kernel_rfl))
  intro w83 u83 e83 d83
  have k88 := k_rqOf d83 (z := (-1)) (by omega) (by omega)
  with_reducible refine Post.mono k88 ?_
  clear k88
  rintro _ u86 g87 ⟨r84, rfl, h85⟩
  refine sy_lit 42 ⟨26, r72.cs ++ r78.cs ++ r84.cs ++ r12.cs⟩ 4 ?_ (hw := wants1 (g := 19) (b := true) (t := 37) (by kernel_rfl) (by kernel_rfl) (by kernel_rfl))
  refine sy_give 43 36 [.slc 42 0 4 4] [42] (.inr rfl) (pub_mk (by repeat first | exact noAt_of | refine noAt_set ?_ | refine noAt_lit ?_ | refine noAt_new ?_ | refine noAt_setVar ?_ | refine noAt_unpub ?_)) (k := ?_) (hw := wants1 (g := 19) (b := true) (t := 37) (by kernel_rfl) (by kernel_rfl) (by kernel_rfl))
  intro B89 w89 u89 e89 d89 v89
  have h91 : u89.heap[B89 42]? = some (.cells #[.bool r72.s, .slice r72.m.a r72.m.n r72.m.c, .slice r72.d.a r72.d.n r72.d.c, .bool r78.s, .slice r78.m.a r78.m.n r78.m.c, .slice r78.d.a r78.d.n r78.d.c, .bool r84.s, .slice r84.m.a r84.m.n r84.m.c, .slice r84.d.a r84.d.n r84.d.c, .bool r12.s, .slice r12.m.a r12.m.n r12.m.c, .slice r12.d.a r12.d.n r12.d.c] 26 (0, 0)) := v89 42 (by simp) _ rfl
  obtain ⟨b90, hBb90⟩ : ∃ b, B89 42 = b := ⟨_, rfl⟩
  rw [hBb90] at h91
  have hp92 : PolN u89 (⟨some ⟨b90, 0, none⟩, 4, 4⟩ : Sl) [((0 : Int) : Rat), ((0 : Int) : Rat), (((-1) : Int) : Rat), ((1 : Int) : Rat)] 2 := pol_lit (L := [r72, r78, r84, r12]) h91 (rats4 (h73.ext (e77.trans (g81.ext.trans (e83.trans (g87.ext.trans e89))))) (h79.ext (e83.trans (g87.ext.trans e89))) (h85.ext e89) (h13.ext (e17.trans (g21.ext.trans (e23.trans (g27.ext.trans (e29.trans (g33.ext.trans (e35.trans (g44.ext.trans (e50.trans (g55.ext.trans (e58.trans (g63.ext.trans (e66.trans (g68.ext.trans (e71.trans (g75.ext.trans (e77.trans (g81.ext.trans (e83.trans (g87.ext.trans e89)))))))))))))))))))))) rfl (by decide)
  show Calls _ _ #[.slice (some ⟨B89 42, 0, none⟩) 4 4] _ _
  rw [hBb90]
  have k99 := k_poSquarefree (l := [((0 : Int) : Rat), ((0 : Int) : Rat), (((-1) : Int) : Rat), ((1 : Int) : Rat)]) (A := 3) (H := 562) (N := 4) (C := 2818) d89 hp92.raw (Nt.Sm.prim ((show Nt.Sm [((0 : Int) : Rat), ((0 : Int) : Rat), (((-1) : Int) : Rat), ((1 : Int) : Rat)] 1 1 from Nt.Sm.ofInts (zs := [0, 0, -1, 1]) (by decide)).more (by decide))) (Nt.Sm.prim (((Nt.Sm.der (b := 2) (show Nt.Sm [((0 : Int) : Rat), ((0 : Int) : Rat), (((-1) : Int) : Rat), ((1 : Int) : Rat)] 1 1 from Nt.Sm.ofInts (zs := [0, 0, -1, 1]) (by decide)) (by decide)).trim).more (by decide))) (by decide +kernel) (by decide +kernel) (by decide +kernel) (by decide +kernel) (by decide +kernel) (by decide +kernel) (by decide +kernel) (by decide +kernel) (by decide +kernel)
  with_reducible refine Post.mono k99 ?_
  clear k99
  rintro _ u97 g98 ⟨z93, s94, rfl, hz95, hs96⟩
  have hlz93 := hz95.len
  have hqs94 := Nt.awake_sqf hs96
  have hns94 : s94.l.length = 3 := by rw [hqs94]; rfl
  refine sy_call 44 41 [.int .i64 0] ?_ (hw := wants1 (g := 19) (b := true) (t := 37) (by kernel_rfl) (by kernel_rfl) (by kernel_rfl))
  intro w100 u100 e100 d100
  have k105 := k_rqOf d100 (z := 0) (by omega) (by omega)
  with_reducible refine Post.mono k105 ?_
  clear k105
  rintro _ u103 g104 ⟨r101, rfl, h102⟩
  refine sy_call 45 41 [.int .i64 (-1)] ?_ (hw := wants1 (g := 19) (b := true) (t := 37) (by kernel_rfl) (by kernel_rfl) (by kernel_rfl))
  intro w106 u106 e106 d106
  have k111 := k_rqOf d106 (z := (-1)) (by omega) (by omega)
  with_reducible refine Post.mono k111 ?_
  clear k111
  rintro _ u109 g110 ⟨r107, rfl, h108⟩
  refine sy_lit 47 ⟨26, r101.cs ++ r107.cs ++ r12.cs⟩ 3 ?_ (hw := wants1 (g := 19) (b := true) (t := 37) (by kernel_rfl) (by kernel_rfl) (by kernel_rfl))
  refine sy_give 48 29 [.v (.slice z93.a z93.n z93.c), .slc 47 0 3 3] [47] (.inr rfl) (pub_mk (by repeat first | exact noAt_of | refine noAt_set ?_ | refine noAt_lit ?_ | refine noAt_new ?_ | refine noAt_setVar ?_ | refine noAt_unpub ?_)) (k := ?_) (hw := wants1 (g := 19) (b := true) (t := 37) (by kernel_rfl) (by kernel_rfl) (by kernel_rfl))
  intro B112 w112 u112 e112 d112 v112
  have h114 : u112.heap[B112 47]? = some (.cells #[.bool r101.s, .slice r101.m.a r101.m.n r101.m.c, .slice r101.d.a r101.d.n r101.d.c, .bool r107.s, .slice r107.m.a r107.m.n r107.m.c, .slice r107.d.a r107.d.n r107.d.c, .bool r12.s, .slice r12.m.a r12.m.n r12.m.c, .slice r12.d.a r12.d.n r12.d.c] 26 (0, 0)) := v112 47 (by simp) _ rfl
  obtain ⟨b113, hBb113⟩ : ∃ b, B112 47 = b := ⟨_, rfl⟩
  rw [hBb113] at h114
  have hp115 : PolN u112 (⟨some ⟨b113, 0, none⟩, 3, 3⟩ : Sl) [((0 : Int) : Rat), (((-1) : Int) : Rat), ((1 : Int) : Rat)] 2 := pol_lit (L := [r101, r107, r12]) h114 (rats3 (h102.ext (e106.trans (g110.ext.trans e112))) (h108.ext e112) (h13.ext (e17.trans (g21.ext.trans (e23.trans (g27.ext.trans (e29.trans (g33.ext.trans (e35.trans (g44.ext.trans (e50.trans (g55.ext.trans (e58.trans (g63.ext.trans (e66.trans (g68.ext.trans (e71.trans (g75.ext.trans (e77.trans (g81.ext.trans (e83.trans (g87.ext.trans (e89.trans (g98.ext.trans (e100.trans (g104.ext.trans (e106.trans (g110.ext.trans e112)))))))))))))))))))))))))))) rfl (by decide)
  show Calls _ _ #[.slice z93.a z93.n z93.c, .slice (some ⟨B112 47, 0, none⟩) 3 3] _ _
  rw [hBb113]
  have k118 := k_r5Equal d112 (hz95.ext (e100.trans (g104.ext.trans (e106.trans (g110.ext.trans e112))))) hp115 (by first | omega | (simp; omega) | (refine Nat.le_trans (Nt.trim_len _) ?_; first | omega | (simp; omega)) | (refine Nat.le_trans (Nt.trim_len _) ?_; simp only [List.length_map]; refine Nat.le_trans (Nt.trim_len _) ?_; first | omega | (simp; omega))) (by simp)
  with_reducible refine Post.mono k118 ?_
  clear k118
  rintro _ u116 g117 rfl
  refine sy_pure 49 (.v (.bool (decide (s94.l = [((0 : Int) : Rat), (((-1) : Int) : Rat), ((1 : Int) : Rat)])))) ?_
  refine sy_pure 0 (.v (.bool (decide (s94.l = [((0 : Int) : Rat), (((-1) : Int) : Rat), ((1 : Int) : Rat)])))) ?_
  refine sy_next 50 [(0, .v (.bool (decide (s94.l = [((0 : Int) : Rat), (((-1) : Int) : Rat), ((1 : Int) : Rat)]))))] [] ?_
  refine sw_ret (ret0 [.bool (decide (s94.l = [((0 : Int) : Rat), (((-1) : Int) : Rat), ((1 : Int) : Rat)]))] ⟨res_tmp, trivial⟩ fun u119 e120 => ?_)
  show Value.bool _ = Value.bool _
  rw [show (decide (s94.l = [((0 : Int) : Rat), (((-1) : Int) : Rat), ((1 : Int) : Rat)])) = true from (decide_eq_true (Nt.awake_sqf hs96))]
end Go.Proofs.YtnedhbidmfoegaaGreat
namespace Go.Proofs.YtnedhbidmfoegaaGreat
set_option linter.unusedVariables false
namespace Nt
section
variable {a1 a2 b1 b2 c1 c2 d1 d2 : Rat}
/-- What Hull makes. -/
def hl (a b c d : Rat) : Rat := lo (lo a b) (lo c d)
def hh (a b c d : Rat) : Rat := hi (hi a b) (hi c d)
end
end Nt
end Go.Proofs.YtnedhbidmfoegaaGreat
namespace Go.Proofs.YtnedhbidmfoegaaGreat.Nt
open Go.RowKit
open Pol
set_option linter.unusedVariables false
section
variable {l : List Rat} {x a b c : Rat} {i n D A B K : Nat} {q : Pol}
theorem drop_top {α : Type} {l : List α} (d : α) (h : i < l.length) : l.drop (l.length - (i + 1)) = l.getD (l.length - 1 - i) d :: l.drop (l.length - i) := by
  rw [show l.length - (i + 1) = l.length - 1 - i by omega, List.drop_eq_getElem_cons (by omega), show l.length - 1 - i + 1 = l.length - i by omega]
  congr 1
  rw [List.getD_eq_getElem?_getD, List.getElem?_eq_getElem (by omega), Option.getD_some]
theorem ev_top (h : i < l.length) : evL (l.drop (l.length - (i + 1))) x = l.getD (l.length - 1 - i) 0 + x * evL (l.drop (l.length - i)) x := by
  rw [drop_top 0 h]; rfl
theorem ev_top0 : evL (l.drop (l.length - 0)) x = 0 := by rw [Nat.sub_zero, List.drop_length]; rfl
theorem ev_topn : evL (l.drop (l.length - l.length)) x = evL l x := by rw [Nat.sub_self]; rfl
theorem evL_trim (l : List Rat) (x : Rat) : evL (trimQ l) x = evL l x := evL_congr (trim_co l) x
theorem evL_scale (c : Rat) (l : List Rat) (x : Rat) : c * evL (l.map (· / c)) x = if c = 0 then 0 else evL l x := by
  split
  · rename_i h; rw [h, Rat.zero_mul]
  · rename_i h
    induction l with
    | nil => show c * 0 = 0; grind
    | cons y l ih =>
      show c * (y / c + x * evL (l.map (· / c)) x) = y + x * evL l x
      rw [← ih]; grind
/-- What Eval makes of the parts. -/
theorem ev_parts (l : List Rat) (x : Rat) : msr (trimQ l) * evL (prim l) x = evL l x := by
  unfold prim
  rw [evL_scale]
  split
  · rename_i h
    by_cases ht : trimQ l = []
    · rw [← evL_trim, ht]; rfl
    · exact absurd h (msr_ne' ht)
  · exact evL_trim l x
/-- A composition. -/
def cmpL : List Rat → Pol → Pol
  | [], q => 0
  | a :: l, q => cmpL l q * q + C a
theorem cmp_top (h : i < l.length) : cmpL (l.drop (l.length - (i + 1))) q = cmpL (l.drop (l.length - i)) q * q + C (l.getD (l.length - 1 - i) 0) := by
  rw [drop_top 0 h]; rfl
theorem ev_cmp (l : List Rat) (q : Pol) (x : Rat) : (cmpL l q).ev x = evL l (q.ev x) := by
  induction l with
  | nil => exact ev_zero x
  | cons a l ih =>
    show (cmpL l q * q + C a).ev x = a + q.ev x * evL l (q.ev x)
    rw [ev_add, ev_mul, ev_C, ih]; grind
theorem cmp_len (l : List Rat) (hq : q.len ≤ n) : (cmpL l q).len ≤ l.length * n + 1 := by
  induction l with
  | nil => show (0 : Pol).len ≤ _; rw [len_zero]; omega
  | cons a l ih =>
    refine Nat.le_trans (len_add _ _) ?_
    have h1 : (C a).len ≤ 1 := len_le fun i hi => by rw [c_C, if_neg (by omega)]
    have h2 : (cmpL l q * q).len ≤ l.length * n + n := by
      by_cases h0 : cmpL l q = 0
      · rw [h0, zero_mul, len_zero]; omega
      · by_cases h3 : q = 0
        · rw [h3, mul_zero, len_zero]; omega
        · have := len_mul h0 h3; omega
    rw [List.length_cons, Nat.add_mul]
    omega
theorem Sm.cmp {E : Nat} (hl : ∀ y ∈ l, Wh (y * ((D : Int) : Rat)) A) (hD : 0 < D) (hq : Sm q.l E A) (hE : E ≤ 2 ^ A) (hn : q.len ≤ n) : Sm (cmpL l q).l (D * E ^ l.length) (A + l.length * (A + n + 1)) := by
  induction l with
  | nil =>
    show Sm (0 : Pol).l _ _
    rw [zero_l]
    exact Sm.nil (by rw [List.length_nil, Nat.pow_zero, Nat.mul_one]; exact hD)
  | cons a l ih =>
    have h1 := ih (fun y hy => hl y (List.mem_cons_of_mem _ hy))
    have ha := hl a (List.mem_cons_self ..)
    have h2 := (h1.mulR hq)
    have hEp : E ^ (a :: l).length ≤ 2 ^ (A * (a :: l).length) := by rw [Nat.pow_mul]; exact Nat.pow_le_pow_left hE _
    have hl2 : q.l.length ≤ n := hn
    have e1 : A + (a :: l).length * (A + n + 1) = A + l.length * (A + n + 1) + A + n + 1 := by rw [List.length_cons, Nat.add_mul]; omega
    have e2 : D * E ^ (a :: l).length = D * E ^ l.length * E := by rw [List.length_cons, Nat.pow_succ, Nat.mul_assoc]
    have h3 : Sm (mulQ (cmpL l q).l q.l) (D * E ^ (a :: l).length) (A + l.length * (A + n + 1) + A + n) := by rw [e2]; exact h2.more (by omega)
    have h4 : Sm [a] (D * E ^ (a :: l).length) (A + l.length * (A + n + 1) + A + n) := by
      have h5 : Sm [a] D A := Sm.ofAll hD (fun y hy => by rw [List.mem_singleton.1 hy]; exact ha)
      refine (h5.over (Nat.pow_pos hq.1) hEp).more ?_
      have : A * (a :: l).length = l.length * A + A := by rw [List.length_cons, Nat.mul_add, Nat.mul_comm]; omega
      have : l.length * (A + n + 1) = l.length * A + l.length * (n + 1) := by rw [Nat.add_assoc, Nat.mul_add]
      omega
    have h6 := (h3.trim.add h4.trim).trim
    rw [e1]
    exact h6
end
end Go.Proofs.YtnedhbidmfoegaaGreat.Nt
namespace Go.Proofs.YtnedhbidmfoegaaGreat.Nt
open Go.RowKit
open Pol
set_option linter.unusedVariables false
section
variable {l m W : List Rat} {x q : Rat} {i A B C : Nat}
/-- The power of the denominator behind i rounds, the sum. -/
def hp (q : Rat) (i : Nat) : Rat := (((q.den ^ (i - 1) : Nat) : Int) : Rat)
def hs (W : List Rat) (q : Rat) (i : Nat) : Rat := hp q i * evL (W.drop (W.length - i)) q
theorem hp_zero (q : Rat) : hp q 0 = ((1 : Int) : Rat) := rfl
theorem hs_zero (W : List Rat) (q : Rat) : hs W q 0 = ((0 : Int) : Rat) := by unfold hs; rw [ev_top0, Rat.mul_zero]; rfl
theorem hp_succ (h : 0 < i) : hp q (i + 1) = hp q i * (((q.den : Nat) : Int) : Rat) := by
  unfold hp
  rw [show i + 1 - 1 = (i - 1) + 1 by omega, Nat.pow_succ, ← Rat.intCast_mul]
  simp
theorem num_den (q : Rat) : ((q.num : Int) : Rat) = q * (((q.den : Nat) : Int) : Rat) := by
  have h1 := dz (den_pos q)
  have h2 : mkRat q.num q.den = q := Rat.mkRat_self q
  rw [← mk_div] at h2
  grind
theorem hs_succ (h : i < W.length) : hs W q (i + 1) = hs W q i * ((q.num : Int) : Rat) + W.getD (W.length - 1 - i) 0 * hp q (i + 1) := by
  unfold hs
  rw [ev_top h]
  by_cases hi : i = 0
  · subst hi
    rw [ev_top0]; grind
  · rw [hp_succ (by omega), num_den q]; grind
theorem hp_ne (q : Rat) (i : Nat) : hp q i ≠ 0 := dz (Nat.pow_pos (den_pos q))
theorem hs_end (W : List Rat) (q : Rat) : hs W q W.length / hp q W.length = evL W q := by
  unfold hs
  rw [ev_topn]
  have := hp_ne q W.length
  grind
theorem rat_wh {K : Nat} (h : rs q ≤ K) : q.num.natAbs ≤ 2 ^ (32 * K) ∧ q.den ≤ 2 ^ (32 * K) := by
  unfold rs at h
  exact ⟨dl_bits (by omega), dl_bits (by omega)⟩
theorem hp_wh (hd : q.den ≤ 2 ^ B) (i : Nat) : Wh (hp q i) (i * B) := by
  refine (whNat (b := (i - 1) * B) ?_).more (Nat.mul_le_mul_right _ (by omega))
  rw [Nat.mul_comm, Nat.pow_mul]
  exact Nat.pow_le_pow_left hd _
theorem hs_wh (hW : WhL W A) (hn : q.num.natAbs ≤ 2 ^ B) (hd : q.den ≤ 2 ^ B) : ∀ i, i ≤ W.length → Wh (hs W q i) (A + i * (B + 1)) := by
  intro i
  induction i with
  | zero => intro _; rw [hs_zero]; exact Wh.zero _
  | succ i ih =>
    intro h
    rw [hs_succ (by omega)]
    have h1 := (ih (by omega)).mul (whInt hn)
    have h2 : Wh (hp q (i + 1)) (i * B) := by
      refine (whNat (b := (i + 1 - 1) * B) ?_)
      rw [Nat.mul_comm, Nat.pow_mul]
      exact Nat.pow_le_pow_left hd _
    have h3 := (hW (W.length - 1 - i)).mul h2
    have e : A + (i + 1) * (B + 1) = A + i * (B + 1) + B + 1 := by rw [Nat.add_mul]; omega
    rw [e]
    refine h1.add (h3.more ?_)
    have : i * B ≤ i * (B + 1) := Nat.mul_le_mul_left _ (by omega)
    omega
theorem bits_in {n : Nat} (h : i ≤ n) (hC : A + n * (B + 1) ≤ C) : A + i * (B + 1) ≤ C ∧ i * B ≤ C := by
  have h1 : i * (B + 1) ≤ n * (B + 1) := Nat.mul_le_mul_right _ h
  have h2 : i * B ≤ i * (B + 1) := Nat.mul_le_mul_left _ (by omega)
  omega
theorem ev_addL (l m : List Rat) (x : Rat) : evL (trimQ (addQ l m)) x = evL l x + evL m x := by
  rw [evL_trim, ← mk_ev, mk_add, ev_add, mk_ev, mk_ev]
theorem ev_mulL (l m : List Rat) (x : Rat) : evL (trimQ (mulQ l m)) x = evL l x * evL m x := by
  rw [evL_trim, ← mk_ev, mk_mul, ev_mul, mk_ev, mk_ev]
theorem ev_cmpL (l m : List Rat) (x : Rat) : evL (cmpL l (mk' m)).l x = evL l (evL m x) := by
  rw [← mk_ev m]; exact ev_cmp l (mk' m) x
theorem cmpQ_same {x y : Rat} (h : x = y) : (cmpQ x y == (0 : Int)) = true := by rw [cmpQ_eq]; exact decide_eq_true h
/-- A round of Compose. -/
theorem cmp_round (p : Pol) (m : List Rat) (a : Rat) : trimQ (addQ (trimQ (mulQ p.l m)) [a]) = (p * mk' m + Pol.C a).l := by
  rw [← show (mk' (addQ (trimQ (mulQ p.l m)) [a])).l = trimQ (addQ (trimQ (mulQ p.l m)) [a]) from rfl, mk_add, mk_trim, mk_mul, mk_l]
  rfl
theorem Sm.mem {D : Nat} (h : Sm l D A) : ∀ y ∈ l, Wh (y * ((D : Int) : Rat)) A := fun y hy => by
  obtain ⟨j, hj, e⟩ := List.getElem_of_mem hy
  have h9 := h.2 j
  unfold Nt.co at h9
  rw [List.getD_eq_getElem?_getD, List.getElem?_eq_getElem hj, Option.getD_some, e] at h9
  exact h9
/-- The sizes in Compose. -/
theorem cmp_sm (h1 : Sm l 840 14) (h2 : Sm m 840 14) (hl : l.length ≤ 6) (hm : m.length ≤ 5) (hi : i ≤ l.length) :
    Sm (cmpL (l.drop (l.length - i)) (mk' m)).l (840 * 840 ^ i) 134 ∧ 840 * 840 ^ i ≤ 2 ^ 134 ∧ (cmpL (l.drop (l.length - i)) (mk' m)).l.length ≤ 31 := by
  have hd : (l.drop (l.length - i)).length = i := by rw [List.length_drop]; omega
  have hn : (mk' m).len ≤ 5 := Nat.le_trans (mk_len m) hm
  have h3 := Sm.cmp (l := l.drop (l.length - i)) (q := mk' m) (D := 840) (E := 840) (A := 14) (n := 5) (fun y hy => h1.mem y (List.mem_of_mem_drop hy)) (by omega) h2.trim (by decide) hn
  have h4 := cmp_len (l.drop (l.length - i)) hn
  rw [hd] at h3 h4
  refine ⟨h3.more ?_, ?_, ?_⟩
  · omega
  · exact Nat.le_trans (Nat.mul_le_mul_left _ (Nat.pow_le_pow_right (by omega) (show i ≤ 6 by omega))) (by decide +kernel)
  · change _ ≤ 31; unfold len at h4; omega
end
end Go.Proofs.YtnedhbidmfoegaaGreat.Nt
namespace Go.Proofs.YtnedhbidmfoegaaGreat
open Go.RowKit
set_option linter.unusedVariables false
set_option maxHeartbeats 2000000 in
theorem k_poEval {u w : World} {x : Sl} {l : List Rat} {r : RL} {q : Rat} {K M A C : Nat} (d : Dat u w) (hx : PolV u x l K) (hr : RatV u r q M) (hA : Nt.WhL (Nt.prim l) A) (hC : A + l.length * (32 * M + 1) ≤ C) (hC9 : C ≤ 300000000) (hK : (l.length + 1) * K ≤ 20000000) (hM : M ≤ 10000000) (hl9 : l.length ≤ 1000000) : Calls Tryz.prog 44 #[x.v, r.v] w (Post u w fun v u' => ∃ p : RL, v = p.v ∧ RatN u' p (Nt.Pol.evL l q) (l.length * K + 2 * Nt.dg C + 6)) := by
  have hlen := hx.len
  have htl := Nt.trim_len l
  have hK2 := hK
  rw [Nat.add_mul] at hK2
  have hKK : (Nt.trimQ l).length * K ≤ l.length * K := Nat.mul_le_mul_right _ htl
  have hWl : ((Nt.trimQ l).map (· / Nt.msr (Nt.trimQ l))).length = (Nt.trimQ l).length := by simp
  have hqr := hr.rs
  obtain ⟨hqn, hqd⟩ := Nt.rat_wh hqr
  have hdg : Nt.dg C ≤ 10000000 := by unfold Nt.dg; omega
  have hdg1 : 1 ≤ Nt.dg C := by unfold Nt.dg; omega
  refine calls_sym (args := [.slice x.a x.n x.c, r.v]) Tryz.func44 rfl Tryz.ntmps44 (rs := [.cell 4 26]) Tryz.results44 (le_b rfl) (le_b rfl) d ?_
  refine sw_seq ?_
  refine sw_reg ?_
  refine sy_new 3 ⟨26, r.cs⟩ ?_
  refine sy_new 4 ⟨26, [.bool false, .slice none 0 0, .slice none 0 0]⟩ ?_
  refine sy_next 64 [(0, .v (.slice x.a x.n x.c)), (3, .adr 3 0), (4, .adr 4 0)] [(3, ⟨26, r.cs⟩), (4, ⟨26, [.bool false, .slice none 0 0, .slice none 0 0]⟩)] ?_
  refine sw_seq ?_
  refine sw_reg ?_
  refine sy_pure 16 (.v (.slice x.a x.n x.c)) ?_
  refine sy_call 17 115 [.slice x.a x.n x.c] ?_
  intro w11 u11 e11 d11
  have k18 := k_split d11 (hx.ext e11) (by omega) (by first | omega | (simp; omega) | (refine Nat.le_trans (Nt.trim_len _) ?_; first | omega | (simp; omega)) | (refine Nat.le_trans (Nt.trim_len _) ?_; simp only [List.length_map]; refine Nat.le_trans (Nt.trim_len _) ?_; first | omega | (simp; omega)))
  with_reducible refine Post.mono k18 ?_
  clear k18
  rintro _ u16 g17 ⟨r12, y14, rfl, h13, h15⟩
  have hly14 : y14.n = (Nt.trimQ l).length := by have h9 := h15.len; simpa using h9
  refine sy_pure 15 (.v (.tuple #[r12.v, .slice y14.a y14.n y14.c])) ?_
  refine sy_pure 18 (.v (r12.v)) ?_
  refine sy_pure 19 (.v (.slice y14.a y14.n y14.c)) ?_
  refine sy_new 5 ⟨26, [.bool false, .slice none 0 0, .slice none 0 0]⟩ ?_
  refine sy_store ⟨26, r12.cs⟩ ty26 ?_
  refine sy_pure 6 (.v (.slice y14.a y14.n y14.c)) ?_
  refine sy_next 64 [(3, .adr 3 0), (4, .adr 4 0), (5, .adr 5 0), (6, .v (.slice y14.a y14.n y14.c))] [(3, ⟨26, r.cs⟩), (4, ⟨26, [.bool false, .slice none 0 0, .slice none 0 0]⟩), (5, ⟨26, r12.cs⟩)] ?_
  refine sw_seq ?_
  have hyn : y14.n = (Nt.trimQ l).length := hly14
  refine sw_reg ?_
  refine sy_ldv 20 (.v (r.v)) ty26 part_agg ?_
  refine sy_call 21 126 [r.v] ?_
  intro w19 u19 e19 d19
  have k24 := k_ratTrim d19 (hr.ext (e11.trans (g17.ext.trans e19))) (by omega)
  with_reducible refine Post.mono k24 ?_
  clear k24
  rintro _ u22 g23 ⟨r20, rfl, h21⟩
  refine sy_store ⟨26, r20.cs⟩ ty26 ?_
  refine sy_next 64 [(3, .adr 3 0), (4, .adr 4 0), (5, .adr 5 0), (6, .v (.slice y14.a y14.n y14.c))] [(3, ⟨26, r20.cs⟩), (4, ⟨26, [.bool false, .slice none 0 0, .slice none 0 0]⟩), (5, ⟨26, r12.cs⟩)] ?_
  refine sw_seq ?_
  refine sw_reg ?_
  refine sy_ldv 23 (.v (r20.v)) ty26 part_agg ?_
  refine sy_call 24 127 [r20.v] ?_
  intro w25 u25 e25 d25
  have k30 := k_poParts (r := r20) d25
  with_reducible refine Post.mono k30 ?_
  clear k30
  rintro _ u28 g29 ⟨y26, rfl, h27⟩
  refine sy_pure 22 (.v (.tuple #[.agg #[.bool r20.s, .slice r20.m.a r20.m.n r20.m.c, .slice y26.a y26.n y26.c], .agg #[.bool false, .slice r20.d.a r20.d.n r20.d.c, .slice y26.a y26.n y26.c]])) ?_
  refine sy_pure 25 (.v (.agg #[.bool r20.s, .slice r20.m.a r20.m.n r20.m.c, .slice y26.a y26.n y26.c])) ?_
  refine sy_pure 26 (.v (.agg #[.bool false, .slice r20.d.a r20.d.n r20.d.c, .slice y26.a y26.n y26.c])) ?_
  refine sy_new 7 ⟨26, [.bool false, .slice none 0 0, .slice none 0 0]⟩ ?_
  refine sy_new 8 ⟨26, [.bool false, .slice none 0 0, .slice none 0 0]⟩ ?_
  refine sy_store ⟨26, [.bool r20.s, .slice r20.m.a r20.m.n r20.m.c, .slice y26.a y26.n y26.c]⟩ ty26 ?_
  refine sy_store ⟨26, [.bool false, .slice r20.d.a r20.d.n r20.d.c, .slice y26.a y26.n y26.c]⟩ ty26 ?_
  refine sy_next 64 [(4, .adr 4 0), (5, .adr 5 0), (6, .v (.slice y14.a y14.n y14.c)), (7, .adr 7 0), (8, .adr 8 0)] [(4, ⟨26, [.bool false, .slice none 0 0, .slice none 0 0]⟩), (5, ⟨26, r12.cs⟩), (7, ⟨26, [.bool r20.s, .slice r20.m.a r20.m.n r20.m.c, .slice y26.a y26.n y26.c]⟩), (8, ⟨26, [.bool false, .slice r20.d.a r20.d.n r20.d.c, .slice y26.a y26.n y26.c]⟩)] ?_
  refine sw_seq ?_
  refine sw_reg ?_
  refine sy_call 27 112 [.int .i64 0] ?_
  intro w31 u31 e31 d31
  have k36 := k_ratOf d31 (z := 0) (by omega) (by omega)
  with_reducible refine Post.mono k36 ?_
  clear k36
  rintro _ u34 g35 ⟨r32, rfl, h33⟩
  refine sy_call 28 112 [.int .i64 1] ?_
  intro w37 u37 e37 d37
  have k42 := k_ratOf d37 (z := 1) (by omega) (by omega)
  with_reducible refine Post.mono k42 ?_
  clear k42
  rintro _ u40 g41 ⟨r38, rfl, h39⟩
  refine sy_new 9 ⟨26, [.bool false, .slice none 0 0, .slice none 0 0]⟩ ?_
  refine sy_new 10 ⟨26, [.bool false, .slice none 0 0, .slice none 0 0]⟩ ?_
  refine sy_store ⟨26, r32.cs⟩ ty26 ?_
  refine sy_store ⟨26, r38.cs⟩ ty26 ?_
  refine sy_next 64 [(4, .adr 4 0), (5, .adr 5 0), (6, .v (.slice y14.a y14.n y14.c)), (7, .adr 7 0), (8, .adr 8 0), (9, .adr 9 0), (10, .adr 10 0)] [(4, ⟨26, [.bool false, .slice none 0 0, .slice none 0 0]⟩), (5, ⟨26, r12.cs⟩), (7, ⟨26, [.bool r20.s, .slice r20.m.a r20.m.n r20.m.c, .slice y26.a y26.n y26.c]⟩), (8, ⟨26, [.bool false, .slice r20.d.a r20.d.n r20.d.c, .slice y26.a y26.n y26.c]⟩), (9, ⟨26, r32.cs⟩), (10, ⟨26, r38.cs⟩)] ?_
  refine sw_seq ?_
  refine sw_seq ?_
  refine sw_reg ?_
  refine sy_pure 29 (.v (.slice y14.a y14.n y14.c)) ?_
  refine sy_pure 30 (.v (.int .i64 (y14.n : Int))) ?_
  refine sy_pure 31 (.v (.int .i64 0)) ?_
  refine sy_next 64 [(4, .adr 4 0), (5, .adr 5 0), (6, .v (.slice y14.a y14.n y14.c)), (7, .adr 7 0), (8, .adr 8 0), (9, .adr 9 0), (10, .adr 10 0), (30, .v (.int .i64 (y14.n : Int))), (31, .v (.int .i64 0))] [(4, ⟨26, [.bool false, .slice none 0 0, .slice none 0 0]⟩), (5, ⟨26, r12.cs⟩), (7, ⟨26, [.bool r20.s, .slice r20.m.a r20.m.n r20.m.c, .slice y26.a y26.n y26.c]⟩), (8, ⟨26, [.bool false, .slice r20.d.a r20.d.n r20.d.c, .slice y26.a y26.n y26.c]⟩), (9, ⟨26, r32.cs⟩), (10, ⟨26, r38.cs⟩)] ?_
  refine sw_block ?_
  refine sw_loop (I := fun m43 S' u' => ∃ (i : Nat) (rs : RL) (rp : RL), (m43 = (Nt.trimQ l).length - i) ∧ (i ≤ (Nt.trimQ l).length) ∧ (S' = St.of 64 [(4, .adr 4 0), (5, .adr 5 0), (6, .v (.slice y14.a y14.n y14.c)), (7, .adr 7 0), (8, .adr 8 0), (9, .adr 9 0), (10, .adr 10 0), (30, .v (.int .i64 (y14.n : Int))), (31, .v (.int .i64 (i : Int)))] [(4, ⟨26, [.bool false, .slice none 0 0, .slice none 0 0]⟩), (5, ⟨26, r12.cs⟩), (7, ⟨26, [.bool r20.s, .slice r20.m.a r20.m.n r20.m.c, .slice y26.a y26.n y26.c]⟩), (8, ⟨26, [.bool false, .slice r20.d.a r20.d.n r20.d.c, .slice y26.a y26.n y26.c]⟩), (9, ⟨26, rs.cs⟩), (10, ⟨26, rp.cs⟩)]) ∧ (Ext u40 u') ∧ (RatN u' rs (Nt.hs ((Nt.trimQ l).map (· / Nt.msr (Nt.trimQ l))) q i) (Nt.dg C)) ∧ (RatN u' rp (Nt.hp q i) (Nt.dg C))) (fun m S u1 u2 e h => by obtain ⟨i, rs, rp, hm, p0, hS, hE, f0, f1⟩ := h; exact ⟨i, rs, rp, hm, p0, hS, hE.trans e, f0.ext e, f1.ext e⟩) _ (T := St.of 64 [(4, .adr 4 0), (5, .adr 5 0), (6, .v (.slice y14.a y14.n y14.c)), (7, .adr 7 0), (8, .adr 8 0), (9, .adr 9 0), (10, .adr 10 0), (30, .v (.int .i64 (y14.n : Int))), (31, .v (.int .i64 0))] [(4, ⟨26, [.bool false, .slice none 0 0, .slice none 0 0]⟩), (5, ⟨26, r12.cs⟩), (7, ⟨26, [.bool r20.s, .slice r20.m.a r20.m.n r20.m.c, .slice y26.a y26.n y26.c]⟩), (8, ⟨26, [.bool false, .slice r20.d.a r20.d.n r20.d.c, .slice y26.a y26.n y26.c]⟩), (9, ⟨26, r32.cs⟩), (10, ⟨26, r38.cs⟩)]) (by exact weak_mk _ _ _) ⟨0, r32, r38, rfl, Nat.zero_le _, rfl, Ext.refl _, (by rw [Nt.hs_zero]; exact RatN.fit (K := 2) (h33.ext (e37.trans g41.ext)) (Nt.whInt (z := 0) (Nat.zero_le _) : Nt.Wh ((0 : Int) : Rat) C).rs), (by rw [Nt.hp_zero]; exact RatN.fit (K := 2) h39 (Nt.whInt (z := 1) Nat.one_le_two_pow : Nt.Wh ((1 : Int) : Rat) C).rs)⟩ ?_
  rintro m43 _ u43 ⟨i, rs, rp, hm43, hi, rfl, e43, hS, hP⟩
  refine sw_seq ?_
  refine sw_reg ?_
  refine sy_pure 32 (.v (.bool (decide ((i : Int) < (y14.n : Int))))) ?_
  refine sy_next 64 [(4, .adr 4 0), (5, .adr 5 0), (6, .v (.slice y14.a y14.n y14.c)), (7, .adr 7 0), (8, .adr 8 0), (9, .adr 9 0), (10, .adr 10 0), (30, .v (.int .i64 (y14.n : Int))), (31, .v (.int .i64 (i : Int))), (32, .v (.bool (decide ((i : Int) < (y14.n : Int)))))] [(4, ⟨26, [.bool false, .slice none 0 0, .slice none 0 0]⟩), (5, ⟨26, r12.cs⟩), (7, ⟨26, [.bool r20.s, .slice r20.m.a r20.m.n r20.m.c, .slice y26.a y26.n y26.c]⟩), (8, ⟨26, [.bool false, .slice r20.d.a r20.d.n r20.d.c, .slice y26.a y26.n y26.c]⟩), (9, ⟨26, rs.cs⟩), (10, ⟨26, rp.cs⟩)] ?_
  refine sw_seq ?_
  refine sw_cond (b := decide ((i : Int) < (y14.n : Int))) (by kernel_rfl) (fun hb44 => ?_) (fun hb44 => ?_)
  · replace hb44 : (decide ((i : Int) < (y14.n : Int))) = true := hb44
    have qhb44 := of_decide_eq_true hb44
    refine sw_skip (mp_seq ?_)
    refine sw_seq ?_
    refine sw_block ?_
    refine sw_seq ?_
    refine sw_reg ?_
    refine sy_pure 33 (.v (.int .i64 (i : Int))) ?_
    refine sy_pure 11 (.v (.int .i64 (i : Int))) ?_
    refine sy_next 64 [(4, .adr 4 0), (5, .adr 5 0), (6, .v (.slice y14.a y14.n y14.c)), (7, .adr 7 0), (8, .adr 8 0), (9, .adr 9 0), (10, .adr 10 0), (11, .v (.int .i64 (i : Int))), (30, .v (.int .i64 (y14.n : Int))), (31, .v (.int .i64 (i : Int)))] [(4, ⟨26, [.bool false, .slice none 0 0, .slice none 0 0]⟩), (5, ⟨26, r12.cs⟩), (7, ⟨26, [.bool r20.s, .slice r20.m.a r20.m.n r20.m.c, .slice y26.a y26.n y26.c]⟩), (8, ⟨26, [.bool false, .slice r20.d.a r20.d.n r20.d.c, .slice y26.a y26.n y26.c]⟩), (9, ⟨26, rs.cs⟩), (10, ⟨26, rp.cs⟩)] ?_
    refine sw_seq ?_
    refine sw_seq ?_
    refine sw_reg ?_
    refine sy_pure 34 (.v (.int .i64 (i : Int))) ?_
    refine sy_pure 35 (.v (.bool (decide ((0 : Int) < (i : Int))))) ?_
    refine sy_next 64 [(4, .adr 4 0), (5, .adr 5 0), (6, .v (.slice y14.a y14.n y14.c)), (7, .adr 7 0), (8, .adr 8 0), (9, .adr 9 0), (10, .adr 10 0), (11, .v (.int .i64 (i : Int))), (30, .v (.int .i64 (y14.n : Int))), (31, .v (.int .i64 (i : Int))), (35, .v (.bool (decide ((0 : Int) < (i : Int)))))] [(4, ⟨26, [.bool false, .slice none 0 0, .slice none 0 0]⟩), (5, ⟨26, r12.cs⟩), (7, ⟨26, [.bool r20.s, .slice r20.m.a r20.m.n r20.m.c, .slice y26.a y26.n y26.c]⟩), (8, ⟨26, [.bool false, .slice r20.d.a r20.d.n r20.d.c, .slice y26.a y26.n y26.c]⟩), (9, ⟨26, rs.cs⟩), (10, ⟨26, rp.cs⟩)] ?_
    refine sw_cond (b := decide ((0 : Int) < (i : Int))) (by kernel_rfl) (fun hb45 => ?_) (fun hb45 => ?_)
    · replace hb45 : (decide ((0 : Int) < (i : Int))) = true := hb45
      have qhb45 := of_decide_eq_true hb45
      refine sw_reg ?_
      refine sy_ldv 36 (.v (rp.v)) ty26 part_agg ?_
      refine sy_ldv 37 (.v (.agg #[.bool false, .slice r20.d.a r20.d.n r20.d.c, .slice y26.a y26.n y26.c])) ty26 part_agg ?_
      refine sy_call 38 111 [rp.v, .agg #[.bool false, .slice r20.d.a r20.d.n r20.d.c, .slice y26.a y26.n y26.c]] ?_
      intro w46 u46 e46 d46
      have k51 := k_ratMul d46 (hP.ext e46).raw ((whole_rat (nat_intN (RatN.den (h21.ext (e25.trans g29.ext)))) h27).ext (e31.trans (g35.ext.trans (e37.trans (g41.ext.trans (e43.trans e46)))))).raw (by omega) (by omega)
      with_reducible refine Post.mono k51 ?_
      clear k51
      rintro _ u49 g50 ⟨r47, rfl, h48⟩
      refine sy_store ⟨26, r47.cs⟩ ty26 ?_
      refine sy_next 64 [(4, .adr 4 0), (5, .adr 5 0), (6, .v (.slice y14.a y14.n y14.c)), (7, .adr 7 0), (8, .adr 8 0), (9, .adr 9 0), (10, .adr 10 0), (11, .v (.int .i64 (i : Int))), (30, .v (.int .i64 (y14.n : Int))), (31, .v (.int .i64 (i : Int)))] [(4, ⟨26, [.bool false, .slice none 0 0, .slice none 0 0]⟩), (5, ⟨26, r12.cs⟩), (7, ⟨26, [.bool r20.s, .slice r20.m.a r20.m.n r20.m.c, .slice y26.a y26.n y26.c]⟩), (8, ⟨26, [.bool false, .slice r20.d.a r20.d.n r20.d.c, .slice y26.a y26.n y26.c]⟩), (9, ⟨26, rs.cs⟩), (10, ⟨26, r47.cs⟩)] ?_
      refine sw_seq ?_
      refine sw_reg ?_
      refine sy_pure 39 (.v (.slice y14.a y14.n y14.c)) ?_
      refine sy_pure 40 (.v (.slice y14.a y14.n y14.c)) ?_
      refine sy_pure 41 (.v (.int .i64 (y14.n : Int))) ?_
      refine sy_eq 42 (x := .v (.int .i64 (IntKind.i64.wrap ((y14.n : Int) - 1)))) (.v (.int .i64 ((y14.n - 1 : Nat) : Int))) (eqI (by rw [IntWalk.i64_in _ (by omega)]; omega)) ?_
      refine sy_pure 43 (.v (.int .i64 (i : Int))) ?_
      refine sy_eq 44 (x := .v (.int .i64 (IntKind.i64.wrap (((y14.n - 1 : Nat) : Int) - (i : Int))))) (.v (.int .i64 (((y14.n - 1) - i : Nat) : Int))) (eqI (by rw [IntWalk.i64_in _ (by omega)]; omega)) ?_
      have hl52 := (h15.ext (e19.trans (g23.ext.trans (e25.trans (g29.ext.trans (e31.trans (g35.ext.trans (e37.trans (g41.ext.trans (e43.trans (e46.trans g50.ext))))))))))).len
      obtain ⟨r52, b52, o52, hA52, hc52, hr52⟩ := pol_atN (h15.ext (e19.trans (g23.ext.trans (e25.trans (g29.ext.trans (e31.trans (g35.ext.trans (e37.trans (g41.ext.trans (e43.trans (e46.trans g50.ext))))))))))) (i := (y14.n - 1) - i) (by omega)
      refine sy_index 45 (o52 + ((y14.n - 1) - i) * 3) (n := y14.n) (off := o52) (sz := 3) (i := (((y14.n - 1) - i : Nat) : Int)) (by omega) hA52 (by omega) (by omega) sl41 ?_
      refine sy_ldn 46 r52.cs hc52 ty26 ?_
      refine sy_new 12 ⟨26, [.bool false, .slice none 0 0, .slice none 0 0]⟩ ?_
      refine sy_store ⟨26, r52.cs⟩ ty26 ?_
      refine sy_next 64 [(4, .adr 4 0), (5, .adr 5 0), (6, .v (.slice y14.a y14.n y14.c)), (7, .adr 7 0), (8, .adr 8 0), (9, .adr 9 0), (10, .adr 10 0), (12, .adr 12 0), (30, .v (.int .i64 (y14.n : Int))), (31, .v (.int .i64 (i : Int)))] [(4, ⟨26, [.bool false, .slice none 0 0, .slice none 0 0]⟩), (5, ⟨26, r12.cs⟩), (7, ⟨26, [.bool r20.s, .slice r20.m.a r20.m.n r20.m.c, .slice y26.a y26.n y26.c]⟩), (8, ⟨26, [.bool false, .slice r20.d.a r20.d.n r20.d.c, .slice y26.a y26.n y26.c]⟩), (9, ⟨26, rs.cs⟩), (10, ⟨26, r47.cs⟩), (12, ⟨26, r52.cs⟩)] ?_
      refine sw_any [0, 0, 3, 0, 0, 31, 63, 127] [(0, []), (1, []), (3, []), (4, []), (2, []), (5, []), (6, []), (7, [])] (by kernel_rfl) (by kernel_rfl) ?_
      refine sy_ldv 47 (.v (rs.v)) ty26 part_agg ?_
      refine sy_ldv 48 (.v (.agg #[.bool r20.s, .slice r20.m.a r20.m.n r20.m.c, .slice y26.a y26.n y26.c])) ty26 part_agg ?_
      refine sy_ldv 50 (.v (r52.v)) ty26 part_agg ?_
      refine sy_ldv 51 (.v (r47.v)) ty26 part_agg ?_
      refine sy_call 49 111 [rs.v, .agg #[.bool r20.s, .slice r20.m.a r20.m.n r20.m.c, .slice y26.a y26.n y26.c]] ?_
      intro w53 u53 e53 d53
      have k58 := k_ratMul d53 (hS.ext (e46.trans (g50.ext.trans e53))).raw ((whole_rat (RatN.num (h21.ext (e25.trans g29.ext))) h27).ext (e31.trans (g35.ext.trans (e37.trans (g41.ext.trans (e43.trans (e46.trans (g50.ext.trans e53)))))))).raw (by omega) (by omega)
      with_reducible refine Post.mono k58 ?_
      clear k58
      rintro _ u56 g57 ⟨r54, rfl, h55⟩
      refine sy_call 52 111 [r52.v, r47.v] ?_
      intro w59 u59 e59 d59
      have k64 := k_ratMul d59 (hr52.ext (e53.trans (g57.ext.trans e59))).raw (h48.ext (e53.trans (g57.ext.trans e59))).raw (by omega) (by omega)
      with_reducible refine Post.mono k64 ?_
      clear k64
      rintro _ u62 g63 ⟨r60, rfl, h61⟩
      refine sy_call 53 104 [r54.v, r60.v] ?_
      intro w65 u65 e65 d65
      have k70 := k_ratAdd d65 (h55.ext (e59.trans (g63.ext.trans e65))).raw (h61.ext e65).raw (by omega) (by omega)
      with_reducible refine Post.mono k70 ?_
      clear k70
      rintro _ u68 g69 ⟨r66, rfl, h67⟩
      refine sy_store ⟨26, r66.cs⟩ ty26 ?_
      refine sy_end ?_
      refine mp_seq ?_
      refine sw_reg ?_
      refine sy_eq 54 (x := .v (.int .i64 (IntKind.i64.wrap ((i : Int) + 1)))) (.v (.int .i64 ((i + 1 : Nat) : Int))) (eqI (by rw [IntWalk.i64_in _ (by omega)]; omega)) ?_
      refine sy_pure 31 (.v (.int .i64 ((i + 1 : Nat) : Int))) ?_
      refine sy_end ?_
      have hi1 : i < ((Nt.trimQ l).map (· / Nt.msr (Nt.trimQ l))).length := by rw [hWl]; omega
      have hb9 := Nt.bits_in (i := i + 1) (n := l.length) (B := 32 * M) (by omega) hC
      have hw9 := ((Nt.hs_wh (W := ((Nt.trimQ l).map (· / Nt.msr (Nt.trimQ l)))) (q := q) hA hqn hqd (i + 1) hi1).more hb9.1).rs
      have hw8 := ((Nt.hp_wh hqd (i + 1)).more hb9.2).rs
      have hps : Nt.hp q (i + 1) = ((Nt.hp q i) * (((q.den : Nat) : Int) : Rat)) := Nt.hp_succ (by omega)
      have hss : Nt.hs ((Nt.trimQ l).map (· / Nt.msr (Nt.trimQ l))) q (i + 1) = (((Nt.hs ((Nt.trimQ l).map (· / Nt.msr (Nt.trimQ l))) q i) * ((q.num : Int) : Rat)) + ((((Nt.trimQ l).map (· / Nt.msr (Nt.trimQ l))).getD ((y14.n - 1) - i) 0) * ((Nt.hp q i) * (((q.den : Nat) : Int) : Rat)))) := by rw [Nt.hs_succ hi1, hps, hWl, ← hyn]
      refine ⟨_, ?_, St.of 64 [(4, .adr 4 0), (5, .adr 5 0), (6, .v (.slice y14.a y14.n y14.c)), (7, .adr 7 0), (8, .adr 8 0), (9, .adr 9 0), (10, .adr 10 0), (30, .v (.int .i64 (y14.n : Int))), (31, .v (.int .i64 ((i + 1 : Nat) : Int)))] [(4, ⟨26, [.bool false, .slice none 0 0, .slice none 0 0]⟩), (5, ⟨26, r12.cs⟩), (7, ⟨26, [.bool r20.s, .slice r20.m.a r20.m.n r20.m.c, .slice y26.a y26.n y26.c]⟩), (8, ⟨26, [.bool false, .slice r20.d.a r20.d.n r20.d.c, .slice y26.a y26.n y26.c]⟩), (9, ⟨26, r66.cs⟩), (10, ⟨26, r47.cs⟩)], by exact weak_mk _ _ _, i + 1, r66, r47, rfl, by omega, rfl, (e43.trans (e46.trans (g50.ext.trans (e53.trans (g57.ext.trans (e59.trans (g63.ext.trans (e65.trans g69.ext)))))))), (by rw [hss] at hw9 ⊢; exact RatN.fit (K := (((Nt.dg C) + (max M 1)) + ((K + ((Nt.trimQ l).length * K + 2)) + ((Nt.dg C) + (max M 1))) + 1)) h67 hw9), (by rw [hps] at hw8 ⊢; exact RatN.fit (K := ((Nt.dg C) + (max M 1))) (h48.ext (e53.trans (g57.ext.trans (e59.trans (g63.ext.trans (e65.trans g69.ext)))))) hw8)⟩
      omega
    · replace hb45 : (decide ((0 : Int) < (i : Int))) = false := hb45
      have qhb45 := of_decide_eq_false hb45
      refine sw_skip (mp_seq ?_)
      refine sw_seq ?_
      refine sw_reg ?_
      refine sy_pure 39 (.v (.slice y14.a y14.n y14.c)) ?_
      refine sy_pure 40 (.v (.slice y14.a y14.n y14.c)) ?_
      refine sy_pure 41 (.v (.int .i64 (y14.n : Int))) ?_
      refine sy_eq 42 (x := .v (.int .i64 (IntKind.i64.wrap ((y14.n : Int) - 1)))) (.v (.int .i64 ((y14.n - 1 : Nat) : Int))) (eqI (by rw [IntWalk.i64_in _ (by omega)]; omega)) ?_
      refine sy_pure 43 (.v (.int .i64 (i : Int))) ?_
      refine sy_eq 44 (x := .v (.int .i64 (IntKind.i64.wrap (((y14.n - 1 : Nat) : Int) - (i : Int))))) (.v (.int .i64 (((y14.n - 1) - i : Nat) : Int))) (eqI (by rw [IntWalk.i64_in _ (by omega)]; omega)) ?_
      have hl71 := (h15.ext (e19.trans (g23.ext.trans (e25.trans (g29.ext.trans (e31.trans (g35.ext.trans (e37.trans (g41.ext.trans e43))))))))).len
      obtain ⟨r71, b71, o71, hA71, hc71, hr71⟩ := pol_atN (h15.ext (e19.trans (g23.ext.trans (e25.trans (g29.ext.trans (e31.trans (g35.ext.trans (e37.trans (g41.ext.trans e43))))))))) (i := (y14.n - 1) - i) (by omega)
      refine sy_index 45 (o71 + ((y14.n - 1) - i) * 3) (n := y14.n) (off := o71) (sz := 3) (i := (((y14.n - 1) - i : Nat) : Int)) (by omega) hA71 (by omega) (by omega) sl41 ?_
      refine sy_ldn 46 r71.cs hc71 ty26 ?_
      refine sy_new 12 ⟨26, [.bool false, .slice none 0 0, .slice none 0 0]⟩ ?_
      refine sy_store ⟨26, r71.cs⟩ ty26 ?_
      refine sy_next 64 [(4, .adr 4 0), (5, .adr 5 0), (6, .v (.slice y14.a y14.n y14.c)), (7, .adr 7 0), (8, .adr 8 0), (9, .adr 9 0), (10, .adr 10 0), (12, .adr 12 0), (30, .v (.int .i64 (y14.n : Int))), (31, .v (.int .i64 (i : Int)))] [(4, ⟨26, [.bool false, .slice none 0 0, .slice none 0 0]⟩), (5, ⟨26, r12.cs⟩), (7, ⟨26, [.bool r20.s, .slice r20.m.a r20.m.n r20.m.c, .slice y26.a y26.n y26.c]⟩), (8, ⟨26, [.bool false, .slice r20.d.a r20.d.n r20.d.c, .slice y26.a y26.n y26.c]⟩), (9, ⟨26, rs.cs⟩), (10, ⟨26, rp.cs⟩), (12, ⟨26, r71.cs⟩)] ?_
      refine sw_any [0, 0, 3, 0, 0, 31, 63, 127] [(0, []), (1, []), (3, []), (4, []), (2, []), (5, []), (6, []), (7, [])] (by kernel_rfl) (by kernel_rfl) ?_
      refine sy_ldv 47 (.v (rs.v)) ty26 part_agg ?_
      refine sy_ldv 48 (.v (.agg #[.bool r20.s, .slice r20.m.a r20.m.n r20.m.c, .slice y26.a y26.n y26.c])) ty26 part_agg ?_
      refine sy_ldv 50 (.v (r71.v)) ty26 part_agg ?_
      refine sy_ldv 51 (.v (rp.v)) ty26 part_agg ?_
      refine sy_call 49 111 [rs.v, .agg #[.bool r20.s, .slice r20.m.a r20.m.n r20.m.c, .slice y26.a y26.n y26.c]] ?_
      intro w72 u72 e72 d72
      have k77 := k_ratMul d72 (hS.ext e72).raw ((whole_rat (RatN.num (h21.ext (e25.trans g29.ext))) h27).ext (e31.trans (g35.ext.trans (e37.trans (g41.ext.trans (e43.trans e72)))))).raw (by omega) (by omega)
      with_reducible refine Post.mono k77 ?_
      clear k77
      rintro _ u75 g76 ⟨r73, rfl, h74⟩
      refine sy_call 52 111 [r71.v, rp.v] ?_
      intro w78 u78 e78 d78
      have k83 := k_ratMul d78 (hr71.ext (e72.trans (g76.ext.trans e78))).raw (hP.ext (e72.trans (g76.ext.trans e78))).raw (by omega) (by omega)
      with_reducible refine Post.mono k83 ?_
      clear k83
      rintro _ u81 g82 ⟨r79, rfl, h80⟩
      refine sy_call 53 104 [r73.v, r79.v] ?_
      intro w84 u84 e84 d84
      have k89 := k_ratAdd d84 (h74.ext (e78.trans (g82.ext.trans e84))).raw (h80.ext e84).raw (by omega) (by omega)
      with_reducible refine Post.mono k89 ?_
      clear k89
      rintro _ u87 g88 ⟨r85, rfl, h86⟩
      refine sy_store ⟨26, r85.cs⟩ ty26 ?_
      refine sy_end ?_
      refine mp_seq ?_
      refine sw_reg ?_
      refine sy_eq 54 (x := .v (.int .i64 (IntKind.i64.wrap ((i : Int) + 1)))) (.v (.int .i64 ((i + 1 : Nat) : Int))) (eqI (by rw [IntWalk.i64_in _ (by omega)]; omega)) ?_
      refine sy_pure 31 (.v (.int .i64 ((i + 1 : Nat) : Int))) ?_
      refine sy_end ?_
      have hi1 : i < ((Nt.trimQ l).map (· / Nt.msr (Nt.trimQ l))).length := by rw [hWl]; omega
      have hb9 := Nt.bits_in (i := i + 1) (n := l.length) (B := 32 * M) (by omega) hC
      have hw9 := ((Nt.hs_wh (W := ((Nt.trimQ l).map (· / Nt.msr (Nt.trimQ l)))) (q := q) hA hqn hqd (i + 1) hi1).more hb9.1).rs
      have hw8 := ((Nt.hp_wh hqd (i + 1)).more hb9.2).rs
      have hps : Nt.hp q (i + 1) = (Nt.hp q i) := (by have hi0 : i = 0 := (by omega); rw [hi0]; rfl)
      have hss : Nt.hs ((Nt.trimQ l).map (· / Nt.msr (Nt.trimQ l))) q (i + 1) = (((Nt.hs ((Nt.trimQ l).map (· / Nt.msr (Nt.trimQ l))) q i) * ((q.num : Int) : Rat)) + ((((Nt.trimQ l).map (· / Nt.msr (Nt.trimQ l))).getD ((y14.n - 1) - i) 0) * (Nt.hp q i))) := by rw [Nt.hs_succ hi1, hps, hWl, ← hyn]
      refine ⟨_, ?_, St.of 64 [(4, .adr 4 0), (5, .adr 5 0), (6, .v (.slice y14.a y14.n y14.c)), (7, .adr 7 0), (8, .adr 8 0), (9, .adr 9 0), (10, .adr 10 0), (30, .v (.int .i64 (y14.n : Int))), (31, .v (.int .i64 ((i + 1 : Nat) : Int)))] [(4, ⟨26, [.bool false, .slice none 0 0, .slice none 0 0]⟩), (5, ⟨26, r12.cs⟩), (7, ⟨26, [.bool r20.s, .slice r20.m.a r20.m.n r20.m.c, .slice y26.a y26.n y26.c]⟩), (8, ⟨26, [.bool false, .slice r20.d.a r20.d.n r20.d.c, .slice y26.a y26.n y26.c]⟩), (9, ⟨26, r85.cs⟩), (10, ⟨26, rp.cs⟩)], by exact weak_mk _ _ _, i + 1, r85, rp, rfl, by omega, rfl, (e43.trans (e72.trans (g76.ext.trans (e78.trans (g82.ext.trans (e84.trans g88.ext)))))), (by rw [hss] at hw9 ⊢; exact RatN.fit (K := (((Nt.dg C) + (max M 1)) + ((K + ((Nt.trimQ l).length * K + 2)) + (Nt.dg C)) + 1)) h86 hw9), (by rw [hps] at hw8 ⊢; exact RatN.fit (K := (Nt.dg C)) (hP.ext (e72.trans (g76.ext.trans (e78.trans (g82.ext.trans (e84.trans g88.ext)))))) hw8)⟩
      omega
  · replace hb44 : (decide ((i : Int) < (y14.n : Int))) = false := hb44
    have qhb44 := of_decide_eq_false hb44
    refine sw_exit ?_
    refine mp_seq ?_
    refine sw_seq ?_
    refine sw_reg ?_
    refine sy_ldv 56 (.v (rs.v)) ty26 part_agg ?_
    refine sy_ldv 57 (.v (rp.v)) ty26 part_agg ?_
    refine sy_call 58 99 [rs.v, rp.v] ?_
    intro w90 u90 e90 d90
    have k95 := k_ratDiv1 d90 (hS.ext e90).raw (hP.ext e90).raw (Nt.hp_ne q i) (by omega) (by omega)
    with_reducible refine Post.mono k95 ?_
    clear k95
    rintro _ u93 g94 ⟨r91, rfl, h92⟩
    refine sy_pure 55 (.v (.tuple #[r91.v, .int .i64 0])) ?_
    refine sy_pure 59 (.v (r91.v)) ?_
    refine sy_pure 60 (.v (.int .i64 0)) ?_
    refine sy_new 13 ⟨26, [.bool false, .slice none 0 0, .slice none 0 0]⟩ ?_
    refine sy_store ⟨26, r91.cs⟩ ty26 ?_
    refine sy_pure 14 (.v (.int .i64 0)) ?_
    refine sy_next 64 [(4, .adr 4 0), (5, .adr 5 0), (13, .adr 13 0)] [(4, ⟨26, [.bool false, .slice none 0 0, .slice none 0 0]⟩), (5, ⟨26, r12.cs⟩), (13, ⟨26, r91.cs⟩)] ?_
    refine sw_seq ?_
    refine sw_reg ?_
    refine sy_ldv 61 (.v (r12.v)) ty26 part_agg ?_
    refine sy_ldv 62 (.v (r91.v)) ty26 part_agg ?_
    refine sy_call 63 111 [r12.v, r91.v] ?_
    intro w96 u96 e96 d96
    have k101 := k_ratMul d96 (h13.ext (e19.trans (g23.ext.trans (e25.trans (g29.ext.trans (e31.trans (g35.ext.trans (e37.trans (g41.ext.trans (e43.trans (e90.trans (g94.ext.trans e96)))))))))))).raw (h92.ext e96).raw (by omega) (by omega)
    with_reducible refine Post.mono k101 ?_
    clear k101
    rintro _ u99 g100 ⟨r97, rfl, h98⟩
    refine sy_store ⟨26, r97.cs⟩ ty26 ?_
    refine sy_next 64 [(4, .adr 4 0)] [(4, ⟨26, r97.cs⟩)] ?_
    refine sw_ret (ret0 [r97.v] ⟨res_cell ty26 part_agg, trivial⟩ fun u102 e103 => ?_)
    have hin : i = (Nt.trimQ l).length := by omega
    have e9 : Nt.Pol.evL l q = Nt.msr (Nt.trimQ l) * (Nt.hs ((Nt.trimQ l).map (· / Nt.msr (Nt.trimQ l))) q i / Nt.hp q i) := by rw [hin, ← hWl, Nt.hs_end]; exact (Nt.ev_parts l q).symm
    refine ⟨r97, rfl, RatN.more (K := (((Nt.trimQ l).length * K + 2) + ((Nt.dg C) + (Nt.dg C)))) ?_ (by omega)⟩
    rw [e9]
    exact (h98.ext e103)
set_option maxHeartbeats 8000000 in
theorem k_poCompose {u w : World} {x y : Sl} {l m : List Rat} (d : Dat u w) (hx : PolN u x l 1) (hy : PolV u y m 1) (htl : Nt.Nrm l) (hl : l.length ≤ 6) (hm : m.length ≤ 5) (h1 : Nt.Sm l 840 14) (h2 : Nt.Sm m 840 14) : Calls Tryz.prog 53 #[x.v, y.v] w (Post u w fun v u' => ∃ z : Sl, v = .tuple #[z.v, .int .i64 0] ∧ PolN u' z (Nt.cmpL l (Nt.Pol.mk' m)).l 5) := by
  change Nt.trimQ l = l at htl
  have hlen := hx.len
  have hlen2 := hy.len
  have htm := Nt.trim_len m
  have hpr : -100 ≤ ((l.length : Int) - 1) * (((Nt.trimQ m).length : Int) - 1) ∧ ((l.length : Int) - 1) * (((Nt.trimQ m).length : Int) - 1) ≤ 100 := by
    obtain ⟨a, ha⟩ : ∃ a, l.length = a := ⟨_, rfl⟩
    obtain ⟨b, hb⟩ : ∃ b, (Nt.trimQ m).length = b := ⟨_, rfl⟩
    rw [hb] at htm
    rw [ha] at hl ⊢
    rw [hb]
    rcases (by omega : a = 0 ∨ a = 1 ∨ a = 2 ∨ a = 3 ∨ a = 4 ∨ a = 5 ∨ a = 6) with rfl | rfl | rfl | rfl | rfl | rfl | rfl <;> omega
  refine calls_sym (args := [.slice x.a x.n x.c, .slice y.a y.n y.c]) Tryz.func53 rfl Tryz.ntmps53 (rs := [.tmp 4, .tmp 5]) Tryz.results53 (le_b rfl) (le_b rfl) d ?_
  refine sw_seq ?_
  refine sw_reg ?_
  refine sy_pure 4 (.v (.slice none 0 0)) ?_
  refine sy_pure 5 (.v (.int .i64 0)) ?_
  refine sy_next 52 [(0, .v (.slice x.a x.n x.c)), (1, .v (.slice y.a y.n y.c))] [] ?_
  refine sw_seq ?_
  refine sw_reg ?_
  refine sy_pure 10 (.v (.slice x.a x.n x.c)) ?_
  refine sy_call 11 45 [.slice x.a x.n x.c] ?_
  intro w11 u11 e11 d11
  have k14 := (by have h9 := k_poDegree d11 (hx.ext e11).raw (by omega) (by omega); rw [htl] at h9; exact h9)
  with_reducible refine Post.mono k14 ?_
  clear k14
  rintro _ u12 g13 rfl
  refine sy_pure 12 (.v (.slice y.a y.n y.c)) ?_
  refine sy_call 13 45 [.slice y.a y.n y.c] ?_
  intro w15 u15 e15 d15
  have k18 := k_poDegree d15 (hy.ext (e11.trans (g13.ext.trans e15))) (by omega) (by omega)
  with_reducible refine Post.mono k18 ?_
  clear k18
  rintro _ u16 g17 rfl
  refine sy_pure 6 (.v (.int .i64 ((l.length : Int) - 1))) ?_
  refine sy_pure 7 (.v (.int .i64 (((Nt.trimQ m).length : Int) - 1))) ?_
  refine sy_next 52 [(0, .v (.slice x.a x.n x.c)), (1, .v (.slice y.a y.n y.c)), (6, .v (.int .i64 ((l.length : Int) - 1))), (7, .v (.int .i64 (((Nt.trimQ m).length : Int) - 1)))] [] ?_
  refine sw_seq ?_
  refine sw_seq ?_
  refine sw_reg ?_
  refine sy_pure 14 (.v (.int .i64 ((l.length : Int) - 1))) ?_
  refine sy_pure 15 (.v (.bool (decide ((0 : Int) < ((l.length : Int) - 1))))) ?_
  rcases Bool.eq_false_or_eq_true (decide ((0 : Int) < ((l.length : Int) - 1))) with hs19 | hs19
  · refine sy_eq 16 (x := .v (.bool (decide ((0 : Int) < ((l.length : Int) - 1))))) (.v (.bool true)) (by rw [hs19]) ?_
    have qhs19 := of_decide_eq_true hs19
    refine sy_pure 17 (.v (.int .i64 (((Nt.trimQ m).length : Int) - 1))) ?_ (hw := wants1 (g := 2) (b := true) (t := 16) (by kernel_rfl) (by kernel_rfl) (by kernel_rfl))
    refine sy_pure 18 (.v (.bool (decide ((0 : Int) < (((Nt.trimQ m).length : Int) - 1))))) ?_ (hw := wants1 (g := 2) (b := true) (t := 16) (by kernel_rfl) (by kernel_rfl) (by kernel_rfl))
    refine sy_pure 19 (.v (.bool (decide ((0 : Int) < (((Nt.trimQ m).length : Int) - 1))))) ?_
    rcases Bool.eq_false_or_eq_true (decide ((0 : Int) < (((Nt.trimQ m).length : Int) - 1))) with hs20 | hs20
    · refine sy_eq 20 (x := .v (.bool (decide ((0 : Int) < (((Nt.trimQ m).length : Int) - 1))))) (.v (.bool true)) (by rw [hs20]) ?_
      have qhs20 := of_decide_eq_true hs20
      refine sy_pure 21 (.v (.int .i64 ((l.length : Int) - 1))) ?_ (hw := wants1 (g := 6) (b := true) (t := 20) (by kernel_rfl) (by kernel_rfl) (by kernel_rfl))
      refine sy_eq 22 (x := .v (.bool (decide ((192 : Int) < ((l.length : Int) - 1))))) (.v (.bool false)) (by rw [show (decide ((192 : Int) < ((l.length : Int) - 1))) = false from decide_eq_false (by omega)]) ?_ (hw := wants1 (g := 6) (b := true) (t := 20) (by kernel_rfl) (by kernel_rfl) (by kernel_rfl))
      refine sy_pure 23 (.v (.bool false)) ?_ (hw := wants1 (g := 6) (b := true) (t := 20) (by kernel_rfl) (by kernel_rfl) (by kernel_rfl))
      refine sy_pure 24 (.v (.int .i64 (((Nt.trimQ m).length : Int) - 1))) ?_ (hw := wants1 (g := 9) (b := false) (t := 23) (by kernel_rfl) (by kernel_rfl) (by kernel_rfl))
      refine sy_eq 25 (x := .v (.bool (decide ((192 : Int) < (((Nt.trimQ m).length : Int) - 1))))) (.v (.bool false)) (by rw [show (decide ((192 : Int) < (((Nt.trimQ m).length : Int) - 1))) = false from decide_eq_false (by omega)]) ?_ (hw := wants1 (g := 9) (b := false) (t := 23) (by kernel_rfl) (by kernel_rfl) (by kernel_rfl))
      refine sy_pure 26 (.v (.bool false)) ?_ (hw := wants1 (g := 6) (b := true) (t := 20) (by kernel_rfl) (by kernel_rfl) (by kernel_rfl))
      refine sy_pure 27 (.v (.bool false)) ?_ (hw := wants1 (g := 6) (b := true) (t := 20) (by kernel_rfl) (by kernel_rfl) (by kernel_rfl))
      refine sy_pure 28 (.v (.int .i64 ((l.length : Int) - 1))) ?_ (hw := wants1 (g := 13) (b := false) (t := 27) (by kernel_rfl) (by kernel_rfl) (by kernel_rfl))
      refine sy_pure 29 (.v (.int .i64 (((Nt.trimQ m).length : Int) - 1))) ?_ (hw := wants1 (g := 13) (b := false) (t := 27) (by kernel_rfl) (by kernel_rfl) (by kernel_rfl))
      refine sy_eq 30 (x := .v (.int .i64 (IntKind.i64.wrap (((l.length : Int) - 1) * (((Nt.trimQ m).length : Int) - 1))))) (.v (.int .i64 (((l.length : Int) - 1) * (((Nt.trimQ m).length : Int) - 1)))) (by rw [IntWalk.i64_in _ (by omega)]) ?_ (hw := wants1 (g := 13) (b := false) (t := 27) (by kernel_rfl) (by kernel_rfl) (by kernel_rfl))
      refine sy_eq 31 (x := .v (.bool (decide ((192 : Int) < ((l.length : Int) - 1) * (((Nt.trimQ m).length : Int) - 1))))) (.v (.bool false)) (by rw [show (decide ((192 : Int) < ((l.length : Int) - 1) * (((Nt.trimQ m).length : Int) - 1))) = false from decide_eq_false (by omega)]) ?_ (hw := wants1 (g := 13) (b := false) (t := 27) (by kernel_rfl) (by kernel_rfl) (by kernel_rfl))
      refine sy_pure 32 (.v (.bool false)) ?_ (hw := wants1 (g := 6) (b := true) (t := 20) (by kernel_rfl) (by kernel_rfl) (by kernel_rfl))
      refine sy_pure 33 (.v (.bool false)) ?_
      refine sy_next 52 [(0, .v (.slice x.a x.n x.c)), (1, .v (.slice y.a y.n y.c)), (6, .v (.int .i64 ((l.length : Int) - 1))), (33, .v (.bool false))] [] ?_
      refine sw_false (by kernel_rfl) ?_
      refine sw_skip (mp_seq ?_)
      refine sw_seq ?_
      refine sw_reg ?_
      refine sy_pure 8 (.v (.slice none 0 0)) ?_
      refine sy_next 52 [(0, .v (.slice x.a x.n x.c)), (1, .v (.slice y.a y.n y.c)), (6, .v (.int .i64 ((l.length : Int) - 1))), (8, .v (.slice none 0 0))] [] ?_
      refine sw_seq ?_
      refine sw_seq ?_
      refine sw_reg ?_
      refine sy_pure 34 (.v (.int .i64 ((l.length : Int) - 1))) ?_
      refine sy_eq 35 (x := .v (.int .i64 (IntKind.i64.wrap (((l.length : Int) - 1) + 1)))) (.v (.int .i64 (((l.length : Int) - 1) + 1))) (by rw [IntWalk.i64_in _ (by omega)]) ?_
      refine sy_pure 36 (.v (.int .i64 0)) ?_
      refine sy_next 52 [(0, .v (.slice x.a x.n x.c)), (1, .v (.slice y.a y.n y.c)), (6, .v (.int .i64 ((l.length : Int) - 1))), (8, .v (.slice none 0 0)), (35, .v (.int .i64 (((l.length : Int) - 1) + 1))), (36, .v (.int .i64 0))] [] ?_
      refine sw_block ?_
      refine sw_loop (I := fun m21 S' u' => ∃ (i : Nat) (xr : Sl), (m21 = l.length - i) ∧ (i ≤ l.length) ∧ (S' = St.of 52 [(0, .v (.slice x.a x.n x.c)), (1, .v (.slice y.a y.n y.c)), (6, .v (.int .i64 ((l.length : Int) - 1))), (8, .v (.slice xr.a xr.n xr.c)), (35, .v (.int .i64 (((l.length : Int) - 1) + 1))), (36, .v (.int .i64 (i : Int)))] []) ∧ (Ext u16 u') ∧ (PolN u' xr (Nt.cmpL (l.drop (l.length - i)) (Nt.Pol.mk' m)).l 5)) (fun m S u1 u2 e h => by obtain ⟨i, xr, hm, p0, hS, hE, f0⟩ := h; exact ⟨i, xr, hm, p0, hS, hE.trans e, f0.ext e⟩) _ (T := St.of 52 [(0, .v (.slice x.a x.n x.c)), (1, .v (.slice y.a y.n y.c)), (6, .v (.int .i64 ((l.length : Int) - 1))), (8, .v (.slice none 0 0)), (35, .v (.int .i64 (((l.length : Int) - 1) + 1))), (36, .v (.int .i64 0))] []) (by exact weak_mk _ _ _) ⟨0, ⟨none, 0, 0⟩, rfl, by omega, rfl, Ext.refl _, (by rw [Nat.sub_zero, List.drop_length]; show PolN _ _ (0 : Nt.Pol).l 5; rw [Nt.Pol.zero_l]; exact pol_nil _ _)⟩ ?_
      rintro m21 _ u21 ⟨i, xr, hm21, hi, rfl, e21, hF⟩
      have hlr := hF.len
      obtain ⟨hc1, hc2, hc3⟩ := Nt.cmp_sm h1 h2 hl hm hi
      refine sw_seq ?_
      refine sw_reg ?_
      refine sy_pure 37 (.v (.bool (decide ((i : Int) < (((l.length : Int) - 1) + 1))))) ?_
      refine sy_next 52 [(0, .v (.slice x.a x.n x.c)), (1, .v (.slice y.a y.n y.c)), (6, .v (.int .i64 ((l.length : Int) - 1))), (8, .v (.slice xr.a xr.n xr.c)), (35, .v (.int .i64 (((l.length : Int) - 1) + 1))), (36, .v (.int .i64 (i : Int))), (37, .v (.bool (decide ((i : Int) < (((l.length : Int) - 1) + 1)))))] [] ?_
      refine sw_seq ?_
      refine sw_cond (b := decide ((i : Int) < (((l.length : Int) - 1) + 1))) (by kernel_rfl) (fun hb22 => ?_) (fun hb22 => ?_)
      · replace hb22 : (decide ((i : Int) < (((l.length : Int) - 1) + 1))) = true := hb22
        have qhb22 := of_decide_eq_true hb22
        refine sw_skip (mp_seq ?_)
        refine sw_seq ?_
        refine sw_block ?_
        refine sw_seq ?_
        refine sw_reg ?_
        refine sy_pure 38 (.v (.int .i64 (i : Int))) ?_
        refine sy_pure 9 (.v (.int .i64 (i : Int))) ?_
        refine sy_next 52 [(0, .v (.slice x.a x.n x.c)), (1, .v (.slice y.a y.n y.c)), (6, .v (.int .i64 ((l.length : Int) - 1))), (8, .v (.slice xr.a xr.n xr.c)), (9, .v (.int .i64 (i : Int))), (35, .v (.int .i64 (((l.length : Int) - 1) + 1))), (36, .v (.int .i64 (i : Int)))] [] ?_
        refine sw_any [0, 0, 3, 0, 0, 0, 48, 120, 248, 504, 1023, 2047] [(0, []), (1, []), (3, []), (4, []), (5, []), (6, []), (7, []), (8, []), (9, []), (2, []), (10, [48]), (11, [])] (by kernel_rfl) (by kernel_rfl) ?_
        refine sy_pure 39 (.v (.slice xr.a xr.n xr.c)) ?_
        refine sy_pure 40 (.v (.slice y.a y.n y.c)) ?_
        refine sy_pure 42 (.v (.slice x.a x.n x.c)) ?_
        refine sy_pure 43 (.v (.int .i64 ((l.length : Int) - 1))) ?_
        refine sy_pure 44 (.v (.int .i64 (i : Int))) ?_
        refine sy_eq 45 (x := .v (.int .i64 (IntKind.i64.wrap (((l.length : Int) - 1) - (i : Int))))) (.v (.int .i64 ((l.length - 1 - i : Nat) : Int))) (eqI (by rw [IntWalk.i64_in _ (by omega)]; omega)) ?_
        have hl23 := (hx.ext (e11.trans (g13.ext.trans (e15.trans (g17.ext.trans e21))))).len
        obtain ⟨r23, b23, o23, hA23, hc23, hr23⟩ := pol_atN (hx.ext (e11.trans (g13.ext.trans (e15.trans (g17.ext.trans e21))))) (i := (l.length - 1 - i)) (by omega)
        refine sy_index 46 (o23 + (l.length - 1 - i) * 3) (n := x.n) (off := o23) (sz := 3) (i := ((l.length - 1 - i : Nat) : Int)) (by omega) hA23 (by omega) (by omega) sl41 ?_
        refine sy_ldn 47 r23.cs hc23 ty26 ?_
        refine sy_lit 48 ⟨26, r23.cs⟩ 1 ?_
        refine sy_call 41 42 [.slice xr.a xr.n xr.c, .slice y.a y.n y.c] ?_
        intro w24 u24 e24 d24
        have k29 := k_poMul d24 (hF.ext e24).raw (hy.ext (e11.trans (g13.ext.trans (e15.trans (g17.ext.trans (e21.trans e24)))))) (Nat.le_trans (Nt.mlK_mono hc3 hm (Nat.le_refl _) (Nat.le_refl _)) (by decide +kernel)) (by omega) (by omega) (by omega) (by omega)
        with_reducible refine Post.mono k29 ?_
        clear k29
        rintro _ u27 g28 ⟨y25, rfl, h26⟩
        replace h26 := PolN.more h26 (Nat.le_trans (Nt.mlK_mono hc3 hm (Nat.le_refl _) (Nat.le_refl _)) (by decide +kernel : _ ≤ 26671))
        have hmy : (Nt.trimQ (Nt.mulQ (Nt.cmpL (l.drop (l.length - i)) (Nt.Pol.mk' m)).l m)).length ≤ 40 := Nat.le_trans (Nt.mul_lenQ hc3 hm) (by decide)
        refine sy_give 49 54 [.v (.slice y25.a y25.n y25.c), .slc 48 0 1 1] [48] (.inr rfl) (pub_mk (by repeat first | exact noAt_of | refine noAt_set ?_ | refine noAt_lit ?_ | refine noAt_new ?_ | refine noAt_setVar ?_ | refine noAt_unpub ?_)) (k := ?_)
        intro B30 w30 u30 e30 d30 v30
        have h32 : u30.heap[B30 48]? = some (.cells #[.bool r23.s, .slice r23.m.a r23.m.n r23.m.c, .slice r23.d.a r23.d.n r23.d.c] 26 (0, 0)) := v30 48 (by simp) _ rfl
        obtain ⟨b31, hBb31⟩ : ∃ b, B30 48 = b := ⟨_, rfl⟩
        rw [hBb31] at h32
        have hp33 : PolN u30 (⟨some ⟨b31, 0, none⟩, 1, 1⟩ : Sl) [(l.getD (l.length - 1 - i) 0)] 1 := pol_lit (L := [r23]) h32 (rats1 (hr23.ext (e24.trans (g28.ext.trans e30)))) rfl (by decide)
        show Calls _ _ #[.slice y25.a y25.n y25.c, .slice (some ⟨B30 48, 0, none⟩) 1 1] _ _
        rw [hBb31]
        have k38 := k_poAdd d30 (h26.ext e30).raw hp33.raw (by omega) (by omega) (by omega) (by simp)
        with_reducible refine Post.mono k38 ?_
        clear k38
        rintro _ u36 g37 ⟨y34, rfl, h35⟩
        refine sy_pure 8 (.v (.slice y34.a y34.n y34.c)) ?_
        refine sy_end ?_
        refine mp_seq ?_
        refine sw_reg ?_
        refine sy_eq 50 (x := .v (.int .i64 (IntKind.i64.wrap ((i : Int) + 1)))) (.v (.int .i64 ((i + 1 : Nat) : Int))) (eqI (by rw [IntWalk.i64_in _ (by omega)]; omega)) ?_
        refine sy_pure 36 (.v (.int .i64 ((i + 1 : Nat) : Int))) ?_
        refine sy_end ?_
        have e9 : (Nt.cmpL (l.drop (l.length - (i + 1))) (Nt.Pol.mk' m)).l = (Nt.trimQ (Nt.addQ (Nt.trimQ (Nt.mulQ (Nt.cmpL (l.drop (l.length - i)) (Nt.Pol.mk' m)).l m)) [(l.getD (l.length - 1 - i) 0)])) := by rw [Nt.cmp_top (by omega), ← Nt.cmp_round]
        have hd9 := Nt.cmp_sm (i := i + 1) h1 h2 hl hm (by omega)
        refine ⟨_, ?_, St.of 52 [(0, .v (.slice x.a x.n x.c)), (1, .v (.slice y.a y.n y.c)), (6, .v (.int .i64 ((l.length : Int) - 1))), (8, .v (.slice y34.a y34.n y34.c)), (35, .v (.int .i64 (((l.length : Int) - 1) + 1))), (36, .v (.int .i64 ((i + 1 : Nat) : Int)))] [], by exact weak_mk _ _ _, i + 1, y34, rfl, by omega, rfl, (e21.trans (e24.trans (g28.ext.trans (e30.trans g37.ext)))), (by have h8 := h35; rw [← e9] at h8; exact PolN.fitS h8 hd9.1 hd9.2.1)⟩
        omega
      · replace hb22 : (decide ((i : Int) < (((l.length : Int) - 1) + 1))) = false := hb22
        have qhb22 := of_decide_eq_false hb22
        refine sw_exit ?_
        refine mp_seq ?_
        refine sw_seq ?_
        refine sw_reg ?_
        refine sy_pure 51 (.v (.slice xr.a xr.n xr.c)) ?_
        refine sy_pure 4 (.v (.slice xr.a xr.n xr.c)) ?_
        refine sy_pure 5 (.v (.int .i64 0)) ?_
        refine sy_next 52 [(4, .v (.slice xr.a xr.n xr.c)), (5, .v (.int .i64 0))] [] ?_
        refine sw_ret (ret0 [.slice xr.a xr.n xr.c, .int .i64 0] ⟨res_tmp, res_tmp, trivial⟩ fun u39 e40 => ?_)
        have hin : i = l.length := by omega
        refine ⟨xr, rfl, ?_⟩
        have h9 := (hF.ext e40)
        rw [hin, Nat.sub_self] at h9
        exact h9
    · refine sy_eq 20 (x := .v (.bool (decide ((0 : Int) < (((Nt.trimQ m).length : Int) - 1))))) (.v (.bool false)) (by rw [hs20]) ?_
      have qhs20 := of_decide_eq_false hs20
      refine sy_drop 21 (unwanted (g := 6) (b := true) (c := false) (t := 20) (by kernel_rfl) (by kernel_rfl) (by kernel_rfl) (by kernel_rfl)) ?_
      refine sy_drop 22 (unwanted (g := 6) (b := true) (c := false) (t := 20) (by kernel_rfl) (by kernel_rfl) (by kernel_rfl) (by kernel_rfl)) ?_
      refine sy_drop 23 (unwanted (g := 6) (b := true) (c := false) (t := 20) (by kernel_rfl) (by kernel_rfl) (by kernel_rfl) (by kernel_rfl)) ?_
      refine sy_drop 24 (unwantedU (g := 9) (b := false) (t := 23) (by kernel_rfl) (by kernel_rfl) (by kernel_rfl)) ?_
      refine sy_drop 25 (unwantedU (g := 9) (b := false) (t := 23) (by kernel_rfl) (by kernel_rfl) (by kernel_rfl)) ?_
      refine sy_drop 26 (unwanted (g := 6) (b := true) (c := false) (t := 20) (by kernel_rfl) (by kernel_rfl) (by kernel_rfl) (by kernel_rfl)) ?_
      refine sy_drop 27 (unwanted (g := 6) (b := true) (c := false) (t := 20) (by kernel_rfl) (by kernel_rfl) (by kernel_rfl) (by kernel_rfl)) ?_
      refine sy_drop 28 (unwantedU (g := 13) (b := false) (t := 27) (by kernel_rfl) (by kernel_rfl) (by kernel_rfl)) ?_
      refine sy_drop 29 (unwantedU (g := 13) (b := false) (t := 27) (by kernel_rfl) (by kernel_rfl) (by kernel_rfl)) ?_
      refine sy_drop 30 (unwantedU (g := 13) (b := false) (t := 27) (by kernel_rfl) (by kernel_rfl) (by kernel_rfl)) ?_
      refine sy_drop 31 (unwantedU (g := 13) (b := false) (t := 27) (by kernel_rfl) (by kernel_rfl) (by kernel_rfl)) ?_
      refine sy_drop 32 (unwanted (g := 6) (b := true) (c := false) (t := 20) (by kernel_rfl) (by kernel_rfl) (by kernel_rfl) (by kernel_rfl)) ?_
      refine sy_pure 33 (.v (.bool false)) ?_
      refine sy_next 52 [(0, .v (.slice x.a x.n x.c)), (1, .v (.slice y.a y.n y.c)), (6, .v (.int .i64 ((l.length : Int) - 1))), (33, .v (.bool false))] [] ?_
      refine sw_false (by kernel_rfl) ?_
      refine sw_skip (mp_seq ?_)
      refine sw_seq ?_
      refine sw_reg ?_
      refine sy_pure 8 (.v (.slice none 0 0)) ?_
      refine sy_next 52 [(0, .v (.slice x.a x.n x.c)), (1, .v (.slice y.a y.n y.c)), (6, .v (.int .i64 ((l.length : Int) - 1))), (8, .v (.slice none 0 0))] [] ?_
      refine sw_seq ?_
      refine sw_seq ?_
      refine sw_reg ?_
      refine sy_pure 34 (.v (.int .i64 ((l.length : Int) - 1))) ?_
      refine sy_eq 35 (x := .v (.int .i64 (IntKind.i64.wrap (((l.length : Int) - 1) + 1)))) (.v (.int .i64 (((l.length : Int) - 1) + 1))) (by rw [IntWalk.i64_in _ (by omega)]) ?_
      refine sy_pure 36 (.v (.int .i64 0)) ?_
      refine sy_next 52 [(0, .v (.slice x.a x.n x.c)), (1, .v (.slice y.a y.n y.c)), (6, .v (.int .i64 ((l.length : Int) - 1))), (8, .v (.slice none 0 0)), (35, .v (.int .i64 (((l.length : Int) - 1) + 1))), (36, .v (.int .i64 0))] [] ?_
      refine sw_block ?_
      refine sw_loop (I := fun m41 S' u' => ∃ (i : Nat) (xr : Sl), (m41 = l.length - i) ∧ (i ≤ l.length) ∧ (S' = St.of 52 [(0, .v (.slice x.a x.n x.c)), (1, .v (.slice y.a y.n y.c)), (6, .v (.int .i64 ((l.length : Int) - 1))), (8, .v (.slice xr.a xr.n xr.c)), (35, .v (.int .i64 (((l.length : Int) - 1) + 1))), (36, .v (.int .i64 (i : Int)))] []) ∧ (Ext u16 u') ∧ (PolN u' xr (Nt.cmpL (l.drop (l.length - i)) (Nt.Pol.mk' m)).l 5)) (fun m S u1 u2 e h => by obtain ⟨i, xr, hm, p0, hS, hE, f0⟩ := h; exact ⟨i, xr, hm, p0, hS, hE.trans e, f0.ext e⟩) _ (T := St.of 52 [(0, .v (.slice x.a x.n x.c)), (1, .v (.slice y.a y.n y.c)), (6, .v (.int .i64 ((l.length : Int) - 1))), (8, .v (.slice none 0 0)), (35, .v (.int .i64 (((l.length : Int) - 1) + 1))), (36, .v (.int .i64 0))] []) (by exact weak_mk _ _ _) ⟨0, ⟨none, 0, 0⟩, rfl, by omega, rfl, Ext.refl _, (by rw [Nat.sub_zero, List.drop_length]; show PolN _ _ (0 : Nt.Pol).l 5; rw [Nt.Pol.zero_l]; exact pol_nil _ _)⟩ ?_
      rintro m41 _ u41 ⟨i, xr, hm41, hi, rfl, e41, hF⟩
      have hlr := hF.len
      obtain ⟨hc1, hc2, hc3⟩ := Nt.cmp_sm h1 h2 hl hm hi
      refine sw_seq ?_
      refine sw_reg ?_
      refine sy_pure 37 (.v (.bool (decide ((i : Int) < (((l.length : Int) - 1) + 1))))) ?_
      refine sy_next 52 [(0, .v (.slice x.a x.n x.c)), (1, .v (.slice y.a y.n y.c)), (6, .v (.int .i64 ((l.length : Int) - 1))), (8, .v (.slice xr.a xr.n xr.c)), (35, .v (.int .i64 (((l.length : Int) - 1) + 1))), (36, .v (.int .i64 (i : Int))), (37, .v (.bool (decide ((i : Int) < (((l.length : Int) - 1) + 1)))))] [] ?_
      refine sw_seq ?_
      refine sw_cond (b := decide ((i : Int) < (((l.length : Int) - 1) + 1))) (by kernel_rfl) (fun hb42 => ?_) (fun hb42 => ?_)
      · replace hb42 : (decide ((i : Int) < (((l.length : Int) - 1) + 1))) = true := hb42
        have qhb42 := of_decide_eq_true hb42
        refine sw_skip (mp_seq ?_)
        refine sw_seq ?_
        refine sw_block ?_
        refine sw_seq ?_
        refine sw_reg ?_
        refine sy_pure 38 (.v (.int .i64 (i : Int))) ?_
        refine sy_pure 9 (.v (.int .i64 (i : Int))) ?_
        refine sy_next 52 [(0, .v (.slice x.a x.n x.c)), (1, .v (.slice y.a y.n y.c)), (6, .v (.int .i64 ((l.length : Int) - 1))), (8, .v (.slice xr.a xr.n xr.c)), (9, .v (.int .i64 (i : Int))), (35, .v (.int .i64 (((l.length : Int) - 1) + 1))), (36, .v (.int .i64 (i : Int)))] [] ?_
        refine sw_any [0, 0, 3, 0, 0, 0, 48, 120, 248, 504, 1023, 2047] [(0, []), (1, []), (3, []), (4, []), (5, []), (6, []), (7, []), (8, []), (9, []), (2, []), (10, [48]), (11, [])] (by kernel_rfl) (by kernel_rfl) ?_
        refine sy_pure 39 (.v (.slice xr.a xr.n xr.c)) ?_
        refine sy_pure 40 (.v (.slice y.a y.n y.c)) ?_
        refine sy_pure 42 (.v (.slice x.a x.n x.c)) ?_
        refine sy_pure 43 (.v (.int .i64 ((l.length : Int) - 1))) ?_
        refine sy_pure 44 (.v (.int .i64 (i : Int))) ?_
        refine sy_eq 45 (x := .v (.int .i64 (IntKind.i64.wrap (((l.length : Int) - 1) - (i : Int))))) (.v (.int .i64 ((l.length - 1 - i : Nat) : Int))) (eqI (by rw [IntWalk.i64_in _ (by omega)]; omega)) ?_
        have hl43 := (hx.ext (e11.trans (g13.ext.trans (e15.trans (g17.ext.trans e41))))).len
        obtain ⟨r43, b43, o43, hA43, hc43, hr43⟩ := pol_atN (hx.ext (e11.trans (g13.ext.trans (e15.trans (g17.ext.trans e41))))) (i := (l.length - 1 - i)) (by omega)
        refine sy_index 46 (o43 + (l.length - 1 - i) * 3) (n := x.n) (off := o43) (sz := 3) (i := ((l.length - 1 - i : Nat) : Int)) (by omega) hA43 (by omega) (by omega) sl41 ?_
        refine sy_ldn 47 r43.cs hc43 ty26 ?_
        refine sy_lit 48 ⟨26, r43.cs⟩ 1 ?_
        refine sy_call 41 42 [.slice xr.a xr.n xr.c, .slice y.a y.n y.c] ?_
        intro w44 u44 e44 d44
        have k49 := k_poMul d44 (hF.ext e44).raw (hy.ext (e11.trans (g13.ext.trans (e15.trans (g17.ext.trans (e41.trans e44)))))) (Nat.le_trans (Nt.mlK_mono hc3 hm (Nat.le_refl _) (Nat.le_refl _)) (by decide +kernel)) (by omega) (by omega) (by omega) (by omega)
        with_reducible refine Post.mono k49 ?_
        clear k49
        rintro _ u47 g48 ⟨y45, rfl, h46⟩
        replace h46 := PolN.more h46 (Nat.le_trans (Nt.mlK_mono hc3 hm (Nat.le_refl _) (Nat.le_refl _)) (by decide +kernel : _ ≤ 26671))
        have hmy : (Nt.trimQ (Nt.mulQ (Nt.cmpL (l.drop (l.length - i)) (Nt.Pol.mk' m)).l m)).length ≤ 40 := Nat.le_trans (Nt.mul_lenQ hc3 hm) (by decide)
        refine sy_give 49 54 [.v (.slice y45.a y45.n y45.c), .slc 48 0 1 1] [48] (.inr rfl) (pub_mk (by repeat first | exact noAt_of | refine noAt_set ?_ | refine noAt_lit ?_ | refine noAt_new ?_ | refine noAt_setVar ?_ | refine noAt_unpub ?_)) (k := ?_)
        intro B50 w50 u50 e50 d50 v50
        have h52 : u50.heap[B50 48]? = some (.cells #[.bool r43.s, .slice r43.m.a r43.m.n r43.m.c, .slice r43.d.a r43.d.n r43.d.c] 26 (0, 0)) := v50 48 (by simp) _ rfl
        obtain ⟨b51, hBb51⟩ : ∃ b, B50 48 = b := ⟨_, rfl⟩
        rw [hBb51] at h52
        have hp53 : PolN u50 (⟨some ⟨b51, 0, none⟩, 1, 1⟩ : Sl) [(l.getD (l.length - 1 - i) 0)] 1 := pol_lit (L := [r43]) h52 (rats1 (hr43.ext (e44.trans (g48.ext.trans e50)))) rfl (by decide)
        show Calls _ _ #[.slice y45.a y45.n y45.c, .slice (some ⟨B50 48, 0, none⟩) 1 1] _ _
        rw [hBb51]
        have k58 := k_poAdd d50 (h46.ext e50).raw hp53.raw (by omega) (by omega) (by omega) (by simp)
        with_reducible refine Post.mono k58 ?_
        clear k58
        rintro _ u56 g57 ⟨y54, rfl, h55⟩
        refine sy_pure 8 (.v (.slice y54.a y54.n y54.c)) ?_
        refine sy_end ?_
        refine mp_seq ?_
        refine sw_reg ?_
        refine sy_eq 50 (x := .v (.int .i64 (IntKind.i64.wrap ((i : Int) + 1)))) (.v (.int .i64 ((i + 1 : Nat) : Int))) (eqI (by rw [IntWalk.i64_in _ (by omega)]; omega)) ?_
        refine sy_pure 36 (.v (.int .i64 ((i + 1 : Nat) : Int))) ?_
        refine sy_end ?_
        have e9 : (Nt.cmpL (l.drop (l.length - (i + 1))) (Nt.Pol.mk' m)).l = (Nt.trimQ (Nt.addQ (Nt.trimQ (Nt.mulQ (Nt.cmpL (l.drop (l.length - i)) (Nt.Pol.mk' m)).l m)) [(l.getD (l.length - 1 - i) 0)])) := by rw [Nt.cmp_top (by omega), ← Nt.cmp_round]
        have hd9 := Nt.cmp_sm (i := i + 1) h1 h2 hl hm (by omega)
        refine ⟨_, ?_, St.of 52 [(0, .v (.slice x.a x.n x.c)), (1, .v (.slice y.a y.n y.c)), (6, .v (.int .i64 ((l.length : Int) - 1))), (8, .v (.slice y54.a y54.n y54.c)), (35, .v (.int .i64 (((l.length : Int) - 1) + 1))), (36, .v (.int .i64 ((i + 1 : Nat) : Int)))] [], by exact weak_mk _ _ _, i + 1, y54, rfl, by omega, rfl, (e41.trans (e44.trans (g48.ext.trans (e50.trans g57.ext)))), (by have h8 := h55; rw [← e9] at h8; exact PolN.fitS h8 hd9.1 hd9.2.1)⟩
        omega
      · replace hb42 : (decide ((i : Int) < (((l.length : Int) - 1) + 1))) = false := hb42
        have qhb42 := of_decide_eq_false hb42
        refine sw_exit ?_
        refine mp_seq ?_
        refine sw_seq ?_
        refine sw_reg ?_
        refine sy_pure 51 (.v (.slice xr.a xr.n xr.c)) ?_
        refine sy_pure 4 (.v (.slice xr.a xr.n xr.c)) ?_
        refine sy_pure 5 (.v (.int .i64 0)) ?_
        refine sy_next 52 [(4, .v (.slice xr.a xr.n xr.c)), (5, .v (.int .i64 0))] [] ?_
        refine sw_ret (ret0 [.slice xr.a xr.n xr.c, .int .i64 0] ⟨res_tmp, res_tmp, trivial⟩ fun u59 e60 => ?_)
        have hin : i = l.length := by omega
        refine ⟨xr, rfl, ?_⟩
        have h9 := (hF.ext e60)
        rw [hin, Nat.sub_self] at h9
        exact h9
  · refine sy_eq 16 (x := .v (.bool (decide ((0 : Int) < ((l.length : Int) - 1))))) (.v (.bool false)) (by rw [hs19]) ?_
    have qhs19 := of_decide_eq_false hs19
    refine sy_drop 17 (unwanted (g := 2) (b := true) (c := false) (t := 16) (by kernel_rfl) (by kernel_rfl) (by kernel_rfl) (by kernel_rfl)) ?_
    refine sy_drop 18 (unwanted (g := 2) (b := true) (c := false) (t := 16) (by kernel_rfl) (by kernel_rfl) (by kernel_rfl) (by kernel_rfl)) ?_
    refine sy_pure 19 (.v (.bool false)) ?_
    refine sy_pure 20 (.v (.bool false)) ?_
    refine sy_drop 21 (unwanted (g := 6) (b := true) (c := false) (t := 20) (by kernel_rfl) (by kernel_rfl) (by kernel_rfl) (by kernel_rfl)) ?_
    refine sy_drop 22 (unwanted (g := 6) (b := true) (c := false) (t := 20) (by kernel_rfl) (by kernel_rfl) (by kernel_rfl) (by kernel_rfl)) ?_
    refine sy_drop 23 (unwanted (g := 6) (b := true) (c := false) (t := 20) (by kernel_rfl) (by kernel_rfl) (by kernel_rfl) (by kernel_rfl)) ?_
    refine sy_drop 24 (unwantedU (g := 9) (b := false) (t := 23) (by kernel_rfl) (by kernel_rfl) (by kernel_rfl)) ?_
    refine sy_drop 25 (unwantedU (g := 9) (b := false) (t := 23) (by kernel_rfl) (by kernel_rfl) (by kernel_rfl)) ?_
    refine sy_drop 26 (unwanted (g := 6) (b := true) (c := false) (t := 20) (by kernel_rfl) (by kernel_rfl) (by kernel_rfl) (by kernel_rfl)) ?_
    refine sy_drop 27 (unwanted (g := 6) (b := true) (c := false) (t := 20) (by kernel_rfl) (by kernel_rfl) (by kernel_rfl) (by kernel_rfl)) ?_
    refine sy_drop 28 (unwantedU (g := 13) (b := false) (t := 27) (by kernel_rfl) (by kernel_rfl) (by kernel_rfl)) ?_
    refine sy_drop 29 (unwantedU (g := 13) (b := false) (t := 27) (by kernel_rfl) (by kernel_rfl) (by kernel_rfl)) ?_
    refine sy_drop 30 (unwantedU (g := 13) (b := false) (t := 27) (by kernel_rfl) (by kernel_rfl) (by kernel_rfl)) ?_
    refine sy_drop 31 (unwantedU (g := 13) (b := false) (t := 27) (by kernel_rfl) (by kernel_rfl) (by kernel_rfl)) ?_
    refine sy_drop 32 (unwanted (g := 6) (b := true) (c := false) (t := 20) (by kernel_rfl) (by kernel_rfl) (by kernel_rfl) (by kernel_rfl)) ?_
    refine sy_pure 33 (.v (.bool false)) ?_
    refine sy_next 52 [(0, .v (.slice x.a x.n x.c)), (1, .v (.slice y.a y.n y.c)), (6, .v (.int .i64 ((l.length : Int) - 1))), (33, .v (.bool false))] [] ?_
    refine sw_false (by kernel_rfl) ?_
    refine sw_skip (mp_seq ?_)
    refine sw_seq ?_
    refine sw_reg ?_
    refine sy_pure 8 (.v (.slice none 0 0)) ?_
    refine sy_next 52 [(0, .v (.slice x.a x.n x.c)), (1, .v (.slice y.a y.n y.c)), (6, .v (.int .i64 ((l.length : Int) - 1))), (8, .v (.slice none 0 0))] [] ?_
    refine sw_seq ?_
    refine sw_seq ?_
    refine sw_reg ?_
    refine sy_pure 34 (.v (.int .i64 ((l.length : Int) - 1))) ?_
    refine sy_eq 35 (x := .v (.int .i64 (IntKind.i64.wrap (((l.length : Int) - 1) + 1)))) (.v (.int .i64 (((l.length : Int) - 1) + 1))) (by rw [IntWalk.i64_in _ (by omega)]) ?_
    refine sy_pure 36 (.v (.int .i64 0)) ?_
    refine sy_next 52 [(0, .v (.slice x.a x.n x.c)), (1, .v (.slice y.a y.n y.c)), (6, .v (.int .i64 ((l.length : Int) - 1))), (8, .v (.slice none 0 0)), (35, .v (.int .i64 (((l.length : Int) - 1) + 1))), (36, .v (.int .i64 0))] [] ?_
    refine sw_block ?_
    refine sw_loop (I := fun m61 S' u' => ∃ (i : Nat) (xr : Sl), (m61 = l.length - i) ∧ (i ≤ l.length) ∧ (S' = St.of 52 [(0, .v (.slice x.a x.n x.c)), (1, .v (.slice y.a y.n y.c)), (6, .v (.int .i64 ((l.length : Int) - 1))), (8, .v (.slice xr.a xr.n xr.c)), (35, .v (.int .i64 (((l.length : Int) - 1) + 1))), (36, .v (.int .i64 (i : Int)))] []) ∧ (Ext u16 u') ∧ (PolN u' xr (Nt.cmpL (l.drop (l.length - i)) (Nt.Pol.mk' m)).l 5)) (fun m S u1 u2 e h => by obtain ⟨i, xr, hm, p0, hS, hE, f0⟩ := h; exact ⟨i, xr, hm, p0, hS, hE.trans e, f0.ext e⟩) _ (T := St.of 52 [(0, .v (.slice x.a x.n x.c)), (1, .v (.slice y.a y.n y.c)), (6, .v (.int .i64 ((l.length : Int) - 1))), (8, .v (.slice none 0 0)), (35, .v (.int .i64 (((l.length : Int) - 1) + 1))), (36, .v (.int .i64 0))] []) (by exact weak_mk _ _ _) ⟨0, ⟨none, 0, 0⟩, rfl, by omega, rfl, Ext.refl _, (by rw [Nat.sub_zero, List.drop_length]; show PolN _ _ (0 : Nt.Pol).l 5; rw [Nt.Pol.zero_l]; exact pol_nil _ _)⟩ ?_
    rintro m61 _ u61 ⟨i, xr, hm61, hi, rfl, e61, hF⟩
    have hlr := hF.len
    obtain ⟨hc1, hc2, hc3⟩ := Nt.cmp_sm h1 h2 hl hm hi
    refine sw_seq ?_
    refine sw_reg ?_
    refine sy_pure 37 (.v (.bool (decide ((i : Int) < (((l.length : Int) - 1) + 1))))) ?_
    refine sy_next 52 [(0, .v (.slice x.a x.n x.c)), (1, .v (.slice y.a y.n y.c)), (6, .v (.int .i64 ((l.length : Int) - 1))), (8, .v (.slice xr.a xr.n xr.c)), (35, .v (.int .i64 (((l.length : Int) - 1) + 1))), (36, .v (.int .i64 (i : Int))), (37, .v (.bool (decide ((i : Int) < (((l.length : Int) - 1) + 1)))))] [] ?_
    refine sw_seq ?_
    refine sw_cond (b := decide ((i : Int) < (((l.length : Int) - 1) + 1))) (by kernel_rfl) (fun hb62 => ?_) (fun hb62 => ?_)
    · replace hb62 : (decide ((i : Int) < (((l.length : Int) - 1) + 1))) = true := hb62
      have qhb62 := of_decide_eq_true hb62
      refine sw_skip (mp_seq ?_)
      refine sw_seq ?_
      refine sw_block ?_
      refine sw_seq ?_
      refine sw_reg ?_
      refine sy_pure 38 (.v (.int .i64 (i : Int))) ?_
      refine sy_pure 9 (.v (.int .i64 (i : Int))) ?_
      refine sy_next 52 [(0, .v (.slice x.a x.n x.c)), (1, .v (.slice y.a y.n y.c)), (6, .v (.int .i64 ((l.length : Int) - 1))), (8, .v (.slice xr.a xr.n xr.c)), (9, .v (.int .i64 (i : Int))), (35, .v (.int .i64 (((l.length : Int) - 1) + 1))), (36, .v (.int .i64 (i : Int)))] [] ?_
      refine sw_any [0, 0, 3, 0, 0, 0, 48, 120, 248, 504, 1023, 2047] [(0, []), (1, []), (3, []), (4, []), (5, []), (6, []), (7, []), (8, []), (9, []), (2, []), (10, [48]), (11, [])] (by kernel_rfl) (by kernel_rfl) ?_
      refine sy_pure 39 (.v (.slice xr.a xr.n xr.c)) ?_
      refine sy_pure 40 (.v (.slice y.a y.n y.c)) ?_
      refine sy_pure 42 (.v (.slice x.a x.n x.c)) ?_
      refine sy_pure 43 (.v (.int .i64 ((l.length : Int) - 1))) ?_
      refine sy_pure 44 (.v (.int .i64 (i : Int))) ?_
      refine sy_eq 45 (x := .v (.int .i64 (IntKind.i64.wrap (((l.length : Int) - 1) - (i : Int))))) (.v (.int .i64 ((l.length - 1 - i : Nat) : Int))) (eqI (by rw [IntWalk.i64_in _ (by omega)]; omega)) ?_
      have hl63 := (hx.ext (e11.trans (g13.ext.trans (e15.trans (g17.ext.trans e61))))).len
      obtain ⟨r63, b63, o63, hA63, hc63, hr63⟩ := pol_atN (hx.ext (e11.trans (g13.ext.trans (e15.trans (g17.ext.trans e61))))) (i := (l.length - 1 - i)) (by omega)
      refine sy_index 46 (o63 + (l.length - 1 - i) * 3) (n := x.n) (off := o63) (sz := 3) (i := ((l.length - 1 - i : Nat) : Int)) (by omega) hA63 (by omega) (by omega) sl41 ?_
      refine sy_ldn 47 r63.cs hc63 ty26 ?_
      refine sy_lit 48 ⟨26, r63.cs⟩ 1 ?_
      refine sy_call 41 42 [.slice xr.a xr.n xr.c, .slice y.a y.n y.c] ?_
      intro w64 u64 e64 d64
      have k69 := k_poMul d64 (hF.ext e64).raw (hy.ext (e11.trans (g13.ext.trans (e15.trans (g17.ext.trans (e61.trans e64)))))) (Nat.le_trans (Nt.mlK_mono hc3 hm (Nat.le_refl _) (Nat.le_refl _)) (by decide +kernel)) (by omega) (by omega) (by omega) (by omega)
      with_reducible refine Post.mono k69 ?_
      clear k69
      rintro _ u67 g68 ⟨y65, rfl, h66⟩
      replace h66 := PolN.more h66 (Nat.le_trans (Nt.mlK_mono hc3 hm (Nat.le_refl _) (Nat.le_refl _)) (by decide +kernel : _ ≤ 26671))
      have hmy : (Nt.trimQ (Nt.mulQ (Nt.cmpL (l.drop (l.length - i)) (Nt.Pol.mk' m)).l m)).length ≤ 40 := Nat.le_trans (Nt.mul_lenQ hc3 hm) (by decide)
      refine sy_give 49 54 [.v (.slice y65.a y65.n y65.c), .slc 48 0 1 1] [48] (.inr rfl) (pub_mk (by repeat first | exact noAt_of | refine noAt_set ?_ | refine noAt_lit ?_ | refine noAt_new ?_ | refine noAt_setVar ?_ | refine noAt_unpub ?_)) (k := ?_)
      intro B70 w70 u70 e70 d70 v70
      have h72 : u70.heap[B70 48]? = some (.cells #[.bool r63.s, .slice r63.m.a r63.m.n r63.m.c, .slice r63.d.a r63.d.n r63.d.c] 26 (0, 0)) := v70 48 (by simp) _ rfl
      obtain ⟨b71, hBb71⟩ : ∃ b, B70 48 = b := ⟨_, rfl⟩
      rw [hBb71] at h72
      have hp73 : PolN u70 (⟨some ⟨b71, 0, none⟩, 1, 1⟩ : Sl) [(l.getD (l.length - 1 - i) 0)] 1 := pol_lit (L := [r63]) h72 (rats1 (hr63.ext (e64.trans (g68.ext.trans e70)))) rfl (by decide)
      show Calls _ _ #[.slice y65.a y65.n y65.c, .slice (some ⟨B70 48, 0, none⟩) 1 1] _ _
      rw [hBb71]
      have k78 := k_poAdd d70 (h66.ext e70).raw hp73.raw (by omega) (by omega) (by omega) (by simp)
      with_reducible refine Post.mono k78 ?_
      clear k78
      rintro _ u76 g77 ⟨y74, rfl, h75⟩
      refine sy_pure 8 (.v (.slice y74.a y74.n y74.c)) ?_
      refine sy_end ?_
      refine mp_seq ?_
      refine sw_reg ?_
      refine sy_eq 50 (x := .v (.int .i64 (IntKind.i64.wrap ((i : Int) + 1)))) (.v (.int .i64 ((i + 1 : Nat) : Int))) (eqI (by rw [IntWalk.i64_in _ (by omega)]; omega)) ?_
      refine sy_pure 36 (.v (.int .i64 ((i + 1 : Nat) : Int))) ?_
      refine sy_end ?_
      have e9 : (Nt.cmpL (l.drop (l.length - (i + 1))) (Nt.Pol.mk' m)).l = (Nt.trimQ (Nt.addQ (Nt.trimQ (Nt.mulQ (Nt.cmpL (l.drop (l.length - i)) (Nt.Pol.mk' m)).l m)) [(l.getD (l.length - 1 - i) 0)])) := by rw [Nt.cmp_top (by omega), ← Nt.cmp_round]
      have hd9 := Nt.cmp_sm (i := i + 1) h1 h2 hl hm (by omega)
      refine ⟨_, ?_, St.of 52 [(0, .v (.slice x.a x.n x.c)), (1, .v (.slice y.a y.n y.c)), (6, .v (.int .i64 ((l.length : Int) - 1))), (8, .v (.slice y74.a y74.n y74.c)), (35, .v (.int .i64 (((l.length : Int) - 1) + 1))), (36, .v (.int .i64 ((i + 1 : Nat) : Int)))] [], by exact weak_mk _ _ _, i + 1, y74, rfl, by omega, rfl, (e61.trans (e64.trans (g68.ext.trans (e70.trans g77.ext)))), (by have h8 := h75; rw [← e9] at h8; exact PolN.fitS h8 hd9.1 hd9.2.1)⟩
      omega
    · replace hb62 : (decide ((i : Int) < (((l.length : Int) - 1) + 1))) = false := hb62
      have qhb62 := of_decide_eq_false hb62
      refine sw_exit ?_
      refine mp_seq ?_
      refine sw_seq ?_
      refine sw_reg ?_
      refine sy_pure 51 (.v (.slice xr.a xr.n xr.c)) ?_
      refine sy_pure 4 (.v (.slice xr.a xr.n xr.c)) ?_
      refine sy_pure 5 (.v (.int .i64 0)) ?_
      refine sy_next 52 [(4, .v (.slice xr.a xr.n xr.c)), (5, .v (.int .i64 0))] [] ?_
      refine sw_ret (ret0 [.slice xr.a xr.n xr.c, .int .i64 0] ⟨res_tmp, res_tmp, trivial⟩ fun u79 e80 => ?_)
      have hin : i = l.length := by omega
      refine ⟨xr, rfl, ?_⟩
      have h9 := (hF.ext e80)
      rw [hin, Nat.sub_self] at h9
      exact h9
end Go.Proofs.YtnedhbidmfoegaaGreat
namespace Go.Proofs.YtnedhbidmfoegaaGreat
open Go.RowKit
set_option linter.unusedVariables false
set_option maxHeartbeats 8000000 in
theorem w_values {u w : World} {x : Sl} {l : List Int} {y : Sl} {m : List Int} (d : Dat u w) (hx : SlR .i64 u x.a x.n x.c l) (hb : ∀ z ∈ l, -9223372036854775808 ≤ z ∧ z ≤ 9223372036854775807) (hy : SlR .i64 u y.a y.n y.c m) (hc : ∀ z ∈ m, -9223372036854775808 ≤ z ∧ z ≤ 9223372036854775807) {n : Int} (hn0 : -9223372036854775808 ≤ n) (hn1 : n ≤ 9223372036854775807) : Calls Tryz.prog 8 #[x.v, y.v, .int .i64 n] w (Post u w fun v _ => v = .bool true) := by
  refine calls_sym (args := [.slice x.a x.n x.c, .slice y.a y.n y.c, .int .i64 n]) Tryz.func8 rfl Tryz.ntmps8 (rs := [.tmp 6]) Tryz.results8 (le_b rfl) (le_b rfl) d ?_
  refine sw_seq ?_
  refine sw_reg ?_
  refine sy_pure 6 (.v (.bool false)) ?_
  refine sy_next 71 [(0, .v (.slice x.a x.n x.c)), (1, .v (.slice y.a y.n y.c)), (2, .v (.int .i64 n))] [] ?_
  refine sw_seq ?_
  refine sw_reg ?_
  refine sy_pure 14 (.v (.slice x.a x.n x.c)) ?_
  refine sy_call 15 39 [.slice x.a x.n x.c, .int .i64 5] ?_
  intro w11 u11 e11 d11
  have k17 := (show Calls _ _ #[.slice x.a x.n x.c, .int .i64 5] _ _ from k_mkPoly (D := 5) d11 (hx.ext e11) hb (by decide))
  with_reducible refine Post.mono k17 ?_
  clear k17
  rintro _ u15 g16 ⟨y12, rfl, h13⟩
  have hly12 := h13.len
  have hm14 : (Nt.mkP l 5).length ≤ 6 := Nt.mkP_len l 5
  refine sy_pure 16 (.v (.slice y.a y.n y.c)) ?_
  refine sy_call 17 39 [.slice y.a y.n y.c, .int .i64 4] ?_
  intro w18 u18 e18 d18
  have k24 := (show Calls _ _ #[.slice y.a y.n y.c, .int .i64 4] _ _ from k_mkPoly (D := 4) d18 (hy.ext (e11.trans (g16.ext.trans e18))) hc (by decide))
  with_reducible refine Post.mono k24 ?_
  clear k24
  rintro _ u22 g23 ⟨y19, rfl, h20⟩
  have hly19 := h20.len
  have hm21 : (Nt.mkP m 4).length ≤ 5 := Nt.mkP_len m 4
  refine sy_pure 18 (.v (.int .i64 n)) ?_
  refine sy_call 19 47 [.int .i64 n] ?_
  intro w25 u25 e25 d25
  have k30 := k_mkRat d25 (n := n) (by omega) (by omega)
  with_reducible refine Post.mono k30 ?_
  clear k30
  rintro _ u28 g29 ⟨r26, rfl, h27⟩
  refine sy_new 9 ⟨26, [.bool false, .slice none 0 0, .slice none 0 0]⟩ ?_
  refine sy_pure 7 (.v (.slice y12.a y12.n y12.c)) ?_
  refine sy_pure 8 (.v (.slice y19.a y19.n y19.c)) ?_
  refine sy_store ⟨26, r26.cs⟩ ty26 ?_
  refine sy_next 71 [(7, .v (.slice y12.a y12.n y12.c)), (8, .v (.slice y19.a y19.n y19.c)), (9, .adr 9 0)] [(9, ⟨26, r26.cs⟩)] ?_
  refine sw_seq ?_
  refine sw_any [0, 0, 3, 0, 0, 31, 0, 0, 255, 511] [(0, []), (1, []), (3, []), (4, []), (6, []), (7, []), (2, []), (5, []), (8, []), (9, [])] (by kernel_rfl) (by kernel_rfl) ?_
  refine sy_pure 20 (.v (.slice y12.a y12.n y12.c)) ?_
  refine sy_ldv 21 (.v (r26.v)) ty26 part_agg ?_
  refine sy_pure 23 (.v (.slice y19.a y19.n y19.c)) ?_
  refine sy_ldv 24 (.v (r26.v)) ty26 part_agg ?_
  refine sy_new 10 ⟨26, [.bool false, .slice none 0 0, .slice none 0 0]⟩ ?_
  refine sy_new 11 ⟨26, [.bool false, .slice none 0 0, .slice none 0 0]⟩ ?_
  refine sy_call 22 44 [.slice y12.a y12.n y12.c, r26.v] ?_
  intro w31 u31 e31 d31
  have k37 := k_poEval (C := 212) d31 (h13.ext (e18.trans (g23.ext.trans (e25.trans (g29.ext.trans e31))))).raw (h27.ext e31).raw ((Nt.mkP_sm l 5)).prim (by have h9 := hm14; omega) (by decide) (by have h9 := hm14; omega) (by decide) (by have h9 := hm14; omega)
  with_reducible refine Post.mono k37 ?_
  clear k37
  rintro _ u35 g36 ⟨r32, rfl, h33⟩
  replace h33 : RatN _ r32 (Nt.Pol.evL (Nt.mkP l 5) (Nt.mkR n)) 26 := RatN.more h33 (by have h9 := hm14; have h8 : Nt.dg 212 = 7 := (by decide +kernel); omega)
  refine sy_call 25 44 [.slice y19.a y19.n y19.c, r26.v] ?_
  intro w38 u38 e38 d38
  have k44 := k_poEval (C := 179) d38 (h20.ext (e25.trans (g29.ext.trans (e31.trans (g36.ext.trans e38))))).raw (h27.ext (e31.trans (g36.ext.trans e38))).raw ((Nt.mkP_sm m 4)).prim (by have h9 := hm21; omega) (by decide) (by have h9 := hm21; omega) (by decide) (by have h9 := hm21; omega)
  with_reducible refine Post.mono k44 ?_
  clear k44
  rintro _ u42 g43 ⟨r39, rfl, h40⟩
  replace h40 : RatN _ r39 (Nt.Pol.evL (Nt.mkP m 4) (Nt.mkR n)) 23 := RatN.more h40 (by have h9 := hm21; have h8 : Nt.dg 179 = 6 := (by decide +kernel); omega)
  refine sy_store ⟨26, r32.cs⟩ ty26 ?_
  refine sy_store ⟨26, r39.cs⟩ ty26 ?_
  refine sy_next 71 [(7, .v (.slice y12.a y12.n y12.c)), (8, .v (.slice y19.a y19.n y19.c)), (9, .adr 9 0), (10, .adr 10 0), (11, .adr 11 0)] [(9, ⟨26, r26.cs⟩), (10, ⟨26, r32.cs⟩), (11, ⟨26, r39.cs⟩)] ?_
  refine sw_seq ?_
  refine sw_reg ?_
  refine sy_pure 27 (.v (.slice y12.a y12.n y12.c)) ?_
  refine sy_pure 28 (.v (.slice y19.a y19.n y19.c)) ?_
  refine sy_call 29 53 [.slice y12.a y12.n y12.c, .slice y19.a y19.n y19.c] ?_
  intro w45 u45 e45 d45
  have k50 := k_poCompose d45 (h13.ext (e18.trans (g23.ext.trans (e25.trans (g29.ext.trans (e31.trans (g36.ext.trans (e38.trans (g43.ext.trans e45))))))))) (h20.ext (e25.trans (g29.ext.trans (e31.trans (g36.ext.trans (e38.trans (g43.ext.trans e45))))))).raw (Nt.mkP_nrm l 5) hm14 hm21 (Nt.mkP_sm l 5) (Nt.mkP_sm m 4)
  with_reducible refine Post.mono k50 ?_
  clear k50
  rintro _ u48 g49 ⟨y46, rfl, h47⟩
  have hly46 := h47.len
  have hc51 := Nt.cmp_sm (i := (Nt.mkP l 5).length) (Nt.mkP_sm l 5) (Nt.mkP_sm m 4) hm14 hm21 (Nat.le_refl _)
  rw [Nat.sub_self] at hc51
  have hm52 : (Nt.cmpL (Nt.mkP l 5) (Nt.Pol.mk' (Nt.mkP m 4))).l.length ≤ 31 := hc51.2.2
  refine sy_pure 26 (.v (.tuple #[.slice y46.a y46.n y46.c, .int .i64 0])) ?_
  refine sy_pure 30 (.v (.slice y46.a y46.n y46.c)) ?_
  refine sy_pure 31 (.v (.int .i64 0)) ?_
  refine sy_pure 12 (.v (.slice y46.a y46.n y46.c)) ?_
  refine sy_pure 13 (.v (.int .i64 0)) ?_
  refine sy_next 71 [(7, .v (.slice y12.a y12.n y12.c)), (8, .v (.slice y19.a y19.n y19.c)), (9, .adr 9 0), (10, .adr 10 0), (11, .adr 11 0), (12, .v (.slice y46.a y46.n y46.c)), (13, .v (.int .i64 0))] [(9, ⟨26, r26.cs⟩), (10, ⟨26, r32.cs⟩), (11, ⟨26, r39.cs⟩)] ?_
  refine sw_seq ?_
  refine sw_any [0, 1, 3, 7, 15, 31, 63, 63, 255, 63, 1023, 63, 63, 8191, 16383, 32767, 65535, 131071, 262143, 262143, 1048575, 262143, 4194303, 262143, 262143, 33554431, 67108863, 134217727, 268435455, 536870911, 1073741823, 1073741823, 4294967295, 1073741823, 1073741823, 34359738367, 68719476735, 137438953471, 274877906943, 549755813887] [(0, []), (1, []), (2, []), (3, []), (4, []), (5, []), (6, []), (7, []), (9, []), (11, []), (12, []), (8, []), (10, []), (13, []), (14, []), (15, []), (16, []), (17, []), (18, []), (19, []), (21, []), (23, []), (24, []), (20, []), (22, []), (25, []), (26, []), (27, []), (28, []), (29, []), (30, []), (31, []), (33, []), (34, []), (32, []), (35, []), (36, []), (37, []), (38, []), (39, [])] (by kernel_rfl) (by kernel_rfl) ?_
  refine sy_call 32 26 [] ?_
  intro w54 u54 e54 d54
  have k57 := k_awake5 d54
  with_reducible refine Post.mono k57 ?_
  clear k57
  rintro _ u55 g56 rfl
  refine sy_pure 33 (.v (.bool true)) ?_
  refine sy_pure 34 (.v (.int .i64 0)) ?_ (hw := wants1 (g := 1) (b := true) (t := 33) (by kernel_rfl) (by kernel_rfl) (by kernel_rfl))
  refine sy_pure 35 (.v (.bool true)) ?_ (hw := wants1 (g := 1) (b := true) (t := 33) (by kernel_rfl) (by kernel_rfl) (by kernel_rfl))
  refine sy_pure 36 (.v (.bool true)) ?_
  refine sy_pure 37 (.v (.bool true)) ?_
  refine sy_pure 38 (.v (.slice y12.a y12.n y12.c)) ?_ (hw := wants1 (g := 5) (b := true) (t := 37) (by kernel_rfl) (by kernel_rfl) (by kernel_rfl))
  refine sy_pure 39 (.v (.slice y19.a y19.n y19.c)) ?_ (hw := wants1 (g := 5) (b := true) (t := 37) (by kernel_rfl) (by kernel_rfl) (by kernel_rfl))
  refine sy_ldv 41 (.v (r26.v)) ty26 part_agg ?_ (hw := wants1 (g := 5) (b := true) (t := 37) (by kernel_rfl) (by kernel_rfl) (by kernel_rfl))
  refine sy_ldv 43 (.v (r32.v)) ty26 part_agg ?_ (hw := wants1 (g := 5) (b := true) (t := 37) (by kernel_rfl) (by kernel_rfl) (by kernel_rfl))
  refine sy_ldv 44 (.v (r39.v)) ty26 part_agg ?_ (hw := wants1 (g := 5) (b := true) (t := 37) (by kernel_rfl) (by kernel_rfl) (by kernel_rfl))
  refine sy_call 40 54 [.slice y12.a y12.n y12.c, .slice y19.a y19.n y19.c] ?_ (hw := wants1 (g := 5) (b := true) (t := 37) (by kernel_rfl) (by kernel_rfl) (by kernel_rfl))
  intro w58 u58 e58 d58
  have k63 := k_poAdd d58 (h13.ext (e18.trans (g23.ext.trans (e25.trans (g29.ext.trans (e31.trans (g36.ext.trans (e38.trans (g43.ext.trans (e45.trans (g49.ext.trans (e54.trans (g56.ext.trans e58))))))))))))).raw (h20.ext (e25.trans (g29.ext.trans (e31.trans (g36.ext.trans (e38.trans (g43.ext.trans (e45.trans (g49.ext.trans (e54.trans (g56.ext.trans e58))))))))))).raw (by omega) (by omega) (by have h9 := hm14; omega) (by have h9 := hm21; omega)
  with_reducible refine Post.mono k63 ?_
  clear k63
  rintro _ u61 g62 ⟨y59, rfl, h60⟩
  have hly59 := h60.len
  have hm64 : (Nt.trimQ (Nt.addQ (Nt.mkP l 5) (Nt.mkP m 4))).length ≤ 6 := Nt.add_lenQ hm14 hm21
  have hs65 : Nt.Sm (Nt.trimQ (Nt.addQ (Nt.mkP l 5) (Nt.mkP m 4))) (840) 15 := ((Nt.Sm.add (Nt.Sm.more (Nt.mkP_sm l 5) (show 14 ≤ 14 by decide)) (Nt.Sm.more (Nt.mkP_sm m 4) (show 14 ≤ 14 by decide))).trim)
  have hk66 : PolN _ y59 (Nt.trimQ (Nt.addQ (Nt.mkP l 5) (Nt.mkP m 4))) 1 := PolN.fitS h60 hs65 (by decide +kernel)
  refine sy_call 42 44 [.slice y59.a y59.n y59.c, r26.v] ?_ (hw := wants1 (g := 5) (b := true) (t := 37) (by kernel_rfl) (by kernel_rfl) (by kernel_rfl))
  intro w67 u67 e67 d67
  have k73 := k_poEval (C := 213) d67 (hk66.ext e67).raw (h27.ext (e31.trans (g36.ext.trans (e38.trans (g43.ext.trans (e45.trans (g49.ext.trans (e54.trans (g56.ext.trans (e58.trans (g62.ext.trans e67))))))))))).raw (hs65).prim (by have h9 := hm64; omega) (by decide) (by have h9 := hm64; omega) (by decide) (by have h9 := hm64; omega)
  with_reducible refine Post.mono k73 ?_
  clear k73
  rintro _ u71 g72 ⟨r68, rfl, h69⟩
  replace h69 : RatN _ r68 (Nt.Pol.evL (Nt.trimQ (Nt.addQ (Nt.mkP l 5) (Nt.mkP m 4))) (Nt.mkR n)) 26 := RatN.more h69 (by have h9 := hm64; have h8 : Nt.dg 213 = 7 := (by decide +kernel); omega)
  refine sy_call 45 18 [r32.v, r39.v] ?_ (hw := wants1 (g := 5) (b := true) (t := 37) (by kernel_rfl) (by kernel_rfl) (by kernel_rfl))
  intro w74 u74 e74 d74
  have k79 := k_rqAdd d74 (h33.ext (e38.trans (g43.ext.trans (e45.trans (g49.ext.trans (e54.trans (g56.ext.trans (e58.trans (g62.ext.trans (e67.trans (g72.ext.trans e74))))))))))).raw (h40.ext (e45.trans (g49.ext.trans (e54.trans (g56.ext.trans (e58.trans (g62.ext.trans (e67.trans (g72.ext.trans e74))))))))).raw (by omega) (by omega)
  with_reducible refine Post.mono k79 ?_
  clear k79
  rintro _ u77 g78 ⟨r75, rfl, h76⟩
  refine sy_call 46 40 [r68.v, r75.v] ?_ (hw := wants1 (g := 5) (b := true) (t := 37) (by kernel_rfl) (by kernel_rfl) (by kernel_rfl))
  intro w80 u80 e80 d80
  have k83 := k_rqCompare d80 (h69.ext (e74.trans (g78.ext.trans e80))).raw (h76.ext e80).raw (by omega) (by omega)
  with_reducible refine Post.mono k83 ?_
  clear k83
  rintro _ u81 g82 rfl
  refine sy_pure 47 (.v (.bool ((Nt.cmpQ (Nt.Pol.evL (Nt.trimQ (Nt.addQ (Nt.mkP l 5) (Nt.mkP m 4))) (Nt.mkR n)) ((Nt.Pol.evL (Nt.mkP l 5) (Nt.mkR n)) + (Nt.Pol.evL (Nt.mkP m 4) (Nt.mkR n)))) == 0))) ?_ (hw := wants1 (g := 5) (b := true) (t := 37) (by kernel_rfl) (by kernel_rfl) (by kernel_rfl))
  refine sy_pure 48 (.v (.bool ((Nt.cmpQ (Nt.Pol.evL (Nt.trimQ (Nt.addQ (Nt.mkP l 5) (Nt.mkP m 4))) (Nt.mkR n)) ((Nt.Pol.evL (Nt.mkP l 5) (Nt.mkR n)) + (Nt.Pol.evL (Nt.mkP m 4) (Nt.mkR n)))) == 0))) ?_
  refine sy_eq 49 (x := .v (.bool ((Nt.cmpQ (Nt.Pol.evL (Nt.trimQ (Nt.addQ (Nt.mkP l 5) (Nt.mkP m 4))) (Nt.mkR n)) ((Nt.Pol.evL (Nt.mkP l 5) (Nt.mkR n)) + (Nt.Pol.evL (Nt.mkP m 4) (Nt.mkR n)))) == 0))) (.v (.bool true)) (by rw [show ((Nt.cmpQ (Nt.Pol.evL (Nt.trimQ (Nt.addQ (Nt.mkP l 5) (Nt.mkP m 4))) (Nt.mkR n)) ((Nt.Pol.evL (Nt.mkP l 5) (Nt.mkR n)) + (Nt.Pol.evL (Nt.mkP m 4) (Nt.mkR n)))) == 0) = true from (Nt.cmpQ_same (Nt.ev_addL _ _ _))]) ?_
  refine sy_pure 50 (.v (.slice y12.a y12.n y12.c)) ?_ (hw := wants1 (g := 17) (b := true) (t := 49) (by kernel_rfl) (by kernel_rfl) (by kernel_rfl))
  refine sy_pure 51 (.v (.slice y19.a y19.n y19.c)) ?_ (hw := wants1 (g := 17) (b := true) (t := 49) (by kernel_rfl) (by kernel_rfl) (by kernel_rfl))
  refine sy_ldv 53 (.v (r26.v)) ty26 part_agg ?_ (hw := wants1 (g := 17) (b := true) (t := 49) (by kernel_rfl) (by kernel_rfl) (by kernel_rfl))
  refine sy_ldv 55 (.v (r32.v)) ty26 part_agg ?_ (hw := wants1 (g := 17) (b := true) (t := 49) (by kernel_rfl) (by kernel_rfl) (by kernel_rfl))
  refine sy_ldv 56 (.v (r39.v)) ty26 part_agg ?_ (hw := wants1 (g := 17) (b := true) (t := 49) (by kernel_rfl) (by kernel_rfl) (by kernel_rfl))
  refine sy_call 52 42 [.slice y12.a y12.n y12.c, .slice y19.a y19.n y19.c] ?_ (hw := wants1 (g := 17) (b := true) (t := 49) (by kernel_rfl) (by kernel_rfl) (by kernel_rfl))
  intro w85 u85 e85 d85
  have k90 := k_poMul d85 (h13.ext (e18.trans (g23.ext.trans (e25.trans (g29.ext.trans (e31.trans (g36.ext.trans (e38.trans (g43.ext.trans (e45.trans (g49.ext.trans (e54.trans (g56.ext.trans (e58.trans (g62.ext.trans (e67.trans (g72.ext.trans (e74.trans (g78.ext.trans (e80.trans (g82.ext.trans e85))))))))))))))))))))).raw (h20.ext (e25.trans (g29.ext.trans (e31.trans (g36.ext.trans (e38.trans (g43.ext.trans (e45.trans (g49.ext.trans (e54.trans (g56.ext.trans (e58.trans (g62.ext.trans (e67.trans (g72.ext.trans (e74.trans (g78.ext.trans (e80.trans (g82.ext.trans e85))))))))))))))))))).raw (Nat.le_trans (Nt.mlK_mono hm14 hm21 (Nat.le_refl _) (Nat.le_refl _)) (by decide +kernel)) (by have h9 := hm14; omega) (by have h9 := hm21; omega) (by have h9 := hm14; omega) (by have h9 := hm21; omega)
  with_reducible refine Post.mono k90 ?_
  clear k90
  rintro _ u88 g89 ⟨y86, rfl, h87⟩
  have hly86 := h87.len
  have hm91 : (Nt.trimQ (Nt.mulQ (Nt.mkP l 5) (Nt.mkP m 4))).length ≤ 10 := Nt.mul_lenQ hm14 hm21
  have hs92 : Nt.Sm (Nt.trimQ (Nt.mulQ (Nt.mkP l 5) (Nt.mkP m 4))) (840 * 840) 33 := ((Nt.Sm.mulR (Nt.mkP_sm l 5) (Nt.mkP_sm m 4)).trim.more (by omega))
  have hk93 : PolN _ y86 (Nt.trimQ (Nt.mulQ (Nt.mkP l 5) (Nt.mkP m 4))) 2 := PolN.fitS h87 hs92 (by decide +kernel)
  refine sy_call 54 44 [.slice y86.a y86.n y86.c, r26.v] ?_ (hw := wants1 (g := 17) (b := true) (t := 49) (by kernel_rfl) (by kernel_rfl) (by kernel_rfl))
  intro w94 u94 e94 d94
  have k100 := k_poEval (C := 363) d94 (hk93.ext e94).raw (h27.ext (e31.trans (g36.ext.trans (e38.trans (g43.ext.trans (e45.trans (g49.ext.trans (e54.trans (g56.ext.trans (e58.trans (g62.ext.trans (e67.trans (g72.ext.trans (e74.trans (g78.ext.trans (e80.trans (g82.ext.trans (e85.trans (g89.ext.trans e94))))))))))))))))))).raw (hs92).prim (by have h9 := hm91; omega) (by decide) (by have h9 := hm91; omega) (by decide) (by have h9 := hm91; omega)
  with_reducible refine Post.mono k100 ?_
  clear k100
  rintro _ u98 g99 ⟨r95, rfl, h96⟩
  replace h96 : RatN _ r95 (Nt.Pol.evL (Nt.trimQ (Nt.mulQ (Nt.mkP l 5) (Nt.mkP m 4))) (Nt.mkR n)) 50 := RatN.more h96 (by have h9 := hm91; have h8 : Nt.dg 363 = 12 := (by decide +kernel); omega)
  refine sy_call 57 22 [r32.v, r39.v] ?_ (hw := wants1 (g := 17) (b := true) (t := 49) (by kernel_rfl) (by kernel_rfl) (by kernel_rfl))
  intro w101 u101 e101 d101
  have k106 := k_rqMul d101 (h33.ext (e38.trans (g43.ext.trans (e45.trans (g49.ext.trans (e54.trans (g56.ext.trans (e58.trans (g62.ext.trans (e67.trans (g72.ext.trans (e74.trans (g78.ext.trans (e80.trans (g82.ext.trans (e85.trans (g89.ext.trans (e94.trans (g99.ext.trans e101))))))))))))))))))).raw (h40.ext (e45.trans (g49.ext.trans (e54.trans (g56.ext.trans (e58.trans (g62.ext.trans (e67.trans (g72.ext.trans (e74.trans (g78.ext.trans (e80.trans (g82.ext.trans (e85.trans (g89.ext.trans (e94.trans (g99.ext.trans e101))))))))))))))))).raw (by omega) (by omega)
  with_reducible refine Post.mono k106 ?_
  clear k106
  rintro _ u104 g105 ⟨r102, rfl, h103⟩
  refine sy_call 58 40 [r95.v, r102.v] ?_ (hw := wants1 (g := 17) (b := true) (t := 49) (by kernel_rfl) (by kernel_rfl) (by kernel_rfl))
  intro w107 u107 e107 d107
  have k110 := k_rqCompare d107 (h96.ext (e101.trans (g105.ext.trans e107))).raw (h103.ext e107).raw (by omega) (by omega)
  with_reducible refine Post.mono k110 ?_
  clear k110
  rintro _ u108 g109 rfl
  refine sy_pure 59 (.v (.bool ((Nt.cmpQ (Nt.Pol.evL (Nt.trimQ (Nt.mulQ (Nt.mkP l 5) (Nt.mkP m 4))) (Nt.mkR n)) ((Nt.Pol.evL (Nt.mkP l 5) (Nt.mkR n)) * (Nt.Pol.evL (Nt.mkP m 4) (Nt.mkR n)))) == 0))) ?_ (hw := wants1 (g := 17) (b := true) (t := 49) (by kernel_rfl) (by kernel_rfl) (by kernel_rfl))
  refine sy_pure 60 (.v (.bool ((Nt.cmpQ (Nt.Pol.evL (Nt.trimQ (Nt.mulQ (Nt.mkP l 5) (Nt.mkP m 4))) (Nt.mkR n)) ((Nt.Pol.evL (Nt.mkP l 5) (Nt.mkR n)) * (Nt.Pol.evL (Nt.mkP m 4) (Nt.mkR n)))) == 0))) ?_
  refine sy_eq 61 (x := .v (.bool ((Nt.cmpQ (Nt.Pol.evL (Nt.trimQ (Nt.mulQ (Nt.mkP l 5) (Nt.mkP m 4))) (Nt.mkR n)) ((Nt.Pol.evL (Nt.mkP l 5) (Nt.mkR n)) * (Nt.Pol.evL (Nt.mkP m 4) (Nt.mkR n)))) == 0))) (.v (.bool true)) (by rw [show ((Nt.cmpQ (Nt.Pol.evL (Nt.trimQ (Nt.mulQ (Nt.mkP l 5) (Nt.mkP m 4))) (Nt.mkR n)) ((Nt.Pol.evL (Nt.mkP l 5) (Nt.mkR n)) * (Nt.Pol.evL (Nt.mkP m 4) (Nt.mkR n)))) == 0) = true from (Nt.cmpQ_same (Nt.ev_mulL _ _ _))]) ?_
  refine sy_pure 62 (.v (.slice y46.a y46.n y46.c)) ?_ (hw := wants1 (g := 29) (b := true) (t := 61) (by kernel_rfl) (by kernel_rfl) (by kernel_rfl))
  refine sy_ldv 63 (.v (r26.v)) ty26 part_agg ?_ (hw := wants1 (g := 29) (b := true) (t := 61) (by kernel_rfl) (by kernel_rfl) (by kernel_rfl))
  refine sy_pure 65 (.v (.slice y12.a y12.n y12.c)) ?_ (hw := wants1 (g := 29) (b := true) (t := 61) (by kernel_rfl) (by kernel_rfl) (by kernel_rfl))
  refine sy_ldv 66 (.v (r39.v)) ty26 part_agg ?_ (hw := wants1 (g := 29) (b := true) (t := 61) (by kernel_rfl) (by kernel_rfl) (by kernel_rfl))
  refine sy_call 64 44 [.slice y46.a y46.n y46.c, r26.v] ?_ (hw := wants1 (g := 29) (b := true) (t := 61) (by kernel_rfl) (by kernel_rfl) (by kernel_rfl))
  intro w112 u112 e112 d112
  have k118 := k_poEval (C := 1157) d112 (h47.ext (e54.trans (g56.ext.trans (e58.trans (g62.ext.trans (e67.trans (g72.ext.trans (e74.trans (g78.ext.trans (e80.trans (g82.ext.trans (e85.trans (g89.ext.trans (e94.trans (g99.ext.trans (e101.trans (g105.ext.trans (e107.trans (g109.ext.trans e112))))))))))))))))))).raw (h27.ext (e31.trans (g36.ext.trans (e38.trans (g43.ext.trans (e45.trans (g49.ext.trans (e54.trans (g56.ext.trans (e58.trans (g62.ext.trans (e67.trans (g72.ext.trans (e74.trans (g78.ext.trans (e80.trans (g82.ext.trans (e85.trans (g89.ext.trans (e94.trans (g99.ext.trans (e101.trans (g105.ext.trans (e107.trans (g109.ext.trans e112))))))))))))))))))))))))).raw ((hc51.1)).prim (by have h9 := hm52; omega) (by decide) (by have h9 := hm52; omega) (by decide) (by have h9 := hm52; omega)
  with_reducible refine Post.mono k118 ?_
  clear k118
  rintro _ u116 g117 ⟨r113, rfl, h114⟩
  replace h114 : RatN _ r113 (Nt.Pol.evL (Nt.cmpL (Nt.mkP l 5) (Nt.Pol.mk' (Nt.mkP m 4))).l (Nt.mkR n)) 235 := RatN.more h114 (by have h9 := hm52; have h8 : Nt.dg 1157 = 37 := (by decide +kernel); omega)
  refine sy_call 67 44 [.slice y12.a y12.n y12.c, r39.v] ?_ (hw := wants1 (g := 29) (b := true) (t := 61) (by kernel_rfl) (by kernel_rfl) (by kernel_rfl))
  intro w119 u119 e119 d119
  have k125 := k_poEval (C := 4436) d119 (h13.ext (e18.trans (g23.ext.trans (e25.trans (g29.ext.trans (e31.trans (g36.ext.trans (e38.trans (g43.ext.trans (e45.trans (g49.ext.trans (e54.trans (g56.ext.trans (e58.trans (g62.ext.trans (e67.trans (g72.ext.trans (e74.trans (g78.ext.trans (e80.trans (g82.ext.trans (e85.trans (g89.ext.trans (e94.trans (g99.ext.trans (e101.trans (g105.ext.trans (e107.trans (g109.ext.trans (e112.trans (g117.ext.trans e119))))))))))))))))))))))))))))))).raw (h40.ext (e45.trans (g49.ext.trans (e54.trans (g56.ext.trans (e58.trans (g62.ext.trans (e67.trans (g72.ext.trans (e74.trans (g78.ext.trans (e80.trans (g82.ext.trans (e85.trans (g89.ext.trans (e94.trans (g99.ext.trans (e101.trans (g105.ext.trans (e107.trans (g109.ext.trans (e112.trans (g117.ext.trans e119))))))))))))))))))))))).raw ((Nt.mkP_sm l 5)).prim (by have h9 := hm14; omega) (by decide) (by have h9 := hm14; omega) (by decide) (by have h9 := hm14; omega)
  with_reducible refine Post.mono k125 ?_
  clear k125
  rintro _ u123 g124 ⟨r120, rfl, h121⟩
  replace h121 : RatN _ r120 (Nt.Pol.evL (Nt.mkP l 5) (Nt.Pol.evL (Nt.mkP m 4) (Nt.mkR n))) 290 := RatN.more h121 (by have h9 := hm14; have h8 : Nt.dg 4436 = 139 := (by decide +kernel); omega)
  refine sy_call 68 40 [r113.v, r120.v] ?_ (hw := wants1 (g := 29) (b := true) (t := 61) (by kernel_rfl) (by kernel_rfl) (by kernel_rfl))
  intro w126 u126 e126 d126
  have k129 := k_rqCompare d126 (h114.ext (e119.trans (g124.ext.trans e126))).raw (h121.ext e126).raw (by omega) (by omega)
  with_reducible refine Post.mono k129 ?_
  clear k129
  rintro _ u127 g128 rfl
  refine sy_pure 69 (.v (.bool ((Nt.cmpQ (Nt.Pol.evL (Nt.cmpL (Nt.mkP l 5) (Nt.Pol.mk' (Nt.mkP m 4))).l (Nt.mkR n)) (Nt.Pol.evL (Nt.mkP l 5) (Nt.Pol.evL (Nt.mkP m 4) (Nt.mkR n)))) == 0))) ?_ (hw := wants1 (g := 29) (b := true) (t := 61) (by kernel_rfl) (by kernel_rfl) (by kernel_rfl))
  refine sy_pure 70 (.v (.bool ((Nt.cmpQ (Nt.Pol.evL (Nt.cmpL (Nt.mkP l 5) (Nt.Pol.mk' (Nt.mkP m 4))).l (Nt.mkR n)) (Nt.Pol.evL (Nt.mkP l 5) (Nt.Pol.evL (Nt.mkP m 4) (Nt.mkR n)))) == 0))) ?_
  refine sy_pure 6 (.v (.bool ((Nt.cmpQ (Nt.Pol.evL (Nt.cmpL (Nt.mkP l 5) (Nt.Pol.mk' (Nt.mkP m 4))).l (Nt.mkR n)) (Nt.Pol.evL (Nt.mkP l 5) (Nt.Pol.evL (Nt.mkP m 4) (Nt.mkR n)))) == 0))) ?_
  refine sy_next 71 [(6, .v (.bool ((Nt.cmpQ (Nt.Pol.evL (Nt.cmpL (Nt.mkP l 5) (Nt.Pol.mk' (Nt.mkP m 4))).l (Nt.mkR n)) (Nt.Pol.evL (Nt.mkP l 5) (Nt.Pol.evL (Nt.mkP m 4) (Nt.mkR n)))) == 0)))] [] ?_
  refine sw_ret (ret0 [.bool ((Nt.cmpQ (Nt.Pol.evL (Nt.cmpL (Nt.mkP l 5) (Nt.Pol.mk' (Nt.mkP m 4))).l (Nt.mkR n)) (Nt.Pol.evL (Nt.mkP l 5) (Nt.Pol.evL (Nt.mkP m 4) (Nt.mkR n)))) == 0)] ⟨res_tmp, trivial⟩ fun u130 e131 => ?_)
  show Value.bool _ = Value.bool _
  rw [show ((Nt.cmpQ (Nt.Pol.evL (Nt.cmpL (Nt.mkP l 5) (Nt.Pol.mk' (Nt.mkP m 4))).l (Nt.mkR n)) (Nt.Pol.evL (Nt.mkP l 5) (Nt.Pol.evL (Nt.mkP m 4) (Nt.mkR n)))) == 0) = true from (Nt.cmpQ_same (Nt.ev_cmpL _ _ _))]
end Go.Proofs.YtnedhbidmfoegaaGreat
