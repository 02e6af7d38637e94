/- Plain polynomials: the ring. Plain polynomials: degrees, division, greatest common divisors, derivatives, values. Contracts of poly: division, greatest common divisors. Printed by wip/sym/g_dm.py. Contracts: equality of lists of rationals, polynomials that are made. Printed by wip/sym/g_q5.py. The laws of chapter 5, without programs: common factors, powers. Polynomials that are made of integers; the laws of chapter 5 in the words of lists. More operations of the walk: conversions of integers; elements and fronts of lists of integers. Contracts of make's polynomials, of powers. Printed by wip/sym/g_mk.py. The examples of chapter 5, without programs. The examples of chapter 5, walked. Printed by wip/sym/g_l5.py. PolyCalculus, walked. Printed by wip/sym/g_l5.py. -/
import Derived.Test.YtnedhbidmfoegaaDvE
namespace Go.Proofs.Ytnedhbidmfoegaa
set_option linter.unusedVariables false
namespace Nt
namespace Pol
theorem C_zero : C 0 = 0 := rfl
end Pol
end Nt
end Go.Proofs.Ytnedhbidmfoegaa
namespace Go.Proofs.Ytnedhbidmfoegaa
set_option linter.unusedVariables false
namespace Nt
namespace Pol
theorem D_add (p q : Pol) : D (p + q) = D p + D q := ext fun i => by rw [c_add, c_D, c_D, c_D, c_add]; grind
theorem D_Cmul (a : Rat) (p : Pol) : D (C a * p) = C a * D p := ext fun i => by rw [c_D, C_mul_c, C_mul_c, c_D]; grind
theorem D_cons (a : Rat) (p : Pol) : D (C a + X * p) = p + X * D p := by
  refine ext fun i => ?_
  have e : C a + X * p = mk' (a :: p.l) := by rw [mk_cons', mk_l]
  have e2 : X * D p = C 0 + X * mk' (D p).l := by rw [mk_l, C_zero]; grind
  rw [e, c_D, c_add, e2, ← mk_cons', mk_cons, mk_cons, if_neg (by omega), Nat.add_sub_cancel, mk_l, mk_l]
  cases i with
  | zero => rw [if_pos rfl]; show p.c 0 * 1 = _; grind
  | succ i =>
    rw [if_neg (by omega), Nat.add_sub_cancel, c_D]
    have h : (((i + 1 + 1 : Nat) : Int) : Rat) = (((i + 1 : Nat) : Int) : Rat) + 1 := by
      rw [show ((i + 1 + 1 : Nat) : Int) = ((i + 1 : Nat) : Int) + 1 from rfl, Rat.intCast_add]; rfl
    rw [h]; grind
theorem D_mul (p q : Pol) : D (p * q) = D p * q + p * D q := by
  induction p using ind with
  | h0 => rw [zero_mul, D_zero]; grind
  | h1 a p ih =>
    have e : (C a + X * p) * q = C a * q + X * (p * q) := by grind
    have e2 : X * (p * q) = C 0 + X * (p * q) := by rw [C_zero]; grind
    rw [e, D_add, D_Cmul, e2, D_cons, ih, D_cons]; grind
end Pol
end Nt
end Go.Proofs.Ytnedhbidmfoegaa
namespace Go.Proofs.Ytnedhbidmfoegaa
open Go.RowKit
set_option linter.unusedVariables false
theorem k_poDegree {u w : World} {x : Sl} {l : List Rat} {K : Nat} (d : Dat u w) (hx : PolV u x l K) (hK : K ≤ 100000000) (hx9 : l.length ≤ 1000000000) : Calls Try.prog 23 #[x.v] w (Post u w fun v u' => v = .int .i64 (((Nt.trimQ l).length : Int) - 1)) := by
  have hlen := hx.len
  have htl := Nt.trim_len l
  refine calls_sym (args := [.slice x.a x.n x.c]) Try.func23 rfl Try.ntmps23 (rs := [.tmp 2]) Try.results23 (le_b rfl) (le_b rfl) d ?_
  refine sw_seq ?_
  refine sw_reg ?_
  refine sy_pure 2 (.v (.int .i64 0)) ?_
  refine sy_next 7 [(0, .v (.slice x.a x.n x.c))] [] ?_
  refine sw_seq ?_
  refine sw_reg ?_
  refine sy_pure 3 (.v (.slice x.a x.n x.c)) ?_
  refine sy_call 4 57 [.slice x.a x.n x.c] ?_
  intro w11 u11 e11 d11
  have k14 := k_cut d11 (hx.ext e11) (by omega) (by first | omega | (simp; omega) | (refine Nat.le_trans (Nt.trim_len _) ?_; first | omega | (simp; omega)) | (refine Nat.le_trans (Nt.trim_len _) ?_; simp only [List.length_map]; refine Nat.le_trans (Nt.trim_len _) ?_; first | omega | (simp; omega)))
  with_reducible refine Post.mono k14 ?_
  clear k14
  rintro _ u12 g13 rfl
  refine sy_pure 5 (.v (.int .i64 (((Nt.trimQ l).length : Nat) : Int))) ?_
  refine sy_eq 6 (x := .v (.int .i64 (IntKind.i64.wrap (((Nt.trimQ l).length : Int) - 1)))) (.v (.int .i64 (((Nt.trimQ l).length : Int) - 1))) (by rw [IntWalk.i64_in _ (by omega)]) ?_
  refine sy_pure 2 (.v (.int .i64 (((Nt.trimQ l).length : Int) - 1))) ?_
  refine sy_next 7 [(2, .v (.int .i64 (((Nt.trimQ l).length : Int) - 1)))] [] ?_
  refine sw_ret (ret0 [.int .i64 (((Nt.trimQ l).length : Int) - 1)] ⟨res_tmp, trivial⟩ fun u15 e16 => ?_)
  rfl
set_option maxHeartbeats 1000000 in
theorem k_poMonic {u w : World} {x : Sl} {l : List Rat} {K : Nat} (d : Dat u w) (hx : PolV u x l K) (hK : K ≤ 40000000) (hx9 : l.length ≤ 1000000000) : Calls Try.prog 92 #[x.v] w (Post u w fun v u' => ∃ y : Sl, v = y.v ∧ PolN u' y ((Nt.Pol.mk' l).monic.l) (2 * K + 2)) := by
  have hlen := hx.len
  have htl := Nt.trim_len l
  refine calls_sym (args := [.slice x.a x.n x.c]) Try.func92 rfl Try.ntmps92 (rs := [.tmp 2]) Try.results92 (le_b rfl) (le_b rfl) d ?_
  refine sw_seq ?_
  refine sw_reg ?_
  refine sy_pure 2 (.v (.slice none 0 0)) ?_
  refine sy_next 25 [(0, .v (.slice x.a x.n x.c))] [] ?_
  refine sw_seq ?_
  refine sw_reg ?_
  refine sy_pure 6 (.v (.slice x.a x.n x.c)) ?_
  refine sy_call 7 57 [.slice x.a x.n x.c] ?_
  intro w11 u11 e11 d11
  have k14 := k_cut d11 (hx.ext e11) (by omega) (by first | omega | (simp; omega) | (refine Nat.le_trans (Nt.trim_len _) ?_; first | omega | (simp; omega)) | (refine Nat.le_trans (Nt.trim_len _) ?_; simp only [List.length_map]; refine Nat.le_trans (Nt.trim_len _) ?_; first | omega | (simp; omega)))
  with_reducible refine Post.mono k14 ?_
  clear k14
  rintro _ u12 g13 rfl
  refine sy_pure 3 (.v (.slice x.a (Nt.trimQ l).length x.c)) ?_
  refine sy_next 25 [(3, .v (.slice x.a (Nt.trimQ l).length x.c))] [] ?_
  refine sw_seq ?_
  refine sw_seq ?_
  refine sw_reg ?_
  refine sy_pure 8 (.v (.slice x.a (Nt.trimQ l).length x.c)) ?_
  refine sy_pure 9 (.v (.int .i64 (((Nt.trimQ l).length : Nat) : Int))) ?_
  refine sy_pure 10 (.v (.bool ((((Nt.trimQ l).length : Nat) : Int) == 0))) ?_
  refine sy_next 25 [(3, .v (.slice x.a (Nt.trimQ l).length x.c)), (10, .v (.bool ((((Nt.trimQ l).length : Nat) : Int) == 0)))] [] ?_
  refine sw_cond (b := (((Nt.trimQ l).length : Nat) : Int) == 0) (by kernel_rfl) (fun hb15 => ?_) (fun hb15 => ?_)
  · replace hb15 : ((((Nt.trimQ l).length : Nat) : Int) == 0) = true := hb15
    have qhb15 : (((Nt.trimQ l).length : Nat) : Int) = 0 := by simpa using hb15
    refine sw_seq ?_
    refine sw_reg ?_
    refine sy_pure 2 (.v (.slice none 0 0)) ?_
    refine sy_next 25 [(2, .v (.slice none 0 0))] [] ?_
    refine sw_ret (mpr_seq (ret0 [.slice none 0 0] ⟨res_tmp, trivial⟩ fun u16 e17 => ?_))
    have e9 : Nt.trimQ l = [] := List.eq_nil_of_length_eq_zero (by omega)
    rw [Nt.monic_list, e9]
    exact ⟨⟨none, 0, 0⟩, rfl, pol_nil _ _⟩
  · replace hb15 : ((((Nt.trimQ l).length : Nat) : Int) == 0) = false := hb15
    have qhb15 : ¬ ((((Nt.trimQ l).length : Nat) : Int) = 0) := by simpa using hb15
    refine sw_skip (mp_seq ?_)
    refine sw_seq ?_
    have hq1 : ((Nt.trimQ l).getD (((Nt.trimQ l).length) - 1) 0) ≠ 0 := Nt.nrm_last (Nt.trim_nrm l) (by intro e; have h9 : (Nt.trimQ l).length = 0 := by { rw [e]; rfl }; omega)
    refine sw_any [0, 0, 0, 4, 12, 30, 62, 127, 255, 511, 511, 0, 3071, 8191] [(1, []), (2, []), (3, []), (4, []), (5, []), (6, []), (11, []), (0, []), (7, []), (8, []), (9, []), (10, []), (12, []), (13, [])] (by kernel_rfl) (by kernel_rfl) ?_
    refine sy_pure 13 (.v (.slice x.a (Nt.trimQ l).length x.c)) ?_
    refine sy_pure 14 (.v (.slice x.a (Nt.trimQ l).length x.c)) ?_
    refine sy_pure 15 (.v (.int .i64 (((Nt.trimQ l).length : Nat) : Int))) ?_
    refine sy_eq 16 (x := .v (.int .i64 (IntKind.i64.wrap ((((Nt.trimQ l).length : Nat) : Int) - 1)))) (.v (.int .i64 ((((Nt.trimQ l).length) - 1 : Nat) : Int))) (eqI (by rw [IntWalk.i64_in _ (by omega)]; omega)) ?_
    have hl18 := (cut_V (hx.ext (e11.trans g13.ext))).len
    change (Nt.trimQ l).length = _ at hl18
    obtain ⟨r18, b18, o18, hA18, hc18, hr18⟩ := pol_at (cut_V (hx.ext (e11.trans g13.ext))) (i := ((Nt.trimQ l).length) - 1) (by omega)
    refine sy_index 17 (o18 + (((Nt.trimQ l).length) - 1) * 3) (n := (Nt.trimQ l).length) (off := o18) (sz := 3) (i := ((((Nt.trimQ l).length) - 1 : Nat) : Int)) (by omega) hA18 (by omega) (by omega) sl43 ?_
    refine sy_ldn 18 r18.cs hc18 ty26 ?_
    refine sy_new 4 ⟨26, [.bool false, .slice none 0 0, .slice none 0 0]⟩ ?_
    refine sy_call 12 49 [.int .i64 1] ?_
    intro w19 u19 e19 d19
    have k24 := k_ratOf d19 (z := 1) (by omega) (by omega)
    with_reducible refine Post.mono k24 ?_
    clear k24
    rintro _ u22 g23 ⟨r20, rfl, h21⟩
    refine sy_call 19 54 [r20.v, r18.v] ?_
    intro w25 u25 e25 d25
    have k30 := k_ratDiv1 d25 (h21.ext e25).raw (hr18.ext (e19.trans (g23.ext.trans e25))) hq1 (by omega) (by omega)
    with_reducible refine Post.mono k30 ?_
    clear k30
    rintro _ u28 g29 ⟨r26, rfl, h27⟩
    refine sy_pure 11 (.v (.tuple #[r26.v, .int .i64 0])) ?_
    refine sy_pure 20 (.v (r26.v)) ?_
    refine sy_pure 21 (.v (.int .i64 0)) ?_
    refine sy_store ⟨26, r26.cs⟩ ty26 ?_
    refine sy_pure 5 (.v (.int .i64 0)) ?_
    refine sy_next 25 [(3, .v (.slice x.a (Nt.trimQ l).length x.c)), (4, .adr 4 0)] [(4, ⟨26, r26.cs⟩)] ?_
    refine sw_seq ?_
    refine sw_reg ?_
    refine sy_pure 22 (.v (.slice x.a (Nt.trimQ l).length x.c)) ?_
    refine sy_ldv 23 (.v (r26.v)) ty26 part_agg ?_
    refine sy_call 24 28 [.slice x.a (Nt.trimQ l).length x.c, r26.v] ?_
    intro w31 u31 e31 d31
    have k36 := k_poScale d31 ((cut_V (hx.ext (e11.trans g13.ext))).ext (e19.trans (g23.ext.trans (e25.trans (g29.ext.trans e31))))) (h27.ext e31).raw (by omega) (by first | omega | (simp; omega) | (refine Nat.le_trans (Nt.trim_len _) ?_; first | omega | (simp; omega)) | (refine Nat.le_trans (Nt.trim_len _) ?_; simp only [List.length_map]; refine Nat.le_trans (Nt.trim_len _) ?_; first | omega | (simp; omega))) (by omega)
    with_reducible refine Post.mono k36 ?_
    clear k36
    rintro _ u34 g35 ⟨y32, rfl, h33⟩
    have hly32 := h33.len
    refine sy_pure 2 (.v (.slice y32.a y32.n y32.c)) ?_
    refine sy_next 25 [(2, .v (.slice y32.a y32.n y32.c))] [] ?_
    refine sw_ret (ret0 [.slice y32.a y32.n y32.c] ⟨res_tmp, trivial⟩ fun u37 e38 => ?_)
    rw [Nt.monic_list]
    refine ⟨y32, rfl, PolN.more (K := (K + (2 + K))) ?_ (by omega)⟩
    exact (h33.ext e38)
set_option maxHeartbeats 2000000 in
theorem k_poDivMod {u w : World} {x : Sl} {l : List Rat} {y : Sl} {m : List Rat} {K M : Nat} (d : Dat u w) (hx : PolV u x l K) (hy : PolV u y m M) {a b C : Nat} (hA : Nt.WhL (Nt.prim l) a) (hB : Nt.WhL (Nt.prim m) b) (hC : a + (l.length + 1) * (b + 1) ≤ C) (hC9 : C ≤ 600000000) (hK1 : (l.length + 1) * K ≤ 20000000) (hM1 : (m.length + 1) * M ≤ 20000000) (hS : Nt.dg C + ((l.length * K + 2) + Nt.dg C + (m.length * M + 2)) ≤ 40000000) (hx9 : l.length ≤ 1000000) (hy9 : m.length ≤ 1000000) : Calls Try.prog 20 #[x.v, y.v] w (Post u w fun v u' => (v = .tuple #[.slice none 0 0, .slice none 0 0, .int .i64 3] ∧ Nt.trimQ m = []) ∨ (Nt.trimQ m ≠ [] ∧ ∃ (y1 y2 : Sl) (q r : Nt.Pol), v = .tuple #[y1.v, y2.v, .int .i64 0] ∧ PolN u' y1 q.l (Nt.dg C + ((l.length * K + 2) + Nt.dg C + (m.length * M + 2))) ∧ PolN u' y2 r.l (Nt.dg C + ((l.length * K + 2) + Nt.dg C + (m.length * M + 2))) ∧ Nt.Pol.mk' l = q * Nt.Pol.mk' m + r ∧ r.len < (Nt.Pol.mk' m).len)) := by
  have hlen := hx.len
  have hlen2 := hy.len
  have htl := Nt.trim_len l
  have htm := Nt.trim_len m
  have hK2 := hK1
  have hM2 := hM1
  rw [Nat.add_mul] at hK2 hM2
  have hKK : (Nt.trimQ l).length * K ≤ l.length * K := Nat.mul_le_mul_right _ htl
  have hMM : (Nt.trimQ m).length * M ≤ m.length * M := Nat.mul_le_mul_right _ htm
  refine calls_sym (args := [.slice x.a x.n x.c, .slice y.a y.n y.c]) Try.func20 rfl Try.ntmps20 (rs := [.tmp 4, .tmp 5, .tmp 6]) Try.results20 (le_b rfl) (le_b rfl) d ?_
  refine sw_seq ?_
  refine sw_reg ?_
  refine sy_pure 4 (.v (.slice none 0 0)) ?_
  refine sy_pure 5 (.v (.slice none 0 0)) ?_
  refine sy_pure 6 (.v (.int .i64 0)) ?_
  refine sy_next 56 [(0, .v (.slice x.a x.n x.c)), (1, .v (.slice y.a y.n y.c))] [] ?_
  refine sw_seq ?_
  refine sw_reg ?_
  refine sy_pure 19 (.v (.slice x.a x.n x.c)) ?_
  refine sy_call 20 52 [.slice x.a x.n x.c] ?_
  intro w11 u11 e11 d11
  have k18 := k_split d11 (hx.ext e11) (by omega) (by first | omega | (simp; omega) | (refine Nat.le_trans (Nt.trim_len _) ?_; first | omega | (simp; omega)) | (refine Nat.le_trans (Nt.trim_len _) ?_; simp only [List.length_map]; refine Nat.le_trans (Nt.trim_len _) ?_; first | omega | (simp; omega)))
  with_reducible refine Post.mono k18 ?_
  clear k18
  rintro _ u16 g17 ⟨r12, y14, rfl, h13, h15⟩
  have hly14 : y14.n = (Nt.trimQ l).length := by have h9 := h15.len; simpa using h9
  refine sy_pure 18 (.v (.tuple #[r12.v, .slice y14.a y14.n y14.c])) ?_
  refine sy_pure 21 (.v (r12.v)) ?_
  refine sy_pure 22 (.v (.slice y14.a y14.n y14.c)) ?_
  refine sy_new 7 ⟨26, [.bool false, .slice none 0 0, .slice none 0 0]⟩ ?_
  refine sy_store ⟨26, r12.cs⟩ ty26 ?_
  refine sy_pure 8 (.v (.slice y14.a y14.n y14.c)) ?_
  refine sy_next 56 [(1, .v (.slice y.a y.n y.c)), (7, .adr 7 0), (8, .v (.slice y14.a y14.n y14.c))] [(7, ⟨26, r12.cs⟩)] ?_
  refine sw_seq ?_
  refine sw_reg ?_
  refine sy_pure 24 (.v (.slice y.a y.n y.c)) ?_
  refine sy_call 25 52 [.slice y.a y.n y.c] ?_
  intro w19 u19 e19 d19
  have k26 := k_split d19 (hy.ext (e11.trans (g17.ext.trans e19))) (by omega) (by first | omega | (simp; omega) | (refine Nat.le_trans (Nt.trim_len _) ?_; first | omega | (simp; omega)) | (refine Nat.le_trans (Nt.trim_len _) ?_; simp only [List.length_map]; refine Nat.le_trans (Nt.trim_len _) ?_; first | omega | (simp; omega)))
  with_reducible refine Post.mono k26 ?_
  clear k26
  rintro _ u24 g25 ⟨r20, y22, rfl, h21, h23⟩
  have hly22 : y22.n = (Nt.trimQ m).length := by have h9 := h23.len; simpa using h9
  refine sy_pure 23 (.v (.tuple #[r20.v, .slice y22.a y22.n y22.c])) ?_
  refine sy_pure 26 (.v (r20.v)) ?_
  refine sy_pure 27 (.v (.slice y22.a y22.n y22.c)) ?_
  refine sy_new 9 ⟨26, [.bool false, .slice none 0 0, .slice none 0 0]⟩ ?_
  refine sy_store ⟨26, r20.cs⟩ ty26 ?_
  refine sy_pure 10 (.v (.slice y22.a y22.n y22.c)) ?_
  refine sy_next 56 [(7, .adr 7 0), (8, .v (.slice y14.a y14.n y14.c)), (9, .adr 9 0), (10, .v (.slice y22.a y22.n y22.c))] [(7, ⟨26, r12.cs⟩), (9, ⟨26, r20.cs⟩)] ?_
  refine sw_seq ?_
  refine sw_seq ?_
  refine sw_reg ?_
  refine sy_pure 28 (.v (.slice y22.a y22.n y22.c)) ?_
  refine sy_pure 29 (.v (.int .i64 (y22.n : Int))) ?_
  refine sy_pure 30 (.v (.bool ((y22.n : Int) == 0))) ?_
  refine sy_next 56 [(7, .adr 7 0), (8, .v (.slice y14.a y14.n y14.c)), (9, .adr 9 0), (10, .v (.slice y22.a y22.n y22.c)), (30, .v (.bool ((y22.n : Int) == 0)))] [(7, ⟨26, r12.cs⟩), (9, ⟨26, r20.cs⟩)] ?_
  refine sw_cond (b := (y22.n : Int) == 0) (by kernel_rfl) (fun hb27 => ?_) (fun hb27 => ?_)
  · replace hb27 : ((y22.n : Int) == 0) = true := hb27
    have qhb27 : (y22.n : Int) = 0 := by simpa using hb27
    refine sw_seq ?_
    refine sw_reg ?_
    refine sy_pure 4 (.v (.slice none 0 0)) ?_
    refine sy_pure 5 (.v (.slice none 0 0)) ?_
    refine sy_pure 6 (.v (.int .i64 3)) ?_
    refine sy_next 56 [(4, .v (.slice none 0 0)), (5, .v (.slice none 0 0)), (6, .v (.int .i64 3))] [] ?_
    refine sw_ret (mpr_seq (ret0 [.slice none 0 0, .slice none 0 0, .int .i64 3] ⟨res_tmp, res_tmp, res_tmp, trivial⟩ fun u28 e29 => ?_))
    exact .inl ⟨rfl, List.eq_nil_of_length_eq_zero (by omega)⟩
  · replace hb27 : ((y22.n : Int) == 0) = false := hb27
    have qhb27 : ¬ ((y22.n : Int) = 0) := by simpa using hb27
    refine sw_skip (mp_seq ?_)
    refine sw_seq ?_
    have hm1 : Nt.trimQ m ≠ [] := by intro e; have h9 : (Nt.trimQ m).length = 0 := by { rw [e]; rfl }; omega
    have hm2 : 0 < (Nt.prim m).length := by rw [Nt.prim_len]; omega
    refine sw_reg ?_
    refine sy_pure 32 (.v (.slice y14.a y14.n y14.c)) ?_
    refine sy_pure 33 (.v (.slice y22.a y22.n y22.c)) ?_
    refine sy_call 34 53 [.slice y14.a y14.n y14.c, .slice y22.a y22.n y22.c] ?_
    intro w30 u30 e30 d30
    have k34 := k_divide (C := C) d30 (h15.ext (e19.trans (g25.ext.trans e30))) (h23.ext e30) hA hB (Nt.prim_nrm m) hm2 (Nat.le_trans (Nat.add_le_add_left (Nat.mul_le_mul_right _ (by simp; omega)) _) hC) hC9 (by first | omega | (simp; omega)) (by first | omega | (simp; omega))
    with_reducible refine Post.mono k34 ?_
    clear k34
    rintro _ u32 g33 ⟨y31, z31, r31, s31, t31, f31, rfl, ha31, hb31, hc31, hD31, hws31, hwt31⟩
    have hly31 := ha31.len
    have hlz31 := hb31.len
    have hlty31 := hD31.lt
    have htly31 := hD31.tl
    have hsly31 := hD31.sl
    try simp only [List.length_map, Nt.prim_len] at hlty31 htly31 hsly31
    refine sy_pure 31 (.v (.tuple #[.slice y31.a y31.n y31.c, .slice z31.a z31.n z31.c, r31.v])) ?_
    refine sy_pure 35 (.v (.slice y31.a y31.n y31.c)) ?_
    refine sy_pure 36 (.v (.slice z31.a z31.n z31.c)) ?_
    refine sy_pure 37 (.v (r31.v)) ?_
    refine sy_new 13 ⟨26, [.bool false, .slice none 0 0, .slice none 0 0]⟩ ?_
    refine sy_pure 11 (.v (.slice y31.a y31.n y31.c)) ?_
    refine sy_pure 12 (.v (.slice z31.a z31.n z31.c)) ?_
    refine sy_store ⟨26, r31.cs⟩ ty26 ?_
    refine sy_next 56 [(7, .adr 7 0), (9, .adr 9 0), (11, .v (.slice y31.a y31.n y31.c)), (12, .v (.slice z31.a z31.n z31.c)), (13, .adr 13 0)] [(7, ⟨26, r12.cs⟩), (9, ⟨26, r20.cs⟩), (13, ⟨26, r31.cs⟩)] ?_
    refine sw_seq ?_
    refine sw_reg ?_
    refine sy_ldv 39 (.v (r12.v)) ty26 part_agg ?_
    refine sy_ldv 40 (.v (r31.v)) ty26 part_agg ?_
    refine sy_call 41 54 [r12.v, r31.v] ?_
    intro w35 u35 e35 d35
    have k40 := k_ratDiv1 d35 (h13.ext (e19.trans (g25.ext.trans (e30.trans (g33.ext.trans e35))))).raw (hc31.ext e35).raw hD31.f0 (by omega) (by omega)
    with_reducible refine Post.mono k40 ?_
    clear k40
    rintro _ u38 g39 ⟨r36, rfl, h37⟩
    refine sy_pure 38 (.v (.tuple #[r36.v, .int .i64 0])) ?_
    refine sy_pure 42 (.v (r36.v)) ?_
    refine sy_pure 43 (.v (.int .i64 0)) ?_
    refine sy_new 14 ⟨26, [.bool false, .slice none 0 0, .slice none 0 0]⟩ ?_
    refine sy_store ⟨26, r36.cs⟩ ty26 ?_
    refine sy_pure 15 (.v (.int .i64 0)) ?_
    refine sy_next 56 [(9, .adr 9 0), (11, .v (.slice y31.a y31.n y31.c)), (12, .v (.slice z31.a z31.n z31.c)), (14, .adr 14 0)] [(9, ⟨26, r20.cs⟩), (14, ⟨26, r36.cs⟩)] ?_
    refine sw_seq ?_
    refine sw_reg ?_
    refine sy_ldv 45 (.v (r36.v)) ty26 part_agg ?_
    refine sy_ldv 46 (.v (r20.v)) ty26 part_agg ?_
    refine sy_call 47 54 [r36.v, r20.v] ?_
    intro w41 u41 e41 d41
    have k46 := k_ratDiv1 d41 (h37.ext e41).raw (h21.ext (e30.trans (g33.ext.trans (e35.trans (g39.ext.trans e41))))).raw (Nt.msr_ne' hm1) (by omega) (by omega)
    with_reducible refine Post.mono k46 ?_
    clear k46
    rintro _ u44 g45 ⟨r42, rfl, h43⟩
    refine sy_pure 44 (.v (.tuple #[r42.v, .int .i64 0])) ?_
    refine sy_pure 48 (.v (r42.v)) ?_
    refine sy_pure 49 (.v (.int .i64 0)) ?_
    refine sy_new 16 ⟨26, [.bool false, .slice none 0 0, .slice none 0 0]⟩ ?_
    refine sy_store ⟨26, r42.cs⟩ ty26 ?_
    refine sy_pure 17 (.v (.int .i64 0)) ?_
    refine sy_next 56 [(11, .v (.slice y31.a y31.n y31.c)), (12, .v (.slice z31.a z31.n z31.c)), (14, .adr 14 0), (16, .adr 16 0)] [(14, ⟨26, r36.cs⟩), (16, ⟨26, r42.cs⟩)] ?_
    refine sw_seq ?_
    refine sw_any [0, 0, 3, 0, 0, 31, 63, 127, 255] [(0, []), (1, []), (3, []), (4, []), (2, []), (5, []), (6, []), (7, []), (8, [])] (by kernel_rfl) (by kernel_rfl) ?_
    refine sy_pure 50 (.v (.slice y31.a y31.n y31.c)) ?_
    refine sy_ldv 51 (.v (r42.v)) ty26 part_agg ?_
    refine sy_pure 53 (.v (.slice z31.a z31.n z31.c)) ?_
    refine sy_ldv 54 (.v (r36.v)) ty26 part_agg ?_
    refine sy_call 52 28 [.slice y31.a y31.n y31.c, r42.v] ?_
    intro w47 u47 e47 d47
    have k52 := k_poScale d47 (ha31.ext (e35.trans (g39.ext.trans (e41.trans (g45.ext.trans e47))))).raw (h43.ext e47).raw (by omega) (by first | omega | (simp; omega) | (refine Nat.le_trans (Nt.trim_len _) ?_; first | omega | (simp; omega)) | (refine Nat.le_trans (Nt.trim_len _) ?_; simp only [List.length_map]; refine Nat.le_trans (Nt.trim_len _) ?_; first | omega | (simp; omega))) (by omega)
    with_reducible refine Post.mono k52 ?_
    clear k52
    rintro _ u50 g51 ⟨y48, rfl, h49⟩
    have hly48 := h49.len
    refine sy_call 55 28 [.slice z31.a z31.n z31.c, r36.v] ?_
    intro w53 u53 e53 d53
    have k58 := k_poScale d53 (hb31.ext (e35.trans (g39.ext.trans (e41.trans (g45.ext.trans (e47.trans (g51.ext.trans e53))))))).raw (h37.ext (e41.trans (g45.ext.trans (e47.trans (g51.ext.trans e53))))).raw (by omega) (by first | omega | (simp; omega) | (refine Nat.le_trans (Nt.trim_len _) ?_; first | omega | (simp; omega)) | (refine Nat.le_trans (Nt.trim_len _) ?_; simp only [List.length_map]; refine Nat.le_trans (Nt.trim_len _) ?_; first | omega | (simp; omega))) (by omega)
    with_reducible refine Post.mono k58 ?_
    clear k58
    rintro _ u56 g57 ⟨y54, rfl, h55⟩
    have hly54 := h55.len
    refine sy_pure 4 (.v (.slice y48.a y48.n y48.c)) ?_
    refine sy_pure 5 (.v (.slice y54.a y54.n y54.c)) ?_
    refine sy_pure 6 (.v (.int .i64 0)) ?_
    refine sy_next 56 [(4, .v (.slice y48.a y48.n y48.c)), (5, .v (.slice y54.a y54.n y54.c)), (6, .v (.int .i64 0))] [] ?_
    refine sw_ret (ret0 [.slice y48.a y48.n y48.c, .slice y54.a y54.n y54.c, .int .i64 0] ⟨res_tmp, res_tmp, res_tmp, trivial⟩ fun u59 e60 => ?_)
    obtain ⟨e1, e2⟩ := Nt.divmod_parts (l := l) (m := m) hm1 hD31
    exact .inr ⟨hm1, y48, y54, _, _, rfl, PolN.more (K := ((Nt.dg C) + ((((Nt.trimQ l).length * K + 2) + (Nt.dg C)) + ((Nt.trimQ m).length * M + 2)))) (h49.ext (e53.trans (g57.ext.trans e60))) (by omega), PolN.more (K := ((Nt.dg C) + (((Nt.trimQ l).length * K + 2) + (Nt.dg C)))) (h55.ext e60) (by omega), e1, e2⟩
theorem k_poDivMod1 {u w : World} {x y : Sl} {l m : List Rat} {K M : Nat} (d : Dat u w) (hx : PolV u x l K) (hy : PolV u y m M) {a b C : Nat} (hm1 : Nt.trimQ m ≠ []) (hA : Nt.WhL (Nt.prim l) a) (hB : Nt.WhL (Nt.prim m) b) (hC : a + (l.length + 1) * (b + 1) ≤ C) (hC9 : C ≤ 600000000) (hK1 : (l.length + 1) * K ≤ 20000000) (hM1 : (m.length + 1) * M ≤ 20000000) (hS : Nt.dg C + ((l.length * K + 2) + Nt.dg C + (m.length * M + 2)) ≤ 40000000) (hx9 : l.length ≤ 1000000) (hy9 : m.length ≤ 1000000) :
    Calls Try.prog 20 #[x.v, y.v] w (Post u w fun v u' => ∃ (y1 y2 : Sl) (q r : Nt.Pol), v = .tuple #[y1.v, y2.v, .int .i64 0] ∧ PolN u' y1 q.l (Nt.dg C + ((l.length * K + 2) + Nt.dg C + (m.length * M + 2))) ∧ PolN u' y2 r.l (Nt.dg C + ((l.length * K + 2) + Nt.dg C + (m.length * M + 2))) ∧ Nt.Pol.mk' l = q * Nt.Pol.mk' m + r ∧ r.len < (Nt.Pol.mk' m).len) :=
  Post.mono (k_poDivMod d hx hy hA hB hC hC9 hK1 hM1 hS hx9 hy9) fun v u' _ h => (h.resolve_left (fun k => hm1 k.2)).2
set_option maxHeartbeats 2000000 in
theorem k_poGcd {u w : World} {x : Sl} {l : List Rat} {y : Sl} {m : List Rat} {K M : Nat} (d : Dat u w) (hx : PolV u x l K) (hy : PolV u y m M) {A H N : Nat} (hA : Nt.WhL (Nt.prim l) A) (hB : Nt.WhL (Nt.prim m) A) (hH : (A + 1) * (A + 1) * 3 ^ (l.length + m.length + 2) ≤ H * H) (hH9 : H ≤ 600000000) (hN1 : l.length ≤ N) (hN2 : m.length ≤ N) (hN : (N + 1) * Nt.dg H ≤ 19000000) (hK1 : (l.length + 1) * K ≤ 20000000) (hM1 : (m.length + 1) * M ≤ 20000000) (hN9 : N ≤ 1000000) : Calls Try.prog 91 #[x.v, y.v] w (Post u w fun v u' => ∃ (z : Sl) (g : Nt.Pol) (W : List Rat) (k : Rat), v = z.v ∧ PolN u' z g.l (2 * Nt.dg H + 2) ∧ Nt.Pol.IsGcd (Nt.Pol.mk' l) (Nt.Pol.mk' m) g ∧ k ≠ 0 ∧ (∀ i, Nt.co g.l i = k * Nt.co W i) ∧ Nt.WhL W H) := by
  have hlen := hx.len
  have hlen2 := hy.len
  have htl := Nt.trim_len l
  have htm := Nt.trim_len m
  have hdgH : Nt.dg H ≤ (N + 1) * Nt.dg H := Nat.le_mul_of_pos_left _ (by omega)
  have hAH : A ≤ H := by have h9 := Nt.pot_le (Nt.pot_mono hH (Nat.le_refl _) (Nat.le_refl _)); omega
  refine calls_sym (args := [.slice x.a x.n x.c, .slice y.a y.n y.c]) Try.func91 rfl Try.ntmps91 (rs := [.tmp 4]) Try.results91 (le_b rfl) (le_b rfl) d ?_
  refine sw_seq ?_
  refine sw_reg ?_
  refine sy_pure 4 (.v (.slice none 0 0)) ?_
  refine sy_next 41 [(0, .v (.slice x.a x.n x.c)), (1, .v (.slice y.a y.n y.c))] [] ?_
  refine sw_seq ?_
  refine sw_reg ?_
  refine sy_pure 13 (.v (.slice x.a x.n x.c)) ?_
  refine sy_call 14 52 [.slice x.a x.n x.c] ?_
  intro w11 u11 e11 d11
  have k18 := k_split d11 (hx.ext e11) (by omega) (by first | omega | (simp; omega) | (refine Nat.le_trans (Nt.trim_len _) ?_; first | omega | (simp; omega)) | (refine Nat.le_trans (Nt.trim_len _) ?_; simp only [List.length_map]; refine Nat.le_trans (Nt.trim_len _) ?_; first | omega | (simp; omega)))
  with_reducible refine Post.mono k18 ?_
  clear k18
  rintro _ u16 g17 ⟨r12, y14, rfl, h13, h15⟩
  have hly14 : y14.n = (Nt.trimQ l).length := by have h9 := h15.len; simpa using h9
  refine sy_pure 12 (.v (.tuple #[r12.v, .slice y14.a y14.n y14.c])) ?_
  refine sy_pure 15 (.v (r12.v)) ?_
  refine sy_pure 16 (.v (.slice y14.a y14.n y14.c)) ?_
  refine sy_new 5 ⟨26, [.bool false, .slice none 0 0, .slice none 0 0]⟩ ?_
  refine sy_store ⟨26, r12.cs⟩ ty26 ?_
  refine sy_pure 6 (.v (.slice y14.a y14.n y14.c)) ?_
  refine sy_next 41 [(1, .v (.slice y.a y.n y.c)), (6, .v (.slice y14.a y14.n y14.c))] [] ?_
  refine sw_seq ?_
  refine sw_reg ?_
  refine sy_pure 18 (.v (.slice y.a y.n y.c)) ?_
  refine sy_call 19 52 [.slice y.a y.n y.c] ?_
  intro w19 u19 e19 d19
  have k26 := k_split d19 (hy.ext (e11.trans (g17.ext.trans e19))) (by omega) (by first | omega | (simp; omega) | (refine Nat.le_trans (Nt.trim_len _) ?_; first | omega | (simp; omega)) | (refine Nat.le_trans (Nt.trim_len _) ?_; simp only [List.length_map]; refine Nat.le_trans (Nt.trim_len _) ?_; first | omega | (simp; omega)))
  with_reducible refine Post.mono k26 ?_
  clear k26
  rintro _ u24 g25 ⟨r20, y22, rfl, h21, h23⟩
  have hly22 : y22.n = (Nt.trimQ m).length := by have h9 := h23.len; simpa using h9
  refine sy_pure 17 (.v (.tuple #[r20.v, .slice y22.a y22.n y22.c])) ?_
  refine sy_pure 20 (.v (r20.v)) ?_
  refine sy_pure 21 (.v (.slice y22.a y22.n y22.c)) ?_
  refine sy_new 7 ⟨26, [.bool false, .slice none 0 0, .slice none 0 0]⟩ ?_
  refine sy_store ⟨26, r20.cs⟩ ty26 ?_
  refine sy_pure 8 (.v (.slice y22.a y22.n y22.c)) ?_
  refine sy_next 41 [(6, .v (.slice y14.a y14.n y14.c)), (8, .v (.slice y22.a y22.n y22.c))] [] ?_
  refine sw_seq ?_
  refine sw_block ?_
  refine sw_loop (I := fun m27 S' u' => ∃ (xa : Sl) (xb : Sl) (pa : List Rat) (pb : List Rat) (A9 : Nat), (m27 = pb.length) ∧ (pa.length ≤ N) ∧ (pb.length ≤ N) ∧ (Nt.Nrm pb) ∧ (Nt.WhL pa A9) ∧ (Nt.WhL pb A9) ∧ ((A9 + 1) * (A9 + 1) * 3 ^ Nt.pot pa.length pb.length ≤ H * H) ∧ (Nt.Pol.Same (Nt.Pol.mk' l) (Nt.Pol.mk' m) (Nt.Pol.mk' pa) (Nt.Pol.mk' pb)) ∧ (S' = St.of 41 [(6, .v (.slice xa.a xa.n xa.c)), (8, .v (.slice xb.a xb.n xb.c))] []) ∧ (Ext u24 u') ∧ (PolN u' xa pa (Nt.dg H)) ∧ (PolN u' xb pb (Nt.dg H))) (fun m S u1 u2 e h => by obtain ⟨xa, xb, pa, pb, A9, hm, p0, p1, p2, p3, p4, p5, p6, hS, hE, f0, f1⟩ := h; exact ⟨xa, xb, pa, pb, A9, hm, p0, p1, p2, p3, p4, p5, p6, hS, hE.trans e, f0.ext e, f1.ext e⟩) _ (T := St.of 41 [(6, .v (.slice y14.a y14.n y14.c)), (8, .v (.slice y22.a y22.n y22.c))] []) (by exact weak_mk _ _ _) ⟨y14, y22, (Nt.prim l), (Nt.prim m), A, rfl, (by rw [Nt.prim_len]; omega), (by rw [Nt.prim_len]; omega), (Nt.prim_nrm m), hA, hB, (Nt.pot_mono hH (by rw [Nt.prim_len]; omega) (by rw [Nt.prim_len]; omega)), (Nt.prim_same l m), rfl, Ext.refl _, (PolN.fitW (K := (K + ((Nt.trimQ l).length * K + 2))) (h15.ext (e19.trans g25.ext)) (hA.more hAH)), (PolN.fitW (K := (M + ((Nt.trimQ m).length * M + 2))) h23 (hB.more hAH))⟩ ?_
  rintro m27 _ u27 ⟨xa, xb, pa, pb, A9, hm27, hna, hnl, hnb, hWa, hWb, hP, hS, rfl, e27, hFa, hFb⟩
  have hla := hFa.len
  have hlb := hFb.len
  have hA9 := Nt.pot_le hP
  refine sw_seq ?_
  refine sw_seq ?_
  refine sw_reg ?_
  refine sy_pure 22 (.v (.slice xb.a xb.n xb.c)) ?_
  refine sy_pure 23 (.v (.int .i64 (xb.n : Int))) ?_
  refine sy_pure 24 (.v (.bool (decide ((0 : Int) < (xb.n : Int))))) ?_
  refine sy_next 41 [(6, .v (.slice xa.a xa.n xa.c)), (8, .v (.slice xb.a xb.n xb.c)), (24, .v (.bool (decide ((0 : Int) < (xb.n : Int)))))] [] ?_
  refine sw_cond (b := decide ((0 : Int) < (xb.n : Int))) (by kernel_rfl) (fun hb28 => ?_) (fun hb28 => ?_)
  · replace hb28 : (decide ((0 : Int) < (xb.n : Int))) = true := hb28
    have qhb28 := of_decide_eq_true hb28
    refine sw_skip (mp_seq ?_)
    refine sw_block ?_
    refine sw_seq ?_
    have hP0 := Nt.pot_step hP (lr := 0) (by omega) (by omega)
    obtain ⟨C9, hC9⟩ : ∃ C9, A9 + (pa.length - pb.length + 1) * (A9 + 1) = C9 := ⟨_, rfl⟩
    rw [hC9] at hP0
    have hCH := Nt.pot_le hP0
    have hCA : A9 ≤ C9 := by omega
    refine sw_reg ?_
    refine sy_pure 26 (.v (.slice xa.a xa.n xa.c)) ?_
    refine sy_pure 27 (.v (.slice xb.a xb.n xb.c)) ?_
    refine sy_call 28 53 [.slice xa.a xa.n xa.c, .slice xb.a xb.n xb.c] ?_
    intro w29 u29 e29 d29
    have k33 := k_divide (C := C9) d29 (hFa.ext e29) (hFb.ext e29) hWa hWb hnb (by omega) (Nat.le_of_eq hC9) (by omega) (by first | omega | (simp; omega)) (by first | omega | (simp; omega))
    with_reducible refine Post.mono k33 ?_
    clear k33
    rintro _ u31 g32 ⟨y30, z30, r30, s30, t30, f30, rfl, ha30, hb30, hc30, hD30, hws30, hwt30⟩
    have hly30 := ha30.len
    have hlz30 := hb30.len
    have hlty30 := hD30.lt
    have htly30 := hD30.tl
    have hsly30 := hD30.sl
    try simp only [List.length_map, Nt.prim_len] at hlty30 htly30 hsly30
    refine sy_pure 25 (.v (.tuple #[.slice y30.a y30.n y30.c, .slice z30.a z30.n z30.c, r30.v])) ?_
    refine sy_pure 29 (.v (.slice y30.a y30.n y30.c)) ?_
    refine sy_pure 30 (.v (.slice z30.a z30.n z30.c)) ?_
    refine sy_pure 31 (.v (r30.v)) ?_
    refine sy_new 11 ⟨26, [.bool false, .slice none 0 0, .slice none 0 0]⟩ ?_
    refine sy_pure 9 (.v (.slice y30.a y30.n y30.c)) ?_
    refine sy_pure 10 (.v (.slice z30.a z30.n z30.c)) ?_
    refine sy_store ⟨26, r30.cs⟩ ty26 ?_
    refine sy_next 41 [(8, .v (.slice xb.a xb.n xb.c)), (10, .v (.slice z30.a z30.n z30.c))] [] ?_
    refine sw_seq ?_
    refine sw_reg ?_
    refine sy_pure 33 (.v (.slice z30.a z30.n z30.c)) ?_
    refine sy_call 34 52 [.slice z30.a z30.n z30.c] ?_
    intro w34 u34 e34 d34
    have k41 := k_split d34 (hb30.ext e34).raw (Nat.le_trans (Nat.mul_le_mul (show t30.length + 1 ≤ N + 1 by omega) (Nt.dg_mono (show C9 ≤ H by omega))) (by omega)) (by first | omega | (simp; omega) | (refine Nat.le_trans (Nt.trim_len _) ?_; first | omega | (simp; omega)) | (refine Nat.le_trans (Nt.trim_len _) ?_; simp only [List.length_map]; refine Nat.le_trans (Nt.trim_len _) ?_; first | omega | (simp; omega)))
    with_reducible refine Post.mono k41 ?_
    clear k41
    rintro _ u39 g40 ⟨r35, y37, rfl, h36, h38⟩
    have hly37 : y37.n = (Nt.trimQ t30).length := by have h9 := h38.len; simpa using h9
    refine sy_pure 32 (.v (.tuple #[r35.v, .slice y37.a y37.n y37.c])) ?_
    refine sy_pure 35 (.v (r35.v)) ?_
    refine sy_pure 36 (.v (.slice y37.a y37.n y37.c)) ?_
    refine sy_pure 10 (.v (.slice y37.a y37.n y37.c)) ?_
    refine sy_next 41 [(8, .v (.slice xb.a xb.n xb.c)), (10, .v (.slice y37.a y37.n y37.c))] [] ?_
    refine sw_reg ?_
    refine sy_pure 37 (.v (.slice xb.a xb.n xb.c)) ?_
    refine sy_pure 38 (.v (.slice y37.a y37.n y37.c)) ?_
    refine sy_pure 6 (.v (.slice xb.a xb.n xb.c)) ?_
    refine sy_pure 8 (.v (.slice y37.a y37.n y37.c)) ?_
    refine sy_end ?_
    have hpt : (Nt.prim t30).length ≤ t30.length := by rw [Nt.prim_len]; exact Nt.trim_len _
    have hP9 := Nt.pot_step hP (lr := (Nt.prim t30).length) (by omega) (by omega)
    rw [hC9] at hP9
    refine ⟨_, ?_, St.of 41 [(6, .v (.slice xb.a xb.n xb.c)), (8, .v (.slice y37.a y37.n y37.c))] [], by exact weak_mk _ _ _, xb, y37, pb, (Nt.prim t30), C9, rfl, by omega, by omega, (Nt.prim_nrm _), (hWb.more hCA), (Nt.prim_of_wh hwt30), hP9, (Nt.same_step hS hD30), rfl, (e27.trans (e29.trans (g32.ext.trans (e34.trans g40.ext)))), (hFb.ext (e29.trans (g32.ext.trans (e34.trans g40.ext)))), (PolN.fitW (K := ((Nt.dg C9) + ((Nt.trimQ t30).length * (Nt.dg C9) + 2))) h38 ((Nt.prim_of_wh hwt30).more (by omega)))⟩
    omega
  · replace hb28 : (decide ((0 : Int) < (xb.n : Int))) = false := hb28
    have qhb28 := of_decide_eq_false hb28
    refine sw_exit ?_
    refine mp_seq ?_
    refine sw_seq ?_
    refine sw_reg ?_
    refine sy_pure 39 (.v (.slice xa.a xa.n xa.c)) ?_
    refine sy_call 40 92 [.slice xa.a xa.n xa.c] ?_
    intro w42 u42 e42 d42
    have k47 := k_poMonic d42 (hFa.ext e42).raw (by omega) (by first | omega | (simp; omega) | (refine Nat.le_trans (Nt.trim_len _) ?_; first | omega | (simp; omega)) | (refine Nat.le_trans (Nt.trim_len _) ?_; simp only [List.length_map]; refine Nat.le_trans (Nt.trim_len _) ?_; first | omega | (simp; omega)))
    with_reducible refine Post.mono k47 ?_
    clear k47
    rintro _ u45 g46 ⟨y43, rfl, h44⟩
    have hly43 := h44.len
    refine sy_pure 4 (.v (.slice y43.a y43.n y43.c)) ?_
    refine sy_next 41 [(4, .v (.slice y43.a y43.n y43.c))] [] ?_
    refine sw_ret (ret0 [.slice y43.a y43.n y43.c] ⟨res_tmp, trivial⟩ fun u48 e49 => ?_)
    have hb0 : pb.length = 0 := by omega
    have hS9 := hS
    rw [Nt.mk_nil hb0] at hS9
    obtain ⟨k, hk0, hk⟩ := Nt.monic_scaled pa
    exact ⟨y43, _, pa, k, rfl, (h44.ext e49), hS9.gcd, hk0, hk, hWa.more (by omega)⟩
set_option maxHeartbeats 2000000 in
theorem k_poSquarefree {u w : World} {x : Sl} {l : List Rat} {K : Nat} (d : Dat u w) (hx : PolV u x l K) {A H N C : Nat} (hA : Nt.WhL (Nt.prim l) A) (hB : Nt.WhL (Nt.prim (Nt.trimQ (Nt.derQ l))) A) (hH : (A + 1) * (A + 1) * 3 ^ (l.length + (Nt.trimQ (Nt.derQ l)).length + 2) ≤ H * H) (hH9 : H ≤ 600000000) (hN1 : l.length ≤ N) (hN : (N + 1) * Nt.dg H ≤ 8000000) (hC : A + (l.length + 1) * (H + 1) ≤ C) (hC9 : C ≤ 600000000) (hK1 : (l.length + 1) * (K + 2) ≤ 20000000) (hS : (Nt.dg C + ((l.length * K + 2) + Nt.dg C + (N * (2 * Nt.dg H + 2) + 2))) ≤ 40000000) (hN9 : N ≤ 1000000) : Calls Try.prog 55 #[x.v] w (Post u w fun v u' => ∃ (z : Sl) (s : Nt.Pol), v = z.v ∧ PolN u' z s.l (2 * (Nt.dg C + ((l.length * K + 2) + Nt.dg C + (N * (2 * Nt.dg H + 2) + 2))) + 2) ∧ Nt.IsSqf (Nt.Pol.mk' l) s) := by
  have hlen := hx.len
  have hK2 := hK1
  rw [Nat.add_mul] at hK2
  have hNN : (N + 1) * (2 * Nt.dg H + 2) = 2 * ((N + 1) * Nt.dg H) + 2 * (N + 1) := by rw [Nat.mul_add, Nat.mul_left_comm, Nat.mul_comm (N + 1) 2]
  have hdr : (Nt.trimQ (Nt.derQ l)).length ≤ l.length := by have h9 := Nt.trim_len (Nt.derQ l); rw [Nt.derQ_len] at h9; omega
  have hKl : (l.length + 1) * K ≤ (l.length + 1) * (K + 2) := Nat.mul_le_mul_left _ (Nat.le_add_right K 2)
  refine calls_sym (args := [.slice x.a x.n x.c]) Try.func55 rfl Try.ntmps55 (rs := [.tmp 2]) Try.results55 (le_b rfl) (le_b rfl) d ?_
  refine sw_seq ?_
  refine sw_reg ?_
  refine sy_pure 2 (.v (.slice none 0 0)) ?_
  refine sy_next 23 [(0, .v (.slice x.a x.n x.c))] [] ?_
  refine sw_seq ?_
  refine sw_reg ?_
  refine sy_pure 7 (.v (.slice x.a x.n x.c)) ?_
  refine sy_pure 8 (.v (.slice x.a x.n x.c)) ?_
  refine sy_call 9 27 [.slice x.a x.n x.c] ?_
  intro w11 u11 e11 d11
  have k16 := k_poDerivative d11 (hx.ext e11) (by omega) (by first | omega | (simp; omega) | (refine Nat.le_trans (Nt.trim_len _) ?_; first | omega | (simp; omega)) | (refine Nat.le_trans (Nt.trim_len _) ?_; simp only [List.length_map]; refine Nat.le_trans (Nt.trim_len _) ?_; first | omega | (simp; omega)))
  with_reducible refine Post.mono k16 ?_
  clear k16
  rintro _ u14 g15 ⟨y12, rfl, h13⟩
  have hly12 := h13.len
  refine sy_call 10 91 [.slice x.a x.n x.c, .slice y12.a y12.n y12.c] ?_
  intro w17 u17 e17 d17
  have k21 := k_poGcd (H := H) d17 (hx.ext (e11.trans (g15.ext.trans e17))) (h13.ext e17).raw hA hB hH hH9 (by omega) (by first | omega | (simp; omega) | (refine Nat.le_trans (Nt.trim_len _) ?_; first | omega | (simp; omega)) | (refine Nat.le_trans (Nt.trim_len _) ?_; simp only [List.length_map]; refine Nat.le_trans (Nt.trim_len _) ?_; first | omega | (simp; omega))) (by omega) (by omega) (Nat.le_trans (Nat.mul_le_mul_right _ (show (Nt.trimQ (Nt.derQ l)).length + 1 ≤ l.length + 1 by have h9 := Nt.trim_len (Nt.derQ l); rw [Nt.derQ_len] at h9; omega)) hK1) hN9
  with_reducible refine Post.mono k21 ?_
  clear k21
  rintro _ u19 g20 ⟨z18, g18, W18, k18, rfl, hz18, hg18, hk18, hW18, hw18⟩
  have hlz18 := hz18.len
  refine sy_pure 3 (.v (.slice z18.a z18.n z18.c)) ?_
  refine sy_next 23 [(0, .v (.slice x.a x.n x.c)), (3, .v (.slice z18.a z18.n z18.c))] [] ?_
  refine sw_seq ?_
  refine sw_seq ?_
  refine sw_reg ?_
  refine sy_pure 11 (.v (.slice z18.a z18.n z18.c)) ?_
  refine sy_pure 12 (.v (.int .i64 (z18.n : Int))) ?_
  refine sy_pure 13 (.v (.bool ((z18.n : Int) == 0))) ?_
  refine sy_next 23 [(0, .v (.slice x.a x.n x.c)), (3, .v (.slice z18.a z18.n z18.c)), (13, .v (.bool ((z18.n : Int) == 0)))] [] ?_
  refine sw_cond (b := (z18.n : Int) == 0) (by kernel_rfl) (fun hb22 => ?_) (fun hb22 => ?_)
  · replace hb22 : ((z18.n : Int) == 0) = true := hb22
    have qhb22 : (z18.n : Int) = 0 := by simpa using hb22
    refine sw_seq ?_
    refine sw_reg ?_
    refine sy_pure 2 (.v (.slice none 0 0)) ?_
    refine sy_next 23 [(2, .v (.slice none 0 0))] [] ?_
    refine sw_ret (mpr_seq (ret0 [.slice none 0 0] ⟨res_tmp, trivial⟩ fun u23 e24 => ?_))
    have hg0 : g18 = 0 := Nt.Pol.zero_of_len (by show g18.l.length = 0; omega)
    have hp0 : Nt.Pol.mk' l = 0 := by obtain ⟨u1, e1⟩ := hg18.l; rw [e1, hg0, Nt.Pol.zero_mul]
    exact ⟨⟨none, 0, 0⟩, 0, rfl, by rw [Nt.Pol.zero_l]; exact pol_nil _ _, .inl ⟨hp0, rfl⟩⟩
  · replace hb22 : ((z18.n : Int) == 0) = false := hb22
    have qhb22 : ¬ ((z18.n : Int) = 0) := by simpa using hb22
    refine sw_skip (mp_seq ?_)
    refine sw_seq ?_
    have hgn : g18 ≠ 0 := Nt.Pol.ne_of_len (by show 0 < g18.l.length; omega)
    have hp0 : Nt.Pol.mk' l ≠ 0 := by intro e; obtain ⟨u1, v1, e1⟩ := hg18.s; apply hgn; rw [e1, Nt.mk_trim, Nt.Pol.mk_D, e, Nt.Pol.D_zero, Nt.Pol.mul_zero, Nt.Pol.mul_zero, Nt.Pol.add_zero]
    have hgl : g18.l.length ≤ N := by have h9 := Nt.len_dvd hg18.l hp0; have h8 := Nt.mk_len l; change g18.l.length ≤ _ at h9; omega
    have hgt : Nt.trimQ g18.l ≠ [] := by intro e; have h9 : (Nt.trimQ g18.l).length = 0 := by { rw [e]; rfl }; rw [g18.h] at h9; omega
    have hgm : (g18.l.length + 1) * (2 * Nt.dg H + 2) ≤ (N + 1) * (2 * Nt.dg H + 2) := Nat.mul_le_mul_right _ (by omega)
    have hgm2 : g18.l.length * (2 * Nt.dg H + 2) ≤ N * (2 * Nt.dg H + 2) := Nat.mul_le_mul_right _ hgl
    refine sw_reg ?_
    refine sy_pure 15 (.v (.slice x.a x.n x.c)) ?_
    refine sy_pure 16 (.v (.slice z18.a z18.n z18.c)) ?_
    refine sy_call 17 20 [.slice x.a x.n x.c, .slice z18.a z18.n z18.c] ?_
    intro w25 u25 e25 d25
    have k29 := k_poDivMod1 (C := C) d25 (hx.ext (e11.trans (g15.ext.trans (e17.trans (g20.ext.trans e25))))) (hz18.ext e25).raw hgt hA (Nt.prim_bits hk18 hW18 hw18) hC hC9 (Nat.le_trans (Nat.mul_le_mul_left _ (Nat.le_add_right K 2)) hK1) (Nat.le_trans hgm (by rw [hNN]; omega)) (by omega) (by omega) (by omega)
    with_reducible refine Post.mono k29 ?_
    clear k29
    rintro _ u27 g28 ⟨y26, z26, q26, r26, rfl, ha26, hb26, eq26, el26⟩
    have hly26 := ha26.len
    have hlz26 := hb26.len
    have hlly26 := Nt.div_lenL eq26 el26
    refine sy_pure 14 (.v (.tuple #[.slice y26.a y26.n y26.c, .slice z26.a z26.n z26.c, .int .i64 0])) ?_
    refine sy_pure 18 (.v (.slice y26.a y26.n y26.c)) ?_
    refine sy_pure 19 (.v (.slice z26.a z26.n z26.c)) ?_
    refine sy_pure 20 (.v (.int .i64 0)) ?_
    refine sy_pure 4 (.v (.slice y26.a y26.n y26.c)) ?_
    refine sy_pure 5 (.v (.slice z26.a z26.n z26.c)) ?_
    refine sy_pure 6 (.v (.int .i64 0)) ?_
    refine sy_next 23 [(4, .v (.slice y26.a y26.n y26.c))] [] ?_
    refine sw_seq ?_
    refine sw_reg ?_
    refine sy_pure 21 (.v (.slice y26.a y26.n y26.c)) ?_
    refine sy_call 22 92 [.slice y26.a y26.n y26.c] ?_
    intro w30 u30 e30 d30
    have k35 := k_poMonic d30 (ha26.ext e30).raw (by omega) (by first | omega | (simp; omega) | (refine Nat.le_trans (Nt.trim_len _) ?_; first | omega | (simp; omega)) | (refine Nat.le_trans (Nt.trim_len _) ?_; simp only [List.length_map]; refine Nat.le_trans (Nt.trim_len _) ?_; first | omega | (simp; omega)))
    with_reducible refine Post.mono k35 ?_
    clear k35
    rintro _ u33 g34 ⟨y31, rfl, h32⟩
    have hly31 := h32.len
    refine sy_pure 2 (.v (.slice y31.a y31.n y31.c)) ?_
    refine sy_next 23 [(2, .v (.slice y31.a y31.n y31.c))] [] ?_
    refine sw_ret (ret0 [.slice y31.a y31.n y31.c] ⟨res_tmp, trivial⟩ fun u36 e37 => ?_)
    rw [Nt.Pol.mk_l] at eq26 el26
    obtain ⟨er, ep⟩ := Nt.div_exact eq26 el26 hg18.l
    refine ⟨y31, _, rfl, PolN.more (K := (2 * (Nt.dg C + ((l.length * K + 2) + Nt.dg C + (g18.l.length * (2 * Nt.dg H + 2) + 2))) + 2)) (h32.ext e37) (by omega), .inr ⟨hp0, g18, q26, ?_, hgn, ep, by rw [Nt.Pol.mk_l]⟩⟩
    rw [← Nt.Pol.mk_D, ← Nt.mk_trim (Nt.derQ l)]
    exact hg18
end Go.Proofs.Ytnedhbidmfoegaa
namespace Go.Proofs.Ytnedhbidmfoegaa
open Go.RowKit
set_option linter.unusedVariables false
set_option maxHeartbeats 1000000 in
theorem k_sameList {u w : World} {x : Sl} {l : List Rat} {y : Sl} {m : List Rat} {K M : Nat} (d : Dat u w) (hx : PolN u x l K) (hy : PolN u y m M) (hx9 : l.length ≤ 1000000000) (hy9 : m.length ≤ 1000000000) : Calls Try.prog 58 #[x.v, y.v] w (Post u w fun v u' => v = .bool (decide (l = m))) := by
  have hlen := hx.len
  have hlen2 := hy.len
  refine calls_sym (args := [.slice x.a x.n x.c, .slice y.a y.n y.c]) Try.func58 rfl Try.ntmps58 (rs := [.tmp 4]) Try.results58 (le_b rfl) (le_b rfl) d ?_
  refine sw_seq ?_
  refine sw_reg ?_
  refine sy_pure 4 (.v (.bool false)) ?_
  refine sy_next 27 [(0, .v (.slice x.a x.n x.c)), (1, .v (.slice y.a y.n y.c))] [] ?_
  refine sw_seq ?_
  refine sw_seq ?_
  refine sw_reg ?_
  refine sy_pure 6 (.v (.slice x.a x.n x.c)) ?_
  refine sy_pure 7 (.v (.int .i64 (x.n : Int))) ?_
  refine sy_pure 8 (.v (.slice y.a y.n y.c)) ?_
  refine sy_pure 9 (.v (.int .i64 (y.n : Int))) ?_
  refine sy_pure 10 (.v (.bool ((x.n : Int) != (y.n : Int)))) ?_
  refine sy_next 27 [(0, .v (.slice x.a x.n x.c)), (1, .v (.slice y.a y.n y.c)), (10, .v (.bool ((x.n : Int) != (y.n : Int))))] [] ?_
  refine sw_cond (b := (x.n : Int) != (y.n : Int)) (by kernel_rfl) (fun hb11 => ?_) (fun hb11 => ?_)
  · replace hb11 : ((x.n : Int) != (y.n : Int)) = true := hb11
    refine sw_seq ?_
    refine sw_reg ?_
    refine sy_pure 4 (.v (.bool false)) ?_
    refine sy_next 27 [(4, .v (.bool false))] [] ?_
    refine sw_ret (mpr_seq (ret0 [.bool false] ⟨res_tmp, trivial⟩ fun u12 e13 => ?_))
    have e9 : l ≠ m := by intro e; have h9 := congrArg List.length e; have h8 := hb11; simp at h8; omega
    show Value.bool false = Value.bool _
    rw [decide_eq_false e9]
  · replace hb11 : ((x.n : Int) != (y.n : Int)) = false := hb11
    have hnn : x.n = y.n := by have h9 : (x.n : Int) = (y.n : Int) := (by simpa using hb11); omega
    refine sw_skip (mp_seq ?_)
    refine sw_seq ?_
    refine sw_seq ?_
    refine sw_reg ?_
    refine sy_pure 5 (.v (.int .i64 0)) ?_
    refine sy_next 27 [(0, .v (.slice x.a x.n x.c)), (1, .v (.slice y.a y.n y.c)), (5, .v (.int .i64 0))] [] ?_
    refine sw_block ?_
    refine sw_loop (I := fun m14 S' u' => ∃ (i : Nat), (m14 = x.n - i) ∧ (i ≤ x.n) ∧ (∀ j, j < i → l.getD j 0 = m.getD j 0) ∧ (S' = St.of 27 [(0, .v (.slice x.a x.n x.c)), (1, .v (.slice y.a y.n y.c)), (5, .v (.int .i64 (i : Int)))] []) ∧ (Ext u u')) (fun m S u1 u2 e h => by obtain ⟨i, hm, p0, p1, hS, hE⟩ := h; exact ⟨i, hm, p0, p1, hS, hE.trans e⟩) _ (T := St.of 27 [(0, .v (.slice x.a x.n x.c)), (1, .v (.slice y.a y.n y.c)), (5, .v (.int .i64 0))] []) (by exact weak_mk _ _ _) ⟨0, rfl, by omega, fun j hj => by omega, rfl, Ext.refl _⟩ ?_
    rintro m14 _ u14 ⟨i, hm14, hi, hz, rfl, e14⟩
    refine sw_seq ?_
    refine sw_seq ?_
    refine sw_reg ?_
    refine sy_pure 11 (.v (.int .i64 (i : Int))) ?_
    refine sy_pure 12 (.v (.slice x.a x.n x.c)) ?_
    refine sy_pure 13 (.v (.int .i64 (x.n : Int))) ?_
    refine sy_pure 14 (.v (.bool (decide ((i : Int) < (x.n : Int))))) ?_
    refine sy_next 27 [(0, .v (.slice x.a x.n x.c)), (1, .v (.slice y.a y.n y.c)), (5, .v (.int .i64 (i : Int))), (14, .v (.bool (decide ((i : Int) < (x.n : Int)))))] [] ?_
    refine sw_cond (b := decide ((i : Int) < (x.n : Int))) (by kernel_rfl) (fun hb15 => ?_) (fun hb15 => ?_)
    · replace hb15 : (decide ((i : Int) < (x.n : Int))) = true := hb15
      have qhb15 := of_decide_eq_true hb15
      refine sw_skip (mp_seq ?_)
      refine sw_seq ?_
      refine sw_block ?_
      refine sw_seq ?_
      refine sw_any [0, 0, 3, 7, 0, 0, 48, 112, 255, 511] [(0, []), (1, []), (2, []), (3, []), (4, []), (5, []), (6, []), (7, []), (8, []), (9, [])] (by kernel_rfl) (by kernel_rfl) ?_
      refine sy_pure 17 (.v (.slice x.a x.n x.c)) ?_
      refine sy_pure 18 (.v (.int .i64 (i : Int))) ?_
      have hl16 := (hx.ext e14).len
      obtain ⟨r16, b16, o16, hA16, hc16, hr16⟩ := pol_atN (hx.ext e14) (i := i) (by omega)
      refine sy_index 19 (o16 + i * 3) (n := x.n) (off := o16) (sz := 3) (i := (i : Int)) (by omega) hA16 (by omega) (by omega) sl33 ?_
      refine sy_ldn 20 r16.cs hc16 ty26 ?_
      refine sy_pure 21 (.v (.slice y.a y.n y.c)) ?_
      refine sy_pure 22 (.v (.int .i64 (i : Int))) ?_
      have hl17 := (hy.ext e14).len
      obtain ⟨r17, b17, o17, hA17, hc17, hr17⟩ := pol_atN (hy.ext e14) (i := i) (by omega)
      refine sy_index 23 (o17 + i * 3) (n := y.n) (off := o17) (sz := 3) (i := (i : Int)) (by omega) hA17 (by omega) (by omega) sl33 ?_
      refine sy_ldn 24 r17.cs hc17 ty26 ?_
      refine sy_call 25 61 [r16.v, r17.v] ?_
      intro w18 u18 e18 d18
      have k21 := k_rqSame d18 (hr16.ext e18) (hr17.ext e18)
      with_reducible refine Post.mono k21 ?_
      clear k21
      rintro _ u19 g20 rfl
      refine sy_pure 26 (.v (.bool (!(decide ((l.getD i 0) = (m.getD i 0)))))) ?_
      refine sy_next 27 [(0, .v (.slice x.a x.n x.c)), (1, .v (.slice y.a y.n y.c)), (5, .v (.int .i64 (i : Int))), (26, .v (.bool (!(decide ((l.getD i 0) = (m.getD i 0))))))] [] ?_
      refine sw_cond (b := !(decide ((l.getD i 0) = (m.getD i 0)))) (by kernel_rfl) (fun hb22 => ?_) (fun hb22 => ?_)
      · replace hb22 : (!(decide ((l.getD i 0) = (m.getD i 0)))) = true := hb22
        refine sw_seq ?_
        refine sw_reg ?_
        refine sy_pure 4 (.v (.bool false)) ?_
        refine sy_next 27 [(4, .v (.bool false))] [] ?_
        refine sw_ret (mpr_block (mpr_seq (mpr_loop (mpr_block (mpr_seq (ret0 [.bool false] ⟨res_tmp, trivial⟩ fun u23 e24 => ?_))))))
        have e9 : l ≠ m := by intro e; have h9 := hb22; rw [e] at h9; simp at h9
        show Value.bool false = Value.bool _
        rw [decide_eq_false e9]
      · replace hb22 : (!(decide ((l.getD i 0) = (m.getD i 0)))) = false := hb22
        refine sw_skip (mp_seq ?_)
        refine sw_reg ?_
        refine sy_pure 15 (.v (.int .i64 (i : Int))) ?_
        refine sy_eq 16 (x := .v (.int .i64 (IntKind.i64.wrap ((i : Int) + 1)))) (.v (.int .i64 ((i + 1 : Nat) : Int))) (eqI (by rw [IntWalk.i64_in _ (by omega)]; omega)) ?_
        refine sy_pure 5 (.v (.int .i64 ((i + 1 : Nat) : Int))) ?_
        refine sy_end ?_
        refine ⟨_, ?_, St.of 27 [(0, .v (.slice x.a x.n x.c)), (1, .v (.slice y.a y.n y.c)), (5, .v (.int .i64 ((i + 1 : Nat) : Int)))] [], by exact weak_mk _ _ _, i + 1, rfl, by omega, (fun j hj => by by_cases e : j = i; (rw [e]; have h9 := hb22; simpa using h9); exact hz j (by omega)), rfl, (e14.trans (e18.trans g20.ext))⟩
        omega
    · replace hb15 : (decide ((i : Int) < (x.n : Int))) = false := hb15
      have qhb15 := of_decide_eq_false hb15
      refine sw_exit ?_
      refine mp_seq ?_
      refine sw_seq ?_
      refine sw_reg ?_
      refine sy_pure 4 (.v (.bool true)) ?_
      refine sy_next 27 [(4, .v (.bool true))] [] ?_
      refine sw_ret (ret0 [.bool true] ⟨res_tmp, trivial⟩ fun u25 e26 => ?_)
      have e9 : l = m := Nt.list_ext (by omega) (fun j => by by_cases hj : j < i; exact hz j hj; rw [Nt.co_ge (by omega), Nt.co_ge (by omega)])
      show Value.bool true = Value.bool _
      rw [decide_eq_true e9]
theorem k_r5Equal {u w : World} {x : Sl} {l : List Rat} {y : Sl} {m : List Rat} {K M : Nat} (d : Dat u w) (hx : PolN u x l K) (hy : PolN u y m M) (hx9 : l.length ≤ 1000000000) (hy9 : m.length ≤ 1000000000) : Calls Try.prog 24 #[x.v, y.v] w (Post u w fun v u' => v = .bool (decide (l = m))) := by
  have hlen := hx.len
  have hlen2 := hy.len
  refine calls_sym (args := [.slice x.a x.n x.c, .slice y.a y.n y.c]) Try.func24 rfl Try.ntmps24 (rs := [.tmp 4]) Try.results24 (le_b rfl) (le_b rfl) d ?_
  refine sw_seq ?_
  refine sw_reg ?_
  refine sy_pure 4 (.v (.bool false)) ?_
  refine sy_next 8 [(0, .v (.slice x.a x.n x.c)), (1, .v (.slice y.a y.n y.c))] [] ?_
  refine sw_seq ?_
  refine sw_reg ?_
  refine sy_pure 5 (.v (.slice x.a x.n x.c)) ?_
  refine sy_pure 6 (.v (.slice y.a y.n y.c)) ?_
  refine sy_call 7 58 [.slice x.a x.n x.c, .slice y.a y.n y.c] ?_
  intro w11 u11 e11 d11
  have k14 := k_sameList d11 (hx.ext e11) (hy.ext e11) (by first | omega | (simp; omega) | (refine Nat.le_trans (Nt.trim_len _) ?_; first | omega | (simp; omega)) | (refine Nat.le_trans (Nt.trim_len _) ?_; simp only [List.length_map]; refine Nat.le_trans (Nt.trim_len _) ?_; first | omega | (simp; omega))) (by first | omega | (simp; omega) | (refine Nat.le_trans (Nt.trim_len _) ?_; first | omega | (simp; omega)) | (refine Nat.le_trans (Nt.trim_len _) ?_; simp only [List.length_map]; refine Nat.le_trans (Nt.trim_len _) ?_; first | omega | (simp; omega)))
  with_reducible refine Post.mono k14 ?_
  clear k14
  rintro _ u12 g13 rfl
  refine sy_pure 4 (.v (.bool (decide (l = m)))) ?_
  refine sy_next 8 [(4, .v (.bool (decide (l = m))))] [] ?_
  refine sw_ret (ret0 [.bool (decide (l = m))] ⟨res_tmp, trivial⟩ fun u15 e16 => ?_)
  rfl
end Go.Proofs.Ytnedhbidmfoegaa
namespace Go.Proofs.Ytnedhbidmfoegaa
open Go.RowKit
set_option linter.unusedVariables false
namespace Nt
namespace Pol
theorem monic_zero : (0 : Pol).monic = 0 := by unfold monic; rw [mul_zero]
/-- The greatest common divisor of two multiples. -/
theorem IsGcd.mul {p q g : Pol} (h : IsGcd p q g) (r : Pol) : IsGcd (p * r) (q * r) (g * r).monic := by
  obtain ⟨u1, e1⟩ := h.l
  obtain ⟨u2, e2⟩ := h.r
  obtain ⟨s, t, e3⟩ := h.s
  by_cases h0 : g * r = 0
  · rw [h0, monic_zero]
    exact ⟨.inl rfl, ⟨0, by rw [e1]; grind⟩, ⟨0, by rw [e2]; grind⟩, ⟨0, 0, by grind⟩⟩
  · have h1 := lead_ne h0
    have h2 := C_inv h1
    refine ⟨.inr (monic_lead h0), ⟨C (g * r).lead * u1, ?_⟩, ⟨C (g * r).lead * u2, ?_⟩, ⟨C (1 / (g * r).lead) * s, C (1 / (g * r).lead) * t, ?_⟩⟩
    · unfold monic; grind
    · unfold monic; grind
    · unfold monic; grind
theorem npow_zero (p : Pol) : npow p 0 = 1 := rfl
theorem npow_succ (p : Pol) (n : Nat) : npow p (n + 1) = npow p n * p := rfl
theorem npow_len (p : Pol) (n : Nat) : (npow p n).len ≤ n * p.len + 1 := by
  induction n with
  | zero => rw [npow_zero, show (1 : Pol).len = 1 from len_C (a := 1) (by decide)]; omega
  | succ n ih =>
    rw [npow_succ]
    by_cases h0 : npow p n = 0
    · rw [h0, zero_mul, len_zero]; omega
    · by_cases h1 : p = 0
      · rw [h1, mul_zero, len_zero]; omega
      · have h2 := len_mul h0 h1
        rw [Nat.add_mul]; omega
/-- The chain rule for powers. -/
theorem D_npow (p : Pol) (n : Nat) : D (npow p (n + 1)) = C ((((n + 1 : Nat) : Int)) : Rat) * (npow p n * D p) := by
  induction n with
  | zero =>
    rw [npow_succ, npow_zero, one_mul, one_mul]
    show D p = 1 * D p
    rw [one_mul]
  | succ n ih =>
    rw [npow_succ, D_mul, ih]
    have e : C ((((n + 1 + 1 : Nat) : Int)) : Rat) = C ((((n + 1 : Nat) : Int)) : Rat) + 1 := by
      show _ = _ + C 1
      rw [← C_add]
      congr 1
      rw [show ((n + 1 + 1 : Nat) : Int) = ((n + 1 : Nat) : Int) + 1 by omega, Rat.intCast_add]
      rfl
    rw [e, npow_succ]
    grind
end Pol
section
variable {l m : List Rat} {D E A B n : Nat}
theorem Sm.npow (h : Sm l D A) (n : Nat) : Sm (Pol.npow (Pol.mk' l) n).l (D ^ n) (n * (A + l.length)) := by
  induction n with
  | zero =>
    rw [Pol.npow_zero, Nat.pow_zero, Nat.zero_mul]
    exact (show Sm (List.map (fun z : Int => (z : Rat)) [1]) 1 0 from Sm.ofInts (by decide)).trim
  | succ n ih =>
    rw [Pol.npow_succ, Nat.pow_succ, Nat.add_mul, Nat.one_mul]
    have h9 := (ih.mulR (h.trim : Sm (Pol.mk' l).l D A)).trim.more (B := n * (A + l.length) + (A + l.length)) (by have h8 := trim_len l; change _ + A + (trimQ l).length ≤ _; omega)
    exact h9
theorem pow_le (hD : D ≤ 2 ^ A) (n k : Nat) (hk : A ≤ k) : D ^ n ≤ 2 ^ (n * k) := by
  rw [Nat.mul_comm, Nat.pow_mul]
  exact Nat.pow_le_pow_left (Nat.le_trans hD (Nat.pow_le_pow_right (by omega) hk)) n
theorem pow_leN {j : Nat} (hD : D ≤ 2 ^ A) (hj : j ≤ n) : D ^ j ≤ 2 ^ (n * (A + 8)) := Nat.le_trans (pow_le hD j (A + 8) (by omega)) (Nat.pow_le_pow_right (by omega) (Nat.mul_le_mul_right _ hj))
theorem npow_l (l : List Rat) (j : Nat) : (Pol.npow (Pol.mk' l) (j + 1)).l = trimQ (mulQ (Pol.npow (Pol.mk' l) j).l l) := trim_ext fun k => mulQ_congr (fun _ => rfl) (trim_co l) k
theorem len_of_co {a : Nat} (h : ∀ i, a ≤ i → Nt.co l i = 0) : (trimQ l).length ≤ a := Pol.len_le (p := Pol.mk' l) fun i hi => by rw [Pol.mk_c]; exact h i hi
theorem mul_lenQ {a b : Nat} (h1 : l.length ≤ a) (h2 : m.length ≤ b) : (trimQ (mulQ l m)).length ≤ a + b - 1 := len_of_co fun i hi => mulQ_far (by omega)
theorem add_lenQ {a b : Nat} (h1 : l.length ≤ a) (h2 : m.length ≤ b) : (trimQ (addQ l m)).length ≤ max a b := Nat.le_trans (trim_len _) (by rw [addQ_len]; omega)
theorem der_lenQ {a : Nat} (h1 : l.length ≤ a) : (trimQ (derQ l)).length ≤ a - 1 := Nat.le_trans (trim_len _) (by rw [derQ_len]; omega)
theorem map_lenQ {a : Nat} {f : Rat → Rat} (h1 : l.length ≤ a) : (trimQ (l.map f)).length ≤ a := Nat.le_trans (trim_len _) (by rw [List.length_map]; omega)
end
end Nt
end Go.Proofs.Ytnedhbidmfoegaa
namespace Go.Proofs.Ytnedhbidmfoegaa
open Go.RowKit
set_option linter.unusedVariables false
namespace Nt
/-- A number made of an integer. -/
def mkR (n : Int) : Rat := (((n % 25 - 12 : Int)) : Rat) / (((1 + n.tdiv 25 % 8 : Int)) : Rat)
theorem frac_mul {a b c : Int} (hb : b ≠ 0) : (a : Rat) / (b : Rat) * ((b * c : Int) : Rat) = ((a * c : Int) : Rat) := by
  rw [Rat.intCast_mul, Rat.intCast_mul]
  have : (b : Rat) ≠ 0 := fun e => hb (Rat.intCast_inj.1 (show (b : Rat) = ((0 : Int) : Rat) from e))
  grind
theorem mkR_wh (n : Int) : Wh (mkR n * (((840 : Nat) : Int) : Rat)) 14 := by
  have h1 := Int.emod_nonneg n (show (25 : Int) ≠ 0 by decide)
  have h2 := Int.emod_lt_of_pos n (show (0 : Int) < 25 by decide)
  have h3 := Int.emod_nonneg (n.tdiv 25) (show (8 : Int) ≠ 0 by decide)
  have h4 := Int.emod_lt_of_pos (n.tdiv 25) (show (0 : Int) < 8 by decide)
  unfold mkR
  obtain ⟨a, ha⟩ : ∃ a, n % 25 - 12 = a := ⟨_, rfl⟩
  obtain ⟨b, hb⟩ : ∃ b, 1 + n.tdiv 25 % 8 = b := ⟨_, rfl⟩
  rw [ha, hb]
  obtain ⟨c, hc, hc1, hc2⟩ : ∃ c : Int, ((840 : Nat) : Int) = b * c ∧ 0 ≤ c ∧ c ≤ 840 := by
    rcases (by omega : b = 1 ∨ b = 2 ∨ b = 3 ∨ b = 4 ∨ b = 5 ∨ b = 6 ∨ b = 7 ∨ b = 8) with rfl | rfl | rfl | rfl | rfl | rfl | rfl | rfl
    · exact ⟨840, by decide, by decide, by decide⟩
    · exact ⟨420, by decide, by decide, by decide⟩
    · exact ⟨280, by decide, by decide, by decide⟩
    · exact ⟨210, by decide, by decide, by decide⟩
    · exact ⟨168, by decide, by decide, by decide⟩
    · exact ⟨140, by decide, by decide, by decide⟩
    · exact ⟨120, by decide, by decide, by decide⟩
    · exact ⟨105, by decide, by decide, by decide⟩
  refine ⟨a * c, ?_, ?_⟩
  · rw [hc]; exact frac_mul (by omega)
  · rw [Int.natAbs_mul]
    exact Nat.le_trans (Nat.mul_le_mul (show a.natAbs ≤ 12 by omega) (show c.natAbs ≤ 840 by omega)) (by decide)
theorem mkR_rs (n : Int) : rs (mkR n) ≤ 1 := wh_rs (A := 14) (by omega) (mkR_wh n) (by decide)
/-- The polynomial made of a list. -/
def mkP (l : List Int) (d : Nat) : List Rat := trimQ ((l.take (d + 1)).map mkR)
theorem mkP_len (l : List Int) (d : Nat) : (mkP l d).length ≤ d + 1 := Nat.le_trans (trim_len _) (by simp; omega)
theorem mkP_sm (l : List Int) (d : Nat) : Sm (mkP l d) 840 14 := Sm.trim (Sm.ofAll (by omega) (fun x hx => by
  obtain ⟨z, _, rfl⟩ := List.mem_map.1 hx
  exact mkR_wh z))
section
variable {p q : List Rat} {u v x y : Pol}
theorem mk_tl (l : List Rat) : (Pol.mk' l).l = trimQ l := rfl
theorem product_rule (p q : List Rat) : trimQ (derQ (trimQ (mulQ p q))) = trimQ (addQ (trimQ (mulQ (trimQ (derQ p)) q)) (trimQ (mulQ p (trimQ (derQ q))))) := by
  rw [← mk_tl, ← mk_tl (addQ _ _), Pol.mk_add, Pol.mk_D, mk_trim, mk_trim, mk_trim, Pol.mk_mul, Pol.mk_mul, Pol.mk_mul, mk_trim, mk_trim, Pol.mk_D, Pol.mk_D, Pol.D_mul]
theorem chain_rule (q : List Rat) (n : Nat) : trimQ (derQ (Pol.npow (Pol.mk' q) (n + 1)).l) = trimQ ((trimQ (mulQ (Pol.npow (Pol.mk' q) n).l (trimQ (derQ q)))).map (· * (((n + 1 : Nat) : Int) : Rat))) := by
  rw [← mk_tl, ← mk_tl (List.map _ _), mk_map, Pol.mk_D, mk_trim, Pol.mk_mul, Pol.mk_l, Pol.mk_l, mk_trim, Pol.mk_D, Pol.D_npow]
end
end Nt
end Go.Proofs.Ytnedhbidmfoegaa
namespace Go.Proofs.Ytnedhbidmfoegaa
open Go.RowKit
set_option linter.unusedVariables false
section
variable {P : Program} {ops : Array Oper} {w0 : Base} {u0 : World} {S : St} {u u' w : World} {o : Oper} {p : List Tmp} {seq : Bool} {rest : List (Oper × List Tmp)} {K : St → World → Prop}
theorem sy_conv (d : Tmp) {src dst : TypeId} {x : Operand} {k0 k : IntKind} {n : Int} (v : Int) (hT : ∀ w, (convert src dst (.int k0 n)).run P w = .ok (.int k (k.wrap n)) w) (hv : k.wrap n = v) (kk : sym P ops w0 u0 seq rest (S.set d (.v (.int k v))) u K) (hw : Wants ops o S := by exact wants0 (by kernel_rfl)) (hd : o.dst = some d := by kernel_rfl) (hop : o.op = .convert src dst x := by rfl) (hf : freeB S d = true := by kernel_rfl)
    (hx : evO S x = some (.v (.int k0 n)) := by rfl) : sym P ops w0 u0 seq ((o, p) :: rest) S u K := by
  subst hv
  refine .inl ⟨by rw [hop]; exact (by decide : (0 : Nat) ≠ 2), .set (.v (.int k (k.wrap n))), ⟨free_of hd hf, .inl ⟨(fun t ht => by cases ht), fun B a w u' hr he hdt => ⟨hw B a hr, ?_⟩⟩⟩, ?_⟩
  · have e1 : (execOp a.eval o).run P w = (do pure (Next.value (← convert src dst (a.eval x))) : Sem Next).run P w := by unfold execOp; rw [hop]
    rw [e1, ev_eval hr hx]
    exact run_val (hT w)
  · show sym P ops w0 u0 seq rest (S.put o.dst (some _)) u K
    rw [hd]; exact kk
end
section
variable {u u' : World} {A : Option Addr} {n c i : Nat} {l : List Int} {k : IntKind}
theorem ints_at (h : SlR k u A n c l) (hi : i < n) : ∃ b o, A = some ⟨b, o, none⟩ ∧ u.cell? ⟨b, o + i * 1, none⟩ = some (.int k (l.getD i 0)) := by
  obtain ⟨h1, h2, h3, h4⟩ := h
  obtain ⟨b, o, e, _, hc⟩ := h4 (by omega)
  exact ⟨b, o, e, by rw [Nat.mul_one]; exact hc i hi⟩
theorem ints_take (h : SlR k u A n c l) {m : Nat} (hm : m ≤ n) : SlR k u A m c (l.take m) := by
  obtain ⟨h1, h2, h3, h4⟩ := h
  refine ⟨by rw [List.length_take]; omega, by omega, h3, fun hp => ?_⟩
  obtain ⟨b, o, e, hb, hc⟩ := h4 (by omega)
  exact ⟨b, o, e, hb, fun i hi => by rw [List.getElem?_take_of_lt hi]; exact hc i (by omega)⟩
theorem ints_bd {lo hi : Int} (h : ∀ z ∈ l, lo ≤ z ∧ z ≤ hi) (h0 : lo ≤ 0 ∧ 0 ≤ hi) (i : Nat) : lo ≤ l.getD i 0 ∧ l.getD i 0 ≤ hi := by
  rw [List.getD_eq_getElem?_getD]
  cases e : l[i]? with
  | none => exact h0
  | some z => exact h z (List.mem_of_getElem? e)
theorem bd_take {lo hi : Int} (h : ∀ z ∈ l, lo ≤ z ∧ z ≤ hi) (m : Nat) : ∀ z ∈ l.take m, lo ≤ z ∧ z ≤ hi := fun z hz => h z (List.mem_of_mem_take hz)
end
end Go.Proofs.Ytnedhbidmfoegaa
namespace Go.Proofs.Ytnedhbidmfoegaa
open Go.RowKit
set_option linter.unusedVariables false
theorem tdiv25 {n : Int} (h0 : -9223372036854775808 ≤ n) (h1 : n ≤ 9223372036854775807) : -9223372036854775808 ≤ n.tdiv 25 ∧ n.tdiv 25 ≤ 9223372036854775807 := by
  have h := Int.natAbs_tdiv n 25
  change (n.tdiv 25).natAbs = n.natAbs / 25 at h
  omega
theorem k_mkRat {u w : World} {n : Int} (d : Dat u w) (hn0 : -9223372036854775808 ≤ n) (hn1 : n ≤ 9223372036854775807) : Calls Try.prog 84 #[.int .i64 n] w (Post u w fun v u' => ∃ r : RL, v = r.v ∧ RatN u' r (Nt.mkR n) 1) := by
  have htd := tdiv25 hn0 hn1
  refine calls_sym (args := [.int .i64 n]) Try.func84 rfl Try.ntmps84 (rs := [.cell 2 26]) Try.results84 (le_b rfl) (le_b rfl) d ?_
  refine sw_seq ?_
  refine sw_reg ?_
  refine sy_new 2 ⟨26, [.bool false, .slice none 0 0, .slice none 0 0]⟩ ?_
  refine sy_next 11 [(0, .v (.int .i64 n)), (2, .adr 2 0)] [(2, ⟨26, [.bool false, .slice none 0 0, .slice none 0 0]⟩)] ?_
  refine sw_seq ?_
  refine sw_reg ?_
  refine sy_pure 3 (.v (.int .i64 n)) ?_
  refine sy_call 4 38 [.int .i64 n, .int .i64 25] ?_
  intro w11 u11 e11 d11
  have k14 := k_Mod d11 (n := n) (m := 25) (by omega) (by omega) (by omega) (by omega)
  with_reducible refine Post.mono k14 ?_
  clear k14
  rintro _ u12 g13 rfl
  refine sy_eq 5 (x := .v (.int .i64 (IntKind.i64.wrap ((n % 25) - 12)))) (.v (.int .i64 ((n % 25) - 12))) (by rw [IntWalk.i64_in _ (by omega)]) ?_
  refine sy_pure 6 (.v (.int .i64 n)) ?_
  refine sy_quo 7 (n.tdiv 25) (by decide) (IntWalk.i64_in _ (by omega)) ?_
  refine sy_call 8 38 [.int .i64 (Int.tdiv n 25), .int .i64 8] ?_
  intro w15 u15 e15 d15
  have k18 := k_Mod d15 (n := Int.tdiv n 25) (m := 8) (by omega) (by omega) (by omega) (by omega)
  with_reducible refine Post.mono k18 ?_
  clear k18
  rintro _ u16 g17 rfl
  refine sy_eq 9 (x := .v (.int .i64 (IntKind.i64.wrap ((1 : Int) + ((Int.tdiv n 25) % 8))))) (.v (.int .i64 ((1 : Int) + ((Int.tdiv n 25) % 8)))) (by rw [IntWalk.i64_in _ (by omega)]) ?_
  refine sy_call 10 37 [.int .i64 ((n % 25) - 12), .int .i64 ((1 : Int) + ((Int.tdiv n 25) % 8))] ?_
  intro w19 u19 e19 d19
  have k24 := k_rqFrac d19 (a := (n % 25) - 12) (b := (1 : Int) + ((Int.tdiv n 25) % 8)) (by omega) (by omega) (by omega) (by omega)
  with_reducible refine Post.mono k24 ?_
  clear k24
  rintro _ u22 g23 ⟨r20, rfl, h21⟩
  refine sy_store ⟨26, r20.cs⟩ ty26 ?_
  refine sy_next 11 [(2, .adr 2 0)] [(2, ⟨26, r20.cs⟩)] ?_
  refine sw_ret (ret0 [r20.v] ⟨res_cell ty26 part_agg, trivial⟩ fun u25 e26 => ?_)
  refine ⟨r20, rfl, RatN.fit (K := 3) ?_ (Nt.mkR_rs n)⟩
  exact (h21.ext e26)
set_option maxHeartbeats 1000000 in
theorem k_mkRats {u w : World} {x : Sl} {l : List Int} (d : Dat u w) (hx : SlR .i64 u x.a x.n x.c l) (hb : ∀ z ∈ l, -9223372036854775808 ≤ z ∧ z ≤ 9223372036854775807) (hx9 : l.length ≤ 1000000000) : Calls Try.prog 51 #[x.v] w (Post u w fun v u' => ∃ y : Sl, v = y.v ∧ PolN u' y (l.map Nt.mkR) 1) := by
  have hlen : l.length = x.n := hx.1
  refine calls_sym (args := [.slice x.a x.n x.c]) Try.func51 rfl Try.ntmps51 (rs := [.tmp 2]) Try.results51 (le_b rfl) (le_b rfl) d ?_
  refine sw_seq ?_
  refine sw_reg ?_
  refine sy_pure 2 (.v (.slice none 0 0)) ?_
  refine sy_next 19 [(0, .v (.slice x.a x.n x.c))] [] ?_
  refine sw_seq ?_
  refine sw_reg ?_
  refine sy_pure 3 (.v (.slice none 0 0)) ?_
  refine sy_next 19 [(0, .v (.slice x.a x.n x.c)), (3, .v (.slice none 0 0))] [] ?_
  refine sw_seq ?_
  refine sw_seq ?_
  refine sw_reg ?_
  refine sy_pure 6 (.v (.slice x.a x.n x.c)) ?_
  refine sy_pure 7 (.v (.int .i64 (x.n : Int))) ?_
  refine sy_pure 8 (.v (.int .i64 0)) ?_
  refine sy_next 19 [(3, .v (.slice none 0 0)), (6, .v (.slice x.a x.n x.c)), (7, .v (.int .i64 (x.n : Int))), (8, .v (.int .i64 0))] [] ?_
  refine sw_block ?_
  refine sw_loop (I := fun m11 S' u' => (m11 = x.n ∧ S' = St.of 19 [(3, .v (.slice none 0 0)), (6, .v (.slice x.a x.n x.c)), (7, .v (.int .i64 (x.n : Int))), (8, .v (.int .i64 0))] [] ∧ Ext u u') ∨ (∃ (i : Nat) (L : List RL) (cs : List Value) (cp : Nat), m11 = x.n - i ∧ i ≤ x.n ∧ 0 < i ∧ L.length = i ∧ cs.length = cp * 3 ∧ i ≤ cp ∧ cp ≤ maxLen ∧ cs.take (i * 3) = rcs L ∧ S' = St.of 19 [(3, .slc 16 0 i cp), (6, .v (.slice x.a x.n x.c)), (7, .v (.int .i64 (x.n : Int))), (8, .v (.int .i64 (i : Int)))] [(16, ⟨26, cs⟩)] ∧ Ext u u' ∧ RatsN u' L ((l.map Nt.mkR).take i) 1)) (fun m S u1 u2 e h => by rcases h with ⟨a, b, c⟩ | ⟨a1, a2, a3, a4, b1, b2, b3, b4, b5, b6, b7, b8, b9, b10, b11⟩; exact .inl ⟨a, b, c.trans e⟩; exact .inr ⟨a1, a2, a3, a4, b1, b2, b3, b4, b5, b6, b7, b8, b9, b10.trans e, b11.ext e⟩) _ (T := St.of 19 [(3, .v (.slice none 0 0)), (6, .v (.slice x.a x.n x.c)), (7, .v (.int .i64 (x.n : Int))), (8, .v (.int .i64 0))] []) (by exact weak_mk _ _ _) (.inl ⟨rfl, rfl, Ext.refl _⟩) ?_
  rintro m11 _ u11 (⟨hm11, rfl, e11⟩ | ⟨i, L, cs, cp, hm11, hi, hp, hL, hc, hle, hmx, ht, rfl, e11, hR⟩)
  · change SW _ _ _ _ (St.of 19 [(3, .v (.slice none 0 0)), (6, .v (.slice x.a x.n x.c)), (7, .v (.int .i64 (x.n : Int))), (8, .v (.int .i64 0))] []) _ _
    refine sw_seq ?_
    refine sw_reg ?_
    refine sy_pure 9 (.v (.bool (decide ((0 : Int) < (x.n : Int))))) ?_
    refine sy_next 19 [(3, .v (.slice none 0 0)), (6, .v (.slice x.a x.n x.c)), (7, .v (.int .i64 (x.n : Int))), (8, .v (.int .i64 0)), (9, .v (.bool (decide ((0 : Int) < (x.n : Int)))))] [] ?_
    refine sw_seq ?_
    refine sw_cond (b := decide ((0 : Int) < (x.n : Int))) (by kernel_rfl) (fun hb12 => ?_) (fun hb12 => ?_)
    · replace hb12 : (decide ((0 : Int) < (x.n : Int))) = true := hb12
      have qhb12 := of_decide_eq_true hb12
      refine sw_skip (mp_seq ?_)
      refine sw_seq ?_
      refine sw_block ?_
      refine sw_seq ?_
      refine sw_reg ?_
      have hl13 := ((hx.ext e11)).1
      obtain ⟨b13, o13, hA13, hc13⟩ := ints_at (hx.ext e11) (i := 0) (by omega)
      have hz13 := ints_bd hb (by omega) 0
      refine sy_index 10 (o13 + 0 * 1) (n := x.n) (off := o13) (sz := 1) (i := 0) (by omega) hA13 (by omega) (by omega) sl42 ?_
      refine sy_ld1 11 (.int .i64 (l.getD 0 0)) hc13 ty3 ?_
      refine sy_pure 5 (.v (.int .i64 (l.getD 0 0))) ?_
      refine sy_next 19 [(3, .v (.slice none 0 0)), (5, .v (.int .i64 (l.getD 0 0))), (6, .v (.slice x.a x.n x.c)), (7, .v (.int .i64 (x.n : Int))), (8, .v (.int .i64 0))] [] ?_
      refine sw_reg ?_
      refine sy_pure 12 (.v (.slice none 0 0)) ?_
      refine sy_pure 13 (.v (.int .i64 (l.getD 0 0))) ?_
      refine sy_call 14 84 [.int .i64 (l.getD 0 0)] ?_
      intro w14 u14 e14 d14
      have k19 := k_mkRat d14 (n := (l.getD 0 0)) (by omega) (by omega)
      with_reducible refine Post.mono k19 ?_
      clear k19
      rintro _ u17 g18 ⟨r15, rfl, h16⟩
      refine sy_data 15 ⟨26, r15.cs⟩ 1 (fun b20 u21 e22 h23 => ?_)
      have hp24 : PolN u21 (⟨some ⟨b20, 0, none⟩, 1, 1⟩ : Sl) [(Nt.mkR (l.getD 0 0))] 1 := pol_lit (L := [r15]) h23 (rats1 (h16.ext e22)) rfl (by decide)
      refine sy_app0 16 (T := 33) (E := 26) (z := .agg #[.bool false, .slice none 0 0, .slice none 0 0]) (size := 3) (bytes := 56) (b := b20) (off := 0) (m := 1) r15.cs (by kernel_rfl) (by kernel_rfl) (by kernel_rfl) (by decide) rfl (lit_news ((Ext.refl _).cells h23)) (rl_one r15) (by decide) (by decide) (by decide) ?_
      intro c25 cs25 ha25 hb25 hc25 hd25
      refine sy_pure 3 (.slc 16 0 1 c25) ?_
      refine sy_end ?_
      refine mp_seq ?_
      refine sw_reg ?_
      refine sy_pure 17 (.v (.int .i64 1)) ?_
      refine sy_pure 8 (.v (.int .i64 1)) ?_
      refine sy_end ?_
      have ht26 : 0 < (l.map Nt.mkR).length := by rw [List.length_map]; omega
      refine ⟨_, ?_, St.of 19 [(3, .slc 16 0 1 c25), (6, .v (.slice x.a x.n x.c)), (7, .v (.int .i64 (x.n : Int))), (8, .v (.int .i64 1))] [(16, ⟨26, cs25⟩)], by exact weak_mk _ _ _, .inr ⟨1, [r15], cs25, c25, rfl, by omega, by omega, by simp, hc25, by omega, hb25, hd25, rfl, (e11.trans (e14.trans (g18.ext.trans e22))), (app_first (RatN.more (K := 1) (h16.ext e22) (by omega)) ht26 (by simp [List.getElem?_eq_getElem (show 0 < l.length by omega)]))⟩⟩
      omega
    · replace hb12 : (decide ((0 : Int) < (x.n : Int))) = false := hb12
      have qhb12 := of_decide_eq_false hb12
      refine sw_exit ?_
      refine mp_seq ?_
      refine sw_seq ?_
      have hp27 : PolN u11 ⟨none, 0, 0⟩ (l.map Nt.mkR) 1 := by have h9 : l.map Nt.mkR = [] := List.eq_nil_of_length_eq_zero (by rw [List.length_map]; omega); rw [h9]; exact pol_nil _ _
      refine sw_reg ?_
      refine sy_pure 18 (.v (.slice none 0 0)) ?_
      refine sy_pure 2 (.v (.slice none 0 0)) ?_
      refine sy_next 19 [(2, .v (.slice none 0 0))] [] ?_
      refine sw_ret (ret0 [.slice none 0 0] ⟨res_tmp, trivial⟩ fun u28 e29 => ?_)
      refine ⟨⟨none, 0, 0⟩, rfl, ?_⟩
      exact (hp27.ext e29)
  · change SW _ _ _ _ (St.of 19 [(3, .slc 16 0 i cp), (6, .v (.slice x.a x.n x.c)), (7, .v (.int .i64 (x.n : Int))), (8, .v (.int .i64 (i : Int)))] [(16, ⟨26, cs⟩)]) _ _
    refine sw_seq ?_
    refine sw_reg ?_
    refine sy_pure 9 (.v (.bool (decide ((i : Int) < (x.n : Int))))) ?_
    refine sy_next 19 [(3, .slc 16 0 i cp), (6, .v (.slice x.a x.n x.c)), (7, .v (.int .i64 (x.n : Int))), (8, .v (.int .i64 (i : Int))), (9, .v (.bool (decide ((i : Int) < (x.n : Int)))))] [(16, ⟨26, cs⟩)] ?_
    refine sw_seq ?_
    refine sw_cond (b := decide ((i : Int) < (x.n : Int))) (by kernel_rfl) (fun hb30 => ?_) (fun hb30 => ?_)
    · replace hb30 : (decide ((i : Int) < (x.n : Int))) = true := hb30
      have qhb30 := of_decide_eq_true hb30
      refine sw_skip (mp_seq ?_)
      refine sw_seq ?_
      refine sw_block ?_
      refine sw_seq ?_
      refine sw_reg ?_
      have hl31 := ((hx.ext e11)).1
      obtain ⟨b31, o31, hA31, hc31⟩ := ints_at (hx.ext e11) (i := i) (by omega)
      have hz31 := ints_bd hb (by omega) i
      refine sy_index 10 (o31 + i * 1) (n := x.n) (off := o31) (sz := 1) (i := (i : Int)) (by omega) hA31 (by omega) (by omega) sl42 ?_
      refine sy_ld1 11 (.int .i64 (l.getD i 0)) hc31 ty3 ?_
      refine sy_pure 5 (.v (.int .i64 (l.getD i 0))) ?_
      refine sy_next 19 [(3, .slc 16 0 i cp), (5, .v (.int .i64 (l.getD i 0))), (6, .v (.slice x.a x.n x.c)), (7, .v (.int .i64 (x.n : Int))), (8, .v (.int .i64 (i : Int)))] [(16, ⟨26, cs⟩)] ?_
      refine sw_reg ?_
      refine sy_pure 12 (.slc 16 0 i cp) ?_
      refine sy_pure 13 (.v (.int .i64 (l.getD i 0))) ?_
      refine sy_call 14 84 [.int .i64 (l.getD i 0)] ?_
      intro w32 u32 e32 d32
      have k37 := k_mkRat d32 (n := (l.getD i 0)) (by omega) (by omega)
      with_reducible refine Post.mono k37 ?_
      clear k37
      rintro _ u35 g36 ⟨r33, rfl, h34⟩
      refine sy_data 15 ⟨26, r33.cs⟩ 1 (fun b38 u39 e40 h41 => ?_)
      have hp42 : PolN u39 (⟨some ⟨b38, 0, none⟩, 1, 1⟩ : Sl) [(Nt.mkR (l.getD i 0))] 1 := pol_lit (L := [r33]) h41 (rats1 (h34.ext e40)) rfl (by decide)
      refine sy_app1 16 (T := 33) (E := 26) (z := .agg #[.bool false, .slice none 0 0, .slice none 0 0]) (size := 3) (bytes := 56) (b := b38) (off := 0) (m := 1) (n := i) (cap := cp) (t := 16) (cs0 := cs) [3, 12, 16] r33.cs (by kernel_rfl) (by kernel_rfl) (by kernel_rfl) (by decide) rfl (lit_news ((Ext.refl _).cells h41)) (rl_one r33) (by decide) (by unfold maxLen; omega) (by omega) (by omega) (by omega) (by omega) (by repeat first | exact noAt_of | refine noAt_set ?_ | refine noAt_lit ?_ | refine noAt_new ?_ | refine noAt_setVar ?_ | refine noAt_unpub ?_) ?_
      intro c43 cs43 ha43 hb43 hc43 hd43
      have hd43r : cs43.take ((i + 1) * 3) = rcs (L ++ [r33]) := by rw [hd43, ht, rcs_app]; rfl
      refine sy_pure 3 (.slc 16 0 (i + 1) c43) ?_
      refine sy_end ?_
      refine mp_seq ?_
      refine sw_reg ?_
      refine sy_eq 17 (x := .v (.int .i64 (IntKind.i64.wrap ((i : Int) + 1)))) (.v (.int .i64 ((i + 1 : Nat) : Int))) (eqI (by rw [IntWalk.i64_in _ (by omega)]; omega)) ?_
      refine sy_pure 8 (.v (.int .i64 ((i + 1 : Nat) : Int))) ?_
      refine sy_end ?_
      have ht44 : i < (l.map Nt.mkR).length := by rw [List.length_map]; omega
      refine ⟨_, ?_, St.of 19 [(3, .slc 16 0 (i + 1) c43), (6, .v (.slice x.a x.n x.c)), (7, .v (.int .i64 (x.n : Int))), (8, .v (.int .i64 ((i + 1 : Nat) : Int)))] [(16, ⟨26, cs43⟩)], by exact weak_mk _ _ _, .inr ⟨i + 1, L ++ [r33], cs43, c43, rfl, by omega, by omega, by simp; omega, hc43, by omega, hb43, hd43r, rfl, (e11.trans (e32.trans (g36.ext.trans e40))), (app_next (hR.ext (e32.trans (g36.ext.trans e40))) (RatN.more (K := 1) (h34.ext e40) (by omega)) ht44 (by simp [List.getElem?_eq_getElem (show i < l.length by omega)]))⟩⟩
      omega
    · replace hb30 : (decide ((i : Int) < (x.n : Int))) = false := hb30
      have qhb30 := of_decide_eq_false hb30
      refine sw_exit ?_
      refine mp_seq ?_
      refine sw_seq ?_
      refine sw_pub (r := 3) (t := 16) [3, 16] (by repeat first | exact noAt_of | refine noAt_set ?_ | refine noAt_lit ?_ | refine noAt_new ?_ | refine noAt_setVar ?_ | refine noAt_unpub ?_) (by kernel_rfl) (by rfl) (by rfl) (by kernel_rfl) (fun b46 u47 e48 hb49 hh50 => ?_)
      have hp45 : PolN u47 ⟨some ⟨b46, 0, none⟩, i, cp⟩ (l.map Nt.mkR) 1 := by have h8 := pol_data hh50 ht hc hle hmx (hR.ext e48); rw [List.take_of_length_le (l := l.map Nt.mkR) (by rw [List.length_map]; omega)] at h8; exact h8
      refine sw_reg ?_
      refine sy_pure 18 (.v (.slice (some ⟨b46, 0, none⟩) i cp)) ?_
      refine sy_pure 2 (.v (.slice (some ⟨b46, 0, none⟩) i cp)) ?_
      refine sy_next 19 [(2, .v (.slice (some ⟨b46, 0, none⟩) i cp))] [] ?_
      refine sw_ret (ret0 [.slice (some ⟨b46, 0, none⟩) i cp] ⟨res_tmp, trivial⟩ fun u51 e52 => ?_)
      refine ⟨(⟨some ⟨b46, 0, none⟩, i, cp⟩ : Sl), rfl, ?_⟩
      exact (hp45.ext e52)
set_option maxHeartbeats 1000000 in
theorem k_mkPoly {u w : World} {x : Sl} {l : List Int} {D : Nat} (d : Dat u w) (hx : SlR .i64 u x.a x.n x.c l) (hb : ∀ z ∈ l, -9223372036854775808 ≤ z ∧ z ≤ 9223372036854775807) (hD : D ≤ 1000) : Calls Try.prog 19 #[x.v, .int .i64 (D : Int)] w (Post u w fun v u' => ∃ y : Sl, v = y.v ∧ PolN u' y (Nt.mkP l D) 1) := by
  have hlen : l.length = x.n := hx.1
  have hmx : x.n ≤ maxLen := Nat.le_trans hx.2.1 hx.2.2.1
  unfold maxLen at hmx
  refine calls_sym (args := [.slice x.a x.n x.c, .int .i64 (D : Int)]) Try.func19 rfl Try.ntmps19 (rs := [.tmp 4]) Try.results19 (le_b rfl) (le_b rfl) d ?_
  refine sw_seq ?_
  refine sw_reg ?_
  refine sy_pure 4 (.v (.slice none 0 0)) ?_
  refine sy_next 17 [(0, .v (.slice x.a x.n x.c)), (1, .v (.int .i64 (D : Int)))] [] ?_
  refine sw_seq ?_
  refine sw_seq ?_
  refine sw_reg ?_
  refine sy_pure 5 (.v (.slice x.a x.n x.c)) ?_
  refine sy_pure 6 (.v (.int .i64 (x.n : Int))) ?_
  refine sy_pure 7 (.v (.int .i64 (D : Int))) ?_
  refine sy_eq 8 (x := .v (.int .i64 (IntKind.i64.wrap ((D : Int) + 1)))) (.v (.int .i64 ((D + 1 : Nat) : Int))) (eqI (by rw [IntWalk.i64_in _ (by omega)]; omega)) ?_
  refine sy_pure 9 (.v (.bool (decide (((D + 1 : Nat) : Int) < (x.n : Int))))) ?_
  refine sy_next 17 [(0, .v (.slice x.a x.n x.c)), (1, .v (.int .i64 (D : Int))), (9, .v (.bool (decide (((D + 1 : Nat) : Int) < (x.n : Int)))))] [] ?_
  refine sw_cond (b := decide (((D + 1 : Nat) : Int) < (x.n : Int))) (by kernel_rfl) (fun hb11 => ?_) (fun hb11 => ?_)
  · replace hb11 : (decide (((D + 1 : Nat) : Int) < (x.n : Int))) = true := hb11
    have qhb11 := of_decide_eq_true hb11
    refine sw_reg ?_
    refine sy_pure 10 (.v (.slice x.a x.n x.c)) ?_
    refine sy_pure 11 (.v (.int .i64 (D : Int))) ?_
    refine sy_eq 12 (x := .v (.int .i64 (IntKind.i64.wrap ((D : Int) + 1)))) (.v (.int .i64 ((D + 1 : Nat) : Int))) (eqI (by rw [IntWalk.i64_in _ (by omega)]; omega)) ?_
    have hl12 := (hx).1
    have hc12 := (hx).2.1
    refine sy_front 13 (n := x.n) (c := x.c) (D + 1) sl42 rfl (by omega) ?_
    refine sy_pure 0 (.v (.slice x.a (D + 1) x.c)) ?_
    refine sy_next 17 [(0, .v (.slice x.a (D + 1) x.c))] [] ?_
    refine sw_seq ?_
    refine sw_reg ?_
    refine sy_pure 14 (.v (.slice x.a (D + 1) x.c)) ?_
    refine sy_call 15 51 [.slice x.a (D + 1) x.c] ?_
    intro w13 u13 e13 d13
    have k18 := k_mkRats (x := (⟨x.a, D + 1, x.c⟩ : Sl)) d13 ((ints_take (m := (D + 1)) hx (by omega)).ext e13) (bd_take hb (D + 1)) (by have h9 := (((ints_take (m := (D + 1)) hx (by omega)).ext e13)).1; first | omega | (simp; omega))
    with_reducible refine Post.mono k18 ?_
    clear k18
    rintro _ u16 g17 ⟨y14, rfl, h15⟩
    have hly14 := h15.len
    rw [List.length_map] at hly14
    refine sy_call 16 50 [.slice y14.a y14.n y14.c] ?_
    intro w19 u19 e19 d19
    have k24 := k_r5Trim d19 (h15.ext e19).raw (by omega) (by first | omega | (simp; omega) | (refine Nat.le_trans (Nt.trim_len _) ?_; first | omega | (simp; omega)) | (refine Nat.le_trans (Nt.trim_len _) ?_; simp only [List.length_map]; refine Nat.le_trans (Nt.trim_len _) ?_; first | omega | (simp; omega)))
    with_reducible refine Post.mono k24 ?_
    clear k24
    rintro _ u22 g23 ⟨y20, rfl, h21⟩
    have hly20 := h21.len
    refine sy_pure 4 (.v (.slice y20.a y20.n y20.c)) ?_
    refine sy_next 17 [(4, .v (.slice y20.a y20.n y20.c))] [] ?_
    refine sw_ret (ret0 [.slice y20.a y20.n y20.c] ⟨res_tmp, trivial⟩ fun u25 e26 => ?_)
    have e9 : Nt.mkP l D = (Nt.trimQ ((l.take (D + 1)).map Nt.mkR)) := rfl
    rw [e9]
    exact ⟨y20, rfl, (h21.ext e26)⟩
  · replace hb11 : (decide (((D + 1 : Nat) : Int) < (x.n : Int))) = false := hb11
    have qhb11 := of_decide_eq_false hb11
    refine sw_skip (mp_seq ?_)
    refine sw_seq ?_
    refine sw_reg ?_
    refine sy_pure 14 (.v (.slice x.a x.n x.c)) ?_
    refine sy_call 15 51 [.slice x.a x.n x.c] ?_
    intro w27 u27 e27 d27
    have k32 := k_mkRats (x := x) d27 (hx.ext e27) hb (by have h9 := ((hx.ext e27)).1; first | omega | (simp; omega))
    with_reducible refine Post.mono k32 ?_
    clear k32
    rintro _ u30 g31 ⟨y28, rfl, h29⟩
    have hly28 := h29.len
    rw [List.length_map] at hly28
    refine sy_call 16 50 [.slice y28.a y28.n y28.c] ?_
    intro w33 u33 e33 d33
    have k38 := k_r5Trim d33 (h29.ext e33).raw (by omega) (by first | omega | (simp; omega) | (refine Nat.le_trans (Nt.trim_len _) ?_; first | omega | (simp; omega)) | (refine Nat.le_trans (Nt.trim_len _) ?_; simp only [List.length_map]; refine Nat.le_trans (Nt.trim_len _) ?_; first | omega | (simp; omega)))
    with_reducible refine Post.mono k38 ?_
    clear k38
    rintro _ u36 g37 ⟨y34, rfl, h35⟩
    have hly34 := h35.len
    refine sy_pure 4 (.v (.slice y34.a y34.n y34.c)) ?_
    refine sy_next 17 [(4, .v (.slice y34.a y34.n y34.c))] [] ?_
    refine sw_ret (ret0 [.slice y34.a y34.n y34.c] ⟨res_tmp, trivial⟩ fun u39 e40 => ?_)
    have e9 : Nt.mkP l D = (Nt.trimQ (l.map Nt.mkR)) := by unfold Nt.mkP; rw [List.take_of_length_le (by omega)]
    rw [e9]
    exact ⟨y34, rfl, (h35.ext e40)⟩
set_option maxHeartbeats 2000000 in
theorem k_poPow {u w : World} {x : Sl} {l : List Rat} {K n D A : Nat} (d : Dat u w) (hx : PolV u x l K) (hs : Nt.Sm l D A) (hD : D ≤ 2 ^ A) (hl : l.length ≤ 8) (hn : n ≤ 4) (hA : A ≤ 1000) (hK : K ≤ 100) : Calls Try.prog 26 #[x.v, .int .i64 (n : Int)] w (Post u w fun v u' => ∃ y : Sl, v = .tuple #[y.v, .int .i64 0] ∧ PolN u' y (Nt.Pol.npow (Nt.Pol.mk' l) n).l (Nt.dg (n * (A + 8)))) := by
  have hlen := hx.len
  have htl := Nt.trim_len l
  have hnb : -4 ≤ (n : Int) * (((Nt.trimQ l).length : Int) - 1) ∧ (n : Int) * (((Nt.trimQ l).length : Int) - 1) ≤ 28 := by
    obtain ⟨k, hk⟩ : ∃ k, (Nt.trimQ l).length = k := ⟨_, rfl⟩
    rw [hk] at htl ⊢
    rcases (by omega : n = 0 ∨ n = 1 ∨ n = 2 ∨ n = 3 ∨ n = 4) with rfl | rfl | rfl | rfl | rfl <;> omega
  have hdg : Nt.dg (n * (A + 8)) ≤ 127 := by
    have h9 : n * (A + 8) ≤ 4 * 1008 := Nat.mul_le_mul hn (by omega)
    exact Nat.le_trans (Nt.dg_mono h9) (by decide)
  refine calls_sym (args := [.slice x.a x.n x.c, .int .i64 (n : Int)]) Try.func26 rfl Try.ntmps26 (rs := [.tmp 4, .tmp 5]) Try.results26 (le_b rfl) (le_b rfl) d ?_
  refine sw_seq ?_
  refine sw_reg ?_
  refine sy_pure 4 (.v (.slice none 0 0)) ?_
  refine sy_pure 5 (.v (.int .i64 0)) ?_
  refine sy_next 30 [(0, .v (.slice x.a x.n x.c)), (1, .v (.int .i64 (n : Int)))] [] ?_
  refine sw_seq ?_
  refine sw_seq ?_
  refine sw_reg ?_
  refine sy_pure 7 (.v (.int .i64 (n : Int))) ?_
  refine sy_pure 8 (.v (.bool (decide ((n : Int) < 0)))) ?_
  refine sy_eq 9 (x := .v (.bool (decide ((n : Int) < 0)))) (.v (.bool false)) (by rw [show (decide ((n : Int) < 0)) = false from decide_eq_false (by omega)]) ?_
  refine sy_pure 10 (.v (.int .i64 (n : Int))) ?_ (hw := wants1 (g := 2) (b := false) (t := 9) (by kernel_rfl) (by kernel_rfl) (by kernel_rfl))
  refine sy_pure 11 (.v (.bool (decide ((48 : Int) < (n : Int))))) ?_ (hw := wants1 (g := 2) (b := false) (t := 9) (by kernel_rfl) (by kernel_rfl) (by kernel_rfl))
  refine sy_pure 12 (.v (.bool (decide ((48 : Int) < (n : Int))))) ?_
  refine sy_eq 13 (x := .v (.bool (decide ((48 : Int) < (n : Int))))) (.v (.bool false)) (by rw [show (decide ((48 : Int) < (n : Int))) = false from decide_eq_false (by omega)]) ?_
  refine sy_pure 14 (.v (.int .i64 (n : Int))) ?_ (hw := wants1 (g := 6) (b := false) (t := 13) (by kernel_rfl) (by kernel_rfl) (by kernel_rfl))
  refine sy_pure 15 (.v (.slice x.a x.n x.c)) ?_ (hw := wants1 (g := 6) (b := false) (t := 13) (by kernel_rfl) (by kernel_rfl) (by kernel_rfl))
  refine sy_call 16 23 [.slice x.a x.n x.c] ?_ (hw := wants1 (g := 6) (b := false) (t := 13) (by kernel_rfl) (by kernel_rfl) (by kernel_rfl))
  intro w13 u13 e13 d13
  have k16 := k_poDegree d13 (hx.ext e13) (by omega) (by first | omega | (simp; omega) | (refine Nat.le_trans (Nt.trim_len _) ?_; first | omega | (simp; omega)) | (refine Nat.le_trans (Nt.trim_len _) ?_; simp only [List.length_map]; refine Nat.le_trans (Nt.trim_len _) ?_; first | omega | (simp; omega)))
  with_reducible refine Post.mono k16 ?_
  clear k16
  rintro _ u14 g15 rfl
  refine sy_eq 17 (x := .v (.int .i64 (IntKind.i64.wrap (((n : Int) * (((Nt.trimQ l).length : Int) - 1)))))) (.v (.int .i64 (((n : Int) * (((Nt.trimQ l).length : Int) - 1))))) (by rw [IntWalk.i64_in _ (by omega)]) ?_ (hw := wants1 (g := 6) (b := false) (t := 13) (by kernel_rfl) (by kernel_rfl) (by kernel_rfl))
  refine sy_pure 18 (.v (.bool (decide ((192 : Int) < ((n : Int) * (((Nt.trimQ l).length : Int) - 1)))))) ?_ (hw := wants1 (g := 6) (b := false) (t := 13) (by kernel_rfl) (by kernel_rfl) (by kernel_rfl))
  refine sy_pure 19 (.v (.bool (decide ((192 : Int) < ((n : Int) * (((Nt.trimQ l).length : Int) - 1)))))) ?_
  refine sy_next 30 [(0, .v (.slice x.a x.n x.c)), (1, .v (.int .i64 (n : Int))), (19, .v (.bool (decide ((192 : Int) < ((n : Int) * (((Nt.trimQ l).length : Int) - 1))))))] [] ?_
  refine sw_cond (b := decide ((192 : Int) < ((n : Int) * (((Nt.trimQ l).length : Int) - 1)))) (by kernel_rfl) (fun hb => ?_) (fun hb => ?_)
  · exact absurd hb (by rw [show (decide ((192 : Int) < ((n : Int) * (((Nt.trimQ l).length : Int) - 1)))) = false from decide_eq_false (by omega)]; decide)
  · clear hb
    refine sw_skip (mp_seq ?_)
    refine sw_seq ?_
    refine sw_reg ?_
    refine sy_call 20 49 [.int .i64 1] ?_
    intro w17 u17 e17 d17
    have k22 := k_ratOf d17 (z := 1) (by omega) (by omega)
    with_reducible refine Post.mono k22 ?_
    clear k22
    rintro _ u20 g21 ⟨r18, rfl, h19⟩
    refine sy_data 21 ⟨26, r18.cs⟩ 1 (fun b23 u24 e25 h26 => ?_)
    have hp27 : PolN u24 (⟨some ⟨b23, 0, none⟩, 1, 1⟩ : Sl) [((1 : Int) : Rat)] 2 := pol_lit (L := [r18]) h26 (rats1 (h19.ext e25)) rfl (by decide)
    refine sy_pure 6 (.v (.slice (some ⟨b23, 0, none⟩) 1 1)) ?_
    refine sy_next 30 [(0, .v (.slice x.a x.n x.c)), (1, .v (.int .i64 (n : Int))), (6, .v (.slice (some ⟨b23, 0, none⟩) 1 1))] [] ?_
    refine sw_seq ?_
    refine sw_seq ?_
    refine sw_reg ?_
    refine sy_pure 22 (.v (.int .i64 (n : Int))) ?_
    refine sy_pure 23 (.v (.int .i64 0)) ?_
    refine sy_next 30 [(0, .v (.slice x.a x.n x.c)), (6, .v (.slice (some ⟨b23, 0, none⟩) 1 1)), (22, .v (.int .i64 (n : Int))), (23, .v (.int .i64 0))] [] ?_
    refine sw_block ?_
    refine sw_loop (I := fun m28 S' u' => ∃ (j : Nat) (xr : Sl), (m28 = n - j) ∧ (j ≤ n) ∧ (S' = St.of 30 [(0, .v (.slice x.a x.n x.c)), (6, .v (.slice xr.a xr.n xr.c)), (22, .v (.int .i64 (n : Int))), (23, .v (.int .i64 (j : Int)))] []) ∧ (Ext u24 u') ∧ (PolN u' xr (Nt.Pol.npow (Nt.Pol.mk' l) j).l (Nt.dg (n * (A + 8))))) (fun m S u1 u2 e h => by obtain ⟨j, xr, hm, p0, hS, hE, f0⟩ := h; exact ⟨j, xr, hm, p0, hS, hE.trans e, f0.ext e⟩) _ (T := St.of 30 [(0, .v (.slice x.a x.n x.c)), (6, .v (.slice (some ⟨b23, 0, none⟩) 1 1)), (22, .v (.int .i64 (n : Int))), (23, .v (.int .i64 0))] []) (by exact weak_mk _ _ _) ⟨0, (⟨some ⟨b23, 0, none⟩, 1, 1⟩ : Sl), rfl, by omega, rfl, Ext.refl _, (by have h9 : PolN _ _ (Nt.Pol.npow (Nt.Pol.mk' l) 0).l _ := hp27; exact PolN.fitS h9 ((hs.npow 0).more (by rw [Nat.zero_mul]; exact Nat.zero_le _)) (Nt.pow_leN hD (Nat.zero_le _)))⟩ ?_
    rintro m28 _ u28 ⟨j, xr, hm28, hj, rfl, e28, hF⟩
    have hlr := hF.len
    have hlp : (Nt.Pol.npow (Nt.Pol.mk' l) j).l.length ≤ 33 := by have h9 := Nt.Pol.npow_len (Nt.Pol.mk' l) j; have h8 : j * (Nt.Pol.mk' l).len ≤ 4 * 8 := Nat.mul_le_mul (by omega) (Nat.le_trans (Nt.mk_len l) hl); change _ ≤ _ at h9; unfold Nt.Pol.len at h9; unfold Nt.Pol.len at h8; omega
    refine sw_seq ?_
    refine sw_reg ?_
    refine sy_pure 24 (.v (.bool (decide ((j : Int) < (n : Int))))) ?_
    refine sy_next 30 [(0, .v (.slice x.a x.n x.c)), (6, .v (.slice xr.a xr.n xr.c)), (22, .v (.int .i64 (n : Int))), (23, .v (.int .i64 (j : Int))), (24, .v (.bool (decide ((j : Int) < (n : Int)))))] [] ?_
    refine sw_seq ?_
    refine sw_cond (b := decide ((j : Int) < (n : Int))) (by kernel_rfl) (fun hb29 => ?_) (fun hb29 => ?_)
    · replace hb29 : (decide ((j : Int) < (n : Int))) = true := hb29
      have qhb29 := of_decide_eq_true hb29
      refine sw_skip (mp_seq ?_)
      refine sw_seq ?_
      refine sw_block ?_
      refine sw_reg ?_
      refine sy_pure 25 (.v (.slice xr.a xr.n xr.c)) ?_
      refine sy_pure 26 (.v (.slice x.a x.n x.c)) ?_
      refine sy_call 27 22 [.slice xr.a xr.n xr.c, .slice x.a x.n x.c] ?_
      intro w30 u30 e30 d30
      have k35 := k_poMul d30 (hF.ext e30).raw (hx.ext (e13.trans (g15.ext.trans (e17.trans (g21.ext.trans (e25.trans (e28.trans e30))))))) (Nat.le_trans (Nt.mlK_mono hlp hl hdg hK) (by decide +kernel)) (by have h9 := Nat.mul_le_mul (show (Nt.Pol.npow (Nt.Pol.mk' l) j).l.length + 1 ≤ 34 by omega) hdg; omega) (by have h9 := Nat.mul_le_mul (show l.length + 1 ≤ 9 by omega) hK; omega) (by omega) (by omega)
      with_reducible refine Post.mono k35 ?_
      clear k35
      rintro _ u33 g34 ⟨y31, rfl, h32⟩
      refine sy_pure 6 (.v (.slice y31.a y31.n y31.c)) ?_
      refine sy_end ?_
      refine mp_seq ?_
      refine sw_reg ?_
      refine sy_eq 28 (x := .v (.int .i64 (IntKind.i64.wrap ((j : Int) + 1)))) (.v (.int .i64 ((j + 1 : Nat) : Int))) (eqI (by rw [IntWalk.i64_in _ (by omega)]; omega)) ?_
      refine sy_pure 23 (.v (.int .i64 ((j + 1 : Nat) : Int))) ?_
      refine sy_end ?_
      refine ⟨_, ?_, St.of 30 [(0, .v (.slice x.a x.n x.c)), (6, .v (.slice y31.a y31.n y31.c)), (22, .v (.int .i64 (n : Int))), (23, .v (.int .i64 ((j + 1 : Nat) : Int)))] [], by exact weak_mk _ _ _, j + 1, y31, rfl, by omega, rfl, (e28.trans (e30.trans g34.ext)), (by have h9 : PolN _ _ (Nt.Pol.npow (Nt.Pol.mk' l) (j + 1)).l _ := (by rw [Nt.npow_l]; exact h32); exact PolN.fitS h9 ((hs.npow (j + 1)).more (Nat.mul_le_mul (by omega) (by omega))) (Nt.pow_leN hD (by omega)))⟩
      omega
    · replace hb29 : (decide ((j : Int) < (n : Int))) = false := hb29
      have qhb29 := of_decide_eq_false hb29
      refine sw_exit ?_
      refine mp_seq ?_
      refine sw_seq ?_
      refine sw_reg ?_
      refine sy_pure 29 (.v (.slice xr.a xr.n xr.c)) ?_
      refine sy_pure 4 (.v (.slice xr.a xr.n xr.c)) ?_
      refine sy_pure 5 (.v (.int .i64 0)) ?_
      refine sy_next 30 [(4, .v (.slice xr.a xr.n xr.c)), (5, .v (.int .i64 0))] [] ?_
      refine sw_ret (ret0 [.slice xr.a xr.n xr.c, .int .i64 0] ⟨res_tmp, res_tmp, trivial⟩ fun u36 e37 => ?_)
      have hjn : j = n := by omega
      refine ⟨xr, rfl, ?_⟩
      have h9 := (hF.ext e37)
      rw [hjn] at h9
      exact h9
end Go.Proofs.Ytnedhbidmfoegaa
namespace Go.Proofs.Ytnedhbidmfoegaa.Nt
open Go.RowKit
open Pol
set_option linter.unusedVariables false
theorem awake_dm {q r : Pol} (h : mk' [((0 : Int) : Rat), ((0 : Int) : Rat), ((1 : Int) : Rat)] = q * mk' [(((-1) : Int) : Rat), ((1 : Int) : Rat)] + r) (hr : r.len < (mk' [(((-1) : Int) : Rat), ((1 : Int) : Rat)]).len) :
    q.l = [((1 : Int) : Rat), ((1 : Int) : Rat)] ∧ r.l = [((1 : Int) : Rat)] := by
  have e : mk' [((0 : Int) : Rat), ((0 : Int) : Rat), ((1 : Int) : Rat)] = mk' [((1 : Int) : Rat), ((1 : Int) : Rat)] * mk' [(((-1) : Int) : Rat), ((1 : Int) : Rat)] + mk' [((1 : Int) : Rat)] := eqk (by decide +kernel)
  have h9 := div_unique (h.symm.trans e) hr (by decide +kernel)
  rw [h9.1, h9.2]
  exact ⟨by decide +kernel, by decide +kernel⟩
theorem awake_sqf {s : Pol} (h : IsSqf (mk' [((0 : Int) : Rat), ((0 : Int) : Rat), (((-1) : Int) : Rat), ((1 : Int) : Rat)]) s) : s.l = [((0 : Int) : Rat), (((-1) : Int) : Rat), ((1 : Int) : Rat)] := by
  have k : IsSqf (mk' [((0 : Int) : Rat), ((0 : Int) : Rat), (((-1) : Int) : Rat), ((1 : Int) : Rat)]) (mk' [((0 : Int) : Rat), (((-1) : Int) : Rat), ((1 : Int) : Rat)]) :=
    .inr ⟨ne_of_len (by decide +kernel), mk' [0, 1], mk' [0, -1, 1],
      ⟨.inr (by decide +kernel), ⟨mk' [0, -1, 1], eqk (by decide +kernel)⟩, ⟨mk' [-2, 3], eqk (by decide +kernel)⟩, ⟨mk' [-9/2], mk' [-1/2, 3/2], eqk (by decide +kernel)⟩⟩,
      ne_of_len (by decide +kernel), eqk (by decide +kernel), eqk (by decide +kernel)⟩
  rw [h.unique k]
  decide +kernel
end Go.Proofs.Ytnedhbidmfoegaa.Nt
namespace Go.Proofs.Ytnedhbidmfoegaa
open Go.RowKit
set_option linter.unusedVariables false
set_option maxHeartbeats 4000000 in
theorem k_awake5 {u w : World} (d : Dat u w) : Calls Try.prog 21 #[] w (Post u w fun v _ => v = .bool true) := by
  refine calls_sym (args := []) Try.func21 rfl Try.ntmps21 (rs := [.tmp 0]) Try.results21 (le_b rfl) (le_b rfl) d ?_
  refine sw_seq ?_
  refine sw_reg ?_
  refine sy_pure 0 (.v (.bool false)) ?_
  refine sy_next 50 [] [] ?_
  refine sw_seq ?_
  refine sw_reg ?_
  refine sy_call 5 29 [.int .i64 1] ?_
  intro w11 u11 e11 d11
  have k16 := k_rqOf d11 (z := 1) (by omega) (by omega)
  with_reducible refine Post.mono k16 ?_
  clear k16
  rintro _ u14 g15 ⟨r12, rfl, h13⟩
  refine sy_new 1 ⟨26, [.bool false, .slice none 0 0, .slice none 0 0]⟩ ?_
  refine sy_store ⟨26, r12.cs⟩ ty26 ?_
  refine sy_next 50 [(1, .adr 1 0)] [(1, ⟨26, r12.cs⟩)] ?_
  refine sw_seq ?_
  refine sw_any [0, 1, 0, 7, 3, 0, 51, 127, 255, 511, 511, 511, 1023, 6143, 16383] [(2, []), (5, []), (0, []), (1, []), (3, []), (4, []), (6, []), (7, [10, 13]), (8, []), (9, []), (10, []), (11, []), (12, []), (13, []), (14, [])] (by kernel_rfl) (by kernel_rfl) ?_
  refine sy_ldv 9 (.v (r12.v)) ty26 part_agg ?_
  refine sy_ldv 12 (.v (r12.v)) ty26 part_agg ?_
  refine sy_call 7 29 [.int .i64 0] ?_
  intro w17 u17 e17 d17
  have k22 := k_rqOf d17 (z := 0) (by omega) (by omega)
  with_reducible refine Post.mono k22 ?_
  clear k22
  rintro _ u20 g21 ⟨r18, rfl, h19⟩
  refine sy_call 8 29 [.int .i64 0] ?_
  intro w23 u23 e23 d23
  have k28 := k_rqOf d23 (z := 0) (by omega) (by omega)
  with_reducible refine Post.mono k28 ?_
  clear k28
  rintro _ u26 g27 ⟨r24, rfl, h25⟩
  refine sy_lit 10 ⟨26, r18.cs ++ r24.cs ++ r12.cs⟩ 3 ?_
  refine sy_call 11 29 [.int .i64 (-1)] ?_
  intro w29 u29 e29 d29
  have k34 := k_rqOf d29 (z := (-1)) (by omega) (by omega)
  with_reducible refine Post.mono k34 ?_
  clear k34
  rintro _ u32 g33 ⟨r30, rfl, h31⟩
  refine sy_lit 13 ⟨26, r30.cs ++ r12.cs⟩ 2 ?_
  refine sy_give 14 20 [.slc 10 0 3 3, .slc 13 0 2 2] [10, 13] (.inr rfl) (pub_mk (by repeat first | exact noAt_of | refine noAt_set ?_ | refine noAt_lit ?_ | refine noAt_new ?_ | refine noAt_setVar ?_ | refine noAt_unpub ?_)) (k := ?_)
  intro B35 w35 u35 e35 d35 v35
  have h37 : u35.heap[B35 10]? = some (.cells #[.bool r18.s, .slice r18.m.a r18.m.n r18.m.c, .slice r18.d.a r18.d.n r18.d.c, .bool r24.s, .slice r24.m.a r24.m.n r24.m.c, .slice r24.d.a r24.d.n r24.d.c, .bool r12.s, .slice r12.m.a r12.m.n r12.m.c, .slice r12.d.a r12.d.n r12.d.c] 26 (0, 0)) := v35 10 (by simp) _ rfl
  obtain ⟨b36, hBb36⟩ : ∃ b, B35 10 = b := ⟨_, rfl⟩
  rw [hBb36] at h37
  have hp38 : PolN u35 (⟨some ⟨b36, 0, none⟩, 3, 3⟩ : Sl) [((0 : Int) : Rat), ((0 : Int) : Rat), ((1 : Int) : Rat)] 2 := pol_lit (L := [r18, r24, r12]) h37 (rats3 (h19.ext (e23.trans (g27.ext.trans (e29.trans (g33.ext.trans e35))))) (h25.ext (e29.trans (g33.ext.trans e35))) (h13.ext (e17.trans (g21.ext.trans (e23.trans (g27.ext.trans (e29.trans (g33.ext.trans e35)))))))) rfl (by decide)
  have h40 : u35.heap[B35 13]? = some (.cells #[.bool r30.s, .slice r30.m.a r30.m.n r30.m.c, .slice r30.d.a r30.d.n r30.d.c, .bool r12.s, .slice r12.m.a r12.m.n r12.m.c, .slice r12.d.a r12.d.n r12.d.c] 26 (0, 0)) := v35 13 (by simp) _ rfl
  obtain ⟨b39, hBb39⟩ : ∃ b, B35 13 = b := ⟨_, rfl⟩
  rw [hBb39] at h40
  have hp41 : PolN u35 (⟨some ⟨b39, 0, none⟩, 2, 2⟩ : Sl) [(((-1) : Int) : Rat), ((1 : Int) : Rat)] 2 := pol_lit (L := [r30, r12]) h40 (rats2 (h31.ext e35) (h13.ext (e17.trans (g21.ext.trans (e23.trans (g27.ext.trans (e29.trans (g33.ext.trans e35)))))))) rfl (by decide)
  show Calls _ _ #[.slice (some ⟨B35 10, 0, none⟩) 3 3, .slice (some ⟨B35 13, 0, none⟩) 2 2] _ _
  rw [hBb36, hBb39]
  have k45 := k_poDivMod1 (C := 9) d35 hp38.raw hp41.raw (show Nt.trimQ [(((-1) : Int) : Rat), ((1 : Int) : Rat)] ≠ [] by decide +kernel) ((show Nt.Sm [((0 : Int) : Rat), ((0 : Int) : Rat), ((1 : Int) : Rat)] 1 1 from Nt.Sm.ofInts (zs := [0, 0, 1]) (by decide))).prim ((show Nt.Sm [(((-1) : Int) : Rat), ((1 : Int) : Rat)] 1 1 from Nt.Sm.ofInts (zs := [(-1), 1]) (by decide))).prim (by have h9 := (show ([((0 : Int) : Rat), ((0 : Int) : Rat), ((1 : Int) : Rat)]).length ≤ 3 by decide); have h8 := (show ([(((-1) : Int) : Rat), ((1 : Int) : Rat)]).length ≤ 2 by decide); omega) (by decide) (by have h9 := (show ([((0 : Int) : Rat), ((0 : Int) : Rat), ((1 : Int) : Rat)]).length ≤ 3 by decide); omega) (by have h9 := (show ([(((-1) : Int) : Rat), ((1 : Int) : Rat)]).length ≤ 2 by decide); omega) (by have h9 := (show ([((0 : Int) : Rat), ((0 : Int) : Rat), ((1 : Int) : Rat)]).length ≤ 3 by decide); have h8 := (show ([(((-1) : Int) : Rat), ((1 : Int) : Rat)]).length ≤ 2 by decide); have h7 : Nt.dg 9 = 1 := (by decide +kernel); omega) (by have h9 := (show ([((0 : Int) : Rat), ((0 : Int) : Rat), ((1 : Int) : Rat)]).length ≤ 3 by decide); omega) (by have h9 := (show ([(((-1) : Int) : Rat), ((1 : Int) : Rat)]).length ≤ 2 by decide); omega)
  with_reducible refine Post.mono k45 ?_
  clear k45
  rintro _ u43 g44 ⟨y42, z42, q42, r42, rfl, ha42, hb42, eq42, el42⟩
  have hly42 := ha42.len
  have hlz42 := hb42.len
  have hlly42 := Nt.div_lenL eq42 el42
  have hm48 : q42.l.length ≤ 3 := by have h9 := (show ([((0 : Int) : Rat), ((0 : Int) : Rat), ((1 : Int) : Rat)]).length ≤ 3 by decide); omega
  have hm49 : r42.l.length ≤ 2 := by have h9 := (show ([(((-1) : Int) : Rat), ((1 : Int) : Rat)]).length ≤ 2 by decide); omega
  have hk46 : PolN _ y42 q42.l 16 := PolN.more ha42 (by have h9 := (show ([((0 : Int) : Rat), ((0 : Int) : Rat), ((1 : Int) : Rat)]).length ≤ 3 by decide); have h8 := (show ([(((-1) : Int) : Rat), ((1 : Int) : Rat)]).length ≤ 2 by decide); have h7 : Nt.dg 9 = 1 := (by decide +kernel); omega)
  have hk47 : PolN _ z42 r42.l 16 := PolN.more hb42 (by have h9 := (show ([((0 : Int) : Rat), ((0 : Int) : Rat), ((1 : Int) : Rat)]).length ≤ 3 by decide); have h8 := (show ([(((-1) : Int) : Rat), ((1 : Int) : Rat)]).length ≤ 2 by decide); have h7 : Nt.dg 9 = 1 := (by decide +kernel); omega)
  refine sy_pure 6 (.v (.tuple #[.slice y42.a y42.n y42.c, .slice z42.a z42.n z42.c, .int .i64 0])) ?_
  refine sy_pure 15 (.v (.slice y42.a y42.n y42.c)) ?_
  refine sy_pure 16 (.v (.slice z42.a z42.n z42.c)) ?_
  refine sy_pure 17 (.v (.int .i64 0)) ?_
  refine sy_pure 2 (.v (.slice y42.a y42.n y42.c)) ?_
  refine sy_pure 3 (.v (.slice z42.a z42.n z42.c)) ?_
  refine sy_pure 4 (.v (.int .i64 0)) ?_
  refine sy_next 50 [(1, .adr 1 0), (2, .v (.slice y42.a y42.n y42.c)), (3, .v (.slice z42.a z42.n z42.c)), (4, .v (.int .i64 0))] [(1, ⟨26, r12.cs⟩)] ?_
  refine sw_seq ?_
  refine sw_any [0, 1, 3, 7, 7, 7, 55, 127, 255, 511, 1023, 1023, 3071, 8191, 16383, 32767, 65535, 131071, 262143, 524287, 1048575, 2097151, 4194303, 1048575, 16777215, 33554431, 67108863, 134217727, 1048575, 536870911, 1073741823, 2147483647, 4294967295] [(0, []), (1, []), (2, []), (3, []), (4, []), (5, []), (6, []), (7, [24]), (8, []), (9, []), (10, []), (11, []), (12, []), (13, [30]), (14, []), (15, []), (16, []), (17, []), (18, []), (19, []), (23, []), (28, []), (20, []), (21, []), (22, []), (24, []), (25, [42]), (26, []), (27, []), (29, []), (30, [47]), (31, []), (32, [])] (by kernel_rfl) (by kernel_rfl) ?_
  refine sy_pure 18 (.v (.int .i64 0)) ?_
  refine sy_pure 19 (.v (.bool true)) ?_
  refine sy_pure 20 (.v (.bool true)) ?_
  refine sy_pure 21 (.v (.slice y42.a y42.n y42.c)) ?_ (hw := wants1 (g := 2) (b := true) (t := 20) (by kernel_rfl) (by kernel_rfl) (by kernel_rfl))
  refine sy_ldv 22 (.v (r12.v)) ty26 part_agg ?_ (hw := wants1 (g := 2) (b := true) (t := 20) (by kernel_rfl) (by kernel_rfl) (by kernel_rfl))
  refine sy_ldv 23 (.v (r12.v)) ty26 part_agg ?_ (hw := wants1 (g := 2) (b := true) (t := 20) (by kernel_rfl) (by kernel_rfl) (by kernel_rfl))
  refine sy_lit 24 ⟨26, r12.cs ++ r12.cs⟩ 2 ?_ (hw := wants1 (g := 2) (b := true) (t := 20) (by kernel_rfl) (by kernel_rfl) (by kernel_rfl))
  refine sy_give 25 24 [.v (.slice y42.a y42.n y42.c), .slc 24 0 2 2] [24] (.inr rfl) (pub_mk (by repeat first | exact noAt_of | refine noAt_set ?_ | refine noAt_lit ?_ | refine noAt_new ?_ | refine noAt_setVar ?_ | refine noAt_unpub ?_)) (k := ?_) (hw := wants1 (g := 2) (b := true) (t := 20) (by kernel_rfl) (by kernel_rfl) (by kernel_rfl))
  intro B50 w50 u50 e50 d50 v50
  have h52 : u50.heap[B50 24]? = some (.cells #[.bool r12.s, .slice r12.m.a r12.m.n r12.m.c, .slice r12.d.a r12.d.n r12.d.c, .bool r12.s, .slice r12.m.a r12.m.n r12.m.c, .slice r12.d.a r12.d.n r12.d.c] 26 (0, 0)) := v50 24 (by simp) _ rfl
  obtain ⟨b51, hBb51⟩ : ∃ b, B50 24 = b := ⟨_, rfl⟩
  rw [hBb51] at h52
  have hp53 : PolN u50 (⟨some ⟨b51, 0, none⟩, 2, 2⟩ : Sl) [((1 : Int) : Rat), ((1 : Int) : Rat)] 2 := pol_lit (L := [r12, r12]) h52 (rats2 (h13.ext (e17.trans (g21.ext.trans (e23.trans (g27.ext.trans (e29.trans (g33.ext.trans (e35.trans (g44.ext.trans e50))))))))) (h13.ext (e17.trans (g21.ext.trans (e23.trans (g27.ext.trans (e29.trans (g33.ext.trans (e35.trans (g44.ext.trans e50)))))))))) rfl (by decide)
  show Calls _ _ #[.slice y42.a y42.n y42.c, .slice (some ⟨B50 24, 0, none⟩) 2 2] _ _
  rw [hBb51]
  have k56 := k_r5Equal d50 (hk46.ext e50) hp53 (by first | omega | (simp; omega) | (refine Nat.le_trans (Nt.trim_len _) ?_; first | omega | (simp; omega)) | (refine Nat.le_trans (Nt.trim_len _) ?_; simp only [List.length_map]; refine Nat.le_trans (Nt.trim_len _) ?_; first | omega | (simp; omega))) (by simp)
  with_reducible refine Post.mono k56 ?_
  clear k56
  rintro _ u54 g55 rfl
  refine sy_pure 26 (.v (.bool (decide (q42.l = [((1 : Int) : Rat), ((1 : Int) : Rat)])))) ?_
  refine sy_eq 27 (x := .v (.bool (decide (q42.l = [((1 : Int) : Rat), ((1 : Int) : Rat)])))) (.v (.bool true)) (by rw [show (decide (q42.l = [((1 : Int) : Rat), ((1 : Int) : Rat)])) = true from decide_eq_true (Nt.awake_dm eq42 el42).1]) ?_
  refine sy_pure 28 (.v (.slice z42.a z42.n z42.c)) ?_ (hw := wants1 (g := 9) (b := true) (t := 27) (by kernel_rfl) (by kernel_rfl) (by kernel_rfl))
  refine sy_ldv 29 (.v (r12.v)) ty26 part_agg ?_ (hw := wants1 (g := 9) (b := true) (t := 27) (by kernel_rfl) (by kernel_rfl) (by kernel_rfl))
  refine sy_lit 30 ⟨26, r12.cs⟩ 1 ?_ (hw := wants1 (g := 9) (b := true) (t := 27) (by kernel_rfl) (by kernel_rfl) (by kernel_rfl))
  refine sy_give 31 24 [.v (.slice z42.a z42.n z42.c), .slc 30 0 1 1] [30] (.inr rfl) (pub_mk (by repeat first | exact noAt_of | refine noAt_set ?_ | refine noAt_lit ?_ | refine noAt_new ?_ | refine noAt_setVar ?_ | refine noAt_unpub ?_)) (k := ?_) (hw := wants1 (g := 9) (b := true) (t := 27) (by kernel_rfl) (by kernel_rfl) (by kernel_rfl))
  intro B58 w58 u58 e58 d58 v58
  have h60 : u58.heap[B58 30]? = some (.cells #[.bool r12.s, .slice r12.m.a r12.m.n r12.m.c, .slice r12.d.a r12.d.n r12.d.c] 26 (0, 0)) := v58 30 (by simp) _ rfl
  obtain ⟨b59, hBb59⟩ : ∃ b, B58 30 = b := ⟨_, rfl⟩
  rw [hBb59] at h60
  have hp61 : PolN u58 (⟨some ⟨b59, 0, none⟩, 1, 1⟩ : Sl) [((1 : Int) : Rat)] 2 := pol_lit (L := [r12]) h60 (rats1 (h13.ext (e17.trans (g21.ext.trans (e23.trans (g27.ext.trans (e29.trans (g33.ext.trans (e35.trans (g44.ext.trans (e50.trans (g55.ext.trans e58)))))))))))) rfl (by decide)
  show Calls _ _ #[.slice z42.a z42.n z42.c, .slice (some ⟨B58 30, 0, none⟩) 1 1] _ _
  rw [hBb59]
  have k64 := k_r5Equal d58 (hk47.ext (e50.trans (g55.ext.trans e58))) hp61 (by first | omega | (simp; omega) | (refine Nat.le_trans (Nt.trim_len _) ?_; first | omega | (simp; omega)) | (refine Nat.le_trans (Nt.trim_len _) ?_; simp only [List.length_map]; refine Nat.le_trans (Nt.trim_len _) ?_; first | omega | (simp; omega))) (by simp)
  with_reducible refine Post.mono k64 ?_
  clear k64
  rintro _ u62 g63 rfl
  refine sy_pure 32 (.v (.bool (decide (r42.l = [((1 : Int) : Rat)])))) ?_
  refine sy_eq 33 (x := .v (.bool (decide (r42.l = [((1 : Int) : Rat)])))) (.v (.bool true)) (by rw [show (decide (r42.l = [((1 : Int) : Rat)])) = true from decide_eq_true (Nt.awake_dm eq42 el42).2]) ?_
  refine sy_call 34 23 [.slice none 0 0] ?_ (hw := wants1 (g := 15) (b := true) (t := 33) (by kernel_rfl) (by kernel_rfl) (by kernel_rfl))
  intro w66 u66 e66 d66
  have k69 := k_poDegree (l := []) (x := ⟨none, 0, 0⟩) d66 (pol_nil _ 1).raw (by omega) (by decide)
  with_reducible refine Post.mono k69 ?_
  clear k69
  rintro _ u67 g68 rfl
  refine sy_pure 35 (.v (.bool ((((Nt.trimQ []).length : Int) - 1) == (-1)))) ?_ (hw := wants1 (g := 15) (b := true) (t := 33) (by kernel_rfl) (by kernel_rfl) (by kernel_rfl))
  refine sy_pure 36 (.v (.bool ((((Nt.trimQ []).length : Int) - 1) == (-1)))) ?_
  refine sy_eq 37 (x := .v (.bool ((((Nt.trimQ []).length : Int) - 1) == (-1)))) (.v (.bool true)) (by rw [show ((((Nt.trimQ []).length : Int) - 1) == (-1)) = true from (by decide +kernel)]) ?_
  refine sy_ldv 41 (.v (r12.v)) ty26 part_agg ?_ (hw := wants1 (g := 19) (b := true) (t := 37) (by kernel_rfl) (by kernel_rfl) (by kernel_rfl))
  refine sy_ldv 46 (.v (r12.v)) ty26 part_agg ?_ (hw := wants1 (g := 19) (b := true) (t := 37) (by kernel_rfl) (by kernel_rfl) (by kernel_rfl))
  refine sy_call 38 29 [.int .i64 0] ?_ (hw := wants1 (g := 19) (b := true) (t := 37) (by kernel_rfl) (by kernel_rfl) (by kernel_rfl))
  intro w71 u71 e71 d71
  have k76 := k_rqOf d71 (z := 0) (by omega) (by omega)
  with_reducible refine Post.mono k76 ?_
  clear k76
  rintro _ u74 g75 ⟨r72, rfl, h73⟩
  refine sy_call 39 29 [.int .i64 0] ?_ (hw := wants1 (g := 19) (b := true) (t := 37) (by kernel_rfl) (by kernel_rfl) (by kernel_rfl))
  intro w77 u77 e77 d77
  have k82 := k_rqOf d77 (z := 0) (by omega) (by omega)
  with_reducible refine Post.mono k82 ?_
  clear k82
  rintro _ u80 g81 ⟨r78, rfl, h79⟩
  refine sy_call 40 29 [.int .i64 (-1)] ?_ (hw := wants1 (g := 19) (b := true) (t := 37) (by kernel_rfl) (by kernel_rfl) (by kernel_rfl))
  intro w83 u83 e83 d83
  have k88 := k_rqOf d83 (z := (-1)) (by omega) (by omega)
  with_reducible refine Post.mono k88 ?_
  clear k88
  rintro _ u86 g87 ⟨r84, rfl, h85⟩
  refine sy_lit 42 ⟨26, r72.cs ++ r78.cs ++ r84.cs ++ r12.cs⟩ 4 ?_ (hw := wants1 (g := 19) (b := true) (t := 37) (by kernel_rfl) (by kernel_rfl) (by kernel_rfl))
  refine sy_give 43 55 [.slc 42 0 4 4] [42] (.inr rfl) (pub_mk (by repeat first | exact noAt_of | refine noAt_set ?_ | refine noAt_lit ?_ | refine noAt_new ?_ | refine noAt_setVar ?_ | refine noAt_unpub ?_)) (k := ?_) (hw := wants1 (g := 19) (b := true) (t := 37) (by kernel_rfl) (by kernel_rfl) (by kernel_rfl))
  intro B89 w89 u89 e89 d89 v89
  have h91 : u89.heap[B89 42]? = some (.cells #[.bool r72.s, .slice r72.m.a r72.m.n r72.m.c, .slice r72.d.a r72.d.n r72.d.c, .bool r78.s, .slice r78.m.a r78.m.n r78.m.c, .slice r78.d.a r78.d.n r78.d.c, .bool r84.s, .slice r84.m.a r84.m.n r84.m.c, .slice r84.d.a r84.d.n r84.d.c, .bool r12.s, .slice r12.m.a r12.m.n r12.m.c, .slice r12.d.a r12.d.n r12.d.c] 26 (0, 0)) := v89 42 (by simp) _ rfl
  obtain ⟨b90, hBb90⟩ : ∃ b, B89 42 = b := ⟨_, rfl⟩
  rw [hBb90] at h91
  have hp92 : PolN u89 (⟨some ⟨b90, 0, none⟩, 4, 4⟩ : Sl) [((0 : Int) : Rat), ((0 : Int) : Rat), (((-1) : Int) : Rat), ((1 : Int) : Rat)] 2 := pol_lit (L := [r72, r78, r84, r12]) h91 (rats4 (h73.ext (e77.trans (g81.ext.trans (e83.trans (g87.ext.trans e89))))) (h79.ext (e83.trans (g87.ext.trans e89))) (h85.ext e89) (h13.ext (e17.trans (g21.ext.trans (e23.trans (g27.ext.trans (e29.trans (g33.ext.trans (e35.trans (g44.ext.trans (e50.trans (g55.ext.trans (e58.trans (g63.ext.trans (e66.trans (g68.ext.trans (e71.trans (g75.ext.trans (e77.trans (g81.ext.trans (e83.trans (g87.ext.trans e89)))))))))))))))))))))) rfl (by decide)
  show Calls _ _ #[.slice (some ⟨B89 42, 0, none⟩) 4 4] _ _
  rw [hBb90]
  have k99 := k_poSquarefree (l := [((0 : Int) : Rat), ((0 : Int) : Rat), (((-1) : Int) : Rat), ((1 : Int) : Rat)]) (A := 3) (H := 562) (N := 4) (C := 2818) d89 hp92.raw (Nt.Sm.prim ((show Nt.Sm [((0 : Int) : Rat), ((0 : Int) : Rat), (((-1) : Int) : Rat), ((1 : Int) : Rat)] 1 1 from Nt.Sm.ofInts (zs := [0, 0, -1, 1]) (by decide)).more (by decide))) (Nt.Sm.prim (((Nt.Sm.der (b := 2) (show Nt.Sm [((0 : Int) : Rat), ((0 : Int) : Rat), (((-1) : Int) : Rat), ((1 : Int) : Rat)] 1 1 from Nt.Sm.ofInts (zs := [0, 0, -1, 1]) (by decide)) (by decide)).trim).more (by decide))) (by decide +kernel) (by decide +kernel) (by decide +kernel) (by decide +kernel) (by decide +kernel) (by decide +kernel) (by decide +kernel) (by decide +kernel) (by decide +kernel)
  with_reducible refine Post.mono k99 ?_
  clear k99
  rintro _ u97 g98 ⟨z93, s94, rfl, hz95, hs96⟩
  have hlz93 := hz95.len
  have hqs94 := Nt.awake_sqf hs96
  have hns94 : s94.l.length = 3 := by rw [hqs94]; rfl
  refine sy_call 44 29 [.int .i64 0] ?_ (hw := wants1 (g := 19) (b := true) (t := 37) (by kernel_rfl) (by kernel_rfl) (by kernel_rfl))
  intro w100 u100 e100 d100
  have k105 := k_rqOf d100 (z := 0) (by omega) (by omega)
  with_reducible refine Post.mono k105 ?_
  clear k105
  rintro _ u103 g104 ⟨r101, rfl, h102⟩
  refine sy_call 45 29 [.int .i64 (-1)] ?_ (hw := wants1 (g := 19) (b := true) (t := 37) (by kernel_rfl) (by kernel_rfl) (by kernel_rfl))
  intro w106 u106 e106 d106
  have k111 := k_rqOf d106 (z := (-1)) (by omega) (by omega)
  with_reducible refine Post.mono k111 ?_
  clear k111
  rintro _ u109 g110 ⟨r107, rfl, h108⟩
  refine sy_lit 47 ⟨26, r101.cs ++ r107.cs ++ r12.cs⟩ 3 ?_ (hw := wants1 (g := 19) (b := true) (t := 37) (by kernel_rfl) (by kernel_rfl) (by kernel_rfl))
  refine sy_give 48 24 [.v (.slice z93.a z93.n z93.c), .slc 47 0 3 3] [47] (.inr rfl) (pub_mk (by repeat first | exact noAt_of | refine noAt_set ?_ | refine noAt_lit ?_ | refine noAt_new ?_ | refine noAt_setVar ?_ | refine noAt_unpub ?_)) (k := ?_) (hw := wants1 (g := 19) (b := true) (t := 37) (by kernel_rfl) (by kernel_rfl) (by kernel_rfl))
  intro B112 w112 u112 e112 d112 v112
  have h114 : u112.heap[B112 47]? = some (.cells #[.bool r101.s, .slice r101.m.a r101.m.n r101.m.c, .slice r101.d.a r101.d.n r101.d.c, .bool r107.s, .slice r107.m.a r107.m.n r107.m.c, .slice r107.d.a r107.d.n r107.d.c, .bool r12.s, .slice r12.m.a r12.m.n r12.m.c, .slice r12.d.a r12.d.n r12.d.c] 26 (0, 0)) := v112 47 (by simp) _ rfl
  obtain ⟨b113, hBb113⟩ : ∃ b, B112 47 = b := ⟨_, rfl⟩
  rw [hBb113] at h114
  have hp115 : PolN u112 (⟨some ⟨b113, 0, none⟩, 3, 3⟩ : Sl) [((0 : Int) : Rat), (((-1) : Int) : Rat), ((1 : Int) : Rat)] 2 := pol_lit (L := [r101, r107, r12]) h114 (rats3 (h102.ext (e106.trans (g110.ext.trans e112))) (h108.ext e112) (h13.ext (e17.trans (g21.ext.trans (e23.trans (g27.ext.trans (e29.trans (g33.ext.trans (e35.trans (g44.ext.trans (e50.trans (g55.ext.trans (e58.trans (g63.ext.trans (e66.trans (g68.ext.trans (e71.trans (g75.ext.trans (e77.trans (g81.ext.trans (e83.trans (g87.ext.trans (e89.trans (g98.ext.trans (e100.trans (g104.ext.trans (e106.trans (g110.ext.trans e112)))))))))))))))))))))))))))) rfl (by decide)
  show Calls _ _ #[.slice z93.a z93.n z93.c, .slice (some ⟨B112 47, 0, none⟩) 3 3] _ _
  rw [hBb113]
  have k118 := k_r5Equal d112 (hz95.ext (e100.trans (g104.ext.trans (e106.trans (g110.ext.trans e112))))) hp115 (by first | omega | (simp; omega) | (refine Nat.le_trans (Nt.trim_len _) ?_; first | omega | (simp; omega)) | (refine Nat.le_trans (Nt.trim_len _) ?_; simp only [List.length_map]; refine Nat.le_trans (Nt.trim_len _) ?_; first | omega | (simp; omega))) (by simp)
  with_reducible refine Post.mono k118 ?_
  clear k118
  rintro _ u116 g117 rfl
  refine sy_pure 49 (.v (.bool (decide (s94.l = [((0 : Int) : Rat), (((-1) : Int) : Rat), ((1 : Int) : Rat)])))) ?_
  refine sy_pure 0 (.v (.bool (decide (s94.l = [((0 : Int) : Rat), (((-1) : Int) : Rat), ((1 : Int) : Rat)])))) ?_
  refine sy_next 50 [(0, .v (.bool (decide (s94.l = [((0 : Int) : Rat), (((-1) : Int) : Rat), ((1 : Int) : Rat)]))))] [] ?_
  refine sw_ret (ret0 [.bool (decide (s94.l = [((0 : Int) : Rat), (((-1) : Int) : Rat), ((1 : Int) : Rat)]))] ⟨res_tmp, trivial⟩ fun u119 e120 => ?_)
  show Value.bool _ = Value.bool _
  rw [show (decide (s94.l = [((0 : Int) : Rat), (((-1) : Int) : Rat), ((1 : Int) : Rat)])) = true from (decide_eq_true (Nt.awake_sqf hs96))]
end Go.Proofs.Ytnedhbidmfoegaa
namespace Go.Proofs.Ytnedhbidmfoegaa
open Go.RowKit
set_option linter.unusedVariables false
theorem wf_u8 {z : Int} (h : (Lit.int .u8 z).wf = true) : 0 ≤ z ∧ z < 256 := by
  simp [Lit.wf, IntKind.min, IntKind.max, IntKind.bits, IntKind.signed] at h
  omega
set_option maxHeartbeats 8000000 in
theorem w_calculus {u w : World} {x : Sl} {l : List Int} {y : Sl} {m : List Int} (d : Dat u w) (hx : SlR .i64 u x.a x.n x.c l) (hb : ∀ z ∈ l, -9223372036854775808 ≤ z ∧ z ≤ 9223372036854775807) (hy : SlR .i64 u y.a y.n y.c m) (hc : ∀ z ∈ m, -9223372036854775808 ≤ z ∧ z ≤ 9223372036854775807) {e : Int} (hk : (Lit.int .u8 e).wf = true) : Calls Try.prog 6 #[x.v, y.v, .int .u8 e] w (Post u w fun v _ => v = .bool true) := by
  have hk9 : 0 ≤ e ∧ e < 256 := wf_u8 hk
  obtain ⟨n, hn⟩ : ∃ n : Nat, (n : Int) = e % 4 := ⟨(e % 4).toNat, by omega⟩
  have hn3 : n ≤ 3 := by omega
  have hD1 : 840 ^ (n + 1) ≤ 2 ^ 40 := Nat.le_trans (Nat.pow_le_pow_right (by decide) (show n + 1 ≤ 4 by omega)) (by decide)
  have hD0 : 840 ^ n ≤ 2 ^ 30 := Nat.le_trans (Nat.pow_le_pow_right (by decide) hn3) (by decide)
  refine calls_sym (args := [.slice x.a x.n x.c, .slice y.a y.n y.c, .int .u8 e]) Try.func6 rfl Try.ntmps6 (rs := [.tmp 6]) Try.results6 (le_b rfl) (le_b rfl) d ?_
  refine sw_seq ?_
  refine sw_reg ?_
  refine sy_pure 6 (.v (.bool false)) ?_
  refine sy_next 74 [(0, .v (.slice x.a x.n x.c)), (1, .v (.slice y.a y.n y.c)), (2, .v (.int .u8 e))] [] ?_
  refine sw_seq ?_
  refine sw_reg ?_
  refine sy_pure 15 (.v (.slice x.a x.n x.c)) ?_
  refine sy_call 16 19 [.slice x.a x.n x.c, .int .i64 5] ?_
  intro w11 u11 e11 d11
  have k17 := (show Calls _ _ #[.slice x.a x.n x.c, .int .i64 5] _ _ from k_mkPoly (D := 5) d11 (hx.ext e11) hb (by decide))
  with_reducible refine Post.mono k17 ?_
  clear k17
  rintro _ u15 g16 ⟨y12, rfl, h13⟩
  have hly12 := h13.len
  have hm14 : (Nt.mkP l 5).length ≤ 6 := Nt.mkP_len l 5
  refine sy_pure 17 (.v (.slice y.a y.n y.c)) ?_
  refine sy_call 18 19 [.slice y.a y.n y.c, .int .i64 4] ?_
  intro w18 u18 e18 d18
  have k24 := (show Calls _ _ #[.slice y.a y.n y.c, .int .i64 4] _ _ from k_mkPoly (D := 4) d18 (hy.ext (e11.trans (g16.ext.trans e18))) hc (by decide))
  with_reducible refine Post.mono k24 ?_
  clear k24
  rintro _ u22 g23 ⟨y19, rfl, h20⟩
  have hly19 := h20.len
  have hm21 : (Nt.mkP m 4).length ≤ 5 := Nt.mkP_len m 4
  refine sy_pure 7 (.v (.slice y12.a y12.n y12.c)) ?_
  refine sy_pure 8 (.v (.slice y19.a y19.n y19.c)) ?_
  refine sy_next 74 [(2, .v (.int .u8 e)), (7, .v (.slice y12.a y12.n y12.c)), (8, .v (.slice y19.a y19.n y19.c))] [] ?_
  refine sw_seq ?_
  refine sw_reg ?_
  refine sy_pure 19 (.v (.int .u8 e)) ?_
  refine sy_conv 20 e (fun w => by kernel_rfl) (IntWalk.i64_in _ (by omega)) ?_
  refine sy_rem 21 (k := .i64) (n := e) (m := 4) (n : Int) (by decide) (by rw [Int.tmod_eq_emod_of_nonneg (by omega)]; omega) ?_
  refine sy_eq 22 (x := .v (.int .i64 (IntKind.i64.wrap ((1 : Int) + (n : Int))))) (.v (.int .i64 ((n + 1 : Nat) : Int))) (eqI (by rw [IntWalk.i64_in _ (by omega)]; omega)) ?_
  refine sy_pure 9 (.v (.int .i64 ((n + 1 : Nat) : Int))) ?_
  refine sy_next 74 [(7, .v (.slice y12.a y12.n y12.c)), (8, .v (.slice y19.a y19.n y19.c)), (9, .v (.int .i64 ((n + 1 : Nat) : Int)))] [] ?_
  refine sw_seq ?_
  refine sw_reg ?_
  refine sy_pure 24 (.v (.slice y19.a y19.n y19.c)) ?_
  refine sy_pure 25 (.v (.int .i64 ((n + 1 : Nat) : Int))) ?_
  refine sy_call 26 26 [.slice y19.a y19.n y19.c, .int .i64 ((n + 1 : Nat) : Int)] ?_
  intro w25 u25 e25 d25
  have k30 := k_poPow (n := (n + 1)) d25 (h20.ext e25).raw (Nt.mkP_sm m 4) (by decide) (by omega) (show (n + 1) ≤ 4 by omega) (by decide) (by decide)
  with_reducible refine Post.mono k30 ?_
  clear k30
  rintro _ u28 g29 ⟨y26, rfl, h27⟩
  have hly26 := h27.len
  have hk31 : PolN _ y26 (Nt.Pol.npow (Nt.Pol.mk' (Nt.mkP m 4)) (n + 1)).l 3 := PolN.more h27 (Nat.le_trans (Nt.dg_mono (Nat.mul_le_mul_right _ (show (n + 1) ≤ 4 by omega))) (by decide))
  have hm32 : (Nt.Pol.npow (Nt.Pol.mk' (Nt.mkP m 4)) (n + 1)).l.length ≤ 21 := by have h9 := Nt.Pol.npow_len (Nt.Pol.mk' (Nt.mkP m 4)) (n + 1); have h8 : (n + 1) * (Nt.Pol.mk' (Nt.mkP m 4)).len ≤ 4 * 5 := Nat.mul_le_mul (show (n + 1) ≤ 4 by omega) (Nat.le_trans (Nt.mk_len _) hm21); unfold Nt.Pol.len at h9; unfold Nt.Pol.len at h8; omega
  refine sy_pure 23 (.v (.tuple #[.slice y26.a y26.n y26.c, .int .i64 0])) ?_
  refine sy_pure 27 (.v (.slice y26.a y26.n y26.c)) ?_
  refine sy_pure 28 (.v (.int .i64 0)) ?_
  refine sy_pure 10 (.v (.slice y26.a y26.n y26.c)) ?_
  refine sy_pure 11 (.v (.int .i64 0)) ?_
  refine sy_next 74 [(7, .v (.slice y12.a y12.n y12.c)), (8, .v (.slice y19.a y19.n y19.c)), (9, .v (.int .i64 ((n + 1 : Nat) : Int))), (10, .v (.slice y26.a y26.n y26.c)), (11, .v (.int .i64 0))] [] ?_
  refine sw_seq ?_
  refine sw_reg ?_
  refine sy_pure 30 (.v (.slice y19.a y19.n y19.c)) ?_
  refine sy_pure 31 (.v (.int .i64 ((n + 1 : Nat) : Int))) ?_
  refine sy_eq 32 (x := .v (.int .i64 (IntKind.i64.wrap (((n + 1 : Nat) : Int) - 1)))) (.v (.int .i64 (n : Int))) (eqI (by rw [IntWalk.i64_in _ (by omega)]; omega)) ?_
  refine sy_call 33 26 [.slice y19.a y19.n y19.c, .int .i64 (n : Int)] ?_
  intro w34 u34 e34 d34
  have k39 := k_poPow (n := n) d34 (h20.ext (e25.trans (g29.ext.trans e34))).raw (Nt.mkP_sm m 4) (by decide) (by omega) (show n ≤ 4 by omega) (by decide) (by decide)
  with_reducible refine Post.mono k39 ?_
  clear k39
  rintro _ u37 g38 ⟨y35, rfl, h36⟩
  have hly35 := h36.len
  have hk40 : PolN _ y35 (Nt.Pol.npow (Nt.Pol.mk' (Nt.mkP m 4)) n).l 3 := PolN.more h36 (Nat.le_trans (Nt.dg_mono (Nat.mul_le_mul_right _ (show n ≤ 4 by omega))) (by decide))
  have hm41 : (Nt.Pol.npow (Nt.Pol.mk' (Nt.mkP m 4)) n).l.length ≤ 21 := by have h9 := Nt.Pol.npow_len (Nt.Pol.mk' (Nt.mkP m 4)) n; have h8 : n * (Nt.Pol.mk' (Nt.mkP m 4)).len ≤ 4 * 5 := Nat.mul_le_mul (show n ≤ 4 by omega) (Nat.le_trans (Nt.mk_len _) hm21); unfold Nt.Pol.len at h9; unfold Nt.Pol.len at h8; omega
  refine sy_pure 29 (.v (.tuple #[.slice y35.a y35.n y35.c, .int .i64 0])) ?_
  refine sy_pure 34 (.v (.slice y35.a y35.n y35.c)) ?_
  refine sy_pure 35 (.v (.int .i64 0)) ?_
  refine sy_pure 12 (.v (.slice y35.a y35.n y35.c)) ?_
  refine sy_pure 13 (.v (.int .i64 0)) ?_
  refine sy_next 74 [(7, .v (.slice y12.a y12.n y12.c)), (8, .v (.slice y19.a y19.n y19.c)), (9, .v (.int .i64 ((n + 1 : Nat) : Int))), (10, .v (.slice y26.a y26.n y26.c)), (11, .v (.int .i64 0)), (12, .v (.slice y35.a y35.n y35.c)), (13, .v (.int .i64 0))] [] ?_
  refine sw_seq ?_
  refine sw_reg ?_
  refine sy_pure 36 (.v (.slice y12.a y12.n y12.c)) ?_
  refine sy_call 37 27 [.slice y12.a y12.n y12.c] ?_
  intro w43 u43 e43 d43
  have k48 := k_poDerivative d43 (h13.ext (e18.trans (g23.ext.trans (e25.trans (g29.ext.trans (e34.trans (g38.ext.trans e43))))))).raw (by omega) (by have h9 := hm14; omega)
  with_reducible refine Post.mono k48 ?_
  clear k48
  rintro _ u46 g47 ⟨y44, rfl, h45⟩
  have hly44 := h45.len
  have hm49 : (Nt.trimQ (Nt.derQ (Nt.mkP l 5))).length ≤ 5 := Nt.der_lenQ hm14
  have hs50 : Nt.Sm (Nt.trimQ (Nt.derQ (Nt.mkP l 5))) (840) 17 := ((Nt.Sm.der (b := 3) (Nt.mkP_sm l 5) (Nat.le_trans hm14 (by decide))).trim)
  have hk51 : PolN _ y44 (Nt.trimQ (Nt.derQ (Nt.mkP l 5))) 1 := PolN.fitS h45 hs50 (by first | decide +kernel | exact Nat.le_trans hD1 (by decide) | exact Nat.le_trans (Nat.mul_le_mul_right _ hD0) (by decide))
  refine sy_pure 38 (.v (.slice y19.a y19.n y19.c)) ?_
  refine sy_call 39 22 [.slice y44.a y44.n y44.c, .slice y19.a y19.n y19.c] ?_
  intro w52 u52 e52 d52
  have k57 := k_poMul d52 (hk51.ext e52).raw (h20.ext (e25.trans (g29.ext.trans (e34.trans (g38.ext.trans (e43.trans (g47.ext.trans e52))))))).raw (Nat.le_trans (Nt.mlK_mono hm49 hm21 (Nat.le_refl _) (Nat.le_refl _)) (by decide +kernel)) (by have h9 := hm49; omega) (by have h9 := hm21; omega) (by have h9 := hm49; omega) (by have h9 := hm21; omega)
  with_reducible refine Post.mono k57 ?_
  clear k57
  rintro _ u55 g56 ⟨y53, rfl, h54⟩
  have hly53 := h54.len
  have hm58 : (Nt.trimQ (Nt.mulQ (Nt.trimQ (Nt.derQ (Nt.mkP l 5))) (Nt.mkP m 4))).length ≤ 9 := Nt.mul_lenQ hm49 hm21
  have hs59 : Nt.Sm (Nt.trimQ (Nt.mulQ (Nt.trimQ (Nt.derQ (Nt.mkP l 5))) (Nt.mkP m 4))) ((840) * 840) 36 := ((Nt.Sm.mulR hs50 (Nt.mkP_sm m 4)).trim.more (by omega))
  have hk60 : PolN _ y53 (Nt.trimQ (Nt.mulQ (Nt.trimQ (Nt.derQ (Nt.mkP l 5))) (Nt.mkP m 4))) 2 := PolN.fitS h54 hs59 (by first | decide +kernel | exact Nat.le_trans hD1 (by decide) | exact Nat.le_trans (Nat.mul_le_mul_right _ hD0) (by decide))
  refine sy_pure 40 (.v (.slice y12.a y12.n y12.c)) ?_
  refine sy_pure 41 (.v (.slice y19.a y19.n y19.c)) ?_
  refine sy_call 42 27 [.slice y19.a y19.n y19.c] ?_
  intro w61 u61 e61 d61
  have k66 := k_poDerivative d61 (h20.ext (e25.trans (g29.ext.trans (e34.trans (g38.ext.trans (e43.trans (g47.ext.trans (e52.trans (g56.ext.trans e61))))))))).raw (by omega) (by have h9 := hm21; omega)
  with_reducible refine Post.mono k66 ?_
  clear k66
  rintro _ u64 g65 ⟨y62, rfl, h63⟩
  have hly62 := h63.len
  have hm67 : (Nt.trimQ (Nt.derQ (Nt.mkP m 4))).length ≤ 4 := Nt.der_lenQ hm21
  have hs68 : Nt.Sm (Nt.trimQ (Nt.derQ (Nt.mkP m 4))) (840) 17 := ((Nt.Sm.der (b := 3) (Nt.mkP_sm m 4) (Nat.le_trans hm21 (by decide))).trim)
  have hk69 : PolN _ y62 (Nt.trimQ (Nt.derQ (Nt.mkP m 4))) 1 := PolN.fitS h63 hs68 (by first | decide +kernel | exact Nat.le_trans hD1 (by decide) | exact Nat.le_trans (Nat.mul_le_mul_right _ hD0) (by decide))
  refine sy_call 43 22 [.slice y12.a y12.n y12.c, .slice y62.a y62.n y62.c] ?_
  intro w70 u70 e70 d70
  have k75 := k_poMul d70 (h13.ext (e18.trans (g23.ext.trans (e25.trans (g29.ext.trans (e34.trans (g38.ext.trans (e43.trans (g47.ext.trans (e52.trans (g56.ext.trans (e61.trans (g65.ext.trans e70))))))))))))).raw (hk69.ext e70).raw (Nat.le_trans (Nt.mlK_mono hm14 hm67 (Nat.le_refl _) (Nat.le_refl _)) (by decide +kernel)) (by have h9 := hm14; omega) (by have h9 := hm67; omega) (by have h9 := hm14; omega) (by have h9 := hm67; omega)
  with_reducible refine Post.mono k75 ?_
  clear k75
  rintro _ u73 g74 ⟨y71, rfl, h72⟩
  have hly71 := h72.len
  have hm76 : (Nt.trimQ (Nt.mulQ (Nt.mkP l 5) (Nt.trimQ (Nt.derQ (Nt.mkP m 4))))).length ≤ 9 := Nt.mul_lenQ hm14 hm67
  have hs77 : Nt.Sm (Nt.trimQ (Nt.mulQ (Nt.mkP l 5) (Nt.trimQ (Nt.derQ (Nt.mkP m 4))))) (840 * (840)) 35 := ((Nt.Sm.mulR (Nt.mkP_sm l 5) hs68).trim.more (by omega))
  have hk78 : PolN _ y71 (Nt.trimQ (Nt.mulQ (Nt.mkP l 5) (Nt.trimQ (Nt.derQ (Nt.mkP m 4))))) 2 := PolN.fitS h72 hs77 (by first | decide +kernel | exact Nat.le_trans hD1 (by decide) | exact Nat.le_trans (Nat.mul_le_mul_right _ hD0) (by decide))
  refine sy_call 44 25 [.slice y53.a y53.n y53.c, .slice y71.a y71.n y71.c] ?_
  intro w79 u79 e79 d79
  have k84 := k_poAdd d79 (hk60.ext (e61.trans (g65.ext.trans (e70.trans (g74.ext.trans e79))))).raw (hk78.ext e79).raw (by omega) (by omega) (by have h9 := hm58; omega) (by have h9 := hm76; omega)
  with_reducible refine Post.mono k84 ?_
  clear k84
  rintro _ u82 g83 ⟨y80, rfl, h81⟩
  have hly80 := h81.len
  have hm85 : (Nt.trimQ (Nt.addQ (Nt.trimQ (Nt.mulQ (Nt.trimQ (Nt.derQ (Nt.mkP l 5))) (Nt.mkP m 4))) (Nt.trimQ (Nt.mulQ (Nt.mkP l 5) (Nt.trimQ (Nt.derQ (Nt.mkP m 4))))))).length ≤ 9 := Nt.add_lenQ hm58 hm76
  have hk86 : PolN _ y80 (Nt.trimQ (Nt.addQ (Nt.trimQ (Nt.mulQ (Nt.trimQ (Nt.derQ (Nt.mkP l 5))) (Nt.mkP m 4))) (Nt.trimQ (Nt.mulQ (Nt.mkP l 5) (Nt.trimQ (Nt.derQ (Nt.mkP m 4))))))) 5 := PolN.more h81 (by omega)
  refine sy_pure 14 (.v (.slice y80.a y80.n y80.c)) ?_
  refine sy_next 74 [(7, .v (.slice y12.a y12.n y12.c)), (8, .v (.slice y19.a y19.n y19.c)), (9, .v (.int .i64 ((n + 1 : Nat) : Int))), (10, .v (.slice y26.a y26.n y26.c)), (11, .v (.int .i64 0)), (12, .v (.slice y35.a y35.n y35.c)), (13, .v (.int .i64 0)), (14, .v (.slice y80.a y80.n y80.c))] [] ?_
  refine sw_seq ?_
  refine sw_reg ?_
  refine sy_call 45 21 [] ?_
  intro w87 u87 e87 d87
  have k90 := k_awake5 d87
  with_reducible refine Post.mono k90 ?_
  clear k90
  rintro _ u88 g89 rfl
  refine sy_pure 46 (.v (.bool true)) ?_
  refine sy_pure 47 (.v (.int .i64 0)) ?_ (hw := wants1 (g := 1) (b := true) (t := 46) (by kernel_rfl) (by kernel_rfl) (by kernel_rfl))
  refine sy_pure 48 (.v (.bool true)) ?_ (hw := wants1 (g := 1) (b := true) (t := 46) (by kernel_rfl) (by kernel_rfl) (by kernel_rfl))
  refine sy_pure 49 (.v (.bool true)) ?_
  refine sy_pure 50 (.v (.bool true)) ?_
  refine sy_pure 51 (.v (.int .i64 0)) ?_ (hw := wants1 (g := 5) (b := true) (t := 50) (by kernel_rfl) (by kernel_rfl) (by kernel_rfl))
  refine sy_pure 52 (.v (.bool true)) ?_ (hw := wants1 (g := 5) (b := true) (t := 50) (by kernel_rfl) (by kernel_rfl) (by kernel_rfl))
  refine sy_pure 53 (.v (.bool true)) ?_
  refine sy_pure 54 (.v (.bool true)) ?_
  refine sy_pure 55 (.v (.slice y12.a y12.n y12.c)) ?_ (hw := wants1 (g := 9) (b := true) (t := 54) (by kernel_rfl) (by kernel_rfl) (by kernel_rfl))
  refine sy_pure 56 (.v (.slice y19.a y19.n y19.c)) ?_ (hw := wants1 (g := 9) (b := true) (t := 54) (by kernel_rfl) (by kernel_rfl) (by kernel_rfl))
  refine sy_call 57 22 [.slice y12.a y12.n y12.c, .slice y19.a y19.n y19.c] ?_ (hw := wants1 (g := 9) (b := true) (t := 54) (by kernel_rfl) (by kernel_rfl) (by kernel_rfl))
  intro w91 u91 e91 d91
  have k96 := k_poMul d91 (h13.ext (e18.trans (g23.ext.trans (e25.trans (g29.ext.trans (e34.trans (g38.ext.trans (e43.trans (g47.ext.trans (e52.trans (g56.ext.trans (e61.trans (g65.ext.trans (e70.trans (g74.ext.trans (e79.trans (g83.ext.trans (e87.trans (g89.ext.trans e91))))))))))))))))))).raw (h20.ext (e25.trans (g29.ext.trans (e34.trans (g38.ext.trans (e43.trans (g47.ext.trans (e52.trans (g56.ext.trans (e61.trans (g65.ext.trans (e70.trans (g74.ext.trans (e79.trans (g83.ext.trans (e87.trans (g89.ext.trans e91))))))))))))))))).raw (Nat.le_trans (Nt.mlK_mono hm14 hm21 (Nat.le_refl _) (Nat.le_refl _)) (by decide +kernel)) (by have h9 := hm14; omega) (by have h9 := hm21; omega) (by have h9 := hm14; omega) (by have h9 := hm21; omega)
  with_reducible refine Post.mono k96 ?_
  clear k96
  rintro _ u94 g95 ⟨y92, rfl, h93⟩
  have hly92 := h93.len
  have hm97 : (Nt.trimQ (Nt.mulQ (Nt.mkP l 5) (Nt.mkP m 4))).length ≤ 10 := Nt.mul_lenQ hm14 hm21
  have hs98 : Nt.Sm (Nt.trimQ (Nt.mulQ (Nt.mkP l 5) (Nt.mkP m 4))) (840 * 840) 33 := ((Nt.Sm.mulR (Nt.mkP_sm l 5) (Nt.mkP_sm m 4)).trim.more (by omega))
  have hk99 : PolN _ y92 (Nt.trimQ (Nt.mulQ (Nt.mkP l 5) (Nt.mkP m 4))) 2 := PolN.fitS h93 hs98 (by first | decide +kernel | exact Nat.le_trans hD1 (by decide) | exact Nat.le_trans (Nat.mul_le_mul_right _ hD0) (by decide))
  refine sy_call 58 27 [.slice y92.a y92.n y92.c] ?_ (hw := wants1 (g := 9) (b := true) (t := 54) (by kernel_rfl) (by kernel_rfl) (by kernel_rfl))
  intro w100 u100 e100 d100
  have k105 := k_poDerivative d100 (hk99.ext e100).raw (by omega) (by have h9 := hm97; omega)
  with_reducible refine Post.mono k105 ?_
  clear k105
  rintro _ u103 g104 ⟨y101, rfl, h102⟩
  have hly101 := h102.len
  have hm106 : (Nt.trimQ (Nt.derQ (Nt.trimQ (Nt.mulQ (Nt.mkP l 5) (Nt.mkP m 4))))).length ≤ 9 := Nt.der_lenQ hm97
  have hs107 : Nt.Sm (Nt.trimQ (Nt.derQ (Nt.trimQ (Nt.mulQ (Nt.mkP l 5) (Nt.mkP m 4))))) ((840 * 840)) 37 := ((Nt.Sm.der (b := 4) hs98 (Nat.le_trans hm97 (by decide))).trim)
  have hk108 : PolN _ y101 (Nt.trimQ (Nt.derQ (Nt.trimQ (Nt.mulQ (Nt.mkP l 5) (Nt.mkP m 4))))) 2 := PolN.fitS h102 hs107 (by first | decide +kernel | exact Nat.le_trans hD1 (by decide) | exact Nat.le_trans (Nat.mul_le_mul_right _ hD0) (by decide))
  refine sy_pure 59 (.v (.slice y80.a y80.n y80.c)) ?_ (hw := wants1 (g := 9) (b := true) (t := 54) (by kernel_rfl) (by kernel_rfl) (by kernel_rfl))
  refine sy_call 60 24 [.slice y101.a y101.n y101.c, .slice y80.a y80.n y80.c] ?_ (hw := wants1 (g := 9) (b := true) (t := 54) (by kernel_rfl) (by kernel_rfl) (by kernel_rfl))
  intro w109 u109 e109 d109
  have k112 := k_r5Equal d109 (hk108.ext e109) (hk86.ext (e87.trans (g89.ext.trans (e91.trans (g95.ext.trans (e100.trans (g104.ext.trans e109))))))) (by first | omega | (simp; omega) | (refine Nat.le_trans (Nt.trim_len _) ?_; first | omega | (simp; omega)) | (refine Nat.le_trans (Nt.trim_len _) ?_; simp only [List.length_map]; refine Nat.le_trans (Nt.trim_len _) ?_; first | omega | (simp; omega))) (by first | omega | (simp; omega) | (refine Nat.le_trans (Nt.trim_len _) ?_; first | omega | (simp; omega)) | (refine Nat.le_trans (Nt.trim_len _) ?_; simp only [List.length_map]; refine Nat.le_trans (Nt.trim_len _) ?_; first | omega | (simp; omega)))
  with_reducible refine Post.mono k112 ?_
  clear k112
  rintro _ u110 g111 rfl
  refine sy_pure 61 (.v (.bool (decide ((Nt.trimQ (Nt.derQ (Nt.trimQ (Nt.mulQ (Nt.mkP l 5) (Nt.mkP m 4))))) = (Nt.trimQ (Nt.addQ (Nt.trimQ (Nt.mulQ (Nt.trimQ (Nt.derQ (Nt.mkP l 5))) (Nt.mkP m 4))) (Nt.trimQ (Nt.mulQ (Nt.mkP l 5) (Nt.trimQ (Nt.derQ (Nt.mkP m 4))))))))))) ?_
  refine sy_eq 62 (x := .v (.bool (decide ((Nt.trimQ (Nt.derQ (Nt.trimQ (Nt.mulQ (Nt.mkP l 5) (Nt.mkP m 4))))) = (Nt.trimQ (Nt.addQ (Nt.trimQ (Nt.mulQ (Nt.trimQ (Nt.derQ (Nt.mkP l 5))) (Nt.mkP m 4))) (Nt.trimQ (Nt.mulQ (Nt.mkP l 5) (Nt.trimQ (Nt.derQ (Nt.mkP m 4))))))))))) (.v (.bool true)) (by rw [show (decide ((Nt.trimQ (Nt.derQ (Nt.trimQ (Nt.mulQ (Nt.mkP l 5) (Nt.mkP m 4))))) = (Nt.trimQ (Nt.addQ (Nt.trimQ (Nt.mulQ (Nt.trimQ (Nt.derQ (Nt.mkP l 5))) (Nt.mkP m 4))) (Nt.trimQ (Nt.mulQ (Nt.mkP l 5) (Nt.trimQ (Nt.derQ (Nt.mkP m 4))))))))) = true from decide_eq_true (Nt.product_rule (Nt.mkP l 5) (Nt.mkP m 4))]) ?_
  refine sy_pure 63 (.v (.slice y26.a y26.n y26.c)) ?_ (hw := wants1 (g := 17) (b := true) (t := 62) (by kernel_rfl) (by kernel_rfl) (by kernel_rfl))
  refine sy_call 64 27 [.slice y26.a y26.n y26.c] ?_ (hw := wants1 (g := 17) (b := true) (t := 62) (by kernel_rfl) (by kernel_rfl) (by kernel_rfl))
  intro w114 u114 e114 d114
  have k119 := k_poDerivative d114 (hk31.ext (e34.trans (g38.ext.trans (e43.trans (g47.ext.trans (e52.trans (g56.ext.trans (e61.trans (g65.ext.trans (e70.trans (g74.ext.trans (e79.trans (g83.ext.trans (e87.trans (g89.ext.trans (e91.trans (g95.ext.trans (e100.trans (g104.ext.trans (e109.trans (g111.ext.trans e114))))))))))))))))))))).raw (by omega) (by have h9 := hm32; omega)
  with_reducible refine Post.mono k119 ?_
  clear k119
  rintro _ u117 g118 ⟨y115, rfl, h116⟩
  have hly115 := h116.len
  have hm120 : (Nt.trimQ (Nt.derQ (Nt.Pol.npow (Nt.Pol.mk' (Nt.mkP m 4)) (n + 1)).l)).length ≤ 20 := Nt.der_lenQ hm32
  have hs121 : Nt.Sm (Nt.trimQ (Nt.derQ (Nt.Pol.npow (Nt.Pol.mk' (Nt.mkP m 4)) (n + 1)).l)) (840 ^ (n + 1)) 93 := ((Nt.Sm.der (b := 5) ((Nt.Sm.npow (Nt.mkP_sm m 4) (n + 1)).more (Nat.mul_le_mul (show (n + 1) ≤ 4 by omega) (Nat.add_le_add_left (show _ ≤ 8 by omega) _))) (Nat.le_trans hm32 (by decide))).trim)
  have hk122 : PolN _ y115 (Nt.trimQ (Nt.derQ (Nt.Pol.npow (Nt.Pol.mk' (Nt.mkP m 4)) (n + 1)).l)) 3 := PolN.fitS h116 hs121 (by first | decide +kernel | exact Nat.le_trans hD1 (by decide) | exact Nat.le_trans (Nat.mul_le_mul_right _ hD0) (by decide))
  refine sy_pure 65 (.v (.slice y35.a y35.n y35.c)) ?_ (hw := wants1 (g := 17) (b := true) (t := 62) (by kernel_rfl) (by kernel_rfl) (by kernel_rfl))
  refine sy_pure 66 (.v (.slice y19.a y19.n y19.c)) ?_ (hw := wants1 (g := 17) (b := true) (t := 62) (by kernel_rfl) (by kernel_rfl) (by kernel_rfl))
  refine sy_call 67 27 [.slice y19.a y19.n y19.c] ?_ (hw := wants1 (g := 17) (b := true) (t := 62) (by kernel_rfl) (by kernel_rfl) (by kernel_rfl))
  intro w123 u123 e123 d123
  have k128 := k_poDerivative d123 (h20.ext (e25.trans (g29.ext.trans (e34.trans (g38.ext.trans (e43.trans (g47.ext.trans (e52.trans (g56.ext.trans (e61.trans (g65.ext.trans (e70.trans (g74.ext.trans (e79.trans (g83.ext.trans (e87.trans (g89.ext.trans (e91.trans (g95.ext.trans (e100.trans (g104.ext.trans (e109.trans (g111.ext.trans (e114.trans (g118.ext.trans e123))))))))))))))))))))))))).raw (by omega) (by have h9 := hm21; omega)
  with_reducible refine Post.mono k128 ?_
  clear k128
  rintro _ u126 g127 ⟨y124, rfl, h125⟩
  have hly124 := h125.len
  have hm129 : (Nt.trimQ (Nt.derQ (Nt.mkP m 4))).length ≤ 4 := Nt.der_lenQ hm21
  have hs130 : Nt.Sm (Nt.trimQ (Nt.derQ (Nt.mkP m 4))) (840) 17 := ((Nt.Sm.der (b := 3) (Nt.mkP_sm m 4) (Nat.le_trans hm21 (by decide))).trim)
  have hk131 : PolN _ y124 (Nt.trimQ (Nt.derQ (Nt.mkP m 4))) 1 := PolN.fitS h125 hs130 (by first | decide +kernel | exact Nat.le_trans hD1 (by decide) | exact Nat.le_trans (Nat.mul_le_mul_right _ hD0) (by decide))
  refine sy_call 68 22 [.slice y35.a y35.n y35.c, .slice y124.a y124.n y124.c] ?_ (hw := wants1 (g := 17) (b := true) (t := 62) (by kernel_rfl) (by kernel_rfl) (by kernel_rfl))
  intro w132 u132 e132 d132
  have k137 := k_poMul d132 (hk40.ext (e43.trans (g47.ext.trans (e52.trans (g56.ext.trans (e61.trans (g65.ext.trans (e70.trans (g74.ext.trans (e79.trans (g83.ext.trans (e87.trans (g89.ext.trans (e91.trans (g95.ext.trans (e100.trans (g104.ext.trans (e109.trans (g111.ext.trans (e114.trans (g118.ext.trans (e123.trans (g127.ext.trans e132))))))))))))))))))))))).raw (hk131.ext e132).raw (Nat.le_trans (Nt.mlK_mono hm41 hm129 (Nat.le_refl _) (Nat.le_refl _)) (by decide +kernel)) (by have h9 := hm41; omega) (by have h9 := hm129; omega) (by have h9 := hm41; omega) (by have h9 := hm129; omega)
  with_reducible refine Post.mono k137 ?_
  clear k137
  rintro _ u135 g136 ⟨y133, rfl, h134⟩
  have hly133 := h134.len
  have hm138 : (Nt.trimQ (Nt.mulQ (Nt.Pol.npow (Nt.Pol.mk' (Nt.mkP m 4)) n).l (Nt.trimQ (Nt.derQ (Nt.mkP m 4))))).length ≤ 24 := Nt.mul_lenQ hm41 hm129
  have hs139 : Nt.Sm (Nt.trimQ (Nt.mulQ (Nt.Pol.npow (Nt.Pol.mk' (Nt.mkP m 4)) n).l (Nt.trimQ (Nt.derQ (Nt.mkP m 4))))) (840 ^ n * (840)) 109 := ((Nt.Sm.mulR ((Nt.Sm.npow (Nt.mkP_sm m 4) n).more (Nat.mul_le_mul (show n ≤ 4 by omega) (Nat.add_le_add_left (show _ ≤ 8 by omega) _))) hs130).trim.more (by omega))
  have hk140 : PolN _ y133 (Nt.trimQ (Nt.mulQ (Nt.Pol.npow (Nt.Pol.mk' (Nt.mkP m 4)) n).l (Nt.trimQ (Nt.derQ (Nt.mkP m 4))))) 4 := PolN.fitS h134 hs139 (by first | decide +kernel | exact Nat.le_trans hD1 (by decide) | exact Nat.le_trans (Nat.mul_le_mul_right _ hD0) (by decide))
  refine sy_pure 69 (.v (.int .i64 ((n + 1 : Nat) : Int))) ?_ (hw := wants1 (g := 17) (b := true) (t := 62) (by kernel_rfl) (by kernel_rfl) (by kernel_rfl))
  refine sy_call 70 29 [.int .i64 ((n + 1 : Nat) : Int)] ?_ (hw := wants1 (g := 17) (b := true) (t := 62) (by kernel_rfl) (by kernel_rfl) (by kernel_rfl))
  intro w141 u141 e141 d141
  have k146 := k_rqOf d141 (z := ((n + 1 : Nat) : Int)) (by omega) (by omega)
  with_reducible refine Post.mono k146 ?_
  clear k146
  rintro _ u144 g145 ⟨r142, rfl, h143⟩
  refine sy_call 71 28 [.slice y133.a y133.n y133.c, r142.v] ?_ (hw := wants1 (g := 17) (b := true) (t := 62) (by kernel_rfl) (by kernel_rfl) (by kernel_rfl))
  intro w147 u147 e147 d147
  have k152 := k_poScale d147 (hk140.ext (e141.trans (g145.ext.trans e147))).raw (h143.ext e147).raw (by omega) (by have h9 := hm138; omega) (by omega)
  with_reducible refine Post.mono k152 ?_
  clear k152
  rintro _ u150 g151 ⟨y148, rfl, h149⟩
  have hly148 := h149.len
  have hm153 : (Nt.trimQ ((Nt.trimQ (Nt.mulQ (Nt.Pol.npow (Nt.Pol.mk' (Nt.mkP m 4)) n).l (Nt.trimQ (Nt.derQ (Nt.mkP m 4))))).map (· * ((((n + 1 : Nat) : Int) : Int) : Rat)))).length ≤ 24 := Nt.map_lenQ hm138
  have hk154 : PolN _ y148 (Nt.trimQ ((Nt.trimQ (Nt.mulQ (Nt.Pol.npow (Nt.Pol.mk' (Nt.mkP m 4)) n).l (Nt.trimQ (Nt.derQ (Nt.mkP m 4))))).map (· * ((((n + 1 : Nat) : Int) : Int) : Rat)))) 6 := PolN.more h149 (by omega)
  refine sy_call 72 24 [.slice y115.a y115.n y115.c, .slice y148.a y148.n y148.c] ?_ (hw := wants1 (g := 17) (b := true) (t := 62) (by kernel_rfl) (by kernel_rfl) (by kernel_rfl))
  intro w155 u155 e155 d155
  have k158 := k_r5Equal d155 (hk122.ext (e123.trans (g127.ext.trans (e132.trans (g136.ext.trans (e141.trans (g145.ext.trans (e147.trans (g151.ext.trans e155))))))))) (hk154.ext e155) (by first | omega | (simp; omega) | (refine Nat.le_trans (Nt.trim_len _) ?_; first | omega | (simp; omega)) | (refine Nat.le_trans (Nt.trim_len _) ?_; simp only [List.length_map]; refine Nat.le_trans (Nt.trim_len _) ?_; first | omega | (simp; omega))) (by first | omega | (simp; omega) | (refine Nat.le_trans (Nt.trim_len _) ?_; first | omega | (simp; omega)) | (refine Nat.le_trans (Nt.trim_len _) ?_; simp only [List.length_map]; refine Nat.le_trans (Nt.trim_len _) ?_; first | omega | (simp; omega)))
  with_reducible refine Post.mono k158 ?_
  clear k158
  rintro _ u156 g157 rfl
  refine sy_pure 73 (.v (.bool (decide ((Nt.trimQ (Nt.derQ (Nt.Pol.npow (Nt.Pol.mk' (Nt.mkP m 4)) (n + 1)).l)) = (Nt.trimQ ((Nt.trimQ (Nt.mulQ (Nt.Pol.npow (Nt.Pol.mk' (Nt.mkP m 4)) n).l (Nt.trimQ (Nt.derQ (Nt.mkP m 4))))).map (· * ((((n + 1 : Nat) : Int) : Int) : Rat)))))))) ?_
  refine sy_pure 6 (.v (.bool (decide ((Nt.trimQ (Nt.derQ (Nt.Pol.npow (Nt.Pol.mk' (Nt.mkP m 4)) (n + 1)).l)) = (Nt.trimQ ((Nt.trimQ (Nt.mulQ (Nt.Pol.npow (Nt.Pol.mk' (Nt.mkP m 4)) n).l (Nt.trimQ (Nt.derQ (Nt.mkP m 4))))).map (· * ((((n + 1 : Nat) : Int) : Int) : Rat)))))))) ?_
  refine sy_next 74 [(6, .v (.bool (decide ((Nt.trimQ (Nt.derQ (Nt.Pol.npow (Nt.Pol.mk' (Nt.mkP m 4)) (n + 1)).l)) = (Nt.trimQ ((Nt.trimQ (Nt.mulQ (Nt.Pol.npow (Nt.Pol.mk' (Nt.mkP m 4)) n).l (Nt.trimQ (Nt.derQ (Nt.mkP m 4))))).map (· * ((((n + 1 : Nat) : Int) : Int) : Rat))))))))] [] ?_
  refine sw_ret (ret0 [.bool (decide ((Nt.trimQ (Nt.derQ (Nt.Pol.npow (Nt.Pol.mk' (Nt.mkP m 4)) (n + 1)).l)) = (Nt.trimQ ((Nt.trimQ (Nt.mulQ (Nt.Pol.npow (Nt.Pol.mk' (Nt.mkP m 4)) n).l (Nt.trimQ (Nt.derQ (Nt.mkP m 4))))).map (· * ((((n + 1 : Nat) : Int) : Int) : Rat))))))] ⟨res_tmp, trivial⟩ fun u159 e160 => ?_)
  show Value.bool _ = Value.bool _
  rw [show (decide ((Nt.trimQ (Nt.derQ (Nt.Pol.npow (Nt.Pol.mk' (Nt.mkP m 4)) (n + 1)).l)) = (Nt.trimQ ((Nt.trimQ (Nt.mulQ (Nt.Pol.npow (Nt.Pol.mk' (Nt.mkP m 4)) n).l (Nt.trimQ (Nt.derQ (Nt.mkP m 4))))).map (· * ((((n + 1 : Nat) : Int) : Int) : Rat)))))) = true from (decide_eq_true (Nt.chain_rule (Nt.mkP m 4) n))]
end Go.Proofs.Ytnedhbidmfoegaa
