/- Contracts of poly: division, greatest common divisors. Printed by wip/sym/g_dm.py. Contracts: equality of lists of rationals, polynomials that are made. Printed by wip/sym/g_q5.py. The laws of chapter 5, without programs: common factors, powers. Polynomials that are made of integers; the laws of chapter 5 in the words of lists. More operations of the walk: conversions of integers; elements and fronts of lists of integers. Contracts of make's polynomials, of powers. Printed by wip/sym/g_mk.py. The examples of chapter 5, without programs. The examples of chapter 5, walked. Printed by wip/sym/g_l5.py. The reference's division and Euclid's way, without programs. Symbolic walks: calls that are handed the address of a variable of their caller's. Contracts of the reference of poly: products, division. Printed by wip/sym/g_r6.py. Contracts of the reference of poly: common divisors. Printed by wip/sym/g_r7.py. Polynomials that are made of roots, without programs: their sizes. Contracts of make: the tape, polynomials made of roots. Printed by wip/sym/g_ro.py. -/
import Derived.Test.YtnedhbidmfoegaaGreatDtD
namespace Go.Proofs.YtnedhbidmfoegaaGreat
open Go.RowKit
set_option linter.unusedVariables false
theorem k_poDegree {u w : World} {x : Sl} {l : List Rat} {K : Nat} (d : Dat u w) (hx : PolV u x l K) (hK : K ≤ 100000000) (hx9 : l.length ≤ 1000000000) : Calls Tryz.prog 45 #[x.v] w (Post u w fun v u' => v = .int .i64 (((Nt.trimQ l).length : Int) - 1)) := by
  have hlen := hx.len
  have htl := Nt.trim_len l
  refine calls_sym (args := [.slice x.a x.n x.c]) Tryz.func45 rfl Tryz.ntmps45 (rs := [.tmp 2]) Tryz.results45 (le_b rfl) (le_b rfl) d ?_
  refine sw_seq ?_
  refine sw_reg ?_
  refine sy_pure 2 (.v (.int .i64 0)) ?_
  refine sy_next 7 [(0, .v (.slice x.a x.n x.c))] [] ?_
  refine sw_seq ?_
  refine sw_reg ?_
  refine sy_pure 3 (.v (.slice x.a x.n x.c)) ?_
  refine sy_call 4 118 [.slice x.a x.n x.c] ?_
  intro w11 u11 e11 d11
  have k14 := k_cut d11 (hx.ext e11) (by omega) (by first | omega | (simp; omega) | (refine Nat.le_trans (Nt.trim_len _) ?_; first | omega | (simp; omega)) | (refine Nat.le_trans (Nt.trim_len _) ?_; simp only [List.length_map]; refine Nat.le_trans (Nt.trim_len _) ?_; first | omega | (simp; omega)))
  with_reducible refine Post.mono k14 ?_
  clear k14
  rintro _ u12 g13 rfl
  refine sy_pure 5 (.v (.int .i64 (((Nt.trimQ l).length : Nat) : Int))) ?_
  refine sy_eq 6 (x := .v (.int .i64 (IntKind.i64.wrap (((Nt.trimQ l).length : Int) - 1)))) (.v (.int .i64 (((Nt.trimQ l).length : Int) - 1))) (by rw [IntWalk.i64_in _ (by omega)]) ?_
  refine sy_pure 2 (.v (.int .i64 (((Nt.trimQ l).length : Int) - 1))) ?_
  refine sy_next 7 [(2, .v (.int .i64 (((Nt.trimQ l).length : Int) - 1)))] [] ?_
  refine sw_ret (ret0 [.int .i64 (((Nt.trimQ l).length : Int) - 1)] ⟨res_tmp, trivial⟩ fun u15 e16 => ?_)
  rfl
set_option maxHeartbeats 1000000 in
theorem k_poMonic {u w : World} {x : Sl} {l : List Rat} {K : Nat} (d : Dat u w) (hx : PolV u x l K) (hK : K ≤ 40000000) (hx9 : l.length ≤ 1000000000) : Calls Tryz.prog 32 #[x.v] w (Post u w fun v u' => ∃ y : Sl, v = y.v ∧ PolN u' y ((Nt.Pol.mk' l).monic.l) (2 * K + 2)) := by
  have hlen := hx.len
  have htl := Nt.trim_len l
  refine calls_sym (args := [.slice x.a x.n x.c]) Tryz.func32 rfl Tryz.ntmps32 (rs := [.tmp 2]) Tryz.results32 (le_b rfl) (le_b rfl) d ?_
  refine sw_seq ?_
  refine sw_reg ?_
  refine sy_pure 2 (.v (.slice none 0 0)) ?_
  refine sy_next 25 [(0, .v (.slice x.a x.n x.c))] [] ?_
  refine sw_seq ?_
  refine sw_reg ?_
  refine sy_pure 6 (.v (.slice x.a x.n x.c)) ?_
  refine sy_call 7 118 [.slice x.a x.n x.c] ?_
  intro w11 u11 e11 d11
  have k14 := k_cut d11 (hx.ext e11) (by omega) (by first | omega | (simp; omega) | (refine Nat.le_trans (Nt.trim_len _) ?_; first | omega | (simp; omega)) | (refine Nat.le_trans (Nt.trim_len _) ?_; simp only [List.length_map]; refine Nat.le_trans (Nt.trim_len _) ?_; first | omega | (simp; omega)))
  with_reducible refine Post.mono k14 ?_
  clear k14
  rintro _ u12 g13 rfl
  refine sy_pure 3 (.v (.slice x.a (Nt.trimQ l).length x.c)) ?_
  refine sy_next 25 [(3, .v (.slice x.a (Nt.trimQ l).length x.c))] [] ?_
  refine sw_seq ?_
  refine sw_seq ?_
  refine sw_reg ?_
  refine sy_pure 8 (.v (.slice x.a (Nt.trimQ l).length x.c)) ?_
  refine sy_pure 9 (.v (.int .i64 (((Nt.trimQ l).length : Nat) : Int))) ?_
  refine sy_pure 10 (.v (.bool ((((Nt.trimQ l).length : Nat) : Int) == 0))) ?_
  refine sy_next 25 [(3, .v (.slice x.a (Nt.trimQ l).length x.c)), (10, .v (.bool ((((Nt.trimQ l).length : Nat) : Int) == 0)))] [] ?_
  refine sw_cond (b := (((Nt.trimQ l).length : Nat) : Int) == 0) (by kernel_rfl) (fun hb15 => ?_) (fun hb15 => ?_)
  · replace hb15 : ((((Nt.trimQ l).length : Nat) : Int) == 0) = true := hb15
    have qhb15 : (((Nt.trimQ l).length : Nat) : Int) = 0 := by simpa using hb15
    refine sw_seq ?_
    refine sw_reg ?_
    refine sy_pure 2 (.v (.slice none 0 0)) ?_
    refine sy_next 25 [(2, .v (.slice none 0 0))] [] ?_
    refine sw_ret (mpr_seq (ret0 [.slice none 0 0] ⟨res_tmp, trivial⟩ fun u16 e17 => ?_))
    have e9 : Nt.trimQ l = [] := List.eq_nil_of_length_eq_zero (by omega)
    rw [Nt.monic_list, e9]
    exact ⟨⟨none, 0, 0⟩, rfl, pol_nil _ _⟩
  · replace hb15 : ((((Nt.trimQ l).length : Nat) : Int) == 0) = false := hb15
    have qhb15 : ¬ ((((Nt.trimQ l).length : Nat) : Int) = 0) := by simpa using hb15
    refine sw_skip (mp_seq ?_)
    refine sw_seq ?_
    have hq1 : ((Nt.trimQ l).getD (((Nt.trimQ l).length) - 1) 0) ≠ 0 := Nt.nrm_last (Nt.trim_nrm l) (by intro e; have h9 : (Nt.trimQ l).length = 0 := by { rw [e]; rfl }; omega)
    refine sw_any [0, 0, 0, 4, 12, 30, 62, 127, 255, 511, 511, 0, 3071, 8191] [(1, []), (2, []), (3, []), (4, []), (5, []), (6, []), (11, []), (0, []), (7, []), (8, []), (9, []), (10, []), (12, []), (13, [])] (by kernel_rfl) (by kernel_rfl) ?_
    refine sy_pure 13 (.v (.slice x.a (Nt.trimQ l).length x.c)) ?_
    refine sy_pure 14 (.v (.slice x.a (Nt.trimQ l).length x.c)) ?_
    refine sy_pure 15 (.v (.int .i64 (((Nt.trimQ l).length : Nat) : Int))) ?_
    refine sy_eq 16 (x := .v (.int .i64 (IntKind.i64.wrap ((((Nt.trimQ l).length : Nat) : Int) - 1)))) (.v (.int .i64 ((((Nt.trimQ l).length) - 1 : Nat) : Int))) (eqI (by rw [IntWalk.i64_in _ (by omega)]; omega)) ?_
    have hl18 := (cut_V (hx.ext (e11.trans g13.ext))).len
    change (Nt.trimQ l).length = _ at hl18
    obtain ⟨r18, b18, o18, hA18, hc18, hr18⟩ := pol_at (cut_V (hx.ext (e11.trans g13.ext))) (i := ((Nt.trimQ l).length) - 1) (by omega)
    refine sy_index 17 (o18 + (((Nt.trimQ l).length) - 1) * 3) (n := (Nt.trimQ l).length) (off := o18) (sz := 3) (i := ((((Nt.trimQ l).length) - 1 : Nat) : Int)) (by omega) hA18 (by omega) (by omega) sl41 ?_
    refine sy_ldn 18 r18.cs hc18 ty26 ?_
    refine sy_new 4 ⟨26, [.bool false, .slice none 0 0, .slice none 0 0]⟩ ?_
    refine sy_call 12 112 [.int .i64 1] ?_
    intro w19 u19 e19 d19
    have k24 := k_ratOf d19 (z := 1) (by omega) (by omega)
    with_reducible refine Post.mono k24 ?_
    clear k24
    rintro _ u22 g23 ⟨r20, rfl, h21⟩
    refine sy_call 19 99 [r20.v, r18.v] ?_
    intro w25 u25 e25 d25
    have k30 := k_ratDiv1 d25 (h21.ext e25).raw (hr18.ext (e19.trans (g23.ext.trans e25))) hq1 (by omega) (by omega)
    with_reducible refine Post.mono k30 ?_
    clear k30
    rintro _ u28 g29 ⟨r26, rfl, h27⟩
    refine sy_pure 11 (.v (.tuple #[r26.v, .int .i64 0])) ?_
    refine sy_pure 20 (.v (r26.v)) ?_
    refine sy_pure 21 (.v (.int .i64 0)) ?_
    refine sy_store ⟨26, r26.cs⟩ ty26 ?_
    refine sy_pure 5 (.v (.int .i64 0)) ?_
    refine sy_next 25 [(3, .v (.slice x.a (Nt.trimQ l).length x.c)), (4, .adr 4 0)] [(4, ⟨26, r26.cs⟩)] ?_
    refine sw_seq ?_
    refine sw_reg ?_
    refine sy_pure 22 (.v (.slice x.a (Nt.trimQ l).length x.c)) ?_
    refine sy_ldv 23 (.v (r26.v)) ty26 part_agg ?_
    refine sy_call 24 97 [.slice x.a (Nt.trimQ l).length x.c, r26.v] ?_
    intro w31 u31 e31 d31
    have k36 := k_poScale d31 ((cut_V (hx.ext (e11.trans g13.ext))).ext (e19.trans (g23.ext.trans (e25.trans (g29.ext.trans e31))))) (h27.ext e31).raw (by omega) (by first | omega | (simp; omega) | (refine Nat.le_trans (Nt.trim_len _) ?_; first | omega | (simp; omega)) | (refine Nat.le_trans (Nt.trim_len _) ?_; simp only [List.length_map]; refine Nat.le_trans (Nt.trim_len _) ?_; first | omega | (simp; omega))) (by omega)
    with_reducible refine Post.mono k36 ?_
    clear k36
    rintro _ u34 g35 ⟨y32, rfl, h33⟩
    have hly32 := h33.len
    refine sy_pure 2 (.v (.slice y32.a y32.n y32.c)) ?_
    refine sy_next 25 [(2, .v (.slice y32.a y32.n y32.c))] [] ?_
    refine sw_ret (ret0 [.slice y32.a y32.n y32.c] ⟨res_tmp, trivial⟩ fun u37 e38 => ?_)
    rw [Nt.monic_list]
    refine ⟨y32, rfl, PolN.more (K := (K + (2 + K))) ?_ (by omega)⟩
    exact (h33.ext e38)
set_option maxHeartbeats 2000000 in
theorem k_poDivMod {u w : World} {x : Sl} {l : List Rat} {y : Sl} {m : List Rat} {K M : Nat} (d : Dat u w) (hx : PolV u x l K) (hy : PolV u y m M) {a b C : Nat} (hA : Nt.WhL (Nt.prim l) a) (hB : Nt.WhL (Nt.prim m) b) (hC : a + (l.length + 1) * (b + 1) ≤ C) (hC9 : C ≤ 600000000) (hK1 : (l.length + 1) * K ≤ 20000000) (hM1 : (m.length + 1) * M ≤ 20000000) (hS : Nt.dg C + ((l.length * K + 2) + Nt.dg C + (m.length * M + 2)) ≤ 40000000) (hx9 : l.length ≤ 1000000) (hy9 : m.length ≤ 1000000) : Calls Tryz.prog 27 #[x.v, y.v] w (Post u w fun v u' => (v = .tuple #[.slice none 0 0, .slice none 0 0, .int .i64 3] ∧ Nt.trimQ m = []) ∨ (Nt.trimQ m ≠ [] ∧ ∃ (y1 y2 : Sl) (q r : Nt.Pol), v = .tuple #[y1.v, y2.v, .int .i64 0] ∧ PolN u' y1 q.l (Nt.dg C + ((l.length * K + 2) + Nt.dg C + (m.length * M + 2))) ∧ PolN u' y2 r.l (Nt.dg C + ((l.length * K + 2) + Nt.dg C + (m.length * M + 2))) ∧ Nt.Pol.mk' l = q * Nt.Pol.mk' m + r ∧ r.len < (Nt.Pol.mk' m).len)) := by
  have hlen := hx.len
  have hlen2 := hy.len
  have htl := Nt.trim_len l
  have htm := Nt.trim_len m
  have hK2 := hK1
  have hM2 := hM1
  rw [Nat.add_mul] at hK2 hM2
  have hKK : (Nt.trimQ l).length * K ≤ l.length * K := Nat.mul_le_mul_right _ htl
  have hMM : (Nt.trimQ m).length * M ≤ m.length * M := Nat.mul_le_mul_right _ htm
  refine calls_sym (args := [.slice x.a x.n x.c, .slice y.a y.n y.c]) Tryz.func27 rfl Tryz.ntmps27 (rs := [.tmp 4, .tmp 5, .tmp 6]) Tryz.results27 (le_b rfl) (le_b rfl) d ?_
  refine sw_seq ?_
  refine sw_reg ?_
  refine sy_pure 4 (.v (.slice none 0 0)) ?_
  refine sy_pure 5 (.v (.slice none 0 0)) ?_
  refine sy_pure 6 (.v (.int .i64 0)) ?_
  refine sy_next 56 [(0, .v (.slice x.a x.n x.c)), (1, .v (.slice y.a y.n y.c))] [] ?_
  refine sw_seq ?_
  refine sw_reg ?_
  refine sy_pure 19 (.v (.slice x.a x.n x.c)) ?_
  refine sy_call 20 115 [.slice x.a x.n x.c] ?_
  intro w11 u11 e11 d11
  have k18 := k_split d11 (hx.ext e11) (by omega) (by first | omega | (simp; omega) | (refine Nat.le_trans (Nt.trim_len _) ?_; first | omega | (simp; omega)) | (refine Nat.le_trans (Nt.trim_len _) ?_; simp only [List.length_map]; refine Nat.le_trans (Nt.trim_len _) ?_; first | omega | (simp; omega)))
  with_reducible refine Post.mono k18 ?_
  clear k18
  rintro _ u16 g17 ⟨r12, y14, rfl, h13, h15⟩
  have hly14 : y14.n = (Nt.trimQ l).length := by have h9 := h15.len; simpa using h9
  refine sy_pure 18 (.v (.tuple #[r12.v, .slice y14.a y14.n y14.c])) ?_
  refine sy_pure 21 (.v (r12.v)) ?_
  refine sy_pure 22 (.v (.slice y14.a y14.n y14.c)) ?_
  refine sy_new 7 ⟨26, [.bool false, .slice none 0 0, .slice none 0 0]⟩ ?_
  refine sy_store ⟨26, r12.cs⟩ ty26 ?_
  refine sy_pure 8 (.v (.slice y14.a y14.n y14.c)) ?_
  refine sy_next 56 [(1, .v (.slice y.a y.n y.c)), (7, .adr 7 0), (8, .v (.slice y14.a y14.n y14.c))] [(7, ⟨26, r12.cs⟩)] ?_
  refine sw_seq ?_
  refine sw_reg ?_
  refine sy_pure 24 (.v (.slice y.a y.n y.c)) ?_
  refine sy_call 25 115 [.slice y.a y.n y.c] ?_
  intro w19 u19 e19 d19
  have k26 := k_split d19 (hy.ext (e11.trans (g17.ext.trans e19))) (by omega) (by first | omega | (simp; omega) | (refine Nat.le_trans (Nt.trim_len _) ?_; first | omega | (simp; omega)) | (refine Nat.le_trans (Nt.trim_len _) ?_; simp only [List.length_map]; refine Nat.le_trans (Nt.trim_len _) ?_; first | omega | (simp; omega)))
  with_reducible refine Post.mono k26 ?_
  clear k26
  rintro _ u24 g25 ⟨r20, y22, rfl, h21, h23⟩
  have hly22 : y22.n = (Nt.trimQ m).length := by have h9 := h23.len; simpa using h9
  refine sy_pure 23 (.v (.tuple #[r20.v, .slice y22.a y22.n y22.c])) ?_
  refine sy_pure 26 (.v (r20.v)) ?_
  refine sy_pure 27 (.v (.slice y22.a y22.n y22.c)) ?_
  refine sy_new 9 ⟨26, [.bool false, .slice none 0 0, .slice none 0 0]⟩ ?_
  refine sy_store ⟨26, r20.cs⟩ ty26 ?_
  refine sy_pure 10 (.v (.slice y22.a y22.n y22.c)) ?_
  refine sy_next 56 [(7, .adr 7 0), (8, .v (.slice y14.a y14.n y14.c)), (9, .adr 9 0), (10, .v (.slice y22.a y22.n y22.c))] [(7, ⟨26, r12.cs⟩), (9, ⟨26, r20.cs⟩)] ?_
  refine sw_seq ?_
  refine sw_seq ?_
  refine sw_reg ?_
  refine sy_pure 28 (.v (.slice y22.a y22.n y22.c)) ?_
  refine sy_pure 29 (.v (.int .i64 (y22.n : Int))) ?_
  refine sy_pure 30 (.v (.bool ((y22.n : Int) == 0))) ?_
  refine sy_next 56 [(7, .adr 7 0), (8, .v (.slice y14.a y14.n y14.c)), (9, .adr 9 0), (10, .v (.slice y22.a y22.n y22.c)), (30, .v (.bool ((y22.n : Int) == 0)))] [(7, ⟨26, r12.cs⟩), (9, ⟨26, r20.cs⟩)] ?_
  refine sw_cond (b := (y22.n : Int) == 0) (by kernel_rfl) (fun hb27 => ?_) (fun hb27 => ?_)
  · replace hb27 : ((y22.n : Int) == 0) = true := hb27
    have qhb27 : (y22.n : Int) = 0 := by simpa using hb27
    refine sw_seq ?_
    refine sw_reg ?_
    refine sy_pure 4 (.v (.slice none 0 0)) ?_
    refine sy_pure 5 (.v (.slice none 0 0)) ?_
    refine sy_pure 6 (.v (.int .i64 3)) ?_
    refine sy_next 56 [(4, .v (.slice none 0 0)), (5, .v (.slice none 0 0)), (6, .v (.int .i64 3))] [] ?_
    refine sw_ret (mpr_seq (ret0 [.slice none 0 0, .slice none 0 0, .int .i64 3] ⟨res_tmp, res_tmp, res_tmp, trivial⟩ fun u28 e29 => ?_))
    exact .inl ⟨rfl, List.eq_nil_of_length_eq_zero (by omega)⟩
  · replace hb27 : ((y22.n : Int) == 0) = false := hb27
    have qhb27 : ¬ ((y22.n : Int) = 0) := by simpa using hb27
    refine sw_skip (mp_seq ?_)
    refine sw_seq ?_
    have hm1 : Nt.trimQ m ≠ [] := by intro e; have h9 : (Nt.trimQ m).length = 0 := by { rw [e]; rfl }; omega
    have hm2 : 0 < (Nt.prim m).length := by rw [Nt.prim_len]; omega
    refine sw_reg ?_
    refine sy_pure 32 (.v (.slice y14.a y14.n y14.c)) ?_
    refine sy_pure 33 (.v (.slice y22.a y22.n y22.c)) ?_
    refine sy_call 34 116 [.slice y14.a y14.n y14.c, .slice y22.a y22.n y22.c] ?_
    intro w30 u30 e30 d30
    have k34 := k_divide (C := C) d30 (h15.ext (e19.trans (g25.ext.trans e30))) (h23.ext e30) hA hB (Nt.prim_nrm m) hm2 (Nat.le_trans (Nat.add_le_add_left (Nat.mul_le_mul_right _ (by simp; omega)) _) hC) hC9 (by first | omega | (simp; omega)) (by first | omega | (simp; omega))
    with_reducible refine Post.mono k34 ?_
    clear k34
    rintro _ u32 g33 ⟨y31, z31, r31, s31, t31, f31, rfl, ha31, hb31, hc31, hD31, hws31, hwt31⟩
    have hly31 := ha31.len
    have hlz31 := hb31.len
    have hlty31 := hD31.lt
    have htly31 := hD31.tl
    have hsly31 := hD31.sl
    try simp only [List.length_map] at hlty31 htly31 hsly31
    refine sy_pure 31 (.v (.tuple #[.slice y31.a y31.n y31.c, .slice z31.a z31.n z31.c, r31.v])) ?_
    refine sy_pure 35 (.v (.slice y31.a y31.n y31.c)) ?_
    refine sy_pure 36 (.v (.slice z31.a z31.n z31.c)) ?_
    refine sy_pure 37 (.v (r31.v)) ?_
    refine sy_new 13 ⟨26, [.bool false, .slice none 0 0, .slice none 0 0]⟩ ?_
    refine sy_pure 11 (.v (.slice y31.a y31.n y31.c)) ?_
    refine sy_pure 12 (.v (.slice z31.a z31.n z31.c)) ?_
    refine sy_store ⟨26, r31.cs⟩ ty26 ?_
    refine sy_next 56 [(7, .adr 7 0), (9, .adr 9 0), (11, .v (.slice y31.a y31.n y31.c)), (12, .v (.slice z31.a z31.n z31.c)), (13, .adr 13 0)] [(7, ⟨26, r12.cs⟩), (9, ⟨26, r20.cs⟩), (13, ⟨26, r31.cs⟩)] ?_
    refine sw_seq ?_
    refine sw_reg ?_
    refine sy_ldv 39 (.v (r12.v)) ty26 part_agg ?_
    refine sy_ldv 40 (.v (r31.v)) ty26 part_agg ?_
    refine sy_call 41 99 [r12.v, r31.v] ?_
    intro w35 u35 e35 d35
    have k40 := k_ratDiv1 d35 (h13.ext (e19.trans (g25.ext.trans (e30.trans (g33.ext.trans e35))))).raw (hc31.ext e35).raw hD31.f0 (by omega) (by omega)
    with_reducible refine Post.mono k40 ?_
    clear k40
    rintro _ u38 g39 ⟨r36, rfl, h37⟩
    refine sy_pure 38 (.v (.tuple #[r36.v, .int .i64 0])) ?_
    refine sy_pure 42 (.v (r36.v)) ?_
    refine sy_pure 43 (.v (.int .i64 0)) ?_
    refine sy_new 14 ⟨26, [.bool false, .slice none 0 0, .slice none 0 0]⟩ ?_
    refine sy_store ⟨26, r36.cs⟩ ty26 ?_
    refine sy_pure 15 (.v (.int .i64 0)) ?_
    refine sy_next 56 [(9, .adr 9 0), (11, .v (.slice y31.a y31.n y31.c)), (12, .v (.slice z31.a z31.n z31.c)), (14, .adr 14 0)] [(9, ⟨26, r20.cs⟩), (14, ⟨26, r36.cs⟩)] ?_
    refine sw_seq ?_
    refine sw_reg ?_
    refine sy_ldv 45 (.v (r36.v)) ty26 part_agg ?_
    refine sy_ldv 46 (.v (r20.v)) ty26 part_agg ?_
    refine sy_call 47 99 [r36.v, r20.v] ?_
    intro w41 u41 e41 d41
    have k46 := k_ratDiv1 d41 (h37.ext e41).raw (h21.ext (e30.trans (g33.ext.trans (e35.trans (g39.ext.trans e41))))).raw (Nt.msr_ne' hm1) (by omega) (by omega)
    with_reducible refine Post.mono k46 ?_
    clear k46
    rintro _ u44 g45 ⟨r42, rfl, h43⟩
    refine sy_pure 44 (.v (.tuple #[r42.v, .int .i64 0])) ?_
    refine sy_pure 48 (.v (r42.v)) ?_
    refine sy_pure 49 (.v (.int .i64 0)) ?_
    refine sy_new 16 ⟨26, [.bool false, .slice none 0 0, .slice none 0 0]⟩ ?_
    refine sy_store ⟨26, r42.cs⟩ ty26 ?_
    refine sy_pure 17 (.v (.int .i64 0)) ?_
    refine sy_next 56 [(11, .v (.slice y31.a y31.n y31.c)), (12, .v (.slice z31.a z31.n z31.c)), (14, .adr 14 0), (16, .adr 16 0)] [(14, ⟨26, r36.cs⟩), (16, ⟨26, r42.cs⟩)] ?_
    refine sw_seq ?_
    refine sw_any [0, 0, 3, 0, 0, 31, 63, 127, 255] [(0, []), (1, []), (3, []), (4, []), (2, []), (5, []), (6, []), (7, []), (8, [])] (by kernel_rfl) (by kernel_rfl) ?_
    refine sy_pure 50 (.v (.slice y31.a y31.n y31.c)) ?_
    refine sy_ldv 51 (.v (r42.v)) ty26 part_agg ?_
    refine sy_pure 53 (.v (.slice z31.a z31.n z31.c)) ?_
    refine sy_ldv 54 (.v (r36.v)) ty26 part_agg ?_
    refine sy_call 52 97 [.slice y31.a y31.n y31.c, r42.v] ?_
    intro w47 u47 e47 d47
    have k52 := k_poScale d47 (ha31.ext (e35.trans (g39.ext.trans (e41.trans (g45.ext.trans e47))))).raw (h43.ext e47).raw (by omega) (by first | omega | (simp; omega) | (refine Nat.le_trans (Nt.trim_len _) ?_; first | omega | (simp; omega)) | (refine Nat.le_trans (Nt.trim_len _) ?_; simp only [List.length_map]; refine Nat.le_trans (Nt.trim_len _) ?_; first | omega | (simp; omega))) (by omega)
    with_reducible refine Post.mono k52 ?_
    clear k52
    rintro _ u50 g51 ⟨y48, rfl, h49⟩
    have hly48 := h49.len
    refine sy_call 55 97 [.slice z31.a z31.n z31.c, r36.v] ?_
    intro w53 u53 e53 d53
    have k58 := k_poScale d53 (hb31.ext (e35.trans (g39.ext.trans (e41.trans (g45.ext.trans (e47.trans (g51.ext.trans e53))))))).raw (h37.ext (e41.trans (g45.ext.trans (e47.trans (g51.ext.trans e53))))).raw (by omega) (by first | omega | (simp; omega) | (refine Nat.le_trans (Nt.trim_len _) ?_; first | omega | (simp; omega)) | (refine Nat.le_trans (Nt.trim_len _) ?_; simp only [List.length_map]; refine Nat.le_trans (Nt.trim_len _) ?_; first | omega | (simp; omega))) (by omega)
    with_reducible refine Post.mono k58 ?_
    clear k58
    rintro _ u56 g57 ⟨y54, rfl, h55⟩
    have hly54 := h55.len
    refine sy_pure 4 (.v (.slice y48.a y48.n y48.c)) ?_
    refine sy_pure 5 (.v (.slice y54.a y54.n y54.c)) ?_
    refine sy_pure 6 (.v (.int .i64 0)) ?_
    refine sy_next 56 [(4, .v (.slice y48.a y48.n y48.c)), (5, .v (.slice y54.a y54.n y54.c)), (6, .v (.int .i64 0))] [] ?_
    refine sw_ret (ret0 [.slice y48.a y48.n y48.c, .slice y54.a y54.n y54.c, .int .i64 0] ⟨res_tmp, res_tmp, res_tmp, trivial⟩ fun u59 e60 => ?_)
    obtain ⟨e1, e2⟩ := Nt.divmod_parts (l := l) (m := m) hm1 hD31
    exact .inr ⟨hm1, y48, y54, _, _, rfl, PolN.more (K := ((Nt.dg C) + ((((Nt.trimQ l).length * K + 2) + (Nt.dg C)) + ((Nt.trimQ m).length * M + 2)))) (h49.ext (e53.trans (g57.ext.trans e60))) (by omega), PolN.more (K := ((Nt.dg C) + (((Nt.trimQ l).length * K + 2) + (Nt.dg C)))) (h55.ext e60) (by omega), e1, e2⟩
theorem k_poDivMod1 {u w : World} {x y : Sl} {l m : List Rat} {K M : Nat} (d : Dat u w) (hx : PolV u x l K) (hy : PolV u y m M) {a b C : Nat} (hm1 : Nt.trimQ m ≠ []) (hA : Nt.WhL (Nt.prim l) a) (hB : Nt.WhL (Nt.prim m) b) (hC : a + (l.length + 1) * (b + 1) ≤ C) (hC9 : C ≤ 600000000) (hK1 : (l.length + 1) * K ≤ 20000000) (hM1 : (m.length + 1) * M ≤ 20000000) (hS : Nt.dg C + ((l.length * K + 2) + Nt.dg C + (m.length * M + 2)) ≤ 40000000) (hx9 : l.length ≤ 1000000) (hy9 : m.length ≤ 1000000) :
    Calls Tryz.prog 27 #[x.v, y.v] w (Post u w fun v u' => ∃ (y1 y2 : Sl) (q r : Nt.Pol), v = .tuple #[y1.v, y2.v, .int .i64 0] ∧ PolN u' y1 q.l (Nt.dg C + ((l.length * K + 2) + Nt.dg C + (m.length * M + 2))) ∧ PolN u' y2 r.l (Nt.dg C + ((l.length * K + 2) + Nt.dg C + (m.length * M + 2))) ∧ Nt.Pol.mk' l = q * Nt.Pol.mk' m + r ∧ r.len < (Nt.Pol.mk' m).len) :=
  Post.mono (k_poDivMod d hx hy hA hB hC hC9 hK1 hM1 hS hx9 hy9) fun v u' _ h => (h.resolve_left (fun k => hm1 k.2)).2
set_option maxHeartbeats 2000000 in
theorem k_poGcd {u w : World} {x : Sl} {l : List Rat} {y : Sl} {m : List Rat} {K M : Nat} (d : Dat u w) (hx : PolV u x l K) (hy : PolV u y m M) {A H N : Nat} (hA : Nt.WhL (Nt.prim l) A) (hB : Nt.WhL (Nt.prim m) A) (hH : (A + 1) * (A + 1) * 3 ^ Nt.pot (Nt.trimQ l).length (Nt.trimQ m).length ≤ H * H) (hH9 : H ≤ 600000000) (hN1 : l.length ≤ N) (hN2 : m.length ≤ N) (hN : (N + 1) * Nt.dg H ≤ 28000000) (hK1 : (l.length + 1) * K ≤ 20000000) (hM1 : (m.length + 1) * M ≤ 20000000) (hN9 : N ≤ 1000000) : Calls Tryz.prog 30 #[x.v, y.v] w (Post u w fun v u' => ∃ (z : Sl) (g : Nt.Pol) (W : List Rat) (k : Rat), v = z.v ∧ PolN u' z g.l (2 * Nt.dg H + 2) ∧ Nt.Pol.IsGcd (Nt.Pol.mk' l) (Nt.Pol.mk' m) g ∧ k ≠ 0 ∧ (∀ i, Nt.co g.l i = k * Nt.co W i) ∧ Nt.WhL W H) := by
  have hlen := hx.len
  have hlen2 := hy.len
  have htl := Nt.trim_len l
  have htm := Nt.trim_len m
  have hdgH : Nt.dg H ≤ (N + 1) * Nt.dg H := Nat.le_mul_of_pos_left _ (by omega)
  have hAH : A ≤ H := by have h9 := Nt.pot_le hH; omega
  refine calls_sym (args := [.slice x.a x.n x.c, .slice y.a y.n y.c]) Tryz.func30 rfl Tryz.ntmps30 (rs := [.tmp 4]) Tryz.results30 (le_b rfl) (le_b rfl) d ?_
  refine sw_seq ?_
  refine sw_reg ?_
  refine sy_pure 4 (.v (.slice none 0 0)) ?_
  refine sy_next 41 [(0, .v (.slice x.a x.n x.c)), (1, .v (.slice y.a y.n y.c))] [] ?_
  refine sw_seq ?_
  refine sw_reg ?_
  refine sy_pure 13 (.v (.slice x.a x.n x.c)) ?_
  refine sy_call 14 115 [.slice x.a x.n x.c] ?_
  intro w11 u11 e11 d11
  have k18 := k_split d11 (hx.ext e11) (by omega) (by first | omega | (simp; omega) | (refine Nat.le_trans (Nt.trim_len _) ?_; first | omega | (simp; omega)) | (refine Nat.le_trans (Nt.trim_len _) ?_; simp only [List.length_map]; refine Nat.le_trans (Nt.trim_len _) ?_; first | omega | (simp; omega)))
  with_reducible refine Post.mono k18 ?_
  clear k18
  rintro _ u16 g17 ⟨r12, y14, rfl, h13, h15⟩
  have hly14 : y14.n = (Nt.trimQ l).length := by have h9 := h15.len; simpa using h9
  refine sy_pure 12 (.v (.tuple #[r12.v, .slice y14.a y14.n y14.c])) ?_
  refine sy_pure 15 (.v (r12.v)) ?_
  refine sy_pure 16 (.v (.slice y14.a y14.n y14.c)) ?_
  refine sy_new 5 ⟨26, [.bool false, .slice none 0 0, .slice none 0 0]⟩ ?_
  refine sy_store ⟨26, r12.cs⟩ ty26 ?_
  refine sy_pure 6 (.v (.slice y14.a y14.n y14.c)) ?_
  refine sy_next 41 [(1, .v (.slice y.a y.n y.c)), (6, .v (.slice y14.a y14.n y14.c))] [] ?_
  refine sw_seq ?_
  refine sw_reg ?_
  refine sy_pure 18 (.v (.slice y.a y.n y.c)) ?_
  refine sy_call 19 115 [.slice y.a y.n y.c] ?_
  intro w19 u19 e19 d19
  have k26 := k_split d19 (hy.ext (e11.trans (g17.ext.trans e19))) (by omega) (by first | omega | (simp; omega) | (refine Nat.le_trans (Nt.trim_len _) ?_; first | omega | (simp; omega)) | (refine Nat.le_trans (Nt.trim_len _) ?_; simp only [List.length_map]; refine Nat.le_trans (Nt.trim_len _) ?_; first | omega | (simp; omega)))
  with_reducible refine Post.mono k26 ?_
  clear k26
  rintro _ u24 g25 ⟨r20, y22, rfl, h21, h23⟩
  have hly22 : y22.n = (Nt.trimQ m).length := by have h9 := h23.len; simpa using h9
  refine sy_pure 17 (.v (.tuple #[r20.v, .slice y22.a y22.n y22.c])) ?_
  refine sy_pure 20 (.v (r20.v)) ?_
  refine sy_pure 21 (.v (.slice y22.a y22.n y22.c)) ?_
  refine sy_new 7 ⟨26, [.bool false, .slice none 0 0, .slice none 0 0]⟩ ?_
  refine sy_store ⟨26, r20.cs⟩ ty26 ?_
  refine sy_pure 8 (.v (.slice y22.a y22.n y22.c)) ?_
  refine sy_next 41 [(6, .v (.slice y14.a y14.n y14.c)), (8, .v (.slice y22.a y22.n y22.c))] [] ?_
  refine sw_seq ?_
  refine sw_block ?_
  refine sw_loop (I := fun m27 S' u' => ∃ (xa : Sl) (xb : Sl) (pa : List Rat) (pb : List Rat) (A9 : Nat), (m27 = pb.length) ∧ (pa.length ≤ N) ∧ (pb.length ≤ N) ∧ (Nt.Nrm pb) ∧ (Nt.WhL pa A9) ∧ (Nt.WhL pb A9) ∧ ((A9 + 1) * (A9 + 1) * 3 ^ Nt.pot pa.length pb.length ≤ H * H) ∧ (Nt.Pol.Same (Nt.Pol.mk' l) (Nt.Pol.mk' m) (Nt.Pol.mk' pa) (Nt.Pol.mk' pb)) ∧ (S' = St.of 41 [(6, .v (.slice xa.a xa.n xa.c)), (8, .v (.slice xb.a xb.n xb.c))] []) ∧ (Ext u24 u') ∧ (PolN u' xa pa (Nt.dg H)) ∧ (PolN u' xb pb (Nt.dg H))) (fun m S u1 u2 e h => by obtain ⟨xa, xb, pa, pb, A9, hm, p0, p1, p2, p3, p4, p5, p6, hS, hE, f0, f1⟩ := h; exact ⟨xa, xb, pa, pb, A9, hm, p0, p1, p2, p3, p4, p5, p6, hS, hE.trans e, f0.ext e, f1.ext e⟩) _ (T := St.of 41 [(6, .v (.slice y14.a y14.n y14.c)), (8, .v (.slice y22.a y22.n y22.c))] []) (by exact weak_mk _ _ _) ⟨y14, y22, (Nt.prim l), (Nt.prim m), A, rfl, (by rw [Nt.prim_len]; omega), (by rw [Nt.prim_len]; omega), (Nt.prim_nrm m), hA, hB, (by rw [Nt.prim_len, Nt.prim_len]; exact hH), (Nt.prim_same l m), rfl, Ext.refl _, (PolN.fitW (K := (K + ((Nt.trimQ l).length * K + 2))) (h15.ext (e19.trans g25.ext)) (hA.more hAH)), (PolN.fitW (K := (M + ((Nt.trimQ m).length * M + 2))) h23 (hB.more hAH))⟩ ?_
  rintro m27 _ u27 ⟨xa, xb, pa, pb, A9, hm27, hna, hnl, hnb, hWa, hWb, hP, hS, rfl, e27, hFa, hFb⟩
  have hla := hFa.len
  have hlb := hFb.len
  have hA9 := Nt.pot_le hP
  refine sw_seq ?_
  refine sw_seq ?_
  refine sw_reg ?_
  refine sy_pure 22 (.v (.slice xb.a xb.n xb.c)) ?_
  refine sy_pure 23 (.v (.int .i64 (xb.n : Int))) ?_
  refine sy_pure 24 (.v (.bool (decide ((0 : Int) < (xb.n : Int))))) ?_
  refine sy_next 41 [(6, .v (.slice xa.a xa.n xa.c)), (8, .v (.slice xb.a xb.n xb.c)), (24, .v (.bool (decide ((0 : Int) < (xb.n : Int)))))] [] ?_
  refine sw_cond (b := decide ((0 : Int) < (xb.n : Int))) (by kernel_rfl) (fun hb28 => ?_) (fun hb28 => ?_)
  · replace hb28 : (decide ((0 : Int) < (xb.n : Int))) = true := hb28
    have qhb28 := of_decide_eq_true hb28
    refine sw_skip (mp_seq ?_)
    refine sw_block ?_
    refine sw_seq ?_
    have hP0 := Nt.pot_step hP (lr := 0) (by omega) (by omega)
    obtain ⟨C9, hC9⟩ : ∃ C9, A9 + (pa.length - pb.length + 1) * (A9 + 1) = C9 := ⟨_, rfl⟩
    rw [hC9] at hP0
    have hCH := Nt.pot_le hP0
    have hCA : A9 ≤ C9 := by omega
    refine sw_reg ?_
    refine sy_pure 26 (.v (.slice xa.a xa.n xa.c)) ?_
    refine sy_pure 27 (.v (.slice xb.a xb.n xb.c)) ?_
    refine sy_call 28 116 [.slice xa.a xa.n xa.c, .slice xb.a xb.n xb.c] ?_
    intro w29 u29 e29 d29
    have k33 := k_divide (C := C9) d29 (hFa.ext e29) (hFb.ext e29) hWa hWb hnb (by omega) (Nat.le_of_eq hC9) (by omega) (by first | omega | (simp; omega)) (by first | omega | (simp; omega))
    with_reducible refine Post.mono k33 ?_
    clear k33
    rintro _ u31 g32 ⟨y30, z30, r30, s30, t30, f30, rfl, ha30, hb30, hc30, hD30, hws30, hwt30⟩
    have hly30 := ha30.len
    have hlz30 := hb30.len
    have hlty30 := hD30.lt
    have htly30 := hD30.tl
    have hsly30 := hD30.sl
    try simp only [List.length_map, Nt.prim_len] at hlty30 htly30 hsly30
    refine sy_pure 25 (.v (.tuple #[.slice y30.a y30.n y30.c, .slice z30.a z30.n z30.c, r30.v])) ?_
    refine sy_pure 29 (.v (.slice y30.a y30.n y30.c)) ?_
    refine sy_pure 30 (.v (.slice z30.a z30.n z30.c)) ?_
    refine sy_pure 31 (.v (r30.v)) ?_
    refine sy_new 11 ⟨26, [.bool false, .slice none 0 0, .slice none 0 0]⟩ ?_
    refine sy_pure 9 (.v (.slice y30.a y30.n y30.c)) ?_
    refine sy_pure 10 (.v (.slice z30.a z30.n z30.c)) ?_
    refine sy_store ⟨26, r30.cs⟩ ty26 ?_
    refine sy_next 41 [(8, .v (.slice xb.a xb.n xb.c)), (10, .v (.slice z30.a z30.n z30.c))] [] ?_
    refine sw_seq ?_
    refine sw_reg ?_
    refine sy_pure 33 (.v (.slice z30.a z30.n z30.c)) ?_
    refine sy_call 34 115 [.slice z30.a z30.n z30.c] ?_
    intro w34 u34 e34 d34
    have k41 := k_split d34 (hb30.ext e34).raw (Nat.le_trans (Nat.mul_le_mul (show t30.length + 1 ≤ N + 1 by omega) (Nt.dg_mono (show C9 ≤ H by omega))) (by omega)) (by first | omega | (simp; omega) | (refine Nat.le_trans (Nt.trim_len _) ?_; first | omega | (simp; omega)) | (refine Nat.le_trans (Nt.trim_len _) ?_; simp only [List.length_map]; refine Nat.le_trans (Nt.trim_len _) ?_; first | omega | (simp; omega)))
    with_reducible refine Post.mono k41 ?_
    clear k41
    rintro _ u39 g40 ⟨r35, y37, rfl, h36, h38⟩
    have hly37 : y37.n = (Nt.trimQ t30).length := by have h9 := h38.len; simpa using h9
    refine sy_pure 32 (.v (.tuple #[r35.v, .slice y37.a y37.n y37.c])) ?_
    refine sy_pure 35 (.v (r35.v)) ?_
    refine sy_pure 36 (.v (.slice y37.a y37.n y37.c)) ?_
    refine sy_pure 10 (.v (.slice y37.a y37.n y37.c)) ?_
    refine sy_next 41 [(8, .v (.slice xb.a xb.n xb.c)), (10, .v (.slice y37.a y37.n y37.c))] [] ?_
    refine sw_reg ?_
    refine sy_pure 37 (.v (.slice xb.a xb.n xb.c)) ?_
    refine sy_pure 38 (.v (.slice y37.a y37.n y37.c)) ?_
    refine sy_pure 6 (.v (.slice xb.a xb.n xb.c)) ?_
    refine sy_pure 8 (.v (.slice y37.a y37.n y37.c)) ?_
    refine sy_end ?_
    have hpt : (Nt.prim t30).length ≤ t30.length := by rw [Nt.prim_len]; exact Nt.trim_len _
    have hP9 := Nt.pot_step hP (lr := (Nt.prim t30).length) (by omega) (by omega)
    rw [hC9] at hP9
    refine ⟨_, ?_, St.of 41 [(6, .v (.slice xb.a xb.n xb.c)), (8, .v (.slice y37.a y37.n y37.c))] [], by exact weak_mk _ _ _, xb, y37, pb, (Nt.prim t30), C9, rfl, by omega, by omega, (Nt.prim_nrm _), (hWb.more hCA), (Nt.prim_of_wh hwt30), hP9, (Nt.same_step hS hD30), rfl, (e27.trans (e29.trans (g32.ext.trans (e34.trans g40.ext)))), (hFb.ext (e29.trans (g32.ext.trans (e34.trans g40.ext)))), (PolN.fitW (K := ((Nt.dg C9) + ((Nt.trimQ t30).length * (Nt.dg C9) + 2))) h38 ((Nt.prim_of_wh hwt30).more (by omega)))⟩
    omega
  · replace hb28 : (decide ((0 : Int) < (xb.n : Int))) = false := hb28
    have qhb28 := of_decide_eq_false hb28
    refine sw_exit ?_
    refine mp_seq ?_
    refine sw_seq ?_
    refine sw_reg ?_
    refine sy_pure 39 (.v (.slice xa.a xa.n xa.c)) ?_
    refine sy_call 40 32 [.slice xa.a xa.n xa.c] ?_
    intro w42 u42 e42 d42
    have k47 := k_poMonic d42 (hFa.ext e42).raw (by omega) (by first | omega | (simp; omega) | (refine Nat.le_trans (Nt.trim_len _) ?_; first | omega | (simp; omega)) | (refine Nat.le_trans (Nt.trim_len _) ?_; simp only [List.length_map]; refine Nat.le_trans (Nt.trim_len _) ?_; first | omega | (simp; omega)))
    with_reducible refine Post.mono k47 ?_
    clear k47
    rintro _ u45 g46 ⟨y43, rfl, h44⟩
    have hly43 := h44.len
    refine sy_pure 4 (.v (.slice y43.a y43.n y43.c)) ?_
    refine sy_next 41 [(4, .v (.slice y43.a y43.n y43.c))] [] ?_
    refine sw_ret (ret0 [.slice y43.a y43.n y43.c] ⟨res_tmp, trivial⟩ fun u48 e49 => ?_)
    have hb0 : pb.length = 0 := by omega
    have hS9 := hS
    rw [Nt.mk_nil hb0] at hS9
    obtain ⟨k, hk0, hk⟩ := Nt.monic_scaled pa
    exact ⟨y43, _, pa, k, rfl, (h44.ext e49), hS9.gcd, hk0, hk, hWa.more (by omega)⟩
set_option maxHeartbeats 2000000 in
theorem k_poSquarefree {u w : World} {x : Sl} {l : List Rat} {K : Nat} (d : Dat u w) (hx : PolV u x l K) {A H N C : Nat} (hA : Nt.WhL (Nt.prim l) A) (hB : Nt.WhL (Nt.prim (Nt.trimQ (Nt.derQ l))) A) (hH : (A + 1) * (A + 1) * 3 ^ (2 * (l.length - 1) + 1) ≤ H * H) (hH9 : H ≤ 600000000) (hN1 : l.length ≤ N) (hN : (N + 1) * Nt.dg H ≤ 9500000) (hC : A + (l.length + 1) * (H + 1) ≤ C) (hC9 : C ≤ 600000000) (hK1 : (l.length + 1) * (K + 2) ≤ 20000000) (hS : (Nt.dg C + ((l.length * K + 2) + Nt.dg C + (N * (2 * Nt.dg H + 2) + 2))) ≤ 40000000) (hN9 : N ≤ 100000) : Calls Tryz.prog 36 #[x.v] w (Post u w fun v u' => ∃ (z : Sl) (s : Nt.Pol), v = z.v ∧ PolN u' z s.l (2 * (Nt.dg C + ((l.length * K + 2) + Nt.dg C + (N * (2 * Nt.dg H + 2) + 2))) + 2) ∧ Nt.IsSqf (Nt.Pol.mk' l) s) := by
  have hlen := hx.len
  have hK2 := hK1
  rw [Nat.add_mul] at hK2
  have hNN : (N + 1) * (2 * Nt.dg H + 2) = 2 * ((N + 1) * Nt.dg H) + 2 * (N + 1) := by rw [Nat.mul_add, Nat.mul_left_comm, Nat.mul_comm (N + 1) 2]
  have hdr : (Nt.trimQ (Nt.derQ l)).length ≤ l.length := by have h9 := Nt.trim_len (Nt.derQ l); rw [Nt.derQ_len] at h9; omega
  have hKl : (l.length + 1) * K ≤ (l.length + 1) * (K + 2) := Nat.mul_le_mul_left _ (Nat.le_add_right K 2)
  refine calls_sym (args := [.slice x.a x.n x.c]) Tryz.func36 rfl Tryz.ntmps36 (rs := [.tmp 2]) Tryz.results36 (le_b rfl) (le_b rfl) d ?_
  refine sw_seq ?_
  refine sw_reg ?_
  refine sy_pure 2 (.v (.slice none 0 0)) ?_
  refine sy_next 23 [(0, .v (.slice x.a x.n x.c))] [] ?_
  refine sw_seq ?_
  refine sw_reg ?_
  refine sy_pure 7 (.v (.slice x.a x.n x.c)) ?_
  refine sy_pure 8 (.v (.slice x.a x.n x.c)) ?_
  refine sy_call 9 34 [.slice x.a x.n x.c] ?_
  intro w11 u11 e11 d11
  have k16 := k_poDerivative d11 (hx.ext e11) (by omega) (by first | omega | (simp; omega) | (refine Nat.le_trans (Nt.trim_len _) ?_; first | omega | (simp; omega)) | (refine Nat.le_trans (Nt.trim_len _) ?_; simp only [List.length_map]; refine Nat.le_trans (Nt.trim_len _) ?_; first | omega | (simp; omega)))
  with_reducible refine Post.mono k16 ?_
  clear k16
  rintro _ u14 g15 ⟨y12, rfl, h13⟩
  have hly12 := h13.len
  refine sy_call 10 30 [.slice x.a x.n x.c, .slice y12.a y12.n y12.c] ?_
  intro w17 u17 e17 d17
  have k21 := k_poGcd (H := H) d17 (hx.ext (e11.trans (g15.ext.trans e17))) (h13.ext e17).raw hA hB (Nt.pot_der hH) hH9 (by omega) (by first | omega | (simp; omega) | (refine Nat.le_trans (Nt.trim_len _) ?_; first | omega | (simp; omega)) | (refine Nat.le_trans (Nt.trim_len _) ?_; simp only [List.length_map]; refine Nat.le_trans (Nt.trim_len _) ?_; first | omega | (simp; omega))) (by omega) (by omega) (Nat.le_trans (Nat.mul_le_mul_right _ (show (Nt.trimQ (Nt.derQ l)).length + 1 ≤ l.length + 1 by have h9 := Nt.trim_len (Nt.derQ l); rw [Nt.derQ_len] at h9; omega)) hK1) (by omega)
  with_reducible refine Post.mono k21 ?_
  clear k21
  rintro _ u19 g20 ⟨z18, g18, W18, k18, rfl, hz18, hg18, hk18, hW18, hw18⟩
  have hlz18 := hz18.len
  refine sy_pure 3 (.v (.slice z18.a z18.n z18.c)) ?_
  refine sy_next 23 [(0, .v (.slice x.a x.n x.c)), (3, .v (.slice z18.a z18.n z18.c))] [] ?_
  refine sw_seq ?_
  refine sw_seq ?_
  refine sw_reg ?_
  refine sy_pure 11 (.v (.slice z18.a z18.n z18.c)) ?_
  refine sy_pure 12 (.v (.int .i64 (z18.n : Int))) ?_
  refine sy_pure 13 (.v (.bool ((z18.n : Int) == 0))) ?_
  refine sy_next 23 [(0, .v (.slice x.a x.n x.c)), (3, .v (.slice z18.a z18.n z18.c)), (13, .v (.bool ((z18.n : Int) == 0)))] [] ?_
  refine sw_cond (b := (z18.n : Int) == 0) (by kernel_rfl) (fun hb22 => ?_) (fun hb22 => ?_)
  · replace hb22 : ((z18.n : Int) == 0) = true := hb22
    have qhb22 : (z18.n : Int) = 0 := by simpa using hb22
    refine sw_seq ?_
    refine sw_reg ?_
    refine sy_pure 2 (.v (.slice none 0 0)) ?_
    refine sy_next 23 [(2, .v (.slice none 0 0))] [] ?_
    refine sw_ret (mpr_seq (ret0 [.slice none 0 0] ⟨res_tmp, trivial⟩ fun u23 e24 => ?_))
    have hg0 : g18 = 0 := Nt.Pol.zero_of_len (by show g18.l.length = 0; omega)
    have hp0 : Nt.Pol.mk' l = 0 := by obtain ⟨u1, e1⟩ := hg18.l; rw [e1, hg0, Nt.Pol.zero_mul]
    exact ⟨⟨none, 0, 0⟩, 0, rfl, by rw [Nt.Pol.zero_l]; exact pol_nil _ _, .inl ⟨hp0, rfl⟩⟩
  · replace hb22 : ((z18.n : Int) == 0) = false := hb22
    have qhb22 : ¬ ((z18.n : Int) = 0) := by simpa using hb22
    refine sw_skip (mp_seq ?_)
    refine sw_seq ?_
    have hgn : g18 ≠ 0 := Nt.Pol.ne_of_len (by show 0 < g18.l.length; omega)
    have hp0 : Nt.Pol.mk' l ≠ 0 := by intro e; obtain ⟨u1, v1, e1⟩ := hg18.s; apply hgn; rw [e1, Nt.mk_trim, Nt.Pol.mk_D, e, Nt.Pol.D_zero, Nt.Pol.mul_zero, Nt.Pol.mul_zero, Nt.Pol.add_zero]
    have hgl : g18.l.length ≤ N := by have h9 := Nt.len_dvd hg18.l hp0; have h8 := Nt.mk_len l; change g18.l.length ≤ _ at h9; omega
    have hgt : Nt.trimQ g18.l ≠ [] := by intro e; have h9 : (Nt.trimQ g18.l).length = 0 := by { rw [e]; rfl }; rw [g18.h] at h9; omega
    have hgm : (g18.l.length + 1) * (2 * Nt.dg H + 2) ≤ (N + 1) * (2 * Nt.dg H + 2) := Nat.mul_le_mul_right _ (by omega)
    have hgm2 : g18.l.length * (2 * Nt.dg H + 2) ≤ N * (2 * Nt.dg H + 2) := Nat.mul_le_mul_right _ hgl
    refine sw_reg ?_
    refine sy_pure 15 (.v (.slice x.a x.n x.c)) ?_
    refine sy_pure 16 (.v (.slice z18.a z18.n z18.c)) ?_
    refine sy_call 17 27 [.slice x.a x.n x.c, .slice z18.a z18.n z18.c] ?_
    intro w25 u25 e25 d25
    have k29 := k_poDivMod1 (C := C) d25 (hx.ext (e11.trans (g15.ext.trans (e17.trans (g20.ext.trans e25))))) (hz18.ext e25).raw hgt hA (Nt.prim_bits hk18 hW18 hw18) hC hC9 (Nat.le_trans (Nat.mul_le_mul_left _ (Nat.le_add_right K 2)) hK1) (Nat.le_trans hgm (by rw [hNN]; omega)) (by omega) (by omega) (by omega)
    with_reducible refine Post.mono k29 ?_
    clear k29
    rintro _ u27 g28 ⟨y26, z26, q26, r26, rfl, ha26, hb26, eq26, el26⟩
    have hly26 := ha26.len
    have hlz26 := hb26.len
    have hlly26 := Nt.div_lenL eq26 el26
    refine sy_pure 14 (.v (.tuple #[.slice y26.a y26.n y26.c, .slice z26.a z26.n z26.c, .int .i64 0])) ?_
    refine sy_pure 18 (.v (.slice y26.a y26.n y26.c)) ?_
    refine sy_pure 19 (.v (.slice z26.a z26.n z26.c)) ?_
    refine sy_pure 20 (.v (.int .i64 0)) ?_
    refine sy_pure 4 (.v (.slice y26.a y26.n y26.c)) ?_
    refine sy_pure 5 (.v (.slice z26.a z26.n z26.c)) ?_
    refine sy_pure 6 (.v (.int .i64 0)) ?_
    refine sy_next 23 [(4, .v (.slice y26.a y26.n y26.c))] [] ?_
    refine sw_seq ?_
    refine sw_reg ?_
    refine sy_pure 21 (.v (.slice y26.a y26.n y26.c)) ?_
    refine sy_call 22 32 [.slice y26.a y26.n y26.c] ?_
    intro w30 u30 e30 d30
    have k35 := k_poMonic d30 (ha26.ext e30).raw (by omega) (by first | omega | (simp; omega) | (refine Nat.le_trans (Nt.trim_len _) ?_; first | omega | (simp; omega)) | (refine Nat.le_trans (Nt.trim_len _) ?_; simp only [List.length_map]; refine Nat.le_trans (Nt.trim_len _) ?_; first | omega | (simp; omega)))
    with_reducible refine Post.mono k35 ?_
    clear k35
    rintro _ u33 g34 ⟨y31, rfl, h32⟩
    have hly31 := h32.len
    refine sy_pure 2 (.v (.slice y31.a y31.n y31.c)) ?_
    refine sy_next 23 [(2, .v (.slice y31.a y31.n y31.c))] [] ?_
    refine sw_ret (ret0 [.slice y31.a y31.n y31.c] ⟨res_tmp, trivial⟩ fun u36 e37 => ?_)
    rw [Nt.Pol.mk_l] at eq26 el26
    obtain ⟨er, ep⟩ := Nt.div_exact eq26 el26 hg18.l
    refine ⟨y31, _, rfl, PolN.more (K := (2 * (Nt.dg C + ((l.length * K + 2) + Nt.dg C + (g18.l.length * (2 * Nt.dg H + 2) + 2))) + 2)) (h32.ext e37) (by omega), .inr ⟨hp0, g18, q26, ?_, hgn, ep, by rw [Nt.Pol.mk_l]⟩⟩
    rw [← Nt.Pol.mk_D, ← Nt.mk_trim (Nt.derQ l)]
    exact hg18
end Go.Proofs.YtnedhbidmfoegaaGreat
namespace Go.Proofs.YtnedhbidmfoegaaGreat
open Go.RowKit
set_option linter.unusedVariables false
set_option maxHeartbeats 1000000 in
theorem k_sameList {u w : World} {x : Sl} {l : List Rat} {y : Sl} {m : List Rat} {K M : Nat} (d : Dat u w) (hx : PolN u x l K) (hy : PolN u y m M) (hx9 : l.length ≤ 1000000000) (hy9 : m.length ≤ 1000000000) : Calls Tryz.prog 117 #[x.v, y.v] w (Post u w fun v u' => v = .bool (decide (l = m))) := by
  have hlen := hx.len
  have hlen2 := hy.len
  refine calls_sym (args := [.slice x.a x.n x.c, .slice y.a y.n y.c]) Tryz.func117 rfl Tryz.ntmps117 (rs := [.tmp 4]) Tryz.results117 (le_b rfl) (le_b rfl) d ?_
  refine sw_seq ?_
  refine sw_reg ?_
  refine sy_pure 4 (.v (.bool false)) ?_
  refine sy_next 27 [(0, .v (.slice x.a x.n x.c)), (1, .v (.slice y.a y.n y.c))] [] ?_
  refine sw_seq ?_
  refine sw_seq ?_
  refine sw_reg ?_
  refine sy_pure 6 (.v (.slice x.a x.n x.c)) ?_
  refine sy_pure 7 (.v (.int .i64 (x.n : Int))) ?_
  refine sy_pure 8 (.v (.slice y.a y.n y.c)) ?_
  refine sy_pure 9 (.v (.int .i64 (y.n : Int))) ?_
  refine sy_pure 10 (.v (.bool ((x.n : Int) != (y.n : Int)))) ?_
  refine sy_next 27 [(0, .v (.slice x.a x.n x.c)), (1, .v (.slice y.a y.n y.c)), (10, .v (.bool ((x.n : Int) != (y.n : Int))))] [] ?_
  refine sw_cond (b := (x.n : Int) != (y.n : Int)) (by kernel_rfl) (fun hb11 => ?_) (fun hb11 => ?_)
  · replace hb11 : ((x.n : Int) != (y.n : Int)) = true := hb11
    refine sw_seq ?_
    refine sw_reg ?_
    refine sy_pure 4 (.v (.bool false)) ?_
    refine sy_next 27 [(4, .v (.bool false))] [] ?_
    refine sw_ret (mpr_seq (ret0 [.bool false] ⟨res_tmp, trivial⟩ fun u12 e13 => ?_))
    have e9 : l ≠ m := by intro e; have h9 := congrArg List.length e; have h8 := hb11; simp at h8; omega
    show Value.bool false = Value.bool _
    rw [decide_eq_false e9]
  · replace hb11 : ((x.n : Int) != (y.n : Int)) = false := hb11
    have hnn : x.n = y.n := by have h9 : (x.n : Int) = (y.n : Int) := (by simpa using hb11); omega
    refine sw_skip (mp_seq ?_)
    refine sw_seq ?_
    refine sw_seq ?_
    refine sw_reg ?_
    refine sy_pure 5 (.v (.int .i64 0)) ?_
    refine sy_next 27 [(0, .v (.slice x.a x.n x.c)), (1, .v (.slice y.a y.n y.c)), (5, .v (.int .i64 0))] [] ?_
    refine sw_block ?_
    refine sw_loop (I := fun m14 S' u' => ∃ (i : Nat), (m14 = x.n - i) ∧ (i ≤ x.n) ∧ (∀ j, j < i → l.getD j 0 = m.getD j 0) ∧ (S' = St.of 27 [(0, .v (.slice x.a x.n x.c)), (1, .v (.slice y.a y.n y.c)), (5, .v (.int .i64 (i : Int)))] []) ∧ (Ext u u')) (fun m S u1 u2 e h => by obtain ⟨i, hm, p0, p1, hS, hE⟩ := h; exact ⟨i, hm, p0, p1, hS, hE.trans e⟩) _ (T := St.of 27 [(0, .v (.slice x.a x.n x.c)), (1, .v (.slice y.a y.n y.c)), (5, .v (.int .i64 0))] []) (by exact weak_mk _ _ _) ⟨0, rfl, by omega, fun j hj => by omega, rfl, Ext.refl _⟩ ?_
    rintro m14 _ u14 ⟨i, hm14, hi, hz, rfl, e14⟩
    refine sw_seq ?_
    refine sw_seq ?_
    refine sw_reg ?_
    refine sy_pure 11 (.v (.int .i64 (i : Int))) ?_
    refine sy_pure 12 (.v (.slice x.a x.n x.c)) ?_
    refine sy_pure 13 (.v (.int .i64 (x.n : Int))) ?_
    refine sy_pure 14 (.v (.bool (decide ((i : Int) < (x.n : Int))))) ?_
    refine sy_next 27 [(0, .v (.slice x.a x.n x.c)), (1, .v (.slice y.a y.n y.c)), (5, .v (.int .i64 (i : Int))), (14, .v (.bool (decide ((i : Int) < (x.n : Int)))))] [] ?_
    refine sw_cond (b := decide ((i : Int) < (x.n : Int))) (by kernel_rfl) (fun hb15 => ?_) (fun hb15 => ?_)
    · replace hb15 : (decide ((i : Int) < (x.n : Int))) = true := hb15
      have qhb15 := of_decide_eq_true hb15
      refine sw_skip (mp_seq ?_)
      refine sw_seq ?_
      refine sw_block ?_
      refine sw_seq ?_
      refine sw_any [0, 0, 3, 7, 0, 0, 48, 112, 255, 511] [(0, []), (1, []), (2, []), (3, []), (4, []), (5, []), (6, []), (7, []), (8, []), (9, [])] (by kernel_rfl) (by kernel_rfl) ?_
      refine sy_pure 17 (.v (.slice x.a x.n x.c)) ?_
      refine sy_pure 18 (.v (.int .i64 (i : Int))) ?_
      have hl16 := (hx.ext e14).len
      obtain ⟨r16, b16, o16, hA16, hc16, hr16⟩ := pol_atN (hx.ext e14) (i := i) (by omega)
      refine sy_index 19 (o16 + i * 3) (n := x.n) (off := o16) (sz := 3) (i := (i : Int)) (by omega) hA16 (by omega) (by omega) sl40 ?_
      refine sy_ldn 20 r16.cs hc16 ty26 ?_
      refine sy_pure 21 (.v (.slice y.a y.n y.c)) ?_
      refine sy_pure 22 (.v (.int .i64 (i : Int))) ?_
      have hl17 := (hy.ext e14).len
      obtain ⟨r17, b17, o17, hA17, hc17, hr17⟩ := pol_atN (hy.ext e14) (i := i) (by omega)
      refine sy_index 23 (o17 + i * 3) (n := y.n) (off := o17) (sz := 3) (i := (i : Int)) (by omega) hA17 (by omega) (by omega) sl40 ?_
      refine sy_ldn 24 r17.cs hc17 ty26 ?_
      refine sy_call 25 71 [r16.v, r17.v] ?_
      intro w18 u18 e18 d18
      have k21 := k_rqSame d18 (hr16.ext e18) (hr17.ext e18)
      with_reducible refine Post.mono k21 ?_
      clear k21
      rintro _ u19 g20 rfl
      refine sy_pure 26 (.v (.bool (!(decide ((l.getD i 0) = (m.getD i 0)))))) ?_
      refine sy_next 27 [(0, .v (.slice x.a x.n x.c)), (1, .v (.slice y.a y.n y.c)), (5, .v (.int .i64 (i : Int))), (26, .v (.bool (!(decide ((l.getD i 0) = (m.getD i 0))))))] [] ?_
      refine sw_cond (b := !(decide ((l.getD i 0) = (m.getD i 0)))) (by kernel_rfl) (fun hb22 => ?_) (fun hb22 => ?_)
      · replace hb22 : (!(decide ((l.getD i 0) = (m.getD i 0)))) = true := hb22
        refine sw_seq ?_
        refine sw_reg ?_
        refine sy_pure 4 (.v (.bool false)) ?_
        refine sy_next 27 [(4, .v (.bool false))] [] ?_
        refine sw_ret (mpr_block (mpr_seq (mpr_loop (mpr_block (mpr_seq (ret0 [.bool false] ⟨res_tmp, trivial⟩ fun u23 e24 => ?_))))))
        have e9 : l ≠ m := by intro e; have h9 := hb22; rw [e] at h9; simp at h9
        show Value.bool false = Value.bool _
        rw [decide_eq_false e9]
      · replace hb22 : (!(decide ((l.getD i 0) = (m.getD i 0)))) = false := hb22
        refine sw_skip (mp_seq ?_)
        refine sw_reg ?_
        refine sy_pure 15 (.v (.int .i64 (i : Int))) ?_
        refine sy_eq 16 (x := .v (.int .i64 (IntKind.i64.wrap ((i : Int) + 1)))) (.v (.int .i64 ((i + 1 : Nat) : Int))) (eqI (by rw [IntWalk.i64_in _ (by omega)]; omega)) ?_
        refine sy_pure 5 (.v (.int .i64 ((i + 1 : Nat) : Int))) ?_
        refine sy_end ?_
        refine ⟨_, ?_, St.of 27 [(0, .v (.slice x.a x.n x.c)), (1, .v (.slice y.a y.n y.c)), (5, .v (.int .i64 ((i + 1 : Nat) : Int)))] [], by exact weak_mk _ _ _, i + 1, rfl, by omega, (fun j hj => by by_cases e : j = i; (rw [e]; have h9 := hb22; simpa using h9); exact hz j (by omega)), rfl, (e14.trans (e18.trans g20.ext))⟩
        omega
    · replace hb15 : (decide ((i : Int) < (x.n : Int))) = false := hb15
      have qhb15 := of_decide_eq_false hb15
      refine sw_exit ?_
      refine mp_seq ?_
      refine sw_seq ?_
      refine sw_reg ?_
      refine sy_pure 4 (.v (.bool true)) ?_
      refine sy_next 27 [(4, .v (.bool true))] [] ?_
      refine sw_ret (ret0 [.bool true] ⟨res_tmp, trivial⟩ fun u25 e26 => ?_)
      have e9 : l = m := Nt.list_ext (by omega) (fun j => by by_cases hj : j < i; exact hz j hj; rw [Nt.co_ge (by omega), Nt.co_ge (by omega)])
      show Value.bool true = Value.bool _
      rw [decide_eq_true e9]
theorem k_r5Equal {u w : World} {x : Sl} {l : List Rat} {y : Sl} {m : List Rat} {K M : Nat} (d : Dat u w) (hx : PolN u x l K) (hy : PolN u y m M) (hx9 : l.length ≤ 1000000000) (hy9 : m.length ≤ 1000000000) : Calls Tryz.prog 29 #[x.v, y.v] w (Post u w fun v u' => v = .bool (decide (l = m))) := by
  have hlen := hx.len
  have hlen2 := hy.len
  refine calls_sym (args := [.slice x.a x.n x.c, .slice y.a y.n y.c]) Tryz.func29 rfl Tryz.ntmps29 (rs := [.tmp 4]) Tryz.results29 (le_b rfl) (le_b rfl) d ?_
  refine sw_seq ?_
  refine sw_reg ?_
  refine sy_pure 4 (.v (.bool false)) ?_
  refine sy_next 8 [(0, .v (.slice x.a x.n x.c)), (1, .v (.slice y.a y.n y.c))] [] ?_
  refine sw_seq ?_
  refine sw_reg ?_
  refine sy_pure 5 (.v (.slice x.a x.n x.c)) ?_
  refine sy_pure 6 (.v (.slice y.a y.n y.c)) ?_
  refine sy_call 7 117 [.slice x.a x.n x.c, .slice y.a y.n y.c] ?_
  intro w11 u11 e11 d11
  have k14 := k_sameList d11 (hx.ext e11) (hy.ext e11) (by first | omega | (simp; omega) | (refine Nat.le_trans (Nt.trim_len _) ?_; first | omega | (simp; omega)) | (refine Nat.le_trans (Nt.trim_len _) ?_; simp only [List.length_map]; refine Nat.le_trans (Nt.trim_len _) ?_; first | omega | (simp; omega))) (by first | omega | (simp; omega) | (refine Nat.le_trans (Nt.trim_len _) ?_; first | omega | (simp; omega)) | (refine Nat.le_trans (Nt.trim_len _) ?_; simp only [List.length_map]; refine Nat.le_trans (Nt.trim_len _) ?_; first | omega | (simp; omega)))
  with_reducible refine Post.mono k14 ?_
  clear k14
  rintro _ u12 g13 rfl
  refine sy_pure 4 (.v (.bool (decide (l = m)))) ?_
  refine sy_next 8 [(4, .v (.bool (decide (l = m))))] [] ?_
  refine sw_ret (ret0 [.bool (decide (l = m))] ⟨res_tmp, trivial⟩ fun u15 e16 => ?_)
  rfl
end Go.Proofs.YtnedhbidmfoegaaGreat
namespace Go.Proofs.YtnedhbidmfoegaaGreat
open Go.RowKit
set_option linter.unusedVariables false
namespace Nt
namespace Pol
theorem monic_zero : (0 : Pol).monic = 0 := by unfold monic; rw [mul_zero]
theorem IsGcd.mul {p q g : Pol} (h : IsGcd p q g) (r : Pol) : IsGcd (p * r) (q * r) (g * r).monic := by
  obtain ⟨u1, e1⟩ := h.l
  obtain ⟨u2, e2⟩ := h.r
  obtain ⟨s, t, e3⟩ := h.s
  by_cases h0 : g * r = 0
  · rw [h0, monic_zero]
    exact ⟨.inl rfl, ⟨0, by rw [e1]; grind⟩, ⟨0, by rw [e2]; grind⟩, ⟨0, 0, by grind⟩⟩
  · have h1 := lead_ne h0
    have h2 := C_inv h1
    refine ⟨.inr (monic_lead h0), ⟨C (g * r).lead * u1, ?_⟩, ⟨C (g * r).lead * u2, ?_⟩, ⟨C (1 / (g * r).lead) * s, C (1 / (g * r).lead) * t, ?_⟩⟩
    · unfold monic; grind
    · unfold monic; grind
    · unfold monic; grind
theorem IsGcd.zero_iff {p q g : Pol} (h : IsGcd p q g) (h0 : g = 0) : p = 0 ∧ q = 0 := by
  obtain ⟨u1, e1⟩ := h.l
  obtain ⟨u2, e2⟩ := h.r
  subst h0
  exact ⟨by rw [e1, zero_mul], by rw [e2, zero_mul]⟩
theorem npow_zero (p : Pol) : npow p 0 = 1 := rfl
theorem npow_succ (p : Pol) (n : Nat) : npow p (n + 1) = npow p n * p := rfl
end Pol
section
variable {l m : List Rat} {D E A B n : Nat}
theorem Sm.npow (h : Sm l D A) (n : Nat) : Sm (Pol.npow (Pol.mk' l) n).l (D ^ n) (n * (A + l.length)) := by
  induction n with
  | zero =>
    rw [Pol.npow_zero, Nat.pow_zero, Nat.zero_mul]
    exact (show Sm (List.map (fun z : Int => (z : Rat)) [1]) 1 0 from Sm.ofInts (by decide)).trim
  | succ n ih =>
    rw [Pol.npow_succ, Nat.pow_succ, Nat.add_mul, Nat.one_mul]
    have h9 := (ih.mulR (h.trim : Sm (Pol.mk' l).l D A)).trim.more (B := n * (A + l.length) + (A + l.length)) (by have h8 := trim_len l; change _ + A + (trimQ l).length ≤ _; omega)
    exact h9
theorem len_of_co {a : Nat} (h : ∀ i, a ≤ i → Nt.co l i = 0) : (trimQ l).length ≤ a := Pol.len_le (p := Pol.mk' l) fun i hi => by rw [Pol.mk_c]; exact h i hi
theorem mul_lenQ {a b : Nat} (h1 : l.length ≤ a) (h2 : m.length ≤ b) : (trimQ (mulQ l m)).length ≤ a + b - 1 := len_of_co fun i hi => mulQ_far (by omega)
theorem der_lenQ {a : Nat} (h1 : l.length ≤ a) : (trimQ (derQ l)).length ≤ a - 1 := Nat.le_trans (trim_len _) (by rw [derQ_len]; omega)
theorem map_lenQ {a : Nat} {f : Rat → Rat} (h1 : l.length ≤ a) : (trimQ (l.map f)).length ≤ a := Nat.le_trans (trim_len _) (by rw [List.length_map]; omega)
end
end Nt
end Go.Proofs.YtnedhbidmfoegaaGreat
namespace Go.Proofs.YtnedhbidmfoegaaGreat
open Go.RowKit
set_option linter.unusedVariables false
namespace Nt
theorem frac_mul {a b c : Int} (hb : b ≠ 0) : (a : Rat) / (b : Rat) * ((b * c : Int) : Rat) = ((a * c : Int) : Rat) := by
  rw [Rat.intCast_mul, Rat.intCast_mul]
  have : (b : Rat) ≠ 0 := fun e => hb (Rat.intCast_inj.1 (show (b : Rat) = ((0 : Int) : Rat) from e))
  grind
section
variable {p q : List Rat} {u v x y : Pol}
end
end Nt
end Go.Proofs.YtnedhbidmfoegaaGreat
namespace Go.Proofs.YtnedhbidmfoegaaGreat
open Go.RowKit
set_option linter.unusedVariables false
section
variable {P : Program} {ops : Array Oper} {w0 : Base} {u0 : World} {S : St} {u u' w : World} {o : Oper} {p : List Tmp} {seq : Bool} {rest : List (Oper × List Tmp)} {K : St → World → Prop}
end
section
variable {u u' : World} {A : Option Addr} {n c i : Nat} {l : List Int} {k : IntKind}
theorem ints_at (h : SlR k u A n c l) (hi : i < n) : ∃ b o, A = some ⟨b, o, none⟩ ∧ u.cell? ⟨b, o + i * 1, none⟩ = some (.int k (l.getD i 0)) := by
  obtain ⟨h1, h2, h3, h4⟩ := h
  obtain ⟨b, o, e, _, hc⟩ := h4 (by omega)
  exact ⟨b, o, e, by rw [Nat.mul_one]; exact hc i hi⟩
theorem ints_bd {lo hi : Int} (h : ∀ z ∈ l, lo ≤ z ∧ z ≤ hi) (h0 : lo ≤ 0 ∧ 0 ≤ hi) (i : Nat) : lo ≤ l.getD i 0 ∧ l.getD i 0 ≤ hi := by
  rw [List.getD_eq_getElem?_getD]
  cases e : l[i]? with
  | none => exact h0
  | some z => exact h z (List.mem_of_getElem? e)
end
end Go.Proofs.YtnedhbidmfoegaaGreat
namespace Go.Proofs.YtnedhbidmfoegaaGreat
open Go.RowKit
set_option linter.unusedVariables false
end Go.Proofs.YtnedhbidmfoegaaGreat
namespace Go.Proofs.YtnedhbidmfoegaaGreat.Nt
open Go.RowKit
open Pol
set_option linter.unusedVariables false
theorem awake_dm {q r : Pol} (h : mk' [((0 : Int) : Rat), ((0 : Int) : Rat), ((1 : Int) : Rat)] = q * mk' [(((-1) : Int) : Rat), ((1 : Int) : Rat)] + r) (hr : r.len < (mk' [(((-1) : Int) : Rat), ((1 : Int) : Rat)]).len) :
    q.l = [((1 : Int) : Rat), ((1 : Int) : Rat)] ∧ r.l = [((1 : Int) : Rat)] := by
  have e : mk' [((0 : Int) : Rat), ((0 : Int) : Rat), ((1 : Int) : Rat)] = mk' [((1 : Int) : Rat), ((1 : Int) : Rat)] * mk' [(((-1) : Int) : Rat), ((1 : Int) : Rat)] + mk' [((1 : Int) : Rat)] := eqk (by decide +kernel)
  have h9 := div_unique (h.symm.trans e) hr (by decide +kernel)
  rw [h9.1, h9.2]
  exact ⟨by decide +kernel, by decide +kernel⟩
theorem awake_sqf {s : Pol} (h : IsSqf (mk' [((0 : Int) : Rat), ((0 : Int) : Rat), (((-1) : Int) : Rat), ((1 : Int) : Rat)]) s) : s.l = [((0 : Int) : Rat), (((-1) : Int) : Rat), ((1 : Int) : Rat)] := by
  have k : IsSqf (mk' [((0 : Int) : Rat), ((0 : Int) : Rat), (((-1) : Int) : Rat), ((1 : Int) : Rat)]) (mk' [((0 : Int) : Rat), (((-1) : Int) : Rat), ((1 : Int) : Rat)]) :=
    .inr ⟨ne_of_len (by decide +kernel), mk' [0, 1], mk' [0, -1, 1],
      ⟨.inr (by decide +kernel), ⟨mk' [0, -1, 1], eqk (by decide +kernel)⟩, ⟨mk' [-2, 3], eqk (by decide +kernel)⟩, ⟨mk' [-9/2], mk' [-1/2, 3/2], eqk (by decide +kernel)⟩⟩,
      ne_of_len (by decide +kernel), eqk (by decide +kernel), eqk (by decide +kernel)⟩
  rw [h.unique k]
  decide +kernel
end Go.Proofs.YtnedhbidmfoegaaGreat.Nt
namespace Go.Proofs.YtnedhbidmfoegaaGreat
open Go.RowKit
set_option linter.unusedVariables false
set_option maxHeartbeats 4000000 in
theorem k_awake5 {u w : World} (d : Dat u w) : Calls Tryz.prog 26 #[] w (Post u w fun v _ => v = .bool true) := by
  refine calls_sym (args := []) Tryz.func26 rfl Tryz.ntmps26 (rs := [.tmp 0]) Tryz.results26 (le_b rfl) (le_b rfl) d ?_
  refine sw_seq ?_
  refine sw_reg ?_
  refine sy_pure 0 (.v (.bool false)) ?_
  refine sy_next 50 [] [] ?_
  refine sw_seq ?_
  refine sw_reg ?_
  refine sy_call 5 41 [.int .i64 1] ?_
  intro w11 u11 e11 d11
  have k16 := k_rqOf d11 (z := 1) (by omega) (by omega)
  with_reducible refine Post.mono k16 ?_
  clear k16
  rintro _ u14 g15 ⟨r12, rfl, h13⟩
  refine sy_new 1 ⟨26, [.bool false, .slice none 0 0, .slice none 0 0]⟩ ?_
  refine sy_store ⟨26, r12.cs⟩ ty26 ?_
  refine sy_next 50 [(1, .adr 1 0)] [(1, ⟨26, r12.cs⟩)] ?_
  refine sw_seq ?_
  refine sw_any [0, 1, 0, 7, 3, 0, 51, 127, 255, 511, 511, 511, 1023, 6143, 16383] [(2, []), (5, []), (0, []), (1, []), (3, []), (4, []), (6, []), (7, [10, 13]), (8, []), (9, []), (10, []), (11, []), (12, []), (13, []), (14, [])] (by kernel_rfl) (by kernel_rfl) ?_
  refine sy_ldv 9 (.v (r12.v)) ty26 part_agg ?_
  refine sy_ldv 12 (.v (r12.v)) ty26 part_agg ?_
  refine sy_call 7 41 [.int .i64 0] ?_
  intro w17 u17 e17 d17
  have k22 := k_rqOf d17 (z := 0) (by omega) (by omega)
  with_reducible refine Post.mono k22 ?_
  clear k22
  rintro _ u20 g21 ⟨r18, rfl, h19⟩
  refine sy_call 8 41 [.int .i64 0] ?_
  intro w23 u23 e23 d23
  have k28 := k_rqOf d23 (z := 0) (by omega) (by omega)
  with_reducible refine Post.mono k28 ?_
  clear k28
  rintro _ u26 g27 ⟨r24, rfl, h25⟩
  refine sy_lit 10 ⟨26, r18.cs ++ r24.cs ++ r12.cs⟩ 3 ?_
  refine sy_call 11 41 [.int .i64 (-1)] ?_
  intro w29 u29 e29 d29
  have k34 := k_rqOf d29 (z := (-1)) (by omega) (by omega)
  with_reducible refine Post.mono k34 ?_
  clear k34
  rintro _ u32 g33 ⟨r30, rfl, h31⟩
  refine sy_lit 13 ⟨26, r30.cs ++ r12.cs⟩ 2 ?_
  refine sy_give 14 27 [.slc 10 0 3 3, .slc 13 0 2 2] [10, 13] (.inr rfl) (pub_mk (by repeat first | exact noAt_of | refine noAt_set ?_ | refine noAt_lit ?_ | refine noAt_new ?_ | refine noAt_setVar ?_ | refine noAt_unpub ?_)) (k := ?_)
  intro B35 w35 u35 e35 d35 v35
  have h37 : u35.heap[B35 10]? = some (.cells #[.bool r18.s, .slice r18.m.a r18.m.n r18.m.c, .slice r18.d.a r18.d.n r18.d.c, .bool r24.s, .slice r24.m.a r24.m.n r24.m.c, .slice r24.d.a r24.d.n r24.d.c, .bool r12.s, .slice r12.m.a r12.m.n r12.m.c, .slice r12.d.a r12.d.n r12.d.c] 26 (0, 0)) := v35 10 (by simp) _ rfl
  obtain ⟨b36, hBb36⟩ : ∃ b, B35 10 = b := ⟨_, rfl⟩
  rw [hBb36] at h37
  have hp38 : PolN u35 (⟨some ⟨b36, 0, none⟩, 3, 3⟩ : Sl) [((0 : Int) : Rat), ((0 : Int) : Rat), ((1 : Int) : Rat)] 2 := pol_lit (L := [r18, r24, r12]) h37 (rats3 (h19.ext (e23.trans (g27.ext.trans (e29.trans (g33.ext.trans e35))))) (h25.ext (e29.trans (g33.ext.trans e35))) (h13.ext (e17.trans (g21.ext.trans (e23.trans (g27.ext.trans (e29.trans (g33.ext.trans e35)))))))) rfl (by decide)
  have h40 : u35.heap[B35 13]? = some (.cells #[.bool r30.s, .slice r30.m.a r30.m.n r30.m.c, .slice r30.d.a r30.d.n r30.d.c, .bool r12.s, .slice r12.m.a r12.m.n r12.m.c, .slice r12.d.a r12.d.n r12.d.c] 26 (0, 0)) := v35 13 (by simp) _ rfl
  obtain ⟨b39, hBb39⟩ : ∃ b, B35 13 = b := ⟨_, rfl⟩
  rw [hBb39] at h40
  have hp41 : PolN u35 (⟨some ⟨b39, 0, none⟩, 2, 2⟩ : Sl) [(((-1) : Int) : Rat), ((1 : Int) : Rat)] 2 := pol_lit (L := [r30, r12]) h40 (rats2 (h31.ext e35) (h13.ext (e17.trans (g21.ext.trans (e23.trans (g27.ext.trans (e29.trans (g33.ext.trans e35)))))))) rfl (by decide)
  show Calls _ _ #[.slice (some ⟨B35 10, 0, none⟩) 3 3, .slice (some ⟨B35 13, 0, none⟩) 2 2] _ _
  rw [hBb36, hBb39]
  have k45 := k_poDivMod1 (C := 9) d35 hp38.raw hp41.raw (show Nt.trimQ [(((-1) : Int) : Rat), ((1 : Int) : Rat)] ≠ [] by decide +kernel) ((show Nt.Sm [((0 : Int) : Rat), ((0 : Int) : Rat), ((1 : Int) : Rat)] 1 1 from Nt.Sm.ofInts (zs := [0, 0, 1]) (by decide))).prim ((show Nt.Sm [(((-1) : Int) : Rat), ((1 : Int) : Rat)] 1 1 from Nt.Sm.ofInts (zs := [(-1), 1]) (by decide))).prim (by have h9 := (show ([((0 : Int) : Rat), ((0 : Int) : Rat), ((1 : Int) : Rat)]).length ≤ 3 by decide); have h8 := (show ([(((-1) : Int) : Rat), ((1 : Int) : Rat)]).length ≤ 2 by decide); omega) (by decide) (by have h9 := (show ([((0 : Int) : Rat), ((0 : Int) : Rat), ((1 : Int) : Rat)]).length ≤ 3 by decide); omega) (by have h9 := (show ([(((-1) : Int) : Rat), ((1 : Int) : Rat)]).length ≤ 2 by decide); omega) (by have h9 := (show ([((0 : Int) : Rat), ((0 : Int) : Rat), ((1 : Int) : Rat)]).length ≤ 3 by decide); have h8 := (show ([(((-1) : Int) : Rat), ((1 : Int) : Rat)]).length ≤ 2 by decide); have h7 : Nt.dg 9 = 1 := (by decide +kernel); omega) (by have h9 := (show ([((0 : Int) : Rat), ((0 : Int) : Rat), ((1 : Int) : Rat)]).length ≤ 3 by decide); omega) (by have h9 := (show ([(((-1) : Int) : Rat), ((1 : Int) : Rat)]).length ≤ 2 by decide); omega)
  with_reducible refine Post.mono k45 ?_
  clear k45
  rintro _ u43 g44 ⟨y42, z42, q42, r42, rfl, ha42, hb42, eq42, el42⟩
  have hly42 := ha42.len
  have hlz42 := hb42.len
  have hlly42 := Nt.div_lenL eq42 el42
  have hm48 : q42.l.length ≤ 3 := by have h9 := (show ([((0 : Int) : Rat), ((0 : Int) : Rat), ((1 : Int) : Rat)]).length ≤ 3 by decide); omega
  have hm49 : r42.l.length ≤ 2 := by have h9 := (show ([(((-1) : Int) : Rat), ((1 : Int) : Rat)]).length ≤ 2 by decide); omega
  have hk46 : PolN _ y42 q42.l 16 := PolN.more ha42 (by have h9 := (show ([((0 : Int) : Rat), ((0 : Int) : Rat), ((1 : Int) : Rat)]).length ≤ 3 by decide); have h8 := (show ([(((-1) : Int) : Rat), ((1 : Int) : Rat)]).length ≤ 2 by decide); have h7 : Nt.dg 9 = 1 := (by decide +kernel); omega)
  have hk47 : PolN _ z42 r42.l 16 := PolN.more hb42 (by have h9 := (show ([((0 : Int) : Rat), ((0 : Int) : Rat), ((1 : Int) : Rat)]).length ≤ 3 by decide); have h8 := (show ([(((-1) : Int) : Rat), ((1 : Int) : Rat)]).length ≤ 2 by decide); have h7 : Nt.dg 9 = 1 := (by decide +kernel); omega)
  refine sy_pure 6 (.v (.tuple #[.slice y42.a y42.n y42.c, .slice z42.a z42.n z42.c, .int .i64 0])) ?_
  refine sy_pure 15 (.v (.slice y42.a y42.n y42.c)) ?_
  refine sy_pure 16 (.v (.slice z42.a z42.n z42.c)) ?_
  refine sy_pure 17 (.v (.int .i64 0)) ?_
  refine sy_pure 2 (.v (.slice y42.a y42.n y42.c)) ?_
  refine sy_pure 3 (.v (.slice z42.a z42.n z42.c)) ?_
  refine sy_pure 4 (.v (.int .i64 0)) ?_
  refine sy_next 50 [(1, .adr 1 0), (2, .v (.slice y42.a y42.n y42.c)), (3, .v (.slice z42.a z42.n z42.c)), (4, .v (.int .i64 0))] [(1, ⟨26, r12.cs⟩)] ?_
  refine sw_seq ?_
  refine sw_any [0, 1, 3, 7, 7, 7, 55, 127, 255, 511, 1023, 1023, 3071, 8191, 16383, 32767, 65535, 131071, 262143, 524287, 1048575, 2097151, 4194303, 1048575, 16777215, 33554431, 67108863, 134217727, 1048575, 536870911, 1073741823, 2147483647, 4294967295] [(0, []), (1, []), (2, []), (3, []), (4, []), (5, []), (6, []), (7, [24]), (8, []), (9, []), (10, []), (11, []), (12, []), (13, [30]), (14, []), (15, []), (16, []), (17, []), (18, []), (19, []), (23, []), (28, []), (20, []), (21, []), (22, []), (24, []), (25, [42]), (26, []), (27, []), (29, []), (30, [47]), (31, []), (32, [])] (by kernel_rfl) (by kernel_rfl) ?_
  refine sy_pure 18 (.v (.int .i64 0)) ?_
  refine sy_pure 19 (.v (.bool true)) ?_
  refine sy_pure 20 (.v (.bool true)) ?_
  refine sy_pure 21 (.v (.slice y42.a y42.n y42.c)) ?_ (hw := w1 2 true 20)
  refine sy_ldv 22 (.v (r12.v)) ty26 part_agg ?_ (hw := w1 2 true 20)
  refine sy_ldv 23 (.v (r12.v)) ty26 part_agg ?_ (hw := w1 2 true 20)
  refine sy_lit 24 ⟨26, r12.cs ++ r12.cs⟩ 2 ?_ (hw := w1 2 true 20)
  refine sy_give 25 29 [.v (.slice y42.a y42.n y42.c), .slc 24 0 2 2] [24] (.inr rfl) (pub_mk (by repeat first | exact noAt_of | refine noAt_set ?_ | refine noAt_lit ?_ | refine noAt_new ?_ | refine noAt_setVar ?_ | refine noAt_unpub ?_)) (k := ?_) (hw := w1 2 true 20)
  intro B50 w50 u50 e50 d50 v50
  have h52 : u50.heap[B50 24]? = some (.cells #[.bool r12.s, .slice r12.m.a r12.m.n r12.m.c, .slice r12.d.a r12.d.n r12.d.c, .bool r12.s, .slice r12.m.a r12.m.n r12.m.c, .slice r12.d.a r12.d.n r12.d.c] 26 (0, 0)) := v50 24 (by simp) _ rfl
  obtain ⟨b51, hBb51⟩ : ∃ b, B50 24 = b := ⟨_, rfl⟩
  rw [hBb51] at h52
  have hp53 : PolN u50 (⟨some ⟨b51, 0, none⟩, 2, 2⟩ : Sl) [((1 : Int) : Rat), ((1 : Int) : Rat)] 2 := pol_lit (L := [r12, r12]) h52 (rats2 (h13.ext (e17.trans (g21.ext.trans (e23.trans (g27.ext.trans (e29.trans (g33.ext.trans (e35.trans (g44.ext.trans e50))))))))) (h13.ext (e17.trans (g21.ext.trans (e23.trans (g27.ext.trans (e29.trans (g33.ext.trans (e35.trans (g44.ext.trans e50)))))))))) rfl (by decide)
  show Calls _ _ #[.slice y42.a y42.n y42.c, .slice (some ⟨B50 24, 0, none⟩) 2 2] _ _
  rw [hBb51]
  have k56 := k_r5Equal d50 (hk46.ext e50) hp53 (by first | omega | (simp; omega) | (refine Nat.le_trans (Nt.trim_len _) ?_; first | omega | (simp; omega)) | (refine Nat.le_trans (Nt.trim_len _) ?_; simp only [List.length_map]; refine Nat.le_trans (Nt.trim_len _) ?_; first | omega | (simp; omega))) (by simp)
  with_reducible refine Post.mono k56 ?_
  clear k56
  rintro _ u54 g55 rfl
  refine sy_pure 26 (.v (.bool (decide (q42.l = [((1 : Int) : Rat), ((1 : Int) : Rat)])))) ?_
  refine sy_eq 27 (x := .v (.bool (decide (q42.l = [((1 : Int) : Rat), ((1 : Int) : Rat)])))) (.v (.bool true)) (by rw [show (decide (q42.l = [((1 : Int) : Rat), ((1 : Int) : Rat)])) = true from decide_eq_true (Nt.awake_dm eq42 el42).1]) ?_
  refine sy_pure 28 (.v (.slice z42.a z42.n z42.c)) ?_ (hw := w1 9 true 27)
  refine sy_ldv 29 (.v (r12.v)) ty26 part_agg ?_ (hw := w1 9 true 27)
  refine sy_lit 30 ⟨26, r12.cs⟩ 1 ?_ (hw := w1 9 true 27)
  refine sy_give 31 29 [.v (.slice z42.a z42.n z42.c), .slc 30 0 1 1] [30] (.inr rfl) (pub_mk (by repeat first | exact noAt_of | refine noAt_set ?_ | refine noAt_lit ?_ | refine noAt_new ?_ | refine noAt_setVar ?_ | refine noAt_unpub ?_)) (k := ?_) (hw := w1 9 true 27)
  intro B58 w58 u58 e58 d58 v58
  have h60 : u58.heap[B58 30]? = some (.cells #[.bool r12.s, .slice r12.m.a r12.m.n r12.m.c, .slice r12.d.a r12.d.n r12.d.c] 26 (0, 0)) := v58 30 (by simp) _ rfl
  obtain ⟨b59, hBb59⟩ : ∃ b, B58 30 = b := ⟨_, rfl⟩
  rw [hBb59] at h60
  have hp61 : PolN u58 (⟨some ⟨b59, 0, none⟩, 1, 1⟩ : Sl) [((1 : Int) : Rat)] 2 := pol_lit (L := [r12]) h60 (rats1 (h13.ext (e17.trans (g21.ext.trans (e23.trans (g27.ext.trans (e29.trans (g33.ext.trans (e35.trans (g44.ext.trans (e50.trans (g55.ext.trans e58)))))))))))) rfl (by decide)
  show Calls _ _ #[.slice z42.a z42.n z42.c, .slice (some ⟨B58 30, 0, none⟩) 1 1] _ _
  rw [hBb59]
  have k64 := k_r5Equal d58 (hk47.ext (e50.trans (g55.ext.trans e58))) hp61 (by first | omega | (simp; omega) | (refine Nat.le_trans (Nt.trim_len _) ?_; first | omega | (simp; omega)) | (refine Nat.le_trans (Nt.trim_len _) ?_; simp only [List.length_map]; refine Nat.le_trans (Nt.trim_len _) ?_; first | omega | (simp; omega))) (by simp)
  with_reducible refine Post.mono k64 ?_
  clear k64
  rintro _ u62 g63 rfl
  refine sy_pure 32 (.v (.bool (decide (r42.l = [((1 : Int) : Rat)])))) ?_
  refine sy_eq 33 (x := .v (.bool (decide (r42.l = [((1 : Int) : Rat)])))) (.v (.bool true)) (by rw [show (decide (r42.l = [((1 : Int) : Rat)])) = true from decide_eq_true (Nt.awake_dm eq42 el42).2]) ?_
  refine sy_call 34 45 [.slice none 0 0] ?_ (hw := w1 15 true 33)
  intro w66 u66 e66 d66
  have k69 := k_poDegree (l := []) (x := ⟨none, 0, 0⟩) d66 (pol_nil _ 1).raw (by omega) (by decide)
  with_reducible refine Post.mono k69 ?_
  clear k69
  rintro _ u67 g68 rfl
  refine sy_pure 35 (.v (.bool ((((Nt.trimQ []).length : Int) - 1) == (-1)))) ?_ (hw := w1 15 true 33)
  refine sy_pure 36 (.v (.bool ((((Nt.trimQ []).length : Int) - 1) == (-1)))) ?_
  refine sy_eq 37 (x := .v (.bool ((((Nt.trimQ []).length : Int) - 1) == (-1)))) (.v (.bool true)) (by rw [show ((((Nt.trimQ []).length : Int) - 1) == (-1)) = true from (by decide +kernel)]) ?_
  refine sy_ldv 41 (.v (r12.v)) ty26 part_agg ?_ (hw := w1 19 true 37)
  refine sy_ldv 46 (.v (r12.v)) ty26 part_agg ?_ (hw := w1 19 true 37)
  refine sy_call 38 41 [.int .i64 0] ?_ (hw := w1 19 true 37)
  intro w71 u71 e71 d71
  have k76 := k_rqOf d71 (z := 0) (by omega) (by omega)
  with_reducible refine Post.mono k76 ?_
  clear k76
  rintro _ u74 g75 ⟨r72, rfl, h73⟩
  refine sy_call 39 41 [.int .i64 0] ?_ (hw := w1 19 true 37)
  intro w77 u77 e77 d77
  have k82 := k_rqOf d77 (z := 0) (by omega) (by omega)
  with_reducible refine Post.mono k82 ?_
  clear k82
  rintro _ u80 g81 ⟨r78, rfl, h79⟩
  refine sy_call 40 41 [.int .i64 (-1)] ?_ (hw := w1 19 true 37)
  intro w83 u83 e83 d83
  have k88 := k_rqOf d83 (z := (-1)) (by omega) (by omega)
  with_reducible refine Post.mono k88 ?_
  clear k88
  rintro _ u86 g87 ⟨r84, rfl, h85⟩
  refine sy_lit 42 ⟨26, r72.cs ++ r78.cs ++ r84.cs ++ r12.cs⟩ 4 ?_ (hw := w1 19 true 37)
  refine sy_give 43 36 [.slc 42 0 4 4] [42] (.inr rfl) (pub_mk (by repeat first | exact noAt_of | refine noAt_set ?_ | refine noAt_lit ?_ | refine noAt_new ?_ | refine noAt_setVar ?_ | refine noAt_unpub ?_)) (k := ?_) (hw := w1 19 true 37)
  intro B89 w89 u89 e89 d89 v89
  have h91 : u89.heap[B89 42]? = some (.cells #[.bool r72.s, .slice r72.m.a r72.m.n r72.m.c, .slice r72.d.a r72.d.n r72.d.c, .bool r78.s, .slice r78.m.a r78.m.n r78.m.c, .slice r78.d.a r78.d.n r78.d.c, .bool r84.s, .slice r84.m.a r84.m.n r84.m.c, .slice r84.d.a r84.d.n r84.d.c, .bool r12.s, .slice r12.m.a r12.m.n r12.m.c, .slice r12.d.a r12.d.n r12.d.c] 26 (0, 0)) := v89 42 (by simp) _ rfl
  obtain ⟨b90, hBb90⟩ : ∃ b, B89 42 = b := ⟨_, rfl⟩
  rw [hBb90] at h91
  have hp92 : PolN u89 (⟨some ⟨b90, 0, none⟩, 4, 4⟩ : Sl) [((0 : Int) : Rat), ((0 : Int) : Rat), (((-1) : Int) : Rat), ((1 : Int) : Rat)] 2 := pol_lit (L := [r72, r78, r84, r12]) h91 (rats4 (h73.ext (e77.trans (g81.ext.trans (e83.trans (g87.ext.trans e89))))) (h79.ext (e83.trans (g87.ext.trans e89))) (h85.ext e89) (h13.ext (e17.trans (g21.ext.trans (e23.trans (g27.ext.trans (e29.trans (g33.ext.trans (e35.trans (g44.ext.trans (e50.trans (g55.ext.trans (e58.trans (g63.ext.trans (e66.trans (g68.ext.trans (e71.trans (g75.ext.trans (e77.trans (g81.ext.trans (e83.trans (g87.ext.trans e89)))))))))))))))))))))) rfl (by decide)
  show Calls _ _ #[.slice (some ⟨B89 42, 0, none⟩) 4 4] _ _
  rw [hBb90]
  have k99 := k_poSquarefree (l := [((0 : Int) : Rat), ((0 : Int) : Rat), (((-1) : Int) : Rat), ((1 : Int) : Rat)]) (A := 3) (H := 562) (N := 4) (C := 2818) d89 hp92.raw (Nt.Sm.prim ((show Nt.Sm [((0 : Int) : Rat), ((0 : Int) : Rat), (((-1) : Int) : Rat), ((1 : Int) : Rat)] 1 1 from Nt.Sm.ofInts (zs := [0, 0, -1, 1]) (by decide)).more (by decide))) (Nt.Sm.prim (((Nt.Sm.der (b := 2) (show Nt.Sm [((0 : Int) : Rat), ((0 : Int) : Rat), (((-1) : Int) : Rat), ((1 : Int) : Rat)] 1 1 from Nt.Sm.ofInts (zs := [0, 0, -1, 1]) (by decide)) (by decide)).trim).more (by decide))) (by decide +kernel) (by decide +kernel) (by decide +kernel) (by decide +kernel) (by decide +kernel) (by decide +kernel) (by decide +kernel) (by decide +kernel) (by decide +kernel)
  with_reducible refine Post.mono k99 ?_
  clear k99
  rintro _ u97 g98 ⟨z93, s94, rfl, hz95, hs96⟩
  have hlz93 := hz95.len
  have hqs94 := Nt.awake_sqf hs96
  have hns94 : s94.l.length = 3 := by rw [hqs94]; rfl
  refine sy_call 44 41 [.int .i64 0] ?_ (hw := w1 19 true 37)
  intro w100 u100 e100 d100
  have k105 := k_rqOf d100 (z := 0) (by omega) (by omega)
  with_reducible refine Post.mono k105 ?_
  clear k105
  rintro _ u103 g104 ⟨r101, rfl, h102⟩
  refine sy_call 45 41 [.int .i64 (-1)] ?_ (hw := w1 19 true 37)
  intro w106 u106 e106 d106
  have k111 := k_rqOf d106 (z := (-1)) (by omega) (by omega)
  with_reducible refine Post.mono k111 ?_
  clear k111
  rintro _ u109 g110 ⟨r107, rfl, h108⟩
  refine sy_lit 47 ⟨26, r101.cs ++ r107.cs ++ r12.cs⟩ 3 ?_ (hw := w1 19 true 37)
  refine sy_give 48 29 [.v (.slice z93.a z93.n z93.c), .slc 47 0 3 3] [47] (.inr rfl) (pub_mk (by repeat first | exact noAt_of | refine noAt_set ?_ | refine noAt_lit ?_ | refine noAt_new ?_ | refine noAt_setVar ?_ | refine noAt_unpub ?_)) (k := ?_) (hw := w1 19 true 37)
  intro B112 w112 u112 e112 d112 v112
  have h114 : u112.heap[B112 47]? = some (.cells #[.bool r101.s, .slice r101.m.a r101.m.n r101.m.c, .slice r101.d.a r101.d.n r101.d.c, .bool r107.s, .slice r107.m.a r107.m.n r107.m.c, .slice r107.d.a r107.d.n r107.d.c, .bool r12.s, .slice r12.m.a r12.m.n r12.m.c, .slice r12.d.a r12.d.n r12.d.c] 26 (0, 0)) := v112 47 (by simp) _ rfl
  obtain ⟨b113, hBb113⟩ : ∃ b, B112 47 = b := ⟨_, rfl⟩
  rw [hBb113] at h114
  have hp115 : PolN u112 (⟨some ⟨b113, 0, none⟩, 3, 3⟩ : Sl) [((0 : Int) : Rat), (((-1) : Int) : Rat), ((1 : Int) : Rat)] 2 := pol_lit (L := [r101, r107, r12]) h114 (rats3 (h102.ext (e106.trans (g110.ext.trans e112))) (h108.ext e112) (h13.ext (e17.trans (g21.ext.trans (e23.trans (g27.ext.trans (e29.trans (g33.ext.trans (e35.trans (g44.ext.trans (e50.trans (g55.ext.trans (e58.trans (g63.ext.trans (e66.trans (g68.ext.trans (e71.trans (g75.ext.trans (e77.trans (g81.ext.trans (e83.trans (g87.ext.trans (e89.trans (g98.ext.trans (e100.trans (g104.ext.trans (e106.trans (g110.ext.trans e112)))))))))))))))))))))))))))) rfl (by decide)
  show Calls _ _ #[.slice z93.a z93.n z93.c, .slice (some ⟨B112 47, 0, none⟩) 3 3] _ _
  rw [hBb113]
  have k118 := k_r5Equal d112 (hz95.ext (e100.trans (g104.ext.trans (e106.trans (g110.ext.trans e112))))) hp115 (by first | omega | (simp; omega) | (refine Nat.le_trans (Nt.trim_len _) ?_; first | omega | (simp; omega)) | (refine Nat.le_trans (Nt.trim_len _) ?_; simp only [List.length_map]; refine Nat.le_trans (Nt.trim_len _) ?_; first | omega | (simp; omega))) (by simp)
  with_reducible refine Post.mono k118 ?_
  clear k118
  rintro _ u116 g117 rfl
  refine sy_pure 49 (.v (.bool (decide (s94.l = [((0 : Int) : Rat), (((-1) : Int) : Rat), ((1 : Int) : Rat)])))) ?_
  refine sy_pure 0 (.v (.bool (decide (s94.l = [((0 : Int) : Rat), (((-1) : Int) : Rat), ((1 : Int) : Rat)])))) ?_
  refine sy_next 50 [(0, .v (.bool (decide (s94.l = [((0 : Int) : Rat), (((-1) : Int) : Rat), ((1 : Int) : Rat)]))))] [] ?_
  refine sw_ret (ret0 [.bool (decide (s94.l = [((0 : Int) : Rat), (((-1) : Int) : Rat), ((1 : Int) : Rat)]))] ⟨res_tmp, trivial⟩ fun u119 e120 => ?_)
  show Value.bool _ = Value.bool _
  rw [show (decide (s94.l = [((0 : Int) : Rat), (((-1) : Int) : Rat), ((1 : Int) : Rat)])) = true from (decide_eq_true (Nt.awake_sqf hs96))]
end Go.Proofs.YtnedhbidmfoegaaGreat
namespace Go.Proofs.YtnedhbidmfoegaaGreat.Nt
open Go.RowKit
open Pol
set_option linter.unusedVariables false
section
variable {P q ps qs l m p : List Rat} {A B D E F a b K : Nat} {c x y : Rat}
def nxQ (q ps : List Rat) : List Rat := subN (ps.length - q.length) (ps.getD (ps.length - 1) 0 / q.getD (q.length - 1) 0) q (ps.take (ps.length - 1)) (q.length - 1)
theorem nx_co (hn : q.length ≤ ps.length) (hm : 0 < q.length) (hq : co q (q.length - 1) ≠ 0) (i : Nat) :
    co (nxQ q ps) i = co ps i - (if ps.length - q.length ≤ i then co ps (ps.length - 1) / co q (q.length - 1) * co q (i - (ps.length - q.length)) else 0) := by
  unfold nxQ
  rw [subN_co (by rw [List.length_take]; omega)]
  change _ - (if _ then co ps (ps.length - 1) / co q (q.length - 1) * _ else 0) = _
  obtain ⟨c, hc⟩ : ∃ c, co ps (ps.length - 1) / co q (q.length - 1) = c := ⟨_, rfl⟩
  rw [hc]
  by_cases h1 : i < ps.length - 1
  · rw [co_take h1]
    change co ps i - _ = _
    by_cases h2 : ps.length - q.length ≤ i
    · rw [if_pos h2, if_pos (by omega)]
    · rw [if_neg h2, if_neg (by omega)]
  · rw [co_ge (l := ps.take _) (by rw [List.length_take]; omega), if_neg (by omega), if_pos (by omega)]
    by_cases h2 : i = ps.length - 1
    · rw [h2, show ps.length - 1 - (ps.length - q.length) = q.length - 1 by omega, ← hc]; grind
    · rw [co_ge (by omega), co_ge (l := q) (by omega)]; grind
theorem nx_one (h : ps.length = 1) (hq : q.length = 1) : nxQ q ps = [] := by
  unfold nxQ
  rw [h, hq]
  cases ps with
  | nil => simp at h
  | cons a l => rfl
theorem subN_fresh {t : List Rat} {j : Nat} {c : Rat} {k : Nat} (h : k + j ≤ t.length) : co (subN k c q t j) (k + j) = co t (k + j) := by
  rw [subN_co h, if_neg (by omega)]; grind
theorem nx_len (hn : q.length ≤ ps.length) (hm : 0 < q.length) : (trimQ (nxQ q ps)).length < ps.length := by
  have h9 := trim_len (nxQ q ps)
  unfold nxQ at h9 ⊢
  rw [subN_len, List.length_take] at h9
  omega
structure RefI (P q qs ps : List Rat) : Prop where
  ql : qs.length = P.length + 1 - q.length
  pl : ps.length ≤ P.length
  qz : ∀ j, j + q.length ≤ ps.length → co qs j = 0
  eq : ∀ i, co P i = co (mulQ qs q) i + co ps i
theorem RefI.begin (P q : List Rat) : RefI P q (List.replicate (P.length + 1 - q.length) 0) P := by
  have h0 : ∀ j, co (List.replicate (P.length + 1 - q.length) 0) j = 0 := fun j => by
    unfold co; rw [List.getD_eq_getElem?_getD, List.getElem?_replicate]; split <;> rfl
  exact ⟨by simp, Nat.le_refl _, fun j _ => h0 j, fun i => by rw [mulQ_zero h0]; grind⟩
theorem RefI.step (h : RefI P q qs ps) (hn : q.length ≤ ps.length) (hm : 0 < q.length) (hq : co q (q.length - 1) ≠ 0) :
    RefI P q (qs.set (ps.length - q.length) (ps.getD (ps.length - 1) 0 / q.getD (q.length - 1) 0)) (trimQ (nxQ q ps)) := by
  have hl := nx_len hn hm
  have hp := h.pl
  have hk : ps.length - q.length < qs.length := by rw [h.ql]; omega
  refine ⟨by rw [List.length_set]; exact h.ql, by omega, fun j hj => ?_, fun i => ?_⟩
  · rw [co_set hk, if_neg (by omega)]
    exact h.qz j (by omega)
  · rw [mulQ_set hk (h.qz _ (by omega)), trim_co, nx_co hn hm hq, h.eq i]
    change _ = _ + (if _ then co ps (ps.length - 1) / co q (q.length - 1) * _ else 0) + _
    split <;> grind
theorem RefI.done (h : RefI P q qs ps) : Pol.mk' P = Pol.mk' qs * Pol.mk' q + Pol.mk' ps := by
  refine Pol.ext fun i => ?_
  rw [c_add, ← mk_mul, mk_c, mk_c, mk_c]
  exact h.eq i
theorem Sm.divstep (hp : Sm ps F A) (hF : F ≤ 2 ^ A) (hq : Sm q E B) (hn : q.length ≤ ps.length) (hm : 0 < q.length) (hq0 : Nt.co q (q.length - 1) ≠ 0) :
    ∃ F', F' ≤ 2 ^ (A + (B + 1)) ∧ Sm (trimQ (nxQ q ps)) F' (A + (B + 1)) := by
  obtain ⟨z, hz, hb⟩ := hq.2 (q.length - 1)
  have hE := dz hq.1
  have hz0 : z ≠ 0 := by
    rintro rfl
    apply hq0
    have : Nt.co q (q.length - 1) * ((E : Int) : Rat) = 0 := hz
    grind
  have hg : 0 < z.natAbs := Int.natAbs_pos.2 hz0
  refine ⟨F * z.natAbs, ?_, Nat.mul_pos hp.1 hg, fun i => ?_⟩
  · rw [Nat.pow_add]
    exact Nat.mul_le_mul hF (Nat.le_trans hb (Nat.pow_le_pow_right (by omega) (by omega)))
  · rw [trim_co, nx_co hn hm hq0]
    have key : Wh ((Nt.co ps i - (if ps.length - q.length ≤ i then Nt.co ps (ps.length - 1) / Nt.co q (q.length - 1) * Nt.co q (i - (ps.length - q.length)) else 0)) * ((F : Int) : Rat) * (z : Rat)) (A + B + 1) := by
      have e : (Nt.co ps i - (if ps.length - q.length ≤ i then Nt.co ps (ps.length - 1) / Nt.co q (q.length - 1) * Nt.co q (i - (ps.length - q.length)) else 0)) * ((F : Int) : Rat) * (z : Rat)
          = (Nt.co ps i * ((F : Int) : Rat)) * (z : Rat) - (if ps.length - q.length ≤ i then (Nt.co ps (ps.length - 1) * ((F : Int) : Rat)) * (Nt.co q (i - (ps.length - q.length)) * ((E : Int) : Rat)) else 0) := by
        split
        · rw [← hz]
          grind
        · grind
      rw [e]
      refine Wh.sub ((hp.2 i).mul (whInt hb)) ?_
      split
      · exact (hp.2 _).mul (hq.2 _)
      · exact Wh.zero _
    rw [natMul]
    obtain ⟨v, hv, hvb⟩ := key
    have hs : ((z.natAbs : Int) : Rat) = (z : Rat) ∨ ((z.natAbs : Int) : Rat) = -(z : Rat) := by
      rcases Int.natAbs_eq z with h | h
      · left; rw [← h]
      · right
        have : (z.natAbs : Int) = -z := by omega
        rw [this, Rat.intCast_neg]
    rcases hs with h | h
    · exact ⟨v, by rw [h, hv], by rw [← Nat.add_assoc]; exact hvb⟩
    · exact ⟨-v, by rw [h, Rat.intCast_neg, ← hv]; grind, by rw [Int.natAbs_neg, ← Nat.add_assoc]; exact hvb⟩
theorem div_go (hB : WhL q b) (hq : 0 < q.length) (hl : co q (q.length - 1) ≠ 0) : ∀ (n k : Nat) (s t : List Rat) (f : Rat), k + n = p.length → (k = 0 ∨ q.length ≤ n + 1) → DivI p q n s t f → WhL t (a + k * (b + 1)) →
    ∃ s t f, DivR p q s t f ∧ WhL t (a + (p.length - q.length + 1) * (b + 1)) := by
  intro n
  have stop : ∀ (n k : Nat) (s t : List Rat) (f : Rat), k + n = p.length → (k = 0 ∨ q.length ≤ n + 1) → n < q.length → DivI p q n s t f → WhL t (a + k * (b + 1)) → ∃ s t f, DivR p q s t f ∧ WhL t (a + (p.length - q.length + 1) * (b + 1)) := by
    intro n k s t f hk hs h hD hW
    refine ⟨s, _, f, hD.done h, (hW.take _).more (Nat.add_le_add_left (Nat.mul_le_mul_right _ ?_) _)⟩
    omega
  induction n with
  | zero =>
    intro k s t f hk hs hD hW
    exact stop 0 k s t f hk hs hq hD hW
  | succ n ih =>
    intro k s t f hk hs hD hW
    by_cases h : n + 1 < q.length
    · exact stop (n + 1) k s t f hk hs h hD hW
    · have h1 := hD.step (by omega) (by omega) hq hl (x := co t n) (d := co q (q.length - 1)) hl rfl
      refine ih (k + 1) _ _ _ (by omega) (.inr (by omega)) h1 ?_
      have hd : Wh (co q (q.length - 1)) b := hB _
      refine WhL.more (WhL.subN (hW.map hd) (fun i => (hW n).mul (hB i)) (by rw [List.length_map, hD.tl]; omega)) ?_
      rw [Nat.add_mul]; omega
theorem div_exists (hA : WhL p a) (hB : WhL q b) (hq : Nrm q) (hq0 : 0 < q.length) : ∃ s t f, DivR p q s t f ∧ WhL t (a + (p.length - q.length + 1) * (b + 1)) :=
  div_go hB hq0 (nrm_last hq (by rintro rfl; simp at hq0)) p.length 0 _ _ _ (by omega) (.inl rfl) (DivI.begin p q) (by rw [Nat.zero_mul]; exact hA)
theorem monic_Cmul {k : Rat} (hk : k ≠ 0) (r : Pol) : (C k * r).monic = r.monic := by
  by_cases h0 : r = 0
  · rw [h0, mul_zero]
  · have h1 := lead_ne h0
    have h2 : (C k * r).lead = k * r.lead := by rw [lead_mul (C_ne hk) h0, lead_C hk]
    unfold monic
    rw [h2, ← mul_assoc, ← C_mul]
    congr 2
    grind
theorem C_unit {k : Rat} (hk : k ≠ 0) : C k * C (1 / k) = 1 := C_inv hk
structure GcdI (l m p q pa pb : List Rat) (A H : Nat) : Prop where
  ep : p = (mk' pa).monic.l
  eq : q = (mk' pb).monic.l
  nb : Nrm pb
  wa : WhL pa A
  wb : WhL pb A
  pt : (A + 1) * (A + 1) * 3 ^ pot pa.length pb.length ≤ H * H
  s : Same (mk' l) (mk' m) (mk' pa) (mk' pb)
theorem GcdI.begin {H : Nat} (hA : WhL (prim l) A) (hB : WhL (prim m) A) (hH : (A + 1) * (A + 1) * 3 ^ pot (trimQ l).length (trimQ m).length ≤ H * H) :
    GcdI l m (mk' l).monic.l (mk' m).monic.l (prim l) (prim m) A H := by
  have e : ∀ l, (mk' l).monic.l = (mk' (prim l)).monic.l := fun l => by
    obtain ⟨k, hk, e⟩ := prim_mk' l
    rw [e, monic_Cmul hk]
  exact ⟨e l, e m, prim_nrm m, hA, hB, by rw [prim_len, prim_len]; exact hH, prim_same l m⟩
theorem monic_nz {r : Pol} (h : r ≠ 0) : ∃ k : Rat, k ≠ 0 ∧ r.monic = C k * r := by
  have h1 := lead_ne h
  exact ⟨1 / r.lead, by intro k; have : (1 : Rat) = (1 / r.lead) * r.lead := by grind
                        rw [k] at this; grind, rfl⟩
theorem GcdI.step {pa pb : List Rat} {H : Nat} {u r : Pol} (h : GcdI l m p q pa pb A H) (hq : 0 < q.length) (e : mk' p = u * mk' q + r) (hr : r.len < (mk' q).len) :
    ∃ pc A', GcdI l m q r.monic.l pb pc A' H := by
  have hb0 : mk' pb ≠ 0 := by
    intro e0
    rw [h.eq, e0, monic_zero, zero_l] at hq
    simp at hq
  have hpb : 0 < pb.length := by
    cases hp : pb with
    | nil => exact absurd (by rw [hp]; rfl) hb0
    | cons x y => simp
  obtain ⟨s, t, f, hD, hW⟩ := div_exists h.wa h.wb h.nb hpb
  obtain ⟨β, hβ, eβ⟩ := monic_nz hb0
  have hpol := hD.pol
  have h2 : (prim t).length < pb.length := by rw [prim_len]; exact Nat.lt_of_le_of_lt (trim_len t) hD.lt
  have h3 : (prim t).length ≤ pa.length := by rw [prim_len]; exact Nat.le_trans (trim_len t) hD.tl
  refine ⟨prim t, A + (pa.length - pb.length + 1) * (A + 1), h.eq, ?_, prim_nrm t, h.wb.more (by omega), prim_of_wh hW, pot_step h.pt h2 h3, same_step h.s hD⟩
  have hf := C_unit hD.f0
  have hmq : mk' q = C β * mk' pb := by rw [h.eq, mk_l, eβ]
  have hCβ := C_unit hβ
  obtain ⟨α, hα, eα⟩ : ∃ α : Rat, α ≠ 0 ∧ mk' p = C α * mk' pa := by
    rw [h.ep, mk_l]
    by_cases h0 : mk' pa = 0
    · exact ⟨1, by decide, by rw [h0, monic_zero, mul_zero]⟩
    · obtain ⟨k, hk, e⟩ := monic_nz h0
      exact ⟨k, hk, e⟩
  have e2 : u * mk' q + r = (C (1 / f) * C α * mk' s * C (1 / β)) * mk' q + C (1 / f * α) * mk' t := by
    rw [← e, eα, hmq, C_mul]; grind
  have hκ : 1 / f * α ≠ 0 := by
    have := hD.f0
    intro k
    have h7 : α = f * (1 / f * α) := by grind
    rw [k] at h7; grind
  have hlt : (C (1 / f * α) * mk' t).len < (mk' q).len := by
    rw [len_Cmul hκ, hmq, len_Cmul hβ, mk_len_nrm h.nb]
    exact Nat.lt_of_le_of_lt (mk_len t) hD.lt
  have h5 := div_unique e2 hr hlt
  obtain ⟨k, hk, e3⟩ := prim_mk' t
  rw [h5.2, monic_Cmul hκ, e3, monic_Cmul hk]
theorem GcdI.done {pa pb : List Rat} {H : Nat} (h : GcdI l m p q pa pb A H) (hq : q.length = 0) : IsGcd (mk' l) (mk' m) (mk' p) ∧ (∃ k : Rat, k ≠ 0 ∧ ∀ i, co p i = k * co pa i) ∧ WhL pa H := by
  have hb0 : mk' pb = 0 := by
    apply Classical.byContradiction
    intro k
    have h1 := monic_lead k
    have h2 : (mk' pb).monic ≠ 0 := by intro e; rw [e] at h1; unfold lead at h1; rw [c_zero] at h1; exact absurd h1 (by decide)
    have h3 := len_pos h2
    rw [h.eq] at hq
    unfold len at h3
    omega
  have hs := h.s
  rw [hb0] at hs
  refine ⟨by rw [h.ep, mk_l]; exact hs.gcd, by rw [h.ep]; exact monic_scaled pa, h.wa.more ?_⟩
  have := pot_le h.pt; omega
theorem out_trim (hl : 0 < l.length) (hm : 0 < m.length) : trimQ (outQ l m (l.length + m.length - 1) l.length) = trimQ (mulQ l m) := by
  apply trim_ext
  intro k
  rw [outQ_co (by omega) hm (Nat.le_refl _), List.take_length]
theorem monic_rs {l : List Rat} (h : WhL l A) (i : Nat) : rs (co (mk' l).monic.l i) ≤ dg A := by
  by_cases h0 : mk' l = 0
  · rw [h0, monic_zero, zero_l, co_nil]
    exact (Wh.zero A).rs
  · have h1 := lead_ne h0
    have e : co (mk' l).monic.l i = co l i / (mk' l).lead := by
      show ((mk' l).monic).c i = _
      unfold monic
      rw [C_mul_c, mk_c]; grind
    have hw := Wh.quo (h i) (h ((mk' l).len - 1)) (by rw [← mk_c]; exact h1)
    have hl : (mk' l).lead = co l ((mk' l).len - 1) := by unfold lead; rw [mk_c]
    rw [e, hl]
    have h2 : rs ((((co l i / co l ((mk' l).len - 1)).num : Int) : Rat)) ≤ dg A := hw.1.rs
    have h3 : rs (((((co l i / co l ((mk' l).len - 1)).den : Nat) : Int) : Rat)) ≤ dg A := hw.2.rs
    unfold rs at h2 h3 ⊢
    rw [Rat.num_intCast] at h2 h3
    simp only [Int.natAbs_natCast] at h3
    omega
theorem monic_sm {l : List Rat} (h : WhL l A) : ∃ D, D ≤ 2 ^ A ∧ Sm (mk' l).monic.l D A := by
  by_cases h0 : mk' l = 0
  · rw [h0, monic_zero, zero_l]; exact ⟨1, Nat.one_le_two_pow, Sm.nil (by omega)⟩
  · have h1 := lead_ne h0
    have hl : (mk' l).lead = co l ((mk' l).len - 1) := by unfold lead; rw [mk_c]
    obtain ⟨z, hz, hb⟩ := h ((mk' l).len - 1)
    have hz0 : z ≠ 0 := by rintro rfl; apply h1; rw [hl, hz]; rfl
    refine ⟨z.natAbs, hb, Int.natAbs_pos.2 hz0, fun i => ?_⟩
    have e : co (mk' l).monic.l i * (z : Rat) = co l i := by
      show ((mk' l).monic).c i * _ = _
      unfold monic
      rw [C_mul_c, mk_c, hl, hz]
      rw [hl, hz] at h1
      grind
    obtain ⟨v, hv, hvb⟩ := h i
    rcases Int.natAbs_eq z with e1 | e1
    · refine ⟨v, ?_, hvb⟩
      rw [← e1, e, hv]
    · refine ⟨-v, ?_, by rw [Int.natAbs_neg]; exact hvb⟩
      have e2 : (z.natAbs : Int) = -z := by omega
      rw [e2, Rat.intCast_neg, Rat.intCast_neg, ← hv, ← e]; grind
theorem GcdI.le {pa pb : List Rat} {H : Nat} (h : GcdI l m p q pa pb A H) : A ≤ H := by have := pot_le h.pt; omega
theorem GcdI.rsP {pa pb : List Rat} {H : Nat} (h : GcdI l m p q pa pb A H) (i : Nat) : rs (p.getD i 0) ≤ dg H := by
  rw [h.ep]; exact Nat.le_trans (monic_rs h.wa i) (dg_mono h.le)
theorem GcdI.rsQ {pa pb : List Rat} {H : Nat} (h : GcdI l m p q pa pb A H) (i : Nat) : rs (q.getD i 0) ≤ dg H := by
  rw [h.eq]; exact Nat.le_trans (monic_rs h.wb i) (dg_mono h.le)
theorem GcdI.smP9 {pa pb : List Rat} {H : Nat} (h : GcdI l m p q pa pb A H) : ∃ D, D ≤ 2 ^ A ∧ Sm p D A := by rw [h.ep]; exact monic_sm h.wa
theorem GcdI.smQ9 {pa pb : List Rat} {H : Nat} (h : GcdI l m p q pa pb A H) : ∃ D, D ≤ 2 ^ A ∧ Sm q D A := by rw [h.eq]; exact monic_sm h.wb
theorem GcdI.steps {pa pb : List Rat} {H : Nat} (h : GcdI l m p q pa pb A H) (hq : 0 < q.length) : A + ((trimQ p).length - (trimQ q).length + 1) * (A + 1) ≤ H := by
  have h1 := pot_step h.pt (lr := 0)
  have hp : (trimQ p).length ≤ pa.length := by
    refine Nat.le_trans (trim_len p) ?_
    rw [h.ep]
    refine Nat.le_trans (?_ : (mk' pa).monic.l.length ≤ (mk' pa).len) (mk_len pa)
    by_cases h0 : mk' pa = 0
    · rw [h0, monic_zero]; exact Nat.le_refl _
    · obtain ⟨k, hk, e⟩ := monic_nz h0
      rw [e]; exact Nat.le_of_eq (len_Cmul hk _)
  have hb0 : mk' pb ≠ 0 := by
    intro e0
    rw [h.eq, e0, monic_zero, zero_l] at hq
    simp at hq
  have hq2 : (trimQ q).length = pb.length := by
    rw [show trimQ q = q by rw [h.eq]; exact (mk' pb).monic.h, h.eq]
    obtain ⟨k, hk, e⟩ := monic_nz hb0
    rw [e]
    exact (len_Cmul hk (mk' pb)).trans (mk_len_nrm h.nb)
  have hpb : 0 < pb.length := by
    cases hp : pb with
    | nil => exact absurd (by rw [hp]; rfl) hb0
    | cons x y => simp
  have h2 := pot_le (h1 hpb (Nat.zero_le _))
  have h3 : ((trimQ p).length - (trimQ q).length + 1) * (A + 1) ≤ (pa.length - pb.length + 1) * (A + 1) := Nat.mul_le_mul_right _ (by omega)
  omega
theorem GcdI.nP {pa pb : List Rat} {H : Nat} (h : GcdI l m p q pa pb A H) : Nrm p := by rw [h.ep]; exact (mk' pa).monic.h
theorem GcdI.nQ {pa pb : List Rat} {H : Nat} (h : GcdI l m p q pa pb A H) : Nrm q := by rw [h.eq]; exact (mk' pb).monic.h
theorem monic_lenP (r : Pol) : r.monic.l.length ≤ r.l.length := by
  by_cases h0 : r = 0
  · rw [h0, monic_zero]; exact Nat.le_refl _
  · obtain ⟨k, hk, e⟩ := monic_nz h0
    rw [e]; exact Nat.le_of_eq (len_Cmul hk r)
end
end Go.Proofs.YtnedhbidmfoegaaGreat.Nt
namespace Go.Proofs.YtnedhbidmfoegaaGreat
open Go.RowKit
set_option linter.unusedVariables false
section
variable {P : Program} {u0 u u' w w' : World} {S : St} {B : Tmp → Nat} {a : Act} {c : Code} {w0 : Base}
def St.lentPI (n : Nat) (ty : TypeId) (cs : List Value) (args : List Value) : St := ⟨n, fun t => match t with | 0 => some (.adr n 0) | t + 1 => (args[t]?).map SV.v, upd (fun _ => none) n (some ⟨ty, cs⟩)⟩
def MP.lentP (P : Program) (ρ : ResultVar) (n : Nat) (Φ : Value → Vr → World → Prop) : MP where
  f e S u := match e with | .normal => ∃ V v, S.n = n ∧ S.var n = some V ∧ resAll P S [ρ] [.v v] ∧ ∀ u1, Ext u u1 → Φ v V u1 | .ret => ∃ V v, S.n = n ∧ S.var n = some V ∧ resAll P S [ρ] [.v v] ∧ ∀ u1, Ext u u1 → Φ v V u1 | _ => False
  mono e := by cases e <;> first | exact fun S u u' he ⟨V, m, h0, h1, h2, h3⟩ => ⟨V, m, h0, h1, h2, fun u1 e1 => h3 u1 (he.trans e1)⟩ | exact fun S u u' he h => h
def PostP (u w : World) (g : Nat) (Φ : Value → Vr → World → Prop) (e : Ending) (w' : World) : Prop :=
  ∃ u' V v, e = .returned v ∧ Dat u' w' ∧ Bel ⟨w, some (0, g)⟩ w' ∧ Grow u u' ∧ w'.heap[g]? = some (.cells V.cs.toArray V.ty (0, 0)) ∧ Φ v V u'
theorem lentP_begin {fn : Func} {args : List Value} {n g : Nat} {ty : TypeId} {cs : List Value} {w : World} (hn : fn.ntmps = n) (hargs : args.length + 1 ≤ n) (d : Dat u0 w)
    (hgw : w.heap[g]? = some (.cells cs.toArray ty (0, 0))) (hgu : u0.heap[g]? = some hidO) {a : Act} (ha : a.tmps = (Value.pointer (some ⟨g, 0, none⟩) :: args).toArray ++ Array.replicate (fn.ntmps - (Value.pointer (some ⟨g, 0, none⟩) :: args).toArray.size) undef) (hdf : a.defers = []) :
    Rep ⟨w, some (n, g)⟩ u0 (St.lentPI n ty cs args) (fun _ => g) a w u0 := by
  refine ⟨⟨fun t x hx => ?_, by rw [ha]; simp [St.lentPI, hn]; omega⟩, ⟨fun r x t hx ht => ?_⟩, hdf, (fun t V hV => ?_), (fun t t' V V' h1 h2 _ => ?_), d, d.size, Grow.refl _, ⟨rfl, rfl, rfl, Nat.le_refl _, fun _ _ _ => rfl⟩⟩
  · have key : ((Value.pointer (some ⟨g, 0, none⟩) :: args).toArray)[t]? = some (x.conc fun _ => g) := by
      cases t with
      | zero => simp only [St.lentPI] at hx; injection hx with hx; subst hx; rfl
      | succ t =>
        simp only [St.lentPI, Option.map_eq_some_iff] at hx
        obtain ⟨v, h1, rfl⟩ := hx
        simpa [SV.conc] using h1
    have hlt : t < (Value.pointer (some ⟨g, 0, none⟩) :: args).toArray.size := by
      rcases Nat.lt_or_ge t (Value.pointer (some ⟨g, 0, none⟩) :: args).toArray.size with h | h
      · exact h
      · rw [Array.getElem?_eq_none h] at key; cases key
    rw [ha, Array.getElem?_append_left hlt]
    exact key
  · cases r with
    | zero => simp only [St.lentPI] at hx; injection hx with hx; subst hx; injection ht with ht; subst ht; exact ⟨⟨ty, cs⟩, by simp [St.lentPI, upd_same]⟩
    | succ r =>
      simp only [St.lentPI, Option.map_eq_some_iff] at hx
      obtain ⟨v, h1, rfl⟩ := hx
      cases ht
  · by_cases e : t = n
    · subst e
      simp only [St.lentPI, upd_same] at hV
      injection hV with hV
      subst hV
      exact ⟨hgw, hgu, fun e => absurd e (by simp [St.lentPI]), fun _ => rfl⟩
    · simp only [St.lentPI, upd_ne _ _ e] at hV; cases hV
  · have key : ∀ t V, (St.lentPI n ty cs args).var t = some V → t = n := fun t V hV => by
      by_cases e : t = n
      · exact e
      · simp only [St.lentPI, upd_ne _ _ e] at hV; cases hV
    rw [key t V h1, key t' V' h2]
theorem calls_lentP {f : FuncId} {fn : Func} {args : List Value} {Φ : Value → Vr → World → Prop} {ρ : ResultVar} {n g : Nat} {ty : TypeId} {cs : List Value} {w : World} (hf : P.funcs[f]? = some fn) (hb : fn.body = some c) (hn : fn.ntmps = n) (hrs : fn.results = #[ρ]) (hargs : args.length + 1 ≤ n) (d : Dat u0 w)
    (hgw : w.heap[g]? = some (.cells cs.toArray ty (0, 0))) (hgu : u0.heap[g]? = some hidO) (h : SW P ⟨w, some (n, g)⟩ u0 c (St.lentPI n ty cs args) u0 (MP.lentP P ρ n Φ)) :
    Calls P f (Value.pointer (some ⟨g, 0, none⟩) :: args).toArray w (PostP u0 w g Φ) := by
  refine calls_of_wp hf hb (wp_mono (h (fun _ => g) _ w u0 (Ext.refl _) (lentP_begin hn hargs d hgw hgu rfl rfl)) ?_)
  rintro ex a' w' ⟨S', B', u'', r1, r3⟩
  have key : (∃ V v, S'.n = n ∧ S'.var n = some V ∧ resAll P S' [ρ] [.v v] ∧ ∀ u1, Ext u'' u1 → Φ v V u1) → a'.defers = [] ∧ ∃ v, (results fn a'.tmps).run P w' = .ok v w' ∧ PostP u0 w g Φ (.returned v) w' := by
    rintro ⟨V, m, k0, k1, k2, k3⟩
    obtain ⟨g1, g2, g3⟩ := r1.var n V k1
    have hp := lent_pin r1 k0 k1
    refine ⟨r1.defers, _, results_eq (rs := [ρ]) hrs k2 r1 (by simp), u'', V, m, ?_, r1.dat, lent_bel r1.bel, r1.grow, ?_, k3 _ (Ext.refl _)⟩
    · simp [tupV, SV.conc]
    · rw [← hp]; exact g1
  cases ex with
  | ret => exact key r3
  | normal => exact key r3
  | _ => exact r3.elim
theorem lentP_ret {ρ : ResultVar} {n : Nat} {Φ : Value → Vr → World → Prop} {V : Vr} (v : Value) (hn : S.n = n) (hv : S.var n = some V) (hr : resV P S ρ (.v v)) (k : ∀ u1, Ext u u1 → Φ v V u1) : (MP.lentP P ρ n Φ).f .ret S u := ⟨V, v, hn, hv, ⟨hr, trivial⟩, k⟩
variable {ops : Array Oper} {o : Oper} {p : List Tmp} {rest : List (Oper × List Tmp)} {K : St → World → Prop}
theorem sy_lendP (d : Tmp) (f : FuncId) {t : Tmp} {V : Vr} (args : List Value) {Φ : Value → Vr → World → Prop} (hv : S.var t = some V)
    (kc : ∀ g w u1, Ext u u1 → Dat u1 w → w.heap[g]? = some (.cells V.cs.toArray V.ty (0, 0)) → u1.heap[g]? = some hidO → Calls P f (Value.pointer (some ⟨g, 0, none⟩) :: args).toArray w (PostP u1 w g Φ))
    (k : ∀ v V' u1, Ext u u1 → Φ v V' u1 → sym P ops w0 u0 true rest ((S.setVar t V').set d (.v v)) u1 K)
    (hw : Wants ops o S := by exact wants0 (by kernel_rfl)) (hd : o.dst = some d := by kernel_rfl) (hf : (freeB S d && knownB S o) = true := by kernel_rfl) (hk : opK o.op ≠ 2 := by decide)
    (hrun : ∀ B w, (execOp (rho S B) o).run P w = .ok (.enter f (Value.pointer (some ⟨B t, 0, none⟩) :: args).toArray) w := by intro _ _; kernel_rfl) : sym P ops w0 u0 true ((o, p) :: rest) S u K := by
  simp only [Bool.and_eq_true] at hf
  refine .inr (.inr (.inl ⟨.inl rfl, fun B a w u' he hrep => ⟨hw B a hrep.regs, ?_⟩⟩))
  obtain ⟨v1, v2, v3⟩ := hrep.var t V hv
  unfold Oper.wp
  rw [exec_rho hrep.regs hf.2 hk, hrun B w]
  simp only [Oper.upon]
  refine Calls.mono (kc (B t) w u' he hrep.dat v1 v2) ?_
  rintro e w' ⟨u2, V', v, rfl, k1, k2, k3, k4, k5⟩
  have hr2 := hrep.lentBack hv k1 k2 k3 k4 (d := o.dst) (fun s hs => (free_of hd hf.1 s hs).1) v
  refine ⟨_, B, u2, u2, hr2, k3.ext, he.trans k3.ext, Ext.refl _, ?_⟩
  have := k v V' u2 (he.trans k3.ext) k5
  rw [hd]; exact this
theorem sy_appL0 {seq : Bool} (d : Tmp) {T E : TypeId} {s x : Operand} {z : Value} {size bytes : Nat} {m c t2 : Nat} {ty2 : TypeId} (news : List Value) (hT : P.underlying T = some (.slice E)) (hi : (P.info? E).map (fun i => (i.zero, i.size, i.bytes)) = some (some z, size, bytes)) (hzs : z.cells.size = size) (hsz : 0 < size)
    (hl : news.length = m * size) (h1 : ∀ v ∈ news, v.oneCell' = true) (hm : 0 < m) (h63 : m ≤ maxLen) (hbytes : m * bytes ≤ 140737488355328)
    (k : ∀ c1 cs, m ≤ c1 → c1 ≤ maxLen → cs.length = c1 * size → cs.take (m * size) = news → sym P ops w0 u0 seq rest (S.own d ⟨E, cs⟩ m c1) u K)
    (hw : Wants ops o S := by exact wants0 (by kernel_rfl)) (hd : o.dst = some d := by kernel_rfl) (hop : o.op = .call { callee := .builtin .append, args := #[s, x], argTypes := #[T, T] } := by rfl) (hf : (freeB S d && (S.var d).isNone) = true := by kernel_rfl)
    (hs : evO S s = some (.v (.slice none 0 0)) := by rfl) (hx : evO S x = some (.slc t2 0 m c) := by rfl) (hv2 : S.var t2 = some ⟨ty2, news⟩ := by rfl) : sym P ops w0 u0 seq ((o, p) :: rest) S u K := by
  simp only [Bool.and_eq_true, Option.isNone_iff_eq_none] at hf
  refine .inr (.inr (.inl ⟨.inr ⟨by rw [hop]; rfl, by rw [hop]; rfl⟩, fun B a w u' he hrep => ⟨hw B a hrep.regs, ?_⟩⟩))
  obtain ⟨q1, q2, q3⟩ := hrep.var t2 _ hv2
  obtain ⟨g, c1, cs, w', hrun, hgv, k1, k2, k3, k4, k5, k6⟩ := run_app (P := P) (u0 := u0) (w := w) (v := .slice none 0 0) (n := 0) (xs := []) (ad := ⟨B t2, 0, none⟩) (c := c) hT hi hzs hsz ⟨by simp, .inl ⟨rfl, rfl⟩⟩ hl (fun j v hv => by rw [addr_add, Nat.zero_add, cells_at q1]; simpa using hv) h1 hm (by omega) (by simpa using hbytes) (by rw [← hrep.dat.size]; exact hrep.grow.size) o.type
  rw [Nat.zero_add] at hrun k1 k4
  unfold Oper.wp execOp
  simp only [hop, resolve, invoke, builtin, Sem.run_bind, Sem.run_pure, Result.andThen_ok, List.map_toArray, List.map_cons, List.map_nil, ev_of hrep.regs hs, ev_of hrep.regs hx, SV.conc, hrun]
  have hr2 := hrep.grown (pubs := []) (fun r x t _ _ h => by cases h) (row := none) (fun b h => by cases h) k5 (d := d) (V := ⟨E, cs.toList⟩) (g := g) (n := m) (c := c1) (free_of hd hf.1 d hd).1 (.inl hf.2) (by simpa using hgv) (k6.imp (fun h => by cases h) id)
  rw [unpub_nil] at hr2
  have hsz2 : u'.heap.size ≤ w'.heap.size := by rw [hrep.dat.size]; exact k5.size
  show ∃ S' B' u'' u2, Rep w0 u0 S' B' (a.put o.dst _) w' u'' ∧ _
  rw [hd]
  exact ⟨_, _, _, u, hr2, (hide_grow hsz2).ext, Ext.refl _, he.trans (hide_grow hsz2).ext, k c1 cs.toList k1 k2 k3 (by simpa using k4)⟩
theorem sy_appL1 {seq : Bool} (d : Tmp) {T E : TypeId} {s x : Operand} {z : Value} {size bytes : Nat} {m c t n cap t2 : Nat} {ty2 : TypeId} {cs0 : List Value} (pubs : List Tmp) (news : List Value) (hT : P.underlying T = some (.slice E)) (hi : (P.info? E).map (fun i => (i.zero, i.size, i.bytes)) = some (some z, size, bytes)) (hzs : z.cells.size = size) (hsz : 0 < size)
    (hl : news.length = m * size) (h1 : ∀ v ∈ news, v.oneCell' = true) (hm : 0 < m) (h63 : n + m ≤ maxLen) (hbytes : (n + m) * bytes ≤ 140737488355328)
    (hn : n ≤ cap) (hcap : cap ≤ maxLen) (hcl : cs0.length = cap * size) (hno : NoAt S pubs)
    (k : ∀ c1 cs, n + m ≤ c1 → c1 ≤ maxLen → cs.length = c1 * size → cs.take ((n + m) * size) = cs0.take (n * size) ++ news → sym P ops w0 u0 seq rest ((S.unpub pubs).own d ⟨E, cs⟩ (n + m) c1) u K)
    (hw : Wants ops o S := by exact wants0 (by kernel_rfl)) (hd : o.dst = some d := by kernel_rfl) (hop : o.op = .call { callee := .builtin .append, args := #[s, x], argTypes := #[T, T] } := by rfl) (hf : (Nat.blt d S.n && ((S.var d).isNone || pubs.contains d) && pubs.contains t && Nat.blt t S.n) = true := by kernel_rfl)
    (hs : evO S s = some (.slc t 0 n cap) := by rfl) (hv : S.var t = some ⟨E, cs0⟩ := by rfl) (hx : evO S x = some (.slc t2 0 m c) := by rfl) (hv2 : S.var t2 = some ⟨ty2, news⟩ := by rfl) : sym P ops w0 u0 seq ((o, p) :: rest) S u K := by
  simp only [Bool.and_eq_true, Bool.or_eq_true, Option.isNone_iff_eq_none, List.contains_iff_mem] at hf
  refine .inr (.inr (.inl ⟨.inr ⟨by rw [hop]; rfl, by rw [hop]; rfl⟩, fun B a w u' he hrep => ⟨hw B a hrep.regs, ?_⟩⟩))
  have htn : t < S.n := Nat.le_of_ble_eq_true hf.2
  obtain ⟨v1, v2, v3⟩ := hrep.var t _ hv
  obtain ⟨q1, q2, q3⟩ := hrep.var t2 _ hv2
  have v3 := v3.1 htn
  obtain ⟨g, c1, cs, w', hrun, hgv, k1, k2, k3, k4, k5, k6⟩ := run_app (P := P) (u0 := u0) (w := w) (v := .slice (some ⟨B t, 0, none⟩) n cap) (n := n) (xs := cs0.take (n * size)) (ad := ⟨B t2, 0, none⟩) (c := c) hT hi hzs hsz
    ⟨by rw [List.length_take, hcl]; exact Nat.min_eq_left (Nat.mul_le_mul_right _ hn), .inr ⟨B t, cap, cs0.toArray, rfl, v3, v1, hn, hcap, by simpa using hcl, by simp⟩⟩ hl (fun j v hv => by rw [addr_add, Nat.zero_add, cells_at q1]; simpa using hv) h1 hm h63 hbytes (by rw [← hrep.dat.size]; exact hrep.grow.size) o.type
  unfold Oper.wp execOp
  simp only [hop, resolve, invoke, builtin, Sem.run_bind, Sem.run_pure, Result.andThen_ok, List.map_toArray, List.map_cons, List.map_nil, ev_of hrep.regs hs, ev_of hrep.regs hx, SV.conc, hrun]
  have hr2 := hrep.grown hno (row := some (B t)) (fun b h => by injection h with h; exact ⟨t, hf.1.2, htn, _, hv, h⟩) k5 (d := d) (V := ⟨E, cs.toList⟩) (g := g) (n := n + m) (c := c1) (Nat.le_of_ble_eq_true hf.1.1.1) hf.1.1.2 (by simpa using hgv) k6
  have hsz2 : u'.heap.size ≤ w'.heap.size := by rw [hrep.dat.size]; exact k5.size
  show ∃ S' B' u'' u2, Rep w0 u0 S' B' (a.put o.dst _) w' u'' ∧ _
  rw [hd]
  exact ⟨_, _, _, u, hr2, (hide_grow hsz2).ext, Ext.refl _, he.trans (hide_grow hsz2).ext, k c1 cs.toList k1 k2 k3 k4⟩
theorem sy_max0 (d : Tmp) {x : Operand} {k0 : IntKind} {n v : Int} {tys : Array TypeId} (hv : (if (0 : Int) > n then 0 else n) = v)
    (k : sym P ops w0 u0 true rest (S.set d (.v (.int k0 v))) u K)
    (hw : Wants ops o S := by exact wants0 (by kernel_rfl)) (hd : o.dst = some d := by kernel_rfl) (hop : o.op = .call { callee := .builtin .max, args := #[x, .const (.int k0 0)], argTypes := tys } := by rfl) (hf : freeB S d = true := by kernel_rfl)
    (hx : evO S x = some (.v (.int k0 n)) := by rfl) : sym P ops w0 u0 true ((o, p) :: rest) S u K := by
  refine .inr (.inr (.inl ⟨.inl rfl, fun B a w u' he hrep => ⟨hw B a hrep.regs, ?_⟩⟩))
  have hrun : ∀ ty w, (Builtin.max_ tys ty #[.int k0 n, .int k0 0]).run P w = .ok (.int k0 v) w := by
    intro ty w
    rw [← hv]
    rfl
  have hc0 : a.eval (Operand.const (.int k0 0)) = .int k0 0 := rfl
  unfold Oper.wp execOp
  simp only [hop, resolve, invoke, builtin, Sem.run_bind, Sem.run_pure, Result.andThen_ok, List.map_toArray, List.map_cons, List.map_nil, ev_of hrep.regs hx, SV.conc, hc0, hrun]
  have hr2 := hrep.set (d := o.dst) (x := some (.v (.int k0 v))) (v := .int k0 v) (fun s hs => (free_of hd hf s hs).1) (fun z e => by injection e with e; rw [← e]; rfl) (fun z t e ht => by injection e with e; rw [← e] at ht; cases ht)
  show ∃ S' B' u'' u2, Rep w0 u0 S' B' (a.put o.dst _) w u'' ∧ _
  refine ⟨_, B, u', u, hr2, Ext.refl _, Ext.refl _, he, ?_⟩
  rw [hd]; exact k
theorem sy_app00 (d : Tmp) {T : TypeId} {s x : Operand} {A : Option Addr} {c : Nat} (hrun : ∀ w, (Builtin.append_ #[T, T] o.type #[.slice none 0 0, .slice A 0 c]).run P w = .ok (.slice none 0 0) w)
    (k : sym P ops w0 u0 true rest (S.set d (.v (.slice none 0 0))) u K)
    (hw : Wants ops o S := by exact wants0 (by kernel_rfl)) (hd : o.dst = some d := by kernel_rfl) (hop : o.op = .call { callee := .builtin .append, args := #[s, x], argTypes := #[T, T] } := by rfl) (hf : freeB S d = true := by kernel_rfl)
    (hs : evO S s = some (.v (.slice none 0 0)) := by rfl) (hx : evO S x = some (.v (.slice A 0 c)) := by rfl) : sym P ops w0 u0 true ((o, p) :: rest) S u K := by
  refine .inr (.inr (.inl ⟨.inl rfl, fun B a w u' he hrep => ⟨hw B a hrep.regs, ?_⟩⟩))
  unfold Oper.wp execOp
  simp only [hop, resolve, invoke, builtin, Sem.run_bind, Sem.run_pure, Result.andThen_ok, List.map_toArray, List.map_cons, List.map_nil, ev_of hrep.regs hs, ev_of hrep.regs hx, SV.conc, hrun]
  have hr2 := hrep.set (d := o.dst) (x := some (.v (.slice none 0 0))) (v := .slice none 0 0) (fun s hs => (free_of hd hf s hs).1) (fun z e => by injection e with e; rw [← e]; rfl) (fun z t e ht => by injection e with e; rw [← e] at ht; cases ht)
  show ∃ S' B' u'' u2, Rep w0 u0 S' B' (a.put o.dst _) w u'' ∧ _
  refine ⟨_, B, u', u, hr2, Ext.refl _, Ext.refl _, he, ?_⟩
  rw [hd]; exact k
end
section
variable {u u' : World} {L : List RL} {l : List Rat} {q : Rat} {r : RL} {K i b n c : Nat} {x : Sl}
theorem RatsV.set (h : RatsV u L l K) (hi : i < l.length) (hr : RatV u r q K) : RatsV u (L.set i r) (l.set i q) K := by
  refine ⟨by simpa using h.1, fun j hj => ?_⟩
  rw [List.length_set] at hj
  rw [List.getD_eq_getElem?_getD, List.getD_eq_getElem?_getD, List.getElem?_set, List.getElem?_set]
  by_cases e : i = j
  · subst e
    rw [if_pos rfl, if_pos rfl, if_pos hi, if_pos (by rw [h.1]; exact hi)]
    exact hr
  · rw [if_neg e, if_neg e, ← List.getD_eq_getElem?_getD, ← List.getD_eq_getElem?_getD]
    exact h.2 j hj
theorem RatsV.zeros (u : World) (n : Nat) : RatsV u (List.replicate n rl0) (List.replicate n 0) 1 := by
  refine ⟨by simp, fun i hi => ?_⟩
  rw [List.length_replicate] at hi
  rw [List.getD_eq_getElem?_getD, List.getD_eq_getElem?_getD, List.getElem?_replicate, List.getElem?_replicate, if_pos hi, if_pos hi]
  exact rat_nil _
theorem pol_data1V {t : TypeId} (h : u.heap[b]? = some (.cells (rcs L).toArray t (0, 0))) (hm : L.length ≤ maxLen) (hL : RatsV u L l K) (hn : n = L.length) : PolV u ⟨some ⟨b, 0, none⟩, n, n⟩ l K := by
  subst hn
  exact ⟨L, ⟨by rw [rcs_len], Nat.le_refl _, hm, fun _ => ⟨b, 0, rfl, fun j hj => by rw [Nat.zero_add, cells_at h]; simp⟩⟩, hL⟩
theorem spare_of {cs : List Value} (h : cs.take (n * 3) = rcs L) : ∃ X, cs = rcs L ++ X := ⟨cs.drop (n * 3), by rw [← h]; exact (List.take_append_drop _ _).symm⟩
theorem RatsN.fitR {M : Nat} (h : RatsN u L l K) (k : ∀ i, Nt.rs (l.getD i 0) ≤ M) : RatsN u L l M := ⟨h.1, fun i hi => (h.2 i hi).fit (k i)⟩
theorem PolN.fitR {M : Nat} (h : PolN u x l K) (k : ∀ i, Nt.rs (l.getD i 0) ≤ M) : PolN u x l M := by obtain ⟨L, h1, h2⟩ := h; exact ⟨L, h1, h2.fitR k⟩
end
end Go.Proofs.YtnedhbidmfoegaaGreat
namespace Go.Proofs.YtnedhbidmfoegaaGreat
open Go.RowKit
set_option linter.unusedVariables false
set_option maxHeartbeats 2000000 in
theorem k_r5Scale {u w : World} {x : Sl} {l : List Rat} {r : RL} {q : Rat} {K M : Nat} (d : Dat u w) (hx : PolV u x l K) (hr : RatV u r q M) (hK : K ≤ 20000000) (hx9 : l.length ≤ 1000000000) (hM : M ≤ 20000000) : Calls Tryz.prog 98 #[x.v, r.v] w (Post u w fun v u' => ∃ y : Sl, v = y.v ∧ PolN u' y (Nt.trimQ (l.map (· * q))) (K + M + 1)) := by
  have hlen := hx.len
  refine calls_sym (args := [.slice x.a x.n x.c, r.v]) Tryz.func98 rfl Tryz.ntmps98 (rs := [.tmp 4]) Tryz.results98 (le_b rfl) (le_b rfl) d ?_
  refine sw_seq ?_
  refine sw_reg ?_
  refine sy_new 3 ⟨26, r.cs⟩ ?_
  refine sy_pure 4 (.v (.slice none 0 0)) ?_
  refine sy_next 23 [(0, .v (.slice x.a x.n x.c)), (3, .adr 3 0)] [(3, ⟨26, r.cs⟩)] ?_
  refine sw_seq ?_
  refine sw_reg ?_
  refine sy_pure 5 (.v (.slice none 0 0)) ?_
  refine sy_next 23 [(0, .v (.slice x.a x.n x.c)), (3, .adr 3 0), (5, .v (.slice none 0 0))] [(3, ⟨26, r.cs⟩)] ?_
  refine sw_seq ?_
  refine sw_seq ?_
  refine sw_reg ?_
  refine sy_pure 8 (.v (.slice x.a x.n x.c)) ?_
  refine sy_pure 9 (.v (.int .i64 (x.n : Int))) ?_
  refine sy_pure 10 (.v (.int .i64 0)) ?_
  refine sy_next 23 [(3, .adr 3 0), (5, .v (.slice none 0 0)), (8, .v (.slice x.a x.n x.c)), (9, .v (.int .i64 (x.n : Int))), (10, .v (.int .i64 0))] [(3, ⟨26, r.cs⟩)] ?_
  refine sw_block ?_
  refine sw_loop (I := fun m11 S' u' => (m11 = x.n ∧ S' = St.of 23 [(3, .adr 3 0), (5, .v (.slice none 0 0)), (8, .v (.slice x.a x.n x.c)), (9, .v (.int .i64 (x.n : Int))), (10, .v (.int .i64 0))] [(3, ⟨26, r.cs⟩)] ∧ Ext u u') ∨ (∃ (i : Nat) (L : List RL) (cs : List Value) (cp : Nat), m11 = x.n - i ∧ i ≤ x.n ∧ 0 < i ∧ L.length = i ∧ cs.length = cp * 3 ∧ i ≤ cp ∧ cp ≤ maxLen ∧ cs.take (i * 3) = rcs L ∧ S' = St.of 23 [(3, .adr 3 0), (5, .slc 19 0 i cp), (8, .v (.slice x.a x.n x.c)), (9, .v (.int .i64 (x.n : Int))), (10, .v (.int .i64 (i : Int)))] [(3, ⟨26, r.cs⟩), (19, ⟨26, cs⟩)] ∧ Ext u u' ∧ RatsN u' L ((l.map (· * q)).take i) (K + M + 1))) (fun m S u1 u2 e h => by rcases h with ⟨a, b, c⟩ | ⟨a1, a2, a3, a4, b1, b2, b3, b4, b5, b6, b7, b8, b9, b10, b11⟩; exact .inl ⟨a, b, c.trans e⟩; exact .inr ⟨a1, a2, a3, a4, b1, b2, b3, b4, b5, b6, b7, b8, b9, b10.trans e, b11.ext e⟩) _ (T := St.of 23 [(3, .adr 3 0), (5, .v (.slice none 0 0)), (8, .v (.slice x.a x.n x.c)), (9, .v (.int .i64 (x.n : Int))), (10, .v (.int .i64 0))] [(3, ⟨26, r.cs⟩)]) (by exact weak_mk _ _ _) (.inl ⟨rfl, rfl, Ext.refl _⟩) ?_
  rintro m11 _ u11 (⟨hm11, rfl, e11⟩ | ⟨i, L, cs, cp, hm11, hi, hp, hL, hc, hle, hmx, ht, rfl, e11, hR⟩)
  · change SW _ _ _ _ (St.of 23 [(3, .adr 3 0), (5, .v (.slice none 0 0)), (8, .v (.slice x.a x.n x.c)), (9, .v (.int .i64 (x.n : Int))), (10, .v (.int .i64 0))] [(3, ⟨26, r.cs⟩)]) _ _
    refine sw_seq ?_
    refine sw_reg ?_
    refine sy_pure 11 (.v (.bool (decide ((0 : Int) < (x.n : Int))))) ?_
    refine sy_next 23 [(3, .adr 3 0), (5, .v (.slice none 0 0)), (8, .v (.slice x.a x.n x.c)), (9, .v (.int .i64 (x.n : Int))), (10, .v (.int .i64 0)), (11, .v (.bool (decide ((0 : Int) < (x.n : Int)))))] [(3, ⟨26, r.cs⟩)] ?_
    refine sw_seq ?_
    refine sw_cond (b := decide ((0 : Int) < (x.n : Int))) (by kernel_rfl) (fun hb12 => ?_) (fun hb12 => ?_)
    · replace hb12 : (decide ((0 : Int) < (x.n : Int))) = true := hb12
      have qhb12 := of_decide_eq_true hb12
      refine sw_skip (mp_seq ?_)
      refine sw_seq ?_
      refine sw_block ?_
      refine sw_seq ?_
      refine sw_reg ?_
      have hl13 := (hx.ext e11).len
      obtain ⟨r13, b13, o13, hA13, hc13, hr13⟩ := pol_at (hx.ext e11) (i := 0) (by omega)
      refine sy_index 12 (o13 + 0 * 3) (n := x.n) (off := o13) (sz := 3) (i := 0) (by omega) hA13 (by omega) (by omega) sl41 ?_
      refine sy_ldn 13 r13.cs hc13 ty26 ?_
      refine sy_new 7 ⟨26, [.bool false, .slice none 0 0, .slice none 0 0]⟩ ?_
      refine sy_store ⟨26, r13.cs⟩ ty26 ?_
      refine sy_next 23 [(3, .adr 3 0), (5, .v (.slice none 0 0)), (7, .adr 7 0), (8, .v (.slice x.a x.n x.c)), (9, .v (.int .i64 (x.n : Int))), (10, .v (.int .i64 0))] [(3, ⟨26, r.cs⟩), (7, ⟨26, r13.cs⟩)] ?_
      refine sw_reg ?_
      refine sy_pure 14 (.v (.slice none 0 0)) ?_
      refine sy_ldv 15 (.v (r13.v)) ty26 part_agg ?_
      refine sy_ldv 16 (.v (r.v)) ty26 part_agg ?_
      refine sy_call 17 22 [r13.v, r.v] ?_
      intro w14 u14 e14 d14
      have k19 := k_rqMul d14 (hr13.ext e14) (hr.ext (e11.trans e14)) (by omega) (by omega)
      with_reducible refine Post.mono k19 ?_
      clear k19
      rintro _ u17 g18 ⟨r15, rfl, h16⟩
      refine sy_data 18 ⟨26, r15.cs⟩ 1 (fun b20 u21 e22 h23 => ?_)
      have hp24 : PolN u21 (⟨some ⟨b20, 0, none⟩, 1, 1⟩ : Sl) [((l.getD 0 0) * q)] (K + M + 1) := pol_lit (L := [r15]) h23 (rats1 (h16.ext e22)) rfl (by decide)
      refine sy_app0 19 (T := 41) (E := 26) (z := .agg #[.bool false, .slice none 0 0, .slice none 0 0]) (size := 3) (bytes := 56) (b := b20) (off := 0) (m := 1) r15.cs (by kernel_rfl) (by kernel_rfl) (by kernel_rfl) (by decide) rfl (lit_news ((Ext.refl _).cells h23)) (rl_one r15) (by decide) (by decide) (by decide) ?_
      intro c25 cs25 ha25 hb25 hc25 hd25
      refine sy_pure 5 (.slc 19 0 1 c25) ?_
      refine sy_end ?_
      refine mp_seq ?_
      refine sw_reg ?_
      refine sy_pure 20 (.v (.int .i64 1)) ?_
      refine sy_pure 10 (.v (.int .i64 1)) ?_
      refine sy_end ?_
      have ht26 : 0 < (l.map (· * q)).length := by rw [List.length_map]; omega
      refine ⟨_, ?_, St.of 23 [(3, .adr 3 0), (5, .slc 19 0 1 c25), (8, .v (.slice x.a x.n x.c)), (9, .v (.int .i64 (x.n : Int))), (10, .v (.int .i64 1))] [(3, ⟨26, r.cs⟩), (19, ⟨26, cs25⟩)], by exact weak_mk _ _ _, .inr ⟨1, [r15], cs25, c25, rfl, by omega, by omega, by simp, hc25, by omega, hb25, hd25, rfl, (e11.trans (e14.trans (g18.ext.trans e22))), (app_first (RatN.more (K := (K + M + 1)) (h16.ext e22) (by omega)) ht26 (by simp [List.getElem?_eq_getElem (show 0 < l.length by omega)]))⟩⟩
      omega
    · replace hb12 : (decide ((0 : Int) < (x.n : Int))) = false := hb12
      have qhb12 := of_decide_eq_false hb12
      refine sw_exit ?_
      refine mp_seq ?_
      refine sw_seq ?_
      have hp27 : PolN u11 ⟨none, 0, 0⟩ (l.map (· * q)) (K + M + 1) := by have h9 : l.map (· * q) = [] := List.eq_nil_of_length_eq_zero (by rw [List.length_map]; omega); rw [h9]; exact pol_nil _ _
      refine sw_reg ?_
      refine sy_pure 21 (.v (.slice none 0 0)) ?_
      refine sy_call 22 87 [.slice none 0 0] ?_
      intro w28 u28 e28 d28
      have k33 := k_r5Trim d28 (hp27.ext e28).raw (by omega) (by first | omega | (simp; omega) | (refine Nat.le_trans (Nt.trim_len _) ?_; first | omega | (simp; omega)) | (refine Nat.le_trans (Nt.trim_len _) ?_; simp only [List.length_map]; refine Nat.le_trans (Nt.trim_len _) ?_; first | omega | (simp; omega)))
      with_reducible refine Post.mono k33 ?_
      clear k33
      rintro _ u31 g32 ⟨y29, rfl, h30⟩
      have hly29 := h30.len
      refine sy_pure 4 (.v (.slice y29.a y29.n y29.c)) ?_
      refine sy_next 23 [(4, .v (.slice y29.a y29.n y29.c))] [] ?_
      refine sw_ret (ret0 [.slice y29.a y29.n y29.c] ⟨res_tmp, trivial⟩ fun u34 e35 => ?_)
      refine ⟨y29, rfl, ?_⟩
      exact (h30.ext e35)
  · change SW _ _ _ _ (St.of 23 [(3, .adr 3 0), (5, .slc 19 0 i cp), (8, .v (.slice x.a x.n x.c)), (9, .v (.int .i64 (x.n : Int))), (10, .v (.int .i64 (i : Int)))] [(3, ⟨26, r.cs⟩), (19, ⟨26, cs⟩)]) _ _
    refine sw_seq ?_
    refine sw_reg ?_
    refine sy_pure 11 (.v (.bool (decide ((i : Int) < (x.n : Int))))) ?_
    refine sy_next 23 [(3, .adr 3 0), (5, .slc 19 0 i cp), (8, .v (.slice x.a x.n x.c)), (9, .v (.int .i64 (x.n : Int))), (10, .v (.int .i64 (i : Int))), (11, .v (.bool (decide ((i : Int) < (x.n : Int)))))] [(3, ⟨26, r.cs⟩), (19, ⟨26, cs⟩)] ?_
    refine sw_seq ?_
    refine sw_cond (b := decide ((i : Int) < (x.n : Int))) (by kernel_rfl) (fun hb36 => ?_) (fun hb36 => ?_)
    · replace hb36 : (decide ((i : Int) < (x.n : Int))) = true := hb36
      have qhb36 := of_decide_eq_true hb36
      refine sw_skip (mp_seq ?_)
      refine sw_seq ?_
      refine sw_block ?_
      refine sw_seq ?_
      refine sw_reg ?_
      have hl37 := (hx.ext e11).len
      obtain ⟨r37, b37, o37, hA37, hc37, hr37⟩ := pol_at (hx.ext e11) (i := i) (by omega)
      refine sy_index 12 (o37 + i * 3) (n := x.n) (off := o37) (sz := 3) (i := (i : Int)) (by omega) hA37 (by omega) (by omega) sl41 ?_
      refine sy_ldn 13 r37.cs hc37 ty26 ?_
      refine sy_new 7 ⟨26, [.bool false, .slice none 0 0, .slice none 0 0]⟩ ?_
      refine sy_store ⟨26, r37.cs⟩ ty26 ?_
      refine sy_next 23 [(3, .adr 3 0), (5, .slc 19 0 i cp), (7, .adr 7 0), (8, .v (.slice x.a x.n x.c)), (9, .v (.int .i64 (x.n : Int))), (10, .v (.int .i64 (i : Int)))] [(3, ⟨26, r.cs⟩), (7, ⟨26, r37.cs⟩), (19, ⟨26, cs⟩)] ?_
      refine sw_reg ?_
      refine sy_pure 14 (.slc 19 0 i cp) ?_
      refine sy_ldv 15 (.v (r37.v)) ty26 part_agg ?_
      refine sy_ldv 16 (.v (r.v)) ty26 part_agg ?_
      refine sy_call 17 22 [r37.v, r.v] ?_
      intro w38 u38 e38 d38
      have k43 := k_rqMul d38 (hr37.ext e38) (hr.ext (e11.trans e38)) (by omega) (by omega)
      with_reducible refine Post.mono k43 ?_
      clear k43
      rintro _ u41 g42 ⟨r39, rfl, h40⟩
      refine sy_data 18 ⟨26, r39.cs⟩ 1 (fun b44 u45 e46 h47 => ?_)
      have hp48 : PolN u45 (⟨some ⟨b44, 0, none⟩, 1, 1⟩ : Sl) [((l.getD i 0) * q)] (K + M + 1) := pol_lit (L := [r39]) h47 (rats1 (h40.ext e46)) rfl (by decide)
      refine sy_app1 19 (T := 41) (E := 26) (z := .agg #[.bool false, .slice none 0 0, .slice none 0 0]) (size := 3) (bytes := 56) (b := b44) (off := 0) (m := 1) (n := i) (cap := cp) (t := 19) (cs0 := cs) [5, 14, 19] r39.cs (by kernel_rfl) (by kernel_rfl) (by kernel_rfl) (by decide) rfl (lit_news ((Ext.refl _).cells h47)) (rl_one r39) (by decide) (by unfold maxLen; omega) (by omega) (by omega) (by omega) (by omega) (by repeat first | exact noAt_of | refine noAt_set ?_ | refine noAt_lit ?_ | refine noAt_new ?_ | refine noAt_setVar ?_ | refine noAt_unpub ?_) ?_
      intro c49 cs49 ha49 hb49 hc49 hd49
      have hd49r : cs49.take ((i + 1) * 3) = rcs (L ++ [r39]) := by rw [hd49, ht, rcs_app]; rfl
      refine sy_pure 5 (.slc 19 0 (i + 1) c49) ?_
      refine sy_end ?_
      refine mp_seq ?_
      refine sw_reg ?_
      refine sy_eq 20 (x := .v (.int .i64 (IntKind.i64.wrap ((i : Int) + 1)))) (.v (.int .i64 ((i + 1 : Nat) : Int))) (eqI (by rw [IntWalk.i64_in _ (by omega)]; omega)) ?_
      refine sy_pure 10 (.v (.int .i64 ((i + 1 : Nat) : Int))) ?_
      refine sy_end ?_
      have ht50 : i < (l.map (· * q)).length := by rw [List.length_map]; omega
      refine ⟨_, ?_, St.of 23 [(3, .adr 3 0), (5, .slc 19 0 (i + 1) c49), (8, .v (.slice x.a x.n x.c)), (9, .v (.int .i64 (x.n : Int))), (10, .v (.int .i64 ((i + 1 : Nat) : Int)))] [(3, ⟨26, r.cs⟩), (19, ⟨26, cs49⟩)], by exact weak_mk _ _ _, .inr ⟨i + 1, L ++ [r39], cs49, c49, rfl, by omega, by omega, by simp; omega, hc49, by omega, hb49, hd49r, rfl, (e11.trans (e38.trans (g42.ext.trans e46))), (app_next (hR.ext (e38.trans (g42.ext.trans e46))) (RatN.more (K := (K + M + 1)) (h40.ext e46) (by omega)) ht50 (by simp [List.getElem?_eq_getElem (show i < l.length by omega)]))⟩⟩
      omega
    · replace hb36 : (decide ((i : Int) < (x.n : Int))) = false := hb36
      have qhb36 := of_decide_eq_false hb36
      refine sw_exit ?_
      refine mp_seq ?_
      refine sw_seq ?_
      refine sw_pub (r := 5) (t := 19) [5, 19] (by repeat first | exact noAt_of | refine noAt_set ?_ | refine noAt_lit ?_ | refine noAt_new ?_ | refine noAt_setVar ?_ | refine noAt_unpub ?_) (by kernel_rfl) (by rfl) (by rfl) (by kernel_rfl) (fun b52 u53 e54 hb55 hh56 => ?_)
      have hp51 : PolN u53 ⟨some ⟨b52, 0, none⟩, i, cp⟩ (l.map (· * q)) (K + M + 1) := by have h8 := pol_data hh56 ht hc hle hmx (hR.ext e54); rw [List.take_of_length_le (l := l.map (· * q)) (by rw [List.length_map]; omega)] at h8; exact h8
      refine sw_reg ?_
      refine sy_pure 21 (.v (.slice (some ⟨b52, 0, none⟩) i cp)) ?_
      refine sy_call 22 87 [.slice (some ⟨b52, 0, none⟩) i cp] ?_
      intro w57 u57 e57 d57
      have k62 := k_r5Trim d57 (hp51.ext e57).raw (by omega) (by first | omega | (simp; omega) | (refine Nat.le_trans (Nt.trim_len _) ?_; first | omega | (simp; omega)) | (refine Nat.le_trans (Nt.trim_len _) ?_; simp only [List.length_map]; refine Nat.le_trans (Nt.trim_len _) ?_; first | omega | (simp; omega)))
      with_reducible refine Post.mono k62 ?_
      clear k62
      rintro _ u60 g61 ⟨y58, rfl, h59⟩
      have hly58 := h59.len
      refine sy_pure 4 (.v (.slice y58.a y58.n y58.c)) ?_
      refine sy_next 23 [(4, .v (.slice y58.a y58.n y58.c))] [] ?_
      refine sw_ret (ret0 [.slice y58.a y58.n y58.c] ⟨res_tmp, trivial⟩ fun u63 e64 => ?_)
      refine ⟨y58, rfl, ?_⟩
      exact (h59.ext e64)
set_option maxHeartbeats 2000000 in
theorem k_r5Derivative {u w : World} {x : Sl} {l : List Rat} {K : Nat} (d : Dat u w) (hx : PolV u x l K) (hK : K ≤ 20000000) (hx9 : l.length ≤ 1000000000) : Calls Tryz.prog 35 #[x.v] w (Post u w fun v u' => ∃ y : Sl, v = y.v ∧ PolN u' y (Nt.trimQ (Nt.derQ l)) (K + 3)) := by
  have hlen := hx.len
  refine calls_sym (args := [.slice x.a x.n x.c]) Tryz.func35 rfl Tryz.ntmps35 (rs := [.tmp 2]) Tryz.results35 (le_b rfl) (le_b rfl) d ?_
  refine sw_seq ?_
  refine sw_reg ?_
  refine sy_pure 2 (.v (.slice none 0 0)) ?_
  refine sy_next 23 [(0, .v (.slice x.a x.n x.c))] [] ?_
  refine sw_seq ?_
  refine sw_reg ?_
  refine sy_pure 3 (.v (.slice none 0 0)) ?_
  refine sy_next 23 [(0, .v (.slice x.a x.n x.c)), (3, .v (.slice none 0 0))] [] ?_
  refine sw_seq ?_
  refine sw_seq ?_
  refine sw_reg ?_
  refine sy_pure 4 (.v (.int .i64 1)) ?_
  refine sy_next 23 [(0, .v (.slice x.a x.n x.c)), (3, .v (.slice none 0 0)), (4, .v (.int .i64 1))] [] ?_
  refine sw_block ?_
  refine sw_loop (I := fun m11 S' u' => (m11 = x.n - 1 ∧ S' = St.of 23 [(0, .v (.slice x.a x.n x.c)), (3, .v (.slice none 0 0)), (4, .v (.int .i64 1))] [] ∧ Ext u u') ∨ (∃ (i : Nat) (L : List RL) (cs : List Value) (cp : Nat), m11 = (x.n - 1) - i ∧ i ≤ x.n - 1 ∧ 0 < i ∧ L.length = i ∧ cs.length = cp * 3 ∧ i ≤ cp ∧ cp ≤ maxLen ∧ cs.take (i * 3) = rcs L ∧ S' = St.of 23 [(0, .v (.slice x.a x.n x.c)), (3, .slc 20 0 i cp), (4, .v (.int .i64 ((i + 1 : Nat) : Int)))] [(20, ⟨26, cs⟩)] ∧ Ext u u' ∧ RatsN u' L ((Nt.derQ l).take i) (K + 3))) (fun m S u1 u2 e h => by rcases h with ⟨a, b, c⟩ | ⟨a1, a2, a3, a4, b1, b2, b3, b4, b5, b6, b7, b8, b9, b10, b11⟩; exact .inl ⟨a, b, c.trans e⟩; exact .inr ⟨a1, a2, a3, a4, b1, b2, b3, b4, b5, b6, b7, b8, b9, b10.trans e, b11.ext e⟩) _ (T := St.of 23 [(0, .v (.slice x.a x.n x.c)), (3, .v (.slice none 0 0)), (4, .v (.int .i64 1))] []) (by exact weak_mk _ _ _) (.inl ⟨rfl, rfl, Ext.refl _⟩) ?_
  rintro m11 _ u11 (⟨hm11, rfl, e11⟩ | ⟨i, L, cs, cp, hm11, hi, hp, hL, hc, hle, hmx, ht, rfl, e11, hR⟩)
  · change SW _ _ _ _ (St.of 23 [(0, .v (.slice x.a x.n x.c)), (3, .v (.slice none 0 0)), (4, .v (.int .i64 1))] []) _ _
    refine sw_seq ?_
    refine sw_seq ?_
    refine sw_reg ?_
    refine sy_pure 5 (.v (.int .i64 1)) ?_
    refine sy_pure 6 (.v (.slice x.a x.n x.c)) ?_
    refine sy_pure 7 (.v (.int .i64 (x.n : Int))) ?_
    refine sy_pure 8 (.v (.bool (decide ((1 : Int) < (x.n : Int))))) ?_
    refine sy_next 23 [(0, .v (.slice x.a x.n x.c)), (3, .v (.slice none 0 0)), (4, .v (.int .i64 1)), (8, .v (.bool (decide ((1 : Int) < (x.n : Int)))))] [] ?_
    refine sw_cond (b := decide ((1 : Int) < (x.n : Int))) (by kernel_rfl) (fun hb12 => ?_) (fun hb12 => ?_)
    · replace hb12 : (decide ((1 : Int) < (x.n : Int))) = true := hb12
      have qhb12 := of_decide_eq_true hb12
      refine sw_skip (mp_seq ?_)
      refine sw_seq ?_
      refine sw_block ?_
      refine sw_any [0, 0, 0, 6, 14, 0, 32, 126, 254, 511, 1023] [(0, []), (1, []), (2, []), (3, []), (4, []), (5, []), (6, []), (7, []), (8, []), (9, []), (10, [])] (by kernel_rfl) (by kernel_rfl) ?_
      refine sy_pure 11 (.v (.slice none 0 0)) ?_
      refine sy_pure 12 (.v (.slice x.a x.n x.c)) ?_
      refine sy_pure 13 (.v (.int .i64 1)) ?_
      have hl13 := (hx.ext e11).len
      obtain ⟨r13, b13, o13, hA13, hc13, hr13⟩ := pol_at (hx.ext e11) (i := 1) (by omega)
      refine sy_index 14 (o13 + 1 * 3) (n := x.n) (off := o13) (sz := 3) (i := 1) (by omega) hA13 (by omega) (by omega) sl41 ?_
      refine sy_ldn 15 r13.cs hc13 ty26 ?_
      refine sy_pure 16 (.v (.int .i64 1)) ?_
      refine sy_call 17 41 [.int .i64 1] ?_
      intro w14 u14 e14 d14
      have k19 := k_rqOf d14 (z := 1) (by omega) (by omega)
      with_reducible refine Post.mono k19 ?_
      clear k19
      rintro _ u17 g18 ⟨r15, rfl, h16⟩
      refine sy_call 18 22 [r13.v, r15.v] ?_
      intro w20 u20 e20 d20
      have k25 := k_rqMul d20 (hr13.ext (e14.trans (g18.ext.trans e20))) (h16.ext e20).raw (by omega) (by omega)
      with_reducible refine Post.mono k25 ?_
      clear k25
      rintro _ u23 g24 ⟨r21, rfl, h22⟩
      refine sy_lit 19 ⟨26, r21.cs⟩ 1 ?_
      refine sy_appL0 20 (T := 41) (E := 26) (z := .agg #[.bool false, .slice none 0 0, .slice none 0 0]) (size := 3) (bytes := 56) (m := 1) (t2 := 19) r21.cs (by kernel_rfl) (by kernel_rfl) (by kernel_rfl) (by decide) rfl (rl_one r21) (by decide) (by decide) (by decide) ?_
      intro c26 cs26 ha26 hb26 hc26 hd26
      refine sy_pure 3 (.slc 20 0 1 c26) ?_
      refine sy_end ?_
      refine mp_seq ?_
      refine sw_reg ?_
      refine sy_pure 9 (.v (.int .i64 1)) ?_
      refine sy_pure 10 (.v (.int .i64 2)) ?_
      refine sy_pure 4 (.v (.int .i64 2)) ?_
      refine sy_end ?_
      have ht27 : 0 < (Nt.derQ l).length := by rw [Nt.derQ_len]; omega
      refine ⟨_, ?_, St.of 23 [(0, .v (.slice x.a x.n x.c)), (3, .slc 20 0 1 c26), (4, .v (.int .i64 2))] [(20, ⟨26, cs26⟩)], by exact weak_mk _ _ _, .inr ⟨1, [r21], cs26, c26, rfl, by omega, by omega, by simp, hc26, by omega, hb26, hd26, rfl, (e11.trans (e14.trans (g18.ext.trans (e20.trans g24.ext)))), (app_first (RatN.more (K := (K + 2 + 1)) h22 (by omega)) ht27 (by have h9 := Nt.derQ_co l (0); unfold Nt.co at h9; exact h9.symm))⟩⟩
      omega
    · replace hb12 : (decide ((1 : Int) < (x.n : Int))) = false := hb12
      have qhb12 := of_decide_eq_false hb12
      refine sw_exit ?_
      refine mp_seq ?_
      refine sw_seq ?_
      have hp28 : PolN u11 ⟨none, 0, 0⟩ (Nt.derQ l) (K + 3) := by have h9 : Nt.derQ l = [] := List.eq_nil_of_length_eq_zero (by rw [Nt.derQ_len]; omega); rw [h9]; exact pol_nil _ _
      refine sw_reg ?_
      refine sy_pure 21 (.v (.slice none 0 0)) ?_
      refine sy_call 22 87 [.slice none 0 0] ?_
      intro w29 u29 e29 d29
      have k34 := k_r5Trim d29 (hp28.ext e29).raw (by omega) (by first | omega | (simp; omega) | (refine Nat.le_trans (Nt.trim_len _) ?_; first | omega | (simp; omega)) | (refine Nat.le_trans (Nt.trim_len _) ?_; simp only [List.length_map]; refine Nat.le_trans (Nt.trim_len _) ?_; first | omega | (simp; omega)))
      with_reducible refine Post.mono k34 ?_
      clear k34
      rintro _ u32 g33 ⟨y30, rfl, h31⟩
      have hly30 := h31.len
      refine sy_pure 2 (.v (.slice y30.a y30.n y30.c)) ?_
      refine sy_next 23 [(2, .v (.slice y30.a y30.n y30.c))] [] ?_
      refine sw_ret (ret0 [.slice y30.a y30.n y30.c] ⟨res_tmp, trivial⟩ fun u35 e36 => ?_)
      refine ⟨y30, rfl, ?_⟩
      exact (h31.ext e36)
  · change SW _ _ _ _ (St.of 23 [(0, .v (.slice x.a x.n x.c)), (3, .slc 20 0 i cp), (4, .v (.int .i64 ((i + 1 : Nat) : Int)))] [(20, ⟨26, cs⟩)]) _ _
    refine sw_seq ?_
    refine sw_seq ?_
    refine sw_reg ?_
    refine sy_pure 5 (.v (.int .i64 ((i + 1 : Nat) : Int))) ?_
    refine sy_pure 6 (.v (.slice x.a x.n x.c)) ?_
    refine sy_pure 7 (.v (.int .i64 (x.n : Int))) ?_
    refine sy_pure 8 (.v (.bool (decide (((i + 1 : Nat) : Int) < (x.n : Int))))) ?_
    refine sy_next 23 [(0, .v (.slice x.a x.n x.c)), (3, .slc 20 0 i cp), (4, .v (.int .i64 ((i + 1 : Nat) : Int))), (8, .v (.bool (decide (((i + 1 : Nat) : Int) < (x.n : Int)))))] [(20, ⟨26, cs⟩)] ?_
    refine sw_cond (b := decide (((i + 1 : Nat) : Int) < (x.n : Int))) (by kernel_rfl) (fun hb37 => ?_) (fun hb37 => ?_)
    · replace hb37 : (decide (((i + 1 : Nat) : Int) < (x.n : Int))) = true := hb37
      have qhb37 := of_decide_eq_true hb37
      refine sw_skip (mp_seq ?_)
      refine sw_seq ?_
      refine sw_block ?_
      refine sw_any [0, 0, 0, 6, 14, 0, 32, 126, 254, 511, 1023] [(0, []), (1, []), (2, []), (3, []), (4, []), (5, []), (6, []), (7, []), (8, []), (9, []), (10, [])] (by kernel_rfl) (by kernel_rfl) ?_
      refine sy_pure 11 (.slc 20 0 i cp) ?_
      refine sy_pure 12 (.v (.slice x.a x.n x.c)) ?_
      refine sy_pure 13 (.v (.int .i64 ((i + 1 : Nat) : Int))) ?_
      have hl38 := (hx.ext e11).len
      obtain ⟨r38, b38, o38, hA38, hc38, hr38⟩ := pol_at (hx.ext e11) (i := i + 1) (by omega)
      refine sy_index 14 (o38 + (i + 1) * 3) (n := x.n) (off := o38) (sz := 3) (i := ((i + 1 : Nat) : Int)) (by omega) hA38 (by omega) (by omega) sl41 ?_
      refine sy_ldn 15 r38.cs hc38 ty26 ?_
      refine sy_pure 16 (.v (.int .i64 ((i + 1 : Nat) : Int))) ?_
      refine sy_call 17 41 [.int .i64 ((i + 1 : Nat) : Int)] ?_
      intro w39 u39 e39 d39
      have k44 := k_rqOf d39 (z := ((i + 1 : Nat) : Int)) (by omega) (by omega)
      with_reducible refine Post.mono k44 ?_
      clear k44
      rintro _ u42 g43 ⟨r40, rfl, h41⟩
      refine sy_call 18 22 [r38.v, r40.v] ?_
      intro w45 u45 e45 d45
      have k50 := k_rqMul d45 (hr38.ext (e39.trans (g43.ext.trans e45))) (h41.ext e45).raw (by omega) (by omega)
      with_reducible refine Post.mono k50 ?_
      clear k50
      rintro _ u48 g49 ⟨r46, rfl, h47⟩
      refine sy_lit 19 ⟨26, r46.cs⟩ 1 ?_
      refine sy_appL1 20 (T := 41) (E := 26) (z := .agg #[.bool false, .slice none 0 0, .slice none 0 0]) (size := 3) (bytes := 56) (m := 1) (t2 := 19) (n := i) (cap := cp) (t := 20) (cs0 := cs) [3, 11, 20] r46.cs (by kernel_rfl) (by kernel_rfl) (by kernel_rfl) (by decide) rfl (rl_one r46) (by decide) (by unfold maxLen; omega) (by omega) (by omega) (by omega) (by omega) (by repeat first | exact noAt_of | refine noAt_set ?_ | refine noAt_lit ?_ | refine noAt_new ?_ | refine noAt_setVar ?_ | refine noAt_unpub ?_) ?_
      intro c51 cs51 ha51 hb51 hc51 hd51
      have hd51r : cs51.take ((i + 1) * 3) = rcs (L ++ [r46]) := by rw [hd51, ht, rcs_app]; rfl
      refine sy_pure 3 (.slc 20 0 (i + 1) c51) ?_
      refine sy_end ?_
      refine mp_seq ?_
      refine sw_reg ?_
      refine sy_pure 9 (.v (.int .i64 ((i + 1 : Nat) : Int))) ?_
      refine sy_eq 10 (x := .v (.int .i64 (IntKind.i64.wrap (((i + 1 : Nat) : Int) + 1)))) (.v (.int .i64 (((i + 1) + 1 : Nat) : Int))) (eqI (by rw [IntWalk.i64_in _ (by omega)]; omega)) ?_
      refine sy_pure 4 (.v (.int .i64 (((i + 1) + 1 : Nat) : Int))) ?_
      refine sy_end ?_
      have ht52 : i < (Nt.derQ l).length := by rw [Nt.derQ_len]; omega
      refine ⟨_, ?_, St.of 23 [(0, .v (.slice x.a x.n x.c)), (3, .slc 20 0 (i + 1) c51), (4, .v (.int .i64 (((i + 1) + 1 : Nat) : Int)))] [(20, ⟨26, cs51⟩)], by exact weak_mk _ _ _, .inr ⟨i + 1, L ++ [r46], cs51, c51, rfl, by omega, by omega, by simp; omega, hc51, by omega, hb51, hd51r, rfl, (e11.trans (e39.trans (g43.ext.trans (e45.trans g49.ext)))), (app_next (hR.ext (e39.trans (g43.ext.trans (e45.trans g49.ext)))) (RatN.more (K := (K + 2 + 1)) h47 (by omega)) ht52 (by have h9 := Nt.derQ_co l (i); unfold Nt.co at h9; exact h9.symm))⟩⟩
      omega
    · replace hb37 : (decide (((i + 1 : Nat) : Int) < (x.n : Int))) = false := hb37
      have qhb37 := of_decide_eq_false hb37
      refine sw_exit ?_
      refine mp_seq ?_
      refine sw_seq ?_
      refine sw_pub (r := 3) (t := 20) [3, 20] (by repeat first | exact noAt_of | refine noAt_set ?_ | refine noAt_lit ?_ | refine noAt_new ?_ | refine noAt_setVar ?_ | refine noAt_unpub ?_) (by kernel_rfl) (by rfl) (by rfl) (by kernel_rfl) (fun b54 u55 e56 hb57 hh58 => ?_)
      have hp53 : PolN u55 ⟨some ⟨b54, 0, none⟩, i, cp⟩ (Nt.derQ l) (K + 3) := by have h8 := pol_data hh58 ht hc hle hmx (hR.ext e56); rw [List.take_of_length_le (l := Nt.derQ l) (by rw [Nt.derQ_len]; omega)] at h8; exact h8
      refine sw_reg ?_
      refine sy_pure 21 (.v (.slice (some ⟨b54, 0, none⟩) i cp)) ?_
      refine sy_call 22 87 [.slice (some ⟨b54, 0, none⟩) i cp] ?_
      intro w59 u59 e59 d59
      have k64 := k_r5Trim d59 (hp53.ext e59).raw (by omega) (by first | omega | (simp; omega) | (refine Nat.le_trans (Nt.trim_len _) ?_; first | omega | (simp; omega)) | (refine Nat.le_trans (Nt.trim_len _) ?_; simp only [List.length_map]; refine Nat.le_trans (Nt.trim_len _) ?_; first | omega | (simp; omega)))
      with_reducible refine Post.mono k64 ?_
      clear k64
      rintro _ u62 g63 ⟨y60, rfl, h61⟩
      have hly60 := h61.len
      refine sy_pure 2 (.v (.slice y60.a y60.n y60.c)) ?_
      refine sy_next 23 [(2, .v (.slice y60.a y60.n y60.c))] [] ?_
      refine sw_ret (ret0 [.slice y60.a y60.n y60.c] ⟨res_tmp, trivial⟩ fun u65 e66 => ?_)
      refine ⟨y60, rfl, ?_⟩
      exact (h61.ext e66)
set_option maxHeartbeats 2000000 in
theorem k_r5Monic {u w : World} {x : Sl} {l : List Rat} {K : Nat} (d : Dat u w) (hx : PolV u x l K) (hK : K ≤ 16000000) (hx9 : l.length ≤ 1000000000) : Calls Tryz.prog 33 #[x.v] w (Post u w fun v u' => ∃ y : Sl, v = y.v ∧ PolN u' y ((Nt.Pol.mk' l).monic.l) (2 * K + 8)) := by
  have hlen := hx.len
  have htl := Nt.trim_len l
  refine calls_sym (args := [.slice x.a x.n x.c]) Tryz.func33 rfl Tryz.ntmps33 (rs := [.tmp 2]) Tryz.results33 (le_b rfl) (le_b rfl) d ?_
  refine sw_seq ?_
  refine sw_reg ?_
  refine sy_pure 2 (.v (.slice none 0 0)) ?_
  refine sy_next 18 [(0, .v (.slice x.a x.n x.c))] [] ?_
  refine sw_seq ?_
  refine sw_reg ?_
  refine sy_pure 3 (.v (.slice x.a x.n x.c)) ?_
  refine sy_call 4 87 [.slice x.a x.n x.c] ?_
  intro w11 u11 e11 d11
  have k16 := k_r5Trim d11 (hx.ext e11) (by omega) (by first | omega | (simp; omega) | (refine Nat.le_trans (Nt.trim_len _) ?_; first | omega | (simp; omega)) | (refine Nat.le_trans (Nt.trim_len _) ?_; simp only [List.length_map]; refine Nat.le_trans (Nt.trim_len _) ?_; first | omega | (simp; omega)))
  with_reducible refine Post.mono k16 ?_
  clear k16
  rintro _ u14 g15 ⟨y12, rfl, h13⟩
  have hly12 := h13.len
  refine sy_pure 0 (.v (.slice y12.a y12.n y12.c)) ?_
  refine sy_next 18 [(0, .v (.slice y12.a y12.n y12.c))] [] ?_
  refine sw_seq ?_
  refine sw_seq ?_
  refine sw_reg ?_
  refine sy_pure 5 (.v (.slice y12.a y12.n y12.c)) ?_
  refine sy_pure 6 (.v (.int .i64 (y12.n : Int))) ?_
  refine sy_pure 7 (.v (.bool ((y12.n : Int) == 0))) ?_
  refine sy_next 18 [(0, .v (.slice y12.a y12.n y12.c)), (7, .v (.bool ((y12.n : Int) == 0)))] [] ?_
  refine sw_cond (b := (y12.n : Int) == 0) (by kernel_rfl) (fun hb17 => ?_) (fun hb17 => ?_)
  · replace hb17 : ((y12.n : Int) == 0) = true := hb17
    have qhb17 : (y12.n : Int) = 0 := by simpa using hb17
    refine sw_seq ?_
    refine sw_reg ?_
    refine sy_pure 2 (.v (.slice none 0 0)) ?_
    refine sy_next 18 [(2, .v (.slice none 0 0))] [] ?_
    refine sw_ret (mpr_seq (ret0 [.slice none 0 0] ⟨res_tmp, trivial⟩ fun u18 e19 => ?_))
    have e9 : Nt.trimQ l = [] := List.eq_nil_of_length_eq_zero (by omega)
    rw [Nt.monic_list, e9]
    exact ⟨⟨none, 0, 0⟩, rfl, pol_nil _ _⟩
  · replace hb17 : ((y12.n : Int) == 0) = false := hb17
    have qhb17 : ¬ ((y12.n : Int) = 0) := by simpa using hb17
    refine sw_skip (mp_seq ?_)
    refine sw_seq ?_
    have hyn : y12.n = (Nt.trimQ l).length := hly12
    refine sw_any [0, 0, 0, 0, 8, 24, 60, 124, 254, 511, 1023] [(0, []), (2, []), (3, []), (4, []), (5, []), (6, []), (7, []), (1, []), (8, []), (9, []), (10, [])] (by kernel_rfl) (by kernel_rfl) ?_
    refine sy_pure 8 (.v (.slice y12.a y12.n y12.c)) ?_
    refine sy_pure 10 (.v (.slice y12.a y12.n y12.c)) ?_
    refine sy_pure 11 (.v (.slice y12.a y12.n y12.c)) ?_
    refine sy_pure 12 (.v (.int .i64 (y12.n : Int))) ?_
    refine sy_eq 13 (x := .v (.int .i64 (IntKind.i64.wrap ((y12.n : Int) - 1)))) (.v (.int .i64 ((y12.n - 1 : Nat) : Int))) (eqI (by rw [IntWalk.i64_in _ (by omega)]; omega)) ?_
    have hl20 := h13.len
    obtain ⟨r20, b20, o20, hA20, hc20, hr20⟩ := pol_atN h13 (i := y12.n - 1) (by omega)
    refine sy_index 14 (o20 + (y12.n - 1) * 3) (n := y12.n) (off := o20) (sz := 3) (i := ((y12.n - 1 : Nat) : Int)) (by omega) hA20 (by omega) (by omega) sl41 ?_
    refine sy_ldn 15 r20.cs hc20 ty26 ?_
    refine sy_call 9 41 [.int .i64 1] ?_
    intro w21 u21 e21 d21
    have k26 := k_rqOf d21 (z := 1) (by omega) (by omega)
    with_reducible refine Post.mono k26 ?_
    clear k26
    rintro _ u24 g25 ⟨r22, rfl, h23⟩
    refine sy_call 16 16 [r22.v, r20.v] ?_
    intro w27 u27 e27 d27
    have k32 := k_rqOver d27 (h23.ext e27).raw (hr20.ext (e21.trans (g25.ext.trans e27))).raw (by omega) (by omega)
    with_reducible refine Post.mono k32 ?_
    clear k32
    rintro _ u30 g31 ⟨r28, rfl, h29⟩
    refine sy_call 17 98 [.slice y12.a y12.n y12.c, r28.v] ?_
    intro w33 u33 e33 d33
    have k38 := k_r5Scale d33 (h13.ext (e21.trans (g25.ext.trans (e27.trans (g31.ext.trans e33))))).raw (h29.ext e33).raw (by omega) (by omega) (by omega)
    with_reducible refine Post.mono k38 ?_
    clear k38
    rintro _ u36 g37 ⟨y34, rfl, h35⟩
    have hly34 := h35.len
    refine sy_pure 2 (.v (.slice y34.a y34.n y34.c)) ?_
    refine sy_next 18 [(2, .v (.slice y34.a y34.n y34.c))] [] ?_
    refine sw_ret (ret0 [.slice y34.a y34.n y34.c] ⟨res_tmp, trivial⟩ fun u39 e40 => ?_)
    rw [Nt.monic_list]
    refine ⟨y34, rfl, PolN.more (K := (K + (2 + K + 2) + 1)) ?_ (by omega)⟩
    have h9 := (h35.ext e40)
    rw [hyn] at h9
    exact h9
set_option maxHeartbeats 4000000 in
theorem k_r5Mul {u w : World} {x : Sl} {l : List Rat} {y : Sl} {m : List Rat} {K M : Nat} (d : Dat u w) (hx : PolV u x l K) (hy : PolV u y m M) (hB : Nt.kk (K + M + 3) (l.length * m.length) ≤ 20000000) (hK1 : K ≤ 10000000) (hM1 : M ≤ 10000000) (hx9 : l.length ≤ 100000000) (hy9 : m.length ≤ 100000000) : Calls Tryz.prog 96 #[x.v, y.v] w (Post u w fun v u' => ∃ y : Sl, v = y.v ∧ PolN u' y (Nt.trimQ (Nt.mulQ l m)) (Nt.kk (K + M + 3) (l.length * m.length))) := by
  have hlen := hx.len
  have hlen2 := hy.len
  have htl := Nt.trim_len l
  have htm := Nt.trim_len m
  have hB2 : Nt.kk (K + M + 3) ((Nt.trimQ l).length * (Nt.trimQ m).length) ≤ 20000000 := Nat.le_trans (Nt.kk_mono (Nat.le_refl _) (Nat.mul_le_mul htl htm)) hB
  refine calls_sym (args := [.slice x.a x.n x.c, .slice y.a y.n y.c]) Tryz.func96 rfl Tryz.ntmps96 (rs := [.tmp 4]) Tryz.results96 (le_b rfl) (le_b rfl) d ?_
  refine sw_seq ?_
  refine sw_reg ?_
  refine sy_pure 4 (.v (.slice none 0 0)) ?_
  refine sy_next 62 [(0, .v (.slice x.a x.n x.c)), (1, .v (.slice y.a y.n y.c))] [] ?_
  refine sw_seq ?_
  refine sw_reg ?_
  refine sy_pure 8 (.v (.slice x.a x.n x.c)) ?_
  refine sy_call 9 87 [.slice x.a x.n x.c] ?_
  intro w11 u11 e11 d11
  have k16 := k_r5Trim d11 (hx.ext e11) (by omega) (by first | omega | (simp; omega) | (refine Nat.le_trans (Nt.trim_len _) ?_; first | omega | (simp; omega)) | (refine Nat.le_trans (Nt.trim_len _) ?_; simp only [List.length_map]; refine Nat.le_trans (Nt.trim_len _) ?_; first | omega | (simp; omega)))
  with_reducible refine Post.mono k16 ?_
  clear k16
  rintro _ u14 g15 ⟨y12, rfl, h13⟩
  have hly12 := h13.len
  refine sy_pure 10 (.v (.slice y.a y.n y.c)) ?_
  refine sy_call 11 87 [.slice y.a y.n y.c] ?_
  intro w17 u17 e17 d17
  have k22 := k_r5Trim d17 (hy.ext (e11.trans (g15.ext.trans e17))) (by omega) (by first | omega | (simp; omega) | (refine Nat.le_trans (Nt.trim_len _) ?_; first | omega | (simp; omega)) | (refine Nat.le_trans (Nt.trim_len _) ?_; simp only [List.length_map]; refine Nat.le_trans (Nt.trim_len _) ?_; first | omega | (simp; omega)))
  with_reducible refine Post.mono k22 ?_
  clear k22
  rintro _ u20 g21 ⟨y18, rfl, h19⟩
  have hly18 := h19.len
  refine sy_pure 0 (.v (.slice y12.a y12.n y12.c)) ?_
  refine sy_pure 1 (.v (.slice y18.a y18.n y18.c)) ?_
  refine sy_next 62 [(0, .v (.slice y12.a y12.n y12.c)), (1, .v (.slice y18.a y18.n y18.c))] [] ?_
  refine sw_seq ?_
  refine sw_seq ?_
  refine sw_reg ?_
  refine sy_pure 12 (.v (.slice y12.a y12.n y12.c)) ?_
  refine sy_pure 13 (.v (.int .i64 (y12.n : Int))) ?_
  refine sy_pure 14 (.v (.bool ((y12.n : Int) == 0))) ?_
  rcases Bool.eq_false_or_eq_true ((y12.n : Int) == 0) with hs23 | hs23
  · refine sy_eq 15 (x := .v (.bool ((y12.n : Int) == 0))) (.v (.bool true)) (by rw [hs23]) ?_
    have qhs23 : (y12.n : Int) = 0 := by simpa using hs23
    refine sy_drop 16 (uw 3 false true 15) ?_
    refine sy_drop 17 (uw 3 false true 15) ?_
    refine sy_drop 18 (uw 3 false true 15) ?_
    refine sy_pure 19 (.v (.bool true)) ?_
    refine sy_next 62 [(0, .v (.slice y12.a y12.n y12.c)), (1, .v (.slice y18.a y18.n y18.c)), (19, .v (.bool true))] [] ?_
    refine sw_true (by kernel_rfl) ?_
    refine sw_seq ?_
    refine sw_reg ?_
    refine sy_pure 4 (.v (.slice none 0 0)) ?_
    refine sy_next 62 [(4, .v (.slice none 0 0))] [] ?_
    refine sw_ret (mpr_seq (ret0 [.slice none 0 0] ⟨res_tmp, trivial⟩ fun u24 e25 => ?_))
    have e9 : Nt.trimQ l = [] := List.eq_nil_of_length_eq_zero (by omega)
    rw [Nt.mul_nil (.inl e9)]
    exact ⟨⟨none, 0, 0⟩, rfl, pol_nil _ _⟩
  · refine sy_eq 15 (x := .v (.bool ((y12.n : Int) == 0))) (.v (.bool false)) (by rw [hs23]) ?_
    have qhs23 : ¬ ((y12.n : Int) = 0) := by simpa using hs23
    refine sy_pure 16 (.v (.slice y18.a y18.n y18.c)) ?_ (hw := w1 3 false 15)
    refine sy_pure 17 (.v (.int .i64 (y18.n : Int))) ?_ (hw := w1 3 false 15)
    refine sy_pure 18 (.v (.bool ((y18.n : Int) == 0))) ?_ (hw := w1 3 false 15)
    refine sy_pure 19 (.v (.bool ((y18.n : Int) == 0))) ?_
    refine sy_next 62 [(0, .v (.slice y12.a y12.n y12.c)), (1, .v (.slice y18.a y18.n y18.c)), (19, .v (.bool ((y18.n : Int) == 0)))] [] ?_
    refine sw_cond (b := (y18.n : Int) == 0) (by kernel_rfl) (fun hb26 => ?_) (fun hb26 => ?_)
    · replace hb26 : ((y18.n : Int) == 0) = true := hb26
      have qhb26 : (y18.n : Int) = 0 := by simpa using hb26
      refine sw_seq ?_
      refine sw_reg ?_
      refine sy_pure 4 (.v (.slice none 0 0)) ?_
      refine sy_next 62 [(4, .v (.slice none 0 0))] [] ?_
      refine sw_ret (mpr_seq (ret0 [.slice none 0 0] ⟨res_tmp, trivial⟩ fun u27 e28 => ?_))
      have e9 : Nt.trimQ m = [] := List.eq_nil_of_length_eq_zero (by omega)
      rw [Nt.mul_nil (.inr e9)]
      exact ⟨⟨none, 0, 0⟩, rfl, pol_nil _ _⟩
    · replace hb26 : ((y18.n : Int) == 0) = false := hb26
      have qhb26 : ¬ ((y18.n : Int) = 0) := by simpa using hb26
      refine sw_skip (mp_seq ?_)
      refine sw_seq ?_
      refine sw_reg ?_
      refine sy_pure 20 (.v (.slice y12.a y12.n y12.c)) ?_
      refine sy_pure 21 (.v (.int .i64 (y12.n : Int))) ?_
      refine sy_pure 22 (.v (.slice y18.a y18.n y18.c)) ?_
      refine sy_pure 23 (.v (.int .i64 (y18.n : Int))) ?_
      refine sy_eq 24 (x := .v (.int .i64 (IntKind.i64.wrap ((y12.n : Int) + (y18.n : Int))))) (.v (.int .i64 ((y12.n + y18.n : Nat) : Int))) (eqI (by rw [IntWalk.i64_in _ (by omega)]; omega)) ?_
      refine sy_eq 25 (x := .v (.int .i64 (IntKind.i64.wrap (((y12.n + y18.n : Nat) : Int) - 1)))) (.v (.int .i64 (((y12.n + y18.n) - 1 : Nat) : Int))) (eqI (by rw [IntWalk.i64_in _ (by omega)]; omega)) ?_
      refine sy_make 26 (T := 41) (E := 26) (z := .agg #[.bool false, .slice none 0 0, .slice none 0 0]) (size := 3) (bytes := 56) ((y12.n + y18.n) - 1) (rcs (List.replicate ((y12.n + y18.n) - 1) rl0)) (by kernel_rfl) (by kernel_rfl) rfl rfl (by omega) (by unfold maxLen; omega) (made_rcs _) ?_
      refine sy_pure 5 (.slc 26 0 ((y12.n + y18.n) - 1) ((y12.n + y18.n) - 1)) ?_
      refine sy_next 62 [(0, .v (.slice y12.a y12.n y12.c)), (1, .v (.slice y18.a y18.n y18.c)), (5, .slc 26 0 ((y12.n + y18.n) - 1) ((y12.n + y18.n) - 1))] [(26, ⟨26, rcs (List.replicate ((y12.n + y18.n) - 1) rl0)⟩)] ?_
      refine sw_seq ?_
      refine sw_seq ?_
      refine sw_reg ?_
      refine sy_pure 27 (.v (.slice y12.a y12.n y12.c)) ?_
      refine sy_pure 28 (.v (.int .i64 (y12.n : Int))) ?_
      refine sy_pure 29 (.v (.int .i64 0)) ?_
      refine sy_next 62 [(0, .v (.slice y12.a y12.n y12.c)), (1, .v (.slice y18.a y18.n y18.c)), (5, .slc 26 0 ((y12.n + y18.n) - 1) ((y12.n + y18.n) - 1)), (28, .v (.int .i64 (y12.n : Int))), (29, .v (.int .i64 0))] [(26, ⟨26, rcs (List.replicate ((y12.n + y18.n) - 1) rl0)⟩)] ?_
      refine sw_block ?_
      refine sw_loop (I := fun m29 S' u' => ∃ (i : Nat) (L : List RL), (m29 = (Nt.trimQ l).length - i) ∧ (i ≤ (Nt.trimQ l).length) ∧ (L.length = ((Nt.trimQ l).length + (Nt.trimQ m).length - 1)) ∧ (S' = St.of 62 [(0, .v (.slice y12.a y12.n y12.c)), (1, .v (.slice y18.a y18.n y18.c)), (5, .slc 26 0 ((y12.n + y18.n) - 1) ((y12.n + y18.n) - 1)), (28, .v (.int .i64 (y12.n : Int))), (29, .v (.int .i64 (i : Int)))] [(26, ⟨26, rcs L⟩)]) ∧ (Ext u20 u') ∧ (RatsV u' L (Nt.outQ (Nt.trimQ l) (Nt.trimQ m) ((Nt.trimQ l).length + (Nt.trimQ m).length - 1) i) (Nt.kk (K + M + 3) (i * (Nt.trimQ m).length)))) (fun m S u1 u2 e h => by obtain ⟨i, L, hm, p0, p1, hS, hE, f0⟩ := h; exact ⟨i, L, hm, p0, p1, hS, hE.trans e, f0.ext e⟩) _ (T := St.of 62 [(0, .v (.slice y12.a y12.n y12.c)), (1, .v (.slice y18.a y18.n y18.c)), (5, .slc 26 0 ((y12.n + y18.n) - 1) ((y12.n + y18.n) - 1)), (28, .v (.int .i64 (y12.n : Int))), (29, .v (.int .i64 0))] [(26, ⟨26, rcs (List.replicate ((y12.n + y18.n) - 1) rl0)⟩)]) (by exact weak_mk _ _ _) ⟨0, List.replicate ((y12.n + y18.n) - 1) rl0, rfl, by omega, by simp; omega, rfl, Ext.refl _, (RatsV.more (K := 1) (by rw [hly12, hly18]; exact RatsV.zeros _ _) (by unfold Nt.kk; omega))⟩ ?_
      rintro m29 _ u29 ⟨i, L, hm29, hi, hL, rfl, e29, hR⟩
      refine sw_seq ?_
      refine sw_reg ?_
      refine sy_pure 30 (.v (.bool (decide ((i : Int) < (y12.n : Int))))) ?_
      refine sy_next 62 [(0, .v (.slice y12.a y12.n y12.c)), (1, .v (.slice y18.a y18.n y18.c)), (5, .slc 26 0 ((y12.n + y18.n) - 1) ((y12.n + y18.n) - 1)), (28, .v (.int .i64 (y12.n : Int))), (29, .v (.int .i64 (i : Int))), (30, .v (.bool (decide ((i : Int) < (y12.n : Int)))))] [(26, ⟨26, rcs L⟩)] ?_
      refine sw_seq ?_
      refine sw_cond (b := decide ((i : Int) < (y12.n : Int))) (by kernel_rfl) (fun hb30 => ?_) (fun hb30 => ?_)
      · replace hb30 : (decide ((i : Int) < (y12.n : Int))) = true := hb30
        have qhb30 := of_decide_eq_true hb30
        refine sw_skip (mp_seq ?_)
        refine sw_seq ?_
        refine sw_block ?_
        refine sw_seq ?_
        refine sw_reg ?_
        refine sy_pure 31 (.v (.int .i64 (i : Int))) ?_
        refine sy_pure 6 (.v (.int .i64 (i : Int))) ?_
        refine sy_next 62 [(0, .v (.slice y12.a y12.n y12.c)), (1, .v (.slice y18.a y18.n y18.c)), (5, .slc 26 0 ((y12.n + y18.n) - 1) ((y12.n + y18.n) - 1)), (6, .v (.int .i64 (i : Int))), (28, .v (.int .i64 (y12.n : Int))), (29, .v (.int .i64 (i : Int)))] [(26, ⟨26, rcs L⟩)] ?_
        refine sw_seq ?_
        refine sw_reg ?_
        refine sy_pure 32 (.v (.slice y18.a y18.n y18.c)) ?_
        refine sy_pure 33 (.v (.int .i64 (y18.n : Int))) ?_
        refine sy_pure 34 (.v (.int .i64 0)) ?_
        refine sy_next 62 [(0, .v (.slice y12.a y12.n y12.c)), (1, .v (.slice y18.a y18.n y18.c)), (5, .slc 26 0 ((y12.n + y18.n) - 1) ((y12.n + y18.n) - 1)), (6, .v (.int .i64 (i : Int))), (28, .v (.int .i64 (y12.n : Int))), (29, .v (.int .i64 (i : Int))), (33, .v (.int .i64 (y18.n : Int))), (34, .v (.int .i64 0))] [(26, ⟨26, rcs L⟩)] ?_
        refine sw_block ?_
        refine sw_loop (I := fun m31 S' u' => ∃ (j : Nat) (M9 : List RL), (m31 = (Nt.trimQ m).length - j) ∧ (j ≤ (Nt.trimQ m).length) ∧ (M9.length = ((Nt.trimQ l).length + (Nt.trimQ m).length - 1)) ∧ (S' = St.of 62 [(0, .v (.slice y12.a y12.n y12.c)), (1, .v (.slice y18.a y18.n y18.c)), (5, .slc 26 0 ((y12.n + y18.n) - 1) ((y12.n + y18.n) - 1)), (6, .v (.int .i64 (i : Int))), (28, .v (.int .i64 (y12.n : Int))), (29, .v (.int .i64 (i : Int))), (33, .v (.int .i64 (y18.n : Int))), (34, .v (.int .i64 (j : Int)))] [(26, ⟨26, rcs M9⟩)]) ∧ (Ext u29 u') ∧ (RatsV u' M9 (Nt.inn (Nt.outQ (Nt.trimQ l) (Nt.trimQ m) ((Nt.trimQ l).length + (Nt.trimQ m).length - 1) i) i ((Nt.trimQ l).getD i 0) (Nt.trimQ m) j) (Nt.kk (K + M + 3) (i * (Nt.trimQ m).length + j)))) (fun m S u1 u2 e h => by obtain ⟨j, M9, hm, p0, p1, hS, hE, f0⟩ := h; exact ⟨j, M9, hm, p0, p1, hS, hE.trans e, f0.ext e⟩) _ (T := St.of 62 [(0, .v (.slice y12.a y12.n y12.c)), (1, .v (.slice y18.a y18.n y18.c)), (5, .slc 26 0 ((y12.n + y18.n) - 1) ((y12.n + y18.n) - 1)), (6, .v (.int .i64 (i : Int))), (28, .v (.int .i64 (y12.n : Int))), (29, .v (.int .i64 (i : Int))), (33, .v (.int .i64 (y18.n : Int))), (34, .v (.int .i64 0))] [(26, ⟨26, rcs L⟩)]) (by exact weak_mk _ _ _) ⟨0, L, rfl, by omega, by omega, rfl, Ext.refl _, hR⟩ ?_
        rintro m31 _ u31 ⟨j, M9, hm31, hj, hM9, rfl, e31, hQ⟩
        have hmm := Nat.mul_le_mul_right (Nt.trimQ m).length (show i + 1 ≤ (Nt.trimQ l).length by omega)
        rw [Nat.add_mul] at hmm
        have hkk := Nt.kk_mono (W := (K + M + 3)) (t := i * (Nt.trimQ m).length + j) (t' := (Nt.trimQ l).length * (Nt.trimQ m).length) (Nat.le_refl _) (by omega)
        have hk2 := Nt.kk_succ (K + M + 3) (i * (Nt.trimQ m).length + j)
        refine sw_seq ?_
        refine sw_reg ?_
        refine sy_pure 35 (.v (.bool (decide ((j : Int) < (y18.n : Int))))) ?_
        refine sy_next 62 [(0, .v (.slice y12.a y12.n y12.c)), (1, .v (.slice y18.a y18.n y18.c)), (5, .slc 26 0 ((y12.n + y18.n) - 1) ((y12.n + y18.n) - 1)), (6, .v (.int .i64 (i : Int))), (28, .v (.int .i64 (y12.n : Int))), (29, .v (.int .i64 (i : Int))), (33, .v (.int .i64 (y18.n : Int))), (34, .v (.int .i64 (j : Int))), (35, .v (.bool (decide ((j : Int) < (y18.n : Int)))))] [(26, ⟨26, rcs M9⟩)] ?_
        refine sw_seq ?_
        refine sw_cond (b := decide ((j : Int) < (y18.n : Int))) (by kernel_rfl) (fun hb32 => ?_) (fun hb32 => ?_)
        · replace hb32 : (decide ((j : Int) < (y18.n : Int))) = true := hb32
          have qhb32 := of_decide_eq_true hb32
          refine sw_skip (mp_seq ?_)
          refine sw_seq ?_
          refine sw_block ?_
          refine sw_seq ?_
          refine sw_reg ?_
          refine sy_pure 36 (.v (.int .i64 (j : Int))) ?_
          refine sy_pure 7 (.v (.int .i64 (j : Int))) ?_
          refine sy_next 62 [(0, .v (.slice y12.a y12.n y12.c)), (1, .v (.slice y18.a y18.n y18.c)), (5, .slc 26 0 ((y12.n + y18.n) - 1) ((y12.n + y18.n) - 1)), (6, .v (.int .i64 (i : Int))), (7, .v (.int .i64 (j : Int))), (28, .v (.int .i64 (y12.n : Int))), (29, .v (.int .i64 (i : Int))), (33, .v (.int .i64 (y18.n : Int))), (34, .v (.int .i64 (j : Int)))] [(26, ⟨26, rcs M9⟩)] ?_
          refine sw_any [0, 0, 0, 6, 0, 0, 0, 96, 240, 496, 0, 0, 3072, 7168, 0, 0, 49152, 114688, 261120, 524272, 1048575, 2097151] [(0, []), (1, []), (2, []), (3, []), (4, []), (5, []), (6, []), (7, []), (8, []), (9, []), (10, []), (11, []), (12, []), (13, []), (14, []), (15, []), (16, []), (17, []), (18, []), (19, []), (20, []), (21, [])] (by kernel_rfl) (by kernel_rfl) ?_
          refine sy_pure 37 (.slc 26 0 ((y12.n + y18.n) - 1) ((y12.n + y18.n) - 1)) ?_
          refine sy_pure 38 (.v (.int .i64 (i : Int))) ?_
          refine sy_pure 39 (.v (.int .i64 (j : Int))) ?_
          refine sy_eq 40 (x := .v (.int .i64 (IntKind.i64.wrap ((i : Int) + (j : Int))))) (.v (.int .i64 ((i + j : Nat) : Int))) (eqI (by rw [IntWalk.i64_in _ (by omega)]; omega)) ?_
          refine sy_pure 41 (.slc 26 0 ((y12.n + y18.n) - 1) ((y12.n + y18.n) - 1)) ?_
          refine sy_pure 42 (.v (.int .i64 (i : Int))) ?_
          refine sy_pure 43 (.v (.int .i64 (j : Int))) ?_
          refine sy_eq 44 (x := .v (.int .i64 (IntKind.i64.wrap ((i : Int) + (j : Int))))) (.v (.int .i64 ((i + j : Nat) : Int))) (eqI (by rw [IntWalk.i64_in _ (by omega)]; omega)) ?_
          refine sy_idxO 45 (off' := (i + j) * 3) (n := (y12.n + y18.n) - 1) (off := 0) (sz := 3) (i := ((i + j : Nat) : Int)) sl41 (by omega) (by omega) (by omega) ?_
          obtain ⟨r33, hrr33⟩ : ∃ r : RL, (M9).getD (i + j) rl0 = r := ⟨_, rfl⟩
          refine sy_ldv 46 (V := ⟨26, rcs M9⟩) (off := (i + j) * 3) (.v r33.v) ty26 (by have h9 := part_rcs (L := M9) (i := i + j) (off := (i + j) * 3) (by first | omega | (simp; omega)) rfl; rw [hrr33] at h9; exact h9) ?_
          have h34 := hQ.2 (i + j) (by first | omega | (simp; omega))
          rw [hrr33] at h34
          refine sy_pure 47 (.v (.slice y12.a y12.n y12.c)) ?_
          refine sy_pure 48 (.v (.int .i64 (i : Int))) ?_
          have hl35 := (h13.ext (e17.trans (g21.ext.trans (e29.trans e31)))).len
          obtain ⟨r35, b35, o35, hA35, hc35, hr35⟩ := pol_atN (h13.ext (e17.trans (g21.ext.trans (e29.trans e31)))) (i := i) (by omega)
          refine sy_index 49 (o35 + i * 3) (n := y12.n) (off := o35) (sz := 3) (i := (i : Int)) (by omega) hA35 (by omega) (by omega) sl41 ?_
          refine sy_ldn 50 r35.cs hc35 ty26 ?_
          refine sy_pure 51 (.v (.slice y18.a y18.n y18.c)) ?_
          refine sy_pure 52 (.v (.int .i64 (j : Int))) ?_
          have hl36 := (h19.ext (e29.trans e31)).len
          obtain ⟨r36, b36, o36, hA36, hc36, hr36⟩ := pol_atN (h19.ext (e29.trans e31)) (i := j) (by omega)
          refine sy_index 53 (o36 + j * 3) (n := y18.n) (off := o36) (sz := 3) (i := (j : Int)) (by omega) hA36 (by omega) (by omega) sl41 ?_
          refine sy_ldn 54 r36.cs hc36 ty26 ?_
          refine sy_call 55 22 [r35.v, r36.v] ?_
          intro w37 u37 e37 d37
          have k42 := k_rqMul d37 (hr35.ext e37).raw (hr36.ext e37).raw (by omega) (by omega)
          with_reducible refine Post.mono k42 ?_
          clear k42
          rintro _ u40 g41 ⟨r38, rfl, h39⟩
          refine sy_call 56 18 [r33.v, r38.v] ?_
          intro w43 u43 e43 d43
          have k48 := k_rqAdd d43 (h34.ext (e37.trans (g41.ext.trans e43))) (h39.ext e43).raw (by omega) (by omega)
          with_reducible refine Post.mono k48 ?_
          clear k48
          rintro _ u46 g47 ⟨r44, rfl, h45⟩
          refine sy_idxO 57 (off' := (i + j) * 3) (n := (y12.n + y18.n) - 1) (off := 0) (sz := 3) (i := ((i + j : Nat) : Int)) sl41 (by omega) (by omega) (by omega) ?_
          refine sy_storeO (V := ⟨26, rcs M9⟩) (off := (i + j) * 3) (rcs ((M9).set (i + j) r44)) ty26 (by rw [rcs_len]; first | omega | (simp; omega)) (setL_rcs (r := r44) (i := i + j) (by first | omega | (simp; omega)) rfl) ?_
          refine sy_end ?_
          refine mp_seq ?_
          refine sw_reg ?_
          refine sy_eq 58 (x := .v (.int .i64 (IntKind.i64.wrap ((j : Int) + 1)))) (.v (.int .i64 ((j + 1 : Nat) : Int))) (eqI (by rw [IntWalk.i64_in _ (by omega)]; omega)) ?_
          refine sy_pure 34 (.v (.int .i64 ((j + 1 : Nat) : Int))) ?_
          refine sy_end ?_
          refine ⟨_, ?_, St.of 62 [(0, .v (.slice y12.a y12.n y12.c)), (1, .v (.slice y18.a y18.n y18.c)), (5, .slc 26 0 ((y12.n + y18.n) - 1) ((y12.n + y18.n) - 1)), (6, .v (.int .i64 (i : Int))), (28, .v (.int .i64 (y12.n : Int))), (29, .v (.int .i64 (i : Int))), (33, .v (.int .i64 (y18.n : Int))), (34, .v (.int .i64 ((j + 1 : Nat) : Int)))] [(26, ⟨26, rcs ((M9).set (i + j) r44)⟩)], by exact weak_mk _ _ _, j + 1, (M9).set (i + j) r44, rfl, by omega, by simp; omega, rfl, (e31.trans (e37.trans (g41.ext.trans (e43.trans g47.ext)))), (RatsV.set (i := i + j) (RatsV.more (K := Nt.kk (K + M + 3) (i * (Nt.trimQ m).length + j)) (hQ.ext (e37.trans (g41.ext.trans (e43.trans g47.ext)))) (by show _ ≤ Nt.kk _ (i * (Nt.trimQ m).length + j + 1); omega)) (by simp; omega) (RatV.more (K := ((Nt.kk (K + M + 3) (i * (Nt.trimQ m).length + j)) + (K + M + 1) + 2)) h45.raw (by show _ ≤ Nt.kk _ (i * (Nt.trimQ m).length + j + 1); omega)))⟩
          omega
        · replace hb32 : (decide ((j : Int) < (y18.n : Int))) = false := hb32
          have qhb32 := of_decide_eq_false hb32
          refine sw_exit ?_
          refine mp_seq ?_
          refine sw_reg ?_
          refine sy_eq 59 (x := .v (.int .i64 (IntKind.i64.wrap ((i : Int) + 1)))) (.v (.int .i64 ((i + 1 : Nat) : Int))) (eqI (by rw [IntWalk.i64_in _ (by omega)]; omega)) ?_
          refine sy_pure 29 (.v (.int .i64 ((i + 1 : Nat) : Int))) ?_
          refine sy_end ?_
          have hj9 : j = (Nt.trimQ m).length := by omega
          refine ⟨_, ?_, St.of 62 [(0, .v (.slice y12.a y12.n y12.c)), (1, .v (.slice y18.a y18.n y18.c)), (5, .slc 26 0 ((y12.n + y18.n) - 1) ((y12.n + y18.n) - 1)), (28, .v (.int .i64 (y12.n : Int))), (29, .v (.int .i64 ((i + 1 : Nat) : Int)))] [(26, ⟨26, rcs M9⟩)], by exact weak_mk _ _ _, i + 1, M9, rfl, by omega, by omega, rfl, (e29.trans e31), (by have h9 := hQ; rw [hj9, ← Nat.succ_mul] at h9; exact h9)⟩
          omega
      · replace hb30 : (decide ((i : Int) < (y12.n : Int))) = false := hb30
        have qhb30 := of_decide_eq_false hb30
        refine sw_exit ?_
        refine mp_seq ?_
        refine sw_seq ?_
        have hi9 : i = (Nt.trimQ l).length := by omega
        have hR2 : RatsV u29 L (Nt.outQ (Nt.trimQ l) (Nt.trimQ m) ((Nt.trimQ l).length + (Nt.trimQ m).length - 1) ((Nt.trimQ l).length)) (Nt.kk (K + M + 3) ((Nt.trimQ l).length * (Nt.trimQ m).length)) := by have h9 := hR; rw [hi9] at h9; exact h9
        have hol : (Nt.outQ (Nt.trimQ l) (Nt.trimQ m) ((Nt.trimQ l).length + (Nt.trimQ m).length - 1) ((Nt.trimQ l).length)).length = ((Nt.trimQ l).length + (Nt.trimQ m).length - 1) := by simp
        refine sw_pub (r := 5) (t := 26) [5, 26] (by repeat first | exact noAt_of | refine noAt_set ?_ | refine noAt_lit ?_ | refine noAt_new ?_ | refine noAt_setVar ?_ | refine noAt_unpub ?_) (by kernel_rfl) (by rfl) (by rfl) (by kernel_rfl) (fun b49 u50 e51 hb52 hh53 => ?_)
        have hp54 : PolV u50 ⟨some ⟨b49, 0, none⟩, (y12.n + y18.n) - 1, (y12.n + y18.n) - 1⟩ (Nt.outQ (Nt.trimQ l) (Nt.trimQ m) ((Nt.trimQ l).length + (Nt.trimQ m).length - 1) ((Nt.trimQ l).length)) (Nt.kk (K + M + 3) ((Nt.trimQ l).length * (Nt.trimQ m).length)) := pol_data1V hh53 (by unfold maxLen; omega) (hR2.ext e51) (by omega)
        refine sw_reg ?_
        refine sy_pure 60 (.v (.slice (some ⟨b49, 0, none⟩) ((y12.n + y18.n) - 1) ((y12.n + y18.n) - 1))) ?_
        refine sy_call 61 87 [.slice (some ⟨b49, 0, none⟩) ((y12.n + y18.n) - 1) ((y12.n + y18.n) - 1)] ?_
        intro w55 u55 e55 d55
        have k60 := k_r5Trim d55 (hp54.ext e55) (by omega) (by first | omega | (simp; omega) | (refine Nat.le_trans (Nt.trim_len _) ?_; first | omega | (simp; omega)) | (refine Nat.le_trans (Nt.trim_len _) ?_; simp only [List.length_map]; refine Nat.le_trans (Nt.trim_len _) ?_; first | omega | (simp; omega)))
        with_reducible refine Post.mono k60 ?_
        clear k60
        rintro _ u58 g59 ⟨y56, rfl, h57⟩
        have hly56 := h57.len
        refine sy_pure 4 (.v (.slice y56.a y56.n y56.c)) ?_
        refine sy_next 62 [(4, .v (.slice y56.a y56.n y56.c))] [] ?_
        refine sw_ret (ret0 [.slice y56.a y56.n y56.c] ⟨res_tmp, trivial⟩ fun u61 e62 => ?_)
        refine ⟨y56, rfl, PolN.more (K := (Nt.kk (K + M + 3) ((Nt.trimQ l).length * (Nt.trimQ m).length))) ?_ (Nt.kk_mono (Nat.le_refl _) (Nat.mul_le_mul htl htm))⟩
        rw [← Nt.mul_trim, ← Nt.out_trim (l := (Nt.trimQ l)) (m := (Nt.trimQ m)) (by omega) (by omega)]
        exact (h57.ext e62)
set_option maxHeartbeats 8000000 in
theorem k_r5DivMod {u w : World} {x : Sl} {l : List Rat} {y : Sl} {m : List Rat} {K M : Nat} (d : Dat u w) (hx : PolV u x l K) (hy : PolV u y m M) {D E A B C : Nat} (hs1 : Nt.Sm l D A) (hD : D ≤ 2 ^ A) (hs2 : Nt.Sm m E B) (hC : A + ((Nt.trimQ l).length - (Nt.trimQ m).length + 1) * (B + 1) ≤ C) (hC9 : C ≤ 400000000) (hK : K ≤ 10000000) (hM : M ≤ 3000000) (hx9 : l.length ≤ 1000000) (hy9 : m.length ≤ 1000000) : Calls Tryz.prog 28 #[x.v, y.v] w (Post u w fun v u' => (v = .tuple #[.slice none 0 0, .slice none 0 0, .int .i64 3] ∧ Nt.trimQ m = []) ∨ (Nt.trimQ m ≠ [] ∧ ∃ (y1 y2 : Sl) (q r : Nt.Pol), v = .tuple #[y1.v, y2.v, .int .i64 0] ∧ PolN u' y1 q.l ((Nt.dg C + M + 2)) ∧ PolN u' y2 r.l (Nt.dg C) ∧ Nt.Pol.mk' l = q * Nt.Pol.mk' m + r ∧ r.len < (Nt.Pol.mk' m).len ∧ ∃ F, F ≤ 2 ^ C ∧ Nt.Sm r.l F C)) := by
  have hlen := hx.len
  have hlen2 := hy.len
  have htl := Nt.trim_len l
  have htm := Nt.trim_len m
  have hdg : Nt.dg C ≤ 13000000 := by unfold Nt.dg; omega
  have hdg1 : 1 ≤ Nt.dg C := by unfold Nt.dg; omega
  refine calls_sym (args := [.slice x.a x.n x.c, .slice y.a y.n y.c]) Tryz.func28 rfl Tryz.ntmps28 (rs := [.tmp 4, .tmp 5, .tmp 6]) Tryz.results28 (le_b rfl) (le_b rfl) d ?_
  refine sw_seq ?_
  refine sw_reg ?_
  refine sy_pure 4 (.v (.slice none 0 0)) ?_
  refine sy_pure 5 (.v (.slice none 0 0)) ?_
  refine sy_pure 6 (.v (.int .i64 0)) ?_
  refine sy_next 90 [(0, .v (.slice x.a x.n x.c)), (1, .v (.slice y.a y.n y.c))] [] ?_
  refine sw_seq ?_
  refine sw_reg ?_
  refine sy_pure 12 (.v (.slice x.a x.n x.c)) ?_
  refine sy_call 13 87 [.slice x.a x.n x.c] ?_
  intro w11 u11 e11 d11
  have k16 := k_r5Trim d11 (hx.ext e11) (by omega) (by first | omega | (simp; omega) | (refine Nat.le_trans (Nt.trim_len _) ?_; first | omega | (simp; omega)) | (refine Nat.le_trans (Nt.trim_len _) ?_; simp only [List.length_map]; refine Nat.le_trans (Nt.trim_len _) ?_; first | omega | (simp; omega)))
  with_reducible refine Post.mono k16 ?_
  clear k16
  rintro _ u14 g15 ⟨y12, rfl, h13⟩
  have hly12 := h13.len
  refine sy_pure 14 (.v (.slice y.a y.n y.c)) ?_
  refine sy_call 15 87 [.slice y.a y.n y.c] ?_
  intro w17 u17 e17 d17
  have k22 := k_r5Trim d17 (hy.ext (e11.trans (g15.ext.trans e17))) (by omega) (by first | omega | (simp; omega) | (refine Nat.le_trans (Nt.trim_len _) ?_; first | omega | (simp; omega)) | (refine Nat.le_trans (Nt.trim_len _) ?_; simp only [List.length_map]; refine Nat.le_trans (Nt.trim_len _) ?_; first | omega | (simp; omega)))
  with_reducible refine Post.mono k22 ?_
  clear k22
  rintro _ u20 g21 ⟨y18, rfl, h19⟩
  have hly18 := h19.len
  refine sy_pure 0 (.v (.slice y12.a y12.n y12.c)) ?_
  refine sy_pure 1 (.v (.slice y18.a y18.n y18.c)) ?_
  refine sy_next 90 [(0, .v (.slice y12.a y12.n y12.c)), (1, .v (.slice y18.a y18.n y18.c))] [] ?_
  refine sw_seq ?_
  refine sw_seq ?_
  refine sw_reg ?_
  refine sy_pure 16 (.v (.slice y18.a y18.n y18.c)) ?_
  refine sy_pure 17 (.v (.int .i64 (y18.n : Int))) ?_
  refine sy_pure 18 (.v (.bool ((y18.n : Int) == 0))) ?_
  refine sy_next 90 [(0, .v (.slice y12.a y12.n y12.c)), (1, .v (.slice y18.a y18.n y18.c)), (18, .v (.bool ((y18.n : Int) == 0)))] [] ?_
  refine sw_cond (b := (y18.n : Int) == 0) (by kernel_rfl) (fun hb23 => ?_) (fun hb23 => ?_)
  · replace hb23 : ((y18.n : Int) == 0) = true := hb23
    have qhb23 : (y18.n : Int) = 0 := by simpa using hb23
    refine sw_seq ?_
    refine sw_reg ?_
    refine sy_pure 4 (.v (.slice none 0 0)) ?_
    refine sy_pure 5 (.v (.slice none 0 0)) ?_
    refine sy_pure 6 (.v (.int .i64 3)) ?_
    refine sy_next 90 [(4, .v (.slice none 0 0)), (5, .v (.slice none 0 0)), (6, .v (.int .i64 3))] [] ?_
    refine sw_ret (mpr_seq (ret0 [.slice none 0 0, .slice none 0 0, .int .i64 3] ⟨res_tmp, res_tmp, res_tmp, trivial⟩ fun u24 e25 => ?_))
    exact .inl ⟨rfl, List.eq_nil_of_length_eq_zero (by omega)⟩
  · replace hb23 : ((y18.n : Int) == 0) = false := hb23
    have qhb23 : ¬ ((y18.n : Int) = 0) := by simpa using hb23
    refine sw_skip (mp_seq ?_)
    refine sw_seq ?_
    have hlead : Nt.co (Nt.trimQ m) ((Nt.trimQ m).length - 1) ≠ 0 := Nt.nrm_last (Nt.trim_nrm m) (by intro e; have h9 : (Nt.trimQ m).length = 0 := by { rw [e]; rfl }; omega)
    refine sw_reg ?_
    refine sy_pure 19 (.v (.slice y12.a y12.n y12.c)) ?_
    refine sy_pure 20 (.v (.int .i64 (y12.n : Int))) ?_
    refine sy_pure 21 (.v (.slice y18.a y18.n y18.c)) ?_
    refine sy_pure 22 (.v (.int .i64 (y18.n : Int))) ?_
    refine sy_eq 23 (x := .v (.int .i64 (IntKind.i64.wrap ((y12.n : Int) - (y18.n : Int))))) (.v (.int .i64 ((y12.n : Int) - (y18.n : Int)))) (eqI (by rw [IntWalk.i64_in _ (by omega)]; try omega)) ?_
    refine sy_eq 24 (x := .v (.int .i64 (IntKind.i64.wrap (((y12.n : Int) - (y18.n : Int)) + 1)))) (.v (.int .i64 ((y12.n : Int) - (y18.n : Int) + 1))) (eqI (by rw [IntWalk.i64_in _ (by omega)]; try omega)) ?_
    refine sy_max0 25 (n := (y12.n : Int) - (y18.n : Int) + 1) (v := ((((Nt.trimQ l).length + 1 - (Nt.trimQ m).length) : Nat) : Int)) (by split <;> omega) ?_
    refine sy_make 26 (T := 41) (E := 26) (z := .agg #[.bool false, .slice none 0 0, .slice none 0 0]) (size := 3) (bytes := 56) ((Nt.trimQ l).length + 1 - (Nt.trimQ m).length) (rcs (List.replicate ((Nt.trimQ l).length + 1 - (Nt.trimQ m).length) rl0)) (by kernel_rfl) (by kernel_rfl) rfl rfl (by omega) (by unfold maxLen; omega) (made_rcs _) ?_
    refine sy_pure 7 (.slc 26 0 ((Nt.trimQ l).length + 1 - (Nt.trimQ m).length) ((Nt.trimQ l).length + 1 - (Nt.trimQ m).length)) ?_
    refine sy_next 90 [(0, .v (.slice y12.a y12.n y12.c)), (1, .v (.slice y18.a y18.n y18.c)), (7, .slc 26 0 ((Nt.trimQ l).length + 1 - (Nt.trimQ m).length) ((Nt.trimQ l).length + 1 - (Nt.trimQ m).length))] [(26, ⟨26, rcs (List.replicate ((Nt.trimQ l).length + 1 - (Nt.trimQ m).length) rl0)⟩)] ?_
    refine sw_seq ?_
    refine sw_block ?_
    refine sw_loop (I := fun m26 S' u' => ∃ (k : Nat) (xs : Sl) (ps : List Rat) (qs : List Rat) (L : List RL) (F : Nat), (m26 = ps.length) ∧ (k + ps.length ≤ (Nt.trimQ l).length ∧ k ≤ (Nt.trimQ l).length - (Nt.trimQ m).length + 1) ∧ (Nt.RefI (Nt.trimQ l) (Nt.trimQ m) qs ps) ∧ (Nt.Sm ps F (A + k * (B + 1))) ∧ (F ≤ 2 ^ (A + k * (B + 1))) ∧ (Nt.Nrm ps) ∧ (S' = St.of 90 [(0, .v (.slice xs.a xs.n xs.c)), (1, .v (.slice y18.a y18.n y18.c)), (7, .slc 26 0 ((Nt.trimQ l).length + 1 - (Nt.trimQ m).length) ((Nt.trimQ l).length + 1 - (Nt.trimQ m).length))] [(26, ⟨26, rcs L⟩)]) ∧ (Ext u20 u') ∧ (PolN u' xs ps (Nt.dg C)) ∧ (RatsV u' L qs (Nt.dg C + M + 2))) (fun m S u1 u2 e h => by obtain ⟨k, xs, ps, qs, L, F, hm, p0, p1, p2, p3, p4, hS, hE, f0, f1⟩ := h; exact ⟨k, xs, ps, qs, L, F, hm, p0, p1, p2, p3, p4, hS, hE.trans e, f0.ext e, f1.ext e⟩) _ (T := St.of 90 [(0, .v (.slice y12.a y12.n y12.c)), (1, .v (.slice y18.a y18.n y18.c)), (7, .slc 26 0 ((Nt.trimQ l).length + 1 - (Nt.trimQ m).length) ((Nt.trimQ l).length + 1 - (Nt.trimQ m).length))] [(26, ⟨26, rcs (List.replicate ((Nt.trimQ l).length + 1 - (Nt.trimQ m).length) rl0)⟩)]) (by exact weak_mk _ _ _) ⟨0, y12, (Nt.trimQ l), (List.replicate ((Nt.trimQ l).length + 1 - (Nt.trimQ m).length) 0), List.replicate ((Nt.trimQ l).length + 1 - (Nt.trimQ m).length) rl0, D, rfl, by omega, (Nt.RefI.begin (Nt.trimQ l) (Nt.trimQ m)), (by rw [Nat.zero_mul, Nat.add_zero]; exact hs1.trim), (by rw [Nat.zero_mul, Nat.add_zero]; exact hD), (Nt.trim_nrm l), rfl, Ext.refl _, (PolN.fitS (A := C) (h13.ext (e17.trans g21.ext)) (hs1.trim.more (by omega)) (Nat.le_trans hD (Nat.pow_le_pow_right (by decide) (by omega)))), (RatsV.more (RatsV.zeros _ _) (by omega))⟩ ?_
    rintro m26 _ u26 ⟨k, xs, ps, qs, L, F, hm26, hk, hI, hS, hF, hN9, rfl, e26, hP, hQ⟩
    have hlx := hP.len
    have hql := hI.ql
    have hpl := hI.pl
    have hLq := hQ.1
    have hbk := Nt.bits_le (k9 := k) hC (by omega)
    have hsC : ∀ i, Nt.rs (Nt.co ps i) ≤ Nt.dg C := Nt.Sm.rs (hS.more hbk) (Nat.le_trans hF (Nat.pow_le_pow_right (by decide) hbk))
    have hnp : Nt.Nrm ps := hN9
    refine sw_seq ?_
    refine sw_seq ?_
    refine sw_reg ?_
    refine sy_pure 27 (.v (.slice xs.a xs.n xs.c)) ?_
    refine sy_pure 28 (.v (.int .i64 (xs.n : Int))) ?_
    refine sy_pure 29 (.v (.slice y18.a y18.n y18.c)) ?_
    refine sy_pure 30 (.v (.int .i64 (y18.n : Int))) ?_
    refine sy_pure 31 (.v (.bool (decide ((y18.n : Int) ≤ (xs.n : Int))))) ?_
    refine sy_next 90 [(0, .v (.slice xs.a xs.n xs.c)), (1, .v (.slice y18.a y18.n y18.c)), (7, .slc 26 0 ((Nt.trimQ l).length + 1 - (Nt.trimQ m).length) ((Nt.trimQ l).length + 1 - (Nt.trimQ m).length)), (31, .v (.bool (decide ((y18.n : Int) ≤ (xs.n : Int)))))] [(26, ⟨26, rcs L⟩)] ?_
    refine sw_cond (b := decide ((y18.n : Int) ≤ (xs.n : Int))) (by kernel_rfl) (fun hb27 => ?_) (fun hb27 => ?_)
    · replace hb27 : (decide ((y18.n : Int) ≤ (xs.n : Int))) = true := hb27
      have qhb27 := of_decide_eq_true hb27
      refine sw_skip (mp_seq ?_)
      refine sw_block ?_
      refine sw_seq ?_
      refine sw_reg ?_
      refine sy_pure 32 (.v (.slice xs.a xs.n xs.c)) ?_
      refine sy_pure 33 (.v (.int .i64 (xs.n : Int))) ?_
      refine sy_pure 34 (.v (.slice y18.a y18.n y18.c)) ?_
      refine sy_pure 35 (.v (.int .i64 (y18.n : Int))) ?_
      refine sy_eq 36 (x := .v (.int .i64 (IntKind.i64.wrap ((xs.n : Int) - (y18.n : Int))))) (.v (.int .i64 ((xs.n - y18.n : Nat) : Int))) (eqI (by rw [IntWalk.i64_in _ (by omega)]; omega)) ?_
      refine sy_pure 8 (.v (.int .i64 ((xs.n - y18.n : Nat) : Int))) ?_
      refine sy_next 90 [(0, .v (.slice xs.a xs.n xs.c)), (1, .v (.slice y18.a y18.n y18.c)), (7, .slc 26 0 ((Nt.trimQ l).length + 1 - (Nt.trimQ m).length) ((Nt.trimQ l).length + 1 - (Nt.trimQ m).length)), (8, .v (.int .i64 ((xs.n - y18.n : Nat) : Int)))] [(26, ⟨26, rcs L⟩)] ?_
      refine sw_seq ?_
      refine sw_any [0, 0, 2, 6, 15, 31, 0, 0, 128, 384, 960, 1984, 4095, 0, 16383] [(0, []), (1, []), (2, []), (3, []), (4, []), (5, []), (6, []), (7, []), (8, []), (9, []), (10, []), (11, []), (13, []), (12, []), (14, [])] (by kernel_rfl) (by kernel_rfl) ?_
      refine sy_pure 37 (.v (.slice xs.a xs.n xs.c)) ?_
      refine sy_pure 38 (.v (.slice xs.a xs.n xs.c)) ?_
      refine sy_pure 39 (.v (.int .i64 (xs.n : Int))) ?_
      refine sy_eq 40 (x := .v (.int .i64 (IntKind.i64.wrap ((xs.n : Int) - 1)))) (.v (.int .i64 ((xs.n - 1 : Nat) : Int))) (eqI (by rw [IntWalk.i64_in _ (by omega)]; omega)) ?_
      have hl28 := hP.len
      obtain ⟨r28, b28, o28, hA28, hc28, hr28⟩ := pol_atN hP (i := xs.n - 1) (by omega)
      refine sy_index 41 (o28 + (xs.n - 1) * 3) (n := xs.n) (off := o28) (sz := 3) (i := ((xs.n - 1 : Nat) : Int)) (by omega) hA28 (by omega) (by omega) sl41 ?_
      refine sy_ldn 42 r28.cs hc28 ty26 ?_
      refine sy_pure 43 (.v (.slice y18.a y18.n y18.c)) ?_
      refine sy_pure 44 (.v (.slice y18.a y18.n y18.c)) ?_
      refine sy_pure 45 (.v (.int .i64 (y18.n : Int))) ?_
      refine sy_eq 46 (x := .v (.int .i64 (IntKind.i64.wrap ((y18.n : Int) - 1)))) (.v (.int .i64 ((y18.n - 1 : Nat) : Int))) (eqI (by rw [IntWalk.i64_in _ (by omega)]; omega)) ?_
      have hl29 := (h19.ext e26).len
      obtain ⟨r29, b29, o29, hA29, hc29, hr29⟩ := pol_atN (h19.ext e26) (i := y18.n - 1) (by omega)
      refine sy_index 47 (o29 + (y18.n - 1) * 3) (n := y18.n) (off := o29) (sz := 3) (i := ((y18.n - 1 : Nat) : Int)) (by omega) hA29 (by omega) (by omega) sl41 ?_
      refine sy_ldn 48 r29.cs hc29 ty26 ?_
      refine sy_new 9 ⟨26, [.bool false, .slice none 0 0, .slice none 0 0]⟩ ?_
      refine sy_call 49 16 [r28.v, r29.v] ?_
      intro w30 u30 e30 d30
      have k35 := k_rqOver d30 (hr28.ext e30).raw (hr29.ext e30).raw (by omega) (by omega)
      with_reducible refine Post.mono k35 ?_
      clear k35
      rintro _ u33 g34 ⟨r31, rfl, h32⟩
      refine sy_store ⟨26, r31.cs⟩ ty26 ?_
      refine sy_next 90 [(0, .v (.slice xs.a xs.n xs.c)), (1, .v (.slice y18.a y18.n y18.c)), (7, .slc 26 0 ((Nt.trimQ l).length + 1 - (Nt.trimQ m).length) ((Nt.trimQ l).length + 1 - (Nt.trimQ m).length)), (8, .v (.int .i64 ((xs.n - y18.n : Nat) : Int))), (9, .adr 9 0)] [(9, ⟨26, r31.cs⟩), (26, ⟨26, rcs L⟩)] ?_
      refine sw_seq ?_
      refine sw_reg ?_
      refine sy_pure 50 (.slc 26 0 ((Nt.trimQ l).length + 1 - (Nt.trimQ m).length) ((Nt.trimQ l).length + 1 - (Nt.trimQ m).length)) ?_
      refine sy_pure 51 (.v (.int .i64 ((xs.n - y18.n : Nat) : Int))) ?_
      refine sy_ldv 52 (.v (r31.v)) ty26 part_agg ?_
      refine sy_idxO 53 (off' := (xs.n - y18.n) * 3) (n := ((Nt.trimQ l).length + 1 - (Nt.trimQ m).length)) (off := 0) (sz := 3) (i := ((xs.n - y18.n : Nat) : Int)) sl41 (by omega) (by omega) (by omega) ?_
      refine sy_storeO (V := ⟨26, rcs L⟩) (off := (xs.n - y18.n) * 3) (rcs ((L).set (xs.n - y18.n) r31)) ty26 (by rw [rcs_len]; first | omega | (simp; omega)) (setL_rcs (r := r31) (i := xs.n - y18.n) (by first | omega | (simp; omega)) rfl) ?_
      refine sy_next 90 [(0, .v (.slice xs.a xs.n xs.c)), (1, .v (.slice y18.a y18.n y18.c)), (7, .slc 26 0 ((Nt.trimQ l).length + 1 - (Nt.trimQ m).length) ((Nt.trimQ l).length + 1 - (Nt.trimQ m).length)), (8, .v (.int .i64 ((xs.n - y18.n : Nat) : Int))), (9, .adr 9 0)] [(9, ⟨26, r31.cs⟩), (26, ⟨26, rcs ((L).set (xs.n - y18.n) r31)⟩)] ?_
      refine sw_seq ?_
      have hQ9 := RatsV.set (i := xs.n - y18.n) (hQ.ext (e30.trans g34.ext)) (by omega) (RatV.more (K := ((Nt.dg C) + M + 2)) (RatN.raw h32) (show _ ≤ (Nt.dg C + M + 2) by omega))
      refine sw_reg ?_
      refine sy_pure 54 (.v (.slice xs.a xs.n xs.c)) ?_
      refine sy_pure 55 (.v (.slice xs.a xs.n xs.c)) ?_
      refine sy_pure 56 (.v (.int .i64 (xs.n : Int))) ?_
      refine sy_eq 57 (x := .v (.int .i64 (IntKind.i64.wrap ((xs.n : Int) - 1)))) (.v (.int .i64 ((xs.n - 1 : Nat) : Int))) (eqI (by rw [IntWalk.i64_in _ (by omega)]; omega)) ?_
      have hl36 := (hP.ext (e30.trans g34.ext)).len
      have hc36 := (hP.ext (e30.trans g34.ext)).cap
      refine sy_front 58 (n := xs.n) (c := xs.c) (xs.n - 1) sl41 rfl (by omega) ?_
      rcases Nat.eq_zero_or_pos (xs.n - 1) with hz | hz
      · have hx1 : xs.n = 1 := by omega
        obtain ⟨r0, b0, o0, hA0, _, _⟩ := pol_atN (hP.ext (e30.trans g34.ext)) (i := 0) (by omega)
        refine sy_app00 59 (T := 41) (A := some ⟨b0, o0, none⟩) (c := xs.c) (fun w => by kernel_rfl) ?_ (hx := by show some (SV.v (.slice xs.a (xs.n - 1) xs.c)) = _; rw [hz, hA0])
        refine sy_pure 10 (.v (.slice none 0 0)) ?_
        refine sy_next 90 [(1, .v (.slice y18.a y18.n y18.c)), (7, .slc 26 0 ((Nt.trimQ l).length + 1 - (Nt.trimQ m).length) ((Nt.trimQ l).length + 1 - (Nt.trimQ m).length)), (8, .v (.int .i64 ((xs.n - y18.n : Nat) : Int))), (9, .adr 9 0), (10, .v (.slice none 0 0))] [(9, ⟨26, r31.cs⟩), (26, ⟨26, rcs ((L).set (xs.n - y18.n) r31)⟩)] ?_
        refine sw_seq ?_
        refine sw_seq ?_
        refine sw_reg ?_
        refine sy_pure 11 (.v (.int .i64 0)) ?_
        refine sy_next 90 [(1, .v (.slice y18.a y18.n y18.c)), (7, .slc 26 0 ((Nt.trimQ l).length + 1 - (Nt.trimQ m).length) ((Nt.trimQ l).length + 1 - (Nt.trimQ m).length)), (8, .v (.int .i64 ((xs.n - y18.n : Nat) : Int))), (9, .adr 9 0), (10, .v (.slice none 0 0)), (11, .v (.int .i64 0))] [(9, ⟨26, r31.cs⟩), (26, ⟨26, rcs ((L).set (xs.n - y18.n) r31)⟩)] ?_
        refine sw_block ?_
        refine sw_rounds 0 ?_
        refine sw_seq ?_
        refine sw_seq ?_
        refine sw_reg ?_
        refine sy_pure 60 (.v (.int .i64 0)) ?_
        refine sy_pure 61 (.v (.slice y18.a y18.n y18.c)) ?_
        refine sy_pure 62 (.v (.int .i64 (y18.n : Int))) ?_
        refine sy_eq 63 (x := .v (.int .i64 (IntKind.i64.wrap ((y18.n : Int) - 1)))) (.v (.int .i64 ((y18.n - 1 : Nat) : Int))) (eqI (by rw [IntWalk.i64_in _ (by omega)]; omega)) ?_
        refine sy_pure 64 (.v (.bool (decide ((0 : Int) < ((y18.n - 1 : Nat) : Int))))) ?_
        refine sy_next 90 [(1, .v (.slice y18.a y18.n y18.c)), (7, .slc 26 0 ((Nt.trimQ l).length + 1 - (Nt.trimQ m).length) ((Nt.trimQ l).length + 1 - (Nt.trimQ m).length)), (8, .v (.int .i64 ((xs.n - y18.n : Nat) : Int))), (9, .adr 9 0), (10, .v (.slice none 0 0)), (11, .v (.int .i64 0)), (64, .v (.bool (decide ((0 : Int) < ((y18.n - 1 : Nat) : Int)))))] [(9, ⟨26, r31.cs⟩), (26, ⟨26, rcs ((L).set (xs.n - y18.n) r31)⟩)] ?_
        refine sw_cond (b := decide ((0 : Int) < ((y18.n - 1 : Nat) : Int))) (by kernel_rfl) (fun hb => ?_) (fun hb => ?_)
        · exact absurd hb (by rw [show (decide ((0 : Int) < ((y18.n - 1 : Nat) : Int))) = false from decide_eq_false (by omega)]; decide)
        · clear hb
          refine sw_exit ?_
          refine mp_seq ?_
          refine sw_reg ?_
          refine sy_pure 85 (.v (.slice none 0 0)) ?_
          refine sy_call 86 87 [.slice none 0 0] ?_
          intro w38 u38 e38 d38
          have k43 := k_r5Trim (x := ⟨none, 0, 0⟩) d38 (pol_nil _ 1).raw (by omega) (by simp)
          with_reducible refine Post.mono k43 ?_
          clear k43
          rintro _ u41 g42 ⟨y39, rfl, h40⟩
          refine sy_pure 0 (.v (.slice y39.a y39.n y39.c)) ?_
          refine sy_end ?_
          obtain ⟨F2, hF2, hS2⟩ := Nt.Sm.divstep hS hF hs2.trim (by omega) (by omega) hlead
          have hnl := Nt.nx_len (q := (Nt.trimQ m)) (ps := ps) (by omega) (by omega)
          have hI2 := hI.step (by omega) (by omega) hlead
          have hb2 := Nt.bits_le (k9 := k + 1) hC (by omega)
          have e2 : A + k * (B + 1) + (B + 1) = A + (k + 1) * (B + 1) := by rw [Nat.add_mul]; omega
          rw [e2] at hF2 hS2
          have hnx : Nt.trimQ (Nt.nxQ (Nt.trimQ m) ps) = (Nt.trimQ []) := by rw [Nt.nx_one (by omega) (by omega)]
          refine ⟨_, ?_, St.of 90 [(0, .v (.slice y39.a y39.n y39.c)), (1, .v (.slice y18.a y18.n y18.c)), (7, .slc 26 0 ((Nt.trimQ l).length + 1 - (Nt.trimQ m).length) ((Nt.trimQ l).length + 1 - (Nt.trimQ m).length))] [(26, ⟨26, rcs ((L).set (xs.n - y18.n) r31)⟩)], by exact weak_mk _ _ _, k + 1, y39, (Nt.trimQ (Nt.nxQ (Nt.trimQ m) ps)), (qs.set (ps.length - (Nt.trimQ m).length) (ps.getD (ps.length - 1) 0 / (Nt.trimQ m).getD ((Nt.trimQ m).length - 1) 0)), (L).set (xs.n - y18.n) r31, F2, rfl, by omega, hI2, hS2, hF2, (Nt.trim_nrm _), rfl, (e26.trans (e30.trans (g34.ext.trans (e38.trans g42.ext)))), (PolN.fitS (A := C) (by rw [hnx]; exact h40) (hS2.more hb2) (Nat.le_trans hF2 (Nat.pow_le_pow_right (by decide) hb2))), (by have h9 := (hQ9.ext (e38.trans g42.ext)); rw [hlx, hly18] at h9; rw [hlx, hly18]; exact h9)⟩
          omega
      · have hT37 : PolN u33 (⟨xs.a, xs.n - 1, xs.c⟩ : Sl) (ps.take (xs.n - 1)) (Nt.dg C) := (pol_takeN (hP.ext (e30.trans g34.ext)) (by omega))
        obtain ⟨L37, ⟨hA37, hB37, hC37, hD37⟩, hE37⟩ := hT37
        obtain ⟨b37, o37, hF37, hG37⟩ := hD37 (by show 0 < xs.n - 1; omega)
        have hL37 : L37.length = xs.n - 1 := by have h9 := hA37; rw [rcs_len] at h9; change L37.length * 3 = (xs.n - 1) * 3 at h9; omega
        refine sy_app0 59 (T := 41) (E := 26) (z := .agg #[.bool false, .slice none 0 0, .slice none 0 0]) (size := 3) (bytes := 56) (b := b37) (off := o37) (m := xs.n - 1) (c := xs.c) (rcs L37) (by kernel_rfl) (by kernel_rfl) (by kernel_rfl) (by decide) (by rw [rcs_len]; omega) (fun j v hv => by rw [hG37 j (List.getElem?_eq_some_iff.1 hv).1]; exact hv) (List.all_eq_true.1 (rcs_one (L := L37))) (by omega) (by unfold maxLen; omega) (by omega) ?_ (hx := by show some (SV.v (.slice xs.a (xs.n - 1) xs.c)) = _; rw [show xs.a = _ from hF37])
        intro cc37 cs37 h137 h237 h337 h437
        obtain ⟨X37, hX37⟩ := spare_of h437
        subst hX37
        refine sy_pure 10 (.slc 59 0 (xs.n - 1) cc37) ?_
        refine sy_next 90 [(1, .v (.slice y18.a y18.n y18.c)), (7, .slc 26 0 ((Nt.trimQ l).length + 1 - (Nt.trimQ m).length) ((Nt.trimQ l).length + 1 - (Nt.trimQ m).length)), (8, .v (.int .i64 ((xs.n - y18.n : Nat) : Int))), (9, .adr 9 0), (10, .slc 59 0 (xs.n - 1) cc37)] [(9, ⟨26, r31.cs⟩), (26, ⟨26, rcs ((L).set (xs.n - y18.n) r31)⟩), (59, ⟨26, rcs L37 ++ X37⟩)] ?_
        refine sw_seq ?_
        refine sw_seq ?_
        refine sw_reg ?_
        refine sy_pure 11 (.v (.int .i64 0)) ?_
        refine sy_next 90 [(1, .v (.slice y18.a y18.n y18.c)), (7, .slc 26 0 ((Nt.trimQ l).length + 1 - (Nt.trimQ m).length) ((Nt.trimQ l).length + 1 - (Nt.trimQ m).length)), (8, .v (.int .i64 ((xs.n - y18.n : Nat) : Int))), (9, .adr 9 0), (10, .slc 59 0 (xs.n - 1) cc37), (11, .v (.int .i64 0))] [(9, ⟨26, r31.cs⟩), (26, ⟨26, rcs ((L).set (xs.n - y18.n) r31)⟩), (59, ⟨26, rcs L37 ++ X37⟩)] ?_
        refine sw_block ?_
        refine sw_loop (I := fun m44 S' u' => ∃ (j : Nat) (M9 : List RL), (m44 = y18.n - 1 - j) ∧ (j ≤ y18.n - 1) ∧ (M9.length = xs.n - 1) ∧ (S' = St.of 90 [(1, .v (.slice y18.a y18.n y18.c)), (7, .slc 26 0 ((Nt.trimQ l).length + 1 - (Nt.trimQ m).length) ((Nt.trimQ l).length + 1 - (Nt.trimQ m).length)), (8, .v (.int .i64 ((xs.n - y18.n : Nat) : Int))), (9, .adr 9 0), (10, .slc 59 0 (xs.n - 1) cc37), (11, .v (.int .i64 (j : Int)))] [(9, ⟨26, r31.cs⟩), (26, ⟨26, rcs ((L).set (xs.n - y18.n) r31)⟩), (59, ⟨26, rcs M9 ++ X37⟩)]) ∧ (Ext u33 u') ∧ (RatsN u' M9 (Nt.subN (xs.n - y18.n) ((ps.getD (xs.n - 1) 0) / ((Nt.trimQ m).getD (y18.n - 1) 0)) (Nt.trimQ m) (ps.take (xs.n - 1)) j) (2 * Nt.dg C + 2 * M + 6))) (fun m S u1 u2 e h => by obtain ⟨j, M9, hm, p0, p1, hS, hE, f0⟩ := h; exact ⟨j, M9, hm, p0, p1, hS, hE.trans e, f0.ext e⟩) _ (T := St.of 90 [(1, .v (.slice y18.a y18.n y18.c)), (7, .slc 26 0 ((Nt.trimQ l).length + 1 - (Nt.trimQ m).length) ((Nt.trimQ l).length + 1 - (Nt.trimQ m).length)), (8, .v (.int .i64 ((xs.n - y18.n : Nat) : Int))), (9, .adr 9 0), (10, .slc 59 0 (xs.n - 1) cc37), (11, .v (.int .i64 0))] [(9, ⟨26, r31.cs⟩), (26, ⟨26, rcs ((L).set (xs.n - y18.n) r31)⟩), (59, ⟨26, rcs L37 ++ X37⟩)]) (by exact weak_mk _ _ _) ⟨0, L37, rfl, by omega, hL37, rfl, Ext.refl _, (RatsN.more hE37 (by omega))⟩ ?_
        rintro m44 _ u44 ⟨j, M9, hm44, hj, hM9, rfl, e44, hN⟩
        refine sw_seq ?_
        refine sw_seq ?_
        refine sw_reg ?_
        refine sy_pure 60 (.v (.int .i64 (j : Int))) ?_
        refine sy_pure 61 (.v (.slice y18.a y18.n y18.c)) ?_
        refine sy_pure 62 (.v (.int .i64 (y18.n : Int))) ?_
        refine sy_eq 63 (x := .v (.int .i64 (IntKind.i64.wrap ((y18.n : Int) - 1)))) (.v (.int .i64 ((y18.n - 1 : Nat) : Int))) (eqI (by rw [IntWalk.i64_in _ (by omega)]; omega)) ?_
        refine sy_pure 64 (.v (.bool (decide ((j : Int) < ((y18.n - 1 : Nat) : Int))))) ?_
        refine sy_next 90 [(1, .v (.slice y18.a y18.n y18.c)), (7, .slc 26 0 ((Nt.trimQ l).length + 1 - (Nt.trimQ m).length) ((Nt.trimQ l).length + 1 - (Nt.trimQ m).length)), (8, .v (.int .i64 ((xs.n - y18.n : Nat) : Int))), (9, .adr 9 0), (10, .slc 59 0 (xs.n - 1) cc37), (11, .v (.int .i64 (j : Int))), (64, .v (.bool (decide ((j : Int) < ((y18.n - 1 : Nat) : Int)))))] [(9, ⟨26, r31.cs⟩), (26, ⟨26, rcs ((L).set (xs.n - y18.n) r31)⟩), (59, ⟨26, rcs M9 ++ X37⟩)] ?_
        refine sw_cond (b := decide ((j : Int) < ((y18.n - 1 : Nat) : Int))) (by kernel_rfl) (fun hb45 => ?_) (fun hb45 => ?_)
        · replace hb45 : (decide ((j : Int) < ((y18.n - 1 : Nat) : Int))) = true := hb45
          have qhb45 := of_decide_eq_true hb45
          refine sw_skip (mp_seq ?_)
          refine sw_seq ?_
          refine sw_block ?_
          refine sw_any [0, 0, 0, 6, 0, 0, 0, 96, 240, 496, 0, 0, 0, 6144, 14336, 31744, 65520, 131071, 262143] [(0, []), (1, []), (2, []), (3, []), (4, []), (5, []), (6, []), (7, []), (8, []), (9, []), (10, []), (11, []), (12, []), (13, []), (14, []), (15, []), (16, []), (17, []), (18, [])] (by kernel_rfl) (by kernel_rfl) ?_
          refine sy_pure 67 (.slc 59 0 (xs.n - 1) cc37) ?_
          refine sy_pure 68 (.v (.int .i64 ((xs.n - y18.n : Nat) : Int))) ?_
          refine sy_pure 69 (.v (.int .i64 (j : Int))) ?_
          refine sy_eq 70 (x := .v (.int .i64 (IntKind.i64.wrap (((xs.n - y18.n : Nat) : Int) + (j : Int))))) (.v (.int .i64 (((xs.n - y18.n) + j : Nat) : Int))) (eqI (by rw [IntWalk.i64_in _ (by omega)]; omega)) ?_
          refine sy_pure 71 (.slc 59 0 (xs.n - 1) cc37) ?_
          refine sy_pure 72 (.v (.int .i64 ((xs.n - y18.n : Nat) : Int))) ?_
          refine sy_pure 73 (.v (.int .i64 (j : Int))) ?_
          refine sy_eq 74 (x := .v (.int .i64 (IntKind.i64.wrap (((xs.n - y18.n : Nat) : Int) + (j : Int))))) (.v (.int .i64 (((xs.n - y18.n) + j : Nat) : Int))) (eqI (by rw [IntWalk.i64_in _ (by omega)]; omega)) ?_
          refine sy_idxO 75 (off' := ((xs.n - y18.n) + j) * 3) (n := (xs.n - 1)) (off := 0) (sz := 3) (i := (((xs.n - y18.n) + j : Nat) : Int)) sl41 (by omega) (by omega) (by omega) ?_
          obtain ⟨r46, hrr46⟩ : ∃ r : RL, (M9).getD ((xs.n - y18.n) + j) rl0 = r := ⟨_, rfl⟩
          refine sy_ldv 76 (V := ⟨26, rcs M9 ++ X37⟩) (off := ((xs.n - y18.n) + j) * 3) (.v r46.v) ty26 (by have h9 := part_rcsX (X := X37) (L := M9) (i := (xs.n - y18.n) + j) (off := ((xs.n - y18.n) + j) * 3) (by first | omega | (simp; omega)) rfl; rw [hrr46] at h9; exact h9) ?_
          have h47 := hN.2 ((xs.n - y18.n) + j) (by simp; omega)
          rw [hrr46] at h47
          replace h47 : RatN _ r46 _ (Nt.dg C) := RatN.fit h47 (by show Nt.rs (Nt.co (Nt.subN (xs.n - y18.n) ((ps.getD (xs.n - 1) 0) / ((Nt.trimQ m).getD (y18.n - 1) 0)) (Nt.trimQ m) (ps.take (xs.n - 1)) j) (xs.n - y18.n + j)) ≤ _; rw [Nt.subN_fresh (by rw [List.length_take]; omega), Nt.co_take (by omega)]; exact hsC _)
          refine sy_ldv 77 (.v (r31.v)) ty26 part_agg ?_
          refine sy_pure 78 (.v (.slice y18.a y18.n y18.c)) ?_
          refine sy_pure 79 (.v (.int .i64 (j : Int))) ?_
          have hl48 := (h19.ext (e26.trans (e30.trans (g34.ext.trans e44)))).len
          obtain ⟨r48, b48, o48, hA48, hc48, hr48⟩ := pol_atN (h19.ext (e26.trans (e30.trans (g34.ext.trans e44)))) (i := j) (by omega)
          refine sy_index 80 (o48 + j * 3) (n := y18.n) (off := o48) (sz := 3) (i := (j : Int)) (by omega) hA48 (by omega) (by omega) sl41 ?_
          refine sy_ldn 81 r48.cs hc48 ty26 ?_
          refine sy_call 82 22 [r31.v, r48.v] ?_
          intro w49 u49 e49 d49
          have k54 := k_rqMul d49 (h32.ext (e44.trans e49)).raw (hr48.ext e49).raw (by omega) (by omega)
          with_reducible refine Post.mono k54 ?_
          clear k54
          rintro _ u52 g53 ⟨r50, rfl, h51⟩
          refine sy_call 83 20 [r46.v, r50.v] ?_
          intro w55 u55 e55 d55
          have k60 := k_rqSub d55 (h47.ext (e49.trans (g53.ext.trans e55))).raw (h51.ext e55).raw (by omega) (by omega)
          with_reducible refine Post.mono k60 ?_
          clear k60
          rintro _ u58 g59 ⟨r56, rfl, h57⟩
          refine sy_idxO 84 (off' := ((xs.n - y18.n) + j) * 3) (n := (xs.n - 1)) (off := 0) (sz := 3) (i := (((xs.n - y18.n) + j : Nat) : Int)) sl41 (by omega) (by omega) (by omega) ?_
          refine sy_storeO (V := ⟨26, rcs M9 ++ X37⟩) (off := ((xs.n - y18.n) + j) * 3) (rcs ((M9).set ((xs.n - y18.n) + j) r56) ++ X37) ty26 (by rw [List.length_append, rcs_len]; first | omega | (simp; omega)) (setL_rcsX (r := r56) (i := (xs.n - y18.n) + j) (by first | omega | (simp; omega)) rfl) ?_
          refine sy_end ?_
          refine mp_seq ?_
          refine sw_reg ?_
          refine sy_pure 65 (.v (.int .i64 (j : Int))) ?_
          refine sy_eq 66 (x := .v (.int .i64 (IntKind.i64.wrap ((j : Int) + 1)))) (.v (.int .i64 ((j + 1 : Nat) : Int))) (eqI (by rw [IntWalk.i64_in _ (by omega)]; omega)) ?_
          refine sy_pure 11 (.v (.int .i64 ((j + 1 : Nat) : Int))) ?_
          refine sy_end ?_
          refine ⟨_, ?_, St.of 90 [(1, .v (.slice y18.a y18.n y18.c)), (7, .slc 26 0 ((Nt.trimQ l).length + 1 - (Nt.trimQ m).length) ((Nt.trimQ l).length + 1 - (Nt.trimQ m).length)), (8, .v (.int .i64 ((xs.n - y18.n : Nat) : Int))), (9, .adr 9 0), (10, .slc 59 0 (xs.n - 1) cc37), (11, .v (.int .i64 ((j + 1 : Nat) : Int)))] [(9, ⟨26, r31.cs⟩), (26, ⟨26, rcs ((L).set (xs.n - y18.n) r31)⟩), (59, ⟨26, rcs ((M9).set ((xs.n - y18.n) + j) r56) ++ X37⟩)], by exact weak_mk _ _ _, j + 1, (M9).set ((xs.n - y18.n) + j) r56, rfl, by omega, by simp; omega, rfl, (e44.trans (e49.trans (g53.ext.trans (e55.trans g59.ext)))), (RatsN.set (i := xs.n - y18.n + j) (hN.ext (e49.trans (g53.ext.trans (e55.trans g59.ext)))) (by simp; omega) (RatN.more (K := ((Nt.dg C) + (((Nt.dg C) + M + 2) + M + 1) + 2)) h57 (by omega)))⟩
          omega
        · replace hb45 : (decide ((j : Int) < ((y18.n - 1 : Nat) : Int))) = false := hb45
          have qhb45 := of_decide_eq_false hb45
          refine sw_exit ?_
          refine mp_seq ?_
          refine sw_pub (r := 10) (t := 59) [10, 59] (by repeat first | exact noAt_of | refine noAt_set ?_ | refine noAt_lit ?_ | refine noAt_new ?_ | refine noAt_setVar ?_ | refine noAt_unpub ?_) (by kernel_rfl) (by rfl) (by rfl) (by kernel_rfl) (fun b61 u62 e63 hb64 hh65 => ?_)
          have hp66 : PolN u62 ⟨some ⟨b61, 0, none⟩, (xs.n - 1), cc37⟩ (Nt.subN (xs.n - y18.n) ((ps.getD (xs.n - 1) 0) / ((Nt.trimQ m).getD (y18.n - 1) 0)) (Nt.trimQ m) (ps.take (xs.n - 1)) j) (2 * Nt.dg C + 2 * M + 6) := by have h8 := pol_data (cs := rcs M9 ++ X37) (n := xs.n - 1) (c := cc37) hh65 (by rw [← hM9, ← rcs_len, List.take_left]) (by have h7 := h337; rw [List.length_append, rcs_len] at h7 ⊢; rw [hM9]; rw [hL37] at h7; exact h7) h137 h237 (hN.ext e63); exact h8
          refine sw_reg ?_
          refine sy_pure 85 (.v (.slice (some ⟨b61, 0, none⟩) (xs.n - 1) cc37)) ?_
          refine sy_call 86 87 [.slice (some ⟨b61, 0, none⟩) (xs.n - 1) cc37] ?_
          intro w67 u67 e67 d67
          have k72 := k_r5Trim d67 (hp66.ext e67).raw (by omega) (by first | omega | (simp; omega) | (refine Nat.le_trans (Nt.trim_len _) ?_; first | omega | (simp; omega)) | (refine Nat.le_trans (Nt.trim_len _) ?_; simp only [List.length_map]; refine Nat.le_trans (Nt.trim_len _) ?_; first | omega | (simp; omega)))
          with_reducible refine Post.mono k72 ?_
          clear k72
          rintro _ u70 g71 ⟨y68, rfl, h69⟩
          have hly68 := h69.len
          refine sy_pure 0 (.v (.slice y68.a y68.n y68.c)) ?_
          refine sy_end ?_
          obtain ⟨F2, hF2, hS2⟩ := Nt.Sm.divstep hS hF hs2.trim (by omega) (by omega) hlead
          have hnl := Nt.nx_len (q := (Nt.trimQ m)) (ps := ps) (by omega) (by omega)
          have hI2 := hI.step (by omega) (by omega) hlead
          have hb2 := Nt.bits_le (k9 := k + 1) hC (by omega)
          have e2 : A + k * (B + 1) + (B + 1) = A + (k + 1) * (B + 1) := by rw [Nat.add_mul]; omega
          rw [e2] at hF2 hS2
          have hj9 : j = y18.n - 1 := by omega
          have hnx : Nt.trimQ (Nt.nxQ (Nt.trimQ m) ps) = (Nt.trimQ (Nt.subN (xs.n - y18.n) ((ps.getD (xs.n - 1) 0) / ((Nt.trimQ m).getD (y18.n - 1) 0)) (Nt.trimQ m) (ps.take (xs.n - 1)) j)) := by rw [hj9]; unfold Nt.nxQ; rw [hlx, hly18]
          refine ⟨_, ?_, St.of 90 [(0, .v (.slice y68.a y68.n y68.c)), (1, .v (.slice y18.a y18.n y18.c)), (7, .slc 26 0 ((Nt.trimQ l).length + 1 - (Nt.trimQ m).length) ((Nt.trimQ l).length + 1 - (Nt.trimQ m).length))] [(26, ⟨26, rcs ((L).set (xs.n - y18.n) r31)⟩)], by exact weak_mk _ _ _, k + 1, y68, (Nt.trimQ (Nt.nxQ (Nt.trimQ m) ps)), (qs.set (ps.length - (Nt.trimQ m).length) (ps.getD (ps.length - 1) 0 / (Nt.trimQ m).getD ((Nt.trimQ m).length - 1) 0)), (L).set (xs.n - y18.n) r31, F2, rfl, by omega, hI2, hS2, hF2, (Nt.trim_nrm _), rfl, (e26.trans (e30.trans (g34.ext.trans (e44.trans (e63.trans (e67.trans g71.ext)))))), (PolN.fitS (A := C) (by rw [hnx]; exact h69) (hS2.more hb2) (Nat.le_trans hF2 (Nat.pow_le_pow_right (by decide) hb2))), (by have h9 := (hQ9.ext (e44.trans (e63.trans (e67.trans g71.ext)))); rw [hlx, hly18] at h9; rw [hlx, hly18]; exact h9)⟩
          omega
    · replace hb27 : (decide ((y18.n : Int) ≤ (xs.n : Int))) = false := hb27
      have qhb27 := of_decide_eq_false hb27
      refine sw_exit ?_
      refine mp_seq ?_
      refine sw_seq ?_
      have hfin := hI.done
      refine sw_pub (r := 7) (t := 26) [7, 26] (by repeat first | exact noAt_of | refine noAt_set ?_ | refine noAt_lit ?_ | refine noAt_new ?_ | refine noAt_setVar ?_ | refine noAt_unpub ?_) (by kernel_rfl) (by rfl) (by rfl) (by kernel_rfl) (fun b73 u74 e75 hb76 hh77 => ?_)
      have hp78 : PolV u74 ⟨some ⟨b73, 0, none⟩, ((Nt.trimQ l).length + 1 - (Nt.trimQ m).length), ((Nt.trimQ l).length + 1 - (Nt.trimQ m).length)⟩ qs (Nt.dg C + M + 2) := pol_data1V hh77 (by unfold maxLen; omega) (hQ.ext e75) (by omega)
      refine sw_reg ?_
      refine sy_pure 87 (.v (.slice (some ⟨b73, 0, none⟩) ((Nt.trimQ l).length + 1 - (Nt.trimQ m).length) ((Nt.trimQ l).length + 1 - (Nt.trimQ m).length))) ?_
      refine sy_call 88 87 [.slice (some ⟨b73, 0, none⟩) ((Nt.trimQ l).length + 1 - (Nt.trimQ m).length) ((Nt.trimQ l).length + 1 - (Nt.trimQ m).length)] ?_
      intro w79 u79 e79 d79
      have k84 := k_r5Trim d79 (hp78.ext e79) (by omega) (by first | omega | (simp; omega) | (refine Nat.le_trans (Nt.trim_len _) ?_; first | omega | (simp; omega)) | (refine Nat.le_trans (Nt.trim_len _) ?_; simp only [List.length_map]; refine Nat.le_trans (Nt.trim_len _) ?_; first | omega | (simp; omega)))
      with_reducible refine Post.mono k84 ?_
      clear k84
      rintro _ u82 g83 ⟨y80, rfl, h81⟩
      have hly80 := h81.len
      refine sy_pure 89 (.v (.slice xs.a xs.n xs.c)) ?_
      refine sy_pure 4 (.v (.slice y80.a y80.n y80.c)) ?_
      refine sy_pure 5 (.v (.slice xs.a xs.n xs.c)) ?_
      refine sy_pure 6 (.v (.int .i64 0)) ?_
      refine sy_next 90 [(4, .v (.slice y80.a y80.n y80.c)), (5, .v (.slice xs.a xs.n xs.c)), (6, .v (.int .i64 0))] [] ?_
      refine sw_ret (ret0 [.slice y80.a y80.n y80.c, .slice xs.a xs.n xs.c, .int .i64 0] ⟨res_tmp, res_tmp, res_tmp, trivial⟩ fun u85 e86 => ?_)
      refine .inr ⟨by intro e; have h9 : (Nt.trimQ m).length = 0 := by { rw [e]; rfl }; omega, y80, xs, Nt.Pol.mk' qs, Nt.Pol.mk' ps, rfl, (h81.ext e86), ?_, by rw [Nt.mk_trim, Nt.mk_trim] at hfin; exact hfin, ?_, F, Nat.le_trans hF (Nat.pow_le_pow_right (by decide) hbk), (hS.more hbk).trim⟩
      · have h9 : Nt.trimQ ps = ps := hnp
        show PolN _ _ (Nt.trimQ ps) _
        rw [h9]; exact (hP.ext (e75.trans (e79.trans (g83.ext.trans e86))))
      · have h9 := Nt.trim_len ps
        show (Nt.trimQ ps).length < (Nt.trimQ m).length
        omega
end Go.Proofs.YtnedhbidmfoegaaGreat
namespace Go.Proofs.YtnedhbidmfoegaaGreat
open Go.RowKit
set_option linter.unusedVariables false
theorem k_r5DivMod1 {u w : World} {x y : Sl} {l m : List Rat} {K M : Nat} (d : Dat u w) (hx : PolV u x l K) (hy : PolV u y m M) (hm1 : Nt.trimQ m ≠ []) {D E A B C : Nat} (hs1 : Nt.Sm l D A) (hD : D ≤ 2 ^ A) (hs2 : Nt.Sm m E B) (hC : A + ((Nt.trimQ l).length - (Nt.trimQ m).length + 1) * (B + 1) ≤ C) (hC9 : C ≤ 400000000) (hK : K ≤ 10000000) (hM : M ≤ 3000000) (hx9 : l.length ≤ 1000000) (hy9 : m.length ≤ 1000000) :
    Calls Tryz.prog 28 #[x.v, y.v] w (Post u w fun v u' => ∃ (y1 y2 : Sl) (q r : Nt.Pol), v = .tuple #[y1.v, y2.v, .int .i64 0] ∧ PolN u' y1 q.l (Nt.dg C + M + 2) ∧ PolN u' y2 r.l (Nt.dg C) ∧ Nt.Pol.mk' l = q * Nt.Pol.mk' m + r ∧ r.len < (Nt.Pol.mk' m).len) :=
  Post.mono (k_r5DivMod d hx hy hs1 hD hs2 hC hC9 hK hM hx9 hy9) fun v u' _ h => by
    obtain ⟨_, y1, y2, q, r, h1, h2, h3, h4, h5, _⟩ := h.resolve_left (fun k => hm1 k.2)
    exact ⟨y1, y2, q, r, h1, h2, h3, h4, h5⟩
set_option maxHeartbeats 4000000 in
theorem k_r5Gcd {u w : World} {x : Sl} {l : List Rat} {y : Sl} {m : List Rat} {K M : Nat} (d : Dat u w) (hx : PolV u x l K) (hy : PolV u y m M) {A H N : Nat} (hA : Nt.WhL (Nt.prim l) A) (hB : Nt.WhL (Nt.prim m) A) (hH : (A + 1) * (A + 1) * 3 ^ Nt.pot (Nt.trimQ l).length (Nt.trimQ m).length ≤ H * H) (hN1 : l.length ≤ N) (hN2 : m.length ≤ N) (hC9 : H ≤ 90000000) (hK : K ≤ 8000000) (hM : M ≤ 8000000) (hN9 : N ≤ 100000) : Calls Tryz.prog 31 #[x.v, y.v] w (Post u w fun v u' => ∃ (z : Sl) (g : Nt.Pol), v = z.v ∧ PolN u' z g.l (Nt.dg H) ∧ Nt.Pol.IsGcd (Nt.Pol.mk' l) (Nt.Pol.mk' m) g ∧ ∃ D, D ≤ 2 ^ H ∧ Nt.Sm g.l D H) := by
  have hlen := hx.len
  have hlen2 := hy.len
  have hdgH : Nt.dg H ≤ 3000000 := by unfold Nt.dg; omega
  refine calls_sym (args := [.slice x.a x.n x.c, .slice y.a y.n y.c]) Tryz.func31 rfl Tryz.ntmps31 (rs := [.tmp 4]) Tryz.results31 (le_b rfl) (le_b rfl) d ?_
  refine sw_seq ?_
  refine sw_reg ?_
  refine sy_pure 4 (.v (.slice none 0 0)) ?_
  refine sy_next 26 [(0, .v (.slice x.a x.n x.c)), (1, .v (.slice y.a y.n y.c))] [] ?_
  refine sw_seq ?_
  refine sw_reg ?_
  refine sy_pure 8 (.v (.slice x.a x.n x.c)) ?_
  refine sy_call 9 33 [.slice x.a x.n x.c] ?_
  intro w11 u11 e11 d11
  have k16 := k_r5Monic d11 (hx.ext e11) (by omega) (by omega)
  with_reducible refine Post.mono k16 ?_
  clear k16
  rintro _ u14 g15 ⟨y12, rfl, h13⟩
  have hly12 := h13.len
  refine sy_pure 10 (.v (.slice y.a y.n y.c)) ?_
  refine sy_call 11 33 [.slice y.a y.n y.c] ?_
  intro w17 u17 e17 d17
  have k22 := k_r5Monic d17 (hy.ext (e11.trans (g15.ext.trans e17))) (by omega) (by omega)
  with_reducible refine Post.mono k22 ?_
  clear k22
  rintro _ u20 g21 ⟨y18, rfl, h19⟩
  have hly18 := h19.len
  refine sy_pure 0 (.v (.slice y12.a y12.n y12.c)) ?_
  refine sy_pure 1 (.v (.slice y18.a y18.n y18.c)) ?_
  refine sy_next 26 [(0, .v (.slice y12.a y12.n y12.c)), (1, .v (.slice y18.a y18.n y18.c))] [] ?_
  refine sw_seq ?_
  refine sw_block ?_
  refine sw_loop (I := fun m23 S' u' => ∃ (xa : Sl) (xb : Sl) (p : List Rat) (q : List Rat) (pa : List Rat) (pb : List Rat) (A9 : Nat), (m23 = q.length) ∧ (Nt.GcdI l m p q pa pb A9 H) ∧ (p.length ≤ N) ∧ (q.length ≤ N) ∧ (S' = St.of 26 [(0, .v (.slice xa.a xa.n xa.c)), (1, .v (.slice xb.a xb.n xb.c))] []) ∧ (Ext u20 u') ∧ (PolN u' xa p (Nt.dg H)) ∧ (PolN u' xb q (Nt.dg H))) (fun m S u1 u2 e h => by obtain ⟨xa, xb, p, q, pa, pb, A9, hm, p0, p1, p2, hS, hE, f0, f1⟩ := h; exact ⟨xa, xb, p, q, pa, pb, A9, hm, p0, p1, p2, hS, hE.trans e, f0.ext e, f1.ext e⟩) _ (T := St.of 26 [(0, .v (.slice y12.a y12.n y12.c)), (1, .v (.slice y18.a y18.n y18.c))] []) (by exact weak_mk _ _ _) ⟨y12, y18, (Nt.Pol.mk' l).monic.l, (Nt.Pol.mk' m).monic.l, (Nt.prim l), (Nt.prim m), A, rfl, (Nt.GcdI.begin hA hB hH), (Nat.le_trans (Nt.Pol.len_le (p := (Nt.Pol.mk' l).monic) (n := N) (fun i hi => Nt.Pol.c_ge (Nat.le_trans (Nat.le_trans (Nt.monic_lenP _) (Nt.mk_len l)) (by omega)))) (Nat.le_refl _)), (Nat.le_trans (Nt.Pol.len_le (p := (Nt.Pol.mk' m).monic) (n := N) (fun i hi => Nt.Pol.c_ge (Nat.le_trans (Nat.le_trans (Nt.monic_lenP _) (Nt.mk_len m)) (by omega)))) (Nat.le_refl _)), rfl, Ext.refl _, (PolN.fitR (h13.ext (e17.trans g21.ext)) (Nt.GcdI.rsP (Nt.GcdI.begin hA hB hH))), (PolN.fitR h19 (Nt.GcdI.rsQ (Nt.GcdI.begin hA hB hH)))⟩ ?_
  rintro m23 _ u23 ⟨xa, xb, p, q, pa, pb, A9, hm23, hG, hna, hnb, rfl, e23, hFa, hFb⟩
  have hla := hFa.len
  have hlb := hFb.len
  obtain ⟨D1, hD1, hs1⟩ := hG.smP9
  obtain ⟨D2, hD2, hs2⟩ := hG.smQ9
  refine sw_seq ?_
  refine sw_seq ?_
  refine sw_reg ?_
  refine sy_pure 12 (.v (.slice xb.a xb.n xb.c)) ?_
  refine sy_pure 13 (.v (.int .i64 (xb.n : Int))) ?_
  refine sy_pure 14 (.v (.bool (decide ((0 : Int) < (xb.n : Int))))) ?_
  refine sy_next 26 [(0, .v (.slice xa.a xa.n xa.c)), (1, .v (.slice xb.a xb.n xb.c)), (14, .v (.bool (decide ((0 : Int) < (xb.n : Int)))))] [] ?_
  refine sw_cond (b := decide ((0 : Int) < (xb.n : Int))) (by kernel_rfl) (fun hb24 => ?_) (fun hb24 => ?_)
  · replace hb24 : (decide ((0 : Int) < (xb.n : Int))) = true := hb24
    have qhb24 := of_decide_eq_true hb24
    refine sw_skip (mp_seq ?_)
    refine sw_block ?_
    refine sw_seq ?_
    have hq0 : 0 < q.length := by omega
    have hqn : Nt.trimQ q ≠ [] := by rw [show Nt.trimQ q = q from hG.nQ]; intro e; rw [e] at hq0; simp at hq0
    have hCC := hG.steps hq0
    refine sw_reg ?_
    refine sy_pure 16 (.v (.slice xa.a xa.n xa.c)) ?_
    refine sy_pure 17 (.v (.slice xb.a xb.n xb.c)) ?_
    refine sy_call 18 28 [.slice xa.a xa.n xa.c, .slice xb.a xb.n xb.c] ?_
    intro w25 u25 e25 d25
    have k29 := k_r5DivMod1 (C := H) d25 (hFa.ext e25).raw (hFb.ext e25).raw hqn hs1 hD1 hs2 hCC (by omega) (by omega) (by omega) (by omega) (by omega)
    with_reducible refine Post.mono k29 ?_
    clear k29
    rintro _ u27 g28 ⟨y26, z26, q26, r26, rfl, ha26, hb26, eq26, el26⟩
    have hly26 := ha26.len
    have hlz26 := hb26.len
    have hlly26 := Nt.div_lenL eq26 el26
    refine sy_pure 15 (.v (.tuple #[.slice y26.a y26.n y26.c, .slice z26.a z26.n z26.c, .int .i64 0])) ?_
    refine sy_pure 19 (.v (.slice y26.a y26.n y26.c)) ?_
    refine sy_pure 20 (.v (.slice z26.a z26.n z26.c)) ?_
    refine sy_pure 21 (.v (.int .i64 0)) ?_
    refine sy_pure 5 (.v (.slice y26.a y26.n y26.c)) ?_
    refine sy_pure 6 (.v (.slice z26.a z26.n z26.c)) ?_
    refine sy_pure 7 (.v (.int .i64 0)) ?_
    refine sy_next 26 [(1, .v (.slice xb.a xb.n xb.c)), (6, .v (.slice z26.a z26.n z26.c))] [] ?_
    refine sw_reg ?_
    refine sy_pure 22 (.v (.slice xb.a xb.n xb.c)) ?_
    refine sy_pure 23 (.v (.slice z26.a z26.n z26.c)) ?_
    refine sy_call 24 33 [.slice z26.a z26.n z26.c] ?_
    intro w30 u30 e30 d30
    have k35 := k_r5Monic d30 (hb26.ext e30).raw (by omega) (by omega)
    with_reducible refine Post.mono k35 ?_
    clear k35
    rintro _ u33 g34 ⟨y31, rfl, h32⟩
    have hly31 := h32.len
    refine sy_pure 0 (.v (.slice xb.a xb.n xb.c)) ?_
    refine sy_pure 1 (.v (.slice y31.a y31.n y31.c)) ?_
    refine sy_end ?_
    obtain ⟨pc, A2, hG2⟩ := hG.step hq0 eq26 el26
    have hrl : r26.monic.l.length ≤ r26.l.length := Nt.monic_lenP r26
    refine ⟨_, ?_, St.of 26 [(0, .v (.slice xb.a xb.n xb.c)), (1, .v (.slice y31.a y31.n y31.c))] [], by exact weak_mk _ _ _, xb, y31, q, r26.monic.l, pb, pc, A2, rfl, hG2, by omega, by omega, rfl, (e23.trans (e25.trans (g28.ext.trans (e30.trans g34.ext)))), (hFb.ext (e25.trans (g28.ext.trans (e30.trans g34.ext)))), (PolN.fitR (by rw [← Nt.Pol.mk_l r26]; exact h32) hG2.rsQ)⟩
    omega
  · replace hb24 : (decide ((0 : Int) < (xb.n : Int))) = false := hb24
    have qhb24 := of_decide_eq_false hb24
    refine sw_exit ?_
    refine mp_seq ?_
    refine sw_seq ?_
    refine sw_reg ?_
    refine sy_pure 25 (.v (.slice xa.a xa.n xa.c)) ?_
    refine sy_pure 4 (.v (.slice xa.a xa.n xa.c)) ?_
    refine sy_next 26 [(4, .v (.slice xa.a xa.n xa.c))] [] ?_
    refine sw_ret (ret0 [.slice xa.a xa.n xa.c] ⟨res_tmp, trivial⟩ fun u36 e37 => ?_)
    obtain ⟨hg1, _, _⟩ := hG.done (by omega)
    refine ⟨xa, Nt.Pol.mk' p, rfl, ?_, hg1, D1, Nat.le_trans hD1 (Nat.pow_le_pow_right (by decide) hG.le), ?_⟩
    · rw [show (Nt.Pol.mk' p).l = p from hG.nP]; exact (hFa.ext e37)
    · rw [show (Nt.Pol.mk' p).l = p from hG.nP]; exact hs1.more hG.le
set_option maxHeartbeats 4000000 in
theorem k_r5Squarefree {u w : World} {x : Sl} {l : List Rat} {K : Nat} (d : Dat u w) (hx : PolV u x l K) {D A0 A H N b : Nat} (hs : Nt.Sm l D A0) (hD : D ≤ 2 ^ A0) (hb : l.length ≤ 2 ^ b) (hAb : A0 + b ≤ A) (hH : (A + 1) * (A + 1) * 3 ^ (2 * (l.length - 1) + 1) ≤ H * H) (hN1 : l.length ≤ N) (hC9 : (A + (N + 1) * (H + 1)) ≤ 400000000) (hH9 : H ≤ 90000000) (hK : K ≤ 4000000) (hN9 : N ≤ 100000) : Calls Tryz.prog 37 #[x.v] w (Post u w fun v u' => ∃ (z : Sl) (s : Nt.Pol), v = z.v ∧ PolN u' z s.l (2 * (Nt.dg (A + (N + 1) * (H + 1)) + Nt.dg H + 2) + 8) ∧ Nt.IsSqf (Nt.Pol.mk' l) s) := by
  have hlen := hx.len
  have htl := Nt.trim_len l
  have hdgH : Nt.dg H ≤ 2900000 := by unfold Nt.dg; omega
  have hdgC : Nt.dg (A + (N + 1) * (H + 1)) ≤ 12600000 := by unfold Nt.dg; omega
  refine calls_sym (args := [.slice x.a x.n x.c]) Tryz.func37 rfl Tryz.ntmps37 (rs := [.tmp 2]) Tryz.results37 (le_b rfl) (le_b rfl) d ?_
  refine sw_seq ?_
  refine sw_reg ?_
  refine sy_pure 2 (.v (.slice none 0 0)) ?_
  refine sy_next 23 [(0, .v (.slice x.a x.n x.c))] [] ?_
  refine sw_seq ?_
  refine sw_reg ?_
  refine sy_pure 6 (.v (.slice x.a x.n x.c)) ?_
  refine sy_call 7 87 [.slice x.a x.n x.c] ?_
  intro w11 u11 e11 d11
  have k16 := k_r5Trim d11 (hx.ext e11) (by omega) (by first | omega | (simp; omega) | (refine Nat.le_trans (Nt.trim_len _) ?_; first | omega | (simp; omega)) | (refine Nat.le_trans (Nt.trim_len _) ?_; simp only [List.length_map]; refine Nat.le_trans (Nt.trim_len _) ?_; first | omega | (simp; omega)))
  with_reducible refine Post.mono k16 ?_
  clear k16
  rintro _ u14 g15 ⟨y12, rfl, h13⟩
  have hly12 := h13.len
  refine sy_pure 0 (.v (.slice y12.a y12.n y12.c)) ?_
  refine sy_next 23 [(0, .v (.slice y12.a y12.n y12.c))] [] ?_
  refine sw_seq ?_
  refine sw_seq ?_
  refine sw_reg ?_
  refine sy_pure 8 (.v (.slice y12.a y12.n y12.c)) ?_
  refine sy_pure 9 (.v (.int .i64 (y12.n : Int))) ?_
  refine sy_pure 10 (.v (.bool ((y12.n : Int) == 0))) ?_
  refine sy_next 23 [(0, .v (.slice y12.a y12.n y12.c)), (10, .v (.bool ((y12.n : Int) == 0)))] [] ?_
  refine sw_cond (b := (y12.n : Int) == 0) (by kernel_rfl) (fun hb17 => ?_) (fun hb17 => ?_)
  · replace hb17 : ((y12.n : Int) == 0) = true := hb17
    have qhb17 : (y12.n : Int) = 0 := by simpa using hb17
    refine sw_seq ?_
    refine sw_reg ?_
    refine sy_pure 2 (.v (.slice none 0 0)) ?_
    refine sy_next 23 [(2, .v (.slice none 0 0))] [] ?_
    refine sw_ret (mpr_seq (ret0 [.slice none 0 0] ⟨res_tmp, trivial⟩ fun u18 e19 => ?_))
    have hT0 : (Nt.trimQ l) = [] := List.eq_nil_of_length_eq_zero (by omega)
    have hp0 : Nt.Pol.mk' l = 0 := Nt.Pol.zero_of_len (by show (Nt.trimQ l).length = 0; rw [hT0]; rfl)
    exact ⟨⟨none, 0, 0⟩, 0, rfl, by rw [Nt.Pol.zero_l]; exact pol_nil _ _, .inl ⟨hp0, rfl⟩⟩
  · replace hb17 : ((y12.n : Int) == 0) = false := hb17
    have qhb17 : ¬ ((y12.n : Int) = 0) := by simpa using hb17
    refine sw_skip (mp_seq ?_)
    refine sw_seq ?_
    refine sw_reg ?_
    refine sy_pure 12 (.v (.slice y12.a y12.n y12.c)) ?_
    refine sy_pure 13 (.v (.slice y12.a y12.n y12.c)) ?_
    refine sy_pure 14 (.v (.slice y12.a y12.n y12.c)) ?_
    refine sy_call 15 35 [.slice y12.a y12.n y12.c] ?_
    intro w20 u20 e20 d20
    have k25 := k_r5Derivative d20 (h13.ext e20).raw (by omega) (by omega)
    with_reducible refine Post.mono k25 ?_
    clear k25
    rintro _ u23 g24 ⟨y21, rfl, h22⟩
    have hly21 := h22.len
    refine sy_call 16 31 [.slice y12.a y12.n y12.c, .slice y21.a y21.n y21.c] ?_
    intro w26 u26 e26 d26
    have k36 := k_r5Gcd (A := A) (H := H) (N := N) d26 (h13.ext (e20.trans (g24.ext.trans e26))).raw (h22.ext e26).raw (hs.trim.prim.more (by omega)) (((hs.trim.der (b := b) (by omega)).trim).prim.more (by omega)) (Nt.pot_der (Nat.le_trans (Nat.mul_le_mul_left _ (Nat.pow_le_pow_right (by decide) (by omega))) hH)) (by omega) (Nat.le_trans (Nt.der_lenQ (Nat.le_refl _)) (by omega)) hH9 (by omega) (by omega) (by omega)
    with_reducible refine Post.mono k36 ?_
    clear k36
    rintro _ u34 g35 ⟨z27, g28, rfl, hz29, hg30, D31, hd32, hs33⟩
    have hlz27 := hz29.len
    have hTne : (Nt.trimQ l) ≠ [] := by intro e; have h9 : (Nt.trimQ l).length = 0 := by { rw [e]; rfl }; omega
    have hp0 : Nt.Pol.mk' l ≠ 0 := by intro e; apply hTne; show (Nt.Pol.mk' l).l = []; rw [e, Nt.Pol.zero_l]
    have hgn : g28 ≠ 0 := by intro e; exact hp0 (by rw [← Nt.mk_trim]; exact (hg30.zero_iff e).1)
    have hgt : Nt.trimQ g28.l ≠ [] := by rw [show Nt.trimQ g28.l = g28.l from g28.h]; intro e; exact hgn (Nt.Pol.zero_of_len (by show g28.l.length = 0; rw [e]; rfl))
    have hgl : g28.l.length ≤ N := by have h9 := Nt.len_dvd hg30.l (by rw [Nt.mk_trim]; exact hp0); have h8 := Nt.mk_len (Nt.trimQ l); change g28.l.length ≤ _ at h9; omega
    have hCS : A + ((Nt.trimQ (Nt.trimQ l)).length - (Nt.trimQ g28.l).length + 1) * (H + 1) ≤ (A + (N + 1) * (H + 1)) := Nat.add_le_add_left (Nat.mul_le_mul_right _ (by have h9 := Nt.trim_len (Nt.trimQ l); omega)) _
    refine sy_call 17 28 [.slice y12.a y12.n y12.c, .slice z27.a z27.n z27.c] ?_
    intro w37 u37 e37 d37
    have k41 := k_r5DivMod1 (C := (A + (N + 1) * (H + 1))) d37 (h13.ext (e20.trans (g24.ext.trans (e26.trans (g35.ext.trans e37))))).raw (hz29.ext e37).raw hgt (hs.trim.more (by omega)) (Nat.le_trans hD (Nat.pow_le_pow_right (by decide) (by omega))) hs33 hCS hC9 (by omega) (by omega) (by omega) (by omega)
    with_reducible refine Post.mono k41 ?_
    clear k41
    rintro _ u39 g40 ⟨y38, z38, q38, r38, rfl, ha38, hb38, eq38, el38⟩
    have hly38 := ha38.len
    have hlz38 := hb38.len
    have hlly38 := Nt.div_lenL eq38 el38
    refine sy_pure 11 (.v (.tuple #[.slice y38.a y38.n y38.c, .slice z38.a z38.n z38.c, .int .i64 0])) ?_
    refine sy_pure 18 (.v (.slice y38.a y38.n y38.c)) ?_
    refine sy_pure 19 (.v (.slice z38.a z38.n z38.c)) ?_
    refine sy_pure 20 (.v (.int .i64 0)) ?_
    refine sy_pure 3 (.v (.slice y38.a y38.n y38.c)) ?_
    refine sy_pure 4 (.v (.slice z38.a z38.n z38.c)) ?_
    refine sy_pure 5 (.v (.int .i64 0)) ?_
    refine sy_next 23 [(3, .v (.slice y38.a y38.n y38.c))] [] ?_
    refine sw_seq ?_
    refine sw_reg ?_
    refine sy_pure 21 (.v (.slice y38.a y38.n y38.c)) ?_
    refine sy_call 22 33 [.slice y38.a y38.n y38.c] ?_
    intro w42 u42 e42 d42
    have k47 := k_r5Monic d42 (ha38.ext e42).raw (by omega) (by omega)
    with_reducible refine Post.mono k47 ?_
    clear k47
    rintro _ u45 g46 ⟨y43, rfl, h44⟩
    have hly43 := h44.len
    refine sy_pure 2 (.v (.slice y43.a y43.n y43.c)) ?_
    refine sy_next 23 [(2, .v (.slice y43.a y43.n y43.c))] [] ?_
    refine sw_ret (ret0 [.slice y43.a y43.n y43.c] ⟨res_tmp, trivial⟩ fun u48 e49 => ?_)
    rw [Nt.Pol.mk_l] at eq38 el38
    obtain ⟨er, ep⟩ := Nt.div_exact eq38 el38 hg30.l
    rw [Nt.mk_trim] at ep
    refine ⟨y43, _, rfl, PolN.more (K := (2 * (Nt.dg ((A + (N + 1) * (H + 1))) + (Nt.dg H) + 2) + 8)) (h44.ext e49) (by omega), .inr ⟨hp0, g28, q38, ?_, hgn, ep, by rw [Nt.Pol.mk_l]⟩⟩
    have h9 := hg30
    rw [Nt.mk_trim, Nt.mk_trim, Nt.Pol.mk_D, Nt.mk_trim] at h9
    exact h9
end Go.Proofs.YtnedhbidmfoegaaGreat
namespace Go.Proofs.YtnedhbidmfoegaaGreat.Nt
open Go.RowKit
open Pol
set_option linter.unusedVariables false
def cosQ (n : Int) : Rat := ((n % 25 - 12 : Int) : Rat) / ((12 : Int) : Rat)
theorem cosQ_wh (n : Int) : Wh (cosQ n * (((12 : Nat) : Int) : Rat)) 4 := by
  have h1 := Int.emod_nonneg n (show (25 : Int) ≠ 0 by decide)
  have h2 := Int.emod_lt_of_pos n (show (0 : Int) < 25 by decide)
  unfold cosQ
  refine ⟨n % 25 - 12, ?_, ?_⟩
  · have h3 := frac_mul (a := n % 25 - 12) (b := 12) (c := 1) (by decide)
    rw [Int.mul_one, Int.mul_one] at h3
    exact h3
  · have : (n % 25 - 12).natAbs ≤ 12 := by omega
    exact Nat.le_trans this (by decide)
theorem cosQ_rs (n : Int) : rs (cosQ n) ≤ 1 := wh_rs (A := 4) (by omega) (cosQ_wh n) (by decide)
def RSz (l : List Rat) (j : Nat) : Prop := l.length ≤ 1 + j ∧ ∃ D, D ≤ 2 ^ (2 + 6 * j) ∧ Sm l D (2 + 6 * j)
theorem RSz.more {l : List Rat} {i j : Nat} (h : RSz l i) (k : i ≤ j) : RSz l j := by
  obtain ⟨h1, D, h2, h3⟩ := h
  exact ⟨by omega, D, Nat.le_trans h2 (Nat.pow_le_pow_right (by omega) (by omega)), h3.more (by omega)⟩
theorem RSz.one {z : Nat} (hz : z < 3) : RSz [(((1 + z : Nat) : Int) : Rat)] 0 :=
  ⟨by simp, 1, by decide, Sm.ofAll (by omega) (fun x hx => by
    rw [List.mem_singleton.1 hx, show ((((1 : Nat) : Int)) : Rat) = 1 from rfl, Rat.mul_one]
    exact whNat (by omega))⟩
theorem RSz.neg {l : List Rat} {j : Nat} (h : RSz l j) : RSz (trimQ (l.map (· * (((-1) : Int) : Rat)))) j := by
  obtain ⟨h1, D, h2, h3⟩ := h
  refine ⟨map_lenQ h1, D, h2, Sm.trim ⟨h3.1, fun i => ?_⟩⟩
  rw [co_map (fun x => x * (((-1) : Int) : Rat)) (Rat.zero_mul _)]
  obtain ⟨z, hz, hb⟩ := h3.2 i
  refine ⟨-z, ?_, by rw [Int.natAbs_neg]; exact hb⟩
  rw [Rat.intCast_neg (a := z), ← hz]
  have e1 : (((-1) : Int) : Rat) = -1 := by decide +kernel
  rw [e1]; grind
theorem lin_sm {r : Rat} (h : Wh (r * (((12 : Nat) : Int) : Rat)) 4) : Sm [-r, ((1 : Int) : Rat)] 12 4 := Sm.ofAll (by omega) (fun x hx => by
  rcases List.mem_cons.1 hx with rfl | hx
  · obtain ⟨z, hz, hb⟩ := h
    exact ⟨-z, by rw [Rat.intCast_neg, ← hz]; grind, by rw [Int.natAbs_neg]; exact hb⟩
  · rw [List.mem_singleton.1 hx]
    exact ⟨12, by decide +kernel, by decide⟩)
theorem RSz.lin {l : List Rat} {j : Nat} {r : Rat} (h : RSz l j) (hr : Wh (r * (((12 : Nat) : Int) : Rat)) 4) : RSz (trimQ (mulQ l [-r, ((1 : Int) : Rat)])) (j + 1) := by
  obtain ⟨h1, D, h2, h3⟩ := h
  refine ⟨Nat.le_trans (mul_lenQ h1 (Nat.le_refl _)) (by simp; omega), D * 12, ?_, ((h3.mulR (lin_sm hr)).trim).more (by simp; omega)⟩
  rw [show 2 + 6 * (j + 1) = (2 + 6 * j) + 6 by omega, Nat.pow_add]
  exact Nat.mul_le_mul h2 (by decide)
theorem quad_wh {z : Nat} (hz : z < 4) : Wh ((((((1 + z : Nat) : Int)) : Rat) / ((16 : Int) : Rat)) * (((16 : Nat) : Int) : Rat)) 4 := by
  have h3 := frac_mul (a := ((1 + z : Nat) : Int)) (b := 16) (c := 1) (by decide)
  rw [Int.mul_one, Int.mul_one] at h3
  exact ⟨_, h3, by simp; omega⟩
def RFin (l : List Rat) : Prop := l.length ≤ 12 ∧ ∃ D, D ≤ 2 ^ 63 ∧ Sm l D 63
theorem RSz.fin {l : List Rat} (h : RSz l 9) : RFin l := by
  obtain ⟨h1, D, h2, h3⟩ := h
  exact ⟨by omega, D, Nat.le_trans h2 (by decide), h3.more (by decide)⟩
theorem RSz.quad {l : List Rat} {t : Rat} (h : RSz l 9) (ht : Wh (t * (((16 : Nat) : Int) : Rat)) 4) : RFin (trimQ (mulQ l [t, ((0 : Int) : Rat), ((1 : Int) : Rat)])) := by
  obtain ⟨h1, D, h2, h3⟩ := h
  have hq : Sm [t, ((0 : Int) : Rat), ((1 : Int) : Rat)] 16 4 := Sm.ofAll (by omega) (fun x hx => by
    rcases List.mem_cons.1 hx with rfl | hx
    · exact ht
    · rcases List.mem_cons.1 hx with rfl | hx
      · exact ⟨0, by decide +kernel, by decide⟩
      · rw [List.mem_singleton.1 hx]
        exact ⟨16, by decide +kernel, by decide⟩)
  refine ⟨Nat.le_trans (mul_lenQ h1 (Nat.le_refl _)) (by simp), D * 16, ?_, ((h3.mulR hq).trim).more (by simp)⟩
  exact Nat.le_trans (Nat.mul_le_mul_right _ h2) (by decide)
end Go.Proofs.YtnedhbidmfoegaaGreat.Nt
namespace Go.Proofs.YtnedhbidmfoegaaGreat
open Go.RowKit
set_option linter.unusedVariables false
def tpc (x : Sl) (a : Nat) : List Value := [.slice x.a x.n x.c, .int .i64 (a : Int)]
set_option maxHeartbeats 2000000 in
theorem k_tapeNext {u w : World} {g : Nat} {x : Sl} {l : List Int} {a m : Nat} (d : Dat u w) (hg : w.heap[g]? = some (.cells (tpc x a).toArray 100 (0, 0))) (hu : u.heap[g]? = some hidO) (hx : SlR .i64 u x.a x.n x.c l) (hb : ∀ z ∈ l, -9223372036854775808 ≤ z ∧ z ≤ 9223372036854775807) (ha : a ≤ x.n) (hm : 1 ≤ m) (hm9 : m ≤ 1000) : Calls Tryz.prog 119 #[.pointer (some ⟨g, 0, none⟩), .int .i64 (m : Int)] w (PostP u w g fun v V u' => ∃ z a' : Nat, v = .int .i64 (z : Int) ∧ z < m ∧ V = ⟨100, tpc x a'⟩ ∧ a' ≤ x.n) := by
  have hlen : l.length = x.n := hx.1
  have hmx : x.n ≤ maxLen := Nat.le_trans hx.2.1 hx.2.2.1
  unfold maxLen at hmx
  refine calls_lentP (args := [.int .i64 (m : Int)]) Tryz.func119 rfl Tryz.ntmps119 Tryz.results119 (le_b rfl) d hg hu ?_
  refine sw_seq ?_
  refine sw_reg ?_
  refine sy_pure 4 (.v (.int .i64 0)) ?_
  refine sy_next 35 [(0, .adr 35 0), (1, .v (.int .i64 (m : Int)))] [(35, ⟨100, [.slice x.a x.n x.c, .int .i64 (a : Int)]⟩)] ?_
  refine sw_seq ?_
  refine sw_seq ?_
  refine sw_any [0, 1, 3, 7, 0, 16, 48, 112, 240, 511] [(0, []), (1, []), (2, []), (3, []), (4, []), (5, []), (6, []), (7, []), (8, []), (9, [])] (by kernel_rfl) (by kernel_rfl) ?_
  refine sy_pure 5 (.adr 35 0) ?_
  refine sy_pure 6 (.adr 35 0) ?_
  refine sy_pure 7 (.adr 35 1) ?_
  refine sy_ldv 8 (.v (.int .i64 (a : Int))) ty3 part_one ?_
  refine sy_pure 9 (.adr 35 0) ?_
  refine sy_pure 10 (.adr 35 0) ?_
  refine sy_pure 11 (.adr 35 0) ?_
  refine sy_ldv 12 (.v (.slice x.a x.n x.c)) ty42 part_one ?_
  refine sy_pure 13 (.v (.int .i64 (x.n : Int))) ?_
  refine sy_pure 14 (.v (.bool (decide ((x.n : Int) ≤ (a : Int))))) ?_
  refine sy_next 35 [(0, .adr 35 0), (1, .v (.int .i64 (m : Int))), (14, .v (.bool (decide ((x.n : Int) ≤ (a : Int)))))] [(35, ⟨100, [.slice x.a x.n x.c, .int .i64 (a : Int)]⟩)] ?_
  refine sw_cond (b := decide ((x.n : Int) ≤ (a : Int))) (by kernel_rfl) (fun hb11 => ?_) (fun hb11 => ?_)
  · replace hb11 : (decide ((x.n : Int) ≤ (a : Int))) = true := hb11
    have qhb11 := of_decide_eq_true hb11
    refine sw_seq ?_
    refine sw_reg ?_
    refine sy_pure 4 (.v (.int .i64 0)) ?_
    refine sy_next 35 [(4, .v (.int .i64 0))] [(35, ⟨100, [.slice x.a x.n x.c, .int .i64 (a : Int)]⟩)] ?_
    refine sw_ret (mpr_seq (lentP_ret (V := ⟨100, [.slice x.a x.n x.c, .int .i64 (a : Int)]⟩) (.int .i64 0) rfl rfl res_tmp (fun _ _ => ⟨0, a, rfl, (by omega), rfl, ha⟩)))
  · replace hb11 : (decide ((x.n : Int) ≤ (a : Int))) = false := hb11
    have qhb11 := of_decide_eq_false hb11
    refine sw_skip (mp_seq ?_)
    refine sw_seq ?_
    refine sw_reg ?_
    refine sy_pure 15 (.adr 35 0) ?_
    refine sy_pure 16 (.adr 35 0) ?_
    refine sy_pure 17 (.adr 35 1) ?_
    refine sy_ldv 18 (.v (.int .i64 (a : Int))) ty3 part_one ?_
    refine sy_eq 19 (x := .v (.int .i64 (IntKind.i64.wrap ((a : Int) + 1)))) (.v (.int .i64 ((a + 1 : Nat) : Int))) (eqI (by rw [IntWalk.i64_in _ (by omega)]; omega)) ?_
    refine sy_pure 20 (.adr 35 0) ?_
    refine sy_pure 21 (.adr 35 1) ?_
    refine sy_store ⟨100, [.slice x.a x.n x.c, .int .i64 ((a + 1 : Nat) : Int)]⟩ ty3 ?_
    refine sy_next 35 [(0, .adr 35 0), (1, .v (.int .i64 (m : Int)))] [(35, ⟨100, [.slice x.a x.n x.c, .int .i64 ((a + 1 : Nat) : Int)]⟩)] ?_
    refine sw_seq ?_
    refine sw_any [0, 1, 3, 7, 0, 16, 48, 112, 240, 511, 1023, 0, 4095, 8191] [(0, []), (1, []), (2, []), (3, []), (4, []), (5, []), (6, []), (7, []), (8, []), (9, []), (10, []), (11, []), (12, []), (13, [])] (by kernel_rfl) (by kernel_rfl) ?_
    refine sy_pure 22 (.adr 35 0) ?_
    refine sy_pure 23 (.adr 35 0) ?_
    refine sy_pure 24 (.adr 35 0) ?_
    refine sy_ldv 25 (.v (.slice x.a x.n x.c)) ty42 part_one ?_
    refine sy_pure 26 (.adr 35 0) ?_
    refine sy_pure 27 (.adr 35 0) ?_
    refine sy_pure 28 (.adr 35 1) ?_
    refine sy_ldv 29 (.v (.int .i64 ((a + 1 : Nat) : Int))) ty3 part_one ?_
    refine sy_eq 30 (x := .v (.int .i64 (IntKind.i64.wrap (((a + 1 : Nat) : Int) - 1)))) (.v (.int .i64 (((a + 1) - 1 : Nat) : Int))) (eqI (by rw [IntWalk.i64_in _ (by omega)]; omega)) ?_
    have hl12 := (hx).1
    obtain ⟨b12, o12, hA12, hc12⟩ := ints_at hx (i := (a + 1) - 1) (by omega)
    have hz12 := ints_bd hb (by omega) ((a + 1) - 1)
    refine sy_index 31 (o12 + ((a + 1) - 1) * 1) (n := x.n) (off := o12) (sz := 1) (i := (((a + 1) - 1 : Nat) : Int)) (by omega) hA12 (by omega) (by omega) sl42 ?_
    refine sy_ld1 32 (.int .i64 (l.getD ((a + 1) - 1) 0)) hc12 ty3 ?_
    refine sy_pure 33 (.v (.int .i64 (m : Int))) ?_
    refine sy_call 34 50 [.int .i64 (l.getD ((a + 1) - 1) 0), .int .i64 (m : Int)] ?_
    intro w13 u13 e13 d13
    have k16 := k_Mod d13 (n := (l.getD ((a + 1) - 1) 0)) (m := (m : Int)) (by omega) (by omega) (by omega) (by omega)
    with_reducible refine Post.mono k16 ?_
    clear k16
    rintro _ u14 g15 rfl
    obtain ⟨zz, hz1⟩ : ∃ zz : Nat, (zz : Int) = (l.getD ((a + 1) - 1) 0) % (m : Int) := ⟨((l.getD ((a + 1) - 1) 0) % (m : Int)).toNat, by have h9 := Int.emod_nonneg ((l.getD ((a + 1) - 1) 0)) (show (m : Int) ≠ 0 by omega); omega⟩
    have hz2 : zz < m := by have h9 := Int.emod_lt_of_pos ((l.getD ((a + 1) - 1) 0)) (show (0 : Int) < (m : Int) by omega); omega
    have hzz : Value.int .i64 ((l.getD ((a + 1) - 1) 0) % (m : Int)) = .int .i64 (zz : Int) := by rw [hz1]
    refine sy_pure 4 (.v (.int .i64 ((l.getD ((a + 1) - 1) 0) % (m : Int)))) ?_
    refine sy_next 35 [(4, .v (.int .i64 ((l.getD ((a + 1) - 1) 0) % (m : Int))))] [(35, ⟨100, [.slice x.a x.n x.c, .int .i64 ((a + 1 : Nat) : Int)]⟩)] ?_
    refine sw_ret (lentP_ret (V := ⟨100, [.slice x.a x.n x.c, .int .i64 ((a + 1 : Nat) : Int)]⟩) (.int .i64 ((l.getD ((a + 1) - 1) 0) % (m : Int))) rfl rfl res_tmp (fun _ _ => ⟨zz, (a + 1), hzz, hz2, rfl, (by omega)⟩))
theorem k_cos {u w : World} {n : Int} (d : Dat u w) (hn0 : -9223372036854775808 ≤ n) (hn1 : n ≤ 9223372036854775807) : Calls Tryz.prog 120 #[.int .i64 n] w (Post u w fun v u' => ∃ r : RL, v = r.v ∧ RatN u' r (Nt.cosQ n) 1) := by
  refine calls_sym (args := [.int .i64 n]) Tryz.func120 rfl Tryz.ntmps120 (rs := [.cell 2 26]) Tryz.results120 (le_b rfl) (le_b rfl) d ?_
  refine sw_seq ?_
  refine sw_reg ?_
  refine sy_new 2 ⟨26, [.bool false, .slice none 0 0, .slice none 0 0]⟩ ?_
  refine sy_next 7 [(0, .v (.int .i64 n)), (2, .adr 2 0)] [(2, ⟨26, [.bool false, .slice none 0 0, .slice none 0 0]⟩)] ?_
  refine sw_seq ?_
  refine sw_reg ?_
  refine sy_pure 3 (.v (.int .i64 n)) ?_
  refine sy_call 4 50 [.int .i64 n, .int .i64 25] ?_
  intro w11 u11 e11 d11
  have k14 := k_Mod d11 (n := n) (m := 25) (by omega) (by omega) (by omega) (by omega)
  with_reducible refine Post.mono k14 ?_
  clear k14
  rintro _ u12 g13 rfl
  refine sy_eq 5 (x := .v (.int .i64 (IntKind.i64.wrap ((n % 25) - 12)))) (.v (.int .i64 ((n % 25) - 12))) (by rw [IntWalk.i64_in _ (by omega)]) ?_
  refine sy_call 6 49 [.int .i64 ((n % 25) - 12), .int .i64 12] ?_
  intro w15 u15 e15 d15
  have k20 := k_rqFrac d15 (a := (n % 25) - 12) (b := 12) (by omega) (by omega) (by omega) (by omega)
  with_reducible refine Post.mono k20 ?_
  clear k20
  rintro _ u18 g19 ⟨r16, rfl, h17⟩
  refine sy_store ⟨26, r16.cs⟩ ty26 ?_
  refine sy_next 7 [(2, .adr 2 0)] [(2, ⟨26, r16.cs⟩)] ?_
  refine sw_ret (ret0 [r16.v] ⟨res_cell ty26 part_agg, trivial⟩ fun u21 e22 => ?_)
  refine ⟨r16, rfl, RatN.fit (K := 3) ?_ (Nt.cosQ_rs n)⟩
  exact (h17.ext e22)
theorem pol_at_eq {u : World} {x : Sl} {L : List RL} {r : RL} {b o i : Nat} (hS : SlC u x (rcs L)) (hA : x.a = some ⟨b, o, none⟩) (hi : i < L.length) (hc : ∀ j, j < r.cs.length → u.cell? ⟨b, o + i * 3 + j, none⟩ = r.cs[j]?) : r = L.getD i rl0 := by
  obtain ⟨h1, h2, h3, h4⟩ := hS
  rw [rcs_len] at h1
  obtain ⟨b2, o2, e, h5⟩ := h4 (by omega)
  rw [hA] at e
  injection e with e
  injection e with e1 e2 e3
  subst e1 e2
  have key : ∀ j, j < 3 → r.cs[j]? = (L.getD i rl0).cs[j]? := fun j hj => by
    rw [← hc j hj, ← rcs_ix hi hj, Nat.add_assoc]
    exact h5 (i * 3 + j) (by rw [rcs_len]; omega)
  have k0 := key 0 (by omega)
  have k1 := key 1 (by omega)
  have k2 := key 2 (by omega)
  revert k0 k1 k2
  generalize L.getD i rl0 = s
  intro k0 k1 k2
  obtain ⟨rs, ⟨ra, rn, rc⟩, ⟨rda, rdn, rdc⟩⟩ := r
  obtain ⟨ss, ⟨sa, sn, sc⟩, ⟨sda, sdn, sdc⟩⟩ := s
  simp [RL.cs] at k0 k1 k2
  simp_all
set_option maxHeartbeats 2000000 in
theorem k_smallPoly {u w : World} {x : Sl} {l : List Rat} {K : Nat} (d : Dat u w) (hx : PolV u x l K) : Calls Tryz.prog 25 #[x.v] w (Post u w fun v u' => (v = .bool true ∧ l.length ≤ 8 ∧ PolV u x l 2) ∨ v = .bool false) := by
  have hlen := hx.len
  obtain ⟨L, hS, hR⟩ := id hx
  have hLl := hR.1
  have hmx := hx.max
  unfold maxLen at hmx
  refine calls_sym (args := [.slice x.a x.n x.c]) Tryz.func25 rfl Tryz.ntmps25 (rs := [.tmp 2]) Tryz.results25 (le_b rfl) (le_b rfl) d ?_
  refine sw_seq ?_
  refine sw_reg ?_
  refine sy_pure 2 (.v (.bool false)) ?_
  refine sy_next 26 [(0, .v (.slice x.a x.n x.c))] [] ?_
  refine sw_seq ?_
  refine sw_seq ?_
  refine sw_reg ?_
  refine sy_pure 5 (.v (.slice x.a x.n x.c)) ?_
  refine sy_pure 6 (.v (.int .i64 (x.n : Int))) ?_
  refine sy_pure 7 (.v (.bool (decide ((8 : Int) < (x.n : Int))))) ?_
  refine sy_next 26 [(0, .v (.slice x.a x.n x.c)), (7, .v (.bool (decide ((8 : Int) < (x.n : Int)))))] [] ?_
  refine sw_cond (b := decide ((8 : Int) < (x.n : Int))) (by kernel_rfl) (fun hb11 => ?_) (fun hb11 => ?_)
  · replace hb11 : (decide ((8 : Int) < (x.n : Int))) = true := hb11
    have qhb11 := of_decide_eq_true hb11
    refine sw_seq ?_
    refine sw_reg ?_
    refine sy_pure 2 (.v (.bool false)) ?_
    refine sy_next 26 [(2, .v (.bool false))] [] ?_
    refine sw_ret (mpr_seq (ret0 [.bool false] ⟨res_tmp, trivial⟩ fun u12 e13 => ?_))
    exact .inr rfl
  · replace hb11 : (decide ((8 : Int) < (x.n : Int))) = false := hb11
    have qhb11 := of_decide_eq_false hb11
    refine sw_skip (mp_seq ?_)
    refine sw_seq ?_
    refine sw_seq ?_
    refine sw_reg ?_
    refine sy_pure 8 (.v (.slice x.a x.n x.c)) ?_
    refine sy_pure 9 (.v (.int .i64 (x.n : Int))) ?_
    refine sy_pure 10 (.v (.int .i64 0)) ?_
    refine sy_next 26 [(8, .v (.slice x.a x.n x.c)), (9, .v (.int .i64 (x.n : Int))), (10, .v (.int .i64 0))] [] ?_
    refine sw_block ?_
    refine sw_loop (I := fun m14 S' u' => ∃ (i : Nat), (m14 = x.n - i) ∧ (i ≤ x.n) ∧ (∀ j, j < i → (L.getD j rl0).m.n ≤ 2 ∧ (L.getD j rl0).d.n ≤ 2) ∧ (S' = St.of 26 [(8, .v (.slice x.a x.n x.c)), (9, .v (.int .i64 (x.n : Int))), (10, .v (.int .i64 (i : Int)))] []) ∧ (Ext u u')) (fun m S u1 u2 e h => by obtain ⟨i, hm, p0, p1, hS, hE⟩ := h; exact ⟨i, hm, p0, p1, hS, hE.trans e⟩) _ (T := St.of 26 [(8, .v (.slice x.a x.n x.c)), (9, .v (.int .i64 (x.n : Int))), (10, .v (.int .i64 0))] []) (by exact weak_mk _ _ _) ⟨0, rfl, by omega, fun j hj => absurd hj (Nat.not_lt_zero j), rfl, Ext.refl _⟩ ?_
    rintro m14 _ u14 ⟨i, hm14, hi, hz, rfl, e14⟩
    refine sw_seq ?_
    refine sw_reg ?_
    refine sy_pure 11 (.v (.bool (decide ((i : Int) < (x.n : Int))))) ?_
    refine sy_next 26 [(8, .v (.slice x.a x.n x.c)), (9, .v (.int .i64 (x.n : Int))), (10, .v (.int .i64 (i : Int))), (11, .v (.bool (decide ((i : Int) < (x.n : Int)))))] [] ?_
    refine sw_seq ?_
    refine sw_cond (b := decide ((i : Int) < (x.n : Int))) (by kernel_rfl) (fun hb15 => ?_) (fun hb15 => ?_)
    · replace hb15 : (decide ((i : Int) < (x.n : Int))) = true := hb15
      have qhb15 := of_decide_eq_true hb15
      refine sw_skip (mp_seq ?_)
      refine sw_seq ?_
      refine sw_block ?_
      refine sw_seq ?_
      refine sw_reg ?_
      have hl16 := (hx.ext e14).len
      obtain ⟨r16, b16, o16, hA16, hc16, hr16⟩ := pol_at (hx.ext e14) (i := i) (by omega)
      refine sy_index 12 (o16 + i * 3) (n := x.n) (off := o16) (sz := 3) (i := (i : Int)) (by omega) hA16 (by omega) (by omega) sl41 ?_
      refine sy_ldn 13 r16.cs hc16 ty26 ?_
      refine sy_new 4 ⟨26, [.bool false, .slice none 0 0, .slice none 0 0]⟩ ?_
      refine sy_store ⟨26, r16.cs⟩ ty26 ?_
      refine sy_next 26 [(4, .adr 4 0), (8, .v (.slice x.a x.n x.c)), (9, .v (.int .i64 (x.n : Int))), (10, .v (.int .i64 (i : Int)))] [(4, ⟨26, r16.cs⟩)] ?_
      refine sw_seq ?_
      have hre := pol_at_eq (hS.ext e14) hA16 (by omega) hc16
      refine sw_reg ?_
      refine sy_pure 14 (.adr 4 0) ?_
      refine sy_pure 15 (.adr 4 1) ?_
      refine sy_ldv 16 (.v (.slice r16.m.a r16.m.n r16.m.c)) ty22 part_one ?_
      refine sy_pure 17 (.v (.int .i64 (r16.m.n : Int))) ?_
      refine sy_pure 18 (.v (.bool (decide ((2 : Int) < (r16.m.n : Int))))) ?_
      rcases Bool.eq_false_or_eq_true (decide ((2 : Int) < (r16.m.n : Int))) with hs17 | hs17
      · refine sy_eq 19 (x := .v (.bool (decide ((2 : Int) < (r16.m.n : Int))))) (.v (.bool true)) (by rw [hs17]) ?_
        have qhs17 := of_decide_eq_true hs17
        refine sy_drop 20 (uw 5 false true 19) ?_
        refine sy_drop 21 (uw 5 false true 19) ?_
        refine sy_drop 22 (uw 5 false true 19) ?_
        refine sy_drop 23 (uw 5 false true 19) ?_
        refine sy_pure 24 (.v (.bool true)) ?_
        refine sy_next 26 [(8, .v (.slice x.a x.n x.c)), (9, .v (.int .i64 (x.n : Int))), (10, .v (.int .i64 (i : Int))), (24, .v (.bool true))] [] ?_
        refine sw_true (by kernel_rfl) ?_
        refine sw_seq ?_
        refine sw_reg ?_
        refine sy_pure 2 (.v (.bool false)) ?_
        refine sy_next 26 [(2, .v (.bool false))] [] ?_
        refine sw_ret (mpr_block (mpr_seq (mpr_loop (mpr_block (mpr_seq (ret0 [.bool false] ⟨res_tmp, trivial⟩ fun u18 e19 => ?_))))))
        exact .inr rfl
      · refine sy_eq 19 (x := .v (.bool (decide ((2 : Int) < (r16.m.n : Int))))) (.v (.bool false)) (by rw [hs17]) ?_
        have qhs17 := of_decide_eq_false hs17
        refine sy_pure 20 (.adr 4 2) ?_ (hw := w1 5 false 19)
        refine sy_ldv 21 (.v (.slice r16.d.a r16.d.n r16.d.c)) ty22 part_one ?_ (hw := w1 5 false 19)
        refine sy_pure 22 (.v (.int .i64 (r16.d.n : Int))) ?_ (hw := w1 5 false 19)
        refine sy_pure 23 (.v (.bool (decide ((2 : Int) < (r16.d.n : Int))))) ?_ (hw := w1 5 false 19)
        refine sy_pure 24 (.v (.bool (decide ((2 : Int) < (r16.d.n : Int))))) ?_
        refine sy_next 26 [(8, .v (.slice x.a x.n x.c)), (9, .v (.int .i64 (x.n : Int))), (10, .v (.int .i64 (i : Int))), (24, .v (.bool (decide ((2 : Int) < (r16.d.n : Int)))))] [] ?_
        refine sw_cond (b := decide ((2 : Int) < (r16.d.n : Int))) (by kernel_rfl) (fun hb20 => ?_) (fun hb20 => ?_)
        · replace hb20 : (decide ((2 : Int) < (r16.d.n : Int))) = true := hb20
          have qhb20 := of_decide_eq_true hb20
          refine sw_seq ?_
          refine sw_reg ?_
          refine sy_pure 2 (.v (.bool false)) ?_
          refine sy_next 26 [(2, .v (.bool false))] [] ?_
          refine sw_ret (mpr_block (mpr_seq (mpr_loop (mpr_block (mpr_seq (ret0 [.bool false] ⟨res_tmp, trivial⟩ fun u21 e22 => ?_))))))
          exact .inr rfl
        · replace hb20 : (decide ((2 : Int) < (r16.d.n : Int))) = false := hb20
          have qhb20 := of_decide_eq_false hb20
          refine sw_skip (mp_seq ?_)
          refine sw_reg ?_
          refine sy_eq 25 (x := .v (.int .i64 (IntKind.i64.wrap ((i : Int) + 1)))) (.v (.int .i64 ((i + 1 : Nat) : Int))) (eqI (by rw [IntWalk.i64_in _ (by omega)]; omega)) ?_
          refine sy_pure 10 (.v (.int .i64 ((i + 1 : Nat) : Int))) ?_
          refine sy_end ?_
          refine ⟨_, ?_, St.of 26 [(8, .v (.slice x.a x.n x.c)), (9, .v (.int .i64 (x.n : Int))), (10, .v (.int .i64 ((i + 1 : Nat) : Int)))] [], by exact weak_mk _ _ _, i + 1, rfl, by omega, (fun j hj => by by_cases e : j = i; (rw [e, ← hre]; exact ⟨by omega, by omega⟩); exact hz j (by omega)), rfl, e14⟩
          omega
    · replace hb15 : (decide ((i : Int) < (x.n : Int))) = false := hb15
      have qhb15 := of_decide_eq_false hb15
      refine sw_exit ?_
      refine mp_seq ?_
      refine sw_seq ?_
      refine sw_reg ?_
      refine sy_pure 2 (.v (.bool true)) ?_
      refine sy_next 26 [(2, .v (.bool true))] [] ?_
      refine sw_ret (ret0 [.bool true] ⟨res_tmp, trivial⟩ fun u23 e24 => ?_)
      exact .inl ⟨rfl, by omega, L, hS, hR.1, fun i hi => (hR.2 i hi).few (hz i (by omega)).1 (hz i (by omega)).2 (by decide)⟩
end Go.Proofs.YtnedhbidmfoegaaGreat
