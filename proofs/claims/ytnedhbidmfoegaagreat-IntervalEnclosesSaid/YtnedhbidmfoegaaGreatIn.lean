/- Contracts of integer. Printed by wip/sym/g_int.py. -/
import Derived.Test.YtnedhbidmfoegaaGreatQ
import Derived.Test.YtnedhbidmfoegaaGreatFw
import Derived.Test.YtnedhbidmfoegaaGreatTy
namespace Go.Proofs.YtnedhbidmfoegaaGreat
open Go.RowKit
set_option linter.unusedVariables false
theorem k_signed {u w : World} {s : Bool} {x : Sl} {N K : Nat} (d : Dat u w) (h : NatN u x N K) : Calls Tryz.prog 180 #[.bool s, x.v] w (Post u w fun v u' => ∃ i : IL, v = i.v ∧ IntN u' i (Nt.sg s N) K) := by
  refine calls_sym (args := [.bool s, .slice x.a x.n x.c]) Tryz.func180 rfl Tryz.ntmps180 (rs := [.cell 4 24]) Tryz.results180 (le_b rfl) (le_b rfl) d ?_
  refine sw_seq ?_
  refine sw_reg ?_
  refine sy_new 4 ⟨24, [.bool false, .slice none 0 0]⟩ ?_
  refine sy_next 13 [(0, .v (.bool s)), (1, .v (.slice x.a x.n x.c)), (4, .adr 4 0)] [(4, ⟨24, [.bool false, .slice none 0 0]⟩)] ?_
  refine sw_seq ?_
  refine sw_reg ?_
  refine sy_pure 5 (.v (.bool s)) ?_
  rcases Bool.eq_false_or_eq_true s with hs11 | hs11
  · refine sy_eq 6 (x := .v (.bool s)) (.v (.bool true)) (by rw [hs11]) ?_
    refine sy_pure 7 (.v (.slice x.a x.n x.c)) ?_ (hw := wants1 (g := 1) (b := true) (t := 6) (by kernel_rfl) (by kernel_rfl) (by kernel_rfl))
    refine sy_pure 8 (.v (.int .i64 (x.n : Int))) ?_ (hw := wants1 (g := 1) (b := true) (t := 6) (by kernel_rfl) (by kernel_rfl) (by kernel_rfl))
    refine sy_pure 9 (.v (.bool (decide ((0 : Int) < (x.n : Int))))) ?_ (hw := wants1 (g := 1) (b := true) (t := 6) (by kernel_rfl) (by kernel_rfl) (by kernel_rfl))
    refine sy_pure 10 (.v (.bool (decide ((0 : Int) < (x.n : Int))))) ?_
    refine sy_pure 11 (.v (.slice x.a x.n x.c)) ?_
    refine sy_pure 12 (.v (.agg #[.bool (decide ((0 : Int) < (x.n : Int))), .slice x.a x.n x.c])) ?_
    refine sy_store ⟨24, [.bool (decide ((0 : Int) < (x.n : Int))), .slice x.a x.n x.c]⟩ ty24 ?_
    refine sy_next 13 [(4, .adr 4 0)] [(4, ⟨24, [.bool (decide ((0 : Int) < (x.n : Int))), .slice x.a x.n x.c]⟩)] ?_
    refine sw_ret (ret0 [.agg #[.bool (decide ((0 : Int) < (x.n : Int))), .slice x.a x.n x.c]] ⟨res_cell ty24 part_agg, trivial⟩ fun u12 e13 => ?_)
    rw [hs11]
    exact ⟨⟨_, x⟩, rfl, signed_int (s := true) (h.ext e13)⟩
  · refine sy_eq 6 (x := .v (.bool s)) (.v (.bool false)) (by rw [hs11]) ?_
    refine sy_drop 7 (unwanted (g := 1) (b := true) (c := false) (t := 6) (by kernel_rfl) (by kernel_rfl) (by kernel_rfl) (by kernel_rfl)) ?_
    refine sy_drop 8 (unwanted (g := 1) (b := true) (c := false) (t := 6) (by kernel_rfl) (by kernel_rfl) (by kernel_rfl) (by kernel_rfl)) ?_
    refine sy_drop 9 (unwanted (g := 1) (b := true) (c := false) (t := 6) (by kernel_rfl) (by kernel_rfl) (by kernel_rfl) (by kernel_rfl)) ?_
    refine sy_pure 10 (.v (.bool false)) ?_
    refine sy_pure 11 (.v (.slice x.a x.n x.c)) ?_
    refine sy_pure 12 (.v (.agg #[.bool false, .slice x.a x.n x.c])) ?_
    refine sy_store ⟨24, [.bool false, .slice x.a x.n x.c]⟩ ty24 ?_
    refine sy_next 13 [(4, .adr 4 0)] [(4, ⟨24, [.bool false, .slice x.a x.n x.c]⟩)] ?_
    refine sw_ret (ret0 [.agg #[.bool false, .slice x.a x.n x.c]] ⟨res_cell ty24 part_agg, trivial⟩ fun u14 e15 => ?_)
    rw [hs11]
    exact ⟨⟨_, x⟩, rfl, signed_int (s := false) (h.ext e15)⟩
theorem k_intTrim {u w : World} {i1 : IL} {zN : Int} {K : Nat} (d : Dat u w) (hi1 : IntV u i1 zN K) (hK : K ≤ 500000000) : Calls Tryz.prog 182 #[i1.v] w (Post u w fun v u' => ∃ i : IL, v = i.v ∧ IntN u' i zN K) := by
  obtain ⟨N, hN, hzN⟩ := hi1
  refine calls_sym (args := [i1.v]) Tryz.func182 rfl Tryz.ntmps182 (rs := [.cell 2 24]) Tryz.results182 (le_b rfl) (le_b rfl) d ?_
  refine sw_seq ?_
  refine sw_reg ?_
  refine sy_new 1 ⟨24, i1.cs⟩ ?_
  refine sy_new 2 ⟨24, [.bool false, .slice none 0 0]⟩ ?_
  refine sy_next 9 [(1, .adr 1 0), (2, .adr 2 0)] [(1, ⟨24, i1.cs⟩), (2, ⟨24, [.bool false, .slice none 0 0]⟩)] ?_
  refine sw_seq ?_
  refine sw_any [0, 1, 0, 4, 12, 31, 63] [(0, []), (1, []), (2, []), (3, []), (4, []), (5, []), (6, [])] (by kernel_rfl) (by kernel_rfl) ?_
  refine sy_pure 3 (.adr 1 0) ?_
  refine sy_ldv 4 (.v (.bool i1.s)) ty4 part_one ?_
  refine sy_pure 5 (.adr 1 1) ?_
  refine sy_ldv 6 (.v (.slice i1.m.a i1.m.n i1.m.c)) ty22 part_one ?_
  refine sy_call 7 183 [.slice i1.m.a i1.m.n i1.m.c] ?_
  intro w11 u11 e11 d11
  have k16 := k_natTrim d11 (hN.ext e11) (by omega)
  with_reducible refine Post.mono k16 ?_
  clear k16
  rintro _ u14 g15 ⟨x12, rfl, h13⟩
  refine sy_call 8 180 [.bool i1.s, .slice x12.a x12.n x12.c] ?_
  intro w17 u17 e17 d17
  have k22 := k_signed d17 (s := i1.s) (h13.ext e17)
  with_reducible refine Post.mono k22 ?_
  clear k22
  rintro _ u20 g21 ⟨i18, rfl, h19⟩
  refine sy_store ⟨24, i18.cs⟩ ty24 ?_
  refine sy_next 9 [(2, .adr 2 0)] [(2, ⟨24, i18.cs⟩)] ?_
  refine sw_ret (ret0 [i18.v] ⟨res_cell ty24 part_agg, trivial⟩ fun u23 e24 => ?_)
  refine ⟨i18, rfl, IntN.more (K := K) ?_ (by omega)⟩
  rw [hzN]
  exact (h19.ext e24)
theorem k_intMul {u w : World} {i1 : IL} {zN : Int} {K : Nat} {i2 : IL} {zM : Int} {L : Nat} (d : Dat u w) (hi1 : IntV u i1 zN K) (hi2 : IntV u i2 zM L) (hK : K ≤ 500000000) (hL : L ≤ 500000000) : Calls Tryz.prog 147 #[i1.v, i2.v] w (Post u w fun v u' => ∃ i : IL, v = i.v ∧ IntN u' i (zN * zM) (K + L)) := by
  obtain ⟨N, hN, hzN⟩ := hi1
  obtain ⟨M, hM, hzM⟩ := hi2
  refine calls_sym (args := [i1.v, i2.v]) Tryz.func147 rfl Tryz.ntmps147 (rs := [.cell 4 24]) Tryz.results147 (le_b rfl) (le_b rfl) d ?_
  refine sw_seq ?_
  refine sw_reg ?_
  refine sy_new 2 ⟨24, i1.cs⟩ ?_
  refine sy_new 3 ⟨24, i2.cs⟩ ?_
  refine sy_new 4 ⟨24, [.bool false, .slice none 0 0]⟩ ?_
  refine sy_next 16 [(2, .adr 2 0), (3, .adr 3 0), (4, .adr 4 0)] [(2, ⟨24, i1.cs⟩), (3, ⟨24, i2.cs⟩), (4, ⟨24, [.bool false, .slice none 0 0]⟩)] ?_
  refine sw_seq ?_
  refine sw_any [0, 1, 0, 4, 15, 0, 32, 0, 128, 480, 1023, 2047] [(0, []), (1, []), (2, []), (3, []), (4, []), (5, []), (6, []), (7, []), (8, []), (9, []), (10, []), (11, [])] (by kernel_rfl) (by kernel_rfl) ?_
  refine sy_pure 5 (.adr 2 0) ?_
  refine sy_ldv 6 (.v (.bool i1.s)) ty4 part_one ?_
  refine sy_pure 7 (.adr 3 0) ?_
  refine sy_ldv 8 (.v (.bool i2.s)) ty4 part_one ?_
  refine sy_pure 9 (.v (.bool (!(i1.s == i2.s)))) ?_
  refine sy_pure 10 (.adr 2 1) ?_
  refine sy_ldv 11 (.v (.slice i1.m.a i1.m.n i1.m.c)) ty22 part_one ?_
  refine sy_pure 12 (.adr 3 1) ?_
  refine sy_ldv 13 (.v (.slice i2.m.a i2.m.n i2.m.c)) ty22 part_one ?_
  refine sy_call 14 155 [.slice i1.m.a i1.m.n i1.m.c, .slice i2.m.a i2.m.n i2.m.c] ?_
  intro w11 u11 e11 d11
  have k16 := k_natMul d11 (hN.ext e11) (hM.ext e11) (by omega) (by omega)
  with_reducible refine Post.mono k16 ?_
  clear k16
  rintro _ u14 g15 ⟨x12, rfl, h13⟩
  refine sy_call 15 180 [.bool (!(i1.s == i2.s)), .slice x12.a x12.n x12.c] ?_
  intro w17 u17 e17 d17
  have k22 := k_signed d17 (s := !(i1.s == i2.s)) (h13.ext e17)
  with_reducible refine Post.mono k22 ?_
  clear k22
  rintro _ u20 g21 ⟨i18, rfl, h19⟩
  refine sy_store ⟨24, i18.cs⟩ ty24 ?_
  refine sy_next 16 [(4, .adr 4 0)] [(4, ⟨24, i18.cs⟩)] ?_
  refine sw_ret (ret0 [i18.v] ⟨res_cell ty24 part_agg, trivial⟩ fun u23 e24 => ?_)
  refine ⟨i18, rfl, IntN.more (K := (K + L)) ?_ (by omega)⟩
  rw [hzN, hzM, ← Nt.sg_mul]
  exact (h19.ext e24)
theorem k_intAdd {u w : World} {i1 : IL} {zN : Int} {K : Nat} {i2 : IL} {zM : Int} {L : Nat} (d : Dat u w) (hi1 : IntV u i1 zN K) (hi2 : IntV u i2 zM L) (hK : K ≤ 500000000) (hL : L ≤ 500000000) : Calls Tryz.prog 153 #[i1.v, i2.v] w (Post u w fun v u' => ∃ i : IL, v = i.v ∧ IntN u' i (zN + zM) (max K L + 1)) := by
  obtain ⟨N, hN, hzN⟩ := hi1
  obtain ⟨M, hM, hzM⟩ := hi2
  refine calls_sym (args := [i1.v, i2.v]) Tryz.func153 rfl Tryz.ntmps153 (rs := [.cell 4 24]) Tryz.results153 (le_b rfl) (le_b rfl) d ?_
  refine sw_seq ?_
  refine sw_reg ?_
  refine sy_new 2 ⟨24, i1.cs⟩ ?_
  refine sy_new 3 ⟨24, i2.cs⟩ ?_
  refine sy_new 4 ⟨24, [.bool false, .slice none 0 0]⟩ ?_
  refine sy_next 40 [(2, .adr 2 0), (3, .adr 3 0), (4, .adr 4 0)] [(2, ⟨24, i1.cs⟩), (3, ⟨24, i2.cs⟩), (4, ⟨24, [.bool false, .slice none 0 0]⟩)] ?_
  refine sw_seq ?_
  refine sw_seq ?_
  refine sw_reg ?_
  refine sy_pure 5 (.adr 2 0) ?_
  refine sy_ldv 6 (.v (.bool i1.s)) ty4 part_one ?_
  refine sy_pure 7 (.adr 3 0) ?_
  refine sy_ldv 8 (.v (.bool i2.s)) ty4 part_one ?_
  refine sy_pure 9 (.v (.bool (i1.s == i2.s))) ?_
  refine sy_next 40 [(2, .adr 2 0), (3, .adr 3 0), (4, .adr 4 0), (9, .v (.bool (i1.s == i2.s)))] [(2, ⟨24, i1.cs⟩), (3, ⟨24, i2.cs⟩), (4, ⟨24, [.bool false, .slice none 0 0]⟩)] ?_
  refine sw_cond (b := i1.s == i2.s) (by kernel_rfl) (fun hb11 => ?_) (fun hb11 => ?_)
  · replace hb11 : (i1.s == i2.s) = true := hb11
    refine sw_seq ?_
    refine sw_any [0, 1, 0, 4, 0, 16, 60, 127, 255] [(0, []), (1, []), (2, []), (3, []), (4, []), (5, []), (6, []), (7, []), (8, [])] (by kernel_rfl) (by kernel_rfl) ?_
    refine sy_pure 10 (.adr 2 0) ?_
    refine sy_ldv 11 (.v (.bool i1.s)) ty4 part_one ?_
    refine sy_pure 12 (.adr 2 1) ?_
    refine sy_ldv 13 (.v (.slice i1.m.a i1.m.n i1.m.c)) ty22 part_one ?_
    refine sy_pure 14 (.adr 3 1) ?_
    refine sy_ldv 15 (.v (.slice i2.m.a i2.m.n i2.m.c)) ty22 part_one ?_
    refine sy_call 16 185 [.slice i1.m.a i1.m.n i1.m.c, .slice i2.m.a i2.m.n i2.m.c] ?_
    intro w12 u12 e12 d12
    have k17 := k_natAdd d12 (hN.ext e12) (hM.ext e12) (by omega) (by omega)
    with_reducible refine Post.mono k17 ?_
    clear k17
    rintro _ u15 g16 ⟨x13, rfl, h14⟩
    refine sy_call 17 180 [.bool i1.s, .slice x13.a x13.n x13.c] ?_
    intro w18 u18 e18 d18
    have k23 := k_signed d18 (s := i1.s) (h14.ext e18)
    with_reducible refine Post.mono k23 ?_
    clear k23
    rintro _ u21 g22 ⟨i19, rfl, h20⟩
    refine sy_store ⟨24, i19.cs⟩ ty24 ?_
    refine sy_next 40 [(4, .adr 4 0)] [(4, ⟨24, i19.cs⟩)] ?_
    refine sw_ret (mpr_seq (ret0 [i19.v] ⟨res_cell ty24 part_agg, trivial⟩ fun u24 e25 => ?_))
    refine ⟨i19, rfl, IntN.more (K := (max K L + 1)) ?_ (by omega)⟩
    rw [hzN, hzM, ← Nt.sg_add1 N M hb11]
    exact (h20.ext e25)
  · replace hb11 : (i1.s == i2.s) = false := hb11
    refine sw_skip (mp_seq ?_)
    refine sw_seq ?_
    refine sw_seq ?_
    refine sw_reg ?_
    refine sy_pure 18 (.adr 2 1) ?_
    refine sy_ldv 19 (.v (.slice i1.m.a i1.m.n i1.m.c)) ty22 part_one ?_
    refine sy_pure 20 (.adr 3 1) ?_
    refine sy_ldv 21 (.v (.slice i2.m.a i2.m.n i2.m.c)) ty22 part_one ?_
    refine sy_call 22 154 [.slice i1.m.a i1.m.n i1.m.c, .slice i2.m.a i2.m.n i2.m.c] ?_
    intro w26 u26 e26 d26
    have k29 := k_natCompare d26 (hN.ext e26) (hM.ext e26)
    with_reducible refine Post.mono k29 ?_
    clear k29
    rintro _ u27 g28 rfl
    refine sy_pure 23 (.v (.bool ((Nt.cmpS N M) == (-1)))) ?_
    refine sy_next 40 [(2, .adr 2 0), (3, .adr 3 0), (4, .adr 4 0), (23, .v (.bool ((Nt.cmpS N M) == (-1))))] [(2, ⟨24, i1.cs⟩), (3, ⟨24, i2.cs⟩), (4, ⟨24, [.bool false, .slice none 0 0]⟩)] ?_
    refine sw_cond (b := (Nt.cmpS N M) == (-1)) (by kernel_rfl) (fun hb30 => ?_) (fun hb30 => ?_)
    · replace hb30 : ((Nt.cmpS N M) == (-1)) = true := hb30
      refine sw_seq ?_
      refine sw_any [0, 1, 0, 4, 0, 16, 60, 127, 255] [(0, []), (1, []), (2, []), (3, []), (4, []), (5, []), (6, []), (7, []), (8, [])] (by kernel_rfl) (by kernel_rfl) ?_
      refine sy_pure 24 (.adr 3 0) ?_
      refine sy_ldv 25 (.v (.bool i2.s)) ty4 part_one ?_
      refine sy_pure 26 (.adr 3 1) ?_
      refine sy_ldv 27 (.v (.slice i2.m.a i2.m.n i2.m.c)) ty22 part_one ?_
      refine sy_pure 28 (.adr 2 1) ?_
      refine sy_ldv 29 (.v (.slice i1.m.a i1.m.n i1.m.c)) ty22 part_one ?_
      refine sy_call 30 186 [.slice i2.m.a i2.m.n i2.m.c, .slice i1.m.a i1.m.n i1.m.c] ?_
      intro w31 u31 e31 d31
      have k36 := k_natSub d31 (hM.ext (e26.trans (g28.ext.trans e31))) (hN.ext (e26.trans (g28.ext.trans e31))) (by omega) (by omega)
      with_reducible refine Post.mono k36 ?_
      clear k36
      rintro _ u34 g35 ⟨x32, rfl, h33⟩
      refine sy_call 31 180 [.bool i2.s, .slice x32.a x32.n x32.c] ?_
      intro w37 u37 e37 d37
      have k42 := k_signed d37 (s := i2.s) (h33.ext e37)
      with_reducible refine Post.mono k42 ?_
      clear k42
      rintro _ u40 g41 ⟨i38, rfl, h39⟩
      refine sy_store ⟨24, i38.cs⟩ ty24 ?_
      refine sy_next 40 [(4, .adr 4 0)] [(4, ⟨24, i38.cs⟩)] ?_
      refine sw_ret (mpr_seq (ret0 [i38.v] ⟨res_cell ty24 part_agg, trivial⟩ fun u43 e44 => ?_))
      refine ⟨i38, rfl, IntN.more (K := L) ?_ (by omega)⟩
      rw [hzN, hzM, ← Nt.sg_add2 N M hb11 hb30]
      exact (h39.ext e44)
    · replace hb30 : ((Nt.cmpS N M) == (-1)) = false := hb30
      refine sw_skip (mp_seq ?_)
      refine sw_seq ?_
      refine sw_any [0, 1, 0, 4, 0, 16, 60, 127, 255] [(0, []), (1, []), (2, []), (3, []), (4, []), (5, []), (6, []), (7, []), (8, [])] (by kernel_rfl) (by kernel_rfl) ?_
      refine sy_pure 32 (.adr 2 0) ?_
      refine sy_ldv 33 (.v (.bool i1.s)) ty4 part_one ?_
      refine sy_pure 34 (.adr 2 1) ?_
      refine sy_ldv 35 (.v (.slice i1.m.a i1.m.n i1.m.c)) ty22 part_one ?_
      refine sy_pure 36 (.adr 3 1) ?_
      refine sy_ldv 37 (.v (.slice i2.m.a i2.m.n i2.m.c)) ty22 part_one ?_
      refine sy_call 38 186 [.slice i1.m.a i1.m.n i1.m.c, .slice i2.m.a i2.m.n i2.m.c] ?_
      intro w45 u45 e45 d45
      have k50 := k_natSub d45 (hN.ext (e26.trans (g28.ext.trans e45))) (hM.ext (e26.trans (g28.ext.trans e45))) (by omega) (by omega)
      with_reducible refine Post.mono k50 ?_
      clear k50
      rintro _ u48 g49 ⟨x46, rfl, h47⟩
      refine sy_call 39 180 [.bool i1.s, .slice x46.a x46.n x46.c] ?_
      intro w51 u51 e51 d51
      have k56 := k_signed d51 (s := i1.s) (h47.ext e51)
      with_reducible refine Post.mono k56 ?_
      clear k56
      rintro _ u54 g55 ⟨i52, rfl, h53⟩
      refine sy_store ⟨24, i52.cs⟩ ty24 ?_
      refine sy_next 40 [(4, .adr 4 0)] [(4, ⟨24, i52.cs⟩)] ?_
      refine sw_ret (ret0 [i52.v] ⟨res_cell ty24 part_agg, trivial⟩ fun u57 e58 => ?_)
      refine ⟨i52, rfl, IntN.more (K := K) ?_ (by omega)⟩
      rw [hzN, hzM, ← Nt.sg_add3 N M hb11 hb30]
      exact (h53.ext e58)
theorem k_intSign {u w : World} {i1 : IL} {zN : Int} {K : Nat} (d : Dat u w) (hi1 : IntV u i1 zN K)  : Calls Tryz.prog 146 #[i1.v] w (Post u w fun v u' => v = .int .i64 (Nt.cmpS zN 0)) := by
  obtain ⟨N, hN, hzN⟩ := hi1
  refine calls_sym (args := [i1.v]) Tryz.func146 rfl Tryz.ntmps146 (rs := [.tmp 2]) Tryz.results146 (le_b rfl) (le_b rfl) d ?_
  refine sw_seq ?_
  refine sw_reg ?_
  refine sy_new 1 ⟨24, i1.cs⟩ ?_
  refine sy_pure 2 (.v (.int .i64 0)) ?_
  refine sy_next 11 [(1, .adr 1 0)] [(1, ⟨24, i1.cs⟩)] ?_
  refine sw_seq ?_
  refine sw_block ?_
  refine sw_seq ?_
  refine sw_reg ?_
  refine sy_pure 4 (.adr 1 1) ?_
  refine sy_ldv 5 (.v (.slice i1.m.a i1.m.n i1.m.c)) ty22 part_one ?_
  refine sy_call 6 154 [.slice i1.m.a i1.m.n i1.m.c, .slice none 0 0] ?_
  intro w11 u11 e11 d11
  have k14 := k_natCompare d11 (hN.ext e11) (nat_nil _ 1)
  with_reducible refine Post.mono k14 ?_
  clear k14
  rintro _ u12 g13 rfl
  refine sy_pure 7 (.v (.bool ((Nt.cmpS N 0) == 0))) ?_
  refine sy_pure 3 (.v (.bool ((Nt.cmpS N 0) == 0))) ?_
  refine sy_next 11 [(1, .adr 1 0), (3, .v (.bool ((Nt.cmpS N 0) == 0)))] [(1, ⟨24, i1.cs⟩)] ?_
  refine sw_cond (b := (Nt.cmpS N 0) == 0) (by kernel_rfl) (fun hb15 => ?_) (fun hb15 => ?_)
  · replace hb15 : ((Nt.cmpS N 0) == 0) = true := hb15
    refine sw_seq ?_
    refine sw_reg ?_
    refine sy_pure 2 (.v (.int .i64 0)) ?_
    refine sy_next 11 [(2, .v (.int .i64 0))] [] ?_
    refine sw_ret (mpr_block (mpr_seq (ret0 [.int .i64 0] ⟨res_tmp, trivial⟩ fun u16 e17 => ?_)))
    show _ = _
    rw [hzN, Nt.sg_cmp0, if_pos hb15]
    rfl
  · replace hb15 : ((Nt.cmpS N 0) == 0) = false := hb15
    refine sw_seq ?_
    refine sw_reg ?_
    refine sy_pure 9 (.adr 1 0) ?_
    refine sy_ldv 10 (.v (.bool i1.s)) ty4 part_one ?_
    refine sy_pure 8 (.v (.bool i1.s)) ?_
    refine sy_next 11 [(8, .v (.bool i1.s))] [] ?_
    refine sw_cond (b := i1.s) (by kernel_rfl) (fun hb18 => ?_) (fun hb18 => ?_)
    · replace hb18 : i1.s = true := hb18
      refine sw_seq ?_
      refine sw_reg ?_
      refine sy_pure 2 (.v (.int .i64 (-1))) ?_
      refine sy_next 11 [(2, .v (.int .i64 (-1)))] [] ?_
      refine sw_ret (mpr_block (mpr_seq (ret0 [.int .i64 (-1)] ⟨res_tmp, trivial⟩ fun u19 e20 => ?_)))
      show _ = _
      rw [hzN, Nt.sg_cmp0, if_neg (ne_true_of_eq_false hb15), if_pos hb18]
      rfl
    · replace hb18 : i1.s = false := hb18
      refine sw_skip (mp_seq ?_)
      refine sw_seq ?_
      refine sw_reg ?_
      refine sy_pure 2 (.v (.int .i64 1)) ?_
      refine sy_next 11 [(2, .v (.int .i64 1))] [] ?_
      refine sw_ret (ret0 [.int .i64 1] ⟨res_tmp, trivial⟩ fun u21 e22 => ?_)
      show _ = _
      rw [hzN, Nt.sg_cmp0, if_neg (ne_true_of_eq_false hb15), if_neg (ne_true_of_eq_false hb18)]
      rfl
namespace Nt
theorem cmp_sg (s t : Bool) (N M : Nat) : cmpS (sg s N) (sg t M) = if decide (cmpS (sg s N) 0 < cmpS (sg t M) 0) = true then -1 else if decide (cmpS (sg t M) 0 < cmpS (sg s N) 0) = true then 1 else if (cmpS (sg s N) 0 == -1) = true then cmpS (M : Int) (N : Int) else cmpS (N : Int) (M : Int) := by
  rcases cmp_range (sg s N) 0 with ⟨e, h⟩ | ⟨e, h⟩ | ⟨e, h⟩ <;> rcases cmp_range (sg t M) 0 with ⟨e', h'⟩ | ⟨e', h'⟩ | ⟨e', h'⟩ <;> rw [e, e'] <;> simp
  · unfold sg at *; cases s <;> cases t <;> simp at h h' ⊢ <;> unfold cmpS <;> (repeat' split) <;> first | rfl | omega
  · exact cmp_lt (by omega)
  · exact cmp_lt (by omega)
  · exact cmp_gt (by omega)
  · rw [h, h']; unfold sg at *; cases s <;> cases t <;> simp at h h' <;> rw [h, h'] <;> rfl
  · exact cmp_lt (by omega)
  · exact cmp_gt (by omega)
  · exact cmp_gt (by omega)
  · unfold sg at *; cases s <;> cases t <;> simp at h h' ⊢ <;> first | rfl | omega
end Nt
theorem k_intCompare {u w : World} {i1 : IL} {zN : Int} {K : Nat} {i2 : IL} {zM : Int} {L : Nat} (d : Dat u w) (hi1 : IntV u i1 zN K) (hi2 : IntV u i2 zM L)  : Calls Tryz.prog 167 #[i1.v, i2.v] w (Post u w fun v u' => v = .int .i64 (Nt.cmpS zN zM)) := by
  obtain ⟨N, hN, hzN⟩ := hi1
  obtain ⟨M, hM, hzM⟩ := hi2
  refine calls_sym (args := [i1.v, i2.v]) Tryz.func167 rfl Tryz.ntmps167 (rs := [.tmp 4]) Tryz.results167 (le_b rfl) (le_b rfl) d ?_
  refine sw_seq ?_
  refine sw_reg ?_
  refine sy_new 2 ⟨24, i1.cs⟩ ?_
  refine sy_new 3 ⟨24, i2.cs⟩ ?_
  refine sy_pure 4 (.v (.int .i64 0)) ?_
  refine sy_next 32 [(2, .adr 2 0), (3, .adr 3 0)] [(2, ⟨24, i1.cs⟩), (3, ⟨24, i2.cs⟩)] ?_
  refine sw_seq ?_
  refine sw_any [0, 1, 0, 7, 15, 31] [(0, []), (2, []), (1, []), (3, []), (4, []), (5, [])] (by kernel_rfl) (by kernel_rfl) ?_
  refine sy_ldv 7 (.v (i1.v)) ty24 part_agg ?_
  refine sy_ldv 9 (.v (i2.v)) ty24 part_agg ?_
  refine sy_call 8 146 [i1.v] ?_
  intro w11 u11 e11 d11
  have k14 := k_intSign d11 (IntV.same (s := i1.s) (hN.ext e11))
  with_reducible refine Post.mono k14 ?_
  clear k14
  rintro _ u12 g13 rfl
  refine sy_call 10 146 [i2.v] ?_
  intro w15 u15 e15 d15
  have k18 := k_intSign d15 (IntV.same (s := i2.s) (hM.ext (e11.trans (g13.ext.trans e15))))
  with_reducible refine Post.mono k18 ?_
  clear k18
  rintro _ u16 g17 rfl
  refine sy_pure 5 (.v (.int .i64 (Nt.cmpS (Nt.sg i1.s N) 0))) ?_
  refine sy_pure 6 (.v (.int .i64 (Nt.cmpS (Nt.sg i2.s M) 0))) ?_
  refine sy_next 32 [(2, .adr 2 0), (3, .adr 3 0), (5, .v (.int .i64 (Nt.cmpS (Nt.sg i1.s N) 0))), (6, .v (.int .i64 (Nt.cmpS (Nt.sg i2.s M) 0)))] [(2, ⟨24, i1.cs⟩), (3, ⟨24, i2.cs⟩)] ?_
  refine sw_seq ?_
  refine sw_block ?_
  refine sw_seq ?_
  refine sw_reg ?_
  refine sy_pure 12 (.v (.int .i64 (Nt.cmpS (Nt.sg i1.s N) 0))) ?_
  refine sy_pure 13 (.v (.int .i64 (Nt.cmpS (Nt.sg i2.s M) 0))) ?_
  refine sy_pure 14 (.v (.bool (decide ((Nt.cmpS (Nt.sg i1.s N) 0) < (Nt.cmpS (Nt.sg i2.s M) 0))))) ?_
  refine sy_pure 11 (.v (.bool (decide ((Nt.cmpS (Nt.sg i1.s N) 0) < (Nt.cmpS (Nt.sg i2.s M) 0))))) ?_
  refine sy_next 32 [(2, .adr 2 0), (3, .adr 3 0), (5, .v (.int .i64 (Nt.cmpS (Nt.sg i1.s N) 0))), (6, .v (.int .i64 (Nt.cmpS (Nt.sg i2.s M) 0))), (11, .v (.bool (decide ((Nt.cmpS (Nt.sg i1.s N) 0) < (Nt.cmpS (Nt.sg i2.s M) 0)))))] [(2, ⟨24, i1.cs⟩), (3, ⟨24, i2.cs⟩)] ?_
  refine sw_cond (b := decide ((Nt.cmpS (Nt.sg i1.s N) 0) < (Nt.cmpS (Nt.sg i2.s M) 0))) (by kernel_rfl) (fun hb19 => ?_) (fun hb19 => ?_)
  · replace hb19 : (decide ((Nt.cmpS (Nt.sg i1.s N) 0) < (Nt.cmpS (Nt.sg i2.s M) 0))) = true := hb19
    refine sw_seq ?_
    refine sw_reg ?_
    refine sy_pure 4 (.v (.int .i64 (-1))) ?_
    refine sy_next 32 [(4, .v (.int .i64 (-1)))] [] ?_
    refine sw_ret (mpr_block (mpr_seq (ret0 [.int .i64 (-1)] ⟨res_tmp, trivial⟩ fun u20 e21 => ?_)))
    show _ = _
    rw [hzN, hzM, Nt.cmp_sg, if_pos hb19]
    rfl
  · replace hb19 : (decide ((Nt.cmpS (Nt.sg i1.s N) 0) < (Nt.cmpS (Nt.sg i2.s M) 0))) = false := hb19
    refine sw_seq ?_
    refine sw_reg ?_
    refine sy_pure 16 (.v (.int .i64 (Nt.cmpS (Nt.sg i1.s N) 0))) ?_
    refine sy_pure 17 (.v (.int .i64 (Nt.cmpS (Nt.sg i2.s M) 0))) ?_
    refine sy_pure 18 (.v (.bool (decide ((Nt.cmpS (Nt.sg i2.s M) 0) < (Nt.cmpS (Nt.sg i1.s N) 0))))) ?_
    refine sy_pure 15 (.v (.bool (decide ((Nt.cmpS (Nt.sg i2.s M) 0) < (Nt.cmpS (Nt.sg i1.s N) 0))))) ?_
    refine sy_next 32 [(2, .adr 2 0), (3, .adr 3 0), (5, .v (.int .i64 (Nt.cmpS (Nt.sg i1.s N) 0))), (15, .v (.bool (decide ((Nt.cmpS (Nt.sg i2.s M) 0) < (Nt.cmpS (Nt.sg i1.s N) 0)))))] [(2, ⟨24, i1.cs⟩), (3, ⟨24, i2.cs⟩)] ?_
    refine sw_cond (b := decide ((Nt.cmpS (Nt.sg i2.s M) 0) < (Nt.cmpS (Nt.sg i1.s N) 0))) (by kernel_rfl) (fun hb22 => ?_) (fun hb22 => ?_)
    · replace hb22 : (decide ((Nt.cmpS (Nt.sg i2.s M) 0) < (Nt.cmpS (Nt.sg i1.s N) 0))) = true := hb22
      refine sw_seq ?_
      refine sw_reg ?_
      refine sy_pure 4 (.v (.int .i64 1)) ?_
      refine sy_next 32 [(4, .v (.int .i64 1))] [] ?_
      refine sw_ret (mpr_block (mpr_seq (ret0 [.int .i64 1] ⟨res_tmp, trivial⟩ fun u23 e24 => ?_)))
      show _ = _
      rw [hzN, hzM, Nt.cmp_sg, if_neg (ne_true_of_eq_false hb19), if_pos hb22]
      rfl
    · replace hb22 : (decide ((Nt.cmpS (Nt.sg i2.s M) 0) < (Nt.cmpS (Nt.sg i1.s N) 0))) = false := hb22
      refine sw_seq ?_
      refine sw_reg ?_
      refine sy_pure 20 (.v (.int .i64 (Nt.cmpS (Nt.sg i1.s N) 0))) ?_
      refine sy_pure 21 (.v (.bool ((Nt.cmpS (Nt.sg i1.s N) 0) == (-1)))) ?_
      refine sy_pure 19 (.v (.bool ((Nt.cmpS (Nt.sg i1.s N) 0) == (-1)))) ?_
      refine sy_next 32 [(2, .adr 2 0), (3, .adr 3 0), (19, .v (.bool ((Nt.cmpS (Nt.sg i1.s N) 0) == (-1))))] [(2, ⟨24, i1.cs⟩), (3, ⟨24, i2.cs⟩)] ?_
      refine sw_cond (b := (Nt.cmpS (Nt.sg i1.s N) 0) == (-1)) (by kernel_rfl) (fun hb25 => ?_) (fun hb25 => ?_)
      · replace hb25 : ((Nt.cmpS (Nt.sg i1.s N) 0) == (-1)) = true := hb25
        refine sw_seq ?_
        refine sw_reg ?_
        refine sy_pure 22 (.adr 3 1) ?_
        refine sy_ldv 23 (.v (.slice i2.m.a i2.m.n i2.m.c)) ty22 part_one ?_
        refine sy_pure 24 (.adr 2 1) ?_
        refine sy_ldv 25 (.v (.slice i1.m.a i1.m.n i1.m.c)) ty22 part_one ?_
        refine sy_call 26 154 [.slice i2.m.a i2.m.n i2.m.c, .slice i1.m.a i1.m.n i1.m.c] ?_
        intro w26 u26 e26 d26
        have k29 := k_natCompare d26 (hM.ext (e11.trans (g13.ext.trans (e15.trans (g17.ext.trans e26))))) (hN.ext (e11.trans (g13.ext.trans (e15.trans (g17.ext.trans e26)))))
        with_reducible refine Post.mono k29 ?_
        clear k29
        rintro _ u27 g28 rfl
        refine sy_pure 4 (.v (.int .i64 (Nt.cmpS M N))) ?_
        refine sy_next 32 [(4, .v (.int .i64 (Nt.cmpS M N)))] [] ?_
        refine sw_ret (mpr_block (mpr_seq (ret0 [.int .i64 (Nt.cmpS M N)] ⟨res_tmp, trivial⟩ fun u30 e31 => ?_)))
        show _ = _
        rw [hzN, hzM, Nt.cmp_sg, if_neg (ne_true_of_eq_false hb19), if_neg (ne_true_of_eq_false hb22), if_pos hb25]
        rfl
      · replace hb25 : ((Nt.cmpS (Nt.sg i1.s N) 0) == (-1)) = false := hb25
        refine sw_skip (mp_seq ?_)
        refine sw_seq ?_
        refine sw_reg ?_
        refine sy_pure 27 (.adr 2 1) ?_
        refine sy_ldv 28 (.v (.slice i1.m.a i1.m.n i1.m.c)) ty22 part_one ?_
        refine sy_pure 29 (.adr 3 1) ?_
        refine sy_ldv 30 (.v (.slice i2.m.a i2.m.n i2.m.c)) ty22 part_one ?_
        refine sy_call 31 154 [.slice i1.m.a i1.m.n i1.m.c, .slice i2.m.a i2.m.n i2.m.c] ?_
        intro w32 u32 e32 d32
        have k35 := k_natCompare d32 (hN.ext (e11.trans (g13.ext.trans (e15.trans (g17.ext.trans e32))))) (hM.ext (e11.trans (g13.ext.trans (e15.trans (g17.ext.trans e32)))))
        with_reducible refine Post.mono k35 ?_
        clear k35
        rintro _ u33 g34 rfl
        refine sy_pure 4 (.v (.int .i64 (Nt.cmpS N M))) ?_
        refine sy_next 32 [(4, .v (.int .i64 (Nt.cmpS N M)))] [] ?_
        refine sw_ret (ret0 [.int .i64 (Nt.cmpS N M)] ⟨res_tmp, trivial⟩ fun u36 e37 => ?_)
        show _ = _
        rw [hzN, hzM, Nt.cmp_sg, if_neg (ne_true_of_eq_false hb19), if_neg (ne_true_of_eq_false hb22), if_neg (ne_true_of_eq_false hb25)]
        rfl
theorem k_intOf {u w : World} {z : Int} (d : Dat u w) (h0 : -9223372036854775808 ≤ z) (h1 : z ≤ 9223372036854775807) : Calls Tryz.prog 166 #[.int .i64 z] w (Post u w fun v u' => ∃ i : IL, v = i.v ∧ IntN u' i z 2) := by
  by_cases hneg : z < 0
  · refine calls_sym (args := [.int .i64 z]) Tryz.func166 rfl Tryz.ntmps166 (rs := [.cell 2 24]) Tryz.results166 (le_b rfl) (le_b rfl) d ?_
    refine sw_seq ?_
    refine sw_reg ?_
    refine sy_new 2 ⟨24, [.bool false, .slice none 0 0]⟩ ?_
    refine sy_next 20 [(0, .v (.int .i64 z)), (2, .adr 2 0)] [(2, ⟨24, [.bool false, .slice none 0 0]⟩)] ?_
    refine sw_seq ?_
    refine sw_reg ?_
    refine sy_pure 4 (.v (.int .i64 z)) ?_
    refine sy_eq 5 (x := .v (.int .u64 (IntKind.u64.wrap z))) (.v (.int .u64 (z + 18446744073709551616))) (by rw [show (IntKind.u64.wrap z) = (z + 18446744073709551616) from (by simp [IntKind.wrap, IntKind.bits, IntKind.signed]; omega)]) ?_
    refine sy_pure 3 (.v (.int .u64 (z + 18446744073709551616))) ?_
    refine sy_next 20 [(0, .v (.int .i64 z)), (2, .adr 2 0), (3, .v (.int .u64 (z + 18446744073709551616)))] [(2, ⟨24, [.bool false, .slice none 0 0]⟩)] ?_
    refine sw_seq ?_
    refine sw_seq ?_
    refine sw_reg ?_
    refine sy_pure 6 (.v (.int .i64 z)) ?_
    refine sy_eq 7 (x := .v (.bool (decide (z < 0)))) (.v (.bool true)) (by rw [show (decide (z < 0)) = true from (by simp; omega)]) ?_
    refine sy_next 20 [(0, .v (.int .i64 z)), (2, .adr 2 0), (3, .v (.int .u64 (z + 18446744073709551616))), (7, .v (.bool true))] [(2, ⟨24, [.bool false, .slice none 0 0]⟩)] ?_
    refine sw_true (by kernel_rfl) ?_
    refine sw_reg ?_
    refine sy_pure 8 (.v (.int .u64 (z + 18446744073709551616))) ?_
    refine sy_eq 9 (x := .v (.int .u64 (IntKind.u64.wrap (0 - (z + 18446744073709551616))))) (.v (.int .u64 (-z))) (by rw [show (IntKind.u64.wrap (0 - (z + 18446744073709551616))) = (-z) from (by simp [IntKind.wrap, IntKind.bits, IntKind.signed]; omega)]) ?_
    refine sy_pure 3 (.v (.int .u64 (-z))) ?_
    refine sy_next 20 [(0, .v (.int .i64 z)), (2, .adr 2 0), (3, .v (.int .u64 (-z)))] [(2, ⟨24, [.bool false, .slice none 0 0]⟩)] ?_
    refine sw_seq ?_
    refine sw_reg ?_
    refine sy_pure 10 (.v (.int .i64 z)) ?_
    refine sy_eq 11 (x := .v (.bool (decide (z < 0)))) (.v (.bool true)) (by rw [show (decide (z < 0)) = true from (by simp; omega)]) ?_
    refine sy_pure 12 (.v (.int .u64 (-z))) ?_
    refine sy_eq 13 (x := .v (.int .u32 (IntKind.u32.wrap (-z)))) (.v (.int .u32 ((-z) % 4294967296))) (by rw [show (IntKind.u32.wrap (-z)) = ((-z) % 4294967296) from (IntKind.wrap_u32 _)]) ?_
    refine sy_pure 14 (.v (.int .u64 (-z))) ?_
    refine sy_eq 15 (x := .v (.int .u64 (Int.fdiv (-z) (2 ^ 32)))) (.v (.int .u64 ((-z) / 4294967296))) (by rw [show (Int.fdiv (-z) (2 ^ 32)) = ((-z) / 4294967296) from (by rw [Int.fdiv_eq_ediv_of_nonneg _ (by decide)]; rfl)]) ?_
    refine sy_eq 16 (x := .v (.int .u32 (IntKind.u32.wrap ((-z) / 4294967296)))) (.v (.int .u32 ((-z) / 4294967296))) (by rw [show (IntKind.u32.wrap ((-z) / 4294967296)) = ((-z) / 4294967296) from (IntWalk.u32_in _ (by omega))]) ?_
    refine sy_data 17 ⟨105, [.int .u32 ((-z) % 4294967296), .int .u32 ((-z) / 4294967296)]⟩ 2 (fun b11 u12 e13 h14 => ?_)
    refine sy_call 18 183 [.slice (some ⟨b11, 0, none⟩) 2 2] ?_
    intro w15 u15 e15 d15
    have k20 := k_natTrim d15 ((two_data (N := z.natAbs) h14 (by omega) (by omega) (by omega)).ext e15) (by omega)
    with_reducible refine Post.mono k20 ?_
    clear k20
    rintro _ u18 g19 ⟨x16, rfl, h17⟩
    refine sy_call 19 180 [.bool true, .slice x16.a x16.n x16.c] ?_
    intro w21 u21 e21 d21
    have k26 := k_signed d21 (s := true) (h17.ext e21)
    with_reducible refine Post.mono k26 ?_
    clear k26
    rintro _ u24 g25 ⟨i22, rfl, h23⟩
    refine sy_store ⟨24, i22.cs⟩ ty24 ?_
    refine sy_next 20 [(2, .adr 2 0)] [(2, ⟨24, i22.cs⟩)] ?_
    refine sw_ret (ret0 [i22.v] ⟨res_cell ty24 part_agg, trivial⟩ fun u27 e28 => ?_)
    refine ⟨i22, rfl, IntN.more (K := 2) ?_ (by omega)⟩
    have e : z = Nt.sg true z.natAbs := by unfold Nt.sg; simp; omega
    rw [e]
    exact (h23.ext e28)
  · refine calls_sym (args := [.int .i64 z]) Tryz.func166 rfl Tryz.ntmps166 (rs := [.cell 2 24]) Tryz.results166 (le_b rfl) (le_b rfl) d ?_
    refine sw_seq ?_
    refine sw_reg ?_
    refine sy_new 2 ⟨24, [.bool false, .slice none 0 0]⟩ ?_
    refine sy_next 20 [(0, .v (.int .i64 z)), (2, .adr 2 0)] [(2, ⟨24, [.bool false, .slice none 0 0]⟩)] ?_
    refine sw_seq ?_
    refine sw_reg ?_
    refine sy_pure 4 (.v (.int .i64 z)) ?_
    refine sy_eq 5 (x := .v (.int .u64 (IntKind.u64.wrap z))) (.v (.int .u64 (z))) (by rw [show (IntKind.u64.wrap z) = z from (by simp [IntKind.wrap, IntKind.bits, IntKind.signed]; omega)]) ?_
    refine sy_pure 3 (.v (.int .u64 z)) ?_
    refine sy_next 20 [(0, .v (.int .i64 z)), (2, .adr 2 0), (3, .v (.int .u64 z))] [(2, ⟨24, [.bool false, .slice none 0 0]⟩)] ?_
    refine sw_seq ?_
    refine sw_seq ?_
    refine sw_reg ?_
    refine sy_pure 6 (.v (.int .i64 z)) ?_
    refine sy_eq 7 (x := .v (.bool (decide (z < 0)))) (.v (.bool false)) (by rw [show (decide (z < 0)) = false from (by simp; omega)]) ?_
    refine sy_next 20 [(0, .v (.int .i64 z)), (2, .adr 2 0), (3, .v (.int .u64 z)), (7, .v (.bool false))] [(2, ⟨24, [.bool false, .slice none 0 0]⟩)] ?_
    refine sw_false (by kernel_rfl) ?_
    refine sw_skip (mp_seq ?_)
    refine sw_seq ?_
    refine sw_reg ?_
    refine sy_pure 10 (.v (.int .i64 z)) ?_
    refine sy_eq 11 (x := .v (.bool (decide (z < 0)))) (.v (.bool false)) (by rw [show (decide (z < 0)) = false from (by simp; omega)]) ?_
    refine sy_pure 12 (.v (.int .u64 z)) ?_
    refine sy_eq 13 (x := .v (.int .u32 (IntKind.u32.wrap (z)))) (.v (.int .u32 ((z) % 4294967296))) (by rw [show (IntKind.u32.wrap (z)) = ((z) % 4294967296) from (IntKind.wrap_u32 _)]) ?_
    refine sy_pure 14 (.v (.int .u64 z)) ?_
    refine sy_eq 15 (x := .v (.int .u64 (Int.fdiv (z) (2 ^ 32)))) (.v (.int .u64 ((z) / 4294967296))) (by rw [show (Int.fdiv (z) (2 ^ 32)) = ((z) / 4294967296) from (by rw [Int.fdiv_eq_ediv_of_nonneg _ (by decide)]; rfl)]) ?_
    refine sy_eq 16 (x := .v (.int .u32 (IntKind.u32.wrap ((z) / 4294967296)))) (.v (.int .u32 ((z) / 4294967296))) (by rw [show (IntKind.u32.wrap ((z) / 4294967296)) = ((z) / 4294967296) from (IntWalk.u32_in _ (by omega))]) ?_
    refine sy_data 17 ⟨105, [.int .u32 ((z) % 4294967296), .int .u32 ((z) / 4294967296)]⟩ 2 (fun b11 u12 e13 h14 => ?_)
    refine sy_call 18 183 [.slice (some ⟨b11, 0, none⟩) 2 2] ?_
    intro w15 u15 e15 d15
    have k20 := k_natTrim d15 ((two_data (N := z.natAbs) h14 (by omega) (by omega) (by omega)).ext e15) (by omega)
    with_reducible refine Post.mono k20 ?_
    clear k20
    rintro _ u18 g19 ⟨x16, rfl, h17⟩
    refine sy_call 19 180 [.bool false, .slice x16.a x16.n x16.c] ?_
    intro w21 u21 e21 d21
    have k26 := k_signed d21 (s := false) (h17.ext e21)
    with_reducible refine Post.mono k26 ?_
    clear k26
    rintro _ u24 g25 ⟨i22, rfl, h23⟩
    refine sy_store ⟨24, i22.cs⟩ ty24 ?_
    refine sy_next 20 [(2, .adr 2 0)] [(2, ⟨24, i22.cs⟩)] ?_
    refine sw_ret (ret0 [i22.v] ⟨res_cell ty24 part_agg, trivial⟩ fun u27 e28 => ?_)
    refine ⟨i22, rfl, IntN.more (K := 2) ?_ (by omega)⟩
    have e : z = Nt.sg false z.natAbs := by unfold Nt.sg; simp; omega
    rw [e]
    exact (h23.ext e28)
end Go.Proofs.YtnedhbidmfoegaaGreat
