/- Contracts of the references of integer and rational. Printed by wip/sym/g_ref.py. -/
import Derived.Test.YtnedhbidmfoegaaQr
import Derived.Test.YtnedhbidmfoegaaFw
import Derived.Test.YtnedhbidmfoegaaTy
namespace Go.Proofs.Ytnedhbidmfoegaa
open Go.RowKit
set_option linter.unusedVariables false
theorem k_riTrim {u w : World} {i1 : IL} {zN : Int} {K : Nat} (d : Dat u w) (hi1 : IntV u i1 zN K) (hK : K ≤ 500000000) : Calls Try.prog 93 #[i1.v] w (Post u w fun v u' => ∃ i : IL, v = i.v ∧ IntN u' i zN K) := by
  obtain ⟨N, hN, hzN⟩ := hi1
  refine calls_sym (args := [i1.v]) Try.func93 rfl Try.ntmps93 (rs := [.cell 2 24]) Try.results93 (le_b rfl) (le_b rfl) d ?_
  refine sw_seq ?_
  refine sw_reg ?_
  refine sy_new 1 ⟨24, i1.cs⟩ ?_
  refine sy_new 2 ⟨24, [.bool false, .slice none 0 0]⟩ ?_
  refine sy_next 16 [(1, .adr 1 0), (2, .adr 2 0)] [(1, ⟨24, i1.cs⟩), (2, ⟨24, [.bool false, .slice none 0 0]⟩)] ?_
  refine sw_seq ?_
  refine sw_reg ?_
  refine sy_pure 4 (.adr 1 1) ?_
  refine sy_ldv 5 (.v (.slice i1.m.a i1.m.n i1.m.c)) ty22 part_one ?_
  refine sy_call 6 97 [.slice i1.m.a i1.m.n i1.m.c] ?_
  intro w11 u11 e11 d11
  have k16 := k_rnTrim d11 (hN.ext e11) (by omega)
  with_reducible refine Post.mono k16 ?_
  clear k16
  rintro _ u14 g15 ⟨x12, rfl, h13⟩
  refine sy_pure 3 (.v (.slice x12.a x12.n x12.c)) ?_
  refine sy_next 16 [(1, .adr 1 0), (2, .adr 2 0), (3, .v (.slice x12.a x12.n x12.c))] [(1, ⟨24, i1.cs⟩), (2, ⟨24, [.bool false, .slice none 0 0]⟩)] ?_
  refine sw_seq ?_
  refine sw_reg ?_
  refine sy_pure 7 (.adr 1 0) ?_
  refine sy_ldv 8 (.v (.bool i1.s)) ty4 part_one ?_
  rcases Bool.eq_false_or_eq_true i1.s with hs17 | hs17
  · refine sy_eq 9 (x := .v (.bool i1.s)) (.v (.bool true)) (by rw [hs17]) ?_
    refine sy_pure 10 (.v (.slice x12.a x12.n x12.c)) ?_ (hw := wants1 (g := 2) (b := true) (t := 9) (by kernel_rfl) (by kernel_rfl) (by kernel_rfl))
    refine sy_pure 11 (.v (.int .i64 (x12.n : Int))) ?_ (hw := wants1 (g := 2) (b := true) (t := 9) (by kernel_rfl) (by kernel_rfl) (by kernel_rfl))
    refine sy_pure 12 (.v (.bool (decide ((0 : Int) < (x12.n : Int))))) ?_ (hw := wants1 (g := 2) (b := true) (t := 9) (by kernel_rfl) (by kernel_rfl) (by kernel_rfl))
    refine sy_pure 13 (.v (.bool (decide ((0 : Int) < (x12.n : Int))))) ?_
    refine sy_pure 14 (.v (.slice x12.a x12.n x12.c)) ?_
    refine sy_pure 15 (.v (.agg #[.bool (decide ((0 : Int) < (x12.n : Int))), .slice x12.a x12.n x12.c])) ?_
    refine sy_store ⟨24, [.bool (decide ((0 : Int) < (x12.n : Int))), .slice x12.a x12.n x12.c]⟩ ty24 ?_
    refine sy_next 16 [(2, .adr 2 0)] [(2, ⟨24, [.bool (decide ((0 : Int) < (x12.n : Int))), .slice x12.a x12.n x12.c]⟩)] ?_
    refine sw_ret (ret0 [.agg #[.bool (decide ((0 : Int) < (x12.n : Int))), .slice x12.a x12.n x12.c]] ⟨res_cell ty24 part_agg, trivial⟩ fun u18 e19 => ?_)
    refine ⟨⟨_, x12⟩, rfl, ?_⟩
    rw [hzN, hs17]
    exact signed_int (s := true) (h13.ext e19)
  · refine sy_eq 9 (x := .v (.bool i1.s)) (.v (.bool false)) (by rw [hs17]) ?_
    refine sy_drop 10 (unwanted (g := 2) (b := true) (c := false) (t := 9) (by kernel_rfl) (by kernel_rfl) (by kernel_rfl) (by kernel_rfl)) ?_
    refine sy_drop 11 (unwanted (g := 2) (b := true) (c := false) (t := 9) (by kernel_rfl) (by kernel_rfl) (by kernel_rfl) (by kernel_rfl)) ?_
    refine sy_drop 12 (unwanted (g := 2) (b := true) (c := false) (t := 9) (by kernel_rfl) (by kernel_rfl) (by kernel_rfl) (by kernel_rfl)) ?_
    refine sy_pure 13 (.v (.bool false)) ?_
    refine sy_pure 14 (.v (.slice x12.a x12.n x12.c)) ?_
    refine sy_pure 15 (.v (.agg #[.bool false, .slice x12.a x12.n x12.c])) ?_
    refine sy_store ⟨24, [.bool false, .slice x12.a x12.n x12.c]⟩ ty24 ?_
    refine sy_next 16 [(2, .adr 2 0)] [(2, ⟨24, [.bool false, .slice x12.a x12.n x12.c]⟩)] ?_
    refine sw_ret (ret0 [.agg #[.bool false, .slice x12.a x12.n x12.c]] ⟨res_cell ty24 part_agg, trivial⟩ fun u20 e21 => ?_)
    refine ⟨⟨_, x12⟩, rfl, ?_⟩
    rw [hzN, hs17]
    exact signed_int (s := false) (h13.ext e21)
theorem k_riSign {u w : World} {i1 : IL} {zN : Int} {K : Nat} (d : Dat u w) (hi1 : IntV u i1 zN K) (hK : K ≤ 500000000) : Calls Try.prog 98 #[i1.v] w (Post u w fun v u' => v = .int .i64 (Nt.cmpS zN 0)) := by
  refine calls_sym (args := [i1.v]) Try.func98 rfl Try.ntmps98 (rs := [.tmp 2]) Try.results98 (le_b rfl) (le_b rfl) d ?_
  refine sw_seq ?_
  refine sw_reg ?_
  refine sy_new 1 ⟨24, i1.cs⟩ ?_
  refine sy_pure 2 (.v (.int .i64 0)) ?_
  refine sy_next 13 [(1, .adr 1 0)] [(1, ⟨24, i1.cs⟩)] ?_
  refine sw_seq ?_
  refine sw_reg ?_
  refine sy_ldv 3 (.v (i1.v)) ty24 part_agg ?_
  refine sy_call 4 93 [i1.v] ?_
  intro w11 u11 e11 d11
  have k16 := k_riTrim d11 (hi1.ext e11) (by omega)
  with_reducible refine Post.mono k16 ?_
  clear k16
  rintro _ u14 g15 ⟨i12, rfl, h13⟩
  refine sy_store ⟨24, i12.cs⟩ ty24 ?_
  refine sy_next 13 [(1, .adr 1 0)] [(1, ⟨24, i12.cs⟩)] ?_
  refine sw_seq ?_
  refine sw_block ?_
  refine sw_seq ?_
  refine sw_reg ?_
  refine sy_pure 6 (.adr 1 1) ?_
  refine sy_ldv 7 (.v (.slice i12.m.a i12.m.n i12.m.c)) ty22 part_one ?_
  refine sy_pure 8 (.v (.int .i64 (i12.m.n : Int))) ?_
  refine sy_pure 9 (.v (.bool ((i12.m.n : Int) == 0))) ?_
  refine sy_pure 5 (.v (.bool ((i12.m.n : Int) == 0))) ?_
  refine sy_next 13 [(1, .adr 1 0), (5, .v (.bool ((i12.m.n : Int) == 0)))] [(1, ⟨24, i12.cs⟩)] ?_
  refine sw_cond (b := (i12.m.n : Int) == 0) (by kernel_rfl) (fun hb17 => ?_) (fun hb17 => ?_)
  · replace hb17 : ((i12.m.n : Int) == 0) = true := hb17
    refine sw_seq ?_
    refine sw_reg ?_
    refine sy_pure 2 (.v (.int .i64 0)) ?_
    refine sy_next 13 [(2, .v (.int .i64 0))] [] ?_
    refine sw_ret (mpr_block (mpr_seq (ret0 [.int .i64 0] ⟨res_tmp, trivial⟩ fun u18 e19 => ?_)))
    show _ = _
    rw [sign_len h13, if_pos hb17]
    rfl
  · replace hb17 : ((i12.m.n : Int) == 0) = false := hb17
    refine sw_seq ?_
    refine sw_reg ?_
    refine sy_pure 11 (.adr 1 0) ?_
    refine sy_ldv 12 (.v (.bool i12.s)) ty4 part_one ?_
    refine sy_pure 10 (.v (.bool i12.s)) ?_
    refine sy_next 13 [(10, .v (.bool i12.s))] [] ?_
    refine sw_cond (b := i12.s) (by kernel_rfl) (fun hb20 => ?_) (fun hb20 => ?_)
    · replace hb20 : i12.s = true := hb20
      refine sw_seq ?_
      refine sw_reg ?_
      refine sy_pure 2 (.v (.int .i64 (-1))) ?_
      refine sy_next 13 [(2, .v (.int .i64 (-1)))] [] ?_
      refine sw_ret (mpr_block (mpr_seq (ret0 [.int .i64 (-1)] ⟨res_tmp, trivial⟩ fun u21 e22 => ?_)))
      show _ = _
      rw [sign_len h13, if_neg (ne_true_of_eq_false hb17), if_pos hb20]
      rfl
    · replace hb20 : i12.s = false := hb20
      refine sw_skip (mp_seq ?_)
      refine sw_seq ?_
      refine sw_reg ?_
      refine sy_pure 2 (.v (.int .i64 1)) ?_
      refine sy_next 13 [(2, .v (.int .i64 1))] [] ?_
      refine sw_ret (ret0 [.int .i64 1] ⟨res_tmp, trivial⟩ fun u23 e24 => ?_)
      show _ = _
      rw [sign_len h13, if_neg (ne_true_of_eq_false hb17), if_neg (ne_true_of_eq_false hb20)]
      rfl
theorem k_riNeg {u w : World} {i1 : IL} {zN : Int} {K : Nat} (d : Dat u w) (hi1 : IntV u i1 zN K) (hK : K ≤ 500000000) : Calls Try.prog 101 #[i1.v] w (Post u w fun v u' => ∃ i : IL, v = i.v ∧ IntN u' i (-zN) K) := by
  refine calls_sym (args := [i1.v]) Try.func101 rfl Try.ntmps101 (rs := [.cell 2 24]) Try.results101 (le_b rfl) (le_b rfl) d ?_
  refine sw_seq ?_
  refine sw_reg ?_
  refine sy_new 1 ⟨24, i1.cs⟩ ?_
  refine sy_new 2 ⟨24, [.bool false, .slice none 0 0]⟩ ?_
  refine sy_next 16 [(1, .adr 1 0), (2, .adr 2 0)] [(1, ⟨24, i1.cs⟩), (2, ⟨24, [.bool false, .slice none 0 0]⟩)] ?_
  refine sw_seq ?_
  refine sw_reg ?_
  refine sy_ldv 3 (.v (i1.v)) ty24 part_agg ?_
  refine sy_call 4 93 [i1.v] ?_
  intro w11 u11 e11 d11
  have k16 := k_riTrim d11 (hi1.ext e11) (by omega)
  with_reducible refine Post.mono k16 ?_
  clear k16
  rintro _ u14 g15 ⟨i12, rfl, h13⟩
  refine sy_store ⟨24, i12.cs⟩ ty24 ?_
  refine sy_next 16 [(1, .adr 1 0), (2, .adr 2 0)] [(1, ⟨24, i12.cs⟩), (2, ⟨24, [.bool false, .slice none 0 0]⟩)] ?_
  refine sw_seq ?_
  refine sw_reg ?_
  refine sy_pure 5 (.adr 1 0) ?_
  refine sy_ldv 6 (.v (.bool i12.s)) ty4 part_one ?_
  refine sy_pure 7 (.v (.bool (!i12.s))) ?_
  rcases Bool.eq_false_or_eq_true (!i12.s) with hs17 | hs17
  · refine sy_eq 8 (x := .v (.bool (!i12.s))) (.v (.bool true)) (by rw [hs17]) ?_
    refine sy_pure 9 (.adr 1 1) ?_ (hw := wants1 (g := 3) (b := true) (t := 8) (by kernel_rfl) (by kernel_rfl) (by kernel_rfl))
    refine sy_ldv 10 (.v (.slice i12.m.a i12.m.n i12.m.c)) ty22 part_one ?_ (hw := wants1 (g := 3) (b := true) (t := 8) (by kernel_rfl) (by kernel_rfl) (by kernel_rfl))
    refine sy_pure 11 (.v (.int .i64 (i12.m.n : Int))) ?_ (hw := wants1 (g := 3) (b := true) (t := 8) (by kernel_rfl) (by kernel_rfl) (by kernel_rfl))
    refine sy_pure 12 (.v (.bool (decide ((0 : Int) < (i12.m.n : Int))))) ?_ (hw := wants1 (g := 3) (b := true) (t := 8) (by kernel_rfl) (by kernel_rfl) (by kernel_rfl))
    refine sy_pure 13 (.v (.bool (decide ((0 : Int) < (i12.m.n : Int))))) ?_
    refine sy_pure 14 (.adr 1 0) ?_
    refine sy_store ⟨24, [.bool (decide ((0 : Int) < (i12.m.n : Int))), .slice i12.m.a i12.m.n i12.m.c]⟩ ty4 ?_
    refine sy_next 16 [(1, .adr 1 0), (2, .adr 2 0)] [(1, ⟨24, [.bool (decide ((0 : Int) < (i12.m.n : Int))), .slice i12.m.a i12.m.n i12.m.c]⟩), (2, ⟨24, [.bool false, .slice none 0 0]⟩)] ?_
    refine sw_seq ?_
    refine sw_reg ?_
    refine sy_ldv 15 (.v (.agg #[.bool (decide ((0 : Int) < (i12.m.n : Int))), .slice i12.m.a i12.m.n i12.m.c])) ty24 part_agg ?_
    refine sy_store ⟨24, [.bool (decide ((0 : Int) < (i12.m.n : Int))), .slice i12.m.a i12.m.n i12.m.c]⟩ ty24 ?_
    refine sy_next 16 [(2, .adr 2 0)] [(2, ⟨24, [.bool (decide ((0 : Int) < (i12.m.n : Int))), .slice i12.m.a i12.m.n i12.m.c]⟩)] ?_
    refine sw_ret (ret0 [.agg #[.bool (decide ((0 : Int) < (i12.m.n : Int))), .slice i12.m.a i12.m.n i12.m.c]] ⟨res_cell ty24 part_agg, trivial⟩ fun u18 e19 => ?_)
    refine ⟨⟨_, i12.m⟩, rfl, ?_⟩
    have h9 := neg_int (h13.ext e19)
    rw [hs17] at h9
    exact h9
  · refine sy_eq 8 (x := .v (.bool (!i12.s))) (.v (.bool false)) (by rw [hs17]) ?_
    refine sy_drop 9 (unwanted (g := 3) (b := true) (c := false) (t := 8) (by kernel_rfl) (by kernel_rfl) (by kernel_rfl) (by kernel_rfl)) ?_
    refine sy_drop 10 (unwanted (g := 3) (b := true) (c := false) (t := 8) (by kernel_rfl) (by kernel_rfl) (by kernel_rfl) (by kernel_rfl)) ?_
    refine sy_drop 11 (unwanted (g := 3) (b := true) (c := false) (t := 8) (by kernel_rfl) (by kernel_rfl) (by kernel_rfl) (by kernel_rfl)) ?_
    refine sy_drop 12 (unwanted (g := 3) (b := true) (c := false) (t := 8) (by kernel_rfl) (by kernel_rfl) (by kernel_rfl) (by kernel_rfl)) ?_
    refine sy_pure 13 (.v (.bool false)) ?_
    refine sy_pure 14 (.adr 1 0) ?_
    refine sy_store ⟨24, [.bool false, .slice i12.m.a i12.m.n i12.m.c]⟩ ty4 ?_
    refine sy_next 16 [(1, .adr 1 0), (2, .adr 2 0)] [(1, ⟨24, [.bool false, .slice i12.m.a i12.m.n i12.m.c]⟩), (2, ⟨24, [.bool false, .slice none 0 0]⟩)] ?_
    refine sw_seq ?_
    refine sw_reg ?_
    refine sy_ldv 15 (.v (.agg #[.bool false, .slice i12.m.a i12.m.n i12.m.c])) ty24 part_agg ?_
    refine sy_store ⟨24, [.bool false, .slice i12.m.a i12.m.n i12.m.c]⟩ ty24 ?_
    refine sy_next 16 [(2, .adr 2 0)] [(2, ⟨24, [.bool false, .slice i12.m.a i12.m.n i12.m.c]⟩)] ?_
    refine sw_ret (ret0 [.agg #[.bool false, .slice i12.m.a i12.m.n i12.m.c]] ⟨res_cell ty24 part_agg, trivial⟩ fun u20 e21 => ?_)
    refine ⟨⟨_, i12.m⟩, rfl, ?_⟩
    have h9 := neg_int (h13.ext e21)
    rw [hs17] at h9
    exact h9
set_option maxHeartbeats 1000000 in
theorem k_riAdd {u w : World} {i1 : IL} {zN : Int} {K : Nat} {i2 : IL} {zM : Int} {L : Nat} (d : Dat u w) (hi1 : IntV u i1 zN K) (hi2 : IntV u i2 zM L) (hK : K ≤ 400000000) (hL : L ≤ 400000000) : Calls Try.prog 66 #[i1.v, i2.v] w (Post u w fun v u' => ∃ i : IL, v = i.v ∧ IntN u' i (zN + zM) (max K L + 1)) := by
  refine calls_sym (args := [i1.v, i2.v]) Try.func66 rfl Try.ntmps66 (rs := [.cell 4 24]) Try.results66 (le_b rfl) (le_b rfl) d ?_
  refine sw_seq ?_
  refine sw_reg ?_
  refine sy_new 2 ⟨24, i1.cs⟩ ?_
  refine sy_new 3 ⟨24, i2.cs⟩ ?_
  refine sy_new 4 ⟨24, [.bool false, .slice none 0 0]⟩ ?_
  refine sy_next 47 [(2, .adr 2 0), (3, .adr 3 0), (4, .adr 4 0)] [(2, ⟨24, i1.cs⟩), (3, ⟨24, i2.cs⟩), (4, ⟨24, [.bool false, .slice none 0 0]⟩)] ?_
  refine sw_seq ?_
  refine sw_any [0, 1, 0, 7, 15, 31] [(0, []), (2, []), (1, []), (3, []), (4, []), (5, [])] (by kernel_rfl) (by kernel_rfl) ?_
  refine sy_ldv 5 (.v (i1.v)) ty24 part_agg ?_
  refine sy_ldv 7 (.v (i2.v)) ty24 part_agg ?_
  refine sy_call 6 93 [i1.v] ?_
  intro w11 u11 e11 d11
  have k16 := k_riTrim d11 (hi1.ext e11) (by omega)
  with_reducible refine Post.mono k16 ?_
  clear k16
  rintro _ u14 g15 ⟨i12, rfl, h13⟩
  refine sy_call 8 93 [i2.v] ?_
  intro w17 u17 e17 d17
  have k22 := k_riTrim d17 (hi2.ext (e11.trans (g15.ext.trans e17))) (by omega)
  with_reducible refine Post.mono k22 ?_
  clear k22
  rintro _ u20 g21 ⟨i18, rfl, h19⟩
  refine sy_store ⟨24, i12.cs⟩ ty24 ?_
  refine sy_store ⟨24, i18.cs⟩ ty24 ?_
  refine sy_next 47 [(2, .adr 2 0), (3, .adr 3 0), (4, .adr 4 0)] [(2, ⟨24, i12.cs⟩), (3, ⟨24, i18.cs⟩), (4, ⟨24, [.bool false, .slice none 0 0]⟩)] ?_
  refine sw_seq ?_
  refine sw_seq ?_
  refine sw_reg ?_
  refine sy_pure 9 (.adr 2 0) ?_
  refine sy_ldv 10 (.v (.bool i12.s)) ty4 part_one ?_
  refine sy_pure 11 (.adr 3 0) ?_
  refine sy_ldv 12 (.v (.bool i18.s)) ty4 part_one ?_
  refine sy_pure 13 (.v (.bool (i12.s == i18.s))) ?_
  refine sy_next 47 [(2, .adr 2 0), (3, .adr 3 0), (4, .adr 4 0), (13, .v (.bool (i12.s == i18.s)))] [(2, ⟨24, i12.cs⟩), (3, ⟨24, i18.cs⟩), (4, ⟨24, [.bool false, .slice none 0 0]⟩)] ?_
  refine sw_cond (b := i12.s == i18.s) (by kernel_rfl) (fun hb23 => ?_) (fun hb23 => ?_)
  · replace hb23 : (i12.s == i18.s) = true := hb23
    refine sw_seq ?_
    refine sw_any [0, 1, 0, 4, 0, 16, 60, 127, 255, 511] [(0, []), (1, []), (2, []), (3, []), (4, []), (5, []), (6, []), (7, []), (8, []), (9, [])] (by kernel_rfl) (by kernel_rfl) ?_
    refine sy_pure 14 (.adr 2 0) ?_
    refine sy_ldv 15 (.v (.bool i12.s)) ty4 part_one ?_
    refine sy_pure 16 (.adr 2 1) ?_
    refine sy_ldv 17 (.v (.slice i12.m.a i12.m.n i12.m.c)) ty22 part_one ?_
    refine sy_pure 18 (.adr 3 1) ?_
    refine sy_ldv 19 (.v (.slice i18.m.a i18.m.n i18.m.c)) ty22 part_one ?_
    refine sy_call 20 102 [.slice i12.m.a i12.m.n i12.m.c, .slice i18.m.a i18.m.n i18.m.c] ?_
    intro w24 u24 e24 d24
    have k29 := k_rnAdd d24 ((int_mag h13).ext (e17.trans (g21.ext.trans e24))).raw ((int_mag h19).ext e24).raw (by omega) (by omega)
    with_reducible refine Post.mono k29 ?_
    clear k29
    rintro _ u27 g28 ⟨x25, rfl, h26⟩
    refine sy_pure 21 (.v (.agg #[.bool i12.s, .slice x25.a x25.n x25.c])) ?_
    refine sy_call 22 93 [.agg #[.bool i12.s, .slice x25.a x25.n x25.c]] ?_
    intro w30 u30 e30 d30
    have k35 := k_riTrim d30 (IntV.same (s := i12.s) (h26.ext e30).raw) (by omega)
    with_reducible refine Post.mono k35 ?_
    clear k35
    rintro _ u33 g34 ⟨i31, rfl, h32⟩
    refine sy_store ⟨24, i31.cs⟩ ty24 ?_
    refine sy_next 47 [(4, .adr 4 0)] [(4, ⟨24, i31.cs⟩)] ?_
    refine sw_ret (mpr_seq (ret0 [i31.v] ⟨res_cell ty24 part_agg, trivial⟩ fun u36 e37 => ?_))
    refine ⟨i31, rfl, IntN.more (K := (max K L + 1)) ?_ (by omega)⟩
    have h9 : zN + zM = (Nt.sg i12.s ((zN : Int).natAbs + (zM : Int).natAbs)) := by
      rw [Nt.sg_add1 _ _ hb23]
      rw [← IntN.sg h13, ← IntN.sg h19]
    rw [h9]
    exact (h32.ext e37)
  · replace hb23 : (i12.s == i18.s) = false := hb23
    refine sw_skip (mp_seq ?_)
    refine sw_seq ?_
    refine sw_seq ?_
    refine sw_reg ?_
    refine sy_pure 23 (.adr 2 1) ?_
    refine sy_ldv 24 (.v (.slice i12.m.a i12.m.n i12.m.c)) ty22 part_one ?_
    refine sy_pure 25 (.adr 3 1) ?_
    refine sy_ldv 26 (.v (.slice i18.m.a i18.m.n i18.m.c)) ty22 part_one ?_
    refine sy_call 27 103 [.slice i12.m.a i12.m.n i12.m.c, .slice i18.m.a i18.m.n i18.m.c] ?_
    intro w38 u38 e38 d38
    have k41 := k_rnCompare d38 ((int_mag h13).ext (e17.trans (g21.ext.trans e38))).raw ((int_mag h19).ext e38).raw (by omega) (by omega)
    with_reducible refine Post.mono k41 ?_
    clear k41
    rintro _ u39 g40 rfl
    refine sy_pure 28 (.v (.bool (decide ((0 : Int) ≤ (Nt.cmpS ((zN : Int).natAbs) ((zM : Int).natAbs)))))) ?_
    refine sy_next 47 [(2, .adr 2 0), (3, .adr 3 0), (4, .adr 4 0), (28, .v (.bool (decide ((0 : Int) ≤ (Nt.cmpS ((zN : Int).natAbs) ((zM : Int).natAbs))))))] [(2, ⟨24, i12.cs⟩), (3, ⟨24, i18.cs⟩), (4, ⟨24, [.bool false, .slice none 0 0]⟩)] ?_
    refine sw_cond (b := decide ((0 : Int) ≤ (Nt.cmpS ((zN : Int).natAbs) ((zM : Int).natAbs)))) (by kernel_rfl) (fun hb42 => ?_) (fun hb42 => ?_)
    · replace hb42 : (decide ((0 : Int) ≤ (Nt.cmpS ((zN : Int).natAbs) ((zM : Int).natAbs)))) = true := hb42
      refine sw_seq ?_
      refine sw_any [0, 1, 0, 4, 0, 16, 60, 127, 255, 511] [(0, []), (1, []), (2, []), (3, []), (4, []), (5, []), (6, []), (7, []), (8, []), (9, [])] (by kernel_rfl) (by kernel_rfl) ?_
      refine sy_pure 29 (.adr 2 0) ?_
      refine sy_ldv 30 (.v (.bool i12.s)) ty4 part_one ?_
      refine sy_pure 31 (.adr 2 1) ?_
      refine sy_ldv 32 (.v (.slice i12.m.a i12.m.n i12.m.c)) ty22 part_one ?_
      refine sy_pure 33 (.adr 3 1) ?_
      refine sy_ldv 34 (.v (.slice i18.m.a i18.m.n i18.m.c)) ty22 part_one ?_
      refine sy_call 35 104 [.slice i12.m.a i12.m.n i12.m.c, .slice i18.m.a i18.m.n i18.m.c] ?_
      intro w43 u43 e43 d43
      have k48 := k_rnSub d43 ((int_mag h13).ext (e17.trans (g21.ext.trans (e38.trans (g40.ext.trans e43))))).raw ((int_mag h19).ext (e38.trans (g40.ext.trans e43))).raw (by omega) (by omega)
      with_reducible refine Post.mono k48 ?_
      clear k48
      rintro _ u46 g47 ⟨x44, rfl, h45⟩
      refine sy_pure 36 (.v (.agg #[.bool i12.s, .slice x44.a x44.n x44.c])) ?_
      refine sy_call 37 93 [.agg #[.bool i12.s, .slice x44.a x44.n x44.c]] ?_
      intro w49 u49 e49 d49
      have k54 := k_riTrim d49 (IntV.same (s := i12.s) (h45.ext e49).raw) (by omega)
      with_reducible refine Post.mono k54 ?_
      clear k54
      rintro _ u52 g53 ⟨i50, rfl, h51⟩
      refine sy_store ⟨24, i50.cs⟩ ty24 ?_
      refine sy_next 47 [(4, .adr 4 0)] [(4, ⟨24, i50.cs⟩)] ?_
      refine sw_ret (mpr_seq (ret0 [i50.v] ⟨res_cell ty24 part_agg, trivial⟩ fun u55 e56 => ?_))
      refine ⟨i50, rfl, IntN.more (K := K) ?_ (by omega)⟩
      have h9 : zN + zM = (Nt.sg i12.s ((zN : Int).natAbs - (zM : Int).natAbs)) := by
        rw [Nt.sg_add4 _ _ hb23 hb42]
        rw [← IntN.sg h13, ← IntN.sg h19]
      rw [h9]
      exact (h51.ext e56)
    · replace hb42 : (decide ((0 : Int) ≤ (Nt.cmpS ((zN : Int).natAbs) ((zM : Int).natAbs)))) = false := hb42
      refine sw_skip (mp_seq ?_)
      refine sw_seq ?_
      refine sw_any [0, 1, 0, 4, 0, 16, 60, 127, 255, 511] [(0, []), (1, []), (2, []), (3, []), (4, []), (5, []), (6, []), (7, []), (8, []), (9, [])] (by kernel_rfl) (by kernel_rfl) ?_
      refine sy_pure 38 (.adr 3 0) ?_
      refine sy_ldv 39 (.v (.bool i18.s)) ty4 part_one ?_
      refine sy_pure 40 (.adr 3 1) ?_
      refine sy_ldv 41 (.v (.slice i18.m.a i18.m.n i18.m.c)) ty22 part_one ?_
      refine sy_pure 42 (.adr 2 1) ?_
      refine sy_ldv 43 (.v (.slice i12.m.a i12.m.n i12.m.c)) ty22 part_one ?_
      refine sy_call 44 104 [.slice i18.m.a i18.m.n i18.m.c, .slice i12.m.a i12.m.n i12.m.c] ?_
      intro w57 u57 e57 d57
      have k62 := k_rnSub d57 ((int_mag h19).ext (e38.trans (g40.ext.trans e57))).raw ((int_mag h13).ext (e17.trans (g21.ext.trans (e38.trans (g40.ext.trans e57))))).raw (by omega) (by omega)
      with_reducible refine Post.mono k62 ?_
      clear k62
      rintro _ u60 g61 ⟨x58, rfl, h59⟩
      refine sy_pure 45 (.v (.agg #[.bool i18.s, .slice x58.a x58.n x58.c])) ?_
      refine sy_call 46 93 [.agg #[.bool i18.s, .slice x58.a x58.n x58.c]] ?_
      intro w63 u63 e63 d63
      have k68 := k_riTrim d63 (IntV.same (s := i18.s) (h59.ext e63).raw) (by omega)
      with_reducible refine Post.mono k68 ?_
      clear k68
      rintro _ u66 g67 ⟨i64, rfl, h65⟩
      refine sy_store ⟨24, i64.cs⟩ ty24 ?_
      refine sy_next 47 [(4, .adr 4 0)] [(4, ⟨24, i64.cs⟩)] ?_
      refine sw_ret (ret0 [i64.v] ⟨res_cell ty24 part_agg, trivial⟩ fun u69 e70 => ?_)
      refine ⟨i64, rfl, IntN.more (K := L) ?_ (by omega)⟩
      have h9 : zN + zM = (Nt.sg i18.s ((zM : Int).natAbs - (zN : Int).natAbs)) := by
        rw [Nt.sg_add5 _ _ hb23 hb42]
        rw [← IntN.sg h13, ← IntN.sg h19]
      rw [h9]
      exact (h65.ext e70)
theorem k_riSub {u w : World} {i1 : IL} {zN : Int} {K : Nat} {i2 : IL} {zM : Int} {L : Nat} (d : Dat u w) (hi1 : IntV u i1 zN K) (hi2 : IntV u i2 zM L) (hK : K ≤ 400000000) (hL : L ≤ 400000000) : Calls Try.prog 139 #[i1.v, i2.v] w (Post u w fun v u' => ∃ i : IL, v = i.v ∧ IntN u' i (zN - zM) (max K L + 1)) := by
  refine calls_sym (args := [i1.v, i2.v]) Try.func139 rfl Try.ntmps139 (rs := [.cell 4 24]) Try.results139 (le_b rfl) (le_b rfl) d ?_
  refine sw_seq ?_
  refine sw_reg ?_
  refine sy_new 2 ⟨24, i1.cs⟩ ?_
  refine sy_new 3 ⟨24, i2.cs⟩ ?_
  refine sy_new 4 ⟨24, [.bool false, .slice none 0 0]⟩ ?_
  refine sy_next 9 [(2, .adr 2 0), (3, .adr 3 0), (4, .adr 4 0)] [(2, ⟨24, i1.cs⟩), (3, ⟨24, i2.cs⟩), (4, ⟨24, [.bool false, .slice none 0 0]⟩)] ?_
  refine sw_seq ?_
  refine sw_any [0, 0, 2, 7, 15] [(0, []), (1, []), (2, []), (3, []), (4, [])] (by kernel_rfl) (by kernel_rfl) ?_
  refine sy_ldv 5 (.v (i1.v)) ty24 part_agg ?_
  refine sy_ldv 6 (.v (i2.v)) ty24 part_agg ?_
  refine sy_call 7 101 [i2.v] ?_
  intro w11 u11 e11 d11
  have k16 := k_riNeg d11 (hi2.ext e11) (by omega)
  with_reducible refine Post.mono k16 ?_
  clear k16
  rintro _ u14 g15 ⟨i12, rfl, h13⟩
  refine sy_call 8 66 [i1.v, i12.v] ?_
  intro w17 u17 e17 d17
  have k22 := k_riAdd d17 (hi1.ext (e11.trans (g15.ext.trans e17))) (h13.ext e17).raw (by omega) (by omega)
  with_reducible refine Post.mono k22 ?_
  clear k22
  rintro _ u20 g21 ⟨i18, rfl, h19⟩
  refine sy_store ⟨24, i18.cs⟩ ty24 ?_
  refine sy_next 9 [(4, .adr 4 0)] [(4, ⟨24, i18.cs⟩)] ?_
  refine sw_ret (ret0 [i18.v] ⟨res_cell ty24 part_agg, trivial⟩ fun u23 e24 => ?_)
  refine ⟨i18, rfl, ?_⟩
  rw [Int.sub_eq_add_neg]
  exact (h19.ext e24)
theorem k_riCompare {u w : World} {i1 : IL} {zN : Int} {K : Nat} {i2 : IL} {zM : Int} {L : Nat} (d : Dat u w) (hi1 : IntV u i1 zN K) (hi2 : IntV u i2 zM L) (hK : K ≤ 400000000) (hL : L ≤ 400000000) : Calls Try.prog 128 #[i1.v, i2.v] w (Post u w fun v u' => v = .int .i64 (Nt.cmpS zN zM)) := by
  refine calls_sym (args := [i1.v, i2.v]) Try.func128 rfl Try.ntmps128 (rs := [.tmp 4]) Try.results128 (le_b rfl) (le_b rfl) d ?_
  refine sw_seq ?_
  refine sw_reg ?_
  refine sy_new 2 ⟨24, i1.cs⟩ ?_
  refine sy_new 3 ⟨24, i2.cs⟩ ?_
  refine sy_pure 4 (.v (.int .i64 0)) ?_
  refine sy_next 9 [(2, .adr 2 0), (3, .adr 3 0)] [(2, ⟨24, i1.cs⟩), (3, ⟨24, i2.cs⟩)] ?_
  refine sw_seq ?_
  refine sw_reg ?_
  refine sy_ldv 5 (.v (i1.v)) ty24 part_agg ?_
  refine sy_ldv 6 (.v (i2.v)) ty24 part_agg ?_
  refine sy_call 7 139 [i1.v, i2.v] ?_
  intro w11 u11 e11 d11
  have k16 := k_riSub d11 (hi1.ext e11) (hi2.ext e11) (by omega) (by omega)
  with_reducible refine Post.mono k16 ?_
  clear k16
  rintro _ u14 g15 ⟨i12, rfl, h13⟩
  refine sy_call 8 98 [i12.v] ?_
  intro w17 u17 e17 d17
  have k20 := k_riSign d17 (h13.ext e17).raw (by omega)
  with_reducible refine Post.mono k20 ?_
  clear k20
  rintro _ u18 g19 rfl
  refine sy_pure 4 (.v (.int .i64 (Nt.cmpS (zN - zM) 0))) ?_
  refine sy_next 9 [(4, .v (.int .i64 (Nt.cmpS (zN - zM) 0)))] [] ?_
  refine sw_ret (ret0 [.int .i64 (Nt.cmpS (zN - zM) 0)] ⟨res_tmp, trivial⟩ fun u21 e22 => ?_)
  show Value.int _ _ = Value.int _ _
  rw [Nt.cmp_self_sub]
theorem k_riMul {u w : World} {i1 : IL} {zN : Int} {K : Nat} {i2 : IL} {zM : Int} {L : Nat} (d : Dat u w) (hi1 : IntV u i1 zN K) (hi2 : IntV u i2 zM L) (hK : K ≤ 250000000) (hL : L ≤ 250000000) : Calls Try.prog 67 #[i1.v, i2.v] w (Post u w fun v u' => ∃ i : IL, v = i.v ∧ IntN u' i (zN * zM) (K + L)) := by
  obtain ⟨N, hN, hzN⟩ := hi1
  obtain ⟨M, hM, hzM⟩ := hi2
  refine calls_sym (args := [i1.v, i2.v]) Try.func67 rfl Try.ntmps67 (rs := [.cell 4 24]) Try.results67 (le_b rfl) (le_b rfl) d ?_
  refine sw_seq ?_
  refine sw_reg ?_
  refine sy_new 2 ⟨24, i1.cs⟩ ?_
  refine sy_new 3 ⟨24, i2.cs⟩ ?_
  refine sy_new 4 ⟨24, [.bool false, .slice none 0 0]⟩ ?_
  refine sy_next 17 [(2, .adr 2 0), (3, .adr 3 0), (4, .adr 4 0)] [(2, ⟨24, i1.cs⟩), (3, ⟨24, i2.cs⟩), (4, ⟨24, [.bool false, .slice none 0 0]⟩)] ?_
  refine sw_seq ?_
  refine sw_any [0, 1, 0, 4, 15, 0, 32, 0, 128, 480, 1023, 2047, 4095] [(0, []), (1, []), (2, []), (3, []), (4, []), (5, []), (6, []), (7, []), (8, []), (9, []), (10, []), (11, []), (12, [])] (by kernel_rfl) (by kernel_rfl) ?_
  refine sy_pure 5 (.adr 2 0) ?_
  refine sy_ldv 6 (.v (.bool i1.s)) ty4 part_one ?_
  refine sy_pure 7 (.adr 3 0) ?_
  refine sy_ldv 8 (.v (.bool i2.s)) ty4 part_one ?_
  refine sy_pure 9 (.v (.bool (!(i1.s == i2.s)))) ?_
  refine sy_pure 10 (.adr 2 1) ?_
  refine sy_ldv 11 (.v (.slice i1.m.a i1.m.n i1.m.c)) ty22 part_one ?_
  refine sy_pure 12 (.adr 3 1) ?_
  refine sy_ldv 13 (.v (.slice i2.m.a i2.m.n i2.m.c)) ty22 part_one ?_
  refine sy_call 14 105 [.slice i1.m.a i1.m.n i1.m.c, .slice i2.m.a i2.m.n i2.m.c] ?_
  intro w11 u11 e11 d11
  have k16 := k_rnMul d11 (hN.ext e11) (hM.ext e11) (by omega) (by omega)
  with_reducible refine Post.mono k16 ?_
  clear k16
  rintro _ u14 g15 ⟨x12, rfl, h13⟩
  refine sy_pure 15 (.v (.agg #[.bool (!(i1.s == i2.s)), .slice x12.a x12.n x12.c])) ?_
  refine sy_call 16 93 [.agg #[.bool (!(i1.s == i2.s)), .slice x12.a x12.n x12.c]] ?_
  intro w17 u17 e17 d17
  have k22 := k_riTrim d17 (IntV.same (s := !(i1.s == i2.s)) (h13.ext e17).raw) (by omega)
  with_reducible refine Post.mono k22 ?_
  clear k22
  rintro _ u20 g21 ⟨i18, rfl, h19⟩
  refine sy_store ⟨24, i18.cs⟩ ty24 ?_
  refine sy_next 17 [(4, .adr 4 0)] [(4, ⟨24, i18.cs⟩)] ?_
  refine sw_ret (ret0 [i18.v] ⟨res_cell ty24 part_agg, trivial⟩ fun u23 e24 => ?_)
  refine ⟨i18, rfl, IntN.more (K := (K + L)) ?_ (by omega)⟩
  rw [hzN, hzM, ← Nt.sg_mul]
  exact (h19.ext e24)
theorem k_riGcd {u w : World} {i1 : IL} {zN : Int} {K : Nat} {i2 : IL} {zM : Int} {L : Nat} (d : Dat u w) (hi1 : IntV u i1 zN K) (hi2 : IntV u i2 zM L) (hK : K ≤ 500000000) (hL : L ≤ 500000000) : Calls Try.prog 99 #[i1.v, i2.v] w (Post u w fun v u' => ∃ i : IL, v = i.v ∧ IntN u' i (Nat.gcd zN.natAbs zM.natAbs : Int) (max K L)) := by
  refine calls_sym (args := [i1.v, i2.v]) Try.func99 rfl Try.ntmps99 (rs := [.cell 4 24]) Try.results99 (le_b rfl) (le_b rfl) d ?_
  refine sw_seq ?_
  refine sw_reg ?_
  refine sy_new 2 ⟨24, i1.cs⟩ ?_
  refine sy_new 3 ⟨24, i2.cs⟩ ?_
  refine sy_new 4 ⟨24, [.bool false, .slice none 0 0]⟩ ?_
  refine sy_next 11 [(2, .adr 2 0), (3, .adr 3 0), (4, .adr 4 0)] [(2, ⟨24, i1.cs⟩), (3, ⟨24, i2.cs⟩), (4, ⟨24, [.bool false, .slice none 0 0]⟩)] ?_
  refine sw_seq ?_
  refine sw_reg ?_
  refine sy_pure 5 (.adr 2 1) ?_
  refine sy_ldv 6 (.v (.slice i1.m.a i1.m.n i1.m.c)) ty22 part_one ?_
  refine sy_pure 7 (.adr 3 1) ?_
  refine sy_ldv 8 (.v (.slice i2.m.a i2.m.n i2.m.c)) ty22 part_one ?_
  refine sy_call 9 121 [.slice i1.m.a i1.m.n i1.m.c, .slice i2.m.a i2.m.n i2.m.c] ?_
  intro w11 u11 e11 d11
  have k16 := k_rnGcd d11 ((IntV.abs hi1).ext e11) ((IntV.abs hi2).ext e11) (by omega) (by omega)
  with_reducible refine Post.mono k16 ?_
  clear k16
  rintro _ u14 g15 ⟨x12, rfl, h13⟩
  refine sy_pure 10 (.v (.agg #[.bool false, .slice x12.a x12.n x12.c])) ?_
  refine sy_store ⟨24, [.bool false, .slice x12.a x12.n x12.c]⟩ ty24 ?_
  refine sy_next 11 [(4, .adr 4 0)] [(4, ⟨24, [.bool false, .slice x12.a x12.n x12.c]⟩)] ?_
  refine sw_ret (ret0 [.agg #[.bool false, .slice x12.a x12.n x12.c]] ⟨res_cell ty24 part_agg, trivial⟩ fun u17 e18 => ?_)
  exact ⟨(⟨false, x12⟩ : IL), rfl, (nat_intN (h13.ext e18))⟩
theorem k_riSame {u w : World} {i1 i2 : IL} {z z' : Int} {K L : Nat} (d : Dat u w) (hi1 : IntN u i1 z K) (hi2 : IntN u i2 z' L) : Calls Try.prog 94 #[i1.v, i2.v] w (Post u w fun v _ => v = .bool (decide (z = z'))) := by
  refine calls_sym (args := [i1.v, i2.v]) Try.func94 rfl Try.ntmps94 (rs := [.tmp 4]) Try.results94 (le_b rfl) (le_b rfl) d ?_
  refine sw_seq ?_
  refine sw_reg ?_
  refine sy_new 2 ⟨24, i1.cs⟩ ?_
  refine sy_new 3 ⟨24, i2.cs⟩ ?_
  refine sy_pure 4 (.v (.bool false)) ?_
  refine sy_next 17 [(2, .adr 2 0), (3, .adr 3 0)] [(2, ⟨24, i1.cs⟩), (3, ⟨24, i2.cs⟩)] ?_
  refine sw_seq ?_
  refine sw_reg ?_
  refine sy_pure 5 (.adr 2 0) ?_
  refine sy_ldv 6 (.v (.bool i1.s)) ty4 part_one ?_
  refine sy_pure 7 (.adr 3 0) ?_
  refine sy_ldv 8 (.v (.bool i2.s)) ty4 part_one ?_
  refine sy_pure 9 (.v (.bool (i1.s == i2.s))) ?_
  rcases Bool.eq_false_or_eq_true (i1.s == i2.s) with hs11 | hs11
  · refine sy_eq 10 (x := .v (.bool (i1.s == i2.s))) (.v (.bool true)) (by rw [hs11]) ?_
    refine sy_pure 11 (.adr 2 1) ?_ (hw := wants1 (g := 5) (b := true) (t := 10) (by kernel_rfl) (by kernel_rfl) (by kernel_rfl))
    refine sy_ldv 12 (.v (.slice i1.m.a i1.m.n i1.m.c)) ty22 part_one ?_ (hw := wants1 (g := 5) (b := true) (t := 10) (by kernel_rfl) (by kernel_rfl) (by kernel_rfl))
    refine sy_pure 13 (.adr 3 1) ?_ (hw := wants1 (g := 5) (b := true) (t := 10) (by kernel_rfl) (by kernel_rfl) (by kernel_rfl))
    refine sy_ldv 14 (.v (.slice i2.m.a i2.m.n i2.m.c)) ty22 part_one ?_ (hw := wants1 (g := 5) (b := true) (t := 10) (by kernel_rfl) (by kernel_rfl) (by kernel_rfl))
    refine sy_call 15 95 [.slice i1.m.a i1.m.n i1.m.c, .slice i2.m.a i2.m.n i2.m.c] ?_ (hw := wants1 (g := 5) (b := true) (t := 10) (by kernel_rfl) (by kernel_rfl) (by kernel_rfl))
    intro w12 u12 e12 d12
    have k15 := k_rnSame d12 ((int_mag hi1).ext e12) ((int_mag hi2).ext e12)
    with_reducible refine Post.mono k15 ?_
    clear k15
    rintro _ u13 g14 rfl
    refine sy_pure 16 (.v (.bool (decide ((z : Int).natAbs = (z' : Int).natAbs)))) ?_
    refine sy_pure 4 (.v (.bool (decide ((z : Int).natAbs = (z' : Int).natAbs)))) ?_
    refine sy_next 17 [(4, .v (.bool (decide ((z : Int).natAbs = (z' : Int).natAbs))))] [] ?_
    refine sw_ret (ret0 [.bool (decide ((z : Int).natAbs = (z' : Int).natAbs))] ⟨res_tmp, trivial⟩ fun u16 e17 => ?_)
    show _ = _
    rw [← same_int hi1 hi2, hs11]
    rfl
  · refine sy_eq 10 (x := .v (.bool (i1.s == i2.s))) (.v (.bool false)) (by rw [hs11]) ?_
    refine sy_drop 11 (unwanted (g := 5) (b := true) (c := false) (t := 10) (by kernel_rfl) (by kernel_rfl) (by kernel_rfl) (by kernel_rfl)) ?_
    refine sy_drop 12 (unwanted (g := 5) (b := true) (c := false) (t := 10) (by kernel_rfl) (by kernel_rfl) (by kernel_rfl) (by kernel_rfl)) ?_
    refine sy_drop 13 (unwanted (g := 5) (b := true) (c := false) (t := 10) (by kernel_rfl) (by kernel_rfl) (by kernel_rfl) (by kernel_rfl)) ?_
    refine sy_drop 14 (unwanted (g := 5) (b := true) (c := false) (t := 10) (by kernel_rfl) (by kernel_rfl) (by kernel_rfl) (by kernel_rfl)) ?_
    refine sy_drop 15 (unwanted (g := 5) (b := true) (c := false) (t := 10) (by kernel_rfl) (by kernel_rfl) (by kernel_rfl) (by kernel_rfl)) ?_
    refine sy_pure 16 (.v (.bool false)) ?_
    refine sy_pure 4 (.v (.bool false)) ?_
    refine sy_next 17 [(4, .v (.bool false))] [] ?_
    refine sw_ret (ret0 [.bool false] ⟨res_tmp, trivial⟩ fun u18 e19 => ?_)
    show _ = _
    rw [← same_int hi1 hi2, hs11]
    rfl
theorem k_riOf {u w : World} {z : Int} (d : Dat u w) (h0 : -9223372036854775808 ≤ z) (h1 : z ≤ 9223372036854775807) : Calls Try.prog 60 #[.int .i64 z] w (Post u w fun v u' => ∃ i : IL, v = i.v ∧ IntN u' i z 2) := by
  by_cases hneg : z < 0
  · refine calls_sym (args := [.int .i64 z]) Try.func60 rfl Try.ntmps60 (rs := [.cell 2 24]) Try.results60 (le_b rfl) (le_b rfl) d ?_
    refine sw_seq ?_
    refine sw_reg ?_
    refine sy_new 2 ⟨24, [.bool false, .slice none 0 0]⟩ ?_
    refine sy_next 28 [(0, .v (.int .i64 z)), (2, .adr 2 0)] [(2, ⟨24, [.bool false, .slice none 0 0]⟩)] ?_
    refine sw_seq ?_
    refine sw_seq ?_
    refine sw_reg ?_
    refine sy_pure 4 (.v (.int .i64 z)) ?_
    refine sy_eq 5 (x := .v (.bool (decide (z < 0)))) (.v (.bool true)) (by rw [show (decide (z < 0)) = true from (by simp; omega)]) ?_
    refine sy_next 28 [(0, .v (.int .i64 z)), (2, .adr 2 0), (5, .v (.bool true))] [(2, ⟨24, [.bool false, .slice none 0 0]⟩)] ?_
    refine sw_true (by kernel_rfl) ?_
    refine sw_seq ?_
    refine sw_reg ?_
    refine sy_pure 6 (.v (.int .i64 z)) ?_
    refine sy_eq 7 (x := .v (.int .i64 (IntKind.i64.wrap (z + 1)))) (.v (.int .i64 (z + 1))) (by rw [show (IntKind.i64.wrap (z + 1)) = (z + 1) from (IntWalk.i64_in _ (by omega))]) ?_
    refine sy_eq 8 (x := .v (.int .i64 (IntKind.i64.wrap (0 - (z + 1))))) (.v (.int .i64 (-z - 1))) (by rw [show (IntKind.i64.wrap (0 - (z + 1))) = (-z - 1) from (by rw [IntWalk.i64_in _ (by omega)]; omega)]) ?_
    refine sy_eq 9 (x := .v (.int .u64 (IntKind.u64.wrap (-z - 1)))) (.v (.int .u64 (-z - 1))) (by rw [show (IntKind.u64.wrap (-z - 1)) = (-z - 1) from (IntWalk.u64_in _ (by omega))]) ?_
    refine sy_eq 10 (x := .v (.int .u64 (IntKind.u64.wrap (-z - 1 + 1)))) (.v (.int .u64 (-z))) (by rw [show (IntKind.u64.wrap (-z - 1 + 1)) = (-z) from (by rw [IntWalk.u64_in _ (by omega)]; omega)]) ?_
    refine sy_pure 3 (.v (.int .u64 (-z))) ?_
    refine sy_next 28 [(2, .adr 2 0), (3, .v (.int .u64 (-z)))] [(2, ⟨24, [.bool false, .slice none 0 0]⟩)] ?_
    refine sw_seq ?_
    refine sw_reg ?_
    refine sy_pure 11 (.v (.int .u64 (-z))) ?_
    refine sy_eq 12 (x := .v (.int .u32 (IntKind.u32.wrap (-z)))) (.v (.int .u32 ((-z) % 4294967296))) (by rw [show (IntKind.u32.wrap (-z)) = ((-z) % 4294967296) from (IntKind.wrap_u32 _)]) ?_
    refine sy_pure 13 (.v (.int .u64 (-z))) ?_
    refine sy_eq 14 (x := .v (.int .u64 (Int.fdiv (-z) (2 ^ 32)))) (.v (.int .u64 ((-z) / 4294967296))) (by rw [show (Int.fdiv (-z) (2 ^ 32)) = ((-z) / 4294967296) from (by rw [Int.fdiv_eq_ediv_of_nonneg _ (by decide)]; rfl)]) ?_
    refine sy_eq 15 (x := .v (.int .u32 (IntKind.u32.wrap ((-z) / 4294967296)))) (.v (.int .u32 ((-z) / 4294967296))) (by rw [show (IntKind.u32.wrap ((-z) / 4294967296)) = ((-z) / 4294967296) from (IntWalk.u32_in _ (by omega))]) ?_
    refine sy_data 16 ⟨82, [.int .u32 ((-z) % 4294967296), .int .u32 ((-z) / 4294967296)]⟩ 2 (fun b11 u12 e13 h14 => ?_)
    refine sy_pure 17 (.v (.agg #[.bool true, .slice (some ⟨b11, 0, none⟩) 2 2])) ?_
    refine sy_call 18 93 [.agg #[.bool true, .slice (some ⟨b11, 0, none⟩) 2 2]] ?_
    intro w15 u15 e15 d15
    have k20 := k_riTrim d15 (IntV.same (s := true) ((two_data (N := z.natAbs) h14 (by omega) (by omega) (by omega)).ext e15)) (by omega)
    with_reducible refine Post.mono k20 ?_
    clear k20
    rintro _ u18 g19 ⟨i16, rfl, h17⟩
    refine sy_store ⟨24, i16.cs⟩ ty24 ?_
    refine sy_next 28 [(2, .adr 2 0)] [(2, ⟨24, i16.cs⟩)] ?_
    refine sw_ret (mpr_seq (ret0 [i16.v] ⟨res_cell ty24 part_agg, trivial⟩ fun u21 e22 => ?_))
    refine ⟨i16, rfl, IntN.more (K := 2) ?_ (by omega)⟩
    have e : z = Nt.sg true z.natAbs := by unfold Nt.sg; simp; omega
    rw [e]
    exact (h17.ext e22)
  · refine calls_sym (args := [.int .i64 z]) Try.func60 rfl Try.ntmps60 (rs := [.cell 2 24]) Try.results60 (le_b rfl) (le_b rfl) d ?_
    refine sw_seq ?_
    refine sw_reg ?_
    refine sy_new 2 ⟨24, [.bool false, .slice none 0 0]⟩ ?_
    refine sy_next 28 [(0, .v (.int .i64 z)), (2, .adr 2 0)] [(2, ⟨24, [.bool false, .slice none 0 0]⟩)] ?_
    refine sw_seq ?_
    refine sw_seq ?_
    refine sw_reg ?_
    refine sy_pure 4 (.v (.int .i64 z)) ?_
    refine sy_eq 5 (x := .v (.bool (decide (z < 0)))) (.v (.bool false)) (by rw [show (decide (z < 0)) = false from (by simp; omega)]) ?_
    refine sy_next 28 [(0, .v (.int .i64 z)), (2, .adr 2 0), (5, .v (.bool false))] [(2, ⟨24, [.bool false, .slice none 0 0]⟩)] ?_
    refine sw_false (by kernel_rfl) ?_
    refine sw_skip (mp_seq ?_)
    refine sw_seq ?_
    refine sw_reg ?_
    refine sy_pure 19 (.v (.int .i64 z)) ?_
    refine sy_eq 20 (x := .v (.int .u32 (IntKind.u32.wrap z))) (.v (.int .u32 (z % 4294967296))) (by rw [show (IntKind.u32.wrap z) = (z % 4294967296) from (IntKind.wrap_u32 _)]) ?_
    refine sy_pure 21 (.v (.int .i64 z)) ?_
    refine sy_eq 22 (x := .v (.int .u64 (IntKind.u64.wrap z))) (.v (.int .u64 (z))) (by rw [show (IntKind.u64.wrap z) = z from (IntWalk.u64_in _ (by omega))]) ?_
    refine sy_eq 23 (x := .v (.int .u64 (Int.fdiv z (2 ^ 32)))) (.v (.int .u64 (z / 4294967296))) (by rw [show (Int.fdiv z (2 ^ 32)) = (z / 4294967296) from (by rw [Int.fdiv_eq_ediv_of_nonneg _ (by decide)]; rfl)]) ?_
    refine sy_eq 24 (x := .v (.int .u32 (IntKind.u32.wrap (z / 4294967296)))) (.v (.int .u32 (z / 4294967296))) (by rw [show (IntKind.u32.wrap (z / 4294967296)) = (z / 4294967296) from (IntWalk.u32_in _ (by omega))]) ?_
    refine sy_data 25 ⟨82, [.int .u32 (z % 4294967296), .int .u32 (z / 4294967296)]⟩ 2 (fun b11 u12 e13 h14 => ?_)
    refine sy_pure 26 (.v (.agg #[.bool false, .slice (some ⟨b11, 0, none⟩) 2 2])) ?_
    refine sy_call 27 93 [.agg #[.bool false, .slice (some ⟨b11, 0, none⟩) 2 2]] ?_
    intro w15 u15 e15 d15
    have k20 := k_riTrim d15 (nat_int ((two_data (N := z.natAbs) h14 (by omega) (by omega) (by omega)).ext e15)) (by omega)
    with_reducible refine Post.mono k20 ?_
    clear k20
    rintro _ u18 g19 ⟨i16, rfl, h17⟩
    refine sy_store ⟨24, i16.cs⟩ ty24 ?_
    refine sy_next 28 [(2, .adr 2 0)] [(2, ⟨24, i16.cs⟩)] ?_
    refine sw_ret (ret0 [i16.v] ⟨res_cell ty24 part_agg, trivial⟩ fun u21 e22 => ?_)
    refine ⟨i16, rfl, IntN.more (K := 2) ?_ (by omega)⟩
    have e : z = Nt.sg false z.natAbs := by unfold Nt.sg; simp; omega
    rw [e]
    exact (h17.ext e22)
set_option maxHeartbeats 2000000 in
theorem k_riDiv {u w : World} {i1 : IL} {zN : Int} {K : Nat} {i2 : IL} {zM : Int} {L : Nat} (d : Dat u w) (hi1 : IntV u i1 zN K) (hi2 : IntV u i2 zM L) (hM0 : zM ≠ 0) (hK : K ≤ 400000000) (hL : L ≤ 400000000) : Calls Try.prog 100 #[i1.v, i2.v] w (Post u w fun v u' => ∃ i j : IL, v = .tuple #[i.v, j.v, .int .i64 0] ∧ IntN u' i (zN / zM) (K + 1) ∧ IntN u' j (zN % zM) L) := by
  have hM : 0 < zM.natAbs := Int.natAbs_pos.2 hM0
  have hL1 : 1 ≤ L := by have h2 := hi2.size; have h3 := Nt.dl_mono (x := zM.natAbs) (y := 1) (by omega); rw [Nt.dl_one] at h3; omega
  refine calls_sym (args := [i1.v, i2.v]) Try.func100 rfl Try.ntmps100 (rs := [.cell 4 24, .cell 5 24, .tmp 6]) Try.results100 (le_b rfl) (le_b rfl) d ?_
  refine sw_seq ?_
  refine sw_reg ?_
  refine sy_new 2 ⟨24, i1.cs⟩ ?_
  refine sy_new 3 ⟨24, i2.cs⟩ ?_
  refine sy_new 4 ⟨24, [.bool false, .slice none 0 0]⟩ ?_
  refine sy_new 5 ⟨24, [.bool false, .slice none 0 0]⟩ ?_
  refine sy_pure 6 (.v (.int .i64 0)) ?_
  refine sy_next 52 [(2, .adr 2 0), (3, .adr 3 0), (4, .adr 4 0), (5, .adr 5 0)] [(2, ⟨24, i1.cs⟩), (3, ⟨24, i2.cs⟩), (4, ⟨24, [.bool false, .slice none 0 0]⟩), (5, ⟨24, [.bool false, .slice none 0 0]⟩)] ?_
  refine sw_seq ?_
  refine sw_any [0, 1, 0, 7, 15, 31] [(0, []), (2, []), (1, []), (3, []), (4, []), (5, [])] (by kernel_rfl) (by kernel_rfl) ?_
  refine sy_ldv 10 (.v (i1.v)) ty24 part_agg ?_
  refine sy_ldv 12 (.v (i2.v)) ty24 part_agg ?_
  refine sy_call 11 93 [i1.v] ?_
  intro w11 u11 e11 d11
  have k16 := k_riTrim d11 (hi1.ext e11) (by omega)
  with_reducible refine Post.mono k16 ?_
  clear k16
  rintro _ u14 g15 ⟨i12, rfl, h13⟩
  refine sy_call 13 93 [i2.v] ?_
  intro w17 u17 e17 d17
  have k22 := k_riTrim d17 (hi2.ext (e11.trans (g15.ext.trans e17))) (by omega)
  with_reducible refine Post.mono k22 ?_
  clear k22
  rintro _ u20 g21 ⟨i18, rfl, h19⟩
  refine sy_store ⟨24, i12.cs⟩ ty24 ?_
  refine sy_store ⟨24, i18.cs⟩ ty24 ?_
  refine sy_next 52 [(2, .adr 2 0), (3, .adr 3 0), (4, .adr 4 0), (5, .adr 5 0)] [(2, ⟨24, i12.cs⟩), (3, ⟨24, i18.cs⟩), (4, ⟨24, [.bool false, .slice none 0 0]⟩), (5, ⟨24, [.bool false, .slice none 0 0]⟩)] ?_
  refine sw_seq ?_
  refine sw_reg ?_
  refine sy_pure 15 (.adr 2 1) ?_
  refine sy_ldv 16 (.v (.slice i12.m.a i12.m.n i12.m.c)) ty22 part_one ?_
  refine sy_pure 17 (.adr 3 1) ?_
  refine sy_ldv 18 (.v (.slice i18.m.a i18.m.n i18.m.c)) ty22 part_one ?_
  refine sy_call 19 122 [.slice i12.m.a i12.m.n i12.m.c, .slice i18.m.a i18.m.n i18.m.c] ?_
  intro w23 u23 e23 d23
  have k30 := k_rnDivMod d23 ((int_mag h13).ext (e17.trans (g21.ext.trans e23))).raw ((int_mag h19).ext e23).raw hM (by omega) (by omega)
  with_reducible refine Post.mono k30 ?_
  clear k30
  rintro _ u28 g29 ⟨x24, x25, rfl, h26, h27⟩
  refine sy_pure 14 (.v (.tuple #[.slice x24.a x24.n x24.c, .slice x25.a x25.n x25.c, .int .i64 0])) ?_
  refine sy_pure 20 (.v (.slice x24.a x24.n x24.c)) ?_
  refine sy_pure 21 (.v (.slice x25.a x25.n x25.c)) ?_
  refine sy_pure 22 (.v (.int .i64 0)) ?_
  refine sy_pure 7 (.v (.slice x24.a x24.n x24.c)) ?_
  refine sy_pure 8 (.v (.slice x25.a x25.n x25.c)) ?_
  refine sy_pure 9 (.v (.int .i64 0)) ?_
  refine sy_next 52 [(2, .adr 2 0), (3, .adr 3 0), (4, .adr 4 0), (5, .adr 5 0), (7, .v (.slice x24.a x24.n x24.c)), (8, .v (.slice x25.a x25.n x25.c)), (9, .v (.int .i64 0))] [(2, ⟨24, i12.cs⟩), (3, ⟨24, i18.cs⟩), (4, ⟨24, [.bool false, .slice none 0 0]⟩), (5, ⟨24, [.bool false, .slice none 0 0]⟩)] ?_
  refine sw_seq ?_
  refine sw_seq ?_
  refine sw_reg ?_
  refine sy_pure 23 (.v (.int .i64 0)) ?_
  refine sy_pure 24 (.v (.bool false)) ?_
  refine sy_next 52 [(2, .adr 2 0), (3, .adr 3 0), (4, .adr 4 0), (5, .adr 5 0), (7, .v (.slice x24.a x24.n x24.c)), (8, .v (.slice x25.a x25.n x25.c)), (9, .v (.int .i64 0)), (24, .v (.bool false))] [(2, ⟨24, i12.cs⟩), (3, ⟨24, i18.cs⟩), (4, ⟨24, [.bool false, .slice none 0 0]⟩), (5, ⟨24, [.bool false, .slice none 0 0]⟩)] ?_
  refine sw_false (by kernel_rfl) ?_
  refine sw_skip (mp_seq ?_)
  refine sw_seq ?_
  refine sw_seq ?_
  refine sw_reg ?_
  refine sy_pure 28 (.adr 2 0) ?_
  refine sy_ldv 29 (.v (.bool i12.s)) ty4 part_one ?_
  rcases Bool.eq_false_or_eq_true i12.s with hs31 | hs31
  · refine sy_eq 30 (x := .v (.bool i12.s)) (.v (.bool true)) (by rw [hs31]) ?_
    refine sy_pure 31 (.v (.slice x25.a x25.n x25.c)) ?_ (hw := wants1 (g := 2) (b := true) (t := 30) (by kernel_rfl) (by kernel_rfl) (by kernel_rfl))
    refine sy_pure 32 (.v (.int .i64 (x25.n : Int))) ?_ (hw := wants1 (g := 2) (b := true) (t := 30) (by kernel_rfl) (by kernel_rfl) (by kernel_rfl))
    refine sy_pure 33 (.v (.bool (decide ((0 : Int) < (x25.n : Int))))) ?_ (hw := wants1 (g := 2) (b := true) (t := 30) (by kernel_rfl) (by kernel_rfl) (by kernel_rfl))
    refine sy_pure 34 (.v (.bool (decide ((0 : Int) < (x25.n : Int))))) ?_
    refine sy_next 52 [(2, .adr 2 0), (3, .adr 3 0), (4, .adr 4 0), (5, .adr 5 0), (7, .v (.slice x24.a x24.n x24.c)), (8, .v (.slice x25.a x25.n x25.c)), (34, .v (.bool (decide ((0 : Int) < (x25.n : Int)))))] [(2, ⟨24, i12.cs⟩), (3, ⟨24, i18.cs⟩), (4, ⟨24, [.bool false, .slice none 0 0]⟩), (5, ⟨24, [.bool false, .slice none 0 0]⟩)] ?_
    refine sw_cond (b := decide ((0 : Int) < (x25.n : Int))) (by kernel_rfl) (fun hb32 => ?_) (fun hb32 => ?_)
    · replace hb32 : (decide ((0 : Int) < (x25.n : Int))) = true := hb32
      refine sw_any [0, 0, 3, 0, 8, 0, 63, 127, 255] [(0, []), (1, []), (3, []), (4, []), (5, []), (2, [36]), (6, []), (7, []), (8, [])] (by kernel_rfl) (by kernel_rfl) ?_
      refine sy_pure 35 (.v (.slice x24.a x24.n x24.c)) ?_
      refine sy_lit 36 ⟨82, [.int .u32 1]⟩ 1 ?_
      refine sy_pure 38 (.adr 3 1) ?_
      refine sy_ldv 39 (.v (.slice i18.m.a i18.m.n i18.m.c)) ty22 part_one ?_
      refine sy_pure 40 (.v (.slice x25.a x25.n x25.c)) ?_
      refine sy_give 37 102 [.v (.slice x24.a x24.n x24.c), .slc 36 0 1 1] [36] (.inr rfl) (pub_mk (by repeat first | exact noAt_of | refine noAt_set ?_ | refine noAt_lit ?_ | refine noAt_new ?_ | refine noAt_setVar ?_ | refine noAt_unpub ?_)) (k := ?_)
      intro B33 w33 u33 e33 d33 v33
      have h35 : u33.heap[B33 36]? = some (.cells #[.int .u32 1] 82 (0, 0)) := v33 36 (by simp) _ rfl
      obtain ⟨b34, hBb34⟩ : ∃ b, B33 36 = b := ⟨_, rfl⟩
      rw [hBb34] at h35
      show Calls _ _ #[.slice x24.a x24.n x24.c, .slice (some ⟨B33 36, 0, none⟩) 1 1] _ _
      rw [hBb34]
      have k40 := k_rnAdd d33 (h26.ext e33).raw (one_data h35).raw (by omega) (by omega)
      with_reducible refine Post.mono k40 ?_
      clear k40
      rintro _ u38 g39 ⟨x36, rfl, h37⟩
      refine sy_call 41 104 [.slice i18.m.a i18.m.n i18.m.c, .slice x25.a x25.n x25.c] ?_
      intro w41 u41 e41 d41
      have k46 := k_rnSub d41 ((int_mag h19).ext (e23.trans (g29.ext.trans (e33.trans (g39.ext.trans e41))))).raw (h27.ext (e33.trans (g39.ext.trans e41))).raw (by omega) (by omega)
      with_reducible refine Post.mono k46 ?_
      clear k46
      rintro _ u44 g45 ⟨x42, rfl, h43⟩
      refine sy_pure 7 (.v (.slice x36.a x36.n x36.c)) ?_
      refine sy_pure 8 (.v (.slice x42.a x42.n x42.c)) ?_
      refine sy_next 52 [(2, .adr 2 0), (3, .adr 3 0), (4, .adr 4 0), (5, .adr 5 0), (7, .v (.slice x36.a x36.n x36.c)), (8, .v (.slice x42.a x42.n x42.c))] [(2, ⟨24, i12.cs⟩), (3, ⟨24, i18.cs⟩), (4, ⟨24, [.bool false, .slice none 0 0]⟩), (5, ⟨24, [.bool false, .slice none 0 0]⟩)] ?_
      refine sw_seq ?_
      refine sw_reg ?_
      refine sy_pure 42 (.adr 2 0) ?_
      refine sy_ldv 43 (.v (.bool i12.s)) ty4 part_one ?_
      refine sy_pure 44 (.adr 3 0) ?_
      refine sy_ldv 45 (.v (.bool i18.s)) ty4 part_one ?_
      refine sy_pure 46 (.v (.bool (!(i12.s == i18.s)))) ?_
      refine sy_pure 47 (.v (.slice x36.a x36.n x36.c)) ?_
      refine sy_pure 48 (.v (.agg #[.bool (!(i12.s == i18.s)), .slice x36.a x36.n x36.c])) ?_
      refine sy_call 49 93 [.agg #[.bool (!(i12.s == i18.s)), .slice x36.a x36.n x36.c]] ?_
      intro w47 u47 e47 d47
      have k52 := k_riTrim d47 (IntV.same (s := !(i12.s == i18.s)) (h37.ext (e41.trans (g45.ext.trans e47))).raw) (by omega)
      with_reducible refine Post.mono k52 ?_
      clear k52
      rintro _ u50 g51 ⟨i48, rfl, h49⟩
      refine sy_pure 50 (.v (.slice x42.a x42.n x42.c)) ?_
      refine sy_pure 51 (.v (.agg #[.bool false, .slice x42.a x42.n x42.c])) ?_
      refine sy_store ⟨24, i48.cs⟩ ty24 ?_
      refine sy_store ⟨24, [.bool false, .slice x42.a x42.n x42.c]⟩ ty24 ?_
      refine sy_pure 6 (.v (.int .i64 0)) ?_
      refine sy_next 52 [(4, .adr 4 0), (5, .adr 5 0), (6, .v (.int .i64 0))] [(4, ⟨24, i48.cs⟩), (5, ⟨24, [.bool false, .slice x42.a x42.n x42.c]⟩)] ?_
      refine sw_ret (ret0 [i48.v, .agg #[.bool false, .slice x42.a x42.n x42.c], .int .i64 0] ⟨res_cell ty24 part_agg, res_cell ty24 part_agg, res_tmp, trivial⟩ fun u53 e54 => ?_)
      have hs := h13.1
      have ht := h19.1
      have hr := h27.pos
      have qhs31 := hs31
      have qhb32 := hb32
      have key := Nt.ediv_neg' zN zM rfl rfl hM (by rw [hs] at hs31; simpa using hs31) (by simp at hb32; omega)
      have hK1 : 1 ≤ K := by have h2 := hi1.size; have h3 := (Nt.dl_pos (x := zN.natAbs)).2 (by rw [hs] at hs31; simp at hs31; omega); omega
      rw [← hs, ← ht] at key
      refine ⟨i48, (⟨false, x42⟩ : IL), rfl, IntN.more (K := (max K 1 + 1)) ?_ (by omega), IntN.more (K := L) ?_ (by omega)⟩
      · rw [key.1]; exact (h49.ext e54)
      · rw [key.2]; exact (nat_intN (h43.ext (e47.trans (g51.ext.trans e54))))
    · replace hb32 : (decide ((0 : Int) < (x25.n : Int))) = false := hb32
      refine sw_skip (mp_seq ?_)
      refine sw_seq ?_
      refine sw_reg ?_
      refine sy_pure 42 (.adr 2 0) ?_
      refine sy_ldv 43 (.v (.bool i12.s)) ty4 part_one ?_
      refine sy_pure 44 (.adr 3 0) ?_
      refine sy_ldv 45 (.v (.bool i18.s)) ty4 part_one ?_
      refine sy_pure 46 (.v (.bool (!(i12.s == i18.s)))) ?_
      refine sy_pure 47 (.v (.slice x24.a x24.n x24.c)) ?_
      refine sy_pure 48 (.v (.agg #[.bool (!(i12.s == i18.s)), .slice x24.a x24.n x24.c])) ?_
      refine sy_call 49 93 [.agg #[.bool (!(i12.s == i18.s)), .slice x24.a x24.n x24.c]] ?_
      intro w55 u55 e55 d55
      have k60 := k_riTrim d55 (IntV.same (s := !(i12.s == i18.s)) (h26.ext e55).raw) (by omega)
      with_reducible refine Post.mono k60 ?_
      clear k60
      rintro _ u58 g59 ⟨i56, rfl, h57⟩
      refine sy_pure 50 (.v (.slice x25.a x25.n x25.c)) ?_
      refine sy_pure 51 (.v (.agg #[.bool false, .slice x25.a x25.n x25.c])) ?_
      refine sy_store ⟨24, i56.cs⟩ ty24 ?_
      refine sy_store ⟨24, [.bool false, .slice x25.a x25.n x25.c]⟩ ty24 ?_
      refine sy_pure 6 (.v (.int .i64 0)) ?_
      refine sy_next 52 [(4, .adr 4 0), (5, .adr 5 0), (6, .v (.int .i64 0))] [(4, ⟨24, i56.cs⟩), (5, ⟨24, [.bool false, .slice x25.a x25.n x25.c]⟩)] ?_
      refine sw_ret (ret0 [i56.v, .agg #[.bool false, .slice x25.a x25.n x25.c], .int .i64 0] ⟨res_cell ty24 part_agg, res_cell ty24 part_agg, res_tmp, trivial⟩ fun u61 e62 => ?_)
      have hs := h13.1
      have ht := h19.1
      have hr := h27.pos
      have qhs31 := hs31
      have qhb32 := hb32
      have key := Nt.ediv_pos zN zM rfl rfl hM (fun hc => by simp at hb32; omega)
      rw [← hs, ← ht] at key
      refine ⟨i56, (⟨false, x25⟩ : IL), rfl, IntN.more (K := K) ?_ (by omega), IntN.more (K := L) ?_ (by omega)⟩
      · rw [key.1]; exact (h57.ext e62)
      · rw [key.2]; exact (nat_intN (h27.ext (e55.trans (g59.ext.trans e62))))
  · refine sy_eq 30 (x := .v (.bool i12.s)) (.v (.bool false)) (by rw [hs31]) ?_
    refine sy_drop 31 (unwanted (g := 2) (b := true) (c := false) (t := 30) (by kernel_rfl) (by kernel_rfl) (by kernel_rfl) (by kernel_rfl)) ?_
    refine sy_drop 32 (unwanted (g := 2) (b := true) (c := false) (t := 30) (by kernel_rfl) (by kernel_rfl) (by kernel_rfl) (by kernel_rfl)) ?_
    refine sy_drop 33 (unwanted (g := 2) (b := true) (c := false) (t := 30) (by kernel_rfl) (by kernel_rfl) (by kernel_rfl) (by kernel_rfl)) ?_
    refine sy_pure 34 (.v (.bool false)) ?_
    refine sy_next 52 [(2, .adr 2 0), (3, .adr 3 0), (4, .adr 4 0), (5, .adr 5 0), (7, .v (.slice x24.a x24.n x24.c)), (8, .v (.slice x25.a x25.n x25.c)), (34, .v (.bool false))] [(2, ⟨24, i12.cs⟩), (3, ⟨24, i18.cs⟩), (4, ⟨24, [.bool false, .slice none 0 0]⟩), (5, ⟨24, [.bool false, .slice none 0 0]⟩)] ?_
    refine sw_false (by kernel_rfl) ?_
    refine sw_skip (mp_seq ?_)
    refine sw_seq ?_
    refine sw_reg ?_
    refine sy_pure 42 (.adr 2 0) ?_
    refine sy_ldv 43 (.v (.bool i12.s)) ty4 part_one ?_
    refine sy_pure 44 (.adr 3 0) ?_
    refine sy_ldv 45 (.v (.bool i18.s)) ty4 part_one ?_
    refine sy_pure 46 (.v (.bool (!(i12.s == i18.s)))) ?_
    refine sy_pure 47 (.v (.slice x24.a x24.n x24.c)) ?_
    refine sy_pure 48 (.v (.agg #[.bool (!(i12.s == i18.s)), .slice x24.a x24.n x24.c])) ?_
    refine sy_call 49 93 [.agg #[.bool (!(i12.s == i18.s)), .slice x24.a x24.n x24.c]] ?_
    intro w63 u63 e63 d63
    have k68 := k_riTrim d63 (IntV.same (s := !(i12.s == i18.s)) (h26.ext e63).raw) (by omega)
    with_reducible refine Post.mono k68 ?_
    clear k68
    rintro _ u66 g67 ⟨i64, rfl, h65⟩
    refine sy_pure 50 (.v (.slice x25.a x25.n x25.c)) ?_
    refine sy_pure 51 (.v (.agg #[.bool false, .slice x25.a x25.n x25.c])) ?_
    refine sy_store ⟨24, i64.cs⟩ ty24 ?_
    refine sy_store ⟨24, [.bool false, .slice x25.a x25.n x25.c]⟩ ty24 ?_
    refine sy_pure 6 (.v (.int .i64 0)) ?_
    refine sy_next 52 [(4, .adr 4 0), (5, .adr 5 0), (6, .v (.int .i64 0))] [(4, ⟨24, i64.cs⟩), (5, ⟨24, [.bool false, .slice x25.a x25.n x25.c]⟩)] ?_
    refine sw_ret (ret0 [i64.v, .agg #[.bool false, .slice x25.a x25.n x25.c], .int .i64 0] ⟨res_cell ty24 part_agg, res_cell ty24 part_agg, res_tmp, trivial⟩ fun u69 e70 => ?_)
    have hs := h13.1
    have ht := h19.1
    have hr := h27.pos
    have qhs31 := hs31
    have key := Nt.ediv_pos zN zM rfl rfl hM (fun hc => by rw [hs] at hs31; simp at hs31; omega)
    rw [← hs, ← ht] at key
    refine ⟨i64, (⟨false, x25⟩ : IL), rfl, IntN.more (K := K) ?_ (by omega), IntN.more (K := L) ?_ (by omega)⟩
    · rw [key.1]; exact (h65.ext e70)
    · rw [key.2]; exact (nat_intN (h27.ext (e63.trans (g67.ext.trans e70))))
end Go.Proofs.Ytnedhbidmfoegaa
