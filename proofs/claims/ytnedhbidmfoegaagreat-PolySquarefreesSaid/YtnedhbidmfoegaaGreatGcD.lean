/- The sizes of the types. Printed by wip/sym/g_ty.py. Contracts of the references of integer and rational. Printed by wip/sym/g_ref.py. Contracts of the reference of rational. Printed by wip/sym/g_rq.py. Contracts of integer. Printed by wip/sym/g_int.py. Contracts of rational. Printed by wip/sym/g_rat.py. Contracts of interval. Printed by wip/sym/g_itv.py. Contracts of the reference of interval, of small functions. Printed by wip/sym/g_r4.py. -/
import Derived.Test.YtnedhbidmfoegaaGreatGcC
import Derived.Test.YtnedhbidmfoegaaGreatProg
import Derived.KernelRfl
namespace Go.Proofs.YtnedhbidmfoegaaGreat
set_option linter.unusedVariables false
open Go.RowKit
theorem ty3 : TyIs Tryz.prog 3 false 1 := fun w => ⟨by kernel_rfl, by kernel_rfl⟩
theorem ty4 : TyIs Tryz.prog 4 false 1 := fun w => ⟨by kernel_rfl, by kernel_rfl⟩
theorem ty22 : TyIs Tryz.prog 22 false 1 := fun w => ⟨by kernel_rfl, by kernel_rfl⟩
theorem ty24 : TyIs Tryz.prog 24 true 2 := fun w => ⟨by kernel_rfl, by kernel_rfl⟩
theorem ty26 : TyIs Tryz.prog 26 true 3 := fun w => ⟨by kernel_rfl, by kernel_rfl⟩
theorem ty105 : TyIs Tryz.prog 105 false 1 := fun w => ⟨by kernel_rfl, by kernel_rfl⟩
theorem ty114 : TyIs Tryz.prog 114 true 3 := fun w => ⟨by kernel_rfl, by kernel_rfl⟩
theorem ty116 : TyIs Tryz.prog 116 true 4 := fun w => ⟨by kernel_rfl, by kernel_rfl⟩
theorem sl22 : SlIs Tryz.prog 22 1 := ⟨105, false, by kernel_rfl, ty105⟩
theorem sl40 : SlIs Tryz.prog 40 3 := ⟨26, true, by kernel_rfl, ty26⟩
theorem sl41 : SlIs Tryz.prog 41 3 := ⟨26, true, by kernel_rfl, ty26⟩
theorem sl42 : SlIs Tryz.prog 42 1 := ⟨3, false, by kernel_rfl, ty3⟩
end Go.Proofs.YtnedhbidmfoegaaGreat
namespace Go.Proofs.YtnedhbidmfoegaaGreat
open Go.RowKit
set_option linter.unusedVariables false
theorem k_riTrim {u w : World} {i1 : IL} {zN : Int} {K : Nat} (d : Dat u w) (hi1 : IntV u i1 zN K) (hK : K ≤ 500000000) : Calls Tryz.prog 160 #[i1.v] w (Post u w fun v u' => ∃ i : IL, v = i.v ∧ IntN u' i zN K) := by
  obtain ⟨N, hN, hzN⟩ := hi1
  refine calls_sym (args := [i1.v]) Tryz.func160 rfl Tryz.ntmps160 (rs := [.cell 2 24]) Tryz.results160 (le_b rfl) (le_b rfl) d ?_
  refine sw_seq ?_
  refine sw_reg ?_
  refine sy_new 1 ⟨24, i1.cs⟩ ?_
  refine sy_new 2 ⟨24, [.bool false, .slice none 0 0]⟩ ?_
  refine sy_next 16 [(1, .adr 1 0), (2, .adr 2 0)] [(1, ⟨24, i1.cs⟩), (2, ⟨24, [.bool false, .slice none 0 0]⟩)] ?_
  refine sw_seq ?_
  refine sw_reg ?_
  refine sy_pure 4 (.adr 1 1) ?_
  refine sy_ldv 5 (.v (.slice i1.m.a i1.m.n i1.m.c)) ty22 part_one ?_
  refine sy_call 6 156 [.slice i1.m.a i1.m.n i1.m.c] ?_
  intro w11 u11 e11 d11
  have k16 := k_rnTrim d11 (hN.ext e11) (by omega)
  with_reducible refine Post.mono k16 ?_
  clear k16
  rintro _ u14 g15 ⟨x12, rfl, h13⟩
  refine sy_pure 3 (.v (.slice x12.a x12.n x12.c)) ?_
  refine sy_next 16 [(1, .adr 1 0), (2, .adr 2 0), (3, .v (.slice x12.a x12.n x12.c))] [(1, ⟨24, i1.cs⟩), (2, ⟨24, [.bool false, .slice none 0 0]⟩)] ?_
  refine sw_seq ?_
  refine sw_reg ?_
  refine sy_pure 7 (.adr 1 0) ?_
  refine sy_ldv 8 (.v (.bool i1.s)) ty4 part_one ?_
  rcases Bool.eq_false_or_eq_true i1.s with hs17 | hs17
  · refine sy_eq 9 (x := .v (.bool i1.s)) (.v (.bool true)) (by rw [hs17]) ?_
    refine sy_pure 10 (.v (.slice x12.a x12.n x12.c)) ?_ (hw := wants1 (g := 2) (b := true) (t := 9) (by kernel_rfl) (by kernel_rfl) (by kernel_rfl))
    refine sy_pure 11 (.v (.int .i64 (x12.n : Int))) ?_ (hw := wants1 (g := 2) (b := true) (t := 9) (by kernel_rfl) (by kernel_rfl) (by kernel_rfl))
    refine sy_pure 12 (.v (.bool (decide ((0 : Int) < (x12.n : Int))))) ?_ (hw := wants1 (g := 2) (b := true) (t := 9) (by kernel_rfl) (by kernel_rfl) (by kernel_rfl))
    refine sy_pure 13 (.v (.bool (decide ((0 : Int) < (x12.n : Int))))) ?_
    refine sy_pure 14 (.v (.slice x12.a x12.n x12.c)) ?_
    refine sy_pure 15 (.v (.agg #[.bool (decide ((0 : Int) < (x12.n : Int))), .slice x12.a x12.n x12.c])) ?_
    refine sy_store ⟨24, [.bool (decide ((0 : Int) < (x12.n : Int))), .slice x12.a x12.n x12.c]⟩ ty24 ?_
    refine sy_next 16 [(2, .adr 2 0)] [(2, ⟨24, [.bool (decide ((0 : Int) < (x12.n : Int))), .slice x12.a x12.n x12.c]⟩)] ?_
    refine sw_ret (ret0 [.agg #[.bool (decide ((0 : Int) < (x12.n : Int))), .slice x12.a x12.n x12.c]] ⟨res_cell ty24 part_agg, trivial⟩ fun u18 e19 => ?_)
    refine ⟨⟨_, x12⟩, rfl, ?_⟩
    rw [hzN, hs17]
    exact signed_int (s := true) (h13.ext e19)
  · refine sy_eq 9 (x := .v (.bool i1.s)) (.v (.bool false)) (by rw [hs17]) ?_
    refine sy_drop 10 (unwanted (g := 2) (b := true) (c := false) (t := 9) (by kernel_rfl) (by kernel_rfl) (by kernel_rfl) (by kernel_rfl)) ?_
    refine sy_drop 11 (unwanted (g := 2) (b := true) (c := false) (t := 9) (by kernel_rfl) (by kernel_rfl) (by kernel_rfl) (by kernel_rfl)) ?_
    refine sy_drop 12 (unwanted (g := 2) (b := true) (c := false) (t := 9) (by kernel_rfl) (by kernel_rfl) (by kernel_rfl) (by kernel_rfl)) ?_
    refine sy_pure 13 (.v (.bool false)) ?_
    refine sy_pure 14 (.v (.slice x12.a x12.n x12.c)) ?_
    refine sy_pure 15 (.v (.agg #[.bool false, .slice x12.a x12.n x12.c])) ?_
    refine sy_store ⟨24, [.bool false, .slice x12.a x12.n x12.c]⟩ ty24 ?_
    refine sy_next 16 [(2, .adr 2 0)] [(2, ⟨24, [.bool false, .slice x12.a x12.n x12.c]⟩)] ?_
    refine sw_ret (ret0 [.agg #[.bool false, .slice x12.a x12.n x12.c]] ⟨res_cell ty24 part_agg, trivial⟩ fun u20 e21 => ?_)
    refine ⟨⟨_, x12⟩, rfl, ?_⟩
    rw [hzN, hs17]
    exact signed_int (s := false) (h13.ext e21)
theorem k_riSign {u w : World} {i1 : IL} {zN : Int} {K : Nat} (d : Dat u w) (hi1 : IntV u i1 zN K) (hK : K ≤ 500000000) : Calls Tryz.prog 125 #[i1.v] w (Post u w fun v u' => v = .int .i64 (Nt.cmpS zN 0)) := by
  refine calls_sym (args := [i1.v]) Tryz.func125 rfl Tryz.ntmps125 (rs := [.tmp 2]) Tryz.results125 (le_b rfl) (le_b rfl) d ?_
  refine sw_seq ?_
  refine sw_reg ?_
  refine sy_new 1 ⟨24, i1.cs⟩ ?_
  refine sy_pure 2 (.v (.int .i64 0)) ?_
  refine sy_next 13 [(1, .adr 1 0)] [(1, ⟨24, i1.cs⟩)] ?_
  refine sw_seq ?_
  refine sw_reg ?_
  refine sy_ldv 3 (.v (i1.v)) ty24 part_agg ?_
  refine sy_call 4 160 [i1.v] ?_
  intro w11 u11 e11 d11
  have k16 := k_riTrim d11 (hi1.ext e11) (by omega)
  with_reducible refine Post.mono k16 ?_
  clear k16
  rintro _ u14 g15 ⟨i12, rfl, h13⟩
  refine sy_store ⟨24, i12.cs⟩ ty24 ?_
  refine sy_next 13 [(1, .adr 1 0)] [(1, ⟨24, i12.cs⟩)] ?_
  refine sw_seq ?_
  refine sw_block ?_
  refine sw_seq ?_
  refine sw_reg ?_
  refine sy_pure 6 (.adr 1 1) ?_
  refine sy_ldv 7 (.v (.slice i12.m.a i12.m.n i12.m.c)) ty22 part_one ?_
  refine sy_pure 8 (.v (.int .i64 (i12.m.n : Int))) ?_
  refine sy_pure 9 (.v (.bool ((i12.m.n : Int) == 0))) ?_
  refine sy_pure 5 (.v (.bool ((i12.m.n : Int) == 0))) ?_
  refine sy_next 13 [(1, .adr 1 0), (5, .v (.bool ((i12.m.n : Int) == 0)))] [(1, ⟨24, i12.cs⟩)] ?_
  refine sw_cond (b := (i12.m.n : Int) == 0) (by kernel_rfl) (fun hb17 => ?_) (fun hb17 => ?_)
  · replace hb17 : ((i12.m.n : Int) == 0) = true := hb17
    have qhb17 : (i12.m.n : Int) = 0 := by simpa using hb17
    refine sw_seq ?_
    refine sw_reg ?_
    refine sy_pure 2 (.v (.int .i64 0)) ?_
    refine sy_next 13 [(2, .v (.int .i64 0))] [] ?_
    refine sw_ret (mpr_block (mpr_seq (ret0 [.int .i64 0] ⟨res_tmp, trivial⟩ fun u18 e19 => ?_)))
    show _ = _
    rw [sign_len h13, if_pos hb17]
    rfl
  · replace hb17 : ((i12.m.n : Int) == 0) = false := hb17
    have qhb17 : ¬ ((i12.m.n : Int) = 0) := by simpa using hb17
    refine sw_seq ?_
    refine sw_reg ?_
    refine sy_pure 11 (.adr 1 0) ?_
    refine sy_ldv 12 (.v (.bool i12.s)) ty4 part_one ?_
    refine sy_pure 10 (.v (.bool i12.s)) ?_
    refine sy_next 13 [(10, .v (.bool i12.s))] [] ?_
    refine sw_cond (b := i12.s) (by kernel_rfl) (fun hb20 => ?_) (fun hb20 => ?_)
    · replace hb20 : i12.s = true := hb20
      refine sw_seq ?_
      refine sw_reg ?_
      refine sy_pure 2 (.v (.int .i64 (-1))) ?_
      refine sy_next 13 [(2, .v (.int .i64 (-1)))] [] ?_
      refine sw_ret (mpr_block (mpr_seq (ret0 [.int .i64 (-1)] ⟨res_tmp, trivial⟩ fun u21 e22 => ?_)))
      show _ = _
      rw [sign_len h13, if_neg (ne_true_of_eq_false hb17), if_pos hb20]
      rfl
    · replace hb20 : i12.s = false := hb20
      refine sw_skip (mp_seq ?_)
      refine sw_seq ?_
      refine sw_reg ?_
      refine sy_pure 2 (.v (.int .i64 1)) ?_
      refine sy_next 13 [(2, .v (.int .i64 1))] [] ?_
      refine sw_ret (ret0 [.int .i64 1] ⟨res_tmp, trivial⟩ fun u23 e24 => ?_)
      show _ = _
      rw [sign_len h13, if_neg (ne_true_of_eq_false hb17), if_neg (ne_true_of_eq_false hb20)]
      rfl
theorem k_riNeg {u w : World} {i1 : IL} {zN : Int} {K : Nat} (d : Dat u w) (hi1 : IntV u i1 zN K) (hK : K ≤ 500000000) : Calls Tryz.prog 159 #[i1.v] w (Post u w fun v u' => ∃ i : IL, v = i.v ∧ IntN u' i (-zN) K) := by
  refine calls_sym (args := [i1.v]) Tryz.func159 rfl Tryz.ntmps159 (rs := [.cell 2 24]) Tryz.results159 (le_b rfl) (le_b rfl) d ?_
  refine sw_seq ?_
  refine sw_reg ?_
  refine sy_new 1 ⟨24, i1.cs⟩ ?_
  refine sy_new 2 ⟨24, [.bool false, .slice none 0 0]⟩ ?_
  refine sy_next 16 [(1, .adr 1 0), (2, .adr 2 0)] [(1, ⟨24, i1.cs⟩), (2, ⟨24, [.bool false, .slice none 0 0]⟩)] ?_
  refine sw_seq ?_
  refine sw_reg ?_
  refine sy_ldv 3 (.v (i1.v)) ty24 part_agg ?_
  refine sy_call 4 160 [i1.v] ?_
  intro w11 u11 e11 d11
  have k16 := k_riTrim d11 (hi1.ext e11) (by omega)
  with_reducible refine Post.mono k16 ?_
  clear k16
  rintro _ u14 g15 ⟨i12, rfl, h13⟩
  refine sy_store ⟨24, i12.cs⟩ ty24 ?_
  refine sy_next 16 [(1, .adr 1 0), (2, .adr 2 0)] [(1, ⟨24, i12.cs⟩), (2, ⟨24, [.bool false, .slice none 0 0]⟩)] ?_
  refine sw_seq ?_
  refine sw_reg ?_
  refine sy_pure 5 (.adr 1 0) ?_
  refine sy_ldv 6 (.v (.bool i12.s)) ty4 part_one ?_
  refine sy_pure 7 (.v (.bool (!i12.s))) ?_
  rcases Bool.eq_false_or_eq_true (!i12.s) with hs17 | hs17
  · refine sy_eq 8 (x := .v (.bool (!i12.s))) (.v (.bool true)) (by rw [hs17]) ?_
    refine sy_pure 9 (.adr 1 1) ?_ (hw := wants1 (g := 3) (b := true) (t := 8) (by kernel_rfl) (by kernel_rfl) (by kernel_rfl))
    refine sy_ldv 10 (.v (.slice i12.m.a i12.m.n i12.m.c)) ty22 part_one ?_ (hw := wants1 (g := 3) (b := true) (t := 8) (by kernel_rfl) (by kernel_rfl) (by kernel_rfl))
    refine sy_pure 11 (.v (.int .i64 (i12.m.n : Int))) ?_ (hw := wants1 (g := 3) (b := true) (t := 8) (by kernel_rfl) (by kernel_rfl) (by kernel_rfl))
    refine sy_pure 12 (.v (.bool (decide ((0 : Int) < (i12.m.n : Int))))) ?_ (hw := wants1 (g := 3) (b := true) (t := 8) (by kernel_rfl) (by kernel_rfl) (by kernel_rfl))
    refine sy_pure 13 (.v (.bool (decide ((0 : Int) < (i12.m.n : Int))))) ?_
    refine sy_pure 14 (.adr 1 0) ?_
    refine sy_store ⟨24, [.bool (decide ((0 : Int) < (i12.m.n : Int))), .slice i12.m.a i12.m.n i12.m.c]⟩ ty4 ?_
    refine sy_next 16 [(1, .adr 1 0), (2, .adr 2 0)] [(1, ⟨24, [.bool (decide ((0 : Int) < (i12.m.n : Int))), .slice i12.m.a i12.m.n i12.m.c]⟩), (2, ⟨24, [.bool false, .slice none 0 0]⟩)] ?_
    refine sw_seq ?_
    refine sw_reg ?_
    refine sy_ldv 15 (.v (.agg #[.bool (decide ((0 : Int) < (i12.m.n : Int))), .slice i12.m.a i12.m.n i12.m.c])) ty24 part_agg ?_
    refine sy_store ⟨24, [.bool (decide ((0 : Int) < (i12.m.n : Int))), .slice i12.m.a i12.m.n i12.m.c]⟩ ty24 ?_
    refine sy_next 16 [(2, .adr 2 0)] [(2, ⟨24, [.bool (decide ((0 : Int) < (i12.m.n : Int))), .slice i12.m.a i12.m.n i12.m.c]⟩)] ?_
    refine sw_ret (ret0 [.agg #[.bool (decide ((0 : Int) < (i12.m.n : Int))), .slice i12.m.a i12.m.n i12.m.c]] ⟨res_cell ty24 part_agg, trivial⟩ fun u18 e19 => ?_)
    refine ⟨⟨_, i12.m⟩, rfl, ?_⟩
    have h9 := neg_int (h13.ext e19)
    rw [hs17] at h9
    exact h9
  · refine sy_eq 8 (x := .v (.bool (!i12.s))) (.v (.bool false)) (by rw [hs17]) ?_
    refine sy_drop 9 (unwanted (g := 3) (b := true) (c := false) (t := 8) (by kernel_rfl) (by kernel_rfl) (by kernel_rfl) (by kernel_rfl)) ?_
    refine sy_drop 10 (unwanted (g := 3) (b := true) (c := false) (t := 8) (by kernel_rfl) (by kernel_rfl) (by kernel_rfl) (by kernel_rfl)) ?_
    refine sy_drop 11 (unwanted (g := 3) (b := true) (c := false) (t := 8) (by kernel_rfl) (by kernel_rfl) (by kernel_rfl) (by kernel_rfl)) ?_
    refine sy_drop 12 (unwanted (g := 3) (b := true) (c := false) (t := 8) (by kernel_rfl) (by kernel_rfl) (by kernel_rfl) (by kernel_rfl)) ?_
    refine sy_pure 13 (.v (.bool false)) ?_
    refine sy_pure 14 (.adr 1 0) ?_
    refine sy_store ⟨24, [.bool false, .slice i12.m.a i12.m.n i12.m.c]⟩ ty4 ?_
    refine sy_next 16 [(1, .adr 1 0), (2, .adr 2 0)] [(1, ⟨24, [.bool false, .slice i12.m.a i12.m.n i12.m.c]⟩), (2, ⟨24, [.bool false, .slice none 0 0]⟩)] ?_
    refine sw_seq ?_
    refine sw_reg ?_
    refine sy_ldv 15 (.v (.agg #[.bool false, .slice i12.m.a i12.m.n i12.m.c])) ty24 part_agg ?_
    refine sy_store ⟨24, [.bool false, .slice i12.m.a i12.m.n i12.m.c]⟩ ty24 ?_
    refine sy_next 16 [(2, .adr 2 0)] [(2, ⟨24, [.bool false, .slice i12.m.a i12.m.n i12.m.c]⟩)] ?_
    refine sw_ret (ret0 [.agg #[.bool false, .slice i12.m.a i12.m.n i12.m.c]] ⟨res_cell ty24 part_agg, trivial⟩ fun u20 e21 => ?_)
    refine ⟨⟨_, i12.m⟩, rfl, ?_⟩
    have h9 := neg_int (h13.ext e21)
    rw [hs17] at h9
    exact h9
set_option maxHeartbeats 1000000 in
theorem k_riAdd {u w : World} {i1 : IL} {zN : Int} {K : Nat} {i2 : IL} {zM : Int} {L : Nat} (d : Dat u w) (hi1 : IntV u i1 zN K) (hi2 : IntV u i2 zM L) (hK : K ≤ 400000000) (hL : L ≤ 400000000) : Calls Tryz.prog 107 #[i1.v, i2.v] w (Post u w fun v u' => ∃ i : IL, v = i.v ∧ IntN u' i (zN + zM) (max K L + 1)) := by
  refine calls_sym (args := [i1.v, i2.v]) Tryz.func107 rfl Tryz.ntmps107 (rs := [.cell 4 24]) Tryz.results107 (le_b rfl) (le_b rfl) d ?_
  refine sw_seq ?_
  refine sw_reg ?_
  refine sy_new 2 ⟨24, i1.cs⟩ ?_
  refine sy_new 3 ⟨24, i2.cs⟩ ?_
  refine sy_new 4 ⟨24, [.bool false, .slice none 0 0]⟩ ?_
  refine sy_next 47 [(2, .adr 2 0), (3, .adr 3 0), (4, .adr 4 0)] [(2, ⟨24, i1.cs⟩), (3, ⟨24, i2.cs⟩), (4, ⟨24, [.bool false, .slice none 0 0]⟩)] ?_
  refine sw_seq ?_
  refine sw_any [0, 1, 0, 7, 15, 31] [(0, []), (2, []), (1, []), (3, []), (4, []), (5, [])] (by kernel_rfl) (by kernel_rfl) ?_
  refine sy_ldv 5 (.v (i1.v)) ty24 part_agg ?_
  refine sy_ldv 7 (.v (i2.v)) ty24 part_agg ?_
  refine sy_call 6 160 [i1.v] ?_
  intro w11 u11 e11 d11
  have k16 := k_riTrim d11 (hi1.ext e11) (by omega)
  with_reducible refine Post.mono k16 ?_
  clear k16
  rintro _ u14 g15 ⟨i12, rfl, h13⟩
  refine sy_call 8 160 [i2.v] ?_
  intro w17 u17 e17 d17
  have k22 := k_riTrim d17 (hi2.ext (e11.trans (g15.ext.trans e17))) (by omega)
  with_reducible refine Post.mono k22 ?_
  clear k22
  rintro _ u20 g21 ⟨i18, rfl, h19⟩
  refine sy_store ⟨24, i12.cs⟩ ty24 ?_
  refine sy_store ⟨24, i18.cs⟩ ty24 ?_
  refine sy_next 47 [(2, .adr 2 0), (3, .adr 3 0), (4, .adr 4 0)] [(2, ⟨24, i12.cs⟩), (3, ⟨24, i18.cs⟩), (4, ⟨24, [.bool false, .slice none 0 0]⟩)] ?_
  refine sw_seq ?_
  refine sw_seq ?_
  refine sw_reg ?_
  refine sy_pure 9 (.adr 2 0) ?_
  refine sy_ldv 10 (.v (.bool i12.s)) ty4 part_one ?_
  refine sy_pure 11 (.adr 3 0) ?_
  refine sy_ldv 12 (.v (.bool i18.s)) ty4 part_one ?_
  refine sy_pure 13 (.v (.bool (i12.s == i18.s))) ?_
  refine sy_next 47 [(2, .adr 2 0), (3, .adr 3 0), (4, .adr 4 0), (13, .v (.bool (i12.s == i18.s)))] [(2, ⟨24, i12.cs⟩), (3, ⟨24, i18.cs⟩), (4, ⟨24, [.bool false, .slice none 0 0]⟩)] ?_
  refine sw_cond (b := i12.s == i18.s) (by kernel_rfl) (fun hb23 => ?_) (fun hb23 => ?_)
  · replace hb23 : (i12.s == i18.s) = true := hb23
    refine sw_seq ?_
    refine sw_any [0, 1, 0, 4, 0, 16, 60, 127, 255, 511] [(0, []), (1, []), (2, []), (3, []), (4, []), (5, []), (6, []), (7, []), (8, []), (9, [])] (by kernel_rfl) (by kernel_rfl) ?_
    refine sy_pure 14 (.adr 2 0) ?_
    refine sy_ldv 15 (.v (.bool i12.s)) ty4 part_one ?_
    refine sy_pure 16 (.adr 2 1) ?_
    refine sy_ldv 17 (.v (.slice i12.m.a i12.m.n i12.m.c)) ty22 part_one ?_
    refine sy_pure 18 (.adr 3 1) ?_
    refine sy_ldv 19 (.v (.slice i18.m.a i18.m.n i18.m.c)) ty22 part_one ?_
    refine sy_call 20 161 [.slice i12.m.a i12.m.n i12.m.c, .slice i18.m.a i18.m.n i18.m.c] ?_
    intro w24 u24 e24 d24
    have k29 := k_rnAdd d24 ((int_mag h13).ext (e17.trans (g21.ext.trans e24))).raw ((int_mag h19).ext e24).raw (by omega) (by omega)
    with_reducible refine Post.mono k29 ?_
    clear k29
    rintro _ u27 g28 ⟨x25, rfl, h26⟩
    refine sy_pure 21 (.v (.agg #[.bool i12.s, .slice x25.a x25.n x25.c])) ?_
    refine sy_call 22 160 [.agg #[.bool i12.s, .slice x25.a x25.n x25.c]] ?_
    intro w30 u30 e30 d30
    have k35 := k_riTrim d30 (IntV.same (s := i12.s) (h26.ext e30).raw) (by omega)
    with_reducible refine Post.mono k35 ?_
    clear k35
    rintro _ u33 g34 ⟨i31, rfl, h32⟩
    refine sy_store ⟨24, i31.cs⟩ ty24 ?_
    refine sy_next 47 [(4, .adr 4 0)] [(4, ⟨24, i31.cs⟩)] ?_
    refine sw_ret (mpr_seq (ret0 [i31.v] ⟨res_cell ty24 part_agg, trivial⟩ fun u36 e37 => ?_))
    refine ⟨i31, rfl, IntN.more (K := (max K L + 1)) ?_ (by omega)⟩
    have h9 : zN + zM = (Nt.sg i12.s ((zN : Int).natAbs + (zM : Int).natAbs)) := by
      rw [Nt.sg_add1 _ _ hb23]
      rw [← IntN.sg h13, ← IntN.sg h19]
    rw [h9]
    exact (h32.ext e37)
  · replace hb23 : (i12.s == i18.s) = false := hb23
    refine sw_skip (mp_seq ?_)
    refine sw_seq ?_
    refine sw_seq ?_
    refine sw_reg ?_
    refine sy_pure 23 (.adr 2 1) ?_
    refine sy_ldv 24 (.v (.slice i12.m.a i12.m.n i12.m.c)) ty22 part_one ?_
    refine sy_pure 25 (.adr 3 1) ?_
    refine sy_ldv 26 (.v (.slice i18.m.a i18.m.n i18.m.c)) ty22 part_one ?_
    refine sy_call 27 162 [.slice i12.m.a i12.m.n i12.m.c, .slice i18.m.a i18.m.n i18.m.c] ?_
    intro w38 u38 e38 d38
    have k41 := k_rnCompare d38 ((int_mag h13).ext (e17.trans (g21.ext.trans e38))).raw ((int_mag h19).ext e38).raw (by omega) (by omega)
    with_reducible refine Post.mono k41 ?_
    clear k41
    rintro _ u39 g40 rfl
    refine sy_pure 28 (.v (.bool (decide ((0 : Int) ≤ (Nt.cmpS ((zN : Int).natAbs) ((zM : Int).natAbs)))))) ?_
    refine sy_next 47 [(2, .adr 2 0), (3, .adr 3 0), (4, .adr 4 0), (28, .v (.bool (decide ((0 : Int) ≤ (Nt.cmpS ((zN : Int).natAbs) ((zM : Int).natAbs))))))] [(2, ⟨24, i12.cs⟩), (3, ⟨24, i18.cs⟩), (4, ⟨24, [.bool false, .slice none 0 0]⟩)] ?_
    refine sw_cond (b := decide ((0 : Int) ≤ (Nt.cmpS ((zN : Int).natAbs) ((zM : Int).natAbs)))) (by kernel_rfl) (fun hb42 => ?_) (fun hb42 => ?_)
    · replace hb42 : (decide ((0 : Int) ≤ (Nt.cmpS ((zN : Int).natAbs) ((zM : Int).natAbs)))) = true := hb42
      have qhb42 := of_decide_eq_true hb42
      refine sw_seq ?_
      refine sw_any [0, 1, 0, 4, 0, 16, 60, 127, 255, 511] [(0, []), (1, []), (2, []), (3, []), (4, []), (5, []), (6, []), (7, []), (8, []), (9, [])] (by kernel_rfl) (by kernel_rfl) ?_
      refine sy_pure 29 (.adr 2 0) ?_
      refine sy_ldv 30 (.v (.bool i12.s)) ty4 part_one ?_
      refine sy_pure 31 (.adr 2 1) ?_
      refine sy_ldv 32 (.v (.slice i12.m.a i12.m.n i12.m.c)) ty22 part_one ?_
      refine sy_pure 33 (.adr 3 1) ?_
      refine sy_ldv 34 (.v (.slice i18.m.a i18.m.n i18.m.c)) ty22 part_one ?_
      refine sy_call 35 163 [.slice i12.m.a i12.m.n i12.m.c, .slice i18.m.a i18.m.n i18.m.c] ?_
      intro w43 u43 e43 d43
      have k48 := k_rnSub d43 ((int_mag h13).ext (e17.trans (g21.ext.trans (e38.trans (g40.ext.trans e43))))).raw ((int_mag h19).ext (e38.trans (g40.ext.trans e43))).raw (by omega) (by omega)
      with_reducible refine Post.mono k48 ?_
      clear k48
      rintro _ u46 g47 ⟨x44, rfl, h45⟩
      refine sy_pure 36 (.v (.agg #[.bool i12.s, .slice x44.a x44.n x44.c])) ?_
      refine sy_call 37 160 [.agg #[.bool i12.s, .slice x44.a x44.n x44.c]] ?_
      intro w49 u49 e49 d49
      have k54 := k_riTrim d49 (IntV.same (s := i12.s) (h45.ext e49).raw) (by omega)
      with_reducible refine Post.mono k54 ?_
      clear k54
      rintro _ u52 g53 ⟨i50, rfl, h51⟩
      refine sy_store ⟨24, i50.cs⟩ ty24 ?_
      refine sy_next 47 [(4, .adr 4 0)] [(4, ⟨24, i50.cs⟩)] ?_
      refine sw_ret (mpr_seq (ret0 [i50.v] ⟨res_cell ty24 part_agg, trivial⟩ fun u55 e56 => ?_))
      refine ⟨i50, rfl, IntN.more (K := K) ?_ (by omega)⟩
      have h9 : zN + zM = (Nt.sg i12.s ((zN : Int).natAbs - (zM : Int).natAbs)) := by
        rw [Nt.sg_add4 _ _ hb23 hb42]
        rw [← IntN.sg h13, ← IntN.sg h19]
      rw [h9]
      exact (h51.ext e56)
    · replace hb42 : (decide ((0 : Int) ≤ (Nt.cmpS ((zN : Int).natAbs) ((zM : Int).natAbs)))) = false := hb42
      have qhb42 := of_decide_eq_false hb42
      refine sw_skip (mp_seq ?_)
      refine sw_seq ?_
      refine sw_any [0, 1, 0, 4, 0, 16, 60, 127, 255, 511] [(0, []), (1, []), (2, []), (3, []), (4, []), (5, []), (6, []), (7, []), (8, []), (9, [])] (by kernel_rfl) (by kernel_rfl) ?_
      refine sy_pure 38 (.adr 3 0) ?_
      refine sy_ldv 39 (.v (.bool i18.s)) ty4 part_one ?_
      refine sy_pure 40 (.adr 3 1) ?_
      refine sy_ldv 41 (.v (.slice i18.m.a i18.m.n i18.m.c)) ty22 part_one ?_
      refine sy_pure 42 (.adr 2 1) ?_
      refine sy_ldv 43 (.v (.slice i12.m.a i12.m.n i12.m.c)) ty22 part_one ?_
      refine sy_call 44 163 [.slice i18.m.a i18.m.n i18.m.c, .slice i12.m.a i12.m.n i12.m.c] ?_
      intro w57 u57 e57 d57
      have k62 := k_rnSub d57 ((int_mag h19).ext (e38.trans (g40.ext.trans e57))).raw ((int_mag h13).ext (e17.trans (g21.ext.trans (e38.trans (g40.ext.trans e57))))).raw (by omega) (by omega)
      with_reducible refine Post.mono k62 ?_
      clear k62
      rintro _ u60 g61 ⟨x58, rfl, h59⟩
      refine sy_pure 45 (.v (.agg #[.bool i18.s, .slice x58.a x58.n x58.c])) ?_
      refine sy_call 46 160 [.agg #[.bool i18.s, .slice x58.a x58.n x58.c]] ?_
      intro w63 u63 e63 d63
      have k68 := k_riTrim d63 (IntV.same (s := i18.s) (h59.ext e63).raw) (by omega)
      with_reducible refine Post.mono k68 ?_
      clear k68
      rintro _ u66 g67 ⟨i64, rfl, h65⟩
      refine sy_store ⟨24, i64.cs⟩ ty24 ?_
      refine sy_next 47 [(4, .adr 4 0)] [(4, ⟨24, i64.cs⟩)] ?_
      refine sw_ret (ret0 [i64.v] ⟨res_cell ty24 part_agg, trivial⟩ fun u69 e70 => ?_)
      refine ⟨i64, rfl, IntN.more (K := L) ?_ (by omega)⟩
      have h9 : zN + zM = (Nt.sg i18.s ((zM : Int).natAbs - (zN : Int).natAbs)) := by
        rw [Nt.sg_add5 _ _ hb23 hb42]
        rw [← IntN.sg h13, ← IntN.sg h19]
      rw [h9]
      exact (h65.ext e70)
theorem k_riSub {u w : World} {i1 : IL} {zN : Int} {K : Nat} {i2 : IL} {zM : Int} {L : Nat} (d : Dat u w) (hi1 : IntV u i1 zN K) (hi2 : IntV u i2 zM L) (hK : K ≤ 400000000) (hL : L ≤ 400000000) : Calls Tryz.prog 171 #[i1.v, i2.v] w (Post u w fun v u' => ∃ i : IL, v = i.v ∧ IntN u' i (zN - zM) (max K L + 1)) := by
  refine calls_sym (args := [i1.v, i2.v]) Tryz.func171 rfl Tryz.ntmps171 (rs := [.cell 4 24]) Tryz.results171 (le_b rfl) (le_b rfl) d ?_
  refine sw_seq ?_
  refine sw_reg ?_
  refine sy_new 2 ⟨24, i1.cs⟩ ?_
  refine sy_new 3 ⟨24, i2.cs⟩ ?_
  refine sy_new 4 ⟨24, [.bool false, .slice none 0 0]⟩ ?_
  refine sy_next 9 [(2, .adr 2 0), (3, .adr 3 0), (4, .adr 4 0)] [(2, ⟨24, i1.cs⟩), (3, ⟨24, i2.cs⟩), (4, ⟨24, [.bool false, .slice none 0 0]⟩)] ?_
  refine sw_seq ?_
  refine sw_any [0, 0, 2, 7, 15] [(0, []), (1, []), (2, []), (3, []), (4, [])] (by kernel_rfl) (by kernel_rfl) ?_
  refine sy_ldv 5 (.v (i1.v)) ty24 part_agg ?_
  refine sy_ldv 6 (.v (i2.v)) ty24 part_agg ?_
  refine sy_call 7 159 [i2.v] ?_
  intro w11 u11 e11 d11
  have k16 := k_riNeg d11 (hi2.ext e11) (by omega)
  with_reducible refine Post.mono k16 ?_
  clear k16
  rintro _ u14 g15 ⟨i12, rfl, h13⟩
  refine sy_call 8 107 [i1.v, i12.v] ?_
  intro w17 u17 e17 d17
  have k22 := k_riAdd d17 (hi1.ext (e11.trans (g15.ext.trans e17))) (h13.ext e17).raw (by omega) (by omega)
  with_reducible refine Post.mono k22 ?_
  clear k22
  rintro _ u20 g21 ⟨i18, rfl, h19⟩
  refine sy_store ⟨24, i18.cs⟩ ty24 ?_
  refine sy_next 9 [(4, .adr 4 0)] [(4, ⟨24, i18.cs⟩)] ?_
  refine sw_ret (ret0 [i18.v] ⟨res_cell ty24 part_agg, trivial⟩ fun u23 e24 => ?_)
  refine ⟨i18, rfl, ?_⟩
  rw [Int.sub_eq_add_neg]
  exact (h19.ext e24)
theorem k_riCompare {u w : World} {i1 : IL} {zN : Int} {K : Nat} {i2 : IL} {zM : Int} {L : Nat} (d : Dat u w) (hi1 : IntV u i1 zN K) (hi2 : IntV u i2 zM L) (hK : K ≤ 400000000) (hL : L ≤ 400000000) : Calls Tryz.prog 122 #[i1.v, i2.v] w (Post u w fun v u' => v = .int .i64 (Nt.cmpS zN zM)) := by
  refine calls_sym (args := [i1.v, i2.v]) Tryz.func122 rfl Tryz.ntmps122 (rs := [.tmp 4]) Tryz.results122 (le_b rfl) (le_b rfl) d ?_
  refine sw_seq ?_
  refine sw_reg ?_
  refine sy_new 2 ⟨24, i1.cs⟩ ?_
  refine sy_new 3 ⟨24, i2.cs⟩ ?_
  refine sy_pure 4 (.v (.int .i64 0)) ?_
  refine sy_next 9 [(2, .adr 2 0), (3, .adr 3 0)] [(2, ⟨24, i1.cs⟩), (3, ⟨24, i2.cs⟩)] ?_
  refine sw_seq ?_
  refine sw_reg ?_
  refine sy_ldv 5 (.v (i1.v)) ty24 part_agg ?_
  refine sy_ldv 6 (.v (i2.v)) ty24 part_agg ?_
  refine sy_call 7 171 [i1.v, i2.v] ?_
  intro w11 u11 e11 d11
  have k16 := k_riSub d11 (hi1.ext e11) (hi2.ext e11) (by omega) (by omega)
  with_reducible refine Post.mono k16 ?_
  clear k16
  rintro _ u14 g15 ⟨i12, rfl, h13⟩
  refine sy_call 8 125 [i12.v] ?_
  intro w17 u17 e17 d17
  have k20 := k_riSign d17 (h13.ext e17).raw (by omega)
  with_reducible refine Post.mono k20 ?_
  clear k20
  rintro _ u18 g19 rfl
  refine sy_pure 4 (.v (.int .i64 (Nt.cmpS (zN - zM) 0))) ?_
  refine sy_next 9 [(4, .v (.int .i64 (Nt.cmpS (zN - zM) 0)))] [] ?_
  refine sw_ret (ret0 [.int .i64 (Nt.cmpS (zN - zM) 0)] ⟨res_tmp, trivial⟩ fun u21 e22 => ?_)
  show Value.int _ _ = Value.int _ _
  rw [Nt.cmp_self_sub]
theorem k_riMul {u w : World} {i1 : IL} {zN : Int} {K : Nat} {i2 : IL} {zM : Int} {L : Nat} (d : Dat u w) (hi1 : IntV u i1 zN K) (hi2 : IntV u i2 zM L) (hK : K ≤ 250000000) (hL : L ≤ 250000000) : Calls Tryz.prog 108 #[i1.v, i2.v] w (Post u w fun v u' => ∃ i : IL, v = i.v ∧ IntN u' i (zN * zM) (K + L)) := by
  obtain ⟨N, hN, hzN⟩ := hi1
  obtain ⟨M, hM, hzM⟩ := hi2
  refine calls_sym (args := [i1.v, i2.v]) Tryz.func108 rfl Tryz.ntmps108 (rs := [.cell 4 24]) Tryz.results108 (le_b rfl) (le_b rfl) d ?_
  refine sw_seq ?_
  refine sw_reg ?_
  refine sy_new 2 ⟨24, i1.cs⟩ ?_
  refine sy_new 3 ⟨24, i2.cs⟩ ?_
  refine sy_new 4 ⟨24, [.bool false, .slice none 0 0]⟩ ?_
  refine sy_next 17 [(2, .adr 2 0), (3, .adr 3 0), (4, .adr 4 0)] [(2, ⟨24, i1.cs⟩), (3, ⟨24, i2.cs⟩), (4, ⟨24, [.bool false, .slice none 0 0]⟩)] ?_
  refine sw_seq ?_
  refine sw_any [0, 1, 0, 4, 15, 0, 32, 0, 128, 480, 1023, 2047, 4095] [(0, []), (1, []), (2, []), (3, []), (4, []), (5, []), (6, []), (7, []), (8, []), (9, []), (10, []), (11, []), (12, [])] (by kernel_rfl) (by kernel_rfl) ?_
  refine sy_pure 5 (.adr 2 0) ?_
  refine sy_ldv 6 (.v (.bool i1.s)) ty4 part_one ?_
  refine sy_pure 7 (.adr 3 0) ?_
  refine sy_ldv 8 (.v (.bool i2.s)) ty4 part_one ?_
  refine sy_pure 9 (.v (.bool (!(i1.s == i2.s)))) ?_
  refine sy_pure 10 (.adr 2 1) ?_
  refine sy_ldv 11 (.v (.slice i1.m.a i1.m.n i1.m.c)) ty22 part_one ?_
  refine sy_pure 12 (.adr 3 1) ?_
  refine sy_ldv 13 (.v (.slice i2.m.a i2.m.n i2.m.c)) ty22 part_one ?_
  refine sy_call 14 164 [.slice i1.m.a i1.m.n i1.m.c, .slice i2.m.a i2.m.n i2.m.c] ?_
  intro w11 u11 e11 d11
  have k16 := k_rnMul d11 (hN.ext e11) (hM.ext e11) (by omega) (by omega)
  with_reducible refine Post.mono k16 ?_
  clear k16
  rintro _ u14 g15 ⟨x12, rfl, h13⟩
  refine sy_pure 15 (.v (.agg #[.bool (!(i1.s == i2.s)), .slice x12.a x12.n x12.c])) ?_
  refine sy_call 16 160 [.agg #[.bool (!(i1.s == i2.s)), .slice x12.a x12.n x12.c]] ?_
  intro w17 u17 e17 d17
  have k22 := k_riTrim d17 (IntV.same (s := !(i1.s == i2.s)) (h13.ext e17).raw) (by omega)
  with_reducible refine Post.mono k22 ?_
  clear k22
  rintro _ u20 g21 ⟨i18, rfl, h19⟩
  refine sy_store ⟨24, i18.cs⟩ ty24 ?_
  refine sy_next 17 [(4, .adr 4 0)] [(4, ⟨24, i18.cs⟩)] ?_
  refine sw_ret (ret0 [i18.v] ⟨res_cell ty24 part_agg, trivial⟩ fun u23 e24 => ?_)
  refine ⟨i18, rfl, IntN.more (K := (K + L)) ?_ (by omega)⟩
  rw [hzN, hzM, ← Nt.sg_mul]
  exact (h19.ext e24)
theorem k_riGcd {u w : World} {i1 : IL} {zN : Int} {K : Nat} {i2 : IL} {zM : Int} {L : Nat} (d : Dat u w) (hi1 : IntV u i1 zN K) (hi2 : IntV u i2 zM L) (hK : K ≤ 500000000) (hL : L ≤ 500000000) : Calls Tryz.prog 157 #[i1.v, i2.v] w (Post u w fun v u' => ∃ i : IL, v = i.v ∧ IntN u' i (Nat.gcd zN.natAbs zM.natAbs : Int) (max K L)) := by
  refine calls_sym (args := [i1.v, i2.v]) Tryz.func157 rfl Tryz.ntmps157 (rs := [.cell 4 24]) Tryz.results157 (le_b rfl) (le_b rfl) d ?_
  refine sw_seq ?_
  refine sw_reg ?_
  refine sy_new 2 ⟨24, i1.cs⟩ ?_
  refine sy_new 3 ⟨24, i2.cs⟩ ?_
  refine sy_new 4 ⟨24, [.bool false, .slice none 0 0]⟩ ?_
  refine sy_next 11 [(2, .adr 2 0), (3, .adr 3 0), (4, .adr 4 0)] [(2, ⟨24, i1.cs⟩), (3, ⟨24, i2.cs⟩), (4, ⟨24, [.bool false, .slice none 0 0]⟩)] ?_
  refine sw_seq ?_
  refine sw_reg ?_
  refine sy_pure 5 (.adr 2 1) ?_
  refine sy_ldv 6 (.v (.slice i1.m.a i1.m.n i1.m.c)) ty22 part_one ?_
  refine sy_pure 7 (.adr 3 1) ?_
  refine sy_ldv 8 (.v (.slice i2.m.a i2.m.n i2.m.c)) ty22 part_one ?_
  refine sy_call 9 190 [.slice i1.m.a i1.m.n i1.m.c, .slice i2.m.a i2.m.n i2.m.c] ?_
  intro w11 u11 e11 d11
  have k16 := k_rnGcd d11 ((IntV.abs hi1).ext e11) ((IntV.abs hi2).ext e11) (by omega) (by omega)
  with_reducible refine Post.mono k16 ?_
  clear k16
  rintro _ u14 g15 ⟨x12, rfl, h13⟩
  refine sy_pure 10 (.v (.agg #[.bool false, .slice x12.a x12.n x12.c])) ?_
  refine sy_store ⟨24, [.bool false, .slice x12.a x12.n x12.c]⟩ ty24 ?_
  refine sy_next 11 [(4, .adr 4 0)] [(4, ⟨24, [.bool false, .slice x12.a x12.n x12.c]⟩)] ?_
  refine sw_ret (ret0 [.agg #[.bool false, .slice x12.a x12.n x12.c]] ⟨res_cell ty24 part_agg, trivial⟩ fun u17 e18 => ?_)
  exact ⟨(⟨false, x12⟩ : IL), rfl, (nat_intN (h13.ext e18))⟩
theorem k_riSame {u w : World} {i1 i2 : IL} {z z' : Int} {K L : Nat} (d : Dat u w) (hi1 : IntN u i1 z K) (hi2 : IntN u i2 z' L) : Calls Tryz.prog 137 #[i1.v, i2.v] w (Post u w fun v _ => v = .bool (decide (z = z'))) := by
  refine calls_sym (args := [i1.v, i2.v]) Tryz.func137 rfl Tryz.ntmps137 (rs := [.tmp 4]) Tryz.results137 (le_b rfl) (le_b rfl) d ?_
  refine sw_seq ?_
  refine sw_reg ?_
  refine sy_new 2 ⟨24, i1.cs⟩ ?_
  refine sy_new 3 ⟨24, i2.cs⟩ ?_
  refine sy_pure 4 (.v (.bool false)) ?_
  refine sy_next 17 [(2, .adr 2 0), (3, .adr 3 0)] [(2, ⟨24, i1.cs⟩), (3, ⟨24, i2.cs⟩)] ?_
  refine sw_seq ?_
  refine sw_reg ?_
  refine sy_pure 5 (.adr 2 0) ?_
  refine sy_ldv 6 (.v (.bool i1.s)) ty4 part_one ?_
  refine sy_pure 7 (.adr 3 0) ?_
  refine sy_ldv 8 (.v (.bool i2.s)) ty4 part_one ?_
  refine sy_pure 9 (.v (.bool (i1.s == i2.s))) ?_
  rcases Bool.eq_false_or_eq_true (i1.s == i2.s) with hs11 | hs11
  · refine sy_eq 10 (x := .v (.bool (i1.s == i2.s))) (.v (.bool true)) (by rw [hs11]) ?_
    refine sy_pure 11 (.adr 2 1) ?_ (hw := wants1 (g := 5) (b := true) (t := 10) (by kernel_rfl) (by kernel_rfl) (by kernel_rfl))
    refine sy_ldv 12 (.v (.slice i1.m.a i1.m.n i1.m.c)) ty22 part_one ?_ (hw := wants1 (g := 5) (b := true) (t := 10) (by kernel_rfl) (by kernel_rfl) (by kernel_rfl))
    refine sy_pure 13 (.adr 3 1) ?_ (hw := wants1 (g := 5) (b := true) (t := 10) (by kernel_rfl) (by kernel_rfl) (by kernel_rfl))
    refine sy_ldv 14 (.v (.slice i2.m.a i2.m.n i2.m.c)) ty22 part_one ?_ (hw := wants1 (g := 5) (b := true) (t := 10) (by kernel_rfl) (by kernel_rfl) (by kernel_rfl))
    refine sy_call 15 138 [.slice i1.m.a i1.m.n i1.m.c, .slice i2.m.a i2.m.n i2.m.c] ?_ (hw := wants1 (g := 5) (b := true) (t := 10) (by kernel_rfl) (by kernel_rfl) (by kernel_rfl))
    intro w12 u12 e12 d12
    have k15 := k_rnSame d12 ((int_mag hi1).ext e12) ((int_mag hi2).ext e12)
    with_reducible refine Post.mono k15 ?_
    clear k15
    rintro _ u13 g14 rfl
    refine sy_pure 16 (.v (.bool (decide ((z : Int).natAbs = (z' : Int).natAbs)))) ?_
    refine sy_pure 4 (.v (.bool (decide ((z : Int).natAbs = (z' : Int).natAbs)))) ?_
    refine sy_next 17 [(4, .v (.bool (decide ((z : Int).natAbs = (z' : Int).natAbs))))] [] ?_
    refine sw_ret (ret0 [.bool (decide ((z : Int).natAbs = (z' : Int).natAbs))] ⟨res_tmp, trivial⟩ fun u16 e17 => ?_)
    show _ = _
    rw [← same_int hi1 hi2, hs11]
    rfl
  · refine sy_eq 10 (x := .v (.bool (i1.s == i2.s))) (.v (.bool false)) (by rw [hs11]) ?_
    refine sy_drop 11 (unwanted (g := 5) (b := true) (c := false) (t := 10) (by kernel_rfl) (by kernel_rfl) (by kernel_rfl) (by kernel_rfl)) ?_
    refine sy_drop 12 (unwanted (g := 5) (b := true) (c := false) (t := 10) (by kernel_rfl) (by kernel_rfl) (by kernel_rfl) (by kernel_rfl)) ?_
    refine sy_drop 13 (unwanted (g := 5) (b := true) (c := false) (t := 10) (by kernel_rfl) (by kernel_rfl) (by kernel_rfl) (by kernel_rfl)) ?_
    refine sy_drop 14 (unwanted (g := 5) (b := true) (c := false) (t := 10) (by kernel_rfl) (by kernel_rfl) (by kernel_rfl) (by kernel_rfl)) ?_
    refine sy_drop 15 (unwanted (g := 5) (b := true) (c := false) (t := 10) (by kernel_rfl) (by kernel_rfl) (by kernel_rfl) (by kernel_rfl)) ?_
    refine sy_pure 16 (.v (.bool false)) ?_
    refine sy_pure 4 (.v (.bool false)) ?_
    refine sy_next 17 [(4, .v (.bool false))] [] ?_
    refine sw_ret (ret0 [.bool false] ⟨res_tmp, trivial⟩ fun u18 e19 => ?_)
    show _ = _
    rw [← same_int hi1 hi2, hs11]
    rfl
theorem k_riOf {u w : World} {z : Int} (d : Dat u w) (h0 : -9223372036854775808 ≤ z) (h1 : z ≤ 9223372036854775807) : Calls Tryz.prog 123 #[.int .i64 z] w (Post u w fun v u' => ∃ i : IL, v = i.v ∧ IntN u' i z 2) := by
  by_cases hneg : z < 0
  · refine calls_sym (args := [.int .i64 z]) Tryz.func123 rfl Tryz.ntmps123 (rs := [.cell 2 24]) Tryz.results123 (le_b rfl) (le_b rfl) d ?_
    refine sw_seq ?_
    refine sw_reg ?_
    refine sy_new 2 ⟨24, [.bool false, .slice none 0 0]⟩ ?_
    refine sy_next 28 [(0, .v (.int .i64 z)), (2, .adr 2 0)] [(2, ⟨24, [.bool false, .slice none 0 0]⟩)] ?_
    refine sw_seq ?_
    refine sw_seq ?_
    refine sw_reg ?_
    refine sy_pure 4 (.v (.int .i64 z)) ?_
    refine sy_eq 5 (x := .v (.bool (decide (z < 0)))) (.v (.bool true)) (by rw [show (decide (z < 0)) = true from (by simp; omega)]) ?_
    refine sy_next 28 [(0, .v (.int .i64 z)), (2, .adr 2 0), (5, .v (.bool true))] [(2, ⟨24, [.bool false, .slice none 0 0]⟩)] ?_
    refine sw_true (by kernel_rfl) ?_
    refine sw_seq ?_
    refine sw_reg ?_
    refine sy_pure 6 (.v (.int .i64 z)) ?_
    refine sy_eq 7 (x := .v (.int .i64 (IntKind.i64.wrap (z + 1)))) (.v (.int .i64 (z + 1))) (by rw [show (IntKind.i64.wrap (z + 1)) = (z + 1) from (IntWalk.i64_in _ (by omega))]) ?_
    refine sy_eq 8 (x := .v (.int .i64 (IntKind.i64.wrap (0 - (z + 1))))) (.v (.int .i64 (-z - 1))) (by rw [show (IntKind.i64.wrap (0 - (z + 1))) = (-z - 1) from (by rw [IntWalk.i64_in _ (by omega)]; omega)]) ?_
    refine sy_eq 9 (x := .v (.int .u64 (IntKind.u64.wrap (-z - 1)))) (.v (.int .u64 (-z - 1))) (by rw [show (IntKind.u64.wrap (-z - 1)) = (-z - 1) from (IntWalk.u64_in _ (by omega))]) ?_
    refine sy_eq 10 (x := .v (.int .u64 (IntKind.u64.wrap (-z - 1 + 1)))) (.v (.int .u64 (-z))) (by rw [show (IntKind.u64.wrap (-z - 1 + 1)) = (-z) from (by rw [IntWalk.u64_in _ (by omega)]; omega)]) ?_
    refine sy_pure 3 (.v (.int .u64 (-z))) ?_
    refine sy_next 28 [(2, .adr 2 0), (3, .v (.int .u64 (-z)))] [(2, ⟨24, [.bool false, .slice none 0 0]⟩)] ?_
    refine sw_seq ?_
    refine sw_reg ?_
    refine sy_pure 11 (.v (.int .u64 (-z))) ?_
    refine sy_eq 12 (x := .v (.int .u32 (IntKind.u32.wrap (-z)))) (.v (.int .u32 ((-z) % 4294967296))) (by rw [show (IntKind.u32.wrap (-z)) = ((-z) % 4294967296) from (IntKind.wrap_u32 _)]) ?_
    refine sy_pure 13 (.v (.int .u64 (-z))) ?_
    refine sy_eq 14 (x := .v (.int .u64 (Int.fdiv (-z) (2 ^ 32)))) (.v (.int .u64 ((-z) / 4294967296))) (by rw [show (Int.fdiv (-z) (2 ^ 32)) = ((-z) / 4294967296) from (by rw [Int.fdiv_eq_ediv_of_nonneg _ (by decide)]; rfl)]) ?_
    refine sy_eq 15 (x := .v (.int .u32 (IntKind.u32.wrap ((-z) / 4294967296)))) (.v (.int .u32 ((-z) / 4294967296))) (by rw [show (IntKind.u32.wrap ((-z) / 4294967296)) = ((-z) / 4294967296) from (IntWalk.u32_in _ (by omega))]) ?_
    refine sy_data 16 ⟨105, [.int .u32 ((-z) % 4294967296), .int .u32 ((-z) / 4294967296)]⟩ 2 (fun b11 u12 e13 h14 => ?_)
    refine sy_pure 17 (.v (.agg #[.bool true, .slice (some ⟨b11, 0, none⟩) 2 2])) ?_
    refine sy_call 18 160 [.agg #[.bool true, .slice (some ⟨b11, 0, none⟩) 2 2]] ?_
    intro w15 u15 e15 d15
    have k20 := k_riTrim d15 (IntV.same (s := true) ((two_data (N := z.natAbs) h14 (by omega) (by omega) (by omega)).ext e15)) (by omega)
    with_reducible refine Post.mono k20 ?_
    clear k20
    rintro _ u18 g19 ⟨i16, rfl, h17⟩
    refine sy_store ⟨24, i16.cs⟩ ty24 ?_
    refine sy_next 28 [(2, .adr 2 0)] [(2, ⟨24, i16.cs⟩)] ?_
    refine sw_ret (mpr_seq (ret0 [i16.v] ⟨res_cell ty24 part_agg, trivial⟩ fun u21 e22 => ?_))
    refine ⟨i16, rfl, IntN.more (K := 2) ?_ (by omega)⟩
    have e : z = Nt.sg true z.natAbs := by unfold Nt.sg; simp; omega
    rw [e]
    exact (h17.ext e22)
  · refine calls_sym (args := [.int .i64 z]) Tryz.func123 rfl Tryz.ntmps123 (rs := [.cell 2 24]) Tryz.results123 (le_b rfl) (le_b rfl) d ?_
    refine sw_seq ?_
    refine sw_reg ?_
    refine sy_new 2 ⟨24, [.bool false, .slice none 0 0]⟩ ?_
    refine sy_next 28 [(0, .v (.int .i64 z)), (2, .adr 2 0)] [(2, ⟨24, [.bool false, .slice none 0 0]⟩)] ?_
    refine sw_seq ?_
    refine sw_seq ?_
    refine sw_reg ?_
    refine sy_pure 4 (.v (.int .i64 z)) ?_
    refine sy_eq 5 (x := .v (.bool (decide (z < 0)))) (.v (.bool false)) (by rw [show (decide (z < 0)) = false from (by simp; omega)]) ?_
    refine sy_next 28 [(0, .v (.int .i64 z)), (2, .adr 2 0), (5, .v (.bool false))] [(2, ⟨24, [.bool false, .slice none 0 0]⟩)] ?_
    refine sw_false (by kernel_rfl) ?_
    refine sw_skip (mp_seq ?_)
    refine sw_seq ?_
    refine sw_reg ?_
    refine sy_pure 19 (.v (.int .i64 z)) ?_
    refine sy_eq 20 (x := .v (.int .u32 (IntKind.u32.wrap z))) (.v (.int .u32 (z % 4294967296))) (by rw [show (IntKind.u32.wrap z) = (z % 4294967296) from (IntKind.wrap_u32 _)]) ?_
    refine sy_pure 21 (.v (.int .i64 z)) ?_
    refine sy_eq 22 (x := .v (.int .u64 (IntKind.u64.wrap z))) (.v (.int .u64 (z))) (by rw [show (IntKind.u64.wrap z) = z from (IntWalk.u64_in _ (by omega))]) ?_
    refine sy_eq 23 (x := .v (.int .u64 (Int.fdiv z (2 ^ 32)))) (.v (.int .u64 (z / 4294967296))) (by rw [show (Int.fdiv z (2 ^ 32)) = (z / 4294967296) from (by rw [Int.fdiv_eq_ediv_of_nonneg _ (by decide)]; rfl)]) ?_
    refine sy_eq 24 (x := .v (.int .u32 (IntKind.u32.wrap (z / 4294967296)))) (.v (.int .u32 (z / 4294967296))) (by rw [show (IntKind.u32.wrap (z / 4294967296)) = (z / 4294967296) from (IntWalk.u32_in _ (by omega))]) ?_
    refine sy_data 25 ⟨105, [.int .u32 (z % 4294967296), .int .u32 (z / 4294967296)]⟩ 2 (fun b11 u12 e13 h14 => ?_)
    refine sy_pure 26 (.v (.agg #[.bool false, .slice (some ⟨b11, 0, none⟩) 2 2])) ?_
    refine sy_call 27 160 [.agg #[.bool false, .slice (some ⟨b11, 0, none⟩) 2 2]] ?_
    intro w15 u15 e15 d15
    have k20 := k_riTrim d15 (nat_int ((two_data (N := z.natAbs) h14 (by omega) (by omega) (by omega)).ext e15)) (by omega)
    with_reducible refine Post.mono k20 ?_
    clear k20
    rintro _ u18 g19 ⟨i16, rfl, h17⟩
    refine sy_store ⟨24, i16.cs⟩ ty24 ?_
    refine sy_next 28 [(2, .adr 2 0)] [(2, ⟨24, i16.cs⟩)] ?_
    refine sw_ret (ret0 [i16.v] ⟨res_cell ty24 part_agg, trivial⟩ fun u21 e22 => ?_)
    refine ⟨i16, rfl, IntN.more (K := 2) ?_ (by omega)⟩
    have e : z = Nt.sg false z.natAbs := by unfold Nt.sg; simp; omega
    rw [e]
    exact (h17.ext e22)
set_option maxHeartbeats 2000000 in
theorem k_riDiv {u w : World} {i1 : IL} {zN : Int} {K : Nat} {i2 : IL} {zM : Int} {L : Nat} (d : Dat u w) (hi1 : IntV u i1 zN K) (hi2 : IntV u i2 zM L) (hM0 : zM ≠ 0) (hK : K ≤ 400000000) (hL : L ≤ 400000000) : Calls Tryz.prog 158 #[i1.v, i2.v] w (Post u w fun v u' => ∃ i j : IL, v = .tuple #[i.v, j.v, .int .i64 0] ∧ IntN u' i (zN / zM) (K + 1) ∧ IntN u' j (zN % zM) L) := by
  have hM : 0 < zM.natAbs := Int.natAbs_pos.2 hM0
  have hL1 : 1 ≤ L := by have h2 := hi2.size; have h3 := Nt.dl_mono (x := zM.natAbs) (y := 1) (by omega); rw [Nt.dl_one] at h3; omega
  refine calls_sym (args := [i1.v, i2.v]) Tryz.func158 rfl Tryz.ntmps158 (rs := [.cell 4 24, .cell 5 24, .tmp 6]) Tryz.results158 (le_b rfl) (le_b rfl) d ?_
  refine sw_seq ?_
  refine sw_reg ?_
  refine sy_new 2 ⟨24, i1.cs⟩ ?_
  refine sy_new 3 ⟨24, i2.cs⟩ ?_
  refine sy_new 4 ⟨24, [.bool false, .slice none 0 0]⟩ ?_
  refine sy_new 5 ⟨24, [.bool false, .slice none 0 0]⟩ ?_
  refine sy_pure 6 (.v (.int .i64 0)) ?_
  refine sy_next 52 [(2, .adr 2 0), (3, .adr 3 0), (4, .adr 4 0), (5, .adr 5 0)] [(2, ⟨24, i1.cs⟩), (3, ⟨24, i2.cs⟩), (4, ⟨24, [.bool false, .slice none 0 0]⟩), (5, ⟨24, [.bool false, .slice none 0 0]⟩)] ?_
  refine sw_seq ?_
  refine sw_any [0, 1, 0, 7, 15, 31] [(0, []), (2, []), (1, []), (3, []), (4, []), (5, [])] (by kernel_rfl) (by kernel_rfl) ?_
  refine sy_ldv 10 (.v (i1.v)) ty24 part_agg ?_
  refine sy_ldv 12 (.v (i2.v)) ty24 part_agg ?_
  refine sy_call 11 160 [i1.v] ?_
  intro w11 u11 e11 d11
  have k16 := k_riTrim d11 (hi1.ext e11) (by omega)
  with_reducible refine Post.mono k16 ?_
  clear k16
  rintro _ u14 g15 ⟨i12, rfl, h13⟩
  refine sy_call 13 160 [i2.v] ?_
  intro w17 u17 e17 d17
  have k22 := k_riTrim d17 (hi2.ext (e11.trans (g15.ext.trans e17))) (by omega)
  with_reducible refine Post.mono k22 ?_
  clear k22
  rintro _ u20 g21 ⟨i18, rfl, h19⟩
  refine sy_store ⟨24, i12.cs⟩ ty24 ?_
  refine sy_store ⟨24, i18.cs⟩ ty24 ?_
  refine sy_next 52 [(2, .adr 2 0), (3, .adr 3 0), (4, .adr 4 0), (5, .adr 5 0)] [(2, ⟨24, i12.cs⟩), (3, ⟨24, i18.cs⟩), (4, ⟨24, [.bool false, .slice none 0 0]⟩), (5, ⟨24, [.bool false, .slice none 0 0]⟩)] ?_
  refine sw_seq ?_
  refine sw_reg ?_
  refine sy_pure 15 (.adr 2 1) ?_
  refine sy_ldv 16 (.v (.slice i12.m.a i12.m.n i12.m.c)) ty22 part_one ?_
  refine sy_pure 17 (.adr 3 1) ?_
  refine sy_ldv 18 (.v (.slice i18.m.a i18.m.n i18.m.c)) ty22 part_one ?_
  refine sy_call 19 191 [.slice i12.m.a i12.m.n i12.m.c, .slice i18.m.a i18.m.n i18.m.c] ?_
  intro w23 u23 e23 d23
  have k30 := k_rnDivMod d23 ((int_mag h13).ext (e17.trans (g21.ext.trans e23))).raw ((int_mag h19).ext e23).raw hM (by omega) (by omega)
  with_reducible refine Post.mono k30 ?_
  clear k30
  rintro _ u28 g29 ⟨x24, x25, rfl, h26, h27⟩
  refine sy_pure 14 (.v (.tuple #[.slice x24.a x24.n x24.c, .slice x25.a x25.n x25.c, .int .i64 0])) ?_
  refine sy_pure 20 (.v (.slice x24.a x24.n x24.c)) ?_
  refine sy_pure 21 (.v (.slice x25.a x25.n x25.c)) ?_
  refine sy_pure 22 (.v (.int .i64 0)) ?_
  refine sy_pure 7 (.v (.slice x24.a x24.n x24.c)) ?_
  refine sy_pure 8 (.v (.slice x25.a x25.n x25.c)) ?_
  refine sy_pure 9 (.v (.int .i64 0)) ?_
  refine sy_next 52 [(2, .adr 2 0), (3, .adr 3 0), (4, .adr 4 0), (5, .adr 5 0), (7, .v (.slice x24.a x24.n x24.c)), (8, .v (.slice x25.a x25.n x25.c)), (9, .v (.int .i64 0))] [(2, ⟨24, i12.cs⟩), (3, ⟨24, i18.cs⟩), (4, ⟨24, [.bool false, .slice none 0 0]⟩), (5, ⟨24, [.bool false, .slice none 0 0]⟩)] ?_
  refine sw_seq ?_
  refine sw_seq ?_
  refine sw_reg ?_
  refine sy_pure 23 (.v (.int .i64 0)) ?_
  refine sy_pure 24 (.v (.bool false)) ?_
  refine sy_next 52 [(2, .adr 2 0), (3, .adr 3 0), (4, .adr 4 0), (5, .adr 5 0), (7, .v (.slice x24.a x24.n x24.c)), (8, .v (.slice x25.a x25.n x25.c)), (9, .v (.int .i64 0)), (24, .v (.bool false))] [(2, ⟨24, i12.cs⟩), (3, ⟨24, i18.cs⟩), (4, ⟨24, [.bool false, .slice none 0 0]⟩), (5, ⟨24, [.bool false, .slice none 0 0]⟩)] ?_
  refine sw_false (by kernel_rfl) ?_
  refine sw_skip (mp_seq ?_)
  refine sw_seq ?_
  refine sw_seq ?_
  refine sw_reg ?_
  refine sy_pure 28 (.adr 2 0) ?_
  refine sy_ldv 29 (.v (.bool i12.s)) ty4 part_one ?_
  rcases Bool.eq_false_or_eq_true i12.s with hs31 | hs31
  · refine sy_eq 30 (x := .v (.bool i12.s)) (.v (.bool true)) (by rw [hs31]) ?_
    refine sy_pure 31 (.v (.slice x25.a x25.n x25.c)) ?_ (hw := wants1 (g := 2) (b := true) (t := 30) (by kernel_rfl) (by kernel_rfl) (by kernel_rfl))
    refine sy_pure 32 (.v (.int .i64 (x25.n : Int))) ?_ (hw := wants1 (g := 2) (b := true) (t := 30) (by kernel_rfl) (by kernel_rfl) (by kernel_rfl))
    refine sy_pure 33 (.v (.bool (decide ((0 : Int) < (x25.n : Int))))) ?_ (hw := wants1 (g := 2) (b := true) (t := 30) (by kernel_rfl) (by kernel_rfl) (by kernel_rfl))
    refine sy_pure 34 (.v (.bool (decide ((0 : Int) < (x25.n : Int))))) ?_
    refine sy_next 52 [(2, .adr 2 0), (3, .adr 3 0), (4, .adr 4 0), (5, .adr 5 0), (7, .v (.slice x24.a x24.n x24.c)), (8, .v (.slice x25.a x25.n x25.c)), (34, .v (.bool (decide ((0 : Int) < (x25.n : Int)))))] [(2, ⟨24, i12.cs⟩), (3, ⟨24, i18.cs⟩), (4, ⟨24, [.bool false, .slice none 0 0]⟩), (5, ⟨24, [.bool false, .slice none 0 0]⟩)] ?_
    refine sw_cond (b := decide ((0 : Int) < (x25.n : Int))) (by kernel_rfl) (fun hb32 => ?_) (fun hb32 => ?_)
    · replace hb32 : (decide ((0 : Int) < (x25.n : Int))) = true := hb32
      have qhb32 := of_decide_eq_true hb32
      refine sw_any [0, 0, 3, 0, 8, 0, 63, 127, 255] [(0, []), (1, []), (3, []), (4, []), (5, []), (2, [36]), (6, []), (7, []), (8, [])] (by kernel_rfl) (by kernel_rfl) ?_
      refine sy_pure 35 (.v (.slice x24.a x24.n x24.c)) ?_
      refine sy_lit 36 ⟨105, [.int .u32 1]⟩ 1 ?_
      refine sy_pure 38 (.adr 3 1) ?_
      refine sy_ldv 39 (.v (.slice i18.m.a i18.m.n i18.m.c)) ty22 part_one ?_
      refine sy_pure 40 (.v (.slice x25.a x25.n x25.c)) ?_
      refine sy_give 37 161 [.v (.slice x24.a x24.n x24.c), .slc 36 0 1 1] [36] (.inr rfl) (pub_mk (by repeat first | exact noAt_of | refine noAt_set ?_ | refine noAt_lit ?_ | refine noAt_new ?_ | refine noAt_setVar ?_ | refine noAt_unpub ?_)) (k := ?_)
      intro B33 w33 u33 e33 d33 v33
      have h35 : u33.heap[B33 36]? = some (.cells #[.int .u32 1] 105 (0, 0)) := v33 36 (by simp) _ rfl
      obtain ⟨b34, hBb34⟩ : ∃ b, B33 36 = b := ⟨_, rfl⟩
      rw [hBb34] at h35
      show Calls _ _ #[.slice x24.a x24.n x24.c, .slice (some ⟨B33 36, 0, none⟩) 1 1] _ _
      rw [hBb34]
      have k40 := k_rnAdd d33 (h26.ext e33).raw (one_data h35).raw (by omega) (by omega)
      with_reducible refine Post.mono k40 ?_
      clear k40
      rintro _ u38 g39 ⟨x36, rfl, h37⟩
      refine sy_call 41 163 [.slice i18.m.a i18.m.n i18.m.c, .slice x25.a x25.n x25.c] ?_
      intro w41 u41 e41 d41
      have k46 := k_rnSub d41 ((int_mag h19).ext (e23.trans (g29.ext.trans (e33.trans (g39.ext.trans e41))))).raw (h27.ext (e33.trans (g39.ext.trans e41))).raw (by omega) (by omega)
      with_reducible refine Post.mono k46 ?_
      clear k46
      rintro _ u44 g45 ⟨x42, rfl, h43⟩
      refine sy_pure 7 (.v (.slice x36.a x36.n x36.c)) ?_
      refine sy_pure 8 (.v (.slice x42.a x42.n x42.c)) ?_
      refine sy_next 52 [(2, .adr 2 0), (3, .adr 3 0), (4, .adr 4 0), (5, .adr 5 0), (7, .v (.slice x36.a x36.n x36.c)), (8, .v (.slice x42.a x42.n x42.c))] [(2, ⟨24, i12.cs⟩), (3, ⟨24, i18.cs⟩), (4, ⟨24, [.bool false, .slice none 0 0]⟩), (5, ⟨24, [.bool false, .slice none 0 0]⟩)] ?_
      refine sw_seq ?_
      refine sw_reg ?_
      refine sy_pure 42 (.adr 2 0) ?_
      refine sy_ldv 43 (.v (.bool i12.s)) ty4 part_one ?_
      refine sy_pure 44 (.adr 3 0) ?_
      refine sy_ldv 45 (.v (.bool i18.s)) ty4 part_one ?_
      refine sy_pure 46 (.v (.bool (!(i12.s == i18.s)))) ?_
      refine sy_pure 47 (.v (.slice x36.a x36.n x36.c)) ?_
      refine sy_pure 48 (.v (.agg #[.bool (!(i12.s == i18.s)), .slice x36.a x36.n x36.c])) ?_
      refine sy_call 49 160 [.agg #[.bool (!(i12.s == i18.s)), .slice x36.a x36.n x36.c]] ?_
      intro w47 u47 e47 d47
      have k52 := k_riTrim d47 (IntV.same (s := !(i12.s == i18.s)) (h37.ext (e41.trans (g45.ext.trans e47))).raw) (by omega)
      with_reducible refine Post.mono k52 ?_
      clear k52
      rintro _ u50 g51 ⟨i48, rfl, h49⟩
      refine sy_pure 50 (.v (.slice x42.a x42.n x42.c)) ?_
      refine sy_pure 51 (.v (.agg #[.bool false, .slice x42.a x42.n x42.c])) ?_
      refine sy_store ⟨24, i48.cs⟩ ty24 ?_
      refine sy_store ⟨24, [.bool false, .slice x42.a x42.n x42.c]⟩ ty24 ?_
      refine sy_pure 6 (.v (.int .i64 0)) ?_
      refine sy_next 52 [(4, .adr 4 0), (5, .adr 5 0), (6, .v (.int .i64 0))] [(4, ⟨24, i48.cs⟩), (5, ⟨24, [.bool false, .slice x42.a x42.n x42.c]⟩)] ?_
      refine sw_ret (ret0 [i48.v, .agg #[.bool false, .slice x42.a x42.n x42.c], .int .i64 0] ⟨res_cell ty24 part_agg, res_cell ty24 part_agg, res_tmp, trivial⟩ fun u53 e54 => ?_)
      have hs := h13.1
      have ht := h19.1
      have hr := h27.pos
      have qhs31 := hs31
      have qhb32 := hb32
      have key := Nt.ediv_neg' zN zM rfl rfl hM (by rw [hs] at hs31; simpa using hs31) (by simp at hb32; omega)
      have hK1 : 1 ≤ K := by have h2 := hi1.size; have h3 := (Nt.dl_pos (x := zN.natAbs)).2 (by rw [hs] at hs31; simp at hs31; omega); omega
      rw [← hs, ← ht] at key
      refine ⟨i48, (⟨false, x42⟩ : IL), rfl, IntN.more (K := (max K 1 + 1)) ?_ (by omega), IntN.more (K := L) ?_ (by omega)⟩
      · rw [key.1]; exact (h49.ext e54)
      · rw [key.2]; exact (nat_intN (h43.ext (e47.trans (g51.ext.trans e54))))
    · replace hb32 : (decide ((0 : Int) < (x25.n : Int))) = false := hb32
      have qhb32 := of_decide_eq_false hb32
      refine sw_skip (mp_seq ?_)
      refine sw_seq ?_
      refine sw_reg ?_
      refine sy_pure 42 (.adr 2 0) ?_
      refine sy_ldv 43 (.v (.bool i12.s)) ty4 part_one ?_
      refine sy_pure 44 (.adr 3 0) ?_
      refine sy_ldv 45 (.v (.bool i18.s)) ty4 part_one ?_
      refine sy_pure 46 (.v (.bool (!(i12.s == i18.s)))) ?_
      refine sy_pure 47 (.v (.slice x24.a x24.n x24.c)) ?_
      refine sy_pure 48 (.v (.agg #[.bool (!(i12.s == i18.s)), .slice x24.a x24.n x24.c])) ?_
      refine sy_call 49 160 [.agg #[.bool (!(i12.s == i18.s)), .slice x24.a x24.n x24.c]] ?_
      intro w55 u55 e55 d55
      have k60 := k_riTrim d55 (IntV.same (s := !(i12.s == i18.s)) (h26.ext e55).raw) (by omega)
      with_reducible refine Post.mono k60 ?_
      clear k60
      rintro _ u58 g59 ⟨i56, rfl, h57⟩
      refine sy_pure 50 (.v (.slice x25.a x25.n x25.c)) ?_
      refine sy_pure 51 (.v (.agg #[.bool false, .slice x25.a x25.n x25.c])) ?_
      refine sy_store ⟨24, i56.cs⟩ ty24 ?_
      refine sy_store ⟨24, [.bool false, .slice x25.a x25.n x25.c]⟩ ty24 ?_
      refine sy_pure 6 (.v (.int .i64 0)) ?_
      refine sy_next 52 [(4, .adr 4 0), (5, .adr 5 0), (6, .v (.int .i64 0))] [(4, ⟨24, i56.cs⟩), (5, ⟨24, [.bool false, .slice x25.a x25.n x25.c]⟩)] ?_
      refine sw_ret (ret0 [i56.v, .agg #[.bool false, .slice x25.a x25.n x25.c], .int .i64 0] ⟨res_cell ty24 part_agg, res_cell ty24 part_agg, res_tmp, trivial⟩ fun u61 e62 => ?_)
      have hs := h13.1
      have ht := h19.1
      have hr := h27.pos
      have qhs31 := hs31
      have qhb32 := hb32
      have key := Nt.ediv_pos zN zM rfl rfl hM (fun hc => by simp at hb32; omega)
      rw [← hs, ← ht] at key
      refine ⟨i56, (⟨false, x25⟩ : IL), rfl, IntN.more (K := K) ?_ (by omega), IntN.more (K := L) ?_ (by omega)⟩
      · rw [key.1]; exact (h57.ext e62)
      · rw [key.2]; exact (nat_intN (h27.ext (e55.trans (g59.ext.trans e62))))
  · refine sy_eq 30 (x := .v (.bool i12.s)) (.v (.bool false)) (by rw [hs31]) ?_
    refine sy_drop 31 (unwanted (g := 2) (b := true) (c := false) (t := 30) (by kernel_rfl) (by kernel_rfl) (by kernel_rfl) (by kernel_rfl)) ?_
    refine sy_drop 32 (unwanted (g := 2) (b := true) (c := false) (t := 30) (by kernel_rfl) (by kernel_rfl) (by kernel_rfl) (by kernel_rfl)) ?_
    refine sy_drop 33 (unwanted (g := 2) (b := true) (c := false) (t := 30) (by kernel_rfl) (by kernel_rfl) (by kernel_rfl) (by kernel_rfl)) ?_
    refine sy_pure 34 (.v (.bool false)) ?_
    refine sy_next 52 [(2, .adr 2 0), (3, .adr 3 0), (4, .adr 4 0), (5, .adr 5 0), (7, .v (.slice x24.a x24.n x24.c)), (8, .v (.slice x25.a x25.n x25.c)), (34, .v (.bool false))] [(2, ⟨24, i12.cs⟩), (3, ⟨24, i18.cs⟩), (4, ⟨24, [.bool false, .slice none 0 0]⟩), (5, ⟨24, [.bool false, .slice none 0 0]⟩)] ?_
    refine sw_false (by kernel_rfl) ?_
    refine sw_skip (mp_seq ?_)
    refine sw_seq ?_
    refine sw_reg ?_
    refine sy_pure 42 (.adr 2 0) ?_
    refine sy_ldv 43 (.v (.bool i12.s)) ty4 part_one ?_
    refine sy_pure 44 (.adr 3 0) ?_
    refine sy_ldv 45 (.v (.bool i18.s)) ty4 part_one ?_
    refine sy_pure 46 (.v (.bool (!(i12.s == i18.s)))) ?_
    refine sy_pure 47 (.v (.slice x24.a x24.n x24.c)) ?_
    refine sy_pure 48 (.v (.agg #[.bool (!(i12.s == i18.s)), .slice x24.a x24.n x24.c])) ?_
    refine sy_call 49 160 [.agg #[.bool (!(i12.s == i18.s)), .slice x24.a x24.n x24.c]] ?_
    intro w63 u63 e63 d63
    have k68 := k_riTrim d63 (IntV.same (s := !(i12.s == i18.s)) (h26.ext e63).raw) (by omega)
    with_reducible refine Post.mono k68 ?_
    clear k68
    rintro _ u66 g67 ⟨i64, rfl, h65⟩
    refine sy_pure 50 (.v (.slice x25.a x25.n x25.c)) ?_
    refine sy_pure 51 (.v (.agg #[.bool false, .slice x25.a x25.n x25.c])) ?_
    refine sy_store ⟨24, i64.cs⟩ ty24 ?_
    refine sy_store ⟨24, [.bool false, .slice x25.a x25.n x25.c]⟩ ty24 ?_
    refine sy_pure 6 (.v (.int .i64 0)) ?_
    refine sy_next 52 [(4, .adr 4 0), (5, .adr 5 0), (6, .v (.int .i64 0))] [(4, ⟨24, i64.cs⟩), (5, ⟨24, [.bool false, .slice x25.a x25.n x25.c]⟩)] ?_
    refine sw_ret (ret0 [i64.v, .agg #[.bool false, .slice x25.a x25.n x25.c], .int .i64 0] ⟨res_cell ty24 part_agg, res_cell ty24 part_agg, res_tmp, trivial⟩ fun u69 e70 => ?_)
    have hs := h13.1
    have ht := h19.1
    have hr := h27.pos
    have qhs31 := hs31
    have key := Nt.ediv_pos zN zM rfl rfl hM (fun hc => by rw [hs] at hs31; simp at hs31; omega)
    rw [← hs, ← ht] at key
    refine ⟨i64, (⟨false, x25⟩ : IL), rfl, IntN.more (K := K) ?_ (by omega), IntN.more (K := L) ?_ (by omega)⟩
    · rw [key.1]; exact (h65.ext e70)
    · rw [key.2]; exact (nat_intN (h27.ext (e63.trans (g67.ext.trans e70))))
end Go.Proofs.YtnedhbidmfoegaaGreat
namespace Go.Proofs.YtnedhbidmfoegaaGreat
open Go.RowKit
set_option linter.unusedVariables false
set_option maxHeartbeats 2000000 in
theorem k_reduce {u w : World} {i1 i2 : IL} {z y : Int} {K L : Nat} (d : Dat u w) (hi1 : IntV u i1 z K) (hi2 : IntV u i2 y L) (hK : K ≤ 400000000) (hL : L ≤ 400000000) : Calls Tryz.prog 106 #[i1.v, i2.v] w (Post u w fun v u' => ∃ r : RL, v = r.v ∧ RatN u' r ((z : Rat) / (y : Rat)) (max K L + 1)) := by
  refine calls_sym (args := [i1.v, i2.v]) Tryz.func106 rfl Tryz.ntmps106 (rs := [.cell 4 26]) Tryz.results106 (le_b rfl) (le_b rfl) d ?_
  refine sw_seq ?_
  refine sw_reg ?_
  refine sy_new 2 ⟨24, i1.cs⟩ ?_
  refine sy_new 3 ⟨24, i2.cs⟩ ?_
  refine sy_new 4 ⟨26, [.bool false, .slice none 0 0, .slice none 0 0]⟩ ?_
  refine sy_next 47 [(2, .adr 2 0), (3, .adr 3 0), (4, .adr 4 0)] [(2, ⟨24, i1.cs⟩), (3, ⟨24, i2.cs⟩), (4, ⟨26, [.bool false, .slice none 0 0, .slice none 0 0]⟩)] ?_
  refine sw_seq ?_
  refine sw_seq ?_
  refine sw_reg ?_
  refine sy_ldv 12 (.v (i1.v)) ty24 part_agg ?_
  refine sy_call 13 125 [i1.v] ?_
  intro w11 u11 e11 d11
  have k14 := k_riSign d11 (hi1.ext e11) (by omega)
  with_reducible refine Post.mono k14 ?_
  clear k14
  rintro _ u12 g13 rfl
  refine sy_pure 14 (.v (.bool ((Nt.cmpS z 0) == 0))) ?_
  rcases Bool.eq_false_or_eq_true ((Nt.cmpS z 0) == 0) with hs15 | hs15
  · refine sy_eq 15 (x := .v (.bool ((Nt.cmpS z 0) == 0))) (.v (.bool true)) (by rw [hs15]) ?_
    have hz0 : z = 0 := Nt.cmp_eq0 hs15
    refine sy_drop 16 (unwanted (g := 3) (b := false) (c := true) (t := 15) (by kernel_rfl) (by kernel_rfl) (by kernel_rfl) (by kernel_rfl)) ?_
    refine sy_drop 17 (unwanted (g := 3) (b := false) (c := true) (t := 15) (by kernel_rfl) (by kernel_rfl) (by kernel_rfl) (by kernel_rfl)) ?_
    refine sy_drop 18 (unwanted (g := 3) (b := false) (c := true) (t := 15) (by kernel_rfl) (by kernel_rfl) (by kernel_rfl) (by kernel_rfl)) ?_
    refine sy_pure 19 (.v (.bool true)) ?_
    refine sy_next 47 [(2, .adr 2 0), (3, .adr 3 0), (4, .adr 4 0), (19, .v (.bool true))] [(2, ⟨24, i1.cs⟩), (3, ⟨24, i2.cs⟩), (4, ⟨26, [.bool false, .slice none 0 0, .slice none 0 0]⟩)] ?_
    refine sw_true (by kernel_rfl) ?_
    refine sw_seq ?_
    refine sw_reg ?_
    refine sy_data 20 ⟨105, [.int .u32 1]⟩ 1 (fun b16 u17 e18 h19 => ?_)
    refine sy_pure 21 (.v (.agg #[.bool false, .slice none 0 0, .slice (some ⟨b16, 0, none⟩) 1 1])) ?_
    refine sy_store ⟨26, [.bool false, .slice none 0 0, .slice (some ⟨b16, 0, none⟩) 1 1]⟩ ty26 ?_
    refine sy_next 47 [(4, .adr 4 0)] [(4, ⟨26, [.bool false, .slice none 0 0, .slice (some ⟨b16, 0, none⟩) 1 1]⟩)] ?_
    refine sw_ret (mpr_seq (ret0 [.agg #[.bool false, .slice none 0 0, .slice (some ⟨b16, 0, none⟩) 1 1]] ⟨res_cell ty26 part_agg, trivial⟩ fun u20 e21 => ?_))
    refine ⟨(⟨false, ⟨none, 0, 0⟩, (⟨some ⟨b16, 0, none⟩, 1, 1⟩ : Sl)⟩ : RL), rfl, ?_⟩
    have h9 : (z : Rat) / (y : Rat) = ((0 : Int) : Rat) := by rw [hz0]; simp [Rat.div_def]
    rw [h9]
    exact RatN.more (whole_rat (int_zero _ 1) ((one_data h19).ext e21)) (by omega)
  · refine sy_eq 15 (x := .v (.bool ((Nt.cmpS z 0) == 0))) (.v (.bool false)) (by rw [hs15]) ?_
    have hz0 : z ≠ 0 := Nt.cmp_ne0 hs15
    refine sy_ldv 16 (.v (i2.v)) ty24 part_agg ?_ (hw := wants1 (g := 3) (b := false) (t := 15) (by kernel_rfl) (by kernel_rfl) (by kernel_rfl))
    refine sy_call 17 125 [i2.v] ?_ (hw := wants1 (g := 3) (b := false) (t := 15) (by kernel_rfl) (by kernel_rfl) (by kernel_rfl))
    intro w22 u22 e22 d22
    have k25 := k_riSign d22 (hi2.ext (e11.trans (g13.ext.trans e22))) (by omega)
    with_reducible refine Post.mono k25 ?_
    clear k25
    rintro _ u23 g24 rfl
    refine sy_pure 18 (.v (.bool ((Nt.cmpS y 0) == 0))) ?_ (hw := wants1 (g := 3) (b := false) (t := 15) (by kernel_rfl) (by kernel_rfl) (by kernel_rfl))
    refine sy_pure 19 (.v (.bool ((Nt.cmpS y 0) == 0))) ?_
    refine sy_next 47 [(2, .adr 2 0), (3, .adr 3 0), (4, .adr 4 0), (19, .v (.bool ((Nt.cmpS y 0) == 0)))] [(2, ⟨24, i1.cs⟩), (3, ⟨24, i2.cs⟩), (4, ⟨26, [.bool false, .slice none 0 0, .slice none 0 0]⟩)] ?_
    refine sw_cond (b := (Nt.cmpS y 0) == 0) (by kernel_rfl) (fun hb26 => ?_) (fun hb26 => ?_)
    · replace hb26 : ((Nt.cmpS y 0) == 0) = true := hb26
      have hy0 : y = 0 := Nt.cmp_eq0 hb26
      refine sw_seq ?_
      refine sw_reg ?_
      refine sy_data 20 ⟨105, [.int .u32 1]⟩ 1 (fun b27 u28 e29 h30 => ?_)
      refine sy_pure 21 (.v (.agg #[.bool false, .slice none 0 0, .slice (some ⟨b27, 0, none⟩) 1 1])) ?_
      refine sy_store ⟨26, [.bool false, .slice none 0 0, .slice (some ⟨b27, 0, none⟩) 1 1]⟩ ty26 ?_
      refine sy_next 47 [(4, .adr 4 0)] [(4, ⟨26, [.bool false, .slice none 0 0, .slice (some ⟨b27, 0, none⟩) 1 1]⟩)] ?_
      refine sw_ret (mpr_seq (ret0 [.agg #[.bool false, .slice none 0 0, .slice (some ⟨b27, 0, none⟩) 1 1]] ⟨res_cell ty26 part_agg, trivial⟩ fun u31 e32 => ?_))
      refine ⟨(⟨false, ⟨none, 0, 0⟩, (⟨some ⟨b27, 0, none⟩, 1, 1⟩ : Sl)⟩ : RL), rfl, ?_⟩
      have h9 : (z : Rat) / (y : Rat) = ((0 : Int) : Rat) := by rw [hy0]; simp [Rat.div_def]
      rw [h9]
      exact RatN.more (whole_rat (int_zero _ 1) ((one_data h30).ext e32)) (by omega)
    · replace hb26 : ((Nt.cmpS y 0) == 0) = false := hb26
      have hy0 : y ≠ 0 := Nt.cmp_ne0 hb26
      have hg0 : ((Nat.gcd z.natAbs y.natAbs : Nat) : Int) ≠ 0 := by have h9 := Nat.gcd_pos_of_pos_right z.natAbs (Int.natAbs_pos.2 hy0); omega
      refine sw_skip (mp_seq ?_)
      refine sw_seq ?_
      refine sw_reg ?_
      refine sy_ldv 22 (.v (i1.v)) ty24 part_agg ?_
      refine sy_ldv 23 (.v (i2.v)) ty24 part_agg ?_
      refine sy_call 24 157 [i1.v, i2.v] ?_
      intro w33 u33 e33 d33
      have k38 := k_riGcd d33 (hi1.ext (e11.trans (g13.ext.trans (e22.trans (g24.ext.trans e33))))) (hi2.ext (e11.trans (g13.ext.trans (e22.trans (g24.ext.trans e33))))) (by omega) (by omega)
      with_reducible refine Post.mono k38 ?_
      clear k38
      rintro _ u36 g37 ⟨i34, rfl, h35⟩
      refine sy_new 5 ⟨24, [.bool false, .slice none 0 0]⟩ ?_
      refine sy_store ⟨24, i34.cs⟩ ty24 ?_
      refine sy_next 47 [(2, .adr 2 0), (3, .adr 3 0), (4, .adr 4 0), (5, .adr 5 0)] [(2, ⟨24, i1.cs⟩), (3, ⟨24, i2.cs⟩), (4, ⟨26, [.bool false, .slice none 0 0, .slice none 0 0]⟩), (5, ⟨24, i34.cs⟩)] ?_
      refine sw_seq ?_
      refine sw_reg ?_
      refine sy_ldv 26 (.v (i1.v)) ty24 part_agg ?_
      refine sy_ldv 27 (.v (i34.v)) ty24 part_agg ?_
      refine sy_call 28 158 [i1.v, i34.v] ?_
      intro w39 u39 e39 d39
      have k46 := k_riDiv d39 (hi1.ext (e11.trans (g13.ext.trans (e22.trans (g24.ext.trans (e33.trans (g37.ext.trans e39))))))) (h35.ext e39).raw hg0 (by omega) (by omega)
      with_reducible refine Post.mono k46 ?_
      clear k46
      rintro _ u44 g45 ⟨i40, i42, rfl, h41, h43⟩
      refine sy_pure 25 (.v (.tuple #[i40.v, i42.v, .int .i64 0])) ?_
      refine sy_pure 29 (.v (i40.v)) ?_
      refine sy_pure 30 (.v (i42.v)) ?_
      refine sy_pure 31 (.v (.int .i64 0)) ?_
      refine sy_new 6 ⟨24, [.bool false, .slice none 0 0]⟩ ?_
      refine sy_new 7 ⟨24, [.bool false, .slice none 0 0]⟩ ?_
      refine sy_store ⟨24, i40.cs⟩ ty24 ?_
      refine sy_store ⟨24, i42.cs⟩ ty24 ?_
      refine sy_pure 8 (.v (.int .i64 0)) ?_
      refine sy_next 47 [(3, .adr 3 0), (4, .adr 4 0), (5, .adr 5 0), (6, .adr 6 0)] [(3, ⟨24, i2.cs⟩), (4, ⟨26, [.bool false, .slice none 0 0, .slice none 0 0]⟩), (5, ⟨24, i34.cs⟩), (6, ⟨24, i40.cs⟩)] ?_
      refine sw_seq ?_
      refine sw_reg ?_
      refine sy_ldv 33 (.v (i2.v)) ty24 part_agg ?_
      refine sy_ldv 34 (.v (i34.v)) ty24 part_agg ?_
      refine sy_call 35 158 [i2.v, i34.v] ?_
      intro w47 u47 e47 d47
      have k54 := k_riDiv d47 (hi2.ext (e11.trans (g13.ext.trans (e22.trans (g24.ext.trans (e33.trans (g37.ext.trans (e39.trans (g45.ext.trans e47))))))))) (h35.ext (e39.trans (g45.ext.trans e47))).raw hg0 (by omega) (by omega)
      with_reducible refine Post.mono k54 ?_
      clear k54
      rintro _ u52 g53 ⟨i48, i50, rfl, h49, h51⟩
      refine sy_pure 32 (.v (.tuple #[i48.v, i50.v, .int .i64 0])) ?_
      refine sy_pure 36 (.v (i48.v)) ?_
      refine sy_pure 37 (.v (i50.v)) ?_
      refine sy_pure 38 (.v (.int .i64 0)) ?_
      refine sy_new 9 ⟨24, [.bool false, .slice none 0 0]⟩ ?_
      refine sy_new 10 ⟨24, [.bool false, .slice none 0 0]⟩ ?_
      refine sy_store ⟨24, i48.cs⟩ ty24 ?_
      refine sy_store ⟨24, i50.cs⟩ ty24 ?_
      refine sy_pure 11 (.v (.int .i64 0)) ?_
      refine sy_next 47 [(4, .adr 4 0), (6, .adr 6 0), (9, .adr 9 0)] [(4, ⟨26, [.bool false, .slice none 0 0, .slice none 0 0]⟩), (6, ⟨24, i40.cs⟩), (9, ⟨24, i48.cs⟩)] ?_
      refine sw_seq ?_
      refine sw_seq ?_
      refine sw_reg ?_
      refine sy_pure 39 (.adr 9 0) ?_
      refine sy_ldv 40 (.v (.bool i48.s)) ty4 part_one ?_
      refine sy_next 47 [(4, .adr 4 0), (6, .adr 6 0), (9, .adr 9 0), (40, .v (.bool i48.s))] [(4, ⟨26, [.bool false, .slice none 0 0, .slice none 0 0]⟩), (6, ⟨24, i40.cs⟩), (9, ⟨24, i48.cs⟩)] ?_
      refine sw_cond (b := i48.s) (by kernel_rfl) (fun hb55 => ?_) (fun hb55 => ?_)
      · replace hb55 : i48.s = true := hb55
        refine sw_reg ?_
        refine sy_ldv 41 (.v (i40.v)) ty24 part_agg ?_
        refine sy_call 42 159 [i40.v] ?_
        intro w56 u56 e56 d56
        have k61 := k_riNeg d56 (h41.ext (e47.trans (g53.ext.trans e56))).raw (by omega)
        with_reducible refine Post.mono k61 ?_
        clear k61
        rintro _ u59 g60 ⟨i57, rfl, h58⟩
        refine sy_store ⟨24, i57.cs⟩ ty24 ?_
        refine sy_next 47 [(4, .adr 4 0), (6, .adr 6 0), (9, .adr 9 0)] [(4, ⟨26, [.bool false, .slice none 0 0, .slice none 0 0]⟩), (6, ⟨24, i57.cs⟩), (9, ⟨24, i48.cs⟩)] ?_
        refine sw_seq ?_
        refine sw_reg ?_
        refine sy_ldv 43 (.v (i57.v)) ty24 part_agg ?_
        refine sy_pure 44 (.adr 9 1) ?_
        refine sy_ldv 45 (.v (.slice i48.m.a i48.m.n i48.m.c)) ty22 part_one ?_
        refine sy_pure 46 (.v (.agg #[.bool i57.s, .slice i57.m.a i57.m.n i57.m.c, .slice i48.m.a i48.m.n i48.m.c])) ?_
        refine sy_store ⟨26, i57.cs ++ [.slice i48.m.a i48.m.n i48.m.c]⟩ ty26 ?_
        refine sy_next 47 [(4, .adr 4 0)] [(4, ⟨26, i57.cs ++ [.slice i48.m.a i48.m.n i48.m.c]⟩)] ?_
        refine sw_ret (ret0 [.agg #[.bool i57.s, .slice i57.m.a i57.m.n i57.m.c, .slice i48.m.a i48.m.n i48.m.c]] ⟨res_cell ty26 part_agg, trivial⟩ fun u62 e63 => ?_)
        refine ⟨(⟨i57.s, i57.m, i48.m⟩ : RL), rfl, RatN.more (red_neg hy0 rfl (h58.ext e63) h49 hb55 ((int_mag h49).ext (e56.trans (g60.ext.trans e63)))) (by omega)⟩
      · replace hb55 : i48.s = false := hb55
        refine sw_skip (mp_seq ?_)
        refine sw_seq ?_
        refine sw_reg ?_
        refine sy_ldv 43 (.v (i40.v)) ty24 part_agg ?_
        refine sy_pure 44 (.adr 9 1) ?_
        refine sy_ldv 45 (.v (.slice i48.m.a i48.m.n i48.m.c)) ty22 part_one ?_
        refine sy_pure 46 (.v (.agg #[.bool i40.s, .slice i40.m.a i40.m.n i40.m.c, .slice i48.m.a i48.m.n i48.m.c])) ?_
        refine sy_store ⟨26, i40.cs ++ [.slice i48.m.a i48.m.n i48.m.c]⟩ ty26 ?_
        refine sy_next 47 [(4, .adr 4 0)] [(4, ⟨26, i40.cs ++ [.slice i48.m.a i48.m.n i48.m.c]⟩)] ?_
        refine sw_ret (ret0 [.agg #[.bool i40.s, .slice i40.m.a i40.m.n i40.m.c, .slice i48.m.a i48.m.n i48.m.c]] ⟨res_cell ty26 part_agg, trivial⟩ fun u64 e65 => ?_)
        refine ⟨(⟨i40.s, i40.m, i48.m⟩ : RL), rfl, RatN.more (red_pos hy0 rfl (h41.ext (e47.trans (g53.ext.trans e65))) h49 hb55 ((int_mag h49).ext e65)) (by omega)⟩
theorem k_parts {u w : World} {r : RL} {q : Rat} {K : Nat} (d : Dat u w) (h : RatV u r q K) (hKK : K ≤ 400000000) : Calls Tryz.prog 105 #[r.v] w (Post u w (PartV q K)) := by
  obtain ⟨⟨z, D, hi, hd, hq⟩, hK⟩ := h
  change IntV u ⟨r.s, r.m⟩ z K at hi
  change NatV u r.d D K at hd
  refine calls_sym (args := [r.v]) Tryz.func105 rfl Tryz.ntmps105 (rs := [.cell 2 24, .cell 3 24]) Tryz.results105 (le_b rfl) (le_b rfl) d ?_
  refine sw_seq ?_
  refine sw_reg ?_
  refine sy_new 1 ⟨26, r.cs⟩ ?_
  refine sy_new 2 ⟨24, [.bool false, .slice none 0 0]⟩ ?_
  refine sy_new 3 ⟨24, [.bool false, .slice none 0 0]⟩ ?_
  refine sy_next 19 [(1, .adr 1 0), (2, .adr 2 0), (3, .adr 3 0)] [(1, ⟨26, r.cs⟩), (2, ⟨24, [.bool false, .slice none 0 0]⟩), (3, ⟨24, [.bool false, .slice none 0 0]⟩)] ?_
  refine sw_seq ?_
  refine sw_reg ?_
  refine sy_pure 5 (.adr 1 2) ?_
  refine sy_ldv 6 (.v (.slice r.d.a r.d.n r.d.c)) ty22 part_one ?_
  refine sy_call 7 156 [.slice r.d.a r.d.n r.d.c] ?_
  intro w11 u11 e11 d11
  have k16 := k_rnTrim d11 (hd.ext e11) (by omega)
  with_reducible refine Post.mono k16 ?_
  clear k16
  rintro _ u14 g15 ⟨x12, rfl, h13⟩
  refine sy_pure 8 (.v (.agg #[.bool false, .slice x12.a x12.n x12.c])) ?_
  refine sy_new 4 ⟨24, [.bool false, .slice none 0 0]⟩ ?_
  refine sy_store ⟨24, [.bool false, .slice x12.a x12.n x12.c]⟩ ty24 ?_
  refine sy_next 19 [(1, .adr 1 0), (2, .adr 2 0), (3, .adr 3 0), (4, .adr 4 0)] [(1, ⟨26, r.cs⟩), (2, ⟨24, [.bool false, .slice none 0 0]⟩), (3, ⟨24, [.bool false, .slice none 0 0]⟩), (4, ⟨24, [.bool false, .slice x12.a x12.n x12.c]⟩)] ?_
  refine sw_seq ?_
  refine sw_seq ?_
  refine sw_reg ?_
  refine sy_pure 9 (.adr 4 1) ?_
  refine sy_ldv 10 (.v (.slice x12.a x12.n x12.c)) ty22 part_one ?_
  refine sy_pure 11 (.v (.int .i64 (x12.n : Int))) ?_
  refine sy_pure 12 (.v (.bool ((x12.n : Int) == 0))) ?_
  refine sy_next 19 [(1, .adr 1 0), (2, .adr 2 0), (3, .adr 3 0), (4, .adr 4 0), (12, .v (.bool ((x12.n : Int) == 0)))] [(1, ⟨26, r.cs⟩), (2, ⟨24, [.bool false, .slice none 0 0]⟩), (3, ⟨24, [.bool false, .slice none 0 0]⟩), (4, ⟨24, [.bool false, .slice x12.a x12.n x12.c]⟩)] ?_
  refine sw_cond (b := (x12.n : Int) == 0) (by kernel_rfl) (fun hb17 => ?_) (fun hb17 => ?_)
  · replace hb17 : ((x12.n : Int) == 0) = true := hb17
    have qhb17 : (x12.n : Int) = 0 := by simpa using hb17
    refine sw_seq ?_
    refine sw_reg ?_
    refine sy_pure 13 (.v (.agg #[.bool false, .slice none 0 0])) ?_
    refine sy_data 14 ⟨105, [.int .u32 1]⟩ 1 (fun b18 u19 e20 h21 => ?_)
    refine sy_pure 15 (.v (.agg #[.bool false, .slice (some ⟨b18, 0, none⟩) 1 1])) ?_
    refine sy_store ⟨24, [.bool false, .slice none 0 0]⟩ ty24 ?_
    refine sy_store ⟨24, [.bool false, .slice (some ⟨b18, 0, none⟩) 1 1]⟩ ty24 ?_
    refine sy_next 19 [(2, .adr 2 0), (3, .adr 3 0)] [(2, ⟨24, [.bool false, .slice none 0 0]⟩), (3, ⟨24, [.bool false, .slice (some ⟨b18, 0, none⟩) 1 1]⟩)] ?_
    refine sw_ret (mpr_seq (ret0 [.agg #[.bool false, .slice none 0 0], .agg #[.bool false, .slice (some ⟨b18, 0, none⟩) 1 1]] ⟨res_cell ty24 part_agg, res_cell ty24 part_agg, trivial⟩ fun u22 e23 => ?_))
    have hp := h13.pos
    have hD : D = 0 := by simp at hb17; omega
    exact ⟨⟨false, ⟨none, 0, 0⟩⟩, ⟨false, (⟨some ⟨b18, 0, none⟩, 1, 1⟩ : Sl)⟩, 0, 1, rfl, (int_zero _ K).raw, nat_intN (((one_data h21).ext e23).more hK), by omega, by rw [hq, hD]; simp, hK⟩
  · replace hb17 : ((x12.n : Int) == 0) = false := hb17
    have qhb17 : ¬ ((x12.n : Int) = 0) := by simpa using hb17
    refine sw_skip (mp_seq ?_)
    refine sw_seq ?_
    refine sw_any [0, 1, 0, 3, 15] [(0, []), (1, []), (2, []), (3, [4]), (4, [])] (by kernel_rfl) (by kernel_rfl) ?_
    refine sy_pure 16 (.adr 1 0) ?_
    refine sy_ldv 17 (.v (.agg #[.bool r.s, .slice r.m.a r.m.n r.m.c])) ty24 part_agg ?_
    refine sy_ldv 18 (.v (.agg #[.bool false, .slice x12.a x12.n x12.c])) ty24 part_agg ?_
    refine sy_store ⟨24, [.bool r.s, .slice r.m.a r.m.n r.m.c]⟩ ty24 ?_
    refine sy_store ⟨24, [.bool false, .slice x12.a x12.n x12.c]⟩ ty24 ?_
    refine sy_next 19 [(2, .adr 2 0), (3, .adr 3 0)] [(2, ⟨24, [.bool r.s, .slice r.m.a r.m.n r.m.c]⟩), (3, ⟨24, [.bool false, .slice x12.a x12.n x12.c]⟩)] ?_
    refine sw_ret (ret0 [.agg #[.bool r.s, .slice r.m.a r.m.n r.m.c], .agg #[.bool false, .slice x12.a x12.n x12.c]] ⟨res_cell ty24 part_agg, res_cell ty24 part_agg, trivial⟩ fun u24 e25 => ?_)
    have hp := h13.pos
    exact ⟨⟨r.s, r.m⟩, ⟨false, x12⟩, z, D, rfl, (hi.ext (e11.trans (g15.ext.trans e25))), nat_intN (h13.ext e25), by simp at hb17; omega, hq, hK⟩
theorem k_rqTrim {u w : World} {r1 : RL} {x : Rat} {K : Nat} (d : Dat u w) (hr1 : RatV u r1 x K) (hK : K ≤ 100000000) : Calls Tryz.prog 142 #[r1.v] w (Post u w fun v u' => ∃ r : RL, v = r.v ∧ RatN u' r x K) := by
  refine calls_sym (args := [r1.v]) Tryz.func142 rfl Tryz.ntmps142 (rs := [.cell 2 26]) Tryz.results142 (le_b rfl) (le_b rfl) d ?_
  refine sw_seq ?_
  refine sw_reg ?_
  refine sy_new 1 ⟨26, r1.cs⟩ ?_
  refine sy_new 2 ⟨26, [.bool false, .slice none 0 0, .slice none 0 0]⟩ ?_
  refine sy_next 13 [(1, .adr 1 0), (2, .adr 2 0)] [(1, ⟨26, r1.cs⟩), (2, ⟨26, [.bool false, .slice none 0 0, .slice none 0 0]⟩)] ?_
  refine sw_seq ?_
  refine sw_reg ?_
  refine sy_ldv 6 (.v (r1.v)) ty26 part_agg ?_
  refine sy_call 7 105 [r1.v] ?_
  intro w11 u11 e11 d11
  have k15 := k_parts d11 (hr1.ext e11) (by omega)
  with_reducible refine Post.mono k15 ?_
  clear k15
  rintro _ u13 g14 ⟨i12, j12, z12, D12, rfl, hi12, hj12, hp12, hq12, hk12⟩
  refine sy_pure 5 (.v (.tuple #[i12.v, j12.v])) ?_
  refine sy_pure 8 (.v (i12.v)) ?_
  refine sy_pure 9 (.v (j12.v)) ?_
  refine sy_new 3 ⟨24, [.bool false, .slice none 0 0]⟩ ?_
  refine sy_new 4 ⟨24, [.bool false, .slice none 0 0]⟩ ?_
  refine sy_store ⟨24, i12.cs⟩ ty24 ?_
  refine sy_store ⟨24, j12.cs⟩ ty24 ?_
  refine sy_next 13 [(2, .adr 2 0), (3, .adr 3 0), (4, .adr 4 0)] [(2, ⟨26, [.bool false, .slice none 0 0, .slice none 0 0]⟩), (3, ⟨24, i12.cs⟩), (4, ⟨24, j12.cs⟩)] ?_
  refine sw_seq ?_
  refine sw_reg ?_
  refine sy_ldv 10 (.v (i12.v)) ty24 part_agg ?_
  refine sy_ldv 11 (.v (j12.v)) ty24 part_agg ?_
  refine sy_call 12 106 [i12.v, j12.v] ?_
  intro w16 u16 e16 d16
  have k21 := k_reduce d16 (hi12.ext e16) (hj12.ext e16).raw (by omega) (by omega)
  with_reducible refine Post.mono k21 ?_
  clear k21
  rintro _ u19 g20 ⟨r17, rfl, h18⟩
  refine sy_store ⟨26, r17.cs⟩ ty26 ?_
  refine sy_next 13 [(2, .adr 2 0)] [(2, ⟨26, r17.cs⟩)] ?_
  refine sw_ret (ret0 [r17.v] ⟨res_cell ty26 part_agg, trivial⟩ fun u22 e23 => ?_)
  refine ⟨r17, rfl, RatN.fit (K := (max K K + 1)) ?_ (hr1.rs)⟩
  rw [hq12, ← Nt.mk_div]
  exact (h18.ext e23)
theorem k_rqSame {u w : World} {r1 r2 : RL} {x y : Rat} {K L : Nat} (d : Dat u w) (hr1 : RatN u r1 x K) (hr2 : RatN u r2 y L) : Calls Tryz.prog 71 #[r1.v, r2.v] w (Post u w fun v _ => v = .bool (decide (x = y))) := by
  refine calls_sym (args := [r1.v, r2.v]) Tryz.func71 rfl Tryz.ntmps71 (rs := [.tmp 4]) Tryz.results71 (le_b rfl) (le_b rfl) d ?_
  refine sw_seq ?_
  refine sw_reg ?_
  refine sy_new 2 ⟨26, r1.cs⟩ ?_
  refine sy_new 3 ⟨26, r2.cs⟩ ?_
  refine sy_pure 4 (.v (.bool false)) ?_
  refine sy_next 17 [(2, .adr 2 0), (3, .adr 3 0)] [(2, ⟨26, r1.cs⟩), (3, ⟨26, r2.cs⟩)] ?_
  refine sw_seq ?_
  refine sw_reg ?_
  refine sy_pure 5 (.adr 2 0) ?_
  refine sy_ldv 6 (.v (.agg #[.bool r1.s, .slice r1.m.a r1.m.n r1.m.c])) ty24 part_agg ?_
  refine sy_pure 7 (.adr 3 0) ?_
  refine sy_ldv 8 (.v (.agg #[.bool r2.s, .slice r2.m.a r2.m.n r2.m.c])) ty24 part_agg ?_
  refine sy_call 9 137 [.agg #[.bool r1.s, .slice r1.m.a r1.m.n r1.m.c], .agg #[.bool r2.s, .slice r2.m.a r2.m.n r2.m.c]] ?_
  intro w11 u11 e11 d11
  have k14 := k_riSame d11 ((RatN.num hr1).ext e11) ((RatN.num hr2).ext e11)
  with_reducible refine Post.mono k14 ?_
  clear k14
  rintro _ u12 g13 rfl
  rcases Bool.eq_false_or_eq_true (decide (x.num = y.num)) with hs15 | hs15
  · refine sy_eq 10 (x := .v (.bool (decide (x.num = y.num)))) (.v (.bool true)) (by rw [hs15]) ?_
    have qhs15 := of_decide_eq_true hs15
    refine sy_pure 11 (.adr 2 2) ?_ (hw := wants1 (g := 5) (b := true) (t := 10) (by kernel_rfl) (by kernel_rfl) (by kernel_rfl))
    refine sy_ldv 12 (.v (.slice r1.d.a r1.d.n r1.d.c)) ty22 part_one ?_ (hw := wants1 (g := 5) (b := true) (t := 10) (by kernel_rfl) (by kernel_rfl) (by kernel_rfl))
    refine sy_pure 13 (.adr 3 2) ?_ (hw := wants1 (g := 5) (b := true) (t := 10) (by kernel_rfl) (by kernel_rfl) (by kernel_rfl))
    refine sy_ldv 14 (.v (.slice r2.d.a r2.d.n r2.d.c)) ty22 part_one ?_ (hw := wants1 (g := 5) (b := true) (t := 10) (by kernel_rfl) (by kernel_rfl) (by kernel_rfl))
    refine sy_call 15 138 [.slice r1.d.a r1.d.n r1.d.c, .slice r2.d.a r2.d.n r2.d.c] ?_ (hw := wants1 (g := 5) (b := true) (t := 10) (by kernel_rfl) (by kernel_rfl) (by kernel_rfl))
    intro w16 u16 e16 d16
    have k19 := k_rnSame d16 ((RatN.den hr1).ext (e11.trans (g13.ext.trans e16))) ((RatN.den hr2).ext (e11.trans (g13.ext.trans e16)))
    with_reducible refine Post.mono k19 ?_
    clear k19
    rintro _ u17 g18 rfl
    refine sy_pure 16 (.v (.bool (decide (x.den = y.den)))) ?_
    refine sy_pure 4 (.v (.bool (decide (x.den = y.den)))) ?_
    refine sy_next 17 [(4, .v (.bool (decide (x.den = y.den))))] [] ?_
    refine sw_ret (ret0 [.bool (decide (x.den = y.den))] ⟨res_tmp, trivial⟩ fun u20 e21 => ?_)
    show _ = _
    rw [← Nt.same_q, hs15]
    rfl
  · refine sy_eq 10 (x := .v (.bool (decide (x.num = y.num)))) (.v (.bool false)) (by rw [hs15]) ?_
    have qhs15 := of_decide_eq_false hs15
    refine sy_drop 11 (unwanted (g := 5) (b := true) (c := false) (t := 10) (by kernel_rfl) (by kernel_rfl) (by kernel_rfl) (by kernel_rfl)) ?_
    refine sy_drop 12 (unwanted (g := 5) (b := true) (c := false) (t := 10) (by kernel_rfl) (by kernel_rfl) (by kernel_rfl) (by kernel_rfl)) ?_
    refine sy_drop 13 (unwanted (g := 5) (b := true) (c := false) (t := 10) (by kernel_rfl) (by kernel_rfl) (by kernel_rfl) (by kernel_rfl)) ?_
    refine sy_drop 14 (unwanted (g := 5) (b := true) (c := false) (t := 10) (by kernel_rfl) (by kernel_rfl) (by kernel_rfl) (by kernel_rfl)) ?_
    refine sy_drop 15 (unwanted (g := 5) (b := true) (c := false) (t := 10) (by kernel_rfl) (by kernel_rfl) (by kernel_rfl) (by kernel_rfl)) ?_
    refine sy_pure 16 (.v (.bool false)) ?_
    refine sy_pure 4 (.v (.bool false)) ?_
    refine sy_next 17 [(4, .v (.bool false))] [] ?_
    refine sw_ret (ret0 [.bool false] ⟨res_tmp, trivial⟩ fun u22 e23 => ?_)
    show _ = _
    rw [← Nt.same_q, hs15]
    rfl
theorem k_rqOf {u w : World} {z : Int} (d : Dat u w) (h0 : -9223372036854775808 ≤ z) (h1 : z ≤ 9223372036854775807) : Calls Tryz.prog 41 #[.int .i64 z] w (Post u w fun v u' => ∃ r : RL, v = r.v ∧ RatN u' r (z : Rat) 2) := by
  refine calls_sym (args := [.int .i64 z]) Tryz.func41 rfl Tryz.ntmps41 (rs := [.cell 2 26]) Tryz.results41 (le_b rfl) (le_b rfl) d ?_
  refine sw_seq ?_
  refine sw_reg ?_
  refine sy_new 2 ⟨26, [.bool false, .slice none 0 0, .slice none 0 0]⟩ ?_
  refine sy_next 7 [(0, .v (.int .i64 z)), (2, .adr 2 0)] [(2, ⟨26, [.bool false, .slice none 0 0, .slice none 0 0]⟩)] ?_
  refine sw_seq ?_
  refine sw_reg ?_
  refine sy_pure 3 (.v (.int .i64 z)) ?_
  refine sy_call 4 123 [.int .i64 z] ?_
  intro w11 u11 e11 d11
  have k16 := k_riOf d11 (z := z) (by omega) (by omega)
  with_reducible refine Post.mono k16 ?_
  clear k16
  rintro _ u14 g15 ⟨i12, rfl, h13⟩
  refine sy_data 5 ⟨105, [.int .u32 1]⟩ 1 (fun b17 u18 e19 h20 => ?_)
  refine sy_pure 6 (.v (.agg #[.bool i12.s, .slice i12.m.a i12.m.n i12.m.c, .slice (some ⟨b17, 0, none⟩) 1 1])) ?_
  refine sy_store ⟨26, i12.cs ++ [.slice (some ⟨b17, 0, none⟩) 1 1]⟩ ty26 ?_
  refine sy_next 7 [(2, .adr 2 0)] [(2, ⟨26, i12.cs ++ [.slice (some ⟨b17, 0, none⟩) 1 1]⟩)] ?_
  refine sw_ret (ret0 [.agg #[.bool i12.s, .slice i12.m.a i12.m.n i12.m.c, .slice (some ⟨b17, 0, none⟩) 1 1]] ⟨res_cell ty26 part_agg, trivial⟩ fun u21 e22 => ?_)
  refine ⟨(⟨i12.s, i12.m, (⟨some ⟨b17, 0, none⟩, 1, 1⟩ : Sl)⟩ : RL), rfl, ?_⟩
  exact whole_rat (h13.ext (e19.trans e22)) ((one_data h20).ext e22)
theorem k_rqFrac {u w : World} {a b : Int} (d : Dat u w) (ha0 : -9223372036854775808 ≤ a) (ha1 : a ≤ 9223372036854775807) (hb0 : -9223372036854775808 ≤ b) (hb1 : b ≤ 9223372036854775807) : Calls Tryz.prog 49 #[.int .i64 a, .int .i64 b] w (Post u w fun v u' => ∃ r : RL, v = r.v ∧ RatN u' r ((a : Rat) / (b : Rat)) 3) := by
  refine calls_sym (args := [.int .i64 a, .int .i64 b]) Tryz.func49 rfl Tryz.ntmps49 (rs := [.cell 4 26]) Tryz.results49 (le_b rfl) (le_b rfl) d ?_
  refine sw_seq ?_
  refine sw_reg ?_
  refine sy_new 4 ⟨26, [.bool false, .slice none 0 0, .slice none 0 0]⟩ ?_
  refine sy_next 10 [(0, .v (.int .i64 a)), (1, .v (.int .i64 b)), (4, .adr 4 0)] [(4, ⟨26, [.bool false, .slice none 0 0, .slice none 0 0]⟩)] ?_
  refine sw_seq ?_
  refine sw_reg ?_
  refine sy_pure 5 (.v (.int .i64 a)) ?_
  refine sy_call 6 123 [.int .i64 a] ?_
  intro w11 u11 e11 d11
  have k16 := k_riOf d11 (z := a) (by omega) (by omega)
  with_reducible refine Post.mono k16 ?_
  clear k16
  rintro _ u14 g15 ⟨i12, rfl, h13⟩
  refine sy_pure 7 (.v (.int .i64 b)) ?_
  refine sy_call 8 123 [.int .i64 b] ?_
  intro w17 u17 e17 d17
  have k22 := k_riOf d17 (z := b) (by omega) (by omega)
  with_reducible refine Post.mono k22 ?_
  clear k22
  rintro _ u20 g21 ⟨i18, rfl, h19⟩
  refine sy_call 9 106 [i12.v, i18.v] ?_
  intro w23 u23 e23 d23
  have k28 := k_reduce d23 (h13.ext (e17.trans (g21.ext.trans e23))).raw (h19.ext e23).raw (by omega) (by omega)
  with_reducible refine Post.mono k28 ?_
  clear k28
  rintro _ u26 g27 ⟨r24, rfl, h25⟩
  refine sy_store ⟨26, r24.cs⟩ ty26 ?_
  refine sy_next 10 [(4, .adr 4 0)] [(4, ⟨26, r24.cs⟩)] ?_
  refine sw_ret (ret0 [r24.v] ⟨res_cell ty26 part_agg, trivial⟩ fun u29 e30 => ?_)
  refine ⟨r24, rfl, RatN.more (K := (max 2 2 + 1)) ?_ (by omega)⟩
  exact (h25.ext e30)
theorem k_rqSign {u w : World} {r1 : RL} {x : Rat} {K : Nat} (d : Dat u w) (hr1 : RatV u r1 x K) (hK : K ≤ 100000000) : Calls Tryz.prog 43 #[r1.v] w (Post u w fun v u' => v = .int .i64 (Nt.sgQ x)) := by
  refine calls_sym (args := [r1.v]) Tryz.func43 rfl Tryz.ntmps43 (rs := [.tmp 2]) Tryz.results43 (le_b rfl) (le_b rfl) d ?_
  refine sw_seq ?_
  refine sw_reg ?_
  refine sy_new 1 ⟨26, r1.cs⟩ ?_
  refine sy_pure 2 (.v (.int .i64 0)) ?_
  refine sy_next 12 [(1, .adr 1 0)] [(1, ⟨26, r1.cs⟩)] ?_
  refine sw_seq ?_
  refine sw_reg ?_
  refine sy_ldv 6 (.v (r1.v)) ty26 part_agg ?_
  refine sy_call 7 105 [r1.v] ?_
  intro w11 u11 e11 d11
  have k15 := k_parts d11 (hr1.ext e11) (by omega)
  with_reducible refine Post.mono k15 ?_
  clear k15
  rintro _ u13 g14 ⟨i12, j12, z12, D12, rfl, hi12, hj12, hp12, hq12, hk12⟩
  refine sy_pure 5 (.v (.tuple #[i12.v, j12.v])) ?_
  refine sy_pure 8 (.v (i12.v)) ?_
  refine sy_pure 9 (.v (j12.v)) ?_
  refine sy_new 3 ⟨24, [.bool false, .slice none 0 0]⟩ ?_
  refine sy_new 4 ⟨24, [.bool false, .slice none 0 0]⟩ ?_
  refine sy_store ⟨24, i12.cs⟩ ty24 ?_
  refine sy_store ⟨24, j12.cs⟩ ty24 ?_
  refine sy_next 12 [(3, .adr 3 0)] [(3, ⟨24, i12.cs⟩)] ?_
  refine sw_seq ?_
  refine sw_reg ?_
  refine sy_ldv 10 (.v (i12.v)) ty24 part_agg ?_
  refine sy_call 11 125 [i12.v] ?_
  intro w16 u16 e16 d16
  have k19 := k_riSign d16 (hi12.ext e16) (by omega)
  with_reducible refine Post.mono k19 ?_
  clear k19
  rintro _ u17 g18 rfl
  refine sy_pure 2 (.v (.int .i64 (Nt.cmpS z12 0))) ?_
  refine sy_next 12 [(2, .v (.int .i64 (Nt.cmpS z12 0)))] [] ?_
  refine sw_ret (ret0 [.int .i64 (Nt.cmpS z12 0)] ⟨res_tmp, trivial⟩ fun u20 e21 => ?_)
  show _ = _
  rw [hq12, ← Nt.sg_mk hp12]
  rfl
theorem k_rqCompare {u w : World} {r1 : RL} {x : Rat} {K : Nat} {r2 : RL} {y : Rat} {L : Nat} (d : Dat u w) (hr1 : RatV u r1 x K) (hr2 : RatV u r2 y L) (hK : K ≤ 100000000) (hL : L ≤ 100000000) : Calls Tryz.prog 40 #[r1.v, r2.v] w (Post u w fun v u' => v = .int .i64 (Nt.cmpQ x y)) := by
  refine calls_sym (args := [r1.v, r2.v]) Tryz.func40 rfl Tryz.ntmps40 (rs := [.tmp 4]) Tryz.results40 (le_b rfl) (le_b rfl) d ?_
  refine sw_seq ?_
  refine sw_reg ?_
  refine sy_new 2 ⟨26, r1.cs⟩ ?_
  refine sy_new 3 ⟨26, r2.cs⟩ ?_
  refine sy_pure 4 (.v (.int .i64 0)) ?_
  refine sy_next 26 [(2, .adr 2 0), (3, .adr 3 0)] [(2, ⟨26, r1.cs⟩), (3, ⟨26, r2.cs⟩)] ?_
  refine sw_seq ?_
  refine sw_reg ?_
  refine sy_ldv 10 (.v (r1.v)) ty26 part_agg ?_
  refine sy_call 11 105 [r1.v] ?_
  intro w11 u11 e11 d11
  have k15 := k_parts d11 (hr1.ext e11) (by omega)
  with_reducible refine Post.mono k15 ?_
  clear k15
  rintro _ u13 g14 ⟨i12, j12, z12, D12, rfl, hi12, hj12, hp12, hq12, hk12⟩
  refine sy_pure 9 (.v (.tuple #[i12.v, j12.v])) ?_
  refine sy_pure 12 (.v (i12.v)) ?_
  refine sy_pure 13 (.v (j12.v)) ?_
  refine sy_new 5 ⟨24, [.bool false, .slice none 0 0]⟩ ?_
  refine sy_new 6 ⟨24, [.bool false, .slice none 0 0]⟩ ?_
  refine sy_store ⟨24, i12.cs⟩ ty24 ?_
  refine sy_store ⟨24, j12.cs⟩ ty24 ?_
  refine sy_next 26 [(3, .adr 3 0), (5, .adr 5 0), (6, .adr 6 0)] [(3, ⟨26, r2.cs⟩), (5, ⟨24, i12.cs⟩), (6, ⟨24, j12.cs⟩)] ?_
  refine sw_seq ?_
  refine sw_reg ?_
  refine sy_ldv 15 (.v (r2.v)) ty26 part_agg ?_
  refine sy_call 16 105 [r2.v] ?_
  intro w16 u16 e16 d16
  have k20 := k_parts d16 (hr2.ext (e11.trans (g14.ext.trans e16))) (by omega)
  with_reducible refine Post.mono k20 ?_
  clear k20
  rintro _ u18 g19 ⟨i17, j17, z17, D17, rfl, hi17, hj17, hp17, hq17, hk17⟩
  refine sy_pure 14 (.v (.tuple #[i17.v, j17.v])) ?_
  refine sy_pure 17 (.v (i17.v)) ?_
  refine sy_pure 18 (.v (j17.v)) ?_
  refine sy_new 7 ⟨24, [.bool false, .slice none 0 0]⟩ ?_
  refine sy_new 8 ⟨24, [.bool false, .slice none 0 0]⟩ ?_
  refine sy_store ⟨24, i17.cs⟩ ty24 ?_
  refine sy_store ⟨24, j17.cs⟩ ty24 ?_
  refine sy_next 26 [(5, .adr 5 0), (6, .adr 6 0), (7, .adr 7 0), (8, .adr 8 0)] [(5, ⟨24, i12.cs⟩), (6, ⟨24, j12.cs⟩), (7, ⟨24, i17.cs⟩), (8, ⟨24, j17.cs⟩)] ?_
  refine sw_seq ?_
  refine sw_any [0, 0, 3, 0, 0, 31, 63, 127] [(0, []), (1, []), (3, []), (4, []), (2, []), (5, []), (6, []), (7, [])] (by kernel_rfl) (by kernel_rfl) ?_
  refine sy_ldv 19 (.v (i12.v)) ty24 part_agg ?_
  refine sy_ldv 20 (.v (j17.v)) ty24 part_agg ?_
  refine sy_ldv 22 (.v (i17.v)) ty24 part_agg ?_
  refine sy_ldv 23 (.v (j12.v)) ty24 part_agg ?_
  refine sy_call 21 108 [i12.v, j17.v] ?_
  intro w21 u21 e21 d21
  have k26 := k_riMul d21 (hi12.ext (e16.trans (g19.ext.trans e21))) (hj17.ext e21).raw (by omega) (by omega)
  with_reducible refine Post.mono k26 ?_
  clear k26
  rintro _ u24 g25 ⟨i22, rfl, h23⟩
  refine sy_call 24 108 [i17.v, j12.v] ?_
  intro w27 u27 e27 d27
  have k32 := k_riMul d27 (hi17.ext (e21.trans (g25.ext.trans e27))) (hj12.ext (e16.trans (g19.ext.trans (e21.trans (g25.ext.trans e27))))).raw (by omega) (by omega)
  with_reducible refine Post.mono k32 ?_
  clear k32
  rintro _ u30 g31 ⟨i28, rfl, h29⟩
  refine sy_call 25 122 [i22.v, i28.v] ?_
  intro w33 u33 e33 d33
  have k36 := k_riCompare d33 (h23.ext (e27.trans (g31.ext.trans e33))).raw (h29.ext e33).raw (by omega) (by omega)
  with_reducible refine Post.mono k36 ?_
  clear k36
  rintro _ u34 g35 rfl
  refine sy_pure 4 (.v (.int .i64 (Nt.cmpS (z12 * (D17 : Int)) (z17 * (D12 : Int))))) ?_
  refine sy_next 26 [(4, .v (.int .i64 (Nt.cmpS (z12 * (D17 : Int)) (z17 * (D12 : Int)))))] [] ?_
  refine sw_ret (ret0 [.int .i64 (Nt.cmpS (z12 * (D17 : Int)) (z17 * (D12 : Int)))] ⟨res_tmp, trivial⟩ fun u37 e38 => ?_)
  show _ = _
  rw [hq12, hq17, ← Nt.cmp_mk hp12 hp17]
  rfl
end Go.Proofs.YtnedhbidmfoegaaGreat
namespace Go.Proofs.YtnedhbidmfoegaaGreat
open Go.RowKit
set_option linter.unusedVariables false
theorem k_signed {u w : World} {s : Bool} {x : Sl} {N K : Nat} (d : Dat u w) (h : NatN u x N K) : Calls Tryz.prog 180 #[.bool s, x.v] w (Post u w fun v u' => ∃ i : IL, v = i.v ∧ IntN u' i (Nt.sg s N) K) := by
  refine calls_sym (args := [.bool s, .slice x.a x.n x.c]) Tryz.func180 rfl Tryz.ntmps180 (rs := [.cell 4 24]) Tryz.results180 (le_b rfl) (le_b rfl) d ?_
  refine sw_seq ?_
  refine sw_reg ?_
  refine sy_new 4 ⟨24, [.bool false, .slice none 0 0]⟩ ?_
  refine sy_next 13 [(0, .v (.bool s)), (1, .v (.slice x.a x.n x.c)), (4, .adr 4 0)] [(4, ⟨24, [.bool false, .slice none 0 0]⟩)] ?_
  refine sw_seq ?_
  refine sw_reg ?_
  refine sy_pure 5 (.v (.bool s)) ?_
  rcases Bool.eq_false_or_eq_true s with hs11 | hs11
  · refine sy_eq 6 (x := .v (.bool s)) (.v (.bool true)) (by rw [hs11]) ?_
    refine sy_pure 7 (.v (.slice x.a x.n x.c)) ?_ (hw := wants1 (g := 1) (b := true) (t := 6) (by kernel_rfl) (by kernel_rfl) (by kernel_rfl))
    refine sy_pure 8 (.v (.int .i64 (x.n : Int))) ?_ (hw := wants1 (g := 1) (b := true) (t := 6) (by kernel_rfl) (by kernel_rfl) (by kernel_rfl))
    refine sy_pure 9 (.v (.bool (decide ((0 : Int) < (x.n : Int))))) ?_ (hw := wants1 (g := 1) (b := true) (t := 6) (by kernel_rfl) (by kernel_rfl) (by kernel_rfl))
    refine sy_pure 10 (.v (.bool (decide ((0 : Int) < (x.n : Int))))) ?_
    refine sy_pure 11 (.v (.slice x.a x.n x.c)) ?_
    refine sy_pure 12 (.v (.agg #[.bool (decide ((0 : Int) < (x.n : Int))), .slice x.a x.n x.c])) ?_
    refine sy_store ⟨24, [.bool (decide ((0 : Int) < (x.n : Int))), .slice x.a x.n x.c]⟩ ty24 ?_
    refine sy_next 13 [(4, .adr 4 0)] [(4, ⟨24, [.bool (decide ((0 : Int) < (x.n : Int))), .slice x.a x.n x.c]⟩)] ?_
    refine sw_ret (ret0 [.agg #[.bool (decide ((0 : Int) < (x.n : Int))), .slice x.a x.n x.c]] ⟨res_cell ty24 part_agg, trivial⟩ fun u12 e13 => ?_)
    rw [hs11]
    exact ⟨⟨_, x⟩, rfl, signed_int (s := true) (h.ext e13)⟩
  · refine sy_eq 6 (x := .v (.bool s)) (.v (.bool false)) (by rw [hs11]) ?_
    refine sy_drop 7 (unwanted (g := 1) (b := true) (c := false) (t := 6) (by kernel_rfl) (by kernel_rfl) (by kernel_rfl) (by kernel_rfl)) ?_
    refine sy_drop 8 (unwanted (g := 1) (b := true) (c := false) (t := 6) (by kernel_rfl) (by kernel_rfl) (by kernel_rfl) (by kernel_rfl)) ?_
    refine sy_drop 9 (unwanted (g := 1) (b := true) (c := false) (t := 6) (by kernel_rfl) (by kernel_rfl) (by kernel_rfl) (by kernel_rfl)) ?_
    refine sy_pure 10 (.v (.bool false)) ?_
    refine sy_pure 11 (.v (.slice x.a x.n x.c)) ?_
    refine sy_pure 12 (.v (.agg #[.bool false, .slice x.a x.n x.c])) ?_
    refine sy_store ⟨24, [.bool false, .slice x.a x.n x.c]⟩ ty24 ?_
    refine sy_next 13 [(4, .adr 4 0)] [(4, ⟨24, [.bool false, .slice x.a x.n x.c]⟩)] ?_
    refine sw_ret (ret0 [.agg #[.bool false, .slice x.a x.n x.c]] ⟨res_cell ty24 part_agg, trivial⟩ fun u14 e15 => ?_)
    rw [hs11]
    exact ⟨⟨_, x⟩, rfl, signed_int (s := false) (h.ext e15)⟩
theorem k_intTrim {u w : World} {i1 : IL} {zN : Int} {K : Nat} (d : Dat u w) (hi1 : IntV u i1 zN K) (hK : K ≤ 500000000) : Calls Tryz.prog 182 #[i1.v] w (Post u w fun v u' => ∃ i : IL, v = i.v ∧ IntN u' i zN K) := by
  obtain ⟨N, hN, hzN⟩ := hi1
  refine calls_sym (args := [i1.v]) Tryz.func182 rfl Tryz.ntmps182 (rs := [.cell 2 24]) Tryz.results182 (le_b rfl) (le_b rfl) d ?_
  refine sw_seq ?_
  refine sw_reg ?_
  refine sy_new 1 ⟨24, i1.cs⟩ ?_
  refine sy_new 2 ⟨24, [.bool false, .slice none 0 0]⟩ ?_
  refine sy_next 9 [(1, .adr 1 0), (2, .adr 2 0)] [(1, ⟨24, i1.cs⟩), (2, ⟨24, [.bool false, .slice none 0 0]⟩)] ?_
  refine sw_seq ?_
  refine sw_any [0, 1, 0, 4, 12, 31, 63] [(0, []), (1, []), (2, []), (3, []), (4, []), (5, []), (6, [])] (by kernel_rfl) (by kernel_rfl) ?_
  refine sy_pure 3 (.adr 1 0) ?_
  refine sy_ldv 4 (.v (.bool i1.s)) ty4 part_one ?_
  refine sy_pure 5 (.adr 1 1) ?_
  refine sy_ldv 6 (.v (.slice i1.m.a i1.m.n i1.m.c)) ty22 part_one ?_
  refine sy_call 7 183 [.slice i1.m.a i1.m.n i1.m.c] ?_
  intro w11 u11 e11 d11
  have k16 := k_natTrim d11 (hN.ext e11) (by omega)
  with_reducible refine Post.mono k16 ?_
  clear k16
  rintro _ u14 g15 ⟨x12, rfl, h13⟩
  refine sy_call 8 180 [.bool i1.s, .slice x12.a x12.n x12.c] ?_
  intro w17 u17 e17 d17
  have k22 := k_signed d17 (s := i1.s) (h13.ext e17)
  with_reducible refine Post.mono k22 ?_
  clear k22
  rintro _ u20 g21 ⟨i18, rfl, h19⟩
  refine sy_store ⟨24, i18.cs⟩ ty24 ?_
  refine sy_next 9 [(2, .adr 2 0)] [(2, ⟨24, i18.cs⟩)] ?_
  refine sw_ret (ret0 [i18.v] ⟨res_cell ty24 part_agg, trivial⟩ fun u23 e24 => ?_)
  refine ⟨i18, rfl, IntN.more (K := K) ?_ (by omega)⟩
  rw [hzN]
  exact (h19.ext e24)
theorem k_intMul {u w : World} {i1 : IL} {zN : Int} {K : Nat} {i2 : IL} {zM : Int} {L : Nat} (d : Dat u w) (hi1 : IntV u i1 zN K) (hi2 : IntV u i2 zM L) (hK : K ≤ 500000000) (hL : L ≤ 500000000) : Calls Tryz.prog 147 #[i1.v, i2.v] w (Post u w fun v u' => ∃ i : IL, v = i.v ∧ IntN u' i (zN * zM) (K + L)) := by
  obtain ⟨N, hN, hzN⟩ := hi1
  obtain ⟨M, hM, hzM⟩ := hi2
  refine calls_sym (args := [i1.v, i2.v]) Tryz.func147 rfl Tryz.ntmps147 (rs := [.cell 4 24]) Tryz.results147 (le_b rfl) (le_b rfl) d ?_
  refine sw_seq ?_
  refine sw_reg ?_
  refine sy_new 2 ⟨24, i1.cs⟩ ?_
  refine sy_new 3 ⟨24, i2.cs⟩ ?_
  refine sy_new 4 ⟨24, [.bool false, .slice none 0 0]⟩ ?_
  refine sy_next 16 [(2, .adr 2 0), (3, .adr 3 0), (4, .adr 4 0)] [(2, ⟨24, i1.cs⟩), (3, ⟨24, i2.cs⟩), (4, ⟨24, [.bool false, .slice none 0 0]⟩)] ?_
  refine sw_seq ?_
  refine sw_any [0, 1, 0, 4, 15, 0, 32, 0, 128, 480, 1023, 2047] [(0, []), (1, []), (2, []), (3, []), (4, []), (5, []), (6, []), (7, []), (8, []), (9, []), (10, []), (11, [])] (by kernel_rfl) (by kernel_rfl) ?_
  refine sy_pure 5 (.adr 2 0) ?_
  refine sy_ldv 6 (.v (.bool i1.s)) ty4 part_one ?_
  refine sy_pure 7 (.adr 3 0) ?_
  refine sy_ldv 8 (.v (.bool i2.s)) ty4 part_one ?_
  refine sy_pure 9 (.v (.bool (!(i1.s == i2.s)))) ?_
  refine sy_pure 10 (.adr 2 1) ?_
  refine sy_ldv 11 (.v (.slice i1.m.a i1.m.n i1.m.c)) ty22 part_one ?_
  refine sy_pure 12 (.adr 3 1) ?_
  refine sy_ldv 13 (.v (.slice i2.m.a i2.m.n i2.m.c)) ty22 part_one ?_
  refine sy_call 14 155 [.slice i1.m.a i1.m.n i1.m.c, .slice i2.m.a i2.m.n i2.m.c] ?_
  intro w11 u11 e11 d11
  have k16 := k_natMul d11 (hN.ext e11) (hM.ext e11) (by omega) (by omega)
  with_reducible refine Post.mono k16 ?_
  clear k16
  rintro _ u14 g15 ⟨x12, rfl, h13⟩
  refine sy_call 15 180 [.bool (!(i1.s == i2.s)), .slice x12.a x12.n x12.c] ?_
  intro w17 u17 e17 d17
  have k22 := k_signed d17 (s := !(i1.s == i2.s)) (h13.ext e17)
  with_reducible refine Post.mono k22 ?_
  clear k22
  rintro _ u20 g21 ⟨i18, rfl, h19⟩
  refine sy_store ⟨24, i18.cs⟩ ty24 ?_
  refine sy_next 16 [(4, .adr 4 0)] [(4, ⟨24, i18.cs⟩)] ?_
  refine sw_ret (ret0 [i18.v] ⟨res_cell ty24 part_agg, trivial⟩ fun u23 e24 => ?_)
  refine ⟨i18, rfl, IntN.more (K := (K + L)) ?_ (by omega)⟩
  rw [hzN, hzM, ← Nt.sg_mul]
  exact (h19.ext e24)
theorem k_intAdd {u w : World} {i1 : IL} {zN : Int} {K : Nat} {i2 : IL} {zM : Int} {L : Nat} (d : Dat u w) (hi1 : IntV u i1 zN K) (hi2 : IntV u i2 zM L) (hK : K ≤ 500000000) (hL : L ≤ 500000000) : Calls Tryz.prog 153 #[i1.v, i2.v] w (Post u w fun v u' => ∃ i : IL, v = i.v ∧ IntN u' i (zN + zM) (max K L + 1)) := by
  obtain ⟨N, hN, hzN⟩ := hi1
  obtain ⟨M, hM, hzM⟩ := hi2
  refine calls_sym (args := [i1.v, i2.v]) Tryz.func153 rfl Tryz.ntmps153 (rs := [.cell 4 24]) Tryz.results153 (le_b rfl) (le_b rfl) d ?_
  refine sw_seq ?_
  refine sw_reg ?_
  refine sy_new 2 ⟨24, i1.cs⟩ ?_
  refine sy_new 3 ⟨24, i2.cs⟩ ?_
  refine sy_new 4 ⟨24, [.bool false, .slice none 0 0]⟩ ?_
  refine sy_next 40 [(2, .adr 2 0), (3, .adr 3 0), (4, .adr 4 0)] [(2, ⟨24, i1.cs⟩), (3, ⟨24, i2.cs⟩), (4, ⟨24, [.bool false, .slice none 0 0]⟩)] ?_
  refine sw_seq ?_
  refine sw_seq ?_
  refine sw_reg ?_
  refine sy_pure 5 (.adr 2 0) ?_
  refine sy_ldv 6 (.v (.bool i1.s)) ty4 part_one ?_
  refine sy_pure 7 (.adr 3 0) ?_
  refine sy_ldv 8 (.v (.bool i2.s)) ty4 part_one ?_
  refine sy_pure 9 (.v (.bool (i1.s == i2.s))) ?_
  refine sy_next 40 [(2, .adr 2 0), (3, .adr 3 0), (4, .adr 4 0), (9, .v (.bool (i1.s == i2.s)))] [(2, ⟨24, i1.cs⟩), (3, ⟨24, i2.cs⟩), (4, ⟨24, [.bool false, .slice none 0 0]⟩)] ?_
  refine sw_cond (b := i1.s == i2.s) (by kernel_rfl) (fun hb11 => ?_) (fun hb11 => ?_)
  · replace hb11 : (i1.s == i2.s) = true := hb11
    refine sw_seq ?_
    refine sw_any [0, 1, 0, 4, 0, 16, 60, 127, 255] [(0, []), (1, []), (2, []), (3, []), (4, []), (5, []), (6, []), (7, []), (8, [])] (by kernel_rfl) (by kernel_rfl) ?_
    refine sy_pure 10 (.adr 2 0) ?_
    refine sy_ldv 11 (.v (.bool i1.s)) ty4 part_one ?_
    refine sy_pure 12 (.adr 2 1) ?_
    refine sy_ldv 13 (.v (.slice i1.m.a i1.m.n i1.m.c)) ty22 part_one ?_
    refine sy_pure 14 (.adr 3 1) ?_
    refine sy_ldv 15 (.v (.slice i2.m.a i2.m.n i2.m.c)) ty22 part_one ?_
    refine sy_call 16 185 [.slice i1.m.a i1.m.n i1.m.c, .slice i2.m.a i2.m.n i2.m.c] ?_
    intro w12 u12 e12 d12
    have k17 := k_natAdd d12 (hN.ext e12) (hM.ext e12) (by omega) (by omega)
    with_reducible refine Post.mono k17 ?_
    clear k17
    rintro _ u15 g16 ⟨x13, rfl, h14⟩
    refine sy_call 17 180 [.bool i1.s, .slice x13.a x13.n x13.c] ?_
    intro w18 u18 e18 d18
    have k23 := k_signed d18 (s := i1.s) (h14.ext e18)
    with_reducible refine Post.mono k23 ?_
    clear k23
    rintro _ u21 g22 ⟨i19, rfl, h20⟩
    refine sy_store ⟨24, i19.cs⟩ ty24 ?_
    refine sy_next 40 [(4, .adr 4 0)] [(4, ⟨24, i19.cs⟩)] ?_
    refine sw_ret (mpr_seq (ret0 [i19.v] ⟨res_cell ty24 part_agg, trivial⟩ fun u24 e25 => ?_))
    refine ⟨i19, rfl, IntN.more (K := (max K L + 1)) ?_ (by omega)⟩
    rw [hzN, hzM, ← Nt.sg_add1 N M hb11]
    exact (h20.ext e25)
  · replace hb11 : (i1.s == i2.s) = false := hb11
    refine sw_skip (mp_seq ?_)
    refine sw_seq ?_
    refine sw_seq ?_
    refine sw_reg ?_
    refine sy_pure 18 (.adr 2 1) ?_
    refine sy_ldv 19 (.v (.slice i1.m.a i1.m.n i1.m.c)) ty22 part_one ?_
    refine sy_pure 20 (.adr 3 1) ?_
    refine sy_ldv 21 (.v (.slice i2.m.a i2.m.n i2.m.c)) ty22 part_one ?_
    refine sy_call 22 154 [.slice i1.m.a i1.m.n i1.m.c, .slice i2.m.a i2.m.n i2.m.c] ?_
    intro w26 u26 e26 d26
    have k29 := k_natCompare d26 (hN.ext e26) (hM.ext e26)
    with_reducible refine Post.mono k29 ?_
    clear k29
    rintro _ u27 g28 rfl
    refine sy_pure 23 (.v (.bool ((Nt.cmpS N M) == (-1)))) ?_
    refine sy_next 40 [(2, .adr 2 0), (3, .adr 3 0), (4, .adr 4 0), (23, .v (.bool ((Nt.cmpS N M) == (-1))))] [(2, ⟨24, i1.cs⟩), (3, ⟨24, i2.cs⟩), (4, ⟨24, [.bool false, .slice none 0 0]⟩)] ?_
    refine sw_cond (b := (Nt.cmpS N M) == (-1)) (by kernel_rfl) (fun hb30 => ?_) (fun hb30 => ?_)
    · replace hb30 : ((Nt.cmpS N M) == (-1)) = true := hb30
      refine sw_seq ?_
      refine sw_any [0, 1, 0, 4, 0, 16, 60, 127, 255] [(0, []), (1, []), (2, []), (3, []), (4, []), (5, []), (6, []), (7, []), (8, [])] (by kernel_rfl) (by kernel_rfl) ?_
      refine sy_pure 24 (.adr 3 0) ?_
      refine sy_ldv 25 (.v (.bool i2.s)) ty4 part_one ?_
      refine sy_pure 26 (.adr 3 1) ?_
      refine sy_ldv 27 (.v (.slice i2.m.a i2.m.n i2.m.c)) ty22 part_one ?_
      refine sy_pure 28 (.adr 2 1) ?_
      refine sy_ldv 29 (.v (.slice i1.m.a i1.m.n i1.m.c)) ty22 part_one ?_
      refine sy_call 30 186 [.slice i2.m.a i2.m.n i2.m.c, .slice i1.m.a i1.m.n i1.m.c] ?_
      intro w31 u31 e31 d31
      have k36 := k_natSub d31 (hM.ext (e26.trans (g28.ext.trans e31))) (hN.ext (e26.trans (g28.ext.trans e31))) (by omega) (by omega)
      with_reducible refine Post.mono k36 ?_
      clear k36
      rintro _ u34 g35 ⟨x32, rfl, h33⟩
      refine sy_call 31 180 [.bool i2.s, .slice x32.a x32.n x32.c] ?_
      intro w37 u37 e37 d37
      have k42 := k_signed d37 (s := i2.s) (h33.ext e37)
      with_reducible refine Post.mono k42 ?_
      clear k42
      rintro _ u40 g41 ⟨i38, rfl, h39⟩
      refine sy_store ⟨24, i38.cs⟩ ty24 ?_
      refine sy_next 40 [(4, .adr 4 0)] [(4, ⟨24, i38.cs⟩)] ?_
      refine sw_ret (mpr_seq (ret0 [i38.v] ⟨res_cell ty24 part_agg, trivial⟩ fun u43 e44 => ?_))
      refine ⟨i38, rfl, IntN.more (K := L) ?_ (by omega)⟩
      rw [hzN, hzM, ← Nt.sg_add2 N M hb11 hb30]
      exact (h39.ext e44)
    · replace hb30 : ((Nt.cmpS N M) == (-1)) = false := hb30
      refine sw_skip (mp_seq ?_)
      refine sw_seq ?_
      refine sw_any [0, 1, 0, 4, 0, 16, 60, 127, 255] [(0, []), (1, []), (2, []), (3, []), (4, []), (5, []), (6, []), (7, []), (8, [])] (by kernel_rfl) (by kernel_rfl) ?_
      refine sy_pure 32 (.adr 2 0) ?_
      refine sy_ldv 33 (.v (.bool i1.s)) ty4 part_one ?_
      refine sy_pure 34 (.adr 2 1) ?_
      refine sy_ldv 35 (.v (.slice i1.m.a i1.m.n i1.m.c)) ty22 part_one ?_
      refine sy_pure 36 (.adr 3 1) ?_
      refine sy_ldv 37 (.v (.slice i2.m.a i2.m.n i2.m.c)) ty22 part_one ?_
      refine sy_call 38 186 [.slice i1.m.a i1.m.n i1.m.c, .slice i2.m.a i2.m.n i2.m.c] ?_
      intro w45 u45 e45 d45
      have k50 := k_natSub d45 (hN.ext (e26.trans (g28.ext.trans e45))) (hM.ext (e26.trans (g28.ext.trans e45))) (by omega) (by omega)
      with_reducible refine Post.mono k50 ?_
      clear k50
      rintro _ u48 g49 ⟨x46, rfl, h47⟩
      refine sy_call 39 180 [.bool i1.s, .slice x46.a x46.n x46.c] ?_
      intro w51 u51 e51 d51
      have k56 := k_signed d51 (s := i1.s) (h47.ext e51)
      with_reducible refine Post.mono k56 ?_
      clear k56
      rintro _ u54 g55 ⟨i52, rfl, h53⟩
      refine sy_store ⟨24, i52.cs⟩ ty24 ?_
      refine sy_next 40 [(4, .adr 4 0)] [(4, ⟨24, i52.cs⟩)] ?_
      refine sw_ret (ret0 [i52.v] ⟨res_cell ty24 part_agg, trivial⟩ fun u57 e58 => ?_)
      refine ⟨i52, rfl, IntN.more (K := K) ?_ (by omega)⟩
      rw [hzN, hzM, ← Nt.sg_add3 N M hb11 hb30]
      exact (h53.ext e58)
theorem k_intSign {u w : World} {i1 : IL} {zN : Int} {K : Nat} (d : Dat u w) (hi1 : IntV u i1 zN K)  : Calls Tryz.prog 146 #[i1.v] w (Post u w fun v u' => v = .int .i64 (Nt.cmpS zN 0)) := by
  obtain ⟨N, hN, hzN⟩ := hi1
  refine calls_sym (args := [i1.v]) Tryz.func146 rfl Tryz.ntmps146 (rs := [.tmp 2]) Tryz.results146 (le_b rfl) (le_b rfl) d ?_
  refine sw_seq ?_
  refine sw_reg ?_
  refine sy_new 1 ⟨24, i1.cs⟩ ?_
  refine sy_pure 2 (.v (.int .i64 0)) ?_
  refine sy_next 11 [(1, .adr 1 0)] [(1, ⟨24, i1.cs⟩)] ?_
  refine sw_seq ?_
  refine sw_block ?_
  refine sw_seq ?_
  refine sw_reg ?_
  refine sy_pure 4 (.adr 1 1) ?_
  refine sy_ldv 5 (.v (.slice i1.m.a i1.m.n i1.m.c)) ty22 part_one ?_
  refine sy_call 6 154 [.slice i1.m.a i1.m.n i1.m.c, .slice none 0 0] ?_
  intro w11 u11 e11 d11
  have k14 := k_natCompare d11 (hN.ext e11) (nat_nil _ 1)
  with_reducible refine Post.mono k14 ?_
  clear k14
  rintro _ u12 g13 rfl
  refine sy_pure 7 (.v (.bool ((Nt.cmpS N 0) == 0))) ?_
  refine sy_pure 3 (.v (.bool ((Nt.cmpS N 0) == 0))) ?_
  refine sy_next 11 [(1, .adr 1 0), (3, .v (.bool ((Nt.cmpS N 0) == 0)))] [(1, ⟨24, i1.cs⟩)] ?_
  refine sw_cond (b := (Nt.cmpS N 0) == 0) (by kernel_rfl) (fun hb15 => ?_) (fun hb15 => ?_)
  · replace hb15 : ((Nt.cmpS N 0) == 0) = true := hb15
    refine sw_seq ?_
    refine sw_reg ?_
    refine sy_pure 2 (.v (.int .i64 0)) ?_
    refine sy_next 11 [(2, .v (.int .i64 0))] [] ?_
    refine sw_ret (mpr_block (mpr_seq (ret0 [.int .i64 0] ⟨res_tmp, trivial⟩ fun u16 e17 => ?_)))
    show _ = _
    rw [hzN, Nt.sg_cmp0, if_pos hb15]
    rfl
  · replace hb15 : ((Nt.cmpS N 0) == 0) = false := hb15
    refine sw_seq ?_
    refine sw_reg ?_
    refine sy_pure 9 (.adr 1 0) ?_
    refine sy_ldv 10 (.v (.bool i1.s)) ty4 part_one ?_
    refine sy_pure 8 (.v (.bool i1.s)) ?_
    refine sy_next 11 [(8, .v (.bool i1.s))] [] ?_
    refine sw_cond (b := i1.s) (by kernel_rfl) (fun hb18 => ?_) (fun hb18 => ?_)
    · replace hb18 : i1.s = true := hb18
      refine sw_seq ?_
      refine sw_reg ?_
      refine sy_pure 2 (.v (.int .i64 (-1))) ?_
      refine sy_next 11 [(2, .v (.int .i64 (-1)))] [] ?_
      refine sw_ret (mpr_block (mpr_seq (ret0 [.int .i64 (-1)] ⟨res_tmp, trivial⟩ fun u19 e20 => ?_)))
      show _ = _
      rw [hzN, Nt.sg_cmp0, if_neg (ne_true_of_eq_false hb15), if_pos hb18]
      rfl
    · replace hb18 : i1.s = false := hb18
      refine sw_skip (mp_seq ?_)
      refine sw_seq ?_
      refine sw_reg ?_
      refine sy_pure 2 (.v (.int .i64 1)) ?_
      refine sy_next 11 [(2, .v (.int .i64 1))] [] ?_
      refine sw_ret (ret0 [.int .i64 1] ⟨res_tmp, trivial⟩ fun u21 e22 => ?_)
      show _ = _
      rw [hzN, Nt.sg_cmp0, if_neg (ne_true_of_eq_false hb15), if_neg (ne_true_of_eq_false hb18)]
      rfl
namespace Nt
theorem cmp_sg (s t : Bool) (N M : Nat) : cmpS (sg s N) (sg t M) = if decide (cmpS (sg s N) 0 < cmpS (sg t M) 0) = true then -1 else if decide (cmpS (sg t M) 0 < cmpS (sg s N) 0) = true then 1 else if (cmpS (sg s N) 0 == -1) = true then cmpS (M : Int) (N : Int) else cmpS (N : Int) (M : Int) := by
  rcases cmp_range (sg s N) 0 with ⟨e, h⟩ | ⟨e, h⟩ | ⟨e, h⟩ <;> rcases cmp_range (sg t M) 0 with ⟨e', h'⟩ | ⟨e', h'⟩ | ⟨e', h'⟩ <;> rw [e, e'] <;> simp
  · unfold sg at *; cases s <;> cases t <;> simp at h h' ⊢ <;> unfold cmpS <;> (repeat' split) <;> first | rfl | omega
  · exact cmp_lt (by omega)
  · exact cmp_lt (by omega)
  · exact cmp_gt (by omega)
  · rw [h, h']; unfold sg at *; cases s <;> cases t <;> simp at h h' <;> rw [h, h'] <;> rfl
  · exact cmp_lt (by omega)
  · exact cmp_gt (by omega)
  · exact cmp_gt (by omega)
  · unfold sg at *; cases s <;> cases t <;> simp at h h' ⊢ <;> first | rfl | omega
end Nt
theorem k_intCompare {u w : World} {i1 : IL} {zN : Int} {K : Nat} {i2 : IL} {zM : Int} {L : Nat} (d : Dat u w) (hi1 : IntV u i1 zN K) (hi2 : IntV u i2 zM L)  : Calls Tryz.prog 167 #[i1.v, i2.v] w (Post u w fun v u' => v = .int .i64 (Nt.cmpS zN zM)) := by
  obtain ⟨N, hN, hzN⟩ := hi1
  obtain ⟨M, hM, hzM⟩ := hi2
  refine calls_sym (args := [i1.v, i2.v]) Tryz.func167 rfl Tryz.ntmps167 (rs := [.tmp 4]) Tryz.results167 (le_b rfl) (le_b rfl) d ?_
  refine sw_seq ?_
  refine sw_reg ?_
  refine sy_new 2 ⟨24, i1.cs⟩ ?_
  refine sy_new 3 ⟨24, i2.cs⟩ ?_
  refine sy_pure 4 (.v (.int .i64 0)) ?_
  refine sy_next 32 [(2, .adr 2 0), (3, .adr 3 0)] [(2, ⟨24, i1.cs⟩), (3, ⟨24, i2.cs⟩)] ?_
  refine sw_seq ?_
  refine sw_any [0, 1, 0, 7, 15, 31] [(0, []), (2, []), (1, []), (3, []), (4, []), (5, [])] (by kernel_rfl) (by kernel_rfl) ?_
  refine sy_ldv 7 (.v (i1.v)) ty24 part_agg ?_
  refine sy_ldv 9 (.v (i2.v)) ty24 part_agg ?_
  refine sy_call 8 146 [i1.v] ?_
  intro w11 u11 e11 d11
  have k14 := k_intSign d11 (IntV.same (s := i1.s) (hN.ext e11))
  with_reducible refine Post.mono k14 ?_
  clear k14
  rintro _ u12 g13 rfl
  refine sy_call 10 146 [i2.v] ?_
  intro w15 u15 e15 d15
  have k18 := k_intSign d15 (IntV.same (s := i2.s) (hM.ext (e11.trans (g13.ext.trans e15))))
  with_reducible refine Post.mono k18 ?_
  clear k18
  rintro _ u16 g17 rfl
  refine sy_pure 5 (.v (.int .i64 (Nt.cmpS (Nt.sg i1.s N) 0))) ?_
  refine sy_pure 6 (.v (.int .i64 (Nt.cmpS (Nt.sg i2.s M) 0))) ?_
  refine sy_next 32 [(2, .adr 2 0), (3, .adr 3 0), (5, .v (.int .i64 (Nt.cmpS (Nt.sg i1.s N) 0))), (6, .v (.int .i64 (Nt.cmpS (Nt.sg i2.s M) 0)))] [(2, ⟨24, i1.cs⟩), (3, ⟨24, i2.cs⟩)] ?_
  refine sw_seq ?_
  refine sw_block ?_
  refine sw_seq ?_
  refine sw_reg ?_
  refine sy_pure 12 (.v (.int .i64 (Nt.cmpS (Nt.sg i1.s N) 0))) ?_
  refine sy_pure 13 (.v (.int .i64 (Nt.cmpS (Nt.sg i2.s M) 0))) ?_
  refine sy_pure 14 (.v (.bool (decide ((Nt.cmpS (Nt.sg i1.s N) 0) < (Nt.cmpS (Nt.sg i2.s M) 0))))) ?_
  refine sy_pure 11 (.v (.bool (decide ((Nt.cmpS (Nt.sg i1.s N) 0) < (Nt.cmpS (Nt.sg i2.s M) 0))))) ?_
  refine sy_next 32 [(2, .adr 2 0), (3, .adr 3 0), (5, .v (.int .i64 (Nt.cmpS (Nt.sg i1.s N) 0))), (6, .v (.int .i64 (Nt.cmpS (Nt.sg i2.s M) 0))), (11, .v (.bool (decide ((Nt.cmpS (Nt.sg i1.s N) 0) < (Nt.cmpS (Nt.sg i2.s M) 0)))))] [(2, ⟨24, i1.cs⟩), (3, ⟨24, i2.cs⟩)] ?_
  refine sw_cond (b := decide ((Nt.cmpS (Nt.sg i1.s N) 0) < (Nt.cmpS (Nt.sg i2.s M) 0))) (by kernel_rfl) (fun hb19 => ?_) (fun hb19 => ?_)
  · replace hb19 : (decide ((Nt.cmpS (Nt.sg i1.s N) 0) < (Nt.cmpS (Nt.sg i2.s M) 0))) = true := hb19
    have qhb19 := of_decide_eq_true hb19
    refine sw_seq ?_
    refine sw_reg ?_
    refine sy_pure 4 (.v (.int .i64 (-1))) ?_
    refine sy_next 32 [(4, .v (.int .i64 (-1)))] [] ?_
    refine sw_ret (mpr_block (mpr_seq (ret0 [.int .i64 (-1)] ⟨res_tmp, trivial⟩ fun u20 e21 => ?_)))
    show _ = _
    rw [hzN, hzM, Nt.cmp_sg, if_pos hb19]
    rfl
  · replace hb19 : (decide ((Nt.cmpS (Nt.sg i1.s N) 0) < (Nt.cmpS (Nt.sg i2.s M) 0))) = false := hb19
    have qhb19 := of_decide_eq_false hb19
    refine sw_seq ?_
    refine sw_reg ?_
    refine sy_pure 16 (.v (.int .i64 (Nt.cmpS (Nt.sg i1.s N) 0))) ?_
    refine sy_pure 17 (.v (.int .i64 (Nt.cmpS (Nt.sg i2.s M) 0))) ?_
    refine sy_pure 18 (.v (.bool (decide ((Nt.cmpS (Nt.sg i2.s M) 0) < (Nt.cmpS (Nt.sg i1.s N) 0))))) ?_
    refine sy_pure 15 (.v (.bool (decide ((Nt.cmpS (Nt.sg i2.s M) 0) < (Nt.cmpS (Nt.sg i1.s N) 0))))) ?_
    refine sy_next 32 [(2, .adr 2 0), (3, .adr 3 0), (5, .v (.int .i64 (Nt.cmpS (Nt.sg i1.s N) 0))), (15, .v (.bool (decide ((Nt.cmpS (Nt.sg i2.s M) 0) < (Nt.cmpS (Nt.sg i1.s N) 0)))))] [(2, ⟨24, i1.cs⟩), (3, ⟨24, i2.cs⟩)] ?_
    refine sw_cond (b := decide ((Nt.cmpS (Nt.sg i2.s M) 0) < (Nt.cmpS (Nt.sg i1.s N) 0))) (by kernel_rfl) (fun hb22 => ?_) (fun hb22 => ?_)
    · replace hb22 : (decide ((Nt.cmpS (Nt.sg i2.s M) 0) < (Nt.cmpS (Nt.sg i1.s N) 0))) = true := hb22
      have qhb22 := of_decide_eq_true hb22
      refine sw_seq ?_
      refine sw_reg ?_
      refine sy_pure 4 (.v (.int .i64 1)) ?_
      refine sy_next 32 [(4, .v (.int .i64 1))] [] ?_
      refine sw_ret (mpr_block (mpr_seq (ret0 [.int .i64 1] ⟨res_tmp, trivial⟩ fun u23 e24 => ?_)))
      show _ = _
      rw [hzN, hzM, Nt.cmp_sg, if_neg (ne_true_of_eq_false hb19), if_pos hb22]
      rfl
    · replace hb22 : (decide ((Nt.cmpS (Nt.sg i2.s M) 0) < (Nt.cmpS (Nt.sg i1.s N) 0))) = false := hb22
      have qhb22 := of_decide_eq_false hb22
      refine sw_seq ?_
      refine sw_reg ?_
      refine sy_pure 20 (.v (.int .i64 (Nt.cmpS (Nt.sg i1.s N) 0))) ?_
      refine sy_pure 21 (.v (.bool ((Nt.cmpS (Nt.sg i1.s N) 0) == (-1)))) ?_
      refine sy_pure 19 (.v (.bool ((Nt.cmpS (Nt.sg i1.s N) 0) == (-1)))) ?_
      refine sy_next 32 [(2, .adr 2 0), (3, .adr 3 0), (19, .v (.bool ((Nt.cmpS (Nt.sg i1.s N) 0) == (-1))))] [(2, ⟨24, i1.cs⟩), (3, ⟨24, i2.cs⟩)] ?_
      refine sw_cond (b := (Nt.cmpS (Nt.sg i1.s N) 0) == (-1)) (by kernel_rfl) (fun hb25 => ?_) (fun hb25 => ?_)
      · replace hb25 : ((Nt.cmpS (Nt.sg i1.s N) 0) == (-1)) = true := hb25
        refine sw_seq ?_
        refine sw_reg ?_
        refine sy_pure 22 (.adr 3 1) ?_
        refine sy_ldv 23 (.v (.slice i2.m.a i2.m.n i2.m.c)) ty22 part_one ?_
        refine sy_pure 24 (.adr 2 1) ?_
        refine sy_ldv 25 (.v (.slice i1.m.a i1.m.n i1.m.c)) ty22 part_one ?_
        refine sy_call 26 154 [.slice i2.m.a i2.m.n i2.m.c, .slice i1.m.a i1.m.n i1.m.c] ?_
        intro w26 u26 e26 d26
        have k29 := k_natCompare d26 (hM.ext (e11.trans (g13.ext.trans (e15.trans (g17.ext.trans e26))))) (hN.ext (e11.trans (g13.ext.trans (e15.trans (g17.ext.trans e26)))))
        with_reducible refine Post.mono k29 ?_
        clear k29
        rintro _ u27 g28 rfl
        refine sy_pure 4 (.v (.int .i64 (Nt.cmpS M N))) ?_
        refine sy_next 32 [(4, .v (.int .i64 (Nt.cmpS M N)))] [] ?_
        refine sw_ret (mpr_block (mpr_seq (ret0 [.int .i64 (Nt.cmpS M N)] ⟨res_tmp, trivial⟩ fun u30 e31 => ?_)))
        show _ = _
        rw [hzN, hzM, Nt.cmp_sg, if_neg (ne_true_of_eq_false hb19), if_neg (ne_true_of_eq_false hb22), if_pos hb25]
        rfl
      · replace hb25 : ((Nt.cmpS (Nt.sg i1.s N) 0) == (-1)) = false := hb25
        refine sw_skip (mp_seq ?_)
        refine sw_seq ?_
        refine sw_reg ?_
        refine sy_pure 27 (.adr 2 1) ?_
        refine sy_ldv 28 (.v (.slice i1.m.a i1.m.n i1.m.c)) ty22 part_one ?_
        refine sy_pure 29 (.adr 3 1) ?_
        refine sy_ldv 30 (.v (.slice i2.m.a i2.m.n i2.m.c)) ty22 part_one ?_
        refine sy_call 31 154 [.slice i1.m.a i1.m.n i1.m.c, .slice i2.m.a i2.m.n i2.m.c] ?_
        intro w32 u32 e32 d32
        have k35 := k_natCompare d32 (hN.ext (e11.trans (g13.ext.trans (e15.trans (g17.ext.trans e32))))) (hM.ext (e11.trans (g13.ext.trans (e15.trans (g17.ext.trans e32)))))
        with_reducible refine Post.mono k35 ?_
        clear k35
        rintro _ u33 g34 rfl
        refine sy_pure 4 (.v (.int .i64 (Nt.cmpS N M))) ?_
        refine sy_next 32 [(4, .v (.int .i64 (Nt.cmpS N M)))] [] ?_
        refine sw_ret (ret0 [.int .i64 (Nt.cmpS N M)] ⟨res_tmp, trivial⟩ fun u36 e37 => ?_)
        show _ = _
        rw [hzN, hzM, Nt.cmp_sg, if_neg (ne_true_of_eq_false hb19), if_neg (ne_true_of_eq_false hb22), if_neg (ne_true_of_eq_false hb25)]
        rfl
theorem k_intOf {u w : World} {z : Int} (d : Dat u w) (h0 : -9223372036854775808 ≤ z) (h1 : z ≤ 9223372036854775807) : Calls Tryz.prog 166 #[.int .i64 z] w (Post u w fun v u' => ∃ i : IL, v = i.v ∧ IntN u' i z 2) := by
  by_cases hneg : z < 0
  · refine calls_sym (args := [.int .i64 z]) Tryz.func166 rfl Tryz.ntmps166 (rs := [.cell 2 24]) Tryz.results166 (le_b rfl) (le_b rfl) d ?_
    refine sw_seq ?_
    refine sw_reg ?_
    refine sy_new 2 ⟨24, [.bool false, .slice none 0 0]⟩ ?_
    refine sy_next 20 [(0, .v (.int .i64 z)), (2, .adr 2 0)] [(2, ⟨24, [.bool false, .slice none 0 0]⟩)] ?_
    refine sw_seq ?_
    refine sw_reg ?_
    refine sy_pure 4 (.v (.int .i64 z)) ?_
    refine sy_eq 5 (x := .v (.int .u64 (IntKind.u64.wrap z))) (.v (.int .u64 (z + 18446744073709551616))) (by rw [show (IntKind.u64.wrap z) = (z + 18446744073709551616) from (by simp [IntKind.wrap, IntKind.bits, IntKind.signed]; omega)]) ?_
    refine sy_pure 3 (.v (.int .u64 (z + 18446744073709551616))) ?_
    refine sy_next 20 [(0, .v (.int .i64 z)), (2, .adr 2 0), (3, .v (.int .u64 (z + 18446744073709551616)))] [(2, ⟨24, [.bool false, .slice none 0 0]⟩)] ?_
    refine sw_seq ?_
    refine sw_seq ?_
    refine sw_reg ?_
    refine sy_pure 6 (.v (.int .i64 z)) ?_
    refine sy_eq 7 (x := .v (.bool (decide (z < 0)))) (.v (.bool true)) (by rw [show (decide (z < 0)) = true from (by simp; omega)]) ?_
    refine sy_next 20 [(0, .v (.int .i64 z)), (2, .adr 2 0), (3, .v (.int .u64 (z + 18446744073709551616))), (7, .v (.bool true))] [(2, ⟨24, [.bool false, .slice none 0 0]⟩)] ?_
    refine sw_true (by kernel_rfl) ?_
    refine sw_reg ?_
    refine sy_pure 8 (.v (.int .u64 (z + 18446744073709551616))) ?_
    refine sy_eq 9 (x := .v (.int .u64 (IntKind.u64.wrap (0 - (z + 18446744073709551616))))) (.v (.int .u64 (-z))) (by rw [show (IntKind.u64.wrap (0 - (z + 18446744073709551616))) = (-z) from (by simp [IntKind.wrap, IntKind.bits, IntKind.signed]; omega)]) ?_
    refine sy_pure 3 (.v (.int .u64 (-z))) ?_
    refine sy_next 20 [(0, .v (.int .i64 z)), (2, .adr 2 0), (3, .v (.int .u64 (-z)))] [(2, ⟨24, [.bool false, .slice none 0 0]⟩)] ?_
    refine sw_seq ?_
    refine sw_reg ?_
    refine sy_pure 10 (.v (.int .i64 z)) ?_
    refine sy_eq 11 (x := .v (.bool (decide (z < 0)))) (.v (.bool true)) (by rw [show (decide (z < 0)) = true from (by simp; omega)]) ?_
    refine sy_pure 12 (.v (.int .u64 (-z))) ?_
    refine sy_eq 13 (x := .v (.int .u32 (IntKind.u32.wrap (-z)))) (.v (.int .u32 ((-z) % 4294967296))) (by rw [show (IntKind.u32.wrap (-z)) = ((-z) % 4294967296) from (IntKind.wrap_u32 _)]) ?_
    refine sy_pure 14 (.v (.int .u64 (-z))) ?_
    refine sy_eq 15 (x := .v (.int .u64 (Int.fdiv (-z) (2 ^ 32)))) (.v (.int .u64 ((-z) / 4294967296))) (by rw [show (Int.fdiv (-z) (2 ^ 32)) = ((-z) / 4294967296) from (by rw [Int.fdiv_eq_ediv_of_nonneg _ (by decide)]; rfl)]) ?_
    refine sy_eq 16 (x := .v (.int .u32 (IntKind.u32.wrap ((-z) / 4294967296)))) (.v (.int .u32 ((-z) / 4294967296))) (by rw [show (IntKind.u32.wrap ((-z) / 4294967296)) = ((-z) / 4294967296) from (IntWalk.u32_in _ (by omega))]) ?_
    refine sy_data 17 ⟨105, [.int .u32 ((-z) % 4294967296), .int .u32 ((-z) / 4294967296)]⟩ 2 (fun b11 u12 e13 h14 => ?_)
    refine sy_call 18 183 [.slice (some ⟨b11, 0, none⟩) 2 2] ?_
    intro w15 u15 e15 d15
    have k20 := k_natTrim d15 ((two_data (N := z.natAbs) h14 (by omega) (by omega) (by omega)).ext e15) (by omega)
    with_reducible refine Post.mono k20 ?_
    clear k20
    rintro _ u18 g19 ⟨x16, rfl, h17⟩
    refine sy_call 19 180 [.bool true, .slice x16.a x16.n x16.c] ?_
    intro w21 u21 e21 d21
    have k26 := k_signed d21 (s := true) (h17.ext e21)
    with_reducible refine Post.mono k26 ?_
    clear k26
    rintro _ u24 g25 ⟨i22, rfl, h23⟩
    refine sy_store ⟨24, i22.cs⟩ ty24 ?_
    refine sy_next 20 [(2, .adr 2 0)] [(2, ⟨24, i22.cs⟩)] ?_
    refine sw_ret (ret0 [i22.v] ⟨res_cell ty24 part_agg, trivial⟩ fun u27 e28 => ?_)
    refine ⟨i22, rfl, IntN.more (K := 2) ?_ (by omega)⟩
    have e : z = Nt.sg true z.natAbs := by unfold Nt.sg; simp; omega
    rw [e]
    exact (h23.ext e28)
  · refine calls_sym (args := [.int .i64 z]) Tryz.func166 rfl Tryz.ntmps166 (rs := [.cell 2 24]) Tryz.results166 (le_b rfl) (le_b rfl) d ?_
    refine sw_seq ?_
    refine sw_reg ?_
    refine sy_new 2 ⟨24, [.bool false, .slice none 0 0]⟩ ?_
    refine sy_next 20 [(0, .v (.int .i64 z)), (2, .adr 2 0)] [(2, ⟨24, [.bool false, .slice none 0 0]⟩)] ?_
    refine sw_seq ?_
    refine sw_reg ?_
    refine sy_pure 4 (.v (.int .i64 z)) ?_
    refine sy_eq 5 (x := .v (.int .u64 (IntKind.u64.wrap z))) (.v (.int .u64 (z))) (by rw [show (IntKind.u64.wrap z) = z from (by simp [IntKind.wrap, IntKind.bits, IntKind.signed]; omega)]) ?_
    refine sy_pure 3 (.v (.int .u64 z)) ?_
    refine sy_next 20 [(0, .v (.int .i64 z)), (2, .adr 2 0), (3, .v (.int .u64 z))] [(2, ⟨24, [.bool false, .slice none 0 0]⟩)] ?_
    refine sw_seq ?_
    refine sw_seq ?_
    refine sw_reg ?_
    refine sy_pure 6 (.v (.int .i64 z)) ?_
    refine sy_eq 7 (x := .v (.bool (decide (z < 0)))) (.v (.bool false)) (by rw [show (decide (z < 0)) = false from (by simp; omega)]) ?_
    refine sy_next 20 [(0, .v (.int .i64 z)), (2, .adr 2 0), (3, .v (.int .u64 z)), (7, .v (.bool false))] [(2, ⟨24, [.bool false, .slice none 0 0]⟩)] ?_
    refine sw_false (by kernel_rfl) ?_
    refine sw_skip (mp_seq ?_)
    refine sw_seq ?_
    refine sw_reg ?_
    refine sy_pure 10 (.v (.int .i64 z)) ?_
    refine sy_eq 11 (x := .v (.bool (decide (z < 0)))) (.v (.bool false)) (by rw [show (decide (z < 0)) = false from (by simp; omega)]) ?_
    refine sy_pure 12 (.v (.int .u64 z)) ?_
    refine sy_eq 13 (x := .v (.int .u32 (IntKind.u32.wrap (z)))) (.v (.int .u32 ((z) % 4294967296))) (by rw [show (IntKind.u32.wrap (z)) = ((z) % 4294967296) from (IntKind.wrap_u32 _)]) ?_
    refine sy_pure 14 (.v (.int .u64 z)) ?_
    refine sy_eq 15 (x := .v (.int .u64 (Int.fdiv (z) (2 ^ 32)))) (.v (.int .u64 ((z) / 4294967296))) (by rw [show (Int.fdiv (z) (2 ^ 32)) = ((z) / 4294967296) from (by rw [Int.fdiv_eq_ediv_of_nonneg _ (by decide)]; rfl)]) ?_
    refine sy_eq 16 (x := .v (.int .u32 (IntKind.u32.wrap ((z) / 4294967296)))) (.v (.int .u32 ((z) / 4294967296))) (by rw [show (IntKind.u32.wrap ((z) / 4294967296)) = ((z) / 4294967296) from (IntWalk.u32_in _ (by omega))]) ?_
    refine sy_data 17 ⟨105, [.int .u32 ((z) % 4294967296), .int .u32 ((z) / 4294967296)]⟩ 2 (fun b11 u12 e13 h14 => ?_)
    refine sy_call 18 183 [.slice (some ⟨b11, 0, none⟩) 2 2] ?_
    intro w15 u15 e15 d15
    have k20 := k_natTrim d15 ((two_data (N := z.natAbs) h14 (by omega) (by omega) (by omega)).ext e15) (by omega)
    with_reducible refine Post.mono k20 ?_
    clear k20
    rintro _ u18 g19 ⟨x16, rfl, h17⟩
    refine sy_call 19 180 [.bool false, .slice x16.a x16.n x16.c] ?_
    intro w21 u21 e21 d21
    have k26 := k_signed d21 (s := false) (h17.ext e21)
    with_reducible refine Post.mono k26 ?_
    clear k26
    rintro _ u24 g25 ⟨i22, rfl, h23⟩
    refine sy_store ⟨24, i22.cs⟩ ty24 ?_
    refine sy_next 20 [(2, .adr 2 0)] [(2, ⟨24, i22.cs⟩)] ?_
    refine sw_ret (ret0 [i22.v] ⟨res_cell ty24 part_agg, trivial⟩ fun u27 e28 => ?_)
    refine ⟨i22, rfl, IntN.more (K := 2) ?_ (by omega)⟩
    have e : z = Nt.sg false z.natAbs := by unfold Nt.sg; simp; omega
    rw [e]
    exact (h23.ext e28)
end Go.Proofs.YtnedhbidmfoegaaGreat
namespace Go.Proofs.YtnedhbidmfoegaaGreat
open Go.RowKit
set_option linter.unusedVariables false
theorem k_natural {u w : World} {x : Sl} (d : Dat u w) : Calls Tryz.prog 148 #[x.v] w (Post u w fun v _ => v = .agg #[.bool false, x.v]) := by
  refine calls_sym (args := [.slice x.a x.n x.c]) Tryz.func148 rfl Tryz.ntmps148 (rs := [.cell 2 24]) Tryz.results148 (le_b rfl) (le_b rfl) d ?_
  refine sw_seq ?_
  refine sw_reg ?_
  refine sy_new 2 ⟨24, [.bool false, .slice none 0 0]⟩ ?_
  refine sy_next 5 [(0, .v (.slice x.a x.n x.c)), (2, .adr 2 0)] [(2, ⟨24, [.bool false, .slice none 0 0]⟩)] ?_
  refine sw_seq ?_
  refine sw_reg ?_
  refine sy_pure 3 (.v (.slice x.a x.n x.c)) ?_
  refine sy_pure 4 (.v (.agg #[.bool false, .slice x.a x.n x.c])) ?_
  refine sy_store ⟨24, [.bool false, .slice x.a x.n x.c]⟩ ty24 ?_
  refine sy_next 5 [(2, .adr 2 0)] [(2, ⟨24, [.bool false, .slice x.a x.n x.c]⟩)] ?_
  refine sw_ret (ret0 [.agg #[.bool false, .slice x.a x.n x.c]] ⟨res_cell ty24 part_agg, trivial⟩ fun u11 e12 => ?_)
  exact rfl
theorem k_whole {u w : World} {i : IL} (d : Dat u w) : Calls Tryz.prog 152 #[i.v] w (Post u w fun v u' => ∃ y : Sl, v = .agg #[.bool i.s, i.m.v, y.v] ∧ NatN u' y 1 1) := by
  refine calls_sym (args := [i.v]) Tryz.func152 rfl Tryz.ntmps152 (rs := [.cell 2 26]) Tryz.results152 (le_b rfl) (le_b rfl) d ?_
  refine sw_seq ?_
  refine sw_reg ?_
  refine sy_new 1 ⟨24, i.cs⟩ ?_
  refine sy_new 2 ⟨26, [.bool false, .slice none 0 0, .slice none 0 0]⟩ ?_
  refine sy_next 6 [(1, .adr 1 0), (2, .adr 2 0)] [(1, ⟨24, i.cs⟩), (2, ⟨26, [.bool false, .slice none 0 0, .slice none 0 0]⟩)] ?_
  refine sw_seq ?_
  refine sw_reg ?_
  refine sy_ldv 3 (.v (i.v)) ty24 part_agg ?_
  refine sy_data 4 ⟨105, [.int .u32 1]⟩ 1 (fun b11 u12 e13 h14 => ?_)
  refine sy_pure 5 (.v (.agg #[.bool i.s, .slice i.m.a i.m.n i.m.c, .slice (some ⟨b11, 0, none⟩) 1 1])) ?_
  refine sy_store ⟨26, i.cs ++ [.slice (some ⟨b11, 0, none⟩) 1 1]⟩ ty26 ?_
  refine sy_next 6 [(2, .adr 2 0)] [(2, ⟨26, i.cs ++ [.slice (some ⟨b11, 0, none⟩) 1 1]⟩)] ?_
  refine sw_ret (ret0 [.agg #[.bool i.s, .slice i.m.a i.m.n i.m.c, .slice (some ⟨b11, 0, none⟩) 1 1]] ⟨res_cell ty26 part_agg, trivial⟩ fun u15 e16 => ?_)
  exact ⟨_, rfl, ((one_data h14).ext e16)⟩
theorem k_quotient {u w : World} {i j : IL} (d : Dat u w) : Calls Tryz.prog 149 #[i.v, j.v] w (Post u w fun v _ => v = .agg #[.bool (!(i.s == j.s)), i.m.v, j.m.v]) := by
  refine calls_sym (args := [i.v, j.v]) Tryz.func149 rfl Tryz.ntmps149 (rs := [.cell 4 114]) Tryz.results149 (le_b rfl) (le_b rfl) d ?_
  refine sw_seq ?_
  refine sw_reg ?_
  refine sy_new 2 ⟨24, i.cs⟩ ?_
  refine sy_new 3 ⟨24, j.cs⟩ ?_
  refine sy_new 4 ⟨114, [.bool false, .slice none 0 0, .slice none 0 0]⟩ ?_
  refine sy_next 16 [(2, .adr 2 0), (3, .adr 3 0), (4, .adr 4 0)] [(2, ⟨24, i.cs⟩), (3, ⟨24, j.cs⟩), (4, ⟨114, [.bool false, .slice none 0 0, .slice none 0 0]⟩)] ?_
  refine sw_seq ?_
  refine sw_reg ?_
  refine sy_pure 5 (.adr 2 0) ?_
  refine sy_ldv 6 (.v (.bool i.s)) ty4 part_one ?_
  refine sy_pure 7 (.adr 3 0) ?_
  refine sy_ldv 8 (.v (.bool j.s)) ty4 part_one ?_
  refine sy_pure 9 (.v (.bool (!(i.s == j.s)))) ?_
  refine sy_pure 10 (.adr 2 1) ?_
  refine sy_ldv 11 (.v (.slice i.m.a i.m.n i.m.c)) ty22 part_one ?_
  refine sy_pure 12 (.v (.agg #[.bool (!(i.s == j.s)), .slice i.m.a i.m.n i.m.c])) ?_
  refine sy_pure 13 (.adr 3 1) ?_
  refine sy_ldv 14 (.v (.slice j.m.a j.m.n j.m.c)) ty22 part_one ?_
  refine sy_pure 15 (.v (.agg #[.bool (!(i.s == j.s)), .slice i.m.a i.m.n i.m.c, .slice j.m.a j.m.n j.m.c])) ?_
  refine sy_store ⟨114, [.bool (!(i.s == j.s)), .slice i.m.a i.m.n i.m.c, .slice j.m.a j.m.n j.m.c]⟩ ty114 ?_
  refine sy_next 16 [(4, .adr 4 0)] [(4, ⟨114, [.bool (!(i.s == j.s)), .slice i.m.a i.m.n i.m.c, .slice j.m.a j.m.n j.m.c]⟩)] ?_
  refine sw_ret (ret0 [.agg #[.bool (!(i.s == j.s)), .slice i.m.a i.m.n i.m.c, .slice j.m.a j.m.n j.m.c]] ⟨res_cell ty114 part_agg, trivial⟩ fun u11 e12 => ?_)
  exact rfl
theorem k_flip {u w : World} {r : RL} (d : Dat u w) : Calls Tryz.prog 165 #[r.v] w (Post u w fun v _ => v = .agg #[.bool (!r.s), r.m.v, r.d.v]) := by
  refine calls_sym (args := [r.v]) Tryz.func165 rfl Tryz.ntmps165 (rs := [.cell 2 26]) Tryz.results165 (le_b rfl) (le_b rfl) d ?_
  refine sw_seq ?_
  refine sw_reg ?_
  refine sy_new 1 ⟨26, r.cs⟩ ?_
  refine sy_new 2 ⟨26, [.bool false, .slice none 0 0, .slice none 0 0]⟩ ?_
  refine sy_next 14 [(1, .adr 1 0), (2, .adr 2 0)] [(1, ⟨26, r.cs⟩), (2, ⟨26, [.bool false, .slice none 0 0, .slice none 0 0]⟩)] ?_
  refine sw_seq ?_
  refine sw_reg ?_
  refine sy_pure 3 (.adr 1 0) ?_
  refine sy_pure 4 (.adr 1 0) ?_
  refine sy_ldv 5 (.v (.bool r.s)) ty4 part_one ?_
  refine sy_pure 6 (.v (.bool (!r.s))) ?_
  refine sy_pure 7 (.adr 1 0) ?_
  refine sy_pure 8 (.adr 1 1) ?_
  refine sy_ldv 9 (.v (.slice r.m.a r.m.n r.m.c)) ty22 part_one ?_
  refine sy_pure 10 (.v (.agg #[.bool (!r.s), .slice r.m.a r.m.n r.m.c])) ?_
  refine sy_pure 11 (.adr 1 2) ?_
  refine sy_ldv 12 (.v (.slice r.d.a r.d.n r.d.c)) ty22 part_one ?_
  refine sy_pure 13 (.v (.agg #[.bool (!r.s), .slice r.m.a r.m.n r.m.c, .slice r.d.a r.d.n r.d.c])) ?_
  refine sy_store ⟨26, [.bool (!r.s), .slice r.m.a r.m.n r.m.c, .slice r.d.a r.d.n r.d.c]⟩ ty26 ?_
  refine sy_next 14 [(2, .adr 2 0)] [(2, ⟨26, [.bool (!r.s), .slice r.m.a r.m.n r.m.c, .slice r.d.a r.d.n r.d.c]⟩)] ?_
  refine sw_ret (ret0 [.agg #[.bool (!r.s), .slice r.m.a r.m.n r.m.c, .slice r.d.a r.d.n r.d.c]] ⟨res_cell ty26 part_agg, trivial⟩ fun u11 e12 => ?_)
  exact rfl
set_option maxHeartbeats 1000000 in
theorem k_read {u w : World} {r : RL} {q : Rat} {K : Nat} (d : Dat u w) (h : RatV u r q K) : Calls Tryz.prog 145 #[r.v] w (Post u w fun v u' => ∃ (r' : RL) (wh : Bool), v = .agg #[.bool r'.s, r'.m.v, r'.d.v, .bool wh] ∧ NumV u' r' wh q K) := by
  obtain ⟨⟨z, D, hi, hd, hq⟩, hK⟩ := h
  change IntV u ⟨r.s, r.m⟩ z K at hi
  change NatV u r.d D K at hd
  by_cases hn : r.d.n = 1
  · obtain ⟨b, o, ha, hc⟩ := nat_digit hd hn
    by_cases hD : D = 1
    · refine calls_sym (args := [r.v]) Tryz.func145 rfl Tryz.ntmps145 (rs := [.cell 2 116]) Tryz.results145 (le_b rfl) (le_b rfl) d ?_
      refine sw_seq ?_
      refine sw_reg ?_
      refine sy_new 1 ⟨26, r.cs⟩ ?_
      refine sy_new 2 ⟨116, [.bool false, .slice none 0 0, .slice none 0 0, .bool false]⟩ ?_
      refine sy_next 34 [(1, .adr 1 0), (2, .adr 2 0)] [(1, ⟨26, r.cs⟩), (2, ⟨116, [.bool false, .slice none 0 0, .slice none 0 0, .bool false]⟩)] ?_
      refine sw_seq ?_
      refine sw_seq ?_
      refine sw_reg ?_
      refine sy_pure 3 (.adr 1 2) ?_
      refine sy_ldv 4 (.v (.slice r.d.a r.d.n r.d.c)) ty22 part_one ?_
      refine sy_pure 5 (.v (.int .i64 (r.d.n : Int))) ?_
      refine sy_eq 6 (x := .v (.bool ((r.d.n : Int) == 1))) (.v (.bool true)) (by rw [show ((r.d.n : Int) == 1) = true from (by simp [hn])]) ?_
      refine sy_pure 7 (.v (.bool true)) ?_
      refine sy_pure 8 (.adr 1 2) ?_ (hw := wants1 (g := 4) (b := true) (t := 7) (by kernel_rfl) (by kernel_rfl) (by kernel_rfl))
      refine sy_ldv 9 (.v (.slice r.d.a r.d.n r.d.c)) ty22 part_one ?_ (hw := wants1 (g := 4) (b := true) (t := 7) (by kernel_rfl) (by kernel_rfl) (by kernel_rfl))
      refine sy_index 10 o (i := 0) (n := r.d.n) (by simp) ha (by omega) (by rw [hn]; decide) sl22 ?_ (hw := wants1 (g := 4) (b := true) (t := 7) (by kernel_rfl) (by kernel_rfl) (by kernel_rfl))
      refine sy_ld1 11 (.int .u32 (D : Int)) ((Ext.refl _).cell hc) ty105 ?_ (hw := wants1 (g := 4) (b := true) (t := 7) (by kernel_rfl) (by kernel_rfl) (by kernel_rfl))
      refine sy_eq 12 (x := .v (.bool ((D : Int) == 1))) (.v (.bool true)) (by rw [show ((D : Int) == 1) = true from (by simp [hD])]) ?_ (hw := wants1 (g := 4) (b := true) (t := 7) (by kernel_rfl) (by kernel_rfl) (by kernel_rfl))
      refine sy_pure 13 (.v (.bool true)) ?_
      refine sy_next 34 [(1, .adr 1 0), (2, .adr 2 0), (13, .v (.bool true))] [(1, ⟨26, r.cs⟩), (2, ⟨116, [.bool false, .slice none 0 0, .slice none 0 0, .bool false]⟩)] ?_
      refine sw_true (by kernel_rfl) ?_
      refine sw_seq ?_
      refine sw_reg ?_
      refine sy_pure 14 (.adr 1 0) ?_
      refine sy_ldv 15 (.v (.agg #[.bool r.s, .slice r.m.a r.m.n r.m.c])) ty24 part_agg ?_
      refine sy_pure 16 (.adr 1 2) ?_
      refine sy_ldv 17 (.v (.slice r.d.a r.d.n r.d.c)) ty22 part_one ?_
      refine sy_pure 18 (.v (r.v)) ?_
      refine sy_pure 19 (.v (.agg #[.bool r.s, .slice r.m.a r.m.n r.m.c, .slice r.d.a r.d.n r.d.c, .bool true])) ?_
      refine sy_store ⟨116, r.cs ++ [.bool true]⟩ ty116 ?_
      refine sy_next 34 [(2, .adr 2 0)] [(2, ⟨116, r.cs ++ [.bool true]⟩)] ?_
      refine sw_ret (mpr_seq (ret0 [.agg #[.bool r.s, .slice r.m.a r.m.n r.m.c, .slice r.d.a r.d.n r.d.c, .bool true]] ⟨res_cell ty116 part_agg, trivial⟩ fun u11 e12 => ?_))
      exact ⟨r, true, rfl, z, D, hi.ext e12, hd.ext e12, by omega, hq, fun _ => hD, hK⟩
    · refine calls_sym (args := [r.v]) Tryz.func145 rfl Tryz.ntmps145 (rs := [.cell 2 116]) Tryz.results145 (le_b rfl) (le_b rfl) d ?_
      refine sw_seq ?_
      refine sw_reg ?_
      refine sy_new 1 ⟨26, r.cs⟩ ?_
      refine sy_new 2 ⟨116, [.bool false, .slice none 0 0, .slice none 0 0, .bool false]⟩ ?_
      refine sy_next 34 [(1, .adr 1 0), (2, .adr 2 0)] [(1, ⟨26, r.cs⟩), (2, ⟨116, [.bool false, .slice none 0 0, .slice none 0 0, .bool false]⟩)] ?_
      refine sw_seq ?_
      refine sw_seq ?_
      refine sw_reg ?_
      refine sy_pure 3 (.adr 1 2) ?_
      refine sy_ldv 4 (.v (.slice r.d.a r.d.n r.d.c)) ty22 part_one ?_
      refine sy_pure 5 (.v (.int .i64 (r.d.n : Int))) ?_
      refine sy_eq 6 (x := .v (.bool ((r.d.n : Int) == 1))) (.v (.bool true)) (by rw [show ((r.d.n : Int) == 1) = true from (by simp [hn])]) ?_
      refine sy_pure 7 (.v (.bool true)) ?_
      refine sy_pure 8 (.adr 1 2) ?_ (hw := wants1 (g := 4) (b := true) (t := 7) (by kernel_rfl) (by kernel_rfl) (by kernel_rfl))
      refine sy_ldv 9 (.v (.slice r.d.a r.d.n r.d.c)) ty22 part_one ?_ (hw := wants1 (g := 4) (b := true) (t := 7) (by kernel_rfl) (by kernel_rfl) (by kernel_rfl))
      refine sy_index 10 o (i := 0) (n := r.d.n) (by simp) ha (by omega) (by rw [hn]; decide) sl22 ?_ (hw := wants1 (g := 4) (b := true) (t := 7) (by kernel_rfl) (by kernel_rfl) (by kernel_rfl))
      refine sy_ld1 11 (.int .u32 (D : Int)) ((Ext.refl _).cell hc) ty105 ?_ (hw := wants1 (g := 4) (b := true) (t := 7) (by kernel_rfl) (by kernel_rfl) (by kernel_rfl))
      refine sy_eq 12 (x := .v (.bool ((D : Int) == 1))) (.v (.bool false)) (by rw [show ((D : Int) == 1) = false from (by simp; omega)]) ?_ (hw := wants1 (g := 4) (b := true) (t := 7) (by kernel_rfl) (by kernel_rfl) (by kernel_rfl))
      refine sy_pure 13 (.v (.bool false)) ?_
      refine sy_next 34 [(1, .adr 1 0), (2, .adr 2 0), (13, .v (.bool false))] [(1, ⟨26, r.cs⟩), (2, ⟨116, [.bool false, .slice none 0 0, .slice none 0 0, .bool false]⟩)] ?_
      refine sw_false (by kernel_rfl) ?_
      refine sw_skip (mp_seq ?_)
      refine sw_seq ?_
      refine sw_seq ?_
      refine sw_reg ?_
      refine sy_pure 20 (.adr 1 2) ?_
      refine sy_ldv 21 (.v (.slice r.d.a r.d.n r.d.c)) ty22 part_one ?_
      refine sy_call 22 154 [.slice r.d.a r.d.n r.d.c, .slice none 0 0] ?_
      intro w11 u11 e11 d11
      have k14 := k_natCompare d11 (hd.ext e11) (nat_nil _ 1)
      with_reducible refine Post.mono k14 ?_
      clear k14
      rintro _ u12 g13 rfl
      refine sy_pure 23 (.v (.bool ((Nt.cmpS D 0) == 0))) ?_
      refine sy_next 34 [(1, .adr 1 0), (2, .adr 2 0), (23, .v (.bool ((Nt.cmpS D 0) == 0)))] [(1, ⟨26, r.cs⟩), (2, ⟨116, [.bool false, .slice none 0 0, .slice none 0 0, .bool false]⟩)] ?_
      refine sw_cond (b := (Nt.cmpS D 0) == 0) (by kernel_rfl) (fun hb15 => ?_) (fun hb15 => ?_)
      · replace hb15 : ((Nt.cmpS D 0) == 0) = true := hb15
        refine sw_seq ?_
        refine sw_reg ?_
        refine sy_pure 24 (.v (.agg #[.bool false, .slice none 0 0])) ?_
        refine sy_data 25 ⟨105, [.int .u32 1]⟩ 1 (fun b16 u17 e18 h19 => ?_)
        refine sy_pure 26 (.v (.agg #[.bool false, .slice none 0 0, .slice (some ⟨b16, 0, none⟩) 1 1])) ?_
        refine sy_pure 27 (.v (.agg #[.bool false, .slice none 0 0, .slice (some ⟨b16, 0, none⟩) 1 1, .bool true])) ?_
        refine sy_store ⟨116, [.bool false, .slice none 0 0, .slice (some ⟨b16, 0, none⟩) 1 1, .bool true]⟩ ty116 ?_
        refine sy_next 34 [(2, .adr 2 0)] [(2, ⟨116, [.bool false, .slice none 0 0, .slice (some ⟨b16, 0, none⟩) 1 1, .bool true]⟩)] ?_
        refine sw_ret (mpr_seq (ret0 [.agg #[.bool false, .slice none 0 0, .slice (some ⟨b16, 0, none⟩) 1 1, .bool true]] ⟨res_cell ty116 part_agg, trivial⟩ fun u20 e21 => ?_))
        have hD0 : D = 0 := (Nt.cmp_nat0 hb15).1 rfl
        refine ⟨⟨false, ⟨none, 0, 0⟩, (⟨some ⟨b16, 0, none⟩, 1, 1⟩ : Sl)⟩, true, rfl, 0, 1, (⟨0, nat_nil _ K, rfl⟩ : IntV _ ⟨false, ⟨none, 0, 0⟩⟩ 0 K), ((one_data h19).ext e21).raw.more hK, by omega, ?_, fun _ => rfl, hK⟩
        rw [hq, hD0]; simp
      · replace hb15 : ((Nt.cmpS D 0) == 0) = false := hb15
        refine sw_skip (mp_seq ?_)
        refine sw_seq ?_
        refine sw_reg ?_
        refine sy_pure 28 (.adr 1 0) ?_
        refine sy_ldv 29 (.v (.agg #[.bool r.s, .slice r.m.a r.m.n r.m.c])) ty24 part_agg ?_
        refine sy_pure 30 (.adr 1 2) ?_
        refine sy_ldv 31 (.v (.slice r.d.a r.d.n r.d.c)) ty22 part_one ?_
        refine sy_pure 32 (.v (r.v)) ?_
        refine sy_pure 33 (.v (.agg #[.bool r.s, .slice r.m.a r.m.n r.m.c, .slice r.d.a r.d.n r.d.c, .bool false])) ?_
        refine sy_store ⟨116, r.cs ++ [.bool false]⟩ ty116 ?_
        refine sy_next 34 [(2, .adr 2 0)] [(2, ⟨116, r.cs ++ [.bool false]⟩)] ?_
        refine sw_ret (ret0 [.agg #[.bool r.s, .slice r.m.a r.m.n r.m.c, .slice r.d.a r.d.n r.d.c, .bool false]] ⟨res_cell ty116 part_agg, trivial⟩ fun u22 e23 => ?_)
        have hD0 : 0 < D := (Nt.cmp_nat0 hb15).2 rfl
        exact ⟨r, false, rfl, z, D, hi.ext (e11.trans (g13.ext.trans e23)), hd.ext (e11.trans (g13.ext.trans e23)), hD0, hq, (fun k => by cases k), hK⟩
  · refine calls_sym (args := [r.v]) Tryz.func145 rfl Tryz.ntmps145 (rs := [.cell 2 116]) Tryz.results145 (le_b rfl) (le_b rfl) d ?_
    refine sw_seq ?_
    refine sw_reg ?_
    refine sy_new 1 ⟨26, r.cs⟩ ?_
    refine sy_new 2 ⟨116, [.bool false, .slice none 0 0, .slice none 0 0, .bool false]⟩ ?_
    refine sy_next 34 [(1, .adr 1 0), (2, .adr 2 0)] [(1, ⟨26, r.cs⟩), (2, ⟨116, [.bool false, .slice none 0 0, .slice none 0 0, .bool false]⟩)] ?_
    refine sw_seq ?_
    refine sw_seq ?_
    refine sw_reg ?_
    refine sy_pure 3 (.adr 1 2) ?_
    refine sy_ldv 4 (.v (.slice r.d.a r.d.n r.d.c)) ty22 part_one ?_
    refine sy_pure 5 (.v (.int .i64 (r.d.n : Int))) ?_
    refine sy_eq 6 (x := .v (.bool ((r.d.n : Int) == 1))) (.v (.bool false)) (by rw [show ((r.d.n : Int) == 1) = false from (by simp; omega)]) ?_
    refine sy_pure 7 (.v (.bool false)) ?_
    refine sy_drop 8 (unwanted (g := 4) (b := true) (c := false) (t := 7) (by kernel_rfl) (by kernel_rfl) (by kernel_rfl) (by kernel_rfl)) ?_
    refine sy_drop 9 (unwanted (g := 4) (b := true) (c := false) (t := 7) (by kernel_rfl) (by kernel_rfl) (by kernel_rfl) (by kernel_rfl)) ?_
    refine sy_drop 10 (unwanted (g := 4) (b := true) (c := false) (t := 7) (by kernel_rfl) (by kernel_rfl) (by kernel_rfl) (by kernel_rfl)) ?_
    refine sy_drop 11 (unwanted (g := 4) (b := true) (c := false) (t := 7) (by kernel_rfl) (by kernel_rfl) (by kernel_rfl) (by kernel_rfl)) ?_
    refine sy_drop 12 (unwanted (g := 4) (b := true) (c := false) (t := 7) (by kernel_rfl) (by kernel_rfl) (by kernel_rfl) (by kernel_rfl)) ?_
    refine sy_pure 13 (.v (.bool false)) ?_
    refine sy_next 34 [(1, .adr 1 0), (2, .adr 2 0), (13, .v (.bool false))] [(1, ⟨26, r.cs⟩), (2, ⟨116, [.bool false, .slice none 0 0, .slice none 0 0, .bool false]⟩)] ?_
    refine sw_false (by kernel_rfl) ?_
    refine sw_skip (mp_seq ?_)
    refine sw_seq ?_
    refine sw_seq ?_
    refine sw_reg ?_
    refine sy_pure 20 (.adr 1 2) ?_
    refine sy_ldv 21 (.v (.slice r.d.a r.d.n r.d.c)) ty22 part_one ?_
    refine sy_call 22 154 [.slice r.d.a r.d.n r.d.c, .slice none 0 0] ?_
    intro w11 u11 e11 d11
    have k14 := k_natCompare d11 (hd.ext e11) (nat_nil _ 1)
    with_reducible refine Post.mono k14 ?_
    clear k14
    rintro _ u12 g13 rfl
    refine sy_pure 23 (.v (.bool ((Nt.cmpS D 0) == 0))) ?_
    refine sy_next 34 [(1, .adr 1 0), (2, .adr 2 0), (23, .v (.bool ((Nt.cmpS D 0) == 0)))] [(1, ⟨26, r.cs⟩), (2, ⟨116, [.bool false, .slice none 0 0, .slice none 0 0, .bool false]⟩)] ?_
    refine sw_cond (b := (Nt.cmpS D 0) == 0) (by kernel_rfl) (fun hb15 => ?_) (fun hb15 => ?_)
    · replace hb15 : ((Nt.cmpS D 0) == 0) = true := hb15
      refine sw_seq ?_
      refine sw_reg ?_
      refine sy_pure 24 (.v (.agg #[.bool false, .slice none 0 0])) ?_
      refine sy_data 25 ⟨105, [.int .u32 1]⟩ 1 (fun b16 u17 e18 h19 => ?_)
      refine sy_pure 26 (.v (.agg #[.bool false, .slice none 0 0, .slice (some ⟨b16, 0, none⟩) 1 1])) ?_
      refine sy_pure 27 (.v (.agg #[.bool false, .slice none 0 0, .slice (some ⟨b16, 0, none⟩) 1 1, .bool true])) ?_
      refine sy_store ⟨116, [.bool false, .slice none 0 0, .slice (some ⟨b16, 0, none⟩) 1 1, .bool true]⟩ ty116 ?_
      refine sy_next 34 [(2, .adr 2 0)] [(2, ⟨116, [.bool false, .slice none 0 0, .slice (some ⟨b16, 0, none⟩) 1 1, .bool true]⟩)] ?_
      refine sw_ret (mpr_seq (ret0 [.agg #[.bool false, .slice none 0 0, .slice (some ⟨b16, 0, none⟩) 1 1, .bool true]] ⟨res_cell ty116 part_agg, trivial⟩ fun u20 e21 => ?_))
      have hD0 : D = 0 := (Nt.cmp_nat0 hb15).1 rfl
      refine ⟨⟨false, ⟨none, 0, 0⟩, (⟨some ⟨b16, 0, none⟩, 1, 1⟩ : Sl)⟩, true, rfl, 0, 1, (⟨0, nat_nil _ K, rfl⟩ : IntV _ ⟨false, ⟨none, 0, 0⟩⟩ 0 K), ((one_data h19).ext e21).raw.more hK, by omega, ?_, fun _ => rfl, hK⟩
      rw [hq, hD0]; simp
    · replace hb15 : ((Nt.cmpS D 0) == 0) = false := hb15
      refine sw_skip (mp_seq ?_)
      refine sw_seq ?_
      refine sw_reg ?_
      refine sy_pure 28 (.adr 1 0) ?_
      refine sy_ldv 29 (.v (.agg #[.bool r.s, .slice r.m.a r.m.n r.m.c])) ty24 part_agg ?_
      refine sy_pure 30 (.adr 1 2) ?_
      refine sy_ldv 31 (.v (.slice r.d.a r.d.n r.d.c)) ty22 part_one ?_
      refine sy_pure 32 (.v (r.v)) ?_
      refine sy_pure 33 (.v (.agg #[.bool r.s, .slice r.m.a r.m.n r.m.c, .slice r.d.a r.d.n r.d.c, .bool false])) ?_
      refine sy_store ⟨116, r.cs ++ [.bool false]⟩ ty116 ?_
      refine sy_next 34 [(2, .adr 2 0)] [(2, ⟨116, r.cs ++ [.bool false]⟩)] ?_
      refine sw_ret (ret0 [.agg #[.bool r.s, .slice r.m.a r.m.n r.m.c, .slice r.d.a r.d.n r.d.c, .bool false]] ⟨res_cell ty116 part_agg, trivial⟩ fun u22 e23 => ?_)
      have hD0 : 0 < D := (Nt.cmp_nat0 hb15).2 rfl
      exact ⟨r, false, rfl, z, D, hi.ext (e11.trans (g13.ext.trans e23)), hd.ext (e11.trans (g13.ext.trans e23)), hD0, hq, (fun k => by cases k), hK⟩
theorem k_isOne {u w : World} {x : Sl} {N K : Nat} (d : Dat u w) (h : NatN u x N K) : Calls Tryz.prog 174 #[x.v] w (Post u w fun v _ => v = .bool (decide (N = 1))) := by
  by_cases hn : x.n = 1
  · obtain ⟨b, o, ha, hc⟩ := nat_digit h.raw hn
    refine calls_sym (args := [.slice x.a x.n x.c]) Tryz.func174 rfl Tryz.ntmps174 (rs := [.tmp 2]) Tryz.results174 (le_b rfl) (le_b rfl) d ?_
    refine sw_seq ?_
    refine sw_reg ?_
    refine sy_pure 2 (.v (.bool false)) ?_
    refine sy_next 12 [(0, .v (.slice x.a x.n x.c))] [] ?_
    refine sw_seq ?_
    refine sw_reg ?_
    refine sy_pure 3 (.v (.slice x.a x.n x.c)) ?_
    refine sy_pure 4 (.v (.int .i64 (x.n : Int))) ?_
    refine sy_eq 5 (x := .v (.bool ((x.n : Int) == 1))) (.v (.bool true)) (by rw [show ((x.n : Int) == 1) = true from (by simp [hn])]) ?_
    refine sy_pure 6 (.v (.bool true)) ?_
    refine sy_pure 7 (.v (.slice x.a x.n x.c)) ?_ (hw := wants1 (g := 3) (b := true) (t := 6) (by kernel_rfl) (by kernel_rfl) (by kernel_rfl))
    refine sy_index 8 o (i := 0) (n := x.n) (by simp) ha (by omega) (by rw [hn]; decide) sl22 ?_ (hw := wants1 (g := 3) (b := true) (t := 6) (by kernel_rfl) (by kernel_rfl) (by kernel_rfl))
    refine sy_ld1 9 (.int .u32 (N : Int)) ((Ext.refl _).cell hc) ty105 ?_ (hw := wants1 (g := 3) (b := true) (t := 6) (by kernel_rfl) (by kernel_rfl) (by kernel_rfl))
    refine sy_pure 10 (.v (.bool ((N : Int) == 1))) ?_ (hw := wants1 (g := 3) (b := true) (t := 6) (by kernel_rfl) (by kernel_rfl) (by kernel_rfl))
    refine sy_pure 11 (.v (.bool ((N : Int) == 1))) ?_
    refine sy_pure 2 (.v (.bool ((N : Int) == 1))) ?_
    refine sy_next 12 [(2, .v (.bool ((N : Int) == 1)))] [] ?_
    refine sw_ret (ret0 [.bool ((N : Int) == 1)] ⟨res_tmp, trivial⟩ fun u11 e12 => ?_)
    show Value.bool _ = Value.bool _
    congr 1
    rw [Bool.eq_iff_iff]
    simp <;> omega
  · have hN : N ≠ 1 := fun e => hn (by rw [h.1, e, Nt.dl_one])
    refine calls_sym (args := [.slice x.a x.n x.c]) Tryz.func174 rfl Tryz.ntmps174 (rs := [.tmp 2]) Tryz.results174 (le_b rfl) (le_b rfl) d ?_
    refine sw_seq ?_
    refine sw_reg ?_
    refine sy_pure 2 (.v (.bool false)) ?_
    refine sy_next 12 [(0, .v (.slice x.a x.n x.c))] [] ?_
    refine sw_seq ?_
    refine sw_reg ?_
    refine sy_pure 3 (.v (.slice x.a x.n x.c)) ?_
    refine sy_pure 4 (.v (.int .i64 (x.n : Int))) ?_
    refine sy_eq 5 (x := .v (.bool ((x.n : Int) == 1))) (.v (.bool false)) (by rw [show ((x.n : Int) == 1) = false from (by simp; omega)]) ?_
    refine sy_pure 6 (.v (.bool false)) ?_
    refine sy_drop 7 (unwanted (g := 3) (b := true) (c := false) (t := 6) (by kernel_rfl) (by kernel_rfl) (by kernel_rfl) (by kernel_rfl)) ?_
    refine sy_drop 8 (unwanted (g := 3) (b := true) (c := false) (t := 6) (by kernel_rfl) (by kernel_rfl) (by kernel_rfl) (by kernel_rfl)) ?_
    refine sy_drop 9 (unwanted (g := 3) (b := true) (c := false) (t := 6) (by kernel_rfl) (by kernel_rfl) (by kernel_rfl) (by kernel_rfl)) ?_
    refine sy_drop 10 (unwanted (g := 3) (b := true) (c := false) (t := 6) (by kernel_rfl) (by kernel_rfl) (by kernel_rfl) (by kernel_rfl)) ?_
    refine sy_pure 11 (.v (.bool false)) ?_
    refine sy_pure 2 (.v (.bool false)) ?_
    refine sy_next 12 [(2, .v (.bool false))] [] ?_
    refine sw_ret (ret0 [.bool false] ⟨res_tmp, trivial⟩ fun u11 e12 => ?_)
    show _ = _
    simp [tupV]
    exact hN
set_option maxHeartbeats 1000000 in
theorem k_lowest {u w : World} {i : IL} {z : Int} {y : Sl} {D K L : Nat} (d : Dat u w) (h1 : IntV u i z K) (hD : NatV u y D L) (hp : 0 < D) (hK : K ≤ 500000000) (hL : L ≤ 500000000) : Calls Tryz.prog 150 #[.agg #[.bool i.s, i.m.v, y.v]] w (Post u w fun v u' => ∃ r : RL, v = r.v ∧ RatN u' r (mkRat z D) (max K L)) := by
  obtain ⟨N, hN, hz⟩ := h1
  have hL1 : 1 ≤ L := by have h2 := hD.size; have h3 := Nt.dl_mono (x := D) (y := 1) (by omega); rw [Nt.dl_one] at h3; omega
  refine calls_sym (args := [.agg #[.bool i.s, .slice i.m.a i.m.n i.m.c, .slice y.a y.n y.c]]) Tryz.func150 rfl Tryz.ntmps150 (rs := [.cell 2 26]) Tryz.results150 (le_b rfl) (le_b rfl) d ?_
  refine sw_seq ?_
  refine sw_reg ?_
  refine sy_new 1 ⟨114, i.cs ++ [.slice y.a y.n y.c]⟩ ?_
  refine sy_new 2 ⟨26, [.bool false, .slice none 0 0, .slice none 0 0]⟩ ?_
  refine sy_next 70 [(1, .adr 1 0), (2, .adr 2 0)] [(1, ⟨114, i.cs ++ [.slice y.a y.n y.c]⟩), (2, ⟨26, [.bool false, .slice none 0 0, .slice none 0 0]⟩)] ?_
  refine sw_seq ?_
  refine sw_reg ?_
  refine sy_pure 14 (.adr 1 0) ?_
  refine sy_pure 15 (.adr 1 1) ?_
  refine sy_ldv 16 (.v (.slice i.m.a i.m.n i.m.c)) ty22 part_one ?_
  refine sy_pure 17 (.adr 1 2) ?_
  refine sy_ldv 18 (.v (.slice y.a y.n y.c)) ty22 part_one ?_
  refine sy_call 19 181 [.slice i.m.a i.m.n i.m.c, .slice y.a y.n y.c] ?_
  intro w11 u11 e11 d11
  have k18 := k_natDivMod d11 (hN.ext e11) (hD.ext e11) hp (by omega) (by omega)
  with_reducible refine Post.mono k18 ?_
  clear k18
  rintro _ u16 g17 ⟨x12, x13, rfl, h14, h15⟩
  refine sy_pure 13 (.v (.tuple #[.slice x12.a x12.n x12.c, .slice x13.a x13.n x13.c, .int .i64 0])) ?_
  refine sy_pure 20 (.v (.slice x12.a x12.n x12.c)) ?_
  refine sy_pure 21 (.v (.slice x13.a x13.n x13.c)) ?_
  refine sy_pure 22 (.v (.int .i64 0)) ?_
  refine sy_pure 3 (.v (.slice x12.a x12.n x12.c)) ?_
  refine sy_pure 4 (.v (.slice x13.a x13.n x13.c)) ?_
  refine sy_pure 5 (.v (.int .i64 0)) ?_
  refine sy_next 70 [(1, .adr 1 0), (2, .adr 2 0), (3, .v (.slice x12.a x12.n x12.c)), (4, .v (.slice x13.a x13.n x13.c))] [(1, ⟨114, i.cs ++ [.slice y.a y.n y.c]⟩), (2, ⟨26, [.bool false, .slice none 0 0, .slice none 0 0]⟩)] ?_
  refine sw_seq ?_
  refine sw_seq ?_
  refine sw_reg ?_
  refine sy_pure 23 (.v (.slice x13.a x13.n x13.c)) ?_
  refine sy_pure 24 (.v (.int .i64 (x13.n : Int))) ?_
  refine sy_pure 25 (.v (.bool ((x13.n : Int) == 0))) ?_
  refine sy_next 70 [(1, .adr 1 0), (2, .adr 2 0), (3, .v (.slice x12.a x12.n x12.c)), (4, .v (.slice x13.a x13.n x13.c)), (25, .v (.bool ((x13.n : Int) == 0)))] [(1, ⟨114, i.cs ++ [.slice y.a y.n y.c]⟩), (2, ⟨26, [.bool false, .slice none 0 0, .slice none 0 0]⟩)] ?_
  refine sw_cond (b := (x13.n : Int) == 0) (by kernel_rfl) (fun hb19 => ?_) (fun hb19 => ?_)
  · replace hb19 : ((x13.n : Int) == 0) = true := hb19
    have qhb19 : (x13.n : Int) = 0 := by simpa using hb19
    have hr : N % D = 0 := by have h7 := (h15).pos; simp at hb19; omega
    refine sw_seq ?_
    refine sw_reg ?_
    refine sy_pure 26 (.adr 1 0) ?_
    refine sy_pure 27 (.adr 1 0) ?_
    refine sy_ldv 28 (.v (.bool i.s)) ty4 part_one ?_
    refine sy_pure 29 (.v (.slice x12.a x12.n x12.c)) ?_
    refine sy_pure 30 (.v (.agg #[.bool i.s, .slice x12.a x12.n x12.c])) ?_
    refine sy_call 31 182 [.agg #[.bool i.s, .slice x12.a x12.n x12.c]] ?_
    intro w20 u20 e20 d20
    have k25 := k_intTrim d20 (IntV.same (s := i.s) (h14.ext e20).raw) (by omega)
    with_reducible refine Post.mono k25 ?_
    clear k25
    rintro _ u23 g24 ⟨i21, rfl, h22⟩
    refine sy_call 32 152 [i21.v] ?_
    intro w26 u26 e26 d26
    have k31 := k_whole (i := i21) d26
    with_reducible refine Post.mono k31 ?_
    clear k31
    rintro _ u29 g30 ⟨y27, rfl, h28⟩
    refine sy_store ⟨26, i21.cs ++ [.slice y27.a y27.n y27.c]⟩ ty26 ?_
    refine sy_next 70 [(2, .adr 2 0)] [(2, ⟨26, i21.cs ++ [.slice y27.a y27.n y27.c]⟩)] ?_
    refine sw_ret (mpr_seq (ret0 [.agg #[.bool i21.s, .slice i21.m.a i21.m.n i21.m.c, .slice y27.a y27.n y27.c]] ⟨res_cell ty26 part_agg, trivial⟩ fun u32 e33 => ?_))
    refine ⟨(⟨i21.s, i21.m, y27⟩ : RL), rfl, RatN.more (K := (max K 1)) ?_ (by omega)⟩
    rw [hz, ← low1 hp hr]
    exact ((whole_rat (h22.ext (e26.trans g30.ext)) h28).ext e33)
  · replace hb19 : ((x13.n : Int) == 0) = false := hb19
    have qhb19 : ¬ ((x13.n : Int) = 0) := by simpa using hb19
    have hr : N % D ≠ 0 := by have h7 := (h15).pos; simp at hb19; omega
    refine sw_skip (mp_seq ?_)
    refine sw_seq ?_
    refine sw_reg ?_
    refine sy_pure 33 (.adr 1 2) ?_
    refine sy_ldv 34 (.v (.slice y.a y.n y.c)) ty22 part_one ?_
    refine sy_pure 35 (.v (.slice x13.a x13.n x13.c)) ?_
    refine sy_call 36 175 [.slice y.a y.n y.c, .slice x13.a x13.n x13.c] ?_
    intro w34 u34 e34 d34
    have k39 := k_natGcd d34 (hD.ext (e11.trans (g17.ext.trans e34))) (h15.ext e34).raw (by omega) (by omega)
    with_reducible refine Post.mono k39 ?_
    clear k39
    rintro _ u37 g38 ⟨x35, rfl, h36⟩
    refine sy_pure 6 (.v (.slice x35.a x35.n x35.c)) ?_
    refine sy_next 70 [(1, .adr 1 0), (2, .adr 2 0), (6, .v (.slice x35.a x35.n x35.c))] [(1, ⟨114, i.cs ++ [.slice y.a y.n y.c]⟩), (2, ⟨26, [.bool false, .slice none 0 0, .slice none 0 0]⟩)] ?_
    refine sw_seq ?_
    refine sw_seq ?_
    refine sw_reg ?_
    refine sy_pure 37 (.v (.slice x35.a x35.n x35.c)) ?_
    refine sy_call 38 174 [.slice x35.a x35.n x35.c] ?_
    intro w40 u40 e40 d40
    have k43 := k_isOne d40 (h36.ext e40)
    with_reducible refine Post.mono k43 ?_
    clear k43
    rintro _ u41 g42 rfl
    refine sy_next 70 [(1, .adr 1 0), (2, .adr 2 0), (6, .v (.slice x35.a x35.n x35.c)), (38, .v (.bool (decide ((Nat.gcd D (N % D)) = 1))))] [(1, ⟨114, i.cs ++ [.slice y.a y.n y.c]⟩), (2, ⟨26, [.bool false, .slice none 0 0, .slice none 0 0]⟩)] ?_
    refine sw_cond (b := decide ((Nat.gcd D (N % D)) = 1)) (by kernel_rfl) (fun hb44 => ?_) (fun hb44 => ?_)
    · replace hb44 : (decide ((Nat.gcd D (N % D)) = 1)) = true := hb44
      have qhb44 := of_decide_eq_true hb44
      have hg : Nat.gcd D (N % D) = 1 := by simpa using hb44
      have hgp : 0 < Nat.gcd D (N % D) := Nat.gcd_pos_of_pos_left _ hp
      refine sw_seq ?_
      refine sw_any [0, 1, 3, 0, 8, 31, 63, 127] [(0, []), (1, []), (3, []), (4, []), (2, []), (5, []), (6, []), (7, [])] (by kernel_rfl) (by kernel_rfl) ?_
      refine sy_pure 39 (.adr 1 0) ?_
      refine sy_ldv 40 (.v (i.v)) ty24 part_agg ?_
      refine sy_pure 42 (.adr 1 2) ?_
      refine sy_ldv 43 (.v (.slice y.a y.n y.c)) ty22 part_one ?_
      refine sy_call 41 182 [i.v] ?_
      intro w45 u45 e45 d45
      have k50 := k_intTrim d45 (IntV.same (s := i.s) (hN.ext (e11.trans (g17.ext.trans (e34.trans (g38.ext.trans (e40.trans (g42.ext.trans e45)))))))) (by omega)
      with_reducible refine Post.mono k50 ?_
      clear k50
      rintro _ u48 g49 ⟨i46, rfl, h47⟩
      refine sy_call 44 183 [.slice y.a y.n y.c] ?_
      intro w51 u51 e51 d51
      have k56 := k_natTrim d51 (hD.ext (e11.trans (g17.ext.trans (e34.trans (g38.ext.trans (e40.trans (g42.ext.trans (e45.trans (g49.ext.trans e51))))))))) (by omega)
      with_reducible refine Post.mono k56 ?_
      clear k56
      rintro _ u54 g55 ⟨x52, rfl, h53⟩
      refine sy_pure 45 (.v (.agg #[.bool i46.s, .slice i46.m.a i46.m.n i46.m.c, .slice x52.a x52.n x52.c])) ?_
      refine sy_store ⟨26, i46.cs ++ [.slice x52.a x52.n x52.c]⟩ ty26 ?_
      refine sy_next 70 [(2, .adr 2 0)] [(2, ⟨26, i46.cs ++ [.slice x52.a x52.n x52.c]⟩)] ?_
      refine sw_ret (mpr_seq (ret0 [.agg #[.bool i46.s, .slice i46.m.a i46.m.n i46.m.c, .slice x52.a x52.n x52.c]] ⟨res_cell ty26 part_agg, trivial⟩ fun u57 e58 => ?_))
      refine ⟨(⟨i46.s, i46.m, x52⟩ : RL), rfl, ?_⟩
      rw [hz]
      exact low2 hp hg (h47.ext (e51.trans (g55.ext.trans e58))) (h53.ext e58)
    · replace hb44 : (decide ((Nat.gcd D (N % D)) = 1)) = false := hb44
      have qhb44 := of_decide_eq_false hb44
      have hg : ¬ Nat.gcd D (N % D) = 1 := by simpa using hb44
      have hgp : 0 < Nat.gcd D (N % D) := Nat.gcd_pos_of_pos_left _ hp
      refine sw_skip (mp_seq ?_)
      refine sw_seq ?_
      refine sw_reg ?_
      refine sy_pure 47 (.adr 1 0) ?_
      refine sy_pure 48 (.adr 1 1) ?_
      refine sy_ldv 49 (.v (.slice i.m.a i.m.n i.m.c)) ty22 part_one ?_
      refine sy_pure 50 (.v (.slice x35.a x35.n x35.c)) ?_
      refine sy_call 51 181 [.slice i.m.a i.m.n i.m.c, .slice x35.a x35.n x35.c] ?_
      intro w59 u59 e59 d59
      have k66 := k_natDivMod d59 (hN.ext (e11.trans (g17.ext.trans (e34.trans (g38.ext.trans (e40.trans (g42.ext.trans e59))))))) (h36.ext (e40.trans (g42.ext.trans e59))).raw hgp (by omega) (by omega)
      with_reducible refine Post.mono k66 ?_
      clear k66
      rintro _ u64 g65 ⟨x60, x61, rfl, h62, h63⟩
      refine sy_pure 46 (.v (.tuple #[.slice x60.a x60.n x60.c, .slice x61.a x61.n x61.c, .int .i64 0])) ?_
      refine sy_pure 52 (.v (.slice x60.a x60.n x60.c)) ?_
      refine sy_pure 53 (.v (.slice x61.a x61.n x61.c)) ?_
      refine sy_pure 54 (.v (.int .i64 0)) ?_
      refine sy_pure 7 (.v (.slice x60.a x60.n x60.c)) ?_
      refine sy_pure 8 (.v (.slice x61.a x61.n x61.c)) ?_
      refine sy_pure 9 (.v (.int .i64 0)) ?_
      refine sy_next 70 [(1, .adr 1 0), (2, .adr 2 0), (6, .v (.slice x35.a x35.n x35.c)), (7, .v (.slice x60.a x60.n x60.c))] [(1, ⟨114, i.cs ++ [.slice y.a y.n y.c]⟩), (2, ⟨26, [.bool false, .slice none 0 0, .slice none 0 0]⟩)] ?_
      refine sw_seq ?_
      refine sw_reg ?_
      refine sy_pure 56 (.adr 1 2) ?_
      refine sy_ldv 57 (.v (.slice y.a y.n y.c)) ty22 part_one ?_
      refine sy_pure 58 (.v (.slice x35.a x35.n x35.c)) ?_
      refine sy_call 59 181 [.slice y.a y.n y.c, .slice x35.a x35.n x35.c] ?_
      intro w67 u67 e67 d67
      have k74 := k_natDivMod d67 (hD.ext (e11.trans (g17.ext.trans (e34.trans (g38.ext.trans (e40.trans (g42.ext.trans (e59.trans (g65.ext.trans e67))))))))) (h36.ext (e40.trans (g42.ext.trans (e59.trans (g65.ext.trans e67))))).raw hgp (by omega) (by omega)
      with_reducible refine Post.mono k74 ?_
      clear k74
      rintro _ u72 g73 ⟨x68, x69, rfl, h70, h71⟩
      refine sy_pure 55 (.v (.tuple #[.slice x68.a x68.n x68.c, .slice x69.a x69.n x69.c, .int .i64 0])) ?_
      refine sy_pure 60 (.v (.slice x68.a x68.n x68.c)) ?_
      refine sy_pure 61 (.v (.slice x69.a x69.n x69.c)) ?_
      refine sy_pure 62 (.v (.int .i64 0)) ?_
      refine sy_pure 10 (.v (.slice x68.a x68.n x68.c)) ?_
      refine sy_pure 11 (.v (.slice x69.a x69.n x69.c)) ?_
      refine sy_pure 12 (.v (.int .i64 0)) ?_
      refine sy_next 70 [(1, .adr 1 0), (2, .adr 2 0), (7, .v (.slice x60.a x60.n x60.c)), (10, .v (.slice x68.a x68.n x68.c))] [(1, ⟨114, i.cs ++ [.slice y.a y.n y.c]⟩), (2, ⟨26, [.bool false, .slice none 0 0, .slice none 0 0]⟩)] ?_
      refine sw_seq ?_
      refine sw_reg ?_
      refine sy_pure 63 (.adr 1 0) ?_
      refine sy_pure 64 (.adr 1 0) ?_
      refine sy_ldv 65 (.v (.bool i.s)) ty4 part_one ?_
      refine sy_pure 66 (.v (.slice x60.a x60.n x60.c)) ?_
      refine sy_pure 67 (.v (.agg #[.bool i.s, .slice x60.a x60.n x60.c])) ?_
      refine sy_pure 68 (.v (.slice x68.a x68.n x68.c)) ?_
      refine sy_pure 69 (.v (.agg #[.bool i.s, .slice x60.a x60.n x60.c, .slice x68.a x68.n x68.c])) ?_
      refine sy_store ⟨26, [.bool i.s, .slice x60.a x60.n x60.c, .slice x68.a x68.n x68.c]⟩ ty26 ?_
      refine sy_next 70 [(2, .adr 2 0)] [(2, ⟨26, [.bool i.s, .slice x60.a x60.n x60.c, .slice x68.a x68.n x68.c]⟩)] ?_
      refine sw_ret (ret0 [.agg #[.bool i.s, .slice x60.a x60.n x60.c, .slice x68.a x68.n x68.c]] ⟨res_cell ty26 part_agg, trivial⟩ fun u75 e76 => ?_)
      refine ⟨(⟨i.s, x60, x68⟩ : RL), rfl, RatN.more (K := max K L) ?_ (by omega)⟩
      rw [hz]
      exact low3 hp hr (h62.ext (e67.trans (g73.ext.trans e76))) (h70.ext e76)
theorem k_ratTrim {u w : World} {r1 : RL} {x : Rat} {K : Nat} (d : Dat u w) (hr1 : RatV u r1 x K) (hK : K ≤ 200000000) : Calls Tryz.prog 126 #[r1.v] w (Post u w fun v u' => ∃ r : RL, v = r.v ∧ RatN u' r x K) := by
  refine calls_sym (args := [r1.v]) Tryz.func126 rfl Tryz.ntmps126 (rs := [.cell 2 26]) Tryz.results126 (le_b rfl) (le_b rfl) d ?_
  refine sw_seq ?_
  refine sw_reg ?_
  refine sy_new 1 ⟨26, r1.cs⟩ ?_
  refine sy_new 2 ⟨26, [.bool false, .slice none 0 0, .slice none 0 0]⟩ ?_
  refine sy_next 7 [(1, .adr 1 0), (2, .adr 2 0)] [(1, ⟨26, r1.cs⟩), (2, ⟨26, [.bool false, .slice none 0 0, .slice none 0 0]⟩)] ?_
  refine sw_seq ?_
  refine sw_reg ?_
  refine sy_ldv 3 (.v (r1.v)) ty26 part_agg ?_
  refine sy_call 4 145 [r1.v] ?_
  intro w11 u11 e11 d11
  have k15 := k_read d11 (hr1.ext e11)
  with_reducible refine Post.mono k15 ?_
  clear k15
  rintro _ u13 g14 ⟨r12, wh12, rfl, z12, D12, hi12, hd12, hp12, hq12, hw12, hk12⟩
  refine sy_pure 5 (.v (r12.v)) ?_
  refine sy_call 6 150 [r12.v] ?_
  intro w16 u16 e16 d16
  have k21 := k_lowest d16 (hi12.ext e16) (hd12.ext e16) hp12 (by omega) (by omega)
  with_reducible refine Post.mono k21 ?_
  clear k21
  rintro _ u19 g20 ⟨r17, rfl, h18⟩
  refine sy_store ⟨26, r17.cs⟩ ty26 ?_
  refine sy_next 7 [(2, .adr 2 0)] [(2, ⟨26, r17.cs⟩)] ?_
  refine sw_ret (ret0 [r17.v] ⟨res_cell ty26 part_agg, trivial⟩ fun u22 e23 => ?_)
  refine ⟨r17, rfl, RatN.more (K := (max K K)) ?_ (by omega)⟩
  rw [hq12]; exact (h18.ext e23)
theorem k_ratOf {u w : World} {z : Int} (d : Dat u w) (h0 : -9223372036854775808 ≤ z) (h1 : z ≤ 9223372036854775807) : Calls Tryz.prog 112 #[.int .i64 z] w (Post u w fun v u' => ∃ r : RL, v = r.v ∧ RatN u' r (z : Rat) 2) := by
  refine calls_sym (args := [.int .i64 z]) Tryz.func112 rfl Tryz.ntmps112 (rs := [.cell 2 26]) Tryz.results112 (le_b rfl) (le_b rfl) d ?_
  refine sw_seq ?_
  refine sw_reg ?_
  refine sy_new 2 ⟨26, [.bool false, .slice none 0 0, .slice none 0 0]⟩ ?_
  refine sy_next 6 [(0, .v (.int .i64 z)), (2, .adr 2 0)] [(2, ⟨26, [.bool false, .slice none 0 0, .slice none 0 0]⟩)] ?_
  refine sw_seq ?_
  refine sw_reg ?_
  refine sy_pure 3 (.v (.int .i64 z)) ?_
  refine sy_call 4 166 [.int .i64 z] ?_
  intro w11 u11 e11 d11
  have k16 := k_intOf d11 (z := z) (by omega) (by omega)
  with_reducible refine Post.mono k16 ?_
  clear k16
  rintro _ u14 g15 ⟨i12, rfl, h13⟩
  refine sy_call 5 152 [i12.v] ?_
  intro w17 u17 e17 d17
  have k22 := k_whole (i := i12) d17
  with_reducible refine Post.mono k22 ?_
  clear k22
  rintro _ u20 g21 ⟨y18, rfl, h19⟩
  refine sy_store ⟨26, i12.cs ++ [.slice y18.a y18.n y18.c]⟩ ty26 ?_
  refine sy_next 6 [(2, .adr 2 0)] [(2, ⟨26, i12.cs ++ [.slice y18.a y18.n y18.c]⟩)] ?_
  refine sw_ret (ret0 [.agg #[.bool i12.s, .slice i12.m.a i12.m.n i12.m.c, .slice y18.a y18.n y18.c]] ⟨res_cell ty26 part_agg, trivial⟩ fun u23 e24 => ?_)
  refine ⟨(⟨i12.s, i12.m, y18⟩ : RL), rfl, RatN.more (K := (max 2 1)) ?_ (by omega)⟩
  exact ((whole_rat (h13.ext (e17.trans g21.ext)) h19).ext e24)
theorem k_ratSign {u w : World} {r1 : RL} {x : Rat} {K : Nat} (d : Dat u w) (hr1 : RatV u r1 x K)  : Calls Tryz.prog 132 #[r1.v] w (Post u w fun v u' => v = .int .i64 (Nt.sgQ x)) := by
  refine calls_sym (args := [r1.v]) Tryz.func132 rfl Tryz.ntmps132 (rs := [.tmp 2]) Tryz.results132 (le_b rfl) (le_b rfl) d ?_
  refine sw_seq ?_
  refine sw_reg ?_
  refine sy_new 1 ⟨26, r1.cs⟩ ?_
  refine sy_pure 2 (.v (.int .i64 0)) ?_
  refine sy_next 8 [(1, .adr 1 0)] [(1, ⟨26, r1.cs⟩)] ?_
  refine sw_seq ?_
  refine sw_reg ?_
  refine sy_ldv 3 (.v (r1.v)) ty26 part_agg ?_
  refine sy_call 4 145 [r1.v] ?_
  intro w11 u11 e11 d11
  have k15 := k_read d11 (hr1.ext e11)
  with_reducible refine Post.mono k15 ?_
  clear k15
  rintro _ u13 g14 ⟨r12, wh12, rfl, z12, D12, hi12, hd12, hp12, hq12, hw12, hk12⟩
  refine sy_pure 5 (.v (r12.v)) ?_
  refine sy_pure 6 (.v (.agg #[.bool r12.s, .slice r12.m.a r12.m.n r12.m.c])) ?_
  refine sy_call 7 146 [.agg #[.bool r12.s, .slice r12.m.a r12.m.n r12.m.c]] ?_
  intro w16 u16 e16 d16
  have k19 := k_intSign d16 (hi12.ext e16)
  with_reducible refine Post.mono k19 ?_
  clear k19
  rintro _ u17 g18 rfl
  refine sy_pure 2 (.v (.int .i64 (Nt.cmpS z12 0))) ?_
  refine sy_next 8 [(2, .v (.int .i64 (Nt.cmpS z12 0)))] [] ?_
  refine sw_ret (ret0 [.int .i64 (Nt.cmpS z12 0)] ⟨res_tmp, trivial⟩ fun u20 e21 => ?_)
  show _ = _
  rw [hq12, ← Nt.sg_mk hp12]
  rfl
theorem k_ratCompare {u w : World} {r1 : RL} {x : Rat} {K : Nat} {r2 : RL} {y : Rat} {L : Nat} (d : Dat u w) (hr1 : RatV u r1 x K) (hr2 : RatV u r2 y L) (hK : K ≤ 200000000) (hL : L ≤ 200000000) : Calls Tryz.prog 114 #[r1.v, r2.v] w (Post u w fun v u' => v = .int .i64 (Nt.cmpQ x y)) := by
  refine calls_sym (args := [r1.v, r2.v]) Tryz.func114 rfl Tryz.ntmps114 (rs := [.tmp 4]) Tryz.results114 (le_b rfl) (le_b rfl) d ?_
  refine sw_seq ?_
  refine sw_reg ?_
  refine sy_new 2 ⟨26, r1.cs⟩ ?_
  refine sy_new 3 ⟨26, r2.cs⟩ ?_
  refine sy_pure 4 (.v (.int .i64 0)) ?_
  refine sy_next 41 [(2, .adr 2 0), (3, .adr 3 0)] [(2, ⟨26, r1.cs⟩), (3, ⟨26, r2.cs⟩)] ?_
  refine sw_seq ?_
  refine sw_any [0, 1, 0, 7, 0, 0, 63, 127] [(0, []), (2, []), (4, []), (5, []), (1, []), (3, []), (6, []), (7, [])] (by kernel_rfl) (by kernel_rfl) ?_
  refine sy_ldv 7 (.v (r1.v)) ty26 part_agg ?_
  refine sy_ldv 9 (.v (r2.v)) ty26 part_agg ?_
  refine sy_new 5 ⟨116, [.bool false, .slice none 0 0, .slice none 0 0, .bool false]⟩ ?_
  refine sy_new 6 ⟨116, [.bool false, .slice none 0 0, .slice none 0 0, .bool false]⟩ ?_
  refine sy_call 8 145 [r1.v] ?_
  intro w11 u11 e11 d11
  have k15 := k_read d11 (hr1.ext e11)
  with_reducible refine Post.mono k15 ?_
  clear k15
  rintro _ u13 g14 ⟨r12, wh12, rfl, z12, D12, hi12, hd12, hp12, hq12, hw12, hk12⟩
  refine sy_call 10 145 [r2.v] ?_
  intro w16 u16 e16 d16
  have k20 := k_read d16 (hr2.ext (e11.trans (g14.ext.trans e16)))
  with_reducible refine Post.mono k20 ?_
  clear k20
  rintro _ u18 g19 ⟨r17, wh17, rfl, z17, D17, hi17, hd17, hp17, hq17, hw17, hk17⟩
  refine sy_store ⟨116, r12.cs ++ [.bool wh12]⟩ ty116 ?_
  refine sy_store ⟨116, r17.cs ++ [.bool wh17]⟩ ty116 ?_
  refine sy_next 41 [(5, .adr 5 0), (6, .adr 6 0)] [(5, ⟨116, r12.cs ++ [.bool wh12]⟩), (6, ⟨116, r17.cs ++ [.bool wh17]⟩)] ?_
  refine sw_seq ?_
  refine sw_seq ?_
  refine sw_reg ?_
  refine sy_pure 11 (.adr 5 3) ?_
  refine sy_ldv 12 (.v (.bool wh12)) ty4 part_one ?_
  rcases Bool.eq_false_or_eq_true wh12 with hs21 | hs21
  · refine sy_eq 13 (x := .v (.bool wh12)) (.v (.bool true)) (by rw [hs21]) ?_
    refine sy_pure 14 (.adr 6 3) ?_ (hw := wants1 (g := 2) (b := true) (t := 13) (by kernel_rfl) (by kernel_rfl) (by kernel_rfl))
    refine sy_ldv 15 (.v (.bool wh17)) ty4 part_one ?_ (hw := wants1 (g := 2) (b := true) (t := 13) (by kernel_rfl) (by kernel_rfl) (by kernel_rfl))
    refine sy_pure 16 (.v (.bool wh17)) ?_
    refine sy_next 41 [(5, .adr 5 0), (6, .adr 6 0), (16, .v (.bool wh17))] [(5, ⟨116, r12.cs ++ [.bool wh12]⟩), (6, ⟨116, r17.cs ++ [.bool wh17]⟩)] ?_
    refine sw_cond (b := wh17) (by kernel_rfl) (fun hb22 => ?_) (fun hb22 => ?_)
    · replace hb22 : wh17 = true := hb22
      refine sw_seq ?_
      refine sw_reg ?_
      refine sy_pure 17 (.adr 5 0) ?_
      refine sy_pure 18 (.adr 5 0) ?_
      refine sy_ldv 19 (.v (.agg #[.bool r12.s, .slice r12.m.a r12.m.n r12.m.c])) ty24 part_agg ?_
      refine sy_pure 20 (.adr 6 0) ?_
      refine sy_pure 21 (.adr 6 0) ?_
      refine sy_ldv 22 (.v (.agg #[.bool r17.s, .slice r17.m.a r17.m.n r17.m.c])) ty24 part_agg ?_
      refine sy_call 23 167 [.agg #[.bool r12.s, .slice r12.m.a r12.m.n r12.m.c], .agg #[.bool r17.s, .slice r17.m.a r17.m.n r17.m.c]] ?_
      intro w23 u23 e23 d23
      have k26 := k_intCompare d23 (hi12.ext (e16.trans (g19.ext.trans e23))) (hi17.ext e23)
      with_reducible refine Post.mono k26 ?_
      clear k26
      rintro _ u24 g25 rfl
      refine sy_pure 4 (.v (.int .i64 (Nt.cmpS z12 z17))) ?_
      refine sy_next 41 [(4, .v (.int .i64 (Nt.cmpS z12 z17)))] [] ?_
      refine sw_ret (mpr_seq (ret0 [.int .i64 (Nt.cmpS z12 z17)] ⟨res_tmp, trivial⟩ fun u27 e28 => ?_))
      show _ = _
      rw [hq12, hq17, ← Nt.cmp_mk hp12 hp17]
      rw [hw12 (by assumption), hw17 (by assumption)]
      simp [tupV]
    · replace hb22 : wh17 = false := hb22
      refine sw_skip (mp_seq ?_)
      refine sw_seq ?_
      refine sw_any [0, 1, 3, 0, 8, 24, 56, 127, 0, 256, 768, 0, 2048, 6144, 14591, 32767, 65535, 131071] [(0, []), (1, []), (2, []), (3, []), (4, []), (5, []), (8, []), (9, []), (10, []), (11, []), (12, []), (13, []), (6, []), (7, []), (14, []), (15, []), (16, []), (17, [])] (by kernel_rfl) (by kernel_rfl) ?_
      refine sy_pure 24 (.adr 5 0) ?_
      refine sy_pure 25 (.adr 5 0) ?_
      refine sy_ldv 26 (.v (.agg #[.bool r12.s, .slice r12.m.a r12.m.n r12.m.c])) ty24 part_agg ?_
      refine sy_pure 27 (.adr 6 0) ?_
      refine sy_pure 28 (.adr 6 2) ?_
      refine sy_ldv 29 (.v (.slice r17.d.a r17.d.n r17.d.c)) ty22 part_one ?_
      refine sy_pure 32 (.adr 6 0) ?_
      refine sy_pure 33 (.adr 6 0) ?_
      refine sy_ldv 34 (.v (.agg #[.bool r17.s, .slice r17.m.a r17.m.n r17.m.c])) ty24 part_agg ?_
      refine sy_pure 35 (.adr 5 0) ?_
      refine sy_pure 36 (.adr 5 2) ?_
      refine sy_ldv 37 (.v (.slice r12.d.a r12.d.n r12.d.c)) ty22 part_one ?_
      refine sy_call 30 148 [.slice r17.d.a r17.d.n r17.d.c] ?_
      intro w29 u29 e29 d29
      have k32 := k_natural (x := r17.d) d29
      with_reducible refine Post.mono k32 ?_
      clear k32
      rintro _ u30 g31 rfl
      refine sy_call 31 147 [.agg #[.bool r12.s, .slice r12.m.a r12.m.n r12.m.c], .agg #[.bool false, .slice r17.d.a r17.d.n r17.d.c]] ?_
      intro w33 u33 e33 d33
      have k38 := k_intMul d33 (hi12.ext (e16.trans (g19.ext.trans (e29.trans (g31.ext.trans e33))))) (nat_int (hd17.ext (e29.trans (g31.ext.trans e33)))) (by omega) (by omega)
      with_reducible refine Post.mono k38 ?_
      clear k38
      rintro _ u36 g37 ⟨i34, rfl, h35⟩
      refine sy_call 38 148 [.slice r12.d.a r12.d.n r12.d.c] ?_
      intro w39 u39 e39 d39
      have k42 := k_natural (x := r12.d) d39
      with_reducible refine Post.mono k42 ?_
      clear k42
      rintro _ u40 g41 rfl
      refine sy_call 39 147 [.agg #[.bool r17.s, .slice r17.m.a r17.m.n r17.m.c], .agg #[.bool false, .slice r12.d.a r12.d.n r12.d.c]] ?_
      intro w43 u43 e43 d43
      have k48 := k_intMul d43 (hi17.ext (e29.trans (g31.ext.trans (e33.trans (g37.ext.trans (e39.trans (g41.ext.trans e43))))))) (nat_int (hd12.ext (e16.trans (g19.ext.trans (e29.trans (g31.ext.trans (e33.trans (g37.ext.trans (e39.trans (g41.ext.trans e43)))))))))) (by omega) (by omega)
      with_reducible refine Post.mono k48 ?_
      clear k48
      rintro _ u46 g47 ⟨i44, rfl, h45⟩
      refine sy_call 40 167 [i34.v, i44.v] ?_
      intro w49 u49 e49 d49
      have k52 := k_intCompare d49 (h35.ext (e39.trans (g41.ext.trans (e43.trans (g47.ext.trans e49))))).raw (h45.ext e49).raw
      with_reducible refine Post.mono k52 ?_
      clear k52
      rintro _ u50 g51 rfl
      refine sy_pure 4 (.v (.int .i64 (Nt.cmpS (z12 * (D17 : Int)) (z17 * (D12 : Int))))) ?_
      refine sy_next 41 [(4, .v (.int .i64 (Nt.cmpS (z12 * (D17 : Int)) (z17 * (D12 : Int)))))] [] ?_
      refine sw_ret (ret0 [.int .i64 (Nt.cmpS (z12 * (D17 : Int)) (z17 * (D12 : Int)))] ⟨res_tmp, trivial⟩ fun u53 e54 => ?_)
      show _ = _
      rw [hq12, hq17, ← Nt.cmp_mk hp12 hp17]
      rfl
  · refine sy_eq 13 (x := .v (.bool wh12)) (.v (.bool false)) (by rw [hs21]) ?_
    refine sy_drop 14 (unwanted (g := 2) (b := true) (c := false) (t := 13) (by kernel_rfl) (by kernel_rfl) (by kernel_rfl) (by kernel_rfl)) ?_
    refine sy_drop 15 (unwanted (g := 2) (b := true) (c := false) (t := 13) (by kernel_rfl) (by kernel_rfl) (by kernel_rfl) (by kernel_rfl)) ?_
    refine sy_pure 16 (.v (.bool false)) ?_
    refine sy_next 41 [(5, .adr 5 0), (6, .adr 6 0), (16, .v (.bool false))] [(5, ⟨116, r12.cs ++ [.bool wh12]⟩), (6, ⟨116, r17.cs ++ [.bool wh17]⟩)] ?_
    refine sw_false (by kernel_rfl) ?_
    refine sw_skip (mp_seq ?_)
    refine sw_seq ?_
    refine sw_any [0, 1, 3, 0, 8, 24, 56, 127, 0, 256, 768, 0, 2048, 6144, 14591, 32767, 65535, 131071] [(0, []), (1, []), (2, []), (3, []), (4, []), (5, []), (8, []), (9, []), (10, []), (11, []), (12, []), (13, []), (6, []), (7, []), (14, []), (15, []), (16, []), (17, [])] (by kernel_rfl) (by kernel_rfl) ?_
    refine sy_pure 24 (.adr 5 0) ?_
    refine sy_pure 25 (.adr 5 0) ?_
    refine sy_ldv 26 (.v (.agg #[.bool r12.s, .slice r12.m.a r12.m.n r12.m.c])) ty24 part_agg ?_
    refine sy_pure 27 (.adr 6 0) ?_
    refine sy_pure 28 (.adr 6 2) ?_
    refine sy_ldv 29 (.v (.slice r17.d.a r17.d.n r17.d.c)) ty22 part_one ?_
    refine sy_pure 32 (.adr 6 0) ?_
    refine sy_pure 33 (.adr 6 0) ?_
    refine sy_ldv 34 (.v (.agg #[.bool r17.s, .slice r17.m.a r17.m.n r17.m.c])) ty24 part_agg ?_
    refine sy_pure 35 (.adr 5 0) ?_
    refine sy_pure 36 (.adr 5 2) ?_
    refine sy_ldv 37 (.v (.slice r12.d.a r12.d.n r12.d.c)) ty22 part_one ?_
    refine sy_call 30 148 [.slice r17.d.a r17.d.n r17.d.c] ?_
    intro w55 u55 e55 d55
    have k58 := k_natural (x := r17.d) d55
    with_reducible refine Post.mono k58 ?_
    clear k58
    rintro _ u56 g57 rfl
    refine sy_call 31 147 [.agg #[.bool r12.s, .slice r12.m.a r12.m.n r12.m.c], .agg #[.bool false, .slice r17.d.a r17.d.n r17.d.c]] ?_
    intro w59 u59 e59 d59
    have k64 := k_intMul d59 (hi12.ext (e16.trans (g19.ext.trans (e55.trans (g57.ext.trans e59))))) (nat_int (hd17.ext (e55.trans (g57.ext.trans e59)))) (by omega) (by omega)
    with_reducible refine Post.mono k64 ?_
    clear k64
    rintro _ u62 g63 ⟨i60, rfl, h61⟩
    refine sy_call 38 148 [.slice r12.d.a r12.d.n r12.d.c] ?_
    intro w65 u65 e65 d65
    have k68 := k_natural (x := r12.d) d65
    with_reducible refine Post.mono k68 ?_
    clear k68
    rintro _ u66 g67 rfl
    refine sy_call 39 147 [.agg #[.bool r17.s, .slice r17.m.a r17.m.n r17.m.c], .agg #[.bool false, .slice r12.d.a r12.d.n r12.d.c]] ?_
    intro w69 u69 e69 d69
    have k74 := k_intMul d69 (hi17.ext (e55.trans (g57.ext.trans (e59.trans (g63.ext.trans (e65.trans (g67.ext.trans e69))))))) (nat_int (hd12.ext (e16.trans (g19.ext.trans (e55.trans (g57.ext.trans (e59.trans (g63.ext.trans (e65.trans (g67.ext.trans e69)))))))))) (by omega) (by omega)
    with_reducible refine Post.mono k74 ?_
    clear k74
    rintro _ u72 g73 ⟨i70, rfl, h71⟩
    refine sy_call 40 167 [i60.v, i70.v] ?_
    intro w75 u75 e75 d75
    have k78 := k_intCompare d75 (h61.ext (e65.trans (g67.ext.trans (e69.trans (g73.ext.trans e75))))).raw (h71.ext e75).raw
    with_reducible refine Post.mono k78 ?_
    clear k78
    rintro _ u76 g77 rfl
    refine sy_pure 4 (.v (.int .i64 (Nt.cmpS (z12 * (D17 : Int)) (z17 * (D12 : Int))))) ?_
    refine sy_next 41 [(4, .v (.int .i64 (Nt.cmpS (z12 * (D17 : Int)) (z17 * (D12 : Int)))))] [] ?_
    refine sw_ret (ret0 [.int .i64 (Nt.cmpS (z12 * (D17 : Int)) (z17 * (D12 : Int)))] ⟨res_tmp, trivial⟩ fun u79 e80 => ?_)
    show _ = _
    rw [hq12, hq17, ← Nt.cmp_mk hp12 hp17]
    rfl
theorem k_ratAbs {u w : World} {r1 : RL} {x : Rat} {K : Nat} (d : Dat u w) (hr1 : RatV u r1 x K) (hK : K ≤ 200000000) : Calls Tryz.prog 139 #[r1.v] w (Post u w fun v u' => ∃ r : RL, v = r.v ∧ RatN u' r (Nt.absQ x) K) := by
  refine calls_sym (args := [r1.v]) Tryz.func139 rfl Tryz.ntmps139 (rs := [.cell 2 26]) Tryz.results139 (le_b rfl) (le_b rfl) d ?_
  refine sw_seq ?_
  refine sw_reg ?_
  refine sy_new 1 ⟨26, r1.cs⟩ ?_
  refine sy_new 2 ⟨26, [.bool false, .slice none 0 0, .slice none 0 0]⟩ ?_
  refine sy_next 11 [(1, .adr 1 0), (2, .adr 2 0)] [(1, ⟨26, r1.cs⟩), (2, ⟨26, [.bool false, .slice none 0 0, .slice none 0 0]⟩)] ?_
  refine sw_seq ?_
  refine sw_reg ?_
  refine sy_pure 3 (.adr 1 0) ?_
  refine sy_pure 4 (.adr 1 1) ?_
  refine sy_ldv 5 (.v (.slice r1.m.a r1.m.n r1.m.c)) ty22 part_one ?_
  refine sy_pure 6 (.v (.agg #[.bool false, .slice r1.m.a r1.m.n r1.m.c])) ?_
  refine sy_pure 7 (.adr 1 2) ?_
  refine sy_ldv 8 (.v (.slice r1.d.a r1.d.n r1.d.c)) ty22 part_one ?_
  refine sy_pure 9 (.v (.agg #[.bool false, .slice r1.m.a r1.m.n r1.m.c, .slice r1.d.a r1.d.n r1.d.c])) ?_
  refine sy_call 10 126 [.agg #[.bool false, .slice r1.m.a r1.m.n r1.m.c, .slice r1.d.a r1.d.n r1.d.c]] ?_
  intro w11 u11 e11 d11
  have k16 := k_ratTrim d11 ((abs_rat hr1).ext e11) (by omega)
  with_reducible refine Post.mono k16 ?_
  clear k16
  rintro _ u14 g15 ⟨r12, rfl, h13⟩
  refine sy_store ⟨26, r12.cs⟩ ty26 ?_
  refine sy_next 11 [(2, .adr 2 0)] [(2, ⟨26, r12.cs⟩)] ?_
  refine sw_ret (ret0 [r12.v] ⟨res_cell ty26 part_agg, trivial⟩ fun u17 e18 => ?_)
  refine ⟨r12, rfl, RatN.more (K := K) ?_ (by omega)⟩
  exact (h13.ext e18)
set_option maxHeartbeats 1000000 in
theorem k_ratAdd {u w : World} {r1 : RL} {x : Rat} {K : Nat} {r2 : RL} {y : Rat} {L : Nat} (d : Dat u w) (hr1 : RatV u r1 x K) (hr2 : RatV u r2 y L) (hK : K ≤ 200000000) (hL : L ≤ 200000000) : Calls Tryz.prog 104 #[r1.v, r2.v] w (Post u w fun v u' => ∃ r : RL, v = r.v ∧ RatN u' r (x + y) (K + L + 1)) := by
  refine calls_sym (args := [r1.v, r2.v]) Tryz.func104 rfl Tryz.ntmps104 (rs := [.cell 4 26]) Tryz.results104 (le_b rfl) (le_b rfl) d ?_
  refine sw_seq ?_
  refine sw_reg ?_
  refine sy_new 2 ⟨26, r1.cs⟩ ?_
  refine sy_new 3 ⟨26, r2.cs⟩ ?_
  refine sy_new 4 ⟨26, [.bool false, .slice none 0 0, .slice none 0 0]⟩ ?_
  refine sy_next 73 [(2, .adr 2 0), (3, .adr 3 0), (4, .adr 4 0)] [(2, ⟨26, r1.cs⟩), (3, ⟨26, r2.cs⟩), (4, ⟨26, [.bool false, .slice none 0 0, .slice none 0 0]⟩)] ?_
  refine sw_seq ?_
  refine sw_any [0, 1, 0, 7, 0, 0, 63, 127] [(0, []), (2, []), (4, []), (5, []), (1, []), (3, []), (6, []), (7, [])] (by kernel_rfl) (by kernel_rfl) ?_
  refine sy_ldv 8 (.v (r1.v)) ty26 part_agg ?_
  refine sy_ldv 10 (.v (r2.v)) ty26 part_agg ?_
  refine sy_new 5 ⟨116, [.bool false, .slice none 0 0, .slice none 0 0, .bool false]⟩ ?_
  refine sy_new 6 ⟨116, [.bool false, .slice none 0 0, .slice none 0 0, .bool false]⟩ ?_
  refine sy_call 9 145 [r1.v] ?_
  intro w11 u11 e11 d11
  have k15 := k_read d11 (hr1.ext e11)
  with_reducible refine Post.mono k15 ?_
  clear k15
  rintro _ u13 g14 ⟨r12, wh12, rfl, z12, D12, hi12, hd12, hp12, hq12, hw12, hk12⟩
  refine sy_call 11 145 [r2.v] ?_
  intro w16 u16 e16 d16
  have k20 := k_read d16 (hr2.ext (e11.trans (g14.ext.trans e16)))
  with_reducible refine Post.mono k20 ?_
  clear k20
  rintro _ u18 g19 ⟨r17, wh17, rfl, z17, D17, hi17, hd17, hp17, hq17, hw17, hk17⟩
  refine sy_store ⟨116, r12.cs ++ [.bool wh12]⟩ ty116 ?_
  refine sy_store ⟨116, r17.cs ++ [.bool wh17]⟩ ty116 ?_
  refine sy_next 73 [(4, .adr 4 0), (5, .adr 5 0), (6, .adr 6 0)] [(4, ⟨26, [.bool false, .slice none 0 0, .slice none 0 0]⟩), (5, ⟨116, r12.cs ++ [.bool wh12]⟩), (6, ⟨116, r17.cs ++ [.bool wh17]⟩)] ?_
  refine sw_seq ?_
  refine sw_seq ?_
  refine sw_reg ?_
  refine sy_pure 12 (.adr 5 3) ?_
  refine sy_ldv 13 (.v (.bool wh12)) ty4 part_one ?_
  rcases Bool.eq_false_or_eq_true wh12 with hs21 | hs21
  · refine sy_eq 14 (x := .v (.bool wh12)) (.v (.bool true)) (by rw [hs21]) ?_
    refine sy_pure 15 (.adr 6 3) ?_ (hw := wants1 (g := 2) (b := true) (t := 14) (by kernel_rfl) (by kernel_rfl) (by kernel_rfl))
    refine sy_ldv 16 (.v (.bool wh17)) ty4 part_one ?_ (hw := wants1 (g := 2) (b := true) (t := 14) (by kernel_rfl) (by kernel_rfl) (by kernel_rfl))
    refine sy_pure 17 (.v (.bool wh17)) ?_
    refine sy_next 73 [(4, .adr 4 0), (5, .adr 5 0), (6, .adr 6 0), (17, .v (.bool wh17))] [(4, ⟨26, [.bool false, .slice none 0 0, .slice none 0 0]⟩), (5, ⟨116, r12.cs ++ [.bool wh12]⟩), (6, ⟨116, r17.cs ++ [.bool wh17]⟩)] ?_
    refine sw_cond (b := wh17) (by kernel_rfl) (fun hb22 => ?_) (fun hb22 => ?_)
    · replace hb22 : wh17 = true := hb22
      refine sw_seq ?_
      refine sw_reg ?_
      refine sy_pure 18 (.adr 5 0) ?_
      refine sy_pure 19 (.adr 5 0) ?_
      refine sy_ldv 20 (.v (.agg #[.bool r12.s, .slice r12.m.a r12.m.n r12.m.c])) ty24 part_agg ?_
      refine sy_pure 21 (.adr 6 0) ?_
      refine sy_pure 22 (.adr 6 0) ?_
      refine sy_ldv 23 (.v (.agg #[.bool r17.s, .slice r17.m.a r17.m.n r17.m.c])) ty24 part_agg ?_
      refine sy_call 24 153 [.agg #[.bool r12.s, .slice r12.m.a r12.m.n r12.m.c], .agg #[.bool r17.s, .slice r17.m.a r17.m.n r17.m.c]] ?_
      intro w23 u23 e23 d23
      have k28 := k_intAdd d23 (hi12.ext (e16.trans (g19.ext.trans e23))) (hi17.ext e23) (by omega) (by omega)
      with_reducible refine Post.mono k28 ?_
      clear k28
      rintro _ u26 g27 ⟨i24, rfl, h25⟩
      refine sy_call 25 152 [i24.v] ?_
      intro w29 u29 e29 d29
      have k34 := k_whole (i := i24) d29
      with_reducible refine Post.mono k34 ?_
      clear k34
      rintro _ u32 g33 ⟨y30, rfl, h31⟩
      refine sy_store ⟨26, i24.cs ++ [.slice y30.a y30.n y30.c]⟩ ty26 ?_
      refine sy_next 73 [(4, .adr 4 0)] [(4, ⟨26, i24.cs ++ [.slice y30.a y30.n y30.c]⟩)] ?_
      refine sw_ret (mpr_seq (ret0 [.agg #[.bool i24.s, .slice i24.m.a i24.m.n i24.m.c, .slice y30.a y30.n y30.c]] ⟨res_cell ty26 part_agg, trivial⟩ fun u35 e36 => ?_))
      refine ⟨(⟨i24.s, i24.m, y30⟩ : RL), rfl, RatN.more (K := (max (max K L + 1) 1)) ?_ (by omega)⟩
      rw [hq12, hq17, hw12 (by assumption), hw17 (by assumption), Nt.mk_one, Nt.mk_one, ← Rat.intCast_add]
      exact ((whole_rat (h25.ext (e29.trans g33.ext)) h31).ext e36)
    · replace hb22 : wh17 = false := hb22
      refine sw_skip (mp_seq ?_)
      refine sw_seq ?_
      refine sw_seq ?_
      refine sw_reg ?_
      refine sy_pure 26 (.adr 5 0) ?_
      refine sy_pure 27 (.adr 5 2) ?_
      refine sy_ldv 28 (.v (.slice r12.d.a r12.d.n r12.d.c)) ty22 part_one ?_
      refine sy_pure 29 (.adr 6 0) ?_
      refine sy_pure 30 (.adr 6 2) ?_
      refine sy_ldv 31 (.v (.slice r17.d.a r17.d.n r17.d.c)) ty22 part_one ?_
      refine sy_call 32 154 [.slice r12.d.a r12.d.n r12.d.c, .slice r17.d.a r17.d.n r17.d.c] ?_
      intro w37 u37 e37 d37
      have k40 := k_natCompare d37 (hd12.ext (e16.trans (g19.ext.trans e37))) (hd17.ext e37)
      with_reducible refine Post.mono k40 ?_
      clear k40
      rintro _ u38 g39 rfl
      refine sy_pure 33 (.v (.bool ((Nt.cmpS D12 D17) == 0))) ?_
      refine sy_next 73 [(4, .adr 4 0), (5, .adr 5 0), (6, .adr 6 0), (33, .v (.bool ((Nt.cmpS D12 D17) == 0)))] [(4, ⟨26, [.bool false, .slice none 0 0, .slice none 0 0]⟩), (5, ⟨116, r12.cs ++ [.bool wh12]⟩), (6, ⟨116, r17.cs ++ [.bool wh17]⟩)] ?_
      refine sw_cond (b := (Nt.cmpS D12 D17) == 0) (by kernel_rfl) (fun hb41 => ?_) (fun hb41 => ?_)
      · replace hb41 : ((Nt.cmpS D12 D17) == 0) = true := hb41
        refine sw_seq ?_
        refine sw_any [0, 1, 3, 0, 8, 24, 63, 0, 128, 384, 1023, 2047, 4095] [(0, []), (1, []), (2, []), (3, []), (4, []), (5, []), (7, []), (8, []), (9, []), (6, []), (10, []), (11, []), (12, [])] (by kernel_rfl) (by kernel_rfl) ?_
        refine sy_pure 34 (.adr 5 0) ?_
        refine sy_pure 35 (.adr 5 0) ?_
        refine sy_ldv 36 (.v (.agg #[.bool r12.s, .slice r12.m.a r12.m.n r12.m.c])) ty24 part_agg ?_
        refine sy_pure 37 (.adr 6 0) ?_
        refine sy_pure 38 (.adr 6 0) ?_
        refine sy_ldv 39 (.v (.agg #[.bool r17.s, .slice r17.m.a r17.m.n r17.m.c])) ty24 part_agg ?_
        refine sy_pure 41 (.adr 5 0) ?_
        refine sy_pure 42 (.adr 5 2) ?_
        refine sy_ldv 43 (.v (.slice r12.d.a r12.d.n r12.d.c)) ty22 part_one ?_
        refine sy_call 40 153 [.agg #[.bool r12.s, .slice r12.m.a r12.m.n r12.m.c], .agg #[.bool r17.s, .slice r17.m.a r17.m.n r17.m.c]] ?_
        intro w42 u42 e42 d42
        have k47 := k_intAdd d42 (hi12.ext (e16.trans (g19.ext.trans (e37.trans (g39.ext.trans e42))))) (hi17.ext (e37.trans (g39.ext.trans e42))) (by omega) (by omega)
        with_reducible refine Post.mono k47 ?_
        clear k47
        rintro _ u45 g46 ⟨i43, rfl, h44⟩
        refine sy_pure 44 (.v (.agg #[.bool i43.s, .slice i43.m.a i43.m.n i43.m.c, .slice r12.d.a r12.d.n r12.d.c])) ?_
        refine sy_call 45 150 [.agg #[.bool i43.s, .slice i43.m.a i43.m.n i43.m.c, .slice r12.d.a r12.d.n r12.d.c]] ?_
        intro w48 u48 e48 d48
        have k53 := k_lowest d48 (h44.ext e48).raw (hd12.ext (e16.trans (g19.ext.trans (e37.trans (g39.ext.trans (e42.trans (g46.ext.trans e48))))))) hp12 (by omega) (by omega)
        with_reducible refine Post.mono k53 ?_
        clear k53
        rintro _ u51 g52 ⟨r49, rfl, h50⟩
        refine sy_store ⟨26, r49.cs⟩ ty26 ?_
        refine sy_next 73 [(4, .adr 4 0)] [(4, ⟨26, r49.cs⟩)] ?_
        refine sw_ret (mpr_seq (ret0 [r49.v] ⟨res_cell ty26 part_agg, trivial⟩ fun u54 e55 => ?_))
        refine ⟨r49, rfl, RatN.more (K := (max (max K L + 1) K)) ?_ (by omega)⟩
        have hD : D12 = D17 := Nt.cmp_natE hb41
        rw [hq12, hq17, ← hD, ← Nt.add_same hp12]
        exact (h50.ext e55)
      · replace hb41 : ((Nt.cmpS D12 D17) == 0) = false := hb41
        refine sw_skip (mp_seq ?_)
        refine sw_seq ?_
        refine sw_any [0, 1, 3, 0, 8, 24, 56, 127, 0, 256, 768, 0, 2048, 6144, 14591, 32767, 65535, 0, 262143] [(0, []), (1, []), (2, []), (3, []), (4, []), (5, []), (8, []), (9, []), (10, []), (11, []), (12, []), (13, []), (17, []), (6, []), (7, []), (14, []), (15, []), (16, []), (18, [])] (by kernel_rfl) (by kernel_rfl) ?_
        refine sy_pure 46 (.adr 5 0) ?_
        refine sy_pure 47 (.adr 5 0) ?_
        refine sy_ldv 48 (.v (.agg #[.bool r12.s, .slice r12.m.a r12.m.n r12.m.c])) ty24 part_agg ?_
        refine sy_pure 49 (.adr 6 0) ?_
        refine sy_pure 50 (.adr 6 2) ?_
        refine sy_ldv 51 (.v (.slice r17.d.a r17.d.n r17.d.c)) ty22 part_one ?_
        refine sy_pure 54 (.adr 6 0) ?_
        refine sy_pure 55 (.adr 6 0) ?_
        refine sy_ldv 56 (.v (.agg #[.bool r17.s, .slice r17.m.a r17.m.n r17.m.c])) ty24 part_agg ?_
        refine sy_pure 57 (.adr 5 0) ?_
        refine sy_pure 58 (.adr 5 2) ?_
        refine sy_ldv 59 (.v (.slice r12.d.a r12.d.n r12.d.c)) ty22 part_one ?_
        refine sy_new 7 ⟨24, [.bool false, .slice none 0 0]⟩ ?_
        refine sy_call 52 148 [.slice r17.d.a r17.d.n r17.d.c] ?_
        intro w56 u56 e56 d56
        have k59 := k_natural (x := r17.d) d56
        with_reducible refine Post.mono k59 ?_
        clear k59
        rintro _ u57 g58 rfl
        refine sy_call 53 147 [.agg #[.bool r12.s, .slice r12.m.a r12.m.n r12.m.c], .agg #[.bool false, .slice r17.d.a r17.d.n r17.d.c]] ?_
        intro w60 u60 e60 d60
        have k65 := k_intMul d60 (hi12.ext (e16.trans (g19.ext.trans (e37.trans (g39.ext.trans (e56.trans (g58.ext.trans e60))))))) (nat_int (hd17.ext (e37.trans (g39.ext.trans (e56.trans (g58.ext.trans e60)))))) (by omega) (by omega)
        with_reducible refine Post.mono k65 ?_
        clear k65
        rintro _ u63 g64 ⟨i61, rfl, h62⟩
        refine sy_call 60 148 [.slice r12.d.a r12.d.n r12.d.c] ?_
        intro w66 u66 e66 d66
        have k69 := k_natural (x := r12.d) d66
        with_reducible refine Post.mono k69 ?_
        clear k69
        rintro _ u67 g68 rfl
        refine sy_call 61 147 [.agg #[.bool r17.s, .slice r17.m.a r17.m.n r17.m.c], .agg #[.bool false, .slice r12.d.a r12.d.n r12.d.c]] ?_
        intro w70 u70 e70 d70
        have k75 := k_intMul d70 (hi17.ext (e37.trans (g39.ext.trans (e56.trans (g58.ext.trans (e60.trans (g64.ext.trans (e66.trans (g68.ext.trans e70))))))))) (nat_int (hd12.ext (e16.trans (g19.ext.trans (e37.trans (g39.ext.trans (e56.trans (g58.ext.trans (e60.trans (g64.ext.trans (e66.trans (g68.ext.trans e70)))))))))))) (by omega) (by omega)
        with_reducible refine Post.mono k75 ?_
        clear k75
        rintro _ u73 g74 ⟨i71, rfl, h72⟩
        refine sy_call 62 153 [i61.v, i71.v] ?_
        intro w76 u76 e76 d76
        have k81 := k_intAdd d76 (h62.ext (e66.trans (g68.ext.trans (e70.trans (g74.ext.trans e76))))).raw (h72.ext e76).raw (by omega) (by omega)
        with_reducible refine Post.mono k81 ?_
        clear k81
        rintro _ u79 g80 ⟨i77, rfl, h78⟩
        refine sy_store ⟨24, i77.cs⟩ ty24 ?_
        refine sy_next 73 [(4, .adr 4 0), (5, .adr 5 0), (6, .adr 6 0), (7, .adr 7 0)] [(4, ⟨26, [.bool false, .slice none 0 0, .slice none 0 0]⟩), (5, ⟨116, r12.cs ++ [.bool wh12]⟩), (6, ⟨116, r17.cs ++ [.bool wh17]⟩), (7, ⟨24, i77.cs⟩)] ?_
        refine sw_seq ?_
        refine sw_any [0, 0, 2, 6, 0, 16, 48, 126, 255, 511, 1023] [(0, []), (1, []), (2, []), (3, []), (4, []), (5, []), (6, []), (7, []), (8, []), (9, []), (10, [])] (by kernel_rfl) (by kernel_rfl) ?_
        refine sy_ldv 63 (.v (i77.v)) ty24 part_agg ?_
        refine sy_pure 64 (.adr 5 0) ?_
        refine sy_pure 65 (.adr 5 2) ?_
        refine sy_ldv 66 (.v (.slice r12.d.a r12.d.n r12.d.c)) ty22 part_one ?_
        refine sy_pure 67 (.adr 6 0) ?_
        refine sy_pure 68 (.adr 6 2) ?_
        refine sy_ldv 69 (.v (.slice r17.d.a r17.d.n r17.d.c)) ty22 part_one ?_
        refine sy_call 70 155 [.slice r12.d.a r12.d.n r12.d.c, .slice r17.d.a r17.d.n r17.d.c] ?_
        intro w82 u82 e82 d82
        have k87 := k_natMul d82 (hd12.ext (e16.trans (g19.ext.trans (e37.trans (g39.ext.trans (e56.trans (g58.ext.trans (e60.trans (g64.ext.trans (e66.trans (g68.ext.trans (e70.trans (g74.ext.trans (e76.trans (g80.ext.trans e82))))))))))))))) (hd17.ext (e37.trans (g39.ext.trans (e56.trans (g58.ext.trans (e60.trans (g64.ext.trans (e66.trans (g68.ext.trans (e70.trans (g74.ext.trans (e76.trans (g80.ext.trans e82))))))))))))) (by omega) (by omega)
        with_reducible refine Post.mono k87 ?_
        clear k87
        rintro _ u85 g86 ⟨x83, rfl, h84⟩
        refine sy_pure 71 (.v (.agg #[.bool i77.s, .slice i77.m.a i77.m.n i77.m.c, .slice x83.a x83.n x83.c])) ?_
        refine sy_call 72 150 [.agg #[.bool i77.s, .slice i77.m.a i77.m.n i77.m.c, .slice x83.a x83.n x83.c]] ?_
        intro w88 u88 e88 d88
        have k93 := k_lowest d88 (h78.ext (e82.trans (g86.ext.trans e88))).raw (h84.ext e88).raw (Nat.mul_pos hp12 hp17) (by omega) (by omega)
        with_reducible refine Post.mono k93 ?_
        clear k93
        rintro _ u91 g92 ⟨r89, rfl, h90⟩
        refine sy_store ⟨26, r89.cs⟩ ty26 ?_
        refine sy_next 73 [(4, .adr 4 0)] [(4, ⟨26, r89.cs⟩)] ?_
        refine sw_ret (ret0 [r89.v] ⟨res_cell ty26 part_agg, trivial⟩ fun u94 e95 => ?_)
        refine ⟨r89, rfl, RatN.more (K := (max (max (K + L) (L + K) + 1) (K + L))) ?_ (by omega)⟩
        rw [hq12, hq17, ← Nt.add_mk hp12 hp17]
        exact (h90.ext e95)
  · refine sy_eq 14 (x := .v (.bool wh12)) (.v (.bool false)) (by rw [hs21]) ?_
    refine sy_drop 15 (unwanted (g := 2) (b := true) (c := false) (t := 14) (by kernel_rfl) (by kernel_rfl) (by kernel_rfl) (by kernel_rfl)) ?_
    refine sy_drop 16 (unwanted (g := 2) (b := true) (c := false) (t := 14) (by kernel_rfl) (by kernel_rfl) (by kernel_rfl) (by kernel_rfl)) ?_
    refine sy_pure 17 (.v (.bool false)) ?_
    refine sy_next 73 [(4, .adr 4 0), (5, .adr 5 0), (6, .adr 6 0), (17, .v (.bool false))] [(4, ⟨26, [.bool false, .slice none 0 0, .slice none 0 0]⟩), (5, ⟨116, r12.cs ++ [.bool wh12]⟩), (6, ⟨116, r17.cs ++ [.bool wh17]⟩)] ?_
    refine sw_false (by kernel_rfl) ?_
    refine sw_skip (mp_seq ?_)
    refine sw_seq ?_
    refine sw_seq ?_
    refine sw_reg ?_
    refine sy_pure 26 (.adr 5 0) ?_
    refine sy_pure 27 (.adr 5 2) ?_
    refine sy_ldv 28 (.v (.slice r12.d.a r12.d.n r12.d.c)) ty22 part_one ?_
    refine sy_pure 29 (.adr 6 0) ?_
    refine sy_pure 30 (.adr 6 2) ?_
    refine sy_ldv 31 (.v (.slice r17.d.a r17.d.n r17.d.c)) ty22 part_one ?_
    refine sy_call 32 154 [.slice r12.d.a r12.d.n r12.d.c, .slice r17.d.a r17.d.n r17.d.c] ?_
    intro w96 u96 e96 d96
    have k99 := k_natCompare d96 (hd12.ext (e16.trans (g19.ext.trans e96))) (hd17.ext e96)
    with_reducible refine Post.mono k99 ?_
    clear k99
    rintro _ u97 g98 rfl
    refine sy_pure 33 (.v (.bool ((Nt.cmpS D12 D17) == 0))) ?_
    refine sy_next 73 [(4, .adr 4 0), (5, .adr 5 0), (6, .adr 6 0), (33, .v (.bool ((Nt.cmpS D12 D17) == 0)))] [(4, ⟨26, [.bool false, .slice none 0 0, .slice none 0 0]⟩), (5, ⟨116, r12.cs ++ [.bool wh12]⟩), (6, ⟨116, r17.cs ++ [.bool wh17]⟩)] ?_
    refine sw_cond (b := (Nt.cmpS D12 D17) == 0) (by kernel_rfl) (fun hb100 => ?_) (fun hb100 => ?_)
    · replace hb100 : ((Nt.cmpS D12 D17) == 0) = true := hb100
      refine sw_seq ?_
      refine sw_any [0, 1, 3, 0, 8, 24, 63, 0, 128, 384, 1023, 2047, 4095] [(0, []), (1, []), (2, []), (3, []), (4, []), (5, []), (7, []), (8, []), (9, []), (6, []), (10, []), (11, []), (12, [])] (by kernel_rfl) (by kernel_rfl) ?_
      refine sy_pure 34 (.adr 5 0) ?_
      refine sy_pure 35 (.adr 5 0) ?_
      refine sy_ldv 36 (.v (.agg #[.bool r12.s, .slice r12.m.a r12.m.n r12.m.c])) ty24 part_agg ?_
      refine sy_pure 37 (.adr 6 0) ?_
      refine sy_pure 38 (.adr 6 0) ?_
      refine sy_ldv 39 (.v (.agg #[.bool r17.s, .slice r17.m.a r17.m.n r17.m.c])) ty24 part_agg ?_
      refine sy_pure 41 (.adr 5 0) ?_
      refine sy_pure 42 (.adr 5 2) ?_
      refine sy_ldv 43 (.v (.slice r12.d.a r12.d.n r12.d.c)) ty22 part_one ?_
      refine sy_call 40 153 [.agg #[.bool r12.s, .slice r12.m.a r12.m.n r12.m.c], .agg #[.bool r17.s, .slice r17.m.a r17.m.n r17.m.c]] ?_
      intro w101 u101 e101 d101
      have k106 := k_intAdd d101 (hi12.ext (e16.trans (g19.ext.trans (e96.trans (g98.ext.trans e101))))) (hi17.ext (e96.trans (g98.ext.trans e101))) (by omega) (by omega)
      with_reducible refine Post.mono k106 ?_
      clear k106
      rintro _ u104 g105 ⟨i102, rfl, h103⟩
      refine sy_pure 44 (.v (.agg #[.bool i102.s, .slice i102.m.a i102.m.n i102.m.c, .slice r12.d.a r12.d.n r12.d.c])) ?_
      refine sy_call 45 150 [.agg #[.bool i102.s, .slice i102.m.a i102.m.n i102.m.c, .slice r12.d.a r12.d.n r12.d.c]] ?_
      intro w107 u107 e107 d107
      have k112 := k_lowest d107 (h103.ext e107).raw (hd12.ext (e16.trans (g19.ext.trans (e96.trans (g98.ext.trans (e101.trans (g105.ext.trans e107))))))) hp12 (by omega) (by omega)
      with_reducible refine Post.mono k112 ?_
      clear k112
      rintro _ u110 g111 ⟨r108, rfl, h109⟩
      refine sy_store ⟨26, r108.cs⟩ ty26 ?_
      refine sy_next 73 [(4, .adr 4 0)] [(4, ⟨26, r108.cs⟩)] ?_
      refine sw_ret (mpr_seq (ret0 [r108.v] ⟨res_cell ty26 part_agg, trivial⟩ fun u113 e114 => ?_))
      refine ⟨r108, rfl, RatN.more (K := (max (max K L + 1) K)) ?_ (by omega)⟩
      have hD : D12 = D17 := Nt.cmp_natE hb100
      rw [hq12, hq17, ← hD, ← Nt.add_same hp12]
      exact (h109.ext e114)
    · replace hb100 : ((Nt.cmpS D12 D17) == 0) = false := hb100
      refine sw_skip (mp_seq ?_)
      refine sw_seq ?_
      refine sw_any [0, 1, 3, 0, 8, 24, 56, 127, 0, 256, 768, 0, 2048, 6144, 14591, 32767, 65535, 0, 262143] [(0, []), (1, []), (2, []), (3, []), (4, []), (5, []), (8, []), (9, []), (10, []), (11, []), (12, []), (13, []), (17, []), (6, []), (7, []), (14, []), (15, []), (16, []), (18, [])] (by kernel_rfl) (by kernel_rfl) ?_
      refine sy_pure 46 (.adr 5 0) ?_
      refine sy_pure 47 (.adr 5 0) ?_
      refine sy_ldv 48 (.v (.agg #[.bool r12.s, .slice r12.m.a r12.m.n r12.m.c])) ty24 part_agg ?_
      refine sy_pure 49 (.adr 6 0) ?_
      refine sy_pure 50 (.adr 6 2) ?_
      refine sy_ldv 51 (.v (.slice r17.d.a r17.d.n r17.d.c)) ty22 part_one ?_
      refine sy_pure 54 (.adr 6 0) ?_
      refine sy_pure 55 (.adr 6 0) ?_
      refine sy_ldv 56 (.v (.agg #[.bool r17.s, .slice r17.m.a r17.m.n r17.m.c])) ty24 part_agg ?_
      refine sy_pure 57 (.adr 5 0) ?_
      refine sy_pure 58 (.adr 5 2) ?_
      refine sy_ldv 59 (.v (.slice r12.d.a r12.d.n r12.d.c)) ty22 part_one ?_
      refine sy_new 7 ⟨24, [.bool false, .slice none 0 0]⟩ ?_
      refine sy_call 52 148 [.slice r17.d.a r17.d.n r17.d.c] ?_
      intro w115 u115 e115 d115
      have k118 := k_natural (x := r17.d) d115
      with_reducible refine Post.mono k118 ?_
      clear k118
      rintro _ u116 g117 rfl
      refine sy_call 53 147 [.agg #[.bool r12.s, .slice r12.m.a r12.m.n r12.m.c], .agg #[.bool false, .slice r17.d.a r17.d.n r17.d.c]] ?_
      intro w119 u119 e119 d119
      have k124 := k_intMul d119 (hi12.ext (e16.trans (g19.ext.trans (e96.trans (g98.ext.trans (e115.trans (g117.ext.trans e119))))))) (nat_int (hd17.ext (e96.trans (g98.ext.trans (e115.trans (g117.ext.trans e119)))))) (by omega) (by omega)
      with_reducible refine Post.mono k124 ?_
      clear k124
      rintro _ u122 g123 ⟨i120, rfl, h121⟩
      refine sy_call 60 148 [.slice r12.d.a r12.d.n r12.d.c] ?_
      intro w125 u125 e125 d125
      have k128 := k_natural (x := r12.d) d125
      with_reducible refine Post.mono k128 ?_
      clear k128
      rintro _ u126 g127 rfl
      refine sy_call 61 147 [.agg #[.bool r17.s, .slice r17.m.a r17.m.n r17.m.c], .agg #[.bool false, .slice r12.d.a r12.d.n r12.d.c]] ?_
      intro w129 u129 e129 d129
      have k134 := k_intMul d129 (hi17.ext (e96.trans (g98.ext.trans (e115.trans (g117.ext.trans (e119.trans (g123.ext.trans (e125.trans (g127.ext.trans e129))))))))) (nat_int (hd12.ext (e16.trans (g19.ext.trans (e96.trans (g98.ext.trans (e115.trans (g117.ext.trans (e119.trans (g123.ext.trans (e125.trans (g127.ext.trans e129)))))))))))) (by omega) (by omega)
      with_reducible refine Post.mono k134 ?_
      clear k134
      rintro _ u132 g133 ⟨i130, rfl, h131⟩
      refine sy_call 62 153 [i120.v, i130.v] ?_
      intro w135 u135 e135 d135
      have k140 := k_intAdd d135 (h121.ext (e125.trans (g127.ext.trans (e129.trans (g133.ext.trans e135))))).raw (h131.ext e135).raw (by omega) (by omega)
      with_reducible refine Post.mono k140 ?_
      clear k140
      rintro _ u138 g139 ⟨i136, rfl, h137⟩
      refine sy_store ⟨24, i136.cs⟩ ty24 ?_
      refine sy_next 73 [(4, .adr 4 0), (5, .adr 5 0), (6, .adr 6 0), (7, .adr 7 0)] [(4, ⟨26, [.bool false, .slice none 0 0, .slice none 0 0]⟩), (5, ⟨116, r12.cs ++ [.bool wh12]⟩), (6, ⟨116, r17.cs ++ [.bool wh17]⟩), (7, ⟨24, i136.cs⟩)] ?_
      refine sw_seq ?_
      refine sw_any [0, 0, 2, 6, 0, 16, 48, 126, 255, 511, 1023] [(0, []), (1, []), (2, []), (3, []), (4, []), (5, []), (6, []), (7, []), (8, []), (9, []), (10, [])] (by kernel_rfl) (by kernel_rfl) ?_
      refine sy_ldv 63 (.v (i136.v)) ty24 part_agg ?_
      refine sy_pure 64 (.adr 5 0) ?_
      refine sy_pure 65 (.adr 5 2) ?_
      refine sy_ldv 66 (.v (.slice r12.d.a r12.d.n r12.d.c)) ty22 part_one ?_
      refine sy_pure 67 (.adr 6 0) ?_
      refine sy_pure 68 (.adr 6 2) ?_
      refine sy_ldv 69 (.v (.slice r17.d.a r17.d.n r17.d.c)) ty22 part_one ?_
      refine sy_call 70 155 [.slice r12.d.a r12.d.n r12.d.c, .slice r17.d.a r17.d.n r17.d.c] ?_
      intro w141 u141 e141 d141
      have k146 := k_natMul d141 (hd12.ext (e16.trans (g19.ext.trans (e96.trans (g98.ext.trans (e115.trans (g117.ext.trans (e119.trans (g123.ext.trans (e125.trans (g127.ext.trans (e129.trans (g133.ext.trans (e135.trans (g139.ext.trans e141))))))))))))))) (hd17.ext (e96.trans (g98.ext.trans (e115.trans (g117.ext.trans (e119.trans (g123.ext.trans (e125.trans (g127.ext.trans (e129.trans (g133.ext.trans (e135.trans (g139.ext.trans e141))))))))))))) (by omega) (by omega)
      with_reducible refine Post.mono k146 ?_
      clear k146
      rintro _ u144 g145 ⟨x142, rfl, h143⟩
      refine sy_pure 71 (.v (.agg #[.bool i136.s, .slice i136.m.a i136.m.n i136.m.c, .slice x142.a x142.n x142.c])) ?_
      refine sy_call 72 150 [.agg #[.bool i136.s, .slice i136.m.a i136.m.n i136.m.c, .slice x142.a x142.n x142.c]] ?_
      intro w147 u147 e147 d147
      have k152 := k_lowest d147 (h137.ext (e141.trans (g145.ext.trans e147))).raw (h143.ext e147).raw (Nat.mul_pos hp12 hp17) (by omega) (by omega)
      with_reducible refine Post.mono k152 ?_
      clear k152
      rintro _ u150 g151 ⟨r148, rfl, h149⟩
      refine sy_store ⟨26, r148.cs⟩ ty26 ?_
      refine sy_next 73 [(4, .adr 4 0)] [(4, ⟨26, r148.cs⟩)] ?_
      refine sw_ret (ret0 [r148.v] ⟨res_cell ty26 part_agg, trivial⟩ fun u153 e154 => ?_)
      refine ⟨r148, rfl, RatN.more (K := (max (max (K + L) (L + K) + 1) (K + L))) ?_ (by omega)⟩
      rw [hq12, hq17, ← Nt.add_mk hp12 hp17]
      exact (h149.ext e154)
theorem k_ratSub {u w : World} {r1 : RL} {x : Rat} {K : Nat} {r2 : RL} {y : Rat} {L : Nat} (d : Dat u w) (hr1 : RatV u r1 x K) (hr2 : RatV u r2 y L) (hK : K ≤ 200000000) (hL : L ≤ 200000000) : Calls Tryz.prog 109 #[r1.v, r2.v] w (Post u w fun v u' => ∃ r : RL, v = r.v ∧ RatN u' r (x - y) (K + L + 1)) := by
  refine calls_sym (args := [r1.v, r2.v]) Tryz.func109 rfl Tryz.ntmps109 (rs := [.cell 4 26]) Tryz.results109 (le_b rfl) (le_b rfl) d ?_
  refine sw_seq ?_
  refine sw_reg ?_
  refine sy_new 2 ⟨26, r1.cs⟩ ?_
  refine sy_new 3 ⟨26, r2.cs⟩ ?_
  refine sy_new 4 ⟨26, [.bool false, .slice none 0 0, .slice none 0 0]⟩ ?_
  refine sy_next 9 [(2, .adr 2 0), (3, .adr 3 0), (4, .adr 4 0)] [(2, ⟨26, r1.cs⟩), (3, ⟨26, r2.cs⟩), (4, ⟨26, [.bool false, .slice none 0 0, .slice none 0 0]⟩)] ?_
  refine sw_seq ?_
  refine sw_any [0, 0, 2, 7, 15] [(0, []), (1, []), (2, []), (3, []), (4, [])] (by kernel_rfl) (by kernel_rfl) ?_
  refine sy_ldv 5 (.v (r1.v)) ty26 part_agg ?_
  refine sy_ldv 6 (.v (r2.v)) ty26 part_agg ?_
  refine sy_call 7 165 [r2.v] ?_
  intro w11 u11 e11 d11
  have k14 := k_flip (r := r2) d11
  with_reducible refine Post.mono k14 ?_
  clear k14
  rintro _ u12 g13 rfl
  refine sy_call 8 104 [r1.v, .agg #[.bool (!r2.s), .slice r2.m.a r2.m.n r2.m.c, .slice r2.d.a r2.d.n r2.d.c]] ?_
  intro w15 u15 e15 d15
  have k20 := k_ratAdd d15 (hr1.ext (e11.trans (g13.ext.trans e15))) ((flip_rat (hr2.ext (e11.trans g13.ext))).ext e15) (by omega) (by omega)
  with_reducible refine Post.mono k20 ?_
  clear k20
  rintro _ u18 g19 ⟨r16, rfl, h17⟩
  refine sy_store ⟨26, r16.cs⟩ ty26 ?_
  refine sy_next 9 [(4, .adr 4 0)] [(4, ⟨26, r16.cs⟩)] ?_
  refine sw_ret (ret0 [r16.v] ⟨res_cell ty26 part_agg, trivial⟩ fun u21 e22 => ?_)
  refine ⟨r16, rfl, RatN.more (K := (K + L + 1)) ?_ (by omega)⟩
  rw [Rat.sub_eq_add_neg]
  exact (h17.ext e22)
set_option maxHeartbeats 1000000 in
theorem k_ratMul {u w : World} {r1 : RL} {x : Rat} {K : Nat} {r2 : RL} {y : Rat} {L : Nat} (d : Dat u w) (hr1 : RatV u r1 x K) (hr2 : RatV u r2 y L) (hK : K ≤ 200000000) (hL : L ≤ 200000000) : Calls Tryz.prog 111 #[r1.v, r2.v] w (Post u w fun v u' => ∃ r : RL, v = r.v ∧ RatN u' r (x * y) (K + L)) := by
  refine calls_sym (args := [r1.v, r2.v]) Tryz.func111 rfl Tryz.ntmps111 (rs := [.cell 4 26]) Tryz.results111 (le_b rfl) (le_b rfl) d ?_
  refine sw_seq ?_
  refine sw_reg ?_
  refine sy_new 2 ⟨26, r1.cs⟩ ?_
  refine sy_new 3 ⟨26, r2.cs⟩ ?_
  refine sy_new 4 ⟨26, [.bool false, .slice none 0 0, .slice none 0 0]⟩ ?_
  refine sy_next 37 [(2, .adr 2 0), (3, .adr 3 0), (4, .adr 4 0)] [(2, ⟨26, r1.cs⟩), (3, ⟨26, r2.cs⟩), (4, ⟨26, [.bool false, .slice none 0 0, .slice none 0 0]⟩)] ?_
  refine sw_seq ?_
  refine sw_any [0, 1, 0, 7, 0, 0, 63, 127] [(0, []), (2, []), (4, []), (5, []), (1, []), (3, []), (6, []), (7, [])] (by kernel_rfl) (by kernel_rfl) ?_
  refine sy_ldv 8 (.v (r1.v)) ty26 part_agg ?_
  refine sy_ldv 10 (.v (r2.v)) ty26 part_agg ?_
  refine sy_new 5 ⟨116, [.bool false, .slice none 0 0, .slice none 0 0, .bool false]⟩ ?_
  refine sy_new 6 ⟨116, [.bool false, .slice none 0 0, .slice none 0 0, .bool false]⟩ ?_
  refine sy_call 9 145 [r1.v] ?_
  intro w11 u11 e11 d11
  have k15 := k_read d11 (hr1.ext e11)
  with_reducible refine Post.mono k15 ?_
  clear k15
  rintro _ u13 g14 ⟨r12, wh12, rfl, z12, D12, hi12, hd12, hp12, hq12, hw12, hk12⟩
  refine sy_call 11 145 [r2.v] ?_
  intro w16 u16 e16 d16
  have k20 := k_read d16 (hr2.ext (e11.trans (g14.ext.trans e16)))
  with_reducible refine Post.mono k20 ?_
  clear k20
  rintro _ u18 g19 ⟨r17, wh17, rfl, z17, D17, hi17, hd17, hp17, hq17, hw17, hk17⟩
  refine sy_store ⟨116, r12.cs ++ [.bool wh12]⟩ ty116 ?_
  refine sy_store ⟨116, r17.cs ++ [.bool wh17]⟩ ty116 ?_
  refine sy_next 37 [(4, .adr 4 0), (5, .adr 5 0), (6, .adr 6 0)] [(4, ⟨26, [.bool false, .slice none 0 0, .slice none 0 0]⟩), (5, ⟨116, r12.cs ++ [.bool wh12]⟩), (6, ⟨116, r17.cs ++ [.bool wh17]⟩)] ?_
  refine sw_seq ?_
  refine sw_reg ?_
  refine sy_pure 12 (.adr 5 0) ?_
  refine sy_pure 13 (.adr 5 0) ?_
  refine sy_ldv 14 (.v (.agg #[.bool r12.s, .slice r12.m.a r12.m.n r12.m.c])) ty24 part_agg ?_
  refine sy_pure 15 (.adr 6 0) ?_
  refine sy_pure 16 (.adr 6 0) ?_
  refine sy_ldv 17 (.v (.agg #[.bool r17.s, .slice r17.m.a r17.m.n r17.m.c])) ty24 part_agg ?_
  refine sy_call 18 147 [.agg #[.bool r12.s, .slice r12.m.a r12.m.n r12.m.c], .agg #[.bool r17.s, .slice r17.m.a r17.m.n r17.m.c]] ?_
  intro w21 u21 e21 d21
  have k26 := k_intMul d21 (hi12.ext (e16.trans (g19.ext.trans e21))) (hi17.ext e21) (by omega) (by omega)
  with_reducible refine Post.mono k26 ?_
  clear k26
  rintro _ u24 g25 ⟨i22, rfl, h23⟩
  refine sy_new 7 ⟨24, [.bool false, .slice none 0 0]⟩ ?_
  refine sy_store ⟨24, i22.cs⟩ ty24 ?_
  refine sy_next 37 [(4, .adr 4 0), (5, .adr 5 0), (6, .adr 6 0), (7, .adr 7 0)] [(4, ⟨26, [.bool false, .slice none 0 0, .slice none 0 0]⟩), (5, ⟨116, r12.cs ++ [.bool wh12]⟩), (6, ⟨116, r17.cs ++ [.bool wh17]⟩), (7, ⟨24, i22.cs⟩)] ?_
  refine sw_seq ?_
  refine sw_seq ?_
  refine sw_reg ?_
  refine sy_pure 19 (.adr 5 3) ?_
  refine sy_ldv 20 (.v (.bool wh12)) ty4 part_one ?_
  rcases Bool.eq_false_or_eq_true wh12 with hs27 | hs27
  · refine sy_eq 21 (x := .v (.bool wh12)) (.v (.bool true)) (by rw [hs27]) ?_
    refine sy_pure 22 (.adr 6 3) ?_ (hw := wants1 (g := 2) (b := true) (t := 21) (by kernel_rfl) (by kernel_rfl) (by kernel_rfl))
    refine sy_ldv 23 (.v (.bool wh17)) ty4 part_one ?_ (hw := wants1 (g := 2) (b := true) (t := 21) (by kernel_rfl) (by kernel_rfl) (by kernel_rfl))
    refine sy_pure 24 (.v (.bool wh17)) ?_
    refine sy_next 37 [(4, .adr 4 0), (5, .adr 5 0), (6, .adr 6 0), (7, .adr 7 0), (24, .v (.bool wh17))] [(4, ⟨26, [.bool false, .slice none 0 0, .slice none 0 0]⟩), (5, ⟨116, r12.cs ++ [.bool wh12]⟩), (6, ⟨116, r17.cs ++ [.bool wh17]⟩), (7, ⟨24, i22.cs⟩)] ?_
    refine sw_cond (b := wh17) (by kernel_rfl) (fun hb28 => ?_) (fun hb28 => ?_)
    · replace hb28 : wh17 = true := hb28
      refine sw_seq ?_
      refine sw_reg ?_
      refine sy_ldv 25 (.v (i22.v)) ty24 part_agg ?_
      refine sy_call 26 152 [i22.v] ?_
      intro w29 u29 e29 d29
      have k34 := k_whole (i := i22) d29
      with_reducible refine Post.mono k34 ?_
      clear k34
      rintro _ u32 g33 ⟨y30, rfl, h31⟩
      refine sy_store ⟨26, i22.cs ++ [.slice y30.a y30.n y30.c]⟩ ty26 ?_
      refine sy_next 37 [(4, .adr 4 0)] [(4, ⟨26, i22.cs ++ [.slice y30.a y30.n y30.c]⟩)] ?_
      refine sw_ret (mpr_seq (ret0 [.agg #[.bool i22.s, .slice i22.m.a i22.m.n i22.m.c, .slice y30.a y30.n y30.c]] ⟨res_cell ty26 part_agg, trivial⟩ fun u35 e36 => ?_))
      refine ⟨(⟨i22.s, i22.m, y30⟩ : RL), rfl, RatN.more (K := (max (K + L) 1)) ?_ (by omega)⟩
      rw [hq12, hq17, hw12 (by assumption), hw17 (by assumption), Nt.mk_one, Nt.mk_one, ← Rat.intCast_mul]
      exact ((whole_rat (h23.ext (e29.trans g33.ext)) h31).ext e36)
    · replace hb28 : wh17 = false := hb28
      refine sw_skip (mp_seq ?_)
      refine sw_seq ?_
      refine sw_any [0, 0, 2, 6, 0, 16, 48, 126, 255, 511, 1023] [(0, []), (1, []), (2, []), (3, []), (4, []), (5, []), (6, []), (7, []), (8, []), (9, []), (10, [])] (by kernel_rfl) (by kernel_rfl) ?_
      refine sy_ldv 27 (.v (i22.v)) ty24 part_agg ?_
      refine sy_pure 28 (.adr 5 0) ?_
      refine sy_pure 29 (.adr 5 2) ?_
      refine sy_ldv 30 (.v (.slice r12.d.a r12.d.n r12.d.c)) ty22 part_one ?_
      refine sy_pure 31 (.adr 6 0) ?_
      refine sy_pure 32 (.adr 6 2) ?_
      refine sy_ldv 33 (.v (.slice r17.d.a r17.d.n r17.d.c)) ty22 part_one ?_
      refine sy_call 34 155 [.slice r12.d.a r12.d.n r12.d.c, .slice r17.d.a r17.d.n r17.d.c] ?_
      intro w37 u37 e37 d37
      have k42 := k_natMul d37 (hd12.ext (e16.trans (g19.ext.trans (e21.trans (g25.ext.trans e37))))) (hd17.ext (e21.trans (g25.ext.trans e37))) (by omega) (by omega)
      with_reducible refine Post.mono k42 ?_
      clear k42
      rintro _ u40 g41 ⟨x38, rfl, h39⟩
      refine sy_pure 35 (.v (.agg #[.bool i22.s, .slice i22.m.a i22.m.n i22.m.c, .slice x38.a x38.n x38.c])) ?_
      refine sy_call 36 150 [.agg #[.bool i22.s, .slice i22.m.a i22.m.n i22.m.c, .slice x38.a x38.n x38.c]] ?_
      intro w43 u43 e43 d43
      have k48 := k_lowest d43 (h23.ext (e37.trans (g41.ext.trans e43))).raw (h39.ext e43).raw (Nat.mul_pos hp12 hp17) (by omega) (by omega)
      with_reducible refine Post.mono k48 ?_
      clear k48
      rintro _ u46 g47 ⟨r44, rfl, h45⟩
      refine sy_store ⟨26, r44.cs⟩ ty26 ?_
      refine sy_next 37 [(4, .adr 4 0)] [(4, ⟨26, r44.cs⟩)] ?_
      refine sw_ret (ret0 [r44.v] ⟨res_cell ty26 part_agg, trivial⟩ fun u49 e50 => ?_)
      refine ⟨r44, rfl, RatN.more (K := (max (K + L) (K + L))) ?_ (by omega)⟩
      rw [hq12, hq17, ← Nt.mul_mk]
      exact (h45.ext e50)
  · refine sy_eq 21 (x := .v (.bool wh12)) (.v (.bool false)) (by rw [hs27]) ?_
    refine sy_drop 22 (unwanted (g := 2) (b := true) (c := false) (t := 21) (by kernel_rfl) (by kernel_rfl) (by kernel_rfl) (by kernel_rfl)) ?_
    refine sy_drop 23 (unwanted (g := 2) (b := true) (c := false) (t := 21) (by kernel_rfl) (by kernel_rfl) (by kernel_rfl) (by kernel_rfl)) ?_
    refine sy_pure 24 (.v (.bool false)) ?_
    refine sy_next 37 [(4, .adr 4 0), (5, .adr 5 0), (6, .adr 6 0), (7, .adr 7 0), (24, .v (.bool false))] [(4, ⟨26, [.bool false, .slice none 0 0, .slice none 0 0]⟩), (5, ⟨116, r12.cs ++ [.bool wh12]⟩), (6, ⟨116, r17.cs ++ [.bool wh17]⟩), (7, ⟨24, i22.cs⟩)] ?_
    refine sw_false (by kernel_rfl) ?_
    refine sw_skip (mp_seq ?_)
    refine sw_seq ?_
    refine sw_any [0, 0, 2, 6, 0, 16, 48, 126, 255, 511, 1023] [(0, []), (1, []), (2, []), (3, []), (4, []), (5, []), (6, []), (7, []), (8, []), (9, []), (10, [])] (by kernel_rfl) (by kernel_rfl) ?_
    refine sy_ldv 27 (.v (i22.v)) ty24 part_agg ?_
    refine sy_pure 28 (.adr 5 0) ?_
    refine sy_pure 29 (.adr 5 2) ?_
    refine sy_ldv 30 (.v (.slice r12.d.a r12.d.n r12.d.c)) ty22 part_one ?_
    refine sy_pure 31 (.adr 6 0) ?_
    refine sy_pure 32 (.adr 6 2) ?_
    refine sy_ldv 33 (.v (.slice r17.d.a r17.d.n r17.d.c)) ty22 part_one ?_
    refine sy_call 34 155 [.slice r12.d.a r12.d.n r12.d.c, .slice r17.d.a r17.d.n r17.d.c] ?_
    intro w51 u51 e51 d51
    have k56 := k_natMul d51 (hd12.ext (e16.trans (g19.ext.trans (e21.trans (g25.ext.trans e51))))) (hd17.ext (e21.trans (g25.ext.trans e51))) (by omega) (by omega)
    with_reducible refine Post.mono k56 ?_
    clear k56
    rintro _ u54 g55 ⟨x52, rfl, h53⟩
    refine sy_pure 35 (.v (.agg #[.bool i22.s, .slice i22.m.a i22.m.n i22.m.c, .slice x52.a x52.n x52.c])) ?_
    refine sy_call 36 150 [.agg #[.bool i22.s, .slice i22.m.a i22.m.n i22.m.c, .slice x52.a x52.n x52.c]] ?_
    intro w57 u57 e57 d57
    have k62 := k_lowest d57 (h23.ext (e51.trans (g55.ext.trans e57))).raw (h53.ext e57).raw (Nat.mul_pos hp12 hp17) (by omega) (by omega)
    with_reducible refine Post.mono k62 ?_
    clear k62
    rintro _ u60 g61 ⟨r58, rfl, h59⟩
    refine sy_store ⟨26, r58.cs⟩ ty26 ?_
    refine sy_next 37 [(4, .adr 4 0)] [(4, ⟨26, r58.cs⟩)] ?_
    refine sw_ret (ret0 [r58.v] ⟨res_cell ty26 part_agg, trivial⟩ fun u63 e64 => ?_)
    refine ⟨r58, rfl, RatN.more (K := (max (K + L) (K + L))) ?_ (by omega)⟩
    rw [hq12, hq17, ← Nt.mul_mk]
    exact (h59.ext e64)
/-- What a division answers. -/
def DivR (x y : Rat) (K : Nat) (v : Value) (u : World) : Prop := (v = .tuple #[.agg #[.bool false, .slice none 0 0, .slice none 0 0], .int .i64 3] ∧ y = 0) ∨ (y ≠ 0 ∧ ∃ r : RL, v = .tuple #[r.v, .int .i64 0] ∧ RatN u r (x / y) K)
set_option maxHeartbeats 1000000 in
theorem k_ratDiv {u w : World} {r1 : RL} {x : Rat} {K : Nat} {r2 : RL} {y : Rat} {L : Nat} (d : Dat u w) (hr1 : RatV u r1 x K) (hr2 : RatV u r2 y L) (hK : K ≤ 200000000) (hL : L ≤ 200000000) : Calls Tryz.prog 99 #[r1.v, r2.v] w (Post u w fun v u' => DivR x y (K + L) v u') := by
  refine calls_sym (args := [r1.v, r2.v]) Tryz.func99 rfl Tryz.ntmps99 (rs := [.cell 4 26, .tmp 5]) Tryz.results99 (le_b rfl) (le_b rfl) d ?_
  refine sw_seq ?_
  refine sw_reg ?_
  refine sy_new 2 ⟨26, r1.cs⟩ ?_
  refine sy_new 3 ⟨26, r2.cs⟩ ?_
  refine sy_new 4 ⟨26, [.bool false, .slice none 0 0, .slice none 0 0]⟩ ?_
  refine sy_pure 5 (.v (.int .i64 0)) ?_
  refine sy_next 40 [(2, .adr 2 0), (3, .adr 3 0), (4, .adr 4 0)] [(2, ⟨26, r1.cs⟩), (3, ⟨26, r2.cs⟩), (4, ⟨26, [.bool false, .slice none 0 0, .slice none 0 0]⟩)] ?_
  refine sw_seq ?_
  refine sw_any [0, 1, 0, 7, 0, 0, 63, 127] [(0, []), (2, []), (4, []), (5, []), (1, []), (3, []), (6, []), (7, [])] (by kernel_rfl) (by kernel_rfl) ?_
  refine sy_ldv 10 (.v (r1.v)) ty26 part_agg ?_
  refine sy_ldv 12 (.v (r2.v)) ty26 part_agg ?_
  refine sy_new 6 ⟨116, [.bool false, .slice none 0 0, .slice none 0 0, .bool false]⟩ ?_
  refine sy_new 7 ⟨116, [.bool false, .slice none 0 0, .slice none 0 0, .bool false]⟩ ?_
  refine sy_call 11 145 [r1.v] ?_
  intro w11 u11 e11 d11
  have k15 := k_read d11 (hr1.ext e11)
  with_reducible refine Post.mono k15 ?_
  clear k15
  rintro _ u13 g14 ⟨r12, wh12, rfl, z12, D12, hi12, hd12, hp12, hq12, hw12, hk12⟩
  refine sy_call 13 145 [r2.v] ?_
  intro w16 u16 e16 d16
  have k20 := k_read d16 (hr2.ext (e11.trans (g14.ext.trans e16)))
  with_reducible refine Post.mono k20 ?_
  clear k20
  rintro _ u18 g19 ⟨r17, wh17, rfl, z17, D17, hi17, hd17, hp17, hq17, hw17, hk17⟩
  refine sy_store ⟨116, r12.cs ++ [.bool wh12]⟩ ty116 ?_
  refine sy_store ⟨116, r17.cs ++ [.bool wh17]⟩ ty116 ?_
  refine sy_next 40 [(4, .adr 4 0), (6, .adr 6 0), (7, .adr 7 0)] [(4, ⟨26, [.bool false, .slice none 0 0, .slice none 0 0]⟩), (6, ⟨116, r12.cs ++ [.bool wh12]⟩), (7, ⟨116, r17.cs ++ [.bool wh17]⟩)] ?_
  refine sw_seq ?_
  refine sw_seq ?_
  refine sw_reg ?_
  refine sy_pure 14 (.adr 7 0) ?_
  refine sy_pure 15 (.adr 7 0) ?_
  refine sy_ldv 16 (.v (.agg #[.bool r17.s, .slice r17.m.a r17.m.n r17.m.c])) ty24 part_agg ?_
  refine sy_call 17 146 [.agg #[.bool r17.s, .slice r17.m.a r17.m.n r17.m.c]] ?_
  intro w21 u21 e21 d21
  have k24 := k_intSign d21 (hi17.ext e21)
  with_reducible refine Post.mono k24 ?_
  clear k24
  rintro _ u22 g23 rfl
  refine sy_pure 18 (.v (.bool ((Nt.cmpS z17 0) == 0))) ?_
  refine sy_next 40 [(4, .adr 4 0), (6, .adr 6 0), (7, .adr 7 0), (18, .v (.bool ((Nt.cmpS z17 0) == 0)))] [(4, ⟨26, [.bool false, .slice none 0 0, .slice none 0 0]⟩), (6, ⟨116, r12.cs ++ [.bool wh12]⟩), (7, ⟨116, r17.cs ++ [.bool wh17]⟩)] ?_
  refine sw_cond (b := (Nt.cmpS z17 0) == 0) (by kernel_rfl) (fun hb25 => ?_) (fun hb25 => ?_)
  · replace hb25 : ((Nt.cmpS z17 0) == 0) = true := hb25
    refine sw_seq ?_
    refine sw_reg ?_
    refine sy_pure 19 (.v (.agg #[.bool false, .slice none 0 0, .slice none 0 0])) ?_
    refine sy_store ⟨26, [.bool false, .slice none 0 0, .slice none 0 0]⟩ ty26 ?_
    refine sy_pure 5 (.v (.int .i64 3)) ?_
    refine sy_next 40 [(4, .adr 4 0), (5, .v (.int .i64 3))] [(4, ⟨26, [.bool false, .slice none 0 0, .slice none 0 0]⟩)] ?_
    refine sw_ret (mpr_seq (ret0 [.agg #[.bool false, .slice none 0 0, .slice none 0 0], .int .i64 3] ⟨res_cell ty26 part_agg, res_tmp, trivial⟩ fun u26 e27 => ?_))
    left
    exact ⟨rfl, by rw [hq17, Nt.cmp_eq0 hb25, Rat.zero_mkRat]⟩
  · replace hb25 : ((Nt.cmpS z17 0) == 0) = false := hb25
    have hz0 : z17 ≠ 0 := Nt.cmp_ne0 hb25
    have hpp : 0 < ((D12 : Int) * z17 : Int).natAbs := Int.natAbs_pos.2 (Int.mul_ne_zero (by omega) hz0)
    refine sw_skip (mp_seq ?_)
    refine sw_seq ?_
    refine sw_any [0, 1, 3, 0, 8, 24, 56, 127, 0, 511] [(0, []), (1, []), (2, []), (3, []), (4, []), (5, []), (8, []), (6, []), (7, []), (9, [])] (by kernel_rfl) (by kernel_rfl) ?_
    refine sy_pure 20 (.adr 6 0) ?_
    refine sy_pure 21 (.adr 6 0) ?_
    refine sy_ldv 22 (.v (.agg #[.bool r12.s, .slice r12.m.a r12.m.n r12.m.c])) ty24 part_agg ?_
    refine sy_pure 23 (.adr 7 0) ?_
    refine sy_pure 24 (.adr 7 2) ?_
    refine sy_ldv 25 (.v (.slice r17.d.a r17.d.n r17.d.c)) ty22 part_one ?_
    refine sy_new 8 ⟨24, [.bool false, .slice none 0 0]⟩ ?_
    refine sy_call 26 148 [.slice r17.d.a r17.d.n r17.d.c] ?_
    intro w28 u28 e28 d28
    have k31 := k_natural (x := r17.d) d28
    with_reducible refine Post.mono k31 ?_
    clear k31
    rintro _ u29 g30 rfl
    refine sy_call 27 147 [.agg #[.bool r12.s, .slice r12.m.a r12.m.n r12.m.c], .agg #[.bool false, .slice r17.d.a r17.d.n r17.d.c]] ?_
    intro w32 u32 e32 d32
    have k37 := k_intMul d32 (hi12.ext (e16.trans (g19.ext.trans (e21.trans (g23.ext.trans (e28.trans (g30.ext.trans e32))))))) (nat_int (hd17.ext (e21.trans (g23.ext.trans (e28.trans (g30.ext.trans e32)))))) (by omega) (by omega)
    with_reducible refine Post.mono k37 ?_
    clear k37
    rintro _ u35 g36 ⟨i33, rfl, h34⟩
    refine sy_store ⟨24, i33.cs⟩ ty24 ?_
    refine sy_next 40 [(4, .adr 4 0), (6, .adr 6 0), (7, .adr 7 0), (8, .adr 8 0)] [(4, ⟨26, [.bool false, .slice none 0 0, .slice none 0 0]⟩), (6, ⟨116, r12.cs ++ [.bool wh12]⟩), (7, ⟨116, r17.cs ++ [.bool wh17]⟩), (8, ⟨24, i33.cs⟩)] ?_
    refine sw_seq ?_
    refine sw_any [0, 1, 3, 7, 0, 16, 48, 127, 0, 511] [(0, []), (1, []), (2, []), (4, []), (5, []), (6, []), (8, []), (3, []), (7, []), (9, [])] (by kernel_rfl) (by kernel_rfl) ?_
    refine sy_pure 28 (.adr 6 0) ?_
    refine sy_pure 29 (.adr 6 2) ?_
    refine sy_ldv 30 (.v (.slice r12.d.a r12.d.n r12.d.c)) ty22 part_one ?_
    refine sy_pure 32 (.adr 7 0) ?_
    refine sy_pure 33 (.adr 7 0) ?_
    refine sy_ldv 34 (.v (.agg #[.bool r17.s, .slice r17.m.a r17.m.n r17.m.c])) ty24 part_agg ?_
    refine sy_new 9 ⟨24, [.bool false, .slice none 0 0]⟩ ?_
    refine sy_call 31 148 [.slice r12.d.a r12.d.n r12.d.c] ?_
    intro w38 u38 e38 d38
    have k41 := k_natural (x := r12.d) d38
    with_reducible refine Post.mono k41 ?_
    clear k41
    rintro _ u39 g40 rfl
    refine sy_call 35 147 [.agg #[.bool false, .slice r12.d.a r12.d.n r12.d.c], .agg #[.bool r17.s, .slice r17.m.a r17.m.n r17.m.c]] ?_
    intro w42 u42 e42 d42
    have k47 := k_intMul d42 (nat_int (hd12.ext (e16.trans (g19.ext.trans (e21.trans (g23.ext.trans (e28.trans (g30.ext.trans (e32.trans (g36.ext.trans (e38.trans (g40.ext.trans e42)))))))))))) (hi17.ext (e21.trans (g23.ext.trans (e28.trans (g30.ext.trans (e32.trans (g36.ext.trans (e38.trans (g40.ext.trans e42))))))))) (by omega) (by omega)
    with_reducible refine Post.mono k47 ?_
    clear k47
    rintro _ u45 g46 ⟨i43, rfl, h44⟩
    refine sy_store ⟨24, i43.cs⟩ ty24 ?_
    refine sy_next 40 [(4, .adr 4 0), (8, .adr 8 0), (9, .adr 9 0)] [(4, ⟨26, [.bool false, .slice none 0 0, .slice none 0 0]⟩), (8, ⟨24, i33.cs⟩), (9, ⟨24, i43.cs⟩)] ?_
    refine sw_seq ?_
    refine sw_reg ?_
    refine sy_ldv 36 (.v (i33.v)) ty24 part_agg ?_
    refine sy_ldv 37 (.v (i43.v)) ty24 part_agg ?_
    refine sy_call 38 149 [i33.v, i43.v] ?_
    intro w48 u48 e48 d48
    have k51 := k_quotient (i := i33) (j := i43) d48
    with_reducible refine Post.mono k51 ?_
    clear k51
    rintro _ u49 g50 rfl
    refine sy_call 39 150 [.agg #[.bool (!(i33.s == i43.s)), .slice i33.m.a i33.m.n i33.m.c, .slice i43.m.a i43.m.n i43.m.c]] ?_
    intro w52 u52 e52 d52
    have k57 := k_lowest d52 ((quot_int (h34.ext (e38.trans (g40.ext.trans (e42.trans (g46.ext.trans (e48.trans g50.ext)))))) (h44.ext (e48.trans g50.ext))).ext e52) ((int_mag (h44.ext (e48.trans g50.ext))).ext e52).raw hpp (by omega) (by omega)
    with_reducible refine Post.mono k57 ?_
    clear k57
    rintro _ u55 g56 ⟨r53, rfl, h54⟩
    refine sy_store ⟨26, r53.cs⟩ ty26 ?_
    refine sy_pure 5 (.v (.int .i64 0)) ?_
    refine sy_next 40 [(4, .adr 4 0), (5, .v (.int .i64 0))] [(4, ⟨26, r53.cs⟩)] ?_
    refine sw_ret (ret0 [r53.v, .int .i64 0] ⟨res_cell ty26 part_agg, res_tmp, trivial⟩ fun u58 e59 => ?_)
    right
    refine ⟨?_, r53, rfl, RatN.more (K := (max (K + L) (K + L))) ?_ (by omega)⟩
    · rw [hq17]; exact (Rat.mkRat_ne_zero (by omega)).2 hz0
    · rw [hq12, hq17, ← Nt.quo_mk hp12 hp17 hz0, ← Nt.div_mk2 (by omega)]
      exact (h54.ext e59)
end Go.Proofs.YtnedhbidmfoegaaGreat
namespace Go.Proofs.YtnedhbidmfoegaaGreat
open Go.RowKit
set_option linter.unusedVariables false
theorem k_ratDiv1 {u w : World} {r1 r2 : RL} {x y : Rat} {K L : Nat} (d : Dat u w) (hr1 : RatV u r1 x K) (hr2 : RatV u r2 y L) (hy : y ≠ 0) (hK : K ≤ 200000000) (hL : L ≤ 200000000) : Calls Tryz.prog 99 #[r1.v, r2.v] w (Post u w fun v u' => ∃ r : RL, v = .tuple #[r.v, .int .i64 0] ∧ RatN u' r (x / y) (K + L)) :=
  Post.mono (k_ratDiv d hr1 hr2 hK hL) fun v u' _ h => h.elim (fun h => absurd h.2 hy) (fun h => h.2)
end Go.Proofs.YtnedhbidmfoegaaGreat
namespace Go.Proofs.YtnedhbidmfoegaaGreat
open Go.RowKit
set_option linter.unusedVariables false
theorem mod_pos (m : Int) (hm : 1 ≤ m) (n : Int) (h : decide (Int.tmod n m < 0) = false) : Int.tmod n m = n % m := by
  have h := of_decide_eq_false h
  rcases Int.lt_or_le n 0 with hn | hn
  · have e := Int.tmod_add_mul_tdiv n m
    have h2 : -m < Int.tmod n m := Int.lt_tmod_of_pos n (by omega)
    have h3 : Int.tmod n m ≤ 0 := by
      have h8 := Int.neg_tmod n m
      have h9 : Int.tmod (-n) m = (-n) % m := Int.tmod_eq_emod_of_nonneg (by omega)
      have h10 := Int.emod_nonneg (-n) (show m ≠ 0 by omega)
      omega
    have h4 : Int.tmod n m = 0 := by omega
    rw [h4] at e ⊢
    have : m ∣ n := ⟨n.tdiv m, by omega⟩
    exact (Int.emod_eq_zero_of_dvd this).symm
  · exact Int.tmod_eq_emod_of_nonneg hn
theorem mod_neg (m : Int) (hm : 1 ≤ m) (n : Int) (h : decide (Int.tmod n m < 0) = true) : Int.tmod n m + m = n % m := by
  have h := of_decide_eq_true h
  have e := Int.tmod_add_mul_tdiv n m
  have h2 : -m < Int.tmod n m := Int.lt_tmod_of_pos n (by omega)
  have h5 : n = m * (n.tdiv m - 1) + (Int.tmod n m + m) := by rw [Int.mul_sub, Int.mul_one]; omega
  have := (Nt.ediv_uniq (z := n) (y := m) (q := n.tdiv m - 1) (r := Int.tmod n m + m) (by omega) h5 (by omega) (by omega)).2
  exact this.symm
theorem k_Mod {u w : World} {n m : Int} (d : Dat u w) (hm : 1 ≤ m) (hm2 : m ≤ 4611686018427387904) (hn0 : -9223372036854775808 ≤ n) (hn1 : n ≤ 9223372036854775807) : Calls Tryz.prog 50 #[.int .i64 n, .int .i64 m] w (Post u w fun v _ => v = .int .i64 (n % m)) := by
  refine calls_sym (args := [.int .i64 n, .int .i64 m]) Tryz.func50 rfl Tryz.ntmps50 (rs := [.tmp 4]) Tryz.results50 (le_b rfl) (le_b rfl) d ?_
  refine sw_seq ?_
  refine sw_reg ?_
  refine sy_pure 4 (.v (.int .i64 0)) ?_
  refine sy_next 16 [(0, .v (.int .i64 n)), (1, .v (.int .i64 m))] [] ?_
  refine sw_seq ?_
  refine sw_seq ?_
  refine sw_reg ?_
  refine sy_pure 5 (.v (.int .i64 m)) ?_
  refine sy_eq 6 (x := .v (.bool (decide (m < 1)))) (.v (.bool false)) (by rw [show (decide (m < 1)) = false from (by simp; omega)]) ?_
  refine sy_next 16 [(0, .v (.int .i64 n)), (1, .v (.int .i64 m)), (6, .v (.bool false))] [] ?_
  refine sw_false (by kernel_rfl) ?_
  refine sw_skip (mp_seq ?_)
  refine sw_seq ?_
  refine sw_reg ?_
  refine sy_pure 7 (.v (.int .i64 n)) ?_
  refine sy_pure 8 (.v (.int .i64 m)) ?_
  refine sy_rem 9 (Int.tmod n m) (by omega) rfl ?_
  refine sy_pure 0 (.v (.int .i64 (Int.tmod n m))) ?_
  refine sy_next 16 [(0, .v (.int .i64 (Int.tmod n m))), (1, .v (.int .i64 m))] [] ?_
  refine sw_seq ?_
  refine sw_seq ?_
  refine sw_reg ?_
  refine sy_pure 10 (.v (.int .i64 (Int.tmod n m))) ?_
  refine sy_pure 11 (.v (.bool (decide ((Int.tmod n m) < 0)))) ?_
  refine sy_next 16 [(0, .v (.int .i64 (Int.tmod n m))), (1, .v (.int .i64 m)), (11, .v (.bool (decide ((Int.tmod n m) < 0))))] [] ?_
  refine sw_cond (b := decide ((Int.tmod n m) < 0)) (by kernel_rfl) (fun hb11 => ?_) (fun hb11 => ?_)
  · replace hb11 : (decide ((Int.tmod n m) < 0)) = true := hb11
    have qhb11 := of_decide_eq_true hb11
    refine sw_reg ?_
    refine sy_pure 12 (.v (.int .i64 (Int.tmod n m))) ?_
    refine sy_pure 13 (.v (.int .i64 m)) ?_
    refine sy_eq 14 (x := .v (.int .i64 (IntKind.i64.wrap (Int.tmod n m + m)))) (.v (.int .i64 (Int.tmod n m + m))) (by rw [show (IntKind.i64.wrap (Int.tmod n m + m)) = (Int.tmod n m + m) from (IntWalk.i64_in _ (by have h2 := Int.lt_tmod_of_pos n (show 0 < m by omega); have h3 := Int.tmod_lt_of_pos n (show 0 < m by omega); omega))]) ?_
    refine sy_pure 0 (.v (.int .i64 (Int.tmod n m + m))) ?_
    refine sy_next 16 [(0, .v (.int .i64 (Int.tmod n m + m)))] [] ?_
    refine sw_seq ?_
    refine sw_reg ?_
    refine sy_pure 15 (.v (.int .i64 (Int.tmod n m + m))) ?_
    refine sy_pure 4 (.v (.int .i64 (Int.tmod n m + m))) ?_
    refine sy_next 16 [(4, .v (.int .i64 (Int.tmod n m + m)))] [] ?_
    refine sw_ret (ret0 [.int .i64 (Int.tmod n m + m)] ⟨res_tmp, trivial⟩ fun u12 e13 => ?_)
    show Value.int _ _ = Value.int _ _
    rw [mod_neg m hm n hb11]
  · replace hb11 : (decide ((Int.tmod n m) < 0)) = false := hb11
    have qhb11 := of_decide_eq_false hb11
    refine sw_skip (mp_seq ?_)
    refine sw_seq ?_
    refine sw_reg ?_
    refine sy_pure 15 (.v (.int .i64 (Int.tmod n m))) ?_
    refine sy_pure 4 (.v (.int .i64 (Int.tmod n m))) ?_
    refine sy_next 16 [(4, .v (.int .i64 (Int.tmod n m)))] [] ?_
    refine sw_ret (ret0 [.int .i64 (Int.tmod n m)] ⟨res_tmp, trivial⟩ fun u14 e15 => ?_)
    show Value.int _ _ = Value.int _ _
    rw [mod_pos m hm n hb11]
end Go.Proofs.YtnedhbidmfoegaaGreat
