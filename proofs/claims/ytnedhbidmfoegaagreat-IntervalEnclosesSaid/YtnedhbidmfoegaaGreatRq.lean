/- Contracts of the reference of rational. Printed by wip/sym/g_rq.py. -/
import Derived.Test.YtnedhbidmfoegaaGreatRr
namespace Go.Proofs.YtnedhbidmfoegaaGreat
open Go.RowKit
set_option linter.unusedVariables false
set_option maxHeartbeats 2000000 in
theorem k_reduce {u w : World} {i1 i2 : IL} {z y : Int} {K L : Nat} (d : Dat u w) (hi1 : IntV u i1 z K) (hi2 : IntV u i2 y L) (hK : K ≤ 400000000) (hL : L ≤ 400000000) : Calls Tryz.prog 106 #[i1.v, i2.v] w (Post u w fun v u' => ∃ r : RL, v = r.v ∧ RatN u' r ((z : Rat) / (y : Rat)) (max K L + 1)) := by
  refine calls_sym (args := [i1.v, i2.v]) Tryz.func106 rfl Tryz.ntmps106 (rs := [.cell 4 26]) Tryz.results106 (le_b rfl) (le_b rfl) d ?_
  refine sw_seq ?_
  refine sw_reg ?_
  refine sy_new 2 ⟨24, i1.cs⟩ ?_
  refine sy_new 3 ⟨24, i2.cs⟩ ?_
  refine sy_new 4 ⟨26, [.bool false, .slice none 0 0, .slice none 0 0]⟩ ?_
  refine sy_next 47 [(2, .adr 2 0), (3, .adr 3 0), (4, .adr 4 0)] [(2, ⟨24, i1.cs⟩), (3, ⟨24, i2.cs⟩), (4, ⟨26, [.bool false, .slice none 0 0, .slice none 0 0]⟩)] ?_
  refine sw_seq ?_
  refine sw_seq ?_
  refine sw_reg ?_
  refine sy_ldv 12 (.v (i1.v)) ty24 part_agg ?_
  refine sy_call 13 125 [i1.v] ?_
  intro w11 u11 e11 d11
  have k14 := k_riSign d11 (hi1.ext e11) (by omega)
  with_reducible refine Post.mono k14 ?_
  clear k14
  rintro _ u12 g13 rfl
  refine sy_pure 14 (.v (.bool ((Nt.cmpS z 0) == 0))) ?_
  rcases Bool.eq_false_or_eq_true ((Nt.cmpS z 0) == 0) with hs15 | hs15
  · refine sy_eq 15 (x := .v (.bool ((Nt.cmpS z 0) == 0))) (.v (.bool true)) (by rw [hs15]) ?_
    have hz0 : z = 0 := Nt.cmp_eq0 hs15
    refine sy_drop 16 (unwanted (g := 3) (b := false) (c := true) (t := 15) (by kernel_rfl) (by kernel_rfl) (by kernel_rfl) (by kernel_rfl)) ?_
    refine sy_drop 17 (unwanted (g := 3) (b := false) (c := true) (t := 15) (by kernel_rfl) (by kernel_rfl) (by kernel_rfl) (by kernel_rfl)) ?_
    refine sy_drop 18 (unwanted (g := 3) (b := false) (c := true) (t := 15) (by kernel_rfl) (by kernel_rfl) (by kernel_rfl) (by kernel_rfl)) ?_
    refine sy_pure 19 (.v (.bool true)) ?_
    refine sy_next 47 [(2, .adr 2 0), (3, .adr 3 0), (4, .adr 4 0), (19, .v (.bool true))] [(2, ⟨24, i1.cs⟩), (3, ⟨24, i2.cs⟩), (4, ⟨26, [.bool false, .slice none 0 0, .slice none 0 0]⟩)] ?_
    refine sw_true (by kernel_rfl) ?_
    refine sw_seq ?_
    refine sw_reg ?_
    refine sy_data 20 ⟨105, [.int .u32 1]⟩ 1 (fun b16 u17 e18 h19 => ?_)
    refine sy_pure 21 (.v (.agg #[.bool false, .slice none 0 0, .slice (some ⟨b16, 0, none⟩) 1 1])) ?_
    refine sy_store ⟨26, [.bool false, .slice none 0 0, .slice (some ⟨b16, 0, none⟩) 1 1]⟩ ty26 ?_
    refine sy_next 47 [(4, .adr 4 0)] [(4, ⟨26, [.bool false, .slice none 0 0, .slice (some ⟨b16, 0, none⟩) 1 1]⟩)] ?_
    refine sw_ret (mpr_seq (ret0 [.agg #[.bool false, .slice none 0 0, .slice (some ⟨b16, 0, none⟩) 1 1]] ⟨res_cell ty26 part_agg, trivial⟩ fun u20 e21 => ?_))
    refine ⟨(⟨false, ⟨none, 0, 0⟩, (⟨some ⟨b16, 0, none⟩, 1, 1⟩ : Sl)⟩ : RL), rfl, ?_⟩
    have h9 : (z : Rat) / (y : Rat) = ((0 : Int) : Rat) := by rw [hz0]; simp [Rat.div_def]
    rw [h9]
    exact RatN.more (whole_rat (int_zero _ 1) ((one_data h19).ext e21)) (by omega)
  · refine sy_eq 15 (x := .v (.bool ((Nt.cmpS z 0) == 0))) (.v (.bool false)) (by rw [hs15]) ?_
    have hz0 : z ≠ 0 := Nt.cmp_ne0 hs15
    refine sy_ldv 16 (.v (i2.v)) ty24 part_agg ?_ (hw := wants1 (g := 3) (b := false) (t := 15) (by kernel_rfl) (by kernel_rfl) (by kernel_rfl))
    refine sy_call 17 125 [i2.v] ?_ (hw := wants1 (g := 3) (b := false) (t := 15) (by kernel_rfl) (by kernel_rfl) (by kernel_rfl))
    intro w22 u22 e22 d22
    have k25 := k_riSign d22 (hi2.ext (e11.trans (g13.ext.trans e22))) (by omega)
    with_reducible refine Post.mono k25 ?_
    clear k25
    rintro _ u23 g24 rfl
    refine sy_pure 18 (.v (.bool ((Nt.cmpS y 0) == 0))) ?_ (hw := wants1 (g := 3) (b := false) (t := 15) (by kernel_rfl) (by kernel_rfl) (by kernel_rfl))
    refine sy_pure 19 (.v (.bool ((Nt.cmpS y 0) == 0))) ?_
    refine sy_next 47 [(2, .adr 2 0), (3, .adr 3 0), (4, .adr 4 0), (19, .v (.bool ((Nt.cmpS y 0) == 0)))] [(2, ⟨24, i1.cs⟩), (3, ⟨24, i2.cs⟩), (4, ⟨26, [.bool false, .slice none 0 0, .slice none 0 0]⟩)] ?_
    refine sw_cond (b := (Nt.cmpS y 0) == 0) (by kernel_rfl) (fun hb26 => ?_) (fun hb26 => ?_)
    · replace hb26 : ((Nt.cmpS y 0) == 0) = true := hb26
      have hy0 : y = 0 := Nt.cmp_eq0 hb26
      refine sw_seq ?_
      refine sw_reg ?_
      refine sy_data 20 ⟨105, [.int .u32 1]⟩ 1 (fun b27 u28 e29 h30 => ?_)
      refine sy_pure 21 (.v (.agg #[.bool false, .slice none 0 0, .slice (some ⟨b27, 0, none⟩) 1 1])) ?_
      refine sy_store ⟨26, [.bool false, .slice none 0 0, .slice (some ⟨b27, 0, none⟩) 1 1]⟩ ty26 ?_
      refine sy_next 47 [(4, .adr 4 0)] [(4, ⟨26, [.bool false, .slice none 0 0, .slice (some ⟨b27, 0, none⟩) 1 1]⟩)] ?_
      refine sw_ret (mpr_seq (ret0 [.agg #[.bool false, .slice none 0 0, .slice (some ⟨b27, 0, none⟩) 1 1]] ⟨res_cell ty26 part_agg, trivial⟩ fun u31 e32 => ?_))
      refine ⟨(⟨false, ⟨none, 0, 0⟩, (⟨some ⟨b27, 0, none⟩, 1, 1⟩ : Sl)⟩ : RL), rfl, ?_⟩
      have h9 : (z : Rat) / (y : Rat) = ((0 : Int) : Rat) := by rw [hy0]; simp [Rat.div_def]
      rw [h9]
      exact RatN.more (whole_rat (int_zero _ 1) ((one_data h30).ext e32)) (by omega)
    · replace hb26 : ((Nt.cmpS y 0) == 0) = false := hb26
      have hy0 : y ≠ 0 := Nt.cmp_ne0 hb26
      have hg0 : ((Nat.gcd z.natAbs y.natAbs : Nat) : Int) ≠ 0 := by have h9 := Nat.gcd_pos_of_pos_right z.natAbs (Int.natAbs_pos.2 hy0); omega
      refine sw_skip (mp_seq ?_)
      refine sw_seq ?_
      refine sw_reg ?_
      refine sy_ldv 22 (.v (i1.v)) ty24 part_agg ?_
      refine sy_ldv 23 (.v (i2.v)) ty24 part_agg ?_
      refine sy_call 24 157 [i1.v, i2.v] ?_
      intro w33 u33 e33 d33
      have k38 := k_riGcd d33 (hi1.ext (e11.trans (g13.ext.trans (e22.trans (g24.ext.trans e33))))) (hi2.ext (e11.trans (g13.ext.trans (e22.trans (g24.ext.trans e33))))) (by omega) (by omega)
      with_reducible refine Post.mono k38 ?_
      clear k38
      rintro _ u36 g37 ⟨i34, rfl, h35⟩
      refine sy_new 5 ⟨24, [.bool false, .slice none 0 0]⟩ ?_
      refine sy_store ⟨24, i34.cs⟩ ty24 ?_
      refine sy_next 47 [(2, .adr 2 0), (3, .adr 3 0), (4, .adr 4 0), (5, .adr 5 0)] [(2, ⟨24, i1.cs⟩), (3, ⟨24, i2.cs⟩), (4, ⟨26, [.bool false, .slice none 0 0, .slice none 0 0]⟩), (5, ⟨24, i34.cs⟩)] ?_
      refine sw_seq ?_
      refine sw_reg ?_
      refine sy_ldv 26 (.v (i1.v)) ty24 part_agg ?_
      refine sy_ldv 27 (.v (i34.v)) ty24 part_agg ?_
      refine sy_call 28 158 [i1.v, i34.v] ?_
      intro w39 u39 e39 d39
      have k46 := k_riDiv d39 (hi1.ext (e11.trans (g13.ext.trans (e22.trans (g24.ext.trans (e33.trans (g37.ext.trans e39))))))) (h35.ext e39).raw hg0 (by omega) (by omega)
      with_reducible refine Post.mono k46 ?_
      clear k46
      rintro _ u44 g45 ⟨i40, i42, rfl, h41, h43⟩
      refine sy_pure 25 (.v (.tuple #[i40.v, i42.v, .int .i64 0])) ?_
      refine sy_pure 29 (.v (i40.v)) ?_
      refine sy_pure 30 (.v (i42.v)) ?_
      refine sy_pure 31 (.v (.int .i64 0)) ?_
      refine sy_new 6 ⟨24, [.bool false, .slice none 0 0]⟩ ?_
      refine sy_new 7 ⟨24, [.bool false, .slice none 0 0]⟩ ?_
      refine sy_store ⟨24, i40.cs⟩ ty24 ?_
      refine sy_store ⟨24, i42.cs⟩ ty24 ?_
      refine sy_pure 8 (.v (.int .i64 0)) ?_
      refine sy_next 47 [(3, .adr 3 0), (4, .adr 4 0), (5, .adr 5 0), (6, .adr 6 0)] [(3, ⟨24, i2.cs⟩), (4, ⟨26, [.bool false, .slice none 0 0, .slice none 0 0]⟩), (5, ⟨24, i34.cs⟩), (6, ⟨24, i40.cs⟩)] ?_
      refine sw_seq ?_
      refine sw_reg ?_
      refine sy_ldv 33 (.v (i2.v)) ty24 part_agg ?_
      refine sy_ldv 34 (.v (i34.v)) ty24 part_agg ?_
      refine sy_call 35 158 [i2.v, i34.v] ?_
      intro w47 u47 e47 d47
      have k54 := k_riDiv d47 (hi2.ext (e11.trans (g13.ext.trans (e22.trans (g24.ext.trans (e33.trans (g37.ext.trans (e39.trans (g45.ext.trans e47))))))))) (h35.ext (e39.trans (g45.ext.trans e47))).raw hg0 (by omega) (by omega)
      with_reducible refine Post.mono k54 ?_
      clear k54
      rintro _ u52 g53 ⟨i48, i50, rfl, h49, h51⟩
      refine sy_pure 32 (.v (.tuple #[i48.v, i50.v, .int .i64 0])) ?_
      refine sy_pure 36 (.v (i48.v)) ?_
      refine sy_pure 37 (.v (i50.v)) ?_
      refine sy_pure 38 (.v (.int .i64 0)) ?_
      refine sy_new 9 ⟨24, [.bool false, .slice none 0 0]⟩ ?_
      refine sy_new 10 ⟨24, [.bool false, .slice none 0 0]⟩ ?_
      refine sy_store ⟨24, i48.cs⟩ ty24 ?_
      refine sy_store ⟨24, i50.cs⟩ ty24 ?_
      refine sy_pure 11 (.v (.int .i64 0)) ?_
      refine sy_next 47 [(4, .adr 4 0), (6, .adr 6 0), (9, .adr 9 0)] [(4, ⟨26, [.bool false, .slice none 0 0, .slice none 0 0]⟩), (6, ⟨24, i40.cs⟩), (9, ⟨24, i48.cs⟩)] ?_
      refine sw_seq ?_
      refine sw_seq ?_
      refine sw_reg ?_
      refine sy_pure 39 (.adr 9 0) ?_
      refine sy_ldv 40 (.v (.bool i48.s)) ty4 part_one ?_
      refine sy_next 47 [(4, .adr 4 0), (6, .adr 6 0), (9, .adr 9 0), (40, .v (.bool i48.s))] [(4, ⟨26, [.bool false, .slice none 0 0, .slice none 0 0]⟩), (6, ⟨24, i40.cs⟩), (9, ⟨24, i48.cs⟩)] ?_
      refine sw_cond (b := i48.s) (by kernel_rfl) (fun hb55 => ?_) (fun hb55 => ?_)
      · replace hb55 : i48.s = true := hb55
        refine sw_reg ?_
        refine sy_ldv 41 (.v (i40.v)) ty24 part_agg ?_
        refine sy_call 42 159 [i40.v] ?_
        intro w56 u56 e56 d56
        have k61 := k_riNeg d56 (h41.ext (e47.trans (g53.ext.trans e56))).raw (by omega)
        with_reducible refine Post.mono k61 ?_
        clear k61
        rintro _ u59 g60 ⟨i57, rfl, h58⟩
        refine sy_store ⟨24, i57.cs⟩ ty24 ?_
        refine sy_next 47 [(4, .adr 4 0), (6, .adr 6 0), (9, .adr 9 0)] [(4, ⟨26, [.bool false, .slice none 0 0, .slice none 0 0]⟩), (6, ⟨24, i57.cs⟩), (9, ⟨24, i48.cs⟩)] ?_
        refine sw_seq ?_
        refine sw_reg ?_
        refine sy_ldv 43 (.v (i57.v)) ty24 part_agg ?_
        refine sy_pure 44 (.adr 9 1) ?_
        refine sy_ldv 45 (.v (.slice i48.m.a i48.m.n i48.m.c)) ty22 part_one ?_
        refine sy_pure 46 (.v (.agg #[.bool i57.s, .slice i57.m.a i57.m.n i57.m.c, .slice i48.m.a i48.m.n i48.m.c])) ?_
        refine sy_store ⟨26, i57.cs ++ [.slice i48.m.a i48.m.n i48.m.c]⟩ ty26 ?_
        refine sy_next 47 [(4, .adr 4 0)] [(4, ⟨26, i57.cs ++ [.slice i48.m.a i48.m.n i48.m.c]⟩)] ?_
        refine sw_ret (ret0 [.agg #[.bool i57.s, .slice i57.m.a i57.m.n i57.m.c, .slice i48.m.a i48.m.n i48.m.c]] ⟨res_cell ty26 part_agg, trivial⟩ fun u62 e63 => ?_)
        refine ⟨(⟨i57.s, i57.m, i48.m⟩ : RL), rfl, RatN.more (red_neg hy0 rfl (h58.ext e63) h49 hb55 ((int_mag h49).ext (e56.trans (g60.ext.trans e63)))) (by omega)⟩
      · replace hb55 : i48.s = false := hb55
        refine sw_skip (mp_seq ?_)
        refine sw_seq ?_
        refine sw_reg ?_
        refine sy_ldv 43 (.v (i40.v)) ty24 part_agg ?_
        refine sy_pure 44 (.adr 9 1) ?_
        refine sy_ldv 45 (.v (.slice i48.m.a i48.m.n i48.m.c)) ty22 part_one ?_
        refine sy_pure 46 (.v (.agg #[.bool i40.s, .slice i40.m.a i40.m.n i40.m.c, .slice i48.m.a i48.m.n i48.m.c])) ?_
        refine sy_store ⟨26, i40.cs ++ [.slice i48.m.a i48.m.n i48.m.c]⟩ ty26 ?_
        refine sy_next 47 [(4, .adr 4 0)] [(4, ⟨26, i40.cs ++ [.slice i48.m.a i48.m.n i48.m.c]⟩)] ?_
        refine sw_ret (ret0 [.agg #[.bool i40.s, .slice i40.m.a i40.m.n i40.m.c, .slice i48.m.a i48.m.n i48.m.c]] ⟨res_cell ty26 part_agg, trivial⟩ fun u64 e65 => ?_)
        refine ⟨(⟨i40.s, i40.m, i48.m⟩ : RL), rfl, RatN.more (red_pos hy0 rfl (h41.ext (e47.trans (g53.ext.trans e65))) h49 hb55 ((int_mag h49).ext e65)) (by omega)⟩
theorem k_parts {u w : World} {r : RL} {q : Rat} {K : Nat} (d : Dat u w) (h : RatV u r q K) (hKK : K ≤ 400000000) : Calls Tryz.prog 105 #[r.v] w (Post u w (PartV q K)) := by
  obtain ⟨⟨z, D, hi, hd, hq⟩, hK⟩ := h
  change IntV u ⟨r.s, r.m⟩ z K at hi
  change NatV u r.d D K at hd
  refine calls_sym (args := [r.v]) Tryz.func105 rfl Tryz.ntmps105 (rs := [.cell 2 24, .cell 3 24]) Tryz.results105 (le_b rfl) (le_b rfl) d ?_
  refine sw_seq ?_
  refine sw_reg ?_
  refine sy_new 1 ⟨26, r.cs⟩ ?_
  refine sy_new 2 ⟨24, [.bool false, .slice none 0 0]⟩ ?_
  refine sy_new 3 ⟨24, [.bool false, .slice none 0 0]⟩ ?_
  refine sy_next 19 [(1, .adr 1 0), (2, .adr 2 0), (3, .adr 3 0)] [(1, ⟨26, r.cs⟩), (2, ⟨24, [.bool false, .slice none 0 0]⟩), (3, ⟨24, [.bool false, .slice none 0 0]⟩)] ?_
  refine sw_seq ?_
  refine sw_reg ?_
  refine sy_pure 5 (.adr 1 2) ?_
  refine sy_ldv 6 (.v (.slice r.d.a r.d.n r.d.c)) ty22 part_one ?_
  refine sy_call 7 156 [.slice r.d.a r.d.n r.d.c] ?_
  intro w11 u11 e11 d11
  have k16 := k_rnTrim d11 (hd.ext e11) (by omega)
  with_reducible refine Post.mono k16 ?_
  clear k16
  rintro _ u14 g15 ⟨x12, rfl, h13⟩
  refine sy_pure 8 (.v (.agg #[.bool false, .slice x12.a x12.n x12.c])) ?_
  refine sy_new 4 ⟨24, [.bool false, .slice none 0 0]⟩ ?_
  refine sy_store ⟨24, [.bool false, .slice x12.a x12.n x12.c]⟩ ty24 ?_
  refine sy_next 19 [(1, .adr 1 0), (2, .adr 2 0), (3, .adr 3 0), (4, .adr 4 0)] [(1, ⟨26, r.cs⟩), (2, ⟨24, [.bool false, .slice none 0 0]⟩), (3, ⟨24, [.bool false, .slice none 0 0]⟩), (4, ⟨24, [.bool false, .slice x12.a x12.n x12.c]⟩)] ?_
  refine sw_seq ?_
  refine sw_seq ?_
  refine sw_reg ?_
  refine sy_pure 9 (.adr 4 1) ?_
  refine sy_ldv 10 (.v (.slice x12.a x12.n x12.c)) ty22 part_one ?_
  refine sy_pure 11 (.v (.int .i64 (x12.n : Int))) ?_
  refine sy_pure 12 (.v (.bool ((x12.n : Int) == 0))) ?_
  refine sy_next 19 [(1, .adr 1 0), (2, .adr 2 0), (3, .adr 3 0), (4, .adr 4 0), (12, .v (.bool ((x12.n : Int) == 0)))] [(1, ⟨26, r.cs⟩), (2, ⟨24, [.bool false, .slice none 0 0]⟩), (3, ⟨24, [.bool false, .slice none 0 0]⟩), (4, ⟨24, [.bool false, .slice x12.a x12.n x12.c]⟩)] ?_
  refine sw_cond (b := (x12.n : Int) == 0) (by kernel_rfl) (fun hb17 => ?_) (fun hb17 => ?_)
  · replace hb17 : ((x12.n : Int) == 0) = true := hb17
    refine sw_seq ?_
    refine sw_reg ?_
    refine sy_pure 13 (.v (.agg #[.bool false, .slice none 0 0])) ?_
    refine sy_data 14 ⟨105, [.int .u32 1]⟩ 1 (fun b18 u19 e20 h21 => ?_)
    refine sy_pure 15 (.v (.agg #[.bool false, .slice (some ⟨b18, 0, none⟩) 1 1])) ?_
    refine sy_store ⟨24, [.bool false, .slice none 0 0]⟩ ty24 ?_
    refine sy_store ⟨24, [.bool false, .slice (some ⟨b18, 0, none⟩) 1 1]⟩ ty24 ?_
    refine sy_next 19 [(2, .adr 2 0), (3, .adr 3 0)] [(2, ⟨24, [.bool false, .slice none 0 0]⟩), (3, ⟨24, [.bool false, .slice (some ⟨b18, 0, none⟩) 1 1]⟩)] ?_
    refine sw_ret (mpr_seq (ret0 [.agg #[.bool false, .slice none 0 0], .agg #[.bool false, .slice (some ⟨b18, 0, none⟩) 1 1]] ⟨res_cell ty24 part_agg, res_cell ty24 part_agg, trivial⟩ fun u22 e23 => ?_))
    have hp := h13.pos
    have hD : D = 0 := by simp at hb17; omega
    exact ⟨⟨false, ⟨none, 0, 0⟩⟩, ⟨false, (⟨some ⟨b18, 0, none⟩, 1, 1⟩ : Sl)⟩, 0, 1, rfl, (int_zero _ K).raw, nat_intN (((one_data h21).ext e23).more hK), by omega, by rw [hq, hD]; simp, hK⟩
  · replace hb17 : ((x12.n : Int) == 0) = false := hb17
    refine sw_skip (mp_seq ?_)
    refine sw_seq ?_
    refine sw_any [0, 1, 0, 3, 15] [(0, []), (1, []), (2, []), (3, [4]), (4, [])] (by kernel_rfl) (by kernel_rfl) ?_
    refine sy_pure 16 (.adr 1 0) ?_
    refine sy_ldv 17 (.v (.agg #[.bool r.s, .slice r.m.a r.m.n r.m.c])) ty24 part_agg ?_
    refine sy_ldv 18 (.v (.agg #[.bool false, .slice x12.a x12.n x12.c])) ty24 part_agg ?_
    refine sy_store ⟨24, [.bool r.s, .slice r.m.a r.m.n r.m.c]⟩ ty24 ?_
    refine sy_store ⟨24, [.bool false, .slice x12.a x12.n x12.c]⟩ ty24 ?_
    refine sy_next 19 [(2, .adr 2 0), (3, .adr 3 0)] [(2, ⟨24, [.bool r.s, .slice r.m.a r.m.n r.m.c]⟩), (3, ⟨24, [.bool false, .slice x12.a x12.n x12.c]⟩)] ?_
    refine sw_ret (ret0 [.agg #[.bool r.s, .slice r.m.a r.m.n r.m.c], .agg #[.bool false, .slice x12.a x12.n x12.c]] ⟨res_cell ty24 part_agg, res_cell ty24 part_agg, trivial⟩ fun u24 e25 => ?_)
    have hp := h13.pos
    exact ⟨⟨r.s, r.m⟩, ⟨false, x12⟩, z, D, rfl, (hi.ext (e11.trans (g15.ext.trans e25))), nat_intN (h13.ext e25), by simp at hb17; omega, hq, hK⟩
theorem k_rqTrim {u w : World} {r1 : RL} {x : Rat} {K : Nat} (d : Dat u w) (hr1 : RatV u r1 x K) (hK : K ≤ 100000000) : Calls Tryz.prog 142 #[r1.v] w (Post u w fun v u' => ∃ r : RL, v = r.v ∧ RatN u' r x K) := by
  refine calls_sym (args := [r1.v]) Tryz.func142 rfl Tryz.ntmps142 (rs := [.cell 2 26]) Tryz.results142 (le_b rfl) (le_b rfl) d ?_
  refine sw_seq ?_
  refine sw_reg ?_
  refine sy_new 1 ⟨26, r1.cs⟩ ?_
  refine sy_new 2 ⟨26, [.bool false, .slice none 0 0, .slice none 0 0]⟩ ?_
  refine sy_next 13 [(1, .adr 1 0), (2, .adr 2 0)] [(1, ⟨26, r1.cs⟩), (2, ⟨26, [.bool false, .slice none 0 0, .slice none 0 0]⟩)] ?_
  refine sw_seq ?_
  refine sw_reg ?_
  refine sy_ldv 6 (.v (r1.v)) ty26 part_agg ?_
  refine sy_call 7 105 [r1.v] ?_
  intro w11 u11 e11 d11
  have k15 := k_parts d11 (hr1.ext e11) (by omega)
  with_reducible refine Post.mono k15 ?_
  clear k15
  rintro _ u13 g14 ⟨i12, j12, z12, D12, rfl, hi12, hj12, hp12, hq12, hk12⟩
  refine sy_pure 5 (.v (.tuple #[i12.v, j12.v])) ?_
  refine sy_pure 8 (.v (i12.v)) ?_
  refine sy_pure 9 (.v (j12.v)) ?_
  refine sy_new 3 ⟨24, [.bool false, .slice none 0 0]⟩ ?_
  refine sy_new 4 ⟨24, [.bool false, .slice none 0 0]⟩ ?_
  refine sy_store ⟨24, i12.cs⟩ ty24 ?_
  refine sy_store ⟨24, j12.cs⟩ ty24 ?_
  refine sy_next 13 [(2, .adr 2 0), (3, .adr 3 0), (4, .adr 4 0)] [(2, ⟨26, [.bool false, .slice none 0 0, .slice none 0 0]⟩), (3, ⟨24, i12.cs⟩), (4, ⟨24, j12.cs⟩)] ?_
  refine sw_seq ?_
  refine sw_reg ?_
  refine sy_ldv 10 (.v (i12.v)) ty24 part_agg ?_
  refine sy_ldv 11 (.v (j12.v)) ty24 part_agg ?_
  refine sy_call 12 106 [i12.v, j12.v] ?_
  intro w16 u16 e16 d16
  have k21 := k_reduce d16 (hi12.ext e16) (hj12.ext e16).raw (by omega) (by omega)
  with_reducible refine Post.mono k21 ?_
  clear k21
  rintro _ u19 g20 ⟨r17, rfl, h18⟩
  refine sy_store ⟨26, r17.cs⟩ ty26 ?_
  refine sy_next 13 [(2, .adr 2 0)] [(2, ⟨26, r17.cs⟩)] ?_
  refine sw_ret (ret0 [r17.v] ⟨res_cell ty26 part_agg, trivial⟩ fun u22 e23 => ?_)
  refine ⟨r17, rfl, RatN.fit (K := (max K K + 1)) ?_ (hr1.rs)⟩
  rw [hq12, ← Nt.mk_div]
  exact (h18.ext e23)
theorem k_rqSame {u w : World} {r1 r2 : RL} {x y : Rat} {K L : Nat} (d : Dat u w) (hr1 : RatN u r1 x K) (hr2 : RatN u r2 y L) : Calls Tryz.prog 71 #[r1.v, r2.v] w (Post u w fun v _ => v = .bool (decide (x = y))) := by
  refine calls_sym (args := [r1.v, r2.v]) Tryz.func71 rfl Tryz.ntmps71 (rs := [.tmp 4]) Tryz.results71 (le_b rfl) (le_b rfl) d ?_
  refine sw_seq ?_
  refine sw_reg ?_
  refine sy_new 2 ⟨26, r1.cs⟩ ?_
  refine sy_new 3 ⟨26, r2.cs⟩ ?_
  refine sy_pure 4 (.v (.bool false)) ?_
  refine sy_next 17 [(2, .adr 2 0), (3, .adr 3 0)] [(2, ⟨26, r1.cs⟩), (3, ⟨26, r2.cs⟩)] ?_
  refine sw_seq ?_
  refine sw_reg ?_
  refine sy_pure 5 (.adr 2 0) ?_
  refine sy_ldv 6 (.v (.agg #[.bool r1.s, .slice r1.m.a r1.m.n r1.m.c])) ty24 part_agg ?_
  refine sy_pure 7 (.adr 3 0) ?_
  refine sy_ldv 8 (.v (.agg #[.bool r2.s, .slice r2.m.a r2.m.n r2.m.c])) ty24 part_agg ?_
  refine sy_call 9 137 [.agg #[.bool r1.s, .slice r1.m.a r1.m.n r1.m.c], .agg #[.bool r2.s, .slice r2.m.a r2.m.n r2.m.c]] ?_
  intro w11 u11 e11 d11
  have k14 := k_riSame d11 ((RatN.num hr1).ext e11) ((RatN.num hr2).ext e11)
  with_reducible refine Post.mono k14 ?_
  clear k14
  rintro _ u12 g13 rfl
  rcases Bool.eq_false_or_eq_true (decide (x.num = y.num)) with hs15 | hs15
  · refine sy_eq 10 (x := .v (.bool (decide (x.num = y.num)))) (.v (.bool true)) (by rw [hs15]) ?_
    refine sy_pure 11 (.adr 2 2) ?_ (hw := wants1 (g := 5) (b := true) (t := 10) (by kernel_rfl) (by kernel_rfl) (by kernel_rfl))
    refine sy_ldv 12 (.v (.slice r1.d.a r1.d.n r1.d.c)) ty22 part_one ?_ (hw := wants1 (g := 5) (b := true) (t := 10) (by kernel_rfl) (by kernel_rfl) (by kernel_rfl))
    refine sy_pure 13 (.adr 3 2) ?_ (hw := wants1 (g := 5) (b := true) (t := 10) (by kernel_rfl) (by kernel_rfl) (by kernel_rfl))
    refine sy_ldv 14 (.v (.slice r2.d.a r2.d.n r2.d.c)) ty22 part_one ?_ (hw := wants1 (g := 5) (b := true) (t := 10) (by kernel_rfl) (by kernel_rfl) (by kernel_rfl))
    refine sy_call 15 138 [.slice r1.d.a r1.d.n r1.d.c, .slice r2.d.a r2.d.n r2.d.c] ?_ (hw := wants1 (g := 5) (b := true) (t := 10) (by kernel_rfl) (by kernel_rfl) (by kernel_rfl))
    intro w16 u16 e16 d16
    have k19 := k_rnSame d16 ((RatN.den hr1).ext (e11.trans (g13.ext.trans e16))) ((RatN.den hr2).ext (e11.trans (g13.ext.trans e16)))
    with_reducible refine Post.mono k19 ?_
    clear k19
    rintro _ u17 g18 rfl
    refine sy_pure 16 (.v (.bool (decide (x.den = y.den)))) ?_
    refine sy_pure 4 (.v (.bool (decide (x.den = y.den)))) ?_
    refine sy_next 17 [(4, .v (.bool (decide (x.den = y.den))))] [] ?_
    refine sw_ret (ret0 [.bool (decide (x.den = y.den))] ⟨res_tmp, trivial⟩ fun u20 e21 => ?_)
    show _ = _
    rw [← Nt.same_q, hs15]
    rfl
  · refine sy_eq 10 (x := .v (.bool (decide (x.num = y.num)))) (.v (.bool false)) (by rw [hs15]) ?_
    refine sy_drop 11 (unwanted (g := 5) (b := true) (c := false) (t := 10) (by kernel_rfl) (by kernel_rfl) (by kernel_rfl) (by kernel_rfl)) ?_
    refine sy_drop 12 (unwanted (g := 5) (b := true) (c := false) (t := 10) (by kernel_rfl) (by kernel_rfl) (by kernel_rfl) (by kernel_rfl)) ?_
    refine sy_drop 13 (unwanted (g := 5) (b := true) (c := false) (t := 10) (by kernel_rfl) (by kernel_rfl) (by kernel_rfl) (by kernel_rfl)) ?_
    refine sy_drop 14 (unwanted (g := 5) (b := true) (c := false) (t := 10) (by kernel_rfl) (by kernel_rfl) (by kernel_rfl) (by kernel_rfl)) ?_
    refine sy_drop 15 (unwanted (g := 5) (b := true) (c := false) (t := 10) (by kernel_rfl) (by kernel_rfl) (by kernel_rfl) (by kernel_rfl)) ?_
    refine sy_pure 16 (.v (.bool false)) ?_
    refine sy_pure 4 (.v (.bool false)) ?_
    refine sy_next 17 [(4, .v (.bool false))] [] ?_
    refine sw_ret (ret0 [.bool false] ⟨res_tmp, trivial⟩ fun u22 e23 => ?_)
    show _ = _
    rw [← Nt.same_q, hs15]
    rfl
theorem k_rqOf {u w : World} {z : Int} (d : Dat u w) (h0 : -9223372036854775808 ≤ z) (h1 : z ≤ 9223372036854775807) : Calls Tryz.prog 41 #[.int .i64 z] w (Post u w fun v u' => ∃ r : RL, v = r.v ∧ RatN u' r (z : Rat) 2) := by
  refine calls_sym (args := [.int .i64 z]) Tryz.func41 rfl Tryz.ntmps41 (rs := [.cell 2 26]) Tryz.results41 (le_b rfl) (le_b rfl) d ?_
  refine sw_seq ?_
  refine sw_reg ?_
  refine sy_new 2 ⟨26, [.bool false, .slice none 0 0, .slice none 0 0]⟩ ?_
  refine sy_next 7 [(0, .v (.int .i64 z)), (2, .adr 2 0)] [(2, ⟨26, [.bool false, .slice none 0 0, .slice none 0 0]⟩)] ?_
  refine sw_seq ?_
  refine sw_reg ?_
  refine sy_pure 3 (.v (.int .i64 z)) ?_
  refine sy_call 4 123 [.int .i64 z] ?_
  intro w11 u11 e11 d11
  have k16 := k_riOf d11 (z := z) (by omega) (by omega)
  with_reducible refine Post.mono k16 ?_
  clear k16
  rintro _ u14 g15 ⟨i12, rfl, h13⟩
  refine sy_data 5 ⟨105, [.int .u32 1]⟩ 1 (fun b17 u18 e19 h20 => ?_)
  refine sy_pure 6 (.v (.agg #[.bool i12.s, .slice i12.m.a i12.m.n i12.m.c, .slice (some ⟨b17, 0, none⟩) 1 1])) ?_
  refine sy_store ⟨26, i12.cs ++ [.slice (some ⟨b17, 0, none⟩) 1 1]⟩ ty26 ?_
  refine sy_next 7 [(2, .adr 2 0)] [(2, ⟨26, i12.cs ++ [.slice (some ⟨b17, 0, none⟩) 1 1]⟩)] ?_
  refine sw_ret (ret0 [.agg #[.bool i12.s, .slice i12.m.a i12.m.n i12.m.c, .slice (some ⟨b17, 0, none⟩) 1 1]] ⟨res_cell ty26 part_agg, trivial⟩ fun u21 e22 => ?_)
  refine ⟨(⟨i12.s, i12.m, (⟨some ⟨b17, 0, none⟩, 1, 1⟩ : Sl)⟩ : RL), rfl, ?_⟩
  exact whole_rat (h13.ext (e19.trans e22)) ((one_data h20).ext e22)
theorem k_rqFrac {u w : World} {a b : Int} (d : Dat u w) (ha0 : -9223372036854775808 ≤ a) (ha1 : a ≤ 9223372036854775807) (hb0 : -9223372036854775808 ≤ b) (hb1 : b ≤ 9223372036854775807) : Calls Tryz.prog 49 #[.int .i64 a, .int .i64 b] w (Post u w fun v u' => ∃ r : RL, v = r.v ∧ RatN u' r ((a : Rat) / (b : Rat)) 3) := by
  refine calls_sym (args := [.int .i64 a, .int .i64 b]) Tryz.func49 rfl Tryz.ntmps49 (rs := [.cell 4 26]) Tryz.results49 (le_b rfl) (le_b rfl) d ?_
  refine sw_seq ?_
  refine sw_reg ?_
  refine sy_new 4 ⟨26, [.bool false, .slice none 0 0, .slice none 0 0]⟩ ?_
  refine sy_next 10 [(0, .v (.int .i64 a)), (1, .v (.int .i64 b)), (4, .adr 4 0)] [(4, ⟨26, [.bool false, .slice none 0 0, .slice none 0 0]⟩)] ?_
  refine sw_seq ?_
  refine sw_reg ?_
  refine sy_pure 5 (.v (.int .i64 a)) ?_
  refine sy_call 6 123 [.int .i64 a] ?_
  intro w11 u11 e11 d11
  have k16 := k_riOf d11 (z := a) (by omega) (by omega)
  with_reducible refine Post.mono k16 ?_
  clear k16
  rintro _ u14 g15 ⟨i12, rfl, h13⟩
  refine sy_pure 7 (.v (.int .i64 b)) ?_
  refine sy_call 8 123 [.int .i64 b] ?_
  intro w17 u17 e17 d17
  have k22 := k_riOf d17 (z := b) (by omega) (by omega)
  with_reducible refine Post.mono k22 ?_
  clear k22
  rintro _ u20 g21 ⟨i18, rfl, h19⟩
  refine sy_call 9 106 [i12.v, i18.v] ?_
  intro w23 u23 e23 d23
  have k28 := k_reduce d23 (h13.ext (e17.trans (g21.ext.trans e23))).raw (h19.ext e23).raw (by omega) (by omega)
  with_reducible refine Post.mono k28 ?_
  clear k28
  rintro _ u26 g27 ⟨r24, rfl, h25⟩
  refine sy_store ⟨26, r24.cs⟩ ty26 ?_
  refine sy_next 10 [(4, .adr 4 0)] [(4, ⟨26, r24.cs⟩)] ?_
  refine sw_ret (ret0 [r24.v] ⟨res_cell ty26 part_agg, trivial⟩ fun u29 e30 => ?_)
  refine ⟨r24, rfl, RatN.more (K := (max 2 2 + 1)) ?_ (by omega)⟩
  exact (h25.ext e30)
theorem k_rqSign {u w : World} {r1 : RL} {x : Rat} {K : Nat} (d : Dat u w) (hr1 : RatV u r1 x K) (hK : K ≤ 100000000) : Calls Tryz.prog 43 #[r1.v] w (Post u w fun v u' => v = .int .i64 (Nt.sgQ x)) := by
  refine calls_sym (args := [r1.v]) Tryz.func43 rfl Tryz.ntmps43 (rs := [.tmp 2]) Tryz.results43 (le_b rfl) (le_b rfl) d ?_
  refine sw_seq ?_
  refine sw_reg ?_
  refine sy_new 1 ⟨26, r1.cs⟩ ?_
  refine sy_pure 2 (.v (.int .i64 0)) ?_
  refine sy_next 12 [(1, .adr 1 0)] [(1, ⟨26, r1.cs⟩)] ?_
  refine sw_seq ?_
  refine sw_reg ?_
  refine sy_ldv 6 (.v (r1.v)) ty26 part_agg ?_
  refine sy_call 7 105 [r1.v] ?_
  intro w11 u11 e11 d11
  have k15 := k_parts d11 (hr1.ext e11) (by omega)
  with_reducible refine Post.mono k15 ?_
  clear k15
  rintro _ u13 g14 ⟨i12, j12, z12, D12, rfl, hi12, hj12, hp12, hq12, hk12⟩
  refine sy_pure 5 (.v (.tuple #[i12.v, j12.v])) ?_
  refine sy_pure 8 (.v (i12.v)) ?_
  refine sy_pure 9 (.v (j12.v)) ?_
  refine sy_new 3 ⟨24, [.bool false, .slice none 0 0]⟩ ?_
  refine sy_new 4 ⟨24, [.bool false, .slice none 0 0]⟩ ?_
  refine sy_store ⟨24, i12.cs⟩ ty24 ?_
  refine sy_store ⟨24, j12.cs⟩ ty24 ?_
  refine sy_next 12 [(3, .adr 3 0)] [(3, ⟨24, i12.cs⟩)] ?_
  refine sw_seq ?_
  refine sw_reg ?_
  refine sy_ldv 10 (.v (i12.v)) ty24 part_agg ?_
  refine sy_call 11 125 [i12.v] ?_
  intro w16 u16 e16 d16
  have k19 := k_riSign d16 (hi12.ext e16) (by omega)
  with_reducible refine Post.mono k19 ?_
  clear k19
  rintro _ u17 g18 rfl
  refine sy_pure 2 (.v (.int .i64 (Nt.cmpS z12 0))) ?_
  refine sy_next 12 [(2, .v (.int .i64 (Nt.cmpS z12 0)))] [] ?_
  refine sw_ret (ret0 [.int .i64 (Nt.cmpS z12 0)] ⟨res_tmp, trivial⟩ fun u20 e21 => ?_)
  show _ = _
  rw [hq12, ← Nt.sg_mk hp12]
  rfl
theorem k_rqCompare {u w : World} {r1 : RL} {x : Rat} {K : Nat} {r2 : RL} {y : Rat} {L : Nat} (d : Dat u w) (hr1 : RatV u r1 x K) (hr2 : RatV u r2 y L) (hK : K ≤ 100000000) (hL : L ≤ 100000000) : Calls Tryz.prog 40 #[r1.v, r2.v] w (Post u w fun v u' => v = .int .i64 (Nt.cmpQ x y)) := by
  refine calls_sym (args := [r1.v, r2.v]) Tryz.func40 rfl Tryz.ntmps40 (rs := [.tmp 4]) Tryz.results40 (le_b rfl) (le_b rfl) d ?_
  refine sw_seq ?_
  refine sw_reg ?_
  refine sy_new 2 ⟨26, r1.cs⟩ ?_
  refine sy_new 3 ⟨26, r2.cs⟩ ?_
  refine sy_pure 4 (.v (.int .i64 0)) ?_
  refine sy_next 26 [(2, .adr 2 0), (3, .adr 3 0)] [(2, ⟨26, r1.cs⟩), (3, ⟨26, r2.cs⟩)] ?_
  refine sw_seq ?_
  refine sw_reg ?_
  refine sy_ldv 10 (.v (r1.v)) ty26 part_agg ?_
  refine sy_call 11 105 [r1.v] ?_
  intro w11 u11 e11 d11
  have k15 := k_parts d11 (hr1.ext e11) (by omega)
  with_reducible refine Post.mono k15 ?_
  clear k15
  rintro _ u13 g14 ⟨i12, j12, z12, D12, rfl, hi12, hj12, hp12, hq12, hk12⟩
  refine sy_pure 9 (.v (.tuple #[i12.v, j12.v])) ?_
  refine sy_pure 12 (.v (i12.v)) ?_
  refine sy_pure 13 (.v (j12.v)) ?_
  refine sy_new 5 ⟨24, [.bool false, .slice none 0 0]⟩ ?_
  refine sy_new 6 ⟨24, [.bool false, .slice none 0 0]⟩ ?_
  refine sy_store ⟨24, i12.cs⟩ ty24 ?_
  refine sy_store ⟨24, j12.cs⟩ ty24 ?_
  refine sy_next 26 [(3, .adr 3 0), (5, .adr 5 0), (6, .adr 6 0)] [(3, ⟨26, r2.cs⟩), (5, ⟨24, i12.cs⟩), (6, ⟨24, j12.cs⟩)] ?_
  refine sw_seq ?_
  refine sw_reg ?_
  refine sy_ldv 15 (.v (r2.v)) ty26 part_agg ?_
  refine sy_call 16 105 [r2.v] ?_
  intro w16 u16 e16 d16
  have k20 := k_parts d16 (hr2.ext (e11.trans (g14.ext.trans e16))) (by omega)
  with_reducible refine Post.mono k20 ?_
  clear k20
  rintro _ u18 g19 ⟨i17, j17, z17, D17, rfl, hi17, hj17, hp17, hq17, hk17⟩
  refine sy_pure 14 (.v (.tuple #[i17.v, j17.v])) ?_
  refine sy_pure 17 (.v (i17.v)) ?_
  refine sy_pure 18 (.v (j17.v)) ?_
  refine sy_new 7 ⟨24, [.bool false, .slice none 0 0]⟩ ?_
  refine sy_new 8 ⟨24, [.bool false, .slice none 0 0]⟩ ?_
  refine sy_store ⟨24, i17.cs⟩ ty24 ?_
  refine sy_store ⟨24, j17.cs⟩ ty24 ?_
  refine sy_next 26 [(5, .adr 5 0), (6, .adr 6 0), (7, .adr 7 0), (8, .adr 8 0)] [(5, ⟨24, i12.cs⟩), (6, ⟨24, j12.cs⟩), (7, ⟨24, i17.cs⟩), (8, ⟨24, j17.cs⟩)] ?_
  refine sw_seq ?_
  refine sw_any [0, 0, 3, 0, 0, 31, 63, 127] [(0, []), (1, []), (3, []), (4, []), (2, []), (5, []), (6, []), (7, [])] (by kernel_rfl) (by kernel_rfl) ?_
  refine sy_ldv 19 (.v (i12.v)) ty24 part_agg ?_
  refine sy_ldv 20 (.v (j17.v)) ty24 part_agg ?_
  refine sy_ldv 22 (.v (i17.v)) ty24 part_agg ?_
  refine sy_ldv 23 (.v (j12.v)) ty24 part_agg ?_
  refine sy_call 21 108 [i12.v, j17.v] ?_
  intro w21 u21 e21 d21
  have k26 := k_riMul d21 (hi12.ext (e16.trans (g19.ext.trans e21))) (hj17.ext e21).raw (by omega) (by omega)
  with_reducible refine Post.mono k26 ?_
  clear k26
  rintro _ u24 g25 ⟨i22, rfl, h23⟩
  refine sy_call 24 108 [i17.v, j12.v] ?_
  intro w27 u27 e27 d27
  have k32 := k_riMul d27 (hi17.ext (e21.trans (g25.ext.trans e27))) (hj12.ext (e16.trans (g19.ext.trans (e21.trans (g25.ext.trans e27))))).raw (by omega) (by omega)
  with_reducible refine Post.mono k32 ?_
  clear k32
  rintro _ u30 g31 ⟨i28, rfl, h29⟩
  refine sy_call 25 122 [i22.v, i28.v] ?_
  intro w33 u33 e33 d33
  have k36 := k_riCompare d33 (h23.ext (e27.trans (g31.ext.trans e33))).raw (h29.ext e33).raw (by omega) (by omega)
  with_reducible refine Post.mono k36 ?_
  clear k36
  rintro _ u34 g35 rfl
  refine sy_pure 4 (.v (.int .i64 (Nt.cmpS (z12 * (D17 : Int)) (z17 * (D12 : Int))))) ?_
  refine sy_next 26 [(4, .v (.int .i64 (Nt.cmpS (z12 * (D17 : Int)) (z17 * (D12 : Int)))))] [] ?_
  refine sw_ret (ret0 [.int .i64 (Nt.cmpS (z12 * (D17 : Int)) (z17 * (D12 : Int)))] ⟨res_tmp, trivial⟩ fun u37 e38 => ?_)
  show _ = _
  rw [hq12, hq17, ← Nt.cmp_mk hp12 hp17]
  rfl
theorem k_rqLess {u w : World} {r1 : RL} {x : Rat} {K : Nat} {r2 : RL} {y : Rat} {L : Nat} (d : Dat u w) (hr1 : RatV u r1 x K) (hr2 : RatV u r2 y L) (hK : K ≤ 100000000) (hL : L ≤ 100000000) : Calls Tryz.prog 101 #[r1.v, r2.v] w (Post u w fun v u' => v = .bool (decide (x < y))) := by
  refine calls_sym (args := [r1.v, r2.v]) Tryz.func101 rfl Tryz.ntmps101 (rs := [.tmp 4]) Tryz.results101 (le_b rfl) (le_b rfl) d ?_
  refine sw_seq ?_
  refine sw_reg ?_
  refine sy_new 2 ⟨26, r1.cs⟩ ?_
  refine sy_new 3 ⟨26, r2.cs⟩ ?_
  refine sy_pure 4 (.v (.bool false)) ?_
  refine sy_next 9 [(2, .adr 2 0), (3, .adr 3 0)] [(2, ⟨26, r1.cs⟩), (3, ⟨26, r2.cs⟩)] ?_
  refine sw_seq ?_
  refine sw_reg ?_
  refine sy_ldv 5 (.v (r1.v)) ty26 part_agg ?_
  refine sy_ldv 6 (.v (r2.v)) ty26 part_agg ?_
  refine sy_call 7 40 [r1.v, r2.v] ?_
  intro w11 u11 e11 d11
  have k14 := k_rqCompare d11 (hr1.ext e11) (hr2.ext e11) (by omega) (by omega)
  with_reducible refine Post.mono k14 ?_
  clear k14
  rintro _ u12 g13 rfl
  refine sy_pure 8 (.v (.bool (decide ((Nt.cmpQ x y) < 0)))) ?_
  refine sy_pure 4 (.v (.bool (decide ((Nt.cmpQ x y) < 0)))) ?_
  refine sy_next 9 [(4, .v (.bool (decide ((Nt.cmpQ x y) < 0))))] [] ?_
  refine sw_ret (ret0 [.bool (decide ((Nt.cmpQ x y) < 0))] ⟨res_tmp, trivial⟩ fun u15 e16 => ?_)
  show _ = _
  rw [← Nt.cmpQ_lt]
  rfl
theorem k_rqNeg {u w : World} {r1 : RL} {x : Rat} {K : Nat} (d : Dat u w) (hr1 : RatV u r1 x K) (hK : K ≤ 100000000) : Calls Tryz.prog 110 #[r1.v] w (Post u w fun v u' => ∃ r : RL, v = r.v ∧ RatN u' r (-x) K) := by
  refine calls_sym (args := [r1.v]) Tryz.func110 rfl Tryz.ntmps110 (rs := [.cell 2 26]) Tryz.results110 (le_b rfl) (le_b rfl) d ?_
  refine sw_seq ?_
  refine sw_reg ?_
  refine sy_new 1 ⟨26, r1.cs⟩ ?_
  refine sy_new 2 ⟨26, [.bool false, .slice none 0 0, .slice none 0 0]⟩ ?_
  refine sy_next 10 [(1, .adr 1 0), (2, .adr 2 0)] [(1, ⟨26, r1.cs⟩), (2, ⟨26, [.bool false, .slice none 0 0, .slice none 0 0]⟩)] ?_
  refine sw_seq ?_
  refine sw_reg ?_
  refine sy_ldv 3 (.v (r1.v)) ty26 part_agg ?_
  refine sy_call 4 142 [r1.v] ?_
  intro w11 u11 e11 d11
  have k16 := k_rqTrim d11 (hr1.ext e11) (by omega)
  with_reducible refine Post.mono k16 ?_
  clear k16
  rintro _ u14 g15 ⟨r12, rfl, h13⟩
  refine sy_store ⟨26, r12.cs⟩ ty26 ?_
  refine sy_next 10 [(1, .adr 1 0), (2, .adr 2 0)] [(1, ⟨26, r12.cs⟩), (2, ⟨26, [.bool false, .slice none 0 0, .slice none 0 0]⟩)] ?_
  refine sw_seq ?_
  refine sw_reg ?_
  refine sy_pure 5 (.adr 1 0) ?_
  refine sy_ldv 6 (.v (.agg #[.bool r12.s, .slice r12.m.a r12.m.n r12.m.c])) ty24 part_agg ?_
  refine sy_call 7 159 [.agg #[.bool r12.s, .slice r12.m.a r12.m.n r12.m.c]] ?_
  intro w17 u17 e17 d17
  have k22 := k_riNeg d17 ((RatN.num h13).ext e17).raw (by omega)
  with_reducible refine Post.mono k22 ?_
  clear k22
  rintro _ u20 g21 ⟨i18, rfl, h19⟩
  refine sy_pure 8 (.adr 1 0) ?_
  refine sy_store ⟨26, i18.cs ++ [.slice r12.d.a r12.d.n r12.d.c]⟩ ty24 ?_
  refine sy_next 10 [(1, .adr 1 0), (2, .adr 2 0)] [(1, ⟨26, i18.cs ++ [.slice r12.d.a r12.d.n r12.d.c]⟩), (2, ⟨26, [.bool false, .slice none 0 0, .slice none 0 0]⟩)] ?_
  refine sw_seq ?_
  refine sw_reg ?_
  refine sy_ldv 9 (.v (.agg #[.bool i18.s, .slice i18.m.a i18.m.n i18.m.c, .slice r12.d.a r12.d.n r12.d.c])) ty26 part_agg ?_
  refine sy_store ⟨26, i18.cs ++ [.slice r12.d.a r12.d.n r12.d.c]⟩ ty26 ?_
  refine sy_next 10 [(2, .adr 2 0)] [(2, ⟨26, i18.cs ++ [.slice r12.d.a r12.d.n r12.d.c]⟩)] ?_
  refine sw_ret (ret0 [.agg #[.bool i18.s, .slice i18.m.a i18.m.n i18.m.c, .slice r12.d.a r12.d.n r12.d.c]] ⟨res_cell ty26 part_agg, trivial⟩ fun u23 e24 => ?_)
  exact ⟨(⟨i18.s, i18.m, r12.d⟩ : RL), rfl, neg_rat (h13.ext (e17.trans (g21.ext.trans e24))) (h19.ext e24)⟩
theorem k_rqAdd {u w : World} {r1 : RL} {x : Rat} {K : Nat} {r2 : RL} {y : Rat} {L : Nat} (d : Dat u w) (hr1 : RatV u r1 x K) (hr2 : RatV u r2 y L) (hK : K ≤ 100000000) (hL : L ≤ 100000000) : Calls Tryz.prog 18 #[r1.v, r2.v] w (Post u w fun v u' => ∃ r : RL, v = r.v ∧ RatN u' r (x + y) (K + L + 2)) := by
  refine calls_sym (args := [r1.v, r2.v]) Tryz.func18 rfl Tryz.ntmps18 (rs := [.cell 4 26]) Tryz.results18 (le_b rfl) (le_b rfl) d ?_
  refine sw_seq ?_
  refine sw_reg ?_
  refine sy_new 2 ⟨26, r1.cs⟩ ?_
  refine sy_new 3 ⟨26, r2.cs⟩ ?_
  refine sy_new 4 ⟨26, [.bool false, .slice none 0 0, .slice none 0 0]⟩ ?_
  refine sy_next 30 [(2, .adr 2 0), (3, .adr 3 0), (4, .adr 4 0)] [(2, ⟨26, r1.cs⟩), (3, ⟨26, r2.cs⟩), (4, ⟨26, [.bool false, .slice none 0 0, .slice none 0 0]⟩)] ?_
  refine sw_seq ?_
  refine sw_reg ?_
  refine sy_ldv 10 (.v (r1.v)) ty26 part_agg ?_
  refine sy_call 11 105 [r1.v] ?_
  intro w11 u11 e11 d11
  have k15 := k_parts d11 (hr1.ext e11) (by omega)
  with_reducible refine Post.mono k15 ?_
  clear k15
  rintro _ u13 g14 ⟨i12, j12, z12, D12, rfl, hi12, hj12, hp12, hq12, hk12⟩
  refine sy_pure 9 (.v (.tuple #[i12.v, j12.v])) ?_
  refine sy_pure 12 (.v (i12.v)) ?_
  refine sy_pure 13 (.v (j12.v)) ?_
  refine sy_new 5 ⟨24, [.bool false, .slice none 0 0]⟩ ?_
  refine sy_new 6 ⟨24, [.bool false, .slice none 0 0]⟩ ?_
  refine sy_store ⟨24, i12.cs⟩ ty24 ?_
  refine sy_store ⟨24, j12.cs⟩ ty24 ?_
  refine sy_next 30 [(3, .adr 3 0), (4, .adr 4 0), (5, .adr 5 0), (6, .adr 6 0)] [(3, ⟨26, r2.cs⟩), (4, ⟨26, [.bool false, .slice none 0 0, .slice none 0 0]⟩), (5, ⟨24, i12.cs⟩), (6, ⟨24, j12.cs⟩)] ?_
  refine sw_seq ?_
  refine sw_reg ?_
  refine sy_ldv 15 (.v (r2.v)) ty26 part_agg ?_
  refine sy_call 16 105 [r2.v] ?_
  intro w16 u16 e16 d16
  have k20 := k_parts d16 (hr2.ext (e11.trans (g14.ext.trans e16))) (by omega)
  with_reducible refine Post.mono k20 ?_
  clear k20
  rintro _ u18 g19 ⟨i17, j17, z17, D17, rfl, hi17, hj17, hp17, hq17, hk17⟩
  refine sy_pure 14 (.v (.tuple #[i17.v, j17.v])) ?_
  refine sy_pure 17 (.v (i17.v)) ?_
  refine sy_pure 18 (.v (j17.v)) ?_
  refine sy_new 7 ⟨24, [.bool false, .slice none 0 0]⟩ ?_
  refine sy_new 8 ⟨24, [.bool false, .slice none 0 0]⟩ ?_
  refine sy_store ⟨24, i17.cs⟩ ty24 ?_
  refine sy_store ⟨24, j17.cs⟩ ty24 ?_
  refine sy_next 30 [(4, .adr 4 0), (5, .adr 5 0), (6, .adr 6 0), (7, .adr 7 0), (8, .adr 8 0)] [(4, ⟨26, [.bool false, .slice none 0 0, .slice none 0 0]⟩), (5, ⟨24, i12.cs⟩), (6, ⟨24, j12.cs⟩), (7, ⟨24, i17.cs⟩), (8, ⟨24, j17.cs⟩)] ?_
  refine sw_seq ?_
  refine sw_any [0, 0, 3, 0, 0, 31, 63, 0, 0, 511, 1023, 2047] [(0, []), (1, []), (3, []), (4, []), (7, []), (8, []), (2, []), (5, []), (6, []), (9, []), (10, []), (11, [])] (by kernel_rfl) (by kernel_rfl) ?_
  refine sy_ldv 19 (.v (i12.v)) ty24 part_agg ?_
  refine sy_ldv 20 (.v (j17.v)) ty24 part_agg ?_
  refine sy_ldv 22 (.v (i17.v)) ty24 part_agg ?_
  refine sy_ldv 23 (.v (j12.v)) ty24 part_agg ?_
  refine sy_ldv 26 (.v (j12.v)) ty24 part_agg ?_
  refine sy_ldv 27 (.v (j17.v)) ty24 part_agg ?_
  refine sy_call 21 108 [i12.v, j17.v] ?_
  intro w21 u21 e21 d21
  have k26 := k_riMul d21 (hi12.ext (e16.trans (g19.ext.trans e21))) (hj17.ext e21).raw (by omega) (by omega)
  with_reducible refine Post.mono k26 ?_
  clear k26
  rintro _ u24 g25 ⟨i22, rfl, h23⟩
  refine sy_call 24 108 [i17.v, j12.v] ?_
  intro w27 u27 e27 d27
  have k32 := k_riMul d27 (hi17.ext (e21.trans (g25.ext.trans e27))) (hj12.ext (e16.trans (g19.ext.trans (e21.trans (g25.ext.trans e27))))).raw (by omega) (by omega)
  with_reducible refine Post.mono k32 ?_
  clear k32
  rintro _ u30 g31 ⟨i28, rfl, h29⟩
  refine sy_call 25 107 [i22.v, i28.v] ?_
  intro w33 u33 e33 d33
  have k38 := k_riAdd d33 (h23.ext (e27.trans (g31.ext.trans e33))).raw (h29.ext e33).raw (by omega) (by omega)
  with_reducible refine Post.mono k38 ?_
  clear k38
  rintro _ u36 g37 ⟨i34, rfl, h35⟩
  refine sy_call 28 108 [j12.v, j17.v] ?_
  intro w39 u39 e39 d39
  have k44 := k_riMul d39 (hj12.ext (e16.trans (g19.ext.trans (e21.trans (g25.ext.trans (e27.trans (g31.ext.trans (e33.trans (g37.ext.trans e39))))))))).raw (hj17.ext (e21.trans (g25.ext.trans (e27.trans (g31.ext.trans (e33.trans (g37.ext.trans e39))))))).raw (by omega) (by omega)
  with_reducible refine Post.mono k44 ?_
  clear k44
  rintro _ u42 g43 ⟨i40, rfl, h41⟩
  refine sy_call 29 106 [i34.v, i40.v] ?_
  intro w45 u45 e45 d45
  have k50 := k_reduce d45 (h35.ext (e39.trans (g43.ext.trans e45))).raw (h41.ext e45).raw (by omega) (by omega)
  with_reducible refine Post.mono k50 ?_
  clear k50
  rintro _ u48 g49 ⟨r46, rfl, h47⟩
  refine sy_store ⟨26, r46.cs⟩ ty26 ?_
  refine sy_next 30 [(4, .adr 4 0)] [(4, ⟨26, r46.cs⟩)] ?_
  refine sw_ret (ret0 [r46.v] ⟨res_cell ty26 part_agg, trivial⟩ fun u51 e52 => ?_)
  refine ⟨r46, rfl, RatN.more (K := (max (max (K + L) (L + K) + 1) (K + L) + 1)) ?_ (by omega)⟩
  rw [hq12, hq17, ← Nt.add_div2 hp12 hp17]
  exact (h47.ext e52)
theorem k_rqSub {u w : World} {r1 : RL} {x : Rat} {K : Nat} {r2 : RL} {y : Rat} {L : Nat} (d : Dat u w) (hr1 : RatV u r1 x K) (hr2 : RatV u r2 y L) (hK : K ≤ 100000000) (hL : L ≤ 100000000) : Calls Tryz.prog 20 #[r1.v, r2.v] w (Post u w fun v u' => ∃ r : RL, v = r.v ∧ RatN u' r (x - y) (K + L + 2)) := by
  refine calls_sym (args := [r1.v, r2.v]) Tryz.func20 rfl Tryz.ntmps20 (rs := [.cell 4 26]) Tryz.results20 (le_b rfl) (le_b rfl) d ?_
  refine sw_seq ?_
  refine sw_reg ?_
  refine sy_new 2 ⟨26, r1.cs⟩ ?_
  refine sy_new 3 ⟨26, r2.cs⟩ ?_
  refine sy_new 4 ⟨26, [.bool false, .slice none 0 0, .slice none 0 0]⟩ ?_
  refine sy_next 9 [(2, .adr 2 0), (3, .adr 3 0), (4, .adr 4 0)] [(2, ⟨26, r1.cs⟩), (3, ⟨26, r2.cs⟩), (4, ⟨26, [.bool false, .slice none 0 0, .slice none 0 0]⟩)] ?_
  refine sw_seq ?_
  refine sw_any [0, 0, 2, 7, 15] [(0, []), (1, []), (2, []), (3, []), (4, [])] (by kernel_rfl) (by kernel_rfl) ?_
  refine sy_ldv 5 (.v (r1.v)) ty26 part_agg ?_
  refine sy_ldv 6 (.v (r2.v)) ty26 part_agg ?_
  refine sy_call 7 110 [r2.v] ?_
  intro w11 u11 e11 d11
  have k16 := k_rqNeg d11 (hr2.ext e11) (by omega)
  with_reducible refine Post.mono k16 ?_
  clear k16
  rintro _ u14 g15 ⟨r12, rfl, h13⟩
  refine sy_call 8 18 [r1.v, r12.v] ?_
  intro w17 u17 e17 d17
  have k22 := k_rqAdd d17 (hr1.ext (e11.trans (g15.ext.trans e17))) (h13.ext e17).raw (by omega) (by omega)
  with_reducible refine Post.mono k22 ?_
  clear k22
  rintro _ u20 g21 ⟨r18, rfl, h19⟩
  refine sy_store ⟨26, r18.cs⟩ ty26 ?_
  refine sy_next 9 [(4, .adr 4 0)] [(4, ⟨26, r18.cs⟩)] ?_
  refine sw_ret (ret0 [r18.v] ⟨res_cell ty26 part_agg, trivial⟩ fun u23 e24 => ?_)
  refine ⟨r18, rfl, RatN.more (K := (K + L + 2)) ?_ (by omega)⟩
  rw [Rat.sub_eq_add_neg]
  exact (h19.ext e24)
theorem k_rqMul {u w : World} {r1 : RL} {x : Rat} {K : Nat} {r2 : RL} {y : Rat} {L : Nat} (d : Dat u w) (hr1 : RatV u r1 x K) (hr2 : RatV u r2 y L) (hK : K ≤ 100000000) (hL : L ≤ 100000000) : Calls Tryz.prog 22 #[r1.v, r2.v] w (Post u w fun v u' => ∃ r : RL, v = r.v ∧ RatN u' r (x * y) (K + L + 1)) := by
  refine calls_sym (args := [r1.v, r2.v]) Tryz.func22 rfl Tryz.ntmps22 (rs := [.cell 4 26]) Tryz.results22 (le_b rfl) (le_b rfl) d ?_
  refine sw_seq ?_
  refine sw_reg ?_
  refine sy_new 2 ⟨26, r1.cs⟩ ?_
  refine sy_new 3 ⟨26, r2.cs⟩ ?_
  refine sy_new 4 ⟨26, [.bool false, .slice none 0 0, .slice none 0 0]⟩ ?_
  refine sy_next 26 [(2, .adr 2 0), (3, .adr 3 0), (4, .adr 4 0)] [(2, ⟨26, r1.cs⟩), (3, ⟨26, r2.cs⟩), (4, ⟨26, [.bool false, .slice none 0 0, .slice none 0 0]⟩)] ?_
  refine sw_seq ?_
  refine sw_reg ?_
  refine sy_ldv 10 (.v (r1.v)) ty26 part_agg ?_
  refine sy_call 11 105 [r1.v] ?_
  intro w11 u11 e11 d11
  have k15 := k_parts d11 (hr1.ext e11) (by omega)
  with_reducible refine Post.mono k15 ?_
  clear k15
  rintro _ u13 g14 ⟨i12, j12, z12, D12, rfl, hi12, hj12, hp12, hq12, hk12⟩
  refine sy_pure 9 (.v (.tuple #[i12.v, j12.v])) ?_
  refine sy_pure 12 (.v (i12.v)) ?_
  refine sy_pure 13 (.v (j12.v)) ?_
  refine sy_new 5 ⟨24, [.bool false, .slice none 0 0]⟩ ?_
  refine sy_new 6 ⟨24, [.bool false, .slice none 0 0]⟩ ?_
  refine sy_store ⟨24, i12.cs⟩ ty24 ?_
  refine sy_store ⟨24, j12.cs⟩ ty24 ?_
  refine sy_next 26 [(3, .adr 3 0), (4, .adr 4 0), (5, .adr 5 0), (6, .adr 6 0)] [(3, ⟨26, r2.cs⟩), (4, ⟨26, [.bool false, .slice none 0 0, .slice none 0 0]⟩), (5, ⟨24, i12.cs⟩), (6, ⟨24, j12.cs⟩)] ?_
  refine sw_seq ?_
  refine sw_reg ?_
  refine sy_ldv 15 (.v (r2.v)) ty26 part_agg ?_
  refine sy_call 16 105 [r2.v] ?_
  intro w16 u16 e16 d16
  have k20 := k_parts d16 (hr2.ext (e11.trans (g14.ext.trans e16))) (by omega)
  with_reducible refine Post.mono k20 ?_
  clear k20
  rintro _ u18 g19 ⟨i17, j17, z17, D17, rfl, hi17, hj17, hp17, hq17, hk17⟩
  refine sy_pure 14 (.v (.tuple #[i17.v, j17.v])) ?_
  refine sy_pure 17 (.v (i17.v)) ?_
  refine sy_pure 18 (.v (j17.v)) ?_
  refine sy_new 7 ⟨24, [.bool false, .slice none 0 0]⟩ ?_
  refine sy_new 8 ⟨24, [.bool false, .slice none 0 0]⟩ ?_
  refine sy_store ⟨24, i17.cs⟩ ty24 ?_
  refine sy_store ⟨24, j17.cs⟩ ty24 ?_
  refine sy_next 26 [(4, .adr 4 0), (5, .adr 5 0), (6, .adr 6 0), (7, .adr 7 0), (8, .adr 8 0)] [(4, ⟨26, [.bool false, .slice none 0 0, .slice none 0 0]⟩), (5, ⟨24, i12.cs⟩), (6, ⟨24, j12.cs⟩), (7, ⟨24, i17.cs⟩), (8, ⟨24, j17.cs⟩)] ?_
  refine sw_seq ?_
  refine sw_any [0, 0, 3, 0, 0, 31, 63, 127] [(0, []), (1, []), (3, []), (4, []), (2, []), (5, []), (6, []), (7, [])] (by kernel_rfl) (by kernel_rfl) ?_
  refine sy_ldv 19 (.v (i12.v)) ty24 part_agg ?_
  refine sy_ldv 20 (.v (i17.v)) ty24 part_agg ?_
  refine sy_ldv 22 (.v (j12.v)) ty24 part_agg ?_
  refine sy_ldv 23 (.v (j17.v)) ty24 part_agg ?_
  refine sy_call 21 108 [i12.v, i17.v] ?_
  intro w21 u21 e21 d21
  have k26 := k_riMul d21 (hi12.ext (e16.trans (g19.ext.trans e21))) (hi17.ext e21) (by omega) (by omega)
  with_reducible refine Post.mono k26 ?_
  clear k26
  rintro _ u24 g25 ⟨i22, rfl, h23⟩
  refine sy_call 24 108 [j12.v, j17.v] ?_
  intro w27 u27 e27 d27
  have k32 := k_riMul d27 (hj12.ext (e16.trans (g19.ext.trans (e21.trans (g25.ext.trans e27))))).raw (hj17.ext (e21.trans (g25.ext.trans e27))).raw (by omega) (by omega)
  with_reducible refine Post.mono k32 ?_
  clear k32
  rintro _ u30 g31 ⟨i28, rfl, h29⟩
  refine sy_call 25 106 [i22.v, i28.v] ?_
  intro w33 u33 e33 d33
  have k38 := k_reduce d33 (h23.ext (e27.trans (g31.ext.trans e33))).raw (h29.ext e33).raw (by omega) (by omega)
  with_reducible refine Post.mono k38 ?_
  clear k38
  rintro _ u36 g37 ⟨r34, rfl, h35⟩
  refine sy_store ⟨26, r34.cs⟩ ty26 ?_
  refine sy_next 26 [(4, .adr 4 0)] [(4, ⟨26, r34.cs⟩)] ?_
  refine sw_ret (ret0 [r34.v] ⟨res_cell ty26 part_agg, trivial⟩ fun u39 e40 => ?_)
  refine ⟨r34, rfl, RatN.more (K := (max (K + L) (K + L) + 1)) ?_ (by omega)⟩
  rw [hq12, hq17, ← Nt.mul_div2]
  exact (h35.ext e40)
theorem k_rqMin {u w : World} {r1 : RL} {x : Rat} {K : Nat} {r2 : RL} {y : Rat} {L : Nat} (d : Dat u w) (hr1 : RatV u r1 x K) (hr2 : RatV u r2 y L) (hK : K ≤ 100000000) (hL : L ≤ 100000000) : Calls Tryz.prog 130 #[r1.v, r2.v] w (Post u w fun v u' => ∃ r : RL, v = r.v ∧ RatN u' r (Nt.lo x y) (max K L)) := by
  refine calls_sym (args := [r1.v, r2.v]) Tryz.func130 rfl Tryz.ntmps130 (rs := [.cell 4 26]) Tryz.results130 (le_b rfl) (le_b rfl) d ?_
  refine sw_seq ?_
  refine sw_reg ?_
  refine sy_new 2 ⟨26, r1.cs⟩ ?_
  refine sy_new 3 ⟨26, r2.cs⟩ ?_
  refine sy_new 4 ⟨26, [.bool false, .slice none 0 0, .slice none 0 0]⟩ ?_
  refine sy_next 12 [(2, .adr 2 0), (3, .adr 3 0), (4, .adr 4 0)] [(2, ⟨26, r1.cs⟩), (3, ⟨26, r2.cs⟩), (4, ⟨26, [.bool false, .slice none 0 0, .slice none 0 0]⟩)] ?_
  refine sw_seq ?_
  refine sw_seq ?_
  refine sw_reg ?_
  refine sy_ldv 5 (.v (r2.v)) ty26 part_agg ?_
  refine sy_ldv 6 (.v (r1.v)) ty26 part_agg ?_
  refine sy_call 7 101 [r2.v, r1.v] ?_
  intro w11 u11 e11 d11
  have k14 := k_rqLess d11 (hr2.ext e11) (hr1.ext e11) (by omega) (by omega)
  with_reducible refine Post.mono k14 ?_
  clear k14
  rintro _ u12 g13 rfl
  refine sy_next 12 [(2, .adr 2 0), (3, .adr 3 0), (4, .adr 4 0), (7, .v (.bool (decide (y < x))))] [(2, ⟨26, r1.cs⟩), (3, ⟨26, r2.cs⟩), (4, ⟨26, [.bool false, .slice none 0 0, .slice none 0 0]⟩)] ?_
  refine sw_cond (b := decide (y < x)) (by kernel_rfl) (fun hb15 => ?_) (fun hb15 => ?_)
  · replace hb15 : (decide (y < x)) = true := hb15
    refine sw_seq ?_
    refine sw_reg ?_
    refine sy_ldv 8 (.v (r2.v)) ty26 part_agg ?_
    refine sy_call 9 142 [r2.v] ?_
    intro w16 u16 e16 d16
    have k21 := k_rqTrim d16 (hr2.ext (e11.trans (g13.ext.trans e16))) (by omega)
    with_reducible refine Post.mono k21 ?_
    clear k21
    rintro _ u19 g20 ⟨r17, rfl, h18⟩
    refine sy_store ⟨26, r17.cs⟩ ty26 ?_
    refine sy_next 12 [(4, .adr 4 0)] [(4, ⟨26, r17.cs⟩)] ?_
    refine sw_ret (mpr_seq (ret0 [r17.v] ⟨res_cell ty26 part_agg, trivial⟩ fun u22 e23 => ?_))
    refine ⟨r17, rfl, RatN.more (K := L) ?_ (by omega)⟩
    unfold Nt.lo
    rw [if_pos (of_decide_eq_true hb15)]
    exact (h18.ext e23)
  · replace hb15 : (decide (y < x)) = false := hb15
    refine sw_skip (mp_seq ?_)
    refine sw_seq ?_
    refine sw_reg ?_
    refine sy_ldv 10 (.v (r1.v)) ty26 part_agg ?_
    refine sy_call 11 142 [r1.v] ?_
    intro w24 u24 e24 d24
    have k29 := k_rqTrim d24 (hr1.ext (e11.trans (g13.ext.trans e24))) (by omega)
    with_reducible refine Post.mono k29 ?_
    clear k29
    rintro _ u27 g28 ⟨r25, rfl, h26⟩
    refine sy_store ⟨26, r25.cs⟩ ty26 ?_
    refine sy_next 12 [(4, .adr 4 0)] [(4, ⟨26, r25.cs⟩)] ?_
    refine sw_ret (ret0 [r25.v] ⟨res_cell ty26 part_agg, trivial⟩ fun u30 e31 => ?_)
    refine ⟨r25, rfl, RatN.more (K := K) ?_ (by omega)⟩
    unfold Nt.lo
    rw [if_neg (of_decide_eq_false hb15)]
    exact (h26.ext e31)
theorem k_rqMax {u w : World} {r1 : RL} {x : Rat} {K : Nat} {r2 : RL} {y : Rat} {L : Nat} (d : Dat u w) (hr1 : RatV u r1 x K) (hr2 : RatV u r2 y L) (hK : K ≤ 100000000) (hL : L ≤ 100000000) : Calls Tryz.prog 129 #[r1.v, r2.v] w (Post u w fun v u' => ∃ r : RL, v = r.v ∧ RatN u' r (Nt.hi x y) (max K L)) := by
  refine calls_sym (args := [r1.v, r2.v]) Tryz.func129 rfl Tryz.ntmps129 (rs := [.cell 4 26]) Tryz.results129 (le_b rfl) (le_b rfl) d ?_
  refine sw_seq ?_
  refine sw_reg ?_
  refine sy_new 2 ⟨26, r1.cs⟩ ?_
  refine sy_new 3 ⟨26, r2.cs⟩ ?_
  refine sy_new 4 ⟨26, [.bool false, .slice none 0 0, .slice none 0 0]⟩ ?_
  refine sy_next 12 [(2, .adr 2 0), (3, .adr 3 0), (4, .adr 4 0)] [(2, ⟨26, r1.cs⟩), (3, ⟨26, r2.cs⟩), (4, ⟨26, [.bool false, .slice none 0 0, .slice none 0 0]⟩)] ?_
  refine sw_seq ?_
  refine sw_seq ?_
  refine sw_reg ?_
  refine sy_ldv 5 (.v (r1.v)) ty26 part_agg ?_
  refine sy_ldv 6 (.v (r2.v)) ty26 part_agg ?_
  refine sy_call 7 101 [r1.v, r2.v] ?_
  intro w11 u11 e11 d11
  have k14 := k_rqLess d11 (hr1.ext e11) (hr2.ext e11) (by omega) (by omega)
  with_reducible refine Post.mono k14 ?_
  clear k14
  rintro _ u12 g13 rfl
  refine sy_next 12 [(2, .adr 2 0), (3, .adr 3 0), (4, .adr 4 0), (7, .v (.bool (decide (x < y))))] [(2, ⟨26, r1.cs⟩), (3, ⟨26, r2.cs⟩), (4, ⟨26, [.bool false, .slice none 0 0, .slice none 0 0]⟩)] ?_
  refine sw_cond (b := decide (x < y)) (by kernel_rfl) (fun hb15 => ?_) (fun hb15 => ?_)
  · replace hb15 : (decide (x < y)) = true := hb15
    refine sw_seq ?_
    refine sw_reg ?_
    refine sy_ldv 8 (.v (r2.v)) ty26 part_agg ?_
    refine sy_call 9 142 [r2.v] ?_
    intro w16 u16 e16 d16
    have k21 := k_rqTrim d16 (hr2.ext (e11.trans (g13.ext.trans e16))) (by omega)
    with_reducible refine Post.mono k21 ?_
    clear k21
    rintro _ u19 g20 ⟨r17, rfl, h18⟩
    refine sy_store ⟨26, r17.cs⟩ ty26 ?_
    refine sy_next 12 [(4, .adr 4 0)] [(4, ⟨26, r17.cs⟩)] ?_
    refine sw_ret (mpr_seq (ret0 [r17.v] ⟨res_cell ty26 part_agg, trivial⟩ fun u22 e23 => ?_))
    refine ⟨r17, rfl, RatN.more (K := L) ?_ (by omega)⟩
    unfold Nt.hi
    rw [if_pos (of_decide_eq_true hb15)]
    exact (h18.ext e23)
  · replace hb15 : (decide (x < y)) = false := hb15
    refine sw_skip (mp_seq ?_)
    refine sw_seq ?_
    refine sw_reg ?_
    refine sy_ldv 10 (.v (r1.v)) ty26 part_agg ?_
    refine sy_call 11 142 [r1.v] ?_
    intro w24 u24 e24 d24
    have k29 := k_rqTrim d24 (hr1.ext (e11.trans (g13.ext.trans e24))) (by omega)
    with_reducible refine Post.mono k29 ?_
    clear k29
    rintro _ u27 g28 ⟨r25, rfl, h26⟩
    refine sy_store ⟨26, r25.cs⟩ ty26 ?_
    refine sy_next 12 [(4, .adr 4 0)] [(4, ⟨26, r25.cs⟩)] ?_
    refine sw_ret (ret0 [r25.v] ⟨res_cell ty26 part_agg, trivial⟩ fun u30 e31 => ?_)
    refine ⟨r25, rfl, RatN.more (K := K) ?_ (by omega)⟩
    unfold Nt.hi
    rw [if_neg (of_decide_eq_false hb15)]
    exact (h26.ext e31)
/-- What a division of the reference answers. -/
def DivQ (x y : Rat) (K : Nat) (v : Value) (u : World) : Prop := (v = .tuple #[.agg #[.bool false, .slice none 0 0, .slice none 0 0], .int .i64 3] ∧ y = 0) ∨ (y ≠ 0 ∧ ∃ r : RL, v = .tuple #[r.v, .int .i64 0] ∧ RatN u r (x / y) K)
set_option maxHeartbeats 1000000 in
theorem k_rqDiv {u w : World} {r1 : RL} {x : Rat} {K : Nat} {r2 : RL} {y : Rat} {L : Nat} (d : Dat u w) (hr1 : RatV u r1 x K) (hr2 : RatV u r2 y L) (hK : K ≤ 100000000) (hL : L ≤ 100000000) : Calls Tryz.prog 102 #[r1.v, r2.v] w (Post u w fun v u' => DivQ x y (K + L + 1) v u') := by
  refine calls_sym (args := [r1.v, r2.v]) Tryz.func102 rfl Tryz.ntmps102 (rs := [.cell 4 26, .tmp 5]) Tryz.results102 (le_b rfl) (le_b rfl) d ?_
  refine sw_seq ?_
  refine sw_reg ?_
  refine sy_new 2 ⟨26, r1.cs⟩ ?_
  refine sy_new 3 ⟨26, r2.cs⟩ ?_
  refine sy_new 4 ⟨26, [.bool false, .slice none 0 0, .slice none 0 0]⟩ ?_
  refine sy_pure 5 (.v (.int .i64 0)) ?_
  refine sy_next 31 [(2, .adr 2 0), (3, .adr 3 0), (4, .adr 4 0)] [(2, ⟨26, r1.cs⟩), (3, ⟨26, r2.cs⟩), (4, ⟨26, [.bool false, .slice none 0 0, .slice none 0 0]⟩)] ?_
  refine sw_seq ?_
  refine sw_reg ?_
  refine sy_ldv 11 (.v (r1.v)) ty26 part_agg ?_
  refine sy_call 12 105 [r1.v] ?_
  intro w11 u11 e11 d11
  have k15 := k_parts d11 (hr1.ext e11) (by omega)
  with_reducible refine Post.mono k15 ?_
  clear k15
  rintro _ u13 g14 ⟨i12, j12, z12, D12, rfl, hi12, hj12, hp12, hq12, hk12⟩
  refine sy_pure 10 (.v (.tuple #[i12.v, j12.v])) ?_
  refine sy_pure 13 (.v (i12.v)) ?_
  refine sy_pure 14 (.v (j12.v)) ?_
  refine sy_new 6 ⟨24, [.bool false, .slice none 0 0]⟩ ?_
  refine sy_new 7 ⟨24, [.bool false, .slice none 0 0]⟩ ?_
  refine sy_store ⟨24, i12.cs⟩ ty24 ?_
  refine sy_store ⟨24, j12.cs⟩ ty24 ?_
  refine sy_next 31 [(3, .adr 3 0), (4, .adr 4 0), (6, .adr 6 0), (7, .adr 7 0)] [(3, ⟨26, r2.cs⟩), (4, ⟨26, [.bool false, .slice none 0 0, .slice none 0 0]⟩), (6, ⟨24, i12.cs⟩), (7, ⟨24, j12.cs⟩)] ?_
  refine sw_seq ?_
  refine sw_reg ?_
  refine sy_ldv 16 (.v (r2.v)) ty26 part_agg ?_
  refine sy_call 17 105 [r2.v] ?_
  intro w16 u16 e16 d16
  have k20 := k_parts d16 (hr2.ext (e11.trans (g14.ext.trans e16))) (by omega)
  with_reducible refine Post.mono k20 ?_
  clear k20
  rintro _ u18 g19 ⟨i17, j17, z17, D17, rfl, hi17, hj17, hp17, hq17, hk17⟩
  refine sy_pure 15 (.v (.tuple #[i17.v, j17.v])) ?_
  refine sy_pure 18 (.v (i17.v)) ?_
  refine sy_pure 19 (.v (j17.v)) ?_
  refine sy_new 8 ⟨24, [.bool false, .slice none 0 0]⟩ ?_
  refine sy_new 9 ⟨24, [.bool false, .slice none 0 0]⟩ ?_
  refine sy_store ⟨24, i17.cs⟩ ty24 ?_
  refine sy_store ⟨24, j17.cs⟩ ty24 ?_
  refine sy_next 31 [(4, .adr 4 0), (6, .adr 6 0), (7, .adr 7 0), (8, .adr 8 0), (9, .adr 9 0)] [(4, ⟨26, [.bool false, .slice none 0 0, .slice none 0 0]⟩), (6, ⟨24, i12.cs⟩), (7, ⟨24, j12.cs⟩), (8, ⟨24, i17.cs⟩), (9, ⟨24, j17.cs⟩)] ?_
  refine sw_seq ?_
  refine sw_seq ?_
  refine sw_reg ?_
  refine sy_ldv 20 (.v (i17.v)) ty24 part_agg ?_
  refine sy_call 21 125 [i17.v] ?_
  intro w21 u21 e21 d21
  have k24 := k_riSign d21 (hi17.ext e21) (by omega)
  with_reducible refine Post.mono k24 ?_
  clear k24
  rintro _ u22 g23 rfl
  refine sy_pure 22 (.v (.bool ((Nt.cmpS z17 0) == 0))) ?_
  refine sy_next 31 [(4, .adr 4 0), (6, .adr 6 0), (7, .adr 7 0), (8, .adr 8 0), (9, .adr 9 0), (22, .v (.bool ((Nt.cmpS z17 0) == 0)))] [(4, ⟨26, [.bool false, .slice none 0 0, .slice none 0 0]⟩), (6, ⟨24, i12.cs⟩), (7, ⟨24, j12.cs⟩), (8, ⟨24, i17.cs⟩), (9, ⟨24, j17.cs⟩)] ?_
  refine sw_cond (b := (Nt.cmpS z17 0) == 0) (by kernel_rfl) (fun hb25 => ?_) (fun hb25 => ?_)
  · replace hb25 : ((Nt.cmpS z17 0) == 0) = true := hb25
    refine sw_seq ?_
    refine sw_reg ?_
    refine sy_pure 23 (.v (.agg #[.bool false, .slice none 0 0, .slice none 0 0])) ?_
    refine sy_store ⟨26, [.bool false, .slice none 0 0, .slice none 0 0]⟩ ty26 ?_
    refine sy_pure 5 (.v (.int .i64 3)) ?_
    refine sy_next 31 [(4, .adr 4 0), (5, .v (.int .i64 3))] [(4, ⟨26, [.bool false, .slice none 0 0, .slice none 0 0]⟩)] ?_
    refine sw_ret (mpr_seq (ret0 [.agg #[.bool false, .slice none 0 0, .slice none 0 0], .int .i64 3] ⟨res_cell ty26 part_agg, res_tmp, trivial⟩ fun u26 e27 => ?_))
    left
    exact ⟨rfl, by rw [hq17, Nt.cmp_eq0 hb25, Rat.zero_mkRat]⟩
  · replace hb25 : ((Nt.cmpS z17 0) == 0) = false := hb25
    have hz0 : z17 ≠ 0 := Nt.cmp_ne0 hb25
    refine sw_skip (mp_seq ?_)
    refine sw_seq ?_
    refine sw_any [0, 0, 3, 0, 0, 31, 63, 127, 255] [(0, []), (1, []), (3, []), (4, []), (2, []), (5, []), (6, []), (7, []), (8, [])] (by kernel_rfl) (by kernel_rfl) ?_
    refine sy_ldv 24 (.v (i12.v)) ty24 part_agg ?_
    refine sy_ldv 25 (.v (j17.v)) ty24 part_agg ?_
    refine sy_ldv 27 (.v (j12.v)) ty24 part_agg ?_
    refine sy_ldv 28 (.v (i17.v)) ty24 part_agg ?_
    refine sy_call 26 108 [i12.v, j17.v] ?_
    intro w28 u28 e28 d28
    have k33 := k_riMul d28 (hi12.ext (e16.trans (g19.ext.trans (e21.trans (g23.ext.trans e28))))) (hj17.ext (e21.trans (g23.ext.trans e28))).raw (by omega) (by omega)
    with_reducible refine Post.mono k33 ?_
    clear k33
    rintro _ u31 g32 ⟨i29, rfl, h30⟩
    refine sy_call 29 108 [j12.v, i17.v] ?_
    intro w34 u34 e34 d34
    have k39 := k_riMul d34 (hj12.ext (e16.trans (g19.ext.trans (e21.trans (g23.ext.trans (e28.trans (g32.ext.trans e34))))))).raw (hi17.ext (e21.trans (g23.ext.trans (e28.trans (g32.ext.trans e34))))) (by omega) (by omega)
    with_reducible refine Post.mono k39 ?_
    clear k39
    rintro _ u37 g38 ⟨i35, rfl, h36⟩
    refine sy_call 30 106 [i29.v, i35.v] ?_
    intro w40 u40 e40 d40
    have k45 := k_reduce d40 (h30.ext (e34.trans (g38.ext.trans e40))).raw (h36.ext e40).raw (by omega) (by omega)
    with_reducible refine Post.mono k45 ?_
    clear k45
    rintro _ u43 g44 ⟨r41, rfl, h42⟩
    refine sy_store ⟨26, r41.cs⟩ ty26 ?_
    refine sy_pure 5 (.v (.int .i64 0)) ?_
    refine sy_next 31 [(4, .adr 4 0), (5, .v (.int .i64 0))] [(4, ⟨26, r41.cs⟩)] ?_
    refine sw_ret (ret0 [r41.v, .int .i64 0] ⟨res_cell ty26 part_agg, res_tmp, trivial⟩ fun u46 e47 => ?_)
    right
    refine ⟨?_, r41, rfl, RatN.more (K := (max (K + L) (K + L) + 1)) ?_ (by omega)⟩
    · rw [hq17]; exact (Rat.mkRat_ne_zero (by omega)).2 hz0
    · rw [hq12, hq17, ← Nt.quo_mk hp12 hp17 hz0]
      exact (h42.ext e47)
theorem k_rqOver {u w : World} {r1 : RL} {x : Rat} {K : Nat} {r2 : RL} {y : Rat} {L : Nat} (d : Dat u w) (hr1 : RatV u r1 x K) (hr2 : RatV u r2 y L) (hK : K ≤ 100000000) (hL : L ≤ 100000000) : Calls Tryz.prog 16 #[r1.v, r2.v] w (Post u w fun v u' => ∃ r : RL, v = r.v ∧ RatN u' r (x / y) (K + L + 2)) := by
  refine calls_sym (args := [r1.v, r2.v]) Tryz.func16 rfl Tryz.ntmps16 (rs := [.cell 4 26]) Tryz.results16 (le_b rfl) (le_b rfl) d ?_
  refine sw_seq ?_
  refine sw_reg ?_
  refine sy_new 2 ⟨26, r1.cs⟩ ?_
  refine sy_new 3 ⟨26, r2.cs⟩ ?_
  refine sy_new 4 ⟨26, [.bool false, .slice none 0 0, .slice none 0 0]⟩ ?_
  refine sy_next 17 [(2, .adr 2 0), (3, .adr 3 0), (4, .adr 4 0)] [(2, ⟨26, r1.cs⟩), (3, ⟨26, r2.cs⟩), (4, ⟨26, [.bool false, .slice none 0 0, .slice none 0 0]⟩)] ?_
  refine sw_seq ?_
  refine sw_reg ?_
  refine sy_ldv 8 (.v (r1.v)) ty26 part_agg ?_
  refine sy_ldv 9 (.v (r2.v)) ty26 part_agg ?_
  refine sy_call 10 102 [r1.v, r2.v] ?_
  intro w11 u11 e11 d11
  have k17 := k_rqDiv d11 (hr1.ext e11) (hr2.ext e11) (by omega) (by omega)
  with_reducible refine Post.mono k17 ?_
  clear k17
  rintro _ u15 g16 (⟨rfl, hz12⟩ | ⟨hz12, r13, rfl, h14⟩)
  · skip
    refine sy_pure 7 (.v (.tuple #[.agg #[.bool false, .slice none 0 0, .slice none 0 0], .int .i64 3])) ?_
    refine sy_pure 11 (.v (.agg #[.bool false, .slice none 0 0, .slice none 0 0])) ?_
    refine sy_pure 12 (.v (.int .i64 3)) ?_
    refine sy_new 5 ⟨26, [.bool false, .slice none 0 0, .slice none 0 0]⟩ ?_
    refine sy_store ⟨26, [.bool false, .slice none 0 0, .slice none 0 0]⟩ ty26 ?_
    refine sy_pure 6 (.v (.int .i64 3)) ?_
    refine sy_next 17 [(4, .adr 4 0), (5, .adr 5 0), (6, .v (.int .i64 3))] [(4, ⟨26, [.bool false, .slice none 0 0, .slice none 0 0]⟩), (5, ⟨26, [.bool false, .slice none 0 0, .slice none 0 0]⟩)] ?_
    refine sw_seq ?_
    refine sw_seq ?_
    refine sw_reg ?_
    refine sy_pure 13 (.v (.int .i64 3)) ?_
    refine sy_pure 14 (.v (.bool true)) ?_
    refine sy_next 17 [(4, .adr 4 0), (5, .adr 5 0), (14, .v (.bool true))] [(4, ⟨26, [.bool false, .slice none 0 0, .slice none 0 0]⟩), (5, ⟨26, [.bool false, .slice none 0 0, .slice none 0 0]⟩)] ?_
    refine sw_true (by kernel_rfl) ?_
    refine sw_seq ?_
    refine sw_reg ?_
    refine sy_call 15 41 [.int .i64 0] ?_
    intro w18 u18 e18 d18
    have k23 := k_rqOf d18 (z := 0) (by omega) (by omega)
    with_reducible refine Post.mono k23 ?_
    clear k23
    rintro _ u21 g22 ⟨r19, rfl, h20⟩
    refine sy_store ⟨26, r19.cs⟩ ty26 ?_
    refine sy_next 17 [(4, .adr 4 0)] [(4, ⟨26, r19.cs⟩)] ?_
    refine sw_ret (mpr_seq (ret0 [r19.v] ⟨res_cell ty26 part_agg, trivial⟩ fun u24 e25 => ?_))
    refine ⟨r19, rfl, RatN.more (K := 2) ?_ (by omega)⟩
    rw [hz12, Rat.div_def, Rat.inv_zero, Rat.mul_zero]
    exact (h20.ext e25)
  · skip
    refine sy_pure 7 (.v (.tuple #[r13.v, .int .i64 0])) ?_
    refine sy_pure 11 (.v (r13.v)) ?_
    refine sy_pure 12 (.v (.int .i64 0)) ?_
    refine sy_new 5 ⟨26, [.bool false, .slice none 0 0, .slice none 0 0]⟩ ?_
    refine sy_store ⟨26, r13.cs⟩ ty26 ?_
    refine sy_pure 6 (.v (.int .i64 0)) ?_
    refine sy_next 17 [(4, .adr 4 0), (5, .adr 5 0), (6, .v (.int .i64 0))] [(4, ⟨26, [.bool false, .slice none 0 0, .slice none 0 0]⟩), (5, ⟨26, r13.cs⟩)] ?_
    refine sw_seq ?_
    refine sw_seq ?_
    refine sw_reg ?_
    refine sy_pure 13 (.v (.int .i64 0)) ?_
    refine sy_pure 14 (.v (.bool false)) ?_
    refine sy_next 17 [(4, .adr 4 0), (5, .adr 5 0), (14, .v (.bool false))] [(4, ⟨26, [.bool false, .slice none 0 0, .slice none 0 0]⟩), (5, ⟨26, r13.cs⟩)] ?_
    refine sw_false (by kernel_rfl) ?_
    refine sw_skip (mp_seq ?_)
    refine sw_seq ?_
    refine sw_reg ?_
    refine sy_ldv 16 (.v (r13.v)) ty26 part_agg ?_
    refine sy_store ⟨26, r13.cs⟩ ty26 ?_
    refine sy_next 17 [(4, .adr 4 0)] [(4, ⟨26, r13.cs⟩)] ?_
    refine sw_ret (ret0 [r13.v] ⟨res_cell ty26 part_agg, trivial⟩ fun u26 e27 => ?_)
    refine ⟨r13, rfl, RatN.more (K := (K + L + 1)) ?_ (by omega)⟩
    exact (h14.ext e27)
end Go.Proofs.YtnedhbidmfoegaaGreat
