/- Contracts of the reference of interval, of small functions. Printed by wip/sym/g_r4.py. -/
import Derived.Test.YtnedhbidmfoegaaGreatRq
import Derived.Test.YtnedhbidmfoegaaGreatIv
namespace Go.Proofs.YtnedhbidmfoegaaGreat
open Go.RowKit
set_option linter.unusedVariables false
theorem k_r4Trim {u w : World} {a1 a2 : RL} {x1 x2 : Rat} {K : Nat} (d : Dat u w) (ha1 : RatV u a1 x1 K) (ha2 : RatV u a2 x2 K) (hK : K ≤ 100000000) : Calls Tryz.prog 69 #[IV a1 a2] w (Post u w fun v u' => ∃ p q : RL, v = IV p q ∧ RatN u' p (Nt.lo x1 x2) K ∧ RatN u' q (Nt.hi x1 x2) K) := by
  refine calls_sym (args := [.agg #[.bool a1.s, .slice a1.m.a a1.m.n a1.m.c, .slice a1.d.a a1.d.n a1.d.c, .bool a2.s, .slice a2.m.a a2.m.n a2.m.c, .slice a2.d.a a2.d.n a2.d.c]]) Tryz.func69 rfl Tryz.ntmps69 (rs := [.cell 2 28]) Tryz.results69 (le_b rfl) (le_b rfl) d ?_
  refine sw_seq ?_
  refine sw_reg ?_
  refine sy_new 1 ⟨28, a1.cs ++ a2.cs⟩ ?_
  refine sy_new 2 ⟨28, [.bool false, .slice none 0 0, .slice none 0 0, .bool false, .slice none 0 0, .slice none 0 0]⟩ ?_
  refine sy_next 14 [(1, .adr 1 0), (2, .adr 2 0)] [(1, ⟨28, a1.cs ++ a2.cs⟩), (2, ⟨28, [.bool false, .slice none 0 0, .slice none 0 0, .bool false, .slice none 0 0, .slice none 0 0]⟩)] ?_
  refine sw_seq ?_
  refine sw_any [0, 1, 0, 4, 15, 0, 32, 0, 128, 511, 1023, 2047] [(0, []), (1, []), (2, []), (3, []), (5, []), (6, []), (7, []), (8, []), (4, []), (9, []), (10, []), (11, [])] (by kernel_rfl) (by kernel_rfl) ?_
  refine sy_pure 3 (.adr 1 0) ?_
  refine sy_ldv 4 (.v (a1.v)) ty26 part_agg ?_
  refine sy_pure 5 (.adr 1 3) ?_
  refine sy_ldv 6 (.v (a2.v)) ty26 part_agg ?_
  refine sy_pure 8 (.adr 1 0) ?_
  refine sy_ldv 9 (.v (a1.v)) ty26 part_agg ?_
  refine sy_pure 10 (.adr 1 3) ?_
  refine sy_ldv 11 (.v (a2.v)) ty26 part_agg ?_
  refine sy_call 7 130 [a1.v, a2.v] ?_
  intro w11 u11 e11 d11
  have k16 := k_rqMin d11 (ha1.ext e11) (ha2.ext e11) (by omega) (by omega)
  with_reducible refine Post.mono k16 ?_
  clear k16
  rintro _ u14 g15 ⟨r12, rfl, h13⟩
  refine sy_call 12 129 [a1.v, a2.v] ?_
  intro w17 u17 e17 d17
  have k22 := k_rqMax d17 (ha1.ext (e11.trans (g15.ext.trans e17))) (ha2.ext (e11.trans (g15.ext.trans e17))) (by omega) (by omega)
  with_reducible refine Post.mono k22 ?_
  clear k22
  rintro _ u20 g21 ⟨r18, rfl, h19⟩
  refine sy_pure 13 (.v (.agg #[.bool r12.s, .slice r12.m.a r12.m.n r12.m.c, .slice r12.d.a r12.d.n r12.d.c, .bool r18.s, .slice r18.m.a r18.m.n r18.m.c, .slice r18.d.a r18.d.n r18.d.c])) ?_
  refine sy_store ⟨28, r12.cs ++ r18.cs⟩ ty28 ?_
  refine sy_next 14 [(2, .adr 2 0)] [(2, ⟨28, r12.cs ++ r18.cs⟩)] ?_
  refine sw_ret (ret0 [.agg #[.bool r12.s, .slice r12.m.a r12.m.n r12.m.c, .slice r12.d.a r12.d.n r12.d.c, .bool r18.s, .slice r18.m.a r18.m.n r18.m.c, .slice r18.d.a r18.d.n r18.d.c]] ⟨res_cell ty28 part_agg, trivial⟩ fun u23 e24 => ?_)
  refine ⟨r12, r18, rfl, RatN.more (K := (max K K)) ?_ (by omega), RatN.more (K := (max K K)) ?_ (by omega)⟩
  · exact (h13.ext (e17.trans (g21.ext.trans e24)))
  · exact (h19.ext e24)
theorem k_r4Same {u w : World} {a1 a2 : RL} {x1 x2 : Rat} {b1 b2 : RL} {y1 y2 : Rat} {K L : Nat} (d : Dat u w) (ha1 : RatN u a1 x1 K) (ha2 : RatN u a2 x2 K) (hb1 : RatN u b1 y1 L) (hb2 : RatN u b2 y2 L) : Calls Tryz.prog 59 #[IV a1 a2, IV b1 b2] w (Post u w fun v u' => v = .bool (decide (x1 = y1) && decide (x2 = y2))) := by
  refine calls_sym (args := [.agg #[.bool a1.s, .slice a1.m.a a1.m.n a1.m.c, .slice a1.d.a a1.d.n a1.d.c, .bool a2.s, .slice a2.m.a a2.m.n a2.m.c, .slice a2.d.a a2.d.n a2.d.c], .agg #[.bool b1.s, .slice b1.m.a b1.m.n b1.m.c, .slice b1.d.a b1.d.n b1.d.c, .bool b2.s, .slice b2.m.a b2.m.n b2.m.c, .slice b2.d.a b2.d.n b2.d.c]]) Tryz.func59 rfl Tryz.ntmps59 (rs := [.tmp 4]) Tryz.results59 (le_b rfl) (le_b rfl) d ?_
  refine sw_seq ?_
  refine sw_reg ?_
  refine sy_new 2 ⟨28, a1.cs ++ a2.cs⟩ ?_
  refine sy_new 3 ⟨28, b1.cs ++ b2.cs⟩ ?_
  refine sy_pure 4 (.v (.bool false)) ?_
  refine sy_next 17 [(2, .adr 2 0), (3, .adr 3 0)] [(2, ⟨28, a1.cs ++ a2.cs⟩), (3, ⟨28, b1.cs ++ b2.cs⟩)] ?_
  refine sw_seq ?_
  refine sw_reg ?_
  refine sy_pure 5 (.adr 2 0) ?_
  refine sy_ldv 6 (.v (a1.v)) ty26 part_agg ?_
  refine sy_pure 7 (.adr 3 0) ?_
  refine sy_ldv 8 (.v (b1.v)) ty26 part_agg ?_
  refine sy_call 9 71 [a1.v, b1.v] ?_
  intro w11 u11 e11 d11
  have k14 := k_rqSame d11 (ha1.ext e11) (hb1.ext e11)
  with_reducible refine Post.mono k14 ?_
  clear k14
  rintro _ u12 g13 rfl
  rcases Bool.eq_false_or_eq_true (decide (x1 = y1)) with hs15 | hs15
  · refine sy_eq 10 (x := .v (.bool (decide (x1 = y1)))) (.v (.bool true)) (by rw [hs15]) ?_
    refine sy_pure 11 (.adr 2 3) ?_ (hw := wants1 (g := 5) (b := true) (t := 10) (by kernel_rfl) (by kernel_rfl) (by kernel_rfl))
    refine sy_ldv 12 (.v (a2.v)) ty26 part_agg ?_ (hw := wants1 (g := 5) (b := true) (t := 10) (by kernel_rfl) (by kernel_rfl) (by kernel_rfl))
    refine sy_pure 13 (.adr 3 3) ?_ (hw := wants1 (g := 5) (b := true) (t := 10) (by kernel_rfl) (by kernel_rfl) (by kernel_rfl))
    refine sy_ldv 14 (.v (b2.v)) ty26 part_agg ?_ (hw := wants1 (g := 5) (b := true) (t := 10) (by kernel_rfl) (by kernel_rfl) (by kernel_rfl))
    refine sy_call 15 71 [a2.v, b2.v] ?_ (hw := wants1 (g := 5) (b := true) (t := 10) (by kernel_rfl) (by kernel_rfl) (by kernel_rfl))
    intro w16 u16 e16 d16
    have k19 := k_rqSame d16 (ha2.ext (e11.trans (g13.ext.trans e16))) (hb2.ext (e11.trans (g13.ext.trans e16)))
    with_reducible refine Post.mono k19 ?_
    clear k19
    rintro _ u17 g18 rfl
    refine sy_pure 16 (.v (.bool (decide (x2 = y2)))) ?_
    refine sy_pure 4 (.v (.bool (decide (x2 = y2)))) ?_
    refine sy_next 17 [(4, .v (.bool (decide (x2 = y2))))] [] ?_
    refine sw_ret (ret0 [.bool (decide (x2 = y2))] ⟨res_tmp, trivial⟩ fun u20 e21 => ?_)
    show _ = _
    rw [hs15]
    rfl
  · refine sy_eq 10 (x := .v (.bool (decide (x1 = y1)))) (.v (.bool false)) (by rw [hs15]) ?_
    refine sy_drop 11 (unwanted (g := 5) (b := true) (c := false) (t := 10) (by kernel_rfl) (by kernel_rfl) (by kernel_rfl) (by kernel_rfl)) ?_
    refine sy_drop 12 (unwanted (g := 5) (b := true) (c := false) (t := 10) (by kernel_rfl) (by kernel_rfl) (by kernel_rfl) (by kernel_rfl)) ?_
    refine sy_drop 13 (unwanted (g := 5) (b := true) (c := false) (t := 10) (by kernel_rfl) (by kernel_rfl) (by kernel_rfl) (by kernel_rfl)) ?_
    refine sy_drop 14 (unwanted (g := 5) (b := true) (c := false) (t := 10) (by kernel_rfl) (by kernel_rfl) (by kernel_rfl) (by kernel_rfl)) ?_
    refine sy_drop 15 (unwanted (g := 5) (b := true) (c := false) (t := 10) (by kernel_rfl) (by kernel_rfl) (by kernel_rfl) (by kernel_rfl)) ?_
    refine sy_pure 16 (.v (.bool false)) ?_
    refine sy_pure 4 (.v (.bool false)) ?_
    refine sy_next 17 [(4, .v (.bool false))] [] ?_
    refine sw_ret (ret0 [.bool false] ⟨res_tmp, trivial⟩ fun u22 e23 => ?_)
    show _ = _
    rw [hs15]
    rfl
theorem k_r4Make {u w : World} {a : RL} {x : Rat} {b : RL} {y : Rat} {K : Nat} (d : Dat u w) (ha : RatV u a x K) (hb : RatV u b y K) (hK : K ≤ 100000000) : Calls Tryz.prog 46 #[a.v, b.v] w (Post u w fun v u' => ∃ p q : RL, v = IV p q ∧ RatN u' p (Nt.lo x y) K ∧ RatN u' q (Nt.hi x y) K) := by
  refine calls_sym (args := [a.v, b.v]) Tryz.func46 rfl Tryz.ntmps46 (rs := [.cell 4 28]) Tryz.results46 (le_b rfl) (le_b rfl) d ?_
  refine sw_seq ?_
  refine sw_reg ?_
  refine sy_new 2 ⟨26, a.cs⟩ ?_
  refine sy_new 3 ⟨26, b.cs⟩ ?_
  refine sy_new 4 ⟨28, [.bool false, .slice none 0 0, .slice none 0 0, .bool false, .slice none 0 0, .slice none 0 0]⟩ ?_
  refine sy_next 9 [(2, .adr 2 0), (3, .adr 3 0), (4, .adr 4 0)] [(2, ⟨26, a.cs⟩), (3, ⟨26, b.cs⟩), (4, ⟨28, [.bool false, .slice none 0 0, .slice none 0 0, .bool false, .slice none 0 0, .slice none 0 0]⟩)] ?_
  refine sw_seq ?_
  refine sw_reg ?_
  refine sy_ldv 5 (.v (a.v)) ty26 part_agg ?_
  refine sy_ldv 6 (.v (b.v)) ty26 part_agg ?_
  refine sy_pure 7 (.v (.agg #[.bool a.s, .slice a.m.a a.m.n a.m.c, .slice a.d.a a.d.n a.d.c, .bool b.s, .slice b.m.a b.m.n b.m.c, .slice b.d.a b.d.n b.d.c])) ?_
  refine sy_call 8 69 [.agg #[.bool a.s, .slice a.m.a a.m.n a.m.c, .slice a.d.a a.d.n a.d.c, .bool b.s, .slice b.m.a b.m.n b.m.c, .slice b.d.a b.d.n b.d.c]] ?_
  intro w11 u11 e11 d11
  have k18 := k_r4Trim d11 (ha.ext e11) (hb.ext e11) (by omega)
  with_reducible refine Post.mono k18 ?_
  clear k18
  rintro _ u16 g17 ⟨r12, r14, rfl, h13, h15⟩
  refine sy_store ⟨28, r12.cs ++ r14.cs⟩ ty28 ?_
  refine sy_next 9 [(4, .adr 4 0)] [(4, ⟨28, r12.cs ++ r14.cs⟩)] ?_
  refine sw_ret (ret0 [.agg #[.bool r12.s, .slice r12.m.a r12.m.n r12.m.c, .slice r12.d.a r12.d.n r12.d.c, .bool r14.s, .slice r14.m.a r14.m.n r14.m.c, .slice r14.d.a r14.d.n r14.d.c]] ⟨res_cell ty28 part_agg, trivial⟩ fun u19 e20 => ?_)
  refine ⟨r12, r14, rfl, RatN.more (K := K) ?_ (by omega), RatN.more (K := K) ?_ (by omega)⟩
  · exact (h13.ext e20)
  · exact (h15.ext e20)
theorem k_r4Width {u w : World} {a1 a2 : RL} {x1 x2 : Rat} {K : Nat} (d : Dat u w) (ha1 : RatV u a1 x1 K) (ha2 : RatV u a2 x2 K) (hK : K ≤ 50000000) : Calls Tryz.prog 48 #[IV a1 a2] w (Post u w fun v u' => ∃ p : RL, v = p.v ∧ RatN u' p (Nt.hi x1 x2 - Nt.lo x1 x2) (K + K + 2)) := by
  refine calls_sym (args := [.agg #[.bool a1.s, .slice a1.m.a a1.m.n a1.m.c, .slice a1.d.a a1.d.n a1.d.c, .bool a2.s, .slice a2.m.a a2.m.n a2.m.c, .slice a2.d.a a2.d.n a2.d.c]]) Tryz.func48 rfl Tryz.ntmps48 (rs := [.cell 2 26]) Tryz.results48 (le_b rfl) (le_b rfl) d ?_
  refine sw_seq ?_
  refine sw_reg ?_
  refine sy_new 1 ⟨28, a1.cs ++ a2.cs⟩ ?_
  refine sy_new 2 ⟨26, [.bool false, .slice none 0 0, .slice none 0 0]⟩ ?_
  refine sy_next 10 [(1, .adr 1 0), (2, .adr 2 0)] [(1, ⟨28, a1.cs ++ a2.cs⟩), (2, ⟨26, [.bool false, .slice none 0 0, .slice none 0 0]⟩)] ?_
  refine sw_seq ?_
  refine sw_reg ?_
  refine sy_ldv 3 (.v (.agg #[.bool a1.s, .slice a1.m.a a1.m.n a1.m.c, .slice a1.d.a a1.d.n a1.d.c, .bool a2.s, .slice a2.m.a a2.m.n a2.m.c, .slice a2.d.a a2.d.n a2.d.c])) ty28 part_agg ?_
  refine sy_call 4 69 [.agg #[.bool a1.s, .slice a1.m.a a1.m.n a1.m.c, .slice a1.d.a a1.d.n a1.d.c, .bool a2.s, .slice a2.m.a a2.m.n a2.m.c, .slice a2.d.a a2.d.n a2.d.c]] ?_
  intro w11 u11 e11 d11
  have k18 := k_r4Trim d11 (ha1.ext e11) (ha2.ext e11) (by omega)
  with_reducible refine Post.mono k18 ?_
  clear k18
  rintro _ u16 g17 ⟨r12, r14, rfl, h13, h15⟩
  refine sy_store ⟨28, r12.cs ++ r14.cs⟩ ty28 ?_
  refine sy_next 10 [(1, .adr 1 0), (2, .adr 2 0)] [(1, ⟨28, r12.cs ++ r14.cs⟩), (2, ⟨26, [.bool false, .slice none 0 0, .slice none 0 0]⟩)] ?_
  refine sw_seq ?_
  refine sw_reg ?_
  refine sy_pure 5 (.adr 1 3) ?_
  refine sy_ldv 6 (.v (r14.v)) ty26 part_agg ?_
  refine sy_pure 7 (.adr 1 0) ?_
  refine sy_ldv 8 (.v (r12.v)) ty26 part_agg ?_
  refine sy_call 9 20 [r14.v, r12.v] ?_
  intro w19 u19 e19 d19
  have k24 := k_rqSub d19 (h15.ext e19).raw (h13.ext e19).raw (by omega) (by omega)
  with_reducible refine Post.mono k24 ?_
  clear k24
  rintro _ u22 g23 ⟨r20, rfl, h21⟩
  refine sy_store ⟨26, r20.cs⟩ ty26 ?_
  refine sy_next 10 [(2, .adr 2 0)] [(2, ⟨26, r20.cs⟩)] ?_
  refine sw_ret (ret0 [r20.v] ⟨res_cell ty26 part_agg, trivial⟩ fun u25 e26 => ?_)
  exact ⟨r20, rfl, (h21.ext e26)⟩
theorem k_r4Contains {u w : World} {a1 a2 : RL} {x1 x2 : Rat} {b : RL} {y : Rat} {K L : Nat} (d : Dat u w) (ha1 : RatV u a1 x1 K) (ha2 : RatV u a2 x2 K) (hb : RatV u b y L) (hK : K ≤ 100000000) (hL : L ≤ 100000000) : Calls Tryz.prog 15 #[IV a1 a2, b.v] w (Post u w fun v u' => v = .bool (Nt.inI x1 x2 y)) := by
  refine calls_sym (args := [.agg #[.bool a1.s, .slice a1.m.a a1.m.n a1.m.c, .slice a1.d.a a1.d.n a1.d.c, .bool a2.s, .slice a2.m.a a2.m.n a2.m.c, .slice a2.d.a a2.d.n a2.d.c], b.v]) Tryz.func15 rfl Tryz.ntmps15 (rs := [.tmp 4]) Tryz.results15 (le_b rfl) (le_b rfl) d ?_
  refine sw_seq ?_
  refine sw_reg ?_
  refine sy_new 2 ⟨28, a1.cs ++ a2.cs⟩ ?_
  refine sy_new 3 ⟨26, b.cs⟩ ?_
  refine sy_pure 4 (.v (.bool false)) ?_
  refine sy_next 19 [(2, .adr 2 0), (3, .adr 3 0)] [(2, ⟨28, a1.cs ++ a2.cs⟩), (3, ⟨26, b.cs⟩)] ?_
  refine sw_seq ?_
  refine sw_reg ?_
  refine sy_ldv 5 (.v (.agg #[.bool a1.s, .slice a1.m.a a1.m.n a1.m.c, .slice a1.d.a a1.d.n a1.d.c, .bool a2.s, .slice a2.m.a a2.m.n a2.m.c, .slice a2.d.a a2.d.n a2.d.c])) ty28 part_agg ?_
  refine sy_call 6 69 [.agg #[.bool a1.s, .slice a1.m.a a1.m.n a1.m.c, .slice a1.d.a a1.d.n a1.d.c, .bool a2.s, .slice a2.m.a a2.m.n a2.m.c, .slice a2.d.a a2.d.n a2.d.c]] ?_
  intro w11 u11 e11 d11
  have k18 := k_r4Trim d11 (ha1.ext e11) (ha2.ext e11) (by omega)
  with_reducible refine Post.mono k18 ?_
  clear k18
  rintro _ u16 g17 ⟨r12, r14, rfl, h13, h15⟩
  refine sy_store ⟨28, r12.cs ++ r14.cs⟩ ty28 ?_
  refine sy_next 19 [(2, .adr 2 0), (3, .adr 3 0)] [(2, ⟨28, r12.cs ++ r14.cs⟩), (3, ⟨26, b.cs⟩)] ?_
  refine sw_seq ?_
  refine sw_reg ?_
  refine sy_ldv 7 (.v (b.v)) ty26 part_agg ?_
  refine sy_pure 8 (.adr 2 0) ?_
  refine sy_ldv 9 (.v (r12.v)) ty26 part_agg ?_
  refine sy_call 10 101 [b.v, r12.v] ?_
  intro w19 u19 e19 d19
  have k22 := k_rqLess d19 (hb.ext (e11.trans (g17.ext.trans e19))) (h13.ext e19).raw (by omega) (by omega)
  with_reducible refine Post.mono k22 ?_
  clear k22
  rintro _ u20 g21 rfl
  refine sy_pure 11 (.v (.bool (!(decide (y < (Nt.lo x1 x2)))))) ?_
  rcases Bool.eq_false_or_eq_true (!(decide (y < (Nt.lo x1 x2)))) with hs23 | hs23
  · refine sy_eq 12 (x := .v (.bool (!(decide (y < (Nt.lo x1 x2)))))) (.v (.bool true)) (by rw [hs23]) ?_
    refine sy_pure 13 (.adr 2 3) ?_ (hw := wants1 (g := 5) (b := true) (t := 12) (by kernel_rfl) (by kernel_rfl) (by kernel_rfl))
    refine sy_ldv 14 (.v (r14.v)) ty26 part_agg ?_ (hw := wants1 (g := 5) (b := true) (t := 12) (by kernel_rfl) (by kernel_rfl) (by kernel_rfl))
    refine sy_ldv 15 (.v (b.v)) ty26 part_agg ?_ (hw := wants1 (g := 5) (b := true) (t := 12) (by kernel_rfl) (by kernel_rfl) (by kernel_rfl))
    refine sy_call 16 101 [r14.v, b.v] ?_ (hw := wants1 (g := 5) (b := true) (t := 12) (by kernel_rfl) (by kernel_rfl) (by kernel_rfl))
    intro w24 u24 e24 d24
    have k27 := k_rqLess d24 (h15.ext (e19.trans (g21.ext.trans e24))).raw (hb.ext (e11.trans (g17.ext.trans (e19.trans (g21.ext.trans e24))))) (by omega) (by omega)
    with_reducible refine Post.mono k27 ?_
    clear k27
    rintro _ u25 g26 rfl
    refine sy_pure 17 (.v (.bool (!(decide ((Nt.hi x1 x2) < y))))) ?_ (hw := wants1 (g := 5) (b := true) (t := 12) (by kernel_rfl) (by kernel_rfl) (by kernel_rfl))
    refine sy_pure 18 (.v (.bool (!(decide ((Nt.hi x1 x2) < y))))) ?_
    refine sy_pure 4 (.v (.bool (!(decide ((Nt.hi x1 x2) < y))))) ?_
    refine sy_next 19 [(4, .v (.bool (!(decide ((Nt.hi x1 x2) < y)))))] [] ?_
    refine sw_ret (ret0 [.bool (!(decide ((Nt.hi x1 x2) < y)))] ⟨res_tmp, trivial⟩ fun u28 e29 => ?_)
    show _ = _
    rw [Nt.inI_less, hs23]
    rfl
  · refine sy_eq 12 (x := .v (.bool (!(decide (y < (Nt.lo x1 x2)))))) (.v (.bool false)) (by rw [hs23]) ?_
    refine sy_drop 13 (unwanted (g := 5) (b := true) (c := false) (t := 12) (by kernel_rfl) (by kernel_rfl) (by kernel_rfl) (by kernel_rfl)) ?_
    refine sy_drop 14 (unwanted (g := 5) (b := true) (c := false) (t := 12) (by kernel_rfl) (by kernel_rfl) (by kernel_rfl) (by kernel_rfl)) ?_
    refine sy_drop 15 (unwanted (g := 5) (b := true) (c := false) (t := 12) (by kernel_rfl) (by kernel_rfl) (by kernel_rfl) (by kernel_rfl)) ?_
    refine sy_drop 16 (unwanted (g := 5) (b := true) (c := false) (t := 12) (by kernel_rfl) (by kernel_rfl) (by kernel_rfl) (by kernel_rfl)) ?_
    refine sy_drop 17 (unwanted (g := 5) (b := true) (c := false) (t := 12) (by kernel_rfl) (by kernel_rfl) (by kernel_rfl) (by kernel_rfl)) ?_
    refine sy_pure 18 (.v (.bool false)) ?_
    refine sy_pure 4 (.v (.bool false)) ?_
    refine sy_next 19 [(4, .v (.bool false))] [] ?_
    refine sw_ret (ret0 [.bool false] ⟨res_tmp, trivial⟩ fun u30 e31 => ?_)
    show _ = _
    rw [Nt.inI_less, hs23]
    rfl
theorem k_r4Inside {u w : World} {a1 a2 : RL} {x1 x2 : Rat} {b1 b2 : RL} {y1 y2 : Rat} {K L : Nat} (d : Dat u w) (ha1 : RatV u a1 x1 K) (ha2 : RatV u a2 x2 K) (hb1 : RatV u b1 y1 L) (hb2 : RatV u b2 y2 L) (hK : K ≤ 100000000) (hL : L ≤ 100000000) : Calls Tryz.prog 63 #[IV a1 a2, IV b1 b2] w (Post u w fun v u' => v = .bool (Nt.inI y1 y2 x1 && Nt.inI y1 y2 x2)) := by
  refine calls_sym (args := [.agg #[.bool a1.s, .slice a1.m.a a1.m.n a1.m.c, .slice a1.d.a a1.d.n a1.d.c, .bool a2.s, .slice a2.m.a a2.m.n a2.m.c, .slice a2.d.a a2.d.n a2.d.c], .agg #[.bool b1.s, .slice b1.m.a b1.m.n b1.m.c, .slice b1.d.a b1.d.n b1.d.c, .bool b2.s, .slice b2.m.a b2.m.n b2.m.c, .slice b2.d.a b2.d.n b2.d.c]]) Tryz.func63 rfl Tryz.ntmps63 (rs := [.tmp 4]) Tryz.results63 (le_b rfl) (le_b rfl) d ?_
  refine sw_seq ?_
  refine sw_reg ?_
  refine sy_new 2 ⟨28, a1.cs ++ a2.cs⟩ ?_
  refine sy_new 3 ⟨28, b1.cs ++ b2.cs⟩ ?_
  refine sy_pure 4 (.v (.bool false)) ?_
  refine sy_next 15 [(2, .adr 2 0), (3, .adr 3 0)] [(2, ⟨28, a1.cs ++ a2.cs⟩), (3, ⟨28, b1.cs ++ b2.cs⟩)] ?_
  refine sw_seq ?_
  refine sw_reg ?_
  refine sy_ldv 5 (.v (.agg #[.bool b1.s, .slice b1.m.a b1.m.n b1.m.c, .slice b1.d.a b1.d.n b1.d.c, .bool b2.s, .slice b2.m.a b2.m.n b2.m.c, .slice b2.d.a b2.d.n b2.d.c])) ty28 part_agg ?_
  refine sy_pure 6 (.adr 2 0) ?_
  refine sy_ldv 7 (.v (a1.v)) ty26 part_agg ?_
  refine sy_call 8 15 [.agg #[.bool b1.s, .slice b1.m.a b1.m.n b1.m.c, .slice b1.d.a b1.d.n b1.d.c, .bool b2.s, .slice b2.m.a b2.m.n b2.m.c, .slice b2.d.a b2.d.n b2.d.c], a1.v] ?_
  intro w11 u11 e11 d11
  have k14 := k_r4Contains d11 (hb1.ext e11) (hb2.ext e11) (ha1.ext e11) (by omega) (by omega)
  with_reducible refine Post.mono k14 ?_
  clear k14
  rintro _ u12 g13 rfl
  rcases Bool.eq_false_or_eq_true (Nt.inI y1 y2 x1) with hs15 | hs15
  · refine sy_eq 9 (x := .v (.bool (Nt.inI y1 y2 x1))) (.v (.bool true)) (by rw [hs15]) ?_
    refine sy_ldv 10 (.v (.agg #[.bool b1.s, .slice b1.m.a b1.m.n b1.m.c, .slice b1.d.a b1.d.n b1.d.c, .bool b2.s, .slice b2.m.a b2.m.n b2.m.c, .slice b2.d.a b2.d.n b2.d.c])) ty28 part_agg ?_ (hw := wants1 (g := 4) (b := true) (t := 9) (by kernel_rfl) (by kernel_rfl) (by kernel_rfl))
    refine sy_pure 11 (.adr 2 3) ?_ (hw := wants1 (g := 4) (b := true) (t := 9) (by kernel_rfl) (by kernel_rfl) (by kernel_rfl))
    refine sy_ldv 12 (.v (a2.v)) ty26 part_agg ?_ (hw := wants1 (g := 4) (b := true) (t := 9) (by kernel_rfl) (by kernel_rfl) (by kernel_rfl))
    refine sy_call 13 15 [.agg #[.bool b1.s, .slice b1.m.a b1.m.n b1.m.c, .slice b1.d.a b1.d.n b1.d.c, .bool b2.s, .slice b2.m.a b2.m.n b2.m.c, .slice b2.d.a b2.d.n b2.d.c], a2.v] ?_ (hw := wants1 (g := 4) (b := true) (t := 9) (by kernel_rfl) (by kernel_rfl) (by kernel_rfl))
    intro w16 u16 e16 d16
    have k19 := k_r4Contains d16 (hb1.ext (e11.trans (g13.ext.trans e16))) (hb2.ext (e11.trans (g13.ext.trans e16))) (ha2.ext (e11.trans (g13.ext.trans e16))) (by omega) (by omega)
    with_reducible refine Post.mono k19 ?_
    clear k19
    rintro _ u17 g18 rfl
    refine sy_pure 14 (.v (.bool (Nt.inI y1 y2 x2))) ?_
    refine sy_pure 4 (.v (.bool (Nt.inI y1 y2 x2))) ?_
    refine sy_next 15 [(4, .v (.bool (Nt.inI y1 y2 x2)))] [] ?_
    refine sw_ret (ret0 [.bool (Nt.inI y1 y2 x2)] ⟨res_tmp, trivial⟩ fun u20 e21 => ?_)
    show _ = _
    rw [hs15]
    rfl
  · refine sy_eq 9 (x := .v (.bool (Nt.inI y1 y2 x1))) (.v (.bool false)) (by rw [hs15]) ?_
    refine sy_drop 10 (unwanted (g := 4) (b := true) (c := false) (t := 9) (by kernel_rfl) (by kernel_rfl) (by kernel_rfl) (by kernel_rfl)) ?_
    refine sy_drop 11 (unwanted (g := 4) (b := true) (c := false) (t := 9) (by kernel_rfl) (by kernel_rfl) (by kernel_rfl) (by kernel_rfl)) ?_
    refine sy_drop 12 (unwanted (g := 4) (b := true) (c := false) (t := 9) (by kernel_rfl) (by kernel_rfl) (by kernel_rfl) (by kernel_rfl)) ?_
    refine sy_drop 13 (unwanted (g := 4) (b := true) (c := false) (t := 9) (by kernel_rfl) (by kernel_rfl) (by kernel_rfl) (by kernel_rfl)) ?_
    refine sy_pure 14 (.v (.bool false)) ?_
    refine sy_pure 4 (.v (.bool false)) ?_
    refine sy_next 15 [(4, .v (.bool false))] [] ?_
    refine sw_ret (ret0 [.bool false] ⟨res_tmp, trivial⟩ fun u22 e23 => ?_)
    show _ = _
    rw [hs15]
    rfl
theorem mod_pos (m : Int) (hm : 1 ≤ m) (n : Int) (h : decide (Int.tmod n m < 0) = false) : Int.tmod n m = n % m := by
  have h := of_decide_eq_false h
  rcases Int.lt_or_le n 0 with hn | hn
  · have e := Int.tmod_add_mul_tdiv n m
    have h2 : -m < Int.tmod n m := Int.lt_tmod_of_pos n (by omega)
    have h3 : Int.tmod n m ≤ 0 := by
      have h8 := Int.neg_tmod n m
      have h9 : Int.tmod (-n) m = (-n) % m := Int.tmod_eq_emod_of_nonneg (by omega)
      have h10 := Int.emod_nonneg (-n) (show m ≠ 0 by omega)
      omega
    have h4 : Int.tmod n m = 0 := by omega
    rw [h4] at e ⊢
    have : m ∣ n := ⟨n.tdiv m, by omega⟩
    exact (Int.emod_eq_zero_of_dvd this).symm
  · exact Int.tmod_eq_emod_of_nonneg hn
theorem mod_neg (m : Int) (hm : 1 ≤ m) (n : Int) (h : decide (Int.tmod n m < 0) = true) : Int.tmod n m + m = n % m := by
  have h := of_decide_eq_true h
  have e := Int.tmod_add_mul_tdiv n m
  have h2 : -m < Int.tmod n m := Int.lt_tmod_of_pos n (by omega)
  have h5 : n = m * (n.tdiv m - 1) + (Int.tmod n m + m) := by rw [Int.mul_sub, Int.mul_one]; omega
  have := (Nt.ediv_uniq (z := n) (y := m) (q := n.tdiv m - 1) (r := Int.tmod n m + m) (by omega) h5 (by omega) (by omega)).2
  exact this.symm
theorem k_Mod {u w : World} {n m : Int} (d : Dat u w) (hm : 1 ≤ m) (hm2 : m ≤ 4611686018427387904) (hn0 : -9223372036854775808 ≤ n) (hn1 : n ≤ 9223372036854775807) : Calls Tryz.prog 50 #[.int .i64 n, .int .i64 m] w (Post u w fun v _ => v = .int .i64 (n % m)) := by
  refine calls_sym (args := [.int .i64 n, .int .i64 m]) Tryz.func50 rfl Tryz.ntmps50 (rs := [.tmp 4]) Tryz.results50 (le_b rfl) (le_b rfl) d ?_
  refine sw_seq ?_
  refine sw_reg ?_
  refine sy_pure 4 (.v (.int .i64 0)) ?_
  refine sy_next 16 [(0, .v (.int .i64 n)), (1, .v (.int .i64 m))] [] ?_
  refine sw_seq ?_
  refine sw_seq ?_
  refine sw_reg ?_
  refine sy_pure 5 (.v (.int .i64 m)) ?_
  refine sy_eq 6 (x := .v (.bool (decide (m < 1)))) (.v (.bool false)) (by rw [show (decide (m < 1)) = false from (by simp; omega)]) ?_
  refine sy_next 16 [(0, .v (.int .i64 n)), (1, .v (.int .i64 m)), (6, .v (.bool false))] [] ?_
  refine sw_false (by kernel_rfl) ?_
  refine sw_skip (mp_seq ?_)
  refine sw_seq ?_
  refine sw_reg ?_
  refine sy_pure 7 (.v (.int .i64 n)) ?_
  refine sy_pure 8 (.v (.int .i64 m)) ?_
  refine sy_rem 9 (Int.tmod n m) (by omega) rfl ?_
  refine sy_pure 0 (.v (.int .i64 (Int.tmod n m))) ?_
  refine sy_next 16 [(0, .v (.int .i64 (Int.tmod n m))), (1, .v (.int .i64 m))] [] ?_
  refine sw_seq ?_
  refine sw_seq ?_
  refine sw_reg ?_
  refine sy_pure 10 (.v (.int .i64 (Int.tmod n m))) ?_
  refine sy_pure 11 (.v (.bool (decide ((Int.tmod n m) < 0)))) ?_
  refine sy_next 16 [(0, .v (.int .i64 (Int.tmod n m))), (1, .v (.int .i64 m)), (11, .v (.bool (decide ((Int.tmod n m) < 0))))] [] ?_
  refine sw_cond (b := decide ((Int.tmod n m) < 0)) (by kernel_rfl) (fun hb11 => ?_) (fun hb11 => ?_)
  · replace hb11 : (decide ((Int.tmod n m) < 0)) = true := hb11
    refine sw_reg ?_
    refine sy_pure 12 (.v (.int .i64 (Int.tmod n m))) ?_
    refine sy_pure 13 (.v (.int .i64 m)) ?_
    refine sy_eq 14 (x := .v (.int .i64 (IntKind.i64.wrap (Int.tmod n m + m)))) (.v (.int .i64 (Int.tmod n m + m))) (by rw [show (IntKind.i64.wrap (Int.tmod n m + m)) = (Int.tmod n m + m) from (IntWalk.i64_in _ (by have h2 := Int.lt_tmod_of_pos n (show 0 < m by omega); have h3 := Int.tmod_lt_of_pos n (show 0 < m by omega); omega))]) ?_
    refine sy_pure 0 (.v (.int .i64 (Int.tmod n m + m))) ?_
    refine sy_next 16 [(0, .v (.int .i64 (Int.tmod n m + m)))] [] ?_
    refine sw_seq ?_
    refine sw_reg ?_
    refine sy_pure 15 (.v (.int .i64 (Int.tmod n m + m))) ?_
    refine sy_pure 4 (.v (.int .i64 (Int.tmod n m + m))) ?_
    refine sy_next 16 [(4, .v (.int .i64 (Int.tmod n m + m)))] [] ?_
    refine sw_ret (ret0 [.int .i64 (Int.tmod n m + m)] ⟨res_tmp, trivial⟩ fun u12 e13 => ?_)
    show Value.int _ _ = Value.int _ _
    rw [mod_neg m hm n hb11]
  · replace hb11 : (decide ((Int.tmod n m) < 0)) = false := hb11
    refine sw_skip (mp_seq ?_)
    refine sw_seq ?_
    refine sw_reg ?_
    refine sy_pure 15 (.v (.int .i64 (Int.tmod n m))) ?_
    refine sy_pure 4 (.v (.int .i64 (Int.tmod n m))) ?_
    refine sy_next 16 [(4, .v (.int .i64 (Int.tmod n m)))] [] ?_
    refine sw_ret (ret0 [.int .i64 (Int.tmod n m)] ⟨res_tmp, trivial⟩ fun u14 e15 => ?_)
    show Value.int _ _ = Value.int _ _
    rw [mod_pos m hm n hb11]
/-- Few digits. -/
def smR (r : RL) : Bool := decide ((r.m.n : Int) ≤ 4) && decide ((r.d.n : Int) ≤ 4)
theorem smR_few {u : World} {r : RL} {q : Rat} {K : Nat} (h : RatV u r q K) (hs : smR r = true) : RatV u r q 4 := by
  unfold smR at hs
  simp at hs
  exact h.few (by omega) (by omega) (by omega)
theorem k_smallRat {u w : World} {r : RL} (d : Dat u w) : Calls Tryz.prog 55 #[r.v] w (Post u w fun v _ => v = .bool (smR r)) := by
  refine calls_sym (args := [r.v]) Tryz.func55 rfl Tryz.ntmps55 (rs := [.tmp 2]) Tryz.results55 (le_b rfl) (le_b rfl) d ?_
  refine sw_seq ?_
  refine sw_reg ?_
  refine sy_new 1 ⟨26, r.cs⟩ ?_
  refine sy_pure 2 (.v (.bool false)) ?_
  refine sy_next 14 [(1, .adr 1 0)] [(1, ⟨26, r.cs⟩)] ?_
  refine sw_seq ?_
  refine sw_reg ?_
  refine sy_pure 3 (.adr 1 0) ?_
  refine sy_pure 4 (.adr 1 1) ?_
  refine sy_ldv 5 (.v (.slice r.m.a r.m.n r.m.c)) ty22 part_one ?_
  refine sy_pure 6 (.v (.int .i64 (r.m.n : Int))) ?_
  refine sy_pure 7 (.v (.bool (decide ((r.m.n : Int) ≤ 4)))) ?_
  rcases Bool.eq_false_or_eq_true (decide ((r.m.n : Int) ≤ 4)) with hs11 | hs11
  · refine sy_eq 8 (x := .v (.bool (decide ((r.m.n : Int) ≤ 4)))) (.v (.bool true)) (by rw [hs11]) ?_
    refine sy_pure 9 (.adr 1 2) ?_ (hw := wants1 (g := 5) (b := true) (t := 8) (by kernel_rfl) (by kernel_rfl) (by kernel_rfl))
    refine sy_ldv 10 (.v (.slice r.d.a r.d.n r.d.c)) ty22 part_one ?_ (hw := wants1 (g := 5) (b := true) (t := 8) (by kernel_rfl) (by kernel_rfl) (by kernel_rfl))
    refine sy_pure 11 (.v (.int .i64 (r.d.n : Int))) ?_ (hw := wants1 (g := 5) (b := true) (t := 8) (by kernel_rfl) (by kernel_rfl) (by kernel_rfl))
    refine sy_pure 12 (.v (.bool (decide ((r.d.n : Int) ≤ 4)))) ?_ (hw := wants1 (g := 5) (b := true) (t := 8) (by kernel_rfl) (by kernel_rfl) (by kernel_rfl))
    refine sy_pure 13 (.v (.bool (decide ((r.d.n : Int) ≤ 4)))) ?_
    refine sy_pure 2 (.v (.bool (decide ((r.d.n : Int) ≤ 4)))) ?_
    refine sy_next 14 [(2, .v (.bool (decide ((r.d.n : Int) ≤ 4))))] [] ?_
    refine sw_ret (ret0 [.bool (decide ((r.d.n : Int) ≤ 4))] ⟨res_tmp, trivial⟩ fun u12 e13 => ?_)
    show _ = _
    unfold smR
    rw [hs11]
    rfl
  · refine sy_eq 8 (x := .v (.bool (decide ((r.m.n : Int) ≤ 4)))) (.v (.bool false)) (by rw [hs11]) ?_
    refine sy_drop 9 (unwanted (g := 5) (b := true) (c := false) (t := 8) (by kernel_rfl) (by kernel_rfl) (by kernel_rfl) (by kernel_rfl)) ?_
    refine sy_drop 10 (unwanted (g := 5) (b := true) (c := false) (t := 8) (by kernel_rfl) (by kernel_rfl) (by kernel_rfl) (by kernel_rfl)) ?_
    refine sy_drop 11 (unwanted (g := 5) (b := true) (c := false) (t := 8) (by kernel_rfl) (by kernel_rfl) (by kernel_rfl) (by kernel_rfl)) ?_
    refine sy_drop 12 (unwanted (g := 5) (b := true) (c := false) (t := 8) (by kernel_rfl) (by kernel_rfl) (by kernel_rfl) (by kernel_rfl)) ?_
    refine sy_pure 13 (.v (.bool false)) ?_
    refine sy_pure 2 (.v (.bool false)) ?_
    refine sy_next 14 [(2, .v (.bool false))] [] ?_
    refine sw_ret (ret0 [.bool false] ⟨res_tmp, trivial⟩ fun u14 e15 => ?_)
    show _ = _
    unfold smR
    rw [hs11]
    rfl
theorem k_smallOn {u w : World} {a b : RL} (d : Dat u w) : Calls Tryz.prog 11 #[IV a b] w (Post u w fun v _ => v = .bool (smR a && smR b)) := by
  refine calls_sym (args := [.agg #[.bool a.s, .slice a.m.a a.m.n a.m.c, .slice a.d.a a.d.n a.d.c, .bool b.s, .slice b.m.a b.m.n b.m.c, .slice b.d.a b.d.n b.d.c]]) Tryz.func11 rfl Tryz.ntmps11 (rs := [.tmp 2]) Tryz.results11 (le_b rfl) (le_b rfl) d ?_
  refine sw_seq ?_
  refine sw_reg ?_
  refine sy_new 1 ⟨28, a.cs ++ b.cs⟩ ?_
  refine sy_pure 2 (.v (.bool false)) ?_
  refine sy_next 11 [(1, .adr 1 0)] [(1, ⟨28, a.cs ++ b.cs⟩)] ?_
  refine sw_seq ?_
  refine sw_reg ?_
  refine sy_pure 3 (.adr 1 0) ?_
  refine sy_ldv 4 (.v (a.v)) ty26 part_agg ?_
  refine sy_call 5 55 [a.v] ?_
  intro w11 u11 e11 d11
  have k14 := k_smallRat (r := a) d11
  with_reducible refine Post.mono k14 ?_
  clear k14
  rintro _ u12 g13 rfl
  rcases Bool.eq_false_or_eq_true (smR a) with hs15 | hs15
  · refine sy_eq 6 (x := .v (.bool (smR a))) (.v (.bool true)) (by rw [hs15]) ?_
    refine sy_pure 7 (.adr 1 3) ?_ (hw := wants1 (g := 3) (b := true) (t := 6) (by kernel_rfl) (by kernel_rfl) (by kernel_rfl))
    refine sy_ldv 8 (.v (b.v)) ty26 part_agg ?_ (hw := wants1 (g := 3) (b := true) (t := 6) (by kernel_rfl) (by kernel_rfl) (by kernel_rfl))
    refine sy_call 9 55 [b.v] ?_ (hw := wants1 (g := 3) (b := true) (t := 6) (by kernel_rfl) (by kernel_rfl) (by kernel_rfl))
    intro w16 u16 e16 d16
    have k19 := k_smallRat (r := b) d16
    with_reducible refine Post.mono k19 ?_
    clear k19
    rintro _ u17 g18 rfl
    refine sy_pure 10 (.v (.bool (smR b))) ?_
    refine sy_pure 2 (.v (.bool (smR b))) ?_
    refine sy_next 11 [(2, .v (.bool (smR b)))] [] ?_
    refine sw_ret (ret0 [.bool (smR b)] ⟨res_tmp, trivial⟩ fun u20 e21 => ?_)
    show _ = _
    rw [hs15]
    rfl
  · refine sy_eq 6 (x := .v (.bool (smR a))) (.v (.bool false)) (by rw [hs15]) ?_
    refine sy_drop 7 (unwanted (g := 3) (b := true) (c := false) (t := 6) (by kernel_rfl) (by kernel_rfl) (by kernel_rfl) (by kernel_rfl)) ?_
    refine sy_drop 8 (unwanted (g := 3) (b := true) (c := false) (t := 6) (by kernel_rfl) (by kernel_rfl) (by kernel_rfl) (by kernel_rfl)) ?_
    refine sy_drop 9 (unwanted (g := 3) (b := true) (c := false) (t := 6) (by kernel_rfl) (by kernel_rfl) (by kernel_rfl) (by kernel_rfl)) ?_
    refine sy_pure 10 (.v (.bool false)) ?_
    refine sy_pure 2 (.v (.bool false)) ?_
    refine sy_next 11 [(2, .v (.bool false))] [] ?_
    refine sw_ret (ret0 [.bool false] ⟨res_tmp, trivial⟩ fun u22 e23 => ?_)
    show _ = _
    rw [hs15]
    rfl
theorem k_ivDiv0 {u w : World} {a1 a2 b1 b2 : RL} {x1 x2 y1 y2 : Rat} {K L : Nat} (d : Dat u w) (ha1 : RatV u a1 x1 K) (ha2 : RatV u a2 x2 K) (hb1 : RatV u b1 y1 L) (hb2 : RatV u b2 y2 L) (h0 : Nt.sgI y1 y2 = 0) (hK : K ≤ 100000000) (hL : L ≤ 100000000) : Calls Tryz.prog 14 #[IV a1 a2, IV b1 b2] w (Post u w fun v _ => v = .tuple #[.agg #[.bool false, .slice none 0 0, .slice none 0 0, .bool false, .slice none 0 0, .slice none 0 0], .int .i64 3]) :=
  Post.mono (k_ivDiv d ha1 ha2 hb1 hb2 hK hL) fun v u' _ h => h.elim (fun h => h.2) (fun h => absurd h0 h.1)
set_option maxHeartbeats 1000000 in
theorem k_awake4 {u w : World} (d : Dat u w) : Calls Tryz.prog 12 #[] w (Post u w fun v _ => v = .bool true) := by
  refine calls_sym (args := []) Tryz.func12 rfl Tryz.ntmps12 (rs := [.tmp 0]) Tryz.results12 (le_b rfl) (le_b rfl) d ?_
  refine sw_seq ?_
  refine sw_reg ?_
  refine sy_pure 0 (.v (.bool false)) ?_
  refine sy_next 40 [] [] ?_
  refine sw_seq ?_
  refine sw_reg ?_
  refine sy_call 5 41 [.int .i64 (-1)] ?_
  intro w11 u11 e11 d11
  have k16 := k_rqOf d11 (z := (-1)) (by omega) (by omega)
  with_reducible refine Post.mono k16 ?_
  clear k16
  rintro _ u14 g15 ⟨r12, rfl, h13⟩
  refine sy_call 6 41 [.int .i64 2] ?_
  intro w17 u17 e17 d17
  have k22 := k_rqOf d17 (z := 2) (by omega) (by omega)
  with_reducible refine Post.mono k22 ?_
  clear k22
  rintro _ u20 g21 ⟨r18, rfl, h19⟩
  refine sy_call 7 46 [r12.v, r18.v] ?_
  intro w23 u23 e23 d23
  have k30 := k_r4Make d23 (h13.ext (e17.trans (g21.ext.trans e23))).raw (h19.ext e23).raw (by omega)
  with_reducible refine Post.mono k30 ?_
  clear k30
  rintro _ u28 g29 ⟨r24, r26, rfl, h25, h27⟩
  refine sy_call 8 41 [.int .i64 3] ?_
  intro w31 u31 e31 d31
  have k36 := k_rqOf d31 (z := 3) (by omega) (by omega)
  with_reducible refine Post.mono k36 ?_
  clear k36
  rintro _ u34 g35 ⟨r32, rfl, h33⟩
  refine sy_call 9 41 [.int .i64 4] ?_
  intro w37 u37 e37 d37
  have k42 := k_rqOf d37 (z := 4) (by omega) (by omega)
  with_reducible refine Post.mono k42 ?_
  clear k42
  rintro _ u40 g41 ⟨r38, rfl, h39⟩
  refine sy_call 10 46 [r32.v, r38.v] ?_
  intro w43 u43 e43 d43
  have k50 := k_r4Make d43 (h33.ext (e37.trans (g41.ext.trans e43))).raw (h39.ext e43).raw (by omega)
  with_reducible refine Post.mono k50 ?_
  clear k50
  rintro _ u48 g49 ⟨r44, r46, rfl, h45, h47⟩
  refine sy_call 11 21 [.agg #[.bool r24.s, .slice r24.m.a r24.m.n r24.m.c, .slice r24.d.a r24.d.n r24.d.c, .bool r26.s, .slice r26.m.a r26.m.n r26.m.c, .slice r26.d.a r26.d.n r26.d.c], .agg #[.bool r44.s, .slice r44.m.a r44.m.n r44.m.c, .slice r44.d.a r44.d.n r44.d.c, .bool r46.s, .slice r46.m.a r46.m.n r46.m.c, .slice r46.d.a r46.d.n r46.d.c]] ?_
  intro w51 u51 e51 d51
  have k58 := k_ivMul d51 (h25.ext (e31.trans (g35.ext.trans (e37.trans (g41.ext.trans (e43.trans (g49.ext.trans e51))))))).raw (h27.ext (e31.trans (g35.ext.trans (e37.trans (g41.ext.trans (e43.trans (g49.ext.trans e51))))))).raw (h45.ext e51).raw (h47.ext e51).raw (by omega) (by omega)
  with_reducible refine Post.mono k58 ?_
  clear k58
  rintro _ u56 g57 ⟨r52, r54, rfl, h53, h55⟩
  refine sy_new 1 ⟨28, [.bool false, .slice none 0 0, .slice none 0 0, .bool false, .slice none 0 0, .slice none 0 0]⟩ ?_
  refine sy_store ⟨28, r52.cs ++ r54.cs⟩ ty28 ?_
  refine sy_next 40 [(1, .adr 1 0)] [(1, ⟨28, r52.cs ++ r54.cs⟩)] ?_
  refine sw_seq ?_
  refine sw_reg ?_
  refine sy_call 12 41 [.int .i64 (-1)] ?_
  intro w59 u59 e59 d59
  have k64 := k_rqOf d59 (z := (-1)) (by omega) (by omega)
  with_reducible refine Post.mono k64 ?_
  clear k64
  rintro _ u62 g63 ⟨r60, rfl, h61⟩
  refine sy_call 13 41 [.int .i64 2] ?_
  intro w65 u65 e65 d65
  have k70 := k_rqOf d65 (z := 2) (by omega) (by omega)
  with_reducible refine Post.mono k70 ?_
  clear k70
  rintro _ u68 g69 ⟨r66, rfl, h67⟩
  refine sy_call 14 46 [r60.v, r66.v] ?_
  intro w71 u71 e71 d71
  have k78 := k_r4Make d71 (h61.ext (e65.trans (g69.ext.trans e71))).raw (h67.ext e71).raw (by omega)
  with_reducible refine Post.mono k78 ?_
  clear k78
  rintro _ u76 g77 ⟨r72, r74, rfl, h73, h75⟩
  refine sy_call 15 23 [.agg #[.bool r72.s, .slice r72.m.a r72.m.n r72.m.c, .slice r72.d.a r72.d.n r72.d.c, .bool r74.s, .slice r74.m.a r74.m.n r74.m.c, .slice r74.d.a r74.d.n r74.d.c]] ?_
  intro w79 u79 e79 d79
  have k86 := k_ivSquare d79 (h73.ext e79).raw (h75.ext e79).raw (by omega)
  with_reducible refine Post.mono k86 ?_
  clear k86
  rintro _ u84 g85 ⟨r80, r82, rfl, h81, h83⟩
  refine sy_new 2 ⟨28, [.bool false, .slice none 0 0, .slice none 0 0, .bool false, .slice none 0 0, .slice none 0 0]⟩ ?_
  refine sy_store ⟨28, r80.cs ++ r82.cs⟩ ty28 ?_
  refine sy_next 40 [(1, .adr 1 0), (2, .adr 2 0)] [(1, ⟨28, r52.cs ++ r54.cs⟩), (2, ⟨28, r80.cs ++ r82.cs⟩)] ?_
  refine sw_seq ?_
  refine sw_any [0, 0, 2, 6, 15, 31, 63, 63, 0, 383, 1023] [(0, []), (8, []), (1, []), (2, []), (3, []), (4, []), (5, []), (6, []), (7, []), (9, []), (10, [])] (by kernel_rfl) (by kernel_rfl) ?_
  refine sy_ldv 17 (.v (.agg #[.bool r52.s, .slice r52.m.a r52.m.n r52.m.c, .slice r52.d.a r52.d.n r52.d.c, .bool r54.s, .slice r54.m.a r54.m.n r54.m.c, .slice r54.d.a r54.d.n r54.d.c])) ty28 part_agg ?_
  refine sy_new 3 ⟨28, [.bool false, .slice none 0 0, .slice none 0 0, .bool false, .slice none 0 0, .slice none 0 0]⟩ ?_
  refine sy_call 18 41 [.int .i64 (-1)] ?_
  intro w87 u87 e87 d87
  have k92 := k_rqOf d87 (z := (-1)) (by omega) (by omega)
  with_reducible refine Post.mono k92 ?_
  clear k92
  rintro _ u90 g91 ⟨r88, rfl, h89⟩
  refine sy_call 19 41 [.int .i64 1] ?_
  intro w93 u93 e93 d93
  have k98 := k_rqOf d93 (z := 1) (by omega) (by omega)
  with_reducible refine Post.mono k98 ?_
  clear k98
  rintro _ u96 g97 ⟨r94, rfl, h95⟩
  refine sy_call 20 46 [r88.v, r94.v] ?_
  intro w99 u99 e99 d99
  have k106 := k_r4Make d99 (h89.ext (e93.trans (g97.ext.trans e99))).raw (h95.ext e99).raw (by omega)
  with_reducible refine Post.mono k106 ?_
  clear k106
  rintro _ u104 g105 ⟨r100, r102, rfl, h101, h103⟩
  refine sy_call 21 14 [.agg #[.bool r52.s, .slice r52.m.a r52.m.n r52.m.c, .slice r52.d.a r52.d.n r52.d.c, .bool r54.s, .slice r54.m.a r54.m.n r54.m.c, .slice r54.d.a r54.d.n r54.d.c], .agg #[.bool r100.s, .slice r100.m.a r100.m.n r100.m.c, .slice r100.d.a r100.d.n r100.d.c, .bool r102.s, .slice r102.m.a r102.m.n r102.m.c, .slice r102.d.a r102.d.n r102.d.c]] ?_
  intro w107 u107 e107 d107
  have k110 := k_ivDiv0 d107 (h53.ext (e59.trans (g63.ext.trans (e65.trans (g69.ext.trans (e71.trans (g77.ext.trans (e79.trans (g85.ext.trans (e87.trans (g91.ext.trans (e93.trans (g97.ext.trans (e99.trans (g105.ext.trans e107))))))))))))))).raw (h55.ext (e59.trans (g63.ext.trans (e65.trans (g69.ext.trans (e71.trans (g77.ext.trans (e79.trans (g85.ext.trans (e87.trans (g91.ext.trans (e93.trans (g97.ext.trans (e99.trans (g105.ext.trans e107))))))))))))))).raw (h101.ext e107).raw (h103.ext e107).raw (by decide +kernel) (by omega) (by omega)
  with_reducible refine Post.mono k110 ?_
  clear k110
  rintro _ u108 g109 rfl
  refine sy_pure 16 (.v (.tuple #[.agg #[.bool false, .slice none 0 0, .slice none 0 0, .bool false, .slice none 0 0, .slice none 0 0], .int .i64 3])) ?_
  refine sy_pure 22 (.v (.agg #[.bool false, .slice none 0 0, .slice none 0 0, .bool false, .slice none 0 0, .slice none 0 0])) ?_
  refine sy_pure 23 (.v (.int .i64 3)) ?_
  refine sy_store ⟨28, [.bool false, .slice none 0 0, .slice none 0 0, .bool false, .slice none 0 0, .slice none 0 0]⟩ ty28 ?_
  refine sy_pure 4 (.v (.int .i64 3)) ?_
  refine sy_next 40 [(1, .adr 1 0), (2, .adr 2 0), (4, .v (.int .i64 3))] [(1, ⟨28, r52.cs ++ r54.cs⟩), (2, ⟨28, r80.cs ++ r82.cs⟩)] ?_
  refine sw_seq ?_
  refine sw_any [0, 1, 3, 7, 7, 23, 55, 127, 255, 511, 1023, 1023, 3071, 7167, 16383, 32767, 65535] [(0, []), (1, []), (2, []), (3, []), (4, []), (5, []), (6, []), (7, []), (8, []), (9, []), (10, []), (11, []), (12, []), (13, []), (14, []), (15, []), (16, [])] (by kernel_rfl) (by kernel_rfl) ?_
  refine sy_pure 24 (.v (.int .i64 3)) ?_
  refine sy_pure 25 (.v (.bool true)) ?_
  refine sy_pure 26 (.v (.bool true)) ?_
  refine sy_ldv 27 (.v (.agg #[.bool r52.s, .slice r52.m.a r52.m.n r52.m.c, .slice r52.d.a r52.d.n r52.d.c, .bool r54.s, .slice r54.m.a r54.m.n r54.m.c, .slice r54.d.a r54.d.n r54.d.c])) ty28 part_agg ?_ (hw := wants1 (g := 2) (b := true) (t := 26) (by kernel_rfl) (by kernel_rfl) (by kernel_rfl))
  refine sy_call 28 41 [.int .i64 (-4)] ?_ (hw := wants1 (g := 2) (b := true) (t := 26) (by kernel_rfl) (by kernel_rfl) (by kernel_rfl))
  intro w111 u111 e111 d111
  have k116 := k_rqOf d111 (z := (-4)) (by omega) (by omega)
  with_reducible refine Post.mono k116 ?_
  clear k116
  rintro _ u114 g115 ⟨r112, rfl, h113⟩
  refine sy_call 29 41 [.int .i64 8] ?_ (hw := wants1 (g := 2) (b := true) (t := 26) (by kernel_rfl) (by kernel_rfl) (by kernel_rfl))
  intro w117 u117 e117 d117
  have k122 := k_rqOf d117 (z := 8) (by omega) (by omega)
  with_reducible refine Post.mono k122 ?_
  clear k122
  rintro _ u120 g121 ⟨r118, rfl, h119⟩
  refine sy_call 30 46 [r112.v, r118.v] ?_ (hw := wants1 (g := 2) (b := true) (t := 26) (by kernel_rfl) (by kernel_rfl) (by kernel_rfl))
  intro w123 u123 e123 d123
  have k130 := k_r4Make d123 (h113.ext (e117.trans (g121.ext.trans e123))).raw (h119.ext e123).raw (by omega)
  with_reducible refine Post.mono k130 ?_
  clear k130
  rintro _ u128 g129 ⟨r124, r126, rfl, h125, h127⟩
  refine sy_call 31 59 [.agg #[.bool r52.s, .slice r52.m.a r52.m.n r52.m.c, .slice r52.d.a r52.d.n r52.d.c, .bool r54.s, .slice r54.m.a r54.m.n r54.m.c, .slice r54.d.a r54.d.n r54.d.c], .agg #[.bool r124.s, .slice r124.m.a r124.m.n r124.m.c, .slice r124.d.a r124.d.n r124.d.c, .bool r126.s, .slice r126.m.a r126.m.n r126.m.c, .slice r126.d.a r126.d.n r126.d.c]] ?_ (hw := wants1 (g := 2) (b := true) (t := 26) (by kernel_rfl) (by kernel_rfl) (by kernel_rfl))
  intro w131 u131 e131 d131
  have k134 := k_r4Same d131 (h53.ext (e59.trans (g63.ext.trans (e65.trans (g69.ext.trans (e71.trans (g77.ext.trans (e79.trans (g85.ext.trans (e87.trans (g91.ext.trans (e93.trans (g97.ext.trans (e99.trans (g105.ext.trans (e107.trans (g109.ext.trans (e111.trans (g115.ext.trans (e117.trans (g121.ext.trans (e123.trans (g129.ext.trans e131))))))))))))))))))))))) (h55.ext (e59.trans (g63.ext.trans (e65.trans (g69.ext.trans (e71.trans (g77.ext.trans (e79.trans (g85.ext.trans (e87.trans (g91.ext.trans (e93.trans (g97.ext.trans (e99.trans (g105.ext.trans (e107.trans (g109.ext.trans (e111.trans (g115.ext.trans (e117.trans (g121.ext.trans (e123.trans (g129.ext.trans e131))))))))))))))))))))))) (h125.ext e131) (h127.ext e131)
  with_reducible refine Post.mono k134 ?_
  clear k134
  rintro _ u132 g133 rfl
  refine sy_pure 32 (.v (.bool (decide ((Nt.lo4 ((Nt.lo (((-1) : Int) : Rat) ((2 : Int) : Rat)) * (Nt.lo ((3 : Int) : Rat) ((4 : Int) : Rat))) ((Nt.lo (((-1) : Int) : Rat) ((2 : Int) : Rat)) * (Nt.hi ((3 : Int) : Rat) ((4 : Int) : Rat))) ((Nt.hi (((-1) : Int) : Rat) ((2 : Int) : Rat)) * (Nt.lo ((3 : Int) : Rat) ((4 : Int) : Rat))) ((Nt.hi (((-1) : Int) : Rat) ((2 : Int) : Rat)) * (Nt.hi ((3 : Int) : Rat) ((4 : Int) : Rat)))) = (Nt.lo (((-4) : Int) : Rat) ((8 : Int) : Rat))) && decide ((Nt.hi4 ((Nt.lo (((-1) : Int) : Rat) ((2 : Int) : Rat)) * (Nt.lo ((3 : Int) : Rat) ((4 : Int) : Rat))) ((Nt.lo (((-1) : Int) : Rat) ((2 : Int) : Rat)) * (Nt.hi ((3 : Int) : Rat) ((4 : Int) : Rat))) ((Nt.hi (((-1) : Int) : Rat) ((2 : Int) : Rat)) * (Nt.lo ((3 : Int) : Rat) ((4 : Int) : Rat))) ((Nt.hi (((-1) : Int) : Rat) ((2 : Int) : Rat)) * (Nt.hi ((3 : Int) : Rat) ((4 : Int) : Rat)))) = (Nt.hi (((-4) : Int) : Rat) ((8 : Int) : Rat)))))) ?_
  refine sy_eq 33 (x := .v (.bool (decide ((Nt.lo4 ((Nt.lo (((-1) : Int) : Rat) ((2 : Int) : Rat)) * (Nt.lo ((3 : Int) : Rat) ((4 : Int) : Rat))) ((Nt.lo (((-1) : Int) : Rat) ((2 : Int) : Rat)) * (Nt.hi ((3 : Int) : Rat) ((4 : Int) : Rat))) ((Nt.hi (((-1) : Int) : Rat) ((2 : Int) : Rat)) * (Nt.lo ((3 : Int) : Rat) ((4 : Int) : Rat))) ((Nt.hi (((-1) : Int) : Rat) ((2 : Int) : Rat)) * (Nt.hi ((3 : Int) : Rat) ((4 : Int) : Rat)))) = (Nt.lo (((-4) : Int) : Rat) ((8 : Int) : Rat))) && decide ((Nt.hi4 ((Nt.lo (((-1) : Int) : Rat) ((2 : Int) : Rat)) * (Nt.lo ((3 : Int) : Rat) ((4 : Int) : Rat))) ((Nt.lo (((-1) : Int) : Rat) ((2 : Int) : Rat)) * (Nt.hi ((3 : Int) : Rat) ((4 : Int) : Rat))) ((Nt.hi (((-1) : Int) : Rat) ((2 : Int) : Rat)) * (Nt.lo ((3 : Int) : Rat) ((4 : Int) : Rat))) ((Nt.hi (((-1) : Int) : Rat) ((2 : Int) : Rat)) * (Nt.hi ((3 : Int) : Rat) ((4 : Int) : Rat)))) = (Nt.hi (((-4) : Int) : Rat) ((8 : Int) : Rat)))))) (.v (.bool true)) (by rw [show (decide ((Nt.lo4 ((Nt.lo (((-1) : Int) : Rat) ((2 : Int) : Rat)) * (Nt.lo ((3 : Int) : Rat) ((4 : Int) : Rat))) ((Nt.lo (((-1) : Int) : Rat) ((2 : Int) : Rat)) * (Nt.hi ((3 : Int) : Rat) ((4 : Int) : Rat))) ((Nt.hi (((-1) : Int) : Rat) ((2 : Int) : Rat)) * (Nt.lo ((3 : Int) : Rat) ((4 : Int) : Rat))) ((Nt.hi (((-1) : Int) : Rat) ((2 : Int) : Rat)) * (Nt.hi ((3 : Int) : Rat) ((4 : Int) : Rat)))) = (Nt.lo (((-4) : Int) : Rat) ((8 : Int) : Rat))) && decide ((Nt.hi4 ((Nt.lo (((-1) : Int) : Rat) ((2 : Int) : Rat)) * (Nt.lo ((3 : Int) : Rat) ((4 : Int) : Rat))) ((Nt.lo (((-1) : Int) : Rat) ((2 : Int) : Rat)) * (Nt.hi ((3 : Int) : Rat) ((4 : Int) : Rat))) ((Nt.hi (((-1) : Int) : Rat) ((2 : Int) : Rat)) * (Nt.lo ((3 : Int) : Rat) ((4 : Int) : Rat))) ((Nt.hi (((-1) : Int) : Rat) ((2 : Int) : Rat)) * (Nt.hi ((3 : Int) : Rat) ((4 : Int) : Rat)))) = (Nt.hi (((-4) : Int) : Rat) ((8 : Int) : Rat)))) = true from (by decide +kernel)]) ?_
  refine sy_ldv 34 (.v (.agg #[.bool r80.s, .slice r80.m.a r80.m.n r80.m.c, .slice r80.d.a r80.d.n r80.d.c, .bool r82.s, .slice r82.m.a r82.m.n r82.m.c, .slice r82.d.a r82.d.n r82.d.c])) ty28 part_agg ?_ (hw := wants1 (g := 9) (b := true) (t := 33) (by kernel_rfl) (by kernel_rfl) (by kernel_rfl))
  refine sy_call 35 41 [.int .i64 0] ?_ (hw := wants1 (g := 9) (b := true) (t := 33) (by kernel_rfl) (by kernel_rfl) (by kernel_rfl))
  intro w136 u136 e136 d136
  have k141 := k_rqOf d136 (z := 0) (by omega) (by omega)
  with_reducible refine Post.mono k141 ?_
  clear k141
  rintro _ u139 g140 ⟨r137, rfl, h138⟩
  refine sy_call 36 41 [.int .i64 4] ?_ (hw := wants1 (g := 9) (b := true) (t := 33) (by kernel_rfl) (by kernel_rfl) (by kernel_rfl))
  intro w142 u142 e142 d142
  have k147 := k_rqOf d142 (z := 4) (by omega) (by omega)
  with_reducible refine Post.mono k147 ?_
  clear k147
  rintro _ u145 g146 ⟨r143, rfl, h144⟩
  refine sy_call 37 46 [r137.v, r143.v] ?_ (hw := wants1 (g := 9) (b := true) (t := 33) (by kernel_rfl) (by kernel_rfl) (by kernel_rfl))
  intro w148 u148 e148 d148
  have k155 := k_r4Make d148 (h138.ext (e142.trans (g146.ext.trans e148))).raw (h144.ext e148).raw (by omega)
  with_reducible refine Post.mono k155 ?_
  clear k155
  rintro _ u153 g154 ⟨r149, r151, rfl, h150, h152⟩
  refine sy_call 38 59 [.agg #[.bool r80.s, .slice r80.m.a r80.m.n r80.m.c, .slice r80.d.a r80.d.n r80.d.c, .bool r82.s, .slice r82.m.a r82.m.n r82.m.c, .slice r82.d.a r82.d.n r82.d.c], .agg #[.bool r149.s, .slice r149.m.a r149.m.n r149.m.c, .slice r149.d.a r149.d.n r149.d.c, .bool r151.s, .slice r151.m.a r151.m.n r151.m.c, .slice r151.d.a r151.d.n r151.d.c]] ?_ (hw := wants1 (g := 9) (b := true) (t := 33) (by kernel_rfl) (by kernel_rfl) (by kernel_rfl))
  intro w156 u156 e156 d156
  have k159 := k_r4Same d156 (h81.ext (e87.trans (g91.ext.trans (e93.trans (g97.ext.trans (e99.trans (g105.ext.trans (e107.trans (g109.ext.trans (e111.trans (g115.ext.trans (e117.trans (g121.ext.trans (e123.trans (g129.ext.trans (e131.trans (g133.ext.trans (e136.trans (g140.ext.trans (e142.trans (g146.ext.trans (e148.trans (g154.ext.trans e156))))))))))))))))))))))) (h83.ext (e87.trans (g91.ext.trans (e93.trans (g97.ext.trans (e99.trans (g105.ext.trans (e107.trans (g109.ext.trans (e111.trans (g115.ext.trans (e117.trans (g121.ext.trans (e123.trans (g129.ext.trans (e131.trans (g133.ext.trans (e136.trans (g140.ext.trans (e142.trans (g146.ext.trans (e148.trans (g154.ext.trans e156))))))))))))))))))))))) (h150.ext e156) (h152.ext e156)
  with_reducible refine Post.mono k159 ?_
  clear k159
  rintro _ u157 g158 rfl
  refine sy_pure 39 (.v (.bool (decide ((if Nt.sgI (Nt.lo (((-1) : Int) : Rat) ((2 : Int) : Rat)) (Nt.hi (((-1) : Int) : Rat) ((2 : Int) : Rat)) = 0 then 0 else Nt.lo ((Nt.lo (((-1) : Int) : Rat) ((2 : Int) : Rat)) * (Nt.lo (((-1) : Int) : Rat) ((2 : Int) : Rat))) ((Nt.hi (((-1) : Int) : Rat) ((2 : Int) : Rat)) * (Nt.hi (((-1) : Int) : Rat) ((2 : Int) : Rat)))) = (Nt.lo ((0 : Int) : Rat) ((4 : Int) : Rat))) && decide ((Nt.hi ((Nt.lo (((-1) : Int) : Rat) ((2 : Int) : Rat)) * (Nt.lo (((-1) : Int) : Rat) ((2 : Int) : Rat))) ((Nt.hi (((-1) : Int) : Rat) ((2 : Int) : Rat)) * (Nt.hi (((-1) : Int) : Rat) ((2 : Int) : Rat)))) = (Nt.hi ((0 : Int) : Rat) ((4 : Int) : Rat)))))) ?_
  refine sy_pure 0 (.v (.bool (decide ((if Nt.sgI (Nt.lo (((-1) : Int) : Rat) ((2 : Int) : Rat)) (Nt.hi (((-1) : Int) : Rat) ((2 : Int) : Rat)) = 0 then 0 else Nt.lo ((Nt.lo (((-1) : Int) : Rat) ((2 : Int) : Rat)) * (Nt.lo (((-1) : Int) : Rat) ((2 : Int) : Rat))) ((Nt.hi (((-1) : Int) : Rat) ((2 : Int) : Rat)) * (Nt.hi (((-1) : Int) : Rat) ((2 : Int) : Rat)))) = (Nt.lo ((0 : Int) : Rat) ((4 : Int) : Rat))) && decide ((Nt.hi ((Nt.lo (((-1) : Int) : Rat) ((2 : Int) : Rat)) * (Nt.lo (((-1) : Int) : Rat) ((2 : Int) : Rat))) ((Nt.hi (((-1) : Int) : Rat) ((2 : Int) : Rat)) * (Nt.hi (((-1) : Int) : Rat) ((2 : Int) : Rat)))) = (Nt.hi ((0 : Int) : Rat) ((4 : Int) : Rat)))))) ?_
  refine sy_next 40 [(0, .v (.bool (decide ((if Nt.sgI (Nt.lo (((-1) : Int) : Rat) ((2 : Int) : Rat)) (Nt.hi (((-1) : Int) : Rat) ((2 : Int) : Rat)) = 0 then 0 else Nt.lo ((Nt.lo (((-1) : Int) : Rat) ((2 : Int) : Rat)) * (Nt.lo (((-1) : Int) : Rat) ((2 : Int) : Rat))) ((Nt.hi (((-1) : Int) : Rat) ((2 : Int) : Rat)) * (Nt.hi (((-1) : Int) : Rat) ((2 : Int) : Rat)))) = (Nt.lo ((0 : Int) : Rat) ((4 : Int) : Rat))) && decide ((Nt.hi ((Nt.lo (((-1) : Int) : Rat) ((2 : Int) : Rat)) * (Nt.lo (((-1) : Int) : Rat) ((2 : Int) : Rat))) ((Nt.hi (((-1) : Int) : Rat) ((2 : Int) : Rat)) * (Nt.hi (((-1) : Int) : Rat) ((2 : Int) : Rat)))) = (Nt.hi ((0 : Int) : Rat) ((4 : Int) : Rat))))))] [] ?_
  refine sw_ret (ret0 [.bool (decide ((if Nt.sgI (Nt.lo (((-1) : Int) : Rat) ((2 : Int) : Rat)) (Nt.hi (((-1) : Int) : Rat) ((2 : Int) : Rat)) = 0 then 0 else Nt.lo ((Nt.lo (((-1) : Int) : Rat) ((2 : Int) : Rat)) * (Nt.lo (((-1) : Int) : Rat) ((2 : Int) : Rat))) ((Nt.hi (((-1) : Int) : Rat) ((2 : Int) : Rat)) * (Nt.hi (((-1) : Int) : Rat) ((2 : Int) : Rat)))) = (Nt.lo ((0 : Int) : Rat) ((4 : Int) : Rat))) && decide ((Nt.hi ((Nt.lo (((-1) : Int) : Rat) ((2 : Int) : Rat)) * (Nt.lo (((-1) : Int) : Rat) ((2 : Int) : Rat))) ((Nt.hi (((-1) : Int) : Rat) ((2 : Int) : Rat)) * (Nt.hi (((-1) : Int) : Rat) ((2 : Int) : Rat)))) = (Nt.hi ((0 : Int) : Rat) ((4 : Int) : Rat))))] ⟨res_tmp, trivial⟩ fun u160 e161 => ?_)
  show Value.bool _ = Value.bool _
  rw [show (decide ((if Nt.sgI (Nt.lo (((-1) : Int) : Rat) ((2 : Int) : Rat)) (Nt.hi (((-1) : Int) : Rat) ((2 : Int) : Rat)) = 0 then 0 else Nt.lo ((Nt.lo (((-1) : Int) : Rat) ((2 : Int) : Rat)) * (Nt.lo (((-1) : Int) : Rat) ((2 : Int) : Rat))) ((Nt.hi (((-1) : Int) : Rat) ((2 : Int) : Rat)) * (Nt.hi (((-1) : Int) : Rat) ((2 : Int) : Rat)))) = (Nt.lo ((0 : Int) : Rat) ((4 : Int) : Rat))) && decide ((Nt.hi ((Nt.lo (((-1) : Int) : Rat) ((2 : Int) : Rat)) * (Nt.lo (((-1) : Int) : Rat) ((2 : Int) : Rat))) ((Nt.hi (((-1) : Int) : Rat) ((2 : Int) : Rat)) * (Nt.hi (((-1) : Int) : Rat) ((2 : Int) : Rat)))) = (Nt.hi ((0 : Int) : Rat) ((4 : Int) : Rat)))) = true from by decide +kernel]
theorem lohi (x y : Rat) : Nt.lo (Nt.lo x y) (Nt.hi x y) = Nt.lo x y ∧ Nt.hi (Nt.lo x y) (Nt.hi x y) = Nt.hi x y := Nt.lo_of_le (Nt.lo_le_hi x y)
/-- A number of an interval. -/
def btw (x y : Rat) (n : Int) : Rat := Nt.lo x y + (Nt.hi x y - Nt.lo x y) * (((n % 9 : Int) : Rat) / ((8 : Int) : Rat))
theorem k_between {u w : World} {a1 a2 : RL} {x1 x2 : Rat} {n : Int} {K : Nat} (d : Dat u w) (ha1 : RatV u a1 x1 K) (ha2 : RatV u a2 x2 K) (hK : K ≤ 10000000) (hn0 : -9223372036854775808 ≤ n) (hn1 : n ≤ 9223372036854775807) : Calls Tryz.prog 13 #[IV a1 a2, .int .i64 n] w (Post u w fun v u' => ∃ p : RL, v = p.v ∧ RatN u' p (btw x1 x2 n) (3 * K + 10)) := by
  refine calls_sym (args := [.agg #[.bool a1.s, .slice a1.m.a a1.m.n a1.m.c, .slice a1.d.a a1.d.n a1.d.c, .bool a2.s, .slice a2.m.a a2.m.n a2.m.c, .slice a2.d.a a2.d.n a2.d.c], .int .i64 n]) Tryz.func13 rfl Tryz.ntmps13 (rs := [.cell 4 26]) Tryz.results13 (le_b rfl) (le_b rfl) d ?_
  refine sw_seq ?_
  refine sw_reg ?_
  refine sy_new 2 ⟨28, a1.cs ++ a2.cs⟩ ?_
  refine sy_new 4 ⟨26, [.bool false, .slice none 0 0, .slice none 0 0]⟩ ?_
  refine sy_next 16 [(1, .v (.int .i64 n)), (2, .adr 2 0), (4, .adr 4 0)] [(2, ⟨28, a1.cs ++ a2.cs⟩), (4, ⟨26, [.bool false, .slice none 0 0, .slice none 0 0]⟩)] ?_
  refine sw_seq ?_
  refine sw_reg ?_
  refine sy_ldv 5 (.v (.agg #[.bool a1.s, .slice a1.m.a a1.m.n a1.m.c, .slice a1.d.a a1.d.n a1.d.c, .bool a2.s, .slice a2.m.a a2.m.n a2.m.c, .slice a2.d.a a2.d.n a2.d.c])) ty28 part_agg ?_
  refine sy_call 6 69 [.agg #[.bool a1.s, .slice a1.m.a a1.m.n a1.m.c, .slice a1.d.a a1.d.n a1.d.c, .bool a2.s, .slice a2.m.a a2.m.n a2.m.c, .slice a2.d.a a2.d.n a2.d.c]] ?_
  intro w11 u11 e11 d11
  have k18 := k_r4Trim d11 (ha1.ext e11) (ha2.ext e11) (by omega)
  with_reducible refine Post.mono k18 ?_
  clear k18
  rintro _ u16 g17 ⟨r12, r14, rfl, h13, h15⟩
  refine sy_store ⟨28, r12.cs ++ r14.cs⟩ ty28 ?_
  refine sy_next 16 [(1, .v (.int .i64 n)), (2, .adr 2 0), (4, .adr 4 0)] [(2, ⟨28, r12.cs ++ r14.cs⟩), (4, ⟨26, [.bool false, .slice none 0 0, .slice none 0 0]⟩)] ?_
  refine sw_seq ?_
  refine sw_any [0, 1, 0, 4, 0, 28, 60, 124, 255, 511] [(0, []), (1, []), (2, []), (4, []), (3, []), (5, []), (6, []), (7, []), (8, []), (9, [])] (by kernel_rfl) (by kernel_rfl) ?_
  refine sy_pure 7 (.adr 2 0) ?_
  refine sy_ldv 8 (.v (r12.v)) ty26 part_agg ?_
  refine sy_ldv 9 (.v (.agg #[.bool r12.s, .slice r12.m.a r12.m.n r12.m.c, .slice r12.d.a r12.d.n r12.d.c, .bool r14.s, .slice r14.m.a r14.m.n r14.m.c, .slice r14.d.a r14.d.n r14.d.c])) ty28 part_agg ?_
  refine sy_pure 11 (.v (.int .i64 n)) ?_
  refine sy_call 10 48 [.agg #[.bool r12.s, .slice r12.m.a r12.m.n r12.m.c, .slice r12.d.a r12.d.n r12.d.c, .bool r14.s, .slice r14.m.a r14.m.n r14.m.c, .slice r14.d.a r14.d.n r14.d.c]] ?_
  intro w19 u19 e19 d19
  have k24 := k_r4Width d19 (h13.ext e19).raw (h15.ext e19).raw (by omega)
  with_reducible refine Post.mono k24 ?_
  clear k24
  rintro _ u22 g23 ⟨r20, rfl, h21⟩
  refine sy_call 12 50 [.int .i64 n, .int .i64 9] ?_
  intro w25 u25 e25 d25
  have k28 := k_Mod d25 (n := n) (m := 9) (by omega) (by omega) (by omega) (by omega)
  with_reducible refine Post.mono k28 ?_
  clear k28
  rintro _ u26 g27 rfl
  refine sy_call 13 49 [.int .i64 (n % 9), .int .i64 8] ?_
  intro w29 u29 e29 d29
  have k34 := k_rqFrac d29 (a := n % 9) (b := 8) (by omega) (by omega) (by omega) (by omega)
  with_reducible refine Post.mono k34 ?_
  clear k34
  rintro _ u32 g33 ⟨r30, rfl, h31⟩
  refine sy_call 14 22 [r20.v, r30.v] ?_
  intro w35 u35 e35 d35
  have k40 := k_rqMul d35 (h21.ext (e25.trans (g27.ext.trans (e29.trans (g33.ext.trans e35))))).raw (h31.ext e35).raw (by omega) (by omega)
  with_reducible refine Post.mono k40 ?_
  clear k40
  rintro _ u38 g39 ⟨r36, rfl, h37⟩
  refine sy_call 15 18 [r12.v, r36.v] ?_
  intro w41 u41 e41 d41
  have k46 := k_rqAdd d41 (h13.ext (e19.trans (g23.ext.trans (e25.trans (g27.ext.trans (e29.trans (g33.ext.trans (e35.trans (g39.ext.trans e41))))))))).raw (h37.ext e41).raw (by omega) (by omega)
  with_reducible refine Post.mono k46 ?_
  clear k46
  rintro _ u44 g45 ⟨r42, rfl, h43⟩
  refine sy_store ⟨26, r42.cs⟩ ty26 ?_
  refine sy_next 16 [(4, .adr 4 0)] [(4, ⟨26, r42.cs⟩)] ?_
  refine sw_ret (ret0 [r42.v] ⟨res_cell ty26 part_agg, trivial⟩ fun u47 e48 => ?_)
  refine ⟨r42, rfl, RatN.more (K := (K + ((K + K + 2) + 3 + 1) + 2)) ?_ (by omega)⟩
  unfold btw
  have h9 := (h43.ext e48)
  rw [(lohi x1 x2).1, (lohi x1 x2).2] at h9
  exact h9
end Go.Proofs.YtnedhbidmfoegaaGreat
