/- IntervalEncloses, walked. Printed by wip/sym/g_l4.py. -/
import Derived.Test.YtnedhbidmfoegaaGreatIfA
namespace Go.Proofs.YtnedhbidmfoegaaGreat
open Go.RowKit
set_option linter.unusedVariables false
theorem btw_in (x y : Rat) (n : Int) : Nt.lo x y ≤ btw x y n ∧ btw x y n ≤ Nt.hi x y := by
  have h0 := Int.emod_nonneg n (show (9 : Int) ≠ 0 by decide)
  have h1 := Int.emod_lt_of_pos n (show (0 : Int) < 9 by decide)
  refine Nt.part_in x y ?_ ?_
  · rw [Nt.le_div (by decide)]
    have : ((0 : Int) : Rat) ≤ ((n % 9 : Int) : Rat) := Rat.intCast_le_intCast.2 h0
    grind
  · rw [Nt.div_le (by decide)]
    have : ((n % 9 : Int) : Rat) ≤ ((8 : Int) : Rat) := Rat.intCast_le_intCast.2 (by omega)
    grind
set_option maxHeartbeats 4000000 in
theorem w_encloses {u w : World} {a1 a2 : RL} {x1 x2 : Rat} {K : Nat} {b1 b2 : RL} {y1 y2 : Rat} {L : Nat} {n : Int} {m : Int} (d : Dat u w) (ha1 : RatV u a1 x1 K) (ha2 : RatV u a2 x2 K) (hb1 : RatV u b1 y1 L) (hb2 : RatV u b2 y2 L) (hn0 : -9223372036854775808 ≤ n) (hn1 : n ≤ 9223372036854775807) (hm0 : -9223372036854775808 ≤ m) (hm1 : m ≤ 9223372036854775807) : Calls Tryz.prog 3 #[IV a1 a2, IV b1 b2, .int .i64 n, .int .i64 m] w (Post u w fun v _ => v = .bool true) := by
  refine calls_sym (args := [.agg #[.bool a1.s, .slice a1.m.a a1.m.n a1.m.c, .slice a1.d.a a1.d.n a1.d.c, .bool a2.s, .slice a2.m.a a2.m.n a2.m.c, .slice a2.d.a a2.d.n a2.d.c], .agg #[.bool b1.s, .slice b1.m.a b1.m.n b1.m.c, .slice b1.d.a b1.d.n b1.d.c, .bool b2.s, .slice b2.m.a b2.m.n b2.m.c, .slice b2.d.a b2.d.n b2.d.c], .int .i64 n, .int .i64 m]) Tryz.func3 rfl Tryz.ntmps3 (rs := [.tmp 8]) Tryz.results3 (le_b rfl) (le_b rfl) d ?_
  refine sw_seq ?_
  refine sw_reg ?_
  refine sy_new 4 ⟨28, a1.cs ++ a2.cs⟩ ?_
  refine sy_new 5 ⟨28, b1.cs ++ b2.cs⟩ ?_
  refine sy_pure 8 (.v (.bool false)) ?_
  refine sy_next 85 [(2, .v (.int .i64 n)), (3, .v (.int .i64 m)), (4, .adr 4 0), (5, .adr 5 0)] [(4, ⟨28, a1.cs ++ a2.cs⟩), (5, ⟨28, b1.cs ++ b2.cs⟩)] ?_
  refine sw_seq ?_
  refine sw_seq ?_
  refine sw_reg ?_
  refine sy_ldv 13 (.v (.agg #[.bool a1.s, .slice a1.m.a a1.m.n a1.m.c, .slice a1.d.a a1.d.n a1.d.c, .bool a2.s, .slice a2.m.a a2.m.n a2.m.c, .slice a2.d.a a2.d.n a2.d.c])) ty28 part_agg ?_
  refine sy_call 14 11 [.agg #[.bool a1.s, .slice a1.m.a a1.m.n a1.m.c, .slice a1.d.a a1.d.n a1.d.c, .bool a2.s, .slice a2.m.a a2.m.n a2.m.c, .slice a2.d.a a2.d.n a2.d.c]] ?_
  intro w11 u11 e11 d11
  have k14 := k_smallOn (a := a1) (b := a2) d11
  with_reducible refine Post.mono k14 ?_
  clear k14
  rintro _ u12 g13 rfl
  refine sy_pure 15 (.v (.bool (!(smR a1 && smR a2)))) ?_
  rcases Bool.eq_false_or_eq_true (!(smR a1 && smR a2)) with hs15 | hs15
  · refine sy_eq 16 (x := .v (.bool (!(smR a1 && smR a2)))) (.v (.bool true)) (by rw [hs15]) ?_
    refine sy_drop 17 (unwanted (g := 3) (b := false) (c := true) (t := 16) (by kernel_rfl) (by kernel_rfl) (by kernel_rfl) (by kernel_rfl)) ?_
    refine sy_drop 18 (unwanted (g := 3) (b := false) (c := true) (t := 16) (by kernel_rfl) (by kernel_rfl) (by kernel_rfl) (by kernel_rfl)) ?_
    refine sy_drop 19 (unwanted (g := 3) (b := false) (c := true) (t := 16) (by kernel_rfl) (by kernel_rfl) (by kernel_rfl) (by kernel_rfl)) ?_
    refine sy_pure 20 (.v (.bool true)) ?_
    refine sy_next 85 [(2, .v (.int .i64 n)), (3, .v (.int .i64 m)), (4, .adr 4 0), (5, .adr 5 0), (20, .v (.bool true))] [(4, ⟨28, a1.cs ++ a2.cs⟩), (5, ⟨28, b1.cs ++ b2.cs⟩)] ?_
    refine sw_true (by kernel_rfl) ?_
    refine sw_seq ?_
    refine sw_reg ?_
    refine sy_call 21 12 [] ?_
    intro w16 u16 e16 d16
    have k19 := k_awake4 d16
    with_reducible refine Post.mono k19 ?_
    clear k19
    rintro _ u17 g18 rfl
    refine sy_pure 8 (.v (.bool true)) ?_
    refine sy_next 85 [(8, .v (.bool true))] [] ?_
    refine sw_ret (mpr_seq (ret0 [.bool true] ⟨res_tmp, trivial⟩ fun u20 e21 => ?_))
    exact rfl
  · refine sy_eq 16 (x := .v (.bool (!(smR a1 && smR a2)))) (.v (.bool false)) (by rw [hs15]) ?_
    have qhs15 : smR a1 = true ∧ smR a2 = true := by simpa using hs15
    have ha1f := smR_few ha1 qhs15.1
    have ha2f := smR_few ha2 qhs15.2
    refine sy_ldv 17 (.v (.agg #[.bool b1.s, .slice b1.m.a b1.m.n b1.m.c, .slice b1.d.a b1.d.n b1.d.c, .bool b2.s, .slice b2.m.a b2.m.n b2.m.c, .slice b2.d.a b2.d.n b2.d.c])) ty28 part_agg ?_ (hw := wants1 (g := 3) (b := false) (t := 16) (by kernel_rfl) (by kernel_rfl) (by kernel_rfl))
    refine sy_call 18 11 [.agg #[.bool b1.s, .slice b1.m.a b1.m.n b1.m.c, .slice b1.d.a b1.d.n b1.d.c, .bool b2.s, .slice b2.m.a b2.m.n b2.m.c, .slice b2.d.a b2.d.n b2.d.c]] ?_ (hw := wants1 (g := 3) (b := false) (t := 16) (by kernel_rfl) (by kernel_rfl) (by kernel_rfl))
    intro w22 u22 e22 d22
    have k25 := k_smallOn (a := b1) (b := b2) d22
    with_reducible refine Post.mono k25 ?_
    clear k25
    rintro _ u23 g24 rfl
    refine sy_pure 19 (.v (.bool (!(smR b1 && smR b2)))) ?_ (hw := wants1 (g := 3) (b := false) (t := 16) (by kernel_rfl) (by kernel_rfl) (by kernel_rfl))
    refine sy_pure 20 (.v (.bool (!(smR b1 && smR b2)))) ?_
    refine sy_next 85 [(2, .v (.int .i64 n)), (3, .v (.int .i64 m)), (4, .adr 4 0), (5, .adr 5 0), (20, .v (.bool (!(smR b1 && smR b2))))] [(4, ⟨28, a1.cs ++ a2.cs⟩), (5, ⟨28, b1.cs ++ b2.cs⟩)] ?_
    refine sw_cond (b := !(smR b1 && smR b2)) (by kernel_rfl) (fun hb26 => ?_) (fun hb26 => ?_)
    · replace hb26 : (!(smR b1 && smR b2)) = true := hb26
      refine sw_seq ?_
      refine sw_reg ?_
      refine sy_call 21 12 [] ?_
      intro w27 u27 e27 d27
      have k30 := k_awake4 d27
      with_reducible refine Post.mono k30 ?_
      clear k30
      rintro _ u28 g29 rfl
      refine sy_pure 8 (.v (.bool true)) ?_
      refine sy_next 85 [(8, .v (.bool true))] [] ?_
      refine sw_ret (mpr_seq (ret0 [.bool true] ⟨res_tmp, trivial⟩ fun u31 e32 => ?_))
      exact rfl
    · replace hb26 : (!(smR b1 && smR b2)) = false := hb26
      have qhb26 : smR b1 = true ∧ smR b2 = true := by simpa using hb26
      have hb1f := smR_few hb1 qhb26.1
      have hb2f := smR_few hb2 qhb26.2
      refine sw_skip (mp_seq ?_)
      refine sw_seq ?_
      refine sw_any [0, 0, 3, 0, 0, 31, 0, 0, 255, 511] [(0, []), (1, []), (3, []), (4, []), (6, []), (7, []), (2, []), (5, []), (8, []), (9, [])] (by kernel_rfl) (by kernel_rfl) ?_
      refine sy_ldv 22 (.v (.agg #[.bool a1.s, .slice a1.m.a a1.m.n a1.m.c, .slice a1.d.a a1.d.n a1.d.c, .bool a2.s, .slice a2.m.a a2.m.n a2.m.c, .slice a2.d.a a2.d.n a2.d.c])) ty28 part_agg ?_
      refine sy_pure 23 (.v (.int .i64 n)) ?_
      refine sy_ldv 25 (.v (.agg #[.bool b1.s, .slice b1.m.a b1.m.n b1.m.c, .slice b1.d.a b1.d.n b1.d.c, .bool b2.s, .slice b2.m.a b2.m.n b2.m.c, .slice b2.d.a b2.d.n b2.d.c])) ty28 part_agg ?_
      refine sy_pure 26 (.v (.int .i64 m)) ?_
      refine sy_new 9 ⟨26, [.bool false, .slice none 0 0, .slice none 0 0]⟩ ?_
      refine sy_new 10 ⟨26, [.bool false, .slice none 0 0, .slice none 0 0]⟩ ?_
      refine sy_call 24 13 [.agg #[.bool a1.s, .slice a1.m.a a1.m.n a1.m.c, .slice a1.d.a a1.d.n a1.d.c, .bool a2.s, .slice a2.m.a a2.m.n a2.m.c, .slice a2.d.a a2.d.n a2.d.c], .int .i64 n] ?_
      intro w33 u33 e33 d33
      have k38 := k_between (n := n) d33 (ha1f.ext (e11.trans (g13.ext.trans (e22.trans (g24.ext.trans e33))))) (ha2f.ext (e11.trans (g13.ext.trans (e22.trans (g24.ext.trans e33))))) (by omega) (by omega) (by omega)
      with_reducible refine Post.mono k38 ?_
      clear k38
      rintro _ u36 g37 ⟨r34, rfl, h35⟩
      refine sy_call 27 13 [.agg #[.bool b1.s, .slice b1.m.a b1.m.n b1.m.c, .slice b1.d.a b1.d.n b1.d.c, .bool b2.s, .slice b2.m.a b2.m.n b2.m.c, .slice b2.d.a b2.d.n b2.d.c], .int .i64 m] ?_
      intro w39 u39 e39 d39
      have k44 := k_between (n := m) d39 (hb1f.ext (e11.trans (g13.ext.trans (e22.trans (g24.ext.trans (e33.trans (g37.ext.trans e39))))))) (hb2f.ext (e11.trans (g13.ext.trans (e22.trans (g24.ext.trans (e33.trans (g37.ext.trans e39))))))) (by omega) (by omega) (by omega)
      with_reducible refine Post.mono k44 ?_
      clear k44
      rintro _ u42 g43 ⟨r40, rfl, h41⟩
      refine sy_store ⟨26, r34.cs⟩ ty26 ?_
      refine sy_store ⟨26, r40.cs⟩ ty26 ?_
      refine sy_next 85 [(4, .adr 4 0), (5, .adr 5 0), (9, .adr 9 0), (10, .adr 10 0)] [(4, ⟨28, a1.cs ++ a2.cs⟩), (5, ⟨28, b1.cs ++ b2.cs⟩), (9, ⟨26, r34.cs⟩), (10, ⟨26, r40.cs⟩)] ?_
      refine sw_seq ?_
      refine sw_seq ?_
      refine sw_reg ?_
      refine sy_ldv 29 (.v (.agg #[.bool a1.s, .slice a1.m.a a1.m.n a1.m.c, .slice a1.d.a a1.d.n a1.d.c, .bool a2.s, .slice a2.m.a a2.m.n a2.m.c, .slice a2.d.a a2.d.n a2.d.c])) ty28 part_agg ?_
      refine sy_ldv 30 (.v (.agg #[.bool b1.s, .slice b1.m.a b1.m.n b1.m.c, .slice b1.d.a b1.d.n b1.d.c, .bool b2.s, .slice b2.m.a b2.m.n b2.m.c, .slice b2.d.a b2.d.n b2.d.c])) ty28 part_agg ?_
      refine sy_call 31 14 [.agg #[.bool a1.s, .slice a1.m.a a1.m.n a1.m.c, .slice a1.d.a a1.d.n a1.d.c, .bool a2.s, .slice a2.m.a a2.m.n a2.m.c, .slice a2.d.a a2.d.n a2.d.c], .agg #[.bool b1.s, .slice b1.m.a b1.m.n b1.m.c, .slice b1.d.a b1.d.n b1.d.c, .bool b2.s, .slice b2.m.a b2.m.n b2.m.c, .slice b2.d.a b2.d.n b2.d.c]] ?_
      intro w45 u45 e45 d45
      have k53 := k_ivDiv d45 (ha1f.ext (e11.trans (g13.ext.trans (e22.trans (g24.ext.trans (e33.trans (g37.ext.trans (e39.trans (g43.ext.trans e45))))))))) (ha2f.ext (e11.trans (g13.ext.trans (e22.trans (g24.ext.trans (e33.trans (g37.ext.trans (e39.trans (g43.ext.trans e45))))))))) (hb1f.ext (e11.trans (g13.ext.trans (e22.trans (g24.ext.trans (e33.trans (g37.ext.trans (e39.trans (g43.ext.trans e45))))))))) (hb2f.ext (e11.trans (g13.ext.trans (e22.trans (g24.ext.trans (e33.trans (g37.ext.trans (e39.trans (g43.ext.trans e45))))))))) (by omega) (by omega)
      with_reducible refine Post.mono k53 ?_
      clear k53
      rintro _ u51 g52 (⟨hm46, rfl⟩ | ⟨hm46, r47, r49, rfl, h48, h50⟩)
      · skip
        refine sy_pure 28 (.v (.tuple #[.agg #[.bool false, .slice none 0 0, .slice none 0 0, .bool false, .slice none 0 0, .slice none 0 0], .int .i64 3])) ?_
        refine sy_pure 32 (.v (.agg #[.bool false, .slice none 0 0, .slice none 0 0, .bool false, .slice none 0 0, .slice none 0 0])) ?_
        refine sy_pure 33 (.v (.int .i64 3)) ?_
        refine sy_new 11 ⟨28, [.bool false, .slice none 0 0, .slice none 0 0, .bool false, .slice none 0 0, .slice none 0 0]⟩ ?_
        refine sy_store ⟨28, [.bool false, .slice none 0 0, .slice none 0 0, .bool false, .slice none 0 0, .slice none 0 0]⟩ ty28 ?_
        refine sy_pure 12 (.v (.int .i64 3)) ?_
        refine sy_next 85 [(4, .adr 4 0), (5, .adr 5 0), (9, .adr 9 0), (10, .adr 10 0), (11, .adr 11 0), (12, .v (.int .i64 3))] [(4, ⟨28, a1.cs ++ a2.cs⟩), (5, ⟨28, b1.cs ++ b2.cs⟩), (9, ⟨26, r34.cs⟩), (10, ⟨26, r40.cs⟩), (11, ⟨28, [.bool false, .slice none 0 0, .slice none 0 0, .bool false, .slice none 0 0, .slice none 0 0]⟩)] ?_
        refine sw_seq ?_
        refine sw_any [0, 1, 3, 7, 7, 7, 55, 127, 255, 511] [(0, []), (1, []), (2, []), (3, []), (4, []), (5, []), (6, []), (7, []), (8, []), (9, [])] (by kernel_rfl) (by kernel_rfl) ?_
        refine sy_pure 34 (.v (.int .i64 3)) ?_
        refine sy_pure 35 (.v (.bool false)) ?_
        refine sy_pure 36 (.v (.bool false)) ?_
        refine sy_drop 37 (unwanted (g := 2) (b := true) (c := false) (t := 36) (by kernel_rfl) (by kernel_rfl) (by kernel_rfl) (by kernel_rfl)) ?_
        refine sy_drop 38 (unwanted (g := 2) (b := true) (c := false) (t := 36) (by kernel_rfl) (by kernel_rfl) (by kernel_rfl) (by kernel_rfl)) ?_
        refine sy_drop 39 (unwanted (g := 2) (b := true) (c := false) (t := 36) (by kernel_rfl) (by kernel_rfl) (by kernel_rfl) (by kernel_rfl)) ?_
        refine sy_drop 40 (unwanted (g := 2) (b := true) (c := false) (t := 36) (by kernel_rfl) (by kernel_rfl) (by kernel_rfl) (by kernel_rfl)) ?_
        refine sy_drop 41 (unwanted (g := 2) (b := true) (c := false) (t := 36) (by kernel_rfl) (by kernel_rfl) (by kernel_rfl) (by kernel_rfl)) ?_
        refine sy_drop 42 (unwanted (g := 2) (b := true) (c := false) (t := 36) (by kernel_rfl) (by kernel_rfl) (by kernel_rfl) (by kernel_rfl)) ?_
        refine sy_pure 43 (.v (.bool false)) ?_
        refine sy_next 85 [(4, .adr 4 0), (5, .adr 5 0), (9, .adr 9 0), (10, .adr 10 0), (43, .v (.bool false))] [(4, ⟨28, a1.cs ++ a2.cs⟩), (5, ⟨28, b1.cs ++ b2.cs⟩), (9, ⟨26, r34.cs⟩), (10, ⟨26, r40.cs⟩)] ?_
        refine sw_false (by kernel_rfl) ?_
        refine sw_skip (mp_seq ?_)
        refine sw_seq ?_
        refine sw_any [0, 1, 3, 3, 15, 3, 3, 127, 255, 511, 1023, 2047, 2047, 8191, 2047, 2047, 65535, 131071, 262143, 524287, 1048575, 1048575, 4194303, 1048575, 1048575, 33554431, 67108863, 134217727, 268435455, 536870911, 1073741823, 536870911, 536870911, 8589934591, 17179869183, 34359738367, 68719476735, 137438953471, 137438953471, 549755813887, 1099511627775, 2199023255551] [(0, []), (1, []), (2, []), (3, []), (5, []), (6, []), (4, []), (7, []), (8, []), (9, []), (10, []), (11, []), (12, []), (14, []), (15, []), (13, []), (16, []), (17, []), (18, []), (19, []), (20, []), (21, []), (23, []), (24, []), (22, []), (25, []), (26, []), (27, []), (28, []), (29, []), (31, []), (32, []), (30, []), (33, []), (34, []), (35, []), (36, []), (37, []), (38, []), (39, []), (40, []), (41, [])] (by kernel_rfl) (by kernel_rfl) ?_
        refine sy_call 44 12 [] ?_
        intro w54 u54 e54 d54
        have k57 := k_awake4 d54
        with_reducible refine Post.mono k57 ?_
        clear k57
        rintro _ u55 g56 rfl
        refine sy_pure 45 (.v (.bool true)) ?_
        refine sy_ldv 46 (.v (.agg #[.bool a1.s, .slice a1.m.a a1.m.n a1.m.c, .slice a1.d.a a1.d.n a1.d.c, .bool a2.s, .slice a2.m.a a2.m.n a2.m.c, .slice a2.d.a a2.d.n a2.d.c])) ty28 part_agg ?_ (hw := wants1 (g := 1) (b := true) (t := 45) (by kernel_rfl) (by kernel_rfl) (by kernel_rfl))
        refine sy_ldv 47 (.v (.agg #[.bool b1.s, .slice b1.m.a b1.m.n b1.m.c, .slice b1.d.a b1.d.n b1.d.c, .bool b2.s, .slice b2.m.a b2.m.n b2.m.c, .slice b2.d.a b2.d.n b2.d.c])) ty28 part_agg ?_ (hw := wants1 (g := 1) (b := true) (t := 45) (by kernel_rfl) (by kernel_rfl) (by kernel_rfl))
        refine sy_ldv 49 (.v (r34.v)) ty26 part_agg ?_ (hw := wants1 (g := 1) (b := true) (t := 45) (by kernel_rfl) (by kernel_rfl) (by kernel_rfl))
        refine sy_ldv 50 (.v (r40.v)) ty26 part_agg ?_ (hw := wants1 (g := 1) (b := true) (t := 45) (by kernel_rfl) (by kernel_rfl) (by kernel_rfl))
        refine sy_call 48 17 [.agg #[.bool a1.s, .slice a1.m.a a1.m.n a1.m.c, .slice a1.d.a a1.d.n a1.d.c, .bool a2.s, .slice a2.m.a a2.m.n a2.m.c, .slice a2.d.a a2.d.n a2.d.c], .agg #[.bool b1.s, .slice b1.m.a b1.m.n b1.m.c, .slice b1.d.a b1.d.n b1.d.c, .bool b2.s, .slice b2.m.a b2.m.n b2.m.c, .slice b2.d.a b2.d.n b2.d.c]] ?_ (hw := wants1 (g := 1) (b := true) (t := 45) (by kernel_rfl) (by kernel_rfl) (by kernel_rfl))
        intro w58 u58 e58 d58
        have k65 := k_ivAdd d58 (ha1f.ext (e11.trans (g13.ext.trans (e22.trans (g24.ext.trans (e33.trans (g37.ext.trans (e39.trans (g43.ext.trans (e45.trans (g52.ext.trans (e54.trans (g56.ext.trans e58))))))))))))) (ha2f.ext (e11.trans (g13.ext.trans (e22.trans (g24.ext.trans (e33.trans (g37.ext.trans (e39.trans (g43.ext.trans (e45.trans (g52.ext.trans (e54.trans (g56.ext.trans e58))))))))))))) (hb1f.ext (e11.trans (g13.ext.trans (e22.trans (g24.ext.trans (e33.trans (g37.ext.trans (e39.trans (g43.ext.trans (e45.trans (g52.ext.trans (e54.trans (g56.ext.trans e58))))))))))))) (hb2f.ext (e11.trans (g13.ext.trans (e22.trans (g24.ext.trans (e33.trans (g37.ext.trans (e39.trans (g43.ext.trans (e45.trans (g52.ext.trans (e54.trans (g56.ext.trans e58))))))))))))) (by omega) (by omega)
        with_reducible refine Post.mono k65 ?_
        clear k65
        rintro _ u63 g64 ⟨r59, r61, rfl, h60, h62⟩
        refine sy_call 51 18 [r34.v, r40.v] ?_ (hw := wants1 (g := 1) (b := true) (t := 45) (by kernel_rfl) (by kernel_rfl) (by kernel_rfl))
        intro w66 u66 e66 d66
        have k71 := k_rqAdd d66 (h35.ext (e39.trans (g43.ext.trans (e45.trans (g52.ext.trans (e54.trans (g56.ext.trans (e58.trans (g64.ext.trans e66))))))))).raw (h41.ext (e45.trans (g52.ext.trans (e54.trans (g56.ext.trans (e58.trans (g64.ext.trans e66))))))).raw (by omega) (by omega)
        with_reducible refine Post.mono k71 ?_
        clear k71
        rintro _ u69 g70 ⟨r67, rfl, h68⟩
        refine sy_call 52 15 [.agg #[.bool r59.s, .slice r59.m.a r59.m.n r59.m.c, .slice r59.d.a r59.d.n r59.d.c, .bool r61.s, .slice r61.m.a r61.m.n r61.m.c, .slice r61.d.a r61.d.n r61.d.c], r67.v] ?_ (hw := wants1 (g := 1) (b := true) (t := 45) (by kernel_rfl) (by kernel_rfl) (by kernel_rfl))
        intro w72 u72 e72 d72
        have k75 := k_r4Contains d72 (h60.ext (e66.trans (g70.ext.trans e72))).raw (h62.ext (e66.trans (g70.ext.trans e72))).raw (h68.ext e72).raw (by omega) (by omega)
        with_reducible refine Post.mono k75 ?_
        clear k75
        rintro _ u73 g74 rfl
        refine sy_pure 53 (.v (.bool (Nt.inI (Nt.lo x1 x2 + Nt.lo y1 y2) (Nt.hi x1 x2 + Nt.hi y1 y2) ((btw x1 x2 n) + (btw y1 y2 m))))) ?_
        refine sy_eq 54 (x := .v (.bool (Nt.inI (Nt.lo x1 x2 + Nt.lo y1 y2) (Nt.hi x1 x2 + Nt.hi y1 y2) ((btw x1 x2 n) + (btw y1 y2 m))))) (.v (.bool true)) (by rw [show (Nt.inI (Nt.lo x1 x2 + Nt.lo y1 y2) (Nt.hi x1 x2 + Nt.hi y1 y2) ((btw x1 x2 n) + (btw y1 y2 m))) = true from Nt.add_in (btw_in x1 x2 n) (btw_in y1 y2 m)]) ?_
        refine sy_ldv 55 (.v (.agg #[.bool a1.s, .slice a1.m.a a1.m.n a1.m.c, .slice a1.d.a a1.d.n a1.d.c, .bool a2.s, .slice a2.m.a a2.m.n a2.m.c, .slice a2.d.a a2.d.n a2.d.c])) ty28 part_agg ?_ (hw := wants1 (g := 10) (b := true) (t := 54) (by kernel_rfl) (by kernel_rfl) (by kernel_rfl))
        refine sy_ldv 56 (.v (.agg #[.bool b1.s, .slice b1.m.a b1.m.n b1.m.c, .slice b1.d.a b1.d.n b1.d.c, .bool b2.s, .slice b2.m.a b2.m.n b2.m.c, .slice b2.d.a b2.d.n b2.d.c])) ty28 part_agg ?_ (hw := wants1 (g := 10) (b := true) (t := 54) (by kernel_rfl) (by kernel_rfl) (by kernel_rfl))
        refine sy_ldv 58 (.v (r34.v)) ty26 part_agg ?_ (hw := wants1 (g := 10) (b := true) (t := 54) (by kernel_rfl) (by kernel_rfl) (by kernel_rfl))
        refine sy_ldv 59 (.v (r40.v)) ty26 part_agg ?_ (hw := wants1 (g := 10) (b := true) (t := 54) (by kernel_rfl) (by kernel_rfl) (by kernel_rfl))
        refine sy_call 57 19 [.agg #[.bool a1.s, .slice a1.m.a a1.m.n a1.m.c, .slice a1.d.a a1.d.n a1.d.c, .bool a2.s, .slice a2.m.a a2.m.n a2.m.c, .slice a2.d.a a2.d.n a2.d.c], .agg #[.bool b1.s, .slice b1.m.a b1.m.n b1.m.c, .slice b1.d.a b1.d.n b1.d.c, .bool b2.s, .slice b2.m.a b2.m.n b2.m.c, .slice b2.d.a b2.d.n b2.d.c]] ?_ (hw := wants1 (g := 10) (b := true) (t := 54) (by kernel_rfl) (by kernel_rfl) (by kernel_rfl))
        intro w77 u77 e77 d77
        have k84 := k_ivSub d77 (ha1f.ext (e11.trans (g13.ext.trans (e22.trans (g24.ext.trans (e33.trans (g37.ext.trans (e39.trans (g43.ext.trans (e45.trans (g52.ext.trans (e54.trans (g56.ext.trans (e58.trans (g64.ext.trans (e66.trans (g70.ext.trans (e72.trans (g74.ext.trans e77))))))))))))))))))) (ha2f.ext (e11.trans (g13.ext.trans (e22.trans (g24.ext.trans (e33.trans (g37.ext.trans (e39.trans (g43.ext.trans (e45.trans (g52.ext.trans (e54.trans (g56.ext.trans (e58.trans (g64.ext.trans (e66.trans (g70.ext.trans (e72.trans (g74.ext.trans e77))))))))))))))))))) (hb1f.ext (e11.trans (g13.ext.trans (e22.trans (g24.ext.trans (e33.trans (g37.ext.trans (e39.trans (g43.ext.trans (e45.trans (g52.ext.trans (e54.trans (g56.ext.trans (e58.trans (g64.ext.trans (e66.trans (g70.ext.trans (e72.trans (g74.ext.trans e77))))))))))))))))))) (hb2f.ext (e11.trans (g13.ext.trans (e22.trans (g24.ext.trans (e33.trans (g37.ext.trans (e39.trans (g43.ext.trans (e45.trans (g52.ext.trans (e54.trans (g56.ext.trans (e58.trans (g64.ext.trans (e66.trans (g70.ext.trans (e72.trans (g74.ext.trans e77))))))))))))))))))) (by omega) (by omega)
        with_reducible refine Post.mono k84 ?_
        clear k84
        rintro _ u82 g83 ⟨r78, r80, rfl, h79, h81⟩
        refine sy_call 60 20 [r34.v, r40.v] ?_ (hw := wants1 (g := 10) (b := true) (t := 54) (by kernel_rfl) (by kernel_rfl) (by kernel_rfl))
        intro w85 u85 e85 d85
        have k90 := k_rqSub d85 (h35.ext (e39.trans (g43.ext.trans (e45.trans (g52.ext.trans (e54.trans (g56.ext.trans (e58.trans (g64.ext.trans (e66.trans (g70.ext.trans (e72.trans (g74.ext.trans (e77.trans (g83.ext.trans e85))))))))))))))).raw (h41.ext (e45.trans (g52.ext.trans (e54.trans (g56.ext.trans (e58.trans (g64.ext.trans (e66.trans (g70.ext.trans (e72.trans (g74.ext.trans (e77.trans (g83.ext.trans e85))))))))))))).raw (by omega) (by omega)
        with_reducible refine Post.mono k90 ?_
        clear k90
        rintro _ u88 g89 ⟨r86, rfl, h87⟩
        refine sy_call 61 15 [.agg #[.bool r78.s, .slice r78.m.a r78.m.n r78.m.c, .slice r78.d.a r78.d.n r78.d.c, .bool r80.s, .slice r80.m.a r80.m.n r80.m.c, .slice r80.d.a r80.d.n r80.d.c], r86.v] ?_ (hw := wants1 (g := 10) (b := true) (t := 54) (by kernel_rfl) (by kernel_rfl) (by kernel_rfl))
        intro w91 u91 e91 d91
        have k94 := k_r4Contains d91 (h79.ext (e85.trans (g89.ext.trans e91))).raw (h81.ext (e85.trans (g89.ext.trans e91))).raw (h87.ext e91).raw (by omega) (by omega)
        with_reducible refine Post.mono k94 ?_
        clear k94
        rintro _ u92 g93 rfl
        refine sy_pure 62 (.v (.bool (Nt.inI (Nt.lo x1 x2 - Nt.hi y1 y2) (Nt.hi x1 x2 - Nt.lo y1 y2) ((btw x1 x2 n) - (btw y1 y2 m))))) ?_
        refine sy_eq 63 (x := .v (.bool (Nt.inI (Nt.lo x1 x2 - Nt.hi y1 y2) (Nt.hi x1 x2 - Nt.lo y1 y2) ((btw x1 x2 n) - (btw y1 y2 m))))) (.v (.bool true)) (by rw [show (Nt.inI (Nt.lo x1 x2 - Nt.hi y1 y2) (Nt.hi x1 x2 - Nt.lo y1 y2) ((btw x1 x2 n) - (btw y1 y2 m))) = true from Nt.sub_in (btw_in x1 x2 n) (btw_in y1 y2 m)]) ?_
        refine sy_ldv 64 (.v (.agg #[.bool a1.s, .slice a1.m.a a1.m.n a1.m.c, .slice a1.d.a a1.d.n a1.d.c, .bool a2.s, .slice a2.m.a a2.m.n a2.m.c, .slice a2.d.a a2.d.n a2.d.c])) ty28 part_agg ?_ (hw := wants1 (g := 19) (b := true) (t := 63) (by kernel_rfl) (by kernel_rfl) (by kernel_rfl))
        refine sy_ldv 65 (.v (.agg #[.bool b1.s, .slice b1.m.a b1.m.n b1.m.c, .slice b1.d.a b1.d.n b1.d.c, .bool b2.s, .slice b2.m.a b2.m.n b2.m.c, .slice b2.d.a b2.d.n b2.d.c])) ty28 part_agg ?_ (hw := wants1 (g := 19) (b := true) (t := 63) (by kernel_rfl) (by kernel_rfl) (by kernel_rfl))
        refine sy_ldv 67 (.v (r34.v)) ty26 part_agg ?_ (hw := wants1 (g := 19) (b := true) (t := 63) (by kernel_rfl) (by kernel_rfl) (by kernel_rfl))
        refine sy_ldv 68 (.v (r40.v)) ty26 part_agg ?_ (hw := wants1 (g := 19) (b := true) (t := 63) (by kernel_rfl) (by kernel_rfl) (by kernel_rfl))
        refine sy_call 66 21 [.agg #[.bool a1.s, .slice a1.m.a a1.m.n a1.m.c, .slice a1.d.a a1.d.n a1.d.c, .bool a2.s, .slice a2.m.a a2.m.n a2.m.c, .slice a2.d.a a2.d.n a2.d.c], .agg #[.bool b1.s, .slice b1.m.a b1.m.n b1.m.c, .slice b1.d.a b1.d.n b1.d.c, .bool b2.s, .slice b2.m.a b2.m.n b2.m.c, .slice b2.d.a b2.d.n b2.d.c]] ?_ (hw := wants1 (g := 19) (b := true) (t := 63) (by kernel_rfl) (by kernel_rfl) (by kernel_rfl))
        intro w96 u96 e96 d96
        have k103 := k_ivMul d96 (ha1f.ext (e11.trans (g13.ext.trans (e22.trans (g24.ext.trans (e33.trans (g37.ext.trans (e39.trans (g43.ext.trans (e45.trans (g52.ext.trans (e54.trans (g56.ext.trans (e58.trans (g64.ext.trans (e66.trans (g70.ext.trans (e72.trans (g74.ext.trans (e77.trans (g83.ext.trans (e85.trans (g89.ext.trans (e91.trans (g93.ext.trans e96))))))))))))))))))))))))) (ha2f.ext (e11.trans (g13.ext.trans (e22.trans (g24.ext.trans (e33.trans (g37.ext.trans (e39.trans (g43.ext.trans (e45.trans (g52.ext.trans (e54.trans (g56.ext.trans (e58.trans (g64.ext.trans (e66.trans (g70.ext.trans (e72.trans (g74.ext.trans (e77.trans (g83.ext.trans (e85.trans (g89.ext.trans (e91.trans (g93.ext.trans e96))))))))))))))))))))))))) (hb1f.ext (e11.trans (g13.ext.trans (e22.trans (g24.ext.trans (e33.trans (g37.ext.trans (e39.trans (g43.ext.trans (e45.trans (g52.ext.trans (e54.trans (g56.ext.trans (e58.trans (g64.ext.trans (e66.trans (g70.ext.trans (e72.trans (g74.ext.trans (e77.trans (g83.ext.trans (e85.trans (g89.ext.trans (e91.trans (g93.ext.trans e96))))))))))))))))))))))))) (hb2f.ext (e11.trans (g13.ext.trans (e22.trans (g24.ext.trans (e33.trans (g37.ext.trans (e39.trans (g43.ext.trans (e45.trans (g52.ext.trans (e54.trans (g56.ext.trans (e58.trans (g64.ext.trans (e66.trans (g70.ext.trans (e72.trans (g74.ext.trans (e77.trans (g83.ext.trans (e85.trans (g89.ext.trans (e91.trans (g93.ext.trans e96))))))))))))))))))))))))) (by omega) (by omega)
        with_reducible refine Post.mono k103 ?_
        clear k103
        rintro _ u101 g102 ⟨r97, r99, rfl, h98, h100⟩
        refine sy_call 69 22 [r34.v, r40.v] ?_ (hw := wants1 (g := 19) (b := true) (t := 63) (by kernel_rfl) (by kernel_rfl) (by kernel_rfl))
        intro w104 u104 e104 d104
        have k109 := k_rqMul d104 (h35.ext (e39.trans (g43.ext.trans (e45.trans (g52.ext.trans (e54.trans (g56.ext.trans (e58.trans (g64.ext.trans (e66.trans (g70.ext.trans (e72.trans (g74.ext.trans (e77.trans (g83.ext.trans (e85.trans (g89.ext.trans (e91.trans (g93.ext.trans (e96.trans (g102.ext.trans e104))))))))))))))))))))).raw (h41.ext (e45.trans (g52.ext.trans (e54.trans (g56.ext.trans (e58.trans (g64.ext.trans (e66.trans (g70.ext.trans (e72.trans (g74.ext.trans (e77.trans (g83.ext.trans (e85.trans (g89.ext.trans (e91.trans (g93.ext.trans (e96.trans (g102.ext.trans e104))))))))))))))))))).raw (by omega) (by omega)
        with_reducible refine Post.mono k109 ?_
        clear k109
        rintro _ u107 g108 ⟨r105, rfl, h106⟩
        refine sy_call 70 15 [.agg #[.bool r97.s, .slice r97.m.a r97.m.n r97.m.c, .slice r97.d.a r97.d.n r97.d.c, .bool r99.s, .slice r99.m.a r99.m.n r99.m.c, .slice r99.d.a r99.d.n r99.d.c], r105.v] ?_ (hw := wants1 (g := 19) (b := true) (t := 63) (by kernel_rfl) (by kernel_rfl) (by kernel_rfl))
        intro w110 u110 e110 d110
        have k113 := k_r4Contains d110 (h98.ext (e104.trans (g108.ext.trans e110))).raw (h100.ext (e104.trans (g108.ext.trans e110))).raw (h106.ext e110).raw (by omega) (by omega)
        with_reducible refine Post.mono k113 ?_
        clear k113
        rintro _ u111 g112 rfl
        refine sy_pure 71 (.v (.bool (Nt.inI (Nt.lo4 (x1 * y1) (x1 * y2) (x2 * y1) (x2 * y2)) (Nt.hi4 (x1 * y1) (x1 * y2) (x2 * y1) (x2 * y2)) ((btw x1 x2 n) * (btw y1 y2 m))))) ?_
        refine sy_eq 72 (x := .v (.bool (Nt.inI (Nt.lo4 (x1 * y1) (x1 * y2) (x2 * y1) (x2 * y2)) (Nt.hi4 (x1 * y1) (x1 * y2) (x2 * y1) (x2 * y2)) ((btw x1 x2 n) * (btw y1 y2 m))))) (.v (.bool true)) (by rw [show (Nt.inI (Nt.lo4 (x1 * y1) (x1 * y2) (x2 * y1) (x2 * y2)) (Nt.hi4 (x1 * y1) (x1 * y2) (x2 * y1) (x2 * y2)) ((btw x1 x2 n) * (btw y1 y2 m))) = true from Nt.mul_inI (btw_in x1 x2 n) (btw_in y1 y2 m)]) ?_
        refine sy_ldv 73 (.v (.agg #[.bool a1.s, .slice a1.m.a a1.m.n a1.m.c, .slice a1.d.a a1.d.n a1.d.c, .bool a2.s, .slice a2.m.a a2.m.n a2.m.c, .slice a2.d.a a2.d.n a2.d.c])) ty28 part_agg ?_ (hw := wants1 (g := 28) (b := true) (t := 72) (by kernel_rfl) (by kernel_rfl) (by kernel_rfl))
        refine sy_ldv 75 (.v (r34.v)) ty26 part_agg ?_ (hw := wants1 (g := 28) (b := true) (t := 72) (by kernel_rfl) (by kernel_rfl) (by kernel_rfl))
        refine sy_ldv 76 (.v (r34.v)) ty26 part_agg ?_ (hw := wants1 (g := 28) (b := true) (t := 72) (by kernel_rfl) (by kernel_rfl) (by kernel_rfl))
        refine sy_call 74 23 [.agg #[.bool a1.s, .slice a1.m.a a1.m.n a1.m.c, .slice a1.d.a a1.d.n a1.d.c, .bool a2.s, .slice a2.m.a a2.m.n a2.m.c, .slice a2.d.a a2.d.n a2.d.c]] ?_ (hw := wants1 (g := 28) (b := true) (t := 72) (by kernel_rfl) (by kernel_rfl) (by kernel_rfl))
        intro w115 u115 e115 d115
        have k122 := k_ivSquare d115 (ha1f.ext (e11.trans (g13.ext.trans (e22.trans (g24.ext.trans (e33.trans (g37.ext.trans (e39.trans (g43.ext.trans (e45.trans (g52.ext.trans (e54.trans (g56.ext.trans (e58.trans (g64.ext.trans (e66.trans (g70.ext.trans (e72.trans (g74.ext.trans (e77.trans (g83.ext.trans (e85.trans (g89.ext.trans (e91.trans (g93.ext.trans (e96.trans (g102.ext.trans (e104.trans (g108.ext.trans (e110.trans (g112.ext.trans e115))))))))))))))))))))))))))))))) (ha2f.ext (e11.trans (g13.ext.trans (e22.trans (g24.ext.trans (e33.trans (g37.ext.trans (e39.trans (g43.ext.trans (e45.trans (g52.ext.trans (e54.trans (g56.ext.trans (e58.trans (g64.ext.trans (e66.trans (g70.ext.trans (e72.trans (g74.ext.trans (e77.trans (g83.ext.trans (e85.trans (g89.ext.trans (e91.trans (g93.ext.trans (e96.trans (g102.ext.trans (e104.trans (g108.ext.trans (e110.trans (g112.ext.trans e115))))))))))))))))))))))))))))))) (by omega)
        with_reducible refine Post.mono k122 ?_
        clear k122
        rintro _ u120 g121 ⟨r116, r118, rfl, h117, h119⟩
        refine sy_call 77 22 [r34.v, r34.v] ?_ (hw := wants1 (g := 28) (b := true) (t := 72) (by kernel_rfl) (by kernel_rfl) (by kernel_rfl))
        intro w123 u123 e123 d123
        have k128 := k_rqMul d123 (h35.ext (e39.trans (g43.ext.trans (e45.trans (g52.ext.trans (e54.trans (g56.ext.trans (e58.trans (g64.ext.trans (e66.trans (g70.ext.trans (e72.trans (g74.ext.trans (e77.trans (g83.ext.trans (e85.trans (g89.ext.trans (e91.trans (g93.ext.trans (e96.trans (g102.ext.trans (e104.trans (g108.ext.trans (e110.trans (g112.ext.trans (e115.trans (g121.ext.trans e123))))))))))))))))))))))))))).raw (h35.ext (e39.trans (g43.ext.trans (e45.trans (g52.ext.trans (e54.trans (g56.ext.trans (e58.trans (g64.ext.trans (e66.trans (g70.ext.trans (e72.trans (g74.ext.trans (e77.trans (g83.ext.trans (e85.trans (g89.ext.trans (e91.trans (g93.ext.trans (e96.trans (g102.ext.trans (e104.trans (g108.ext.trans (e110.trans (g112.ext.trans (e115.trans (g121.ext.trans e123))))))))))))))))))))))))))).raw (by omega) (by omega)
        with_reducible refine Post.mono k128 ?_
        clear k128
        rintro _ u126 g127 ⟨r124, rfl, h125⟩
        refine sy_call 78 15 [.agg #[.bool r116.s, .slice r116.m.a r116.m.n r116.m.c, .slice r116.d.a r116.d.n r116.d.c, .bool r118.s, .slice r118.m.a r118.m.n r118.m.c, .slice r118.d.a r118.d.n r118.d.c], r124.v] ?_ (hw := wants1 (g := 28) (b := true) (t := 72) (by kernel_rfl) (by kernel_rfl) (by kernel_rfl))
        intro w129 u129 e129 d129
        have k132 := k_r4Contains d129 (h117.ext (e123.trans (g127.ext.trans e129))).raw (h119.ext (e123.trans (g127.ext.trans e129))).raw (h125.ext e129).raw (by omega) (by omega)
        with_reducible refine Post.mono k132 ?_
        clear k132
        rintro _ u130 g131 rfl
        refine sy_pure 79 (.v (.bool (Nt.inI (if Nt.sgI x1 x2 = 0 then 0 else Nt.lo (x1 * x1) (x2 * x2)) (Nt.hi (x1 * x1) (x2 * x2)) ((btw x1 x2 n) * (btw x1 x2 n))))) ?_
        refine sy_eq 80 (x := .v (.bool (Nt.inI (if Nt.sgI x1 x2 = 0 then 0 else Nt.lo (x1 * x1) (x2 * x2)) (Nt.hi (x1 * x1) (x2 * x2)) ((btw x1 x2 n) * (btw x1 x2 n))))) (.v (.bool true)) (by rw [show (Nt.inI (if Nt.sgI x1 x2 = 0 then 0 else Nt.lo (x1 * x1) (x2 * x2)) (Nt.hi (x1 * x1) (x2 * x2)) ((btw x1 x2 n) * (btw x1 x2 n))) = true from Nt.sq_inI (btw_in x1 x2 n)]) ?_
        refine sy_ldv 81 (.v (.agg #[.bool a1.s, .slice a1.m.a a1.m.n a1.m.c, .slice a1.d.a a1.d.n a1.d.c, .bool a2.s, .slice a2.m.a a2.m.n a2.m.c, .slice a2.d.a a2.d.n a2.d.c])) ty28 part_agg ?_ (hw := wants1 (g := 36) (b := true) (t := 80) (by kernel_rfl) (by kernel_rfl) (by kernel_rfl))
        refine sy_ldv 82 (.v (r34.v)) ty26 part_agg ?_ (hw := wants1 (g := 36) (b := true) (t := 80) (by kernel_rfl) (by kernel_rfl) (by kernel_rfl))
        refine sy_call 83 24 [.agg #[.bool a1.s, .slice a1.m.a a1.m.n a1.m.c, .slice a1.d.a a1.d.n a1.d.c, .bool a2.s, .slice a2.m.a a2.m.n a2.m.c, .slice a2.d.a a2.d.n a2.d.c], r34.v] ?_ (hw := wants1 (g := 36) (b := true) (t := 80) (by kernel_rfl) (by kernel_rfl) (by kernel_rfl))
        intro w134 u134 e134 d134
        have k137 := k_ivContains d134 (ha1f.ext (e11.trans (g13.ext.trans (e22.trans (g24.ext.trans (e33.trans (g37.ext.trans (e39.trans (g43.ext.trans (e45.trans (g52.ext.trans (e54.trans (g56.ext.trans (e58.trans (g64.ext.trans (e66.trans (g70.ext.trans (e72.trans (g74.ext.trans (e77.trans (g83.ext.trans (e85.trans (g89.ext.trans (e91.trans (g93.ext.trans (e96.trans (g102.ext.trans (e104.trans (g108.ext.trans (e110.trans (g112.ext.trans (e115.trans (g121.ext.trans (e123.trans (g127.ext.trans (e129.trans (g131.ext.trans e134))))))))))))))))))))))))))))))))))))) (ha2f.ext (e11.trans (g13.ext.trans (e22.trans (g24.ext.trans (e33.trans (g37.ext.trans (e39.trans (g43.ext.trans (e45.trans (g52.ext.trans (e54.trans (g56.ext.trans (e58.trans (g64.ext.trans (e66.trans (g70.ext.trans (e72.trans (g74.ext.trans (e77.trans (g83.ext.trans (e85.trans (g89.ext.trans (e91.trans (g93.ext.trans (e96.trans (g102.ext.trans (e104.trans (g108.ext.trans (e110.trans (g112.ext.trans (e115.trans (g121.ext.trans (e123.trans (g127.ext.trans (e129.trans (g131.ext.trans e134))))))))))))))))))))))))))))))))))))) (h35.ext (e39.trans (g43.ext.trans (e45.trans (g52.ext.trans (e54.trans (g56.ext.trans (e58.trans (g64.ext.trans (e66.trans (g70.ext.trans (e72.trans (g74.ext.trans (e77.trans (g83.ext.trans (e85.trans (g89.ext.trans (e91.trans (g93.ext.trans (e96.trans (g102.ext.trans (e104.trans (g108.ext.trans (e110.trans (g112.ext.trans (e115.trans (g121.ext.trans (e123.trans (g127.ext.trans (e129.trans (g131.ext.trans e134))))))))))))))))))))))))))))))).raw (by omega) (by omega)
        with_reducible refine Post.mono k137 ?_
        clear k137
        rintro _ u135 g136 rfl
        refine sy_pure 84 (.v (.bool (Nt.inI x1 x2 (btw x1 x2 n)))) ?_
        refine sy_pure 8 (.v (.bool (Nt.inI x1 x2 (btw x1 x2 n)))) ?_
        refine sy_next 85 [(8, .v (.bool (Nt.inI x1 x2 (btw x1 x2 n))))] [] ?_
        refine sw_ret (ret0 [.bool (Nt.inI x1 x2 (btw x1 x2 n))] ⟨res_tmp, trivial⟩ fun u138 e139 => ?_)
        show Value.bool _ = Value.bool _
        rw [show (Nt.inI x1 x2 (btw x1 x2 n)) = true from Nt.inI_true.2 (btw_in x1 x2 n)]
      · skip
        refine sy_pure 28 (.v (.tuple #[.agg #[.bool r47.s, .slice r47.m.a r47.m.n r47.m.c, .slice r47.d.a r47.d.n r47.d.c, .bool r49.s, .slice r49.m.a r49.m.n r49.m.c, .slice r49.d.a r49.d.n r49.d.c], .int .i64 0])) ?_
        refine sy_pure 32 (.v (.agg #[.bool r47.s, .slice r47.m.a r47.m.n r47.m.c, .slice r47.d.a r47.d.n r47.d.c, .bool r49.s, .slice r49.m.a r49.m.n r49.m.c, .slice r49.d.a r49.d.n r49.d.c])) ?_
        refine sy_pure 33 (.v (.int .i64 0)) ?_
        refine sy_new 11 ⟨28, [.bool false, .slice none 0 0, .slice none 0 0, .bool false, .slice none 0 0, .slice none 0 0]⟩ ?_
        refine sy_store ⟨28, r47.cs ++ r49.cs⟩ ty28 ?_
        refine sy_pure 12 (.v (.int .i64 0)) ?_
        refine sy_next 85 [(4, .adr 4 0), (5, .adr 5 0), (9, .adr 9 0), (10, .adr 10 0), (11, .adr 11 0), (12, .v (.int .i64 0))] [(4, ⟨28, a1.cs ++ a2.cs⟩), (5, ⟨28, b1.cs ++ b2.cs⟩), (9, ⟨26, r34.cs⟩), (10, ⟨26, r40.cs⟩), (11, ⟨28, r47.cs ++ r49.cs⟩)] ?_
        refine sw_seq ?_
        refine sw_any [0, 1, 3, 7, 7, 7, 55, 127, 255, 511] [(0, []), (1, []), (2, []), (3, []), (4, []), (5, []), (6, []), (7, []), (8, []), (9, [])] (by kernel_rfl) (by kernel_rfl) ?_
        refine sy_pure 34 (.v (.int .i64 0)) ?_
        refine sy_pure 35 (.v (.bool true)) ?_
        refine sy_pure 36 (.v (.bool true)) ?_
        refine sy_ldv 37 (.v (.agg #[.bool r47.s, .slice r47.m.a r47.m.n r47.m.c, .slice r47.d.a r47.d.n r47.d.c, .bool r49.s, .slice r49.m.a r49.m.n r49.m.c, .slice r49.d.a r49.d.n r49.d.c])) ty28 part_agg ?_ (hw := wants1 (g := 2) (b := true) (t := 36) (by kernel_rfl) (by kernel_rfl) (by kernel_rfl))
        refine sy_ldv 38 (.v (r34.v)) ty26 part_agg ?_ (hw := wants1 (g := 2) (b := true) (t := 36) (by kernel_rfl) (by kernel_rfl) (by kernel_rfl))
        refine sy_ldv 39 (.v (r40.v)) ty26 part_agg ?_ (hw := wants1 (g := 2) (b := true) (t := 36) (by kernel_rfl) (by kernel_rfl) (by kernel_rfl))
        refine sy_call 40 16 [r34.v, r40.v] ?_ (hw := wants1 (g := 2) (b := true) (t := 36) (by kernel_rfl) (by kernel_rfl) (by kernel_rfl))
        intro w140 u140 e140 d140
        have k145 := k_rqOver d140 (h35.ext (e39.trans (g43.ext.trans (e45.trans (g52.ext.trans e140))))).raw (h41.ext (e45.trans (g52.ext.trans e140))).raw (by omega) (by omega)
        with_reducible refine Post.mono k145 ?_
        clear k145
        rintro _ u143 g144 ⟨r141, rfl, h142⟩
        refine sy_call 41 15 [.agg #[.bool r47.s, .slice r47.m.a r47.m.n r47.m.c, .slice r47.d.a r47.d.n r47.d.c, .bool r49.s, .slice r49.m.a r49.m.n r49.m.c, .slice r49.d.a r49.d.n r49.d.c], r141.v] ?_ (hw := wants1 (g := 2) (b := true) (t := 36) (by kernel_rfl) (by kernel_rfl) (by kernel_rfl))
        intro w146 u146 e146 d146
        have k149 := k_r4Contains d146 (h48.ext (e140.trans (g144.ext.trans e146))).raw (h50.ext (e140.trans (g144.ext.trans e146))).raw (h142.ext e146).raw (by omega) (by omega)
        with_reducible refine Post.mono k149 ?_
        clear k149
        rintro _ u147 g148 rfl
        refine sy_pure 42 (.v (.bool (!(Nt.inI (Nt.lo4 (x1 / y1) (x1 / y2) (x2 / y1) (x2 / y2)) (Nt.hi4 (x1 / y1) (x1 / y2) (x2 / y1) (x2 / y2)) ((btw x1 x2 n) / (btw y1 y2 m)))))) ?_ (hw := wants1 (g := 2) (b := true) (t := 36) (by kernel_rfl) (by kernel_rfl) (by kernel_rfl))
        refine sy_pure 43 (.v (.bool (!(Nt.inI (Nt.lo4 (x1 / y1) (x1 / y2) (x2 / y1) (x2 / y2)) (Nt.hi4 (x1 / y1) (x1 / y2) (x2 / y1) (x2 / y2)) ((btw x1 x2 n) / (btw y1 y2 m)))))) ?_
        refine sy_next 85 [(4, .adr 4 0), (5, .adr 5 0), (9, .adr 9 0), (10, .adr 10 0), (43, .v (.bool (!(Nt.inI (Nt.lo4 (x1 / y1) (x1 / y2) (x2 / y1) (x2 / y2)) (Nt.hi4 (x1 / y1) (x1 / y2) (x2 / y1) (x2 / y2)) ((btw x1 x2 n) / (btw y1 y2 m))))))] [(4, ⟨28, a1.cs ++ a2.cs⟩), (5, ⟨28, b1.cs ++ b2.cs⟩), (9, ⟨26, r34.cs⟩), (10, ⟨26, r40.cs⟩)] ?_
        refine sw_cond (b := !(Nt.inI (Nt.lo4 (x1 / y1) (x1 / y2) (x2 / y1) (x2 / y2)) (Nt.hi4 (x1 / y1) (x1 / y2) (x2 / y1) (x2 / y2)) ((btw x1 x2 n) / (btw y1 y2 m)))) (by kernel_rfl) (fun hb => ?_) (fun hb => ?_)
        · exact absurd hb (by rw [show (!(Nt.inI (Nt.lo4 (x1 / y1) (x1 / y2) (x2 / y1) (x2 / y2)) (Nt.hi4 (x1 / y1) (x1 / y2) (x2 / y1) (x2 / y2)) ((btw x1 x2 n) / (btw y1 y2 m)))) = false from Nt.nott (Nt.div_inI hm46 (btw_in x1 x2 n) (btw_in y1 y2 m))]; decide)
        · clear hb
          refine sw_skip (mp_seq ?_)
          refine sw_seq ?_
          refine sw_any [0, 1, 3, 3, 15, 3, 3, 127, 255, 511, 1023, 2047, 2047, 8191, 2047, 2047, 65535, 131071, 262143, 524287, 1048575, 1048575, 4194303, 1048575, 1048575, 33554431, 67108863, 134217727, 268435455, 536870911, 1073741823, 536870911, 536870911, 8589934591, 17179869183, 34359738367, 68719476735, 137438953471, 137438953471, 549755813887, 1099511627775, 2199023255551] [(0, []), (1, []), (2, []), (3, []), (5, []), (6, []), (4, []), (7, []), (8, []), (9, []), (10, []), (11, []), (12, []), (14, []), (15, []), (13, []), (16, []), (17, []), (18, []), (19, []), (20, []), (21, []), (23, []), (24, []), (22, []), (25, []), (26, []), (27, []), (28, []), (29, []), (31, []), (32, []), (30, []), (33, []), (34, []), (35, []), (36, []), (37, []), (38, []), (39, []), (40, []), (41, [])] (by kernel_rfl) (by kernel_rfl) ?_
          refine sy_call 44 12 [] ?_
          intro w150 u150 e150 d150
          have k153 := k_awake4 d150
          with_reducible refine Post.mono k153 ?_
          clear k153
          rintro _ u151 g152 rfl
          refine sy_pure 45 (.v (.bool true)) ?_
          refine sy_ldv 46 (.v (.agg #[.bool a1.s, .slice a1.m.a a1.m.n a1.m.c, .slice a1.d.a a1.d.n a1.d.c, .bool a2.s, .slice a2.m.a a2.m.n a2.m.c, .slice a2.d.a a2.d.n a2.d.c])) ty28 part_agg ?_ (hw := wants1 (g := 1) (b := true) (t := 45) (by kernel_rfl) (by kernel_rfl) (by kernel_rfl))
          refine sy_ldv 47 (.v (.agg #[.bool b1.s, .slice b1.m.a b1.m.n b1.m.c, .slice b1.d.a b1.d.n b1.d.c, .bool b2.s, .slice b2.m.a b2.m.n b2.m.c, .slice b2.d.a b2.d.n b2.d.c])) ty28 part_agg ?_ (hw := wants1 (g := 1) (b := true) (t := 45) (by kernel_rfl) (by kernel_rfl) (by kernel_rfl))
          refine sy_ldv 49 (.v (r34.v)) ty26 part_agg ?_ (hw := wants1 (g := 1) (b := true) (t := 45) (by kernel_rfl) (by kernel_rfl) (by kernel_rfl))
          refine sy_ldv 50 (.v (r40.v)) ty26 part_agg ?_ (hw := wants1 (g := 1) (b := true) (t := 45) (by kernel_rfl) (by kernel_rfl) (by kernel_rfl))
          refine sy_call 48 17 [.agg #[.bool a1.s, .slice a1.m.a a1.m.n a1.m.c, .slice a1.d.a a1.d.n a1.d.c, .bool a2.s, .slice a2.m.a a2.m.n a2.m.c, .slice a2.d.a a2.d.n a2.d.c], .agg #[.bool b1.s, .slice b1.m.a b1.m.n b1.m.c, .slice b1.d.a b1.d.n b1.d.c, .bool b2.s, .slice b2.m.a b2.m.n b2.m.c, .slice b2.d.a b2.d.n b2.d.c]] ?_ (hw := wants1 (g := 1) (b := true) (t := 45) (by kernel_rfl) (by kernel_rfl) (by kernel_rfl))
          intro w154 u154 e154 d154
          have k161 := k_ivAdd d154 (ha1f.ext (e11.trans (g13.ext.trans (e22.trans (g24.ext.trans (e33.trans (g37.ext.trans (e39.trans (g43.ext.trans (e45.trans (g52.ext.trans (e140.trans (g144.ext.trans (e146.trans (g148.ext.trans (e150.trans (g152.ext.trans e154))))))))))))))))) (ha2f.ext (e11.trans (g13.ext.trans (e22.trans (g24.ext.trans (e33.trans (g37.ext.trans (e39.trans (g43.ext.trans (e45.trans (g52.ext.trans (e140.trans (g144.ext.trans (e146.trans (g148.ext.trans (e150.trans (g152.ext.trans e154))))))))))))))))) (hb1f.ext (e11.trans (g13.ext.trans (e22.trans (g24.ext.trans (e33.trans (g37.ext.trans (e39.trans (g43.ext.trans (e45.trans (g52.ext.trans (e140.trans (g144.ext.trans (e146.trans (g148.ext.trans (e150.trans (g152.ext.trans e154))))))))))))))))) (hb2f.ext (e11.trans (g13.ext.trans (e22.trans (g24.ext.trans (e33.trans (g37.ext.trans (e39.trans (g43.ext.trans (e45.trans (g52.ext.trans (e140.trans (g144.ext.trans (e146.trans (g148.ext.trans (e150.trans (g152.ext.trans e154))))))))))))))))) (by omega) (by omega)
          with_reducible refine Post.mono k161 ?_
          clear k161
          rintro _ u159 g160 ⟨r155, r157, rfl, h156, h158⟩
          refine sy_call 51 18 [r34.v, r40.v] ?_ (hw := wants1 (g := 1) (b := true) (t := 45) (by kernel_rfl) (by kernel_rfl) (by kernel_rfl))
          intro w162 u162 e162 d162
          have k167 := k_rqAdd d162 (h35.ext (e39.trans (g43.ext.trans (e45.trans (g52.ext.trans (e140.trans (g144.ext.trans (e146.trans (g148.ext.trans (e150.trans (g152.ext.trans (e154.trans (g160.ext.trans e162))))))))))))).raw (h41.ext (e45.trans (g52.ext.trans (e140.trans (g144.ext.trans (e146.trans (g148.ext.trans (e150.trans (g152.ext.trans (e154.trans (g160.ext.trans e162))))))))))).raw (by omega) (by omega)
          with_reducible refine Post.mono k167 ?_
          clear k167
          rintro _ u165 g166 ⟨r163, rfl, h164⟩
          refine sy_call 52 15 [.agg #[.bool r155.s, .slice r155.m.a r155.m.n r155.m.c, .slice r155.d.a r155.d.n r155.d.c, .bool r157.s, .slice r157.m.a r157.m.n r157.m.c, .slice r157.d.a r157.d.n r157.d.c], r163.v] ?_ (hw := wants1 (g := 1) (b := true) (t := 45) (by kernel_rfl) (by kernel_rfl) (by kernel_rfl))
          intro w168 u168 e168 d168
          have k171 := k_r4Contains d168 (h156.ext (e162.trans (g166.ext.trans e168))).raw (h158.ext (e162.trans (g166.ext.trans e168))).raw (h164.ext e168).raw (by omega) (by omega)
          with_reducible refine Post.mono k171 ?_
          clear k171
          rintro _ u169 g170 rfl
          refine sy_pure 53 (.v (.bool (Nt.inI (Nt.lo x1 x2 + Nt.lo y1 y2) (Nt.hi x1 x2 + Nt.hi y1 y2) ((btw x1 x2 n) + (btw y1 y2 m))))) ?_
          refine sy_eq 54 (x := .v (.bool (Nt.inI (Nt.lo x1 x2 + Nt.lo y1 y2) (Nt.hi x1 x2 + Nt.hi y1 y2) ((btw x1 x2 n) + (btw y1 y2 m))))) (.v (.bool true)) (by rw [show (Nt.inI (Nt.lo x1 x2 + Nt.lo y1 y2) (Nt.hi x1 x2 + Nt.hi y1 y2) ((btw x1 x2 n) + (btw y1 y2 m))) = true from Nt.add_in (btw_in x1 x2 n) (btw_in y1 y2 m)]) ?_
          refine sy_ldv 55 (.v (.agg #[.bool a1.s, .slice a1.m.a a1.m.n a1.m.c, .slice a1.d.a a1.d.n a1.d.c, .bool a2.s, .slice a2.m.a a2.m.n a2.m.c, .slice a2.d.a a2.d.n a2.d.c])) ty28 part_agg ?_ (hw := wants1 (g := 10) (b := true) (t := 54) (by kernel_rfl) (by kernel_rfl) (by kernel_rfl))
          refine sy_ldv 56 (.v (.agg #[.bool b1.s, .slice b1.m.a b1.m.n b1.m.c, .slice b1.d.a b1.d.n b1.d.c, .bool b2.s, .slice b2.m.a b2.m.n b2.m.c, .slice b2.d.a b2.d.n b2.d.c])) ty28 part_agg ?_ (hw := wants1 (g := 10) (b := true) (t := 54) (by kernel_rfl) (by kernel_rfl) (by kernel_rfl))
          refine sy_ldv 58 (.v (r34.v)) ty26 part_agg ?_ (hw := wants1 (g := 10) (b := true) (t := 54) (by kernel_rfl) (by kernel_rfl) (by kernel_rfl))
          refine sy_ldv 59 (.v (r40.v)) ty26 part_agg ?_ (hw := wants1 (g := 10) (b := true) (t := 54) (by kernel_rfl) (by kernel_rfl) (by kernel_rfl))
          refine sy_call 57 19 [.agg #[.bool a1.s, .slice a1.m.a a1.m.n a1.m.c, .slice a1.d.a a1.d.n a1.d.c, .bool a2.s, .slice a2.m.a a2.m.n a2.m.c, .slice a2.d.a a2.d.n a2.d.c], .agg #[.bool b1.s, .slice b1.m.a b1.m.n b1.m.c, .slice b1.d.a b1.d.n b1.d.c, .bool b2.s, .slice b2.m.a b2.m.n b2.m.c, .slice b2.d.a b2.d.n b2.d.c]] ?_ (hw := wants1 (g := 10) (b := true) (t := 54) (by kernel_rfl) (by kernel_rfl) (by kernel_rfl))
          intro w173 u173 e173 d173
          have k180 := k_ivSub d173 (ha1f.ext (e11.trans (g13.ext.trans (e22.trans (g24.ext.trans (e33.trans (g37.ext.trans (e39.trans (g43.ext.trans (e45.trans (g52.ext.trans (e140.trans (g144.ext.trans (e146.trans (g148.ext.trans (e150.trans (g152.ext.trans (e154.trans (g160.ext.trans (e162.trans (g166.ext.trans (e168.trans (g170.ext.trans e173))))))))))))))))))))))) (ha2f.ext (e11.trans (g13.ext.trans (e22.trans (g24.ext.trans (e33.trans (g37.ext.trans (e39.trans (g43.ext.trans (e45.trans (g52.ext.trans (e140.trans (g144.ext.trans (e146.trans (g148.ext.trans (e150.trans (g152.ext.trans (e154.trans (g160.ext.trans (e162.trans (g166.ext.trans (e168.trans (g170.ext.trans e173))))))))))))))))))))))) (hb1f.ext (e11.trans (g13.ext.trans (e22.trans (g24.ext.trans (e33.trans (g37.ext.trans (e39.trans (g43.ext.trans (e45.trans (g52.ext.trans (e140.trans (g144.ext.trans (e146.trans (g148.ext.trans (e150.trans (g152.ext.trans (e154.trans (g160.ext.trans (e162.trans (g166.ext.trans (e168.trans (g170.ext.trans e173))))))))))))))))))))))) (hb2f.ext (e11.trans (g13.ext.trans (e22.trans (g24.ext.trans (e33.trans (g37.ext.trans (e39.trans (g43.ext.trans (e45.trans (g52.ext.trans (e140.trans (g144.ext.trans (e146.trans (g148.ext.trans (e150.trans (g152.ext.trans (e154.trans (g160.ext.trans (e162.trans (g166.ext.trans (e168.trans (g170.ext.trans e173))))))))))))))))))))))) (by omega) (by omega)
          with_reducible refine Post.mono k180 ?_
          clear k180
          rintro _ u178 g179 ⟨r174, r176, rfl, h175, h177⟩
          refine sy_call 60 20 [r34.v, r40.v] ?_ (hw := wants1 (g := 10) (b := true) (t := 54) (by kernel_rfl) (by kernel_rfl) (by kernel_rfl))
          intro w181 u181 e181 d181
          have k186 := k_rqSub d181 (h35.ext (e39.trans (g43.ext.trans (e45.trans (g52.ext.trans (e140.trans (g144.ext.trans (e146.trans (g148.ext.trans (e150.trans (g152.ext.trans (e154.trans (g160.ext.trans (e162.trans (g166.ext.trans (e168.trans (g170.ext.trans (e173.trans (g179.ext.trans e181))))))))))))))))))).raw (h41.ext (e45.trans (g52.ext.trans (e140.trans (g144.ext.trans (e146.trans (g148.ext.trans (e150.trans (g152.ext.trans (e154.trans (g160.ext.trans (e162.trans (g166.ext.trans (e168.trans (g170.ext.trans (e173.trans (g179.ext.trans e181))))))))))))))))).raw (by omega) (by omega)
          with_reducible refine Post.mono k186 ?_
          clear k186
          rintro _ u184 g185 ⟨r182, rfl, h183⟩
          refine sy_call 61 15 [.agg #[.bool r174.s, .slice r174.m.a r174.m.n r174.m.c, .slice r174.d.a r174.d.n r174.d.c, .bool r176.s, .slice r176.m.a r176.m.n r176.m.c, .slice r176.d.a r176.d.n r176.d.c], r182.v] ?_ (hw := wants1 (g := 10) (b := true) (t := 54) (by kernel_rfl) (by kernel_rfl) (by kernel_rfl))
          intro w187 u187 e187 d187
          have k190 := k_r4Contains d187 (h175.ext (e181.trans (g185.ext.trans e187))).raw (h177.ext (e181.trans (g185.ext.trans e187))).raw (h183.ext e187).raw (by omega) (by omega)
          with_reducible refine Post.mono k190 ?_
          clear k190
          rintro _ u188 g189 rfl
          refine sy_pure 62 (.v (.bool (Nt.inI (Nt.lo x1 x2 - Nt.hi y1 y2) (Nt.hi x1 x2 - Nt.lo y1 y2) ((btw x1 x2 n) - (btw y1 y2 m))))) ?_
          refine sy_eq 63 (x := .v (.bool (Nt.inI (Nt.lo x1 x2 - Nt.hi y1 y2) (Nt.hi x1 x2 - Nt.lo y1 y2) ((btw x1 x2 n) - (btw y1 y2 m))))) (.v (.bool true)) (by rw [show (Nt.inI (Nt.lo x1 x2 - Nt.hi y1 y2) (Nt.hi x1 x2 - Nt.lo y1 y2) ((btw x1 x2 n) - (btw y1 y2 m))) = true from Nt.sub_in (btw_in x1 x2 n) (btw_in y1 y2 m)]) ?_
          refine sy_ldv 64 (.v (.agg #[.bool a1.s, .slice a1.m.a a1.m.n a1.m.c, .slice a1.d.a a1.d.n a1.d.c, .bool a2.s, .slice a2.m.a a2.m.n a2.m.c, .slice a2.d.a a2.d.n a2.d.c])) ty28 part_agg ?_ (hw := wants1 (g := 19) (b := true) (t := 63) (by kernel_rfl) (by kernel_rfl) (by kernel_rfl))
          refine sy_ldv 65 (.v (.agg #[.bool b1.s, .slice b1.m.a b1.m.n b1.m.c, .slice b1.d.a b1.d.n b1.d.c, .bool b2.s, .slice b2.m.a b2.m.n b2.m.c, .slice b2.d.a b2.d.n b2.d.c])) ty28 part_agg ?_ (hw := wants1 (g := 19) (b := true) (t := 63) (by kernel_rfl) (by kernel_rfl) (by kernel_rfl))
          refine sy_ldv 67 (.v (r34.v)) ty26 part_agg ?_ (hw := wants1 (g := 19) (b := true) (t := 63) (by kernel_rfl) (by kernel_rfl) (by kernel_rfl))
          refine sy_ldv 68 (.v (r40.v)) ty26 part_agg ?_ (hw := wants1 (g := 19) (b := true) (t := 63) (by kernel_rfl) (by kernel_rfl) (by kernel_rfl))
          refine sy_call 66 21 [.agg #[.bool a1.s, .slice a1.m.a a1.m.n a1.m.c, .slice a1.d.a a1.d.n a1.d.c, .bool a2.s, .slice a2.m.a a2.m.n a2.m.c, .slice a2.d.a a2.d.n a2.d.c], .agg #[.bool b1.s, .slice b1.m.a b1.m.n b1.m.c, .slice b1.d.a b1.d.n b1.d.c, .bool b2.s, .slice b2.m.a b2.m.n b2.m.c, .slice b2.d.a b2.d.n b2.d.c]] ?_ (hw := wants1 (g := 19) (b := true) (t := 63) (by kernel_rfl) (by kernel_rfl) (by kernel_rfl))
          intro w192 u192 e192 d192
          have k199 := k_ivMul d192 (ha1f.ext (e11.trans (g13.ext.trans (e22.trans (g24.ext.trans (e33.trans (g37.ext.trans (e39.trans (g43.ext.trans (e45.trans (g52.ext.trans (e140.trans (g144.ext.trans (e146.trans (g148.ext.trans (e150.trans (g152.ext.trans (e154.trans (g160.ext.trans (e162.trans (g166.ext.trans (e168.trans (g170.ext.trans (e173.trans (g179.ext.trans (e181.trans (g185.ext.trans (e187.trans (g189.ext.trans e192))))))))))))))))))))))))))))) (ha2f.ext (e11.trans (g13.ext.trans (e22.trans (g24.ext.trans (e33.trans (g37.ext.trans (e39.trans (g43.ext.trans (e45.trans (g52.ext.trans (e140.trans (g144.ext.trans (e146.trans (g148.ext.trans (e150.trans (g152.ext.trans (e154.trans (g160.ext.trans (e162.trans (g166.ext.trans (e168.trans (g170.ext.trans (e173.trans (g179.ext.trans (e181.trans (g185.ext.trans (e187.trans (g189.ext.trans e192))))))))))))))))))))))))))))) (hb1f.ext (e11.trans (g13.ext.trans (e22.trans (g24.ext.trans (e33.trans (g37.ext.trans (e39.trans (g43.ext.trans (e45.trans (g52.ext.trans (e140.trans (g144.ext.trans (e146.trans (g148.ext.trans (e150.trans (g152.ext.trans (e154.trans (g160.ext.trans (e162.trans (g166.ext.trans (e168.trans (g170.ext.trans (e173.trans (g179.ext.trans (e181.trans (g185.ext.trans (e187.trans (g189.ext.trans e192))))))))))))))))))))))))))))) (hb2f.ext (e11.trans (g13.ext.trans (e22.trans (g24.ext.trans (e33.trans (g37.ext.trans (e39.trans (g43.ext.trans (e45.trans (g52.ext.trans (e140.trans (g144.ext.trans (e146.trans (g148.ext.trans (e150.trans (g152.ext.trans (e154.trans (g160.ext.trans (e162.trans (g166.ext.trans (e168.trans (g170.ext.trans (e173.trans (g179.ext.trans (e181.trans (g185.ext.trans (e187.trans (g189.ext.trans e192))))))))))))))))))))))))))))) (by omega) (by omega)
          with_reducible refine Post.mono k199 ?_
          clear k199
          rintro _ u197 g198 ⟨r193, r195, rfl, h194, h196⟩
          refine sy_call 69 22 [r34.v, r40.v] ?_ (hw := wants1 (g := 19) (b := true) (t := 63) (by kernel_rfl) (by kernel_rfl) (by kernel_rfl))
          intro w200 u200 e200 d200
          have k205 := k_rqMul d200 (h35.ext (e39.trans (g43.ext.trans (e45.trans (g52.ext.trans (e140.trans (g144.ext.trans (e146.trans (g148.ext.trans (e150.trans (g152.ext.trans (e154.trans (g160.ext.trans (e162.trans (g166.ext.trans (e168.trans (g170.ext.trans (e173.trans (g179.ext.trans (e181.trans (g185.ext.trans (e187.trans (g189.ext.trans (e192.trans (g198.ext.trans e200))))))))))))))))))))))))).raw (h41.ext (e45.trans (g52.ext.trans (e140.trans (g144.ext.trans (e146.trans (g148.ext.trans (e150.trans (g152.ext.trans (e154.trans (g160.ext.trans (e162.trans (g166.ext.trans (e168.trans (g170.ext.trans (e173.trans (g179.ext.trans (e181.trans (g185.ext.trans (e187.trans (g189.ext.trans (e192.trans (g198.ext.trans e200))))))))))))))))))))))).raw (by omega) (by omega)
          with_reducible refine Post.mono k205 ?_
          clear k205
          rintro _ u203 g204 ⟨r201, rfl, h202⟩
          refine sy_call 70 15 [.agg #[.bool r193.s, .slice r193.m.a r193.m.n r193.m.c, .slice r193.d.a r193.d.n r193.d.c, .bool r195.s, .slice r195.m.a r195.m.n r195.m.c, .slice r195.d.a r195.d.n r195.d.c], r201.v] ?_ (hw := wants1 (g := 19) (b := true) (t := 63) (by kernel_rfl) (by kernel_rfl) (by kernel_rfl))
          intro w206 u206 e206 d206
          have k209 := k_r4Contains d206 (h194.ext (e200.trans (g204.ext.trans e206))).raw (h196.ext (e200.trans (g204.ext.trans e206))).raw (h202.ext e206).raw (by omega) (by omega)
          with_reducible refine Post.mono k209 ?_
          clear k209
          rintro _ u207 g208 rfl
          refine sy_pure 71 (.v (.bool (Nt.inI (Nt.lo4 (x1 * y1) (x1 * y2) (x2 * y1) (x2 * y2)) (Nt.hi4 (x1 * y1) (x1 * y2) (x2 * y1) (x2 * y2)) ((btw x1 x2 n) * (btw y1 y2 m))))) ?_
          refine sy_eq 72 (x := .v (.bool (Nt.inI (Nt.lo4 (x1 * y1) (x1 * y2) (x2 * y1) (x2 * y2)) (Nt.hi4 (x1 * y1) (x1 * y2) (x2 * y1) (x2 * y2)) ((btw x1 x2 n) * (btw y1 y2 m))))) (.v (.bool true)) (by rw [show (Nt.inI (Nt.lo4 (x1 * y1) (x1 * y2) (x2 * y1) (x2 * y2)) (Nt.hi4 (x1 * y1) (x1 * y2) (x2 * y1) (x2 * y2)) ((btw x1 x2 n) * (btw y1 y2 m))) = true from Nt.mul_inI (btw_in x1 x2 n) (btw_in y1 y2 m)]) ?_
          refine sy_ldv 73 (.v (.agg #[.bool a1.s, .slice a1.m.a a1.m.n a1.m.c, .slice a1.d.a a1.d.n a1.d.c, .bool a2.s, .slice a2.m.a a2.m.n a2.m.c, .slice a2.d.a a2.d.n a2.d.c])) ty28 part_agg ?_ (hw := wants1 (g := 28) (b := true) (t := 72) (by kernel_rfl) (by kernel_rfl) (by kernel_rfl))
          refine sy_ldv 75 (.v (r34.v)) ty26 part_agg ?_ (hw := wants1 (g := 28) (b := true) (t := 72) (by kernel_rfl) (by kernel_rfl) (by kernel_rfl))
          refine sy_ldv 76 (.v (r34.v)) ty26 part_agg ?_ (hw := wants1 (g := 28) (b := true) (t := 72) (by kernel_rfl) (by kernel_rfl) (by kernel_rfl))
          refine sy_call 74 23 [.agg #[.bool a1.s, .slice a1.m.a a1.m.n a1.m.c, .slice a1.d.a a1.d.n a1.d.c, .bool a2.s, .slice a2.m.a a2.m.n a2.m.c, .slice a2.d.a a2.d.n a2.d.c]] ?_ (hw := wants1 (g := 28) (b := true) (t := 72) (by kernel_rfl) (by kernel_rfl) (by kernel_rfl))
          intro w211 u211 e211 d211
          have k218 := k_ivSquare d211 (ha1f.ext (e11.trans (g13.ext.trans (e22.trans (g24.ext.trans (e33.trans (g37.ext.trans (e39.trans (g43.ext.trans (e45.trans (g52.ext.trans (e140.trans (g144.ext.trans (e146.trans (g148.ext.trans (e150.trans (g152.ext.trans (e154.trans (g160.ext.trans (e162.trans (g166.ext.trans (e168.trans (g170.ext.trans (e173.trans (g179.ext.trans (e181.trans (g185.ext.trans (e187.trans (g189.ext.trans (e192.trans (g198.ext.trans (e200.trans (g204.ext.trans (e206.trans (g208.ext.trans e211))))))))))))))))))))))))))))))))))) (ha2f.ext (e11.trans (g13.ext.trans (e22.trans (g24.ext.trans (e33.trans (g37.ext.trans (e39.trans (g43.ext.trans (e45.trans (g52.ext.trans (e140.trans (g144.ext.trans (e146.trans (g148.ext.trans (e150.trans (g152.ext.trans (e154.trans (g160.ext.trans (e162.trans (g166.ext.trans (e168.trans (g170.ext.trans (e173.trans (g179.ext.trans (e181.trans (g185.ext.trans (e187.trans (g189.ext.trans (e192.trans (g198.ext.trans (e200.trans (g204.ext.trans (e206.trans (g208.ext.trans e211))))))))))))))))))))))))))))))))))) (by omega)
          with_reducible refine Post.mono k218 ?_
          clear k218
          rintro _ u216 g217 ⟨r212, r214, rfl, h213, h215⟩
          refine sy_call 77 22 [r34.v, r34.v] ?_ (hw := wants1 (g := 28) (b := true) (t := 72) (by kernel_rfl) (by kernel_rfl) (by kernel_rfl))
          intro w219 u219 e219 d219
          have k224 := k_rqMul d219 (h35.ext (e39.trans (g43.ext.trans (e45.trans (g52.ext.trans (e140.trans (g144.ext.trans (e146.trans (g148.ext.trans (e150.trans (g152.ext.trans (e154.trans (g160.ext.trans (e162.trans (g166.ext.trans (e168.trans (g170.ext.trans (e173.trans (g179.ext.trans (e181.trans (g185.ext.trans (e187.trans (g189.ext.trans (e192.trans (g198.ext.trans (e200.trans (g204.ext.trans (e206.trans (g208.ext.trans (e211.trans (g217.ext.trans e219))))))))))))))))))))))))))))))).raw (h35.ext (e39.trans (g43.ext.trans (e45.trans (g52.ext.trans (e140.trans (g144.ext.trans (e146.trans (g148.ext.trans (e150.trans (g152.ext.trans (e154.trans (g160.ext.trans (e162.trans (g166.ext.trans (e168.trans (g170.ext.trans (e173.trans (g179.ext.trans (e181.trans (g185.ext.trans (e187.trans (g189.ext.trans (e192.trans (g198.ext.trans (e200.trans (g204.ext.trans (e206.trans (g208.ext.trans (e211.trans (g217.ext.trans e219))))))))))))))))))))))))))))))).raw (by omega) (by omega)
          with_reducible refine Post.mono k224 ?_
          clear k224
          rintro _ u222 g223 ⟨r220, rfl, h221⟩
          refine sy_call 78 15 [.agg #[.bool r212.s, .slice r212.m.a r212.m.n r212.m.c, .slice r212.d.a r212.d.n r212.d.c, .bool r214.s, .slice r214.m.a r214.m.n r214.m.c, .slice r214.d.a r214.d.n r214.d.c], r220.v] ?_ (hw := wants1 (g := 28) (b := true) (t := 72) (by kernel_rfl) (by kernel_rfl) (by kernel_rfl))
          intro w225 u225 e225 d225
          have k228 := k_r4Contains d225 (h213.ext (e219.trans (g223.ext.trans e225))).raw (h215.ext (e219.trans (g223.ext.trans e225))).raw (h221.ext e225).raw (by omega) (by omega)
          with_reducible refine Post.mono k228 ?_
          clear k228
          rintro _ u226 g227 rfl
          refine sy_pure 79 (.v (.bool (Nt.inI (if Nt.sgI x1 x2 = 0 then 0 else Nt.lo (x1 * x1) (x2 * x2)) (Nt.hi (x1 * x1) (x2 * x2)) ((btw x1 x2 n) * (btw x1 x2 n))))) ?_
          refine sy_eq 80 (x := .v (.bool (Nt.inI (if Nt.sgI x1 x2 = 0 then 0 else Nt.lo (x1 * x1) (x2 * x2)) (Nt.hi (x1 * x1) (x2 * x2)) ((btw x1 x2 n) * (btw x1 x2 n))))) (.v (.bool true)) (by rw [show (Nt.inI (if Nt.sgI x1 x2 = 0 then 0 else Nt.lo (x1 * x1) (x2 * x2)) (Nt.hi (x1 * x1) (x2 * x2)) ((btw x1 x2 n) * (btw x1 x2 n))) = true from Nt.sq_inI (btw_in x1 x2 n)]) ?_
          refine sy_ldv 81 (.v (.agg #[.bool a1.s, .slice a1.m.a a1.m.n a1.m.c, .slice a1.d.a a1.d.n a1.d.c, .bool a2.s, .slice a2.m.a a2.m.n a2.m.c, .slice a2.d.a a2.d.n a2.d.c])) ty28 part_agg ?_ (hw := wants1 (g := 36) (b := true) (t := 80) (by kernel_rfl) (by kernel_rfl) (by kernel_rfl))
          refine sy_ldv 82 (.v (r34.v)) ty26 part_agg ?_ (hw := wants1 (g := 36) (b := true) (t := 80) (by kernel_rfl) (by kernel_rfl) (by kernel_rfl))
          refine sy_call 83 24 [.agg #[.bool a1.s, .slice a1.m.a a1.m.n a1.m.c, .slice a1.d.a a1.d.n a1.d.c, .bool a2.s, .slice a2.m.a a2.m.n a2.m.c, .slice a2.d.a a2.d.n a2.d.c], r34.v] ?_ (hw := wants1 (g := 36) (b := true) (t := 80) (by kernel_rfl) (by kernel_rfl) (by kernel_rfl))
          intro w230 u230 e230 d230
          have k233 := k_ivContains d230 (ha1f.ext (e11.trans (g13.ext.trans (e22.trans (g24.ext.trans (e33.trans (g37.ext.trans (e39.trans (g43.ext.trans (e45.trans (g52.ext.trans (e140.trans (g144.ext.trans (e146.trans (g148.ext.trans (e150.trans (g152.ext.trans (e154.trans (g160.ext.trans (e162.trans (g166.ext.trans (e168.trans (g170.ext.trans (e173.trans (g179.ext.trans (e181.trans (g185.ext.trans (e187.trans (g189.ext.trans (e192.trans (g198.ext.trans (e200.trans (g204.ext.trans (e206.trans (g208.ext.trans (e211.trans (g217.ext.trans (e219.trans (g223.ext.trans (e225.trans (g227.ext.trans e230))))))))))))))))))))))))))))))))))))))))) (ha2f.ext (e11.trans (g13.ext.trans (e22.trans (g24.ext.trans (e33.trans (g37.ext.trans (e39.trans (g43.ext.trans (e45.trans (g52.ext.trans (e140.trans (g144.ext.trans (e146.trans (g148.ext.trans (e150.trans (g152.ext.trans (e154.trans (g160.ext.trans (e162.trans (g166.ext.trans (e168.trans (g170.ext.trans (e173.trans (g179.ext.trans (e181.trans (g185.ext.trans (e187.trans (g189.ext.trans (e192.trans (g198.ext.trans (e200.trans (g204.ext.trans (e206.trans (g208.ext.trans (e211.trans (g217.ext.trans (e219.trans (g223.ext.trans (e225.trans (g227.ext.trans e230))))))))))))))))))))))))))))))))))))))))) (h35.ext (e39.trans (g43.ext.trans (e45.trans (g52.ext.trans (e140.trans (g144.ext.trans (e146.trans (g148.ext.trans (e150.trans (g152.ext.trans (e154.trans (g160.ext.trans (e162.trans (g166.ext.trans (e168.trans (g170.ext.trans (e173.trans (g179.ext.trans (e181.trans (g185.ext.trans (e187.trans (g189.ext.trans (e192.trans (g198.ext.trans (e200.trans (g204.ext.trans (e206.trans (g208.ext.trans (e211.trans (g217.ext.trans (e219.trans (g223.ext.trans (e225.trans (g227.ext.trans e230))))))))))))))))))))))))))))))))))).raw (by omega) (by omega)
          with_reducible refine Post.mono k233 ?_
          clear k233
          rintro _ u231 g232 rfl
          refine sy_pure 84 (.v (.bool (Nt.inI x1 x2 (btw x1 x2 n)))) ?_
          refine sy_pure 8 (.v (.bool (Nt.inI x1 x2 (btw x1 x2 n)))) ?_
          refine sy_next 85 [(8, .v (.bool (Nt.inI x1 x2 (btw x1 x2 n))))] [] ?_
          refine sw_ret (ret0 [.bool (Nt.inI x1 x2 (btw x1 x2 n))] ⟨res_tmp, trivial⟩ fun u234 e235 => ?_)
          show Value.bool _ = Value.bool _
          rw [show (Nt.inI x1 x2 (btw x1 x2 n)) = true from Nt.inI_true.2 (btw_in x1 x2 n)]
end Go.Proofs.YtnedhbidmfoegaaGreat
