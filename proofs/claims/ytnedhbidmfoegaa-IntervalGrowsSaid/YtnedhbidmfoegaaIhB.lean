/- IntervalGrows, walked. Printed by wip/sym/g_l4.py. -/
import Derived.Test.YtnedhbidmfoegaaIhA
namespace Go.Proofs.Ytnedhbidmfoegaa
open Go.RowKit
set_option linter.unusedVariables false
set_option maxHeartbeats 2000000 in
theorem w_grows {u w : World} {a1 a2 : RL} {x1 x2 : Rat} {K : Nat} {b1 b2 : RL} {y1 y2 : Rat} {L : Nat} {c1 c2 : RL} {z1 z2 : Rat} {M : Nat} {e1 e2 : RL} {t1 t2 : Rat} {N : Nat} (d : Dat u w) (ha1 : RatV u a1 x1 K) (ha2 : RatV u a2 x2 K) (hb1 : RatV u b1 y1 L) (hb2 : RatV u b2 y2 L) (hc1 : RatV u c1 z1 M) (hc2 : RatV u c2 z2 M) (he1 : RatV u e1 t1 N) (he2 : RatV u e2 t2 N) : Calls Try.prog 4 #[IV a1 a2, IV b1 b2, IV c1 c2, IV e1 e2] w (Post u w fun v _ => v = .bool true) := by
  refine calls_sym (args := [.agg #[.bool a1.s, .slice a1.m.a a1.m.n a1.m.c, .slice a1.d.a a1.d.n a1.d.c, .bool a2.s, .slice a2.m.a a2.m.n a2.m.c, .slice a2.d.a a2.d.n a2.d.c], .agg #[.bool b1.s, .slice b1.m.a b1.m.n b1.m.c, .slice b1.d.a b1.d.n b1.d.c, .bool b2.s, .slice b2.m.a b2.m.n b2.m.c, .slice b2.d.a b2.d.n b2.d.c], .agg #[.bool c1.s, .slice c1.m.a c1.m.n c1.m.c, .slice c1.d.a c1.d.n c1.d.c, .bool c2.s, .slice c2.m.a c2.m.n c2.m.c, .slice c2.d.a c2.d.n c2.d.c], .agg #[.bool e1.s, .slice e1.m.a e1.m.n e1.m.c, .slice e1.d.a e1.d.n e1.d.c, .bool e2.s, .slice e2.m.a e2.m.n e2.m.c, .slice e2.d.a e2.d.n e2.d.c]]) Try.func4 rfl Try.ntmps4 (rs := [.tmp 8]) Try.results4 (le_b rfl) (le_b rfl) d ?_
  refine sw_seq ?_
  refine sw_reg ?_
  refine sy_new 4 ⟨28, a1.cs ++ a2.cs⟩ ?_
  refine sy_new 5 ⟨28, b1.cs ++ b2.cs⟩ ?_
  refine sy_new 6 ⟨28, c1.cs ++ c2.cs⟩ ?_
  refine sy_new 7 ⟨28, e1.cs ++ e2.cs⟩ ?_
  refine sy_pure 8 (.v (.bool false)) ?_
  refine sy_next 76 [(4, .adr 4 0), (5, .adr 5 0), (6, .adr 6 0), (7, .adr 7 0)] [(4, ⟨28, a1.cs ++ a2.cs⟩), (5, ⟨28, b1.cs ++ b2.cs⟩), (6, ⟨28, c1.cs ++ c2.cs⟩), (7, ⟨28, e1.cs ++ e2.cs⟩)] ?_
  refine sw_seq ?_
  refine sw_seq ?_
  refine sw_reg ?_
  refine sy_ldv 11 (.v (.agg #[.bool a1.s, .slice a1.m.a a1.m.n a1.m.c, .slice a1.d.a a1.d.n a1.d.c, .bool a2.s, .slice a2.m.a a2.m.n a2.m.c, .slice a2.d.a a2.d.n a2.d.c])) ty28 part_agg ?_
  refine sy_call 12 7 [.agg #[.bool a1.s, .slice a1.m.a a1.m.n a1.m.c, .slice a1.d.a a1.d.n a1.d.c, .bool a2.s, .slice a2.m.a a2.m.n a2.m.c, .slice a2.d.a a2.d.n a2.d.c]] ?_
  intro w11 u11 e11 d11
  have k14 := k_smallOn (a := a1) (b := a2) d11
  with_reducible refine Post.mono k14 ?_
  clear k14
  rintro _ u12 g13 rfl
  refine sy_pure 13 (.v (.bool (!(smR a1 && smR a2)))) ?_
  rcases Bool.eq_false_or_eq_true (!(smR a1 && smR a2)) with hs15 | hs15
  · refine sy_eq 14 (x := .v (.bool (!(smR a1 && smR a2)))) (.v (.bool true)) (by rw [hs15]) ?_
    refine sy_drop 15 (unwanted (g := 3) (b := false) (c := true) (t := 14) (by kernel_rfl) (by kernel_rfl) (by kernel_rfl) (by kernel_rfl)) ?_
    refine sy_drop 16 (unwanted (g := 3) (b := false) (c := true) (t := 14) (by kernel_rfl) (by kernel_rfl) (by kernel_rfl) (by kernel_rfl)) ?_
    refine sy_drop 17 (unwanted (g := 3) (b := false) (c := true) (t := 14) (by kernel_rfl) (by kernel_rfl) (by kernel_rfl) (by kernel_rfl)) ?_
    refine sy_pure 18 (.v (.bool true)) ?_
    refine sy_pure 19 (.v (.bool true)) ?_
    refine sy_drop 20 (unwanted (g := 8) (b := false) (c := true) (t := 19) (by kernel_rfl) (by kernel_rfl) (by kernel_rfl) (by kernel_rfl)) ?_
    refine sy_drop 21 (unwanted (g := 8) (b := false) (c := true) (t := 19) (by kernel_rfl) (by kernel_rfl) (by kernel_rfl) (by kernel_rfl)) ?_
    refine sy_drop 22 (unwanted (g := 8) (b := false) (c := true) (t := 19) (by kernel_rfl) (by kernel_rfl) (by kernel_rfl) (by kernel_rfl)) ?_
    refine sy_pure 23 (.v (.bool true)) ?_
    refine sy_pure 24 (.v (.bool true)) ?_
    refine sy_drop 25 (unwanted (g := 13) (b := false) (c := true) (t := 24) (by kernel_rfl) (by kernel_rfl) (by kernel_rfl) (by kernel_rfl)) ?_
    refine sy_drop 26 (unwanted (g := 13) (b := false) (c := true) (t := 24) (by kernel_rfl) (by kernel_rfl) (by kernel_rfl) (by kernel_rfl)) ?_
    refine sy_drop 27 (unwanted (g := 13) (b := false) (c := true) (t := 24) (by kernel_rfl) (by kernel_rfl) (by kernel_rfl) (by kernel_rfl)) ?_
    refine sy_pure 28 (.v (.bool true)) ?_
    refine sy_next 76 [(4, .adr 4 0), (5, .adr 5 0), (6, .adr 6 0), (7, .adr 7 0), (28, .v (.bool true))] [(4, ⟨28, a1.cs ++ a2.cs⟩), (5, ⟨28, b1.cs ++ b2.cs⟩), (6, ⟨28, c1.cs ++ c2.cs⟩), (7, ⟨28, e1.cs ++ e2.cs⟩)] ?_
    refine sw_true (by kernel_rfl) ?_
    refine sw_seq ?_
    refine sw_reg ?_
    refine sy_call 29 9 [] ?_
    intro w16 u16 e16 d16
    have k19 := k_awake4 d16
    with_reducible refine Post.mono k19 ?_
    clear k19
    rintro _ u17 g18 rfl
    refine sy_pure 8 (.v (.bool true)) ?_
    refine sy_next 76 [(8, .v (.bool true))] [] ?_
    refine sw_ret (mpr_seq (ret0 [.bool true] ⟨res_tmp, trivial⟩ fun u20 e21 => ?_))
    exact rfl
  · refine sy_eq 14 (x := .v (.bool (!(smR a1 && smR a2)))) (.v (.bool false)) (by rw [hs15]) ?_
    have qhs15 : smR a1 = true ∧ smR a2 = true := by simpa using hs15
    have ha1f := smR_few ha1 qhs15.1
    have ha2f := smR_few ha2 qhs15.2
    refine sy_ldv 15 (.v (.agg #[.bool b1.s, .slice b1.m.a b1.m.n b1.m.c, .slice b1.d.a b1.d.n b1.d.c, .bool b2.s, .slice b2.m.a b2.m.n b2.m.c, .slice b2.d.a b2.d.n b2.d.c])) ty28 part_agg ?_ (hw := wants1 (g := 3) (b := false) (t := 14) (by kernel_rfl) (by kernel_rfl) (by kernel_rfl))
    refine sy_call 16 7 [.agg #[.bool b1.s, .slice b1.m.a b1.m.n b1.m.c, .slice b1.d.a b1.d.n b1.d.c, .bool b2.s, .slice b2.m.a b2.m.n b2.m.c, .slice b2.d.a b2.d.n b2.d.c]] ?_ (hw := wants1 (g := 3) (b := false) (t := 14) (by kernel_rfl) (by kernel_rfl) (by kernel_rfl))
    intro w22 u22 e22 d22
    have k25 := k_smallOn (a := b1) (b := b2) d22
    with_reducible refine Post.mono k25 ?_
    clear k25
    rintro _ u23 g24 rfl
    refine sy_pure 17 (.v (.bool (!(smR b1 && smR b2)))) ?_ (hw := wants1 (g := 3) (b := false) (t := 14) (by kernel_rfl) (by kernel_rfl) (by kernel_rfl))
    refine sy_pure 18 (.v (.bool (!(smR b1 && smR b2)))) ?_
    rcases Bool.eq_false_or_eq_true (!(smR b1 && smR b2)) with hs26 | hs26
    · refine sy_eq 19 (x := .v (.bool (!(smR b1 && smR b2)))) (.v (.bool true)) (by rw [hs26]) ?_
      refine sy_drop 20 (unwanted (g := 8) (b := false) (c := true) (t := 19) (by kernel_rfl) (by kernel_rfl) (by kernel_rfl) (by kernel_rfl)) ?_
      refine sy_drop 21 (unwanted (g := 8) (b := false) (c := true) (t := 19) (by kernel_rfl) (by kernel_rfl) (by kernel_rfl) (by kernel_rfl)) ?_
      refine sy_drop 22 (unwanted (g := 8) (b := false) (c := true) (t := 19) (by kernel_rfl) (by kernel_rfl) (by kernel_rfl) (by kernel_rfl)) ?_
      refine sy_pure 23 (.v (.bool true)) ?_
      refine sy_pure 24 (.v (.bool true)) ?_
      refine sy_drop 25 (unwanted (g := 13) (b := false) (c := true) (t := 24) (by kernel_rfl) (by kernel_rfl) (by kernel_rfl) (by kernel_rfl)) ?_
      refine sy_drop 26 (unwanted (g := 13) (b := false) (c := true) (t := 24) (by kernel_rfl) (by kernel_rfl) (by kernel_rfl) (by kernel_rfl)) ?_
      refine sy_drop 27 (unwanted (g := 13) (b := false) (c := true) (t := 24) (by kernel_rfl) (by kernel_rfl) (by kernel_rfl) (by kernel_rfl)) ?_
      refine sy_pure 28 (.v (.bool true)) ?_
      refine sy_next 76 [(4, .adr 4 0), (5, .adr 5 0), (6, .adr 6 0), (7, .adr 7 0), (28, .v (.bool true))] [(4, ⟨28, a1.cs ++ a2.cs⟩), (5, ⟨28, b1.cs ++ b2.cs⟩), (6, ⟨28, c1.cs ++ c2.cs⟩), (7, ⟨28, e1.cs ++ e2.cs⟩)] ?_
      refine sw_true (by kernel_rfl) ?_
      refine sw_seq ?_
      refine sw_reg ?_
      refine sy_call 29 9 [] ?_
      intro w27 u27 e27 d27
      have k30 := k_awake4 d27
      with_reducible refine Post.mono k30 ?_
      clear k30
      rintro _ u28 g29 rfl
      refine sy_pure 8 (.v (.bool true)) ?_
      refine sy_next 76 [(8, .v (.bool true))] [] ?_
      refine sw_ret (mpr_seq (ret0 [.bool true] ⟨res_tmp, trivial⟩ fun u31 e32 => ?_))
      exact rfl
    · refine sy_eq 19 (x := .v (.bool (!(smR b1 && smR b2)))) (.v (.bool false)) (by rw [hs26]) ?_
      have qhs26 : smR b1 = true ∧ smR b2 = true := by simpa using hs26
      have hb1f := smR_few hb1 qhs26.1
      have hb2f := smR_few hb2 qhs26.2
      refine sy_ldv 20 (.v (.agg #[.bool c1.s, .slice c1.m.a c1.m.n c1.m.c, .slice c1.d.a c1.d.n c1.d.c, .bool c2.s, .slice c2.m.a c2.m.n c2.m.c, .slice c2.d.a c2.d.n c2.d.c])) ty28 part_agg ?_ (hw := wants1 (g := 8) (b := false) (t := 19) (by kernel_rfl) (by kernel_rfl) (by kernel_rfl))
      refine sy_call 21 7 [.agg #[.bool c1.s, .slice c1.m.a c1.m.n c1.m.c, .slice c1.d.a c1.d.n c1.d.c, .bool c2.s, .slice c2.m.a c2.m.n c2.m.c, .slice c2.d.a c2.d.n c2.d.c]] ?_ (hw := wants1 (g := 8) (b := false) (t := 19) (by kernel_rfl) (by kernel_rfl) (by kernel_rfl))
      intro w33 u33 e33 d33
      have k36 := k_smallOn (a := c1) (b := c2) d33
      with_reducible refine Post.mono k36 ?_
      clear k36
      rintro _ u34 g35 rfl
      refine sy_pure 22 (.v (.bool (!(smR c1 && smR c2)))) ?_ (hw := wants1 (g := 8) (b := false) (t := 19) (by kernel_rfl) (by kernel_rfl) (by kernel_rfl))
      refine sy_pure 23 (.v (.bool (!(smR c1 && smR c2)))) ?_
      rcases Bool.eq_false_or_eq_true (!(smR c1 && smR c2)) with hs37 | hs37
      · refine sy_eq 24 (x := .v (.bool (!(smR c1 && smR c2)))) (.v (.bool true)) (by rw [hs37]) ?_
        refine sy_drop 25 (unwanted (g := 13) (b := false) (c := true) (t := 24) (by kernel_rfl) (by kernel_rfl) (by kernel_rfl) (by kernel_rfl)) ?_
        refine sy_drop 26 (unwanted (g := 13) (b := false) (c := true) (t := 24) (by kernel_rfl) (by kernel_rfl) (by kernel_rfl) (by kernel_rfl)) ?_
        refine sy_drop 27 (unwanted (g := 13) (b := false) (c := true) (t := 24) (by kernel_rfl) (by kernel_rfl) (by kernel_rfl) (by kernel_rfl)) ?_
        refine sy_pure 28 (.v (.bool true)) ?_
        refine sy_next 76 [(4, .adr 4 0), (5, .adr 5 0), (6, .adr 6 0), (7, .adr 7 0), (28, .v (.bool true))] [(4, ⟨28, a1.cs ++ a2.cs⟩), (5, ⟨28, b1.cs ++ b2.cs⟩), (6, ⟨28, c1.cs ++ c2.cs⟩), (7, ⟨28, e1.cs ++ e2.cs⟩)] ?_
        refine sw_true (by kernel_rfl) ?_
        refine sw_seq ?_
        refine sw_reg ?_
        refine sy_call 29 9 [] ?_
        intro w38 u38 e38 d38
        have k41 := k_awake4 d38
        with_reducible refine Post.mono k41 ?_
        clear k41
        rintro _ u39 g40 rfl
        refine sy_pure 8 (.v (.bool true)) ?_
        refine sy_next 76 [(8, .v (.bool true))] [] ?_
        refine sw_ret (mpr_seq (ret0 [.bool true] ⟨res_tmp, trivial⟩ fun u42 e43 => ?_))
        exact rfl
      · refine sy_eq 24 (x := .v (.bool (!(smR c1 && smR c2)))) (.v (.bool false)) (by rw [hs37]) ?_
        have qhs37 : smR c1 = true ∧ smR c2 = true := by simpa using hs37
        have hc1f := smR_few hc1 qhs37.1
        have hc2f := smR_few hc2 qhs37.2
        refine sy_ldv 25 (.v (.agg #[.bool e1.s, .slice e1.m.a e1.m.n e1.m.c, .slice e1.d.a e1.d.n e1.d.c, .bool e2.s, .slice e2.m.a e2.m.n e2.m.c, .slice e2.d.a e2.d.n e2.d.c])) ty28 part_agg ?_ (hw := wants1 (g := 13) (b := false) (t := 24) (by kernel_rfl) (by kernel_rfl) (by kernel_rfl))
        refine sy_call 26 7 [.agg #[.bool e1.s, .slice e1.m.a e1.m.n e1.m.c, .slice e1.d.a e1.d.n e1.d.c, .bool e2.s, .slice e2.m.a e2.m.n e2.m.c, .slice e2.d.a e2.d.n e2.d.c]] ?_ (hw := wants1 (g := 13) (b := false) (t := 24) (by kernel_rfl) (by kernel_rfl) (by kernel_rfl))
        intro w44 u44 e44 d44
        have k47 := k_smallOn (a := e1) (b := e2) d44
        with_reducible refine Post.mono k47 ?_
        clear k47
        rintro _ u45 g46 rfl
        refine sy_pure 27 (.v (.bool (!(smR e1 && smR e2)))) ?_ (hw := wants1 (g := 13) (b := false) (t := 24) (by kernel_rfl) (by kernel_rfl) (by kernel_rfl))
        refine sy_pure 28 (.v (.bool (!(smR e1 && smR e2)))) ?_
        refine sy_next 76 [(4, .adr 4 0), (5, .adr 5 0), (6, .adr 6 0), (7, .adr 7 0), (28, .v (.bool (!(smR e1 && smR e2))))] [(4, ⟨28, a1.cs ++ a2.cs⟩), (5, ⟨28, b1.cs ++ b2.cs⟩), (6, ⟨28, c1.cs ++ c2.cs⟩), (7, ⟨28, e1.cs ++ e2.cs⟩)] ?_
        refine sw_cond (b := !(smR e1 && smR e2)) (by kernel_rfl) (fun hb48 => ?_) (fun hb48 => ?_)
        · replace hb48 : (!(smR e1 && smR e2)) = true := hb48
          refine sw_seq ?_
          refine sw_reg ?_
          refine sy_call 29 9 [] ?_
          intro w49 u49 e49 d49
          have k52 := k_awake4 d49
          with_reducible refine Post.mono k52 ?_
          clear k52
          rintro _ u50 g51 rfl
          refine sy_pure 8 (.v (.bool true)) ?_
          refine sy_next 76 [(8, .v (.bool true))] [] ?_
          refine sw_ret (mpr_seq (ret0 [.bool true] ⟨res_tmp, trivial⟩ fun u53 e54 => ?_))
          exact rfl
        · replace hb48 : (!(smR e1 && smR e2)) = false := hb48
          have qhb48 : smR e1 = true ∧ smR e2 = true := by simpa using hb48
          have he1f := smR_few he1 qhb48.1
          have he2f := smR_few he2 qhb48.2
          refine sw_skip (mp_seq ?_)
          refine sw_seq ?_
          refine sw_any [0, 0, 3, 0, 0, 31, 0, 0, 255, 511] [(0, []), (1, []), (3, []), (4, []), (6, []), (7, []), (2, []), (5, []), (8, []), (9, [])] (by kernel_rfl) (by kernel_rfl) ?_
          refine sy_ldv 30 (.v (.agg #[.bool a1.s, .slice a1.m.a a1.m.n a1.m.c, .slice a1.d.a a1.d.n a1.d.c, .bool a2.s, .slice a2.m.a a2.m.n a2.m.c, .slice a2.d.a a2.d.n a2.d.c])) ty28 part_agg ?_
          refine sy_ldv 31 (.v (.agg #[.bool c1.s, .slice c1.m.a c1.m.n c1.m.c, .slice c1.d.a c1.d.n c1.d.c, .bool c2.s, .slice c2.m.a c2.m.n c2.m.c, .slice c2.d.a c2.d.n c2.d.c])) ty28 part_agg ?_
          refine sy_ldv 33 (.v (.agg #[.bool b1.s, .slice b1.m.a b1.m.n b1.m.c, .slice b1.d.a b1.d.n b1.d.c, .bool b2.s, .slice b2.m.a b2.m.n b2.m.c, .slice b2.d.a b2.d.n b2.d.c])) ty28 part_agg ?_
          refine sy_ldv 34 (.v (.agg #[.bool e1.s, .slice e1.m.a e1.m.n e1.m.c, .slice e1.d.a e1.d.n e1.d.c, .bool e2.s, .slice e2.m.a e2.m.n e2.m.c, .slice e2.d.a e2.d.n e2.d.c])) ty28 part_agg ?_
          refine sy_new 9 ⟨28, [.bool false, .slice none 0 0, .slice none 0 0, .bool false, .slice none 0 0, .slice none 0 0]⟩ ?_
          refine sy_new 10 ⟨28, [.bool false, .slice none 0 0, .slice none 0 0, .bool false, .slice none 0 0, .slice none 0 0]⟩ ?_
          refine sy_call 32 13 [.agg #[.bool a1.s, .slice a1.m.a a1.m.n a1.m.c, .slice a1.d.a a1.d.n a1.d.c, .bool a2.s, .slice a2.m.a a2.m.n a2.m.c, .slice a2.d.a a2.d.n a2.d.c], .agg #[.bool c1.s, .slice c1.m.a c1.m.n c1.m.c, .slice c1.d.a c1.d.n c1.d.c, .bool c2.s, .slice c2.m.a c2.m.n c2.m.c, .slice c2.d.a c2.d.n c2.d.c]] ?_
          intro w55 u55 e55 d55
          have k62 := k_ivHull d55 (ha1f.ext (e11.trans (g13.ext.trans (e22.trans (g24.ext.trans (e33.trans (g35.ext.trans (e44.trans (g46.ext.trans e55))))))))) (ha2f.ext (e11.trans (g13.ext.trans (e22.trans (g24.ext.trans (e33.trans (g35.ext.trans (e44.trans (g46.ext.trans e55))))))))) (hc1f.ext (e11.trans (g13.ext.trans (e22.trans (g24.ext.trans (e33.trans (g35.ext.trans (e44.trans (g46.ext.trans e55))))))))) (hc2f.ext (e11.trans (g13.ext.trans (e22.trans (g24.ext.trans (e33.trans (g35.ext.trans (e44.trans (g46.ext.trans e55))))))))) (by omega) (by omega)
          with_reducible refine Post.mono k62 ?_
          clear k62
          rintro _ u60 g61 ⟨r56, r58, rfl, h57, h59⟩
          refine sy_call 35 13 [.agg #[.bool b1.s, .slice b1.m.a b1.m.n b1.m.c, .slice b1.d.a b1.d.n b1.d.c, .bool b2.s, .slice b2.m.a b2.m.n b2.m.c, .slice b2.d.a b2.d.n b2.d.c], .agg #[.bool e1.s, .slice e1.m.a e1.m.n e1.m.c, .slice e1.d.a e1.d.n e1.d.c, .bool e2.s, .slice e2.m.a e2.m.n e2.m.c, .slice e2.d.a e2.d.n e2.d.c]] ?_
          intro w63 u63 e63 d63
          have k70 := k_ivHull d63 (hb1f.ext (e11.trans (g13.ext.trans (e22.trans (g24.ext.trans (e33.trans (g35.ext.trans (e44.trans (g46.ext.trans (e55.trans (g61.ext.trans e63))))))))))) (hb2f.ext (e11.trans (g13.ext.trans (e22.trans (g24.ext.trans (e33.trans (g35.ext.trans (e44.trans (g46.ext.trans (e55.trans (g61.ext.trans e63))))))))))) (he1f.ext (e11.trans (g13.ext.trans (e22.trans (g24.ext.trans (e33.trans (g35.ext.trans (e44.trans (g46.ext.trans (e55.trans (g61.ext.trans e63))))))))))) (he2f.ext (e11.trans (g13.ext.trans (e22.trans (g24.ext.trans (e33.trans (g35.ext.trans (e44.trans (g46.ext.trans (e55.trans (g61.ext.trans e63))))))))))) (by omega) (by omega)
          with_reducible refine Post.mono k70 ?_
          clear k70
          rintro _ u68 g69 ⟨r64, r66, rfl, h65, h67⟩
          refine sy_store ⟨28, r56.cs ++ r58.cs⟩ ty28 ?_
          refine sy_store ⟨28, r64.cs ++ r66.cs⟩ ty28 ?_
          refine sy_next 76 [(4, .adr 4 0), (5, .adr 5 0), (9, .adr 9 0), (10, .adr 10 0)] [(4, ⟨28, a1.cs ++ a2.cs⟩), (5, ⟨28, b1.cs ++ b2.cs⟩), (9, ⟨28, r56.cs ++ r58.cs⟩), (10, ⟨28, r64.cs ++ r66.cs⟩)] ?_
          refine sw_seq ?_
          refine sw_any [0, 1, 3, 3, 15, 31, 63, 127, 127, 511, 127, 127, 4095, 8191, 16383, 32767, 65535, 65535, 262143, 65535, 65535, 2097151, 4194303, 8388607, 16777215, 33554431, 33554431, 134217727, 33554431, 33554431, 1073741823, 2147483647, 4294967295, 8589934591, 17179869183, 34359738367, 17179869183, 137438953471, 274877906943, 549755813887, 1099511627775] [(0, []), (1, []), (2, []), (3, []), (4, []), (5, []), (6, []), (7, []), (8, []), (10, []), (11, []), (9, []), (12, []), (13, []), (14, []), (15, []), (16, []), (17, []), (19, []), (20, []), (18, []), (21, []), (22, []), (23, []), (24, []), (25, []), (26, []), (28, []), (29, []), (27, []), (30, []), (31, []), (32, []), (33, []), (34, []), (36, []), (35, []), (37, []), (38, []), (39, []), (40, [])] (by kernel_rfl) (by kernel_rfl) ?_
          refine sy_call 36 9 [] ?_
          intro w71 u71 e71 d71
          have k74 := k_awake4 d71
          with_reducible refine Post.mono k74 ?_
          clear k74
          rintro _ u72 g73 rfl
          refine sy_pure 37 (.v (.bool true)) ?_
          refine sy_ldv 38 (.v (.agg #[.bool a1.s, .slice a1.m.a a1.m.n a1.m.c, .slice a1.d.a a1.d.n a1.d.c, .bool a2.s, .slice a2.m.a a2.m.n a2.m.c, .slice a2.d.a a2.d.n a2.d.c])) ty28 part_agg ?_ (hw := wants1 (g := 1) (b := true) (t := 37) (by kernel_rfl) (by kernel_rfl) (by kernel_rfl))
          refine sy_ldv 39 (.v (.agg #[.bool r56.s, .slice r56.m.a r56.m.n r56.m.c, .slice r56.d.a r56.d.n r56.d.c, .bool r58.s, .slice r58.m.a r58.m.n r58.m.c, .slice r58.d.a r58.d.n r58.d.c])) ty28 part_agg ?_ (hw := wants1 (g := 1) (b := true) (t := 37) (by kernel_rfl) (by kernel_rfl) (by kernel_rfl))
          refine sy_call 40 14 [.agg #[.bool a1.s, .slice a1.m.a a1.m.n a1.m.c, .slice a1.d.a a1.d.n a1.d.c, .bool a2.s, .slice a2.m.a a2.m.n a2.m.c, .slice a2.d.a a2.d.n a2.d.c], .agg #[.bool r56.s, .slice r56.m.a r56.m.n r56.m.c, .slice r56.d.a r56.d.n r56.d.c, .bool r58.s, .slice r58.m.a r58.m.n r58.m.c, .slice r58.d.a r58.d.n r58.d.c]] ?_ (hw := wants1 (g := 1) (b := true) (t := 37) (by kernel_rfl) (by kernel_rfl) (by kernel_rfl))
          intro w75 u75 e75 d75
          have k78 := k_ivInside d75 (ha1f.ext (e11.trans (g13.ext.trans (e22.trans (g24.ext.trans (e33.trans (g35.ext.trans (e44.trans (g46.ext.trans (e55.trans (g61.ext.trans (e63.trans (g69.ext.trans (e71.trans (g73.ext.trans e75))))))))))))))) (ha2f.ext (e11.trans (g13.ext.trans (e22.trans (g24.ext.trans (e33.trans (g35.ext.trans (e44.trans (g46.ext.trans (e55.trans (g61.ext.trans (e63.trans (g69.ext.trans (e71.trans (g73.ext.trans e75))))))))))))))) (h57.ext (e63.trans (g69.ext.trans (e71.trans (g73.ext.trans e75))))).raw (h59.ext (e63.trans (g69.ext.trans (e71.trans (g73.ext.trans e75))))).raw (by omega) (by omega)
          with_reducible refine Post.mono k78 ?_
          clear k78
          rintro _ u76 g77 rfl
          refine sy_pure 41 (.v (.bool (Nt.inI (Nt.lo (Nt.lo x1 x2) (Nt.lo z1 z2)) (Nt.hi (Nt.hi x1 x2) (Nt.hi z1 z2)) x1 && Nt.inI (Nt.lo (Nt.lo x1 x2) (Nt.lo z1 z2)) (Nt.hi (Nt.hi x1 x2) (Nt.hi z1 z2)) x2))) ?_
          refine sy_eq 42 (x := .v (.bool (Nt.inI (Nt.lo (Nt.lo x1 x2) (Nt.lo z1 z2)) (Nt.hi (Nt.hi x1 x2) (Nt.hi z1 z2)) x1 && Nt.inI (Nt.lo (Nt.lo x1 x2) (Nt.lo z1 z2)) (Nt.hi (Nt.hi x1 x2) (Nt.hi z1 z2)) x2))) (.v (.bool true)) (by rw [show (Nt.inI (Nt.lo (Nt.lo x1 x2) (Nt.lo z1 z2)) (Nt.hi (Nt.hi x1 x2) (Nt.hi z1 z2)) x1 && Nt.inI (Nt.lo (Nt.lo x1 x2) (Nt.lo z1 z2)) (Nt.hi (Nt.hi x1 x2) (Nt.hi z1 z2)) x2) = true from Nt.grow0]) ?_
          refine sy_ldv 43 (.v (.agg #[.bool a1.s, .slice a1.m.a a1.m.n a1.m.c, .slice a1.d.a a1.d.n a1.d.c, .bool a2.s, .slice a2.m.a a2.m.n a2.m.c, .slice a2.d.a a2.d.n a2.d.c])) ty28 part_agg ?_ (hw := wants1 (g := 6) (b := true) (t := 42) (by kernel_rfl) (by kernel_rfl) (by kernel_rfl))
          refine sy_ldv 44 (.v (.agg #[.bool b1.s, .slice b1.m.a b1.m.n b1.m.c, .slice b1.d.a b1.d.n b1.d.c, .bool b2.s, .slice b2.m.a b2.m.n b2.m.c, .slice b2.d.a b2.d.n b2.d.c])) ty28 part_agg ?_ (hw := wants1 (g := 6) (b := true) (t := 42) (by kernel_rfl) (by kernel_rfl) (by kernel_rfl))
          refine sy_ldv 46 (.v (.agg #[.bool r56.s, .slice r56.m.a r56.m.n r56.m.c, .slice r56.d.a r56.d.n r56.d.c, .bool r58.s, .slice r58.m.a r58.m.n r58.m.c, .slice r58.d.a r58.d.n r58.d.c])) ty28 part_agg ?_ (hw := wants1 (g := 6) (b := true) (t := 42) (by kernel_rfl) (by kernel_rfl) (by kernel_rfl))
          refine sy_ldv 47 (.v (.agg #[.bool r64.s, .slice r64.m.a r64.m.n r64.m.c, .slice r64.d.a r64.d.n r64.d.c, .bool r66.s, .slice r66.m.a r66.m.n r66.m.c, .slice r66.d.a r66.d.n r66.d.c])) ty28 part_agg ?_ (hw := wants1 (g := 6) (b := true) (t := 42) (by kernel_rfl) (by kernel_rfl) (by kernel_rfl))
          refine sy_call 45 15 [.agg #[.bool a1.s, .slice a1.m.a a1.m.n a1.m.c, .slice a1.d.a a1.d.n a1.d.c, .bool a2.s, .slice a2.m.a a2.m.n a2.m.c, .slice a2.d.a a2.d.n a2.d.c], .agg #[.bool b1.s, .slice b1.m.a b1.m.n b1.m.c, .slice b1.d.a b1.d.n b1.d.c, .bool b2.s, .slice b2.m.a b2.m.n b2.m.c, .slice b2.d.a b2.d.n b2.d.c]] ?_ (hw := wants1 (g := 6) (b := true) (t := 42) (by kernel_rfl) (by kernel_rfl) (by kernel_rfl))
          intro w80 u80 e80 d80
          have k87 := k_ivAdd d80 (ha1f.ext (e11.trans (g13.ext.trans (e22.trans (g24.ext.trans (e33.trans (g35.ext.trans (e44.trans (g46.ext.trans (e55.trans (g61.ext.trans (e63.trans (g69.ext.trans (e71.trans (g73.ext.trans (e75.trans (g77.ext.trans e80))))))))))))))))) (ha2f.ext (e11.trans (g13.ext.trans (e22.trans (g24.ext.trans (e33.trans (g35.ext.trans (e44.trans (g46.ext.trans (e55.trans (g61.ext.trans (e63.trans (g69.ext.trans (e71.trans (g73.ext.trans (e75.trans (g77.ext.trans e80))))))))))))))))) (hb1f.ext (e11.trans (g13.ext.trans (e22.trans (g24.ext.trans (e33.trans (g35.ext.trans (e44.trans (g46.ext.trans (e55.trans (g61.ext.trans (e63.trans (g69.ext.trans (e71.trans (g73.ext.trans (e75.trans (g77.ext.trans e80))))))))))))))))) (hb2f.ext (e11.trans (g13.ext.trans (e22.trans (g24.ext.trans (e33.trans (g35.ext.trans (e44.trans (g46.ext.trans (e55.trans (g61.ext.trans (e63.trans (g69.ext.trans (e71.trans (g73.ext.trans (e75.trans (g77.ext.trans e80))))))))))))))))) (by omega) (by omega)
          with_reducible refine Post.mono k87 ?_
          clear k87
          rintro _ u85 g86 ⟨r81, r83, rfl, h82, h84⟩
          refine sy_call 48 15 [.agg #[.bool r56.s, .slice r56.m.a r56.m.n r56.m.c, .slice r56.d.a r56.d.n r56.d.c, .bool r58.s, .slice r58.m.a r58.m.n r58.m.c, .slice r58.d.a r58.d.n r58.d.c], .agg #[.bool r64.s, .slice r64.m.a r64.m.n r64.m.c, .slice r64.d.a r64.d.n r64.d.c, .bool r66.s, .slice r66.m.a r66.m.n r66.m.c, .slice r66.d.a r66.d.n r66.d.c]] ?_ (hw := wants1 (g := 6) (b := true) (t := 42) (by kernel_rfl) (by kernel_rfl) (by kernel_rfl))
          intro w88 u88 e88 d88
          have k95 := k_ivAdd d88 (h57.ext (e63.trans (g69.ext.trans (e71.trans (g73.ext.trans (e75.trans (g77.ext.trans (e80.trans (g86.ext.trans e88))))))))).raw (h59.ext (e63.trans (g69.ext.trans (e71.trans (g73.ext.trans (e75.trans (g77.ext.trans (e80.trans (g86.ext.trans e88))))))))).raw (h65.ext (e71.trans (g73.ext.trans (e75.trans (g77.ext.trans (e80.trans (g86.ext.trans e88))))))).raw (h67.ext (e71.trans (g73.ext.trans (e75.trans (g77.ext.trans (e80.trans (g86.ext.trans e88))))))).raw (by omega) (by omega)
          with_reducible refine Post.mono k95 ?_
          clear k95
          rintro _ u93 g94 ⟨r89, r91, rfl, h90, h92⟩
          refine sy_call 49 14 [.agg #[.bool r81.s, .slice r81.m.a r81.m.n r81.m.c, .slice r81.d.a r81.d.n r81.d.c, .bool r83.s, .slice r83.m.a r83.m.n r83.m.c, .slice r83.d.a r83.d.n r83.d.c], .agg #[.bool r89.s, .slice r89.m.a r89.m.n r89.m.c, .slice r89.d.a r89.d.n r89.d.c, .bool r91.s, .slice r91.m.a r91.m.n r91.m.c, .slice r91.d.a r91.d.n r91.d.c]] ?_ (hw := wants1 (g := 6) (b := true) (t := 42) (by kernel_rfl) (by kernel_rfl) (by kernel_rfl))
          intro w96 u96 e96 d96
          have k99 := k_ivInside d96 (h82.ext (e88.trans (g94.ext.trans e96))).raw (h84.ext (e88.trans (g94.ext.trans e96))).raw (h90.ext e96).raw (h92.ext e96).raw (by omega) (by omega)
          with_reducible refine Post.mono k99 ?_
          clear k99
          rintro _ u97 g98 rfl
          refine sy_pure 50 (.v (.bool (Nt.inI (Nt.lo (Nt.lo (Nt.lo x1 x2) (Nt.lo z1 z2)) (Nt.hi (Nt.hi x1 x2) (Nt.hi z1 z2)) + Nt.lo (Nt.lo (Nt.lo y1 y2) (Nt.lo t1 t2)) (Nt.hi (Nt.hi y1 y2) (Nt.hi t1 t2))) (Nt.hi (Nt.lo (Nt.lo x1 x2) (Nt.lo z1 z2)) (Nt.hi (Nt.hi x1 x2) (Nt.hi z1 z2)) + Nt.hi (Nt.lo (Nt.lo y1 y2) (Nt.lo t1 t2)) (Nt.hi (Nt.hi y1 y2) (Nt.hi t1 t2))) (Nt.lo x1 x2 + Nt.lo y1 y2) && Nt.inI (Nt.lo (Nt.lo (Nt.lo x1 x2) (Nt.lo z1 z2)) (Nt.hi (Nt.hi x1 x2) (Nt.hi z1 z2)) + Nt.lo (Nt.lo (Nt.lo y1 y2) (Nt.lo t1 t2)) (Nt.hi (Nt.hi y1 y2) (Nt.hi t1 t2))) (Nt.hi (Nt.lo (Nt.lo x1 x2) (Nt.lo z1 z2)) (Nt.hi (Nt.hi x1 x2) (Nt.hi z1 z2)) + Nt.hi (Nt.lo (Nt.lo y1 y2) (Nt.lo t1 t2)) (Nt.hi (Nt.hi y1 y2) (Nt.hi t1 t2))) (Nt.hi x1 x2 + Nt.hi y1 y2)))) ?_
          refine sy_eq 51 (x := .v (.bool (Nt.inI (Nt.lo (Nt.lo (Nt.lo x1 x2) (Nt.lo z1 z2)) (Nt.hi (Nt.hi x1 x2) (Nt.hi z1 z2)) + Nt.lo (Nt.lo (Nt.lo y1 y2) (Nt.lo t1 t2)) (Nt.hi (Nt.hi y1 y2) (Nt.hi t1 t2))) (Nt.hi (Nt.lo (Nt.lo x1 x2) (Nt.lo z1 z2)) (Nt.hi (Nt.hi x1 x2) (Nt.hi z1 z2)) + Nt.hi (Nt.lo (Nt.lo y1 y2) (Nt.lo t1 t2)) (Nt.hi (Nt.hi y1 y2) (Nt.hi t1 t2))) (Nt.lo x1 x2 + Nt.lo y1 y2) && Nt.inI (Nt.lo (Nt.lo (Nt.lo x1 x2) (Nt.lo z1 z2)) (Nt.hi (Nt.hi x1 x2) (Nt.hi z1 z2)) + Nt.lo (Nt.lo (Nt.lo y1 y2) (Nt.lo t1 t2)) (Nt.hi (Nt.hi y1 y2) (Nt.hi t1 t2))) (Nt.hi (Nt.lo (Nt.lo x1 x2) (Nt.lo z1 z2)) (Nt.hi (Nt.hi x1 x2) (Nt.hi z1 z2)) + Nt.hi (Nt.lo (Nt.lo y1 y2) (Nt.lo t1 t2)) (Nt.hi (Nt.hi y1 y2) (Nt.hi t1 t2))) (Nt.hi x1 x2 + Nt.hi y1 y2)))) (.v (.bool true)) (by rw [show (Nt.inI (Nt.lo (Nt.lo (Nt.lo x1 x2) (Nt.lo z1 z2)) (Nt.hi (Nt.hi x1 x2) (Nt.hi z1 z2)) + Nt.lo (Nt.lo (Nt.lo y1 y2) (Nt.lo t1 t2)) (Nt.hi (Nt.hi y1 y2) (Nt.hi t1 t2))) (Nt.hi (Nt.lo (Nt.lo x1 x2) (Nt.lo z1 z2)) (Nt.hi (Nt.hi x1 x2) (Nt.hi z1 z2)) + Nt.hi (Nt.lo (Nt.lo y1 y2) (Nt.lo t1 t2)) (Nt.hi (Nt.hi y1 y2) (Nt.hi t1 t2))) (Nt.lo x1 x2 + Nt.lo y1 y2) && Nt.inI (Nt.lo (Nt.lo (Nt.lo x1 x2) (Nt.lo z1 z2)) (Nt.hi (Nt.hi x1 x2) (Nt.hi z1 z2)) + Nt.lo (Nt.lo (Nt.lo y1 y2) (Nt.lo t1 t2)) (Nt.hi (Nt.hi y1 y2) (Nt.hi t1 t2))) (Nt.hi (Nt.lo (Nt.lo x1 x2) (Nt.lo z1 z2)) (Nt.hi (Nt.hi x1 x2) (Nt.hi z1 z2)) + Nt.hi (Nt.lo (Nt.lo y1 y2) (Nt.lo t1 t2)) (Nt.hi (Nt.hi y1 y2) (Nt.hi t1 t2))) (Nt.hi x1 x2 + Nt.hi y1 y2)) = true from Nt.grow_add]) ?_
          refine sy_ldv 52 (.v (.agg #[.bool a1.s, .slice a1.m.a a1.m.n a1.m.c, .slice a1.d.a a1.d.n a1.d.c, .bool a2.s, .slice a2.m.a a2.m.n a2.m.c, .slice a2.d.a a2.d.n a2.d.c])) ty28 part_agg ?_ (hw := wants1 (g := 15) (b := true) (t := 51) (by kernel_rfl) (by kernel_rfl) (by kernel_rfl))
          refine sy_ldv 53 (.v (.agg #[.bool b1.s, .slice b1.m.a b1.m.n b1.m.c, .slice b1.d.a b1.d.n b1.d.c, .bool b2.s, .slice b2.m.a b2.m.n b2.m.c, .slice b2.d.a b2.d.n b2.d.c])) ty28 part_agg ?_ (hw := wants1 (g := 15) (b := true) (t := 51) (by kernel_rfl) (by kernel_rfl) (by kernel_rfl))
          refine sy_ldv 55 (.v (.agg #[.bool r56.s, .slice r56.m.a r56.m.n r56.m.c, .slice r56.d.a r56.d.n r56.d.c, .bool r58.s, .slice r58.m.a r58.m.n r58.m.c, .slice r58.d.a r58.d.n r58.d.c])) ty28 part_agg ?_ (hw := wants1 (g := 15) (b := true) (t := 51) (by kernel_rfl) (by kernel_rfl) (by kernel_rfl))
          refine sy_ldv 56 (.v (.agg #[.bool r64.s, .slice r64.m.a r64.m.n r64.m.c, .slice r64.d.a r64.d.n r64.d.c, .bool r66.s, .slice r66.m.a r66.m.n r66.m.c, .slice r66.d.a r66.d.n r66.d.c])) ty28 part_agg ?_ (hw := wants1 (g := 15) (b := true) (t := 51) (by kernel_rfl) (by kernel_rfl) (by kernel_rfl))
          refine sy_call 54 16 [.agg #[.bool a1.s, .slice a1.m.a a1.m.n a1.m.c, .slice a1.d.a a1.d.n a1.d.c, .bool a2.s, .slice a2.m.a a2.m.n a2.m.c, .slice a2.d.a a2.d.n a2.d.c], .agg #[.bool b1.s, .slice b1.m.a b1.m.n b1.m.c, .slice b1.d.a b1.d.n b1.d.c, .bool b2.s, .slice b2.m.a b2.m.n b2.m.c, .slice b2.d.a b2.d.n b2.d.c]] ?_ (hw := wants1 (g := 15) (b := true) (t := 51) (by kernel_rfl) (by kernel_rfl) (by kernel_rfl))
          intro w101 u101 e101 d101
          have k108 := k_ivSub d101 (ha1f.ext (e11.trans (g13.ext.trans (e22.trans (g24.ext.trans (e33.trans (g35.ext.trans (e44.trans (g46.ext.trans (e55.trans (g61.ext.trans (e63.trans (g69.ext.trans (e71.trans (g73.ext.trans (e75.trans (g77.ext.trans (e80.trans (g86.ext.trans (e88.trans (g94.ext.trans (e96.trans (g98.ext.trans e101))))))))))))))))))))))) (ha2f.ext (e11.trans (g13.ext.trans (e22.trans (g24.ext.trans (e33.trans (g35.ext.trans (e44.trans (g46.ext.trans (e55.trans (g61.ext.trans (e63.trans (g69.ext.trans (e71.trans (g73.ext.trans (e75.trans (g77.ext.trans (e80.trans (g86.ext.trans (e88.trans (g94.ext.trans (e96.trans (g98.ext.trans e101))))))))))))))))))))))) (hb1f.ext (e11.trans (g13.ext.trans (e22.trans (g24.ext.trans (e33.trans (g35.ext.trans (e44.trans (g46.ext.trans (e55.trans (g61.ext.trans (e63.trans (g69.ext.trans (e71.trans (g73.ext.trans (e75.trans (g77.ext.trans (e80.trans (g86.ext.trans (e88.trans (g94.ext.trans (e96.trans (g98.ext.trans e101))))))))))))))))))))))) (hb2f.ext (e11.trans (g13.ext.trans (e22.trans (g24.ext.trans (e33.trans (g35.ext.trans (e44.trans (g46.ext.trans (e55.trans (g61.ext.trans (e63.trans (g69.ext.trans (e71.trans (g73.ext.trans (e75.trans (g77.ext.trans (e80.trans (g86.ext.trans (e88.trans (g94.ext.trans (e96.trans (g98.ext.trans e101))))))))))))))))))))))) (by omega) (by omega)
          with_reducible refine Post.mono k108 ?_
          clear k108
          rintro _ u106 g107 ⟨r102, r104, rfl, h103, h105⟩
          refine sy_call 57 16 [.agg #[.bool r56.s, .slice r56.m.a r56.m.n r56.m.c, .slice r56.d.a r56.d.n r56.d.c, .bool r58.s, .slice r58.m.a r58.m.n r58.m.c, .slice r58.d.a r58.d.n r58.d.c], .agg #[.bool r64.s, .slice r64.m.a r64.m.n r64.m.c, .slice r64.d.a r64.d.n r64.d.c, .bool r66.s, .slice r66.m.a r66.m.n r66.m.c, .slice r66.d.a r66.d.n r66.d.c]] ?_ (hw := wants1 (g := 15) (b := true) (t := 51) (by kernel_rfl) (by kernel_rfl) (by kernel_rfl))
          intro w109 u109 e109 d109
          have k116 := k_ivSub d109 (h57.ext (e63.trans (g69.ext.trans (e71.trans (g73.ext.trans (e75.trans (g77.ext.trans (e80.trans (g86.ext.trans (e88.trans (g94.ext.trans (e96.trans (g98.ext.trans (e101.trans (g107.ext.trans e109))))))))))))))).raw (h59.ext (e63.trans (g69.ext.trans (e71.trans (g73.ext.trans (e75.trans (g77.ext.trans (e80.trans (g86.ext.trans (e88.trans (g94.ext.trans (e96.trans (g98.ext.trans (e101.trans (g107.ext.trans e109))))))))))))))).raw (h65.ext (e71.trans (g73.ext.trans (e75.trans (g77.ext.trans (e80.trans (g86.ext.trans (e88.trans (g94.ext.trans (e96.trans (g98.ext.trans (e101.trans (g107.ext.trans e109))))))))))))).raw (h67.ext (e71.trans (g73.ext.trans (e75.trans (g77.ext.trans (e80.trans (g86.ext.trans (e88.trans (g94.ext.trans (e96.trans (g98.ext.trans (e101.trans (g107.ext.trans e109))))))))))))).raw (by omega) (by omega)
          with_reducible refine Post.mono k116 ?_
          clear k116
          rintro _ u114 g115 ⟨r110, r112, rfl, h111, h113⟩
          refine sy_call 58 14 [.agg #[.bool r102.s, .slice r102.m.a r102.m.n r102.m.c, .slice r102.d.a r102.d.n r102.d.c, .bool r104.s, .slice r104.m.a r104.m.n r104.m.c, .slice r104.d.a r104.d.n r104.d.c], .agg #[.bool r110.s, .slice r110.m.a r110.m.n r110.m.c, .slice r110.d.a r110.d.n r110.d.c, .bool r112.s, .slice r112.m.a r112.m.n r112.m.c, .slice r112.d.a r112.d.n r112.d.c]] ?_ (hw := wants1 (g := 15) (b := true) (t := 51) (by kernel_rfl) (by kernel_rfl) (by kernel_rfl))
          intro w117 u117 e117 d117
          have k120 := k_ivInside d117 (h103.ext (e109.trans (g115.ext.trans e117))).raw (h105.ext (e109.trans (g115.ext.trans e117))).raw (h111.ext e117).raw (h113.ext e117).raw (by omega) (by omega)
          with_reducible refine Post.mono k120 ?_
          clear k120
          rintro _ u118 g119 rfl
          refine sy_pure 59 (.v (.bool (Nt.inI (Nt.lo (Nt.lo (Nt.lo x1 x2) (Nt.lo z1 z2)) (Nt.hi (Nt.hi x1 x2) (Nt.hi z1 z2)) - Nt.hi (Nt.lo (Nt.lo y1 y2) (Nt.lo t1 t2)) (Nt.hi (Nt.hi y1 y2) (Nt.hi t1 t2))) (Nt.hi (Nt.lo (Nt.lo x1 x2) (Nt.lo z1 z2)) (Nt.hi (Nt.hi x1 x2) (Nt.hi z1 z2)) - Nt.lo (Nt.lo (Nt.lo y1 y2) (Nt.lo t1 t2)) (Nt.hi (Nt.hi y1 y2) (Nt.hi t1 t2))) (Nt.lo x1 x2 - Nt.hi y1 y2) && Nt.inI (Nt.lo (Nt.lo (Nt.lo x1 x2) (Nt.lo z1 z2)) (Nt.hi (Nt.hi x1 x2) (Nt.hi z1 z2)) - Nt.hi (Nt.lo (Nt.lo y1 y2) (Nt.lo t1 t2)) (Nt.hi (Nt.hi y1 y2) (Nt.hi t1 t2))) (Nt.hi (Nt.lo (Nt.lo x1 x2) (Nt.lo z1 z2)) (Nt.hi (Nt.hi x1 x2) (Nt.hi z1 z2)) - Nt.lo (Nt.lo (Nt.lo y1 y2) (Nt.lo t1 t2)) (Nt.hi (Nt.hi y1 y2) (Nt.hi t1 t2))) (Nt.hi x1 x2 - Nt.lo y1 y2)))) ?_
          refine sy_eq 60 (x := .v (.bool (Nt.inI (Nt.lo (Nt.lo (Nt.lo x1 x2) (Nt.lo z1 z2)) (Nt.hi (Nt.hi x1 x2) (Nt.hi z1 z2)) - Nt.hi (Nt.lo (Nt.lo y1 y2) (Nt.lo t1 t2)) (Nt.hi (Nt.hi y1 y2) (Nt.hi t1 t2))) (Nt.hi (Nt.lo (Nt.lo x1 x2) (Nt.lo z1 z2)) (Nt.hi (Nt.hi x1 x2) (Nt.hi z1 z2)) - Nt.lo (Nt.lo (Nt.lo y1 y2) (Nt.lo t1 t2)) (Nt.hi (Nt.hi y1 y2) (Nt.hi t1 t2))) (Nt.lo x1 x2 - Nt.hi y1 y2) && Nt.inI (Nt.lo (Nt.lo (Nt.lo x1 x2) (Nt.lo z1 z2)) (Nt.hi (Nt.hi x1 x2) (Nt.hi z1 z2)) - Nt.hi (Nt.lo (Nt.lo y1 y2) (Nt.lo t1 t2)) (Nt.hi (Nt.hi y1 y2) (Nt.hi t1 t2))) (Nt.hi (Nt.lo (Nt.lo x1 x2) (Nt.lo z1 z2)) (Nt.hi (Nt.hi x1 x2) (Nt.hi z1 z2)) - Nt.lo (Nt.lo (Nt.lo y1 y2) (Nt.lo t1 t2)) (Nt.hi (Nt.hi y1 y2) (Nt.hi t1 t2))) (Nt.hi x1 x2 - Nt.lo y1 y2)))) (.v (.bool true)) (by rw [show (Nt.inI (Nt.lo (Nt.lo (Nt.lo x1 x2) (Nt.lo z1 z2)) (Nt.hi (Nt.hi x1 x2) (Nt.hi z1 z2)) - Nt.hi (Nt.lo (Nt.lo y1 y2) (Nt.lo t1 t2)) (Nt.hi (Nt.hi y1 y2) (Nt.hi t1 t2))) (Nt.hi (Nt.lo (Nt.lo x1 x2) (Nt.lo z1 z2)) (Nt.hi (Nt.hi x1 x2) (Nt.hi z1 z2)) - Nt.lo (Nt.lo (Nt.lo y1 y2) (Nt.lo t1 t2)) (Nt.hi (Nt.hi y1 y2) (Nt.hi t1 t2))) (Nt.lo x1 x2 - Nt.hi y1 y2) && Nt.inI (Nt.lo (Nt.lo (Nt.lo x1 x2) (Nt.lo z1 z2)) (Nt.hi (Nt.hi x1 x2) (Nt.hi z1 z2)) - Nt.hi (Nt.lo (Nt.lo y1 y2) (Nt.lo t1 t2)) (Nt.hi (Nt.hi y1 y2) (Nt.hi t1 t2))) (Nt.hi (Nt.lo (Nt.lo x1 x2) (Nt.lo z1 z2)) (Nt.hi (Nt.hi x1 x2) (Nt.hi z1 z2)) - Nt.lo (Nt.lo (Nt.lo y1 y2) (Nt.lo t1 t2)) (Nt.hi (Nt.hi y1 y2) (Nt.hi t1 t2))) (Nt.hi x1 x2 - Nt.lo y1 y2)) = true from Nt.grow_sub]) ?_
          refine sy_ldv 61 (.v (.agg #[.bool a1.s, .slice a1.m.a a1.m.n a1.m.c, .slice a1.d.a a1.d.n a1.d.c, .bool a2.s, .slice a2.m.a a2.m.n a2.m.c, .slice a2.d.a a2.d.n a2.d.c])) ty28 part_agg ?_ (hw := wants1 (g := 24) (b := true) (t := 60) (by kernel_rfl) (by kernel_rfl) (by kernel_rfl))
          refine sy_ldv 62 (.v (.agg #[.bool b1.s, .slice b1.m.a b1.m.n b1.m.c, .slice b1.d.a b1.d.n b1.d.c, .bool b2.s, .slice b2.m.a b2.m.n b2.m.c, .slice b2.d.a b2.d.n b2.d.c])) ty28 part_agg ?_ (hw := wants1 (g := 24) (b := true) (t := 60) (by kernel_rfl) (by kernel_rfl) (by kernel_rfl))
          refine sy_ldv 64 (.v (.agg #[.bool r56.s, .slice r56.m.a r56.m.n r56.m.c, .slice r56.d.a r56.d.n r56.d.c, .bool r58.s, .slice r58.m.a r58.m.n r58.m.c, .slice r58.d.a r58.d.n r58.d.c])) ty28 part_agg ?_ (hw := wants1 (g := 24) (b := true) (t := 60) (by kernel_rfl) (by kernel_rfl) (by kernel_rfl))
          refine sy_ldv 65 (.v (.agg #[.bool r64.s, .slice r64.m.a r64.m.n r64.m.c, .slice r64.d.a r64.d.n r64.d.c, .bool r66.s, .slice r66.m.a r66.m.n r66.m.c, .slice r66.d.a r66.d.n r66.d.c])) ty28 part_agg ?_ (hw := wants1 (g := 24) (b := true) (t := 60) (by kernel_rfl) (by kernel_rfl) (by kernel_rfl))
          refine sy_call 63 17 [.agg #[.bool a1.s, .slice a1.m.a a1.m.n a1.m.c, .slice a1.d.a a1.d.n a1.d.c, .bool a2.s, .slice a2.m.a a2.m.n a2.m.c, .slice a2.d.a a2.d.n a2.d.c], .agg #[.bool b1.s, .slice b1.m.a b1.m.n b1.m.c, .slice b1.d.a b1.d.n b1.d.c, .bool b2.s, .slice b2.m.a b2.m.n b2.m.c, .slice b2.d.a b2.d.n b2.d.c]] ?_ (hw := wants1 (g := 24) (b := true) (t := 60) (by kernel_rfl) (by kernel_rfl) (by kernel_rfl))
          intro w122 u122 e122 d122
          have k129 := k_ivMul d122 (ha1f.ext (e11.trans (g13.ext.trans (e22.trans (g24.ext.trans (e33.trans (g35.ext.trans (e44.trans (g46.ext.trans (e55.trans (g61.ext.trans (e63.trans (g69.ext.trans (e71.trans (g73.ext.trans (e75.trans (g77.ext.trans (e80.trans (g86.ext.trans (e88.trans (g94.ext.trans (e96.trans (g98.ext.trans (e101.trans (g107.ext.trans (e109.trans (g115.ext.trans (e117.trans (g119.ext.trans e122))))))))))))))))))))))))))))) (ha2f.ext (e11.trans (g13.ext.trans (e22.trans (g24.ext.trans (e33.trans (g35.ext.trans (e44.trans (g46.ext.trans (e55.trans (g61.ext.trans (e63.trans (g69.ext.trans (e71.trans (g73.ext.trans (e75.trans (g77.ext.trans (e80.trans (g86.ext.trans (e88.trans (g94.ext.trans (e96.trans (g98.ext.trans (e101.trans (g107.ext.trans (e109.trans (g115.ext.trans (e117.trans (g119.ext.trans e122))))))))))))))))))))))))))))) (hb1f.ext (e11.trans (g13.ext.trans (e22.trans (g24.ext.trans (e33.trans (g35.ext.trans (e44.trans (g46.ext.trans (e55.trans (g61.ext.trans (e63.trans (g69.ext.trans (e71.trans (g73.ext.trans (e75.trans (g77.ext.trans (e80.trans (g86.ext.trans (e88.trans (g94.ext.trans (e96.trans (g98.ext.trans (e101.trans (g107.ext.trans (e109.trans (g115.ext.trans (e117.trans (g119.ext.trans e122))))))))))))))))))))))))))))) (hb2f.ext (e11.trans (g13.ext.trans (e22.trans (g24.ext.trans (e33.trans (g35.ext.trans (e44.trans (g46.ext.trans (e55.trans (g61.ext.trans (e63.trans (g69.ext.trans (e71.trans (g73.ext.trans (e75.trans (g77.ext.trans (e80.trans (g86.ext.trans (e88.trans (g94.ext.trans (e96.trans (g98.ext.trans (e101.trans (g107.ext.trans (e109.trans (g115.ext.trans (e117.trans (g119.ext.trans e122))))))))))))))))))))))))))))) (by omega) (by omega)
          with_reducible refine Post.mono k129 ?_
          clear k129
          rintro _ u127 g128 ⟨r123, r125, rfl, h124, h126⟩
          refine sy_call 66 17 [.agg #[.bool r56.s, .slice r56.m.a r56.m.n r56.m.c, .slice r56.d.a r56.d.n r56.d.c, .bool r58.s, .slice r58.m.a r58.m.n r58.m.c, .slice r58.d.a r58.d.n r58.d.c], .agg #[.bool r64.s, .slice r64.m.a r64.m.n r64.m.c, .slice r64.d.a r64.d.n r64.d.c, .bool r66.s, .slice r66.m.a r66.m.n r66.m.c, .slice r66.d.a r66.d.n r66.d.c]] ?_ (hw := wants1 (g := 24) (b := true) (t := 60) (by kernel_rfl) (by kernel_rfl) (by kernel_rfl))
          intro w130 u130 e130 d130
          have k137 := k_ivMul d130 (h57.ext (e63.trans (g69.ext.trans (e71.trans (g73.ext.trans (e75.trans (g77.ext.trans (e80.trans (g86.ext.trans (e88.trans (g94.ext.trans (e96.trans (g98.ext.trans (e101.trans (g107.ext.trans (e109.trans (g115.ext.trans (e117.trans (g119.ext.trans (e122.trans (g128.ext.trans e130))))))))))))))))))))).raw (h59.ext (e63.trans (g69.ext.trans (e71.trans (g73.ext.trans (e75.trans (g77.ext.trans (e80.trans (g86.ext.trans (e88.trans (g94.ext.trans (e96.trans (g98.ext.trans (e101.trans (g107.ext.trans (e109.trans (g115.ext.trans (e117.trans (g119.ext.trans (e122.trans (g128.ext.trans e130))))))))))))))))))))).raw (h65.ext (e71.trans (g73.ext.trans (e75.trans (g77.ext.trans (e80.trans (g86.ext.trans (e88.trans (g94.ext.trans (e96.trans (g98.ext.trans (e101.trans (g107.ext.trans (e109.trans (g115.ext.trans (e117.trans (g119.ext.trans (e122.trans (g128.ext.trans e130))))))))))))))))))).raw (h67.ext (e71.trans (g73.ext.trans (e75.trans (g77.ext.trans (e80.trans (g86.ext.trans (e88.trans (g94.ext.trans (e96.trans (g98.ext.trans (e101.trans (g107.ext.trans (e109.trans (g115.ext.trans (e117.trans (g119.ext.trans (e122.trans (g128.ext.trans e130))))))))))))))))))).raw (by omega) (by omega)
          with_reducible refine Post.mono k137 ?_
          clear k137
          rintro _ u135 g136 ⟨r131, r133, rfl, h132, h134⟩
          refine sy_call 67 14 [.agg #[.bool r123.s, .slice r123.m.a r123.m.n r123.m.c, .slice r123.d.a r123.d.n r123.d.c, .bool r125.s, .slice r125.m.a r125.m.n r125.m.c, .slice r125.d.a r125.d.n r125.d.c], .agg #[.bool r131.s, .slice r131.m.a r131.m.n r131.m.c, .slice r131.d.a r131.d.n r131.d.c, .bool r133.s, .slice r133.m.a r133.m.n r133.m.c, .slice r133.d.a r133.d.n r133.d.c]] ?_ (hw := wants1 (g := 24) (b := true) (t := 60) (by kernel_rfl) (by kernel_rfl) (by kernel_rfl))
          intro w138 u138 e138 d138
          have k141 := k_ivInside d138 (h124.ext (e130.trans (g136.ext.trans e138))).raw (h126.ext (e130.trans (g136.ext.trans e138))).raw (h132.ext e138).raw (h134.ext e138).raw (by omega) (by omega)
          with_reducible refine Post.mono k141 ?_
          clear k141
          rintro _ u139 g140 rfl
          refine sy_pure 68 (.v (.bool (Nt.inI (Nt.lo4 ((Nt.lo (Nt.lo x1 x2) (Nt.lo z1 z2)) * (Nt.lo (Nt.lo y1 y2) (Nt.lo t1 t2))) ((Nt.lo (Nt.lo x1 x2) (Nt.lo z1 z2)) * (Nt.hi (Nt.hi y1 y2) (Nt.hi t1 t2))) ((Nt.hi (Nt.hi x1 x2) (Nt.hi z1 z2)) * (Nt.lo (Nt.lo y1 y2) (Nt.lo t1 t2))) ((Nt.hi (Nt.hi x1 x2) (Nt.hi z1 z2)) * (Nt.hi (Nt.hi y1 y2) (Nt.hi t1 t2)))) (Nt.hi4 ((Nt.lo (Nt.lo x1 x2) (Nt.lo z1 z2)) * (Nt.lo (Nt.lo y1 y2) (Nt.lo t1 t2))) ((Nt.lo (Nt.lo x1 x2) (Nt.lo z1 z2)) * (Nt.hi (Nt.hi y1 y2) (Nt.hi t1 t2))) ((Nt.hi (Nt.hi x1 x2) (Nt.hi z1 z2)) * (Nt.lo (Nt.lo y1 y2) (Nt.lo t1 t2))) ((Nt.hi (Nt.hi x1 x2) (Nt.hi z1 z2)) * (Nt.hi (Nt.hi y1 y2) (Nt.hi t1 t2)))) (Nt.lo4 (x1 * y1) (x1 * y2) (x2 * y1) (x2 * y2)) && Nt.inI (Nt.lo4 ((Nt.lo (Nt.lo x1 x2) (Nt.lo z1 z2)) * (Nt.lo (Nt.lo y1 y2) (Nt.lo t1 t2))) ((Nt.lo (Nt.lo x1 x2) (Nt.lo z1 z2)) * (Nt.hi (Nt.hi y1 y2) (Nt.hi t1 t2))) ((Nt.hi (Nt.hi x1 x2) (Nt.hi z1 z2)) * (Nt.lo (Nt.lo y1 y2) (Nt.lo t1 t2))) ((Nt.hi (Nt.hi x1 x2) (Nt.hi z1 z2)) * (Nt.hi (Nt.hi y1 y2) (Nt.hi t1 t2)))) (Nt.hi4 ((Nt.lo (Nt.lo x1 x2) (Nt.lo z1 z2)) * (Nt.lo (Nt.lo y1 y2) (Nt.lo t1 t2))) ((Nt.lo (Nt.lo x1 x2) (Nt.lo z1 z2)) * (Nt.hi (Nt.hi y1 y2) (Nt.hi t1 t2))) ((Nt.hi (Nt.hi x1 x2) (Nt.hi z1 z2)) * (Nt.lo (Nt.lo y1 y2) (Nt.lo t1 t2))) ((Nt.hi (Nt.hi x1 x2) (Nt.hi z1 z2)) * (Nt.hi (Nt.hi y1 y2) (Nt.hi t1 t2)))) (Nt.hi4 (x1 * y1) (x1 * y2) (x2 * y1) (x2 * y2))))) ?_
          refine sy_eq 69 (x := .v (.bool (Nt.inI (Nt.lo4 ((Nt.lo (Nt.lo x1 x2) (Nt.lo z1 z2)) * (Nt.lo (Nt.lo y1 y2) (Nt.lo t1 t2))) ((Nt.lo (Nt.lo x1 x2) (Nt.lo z1 z2)) * (Nt.hi (Nt.hi y1 y2) (Nt.hi t1 t2))) ((Nt.hi (Nt.hi x1 x2) (Nt.hi z1 z2)) * (Nt.lo (Nt.lo y1 y2) (Nt.lo t1 t2))) ((Nt.hi (Nt.hi x1 x2) (Nt.hi z1 z2)) * (Nt.hi (Nt.hi y1 y2) (Nt.hi t1 t2)))) (Nt.hi4 ((Nt.lo (Nt.lo x1 x2) (Nt.lo z1 z2)) * (Nt.lo (Nt.lo y1 y2) (Nt.lo t1 t2))) ((Nt.lo (Nt.lo x1 x2) (Nt.lo z1 z2)) * (Nt.hi (Nt.hi y1 y2) (Nt.hi t1 t2))) ((Nt.hi (Nt.hi x1 x2) (Nt.hi z1 z2)) * (Nt.lo (Nt.lo y1 y2) (Nt.lo t1 t2))) ((Nt.hi (Nt.hi x1 x2) (Nt.hi z1 z2)) * (Nt.hi (Nt.hi y1 y2) (Nt.hi t1 t2)))) (Nt.lo4 (x1 * y1) (x1 * y2) (x2 * y1) (x2 * y2)) && Nt.inI (Nt.lo4 ((Nt.lo (Nt.lo x1 x2) (Nt.lo z1 z2)) * (Nt.lo (Nt.lo y1 y2) (Nt.lo t1 t2))) ((Nt.lo (Nt.lo x1 x2) (Nt.lo z1 z2)) * (Nt.hi (Nt.hi y1 y2) (Nt.hi t1 t2))) ((Nt.hi (Nt.hi x1 x2) (Nt.hi z1 z2)) * (Nt.lo (Nt.lo y1 y2) (Nt.lo t1 t2))) ((Nt.hi (Nt.hi x1 x2) (Nt.hi z1 z2)) * (Nt.hi (Nt.hi y1 y2) (Nt.hi t1 t2)))) (Nt.hi4 ((Nt.lo (Nt.lo x1 x2) (Nt.lo z1 z2)) * (Nt.lo (Nt.lo y1 y2) (Nt.lo t1 t2))) ((Nt.lo (Nt.lo x1 x2) (Nt.lo z1 z2)) * (Nt.hi (Nt.hi y1 y2) (Nt.hi t1 t2))) ((Nt.hi (Nt.hi x1 x2) (Nt.hi z1 z2)) * (Nt.lo (Nt.lo y1 y2) (Nt.lo t1 t2))) ((Nt.hi (Nt.hi x1 x2) (Nt.hi z1 z2)) * (Nt.hi (Nt.hi y1 y2) (Nt.hi t1 t2)))) (Nt.hi4 (x1 * y1) (x1 * y2) (x2 * y1) (x2 * y2))))) (.v (.bool true)) (by rw [show (Nt.inI (Nt.lo4 ((Nt.lo (Nt.lo x1 x2) (Nt.lo z1 z2)) * (Nt.lo (Nt.lo y1 y2) (Nt.lo t1 t2))) ((Nt.lo (Nt.lo x1 x2) (Nt.lo z1 z2)) * (Nt.hi (Nt.hi y1 y2) (Nt.hi t1 t2))) ((Nt.hi (Nt.hi x1 x2) (Nt.hi z1 z2)) * (Nt.lo (Nt.lo y1 y2) (Nt.lo t1 t2))) ((Nt.hi (Nt.hi x1 x2) (Nt.hi z1 z2)) * (Nt.hi (Nt.hi y1 y2) (Nt.hi t1 t2)))) (Nt.hi4 ((Nt.lo (Nt.lo x1 x2) (Nt.lo z1 z2)) * (Nt.lo (Nt.lo y1 y2) (Nt.lo t1 t2))) ((Nt.lo (Nt.lo x1 x2) (Nt.lo z1 z2)) * (Nt.hi (Nt.hi y1 y2) (Nt.hi t1 t2))) ((Nt.hi (Nt.hi x1 x2) (Nt.hi z1 z2)) * (Nt.lo (Nt.lo y1 y2) (Nt.lo t1 t2))) ((Nt.hi (Nt.hi x1 x2) (Nt.hi z1 z2)) * (Nt.hi (Nt.hi y1 y2) (Nt.hi t1 t2)))) (Nt.lo4 (x1 * y1) (x1 * y2) (x2 * y1) (x2 * y2)) && Nt.inI (Nt.lo4 ((Nt.lo (Nt.lo x1 x2) (Nt.lo z1 z2)) * (Nt.lo (Nt.lo y1 y2) (Nt.lo t1 t2))) ((Nt.lo (Nt.lo x1 x2) (Nt.lo z1 z2)) * (Nt.hi (Nt.hi y1 y2) (Nt.hi t1 t2))) ((Nt.hi (Nt.hi x1 x2) (Nt.hi z1 z2)) * (Nt.lo (Nt.lo y1 y2) (Nt.lo t1 t2))) ((Nt.hi (Nt.hi x1 x2) (Nt.hi z1 z2)) * (Nt.hi (Nt.hi y1 y2) (Nt.hi t1 t2)))) (Nt.hi4 ((Nt.lo (Nt.lo x1 x2) (Nt.lo z1 z2)) * (Nt.lo (Nt.lo y1 y2) (Nt.lo t1 t2))) ((Nt.lo (Nt.lo x1 x2) (Nt.lo z1 z2)) * (Nt.hi (Nt.hi y1 y2) (Nt.hi t1 t2))) ((Nt.hi (Nt.hi x1 x2) (Nt.hi z1 z2)) * (Nt.lo (Nt.lo y1 y2) (Nt.lo t1 t2))) ((Nt.hi (Nt.hi x1 x2) (Nt.hi z1 z2)) * (Nt.hi (Nt.hi y1 y2) (Nt.hi t1 t2)))) (Nt.hi4 (x1 * y1) (x1 * y2) (x2 * y1) (x2 * y2))) = true from Nt.box_mul Nt.hull_in.1 Nt.hull_in.2 Nt.hull_in.1 Nt.hull_in.2]) ?_
          refine sy_ldv 70 (.v (.agg #[.bool a1.s, .slice a1.m.a a1.m.n a1.m.c, .slice a1.d.a a1.d.n a1.d.c, .bool a2.s, .slice a2.m.a a2.m.n a2.m.c, .slice a2.d.a a2.d.n a2.d.c])) ty28 part_agg ?_ (hw := wants1 (g := 33) (b := true) (t := 69) (by kernel_rfl) (by kernel_rfl) (by kernel_rfl))
          refine sy_ldv 72 (.v (.agg #[.bool r56.s, .slice r56.m.a r56.m.n r56.m.c, .slice r56.d.a r56.d.n r56.d.c, .bool r58.s, .slice r58.m.a r58.m.n r58.m.c, .slice r58.d.a r58.d.n r58.d.c])) ty28 part_agg ?_ (hw := wants1 (g := 33) (b := true) (t := 69) (by kernel_rfl) (by kernel_rfl) (by kernel_rfl))
          refine sy_call 71 18 [.agg #[.bool a1.s, .slice a1.m.a a1.m.n a1.m.c, .slice a1.d.a a1.d.n a1.d.c, .bool a2.s, .slice a2.m.a a2.m.n a2.m.c, .slice a2.d.a a2.d.n a2.d.c]] ?_ (hw := wants1 (g := 33) (b := true) (t := 69) (by kernel_rfl) (by kernel_rfl) (by kernel_rfl))
          intro w143 u143 e143 d143
          have k150 := k_ivSquare d143 (ha1f.ext (e11.trans (g13.ext.trans (e22.trans (g24.ext.trans (e33.trans (g35.ext.trans (e44.trans (g46.ext.trans (e55.trans (g61.ext.trans (e63.trans (g69.ext.trans (e71.trans (g73.ext.trans (e75.trans (g77.ext.trans (e80.trans (g86.ext.trans (e88.trans (g94.ext.trans (e96.trans (g98.ext.trans (e101.trans (g107.ext.trans (e109.trans (g115.ext.trans (e117.trans (g119.ext.trans (e122.trans (g128.ext.trans (e130.trans (g136.ext.trans (e138.trans (g140.ext.trans e143))))))))))))))))))))))))))))))))))) (ha2f.ext (e11.trans (g13.ext.trans (e22.trans (g24.ext.trans (e33.trans (g35.ext.trans (e44.trans (g46.ext.trans (e55.trans (g61.ext.trans (e63.trans (g69.ext.trans (e71.trans (g73.ext.trans (e75.trans (g77.ext.trans (e80.trans (g86.ext.trans (e88.trans (g94.ext.trans (e96.trans (g98.ext.trans (e101.trans (g107.ext.trans (e109.trans (g115.ext.trans (e117.trans (g119.ext.trans (e122.trans (g128.ext.trans (e130.trans (g136.ext.trans (e138.trans (g140.ext.trans e143))))))))))))))))))))))))))))))))))) (by omega)
          with_reducible refine Post.mono k150 ?_
          clear k150
          rintro _ u148 g149 ⟨r144, r146, rfl, h145, h147⟩
          refine sy_call 73 18 [.agg #[.bool r56.s, .slice r56.m.a r56.m.n r56.m.c, .slice r56.d.a r56.d.n r56.d.c, .bool r58.s, .slice r58.m.a r58.m.n r58.m.c, .slice r58.d.a r58.d.n r58.d.c]] ?_ (hw := wants1 (g := 33) (b := true) (t := 69) (by kernel_rfl) (by kernel_rfl) (by kernel_rfl))
          intro w151 u151 e151 d151
          have k158 := k_ivSquare d151 (h57.ext (e63.trans (g69.ext.trans (e71.trans (g73.ext.trans (e75.trans (g77.ext.trans (e80.trans (g86.ext.trans (e88.trans (g94.ext.trans (e96.trans (g98.ext.trans (e101.trans (g107.ext.trans (e109.trans (g115.ext.trans (e117.trans (g119.ext.trans (e122.trans (g128.ext.trans (e130.trans (g136.ext.trans (e138.trans (g140.ext.trans (e143.trans (g149.ext.trans e151))))))))))))))))))))))))))).raw (h59.ext (e63.trans (g69.ext.trans (e71.trans (g73.ext.trans (e75.trans (g77.ext.trans (e80.trans (g86.ext.trans (e88.trans (g94.ext.trans (e96.trans (g98.ext.trans (e101.trans (g107.ext.trans (e109.trans (g115.ext.trans (e117.trans (g119.ext.trans (e122.trans (g128.ext.trans (e130.trans (g136.ext.trans (e138.trans (g140.ext.trans (e143.trans (g149.ext.trans e151))))))))))))))))))))))))))).raw (by omega)
          with_reducible refine Post.mono k158 ?_
          clear k158
          rintro _ u156 g157 ⟨r152, r154, rfl, h153, h155⟩
          refine sy_call 74 14 [.agg #[.bool r144.s, .slice r144.m.a r144.m.n r144.m.c, .slice r144.d.a r144.d.n r144.d.c, .bool r146.s, .slice r146.m.a r146.m.n r146.m.c, .slice r146.d.a r146.d.n r146.d.c], .agg #[.bool r152.s, .slice r152.m.a r152.m.n r152.m.c, .slice r152.d.a r152.d.n r152.d.c, .bool r154.s, .slice r154.m.a r154.m.n r154.m.c, .slice r154.d.a r154.d.n r154.d.c]] ?_ (hw := wants1 (g := 33) (b := true) (t := 69) (by kernel_rfl) (by kernel_rfl) (by kernel_rfl))
          intro w159 u159 e159 d159
          have k162 := k_ivInside d159 (h145.ext (e151.trans (g157.ext.trans e159))).raw (h147.ext (e151.trans (g157.ext.trans e159))).raw (h153.ext e159).raw (h155.ext e159).raw (by omega) (by omega)
          with_reducible refine Post.mono k162 ?_
          clear k162
          rintro _ u160 g161 rfl
          refine sy_pure 75 (.v (.bool (Nt.inI (if Nt.sgI (Nt.lo (Nt.lo x1 x2) (Nt.lo z1 z2)) (Nt.hi (Nt.hi x1 x2) (Nt.hi z1 z2)) = 0 then 0 else Nt.lo ((Nt.lo (Nt.lo x1 x2) (Nt.lo z1 z2)) * (Nt.lo (Nt.lo x1 x2) (Nt.lo z1 z2))) ((Nt.hi (Nt.hi x1 x2) (Nt.hi z1 z2)) * (Nt.hi (Nt.hi x1 x2) (Nt.hi z1 z2)))) (Nt.hi ((Nt.lo (Nt.lo x1 x2) (Nt.lo z1 z2)) * (Nt.lo (Nt.lo x1 x2) (Nt.lo z1 z2))) ((Nt.hi (Nt.hi x1 x2) (Nt.hi z1 z2)) * (Nt.hi (Nt.hi x1 x2) (Nt.hi z1 z2)))) (if Nt.sgI x1 x2 = 0 then 0 else Nt.lo (x1 * x1) (x2 * x2)) && Nt.inI (if Nt.sgI (Nt.lo (Nt.lo x1 x2) (Nt.lo z1 z2)) (Nt.hi (Nt.hi x1 x2) (Nt.hi z1 z2)) = 0 then 0 else Nt.lo ((Nt.lo (Nt.lo x1 x2) (Nt.lo z1 z2)) * (Nt.lo (Nt.lo x1 x2) (Nt.lo z1 z2))) ((Nt.hi (Nt.hi x1 x2) (Nt.hi z1 z2)) * (Nt.hi (Nt.hi x1 x2) (Nt.hi z1 z2)))) (Nt.hi ((Nt.lo (Nt.lo x1 x2) (Nt.lo z1 z2)) * (Nt.lo (Nt.lo x1 x2) (Nt.lo z1 z2))) ((Nt.hi (Nt.hi x1 x2) (Nt.hi z1 z2)) * (Nt.hi (Nt.hi x1 x2) (Nt.hi z1 z2)))) (Nt.hi (x1 * x1) (x2 * x2))))) ?_
          refine sy_pure 8 (.v (.bool (Nt.inI (if Nt.sgI (Nt.lo (Nt.lo x1 x2) (Nt.lo z1 z2)) (Nt.hi (Nt.hi x1 x2) (Nt.hi z1 z2)) = 0 then 0 else Nt.lo ((Nt.lo (Nt.lo x1 x2) (Nt.lo z1 z2)) * (Nt.lo (Nt.lo x1 x2) (Nt.lo z1 z2))) ((Nt.hi (Nt.hi x1 x2) (Nt.hi z1 z2)) * (Nt.hi (Nt.hi x1 x2) (Nt.hi z1 z2)))) (Nt.hi ((Nt.lo (Nt.lo x1 x2) (Nt.lo z1 z2)) * (Nt.lo (Nt.lo x1 x2) (Nt.lo z1 z2))) ((Nt.hi (Nt.hi x1 x2) (Nt.hi z1 z2)) * (Nt.hi (Nt.hi x1 x2) (Nt.hi z1 z2)))) (if Nt.sgI x1 x2 = 0 then 0 else Nt.lo (x1 * x1) (x2 * x2)) && Nt.inI (if Nt.sgI (Nt.lo (Nt.lo x1 x2) (Nt.lo z1 z2)) (Nt.hi (Nt.hi x1 x2) (Nt.hi z1 z2)) = 0 then 0 else Nt.lo ((Nt.lo (Nt.lo x1 x2) (Nt.lo z1 z2)) * (Nt.lo (Nt.lo x1 x2) (Nt.lo z1 z2))) ((Nt.hi (Nt.hi x1 x2) (Nt.hi z1 z2)) * (Nt.hi (Nt.hi x1 x2) (Nt.hi z1 z2)))) (Nt.hi ((Nt.lo (Nt.lo x1 x2) (Nt.lo z1 z2)) * (Nt.lo (Nt.lo x1 x2) (Nt.lo z1 z2))) ((Nt.hi (Nt.hi x1 x2) (Nt.hi z1 z2)) * (Nt.hi (Nt.hi x1 x2) (Nt.hi z1 z2)))) (Nt.hi (x1 * x1) (x2 * x2))))) ?_
          refine sy_next 76 [(8, .v (.bool (Nt.inI (if Nt.sgI (Nt.lo (Nt.lo x1 x2) (Nt.lo z1 z2)) (Nt.hi (Nt.hi x1 x2) (Nt.hi z1 z2)) = 0 then 0 else Nt.lo ((Nt.lo (Nt.lo x1 x2) (Nt.lo z1 z2)) * (Nt.lo (Nt.lo x1 x2) (Nt.lo z1 z2))) ((Nt.hi (Nt.hi x1 x2) (Nt.hi z1 z2)) * (Nt.hi (Nt.hi x1 x2) (Nt.hi z1 z2)))) (Nt.hi ((Nt.lo (Nt.lo x1 x2) (Nt.lo z1 z2)) * (Nt.lo (Nt.lo x1 x2) (Nt.lo z1 z2))) ((Nt.hi (Nt.hi x1 x2) (Nt.hi z1 z2)) * (Nt.hi (Nt.hi x1 x2) (Nt.hi z1 z2)))) (if Nt.sgI x1 x2 = 0 then 0 else Nt.lo (x1 * x1) (x2 * x2)) && Nt.inI (if Nt.sgI (Nt.lo (Nt.lo x1 x2) (Nt.lo z1 z2)) (Nt.hi (Nt.hi x1 x2) (Nt.hi z1 z2)) = 0 then 0 else Nt.lo ((Nt.lo (Nt.lo x1 x2) (Nt.lo z1 z2)) * (Nt.lo (Nt.lo x1 x2) (Nt.lo z1 z2))) ((Nt.hi (Nt.hi x1 x2) (Nt.hi z1 z2)) * (Nt.hi (Nt.hi x1 x2) (Nt.hi z1 z2)))) (Nt.hi ((Nt.lo (Nt.lo x1 x2) (Nt.lo z1 z2)) * (Nt.lo (Nt.lo x1 x2) (Nt.lo z1 z2))) ((Nt.hi (Nt.hi x1 x2) (Nt.hi z1 z2)) * (Nt.hi (Nt.hi x1 x2) (Nt.hi z1 z2)))) (Nt.hi (x1 * x1) (x2 * x2)))))] [] ?_
          refine sw_ret (ret0 [.bool (Nt.inI (if Nt.sgI (Nt.lo (Nt.lo x1 x2) (Nt.lo z1 z2)) (Nt.hi (Nt.hi x1 x2) (Nt.hi z1 z2)) = 0 then 0 else Nt.lo ((Nt.lo (Nt.lo x1 x2) (Nt.lo z1 z2)) * (Nt.lo (Nt.lo x1 x2) (Nt.lo z1 z2))) ((Nt.hi (Nt.hi x1 x2) (Nt.hi z1 z2)) * (Nt.hi (Nt.hi x1 x2) (Nt.hi z1 z2)))) (Nt.hi ((Nt.lo (Nt.lo x1 x2) (Nt.lo z1 z2)) * (Nt.lo (Nt.lo x1 x2) (Nt.lo z1 z2))) ((Nt.hi (Nt.hi x1 x2) (Nt.hi z1 z2)) * (Nt.hi (Nt.hi x1 x2) (Nt.hi z1 z2)))) (if Nt.sgI x1 x2 = 0 then 0 else Nt.lo (x1 * x1) (x2 * x2)) && Nt.inI (if Nt.sgI (Nt.lo (Nt.lo x1 x2) (Nt.lo z1 z2)) (Nt.hi (Nt.hi x1 x2) (Nt.hi z1 z2)) = 0 then 0 else Nt.lo ((Nt.lo (Nt.lo x1 x2) (Nt.lo z1 z2)) * (Nt.lo (Nt.lo x1 x2) (Nt.lo z1 z2))) ((Nt.hi (Nt.hi x1 x2) (Nt.hi z1 z2)) * (Nt.hi (Nt.hi x1 x2) (Nt.hi z1 z2)))) (Nt.hi ((Nt.lo (Nt.lo x1 x2) (Nt.lo z1 z2)) * (Nt.lo (Nt.lo x1 x2) (Nt.lo z1 z2))) ((Nt.hi (Nt.hi x1 x2) (Nt.hi z1 z2)) * (Nt.hi (Nt.hi x1 x2) (Nt.hi z1 z2)))) (Nt.hi (x1 * x1) (x2 * x2)))] ⟨res_tmp, trivial⟩ fun u163 e164 => ?_)
          show Value.bool _ = Value.bool _
          rw [show (Nt.inI (if Nt.sgI (Nt.lo (Nt.lo x1 x2) (Nt.lo z1 z2)) (Nt.hi (Nt.hi x1 x2) (Nt.hi z1 z2)) = 0 then 0 else Nt.lo ((Nt.lo (Nt.lo x1 x2) (Nt.lo z1 z2)) * (Nt.lo (Nt.lo x1 x2) (Nt.lo z1 z2))) ((Nt.hi (Nt.hi x1 x2) (Nt.hi z1 z2)) * (Nt.hi (Nt.hi x1 x2) (Nt.hi z1 z2)))) (Nt.hi ((Nt.lo (Nt.lo x1 x2) (Nt.lo z1 z2)) * (Nt.lo (Nt.lo x1 x2) (Nt.lo z1 z2))) ((Nt.hi (Nt.hi x1 x2) (Nt.hi z1 z2)) * (Nt.hi (Nt.hi x1 x2) (Nt.hi z1 z2)))) (if Nt.sgI x1 x2 = 0 then 0 else Nt.lo (x1 * x1) (x2 * x2)) && Nt.inI (if Nt.sgI (Nt.lo (Nt.lo x1 x2) (Nt.lo z1 z2)) (Nt.hi (Nt.hi x1 x2) (Nt.hi z1 z2)) = 0 then 0 else Nt.lo ((Nt.lo (Nt.lo x1 x2) (Nt.lo z1 z2)) * (Nt.lo (Nt.lo x1 x2) (Nt.lo z1 z2))) ((Nt.hi (Nt.hi x1 x2) (Nt.hi z1 z2)) * (Nt.hi (Nt.hi x1 x2) (Nt.hi z1 z2)))) (Nt.hi ((Nt.lo (Nt.lo x1 x2) (Nt.lo z1 z2)) * (Nt.lo (Nt.lo x1 x2) (Nt.lo z1 z2))) ((Nt.hi (Nt.hi x1 x2) (Nt.hi z1 z2)) * (Nt.hi (Nt.hi x1 x2) (Nt.hi z1 z2)))) (Nt.hi (x1 * x1) (x2 * x2))) = true from Nt.grow_sq Nt.hull_in.1 Nt.hull_in.2]
end Go.Proofs.Ytnedhbidmfoegaa
