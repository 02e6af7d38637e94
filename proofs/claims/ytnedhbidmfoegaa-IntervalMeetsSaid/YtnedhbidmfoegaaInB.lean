/- IntervalMeets, walked. Printed by wip/sym/g_l4.py. -/
import Derived.Test.YtnedhbidmfoegaaInA
namespace Go.Proofs.Ytnedhbidmfoegaa
open Go.RowKit
set_option linter.unusedVariables false
set_option maxHeartbeats 4000000 in
theorem w_meets {u w : World} {a1 a2 : RL} {x1 x2 : Rat} {K : Nat} {b1 b2 : RL} {y1 y2 : Rat} {L : Nat} {r : RL} {q : Rat} {M : Nat} {n : Int} (d : Dat u w) (ha1 : RatV u a1 x1 K) (ha2 : RatV u a2 x2 K) (hb1 : RatV u b1 y1 L) (hb2 : RatV u b2 y2 L) (hr : RatV u r q M) (hn0 : -9223372036854775808 ≤ n) (hn1 : n ≤ 9223372036854775807) : Calls Try.prog 3 #[IV a1 a2, IV b1 b2, r.v, .int .i64 n] w (Post u w fun v _ => v = .bool true) := by
  refine calls_sym (args := [.agg #[.bool a1.s, .slice a1.m.a a1.m.n a1.m.c, .slice a1.d.a a1.d.n a1.d.c, .bool a2.s, .slice a2.m.a a2.m.n a2.m.c, .slice a2.d.a a2.d.n a2.d.c], .agg #[.bool b1.s, .slice b1.m.a b1.m.n b1.m.c, .slice b1.d.a b1.d.n b1.d.c, .bool b2.s, .slice b2.m.a b2.m.n b2.m.c, .slice b2.d.a b2.d.n b2.d.c], r.v, .int .i64 n]) Try.func3 rfl Try.ntmps3 (rs := [.tmp 8]) Try.results3 (le_b rfl) (le_b rfl) d ?_
  refine sw_seq ?_
  refine sw_reg ?_
  refine sy_new 4 ⟨28, a1.cs ++ a2.cs⟩ ?_
  refine sy_new 5 ⟨28, b1.cs ++ b2.cs⟩ ?_
  refine sy_new 6 ⟨26, r.cs⟩ ?_
  refine sy_pure 8 (.v (.bool false)) ?_
  refine sy_next 85 [(3, .v (.int .i64 n)), (4, .adr 4 0), (5, .adr 5 0), (6, .adr 6 0)] [(4, ⟨28, a1.cs ++ a2.cs⟩), (5, ⟨28, b1.cs ++ b2.cs⟩), (6, ⟨26, r.cs⟩)] ?_
  refine sw_seq ?_
  refine sw_seq ?_
  refine sw_reg ?_
  refine sy_ldv 15 (.v (.agg #[.bool a1.s, .slice a1.m.a a1.m.n a1.m.c, .slice a1.d.a a1.d.n a1.d.c, .bool a2.s, .slice a2.m.a a2.m.n a2.m.c, .slice a2.d.a a2.d.n a2.d.c])) ty28 part_agg ?_
  refine sy_call 16 7 [.agg #[.bool a1.s, .slice a1.m.a a1.m.n a1.m.c, .slice a1.d.a a1.d.n a1.d.c, .bool a2.s, .slice a2.m.a a2.m.n a2.m.c, .slice a2.d.a a2.d.n a2.d.c]] ?_
  intro w11 u11 e11 d11
  have k14 := k_smallOn (a := a1) (b := a2) d11
  with_reducible refine Post.mono k14 ?_
  clear k14
  rintro _ u12 g13 rfl
  refine sy_pure 17 (.v (.bool (!(smR a1 && smR a2)))) ?_
  rcases Bool.eq_false_or_eq_true (!(smR a1 && smR a2)) with hs15 | hs15
  · refine sy_eq 18 (x := .v (.bool (!(smR a1 && smR a2)))) (.v (.bool true)) (by rw [hs15]) ?_
    refine sy_drop 19 (unwanted (g := 3) (b := false) (c := true) (t := 18) (by kernel_rfl) (by kernel_rfl) (by kernel_rfl) (by kernel_rfl)) ?_
    refine sy_drop 20 (unwanted (g := 3) (b := false) (c := true) (t := 18) (by kernel_rfl) (by kernel_rfl) (by kernel_rfl) (by kernel_rfl)) ?_
    refine sy_drop 21 (unwanted (g := 3) (b := false) (c := true) (t := 18) (by kernel_rfl) (by kernel_rfl) (by kernel_rfl) (by kernel_rfl)) ?_
    refine sy_pure 22 (.v (.bool true)) ?_
    refine sy_pure 23 (.v (.bool true)) ?_
    refine sy_drop 24 (unwanted (g := 8) (b := false) (c := true) (t := 23) (by kernel_rfl) (by kernel_rfl) (by kernel_rfl) (by kernel_rfl)) ?_
    refine sy_drop 25 (unwanted (g := 8) (b := false) (c := true) (t := 23) (by kernel_rfl) (by kernel_rfl) (by kernel_rfl) (by kernel_rfl)) ?_
    refine sy_drop 26 (unwanted (g := 8) (b := false) (c := true) (t := 23) (by kernel_rfl) (by kernel_rfl) (by kernel_rfl) (by kernel_rfl)) ?_
    refine sy_pure 27 (.v (.bool true)) ?_
    refine sy_next 85 [(3, .v (.int .i64 n)), (4, .adr 4 0), (5, .adr 5 0), (6, .adr 6 0), (27, .v (.bool true))] [(4, ⟨28, a1.cs ++ a2.cs⟩), (5, ⟨28, b1.cs ++ b2.cs⟩), (6, ⟨26, r.cs⟩)] ?_
    refine sw_true (by kernel_rfl) ?_
    refine sw_seq ?_
    refine sw_reg ?_
    refine sy_call 28 9 [] ?_
    intro w16 u16 e16 d16
    have k19 := k_awake4 d16
    with_reducible refine Post.mono k19 ?_
    clear k19
    rintro _ u17 g18 rfl
    refine sy_pure 8 (.v (.bool true)) ?_
    refine sy_next 85 [(8, .v (.bool true))] [] ?_
    refine sw_ret (mpr_seq (ret0 [.bool true] ⟨res_tmp, trivial⟩ fun u20 e21 => ?_))
    exact rfl
  · refine sy_eq 18 (x := .v (.bool (!(smR a1 && smR a2)))) (.v (.bool false)) (by rw [hs15]) ?_
    have qhs15 : smR a1 = true ∧ smR a2 = true := by simpa using hs15
    have ha1f := smR_few ha1 qhs15.1
    have ha2f := smR_few ha2 qhs15.2
    refine sy_ldv 19 (.v (.agg #[.bool b1.s, .slice b1.m.a b1.m.n b1.m.c, .slice b1.d.a b1.d.n b1.d.c, .bool b2.s, .slice b2.m.a b2.m.n b2.m.c, .slice b2.d.a b2.d.n b2.d.c])) ty28 part_agg ?_ (hw := wants1 (g := 3) (b := false) (t := 18) (by kernel_rfl) (by kernel_rfl) (by kernel_rfl))
    refine sy_call 20 7 [.agg #[.bool b1.s, .slice b1.m.a b1.m.n b1.m.c, .slice b1.d.a b1.d.n b1.d.c, .bool b2.s, .slice b2.m.a b2.m.n b2.m.c, .slice b2.d.a b2.d.n b2.d.c]] ?_ (hw := wants1 (g := 3) (b := false) (t := 18) (by kernel_rfl) (by kernel_rfl) (by kernel_rfl))
    intro w22 u22 e22 d22
    have k25 := k_smallOn (a := b1) (b := b2) d22
    with_reducible refine Post.mono k25 ?_
    clear k25
    rintro _ u23 g24 rfl
    refine sy_pure 21 (.v (.bool (!(smR b1 && smR b2)))) ?_ (hw := wants1 (g := 3) (b := false) (t := 18) (by kernel_rfl) (by kernel_rfl) (by kernel_rfl))
    refine sy_pure 22 (.v (.bool (!(smR b1 && smR b2)))) ?_
    rcases Bool.eq_false_or_eq_true (!(smR b1 && smR b2)) with hs26 | hs26
    · refine sy_eq 23 (x := .v (.bool (!(smR b1 && smR b2)))) (.v (.bool true)) (by rw [hs26]) ?_
      refine sy_drop 24 (unwanted (g := 8) (b := false) (c := true) (t := 23) (by kernel_rfl) (by kernel_rfl) (by kernel_rfl) (by kernel_rfl)) ?_
      refine sy_drop 25 (unwanted (g := 8) (b := false) (c := true) (t := 23) (by kernel_rfl) (by kernel_rfl) (by kernel_rfl) (by kernel_rfl)) ?_
      refine sy_drop 26 (unwanted (g := 8) (b := false) (c := true) (t := 23) (by kernel_rfl) (by kernel_rfl) (by kernel_rfl) (by kernel_rfl)) ?_
      refine sy_pure 27 (.v (.bool true)) ?_
      refine sy_next 85 [(3, .v (.int .i64 n)), (4, .adr 4 0), (5, .adr 5 0), (6, .adr 6 0), (27, .v (.bool true))] [(4, ⟨28, a1.cs ++ a2.cs⟩), (5, ⟨28, b1.cs ++ b2.cs⟩), (6, ⟨26, r.cs⟩)] ?_
      refine sw_true (by kernel_rfl) ?_
      refine sw_seq ?_
      refine sw_reg ?_
      refine sy_call 28 9 [] ?_
      intro w27 u27 e27 d27
      have k30 := k_awake4 d27
      with_reducible refine Post.mono k30 ?_
      clear k30
      rintro _ u28 g29 rfl
      refine sy_pure 8 (.v (.bool true)) ?_
      refine sy_next 85 [(8, .v (.bool true))] [] ?_
      refine sw_ret (mpr_seq (ret0 [.bool true] ⟨res_tmp, trivial⟩ fun u31 e32 => ?_))
      exact rfl
    · refine sy_eq 23 (x := .v (.bool (!(smR b1 && smR b2)))) (.v (.bool false)) (by rw [hs26]) ?_
      have qhs26 : smR b1 = true ∧ smR b2 = true := by simpa using hs26
      have hb1f := smR_few hb1 qhs26.1
      have hb2f := smR_few hb2 qhs26.2
      refine sy_ldv 24 (.v (r.v)) ty26 part_agg ?_ (hw := wants1 (g := 8) (b := false) (t := 23) (by kernel_rfl) (by kernel_rfl) (by kernel_rfl))
      refine sy_call 25 8 [r.v] ?_ (hw := wants1 (g := 8) (b := false) (t := 23) (by kernel_rfl) (by kernel_rfl) (by kernel_rfl))
      intro w33 u33 e33 d33
      have k36 := k_smallRat (r := r) d33
      with_reducible refine Post.mono k36 ?_
      clear k36
      rintro _ u34 g35 rfl
      refine sy_pure 26 (.v (.bool (!(smR r)))) ?_ (hw := wants1 (g := 8) (b := false) (t := 23) (by kernel_rfl) (by kernel_rfl) (by kernel_rfl))
      refine sy_pure 27 (.v (.bool (!(smR r)))) ?_
      refine sy_next 85 [(3, .v (.int .i64 n)), (4, .adr 4 0), (5, .adr 5 0), (6, .adr 6 0), (27, .v (.bool (!(smR r))))] [(4, ⟨28, a1.cs ++ a2.cs⟩), (5, ⟨28, b1.cs ++ b2.cs⟩), (6, ⟨26, r.cs⟩)] ?_
      refine sw_cond (b := !(smR r)) (by kernel_rfl) (fun hb37 => ?_) (fun hb37 => ?_)
      · replace hb37 : (!(smR r)) = true := hb37
        refine sw_seq ?_
        refine sw_reg ?_
        refine sy_call 28 9 [] ?_
        intro w38 u38 e38 d38
        have k41 := k_awake4 d38
        with_reducible refine Post.mono k41 ?_
        clear k41
        rintro _ u39 g40 rfl
        refine sy_pure 8 (.v (.bool true)) ?_
        refine sy_next 85 [(8, .v (.bool true))] [] ?_
        refine sw_ret (mpr_seq (ret0 [.bool true] ⟨res_tmp, trivial⟩ fun u42 e43 => ?_))
        exact rfl
      · replace hb37 : (!(smR r)) = false := hb37
        have qhb37 : smR r = true := by simpa using hb37
        have hrf := smR_few hr qhb37
        refine sw_skip (mp_seq ?_)
        refine sw_seq ?_
        refine sw_seq ?_
        refine sw_any [0, 0, 0, 6, 0, 0, 62, 127, 255, 0] [(0, []), (1, []), (2, []), (4, []), (5, []), (9, []), (3, []), (6, []), (7, []), (8, [])] (by kernel_rfl) (by kernel_rfl) ?_
        refine sy_ldv 29 (.v (r.v)) ty26 part_agg ?_
        refine sy_ldv 30 (.v (.agg #[.bool a1.s, .slice a1.m.a a1.m.n a1.m.c, .slice a1.d.a a1.d.n a1.d.c, .bool a2.s, .slice a2.m.a a2.m.n a2.m.c, .slice a2.d.a a2.d.n a2.d.c])) ty28 part_agg ?_
        refine sy_pure 31 (.v (.int .i64 n)) ?_
        refine sy_ldv 33 (.v (.agg #[.bool b1.s, .slice b1.m.a b1.m.n b1.m.c, .slice b1.d.a b1.d.n b1.d.c, .bool b2.s, .slice b2.m.a b2.m.n b2.m.c, .slice b2.d.a b2.d.n b2.d.c])) ty28 part_agg ?_
        refine sy_pure 34 (.v (.int .i64 n)) ?_
        refine sy_pure 38 (.v (.int .i64 0)) ?_
        refine sy_call 32 10 [.agg #[.bool a1.s, .slice a1.m.a a1.m.n a1.m.c, .slice a1.d.a a1.d.n a1.d.c, .bool a2.s, .slice a2.m.a a2.m.n a2.m.c, .slice a2.d.a a2.d.n a2.d.c], .int .i64 n] ?_
        intro w44 u44 e44 d44
        have k49 := k_between (n := n) d44 (ha1f.ext (e11.trans (g13.ext.trans (e22.trans (g24.ext.trans (e33.trans (g35.ext.trans e44))))))) (ha2f.ext (e11.trans (g13.ext.trans (e22.trans (g24.ext.trans (e33.trans (g35.ext.trans e44))))))) (by omega) (by omega) (by omega)
        with_reducible refine Post.mono k49 ?_
        clear k49
        rintro _ u47 g48 ⟨r45, rfl, h46⟩
        refine sy_call 35 10 [.agg #[.bool b1.s, .slice b1.m.a b1.m.n b1.m.c, .slice b1.d.a b1.d.n b1.d.c, .bool b2.s, .slice b2.m.a b2.m.n b2.m.c, .slice b2.d.a b2.d.n b2.d.c], .int .i64 n] ?_
        intro w50 u50 e50 d50
        have k55 := k_between (n := n) d50 (hb1f.ext (e11.trans (g13.ext.trans (e22.trans (g24.ext.trans (e33.trans (g35.ext.trans (e44.trans (g48.ext.trans e50))))))))) (hb2f.ext (e11.trans (g13.ext.trans (e22.trans (g24.ext.trans (e33.trans (g35.ext.trans (e44.trans (g48.ext.trans e50))))))))) (by omega) (by omega) (by omega)
        with_reducible refine Post.mono k55 ?_
        clear k55
        rintro _ u53 g54 ⟨r51, rfl, h52⟩
        refine sy_lit 36 ⟨26, r.cs ++ r45.cs ++ r51.cs⟩ 3 ?_
        refine sy_pure 37 (.v (.int .i64 3)) ?_
        refine sy_next 85 [(4, .adr 4 0), (5, .adr 5 0), (36, .slc 36 0 3 3), (37, .v (.int .i64 3)), (38, .v (.int .i64 0))] [(4, ⟨28, a1.cs ++ a2.cs⟩), (5, ⟨28, b1.cs ++ b2.cs⟩), (36, ⟨26, r.cs ++ r45.cs ++ r51.cs⟩)] ?_
        refine sw_block ?_
        refine sw_loop (I := fun m S u' => ∃ i : Nat, i ≤ 3 ∧ m = 3 - i ∧ S = St.of 85 [(4, .adr 4 0), (5, .adr 5 0), (36, .slc 36 0 3 3), (37, .v (.int .i64 3)), (38, .v (.int .i64 (i : Int)))] [(4, ⟨28, a1.cs ++ a2.cs⟩), (5, ⟨28, b1.cs ++ b2.cs⟩), (36, ⟨26, r.cs ++ r45.cs ++ r51.cs⟩)] ∧ Ext u53 u') (fun m S u1 u2 e h => by obtain ⟨i, a, b, c, d⟩ := h; exact ⟨i, a, b, c, d.trans e⟩) 3 (T := St.of 85 [(4, .adr 4 0), (5, .adr 5 0), (36, .slc 36 0 3 3), (37, .v (.int .i64 3)), (38, .v (.int .i64 0))] [(4, ⟨28, a1.cs ++ a2.cs⟩), (5, ⟨28, b1.cs ++ b2.cs⟩), (36, ⟨26, r.cs ++ r45.cs ++ r51.cs⟩)]) (by exact weak_mk _ _ _) ⟨0, by omega, rfl, rfl, Ext.refl _⟩ ?_
        rintro _ _ u57 ⟨i, hi, rfl, rfl, e56⟩
        obtain rfl | rfl | rfl | rfl : i = 0 ∨ i = 1 ∨ i = 2 ∨ i = 3 := by omega
        · change SW _ _ _ _ (St.of 85 [(4, .adr 4 0), (5, .adr 5 0), (36, .slc 36 0 3 3), (37, .v (.int .i64 3)), (38, .v (.int .i64 0))] [(4, ⟨28, a1.cs ++ a2.cs⟩), (5, ⟨28, b1.cs ++ b2.cs⟩), (36, ⟨26, r.cs ++ r45.cs ++ r51.cs⟩)]) _ _
          refine sw_seq ?_
          refine sw_reg ?_
          refine sy_pure 39 (.v (.bool true)) ?_
          refine sy_next 85 [(4, .adr 4 0), (5, .adr 5 0), (36, .slc 36 0 3 3), (37, .v (.int .i64 3)), (38, .v (.int .i64 0)), (39, .v (.bool true))] [(4, ⟨28, a1.cs ++ a2.cs⟩), (5, ⟨28, b1.cs ++ b2.cs⟩), (36, ⟨26, r.cs ++ r45.cs ++ r51.cs⟩)] ?_
          refine sw_seq ?_
          refine sw_true (by kernel_rfl) ?_
          refine sw_skip (mp_seq ?_)
          refine sw_seq ?_
          refine sw_block ?_
          refine sw_seq ?_
          refine sw_reg ?_
          refine sy_pure 40 (.adr 36 0) ?_
          refine sy_ldv 41 (.v (r.v)) ty26 part_agg ?_
          refine sy_new 10 ⟨26, [.bool false, .slice none 0 0, .slice none 0 0]⟩ ?_
          refine sy_store ⟨26, r.cs⟩ ty26 ?_
          refine sy_next 85 [(4, .adr 4 0), (5, .adr 5 0), (10, .adr 10 0), (36, .slc 36 0 3 3), (37, .v (.int .i64 3)), (38, .v (.int .i64 0))] [(4, ⟨28, a1.cs ++ a2.cs⟩), (5, ⟨28, b1.cs ++ b2.cs⟩), (10, ⟨26, r.cs⟩), (36, ⟨26, r.cs ++ r45.cs ++ r51.cs⟩)] ?_
          refine sw_seq ?_
          refine sw_reg ?_
          refine sy_ldv 43 (.v (.agg #[.bool a1.s, .slice a1.m.a a1.m.n a1.m.c, .slice a1.d.a a1.d.n a1.d.c, .bool a2.s, .slice a2.m.a a2.m.n a2.m.c, .slice a2.d.a a2.d.n a2.d.c])) ty28 part_agg ?_
          refine sy_ldv 44 (.v (.agg #[.bool b1.s, .slice b1.m.a b1.m.n b1.m.c, .slice b1.d.a b1.d.n b1.d.c, .bool b2.s, .slice b2.m.a b2.m.n b2.m.c, .slice b2.d.a b2.d.n b2.d.c])) ty28 part_agg ?_
          refine sy_call 45 11 [.agg #[.bool a1.s, .slice a1.m.a a1.m.n a1.m.c, .slice a1.d.a a1.d.n a1.d.c, .bool a2.s, .slice a2.m.a a2.m.n a2.m.c, .slice a2.d.a a2.d.n a2.d.c], .agg #[.bool b1.s, .slice b1.m.a b1.m.n b1.m.c, .slice b1.d.a b1.d.n b1.d.c, .bool b2.s, .slice b2.m.a b2.m.n b2.m.c, .slice b2.d.a b2.d.n b2.d.c]] ?_
          intro w59 u59 e59 d59
          have k67 := k_ivMeet d59 (ha1f.ext (e11.trans (g13.ext.trans (e22.trans (g24.ext.trans (e33.trans (g35.ext.trans (e44.trans (g48.ext.trans (e50.trans (g54.ext.trans (e56.trans e59)))))))))))) (ha2f.ext (e11.trans (g13.ext.trans (e22.trans (g24.ext.trans (e33.trans (g35.ext.trans (e44.trans (g48.ext.trans (e50.trans (g54.ext.trans (e56.trans e59)))))))))))) (hb1f.ext (e11.trans (g13.ext.trans (e22.trans (g24.ext.trans (e33.trans (g35.ext.trans (e44.trans (g48.ext.trans (e50.trans (g54.ext.trans (e56.trans e59)))))))))))) (hb2f.ext (e11.trans (g13.ext.trans (e22.trans (g24.ext.trans (e33.trans (g35.ext.trans (e44.trans (g48.ext.trans (e50.trans (g54.ext.trans (e56.trans e59)))))))))))) (by omega) (by omega)
          with_reducible refine Post.mono k67 ?_
          clear k67
          rintro _ u65 g66 (⟨hm60, rfl⟩ | ⟨hm60, r61, r63, rfl, h62, h64⟩)
          · skip
            refine sy_pure 42 (.v (.tuple #[.agg #[.bool false, .slice none 0 0, .slice none 0 0, .bool false, .slice none 0 0, .slice none 0 0], .bool false])) ?_
            refine sy_pure 46 (.v (.agg #[.bool false, .slice none 0 0, .slice none 0 0, .bool false, .slice none 0 0, .slice none 0 0])) ?_
            refine sy_pure 47 (.v (.bool false)) ?_
            refine sy_new 11 ⟨28, [.bool false, .slice none 0 0, .slice none 0 0, .bool false, .slice none 0 0, .slice none 0 0]⟩ ?_
            refine sy_store ⟨28, [.bool false, .slice none 0 0, .slice none 0 0, .bool false, .slice none 0 0, .slice none 0 0]⟩ ty28 ?_
            refine sy_pure 12 (.v (.bool false)) ?_
            refine sy_next 85 [(4, .adr 4 0), (5, .adr 5 0), (10, .adr 10 0), (11, .adr 11 0), (12, .v (.bool false)), (36, .slc 36 0 3 3), (37, .v (.int .i64 3)), (38, .v (.int .i64 0))] [(4, ⟨28, a1.cs ++ a2.cs⟩), (5, ⟨28, b1.cs ++ b2.cs⟩), (10, ⟨26, r.cs⟩), (11, ⟨28, [.bool false, .slice none 0 0, .slice none 0 0, .bool false, .slice none 0 0, .slice none 0 0]⟩), (36, ⟨26, r.cs ++ r45.cs ++ r51.cs⟩)] ?_
            refine sw_seq ?_
            refine sw_reg ?_
            refine sy_ldv 48 (.v (.agg #[.bool a1.s, .slice a1.m.a a1.m.n a1.m.c, .slice a1.d.a a1.d.n a1.d.c, .bool a2.s, .slice a2.m.a a2.m.n a2.m.c, .slice a2.d.a a2.d.n a2.d.c])) ty28 part_agg ?_
            refine sy_ldv 49 (.v (r.v)) ty26 part_agg ?_
            refine sy_call 50 12 [.agg #[.bool a1.s, .slice a1.m.a a1.m.n a1.m.c, .slice a1.d.a a1.d.n a1.d.c, .bool a2.s, .slice a2.m.a a2.m.n a2.m.c, .slice a2.d.a a2.d.n a2.d.c], r.v] ?_
            intro w68 u68 e68 d68
            have k71 := k_ivContains d68 (ha1f.ext (e11.trans (g13.ext.trans (e22.trans (g24.ext.trans (e33.trans (g35.ext.trans (e44.trans (g48.ext.trans (e50.trans (g54.ext.trans (e56.trans (e59.trans (g66.ext.trans e68)))))))))))))) (ha2f.ext (e11.trans (g13.ext.trans (e22.trans (g24.ext.trans (e33.trans (g35.ext.trans (e44.trans (g48.ext.trans (e50.trans (g54.ext.trans (e56.trans (e59.trans (g66.ext.trans e68)))))))))))))) (hrf.ext (e11.trans (g13.ext.trans (e22.trans (g24.ext.trans (e33.trans (g35.ext.trans (e44.trans (g48.ext.trans (e50.trans (g54.ext.trans (e56.trans (e59.trans (g66.ext.trans e68)))))))))))))) (by omega) (by omega)
            with_reducible refine Post.mono k71 ?_
            clear k71
            rintro _ u69 g70 rfl
            rcases Bool.eq_false_or_eq_true (Nt.inI x1 x2 q) with hs72 | hs72
            · refine sy_eq 51 (x := .v (.bool (Nt.inI x1 x2 q))) (.v (.bool true)) (by rw [hs72]) ?_
              refine sy_ldv 52 (.v (.agg #[.bool b1.s, .slice b1.m.a b1.m.n b1.m.c, .slice b1.d.a b1.d.n b1.d.c, .bool b2.s, .slice b2.m.a b2.m.n b2.m.c, .slice b2.d.a b2.d.n b2.d.c])) ty28 part_agg ?_ (hw := wants1 (g := 3) (b := true) (t := 51) (by kernel_rfl) (by kernel_rfl) (by kernel_rfl))
              refine sy_ldv 53 (.v (r.v)) ty26 part_agg ?_ (hw := wants1 (g := 3) (b := true) (t := 51) (by kernel_rfl) (by kernel_rfl) (by kernel_rfl))
              refine sy_call 54 12 [.agg #[.bool b1.s, .slice b1.m.a b1.m.n b1.m.c, .slice b1.d.a b1.d.n b1.d.c, .bool b2.s, .slice b2.m.a b2.m.n b2.m.c, .slice b2.d.a b2.d.n b2.d.c], r.v] ?_ (hw := wants1 (g := 3) (b := true) (t := 51) (by kernel_rfl) (by kernel_rfl) (by kernel_rfl))
              intro w73 u73 e73 d73
              have k76 := k_ivContains d73 (hb1f.ext (e11.trans (g13.ext.trans (e22.trans (g24.ext.trans (e33.trans (g35.ext.trans (e44.trans (g48.ext.trans (e50.trans (g54.ext.trans (e56.trans (e59.trans (g66.ext.trans (e68.trans (g70.ext.trans e73)))))))))))))))) (hb2f.ext (e11.trans (g13.ext.trans (e22.trans (g24.ext.trans (e33.trans (g35.ext.trans (e44.trans (g48.ext.trans (e50.trans (g54.ext.trans (e56.trans (e59.trans (g66.ext.trans (e68.trans (g70.ext.trans e73)))))))))))))))) (hrf.ext (e11.trans (g13.ext.trans (e22.trans (g24.ext.trans (e33.trans (g35.ext.trans (e44.trans (g48.ext.trans (e50.trans (g54.ext.trans (e56.trans (e59.trans (g66.ext.trans (e68.trans (g70.ext.trans e73)))))))))))))))) (by omega) (by omega)
              with_reducible refine Post.mono k76 ?_
              clear k76
              rintro _ u74 g75 rfl
              refine sy_pure 55 (.v (.bool (Nt.inI y1 y2 q))) ?_
              refine sy_pure 13 (.v (.bool (Nt.inI y1 y2 q))) ?_
              refine sy_next 85 [(4, .adr 4 0), (5, .adr 5 0), (10, .adr 10 0), (11, .adr 11 0), (12, .v (.bool false)), (13, .v (.bool (Nt.inI y1 y2 q))), (36, .slc 36 0 3 3), (37, .v (.int .i64 3)), (38, .v (.int .i64 0))] [(4, ⟨28, a1.cs ++ a2.cs⟩), (5, ⟨28, b1.cs ++ b2.cs⟩), (10, ⟨26, r.cs⟩), (11, ⟨28, [.bool false, .slice none 0 0, .slice none 0 0, .bool false, .slice none 0 0, .slice none 0 0]⟩), (36, ⟨26, r.cs ++ r45.cs ++ r51.cs⟩)] ?_
              refine sw_seq ?_
              refine sw_reg ?_
              refine sy_ldv 56 (.v (.agg #[.bool a1.s, .slice a1.m.a a1.m.n a1.m.c, .slice a1.d.a a1.d.n a1.d.c, .bool a2.s, .slice a2.m.a a2.m.n a2.m.c, .slice a2.d.a a2.d.n a2.d.c])) ty28 part_agg ?_
              refine sy_ldv 57 (.v (r.v)) ty26 part_agg ?_
              refine sy_call 58 12 [.agg #[.bool a1.s, .slice a1.m.a a1.m.n a1.m.c, .slice a1.d.a a1.d.n a1.d.c, .bool a2.s, .slice a2.m.a a2.m.n a2.m.c, .slice a2.d.a a2.d.n a2.d.c], r.v] ?_
              intro w77 u77 e77 d77
              have k80 := k_ivContains d77 (ha1f.ext (e11.trans (g13.ext.trans (e22.trans (g24.ext.trans (e33.trans (g35.ext.trans (e44.trans (g48.ext.trans (e50.trans (g54.ext.trans (e56.trans (e59.trans (g66.ext.trans (e68.trans (g70.ext.trans (e73.trans (g75.ext.trans e77)))))))))))))))))) (ha2f.ext (e11.trans (g13.ext.trans (e22.trans (g24.ext.trans (e33.trans (g35.ext.trans (e44.trans (g48.ext.trans (e50.trans (g54.ext.trans (e56.trans (e59.trans (g66.ext.trans (e68.trans (g70.ext.trans (e73.trans (g75.ext.trans e77)))))))))))))))))) (hrf.ext (e11.trans (g13.ext.trans (e22.trans (g24.ext.trans (e33.trans (g35.ext.trans (e44.trans (g48.ext.trans (e50.trans (g54.ext.trans (e56.trans (e59.trans (g66.ext.trans (e68.trans (g70.ext.trans (e73.trans (g75.ext.trans e77)))))))))))))))))) (by omega) (by omega)
              with_reducible refine Post.mono k80 ?_
              clear k80
              rintro _ u78 g79 rfl
              refine sy_eq 59 (x := .v (.bool (Nt.inI x1 x2 q))) (.v (.bool true)) (by rw [show (Nt.inI x1 x2 q) = true from hs72]) ?_
              refine sy_drop 60 (unwanted (g := 3) (b := false) (c := true) (t := 59) (by kernel_rfl) (by kernel_rfl) (by kernel_rfl) (by kernel_rfl)) ?_
              refine sy_drop 61 (unwanted (g := 3) (b := false) (c := true) (t := 59) (by kernel_rfl) (by kernel_rfl) (by kernel_rfl) (by kernel_rfl)) ?_
              refine sy_drop 62 (unwanted (g := 3) (b := false) (c := true) (t := 59) (by kernel_rfl) (by kernel_rfl) (by kernel_rfl) (by kernel_rfl)) ?_
              refine sy_pure 63 (.v (.bool true)) ?_
              refine sy_pure 14 (.v (.bool true)) ?_
              refine sy_next 85 [(4, .adr 4 0), (5, .adr 5 0), (10, .adr 10 0), (11, .adr 11 0), (12, .v (.bool false)), (13, .v (.bool (Nt.inI y1 y2 q))), (14, .v (.bool true)), (36, .slc 36 0 3 3), (37, .v (.int .i64 3)), (38, .v (.int .i64 0))] [(4, ⟨28, a1.cs ++ a2.cs⟩), (5, ⟨28, b1.cs ++ b2.cs⟩), (10, ⟨26, r.cs⟩), (11, ⟨28, [.bool false, .slice none 0 0, .slice none 0 0, .bool false, .slice none 0 0, .slice none 0 0]⟩), (36, ⟨26, r.cs ++ r45.cs ++ r51.cs⟩)] ?_
              refine sw_seq ?_
              refine sw_any [0, 0, 2, 6, 6, 30, 62, 127, 255, 511, 1023, 2047, 2047, 8191, 2047, 32767, 65535, 131071, 262143] [(0, []), (1, []), (2, []), (3, []), (4, []), (5, []), (6, []), (7, []), (8, []), (9, []), (10, []), (11, []), (12, []), (14, []), (13, []), (15, []), (16, []), (17, []), (18, [])] (by kernel_rfl) (by kernel_rfl) ?_
              refine sy_pure 64 (.v (.bool (Nt.inI y1 y2 q))) ?_
              refine sy_pure 65 (.v (.bool false)) ?_
              refine sy_pure 66 (.v (.bool false)) ?_
              refine sy_drop 67 (unwanted (g := 2) (b := true) (c := false) (t := 66) (by kernel_rfl) (by kernel_rfl) (by kernel_rfl) (by kernel_rfl)) ?_
              refine sy_drop 68 (unwanted (g := 2) (b := true) (c := false) (t := 66) (by kernel_rfl) (by kernel_rfl) (by kernel_rfl) (by kernel_rfl)) ?_
              refine sy_drop 69 (unwanted (g := 2) (b := true) (c := false) (t := 66) (by kernel_rfl) (by kernel_rfl) (by kernel_rfl) (by kernel_rfl)) ?_
              refine sy_pure 70 (.v (.bool false)) ?_
              refine sy_pure 71 (.v (.bool (!((Nt.inI y1 y2 q) == false)))) ?_
              refine sy_eq 72 (x := .v (.bool (!((Nt.inI y1 y2 q) == false)))) (.v (.bool false)) (by rw [show (!((Nt.inI y1 y2 q) == false)) = false from (by have h9 := Nt.meet0 (q := q) hm60; rw [hs72, Bool.true_and] at h9; simp [h9])]) ?_
              refine sy_pure 73 (.v (.bool true)) ?_ (hw := wants1 (g := 8) (b := false) (t := 72) (by kernel_rfl) (by kernel_rfl) (by kernel_rfl))
              refine sy_pure 74 (.v (.bool true)) ?_ (hw := wants1 (g := 8) (b := false) (t := 72) (by kernel_rfl) (by kernel_rfl) (by kernel_rfl))
              refine sy_ldv 75 (.v (.agg #[.bool a1.s, .slice a1.m.a a1.m.n a1.m.c, .slice a1.d.a a1.d.n a1.d.c, .bool a2.s, .slice a2.m.a a2.m.n a2.m.c, .slice a2.d.a a2.d.n a2.d.c])) ty28 part_agg ?_ (hw := wants1 (g := 10) (b := true) (t := 74) (by kernel_rfl) (by kernel_rfl) (by kernel_rfl))
              refine sy_ldv 76 (.v (.agg #[.bool b1.s, .slice b1.m.a b1.m.n b1.m.c, .slice b1.d.a b1.d.n b1.d.c, .bool b2.s, .slice b2.m.a b2.m.n b2.m.c, .slice b2.d.a b2.d.n b2.d.c])) ty28 part_agg ?_ (hw := wants1 (g := 10) (b := true) (t := 74) (by kernel_rfl) (by kernel_rfl) (by kernel_rfl))
              refine sy_ldv 78 (.v (r.v)) ty26 part_agg ?_ (hw := wants1 (g := 10) (b := true) (t := 74) (by kernel_rfl) (by kernel_rfl) (by kernel_rfl))
              refine sy_call 77 13 [.agg #[.bool a1.s, .slice a1.m.a a1.m.n a1.m.c, .slice a1.d.a a1.d.n a1.d.c, .bool a2.s, .slice a2.m.a a2.m.n a2.m.c, .slice a2.d.a a2.d.n a2.d.c], .agg #[.bool b1.s, .slice b1.m.a b1.m.n b1.m.c, .slice b1.d.a b1.d.n b1.d.c, .bool b2.s, .slice b2.m.a b2.m.n b2.m.c, .slice b2.d.a b2.d.n b2.d.c]] ?_ (hw := wants1 (g := 10) (b := true) (t := 74) (by kernel_rfl) (by kernel_rfl) (by kernel_rfl))
              intro w83 u83 e83 d83
              have k90 := k_ivHull d83 (ha1f.ext (e11.trans (g13.ext.trans (e22.trans (g24.ext.trans (e33.trans (g35.ext.trans (e44.trans (g48.ext.trans (e50.trans (g54.ext.trans (e56.trans (e59.trans (g66.ext.trans (e68.trans (g70.ext.trans (e73.trans (g75.ext.trans (e77.trans (g79.ext.trans e83)))))))))))))))))))) (ha2f.ext (e11.trans (g13.ext.trans (e22.trans (g24.ext.trans (e33.trans (g35.ext.trans (e44.trans (g48.ext.trans (e50.trans (g54.ext.trans (e56.trans (e59.trans (g66.ext.trans (e68.trans (g70.ext.trans (e73.trans (g75.ext.trans (e77.trans (g79.ext.trans e83)))))))))))))))))))) (hb1f.ext (e11.trans (g13.ext.trans (e22.trans (g24.ext.trans (e33.trans (g35.ext.trans (e44.trans (g48.ext.trans (e50.trans (g54.ext.trans (e56.trans (e59.trans (g66.ext.trans (e68.trans (g70.ext.trans (e73.trans (g75.ext.trans (e77.trans (g79.ext.trans e83)))))))))))))))))))) (hb2f.ext (e11.trans (g13.ext.trans (e22.trans (g24.ext.trans (e33.trans (g35.ext.trans (e44.trans (g48.ext.trans (e50.trans (g54.ext.trans (e56.trans (e59.trans (g66.ext.trans (e68.trans (g70.ext.trans (e73.trans (g75.ext.trans (e77.trans (g79.ext.trans e83)))))))))))))))))))) (by omega) (by omega)
              with_reducible refine Post.mono k90 ?_
              clear k90
              rintro _ u88 g89 ⟨r84, r86, rfl, h85, h87⟩
              refine sy_call 79 12 [.agg #[.bool r84.s, .slice r84.m.a r84.m.n r84.m.c, .slice r84.d.a r84.d.n r84.d.c, .bool r86.s, .slice r86.m.a r86.m.n r86.m.c, .slice r86.d.a r86.d.n r86.d.c], r.v] ?_ (hw := wants1 (g := 10) (b := true) (t := 74) (by kernel_rfl) (by kernel_rfl) (by kernel_rfl))
              intro w91 u91 e91 d91
              have k94 := k_ivContains d91 (h85.ext e91).raw (h87.ext e91).raw (hrf.ext (e11.trans (g13.ext.trans (e22.trans (g24.ext.trans (e33.trans (g35.ext.trans (e44.trans (g48.ext.trans (e50.trans (g54.ext.trans (e56.trans (e59.trans (g66.ext.trans (e68.trans (g70.ext.trans (e73.trans (g75.ext.trans (e77.trans (g79.ext.trans (e83.trans (g89.ext.trans e91)))))))))))))))))))))) (by omega) (by omega)
              with_reducible refine Post.mono k94 ?_
              clear k94
              rintro _ u92 g93 rfl
              refine sy_pure 80 (.v (.bool (!(Nt.inI (Nt.lo (Nt.lo x1 x2) (Nt.lo y1 y2)) (Nt.hi (Nt.hi x1 x2) (Nt.hi y1 y2)) q)))) ?_ (hw := wants1 (g := 10) (b := true) (t := 74) (by kernel_rfl) (by kernel_rfl) (by kernel_rfl))
              refine sy_pure 81 (.v (.bool (!(Nt.inI (Nt.lo (Nt.lo x1 x2) (Nt.lo y1 y2)) (Nt.hi (Nt.hi x1 x2) (Nt.hi y1 y2)) q)))) ?_ (hw := wants1 (g := 8) (b := false) (t := 72) (by kernel_rfl) (by kernel_rfl) (by kernel_rfl))
              refine sy_pure 82 (.v (.bool (!(Nt.inI (Nt.lo (Nt.lo x1 x2) (Nt.lo y1 y2)) (Nt.hi (Nt.hi x1 x2) (Nt.hi y1 y2)) q)))) ?_
              refine sy_next 85 [(4, .adr 4 0), (5, .adr 5 0), (36, .slc 36 0 3 3), (37, .v (.int .i64 3)), (38, .v (.int .i64 0)), (82, .v (.bool (!(Nt.inI (Nt.lo (Nt.lo x1 x2) (Nt.lo y1 y2)) (Nt.hi (Nt.hi x1 x2) (Nt.hi y1 y2)) q))))] [(4, ⟨28, a1.cs ++ a2.cs⟩), (5, ⟨28, b1.cs ++ b2.cs⟩), (36, ⟨26, r.cs ++ r45.cs ++ r51.cs⟩)] ?_
              refine sw_cond (b := !(Nt.inI (Nt.lo (Nt.lo x1 x2) (Nt.lo y1 y2)) (Nt.hi (Nt.hi x1 x2) (Nt.hi y1 y2)) q)) (by kernel_rfl) (fun hb => ?_) (fun hb => ?_)
              · exact absurd hb (by rw [show (!(Nt.inI (Nt.lo (Nt.lo x1 x2) (Nt.lo y1 y2)) (Nt.hi (Nt.hi x1 x2) (Nt.hi y1 y2)) q)) = false from Nt.nott (Nt.hull_has (.inl hs72))]; decide)
              · clear hb
                refine sw_skip (mp_seq ?_)
                refine sw_reg ?_
                refine sy_pure 83 (.v (.int .i64 1)) ?_
                refine sy_pure 38 (.v (.int .i64 1)) ?_
                refine sy_end ?_
                exact ⟨3 - 1, by decide, St.of 85 [(4, .adr 4 0), (5, .adr 5 0), (36, .slc 36 0 3 3), (37, .v (.int .i64 3)), (38, .v (.int .i64 1))] [(4, ⟨28, a1.cs ++ a2.cs⟩), (5, ⟨28, b1.cs ++ b2.cs⟩), (36, ⟨26, r.cs ++ r45.cs ++ r51.cs⟩)], by exact weak_mk _ _ _, 1, by omega, rfl, rfl, (e56.trans (e59.trans (g66.ext.trans (e68.trans (g70.ext.trans (e73.trans (g75.ext.trans (e77.trans (g79.ext.trans (e83.trans (g89.ext.trans (e91.trans g93.ext))))))))))))⟩
            · refine sy_eq 51 (x := .v (.bool (Nt.inI x1 x2 q))) (.v (.bool false)) (by rw [hs72]) ?_
              refine sy_drop 52 (unwanted (g := 3) (b := true) (c := false) (t := 51) (by kernel_rfl) (by kernel_rfl) (by kernel_rfl) (by kernel_rfl)) ?_
              refine sy_drop 53 (unwanted (g := 3) (b := true) (c := false) (t := 51) (by kernel_rfl) (by kernel_rfl) (by kernel_rfl) (by kernel_rfl)) ?_
              refine sy_drop 54 (unwanted (g := 3) (b := true) (c := false) (t := 51) (by kernel_rfl) (by kernel_rfl) (by kernel_rfl) (by kernel_rfl)) ?_
              refine sy_pure 55 (.v (.bool false)) ?_
              refine sy_pure 13 (.v (.bool false)) ?_
              refine sy_next 85 [(4, .adr 4 0), (5, .adr 5 0), (10, .adr 10 0), (11, .adr 11 0), (12, .v (.bool false)), (13, .v (.bool false)), (36, .slc 36 0 3 3), (37, .v (.int .i64 3)), (38, .v (.int .i64 0))] [(4, ⟨28, a1.cs ++ a2.cs⟩), (5, ⟨28, b1.cs ++ b2.cs⟩), (10, ⟨26, r.cs⟩), (11, ⟨28, [.bool false, .slice none 0 0, .slice none 0 0, .bool false, .slice none 0 0, .slice none 0 0]⟩), (36, ⟨26, r.cs ++ r45.cs ++ r51.cs⟩)] ?_
              refine sw_seq ?_
              refine sw_reg ?_
              refine sy_ldv 56 (.v (.agg #[.bool a1.s, .slice a1.m.a a1.m.n a1.m.c, .slice a1.d.a a1.d.n a1.d.c, .bool a2.s, .slice a2.m.a a2.m.n a2.m.c, .slice a2.d.a a2.d.n a2.d.c])) ty28 part_agg ?_
              refine sy_ldv 57 (.v (r.v)) ty26 part_agg ?_
              refine sy_call 58 12 [.agg #[.bool a1.s, .slice a1.m.a a1.m.n a1.m.c, .slice a1.d.a a1.d.n a1.d.c, .bool a2.s, .slice a2.m.a a2.m.n a2.m.c, .slice a2.d.a a2.d.n a2.d.c], r.v] ?_
              intro w95 u95 e95 d95
              have k98 := k_ivContains d95 (ha1f.ext (e11.trans (g13.ext.trans (e22.trans (g24.ext.trans (e33.trans (g35.ext.trans (e44.trans (g48.ext.trans (e50.trans (g54.ext.trans (e56.trans (e59.trans (g66.ext.trans (e68.trans (g70.ext.trans e95)))))))))))))))) (ha2f.ext (e11.trans (g13.ext.trans (e22.trans (g24.ext.trans (e33.trans (g35.ext.trans (e44.trans (g48.ext.trans (e50.trans (g54.ext.trans (e56.trans (e59.trans (g66.ext.trans (e68.trans (g70.ext.trans e95)))))))))))))))) (hrf.ext (e11.trans (g13.ext.trans (e22.trans (g24.ext.trans (e33.trans (g35.ext.trans (e44.trans (g48.ext.trans (e50.trans (g54.ext.trans (e56.trans (e59.trans (g66.ext.trans (e68.trans (g70.ext.trans e95)))))))))))))))) (by omega) (by omega)
              with_reducible refine Post.mono k98 ?_
              clear k98
              rintro _ u96 g97 rfl
              refine sy_eq 59 (x := .v (.bool (Nt.inI x1 x2 q))) (.v (.bool false)) (by rw [show (Nt.inI x1 x2 q) = false from hs72]) ?_
              refine sy_ldv 60 (.v (.agg #[.bool b1.s, .slice b1.m.a b1.m.n b1.m.c, .slice b1.d.a b1.d.n b1.d.c, .bool b2.s, .slice b2.m.a b2.m.n b2.m.c, .slice b2.d.a b2.d.n b2.d.c])) ty28 part_agg ?_ (hw := wants1 (g := 3) (b := false) (t := 59) (by kernel_rfl) (by kernel_rfl) (by kernel_rfl))
              refine sy_ldv 61 (.v (r.v)) ty26 part_agg ?_ (hw := wants1 (g := 3) (b := false) (t := 59) (by kernel_rfl) (by kernel_rfl) (by kernel_rfl))
              refine sy_call 62 12 [.agg #[.bool b1.s, .slice b1.m.a b1.m.n b1.m.c, .slice b1.d.a b1.d.n b1.d.c, .bool b2.s, .slice b2.m.a b2.m.n b2.m.c, .slice b2.d.a b2.d.n b2.d.c], r.v] ?_ (hw := wants1 (g := 3) (b := false) (t := 59) (by kernel_rfl) (by kernel_rfl) (by kernel_rfl))
              intro w100 u100 e100 d100
              have k103 := k_ivContains d100 (hb1f.ext (e11.trans (g13.ext.trans (e22.trans (g24.ext.trans (e33.trans (g35.ext.trans (e44.trans (g48.ext.trans (e50.trans (g54.ext.trans (e56.trans (e59.trans (g66.ext.trans (e68.trans (g70.ext.trans (e95.trans (g97.ext.trans e100)))))))))))))))))) (hb2f.ext (e11.trans (g13.ext.trans (e22.trans (g24.ext.trans (e33.trans (g35.ext.trans (e44.trans (g48.ext.trans (e50.trans (g54.ext.trans (e56.trans (e59.trans (g66.ext.trans (e68.trans (g70.ext.trans (e95.trans (g97.ext.trans e100)))))))))))))))))) (hrf.ext (e11.trans (g13.ext.trans (e22.trans (g24.ext.trans (e33.trans (g35.ext.trans (e44.trans (g48.ext.trans (e50.trans (g54.ext.trans (e56.trans (e59.trans (g66.ext.trans (e68.trans (g70.ext.trans (e95.trans (g97.ext.trans e100)))))))))))))))))) (by omega) (by omega)
              with_reducible refine Post.mono k103 ?_
              clear k103
              rintro _ u101 g102 rfl
              refine sy_pure 63 (.v (.bool (Nt.inI y1 y2 q))) ?_
              refine sy_pure 14 (.v (.bool (Nt.inI y1 y2 q))) ?_
              refine sy_next 85 [(4, .adr 4 0), (5, .adr 5 0), (10, .adr 10 0), (11, .adr 11 0), (12, .v (.bool false)), (13, .v (.bool false)), (14, .v (.bool (Nt.inI y1 y2 q))), (36, .slc 36 0 3 3), (37, .v (.int .i64 3)), (38, .v (.int .i64 0))] [(4, ⟨28, a1.cs ++ a2.cs⟩), (5, ⟨28, b1.cs ++ b2.cs⟩), (10, ⟨26, r.cs⟩), (11, ⟨28, [.bool false, .slice none 0 0, .slice none 0 0, .bool false, .slice none 0 0, .slice none 0 0]⟩), (36, ⟨26, r.cs ++ r45.cs ++ r51.cs⟩)] ?_
              refine sw_seq ?_
              refine sw_any [0, 0, 2, 6, 6, 30, 62, 127, 255, 511, 1023, 2047, 2047, 8191, 2047, 32767, 65535, 131071, 262143] [(0, []), (1, []), (2, []), (3, []), (4, []), (5, []), (6, []), (7, []), (8, []), (9, []), (10, []), (11, []), (12, []), (14, []), (13, []), (15, []), (16, []), (17, []), (18, [])] (by kernel_rfl) (by kernel_rfl) ?_
              refine sy_pure 64 (.v (.bool false)) ?_
              refine sy_pure 65 (.v (.bool false)) ?_
              refine sy_pure 66 (.v (.bool false)) ?_
              refine sy_drop 67 (unwanted (g := 2) (b := true) (c := false) (t := 66) (by kernel_rfl) (by kernel_rfl) (by kernel_rfl) (by kernel_rfl)) ?_
              refine sy_drop 68 (unwanted (g := 2) (b := true) (c := false) (t := 66) (by kernel_rfl) (by kernel_rfl) (by kernel_rfl) (by kernel_rfl)) ?_
              refine sy_drop 69 (unwanted (g := 2) (b := true) (c := false) (t := 66) (by kernel_rfl) (by kernel_rfl) (by kernel_rfl) (by kernel_rfl)) ?_
              refine sy_pure 70 (.v (.bool false)) ?_
              refine sy_pure 71 (.v (.bool (!(false == false)))) ?_
              refine sy_eq 72 (x := .v (.bool (!(false == false)))) (.v (.bool false)) (by rw [show (!(false == false)) = false from (by have h9 := Nt.meet0 (q := q) hm60; rw [hs72, Bool.false_and] at h9; simp [h9])]) ?_
              refine sy_pure 73 (.v (.bool (Nt.inI y1 y2 q))) ?_ (hw := wants1 (g := 8) (b := false) (t := 72) (by kernel_rfl) (by kernel_rfl) (by kernel_rfl))
              rcases Bool.eq_false_or_eq_true (Nt.inI y1 y2 q) with hs105 | hs105
              · refine sy_eq 74 (x := .v (.bool (Nt.inI y1 y2 q))) (.v (.bool true)) (by rw [hs105]) ?_ (hw := wants1 (g := 8) (b := false) (t := 72) (by kernel_rfl) (by kernel_rfl) (by kernel_rfl))
                refine sy_ldv 75 (.v (.agg #[.bool a1.s, .slice a1.m.a a1.m.n a1.m.c, .slice a1.d.a a1.d.n a1.d.c, .bool a2.s, .slice a2.m.a a2.m.n a2.m.c, .slice a2.d.a a2.d.n a2.d.c])) ty28 part_agg ?_ (hw := wants1 (g := 10) (b := true) (t := 74) (by kernel_rfl) (by kernel_rfl) (by kernel_rfl))
                refine sy_ldv 76 (.v (.agg #[.bool b1.s, .slice b1.m.a b1.m.n b1.m.c, .slice b1.d.a b1.d.n b1.d.c, .bool b2.s, .slice b2.m.a b2.m.n b2.m.c, .slice b2.d.a b2.d.n b2.d.c])) ty28 part_agg ?_ (hw := wants1 (g := 10) (b := true) (t := 74) (by kernel_rfl) (by kernel_rfl) (by kernel_rfl))
                refine sy_ldv 78 (.v (r.v)) ty26 part_agg ?_ (hw := wants1 (g := 10) (b := true) (t := 74) (by kernel_rfl) (by kernel_rfl) (by kernel_rfl))
                refine sy_call 77 13 [.agg #[.bool a1.s, .slice a1.m.a a1.m.n a1.m.c, .slice a1.d.a a1.d.n a1.d.c, .bool a2.s, .slice a2.m.a a2.m.n a2.m.c, .slice a2.d.a a2.d.n a2.d.c], .agg #[.bool b1.s, .slice b1.m.a b1.m.n b1.m.c, .slice b1.d.a b1.d.n b1.d.c, .bool b2.s, .slice b2.m.a b2.m.n b2.m.c, .slice b2.d.a b2.d.n b2.d.c]] ?_ (hw := wants1 (g := 10) (b := true) (t := 74) (by kernel_rfl) (by kernel_rfl) (by kernel_rfl))
                intro w106 u106 e106 d106
                have k113 := k_ivHull d106 (ha1f.ext (e11.trans (g13.ext.trans (e22.trans (g24.ext.trans (e33.trans (g35.ext.trans (e44.trans (g48.ext.trans (e50.trans (g54.ext.trans (e56.trans (e59.trans (g66.ext.trans (e68.trans (g70.ext.trans (e95.trans (g97.ext.trans (e100.trans (g102.ext.trans e106)))))))))))))))))))) (ha2f.ext (e11.trans (g13.ext.trans (e22.trans (g24.ext.trans (e33.trans (g35.ext.trans (e44.trans (g48.ext.trans (e50.trans (g54.ext.trans (e56.trans (e59.trans (g66.ext.trans (e68.trans (g70.ext.trans (e95.trans (g97.ext.trans (e100.trans (g102.ext.trans e106)))))))))))))))))))) (hb1f.ext (e11.trans (g13.ext.trans (e22.trans (g24.ext.trans (e33.trans (g35.ext.trans (e44.trans (g48.ext.trans (e50.trans (g54.ext.trans (e56.trans (e59.trans (g66.ext.trans (e68.trans (g70.ext.trans (e95.trans (g97.ext.trans (e100.trans (g102.ext.trans e106)))))))))))))))))))) (hb2f.ext (e11.trans (g13.ext.trans (e22.trans (g24.ext.trans (e33.trans (g35.ext.trans (e44.trans (g48.ext.trans (e50.trans (g54.ext.trans (e56.trans (e59.trans (g66.ext.trans (e68.trans (g70.ext.trans (e95.trans (g97.ext.trans (e100.trans (g102.ext.trans e106)))))))))))))))))))) (by omega) (by omega)
                with_reducible refine Post.mono k113 ?_
                clear k113
                rintro _ u111 g112 ⟨r107, r109, rfl, h108, h110⟩
                refine sy_call 79 12 [.agg #[.bool r107.s, .slice r107.m.a r107.m.n r107.m.c, .slice r107.d.a r107.d.n r107.d.c, .bool r109.s, .slice r109.m.a r109.m.n r109.m.c, .slice r109.d.a r109.d.n r109.d.c], r.v] ?_ (hw := wants1 (g := 10) (b := true) (t := 74) (by kernel_rfl) (by kernel_rfl) (by kernel_rfl))
                intro w114 u114 e114 d114
                have k117 := k_ivContains d114 (h108.ext e114).raw (h110.ext e114).raw (hrf.ext (e11.trans (g13.ext.trans (e22.trans (g24.ext.trans (e33.trans (g35.ext.trans (e44.trans (g48.ext.trans (e50.trans (g54.ext.trans (e56.trans (e59.trans (g66.ext.trans (e68.trans (g70.ext.trans (e95.trans (g97.ext.trans (e100.trans (g102.ext.trans (e106.trans (g112.ext.trans e114)))))))))))))))))))))) (by omega) (by omega)
                with_reducible refine Post.mono k117 ?_
                clear k117
                rintro _ u115 g116 rfl
                refine sy_pure 80 (.v (.bool (!(Nt.inI (Nt.lo (Nt.lo x1 x2) (Nt.lo y1 y2)) (Nt.hi (Nt.hi x1 x2) (Nt.hi y1 y2)) q)))) ?_ (hw := wants1 (g := 10) (b := true) (t := 74) (by kernel_rfl) (by kernel_rfl) (by kernel_rfl))
                refine sy_pure 81 (.v (.bool (!(Nt.inI (Nt.lo (Nt.lo x1 x2) (Nt.lo y1 y2)) (Nt.hi (Nt.hi x1 x2) (Nt.hi y1 y2)) q)))) ?_ (hw := wants1 (g := 8) (b := false) (t := 72) (by kernel_rfl) (by kernel_rfl) (by kernel_rfl))
                refine sy_pure 82 (.v (.bool (!(Nt.inI (Nt.lo (Nt.lo x1 x2) (Nt.lo y1 y2)) (Nt.hi (Nt.hi x1 x2) (Nt.hi y1 y2)) q)))) ?_
                refine sy_next 85 [(4, .adr 4 0), (5, .adr 5 0), (36, .slc 36 0 3 3), (37, .v (.int .i64 3)), (38, .v (.int .i64 0)), (82, .v (.bool (!(Nt.inI (Nt.lo (Nt.lo x1 x2) (Nt.lo y1 y2)) (Nt.hi (Nt.hi x1 x2) (Nt.hi y1 y2)) q))))] [(4, ⟨28, a1.cs ++ a2.cs⟩), (5, ⟨28, b1.cs ++ b2.cs⟩), (36, ⟨26, r.cs ++ r45.cs ++ r51.cs⟩)] ?_
                refine sw_cond (b := !(Nt.inI (Nt.lo (Nt.lo x1 x2) (Nt.lo y1 y2)) (Nt.hi (Nt.hi x1 x2) (Nt.hi y1 y2)) q)) (by kernel_rfl) (fun hb => ?_) (fun hb => ?_)
                · exact absurd hb (by rw [show (!(Nt.inI (Nt.lo (Nt.lo x1 x2) (Nt.lo y1 y2)) (Nt.hi (Nt.hi x1 x2) (Nt.hi y1 y2)) q)) = false from Nt.nott (Nt.hull_has (.inr hs105))]; decide)
                · clear hb
                  refine sw_skip (mp_seq ?_)
                  refine sw_reg ?_
                  refine sy_pure 83 (.v (.int .i64 1)) ?_
                  refine sy_pure 38 (.v (.int .i64 1)) ?_
                  refine sy_end ?_
                  exact ⟨3 - 1, by decide, St.of 85 [(4, .adr 4 0), (5, .adr 5 0), (36, .slc 36 0 3 3), (37, .v (.int .i64 3)), (38, .v (.int .i64 1))] [(4, ⟨28, a1.cs ++ a2.cs⟩), (5, ⟨28, b1.cs ++ b2.cs⟩), (36, ⟨26, r.cs ++ r45.cs ++ r51.cs⟩)], by exact weak_mk _ _ _, 1, by omega, rfl, rfl, (e56.trans (e59.trans (g66.ext.trans (e68.trans (g70.ext.trans (e95.trans (g97.ext.trans (e100.trans (g102.ext.trans (e106.trans (g112.ext.trans (e114.trans g116.ext))))))))))))⟩
              · refine sy_eq 74 (x := .v (.bool (Nt.inI y1 y2 q))) (.v (.bool false)) (by rw [hs105]) ?_ (hw := wants1 (g := 8) (b := false) (t := 72) (by kernel_rfl) (by kernel_rfl) (by kernel_rfl))
                refine sy_drop 75 (unwanted (g := 10) (b := true) (c := false) (t := 74) (by kernel_rfl) (by kernel_rfl) (by kernel_rfl) (by kernel_rfl)) ?_
                refine sy_drop 76 (unwanted (g := 10) (b := true) (c := false) (t := 74) (by kernel_rfl) (by kernel_rfl) (by kernel_rfl) (by kernel_rfl)) ?_
                refine sy_drop 78 (unwanted (g := 10) (b := true) (c := false) (t := 74) (by kernel_rfl) (by kernel_rfl) (by kernel_rfl) (by kernel_rfl)) ?_
                refine sy_drop 77 (unwanted (g := 10) (b := true) (c := false) (t := 74) (by kernel_rfl) (by kernel_rfl) (by kernel_rfl) (by kernel_rfl)) ?_
                refine sy_drop 79 (unwanted (g := 10) (b := true) (c := false) (t := 74) (by kernel_rfl) (by kernel_rfl) (by kernel_rfl) (by kernel_rfl)) ?_
                refine sy_drop 80 (unwanted (g := 10) (b := true) (c := false) (t := 74) (by kernel_rfl) (by kernel_rfl) (by kernel_rfl) (by kernel_rfl)) ?_
                refine sy_pure 81 (.v (.bool false)) ?_ (hw := wants1 (g := 8) (b := false) (t := 72) (by kernel_rfl) (by kernel_rfl) (by kernel_rfl))
                refine sy_pure 82 (.v (.bool false)) ?_
                refine sy_next 85 [(4, .adr 4 0), (5, .adr 5 0), (36, .slc 36 0 3 3), (37, .v (.int .i64 3)), (38, .v (.int .i64 0)), (82, .v (.bool false))] [(4, ⟨28, a1.cs ++ a2.cs⟩), (5, ⟨28, b1.cs ++ b2.cs⟩), (36, ⟨26, r.cs ++ r45.cs ++ r51.cs⟩)] ?_
                refine sw_false (by kernel_rfl) ?_
                refine sw_skip (mp_seq ?_)
                refine sw_reg ?_
                refine sy_pure 83 (.v (.int .i64 1)) ?_
                refine sy_pure 38 (.v (.int .i64 1)) ?_
                refine sy_end ?_
                exact ⟨3 - 1, by decide, St.of 85 [(4, .adr 4 0), (5, .adr 5 0), (36, .slc 36 0 3 3), (37, .v (.int .i64 3)), (38, .v (.int .i64 1))] [(4, ⟨28, a1.cs ++ a2.cs⟩), (5, ⟨28, b1.cs ++ b2.cs⟩), (36, ⟨26, r.cs ++ r45.cs ++ r51.cs⟩)], by exact weak_mk _ _ _, 1, by omega, rfl, rfl, (e56.trans (e59.trans (g66.ext.trans (e68.trans (g70.ext.trans (e95.trans (g97.ext.trans (e100.trans g102.ext))))))))⟩
          · skip
            refine sy_pure 42 (.v (.tuple #[.agg #[.bool r61.s, .slice r61.m.a r61.m.n r61.m.c, .slice r61.d.a r61.d.n r61.d.c, .bool r63.s, .slice r63.m.a r63.m.n r63.m.c, .slice r63.d.a r63.d.n r63.d.c], .bool true])) ?_
            refine sy_pure 46 (.v (.agg #[.bool r61.s, .slice r61.m.a r61.m.n r61.m.c, .slice r61.d.a r61.d.n r61.d.c, .bool r63.s, .slice r63.m.a r63.m.n r63.m.c, .slice r63.d.a r63.d.n r63.d.c])) ?_
            refine sy_pure 47 (.v (.bool true)) ?_
            refine sy_new 11 ⟨28, [.bool false, .slice none 0 0, .slice none 0 0, .bool false, .slice none 0 0, .slice none 0 0]⟩ ?_
            refine sy_store ⟨28, r61.cs ++ r63.cs⟩ ty28 ?_
            refine sy_pure 12 (.v (.bool true)) ?_
            refine sy_next 85 [(4, .adr 4 0), (5, .adr 5 0), (10, .adr 10 0), (11, .adr 11 0), (12, .v (.bool true)), (36, .slc 36 0 3 3), (37, .v (.int .i64 3)), (38, .v (.int .i64 0))] [(4, ⟨28, a1.cs ++ a2.cs⟩), (5, ⟨28, b1.cs ++ b2.cs⟩), (10, ⟨26, r.cs⟩), (11, ⟨28, r61.cs ++ r63.cs⟩), (36, ⟨26, r.cs ++ r45.cs ++ r51.cs⟩)] ?_
            refine sw_seq ?_
            refine sw_reg ?_
            refine sy_ldv 48 (.v (.agg #[.bool a1.s, .slice a1.m.a a1.m.n a1.m.c, .slice a1.d.a a1.d.n a1.d.c, .bool a2.s, .slice a2.m.a a2.m.n a2.m.c, .slice a2.d.a a2.d.n a2.d.c])) ty28 part_agg ?_
            refine sy_ldv 49 (.v (r.v)) ty26 part_agg ?_
            refine sy_call 50 12 [.agg #[.bool a1.s, .slice a1.m.a a1.m.n a1.m.c, .slice a1.d.a a1.d.n a1.d.c, .bool a2.s, .slice a2.m.a a2.m.n a2.m.c, .slice a2.d.a a2.d.n a2.d.c], r.v] ?_
            intro w118 u118 e118 d118
            have k121 := k_ivContains d118 (ha1f.ext (e11.trans (g13.ext.trans (e22.trans (g24.ext.trans (e33.trans (g35.ext.trans (e44.trans (g48.ext.trans (e50.trans (g54.ext.trans (e56.trans (e59.trans (g66.ext.trans e118)))))))))))))) (ha2f.ext (e11.trans (g13.ext.trans (e22.trans (g24.ext.trans (e33.trans (g35.ext.trans (e44.trans (g48.ext.trans (e50.trans (g54.ext.trans (e56.trans (e59.trans (g66.ext.trans e118)))))))))))))) (hrf.ext (e11.trans (g13.ext.trans (e22.trans (g24.ext.trans (e33.trans (g35.ext.trans (e44.trans (g48.ext.trans (e50.trans (g54.ext.trans (e56.trans (e59.trans (g66.ext.trans e118)))))))))))))) (by omega) (by omega)
            with_reducible refine Post.mono k121 ?_
            clear k121
            rintro _ u119 g120 rfl
            rcases Bool.eq_false_or_eq_true (Nt.inI x1 x2 q) with hs122 | hs122
            · refine sy_eq 51 (x := .v (.bool (Nt.inI x1 x2 q))) (.v (.bool true)) (by rw [hs122]) ?_
              refine sy_ldv 52 (.v (.agg #[.bool b1.s, .slice b1.m.a b1.m.n b1.m.c, .slice b1.d.a b1.d.n b1.d.c, .bool b2.s, .slice b2.m.a b2.m.n b2.m.c, .slice b2.d.a b2.d.n b2.d.c])) ty28 part_agg ?_ (hw := wants1 (g := 3) (b := true) (t := 51) (by kernel_rfl) (by kernel_rfl) (by kernel_rfl))
              refine sy_ldv 53 (.v (r.v)) ty26 part_agg ?_ (hw := wants1 (g := 3) (b := true) (t := 51) (by kernel_rfl) (by kernel_rfl) (by kernel_rfl))
              refine sy_call 54 12 [.agg #[.bool b1.s, .slice b1.m.a b1.m.n b1.m.c, .slice b1.d.a b1.d.n b1.d.c, .bool b2.s, .slice b2.m.a b2.m.n b2.m.c, .slice b2.d.a b2.d.n b2.d.c], r.v] ?_ (hw := wants1 (g := 3) (b := true) (t := 51) (by kernel_rfl) (by kernel_rfl) (by kernel_rfl))
              intro w123 u123 e123 d123
              have k126 := k_ivContains d123 (hb1f.ext (e11.trans (g13.ext.trans (e22.trans (g24.ext.trans (e33.trans (g35.ext.trans (e44.trans (g48.ext.trans (e50.trans (g54.ext.trans (e56.trans (e59.trans (g66.ext.trans (e118.trans (g120.ext.trans e123)))))))))))))))) (hb2f.ext (e11.trans (g13.ext.trans (e22.trans (g24.ext.trans (e33.trans (g35.ext.trans (e44.trans (g48.ext.trans (e50.trans (g54.ext.trans (e56.trans (e59.trans (g66.ext.trans (e118.trans (g120.ext.trans e123)))))))))))))))) (hrf.ext (e11.trans (g13.ext.trans (e22.trans (g24.ext.trans (e33.trans (g35.ext.trans (e44.trans (g48.ext.trans (e50.trans (g54.ext.trans (e56.trans (e59.trans (g66.ext.trans (e118.trans (g120.ext.trans e123)))))))))))))))) (by omega) (by omega)
              with_reducible refine Post.mono k126 ?_
              clear k126
              rintro _ u124 g125 rfl
              refine sy_pure 55 (.v (.bool (Nt.inI y1 y2 q))) ?_
              refine sy_pure 13 (.v (.bool (Nt.inI y1 y2 q))) ?_
              refine sy_next 85 [(4, .adr 4 0), (5, .adr 5 0), (10, .adr 10 0), (11, .adr 11 0), (12, .v (.bool true)), (13, .v (.bool (Nt.inI y1 y2 q))), (36, .slc 36 0 3 3), (37, .v (.int .i64 3)), (38, .v (.int .i64 0))] [(4, ⟨28, a1.cs ++ a2.cs⟩), (5, ⟨28, b1.cs ++ b2.cs⟩), (10, ⟨26, r.cs⟩), (11, ⟨28, r61.cs ++ r63.cs⟩), (36, ⟨26, r.cs ++ r45.cs ++ r51.cs⟩)] ?_
              refine sw_seq ?_
              refine sw_reg ?_
              refine sy_ldv 56 (.v (.agg #[.bool a1.s, .slice a1.m.a a1.m.n a1.m.c, .slice a1.d.a a1.d.n a1.d.c, .bool a2.s, .slice a2.m.a a2.m.n a2.m.c, .slice a2.d.a a2.d.n a2.d.c])) ty28 part_agg ?_
              refine sy_ldv 57 (.v (r.v)) ty26 part_agg ?_
              refine sy_call 58 12 [.agg #[.bool a1.s, .slice a1.m.a a1.m.n a1.m.c, .slice a1.d.a a1.d.n a1.d.c, .bool a2.s, .slice a2.m.a a2.m.n a2.m.c, .slice a2.d.a a2.d.n a2.d.c], r.v] ?_
              intro w127 u127 e127 d127
              have k130 := k_ivContains d127 (ha1f.ext (e11.trans (g13.ext.trans (e22.trans (g24.ext.trans (e33.trans (g35.ext.trans (e44.trans (g48.ext.trans (e50.trans (g54.ext.trans (e56.trans (e59.trans (g66.ext.trans (e118.trans (g120.ext.trans (e123.trans (g125.ext.trans e127)))))))))))))))))) (ha2f.ext (e11.trans (g13.ext.trans (e22.trans (g24.ext.trans (e33.trans (g35.ext.trans (e44.trans (g48.ext.trans (e50.trans (g54.ext.trans (e56.trans (e59.trans (g66.ext.trans (e118.trans (g120.ext.trans (e123.trans (g125.ext.trans e127)))))))))))))))))) (hrf.ext (e11.trans (g13.ext.trans (e22.trans (g24.ext.trans (e33.trans (g35.ext.trans (e44.trans (g48.ext.trans (e50.trans (g54.ext.trans (e56.trans (e59.trans (g66.ext.trans (e118.trans (g120.ext.trans (e123.trans (g125.ext.trans e127)))))))))))))))))) (by omega) (by omega)
              with_reducible refine Post.mono k130 ?_
              clear k130
              rintro _ u128 g129 rfl
              refine sy_eq 59 (x := .v (.bool (Nt.inI x1 x2 q))) (.v (.bool true)) (by rw [show (Nt.inI x1 x2 q) = true from hs122]) ?_
              refine sy_drop 60 (unwanted (g := 3) (b := false) (c := true) (t := 59) (by kernel_rfl) (by kernel_rfl) (by kernel_rfl) (by kernel_rfl)) ?_
              refine sy_drop 61 (unwanted (g := 3) (b := false) (c := true) (t := 59) (by kernel_rfl) (by kernel_rfl) (by kernel_rfl) (by kernel_rfl)) ?_
              refine sy_drop 62 (unwanted (g := 3) (b := false) (c := true) (t := 59) (by kernel_rfl) (by kernel_rfl) (by kernel_rfl) (by kernel_rfl)) ?_
              refine sy_pure 63 (.v (.bool true)) ?_
              refine sy_pure 14 (.v (.bool true)) ?_
              refine sy_next 85 [(4, .adr 4 0), (5, .adr 5 0), (10, .adr 10 0), (11, .adr 11 0), (12, .v (.bool true)), (13, .v (.bool (Nt.inI y1 y2 q))), (14, .v (.bool true)), (36, .slc 36 0 3 3), (37, .v (.int .i64 3)), (38, .v (.int .i64 0))] [(4, ⟨28, a1.cs ++ a2.cs⟩), (5, ⟨28, b1.cs ++ b2.cs⟩), (10, ⟨26, r.cs⟩), (11, ⟨28, r61.cs ++ r63.cs⟩), (36, ⟨26, r.cs ++ r45.cs ++ r51.cs⟩)] ?_
              refine sw_seq ?_
              refine sw_any [0, 0, 2, 6, 6, 30, 62, 127, 255, 511, 1023, 2047, 2047, 8191, 2047, 32767, 65535, 131071, 262143] [(0, []), (1, []), (2, []), (3, []), (4, []), (5, []), (6, []), (7, []), (8, []), (9, []), (10, []), (11, []), (12, []), (14, []), (13, []), (15, []), (16, []), (17, []), (18, [])] (by kernel_rfl) (by kernel_rfl) ?_
              refine sy_pure 64 (.v (.bool (Nt.inI y1 y2 q))) ?_
              refine sy_pure 65 (.v (.bool true)) ?_
              refine sy_pure 66 (.v (.bool true)) ?_
              refine sy_ldv 67 (.v (.agg #[.bool r61.s, .slice r61.m.a r61.m.n r61.m.c, .slice r61.d.a r61.d.n r61.d.c, .bool r63.s, .slice r63.m.a r63.m.n r63.m.c, .slice r63.d.a r63.d.n r63.d.c])) ty28 part_agg ?_ (hw := wants1 (g := 2) (b := true) (t := 66) (by kernel_rfl) (by kernel_rfl) (by kernel_rfl))
              refine sy_ldv 68 (.v (r.v)) ty26 part_agg ?_ (hw := wants1 (g := 2) (b := true) (t := 66) (by kernel_rfl) (by kernel_rfl) (by kernel_rfl))
              refine sy_call 69 12 [.agg #[.bool r61.s, .slice r61.m.a r61.m.n r61.m.c, .slice r61.d.a r61.d.n r61.d.c, .bool r63.s, .slice r63.m.a r63.m.n r63.m.c, .slice r63.d.a r63.d.n r63.d.c], r.v] ?_ (hw := wants1 (g := 2) (b := true) (t := 66) (by kernel_rfl) (by kernel_rfl) (by kernel_rfl))
              intro w132 u132 e132 d132
              have k135 := k_ivContains d132 (h62.ext (e118.trans (g120.ext.trans (e123.trans (g125.ext.trans (e127.trans (g129.ext.trans e132))))))).raw (h64.ext (e118.trans (g120.ext.trans (e123.trans (g125.ext.trans (e127.trans (g129.ext.trans e132))))))).raw (hrf.ext (e11.trans (g13.ext.trans (e22.trans (g24.ext.trans (e33.trans (g35.ext.trans (e44.trans (g48.ext.trans (e50.trans (g54.ext.trans (e56.trans (e59.trans (g66.ext.trans (e118.trans (g120.ext.trans (e123.trans (g125.ext.trans (e127.trans (g129.ext.trans e132)))))))))))))))))))) (by omega) (by omega)
              with_reducible refine Post.mono k135 ?_
              clear k135
              rintro _ u133 g134 rfl
              refine sy_pure 70 (.v (.bool (Nt.inI (Nt.hi (Nt.lo x1 x2) (Nt.lo y1 y2)) (Nt.lo (Nt.hi x1 x2) (Nt.hi y1 y2)) q))) ?_
              refine sy_pure 71 (.v (.bool (!((Nt.inI y1 y2 q) == (Nt.inI (Nt.hi (Nt.lo x1 x2) (Nt.lo y1 y2)) (Nt.lo (Nt.hi x1 x2) (Nt.hi y1 y2)) q))))) ?_
              refine sy_eq 72 (x := .v (.bool (!((Nt.inI y1 y2 q) == (Nt.inI (Nt.hi (Nt.lo x1 x2) (Nt.lo y1 y2)) (Nt.lo (Nt.hi x1 x2) (Nt.hi y1 y2)) q))))) (.v (.bool false)) (by rw [show (!((Nt.inI y1 y2 q) == (Nt.inI (Nt.hi (Nt.lo x1 x2) (Nt.lo y1 y2)) (Nt.lo (Nt.hi x1 x2) (Nt.hi y1 y2)) q))) = false from (by have h9 := Nt.meet1 (q := q) hm60; rw [hs122, Bool.true_and] at h9; simp [h9])]) ?_
              refine sy_pure 73 (.v (.bool true)) ?_ (hw := wants1 (g := 8) (b := false) (t := 72) (by kernel_rfl) (by kernel_rfl) (by kernel_rfl))
              refine sy_pure 74 (.v (.bool true)) ?_ (hw := wants1 (g := 8) (b := false) (t := 72) (by kernel_rfl) (by kernel_rfl) (by kernel_rfl))
              refine sy_ldv 75 (.v (.agg #[.bool a1.s, .slice a1.m.a a1.m.n a1.m.c, .slice a1.d.a a1.d.n a1.d.c, .bool a2.s, .slice a2.m.a a2.m.n a2.m.c, .slice a2.d.a a2.d.n a2.d.c])) ty28 part_agg ?_ (hw := wants1 (g := 10) (b := true) (t := 74) (by kernel_rfl) (by kernel_rfl) (by kernel_rfl))
              refine sy_ldv 76 (.v (.agg #[.bool b1.s, .slice b1.m.a b1.m.n b1.m.c, .slice b1.d.a b1.d.n b1.d.c, .bool b2.s, .slice b2.m.a b2.m.n b2.m.c, .slice b2.d.a b2.d.n b2.d.c])) ty28 part_agg ?_ (hw := wants1 (g := 10) (b := true) (t := 74) (by kernel_rfl) (by kernel_rfl) (by kernel_rfl))
              refine sy_ldv 78 (.v (r.v)) ty26 part_agg ?_ (hw := wants1 (g := 10) (b := true) (t := 74) (by kernel_rfl) (by kernel_rfl) (by kernel_rfl))
              refine sy_call 77 13 [.agg #[.bool a1.s, .slice a1.m.a a1.m.n a1.m.c, .slice a1.d.a a1.d.n a1.d.c, .bool a2.s, .slice a2.m.a a2.m.n a2.m.c, .slice a2.d.a a2.d.n a2.d.c], .agg #[.bool b1.s, .slice b1.m.a b1.m.n b1.m.c, .slice b1.d.a b1.d.n b1.d.c, .bool b2.s, .slice b2.m.a b2.m.n b2.m.c, .slice b2.d.a b2.d.n b2.d.c]] ?_ (hw := wants1 (g := 10) (b := true) (t := 74) (by kernel_rfl) (by kernel_rfl) (by kernel_rfl))
              intro w137 u137 e137 d137
              have k144 := k_ivHull d137 (ha1f.ext (e11.trans (g13.ext.trans (e22.trans (g24.ext.trans (e33.trans (g35.ext.trans (e44.trans (g48.ext.trans (e50.trans (g54.ext.trans (e56.trans (e59.trans (g66.ext.trans (e118.trans (g120.ext.trans (e123.trans (g125.ext.trans (e127.trans (g129.ext.trans (e132.trans (g134.ext.trans e137)))))))))))))))))))))) (ha2f.ext (e11.trans (g13.ext.trans (e22.trans (g24.ext.trans (e33.trans (g35.ext.trans (e44.trans (g48.ext.trans (e50.trans (g54.ext.trans (e56.trans (e59.trans (g66.ext.trans (e118.trans (g120.ext.trans (e123.trans (g125.ext.trans (e127.trans (g129.ext.trans (e132.trans (g134.ext.trans e137)))))))))))))))))))))) (hb1f.ext (e11.trans (g13.ext.trans (e22.trans (g24.ext.trans (e33.trans (g35.ext.trans (e44.trans (g48.ext.trans (e50.trans (g54.ext.trans (e56.trans (e59.trans (g66.ext.trans (e118.trans (g120.ext.trans (e123.trans (g125.ext.trans (e127.trans (g129.ext.trans (e132.trans (g134.ext.trans e137)))))))))))))))))))))) (hb2f.ext (e11.trans (g13.ext.trans (e22.trans (g24.ext.trans (e33.trans (g35.ext.trans (e44.trans (g48.ext.trans (e50.trans (g54.ext.trans (e56.trans (e59.trans (g66.ext.trans (e118.trans (g120.ext.trans (e123.trans (g125.ext.trans (e127.trans (g129.ext.trans (e132.trans (g134.ext.trans e137)))))))))))))))))))))) (by omega) (by omega)
              with_reducible refine Post.mono k144 ?_
              clear k144
              rintro _ u142 g143 ⟨r138, r140, rfl, h139, h141⟩
              refine sy_call 79 12 [.agg #[.bool r138.s, .slice r138.m.a r138.m.n r138.m.c, .slice r138.d.a r138.d.n r138.d.c, .bool r140.s, .slice r140.m.a r140.m.n r140.m.c, .slice r140.d.a r140.d.n r140.d.c], r.v] ?_ (hw := wants1 (g := 10) (b := true) (t := 74) (by kernel_rfl) (by kernel_rfl) (by kernel_rfl))
              intro w145 u145 e145 d145
              have k148 := k_ivContains d145 (h139.ext e145).raw (h141.ext e145).raw (hrf.ext (e11.trans (g13.ext.trans (e22.trans (g24.ext.trans (e33.trans (g35.ext.trans (e44.trans (g48.ext.trans (e50.trans (g54.ext.trans (e56.trans (e59.trans (g66.ext.trans (e118.trans (g120.ext.trans (e123.trans (g125.ext.trans (e127.trans (g129.ext.trans (e132.trans (g134.ext.trans (e137.trans (g143.ext.trans e145)))))))))))))))))))))))) (by omega) (by omega)
              with_reducible refine Post.mono k148 ?_
              clear k148
              rintro _ u146 g147 rfl
              refine sy_pure 80 (.v (.bool (!(Nt.inI (Nt.lo (Nt.lo x1 x2) (Nt.lo y1 y2)) (Nt.hi (Nt.hi x1 x2) (Nt.hi y1 y2)) q)))) ?_ (hw := wants1 (g := 10) (b := true) (t := 74) (by kernel_rfl) (by kernel_rfl) (by kernel_rfl))
              refine sy_pure 81 (.v (.bool (!(Nt.inI (Nt.lo (Nt.lo x1 x2) (Nt.lo y1 y2)) (Nt.hi (Nt.hi x1 x2) (Nt.hi y1 y2)) q)))) ?_ (hw := wants1 (g := 8) (b := false) (t := 72) (by kernel_rfl) (by kernel_rfl) (by kernel_rfl))
              refine sy_pure 82 (.v (.bool (!(Nt.inI (Nt.lo (Nt.lo x1 x2) (Nt.lo y1 y2)) (Nt.hi (Nt.hi x1 x2) (Nt.hi y1 y2)) q)))) ?_
              refine sy_next 85 [(4, .adr 4 0), (5, .adr 5 0), (36, .slc 36 0 3 3), (37, .v (.int .i64 3)), (38, .v (.int .i64 0)), (82, .v (.bool (!(Nt.inI (Nt.lo (Nt.lo x1 x2) (Nt.lo y1 y2)) (Nt.hi (Nt.hi x1 x2) (Nt.hi y1 y2)) q))))] [(4, ⟨28, a1.cs ++ a2.cs⟩), (5, ⟨28, b1.cs ++ b2.cs⟩), (36, ⟨26, r.cs ++ r45.cs ++ r51.cs⟩)] ?_
              refine sw_cond (b := !(Nt.inI (Nt.lo (Nt.lo x1 x2) (Nt.lo y1 y2)) (Nt.hi (Nt.hi x1 x2) (Nt.hi y1 y2)) q)) (by kernel_rfl) (fun hb => ?_) (fun hb => ?_)
              · exact absurd hb (by rw [show (!(Nt.inI (Nt.lo (Nt.lo x1 x2) (Nt.lo y1 y2)) (Nt.hi (Nt.hi x1 x2) (Nt.hi y1 y2)) q)) = false from Nt.nott (Nt.hull_has (.inl hs122))]; decide)
              · clear hb
                refine sw_skip (mp_seq ?_)
                refine sw_reg ?_
                refine sy_pure 83 (.v (.int .i64 1)) ?_
                refine sy_pure 38 (.v (.int .i64 1)) ?_
                refine sy_end ?_
                exact ⟨3 - 1, by decide, St.of 85 [(4, .adr 4 0), (5, .adr 5 0), (36, .slc 36 0 3 3), (37, .v (.int .i64 3)), (38, .v (.int .i64 1))] [(4, ⟨28, a1.cs ++ a2.cs⟩), (5, ⟨28, b1.cs ++ b2.cs⟩), (36, ⟨26, r.cs ++ r45.cs ++ r51.cs⟩)], by exact weak_mk _ _ _, 1, by omega, rfl, rfl, (e56.trans (e59.trans (g66.ext.trans (e118.trans (g120.ext.trans (e123.trans (g125.ext.trans (e127.trans (g129.ext.trans (e132.trans (g134.ext.trans (e137.trans (g143.ext.trans (e145.trans g147.ext))))))))))))))⟩
            · refine sy_eq 51 (x := .v (.bool (Nt.inI x1 x2 q))) (.v (.bool false)) (by rw [hs122]) ?_
              refine sy_drop 52 (unwanted (g := 3) (b := true) (c := false) (t := 51) (by kernel_rfl) (by kernel_rfl) (by kernel_rfl) (by kernel_rfl)) ?_
              refine sy_drop 53 (unwanted (g := 3) (b := true) (c := false) (t := 51) (by kernel_rfl) (by kernel_rfl) (by kernel_rfl) (by kernel_rfl)) ?_
              refine sy_drop 54 (unwanted (g := 3) (b := true) (c := false) (t := 51) (by kernel_rfl) (by kernel_rfl) (by kernel_rfl) (by kernel_rfl)) ?_
              refine sy_pure 55 (.v (.bool false)) ?_
              refine sy_pure 13 (.v (.bool false)) ?_
              refine sy_next 85 [(4, .adr 4 0), (5, .adr 5 0), (10, .adr 10 0), (11, .adr 11 0), (12, .v (.bool true)), (13, .v (.bool false)), (36, .slc 36 0 3 3), (37, .v (.int .i64 3)), (38, .v (.int .i64 0))] [(4, ⟨28, a1.cs ++ a2.cs⟩), (5, ⟨28, b1.cs ++ b2.cs⟩), (10, ⟨26, r.cs⟩), (11, ⟨28, r61.cs ++ r63.cs⟩), (36, ⟨26, r.cs ++ r45.cs ++ r51.cs⟩)] ?_
              refine sw_seq ?_
              refine sw_reg ?_
              refine sy_ldv 56 (.v (.agg #[.bool a1.s, .slice a1.m.a a1.m.n a1.m.c, .slice a1.d.a a1.d.n a1.d.c, .bool a2.s, .slice a2.m.a a2.m.n a2.m.c, .slice a2.d.a a2.d.n a2.d.c])) ty28 part_agg ?_
              refine sy_ldv 57 (.v (r.v)) ty26 part_agg ?_
              refine sy_call 58 12 [.agg #[.bool a1.s, .slice a1.m.a a1.m.n a1.m.c, .slice a1.d.a a1.d.n a1.d.c, .bool a2.s, .slice a2.m.a a2.m.n a2.m.c, .slice a2.d.a a2.d.n a2.d.c], r.v] ?_
              intro w149 u149 e149 d149
              have k152 := k_ivContains d149 (ha1f.ext (e11.trans (g13.ext.trans (e22.trans (g24.ext.trans (e33.trans (g35.ext.trans (e44.trans (g48.ext.trans (e50.trans (g54.ext.trans (e56.trans (e59.trans (g66.ext.trans (e118.trans (g120.ext.trans e149)))))))))))))))) (ha2f.ext (e11.trans (g13.ext.trans (e22.trans (g24.ext.trans (e33.trans (g35.ext.trans (e44.trans (g48.ext.trans (e50.trans (g54.ext.trans (e56.trans (e59.trans (g66.ext.trans (e118.trans (g120.ext.trans e149)))))))))))))))) (hrf.ext (e11.trans (g13.ext.trans (e22.trans (g24.ext.trans (e33.trans (g35.ext.trans (e44.trans (g48.ext.trans (e50.trans (g54.ext.trans (e56.trans (e59.trans (g66.ext.trans (e118.trans (g120.ext.trans e149)))))))))))))))) (by omega) (by omega)
              with_reducible refine Post.mono k152 ?_
              clear k152
              rintro _ u150 g151 rfl
              refine sy_eq 59 (x := .v (.bool (Nt.inI x1 x2 q))) (.v (.bool false)) (by rw [show (Nt.inI x1 x2 q) = false from hs122]) ?_
              refine sy_ldv 60 (.v (.agg #[.bool b1.s, .slice b1.m.a b1.m.n b1.m.c, .slice b1.d.a b1.d.n b1.d.c, .bool b2.s, .slice b2.m.a b2.m.n b2.m.c, .slice b2.d.a b2.d.n b2.d.c])) ty28 part_agg ?_ (hw := wants1 (g := 3) (b := false) (t := 59) (by kernel_rfl) (by kernel_rfl) (by kernel_rfl))
              refine sy_ldv 61 (.v (r.v)) ty26 part_agg ?_ (hw := wants1 (g := 3) (b := false) (t := 59) (by kernel_rfl) (by kernel_rfl) (by kernel_rfl))
              refine sy_call 62 12 [.agg #[.bool b1.s, .slice b1.m.a b1.m.n b1.m.c, .slice b1.d.a b1.d.n b1.d.c, .bool b2.s, .slice b2.m.a b2.m.n b2.m.c, .slice b2.d.a b2.d.n b2.d.c], r.v] ?_ (hw := wants1 (g := 3) (b := false) (t := 59) (by kernel_rfl) (by kernel_rfl) (by kernel_rfl))
              intro w154 u154 e154 d154
              have k157 := k_ivContains d154 (hb1f.ext (e11.trans (g13.ext.trans (e22.trans (g24.ext.trans (e33.trans (g35.ext.trans (e44.trans (g48.ext.trans (e50.trans (g54.ext.trans (e56.trans (e59.trans (g66.ext.trans (e118.trans (g120.ext.trans (e149.trans (g151.ext.trans e154)))))))))))))))))) (hb2f.ext (e11.trans (g13.ext.trans (e22.trans (g24.ext.trans (e33.trans (g35.ext.trans (e44.trans (g48.ext.trans (e50.trans (g54.ext.trans (e56.trans (e59.trans (g66.ext.trans (e118.trans (g120.ext.trans (e149.trans (g151.ext.trans e154)))))))))))))))))) (hrf.ext (e11.trans (g13.ext.trans (e22.trans (g24.ext.trans (e33.trans (g35.ext.trans (e44.trans (g48.ext.trans (e50.trans (g54.ext.trans (e56.trans (e59.trans (g66.ext.trans (e118.trans (g120.ext.trans (e149.trans (g151.ext.trans e154)))))))))))))))))) (by omega) (by omega)
              with_reducible refine Post.mono k157 ?_
              clear k157
              rintro _ u155 g156 rfl
              refine sy_pure 63 (.v (.bool (Nt.inI y1 y2 q))) ?_
              refine sy_pure 14 (.v (.bool (Nt.inI y1 y2 q))) ?_
              refine sy_next 85 [(4, .adr 4 0), (5, .adr 5 0), (10, .adr 10 0), (11, .adr 11 0), (12, .v (.bool true)), (13, .v (.bool false)), (14, .v (.bool (Nt.inI y1 y2 q))), (36, .slc 36 0 3 3), (37, .v (.int .i64 3)), (38, .v (.int .i64 0))] [(4, ⟨28, a1.cs ++ a2.cs⟩), (5, ⟨28, b1.cs ++ b2.cs⟩), (10, ⟨26, r.cs⟩), (11, ⟨28, r61.cs ++ r63.cs⟩), (36, ⟨26, r.cs ++ r45.cs ++ r51.cs⟩)] ?_
              refine sw_seq ?_
              refine sw_any [0, 0, 2, 6, 6, 30, 62, 127, 255, 511, 1023, 2047, 2047, 8191, 2047, 32767, 65535, 131071, 262143] [(0, []), (1, []), (2, []), (3, []), (4, []), (5, []), (6, []), (7, []), (8, []), (9, []), (10, []), (11, []), (12, []), (14, []), (13, []), (15, []), (16, []), (17, []), (18, [])] (by kernel_rfl) (by kernel_rfl) ?_
              refine sy_pure 64 (.v (.bool false)) ?_
              refine sy_pure 65 (.v (.bool true)) ?_
              refine sy_pure 66 (.v (.bool true)) ?_
              refine sy_ldv 67 (.v (.agg #[.bool r61.s, .slice r61.m.a r61.m.n r61.m.c, .slice r61.d.a r61.d.n r61.d.c, .bool r63.s, .slice r63.m.a r63.m.n r63.m.c, .slice r63.d.a r63.d.n r63.d.c])) ty28 part_agg ?_ (hw := wants1 (g := 2) (b := true) (t := 66) (by kernel_rfl) (by kernel_rfl) (by kernel_rfl))
              refine sy_ldv 68 (.v (r.v)) ty26 part_agg ?_ (hw := wants1 (g := 2) (b := true) (t := 66) (by kernel_rfl) (by kernel_rfl) (by kernel_rfl))
              refine sy_call 69 12 [.agg #[.bool r61.s, .slice r61.m.a r61.m.n r61.m.c, .slice r61.d.a r61.d.n r61.d.c, .bool r63.s, .slice r63.m.a r63.m.n r63.m.c, .slice r63.d.a r63.d.n r63.d.c], r.v] ?_ (hw := wants1 (g := 2) (b := true) (t := 66) (by kernel_rfl) (by kernel_rfl) (by kernel_rfl))
              intro w158 u158 e158 d158
              have k161 := k_ivContains d158 (h62.ext (e118.trans (g120.ext.trans (e149.trans (g151.ext.trans (e154.trans (g156.ext.trans e158))))))).raw (h64.ext (e118.trans (g120.ext.trans (e149.trans (g151.ext.trans (e154.trans (g156.ext.trans e158))))))).raw (hrf.ext (e11.trans (g13.ext.trans (e22.trans (g24.ext.trans (e33.trans (g35.ext.trans (e44.trans (g48.ext.trans (e50.trans (g54.ext.trans (e56.trans (e59.trans (g66.ext.trans (e118.trans (g120.ext.trans (e149.trans (g151.ext.trans (e154.trans (g156.ext.trans e158)))))))))))))))))))) (by omega) (by omega)
              with_reducible refine Post.mono k161 ?_
              clear k161
              rintro _ u159 g160 rfl
              refine sy_pure 70 (.v (.bool (Nt.inI (Nt.hi (Nt.lo x1 x2) (Nt.lo y1 y2)) (Nt.lo (Nt.hi x1 x2) (Nt.hi y1 y2)) q))) ?_
              refine sy_pure 71 (.v (.bool (!(false == (Nt.inI (Nt.hi (Nt.lo x1 x2) (Nt.lo y1 y2)) (Nt.lo (Nt.hi x1 x2) (Nt.hi y1 y2)) q))))) ?_
              refine sy_eq 72 (x := .v (.bool (!(false == (Nt.inI (Nt.hi (Nt.lo x1 x2) (Nt.lo y1 y2)) (Nt.lo (Nt.hi x1 x2) (Nt.hi y1 y2)) q))))) (.v (.bool false)) (by rw [show (!(false == (Nt.inI (Nt.hi (Nt.lo x1 x2) (Nt.lo y1 y2)) (Nt.lo (Nt.hi x1 x2) (Nt.hi y1 y2)) q))) = false from (by have h9 := Nt.meet1 (q := q) hm60; rw [hs122, Bool.false_and] at h9; simp [h9])]) ?_
              refine sy_pure 73 (.v (.bool (Nt.inI y1 y2 q))) ?_ (hw := wants1 (g := 8) (b := false) (t := 72) (by kernel_rfl) (by kernel_rfl) (by kernel_rfl))
              rcases Bool.eq_false_or_eq_true (Nt.inI y1 y2 q) with hs163 | hs163
              · refine sy_eq 74 (x := .v (.bool (Nt.inI y1 y2 q))) (.v (.bool true)) (by rw [hs163]) ?_ (hw := wants1 (g := 8) (b := false) (t := 72) (by kernel_rfl) (by kernel_rfl) (by kernel_rfl))
                refine sy_ldv 75 (.v (.agg #[.bool a1.s, .slice a1.m.a a1.m.n a1.m.c, .slice a1.d.a a1.d.n a1.d.c, .bool a2.s, .slice a2.m.a a2.m.n a2.m.c, .slice a2.d.a a2.d.n a2.d.c])) ty28 part_agg ?_ (hw := wants1 (g := 10) (b := true) (t := 74) (by kernel_rfl) (by kernel_rfl) (by kernel_rfl))
                refine sy_ldv 76 (.v (.agg #[.bool b1.s, .slice b1.m.a b1.m.n b1.m.c, .slice b1.d.a b1.d.n b1.d.c, .bool b2.s, .slice b2.m.a b2.m.n b2.m.c, .slice b2.d.a b2.d.n b2.d.c])) ty28 part_agg ?_ (hw := wants1 (g := 10) (b := true) (t := 74) (by kernel_rfl) (by kernel_rfl) (by kernel_rfl))
                refine sy_ldv 78 (.v (r.v)) ty26 part_agg ?_ (hw := wants1 (g := 10) (b := true) (t := 74) (by kernel_rfl) (by kernel_rfl) (by kernel_rfl))
                refine sy_call 77 13 [.agg #[.bool a1.s, .slice a1.m.a a1.m.n a1.m.c, .slice a1.d.a a1.d.n a1.d.c, .bool a2.s, .slice a2.m.a a2.m.n a2.m.c, .slice a2.d.a a2.d.n a2.d.c], .agg #[.bool b1.s, .slice b1.m.a b1.m.n b1.m.c, .slice b1.d.a b1.d.n b1.d.c, .bool b2.s, .slice b2.m.a b2.m.n b2.m.c, .slice b2.d.a b2.d.n b2.d.c]] ?_ (hw := wants1 (g := 10) (b := true) (t := 74) (by kernel_rfl) (by kernel_rfl) (by kernel_rfl))
                intro w164 u164 e164 d164
                have k171 := k_ivHull d164 (ha1f.ext (e11.trans (g13.ext.trans (e22.trans (g24.ext.trans (e33.trans (g35.ext.trans (e44.trans (g48.ext.trans (e50.trans (g54.ext.trans (e56.trans (e59.trans (g66.ext.trans (e118.trans (g120.ext.trans (e149.trans (g151.ext.trans (e154.trans (g156.ext.trans (e158.trans (g160.ext.trans e164)))))))))))))))))))))) (ha2f.ext (e11.trans (g13.ext.trans (e22.trans (g24.ext.trans (e33.trans (g35.ext.trans (e44.trans (g48.ext.trans (e50.trans (g54.ext.trans (e56.trans (e59.trans (g66.ext.trans (e118.trans (g120.ext.trans (e149.trans (g151.ext.trans (e154.trans (g156.ext.trans (e158.trans (g160.ext.trans e164)))))))))))))))))))))) (hb1f.ext (e11.trans (g13.ext.trans (e22.trans (g24.ext.trans (e33.trans (g35.ext.trans (e44.trans (g48.ext.trans (e50.trans (g54.ext.trans (e56.trans (e59.trans (g66.ext.trans (e118.trans (g120.ext.trans (e149.trans (g151.ext.trans (e154.trans (g156.ext.trans (e158.trans (g160.ext.trans e164)))))))))))))))))))))) (hb2f.ext (e11.trans (g13.ext.trans (e22.trans (g24.ext.trans (e33.trans (g35.ext.trans (e44.trans (g48.ext.trans (e50.trans (g54.ext.trans (e56.trans (e59.trans (g66.ext.trans (e118.trans (g120.ext.trans (e149.trans (g151.ext.trans (e154.trans (g156.ext.trans (e158.trans (g160.ext.trans e164)))))))))))))))))))))) (by omega) (by omega)
                with_reducible refine Post.mono k171 ?_
                clear k171
                rintro _ u169 g170 ⟨r165, r167, rfl, h166, h168⟩
                refine sy_call 79 12 [.agg #[.bool r165.s, .slice r165.m.a r165.m.n r165.m.c, .slice r165.d.a r165.d.n r165.d.c, .bool r167.s, .slice r167.m.a r167.m.n r167.m.c, .slice r167.d.a r167.d.n r167.d.c], r.v] ?_ (hw := wants1 (g := 10) (b := true) (t := 74) (by kernel_rfl) (by kernel_rfl) (by kernel_rfl))
                intro w172 u172 e172 d172
                have k175 := k_ivContains d172 (h166.ext e172).raw (h168.ext e172).raw (hrf.ext (e11.trans (g13.ext.trans (e22.trans (g24.ext.trans (e33.trans (g35.ext.trans (e44.trans (g48.ext.trans (e50.trans (g54.ext.trans (e56.trans (e59.trans (g66.ext.trans (e118.trans (g120.ext.trans (e149.trans (g151.ext.trans (e154.trans (g156.ext.trans (e158.trans (g160.ext.trans (e164.trans (g170.ext.trans e172)))))))))))))))))))))))) (by omega) (by omega)
                with_reducible refine Post.mono k175 ?_
                clear k175
                rintro _ u173 g174 rfl
                refine sy_pure 80 (.v (.bool (!(Nt.inI (Nt.lo (Nt.lo x1 x2) (Nt.lo y1 y2)) (Nt.hi (Nt.hi x1 x2) (Nt.hi y1 y2)) q)))) ?_ (hw := wants1 (g := 10) (b := true) (t := 74) (by kernel_rfl) (by kernel_rfl) (by kernel_rfl))
                refine sy_pure 81 (.v (.bool (!(Nt.inI (Nt.lo (Nt.lo x1 x2) (Nt.lo y1 y2)) (Nt.hi (Nt.hi x1 x2) (Nt.hi y1 y2)) q)))) ?_ (hw := wants1 (g := 8) (b := false) (t := 72) (by kernel_rfl) (by kernel_rfl) (by kernel_rfl))
                refine sy_pure 82 (.v (.bool (!(Nt.inI (Nt.lo (Nt.lo x1 x2) (Nt.lo y1 y2)) (Nt.hi (Nt.hi x1 x2) (Nt.hi y1 y2)) q)))) ?_
                refine sy_next 85 [(4, .adr 4 0), (5, .adr 5 0), (36, .slc 36 0 3 3), (37, .v (.int .i64 3)), (38, .v (.int .i64 0)), (82, .v (.bool (!(Nt.inI (Nt.lo (Nt.lo x1 x2) (Nt.lo y1 y2)) (Nt.hi (Nt.hi x1 x2) (Nt.hi y1 y2)) q))))] [(4, ⟨28, a1.cs ++ a2.cs⟩), (5, ⟨28, b1.cs ++ b2.cs⟩), (36, ⟨26, r.cs ++ r45.cs ++ r51.cs⟩)] ?_
                refine sw_cond (b := !(Nt.inI (Nt.lo (Nt.lo x1 x2) (Nt.lo y1 y2)) (Nt.hi (Nt.hi x1 x2) (Nt.hi y1 y2)) q)) (by kernel_rfl) (fun hb => ?_) (fun hb => ?_)
                · exact absurd hb (by rw [show (!(Nt.inI (Nt.lo (Nt.lo x1 x2) (Nt.lo y1 y2)) (Nt.hi (Nt.hi x1 x2) (Nt.hi y1 y2)) q)) = false from Nt.nott (Nt.hull_has (.inr hs163))]; decide)
                · clear hb
                  refine sw_skip (mp_seq ?_)
                  refine sw_reg ?_
                  refine sy_pure 83 (.v (.int .i64 1)) ?_
                  refine sy_pure 38 (.v (.int .i64 1)) ?_
                  refine sy_end ?_
                  exact ⟨3 - 1, by decide, St.of 85 [(4, .adr 4 0), (5, .adr 5 0), (36, .slc 36 0 3 3), (37, .v (.int .i64 3)), (38, .v (.int .i64 1))] [(4, ⟨28, a1.cs ++ a2.cs⟩), (5, ⟨28, b1.cs ++ b2.cs⟩), (36, ⟨26, r.cs ++ r45.cs ++ r51.cs⟩)], by exact weak_mk _ _ _, 1, by omega, rfl, rfl, (e56.trans (e59.trans (g66.ext.trans (e118.trans (g120.ext.trans (e149.trans (g151.ext.trans (e154.trans (g156.ext.trans (e158.trans (g160.ext.trans (e164.trans (g170.ext.trans (e172.trans g174.ext))))))))))))))⟩
              · refine sy_eq 74 (x := .v (.bool (Nt.inI y1 y2 q))) (.v (.bool false)) (by rw [hs163]) ?_ (hw := wants1 (g := 8) (b := false) (t := 72) (by kernel_rfl) (by kernel_rfl) (by kernel_rfl))
                refine sy_drop 75 (unwanted (g := 10) (b := true) (c := false) (t := 74) (by kernel_rfl) (by kernel_rfl) (by kernel_rfl) (by kernel_rfl)) ?_
                refine sy_drop 76 (unwanted (g := 10) (b := true) (c := false) (t := 74) (by kernel_rfl) (by kernel_rfl) (by kernel_rfl) (by kernel_rfl)) ?_
                refine sy_drop 78 (unwanted (g := 10) (b := true) (c := false) (t := 74) (by kernel_rfl) (by kernel_rfl) (by kernel_rfl) (by kernel_rfl)) ?_
                refine sy_drop 77 (unwanted (g := 10) (b := true) (c := false) (t := 74) (by kernel_rfl) (by kernel_rfl) (by kernel_rfl) (by kernel_rfl)) ?_
                refine sy_drop 79 (unwanted (g := 10) (b := true) (c := false) (t := 74) (by kernel_rfl) (by kernel_rfl) (by kernel_rfl) (by kernel_rfl)) ?_
                refine sy_drop 80 (unwanted (g := 10) (b := true) (c := false) (t := 74) (by kernel_rfl) (by kernel_rfl) (by kernel_rfl) (by kernel_rfl)) ?_
                refine sy_pure 81 (.v (.bool false)) ?_ (hw := wants1 (g := 8) (b := false) (t := 72) (by kernel_rfl) (by kernel_rfl) (by kernel_rfl))
                refine sy_pure 82 (.v (.bool false)) ?_
                refine sy_next 85 [(4, .adr 4 0), (5, .adr 5 0), (36, .slc 36 0 3 3), (37, .v (.int .i64 3)), (38, .v (.int .i64 0)), (82, .v (.bool false))] [(4, ⟨28, a1.cs ++ a2.cs⟩), (5, ⟨28, b1.cs ++ b2.cs⟩), (36, ⟨26, r.cs ++ r45.cs ++ r51.cs⟩)] ?_
                refine sw_false (by kernel_rfl) ?_
                refine sw_skip (mp_seq ?_)
                refine sw_reg ?_
                refine sy_pure 83 (.v (.int .i64 1)) ?_
                refine sy_pure 38 (.v (.int .i64 1)) ?_
                refine sy_end ?_
                exact ⟨3 - 1, by decide, St.of 85 [(4, .adr 4 0), (5, .adr 5 0), (36, .slc 36 0 3 3), (37, .v (.int .i64 3)), (38, .v (.int .i64 1))] [(4, ⟨28, a1.cs ++ a2.cs⟩), (5, ⟨28, b1.cs ++ b2.cs⟩), (36, ⟨26, r.cs ++ r45.cs ++ r51.cs⟩)], by exact weak_mk _ _ _, 1, by omega, rfl, rfl, (e56.trans (e59.trans (g66.ext.trans (e118.trans (g120.ext.trans (e149.trans (g151.ext.trans (e154.trans (g156.ext.trans (e158.trans g160.ext))))))))))⟩
        · change SW _ _ _ _ (St.of 85 [(4, .adr 4 0), (5, .adr 5 0), (36, .slc 36 0 3 3), (37, .v (.int .i64 3)), (38, .v (.int .i64 1))] [(4, ⟨28, a1.cs ++ a2.cs⟩), (5, ⟨28, b1.cs ++ b2.cs⟩), (36, ⟨26, r.cs ++ r45.cs ++ r51.cs⟩)]) _ _
          refine sw_seq ?_
          refine sw_reg ?_
          refine sy_pure 39 (.v (.bool true)) ?_
          refine sy_next 85 [(4, .adr 4 0), (5, .adr 5 0), (36, .slc 36 0 3 3), (37, .v (.int .i64 3)), (38, .v (.int .i64 1)), (39, .v (.bool true))] [(4, ⟨28, a1.cs ++ a2.cs⟩), (5, ⟨28, b1.cs ++ b2.cs⟩), (36, ⟨26, r.cs ++ r45.cs ++ r51.cs⟩)] ?_
          refine sw_seq ?_
          refine sw_true (by kernel_rfl) ?_
          refine sw_skip (mp_seq ?_)
          refine sw_seq ?_
          refine sw_block ?_
          refine sw_seq ?_
          refine sw_reg ?_
          refine sy_pure 40 (.adr 36 3) ?_
          refine sy_ldv 41 (.v (r45.v)) ty26 part_agg ?_
          refine sy_new 10 ⟨26, [.bool false, .slice none 0 0, .slice none 0 0]⟩ ?_
          refine sy_store ⟨26, r45.cs⟩ ty26 ?_
          refine sy_next 85 [(4, .adr 4 0), (5, .adr 5 0), (10, .adr 10 0), (36, .slc 36 0 3 3), (37, .v (.int .i64 3)), (38, .v (.int .i64 1))] [(4, ⟨28, a1.cs ++ a2.cs⟩), (5, ⟨28, b1.cs ++ b2.cs⟩), (10, ⟨26, r45.cs⟩), (36, ⟨26, r.cs ++ r45.cs ++ r51.cs⟩)] ?_
          refine sw_seq ?_
          refine sw_reg ?_
          refine sy_ldv 43 (.v (.agg #[.bool a1.s, .slice a1.m.a a1.m.n a1.m.c, .slice a1.d.a a1.d.n a1.d.c, .bool a2.s, .slice a2.m.a a2.m.n a2.m.c, .slice a2.d.a a2.d.n a2.d.c])) ty28 part_agg ?_
          refine sy_ldv 44 (.v (.agg #[.bool b1.s, .slice b1.m.a b1.m.n b1.m.c, .slice b1.d.a b1.d.n b1.d.c, .bool b2.s, .slice b2.m.a b2.m.n b2.m.c, .slice b2.d.a b2.d.n b2.d.c])) ty28 part_agg ?_
          refine sy_call 45 11 [.agg #[.bool a1.s, .slice a1.m.a a1.m.n a1.m.c, .slice a1.d.a a1.d.n a1.d.c, .bool a2.s, .slice a2.m.a a2.m.n a2.m.c, .slice a2.d.a a2.d.n a2.d.c], .agg #[.bool b1.s, .slice b1.m.a b1.m.n b1.m.c, .slice b1.d.a b1.d.n b1.d.c, .bool b2.s, .slice b2.m.a b2.m.n b2.m.c, .slice b2.d.a b2.d.n b2.d.c]] ?_
          intro w176 u176 e176 d176
          have k184 := k_ivMeet d176 (ha1f.ext (e11.trans (g13.ext.trans (e22.trans (g24.ext.trans (e33.trans (g35.ext.trans (e44.trans (g48.ext.trans (e50.trans (g54.ext.trans (e56.trans e176)))))))))))) (ha2f.ext (e11.trans (g13.ext.trans (e22.trans (g24.ext.trans (e33.trans (g35.ext.trans (e44.trans (g48.ext.trans (e50.trans (g54.ext.trans (e56.trans e176)))))))))))) (hb1f.ext (e11.trans (g13.ext.trans (e22.trans (g24.ext.trans (e33.trans (g35.ext.trans (e44.trans (g48.ext.trans (e50.trans (g54.ext.trans (e56.trans e176)))))))))))) (hb2f.ext (e11.trans (g13.ext.trans (e22.trans (g24.ext.trans (e33.trans (g35.ext.trans (e44.trans (g48.ext.trans (e50.trans (g54.ext.trans (e56.trans e176)))))))))))) (by omega) (by omega)
          with_reducible refine Post.mono k184 ?_
          clear k184
          rintro _ u182 g183 (⟨hm177, rfl⟩ | ⟨hm177, r178, r180, rfl, h179, h181⟩)
          · skip
            refine sy_pure 42 (.v (.tuple #[.agg #[.bool false, .slice none 0 0, .slice none 0 0, .bool false, .slice none 0 0, .slice none 0 0], .bool false])) ?_
            refine sy_pure 46 (.v (.agg #[.bool false, .slice none 0 0, .slice none 0 0, .bool false, .slice none 0 0, .slice none 0 0])) ?_
            refine sy_pure 47 (.v (.bool false)) ?_
            refine sy_new 11 ⟨28, [.bool false, .slice none 0 0, .slice none 0 0, .bool false, .slice none 0 0, .slice none 0 0]⟩ ?_
            refine sy_store ⟨28, [.bool false, .slice none 0 0, .slice none 0 0, .bool false, .slice none 0 0, .slice none 0 0]⟩ ty28 ?_
            refine sy_pure 12 (.v (.bool false)) ?_
            refine sy_next 85 [(4, .adr 4 0), (5, .adr 5 0), (10, .adr 10 0), (11, .adr 11 0), (12, .v (.bool false)), (36, .slc 36 0 3 3), (37, .v (.int .i64 3)), (38, .v (.int .i64 1))] [(4, ⟨28, a1.cs ++ a2.cs⟩), (5, ⟨28, b1.cs ++ b2.cs⟩), (10, ⟨26, r45.cs⟩), (11, ⟨28, [.bool false, .slice none 0 0, .slice none 0 0, .bool false, .slice none 0 0, .slice none 0 0]⟩), (36, ⟨26, r.cs ++ r45.cs ++ r51.cs⟩)] ?_
            refine sw_seq ?_
            refine sw_reg ?_
            refine sy_ldv 48 (.v (.agg #[.bool a1.s, .slice a1.m.a a1.m.n a1.m.c, .slice a1.d.a a1.d.n a1.d.c, .bool a2.s, .slice a2.m.a a2.m.n a2.m.c, .slice a2.d.a a2.d.n a2.d.c])) ty28 part_agg ?_
            refine sy_ldv 49 (.v (r45.v)) ty26 part_agg ?_
            refine sy_call 50 12 [.agg #[.bool a1.s, .slice a1.m.a a1.m.n a1.m.c, .slice a1.d.a a1.d.n a1.d.c, .bool a2.s, .slice a2.m.a a2.m.n a2.m.c, .slice a2.d.a a2.d.n a2.d.c], r45.v] ?_
            intro w185 u185 e185 d185
            have k188 := k_ivContains d185 (ha1f.ext (e11.trans (g13.ext.trans (e22.trans (g24.ext.trans (e33.trans (g35.ext.trans (e44.trans (g48.ext.trans (e50.trans (g54.ext.trans (e56.trans (e176.trans (g183.ext.trans e185)))))))))))))) (ha2f.ext (e11.trans (g13.ext.trans (e22.trans (g24.ext.trans (e33.trans (g35.ext.trans (e44.trans (g48.ext.trans (e50.trans (g54.ext.trans (e56.trans (e176.trans (g183.ext.trans e185)))))))))))))) (h46.ext (e50.trans (g54.ext.trans (e56.trans (e176.trans (g183.ext.trans e185)))))).raw (by omega) (by omega)
            with_reducible refine Post.mono k188 ?_
            clear k188
            rintro _ u186 g187 rfl
            rcases Bool.eq_false_or_eq_true (Nt.inI x1 x2 (btw x1 x2 n)) with hs189 | hs189
            · refine sy_eq 51 (x := .v (.bool (Nt.inI x1 x2 (btw x1 x2 n)))) (.v (.bool true)) (by rw [hs189]) ?_
              refine sy_ldv 52 (.v (.agg #[.bool b1.s, .slice b1.m.a b1.m.n b1.m.c, .slice b1.d.a b1.d.n b1.d.c, .bool b2.s, .slice b2.m.a b2.m.n b2.m.c, .slice b2.d.a b2.d.n b2.d.c])) ty28 part_agg ?_ (hw := wants1 (g := 3) (b := true) (t := 51) (by kernel_rfl) (by kernel_rfl) (by kernel_rfl))
              refine sy_ldv 53 (.v (r45.v)) ty26 part_agg ?_ (hw := wants1 (g := 3) (b := true) (t := 51) (by kernel_rfl) (by kernel_rfl) (by kernel_rfl))
              refine sy_call 54 12 [.agg #[.bool b1.s, .slice b1.m.a b1.m.n b1.m.c, .slice b1.d.a b1.d.n b1.d.c, .bool b2.s, .slice b2.m.a b2.m.n b2.m.c, .slice b2.d.a b2.d.n b2.d.c], r45.v] ?_ (hw := wants1 (g := 3) (b := true) (t := 51) (by kernel_rfl) (by kernel_rfl) (by kernel_rfl))
              intro w190 u190 e190 d190
              have k193 := k_ivContains d190 (hb1f.ext (e11.trans (g13.ext.trans (e22.trans (g24.ext.trans (e33.trans (g35.ext.trans (e44.trans (g48.ext.trans (e50.trans (g54.ext.trans (e56.trans (e176.trans (g183.ext.trans (e185.trans (g187.ext.trans e190)))))))))))))))) (hb2f.ext (e11.trans (g13.ext.trans (e22.trans (g24.ext.trans (e33.trans (g35.ext.trans (e44.trans (g48.ext.trans (e50.trans (g54.ext.trans (e56.trans (e176.trans (g183.ext.trans (e185.trans (g187.ext.trans e190)))))))))))))))) (h46.ext (e50.trans (g54.ext.trans (e56.trans (e176.trans (g183.ext.trans (e185.trans (g187.ext.trans e190)))))))).raw (by omega) (by omega)
              with_reducible refine Post.mono k193 ?_
              clear k193
              rintro _ u191 g192 rfl
              refine sy_pure 55 (.v (.bool (Nt.inI y1 y2 (btw x1 x2 n)))) ?_
              refine sy_pure 13 (.v (.bool (Nt.inI y1 y2 (btw x1 x2 n)))) ?_
              refine sy_next 85 [(4, .adr 4 0), (5, .adr 5 0), (10, .adr 10 0), (11, .adr 11 0), (12, .v (.bool false)), (13, .v (.bool (Nt.inI y1 y2 (btw x1 x2 n)))), (36, .slc 36 0 3 3), (37, .v (.int .i64 3)), (38, .v (.int .i64 1))] [(4, ⟨28, a1.cs ++ a2.cs⟩), (5, ⟨28, b1.cs ++ b2.cs⟩), (10, ⟨26, r45.cs⟩), (11, ⟨28, [.bool false, .slice none 0 0, .slice none 0 0, .bool false, .slice none 0 0, .slice none 0 0]⟩), (36, ⟨26, r.cs ++ r45.cs ++ r51.cs⟩)] ?_
              refine sw_seq ?_
              refine sw_reg ?_
              refine sy_ldv 56 (.v (.agg #[.bool a1.s, .slice a1.m.a a1.m.n a1.m.c, .slice a1.d.a a1.d.n a1.d.c, .bool a2.s, .slice a2.m.a a2.m.n a2.m.c, .slice a2.d.a a2.d.n a2.d.c])) ty28 part_agg ?_
              refine sy_ldv 57 (.v (r45.v)) ty26 part_agg ?_
              refine sy_call 58 12 [.agg #[.bool a1.s, .slice a1.m.a a1.m.n a1.m.c, .slice a1.d.a a1.d.n a1.d.c, .bool a2.s, .slice a2.m.a a2.m.n a2.m.c, .slice a2.d.a a2.d.n a2.d.c], r45.v] ?_
              intro w194 u194 e194 d194
              have k197 := k_ivContains d194 (ha1f.ext (e11.trans (g13.ext.trans (e22.trans (g24.ext.trans (e33.trans (g35.ext.trans (e44.trans (g48.ext.trans (e50.trans (g54.ext.trans (e56.trans (e176.trans (g183.ext.trans (e185.trans (g187.ext.trans (e190.trans (g192.ext.trans e194)))))))))))))))))) (ha2f.ext (e11.trans (g13.ext.trans (e22.trans (g24.ext.trans (e33.trans (g35.ext.trans (e44.trans (g48.ext.trans (e50.trans (g54.ext.trans (e56.trans (e176.trans (g183.ext.trans (e185.trans (g187.ext.trans (e190.trans (g192.ext.trans e194)))))))))))))))))) (h46.ext (e50.trans (g54.ext.trans (e56.trans (e176.trans (g183.ext.trans (e185.trans (g187.ext.trans (e190.trans (g192.ext.trans e194)))))))))).raw (by omega) (by omega)
              with_reducible refine Post.mono k197 ?_
              clear k197
              rintro _ u195 g196 rfl
              refine sy_eq 59 (x := .v (.bool (Nt.inI x1 x2 (btw x1 x2 n)))) (.v (.bool true)) (by rw [show (Nt.inI x1 x2 (btw x1 x2 n)) = true from hs189]) ?_
              refine sy_drop 60 (unwanted (g := 3) (b := false) (c := true) (t := 59) (by kernel_rfl) (by kernel_rfl) (by kernel_rfl) (by kernel_rfl)) ?_
              refine sy_drop 61 (unwanted (g := 3) (b := false) (c := true) (t := 59) (by kernel_rfl) (by kernel_rfl) (by kernel_rfl) (by kernel_rfl)) ?_
              refine sy_drop 62 (unwanted (g := 3) (b := false) (c := true) (t := 59) (by kernel_rfl) (by kernel_rfl) (by kernel_rfl) (by kernel_rfl)) ?_
              refine sy_pure 63 (.v (.bool true)) ?_
              refine sy_pure 14 (.v (.bool true)) ?_
              refine sy_next 85 [(4, .adr 4 0), (5, .adr 5 0), (10, .adr 10 0), (11, .adr 11 0), (12, .v (.bool false)), (13, .v (.bool (Nt.inI y1 y2 (btw x1 x2 n)))), (14, .v (.bool true)), (36, .slc 36 0 3 3), (37, .v (.int .i64 3)), (38, .v (.int .i64 1))] [(4, ⟨28, a1.cs ++ a2.cs⟩), (5, ⟨28, b1.cs ++ b2.cs⟩), (10, ⟨26, r45.cs⟩), (11, ⟨28, [.bool false, .slice none 0 0, .slice none 0 0, .bool false, .slice none 0 0, .slice none 0 0]⟩), (36, ⟨26, r.cs ++ r45.cs ++ r51.cs⟩)] ?_
              refine sw_seq ?_
              refine sw_any [0, 0, 2, 6, 6, 30, 62, 127, 255, 511, 1023, 2047, 2047, 8191, 2047, 32767, 65535, 131071, 262143] [(0, []), (1, []), (2, []), (3, []), (4, []), (5, []), (6, []), (7, []), (8, []), (9, []), (10, []), (11, []), (12, []), (14, []), (13, []), (15, []), (16, []), (17, []), (18, [])] (by kernel_rfl) (by kernel_rfl) ?_
              refine sy_pure 64 (.v (.bool (Nt.inI y1 y2 (btw x1 x2 n)))) ?_
              refine sy_pure 65 (.v (.bool false)) ?_
              refine sy_pure 66 (.v (.bool false)) ?_
              refine sy_drop 67 (unwanted (g := 2) (b := true) (c := false) (t := 66) (by kernel_rfl) (by kernel_rfl) (by kernel_rfl) (by kernel_rfl)) ?_
              refine sy_drop 68 (unwanted (g := 2) (b := true) (c := false) (t := 66) (by kernel_rfl) (by kernel_rfl) (by kernel_rfl) (by kernel_rfl)) ?_
              refine sy_drop 69 (unwanted (g := 2) (b := true) (c := false) (t := 66) (by kernel_rfl) (by kernel_rfl) (by kernel_rfl) (by kernel_rfl)) ?_
              refine sy_pure 70 (.v (.bool false)) ?_
              refine sy_pure 71 (.v (.bool (!((Nt.inI y1 y2 (btw x1 x2 n)) == false)))) ?_
              refine sy_eq 72 (x := .v (.bool (!((Nt.inI y1 y2 (btw x1 x2 n)) == false)))) (.v (.bool false)) (by rw [show (!((Nt.inI y1 y2 (btw x1 x2 n)) == false)) = false from (by have h9 := Nt.meet0 (q := (btw x1 x2 n)) hm177; rw [hs189, Bool.true_and] at h9; simp [h9])]) ?_
              refine sy_pure 73 (.v (.bool true)) ?_ (hw := wants1 (g := 8) (b := false) (t := 72) (by kernel_rfl) (by kernel_rfl) (by kernel_rfl))
              refine sy_pure 74 (.v (.bool true)) ?_ (hw := wants1 (g := 8) (b := false) (t := 72) (by kernel_rfl) (by kernel_rfl) (by kernel_rfl))
              refine sy_ldv 75 (.v (.agg #[.bool a1.s, .slice a1.m.a a1.m.n a1.m.c, .slice a1.d.a a1.d.n a1.d.c, .bool a2.s, .slice a2.m.a a2.m.n a2.m.c, .slice a2.d.a a2.d.n a2.d.c])) ty28 part_agg ?_ (hw := wants1 (g := 10) (b := true) (t := 74) (by kernel_rfl) (by kernel_rfl) (by kernel_rfl))
              refine sy_ldv 76 (.v (.agg #[.bool b1.s, .slice b1.m.a b1.m.n b1.m.c, .slice b1.d.a b1.d.n b1.d.c, .bool b2.s, .slice b2.m.a b2.m.n b2.m.c, .slice b2.d.a b2.d.n b2.d.c])) ty28 part_agg ?_ (hw := wants1 (g := 10) (b := true) (t := 74) (by kernel_rfl) (by kernel_rfl) (by kernel_rfl))
              refine sy_ldv 78 (.v (r45.v)) ty26 part_agg ?_ (hw := wants1 (g := 10) (b := true) (t := 74) (by kernel_rfl) (by kernel_rfl) (by kernel_rfl))
              refine sy_call 77 13 [.agg #[.bool a1.s, .slice a1.m.a a1.m.n a1.m.c, .slice a1.d.a a1.d.n a1.d.c, .bool a2.s, .slice a2.m.a a2.m.n a2.m.c, .slice a2.d.a a2.d.n a2.d.c], .agg #[.bool b1.s, .slice b1.m.a b1.m.n b1.m.c, .slice b1.d.a b1.d.n b1.d.c, .bool b2.s, .slice b2.m.a b2.m.n b2.m.c, .slice b2.d.a b2.d.n b2.d.c]] ?_ (hw := wants1 (g := 10) (b := true) (t := 74) (by kernel_rfl) (by kernel_rfl) (by kernel_rfl))
              intro w200 u200 e200 d200
              have k207 := k_ivHull d200 (ha1f.ext (e11.trans (g13.ext.trans (e22.trans (g24.ext.trans (e33.trans (g35.ext.trans (e44.trans (g48.ext.trans (e50.trans (g54.ext.trans (e56.trans (e176.trans (g183.ext.trans (e185.trans (g187.ext.trans (e190.trans (g192.ext.trans (e194.trans (g196.ext.trans e200)))))))))))))))))))) (ha2f.ext (e11.trans (g13.ext.trans (e22.trans (g24.ext.trans (e33.trans (g35.ext.trans (e44.trans (g48.ext.trans (e50.trans (g54.ext.trans (e56.trans (e176.trans (g183.ext.trans (e185.trans (g187.ext.trans (e190.trans (g192.ext.trans (e194.trans (g196.ext.trans e200)))))))))))))))))))) (hb1f.ext (e11.trans (g13.ext.trans (e22.trans (g24.ext.trans (e33.trans (g35.ext.trans (e44.trans (g48.ext.trans (e50.trans (g54.ext.trans (e56.trans (e176.trans (g183.ext.trans (e185.trans (g187.ext.trans (e190.trans (g192.ext.trans (e194.trans (g196.ext.trans e200)))))))))))))))))))) (hb2f.ext (e11.trans (g13.ext.trans (e22.trans (g24.ext.trans (e33.trans (g35.ext.trans (e44.trans (g48.ext.trans (e50.trans (g54.ext.trans (e56.trans (e176.trans (g183.ext.trans (e185.trans (g187.ext.trans (e190.trans (g192.ext.trans (e194.trans (g196.ext.trans e200)))))))))))))))))))) (by omega) (by omega)
              with_reducible refine Post.mono k207 ?_
              clear k207
              rintro _ u205 g206 ⟨r201, r203, rfl, h202, h204⟩
              refine sy_call 79 12 [.agg #[.bool r201.s, .slice r201.m.a r201.m.n r201.m.c, .slice r201.d.a r201.d.n r201.d.c, .bool r203.s, .slice r203.m.a r203.m.n r203.m.c, .slice r203.d.a r203.d.n r203.d.c], r45.v] ?_ (hw := wants1 (g := 10) (b := true) (t := 74) (by kernel_rfl) (by kernel_rfl) (by kernel_rfl))
              intro w208 u208 e208 d208
              have k211 := k_ivContains d208 (h202.ext e208).raw (h204.ext e208).raw (h46.ext (e50.trans (g54.ext.trans (e56.trans (e176.trans (g183.ext.trans (e185.trans (g187.ext.trans (e190.trans (g192.ext.trans (e194.trans (g196.ext.trans (e200.trans (g206.ext.trans e208)))))))))))))).raw (by omega) (by omega)
              with_reducible refine Post.mono k211 ?_
              clear k211
              rintro _ u209 g210 rfl
              refine sy_pure 80 (.v (.bool (!(Nt.inI (Nt.lo (Nt.lo x1 x2) (Nt.lo y1 y2)) (Nt.hi (Nt.hi x1 x2) (Nt.hi y1 y2)) (btw x1 x2 n))))) ?_ (hw := wants1 (g := 10) (b := true) (t := 74) (by kernel_rfl) (by kernel_rfl) (by kernel_rfl))
              refine sy_pure 81 (.v (.bool (!(Nt.inI (Nt.lo (Nt.lo x1 x2) (Nt.lo y1 y2)) (Nt.hi (Nt.hi x1 x2) (Nt.hi y1 y2)) (btw x1 x2 n))))) ?_ (hw := wants1 (g := 8) (b := false) (t := 72) (by kernel_rfl) (by kernel_rfl) (by kernel_rfl))
              refine sy_pure 82 (.v (.bool (!(Nt.inI (Nt.lo (Nt.lo x1 x2) (Nt.lo y1 y2)) (Nt.hi (Nt.hi x1 x2) (Nt.hi y1 y2)) (btw x1 x2 n))))) ?_
              refine sy_next 85 [(4, .adr 4 0), (5, .adr 5 0), (36, .slc 36 0 3 3), (37, .v (.int .i64 3)), (38, .v (.int .i64 1)), (82, .v (.bool (!(Nt.inI (Nt.lo (Nt.lo x1 x2) (Nt.lo y1 y2)) (Nt.hi (Nt.hi x1 x2) (Nt.hi y1 y2)) (btw x1 x2 n)))))] [(4, ⟨28, a1.cs ++ a2.cs⟩), (5, ⟨28, b1.cs ++ b2.cs⟩), (36, ⟨26, r.cs ++ r45.cs ++ r51.cs⟩)] ?_
              refine sw_cond (b := !(Nt.inI (Nt.lo (Nt.lo x1 x2) (Nt.lo y1 y2)) (Nt.hi (Nt.hi x1 x2) (Nt.hi y1 y2)) (btw x1 x2 n))) (by kernel_rfl) (fun hb => ?_) (fun hb => ?_)
              · exact absurd hb (by rw [show (!(Nt.inI (Nt.lo (Nt.lo x1 x2) (Nt.lo y1 y2)) (Nt.hi (Nt.hi x1 x2) (Nt.hi y1 y2)) (btw x1 x2 n))) = false from Nt.nott (Nt.hull_has (.inl hs189))]; decide)
              · clear hb
                refine sw_skip (mp_seq ?_)
                refine sw_reg ?_
                refine sy_pure 83 (.v (.int .i64 2)) ?_
                refine sy_pure 38 (.v (.int .i64 2)) ?_
                refine sy_end ?_
                exact ⟨3 - 2, by decide, St.of 85 [(4, .adr 4 0), (5, .adr 5 0), (36, .slc 36 0 3 3), (37, .v (.int .i64 3)), (38, .v (.int .i64 2))] [(4, ⟨28, a1.cs ++ a2.cs⟩), (5, ⟨28, b1.cs ++ b2.cs⟩), (36, ⟨26, r.cs ++ r45.cs ++ r51.cs⟩)], by exact weak_mk _ _ _, 2, by omega, rfl, rfl, (e56.trans (e176.trans (g183.ext.trans (e185.trans (g187.ext.trans (e190.trans (g192.ext.trans (e194.trans (g196.ext.trans (e200.trans (g206.ext.trans (e208.trans g210.ext))))))))))))⟩
            · refine sy_eq 51 (x := .v (.bool (Nt.inI x1 x2 (btw x1 x2 n)))) (.v (.bool false)) (by rw [hs189]) ?_
              refine sy_drop 52 (unwanted (g := 3) (b := true) (c := false) (t := 51) (by kernel_rfl) (by kernel_rfl) (by kernel_rfl) (by kernel_rfl)) ?_
              refine sy_drop 53 (unwanted (g := 3) (b := true) (c := false) (t := 51) (by kernel_rfl) (by kernel_rfl) (by kernel_rfl) (by kernel_rfl)) ?_
              refine sy_drop 54 (unwanted (g := 3) (b := true) (c := false) (t := 51) (by kernel_rfl) (by kernel_rfl) (by kernel_rfl) (by kernel_rfl)) ?_
              refine sy_pure 55 (.v (.bool false)) ?_
              refine sy_pure 13 (.v (.bool false)) ?_
              refine sy_next 85 [(4, .adr 4 0), (5, .adr 5 0), (10, .adr 10 0), (11, .adr 11 0), (12, .v (.bool false)), (13, .v (.bool false)), (36, .slc 36 0 3 3), (37, .v (.int .i64 3)), (38, .v (.int .i64 1))] [(4, ⟨28, a1.cs ++ a2.cs⟩), (5, ⟨28, b1.cs ++ b2.cs⟩), (10, ⟨26, r45.cs⟩), (11, ⟨28, [.bool false, .slice none 0 0, .slice none 0 0, .bool false, .slice none 0 0, .slice none 0 0]⟩), (36, ⟨26, r.cs ++ r45.cs ++ r51.cs⟩)] ?_
              refine sw_seq ?_
              refine sw_reg ?_
              refine sy_ldv 56 (.v (.agg #[.bool a1.s, .slice a1.m.a a1.m.n a1.m.c, .slice a1.d.a a1.d.n a1.d.c, .bool a2.s, .slice a2.m.a a2.m.n a2.m.c, .slice a2.d.a a2.d.n a2.d.c])) ty28 part_agg ?_
              refine sy_ldv 57 (.v (r45.v)) ty26 part_agg ?_
              refine sy_call 58 12 [.agg #[.bool a1.s, .slice a1.m.a a1.m.n a1.m.c, .slice a1.d.a a1.d.n a1.d.c, .bool a2.s, .slice a2.m.a a2.m.n a2.m.c, .slice a2.d.a a2.d.n a2.d.c], r45.v] ?_
              intro w212 u212 e212 d212
              have k215 := k_ivContains d212 (ha1f.ext (e11.trans (g13.ext.trans (e22.trans (g24.ext.trans (e33.trans (g35.ext.trans (e44.trans (g48.ext.trans (e50.trans (g54.ext.trans (e56.trans (e176.trans (g183.ext.trans (e185.trans (g187.ext.trans e212)))))))))))))))) (ha2f.ext (e11.trans (g13.ext.trans (e22.trans (g24.ext.trans (e33.trans (g35.ext.trans (e44.trans (g48.ext.trans (e50.trans (g54.ext.trans (e56.trans (e176.trans (g183.ext.trans (e185.trans (g187.ext.trans e212)))))))))))))))) (h46.ext (e50.trans (g54.ext.trans (e56.trans (e176.trans (g183.ext.trans (e185.trans (g187.ext.trans e212)))))))).raw (by omega) (by omega)
              with_reducible refine Post.mono k215 ?_
              clear k215
              rintro _ u213 g214 rfl
              refine sy_eq 59 (x := .v (.bool (Nt.inI x1 x2 (btw x1 x2 n)))) (.v (.bool false)) (by rw [show (Nt.inI x1 x2 (btw x1 x2 n)) = false from hs189]) ?_
              refine sy_ldv 60 (.v (.agg #[.bool b1.s, .slice b1.m.a b1.m.n b1.m.c, .slice b1.d.a b1.d.n b1.d.c, .bool b2.s, .slice b2.m.a b2.m.n b2.m.c, .slice b2.d.a b2.d.n b2.d.c])) ty28 part_agg ?_ (hw := wants1 (g := 3) (b := false) (t := 59) (by kernel_rfl) (by kernel_rfl) (by kernel_rfl))
              refine sy_ldv 61 (.v (r45.v)) ty26 part_agg ?_ (hw := wants1 (g := 3) (b := false) (t := 59) (by kernel_rfl) (by kernel_rfl) (by kernel_rfl))
              refine sy_call 62 12 [.agg #[.bool b1.s, .slice b1.m.a b1.m.n b1.m.c, .slice b1.d.a b1.d.n b1.d.c, .bool b2.s, .slice b2.m.a b2.m.n b2.m.c, .slice b2.d.a b2.d.n b2.d.c], r45.v] ?_ (hw := wants1 (g := 3) (b := false) (t := 59) (by kernel_rfl) (by kernel_rfl) (by kernel_rfl))
              intro w217 u217 e217 d217
              have k220 := k_ivContains d217 (hb1f.ext (e11.trans (g13.ext.trans (e22.trans (g24.ext.trans (e33.trans (g35.ext.trans (e44.trans (g48.ext.trans (e50.trans (g54.ext.trans (e56.trans (e176.trans (g183.ext.trans (e185.trans (g187.ext.trans (e212.trans (g214.ext.trans e217)))))))))))))))))) (hb2f.ext (e11.trans (g13.ext.trans (e22.trans (g24.ext.trans (e33.trans (g35.ext.trans (e44.trans (g48.ext.trans (e50.trans (g54.ext.trans (e56.trans (e176.trans (g183.ext.trans (e185.trans (g187.ext.trans (e212.trans (g214.ext.trans e217)))))))))))))))))) (h46.ext (e50.trans (g54.ext.trans (e56.trans (e176.trans (g183.ext.trans (e185.trans (g187.ext.trans (e212.trans (g214.ext.trans e217)))))))))).raw (by omega) (by omega)
              with_reducible refine Post.mono k220 ?_
              clear k220
              rintro _ u218 g219 rfl
              refine sy_pure 63 (.v (.bool (Nt.inI y1 y2 (btw x1 x2 n)))) ?_
              refine sy_pure 14 (.v (.bool (Nt.inI y1 y2 (btw x1 x2 n)))) ?_
              refine sy_next 85 [(4, .adr 4 0), (5, .adr 5 0), (10, .adr 10 0), (11, .adr 11 0), (12, .v (.bool false)), (13, .v (.bool false)), (14, .v (.bool (Nt.inI y1 y2 (btw x1 x2 n)))), (36, .slc 36 0 3 3), (37, .v (.int .i64 3)), (38, .v (.int .i64 1))] [(4, ⟨28, a1.cs ++ a2.cs⟩), (5, ⟨28, b1.cs ++ b2.cs⟩), (10, ⟨26, r45.cs⟩), (11, ⟨28, [.bool false, .slice none 0 0, .slice none 0 0, .bool false, .slice none 0 0, .slice none 0 0]⟩), (36, ⟨26, r.cs ++ r45.cs ++ r51.cs⟩)] ?_
              refine sw_seq ?_
              refine sw_any [0, 0, 2, 6, 6, 30, 62, 127, 255, 511, 1023, 2047, 2047, 8191, 2047, 32767, 65535, 131071, 262143] [(0, []), (1, []), (2, []), (3, []), (4, []), (5, []), (6, []), (7, []), (8, []), (9, []), (10, []), (11, []), (12, []), (14, []), (13, []), (15, []), (16, []), (17, []), (18, [])] (by kernel_rfl) (by kernel_rfl) ?_
              refine sy_pure 64 (.v (.bool false)) ?_
              refine sy_pure 65 (.v (.bool false)) ?_
              refine sy_pure 66 (.v (.bool false)) ?_
              refine sy_drop 67 (unwanted (g := 2) (b := true) (c := false) (t := 66) (by kernel_rfl) (by kernel_rfl) (by kernel_rfl) (by kernel_rfl)) ?_
              refine sy_drop 68 (unwanted (g := 2) (b := true) (c := false) (t := 66) (by kernel_rfl) (by kernel_rfl) (by kernel_rfl) (by kernel_rfl)) ?_
              refine sy_drop 69 (unwanted (g := 2) (b := true) (c := false) (t := 66) (by kernel_rfl) (by kernel_rfl) (by kernel_rfl) (by kernel_rfl)) ?_
              refine sy_pure 70 (.v (.bool false)) ?_
              refine sy_pure 71 (.v (.bool (!(false == false)))) ?_
              refine sy_eq 72 (x := .v (.bool (!(false == false)))) (.v (.bool false)) (by rw [show (!(false == false)) = false from (by have h9 := Nt.meet0 (q := (btw x1 x2 n)) hm177; rw [hs189, Bool.false_and] at h9; simp [h9])]) ?_
              refine sy_pure 73 (.v (.bool (Nt.inI y1 y2 (btw x1 x2 n)))) ?_ (hw := wants1 (g := 8) (b := false) (t := 72) (by kernel_rfl) (by kernel_rfl) (by kernel_rfl))
              rcases Bool.eq_false_or_eq_true (Nt.inI y1 y2 (btw x1 x2 n)) with hs222 | hs222
              · refine sy_eq 74 (x := .v (.bool (Nt.inI y1 y2 (btw x1 x2 n)))) (.v (.bool true)) (by rw [hs222]) ?_ (hw := wants1 (g := 8) (b := false) (t := 72) (by kernel_rfl) (by kernel_rfl) (by kernel_rfl))
                refine sy_ldv 75 (.v (.agg #[.bool a1.s, .slice a1.m.a a1.m.n a1.m.c, .slice a1.d.a a1.d.n a1.d.c, .bool a2.s, .slice a2.m.a a2.m.n a2.m.c, .slice a2.d.a a2.d.n a2.d.c])) ty28 part_agg ?_ (hw := wants1 (g := 10) (b := true) (t := 74) (by kernel_rfl) (by kernel_rfl) (by kernel_rfl))
                refine sy_ldv 76 (.v (.agg #[.bool b1.s, .slice b1.m.a b1.m.n b1.m.c, .slice b1.d.a b1.d.n b1.d.c, .bool b2.s, .slice b2.m.a b2.m.n b2.m.c, .slice b2.d.a b2.d.n b2.d.c])) ty28 part_agg ?_ (hw := wants1 (g := 10) (b := true) (t := 74) (by kernel_rfl) (by kernel_rfl) (by kernel_rfl))
                refine sy_ldv 78 (.v (r45.v)) ty26 part_agg ?_ (hw := wants1 (g := 10) (b := true) (t := 74) (by kernel_rfl) (by kernel_rfl) (by kernel_rfl))
                refine sy_call 77 13 [.agg #[.bool a1.s, .slice a1.m.a a1.m.n a1.m.c, .slice a1.d.a a1.d.n a1.d.c, .bool a2.s, .slice a2.m.a a2.m.n a2.m.c, .slice a2.d.a a2.d.n a2.d.c], .agg #[.bool b1.s, .slice b1.m.a b1.m.n b1.m.c, .slice b1.d.a b1.d.n b1.d.c, .bool b2.s, .slice b2.m.a b2.m.n b2.m.c, .slice b2.d.a b2.d.n b2.d.c]] ?_ (hw := wants1 (g := 10) (b := true) (t := 74) (by kernel_rfl) (by kernel_rfl) (by kernel_rfl))
                intro w223 u223 e223 d223
                have k230 := k_ivHull d223 (ha1f.ext (e11.trans (g13.ext.trans (e22.trans (g24.ext.trans (e33.trans (g35.ext.trans (e44.trans (g48.ext.trans (e50.trans (g54.ext.trans (e56.trans (e176.trans (g183.ext.trans (e185.trans (g187.ext.trans (e212.trans (g214.ext.trans (e217.trans (g219.ext.trans e223)))))))))))))))))))) (ha2f.ext (e11.trans (g13.ext.trans (e22.trans (g24.ext.trans (e33.trans (g35.ext.trans (e44.trans (g48.ext.trans (e50.trans (g54.ext.trans (e56.trans (e176.trans (g183.ext.trans (e185.trans (g187.ext.trans (e212.trans (g214.ext.trans (e217.trans (g219.ext.trans e223)))))))))))))))))))) (hb1f.ext (e11.trans (g13.ext.trans (e22.trans (g24.ext.trans (e33.trans (g35.ext.trans (e44.trans (g48.ext.trans (e50.trans (g54.ext.trans (e56.trans (e176.trans (g183.ext.trans (e185.trans (g187.ext.trans (e212.trans (g214.ext.trans (e217.trans (g219.ext.trans e223)))))))))))))))))))) (hb2f.ext (e11.trans (g13.ext.trans (e22.trans (g24.ext.trans (e33.trans (g35.ext.trans (e44.trans (g48.ext.trans (e50.trans (g54.ext.trans (e56.trans (e176.trans (g183.ext.trans (e185.trans (g187.ext.trans (e212.trans (g214.ext.trans (e217.trans (g219.ext.trans e223)))))))))))))))))))) (by omega) (by omega)
                with_reducible refine Post.mono k230 ?_
                clear k230
                rintro _ u228 g229 ⟨r224, r226, rfl, h225, h227⟩
                refine sy_call 79 12 [.agg #[.bool r224.s, .slice r224.m.a r224.m.n r224.m.c, .slice r224.d.a r224.d.n r224.d.c, .bool r226.s, .slice r226.m.a r226.m.n r226.m.c, .slice r226.d.a r226.d.n r226.d.c], r45.v] ?_ (hw := wants1 (g := 10) (b := true) (t := 74) (by kernel_rfl) (by kernel_rfl) (by kernel_rfl))
                intro w231 u231 e231 d231
                have k234 := k_ivContains d231 (h225.ext e231).raw (h227.ext e231).raw (h46.ext (e50.trans (g54.ext.trans (e56.trans (e176.trans (g183.ext.trans (e185.trans (g187.ext.trans (e212.trans (g214.ext.trans (e217.trans (g219.ext.trans (e223.trans (g229.ext.trans e231)))))))))))))).raw (by omega) (by omega)
                with_reducible refine Post.mono k234 ?_
                clear k234
                rintro _ u232 g233 rfl
                refine sy_pure 80 (.v (.bool (!(Nt.inI (Nt.lo (Nt.lo x1 x2) (Nt.lo y1 y2)) (Nt.hi (Nt.hi x1 x2) (Nt.hi y1 y2)) (btw x1 x2 n))))) ?_ (hw := wants1 (g := 10) (b := true) (t := 74) (by kernel_rfl) (by kernel_rfl) (by kernel_rfl))
                refine sy_pure 81 (.v (.bool (!(Nt.inI (Nt.lo (Nt.lo x1 x2) (Nt.lo y1 y2)) (Nt.hi (Nt.hi x1 x2) (Nt.hi y1 y2)) (btw x1 x2 n))))) ?_ (hw := wants1 (g := 8) (b := false) (t := 72) (by kernel_rfl) (by kernel_rfl) (by kernel_rfl))
                refine sy_pure 82 (.v (.bool (!(Nt.inI (Nt.lo (Nt.lo x1 x2) (Nt.lo y1 y2)) (Nt.hi (Nt.hi x1 x2) (Nt.hi y1 y2)) (btw x1 x2 n))))) ?_
                refine sy_next 85 [(4, .adr 4 0), (5, .adr 5 0), (36, .slc 36 0 3 3), (37, .v (.int .i64 3)), (38, .v (.int .i64 1)), (82, .v (.bool (!(Nt.inI (Nt.lo (Nt.lo x1 x2) (Nt.lo y1 y2)) (Nt.hi (Nt.hi x1 x2) (Nt.hi y1 y2)) (btw x1 x2 n)))))] [(4, ⟨28, a1.cs ++ a2.cs⟩), (5, ⟨28, b1.cs ++ b2.cs⟩), (36, ⟨26, r.cs ++ r45.cs ++ r51.cs⟩)] ?_
                refine sw_cond (b := !(Nt.inI (Nt.lo (Nt.lo x1 x2) (Nt.lo y1 y2)) (Nt.hi (Nt.hi x1 x2) (Nt.hi y1 y2)) (btw x1 x2 n))) (by kernel_rfl) (fun hb => ?_) (fun hb => ?_)
                · exact absurd hb (by rw [show (!(Nt.inI (Nt.lo (Nt.lo x1 x2) (Nt.lo y1 y2)) (Nt.hi (Nt.hi x1 x2) (Nt.hi y1 y2)) (btw x1 x2 n))) = false from Nt.nott (Nt.hull_has (.inr hs222))]; decide)
                · clear hb
                  refine sw_skip (mp_seq ?_)
                  refine sw_reg ?_
                  refine sy_pure 83 (.v (.int .i64 2)) ?_
                  refine sy_pure 38 (.v (.int .i64 2)) ?_
                  refine sy_end ?_
                  exact ⟨3 - 2, by decide, St.of 85 [(4, .adr 4 0), (5, .adr 5 0), (36, .slc 36 0 3 3), (37, .v (.int .i64 3)), (38, .v (.int .i64 2))] [(4, ⟨28, a1.cs ++ a2.cs⟩), (5, ⟨28, b1.cs ++ b2.cs⟩), (36, ⟨26, r.cs ++ r45.cs ++ r51.cs⟩)], by exact weak_mk _ _ _, 2, by omega, rfl, rfl, (e56.trans (e176.trans (g183.ext.trans (e185.trans (g187.ext.trans (e212.trans (g214.ext.trans (e217.trans (g219.ext.trans (e223.trans (g229.ext.trans (e231.trans g233.ext))))))))))))⟩
              · refine sy_eq 74 (x := .v (.bool (Nt.inI y1 y2 (btw x1 x2 n)))) (.v (.bool false)) (by rw [hs222]) ?_ (hw := wants1 (g := 8) (b := false) (t := 72) (by kernel_rfl) (by kernel_rfl) (by kernel_rfl))
                refine sy_drop 75 (unwanted (g := 10) (b := true) (c := false) (t := 74) (by kernel_rfl) (by kernel_rfl) (by kernel_rfl) (by kernel_rfl)) ?_
                refine sy_drop 76 (unwanted (g := 10) (b := true) (c := false) (t := 74) (by kernel_rfl) (by kernel_rfl) (by kernel_rfl) (by kernel_rfl)) ?_
                refine sy_drop 78 (unwanted (g := 10) (b := true) (c := false) (t := 74) (by kernel_rfl) (by kernel_rfl) (by kernel_rfl) (by kernel_rfl)) ?_
                refine sy_drop 77 (unwanted (g := 10) (b := true) (c := false) (t := 74) (by kernel_rfl) (by kernel_rfl) (by kernel_rfl) (by kernel_rfl)) ?_
                refine sy_drop 79 (unwanted (g := 10) (b := true) (c := false) (t := 74) (by kernel_rfl) (by kernel_rfl) (by kernel_rfl) (by kernel_rfl)) ?_
                refine sy_drop 80 (unwanted (g := 10) (b := true) (c := false) (t := 74) (by kernel_rfl) (by kernel_rfl) (by kernel_rfl) (by kernel_rfl)) ?_
                refine sy_pure 81 (.v (.bool false)) ?_ (hw := wants1 (g := 8) (b := false) (t := 72) (by kernel_rfl) (by kernel_rfl) (by kernel_rfl))
                refine sy_pure 82 (.v (.bool false)) ?_
                refine sy_next 85 [(4, .adr 4 0), (5, .adr 5 0), (36, .slc 36 0 3 3), (37, .v (.int .i64 3)), (38, .v (.int .i64 1)), (82, .v (.bool false))] [(4, ⟨28, a1.cs ++ a2.cs⟩), (5, ⟨28, b1.cs ++ b2.cs⟩), (36, ⟨26, r.cs ++ r45.cs ++ r51.cs⟩)] ?_
                refine sw_false (by kernel_rfl) ?_
                refine sw_skip (mp_seq ?_)
                refine sw_reg ?_
                refine sy_pure 83 (.v (.int .i64 2)) ?_
                refine sy_pure 38 (.v (.int .i64 2)) ?_
                refine sy_end ?_
                exact ⟨3 - 2, by decide, St.of 85 [(4, .adr 4 0), (5, .adr 5 0), (36, .slc 36 0 3 3), (37, .v (.int .i64 3)), (38, .v (.int .i64 2))] [(4, ⟨28, a1.cs ++ a2.cs⟩), (5, ⟨28, b1.cs ++ b2.cs⟩), (36, ⟨26, r.cs ++ r45.cs ++ r51.cs⟩)], by exact weak_mk _ _ _, 2, by omega, rfl, rfl, (e56.trans (e176.trans (g183.ext.trans (e185.trans (g187.ext.trans (e212.trans (g214.ext.trans (e217.trans g219.ext))))))))⟩
          · skip
            refine sy_pure 42 (.v (.tuple #[.agg #[.bool r178.s, .slice r178.m.a r178.m.n r178.m.c, .slice r178.d.a r178.d.n r178.d.c, .bool r180.s, .slice r180.m.a r180.m.n r180.m.c, .slice r180.d.a r180.d.n r180.d.c], .bool true])) ?_
            refine sy_pure 46 (.v (.agg #[.bool r178.s, .slice r178.m.a r178.m.n r178.m.c, .slice r178.d.a r178.d.n r178.d.c, .bool r180.s, .slice r180.m.a r180.m.n r180.m.c, .slice r180.d.a r180.d.n r180.d.c])) ?_
            refine sy_pure 47 (.v (.bool true)) ?_
            refine sy_new 11 ⟨28, [.bool false, .slice none 0 0, .slice none 0 0, .bool false, .slice none 0 0, .slice none 0 0]⟩ ?_
            refine sy_store ⟨28, r178.cs ++ r180.cs⟩ ty28 ?_
            refine sy_pure 12 (.v (.bool true)) ?_
            refine sy_next 85 [(4, .adr 4 0), (5, .adr 5 0), (10, .adr 10 0), (11, .adr 11 0), (12, .v (.bool true)), (36, .slc 36 0 3 3), (37, .v (.int .i64 3)), (38, .v (.int .i64 1))] [(4, ⟨28, a1.cs ++ a2.cs⟩), (5, ⟨28, b1.cs ++ b2.cs⟩), (10, ⟨26, r45.cs⟩), (11, ⟨28, r178.cs ++ r180.cs⟩), (36, ⟨26, r.cs ++ r45.cs ++ r51.cs⟩)] ?_
            refine sw_seq ?_
            refine sw_reg ?_
            refine sy_ldv 48 (.v (.agg #[.bool a1.s, .slice a1.m.a a1.m.n a1.m.c, .slice a1.d.a a1.d.n a1.d.c, .bool a2.s, .slice a2.m.a a2.m.n a2.m.c, .slice a2.d.a a2.d.n a2.d.c])) ty28 part_agg ?_
            refine sy_ldv 49 (.v (r45.v)) ty26 part_agg ?_
            refine sy_call 50 12 [.agg #[.bool a1.s, .slice a1.m.a a1.m.n a1.m.c, .slice a1.d.a a1.d.n a1.d.c, .bool a2.s, .slice a2.m.a a2.m.n a2.m.c, .slice a2.d.a a2.d.n a2.d.c], r45.v] ?_
            intro w235 u235 e235 d235
            have k238 := k_ivContains d235 (ha1f.ext (e11.trans (g13.ext.trans (e22.trans (g24.ext.trans (e33.trans (g35.ext.trans (e44.trans (g48.ext.trans (e50.trans (g54.ext.trans (e56.trans (e176.trans (g183.ext.trans e235)))))))))))))) (ha2f.ext (e11.trans (g13.ext.trans (e22.trans (g24.ext.trans (e33.trans (g35.ext.trans (e44.trans (g48.ext.trans (e50.trans (g54.ext.trans (e56.trans (e176.trans (g183.ext.trans e235)))))))))))))) (h46.ext (e50.trans (g54.ext.trans (e56.trans (e176.trans (g183.ext.trans e235)))))).raw (by omega) (by omega)
            with_reducible refine Post.mono k238 ?_
            clear k238
            rintro _ u236 g237 rfl
            rcases Bool.eq_false_or_eq_true (Nt.inI x1 x2 (btw x1 x2 n)) with hs239 | hs239
            · refine sy_eq 51 (x := .v (.bool (Nt.inI x1 x2 (btw x1 x2 n)))) (.v (.bool true)) (by rw [hs239]) ?_
              refine sy_ldv 52 (.v (.agg #[.bool b1.s, .slice b1.m.a b1.m.n b1.m.c, .slice b1.d.a b1.d.n b1.d.c, .bool b2.s, .slice b2.m.a b2.m.n b2.m.c, .slice b2.d.a b2.d.n b2.d.c])) ty28 part_agg ?_ (hw := wants1 (g := 3) (b := true) (t := 51) (by kernel_rfl) (by kernel_rfl) (by kernel_rfl))
              refine sy_ldv 53 (.v (r45.v)) ty26 part_agg ?_ (hw := wants1 (g := 3) (b := true) (t := 51) (by kernel_rfl) (by kernel_rfl) (by kernel_rfl))
              refine sy_call 54 12 [.agg #[.bool b1.s, .slice b1.m.a b1.m.n b1.m.c, .slice b1.d.a b1.d.n b1.d.c, .bool b2.s, .slice b2.m.a b2.m.n b2.m.c, .slice b2.d.a b2.d.n b2.d.c], r45.v] ?_ (hw := wants1 (g := 3) (b := true) (t := 51) (by kernel_rfl) (by kernel_rfl) (by kernel_rfl))
              intro w240 u240 e240 d240
              have k243 := k_ivContains d240 (hb1f.ext (e11.trans (g13.ext.trans (e22.trans (g24.ext.trans (e33.trans (g35.ext.trans (e44.trans (g48.ext.trans (e50.trans (g54.ext.trans (e56.trans (e176.trans (g183.ext.trans (e235.trans (g237.ext.trans e240)))))))))))))))) (hb2f.ext (e11.trans (g13.ext.trans (e22.trans (g24.ext.trans (e33.trans (g35.ext.trans (e44.trans (g48.ext.trans (e50.trans (g54.ext.trans (e56.trans (e176.trans (g183.ext.trans (e235.trans (g237.ext.trans e240)))))))))))))))) (h46.ext (e50.trans (g54.ext.trans (e56.trans (e176.trans (g183.ext.trans (e235.trans (g237.ext.trans e240)))))))).raw (by omega) (by omega)
              with_reducible refine Post.mono k243 ?_
              clear k243
              rintro _ u241 g242 rfl
              refine sy_pure 55 (.v (.bool (Nt.inI y1 y2 (btw x1 x2 n)))) ?_
              refine sy_pure 13 (.v (.bool (Nt.inI y1 y2 (btw x1 x2 n)))) ?_
              refine sy_next 85 [(4, .adr 4 0), (5, .adr 5 0), (10, .adr 10 0), (11, .adr 11 0), (12, .v (.bool true)), (13, .v (.bool (Nt.inI y1 y2 (btw x1 x2 n)))), (36, .slc 36 0 3 3), (37, .v (.int .i64 3)), (38, .v (.int .i64 1))] [(4, ⟨28, a1.cs ++ a2.cs⟩), (5, ⟨28, b1.cs ++ b2.cs⟩), (10, ⟨26, r45.cs⟩), (11, ⟨28, r178.cs ++ r180.cs⟩), (36, ⟨26, r.cs ++ r45.cs ++ r51.cs⟩)] ?_
              refine sw_seq ?_
              refine sw_reg ?_
              refine sy_ldv 56 (.v (.agg #[.bool a1.s, .slice a1.m.a a1.m.n a1.m.c, .slice a1.d.a a1.d.n a1.d.c, .bool a2.s, .slice a2.m.a a2.m.n a2.m.c, .slice a2.d.a a2.d.n a2.d.c])) ty28 part_agg ?_
              refine sy_ldv 57 (.v (r45.v)) ty26 part_agg ?_
              refine sy_call 58 12 [.agg #[.bool a1.s, .slice a1.m.a a1.m.n a1.m.c, .slice a1.d.a a1.d.n a1.d.c, .bool a2.s, .slice a2.m.a a2.m.n a2.m.c, .slice a2.d.a a2.d.n a2.d.c], r45.v] ?_
              intro w244 u244 e244 d244
              have k247 := k_ivContains d244 (ha1f.ext (e11.trans (g13.ext.trans (e22.trans (g24.ext.trans (e33.trans (g35.ext.trans (e44.trans (g48.ext.trans (e50.trans (g54.ext.trans (e56.trans (e176.trans (g183.ext.trans (e235.trans (g237.ext.trans (e240.trans (g242.ext.trans e244)))))))))))))))))) (ha2f.ext (e11.trans (g13.ext.trans (e22.trans (g24.ext.trans (e33.trans (g35.ext.trans (e44.trans (g48.ext.trans (e50.trans (g54.ext.trans (e56.trans (e176.trans (g183.ext.trans (e235.trans (g237.ext.trans (e240.trans (g242.ext.trans e244)))))))))))))))))) (h46.ext (e50.trans (g54.ext.trans (e56.trans (e176.trans (g183.ext.trans (e235.trans (g237.ext.trans (e240.trans (g242.ext.trans e244)))))))))).raw (by omega) (by omega)
              with_reducible refine Post.mono k247 ?_
              clear k247
              rintro _ u245 g246 rfl
              refine sy_eq 59 (x := .v (.bool (Nt.inI x1 x2 (btw x1 x2 n)))) (.v (.bool true)) (by rw [show (Nt.inI x1 x2 (btw x1 x2 n)) = true from hs239]) ?_
              refine sy_drop 60 (unwanted (g := 3) (b := false) (c := true) (t := 59) (by kernel_rfl) (by kernel_rfl) (by kernel_rfl) (by kernel_rfl)) ?_
              refine sy_drop 61 (unwanted (g := 3) (b := false) (c := true) (t := 59) (by kernel_rfl) (by kernel_rfl) (by kernel_rfl) (by kernel_rfl)) ?_
              refine sy_drop 62 (unwanted (g := 3) (b := false) (c := true) (t := 59) (by kernel_rfl) (by kernel_rfl) (by kernel_rfl) (by kernel_rfl)) ?_
              refine sy_pure 63 (.v (.bool true)) ?_
              refine sy_pure 14 (.v (.bool true)) ?_
              refine sy_next 85 [(4, .adr 4 0), (5, .adr 5 0), (10, .adr 10 0), (11, .adr 11 0), (12, .v (.bool true)), (13, .v (.bool (Nt.inI y1 y2 (btw x1 x2 n)))), (14, .v (.bool true)), (36, .slc 36 0 3 3), (37, .v (.int .i64 3)), (38, .v (.int .i64 1))] [(4, ⟨28, a1.cs ++ a2.cs⟩), (5, ⟨28, b1.cs ++ b2.cs⟩), (10, ⟨26, r45.cs⟩), (11, ⟨28, r178.cs ++ r180.cs⟩), (36, ⟨26, r.cs ++ r45.cs ++ r51.cs⟩)] ?_
              refine sw_seq ?_
              refine sw_any [0, 0, 2, 6, 6, 30, 62, 127, 255, 511, 1023, 2047, 2047, 8191, 2047, 32767, 65535, 131071, 262143] [(0, []), (1, []), (2, []), (3, []), (4, []), (5, []), (6, []), (7, []), (8, []), (9, []), (10, []), (11, []), (12, []), (14, []), (13, []), (15, []), (16, []), (17, []), (18, [])] (by kernel_rfl) (by kernel_rfl) ?_
              refine sy_pure 64 (.v (.bool (Nt.inI y1 y2 (btw x1 x2 n)))) ?_
              refine sy_pure 65 (.v (.bool true)) ?_
              refine sy_pure 66 (.v (.bool true)) ?_
              refine sy_ldv 67 (.v (.agg #[.bool r178.s, .slice r178.m.a r178.m.n r178.m.c, .slice r178.d.a r178.d.n r178.d.c, .bool r180.s, .slice r180.m.a r180.m.n r180.m.c, .slice r180.d.a r180.d.n r180.d.c])) ty28 part_agg ?_ (hw := wants1 (g := 2) (b := true) (t := 66) (by kernel_rfl) (by kernel_rfl) (by kernel_rfl))
              refine sy_ldv 68 (.v (r45.v)) ty26 part_agg ?_ (hw := wants1 (g := 2) (b := true) (t := 66) (by kernel_rfl) (by kernel_rfl) (by kernel_rfl))
              refine sy_call 69 12 [.agg #[.bool r178.s, .slice r178.m.a r178.m.n r178.m.c, .slice r178.d.a r178.d.n r178.d.c, .bool r180.s, .slice r180.m.a r180.m.n r180.m.c, .slice r180.d.a r180.d.n r180.d.c], r45.v] ?_ (hw := wants1 (g := 2) (b := true) (t := 66) (by kernel_rfl) (by kernel_rfl) (by kernel_rfl))
              intro w249 u249 e249 d249
              have k252 := k_ivContains d249 (h179.ext (e235.trans (g237.ext.trans (e240.trans (g242.ext.trans (e244.trans (g246.ext.trans e249))))))).raw (h181.ext (e235.trans (g237.ext.trans (e240.trans (g242.ext.trans (e244.trans (g246.ext.trans e249))))))).raw (h46.ext (e50.trans (g54.ext.trans (e56.trans (e176.trans (g183.ext.trans (e235.trans (g237.ext.trans (e240.trans (g242.ext.trans (e244.trans (g246.ext.trans e249)))))))))))).raw (by omega) (by omega)
              with_reducible refine Post.mono k252 ?_
              clear k252
              rintro _ u250 g251 rfl
              refine sy_pure 70 (.v (.bool (Nt.inI (Nt.hi (Nt.lo x1 x2) (Nt.lo y1 y2)) (Nt.lo (Nt.hi x1 x2) (Nt.hi y1 y2)) (btw x1 x2 n)))) ?_
              refine sy_pure 71 (.v (.bool (!((Nt.inI y1 y2 (btw x1 x2 n)) == (Nt.inI (Nt.hi (Nt.lo x1 x2) (Nt.lo y1 y2)) (Nt.lo (Nt.hi x1 x2) (Nt.hi y1 y2)) (btw x1 x2 n)))))) ?_
              refine sy_eq 72 (x := .v (.bool (!((Nt.inI y1 y2 (btw x1 x2 n)) == (Nt.inI (Nt.hi (Nt.lo x1 x2) (Nt.lo y1 y2)) (Nt.lo (Nt.hi x1 x2) (Nt.hi y1 y2)) (btw x1 x2 n)))))) (.v (.bool false)) (by rw [show (!((Nt.inI y1 y2 (btw x1 x2 n)) == (Nt.inI (Nt.hi (Nt.lo x1 x2) (Nt.lo y1 y2)) (Nt.lo (Nt.hi x1 x2) (Nt.hi y1 y2)) (btw x1 x2 n)))) = false from (by have h9 := Nt.meet1 (q := (btw x1 x2 n)) hm177; rw [hs239, Bool.true_and] at h9; simp [h9])]) ?_
              refine sy_pure 73 (.v (.bool true)) ?_ (hw := wants1 (g := 8) (b := false) (t := 72) (by kernel_rfl) (by kernel_rfl) (by kernel_rfl))
              refine sy_pure 74 (.v (.bool true)) ?_ (hw := wants1 (g := 8) (b := false) (t := 72) (by kernel_rfl) (by kernel_rfl) (by kernel_rfl))
              refine sy_ldv 75 (.v (.agg #[.bool a1.s, .slice a1.m.a a1.m.n a1.m.c, .slice a1.d.a a1.d.n a1.d.c, .bool a2.s, .slice a2.m.a a2.m.n a2.m.c, .slice a2.d.a a2.d.n a2.d.c])) ty28 part_agg ?_ (hw := wants1 (g := 10) (b := true) (t := 74) (by kernel_rfl) (by kernel_rfl) (by kernel_rfl))
              refine sy_ldv 76 (.v (.agg #[.bool b1.s, .slice b1.m.a b1.m.n b1.m.c, .slice b1.d.a b1.d.n b1.d.c, .bool b2.s, .slice b2.m.a b2.m.n b2.m.c, .slice b2.d.a b2.d.n b2.d.c])) ty28 part_agg ?_ (hw := wants1 (g := 10) (b := true) (t := 74) (by kernel_rfl) (by kernel_rfl) (by kernel_rfl))
              refine sy_ldv 78 (.v (r45.v)) ty26 part_agg ?_ (hw := wants1 (g := 10) (b := true) (t := 74) (by kernel_rfl) (by kernel_rfl) (by kernel_rfl))
              refine sy_call 77 13 [.agg #[.bool a1.s, .slice a1.m.a a1.m.n a1.m.c, .slice a1.d.a a1.d.n a1.d.c, .bool a2.s, .slice a2.m.a a2.m.n a2.m.c, .slice a2.d.a a2.d.n a2.d.c], .agg #[.bool b1.s, .slice b1.m.a b1.m.n b1.m.c, .slice b1.d.a b1.d.n b1.d.c, .bool b2.s, .slice b2.m.a b2.m.n b2.m.c, .slice b2.d.a b2.d.n b2.d.c]] ?_ (hw := wants1 (g := 10) (b := true) (t := 74) (by kernel_rfl) (by kernel_rfl) (by kernel_rfl))
              intro w254 u254 e254 d254
              have k261 := k_ivHull d254 (ha1f.ext (e11.trans (g13.ext.trans (e22.trans (g24.ext.trans (e33.trans (g35.ext.trans (e44.trans (g48.ext.trans (e50.trans (g54.ext.trans (e56.trans (e176.trans (g183.ext.trans (e235.trans (g237.ext.trans (e240.trans (g242.ext.trans (e244.trans (g246.ext.trans (e249.trans (g251.ext.trans e254)))))))))))))))))))))) (ha2f.ext (e11.trans (g13.ext.trans (e22.trans (g24.ext.trans (e33.trans (g35.ext.trans (e44.trans (g48.ext.trans (e50.trans (g54.ext.trans (e56.trans (e176.trans (g183.ext.trans (e235.trans (g237.ext.trans (e240.trans (g242.ext.trans (e244.trans (g246.ext.trans (e249.trans (g251.ext.trans e254)))))))))))))))))))))) (hb1f.ext (e11.trans (g13.ext.trans (e22.trans (g24.ext.trans (e33.trans (g35.ext.trans (e44.trans (g48.ext.trans (e50.trans (g54.ext.trans (e56.trans (e176.trans (g183.ext.trans (e235.trans (g237.ext.trans (e240.trans (g242.ext.trans (e244.trans (g246.ext.trans (e249.trans (g251.ext.trans e254)))))))))))))))))))))) (hb2f.ext (e11.trans (g13.ext.trans (e22.trans (g24.ext.trans (e33.trans (g35.ext.trans (e44.trans (g48.ext.trans (e50.trans (g54.ext.trans (e56.trans (e176.trans (g183.ext.trans (e235.trans (g237.ext.trans (e240.trans (g242.ext.trans (e244.trans (g246.ext.trans (e249.trans (g251.ext.trans e254)))))))))))))))))))))) (by omega) (by omega)
              with_reducible refine Post.mono k261 ?_
              clear k261
              rintro _ u259 g260 ⟨r255, r257, rfl, h256, h258⟩
              refine sy_call 79 12 [.agg #[.bool r255.s, .slice r255.m.a r255.m.n r255.m.c, .slice r255.d.a r255.d.n r255.d.c, .bool r257.s, .slice r257.m.a r257.m.n r257.m.c, .slice r257.d.a r257.d.n r257.d.c], r45.v] ?_ (hw := wants1 (g := 10) (b := true) (t := 74) (by kernel_rfl) (by kernel_rfl) (by kernel_rfl))
              intro w262 u262 e262 d262
              have k265 := k_ivContains d262 (h256.ext e262).raw (h258.ext e262).raw (h46.ext (e50.trans (g54.ext.trans (e56.trans (e176.trans (g183.ext.trans (e235.trans (g237.ext.trans (e240.trans (g242.ext.trans (e244.trans (g246.ext.trans (e249.trans (g251.ext.trans (e254.trans (g260.ext.trans e262)))))))))))))))).raw (by omega) (by omega)
              with_reducible refine Post.mono k265 ?_
              clear k265
              rintro _ u263 g264 rfl
              refine sy_pure 80 (.v (.bool (!(Nt.inI (Nt.lo (Nt.lo x1 x2) (Nt.lo y1 y2)) (Nt.hi (Nt.hi x1 x2) (Nt.hi y1 y2)) (btw x1 x2 n))))) ?_ (hw := wants1 (g := 10) (b := true) (t := 74) (by kernel_rfl) (by kernel_rfl) (by kernel_rfl))
              refine sy_pure 81 (.v (.bool (!(Nt.inI (Nt.lo (Nt.lo x1 x2) (Nt.lo y1 y2)) (Nt.hi (Nt.hi x1 x2) (Nt.hi y1 y2)) (btw x1 x2 n))))) ?_ (hw := wants1 (g := 8) (b := false) (t := 72) (by kernel_rfl) (by kernel_rfl) (by kernel_rfl))
              refine sy_pure 82 (.v (.bool (!(Nt.inI (Nt.lo (Nt.lo x1 x2) (Nt.lo y1 y2)) (Nt.hi (Nt.hi x1 x2) (Nt.hi y1 y2)) (btw x1 x2 n))))) ?_
              refine sy_next 85 [(4, .adr 4 0), (5, .adr 5 0), (36, .slc 36 0 3 3), (37, .v (.int .i64 3)), (38, .v (.int .i64 1)), (82, .v (.bool (!(Nt.inI (Nt.lo (Nt.lo x1 x2) (Nt.lo y1 y2)) (Nt.hi (Nt.hi x1 x2) (Nt.hi y1 y2)) (btw x1 x2 n)))))] [(4, ⟨28, a1.cs ++ a2.cs⟩), (5, ⟨28, b1.cs ++ b2.cs⟩), (36, ⟨26, r.cs ++ r45.cs ++ r51.cs⟩)] ?_
              refine sw_cond (b := !(Nt.inI (Nt.lo (Nt.lo x1 x2) (Nt.lo y1 y2)) (Nt.hi (Nt.hi x1 x2) (Nt.hi y1 y2)) (btw x1 x2 n))) (by kernel_rfl) (fun hb => ?_) (fun hb => ?_)
              · exact absurd hb (by rw [show (!(Nt.inI (Nt.lo (Nt.lo x1 x2) (Nt.lo y1 y2)) (Nt.hi (Nt.hi x1 x2) (Nt.hi y1 y2)) (btw x1 x2 n))) = false from Nt.nott (Nt.hull_has (.inl hs239))]; decide)
              · clear hb
                refine sw_skip (mp_seq ?_)
                refine sw_reg ?_
                refine sy_pure 83 (.v (.int .i64 2)) ?_
                refine sy_pure 38 (.v (.int .i64 2)) ?_
                refine sy_end ?_
                exact ⟨3 - 2, by decide, St.of 85 [(4, .adr 4 0), (5, .adr 5 0), (36, .slc 36 0 3 3), (37, .v (.int .i64 3)), (38, .v (.int .i64 2))] [(4, ⟨28, a1.cs ++ a2.cs⟩), (5, ⟨28, b1.cs ++ b2.cs⟩), (36, ⟨26, r.cs ++ r45.cs ++ r51.cs⟩)], by exact weak_mk _ _ _, 2, by omega, rfl, rfl, (e56.trans (e176.trans (g183.ext.trans (e235.trans (g237.ext.trans (e240.trans (g242.ext.trans (e244.trans (g246.ext.trans (e249.trans (g251.ext.trans (e254.trans (g260.ext.trans (e262.trans g264.ext))))))))))))))⟩
            · refine sy_eq 51 (x := .v (.bool (Nt.inI x1 x2 (btw x1 x2 n)))) (.v (.bool false)) (by rw [hs239]) ?_
              refine sy_drop 52 (unwanted (g := 3) (b := true) (c := false) (t := 51) (by kernel_rfl) (by kernel_rfl) (by kernel_rfl) (by kernel_rfl)) ?_
              refine sy_drop 53 (unwanted (g := 3) (b := true) (c := false) (t := 51) (by kernel_rfl) (by kernel_rfl) (by kernel_rfl) (by kernel_rfl)) ?_
              refine sy_drop 54 (unwanted (g := 3) (b := true) (c := false) (t := 51) (by kernel_rfl) (by kernel_rfl) (by kernel_rfl) (by kernel_rfl)) ?_
              refine sy_pure 55 (.v (.bool false)) ?_
              refine sy_pure 13 (.v (.bool false)) ?_
              refine sy_next 85 [(4, .adr 4 0), (5, .adr 5 0), (10, .adr 10 0), (11, .adr 11 0), (12, .v (.bool true)), (13, .v (.bool false)), (36, .slc 36 0 3 3), (37, .v (.int .i64 3)), (38, .v (.int .i64 1))] [(4, ⟨28, a1.cs ++ a2.cs⟩), (5, ⟨28, b1.cs ++ b2.cs⟩), (10, ⟨26, r45.cs⟩), (11, ⟨28, r178.cs ++ r180.cs⟩), (36, ⟨26, r.cs ++ r45.cs ++ r51.cs⟩)] ?_
              refine sw_seq ?_
              refine sw_reg ?_
              refine sy_ldv 56 (.v (.agg #[.bool a1.s, .slice a1.m.a a1.m.n a1.m.c, .slice a1.d.a a1.d.n a1.d.c, .bool a2.s, .slice a2.m.a a2.m.n a2.m.c, .slice a2.d.a a2.d.n a2.d.c])) ty28 part_agg ?_
              refine sy_ldv 57 (.v (r45.v)) ty26 part_agg ?_
              refine sy_call 58 12 [.agg #[.bool a1.s, .slice a1.m.a a1.m.n a1.m.c, .slice a1.d.a a1.d.n a1.d.c, .bool a2.s, .slice a2.m.a a2.m.n a2.m.c, .slice a2.d.a a2.d.n a2.d.c], r45.v] ?_
              intro w266 u266 e266 d266
              have k269 := k_ivContains d266 (ha1f.ext (e11.trans (g13.ext.trans (e22.trans (g24.ext.trans (e33.trans (g35.ext.trans (e44.trans (g48.ext.trans (e50.trans (g54.ext.trans (e56.trans (e176.trans (g183.ext.trans (e235.trans (g237.ext.trans e266)))))))))))))))) (ha2f.ext (e11.trans (g13.ext.trans (e22.trans (g24.ext.trans (e33.trans (g35.ext.trans (e44.trans (g48.ext.trans (e50.trans (g54.ext.trans (e56.trans (e176.trans (g183.ext.trans (e235.trans (g237.ext.trans e266)))))))))))))))) (h46.ext (e50.trans (g54.ext.trans (e56.trans (e176.trans (g183.ext.trans (e235.trans (g237.ext.trans e266)))))))).raw (by omega) (by omega)
              with_reducible refine Post.mono k269 ?_
              clear k269
              rintro _ u267 g268 rfl
              refine sy_eq 59 (x := .v (.bool (Nt.inI x1 x2 (btw x1 x2 n)))) (.v (.bool false)) (by rw [show (Nt.inI x1 x2 (btw x1 x2 n)) = false from hs239]) ?_
              refine sy_ldv 60 (.v (.agg #[.bool b1.s, .slice b1.m.a b1.m.n b1.m.c, .slice b1.d.a b1.d.n b1.d.c, .bool b2.s, .slice b2.m.a b2.m.n b2.m.c, .slice b2.d.a b2.d.n b2.d.c])) ty28 part_agg ?_ (hw := wants1 (g := 3) (b := false) (t := 59) (by kernel_rfl) (by kernel_rfl) (by kernel_rfl))
              refine sy_ldv 61 (.v (r45.v)) ty26 part_agg ?_ (hw := wants1 (g := 3) (b := false) (t := 59) (by kernel_rfl) (by kernel_rfl) (by kernel_rfl))
              refine sy_call 62 12 [.agg #[.bool b1.s, .slice b1.m.a b1.m.n b1.m.c, .slice b1.d.a b1.d.n b1.d.c, .bool b2.s, .slice b2.m.a b2.m.n b2.m.c, .slice b2.d.a b2.d.n b2.d.c], r45.v] ?_ (hw := wants1 (g := 3) (b := false) (t := 59) (by kernel_rfl) (by kernel_rfl) (by kernel_rfl))
              intro w271 u271 e271 d271
              have k274 := k_ivContains d271 (hb1f.ext (e11.trans (g13.ext.trans (e22.trans (g24.ext.trans (e33.trans (g35.ext.trans (e44.trans (g48.ext.trans (e50.trans (g54.ext.trans (e56.trans (e176.trans (g183.ext.trans (e235.trans (g237.ext.trans (e266.trans (g268.ext.trans e271)))))))))))))))))) (hb2f.ext (e11.trans (g13.ext.trans (e22.trans (g24.ext.trans (e33.trans (g35.ext.trans (e44.trans (g48.ext.trans (e50.trans (g54.ext.trans (e56.trans (e176.trans (g183.ext.trans (e235.trans (g237.ext.trans (e266.trans (g268.ext.trans e271)))))))))))))))))) (h46.ext (e50.trans (g54.ext.trans (e56.trans (e176.trans (g183.ext.trans (e235.trans (g237.ext.trans (e266.trans (g268.ext.trans e271)))))))))).raw (by omega) (by omega)
              with_reducible refine Post.mono k274 ?_
              clear k274
              rintro _ u272 g273 rfl
              refine sy_pure 63 (.v (.bool (Nt.inI y1 y2 (btw x1 x2 n)))) ?_
              refine sy_pure 14 (.v (.bool (Nt.inI y1 y2 (btw x1 x2 n)))) ?_
              refine sy_next 85 [(4, .adr 4 0), (5, .adr 5 0), (10, .adr 10 0), (11, .adr 11 0), (12, .v (.bool true)), (13, .v (.bool false)), (14, .v (.bool (Nt.inI y1 y2 (btw x1 x2 n)))), (36, .slc 36 0 3 3), (37, .v (.int .i64 3)), (38, .v (.int .i64 1))] [(4, ⟨28, a1.cs ++ a2.cs⟩), (5, ⟨28, b1.cs ++ b2.cs⟩), (10, ⟨26, r45.cs⟩), (11, ⟨28, r178.cs ++ r180.cs⟩), (36, ⟨26, r.cs ++ r45.cs ++ r51.cs⟩)] ?_
              refine sw_seq ?_
              refine sw_any [0, 0, 2, 6, 6, 30, 62, 127, 255, 511, 1023, 2047, 2047, 8191, 2047, 32767, 65535, 131071, 262143] [(0, []), (1, []), (2, []), (3, []), (4, []), (5, []), (6, []), (7, []), (8, []), (9, []), (10, []), (11, []), (12, []), (14, []), (13, []), (15, []), (16, []), (17, []), (18, [])] (by kernel_rfl) (by kernel_rfl) ?_
              refine sy_pure 64 (.v (.bool false)) ?_
              refine sy_pure 65 (.v (.bool true)) ?_
              refine sy_pure 66 (.v (.bool true)) ?_
              refine sy_ldv 67 (.v (.agg #[.bool r178.s, .slice r178.m.a r178.m.n r178.m.c, .slice r178.d.a r178.d.n r178.d.c, .bool r180.s, .slice r180.m.a r180.m.n r180.m.c, .slice r180.d.a r180.d.n r180.d.c])) ty28 part_agg ?_ (hw := wants1 (g := 2) (b := true) (t := 66) (by kernel_rfl) (by kernel_rfl) (by kernel_rfl))
              refine sy_ldv 68 (.v (r45.v)) ty26 part_agg ?_ (hw := wants1 (g := 2) (b := true) (t := 66) (by kernel_rfl) (by kernel_rfl) (by kernel_rfl))
              refine sy_call 69 12 [.agg #[.bool r178.s, .slice r178.m.a r178.m.n r178.m.c, .slice r178.d.a r178.d.n r178.d.c, .bool r180.s, .slice r180.m.a r180.m.n r180.m.c, .slice r180.d.a r180.d.n r180.d.c], r45.v] ?_ (hw := wants1 (g := 2) (b := true) (t := 66) (by kernel_rfl) (by kernel_rfl) (by kernel_rfl))
              intro w275 u275 e275 d275
              have k278 := k_ivContains d275 (h179.ext (e235.trans (g237.ext.trans (e266.trans (g268.ext.trans (e271.trans (g273.ext.trans e275))))))).raw (h181.ext (e235.trans (g237.ext.trans (e266.trans (g268.ext.trans (e271.trans (g273.ext.trans e275))))))).raw (h46.ext (e50.trans (g54.ext.trans (e56.trans (e176.trans (g183.ext.trans (e235.trans (g237.ext.trans (e266.trans (g268.ext.trans (e271.trans (g273.ext.trans e275)))))))))))).raw (by omega) (by omega)
              with_reducible refine Post.mono k278 ?_
              clear k278
              rintro _ u276 g277 rfl
              refine sy_pure 70 (.v (.bool (Nt.inI (Nt.hi (Nt.lo x1 x2) (Nt.lo y1 y2)) (Nt.lo (Nt.hi x1 x2) (Nt.hi y1 y2)) (btw x1 x2 n)))) ?_
              refine sy_pure 71 (.v (.bool (!(false == (Nt.inI (Nt.hi (Nt.lo x1 x2) (Nt.lo y1 y2)) (Nt.lo (Nt.hi x1 x2) (Nt.hi y1 y2)) (btw x1 x2 n)))))) ?_
              refine sy_eq 72 (x := .v (.bool (!(false == (Nt.inI (Nt.hi (Nt.lo x1 x2) (Nt.lo y1 y2)) (Nt.lo (Nt.hi x1 x2) (Nt.hi y1 y2)) (btw x1 x2 n)))))) (.v (.bool false)) (by rw [show (!(false == (Nt.inI (Nt.hi (Nt.lo x1 x2) (Nt.lo y1 y2)) (Nt.lo (Nt.hi x1 x2) (Nt.hi y1 y2)) (btw x1 x2 n)))) = false from (by have h9 := Nt.meet1 (q := (btw x1 x2 n)) hm177; rw [hs239, Bool.false_and] at h9; simp [h9])]) ?_
              refine sy_pure 73 (.v (.bool (Nt.inI y1 y2 (btw x1 x2 n)))) ?_ (hw := wants1 (g := 8) (b := false) (t := 72) (by kernel_rfl) (by kernel_rfl) (by kernel_rfl))
              rcases Bool.eq_false_or_eq_true (Nt.inI y1 y2 (btw x1 x2 n)) with hs280 | hs280
              · refine sy_eq 74 (x := .v (.bool (Nt.inI y1 y2 (btw x1 x2 n)))) (.v (.bool true)) (by rw [hs280]) ?_ (hw := wants1 (g := 8) (b := false) (t := 72) (by kernel_rfl) (by kernel_rfl) (by kernel_rfl))
                refine sy_ldv 75 (.v (.agg #[.bool a1.s, .slice a1.m.a a1.m.n a1.m.c, .slice a1.d.a a1.d.n a1.d.c, .bool a2.s, .slice a2.m.a a2.m.n a2.m.c, .slice a2.d.a a2.d.n a2.d.c])) ty28 part_agg ?_ (hw := wants1 (g := 10) (b := true) (t := 74) (by kernel_rfl) (by kernel_rfl) (by kernel_rfl))
                refine sy_ldv 76 (.v (.agg #[.bool b1.s, .slice b1.m.a b1.m.n b1.m.c, .slice b1.d.a b1.d.n b1.d.c, .bool b2.s, .slice b2.m.a b2.m.n b2.m.c, .slice b2.d.a b2.d.n b2.d.c])) ty28 part_agg ?_ (hw := wants1 (g := 10) (b := true) (t := 74) (by kernel_rfl) (by kernel_rfl) (by kernel_rfl))
                refine sy_ldv 78 (.v (r45.v)) ty26 part_agg ?_ (hw := wants1 (g := 10) (b := true) (t := 74) (by kernel_rfl) (by kernel_rfl) (by kernel_rfl))
                refine sy_call 77 13 [.agg #[.bool a1.s, .slice a1.m.a a1.m.n a1.m.c, .slice a1.d.a a1.d.n a1.d.c, .bool a2.s, .slice a2.m.a a2.m.n a2.m.c, .slice a2.d.a a2.d.n a2.d.c], .agg #[.bool b1.s, .slice b1.m.a b1.m.n b1.m.c, .slice b1.d.a b1.d.n b1.d.c, .bool b2.s, .slice b2.m.a b2.m.n b2.m.c, .slice b2.d.a b2.d.n b2.d.c]] ?_ (hw := wants1 (g := 10) (b := true) (t := 74) (by kernel_rfl) (by kernel_rfl) (by kernel_rfl))
                intro w281 u281 e281 d281
                have k288 := k_ivHull d281 (ha1f.ext (e11.trans (g13.ext.trans (e22.trans (g24.ext.trans (e33.trans (g35.ext.trans (e44.trans (g48.ext.trans (e50.trans (g54.ext.trans (e56.trans (e176.trans (g183.ext.trans (e235.trans (g237.ext.trans (e266.trans (g268.ext.trans (e271.trans (g273.ext.trans (e275.trans (g277.ext.trans e281)))))))))))))))))))))) (ha2f.ext (e11.trans (g13.ext.trans (e22.trans (g24.ext.trans (e33.trans (g35.ext.trans (e44.trans (g48.ext.trans (e50.trans (g54.ext.trans (e56.trans (e176.trans (g183.ext.trans (e235.trans (g237.ext.trans (e266.trans (g268.ext.trans (e271.trans (g273.ext.trans (e275.trans (g277.ext.trans e281)))))))))))))))))))))) (hb1f.ext (e11.trans (g13.ext.trans (e22.trans (g24.ext.trans (e33.trans (g35.ext.trans (e44.trans (g48.ext.trans (e50.trans (g54.ext.trans (e56.trans (e176.trans (g183.ext.trans (e235.trans (g237.ext.trans (e266.trans (g268.ext.trans (e271.trans (g273.ext.trans (e275.trans (g277.ext.trans e281)))))))))))))))))))))) (hb2f.ext (e11.trans (g13.ext.trans (e22.trans (g24.ext.trans (e33.trans (g35.ext.trans (e44.trans (g48.ext.trans (e50.trans (g54.ext.trans (e56.trans (e176.trans (g183.ext.trans (e235.trans (g237.ext.trans (e266.trans (g268.ext.trans (e271.trans (g273.ext.trans (e275.trans (g277.ext.trans e281)))))))))))))))))))))) (by omega) (by omega)
                with_reducible refine Post.mono k288 ?_
                clear k288
                rintro _ u286 g287 ⟨r282, r284, rfl, h283, h285⟩
                refine sy_call 79 12 [.agg #[.bool r282.s, .slice r282.m.a r282.m.n r282.m.c, .slice r282.d.a r282.d.n r282.d.c, .bool r284.s, .slice r284.m.a r284.m.n r284.m.c, .slice r284.d.a r284.d.n r284.d.c], r45.v] ?_ (hw := wants1 (g := 10) (b := true) (t := 74) (by kernel_rfl) (by kernel_rfl) (by kernel_rfl))
                intro w289 u289 e289 d289
                have k292 := k_ivContains d289 (h283.ext e289).raw (h285.ext e289).raw (h46.ext (e50.trans (g54.ext.trans (e56.trans (e176.trans (g183.ext.trans (e235.trans (g237.ext.trans (e266.trans (g268.ext.trans (e271.trans (g273.ext.trans (e275.trans (g277.ext.trans (e281.trans (g287.ext.trans e289)))))))))))))))).raw (by omega) (by omega)
                with_reducible refine Post.mono k292 ?_
                clear k292
                rintro _ u290 g291 rfl
                refine sy_pure 80 (.v (.bool (!(Nt.inI (Nt.lo (Nt.lo x1 x2) (Nt.lo y1 y2)) (Nt.hi (Nt.hi x1 x2) (Nt.hi y1 y2)) (btw x1 x2 n))))) ?_ (hw := wants1 (g := 10) (b := true) (t := 74) (by kernel_rfl) (by kernel_rfl) (by kernel_rfl))
                refine sy_pure 81 (.v (.bool (!(Nt.inI (Nt.lo (Nt.lo x1 x2) (Nt.lo y1 y2)) (Nt.hi (Nt.hi x1 x2) (Nt.hi y1 y2)) (btw x1 x2 n))))) ?_ (hw := wants1 (g := 8) (b := false) (t := 72) (by kernel_rfl) (by kernel_rfl) (by kernel_rfl))
                refine sy_pure 82 (.v (.bool (!(Nt.inI (Nt.lo (Nt.lo x1 x2) (Nt.lo y1 y2)) (Nt.hi (Nt.hi x1 x2) (Nt.hi y1 y2)) (btw x1 x2 n))))) ?_
                refine sy_next 85 [(4, .adr 4 0), (5, .adr 5 0), (36, .slc 36 0 3 3), (37, .v (.int .i64 3)), (38, .v (.int .i64 1)), (82, .v (.bool (!(Nt.inI (Nt.lo (Nt.lo x1 x2) (Nt.lo y1 y2)) (Nt.hi (Nt.hi x1 x2) (Nt.hi y1 y2)) (btw x1 x2 n)))))] [(4, ⟨28, a1.cs ++ a2.cs⟩), (5, ⟨28, b1.cs ++ b2.cs⟩), (36, ⟨26, r.cs ++ r45.cs ++ r51.cs⟩)] ?_
                refine sw_cond (b := !(Nt.inI (Nt.lo (Nt.lo x1 x2) (Nt.lo y1 y2)) (Nt.hi (Nt.hi x1 x2) (Nt.hi y1 y2)) (btw x1 x2 n))) (by kernel_rfl) (fun hb => ?_) (fun hb => ?_)
                · exact absurd hb (by rw [show (!(Nt.inI (Nt.lo (Nt.lo x1 x2) (Nt.lo y1 y2)) (Nt.hi (Nt.hi x1 x2) (Nt.hi y1 y2)) (btw x1 x2 n))) = false from Nt.nott (Nt.hull_has (.inr hs280))]; decide)
                · clear hb
                  refine sw_skip (mp_seq ?_)
                  refine sw_reg ?_
                  refine sy_pure 83 (.v (.int .i64 2)) ?_
                  refine sy_pure 38 (.v (.int .i64 2)) ?_
                  refine sy_end ?_
                  exact ⟨3 - 2, by decide, St.of 85 [(4, .adr 4 0), (5, .adr 5 0), (36, .slc 36 0 3 3), (37, .v (.int .i64 3)), (38, .v (.int .i64 2))] [(4, ⟨28, a1.cs ++ a2.cs⟩), (5, ⟨28, b1.cs ++ b2.cs⟩), (36, ⟨26, r.cs ++ r45.cs ++ r51.cs⟩)], by exact weak_mk _ _ _, 2, by omega, rfl, rfl, (e56.trans (e176.trans (g183.ext.trans (e235.trans (g237.ext.trans (e266.trans (g268.ext.trans (e271.trans (g273.ext.trans (e275.trans (g277.ext.trans (e281.trans (g287.ext.trans (e289.trans g291.ext))))))))))))))⟩
              · refine sy_eq 74 (x := .v (.bool (Nt.inI y1 y2 (btw x1 x2 n)))) (.v (.bool false)) (by rw [hs280]) ?_ (hw := wants1 (g := 8) (b := false) (t := 72) (by kernel_rfl) (by kernel_rfl) (by kernel_rfl))
                refine sy_drop 75 (unwanted (g := 10) (b := true) (c := false) (t := 74) (by kernel_rfl) (by kernel_rfl) (by kernel_rfl) (by kernel_rfl)) ?_
                refine sy_drop 76 (unwanted (g := 10) (b := true) (c := false) (t := 74) (by kernel_rfl) (by kernel_rfl) (by kernel_rfl) (by kernel_rfl)) ?_
                refine sy_drop 78 (unwanted (g := 10) (b := true) (c := false) (t := 74) (by kernel_rfl) (by kernel_rfl) (by kernel_rfl) (by kernel_rfl)) ?_
                refine sy_drop 77 (unwanted (g := 10) (b := true) (c := false) (t := 74) (by kernel_rfl) (by kernel_rfl) (by kernel_rfl) (by kernel_rfl)) ?_
                refine sy_drop 79 (unwanted (g := 10) (b := true) (c := false) (t := 74) (by kernel_rfl) (by kernel_rfl) (by kernel_rfl) (by kernel_rfl)) ?_
                refine sy_drop 80 (unwanted (g := 10) (b := true) (c := false) (t := 74) (by kernel_rfl) (by kernel_rfl) (by kernel_rfl) (by kernel_rfl)) ?_
                refine sy_pure 81 (.v (.bool false)) ?_ (hw := wants1 (g := 8) (b := false) (t := 72) (by kernel_rfl) (by kernel_rfl) (by kernel_rfl))
                refine sy_pure 82 (.v (.bool false)) ?_
                refine sy_next 85 [(4, .adr 4 0), (5, .adr 5 0), (36, .slc 36 0 3 3), (37, .v (.int .i64 3)), (38, .v (.int .i64 1)), (82, .v (.bool false))] [(4, ⟨28, a1.cs ++ a2.cs⟩), (5, ⟨28, b1.cs ++ b2.cs⟩), (36, ⟨26, r.cs ++ r45.cs ++ r51.cs⟩)] ?_
                refine sw_false (by kernel_rfl) ?_
                refine sw_skip (mp_seq ?_)
                refine sw_reg ?_
                refine sy_pure 83 (.v (.int .i64 2)) ?_
                refine sy_pure 38 (.v (.int .i64 2)) ?_
                refine sy_end ?_
                exact ⟨3 - 2, by decide, St.of 85 [(4, .adr 4 0), (5, .adr 5 0), (36, .slc 36 0 3 3), (37, .v (.int .i64 3)), (38, .v (.int .i64 2))] [(4, ⟨28, a1.cs ++ a2.cs⟩), (5, ⟨28, b1.cs ++ b2.cs⟩), (36, ⟨26, r.cs ++ r45.cs ++ r51.cs⟩)], by exact weak_mk _ _ _, 2, by omega, rfl, rfl, (e56.trans (e176.trans (g183.ext.trans (e235.trans (g237.ext.trans (e266.trans (g268.ext.trans (e271.trans (g273.ext.trans (e275.trans g277.ext))))))))))⟩
        · change SW _ _ _ _ (St.of 85 [(4, .adr 4 0), (5, .adr 5 0), (36, .slc 36 0 3 3), (37, .v (.int .i64 3)), (38, .v (.int .i64 2))] [(4, ⟨28, a1.cs ++ a2.cs⟩), (5, ⟨28, b1.cs ++ b2.cs⟩), (36, ⟨26, r.cs ++ r45.cs ++ r51.cs⟩)]) _ _
          refine sw_seq ?_
          refine sw_reg ?_
          refine sy_pure 39 (.v (.bool true)) ?_
          refine sy_next 85 [(4, .adr 4 0), (5, .adr 5 0), (36, .slc 36 0 3 3), (37, .v (.int .i64 3)), (38, .v (.int .i64 2)), (39, .v (.bool true))] [(4, ⟨28, a1.cs ++ a2.cs⟩), (5, ⟨28, b1.cs ++ b2.cs⟩), (36, ⟨26, r.cs ++ r45.cs ++ r51.cs⟩)] ?_
          refine sw_seq ?_
          refine sw_true (by kernel_rfl) ?_
          refine sw_skip (mp_seq ?_)
          refine sw_seq ?_
          refine sw_block ?_
          refine sw_seq ?_
          refine sw_reg ?_
          refine sy_pure 40 (.adr 36 6) ?_
          refine sy_ldv 41 (.v (r51.v)) ty26 part_agg ?_
          refine sy_new 10 ⟨26, [.bool false, .slice none 0 0, .slice none 0 0]⟩ ?_
          refine sy_store ⟨26, r51.cs⟩ ty26 ?_
          refine sy_next 85 [(4, .adr 4 0), (5, .adr 5 0), (10, .adr 10 0), (36, .slc 36 0 3 3), (37, .v (.int .i64 3)), (38, .v (.int .i64 2))] [(4, ⟨28, a1.cs ++ a2.cs⟩), (5, ⟨28, b1.cs ++ b2.cs⟩), (10, ⟨26, r51.cs⟩), (36, ⟨26, r.cs ++ r45.cs ++ r51.cs⟩)] ?_
          refine sw_seq ?_
          refine sw_reg ?_
          refine sy_ldv 43 (.v (.agg #[.bool a1.s, .slice a1.m.a a1.m.n a1.m.c, .slice a1.d.a a1.d.n a1.d.c, .bool a2.s, .slice a2.m.a a2.m.n a2.m.c, .slice a2.d.a a2.d.n a2.d.c])) ty28 part_agg ?_
          refine sy_ldv 44 (.v (.agg #[.bool b1.s, .slice b1.m.a b1.m.n b1.m.c, .slice b1.d.a b1.d.n b1.d.c, .bool b2.s, .slice b2.m.a b2.m.n b2.m.c, .slice b2.d.a b2.d.n b2.d.c])) ty28 part_agg ?_
          refine sy_call 45 11 [.agg #[.bool a1.s, .slice a1.m.a a1.m.n a1.m.c, .slice a1.d.a a1.d.n a1.d.c, .bool a2.s, .slice a2.m.a a2.m.n a2.m.c, .slice a2.d.a a2.d.n a2.d.c], .agg #[.bool b1.s, .slice b1.m.a b1.m.n b1.m.c, .slice b1.d.a b1.d.n b1.d.c, .bool b2.s, .slice b2.m.a b2.m.n b2.m.c, .slice b2.d.a b2.d.n b2.d.c]] ?_
          intro w293 u293 e293 d293
          have k301 := k_ivMeet d293 (ha1f.ext (e11.trans (g13.ext.trans (e22.trans (g24.ext.trans (e33.trans (g35.ext.trans (e44.trans (g48.ext.trans (e50.trans (g54.ext.trans (e56.trans e293)))))))))))) (ha2f.ext (e11.trans (g13.ext.trans (e22.trans (g24.ext.trans (e33.trans (g35.ext.trans (e44.trans (g48.ext.trans (e50.trans (g54.ext.trans (e56.trans e293)))))))))))) (hb1f.ext (e11.trans (g13.ext.trans (e22.trans (g24.ext.trans (e33.trans (g35.ext.trans (e44.trans (g48.ext.trans (e50.trans (g54.ext.trans (e56.trans e293)))))))))))) (hb2f.ext (e11.trans (g13.ext.trans (e22.trans (g24.ext.trans (e33.trans (g35.ext.trans (e44.trans (g48.ext.trans (e50.trans (g54.ext.trans (e56.trans e293)))))))))))) (by omega) (by omega)
          with_reducible refine Post.mono k301 ?_
          clear k301
          rintro _ u299 g300 (⟨hm294, rfl⟩ | ⟨hm294, r295, r297, rfl, h296, h298⟩)
          · skip
            refine sy_pure 42 (.v (.tuple #[.agg #[.bool false, .slice none 0 0, .slice none 0 0, .bool false, .slice none 0 0, .slice none 0 0], .bool false])) ?_
            refine sy_pure 46 (.v (.agg #[.bool false, .slice none 0 0, .slice none 0 0, .bool false, .slice none 0 0, .slice none 0 0])) ?_
            refine sy_pure 47 (.v (.bool false)) ?_
            refine sy_new 11 ⟨28, [.bool false, .slice none 0 0, .slice none 0 0, .bool false, .slice none 0 0, .slice none 0 0]⟩ ?_
            refine sy_store ⟨28, [.bool false, .slice none 0 0, .slice none 0 0, .bool false, .slice none 0 0, .slice none 0 0]⟩ ty28 ?_
            refine sy_pure 12 (.v (.bool false)) ?_
            refine sy_next 85 [(4, .adr 4 0), (5, .adr 5 0), (10, .adr 10 0), (11, .adr 11 0), (12, .v (.bool false)), (36, .slc 36 0 3 3), (37, .v (.int .i64 3)), (38, .v (.int .i64 2))] [(4, ⟨28, a1.cs ++ a2.cs⟩), (5, ⟨28, b1.cs ++ b2.cs⟩), (10, ⟨26, r51.cs⟩), (11, ⟨28, [.bool false, .slice none 0 0, .slice none 0 0, .bool false, .slice none 0 0, .slice none 0 0]⟩), (36, ⟨26, r.cs ++ r45.cs ++ r51.cs⟩)] ?_
            refine sw_seq ?_
            refine sw_reg ?_
            refine sy_ldv 48 (.v (.agg #[.bool a1.s, .slice a1.m.a a1.m.n a1.m.c, .slice a1.d.a a1.d.n a1.d.c, .bool a2.s, .slice a2.m.a a2.m.n a2.m.c, .slice a2.d.a a2.d.n a2.d.c])) ty28 part_agg ?_
            refine sy_ldv 49 (.v (r51.v)) ty26 part_agg ?_
            refine sy_call 50 12 [.agg #[.bool a1.s, .slice a1.m.a a1.m.n a1.m.c, .slice a1.d.a a1.d.n a1.d.c, .bool a2.s, .slice a2.m.a a2.m.n a2.m.c, .slice a2.d.a a2.d.n a2.d.c], r51.v] ?_
            intro w302 u302 e302 d302
            have k305 := k_ivContains d302 (ha1f.ext (e11.trans (g13.ext.trans (e22.trans (g24.ext.trans (e33.trans (g35.ext.trans (e44.trans (g48.ext.trans (e50.trans (g54.ext.trans (e56.trans (e293.trans (g300.ext.trans e302)))))))))))))) (ha2f.ext (e11.trans (g13.ext.trans (e22.trans (g24.ext.trans (e33.trans (g35.ext.trans (e44.trans (g48.ext.trans (e50.trans (g54.ext.trans (e56.trans (e293.trans (g300.ext.trans e302)))))))))))))) (h52.ext (e56.trans (e293.trans (g300.ext.trans e302)))).raw (by omega) (by omega)
            with_reducible refine Post.mono k305 ?_
            clear k305
            rintro _ u303 g304 rfl
            rcases Bool.eq_false_or_eq_true (Nt.inI x1 x2 (btw y1 y2 n)) with hs306 | hs306
            · refine sy_eq 51 (x := .v (.bool (Nt.inI x1 x2 (btw y1 y2 n)))) (.v (.bool true)) (by rw [hs306]) ?_
              refine sy_ldv 52 (.v (.agg #[.bool b1.s, .slice b1.m.a b1.m.n b1.m.c, .slice b1.d.a b1.d.n b1.d.c, .bool b2.s, .slice b2.m.a b2.m.n b2.m.c, .slice b2.d.a b2.d.n b2.d.c])) ty28 part_agg ?_ (hw := wants1 (g := 3) (b := true) (t := 51) (by kernel_rfl) (by kernel_rfl) (by kernel_rfl))
              refine sy_ldv 53 (.v (r51.v)) ty26 part_agg ?_ (hw := wants1 (g := 3) (b := true) (t := 51) (by kernel_rfl) (by kernel_rfl) (by kernel_rfl))
              refine sy_call 54 12 [.agg #[.bool b1.s, .slice b1.m.a b1.m.n b1.m.c, .slice b1.d.a b1.d.n b1.d.c, .bool b2.s, .slice b2.m.a b2.m.n b2.m.c, .slice b2.d.a b2.d.n b2.d.c], r51.v] ?_ (hw := wants1 (g := 3) (b := true) (t := 51) (by kernel_rfl) (by kernel_rfl) (by kernel_rfl))
              intro w307 u307 e307 d307
              have k310 := k_ivContains d307 (hb1f.ext (e11.trans (g13.ext.trans (e22.trans (g24.ext.trans (e33.trans (g35.ext.trans (e44.trans (g48.ext.trans (e50.trans (g54.ext.trans (e56.trans (e293.trans (g300.ext.trans (e302.trans (g304.ext.trans e307)))))))))))))))) (hb2f.ext (e11.trans (g13.ext.trans (e22.trans (g24.ext.trans (e33.trans (g35.ext.trans (e44.trans (g48.ext.trans (e50.trans (g54.ext.trans (e56.trans (e293.trans (g300.ext.trans (e302.trans (g304.ext.trans e307)))))))))))))))) (h52.ext (e56.trans (e293.trans (g300.ext.trans (e302.trans (g304.ext.trans e307)))))).raw (by omega) (by omega)
              with_reducible refine Post.mono k310 ?_
              clear k310
              rintro _ u308 g309 rfl
              refine sy_pure 55 (.v (.bool (Nt.inI y1 y2 (btw y1 y2 n)))) ?_
              refine sy_pure 13 (.v (.bool (Nt.inI y1 y2 (btw y1 y2 n)))) ?_
              refine sy_next 85 [(4, .adr 4 0), (5, .adr 5 0), (10, .adr 10 0), (11, .adr 11 0), (12, .v (.bool false)), (13, .v (.bool (Nt.inI y1 y2 (btw y1 y2 n)))), (36, .slc 36 0 3 3), (37, .v (.int .i64 3)), (38, .v (.int .i64 2))] [(4, ⟨28, a1.cs ++ a2.cs⟩), (5, ⟨28, b1.cs ++ b2.cs⟩), (10, ⟨26, r51.cs⟩), (11, ⟨28, [.bool false, .slice none 0 0, .slice none 0 0, .bool false, .slice none 0 0, .slice none 0 0]⟩), (36, ⟨26, r.cs ++ r45.cs ++ r51.cs⟩)] ?_
              refine sw_seq ?_
              refine sw_reg ?_
              refine sy_ldv 56 (.v (.agg #[.bool a1.s, .slice a1.m.a a1.m.n a1.m.c, .slice a1.d.a a1.d.n a1.d.c, .bool a2.s, .slice a2.m.a a2.m.n a2.m.c, .slice a2.d.a a2.d.n a2.d.c])) ty28 part_agg ?_
              refine sy_ldv 57 (.v (r51.v)) ty26 part_agg ?_
              refine sy_call 58 12 [.agg #[.bool a1.s, .slice a1.m.a a1.m.n a1.m.c, .slice a1.d.a a1.d.n a1.d.c, .bool a2.s, .slice a2.m.a a2.m.n a2.m.c, .slice a2.d.a a2.d.n a2.d.c], r51.v] ?_
              intro w311 u311 e311 d311
              have k314 := k_ivContains d311 (ha1f.ext (e11.trans (g13.ext.trans (e22.trans (g24.ext.trans (e33.trans (g35.ext.trans (e44.trans (g48.ext.trans (e50.trans (g54.ext.trans (e56.trans (e293.trans (g300.ext.trans (e302.trans (g304.ext.trans (e307.trans (g309.ext.trans e311)))))))))))))))))) (ha2f.ext (e11.trans (g13.ext.trans (e22.trans (g24.ext.trans (e33.trans (g35.ext.trans (e44.trans (g48.ext.trans (e50.trans (g54.ext.trans (e56.trans (e293.trans (g300.ext.trans (e302.trans (g304.ext.trans (e307.trans (g309.ext.trans e311)))))))))))))))))) (h52.ext (e56.trans (e293.trans (g300.ext.trans (e302.trans (g304.ext.trans (e307.trans (g309.ext.trans e311)))))))).raw (by omega) (by omega)
              with_reducible refine Post.mono k314 ?_
              clear k314
              rintro _ u312 g313 rfl
              refine sy_eq 59 (x := .v (.bool (Nt.inI x1 x2 (btw y1 y2 n)))) (.v (.bool true)) (by rw [show (Nt.inI x1 x2 (btw y1 y2 n)) = true from hs306]) ?_
              refine sy_drop 60 (unwanted (g := 3) (b := false) (c := true) (t := 59) (by kernel_rfl) (by kernel_rfl) (by kernel_rfl) (by kernel_rfl)) ?_
              refine sy_drop 61 (unwanted (g := 3) (b := false) (c := true) (t := 59) (by kernel_rfl) (by kernel_rfl) (by kernel_rfl) (by kernel_rfl)) ?_
              refine sy_drop 62 (unwanted (g := 3) (b := false) (c := true) (t := 59) (by kernel_rfl) (by kernel_rfl) (by kernel_rfl) (by kernel_rfl)) ?_
              refine sy_pure 63 (.v (.bool true)) ?_
              refine sy_pure 14 (.v (.bool true)) ?_
              refine sy_next 85 [(4, .adr 4 0), (5, .adr 5 0), (10, .adr 10 0), (11, .adr 11 0), (12, .v (.bool false)), (13, .v (.bool (Nt.inI y1 y2 (btw y1 y2 n)))), (14, .v (.bool true)), (36, .slc 36 0 3 3), (37, .v (.int .i64 3)), (38, .v (.int .i64 2))] [(4, ⟨28, a1.cs ++ a2.cs⟩), (5, ⟨28, b1.cs ++ b2.cs⟩), (10, ⟨26, r51.cs⟩), (11, ⟨28, [.bool false, .slice none 0 0, .slice none 0 0, .bool false, .slice none 0 0, .slice none 0 0]⟩), (36, ⟨26, r.cs ++ r45.cs ++ r51.cs⟩)] ?_
              refine sw_seq ?_
              refine sw_any [0, 0, 2, 6, 6, 30, 62, 127, 255, 511, 1023, 2047, 2047, 8191, 2047, 32767, 65535, 131071, 262143] [(0, []), (1, []), (2, []), (3, []), (4, []), (5, []), (6, []), (7, []), (8, []), (9, []), (10, []), (11, []), (12, []), (14, []), (13, []), (15, []), (16, []), (17, []), (18, [])] (by kernel_rfl) (by kernel_rfl) ?_
              refine sy_pure 64 (.v (.bool (Nt.inI y1 y2 (btw y1 y2 n)))) ?_
              refine sy_pure 65 (.v (.bool false)) ?_
              refine sy_pure 66 (.v (.bool false)) ?_
              refine sy_drop 67 (unwanted (g := 2) (b := true) (c := false) (t := 66) (by kernel_rfl) (by kernel_rfl) (by kernel_rfl) (by kernel_rfl)) ?_
              refine sy_drop 68 (unwanted (g := 2) (b := true) (c := false) (t := 66) (by kernel_rfl) (by kernel_rfl) (by kernel_rfl) (by kernel_rfl)) ?_
              refine sy_drop 69 (unwanted (g := 2) (b := true) (c := false) (t := 66) (by kernel_rfl) (by kernel_rfl) (by kernel_rfl) (by kernel_rfl)) ?_
              refine sy_pure 70 (.v (.bool false)) ?_
              refine sy_pure 71 (.v (.bool (!((Nt.inI y1 y2 (btw y1 y2 n)) == false)))) ?_
              refine sy_eq 72 (x := .v (.bool (!((Nt.inI y1 y2 (btw y1 y2 n)) == false)))) (.v (.bool false)) (by rw [show (!((Nt.inI y1 y2 (btw y1 y2 n)) == false)) = false from (by have h9 := Nt.meet0 (q := (btw y1 y2 n)) hm294; rw [hs306, Bool.true_and] at h9; simp [h9])]) ?_
              refine sy_pure 73 (.v (.bool true)) ?_ (hw := wants1 (g := 8) (b := false) (t := 72) (by kernel_rfl) (by kernel_rfl) (by kernel_rfl))
              refine sy_pure 74 (.v (.bool true)) ?_ (hw := wants1 (g := 8) (b := false) (t := 72) (by kernel_rfl) (by kernel_rfl) (by kernel_rfl))
              refine sy_ldv 75 (.v (.agg #[.bool a1.s, .slice a1.m.a a1.m.n a1.m.c, .slice a1.d.a a1.d.n a1.d.c, .bool a2.s, .slice a2.m.a a2.m.n a2.m.c, .slice a2.d.a a2.d.n a2.d.c])) ty28 part_agg ?_ (hw := wants1 (g := 10) (b := true) (t := 74) (by kernel_rfl) (by kernel_rfl) (by kernel_rfl))
              refine sy_ldv 76 (.v (.agg #[.bool b1.s, .slice b1.m.a b1.m.n b1.m.c, .slice b1.d.a b1.d.n b1.d.c, .bool b2.s, .slice b2.m.a b2.m.n b2.m.c, .slice b2.d.a b2.d.n b2.d.c])) ty28 part_agg ?_ (hw := wants1 (g := 10) (b := true) (t := 74) (by kernel_rfl) (by kernel_rfl) (by kernel_rfl))
              refine sy_ldv 78 (.v (r51.v)) ty26 part_agg ?_ (hw := wants1 (g := 10) (b := true) (t := 74) (by kernel_rfl) (by kernel_rfl) (by kernel_rfl))
              refine sy_call 77 13 [.agg #[.bool a1.s, .slice a1.m.a a1.m.n a1.m.c, .slice a1.d.a a1.d.n a1.d.c, .bool a2.s, .slice a2.m.a a2.m.n a2.m.c, .slice a2.d.a a2.d.n a2.d.c], .agg #[.bool b1.s, .slice b1.m.a b1.m.n b1.m.c, .slice b1.d.a b1.d.n b1.d.c, .bool b2.s, .slice b2.m.a b2.m.n b2.m.c, .slice b2.d.a b2.d.n b2.d.c]] ?_ (hw := wants1 (g := 10) (b := true) (t := 74) (by kernel_rfl) (by kernel_rfl) (by kernel_rfl))
              intro w317 u317 e317 d317
              have k324 := k_ivHull d317 (ha1f.ext (e11.trans (g13.ext.trans (e22.trans (g24.ext.trans (e33.trans (g35.ext.trans (e44.trans (g48.ext.trans (e50.trans (g54.ext.trans (e56.trans (e293.trans (g300.ext.trans (e302.trans (g304.ext.trans (e307.trans (g309.ext.trans (e311.trans (g313.ext.trans e317)))))))))))))))))))) (ha2f.ext (e11.trans (g13.ext.trans (e22.trans (g24.ext.trans (e33.trans (g35.ext.trans (e44.trans (g48.ext.trans (e50.trans (g54.ext.trans (e56.trans (e293.trans (g300.ext.trans (e302.trans (g304.ext.trans (e307.trans (g309.ext.trans (e311.trans (g313.ext.trans e317)))))))))))))))))))) (hb1f.ext (e11.trans (g13.ext.trans (e22.trans (g24.ext.trans (e33.trans (g35.ext.trans (e44.trans (g48.ext.trans (e50.trans (g54.ext.trans (e56.trans (e293.trans (g300.ext.trans (e302.trans (g304.ext.trans (e307.trans (g309.ext.trans (e311.trans (g313.ext.trans e317)))))))))))))))))))) (hb2f.ext (e11.trans (g13.ext.trans (e22.trans (g24.ext.trans (e33.trans (g35.ext.trans (e44.trans (g48.ext.trans (e50.trans (g54.ext.trans (e56.trans (e293.trans (g300.ext.trans (e302.trans (g304.ext.trans (e307.trans (g309.ext.trans (e311.trans (g313.ext.trans e317)))))))))))))))))))) (by omega) (by omega)
              with_reducible refine Post.mono k324 ?_
              clear k324
              rintro _ u322 g323 ⟨r318, r320, rfl, h319, h321⟩
              refine sy_call 79 12 [.agg #[.bool r318.s, .slice r318.m.a r318.m.n r318.m.c, .slice r318.d.a r318.d.n r318.d.c, .bool r320.s, .slice r320.m.a r320.m.n r320.m.c, .slice r320.d.a r320.d.n r320.d.c], r51.v] ?_ (hw := wants1 (g := 10) (b := true) (t := 74) (by kernel_rfl) (by kernel_rfl) (by kernel_rfl))
              intro w325 u325 e325 d325
              have k328 := k_ivContains d325 (h319.ext e325).raw (h321.ext e325).raw (h52.ext (e56.trans (e293.trans (g300.ext.trans (e302.trans (g304.ext.trans (e307.trans (g309.ext.trans (e311.trans (g313.ext.trans (e317.trans (g323.ext.trans e325)))))))))))).raw (by omega) (by omega)
              with_reducible refine Post.mono k328 ?_
              clear k328
              rintro _ u326 g327 rfl
              refine sy_pure 80 (.v (.bool (!(Nt.inI (Nt.lo (Nt.lo x1 x2) (Nt.lo y1 y2)) (Nt.hi (Nt.hi x1 x2) (Nt.hi y1 y2)) (btw y1 y2 n))))) ?_ (hw := wants1 (g := 10) (b := true) (t := 74) (by kernel_rfl) (by kernel_rfl) (by kernel_rfl))
              refine sy_pure 81 (.v (.bool (!(Nt.inI (Nt.lo (Nt.lo x1 x2) (Nt.lo y1 y2)) (Nt.hi (Nt.hi x1 x2) (Nt.hi y1 y2)) (btw y1 y2 n))))) ?_ (hw := wants1 (g := 8) (b := false) (t := 72) (by kernel_rfl) (by kernel_rfl) (by kernel_rfl))
              refine sy_pure 82 (.v (.bool (!(Nt.inI (Nt.lo (Nt.lo x1 x2) (Nt.lo y1 y2)) (Nt.hi (Nt.hi x1 x2) (Nt.hi y1 y2)) (btw y1 y2 n))))) ?_
              refine sy_next 85 [(4, .adr 4 0), (5, .adr 5 0), (36, .slc 36 0 3 3), (37, .v (.int .i64 3)), (38, .v (.int .i64 2)), (82, .v (.bool (!(Nt.inI (Nt.lo (Nt.lo x1 x2) (Nt.lo y1 y2)) (Nt.hi (Nt.hi x1 x2) (Nt.hi y1 y2)) (btw y1 y2 n)))))] [(4, ⟨28, a1.cs ++ a2.cs⟩), (5, ⟨28, b1.cs ++ b2.cs⟩), (36, ⟨26, r.cs ++ r45.cs ++ r51.cs⟩)] ?_
              refine sw_cond (b := !(Nt.inI (Nt.lo (Nt.lo x1 x2) (Nt.lo y1 y2)) (Nt.hi (Nt.hi x1 x2) (Nt.hi y1 y2)) (btw y1 y2 n))) (by kernel_rfl) (fun hb => ?_) (fun hb => ?_)
              · exact absurd hb (by rw [show (!(Nt.inI (Nt.lo (Nt.lo x1 x2) (Nt.lo y1 y2)) (Nt.hi (Nt.hi x1 x2) (Nt.hi y1 y2)) (btw y1 y2 n))) = false from Nt.nott (Nt.hull_has (.inl hs306))]; decide)
              · clear hb
                refine sw_skip (mp_seq ?_)
                refine sw_reg ?_
                refine sy_pure 83 (.v (.int .i64 3)) ?_
                refine sy_pure 38 (.v (.int .i64 3)) ?_
                refine sy_end ?_
                exact ⟨3 - 3, by decide, St.of 85 [(4, .adr 4 0), (5, .adr 5 0), (36, .slc 36 0 3 3), (37, .v (.int .i64 3)), (38, .v (.int .i64 3))] [(4, ⟨28, a1.cs ++ a2.cs⟩), (5, ⟨28, b1.cs ++ b2.cs⟩), (36, ⟨26, r.cs ++ r45.cs ++ r51.cs⟩)], by exact weak_mk _ _ _, 3, by omega, rfl, rfl, (e56.trans (e293.trans (g300.ext.trans (e302.trans (g304.ext.trans (e307.trans (g309.ext.trans (e311.trans (g313.ext.trans (e317.trans (g323.ext.trans (e325.trans g327.ext))))))))))))⟩
            · refine sy_eq 51 (x := .v (.bool (Nt.inI x1 x2 (btw y1 y2 n)))) (.v (.bool false)) (by rw [hs306]) ?_
              refine sy_drop 52 (unwanted (g := 3) (b := true) (c := false) (t := 51) (by kernel_rfl) (by kernel_rfl) (by kernel_rfl) (by kernel_rfl)) ?_
              refine sy_drop 53 (unwanted (g := 3) (b := true) (c := false) (t := 51) (by kernel_rfl) (by kernel_rfl) (by kernel_rfl) (by kernel_rfl)) ?_
              refine sy_drop 54 (unwanted (g := 3) (b := true) (c := false) (t := 51) (by kernel_rfl) (by kernel_rfl) (by kernel_rfl) (by kernel_rfl)) ?_
              refine sy_pure 55 (.v (.bool false)) ?_
              refine sy_pure 13 (.v (.bool false)) ?_
              refine sy_next 85 [(4, .adr 4 0), (5, .adr 5 0), (10, .adr 10 0), (11, .adr 11 0), (12, .v (.bool false)), (13, .v (.bool false)), (36, .slc 36 0 3 3), (37, .v (.int .i64 3)), (38, .v (.int .i64 2))] [(4, ⟨28, a1.cs ++ a2.cs⟩), (5, ⟨28, b1.cs ++ b2.cs⟩), (10, ⟨26, r51.cs⟩), (11, ⟨28, [.bool false, .slice none 0 0, .slice none 0 0, .bool false, .slice none 0 0, .slice none 0 0]⟩), (36, ⟨26, r.cs ++ r45.cs ++ r51.cs⟩)] ?_
              refine sw_seq ?_
              refine sw_reg ?_
              refine sy_ldv 56 (.v (.agg #[.bool a1.s, .slice a1.m.a a1.m.n a1.m.c, .slice a1.d.a a1.d.n a1.d.c, .bool a2.s, .slice a2.m.a a2.m.n a2.m.c, .slice a2.d.a a2.d.n a2.d.c])) ty28 part_agg ?_
              refine sy_ldv 57 (.v (r51.v)) ty26 part_agg ?_
              refine sy_call 58 12 [.agg #[.bool a1.s, .slice a1.m.a a1.m.n a1.m.c, .slice a1.d.a a1.d.n a1.d.c, .bool a2.s, .slice a2.m.a a2.m.n a2.m.c, .slice a2.d.a a2.d.n a2.d.c], r51.v] ?_
              intro w329 u329 e329 d329
              have k332 := k_ivContains d329 (ha1f.ext (e11.trans (g13.ext.trans (e22.trans (g24.ext.trans (e33.trans (g35.ext.trans (e44.trans (g48.ext.trans (e50.trans (g54.ext.trans (e56.trans (e293.trans (g300.ext.trans (e302.trans (g304.ext.trans e329)))))))))))))))) (ha2f.ext (e11.trans (g13.ext.trans (e22.trans (g24.ext.trans (e33.trans (g35.ext.trans (e44.trans (g48.ext.trans (e50.trans (g54.ext.trans (e56.trans (e293.trans (g300.ext.trans (e302.trans (g304.ext.trans e329)))))))))))))))) (h52.ext (e56.trans (e293.trans (g300.ext.trans (e302.trans (g304.ext.trans e329)))))).raw (by omega) (by omega)
              with_reducible refine Post.mono k332 ?_
              clear k332
              rintro _ u330 g331 rfl
              refine sy_eq 59 (x := .v (.bool (Nt.inI x1 x2 (btw y1 y2 n)))) (.v (.bool false)) (by rw [show (Nt.inI x1 x2 (btw y1 y2 n)) = false from hs306]) ?_
              refine sy_ldv 60 (.v (.agg #[.bool b1.s, .slice b1.m.a b1.m.n b1.m.c, .slice b1.d.a b1.d.n b1.d.c, .bool b2.s, .slice b2.m.a b2.m.n b2.m.c, .slice b2.d.a b2.d.n b2.d.c])) ty28 part_agg ?_ (hw := wants1 (g := 3) (b := false) (t := 59) (by kernel_rfl) (by kernel_rfl) (by kernel_rfl))
              refine sy_ldv 61 (.v (r51.v)) ty26 part_agg ?_ (hw := wants1 (g := 3) (b := false) (t := 59) (by kernel_rfl) (by kernel_rfl) (by kernel_rfl))
              refine sy_call 62 12 [.agg #[.bool b1.s, .slice b1.m.a b1.m.n b1.m.c, .slice b1.d.a b1.d.n b1.d.c, .bool b2.s, .slice b2.m.a b2.m.n b2.m.c, .slice b2.d.a b2.d.n b2.d.c], r51.v] ?_ (hw := wants1 (g := 3) (b := false) (t := 59) (by kernel_rfl) (by kernel_rfl) (by kernel_rfl))
              intro w334 u334 e334 d334
              have k337 := k_ivContains d334 (hb1f.ext (e11.trans (g13.ext.trans (e22.trans (g24.ext.trans (e33.trans (g35.ext.trans (e44.trans (g48.ext.trans (e50.trans (g54.ext.trans (e56.trans (e293.trans (g300.ext.trans (e302.trans (g304.ext.trans (e329.trans (g331.ext.trans e334)))))))))))))))))) (hb2f.ext (e11.trans (g13.ext.trans (e22.trans (g24.ext.trans (e33.trans (g35.ext.trans (e44.trans (g48.ext.trans (e50.trans (g54.ext.trans (e56.trans (e293.trans (g300.ext.trans (e302.trans (g304.ext.trans (e329.trans (g331.ext.trans e334)))))))))))))))))) (h52.ext (e56.trans (e293.trans (g300.ext.trans (e302.trans (g304.ext.trans (e329.trans (g331.ext.trans e334)))))))).raw (by omega) (by omega)
              with_reducible refine Post.mono k337 ?_
              clear k337
              rintro _ u335 g336 rfl
              refine sy_pure 63 (.v (.bool (Nt.inI y1 y2 (btw y1 y2 n)))) ?_
              refine sy_pure 14 (.v (.bool (Nt.inI y1 y2 (btw y1 y2 n)))) ?_
              refine sy_next 85 [(4, .adr 4 0), (5, .adr 5 0), (10, .adr 10 0), (11, .adr 11 0), (12, .v (.bool false)), (13, .v (.bool false)), (14, .v (.bool (Nt.inI y1 y2 (btw y1 y2 n)))), (36, .slc 36 0 3 3), (37, .v (.int .i64 3)), (38, .v (.int .i64 2))] [(4, ⟨28, a1.cs ++ a2.cs⟩), (5, ⟨28, b1.cs ++ b2.cs⟩), (10, ⟨26, r51.cs⟩), (11, ⟨28, [.bool false, .slice none 0 0, .slice none 0 0, .bool false, .slice none 0 0, .slice none 0 0]⟩), (36, ⟨26, r.cs ++ r45.cs ++ r51.cs⟩)] ?_
              refine sw_seq ?_
              refine sw_any [0, 0, 2, 6, 6, 30, 62, 127, 255, 511, 1023, 2047, 2047, 8191, 2047, 32767, 65535, 131071, 262143] [(0, []), (1, []), (2, []), (3, []), (4, []), (5, []), (6, []), (7, []), (8, []), (9, []), (10, []), (11, []), (12, []), (14, []), (13, []), (15, []), (16, []), (17, []), (18, [])] (by kernel_rfl) (by kernel_rfl) ?_
              refine sy_pure 64 (.v (.bool false)) ?_
              refine sy_pure 65 (.v (.bool false)) ?_
              refine sy_pure 66 (.v (.bool false)) ?_
              refine sy_drop 67 (unwanted (g := 2) (b := true) (c := false) (t := 66) (by kernel_rfl) (by kernel_rfl) (by kernel_rfl) (by kernel_rfl)) ?_
              refine sy_drop 68 (unwanted (g := 2) (b := true) (c := false) (t := 66) (by kernel_rfl) (by kernel_rfl) (by kernel_rfl) (by kernel_rfl)) ?_
              refine sy_drop 69 (unwanted (g := 2) (b := true) (c := false) (t := 66) (by kernel_rfl) (by kernel_rfl) (by kernel_rfl) (by kernel_rfl)) ?_
              refine sy_pure 70 (.v (.bool false)) ?_
              refine sy_pure 71 (.v (.bool (!(false == false)))) ?_
              refine sy_eq 72 (x := .v (.bool (!(false == false)))) (.v (.bool false)) (by rw [show (!(false == false)) = false from (by have h9 := Nt.meet0 (q := (btw y1 y2 n)) hm294; rw [hs306, Bool.false_and] at h9; simp [h9])]) ?_
              refine sy_pure 73 (.v (.bool (Nt.inI y1 y2 (btw y1 y2 n)))) ?_ (hw := wants1 (g := 8) (b := false) (t := 72) (by kernel_rfl) (by kernel_rfl) (by kernel_rfl))
              rcases Bool.eq_false_or_eq_true (Nt.inI y1 y2 (btw y1 y2 n)) with hs339 | hs339
              · refine sy_eq 74 (x := .v (.bool (Nt.inI y1 y2 (btw y1 y2 n)))) (.v (.bool true)) (by rw [hs339]) ?_ (hw := wants1 (g := 8) (b := false) (t := 72) (by kernel_rfl) (by kernel_rfl) (by kernel_rfl))
                refine sy_ldv 75 (.v (.agg #[.bool a1.s, .slice a1.m.a a1.m.n a1.m.c, .slice a1.d.a a1.d.n a1.d.c, .bool a2.s, .slice a2.m.a a2.m.n a2.m.c, .slice a2.d.a a2.d.n a2.d.c])) ty28 part_agg ?_ (hw := wants1 (g := 10) (b := true) (t := 74) (by kernel_rfl) (by kernel_rfl) (by kernel_rfl))
                refine sy_ldv 76 (.v (.agg #[.bool b1.s, .slice b1.m.a b1.m.n b1.m.c, .slice b1.d.a b1.d.n b1.d.c, .bool b2.s, .slice b2.m.a b2.m.n b2.m.c, .slice b2.d.a b2.d.n b2.d.c])) ty28 part_agg ?_ (hw := wants1 (g := 10) (b := true) (t := 74) (by kernel_rfl) (by kernel_rfl) (by kernel_rfl))
                refine sy_ldv 78 (.v (r51.v)) ty26 part_agg ?_ (hw := wants1 (g := 10) (b := true) (t := 74) (by kernel_rfl) (by kernel_rfl) (by kernel_rfl))
                refine sy_call 77 13 [.agg #[.bool a1.s, .slice a1.m.a a1.m.n a1.m.c, .slice a1.d.a a1.d.n a1.d.c, .bool a2.s, .slice a2.m.a a2.m.n a2.m.c, .slice a2.d.a a2.d.n a2.d.c], .agg #[.bool b1.s, .slice b1.m.a b1.m.n b1.m.c, .slice b1.d.a b1.d.n b1.d.c, .bool b2.s, .slice b2.m.a b2.m.n b2.m.c, .slice b2.d.a b2.d.n b2.d.c]] ?_ (hw := wants1 (g := 10) (b := true) (t := 74) (by kernel_rfl) (by kernel_rfl) (by kernel_rfl))
                intro w340 u340 e340 d340
                have k347 := k_ivHull d340 (ha1f.ext (e11.trans (g13.ext.trans (e22.trans (g24.ext.trans (e33.trans (g35.ext.trans (e44.trans (g48.ext.trans (e50.trans (g54.ext.trans (e56.trans (e293.trans (g300.ext.trans (e302.trans (g304.ext.trans (e329.trans (g331.ext.trans (e334.trans (g336.ext.trans e340)))))))))))))))))))) (ha2f.ext (e11.trans (g13.ext.trans (e22.trans (g24.ext.trans (e33.trans (g35.ext.trans (e44.trans (g48.ext.trans (e50.trans (g54.ext.trans (e56.trans (e293.trans (g300.ext.trans (e302.trans (g304.ext.trans (e329.trans (g331.ext.trans (e334.trans (g336.ext.trans e340)))))))))))))))))))) (hb1f.ext (e11.trans (g13.ext.trans (e22.trans (g24.ext.trans (e33.trans (g35.ext.trans (e44.trans (g48.ext.trans (e50.trans (g54.ext.trans (e56.trans (e293.trans (g300.ext.trans (e302.trans (g304.ext.trans (e329.trans (g331.ext.trans (e334.trans (g336.ext.trans e340)))))))))))))))))))) (hb2f.ext (e11.trans (g13.ext.trans (e22.trans (g24.ext.trans (e33.trans (g35.ext.trans (e44.trans (g48.ext.trans (e50.trans (g54.ext.trans (e56.trans (e293.trans (g300.ext.trans (e302.trans (g304.ext.trans (e329.trans (g331.ext.trans (e334.trans (g336.ext.trans e340)))))))))))))))))))) (by omega) (by omega)
                with_reducible refine Post.mono k347 ?_
                clear k347
                rintro _ u345 g346 ⟨r341, r343, rfl, h342, h344⟩
                refine sy_call 79 12 [.agg #[.bool r341.s, .slice r341.m.a r341.m.n r341.m.c, .slice r341.d.a r341.d.n r341.d.c, .bool r343.s, .slice r343.m.a r343.m.n r343.m.c, .slice r343.d.a r343.d.n r343.d.c], r51.v] ?_ (hw := wants1 (g := 10) (b := true) (t := 74) (by kernel_rfl) (by kernel_rfl) (by kernel_rfl))
                intro w348 u348 e348 d348
                have k351 := k_ivContains d348 (h342.ext e348).raw (h344.ext e348).raw (h52.ext (e56.trans (e293.trans (g300.ext.trans (e302.trans (g304.ext.trans (e329.trans (g331.ext.trans (e334.trans (g336.ext.trans (e340.trans (g346.ext.trans e348)))))))))))).raw (by omega) (by omega)
                with_reducible refine Post.mono k351 ?_
                clear k351
                rintro _ u349 g350 rfl
                refine sy_pure 80 (.v (.bool (!(Nt.inI (Nt.lo (Nt.lo x1 x2) (Nt.lo y1 y2)) (Nt.hi (Nt.hi x1 x2) (Nt.hi y1 y2)) (btw y1 y2 n))))) ?_ (hw := wants1 (g := 10) (b := true) (t := 74) (by kernel_rfl) (by kernel_rfl) (by kernel_rfl))
                refine sy_pure 81 (.v (.bool (!(Nt.inI (Nt.lo (Nt.lo x1 x2) (Nt.lo y1 y2)) (Nt.hi (Nt.hi x1 x2) (Nt.hi y1 y2)) (btw y1 y2 n))))) ?_ (hw := wants1 (g := 8) (b := false) (t := 72) (by kernel_rfl) (by kernel_rfl) (by kernel_rfl))
                refine sy_pure 82 (.v (.bool (!(Nt.inI (Nt.lo (Nt.lo x1 x2) (Nt.lo y1 y2)) (Nt.hi (Nt.hi x1 x2) (Nt.hi y1 y2)) (btw y1 y2 n))))) ?_
                refine sy_next 85 [(4, .adr 4 0), (5, .adr 5 0), (36, .slc 36 0 3 3), (37, .v (.int .i64 3)), (38, .v (.int .i64 2)), (82, .v (.bool (!(Nt.inI (Nt.lo (Nt.lo x1 x2) (Nt.lo y1 y2)) (Nt.hi (Nt.hi x1 x2) (Nt.hi y1 y2)) (btw y1 y2 n)))))] [(4, ⟨28, a1.cs ++ a2.cs⟩), (5, ⟨28, b1.cs ++ b2.cs⟩), (36, ⟨26, r.cs ++ r45.cs ++ r51.cs⟩)] ?_
                refine sw_cond (b := !(Nt.inI (Nt.lo (Nt.lo x1 x2) (Nt.lo y1 y2)) (Nt.hi (Nt.hi x1 x2) (Nt.hi y1 y2)) (btw y1 y2 n))) (by kernel_rfl) (fun hb => ?_) (fun hb => ?_)
                · exact absurd hb (by rw [show (!(Nt.inI (Nt.lo (Nt.lo x1 x2) (Nt.lo y1 y2)) (Nt.hi (Nt.hi x1 x2) (Nt.hi y1 y2)) (btw y1 y2 n))) = false from Nt.nott (Nt.hull_has (.inr hs339))]; decide)
                · clear hb
                  refine sw_skip (mp_seq ?_)
                  refine sw_reg ?_
                  refine sy_pure 83 (.v (.int .i64 3)) ?_
                  refine sy_pure 38 (.v (.int .i64 3)) ?_
                  refine sy_end ?_
                  exact ⟨3 - 3, by decide, St.of 85 [(4, .adr 4 0), (5, .adr 5 0), (36, .slc 36 0 3 3), (37, .v (.int .i64 3)), (38, .v (.int .i64 3))] [(4, ⟨28, a1.cs ++ a2.cs⟩), (5, ⟨28, b1.cs ++ b2.cs⟩), (36, ⟨26, r.cs ++ r45.cs ++ r51.cs⟩)], by exact weak_mk _ _ _, 3, by omega, rfl, rfl, (e56.trans (e293.trans (g300.ext.trans (e302.trans (g304.ext.trans (e329.trans (g331.ext.trans (e334.trans (g336.ext.trans (e340.trans (g346.ext.trans (e348.trans g350.ext))))))))))))⟩
              · refine sy_eq 74 (x := .v (.bool (Nt.inI y1 y2 (btw y1 y2 n)))) (.v (.bool false)) (by rw [hs339]) ?_ (hw := wants1 (g := 8) (b := false) (t := 72) (by kernel_rfl) (by kernel_rfl) (by kernel_rfl))
                refine sy_drop 75 (unwanted (g := 10) (b := true) (c := false) (t := 74) (by kernel_rfl) (by kernel_rfl) (by kernel_rfl) (by kernel_rfl)) ?_
                refine sy_drop 76 (unwanted (g := 10) (b := true) (c := false) (t := 74) (by kernel_rfl) (by kernel_rfl) (by kernel_rfl) (by kernel_rfl)) ?_
                refine sy_drop 78 (unwanted (g := 10) (b := true) (c := false) (t := 74) (by kernel_rfl) (by kernel_rfl) (by kernel_rfl) (by kernel_rfl)) ?_
                refine sy_drop 77 (unwanted (g := 10) (b := true) (c := false) (t := 74) (by kernel_rfl) (by kernel_rfl) (by kernel_rfl) (by kernel_rfl)) ?_
                refine sy_drop 79 (unwanted (g := 10) (b := true) (c := false) (t := 74) (by kernel_rfl) (by kernel_rfl) (by kernel_rfl) (by kernel_rfl)) ?_
                refine sy_drop 80 (unwanted (g := 10) (b := true) (c := false) (t := 74) (by kernel_rfl) (by kernel_rfl) (by kernel_rfl) (by kernel_rfl)) ?_
                refine sy_pure 81 (.v (.bool false)) ?_ (hw := wants1 (g := 8) (b := false) (t := 72) (by kernel_rfl) (by kernel_rfl) (by kernel_rfl))
                refine sy_pure 82 (.v (.bool false)) ?_
                refine sy_next 85 [(4, .adr 4 0), (5, .adr 5 0), (36, .slc 36 0 3 3), (37, .v (.int .i64 3)), (38, .v (.int .i64 2)), (82, .v (.bool false))] [(4, ⟨28, a1.cs ++ a2.cs⟩), (5, ⟨28, b1.cs ++ b2.cs⟩), (36, ⟨26, r.cs ++ r45.cs ++ r51.cs⟩)] ?_
                refine sw_false (by kernel_rfl) ?_
                refine sw_skip (mp_seq ?_)
                refine sw_reg ?_
                refine sy_pure 83 (.v (.int .i64 3)) ?_
                refine sy_pure 38 (.v (.int .i64 3)) ?_
                refine sy_end ?_
                exact ⟨3 - 3, by decide, St.of 85 [(4, .adr 4 0), (5, .adr 5 0), (36, .slc 36 0 3 3), (37, .v (.int .i64 3)), (38, .v (.int .i64 3))] [(4, ⟨28, a1.cs ++ a2.cs⟩), (5, ⟨28, b1.cs ++ b2.cs⟩), (36, ⟨26, r.cs ++ r45.cs ++ r51.cs⟩)], by exact weak_mk _ _ _, 3, by omega, rfl, rfl, (e56.trans (e293.trans (g300.ext.trans (e302.trans (g304.ext.trans (e329.trans (g331.ext.trans (e334.trans g336.ext))))))))⟩
          · skip
            refine sy_pure 42 (.v (.tuple #[.agg #[.bool r295.s, .slice r295.m.a r295.m.n r295.m.c, .slice r295.d.a r295.d.n r295.d.c, .bool r297.s, .slice r297.m.a r297.m.n r297.m.c, .slice r297.d.a r297.d.n r297.d.c], .bool true])) ?_
            refine sy_pure 46 (.v (.agg #[.bool r295.s, .slice r295.m.a r295.m.n r295.m.c, .slice r295.d.a r295.d.n r295.d.c, .bool r297.s, .slice r297.m.a r297.m.n r297.m.c, .slice r297.d.a r297.d.n r297.d.c])) ?_
            refine sy_pure 47 (.v (.bool true)) ?_
            refine sy_new 11 ⟨28, [.bool false, .slice none 0 0, .slice none 0 0, .bool false, .slice none 0 0, .slice none 0 0]⟩ ?_
            refine sy_store ⟨28, r295.cs ++ r297.cs⟩ ty28 ?_
            refine sy_pure 12 (.v (.bool true)) ?_
            refine sy_next 85 [(4, .adr 4 0), (5, .adr 5 0), (10, .adr 10 0), (11, .adr 11 0), (12, .v (.bool true)), (36, .slc 36 0 3 3), (37, .v (.int .i64 3)), (38, .v (.int .i64 2))] [(4, ⟨28, a1.cs ++ a2.cs⟩), (5, ⟨28, b1.cs ++ b2.cs⟩), (10, ⟨26, r51.cs⟩), (11, ⟨28, r295.cs ++ r297.cs⟩), (36, ⟨26, r.cs ++ r45.cs ++ r51.cs⟩)] ?_
            refine sw_seq ?_
            refine sw_reg ?_
            refine sy_ldv 48 (.v (.agg #[.bool a1.s, .slice a1.m.a a1.m.n a1.m.c, .slice a1.d.a a1.d.n a1.d.c, .bool a2.s, .slice a2.m.a a2.m.n a2.m.c, .slice a2.d.a a2.d.n a2.d.c])) ty28 part_agg ?_
            refine sy_ldv 49 (.v (r51.v)) ty26 part_agg ?_
            refine sy_call 50 12 [.agg #[.bool a1.s, .slice a1.m.a a1.m.n a1.m.c, .slice a1.d.a a1.d.n a1.d.c, .bool a2.s, .slice a2.m.a a2.m.n a2.m.c, .slice a2.d.a a2.d.n a2.d.c], r51.v] ?_
            intro w352 u352 e352 d352
            have k355 := k_ivContains d352 (ha1f.ext (e11.trans (g13.ext.trans (e22.trans (g24.ext.trans (e33.trans (g35.ext.trans (e44.trans (g48.ext.trans (e50.trans (g54.ext.trans (e56.trans (e293.trans (g300.ext.trans e352)))))))))))))) (ha2f.ext (e11.trans (g13.ext.trans (e22.trans (g24.ext.trans (e33.trans (g35.ext.trans (e44.trans (g48.ext.trans (e50.trans (g54.ext.trans (e56.trans (e293.trans (g300.ext.trans e352)))))))))))))) (h52.ext (e56.trans (e293.trans (g300.ext.trans e352)))).raw (by omega) (by omega)
            with_reducible refine Post.mono k355 ?_
            clear k355
            rintro _ u353 g354 rfl
            rcases Bool.eq_false_or_eq_true (Nt.inI x1 x2 (btw y1 y2 n)) with hs356 | hs356
            · refine sy_eq 51 (x := .v (.bool (Nt.inI x1 x2 (btw y1 y2 n)))) (.v (.bool true)) (by rw [hs356]) ?_
              refine sy_ldv 52 (.v (.agg #[.bool b1.s, .slice b1.m.a b1.m.n b1.m.c, .slice b1.d.a b1.d.n b1.d.c, .bool b2.s, .slice b2.m.a b2.m.n b2.m.c, .slice b2.d.a b2.d.n b2.d.c])) ty28 part_agg ?_ (hw := wants1 (g := 3) (b := true) (t := 51) (by kernel_rfl) (by kernel_rfl) (by kernel_rfl))
              refine sy_ldv 53 (.v (r51.v)) ty26 part_agg ?_ (hw := wants1 (g := 3) (b := true) (t := 51) (by kernel_rfl) (by kernel_rfl) (by kernel_rfl))
              refine sy_call 54 12 [.agg #[.bool b1.s, .slice b1.m.a b1.m.n b1.m.c, .slice b1.d.a b1.d.n b1.d.c, .bool b2.s, .slice b2.m.a b2.m.n b2.m.c, .slice b2.d.a b2.d.n b2.d.c], r51.v] ?_ (hw := wants1 (g := 3) (b := true) (t := 51) (by kernel_rfl) (by kernel_rfl) (by kernel_rfl))
              intro w357 u357 e357 d357
              have k360 := k_ivContains d357 (hb1f.ext (e11.trans (g13.ext.trans (e22.trans (g24.ext.trans (e33.trans (g35.ext.trans (e44.trans (g48.ext.trans (e50.trans (g54.ext.trans (e56.trans (e293.trans (g300.ext.trans (e352.trans (g354.ext.trans e357)))))))))))))))) (hb2f.ext (e11.trans (g13.ext.trans (e22.trans (g24.ext.trans (e33.trans (g35.ext.trans (e44.trans (g48.ext.trans (e50.trans (g54.ext.trans (e56.trans (e293.trans (g300.ext.trans (e352.trans (g354.ext.trans e357)))))))))))))))) (h52.ext (e56.trans (e293.trans (g300.ext.trans (e352.trans (g354.ext.trans e357)))))).raw (by omega) (by omega)
              with_reducible refine Post.mono k360 ?_
              clear k360
              rintro _ u358 g359 rfl
              refine sy_pure 55 (.v (.bool (Nt.inI y1 y2 (btw y1 y2 n)))) ?_
              refine sy_pure 13 (.v (.bool (Nt.inI y1 y2 (btw y1 y2 n)))) ?_
              refine sy_next 85 [(4, .adr 4 0), (5, .adr 5 0), (10, .adr 10 0), (11, .adr 11 0), (12, .v (.bool true)), (13, .v (.bool (Nt.inI y1 y2 (btw y1 y2 n)))), (36, .slc 36 0 3 3), (37, .v (.int .i64 3)), (38, .v (.int .i64 2))] [(4, ⟨28, a1.cs ++ a2.cs⟩), (5, ⟨28, b1.cs ++ b2.cs⟩), (10, ⟨26, r51.cs⟩), (11, ⟨28, r295.cs ++ r297.cs⟩), (36, ⟨26, r.cs ++ r45.cs ++ r51.cs⟩)] ?_
              refine sw_seq ?_
              refine sw_reg ?_
              refine sy_ldv 56 (.v (.agg #[.bool a1.s, .slice a1.m.a a1.m.n a1.m.c, .slice a1.d.a a1.d.n a1.d.c, .bool a2.s, .slice a2.m.a a2.m.n a2.m.c, .slice a2.d.a a2.d.n a2.d.c])) ty28 part_agg ?_
              refine sy_ldv 57 (.v (r51.v)) ty26 part_agg ?_
              refine sy_call 58 12 [.agg #[.bool a1.s, .slice a1.m.a a1.m.n a1.m.c, .slice a1.d.a a1.d.n a1.d.c, .bool a2.s, .slice a2.m.a a2.m.n a2.m.c, .slice a2.d.a a2.d.n a2.d.c], r51.v] ?_
              intro w361 u361 e361 d361
              have k364 := k_ivContains d361 (ha1f.ext (e11.trans (g13.ext.trans (e22.trans (g24.ext.trans (e33.trans (g35.ext.trans (e44.trans (g48.ext.trans (e50.trans (g54.ext.trans (e56.trans (e293.trans (g300.ext.trans (e352.trans (g354.ext.trans (e357.trans (g359.ext.trans e361)))))))))))))))))) (ha2f.ext (e11.trans (g13.ext.trans (e22.trans (g24.ext.trans (e33.trans (g35.ext.trans (e44.trans (g48.ext.trans (e50.trans (g54.ext.trans (e56.trans (e293.trans (g300.ext.trans (e352.trans (g354.ext.trans (e357.trans (g359.ext.trans e361)))))))))))))))))) (h52.ext (e56.trans (e293.trans (g300.ext.trans (e352.trans (g354.ext.trans (e357.trans (g359.ext.trans e361)))))))).raw (by omega) (by omega)
              with_reducible refine Post.mono k364 ?_
              clear k364
              rintro _ u362 g363 rfl
              refine sy_eq 59 (x := .v (.bool (Nt.inI x1 x2 (btw y1 y2 n)))) (.v (.bool true)) (by rw [show (Nt.inI x1 x2 (btw y1 y2 n)) = true from hs356]) ?_
              refine sy_drop 60 (unwanted (g := 3) (b := false) (c := true) (t := 59) (by kernel_rfl) (by kernel_rfl) (by kernel_rfl) (by kernel_rfl)) ?_
              refine sy_drop 61 (unwanted (g := 3) (b := false) (c := true) (t := 59) (by kernel_rfl) (by kernel_rfl) (by kernel_rfl) (by kernel_rfl)) ?_
              refine sy_drop 62 (unwanted (g := 3) (b := false) (c := true) (t := 59) (by kernel_rfl) (by kernel_rfl) (by kernel_rfl) (by kernel_rfl)) ?_
              refine sy_pure 63 (.v (.bool true)) ?_
              refine sy_pure 14 (.v (.bool true)) ?_
              refine sy_next 85 [(4, .adr 4 0), (5, .adr 5 0), (10, .adr 10 0), (11, .adr 11 0), (12, .v (.bool true)), (13, .v (.bool (Nt.inI y1 y2 (btw y1 y2 n)))), (14, .v (.bool true)), (36, .slc 36 0 3 3), (37, .v (.int .i64 3)), (38, .v (.int .i64 2))] [(4, ⟨28, a1.cs ++ a2.cs⟩), (5, ⟨28, b1.cs ++ b2.cs⟩), (10, ⟨26, r51.cs⟩), (11, ⟨28, r295.cs ++ r297.cs⟩), (36, ⟨26, r.cs ++ r45.cs ++ r51.cs⟩)] ?_
              refine sw_seq ?_
              refine sw_any [0, 0, 2, 6, 6, 30, 62, 127, 255, 511, 1023, 2047, 2047, 8191, 2047, 32767, 65535, 131071, 262143] [(0, []), (1, []), (2, []), (3, []), (4, []), (5, []), (6, []), (7, []), (8, []), (9, []), (10, []), (11, []), (12, []), (14, []), (13, []), (15, []), (16, []), (17, []), (18, [])] (by kernel_rfl) (by kernel_rfl) ?_
              refine sy_pure 64 (.v (.bool (Nt.inI y1 y2 (btw y1 y2 n)))) ?_
              refine sy_pure 65 (.v (.bool true)) ?_
              refine sy_pure 66 (.v (.bool true)) ?_
              refine sy_ldv 67 (.v (.agg #[.bool r295.s, .slice r295.m.a r295.m.n r295.m.c, .slice r295.d.a r295.d.n r295.d.c, .bool r297.s, .slice r297.m.a r297.m.n r297.m.c, .slice r297.d.a r297.d.n r297.d.c])) ty28 part_agg ?_ (hw := wants1 (g := 2) (b := true) (t := 66) (by kernel_rfl) (by kernel_rfl) (by kernel_rfl))
              refine sy_ldv 68 (.v (r51.v)) ty26 part_agg ?_ (hw := wants1 (g := 2) (b := true) (t := 66) (by kernel_rfl) (by kernel_rfl) (by kernel_rfl))
              refine sy_call 69 12 [.agg #[.bool r295.s, .slice r295.m.a r295.m.n r295.m.c, .slice r295.d.a r295.d.n r295.d.c, .bool r297.s, .slice r297.m.a r297.m.n r297.m.c, .slice r297.d.a r297.d.n r297.d.c], r51.v] ?_ (hw := wants1 (g := 2) (b := true) (t := 66) (by kernel_rfl) (by kernel_rfl) (by kernel_rfl))
              intro w366 u366 e366 d366
              have k369 := k_ivContains d366 (h296.ext (e352.trans (g354.ext.trans (e357.trans (g359.ext.trans (e361.trans (g363.ext.trans e366))))))).raw (h298.ext (e352.trans (g354.ext.trans (e357.trans (g359.ext.trans (e361.trans (g363.ext.trans e366))))))).raw (h52.ext (e56.trans (e293.trans (g300.ext.trans (e352.trans (g354.ext.trans (e357.trans (g359.ext.trans (e361.trans (g363.ext.trans e366)))))))))).raw (by omega) (by omega)
              with_reducible refine Post.mono k369 ?_
              clear k369
              rintro _ u367 g368 rfl
              refine sy_pure 70 (.v (.bool (Nt.inI (Nt.hi (Nt.lo x1 x2) (Nt.lo y1 y2)) (Nt.lo (Nt.hi x1 x2) (Nt.hi y1 y2)) (btw y1 y2 n)))) ?_
              refine sy_pure 71 (.v (.bool (!((Nt.inI y1 y2 (btw y1 y2 n)) == (Nt.inI (Nt.hi (Nt.lo x1 x2) (Nt.lo y1 y2)) (Nt.lo (Nt.hi x1 x2) (Nt.hi y1 y2)) (btw y1 y2 n)))))) ?_
              refine sy_eq 72 (x := .v (.bool (!((Nt.inI y1 y2 (btw y1 y2 n)) == (Nt.inI (Nt.hi (Nt.lo x1 x2) (Nt.lo y1 y2)) (Nt.lo (Nt.hi x1 x2) (Nt.hi y1 y2)) (btw y1 y2 n)))))) (.v (.bool false)) (by rw [show (!((Nt.inI y1 y2 (btw y1 y2 n)) == (Nt.inI (Nt.hi (Nt.lo x1 x2) (Nt.lo y1 y2)) (Nt.lo (Nt.hi x1 x2) (Nt.hi y1 y2)) (btw y1 y2 n)))) = false from (by have h9 := Nt.meet1 (q := (btw y1 y2 n)) hm294; rw [hs356, Bool.true_and] at h9; simp [h9])]) ?_
              refine sy_pure 73 (.v (.bool true)) ?_ (hw := wants1 (g := 8) (b := false) (t := 72) (by kernel_rfl) (by kernel_rfl) (by kernel_rfl))
              refine sy_pure 74 (.v (.bool true)) ?_ (hw := wants1 (g := 8) (b := false) (t := 72) (by kernel_rfl) (by kernel_rfl) (by kernel_rfl))
              refine sy_ldv 75 (.v (.agg #[.bool a1.s, .slice a1.m.a a1.m.n a1.m.c, .slice a1.d.a a1.d.n a1.d.c, .bool a2.s, .slice a2.m.a a2.m.n a2.m.c, .slice a2.d.a a2.d.n a2.d.c])) ty28 part_agg ?_ (hw := wants1 (g := 10) (b := true) (t := 74) (by kernel_rfl) (by kernel_rfl) (by kernel_rfl))
              refine sy_ldv 76 (.v (.agg #[.bool b1.s, .slice b1.m.a b1.m.n b1.m.c, .slice b1.d.a b1.d.n b1.d.c, .bool b2.s, .slice b2.m.a b2.m.n b2.m.c, .slice b2.d.a b2.d.n b2.d.c])) ty28 part_agg ?_ (hw := wants1 (g := 10) (b := true) (t := 74) (by kernel_rfl) (by kernel_rfl) (by kernel_rfl))
              refine sy_ldv 78 (.v (r51.v)) ty26 part_agg ?_ (hw := wants1 (g := 10) (b := true) (t := 74) (by kernel_rfl) (by kernel_rfl) (by kernel_rfl))
              refine sy_call 77 13 [.agg #[.bool a1.s, .slice a1.m.a a1.m.n a1.m.c, .slice a1.d.a a1.d.n a1.d.c, .bool a2.s, .slice a2.m.a a2.m.n a2.m.c, .slice a2.d.a a2.d.n a2.d.c], .agg #[.bool b1.s, .slice b1.m.a b1.m.n b1.m.c, .slice b1.d.a b1.d.n b1.d.c, .bool b2.s, .slice b2.m.a b2.m.n b2.m.c, .slice b2.d.a b2.d.n b2.d.c]] ?_ (hw := wants1 (g := 10) (b := true) (t := 74) (by kernel_rfl) (by kernel_rfl) (by kernel_rfl))
              intro w371 u371 e371 d371
              have k378 := k_ivHull d371 (ha1f.ext (e11.trans (g13.ext.trans (e22.trans (g24.ext.trans (e33.trans (g35.ext.trans (e44.trans (g48.ext.trans (e50.trans (g54.ext.trans (e56.trans (e293.trans (g300.ext.trans (e352.trans (g354.ext.trans (e357.trans (g359.ext.trans (e361.trans (g363.ext.trans (e366.trans (g368.ext.trans e371)))))))))))))))))))))) (ha2f.ext (e11.trans (g13.ext.trans (e22.trans (g24.ext.trans (e33.trans (g35.ext.trans (e44.trans (g48.ext.trans (e50.trans (g54.ext.trans (e56.trans (e293.trans (g300.ext.trans (e352.trans (g354.ext.trans (e357.trans (g359.ext.trans (e361.trans (g363.ext.trans (e366.trans (g368.ext.trans e371)))))))))))))))))))))) (hb1f.ext (e11.trans (g13.ext.trans (e22.trans (g24.ext.trans (e33.trans (g35.ext.trans (e44.trans (g48.ext.trans (e50.trans (g54.ext.trans (e56.trans (e293.trans (g300.ext.trans (e352.trans (g354.ext.trans (e357.trans (g359.ext.trans (e361.trans (g363.ext.trans (e366.trans (g368.ext.trans e371)))))))))))))))))))))) (hb2f.ext (e11.trans (g13.ext.trans (e22.trans (g24.ext.trans (e33.trans (g35.ext.trans (e44.trans (g48.ext.trans (e50.trans (g54.ext.trans (e56.trans (e293.trans (g300.ext.trans (e352.trans (g354.ext.trans (e357.trans (g359.ext.trans (e361.trans (g363.ext.trans (e366.trans (g368.ext.trans e371)))))))))))))))))))))) (by omega) (by omega)
              with_reducible refine Post.mono k378 ?_
              clear k378
              rintro _ u376 g377 ⟨r372, r374, rfl, h373, h375⟩
              refine sy_call 79 12 [.agg #[.bool r372.s, .slice r372.m.a r372.m.n r372.m.c, .slice r372.d.a r372.d.n r372.d.c, .bool r374.s, .slice r374.m.a r374.m.n r374.m.c, .slice r374.d.a r374.d.n r374.d.c], r51.v] ?_ (hw := wants1 (g := 10) (b := true) (t := 74) (by kernel_rfl) (by kernel_rfl) (by kernel_rfl))
              intro w379 u379 e379 d379
              have k382 := k_ivContains d379 (h373.ext e379).raw (h375.ext e379).raw (h52.ext (e56.trans (e293.trans (g300.ext.trans (e352.trans (g354.ext.trans (e357.trans (g359.ext.trans (e361.trans (g363.ext.trans (e366.trans (g368.ext.trans (e371.trans (g377.ext.trans e379)))))))))))))).raw (by omega) (by omega)
              with_reducible refine Post.mono k382 ?_
              clear k382
              rintro _ u380 g381 rfl
              refine sy_pure 80 (.v (.bool (!(Nt.inI (Nt.lo (Nt.lo x1 x2) (Nt.lo y1 y2)) (Nt.hi (Nt.hi x1 x2) (Nt.hi y1 y2)) (btw y1 y2 n))))) ?_ (hw := wants1 (g := 10) (b := true) (t := 74) (by kernel_rfl) (by kernel_rfl) (by kernel_rfl))
              refine sy_pure 81 (.v (.bool (!(Nt.inI (Nt.lo (Nt.lo x1 x2) (Nt.lo y1 y2)) (Nt.hi (Nt.hi x1 x2) (Nt.hi y1 y2)) (btw y1 y2 n))))) ?_ (hw := wants1 (g := 8) (b := false) (t := 72) (by kernel_rfl) (by kernel_rfl) (by kernel_rfl))
              refine sy_pure 82 (.v (.bool (!(Nt.inI (Nt.lo (Nt.lo x1 x2) (Nt.lo y1 y2)) (Nt.hi (Nt.hi x1 x2) (Nt.hi y1 y2)) (btw y1 y2 n))))) ?_
              refine sy_next 85 [(4, .adr 4 0), (5, .adr 5 0), (36, .slc 36 0 3 3), (37, .v (.int .i64 3)), (38, .v (.int .i64 2)), (82, .v (.bool (!(Nt.inI (Nt.lo (Nt.lo x1 x2) (Nt.lo y1 y2)) (Nt.hi (Nt.hi x1 x2) (Nt.hi y1 y2)) (btw y1 y2 n)))))] [(4, ⟨28, a1.cs ++ a2.cs⟩), (5, ⟨28, b1.cs ++ b2.cs⟩), (36, ⟨26, r.cs ++ r45.cs ++ r51.cs⟩)] ?_
              refine sw_cond (b := !(Nt.inI (Nt.lo (Nt.lo x1 x2) (Nt.lo y1 y2)) (Nt.hi (Nt.hi x1 x2) (Nt.hi y1 y2)) (btw y1 y2 n))) (by kernel_rfl) (fun hb => ?_) (fun hb => ?_)
              · exact absurd hb (by rw [show (!(Nt.inI (Nt.lo (Nt.lo x1 x2) (Nt.lo y1 y2)) (Nt.hi (Nt.hi x1 x2) (Nt.hi y1 y2)) (btw y1 y2 n))) = false from Nt.nott (Nt.hull_has (.inl hs356))]; decide)
              · clear hb
                refine sw_skip (mp_seq ?_)
                refine sw_reg ?_
                refine sy_pure 83 (.v (.int .i64 3)) ?_
                refine sy_pure 38 (.v (.int .i64 3)) ?_
                refine sy_end ?_
                exact ⟨3 - 3, by decide, St.of 85 [(4, .adr 4 0), (5, .adr 5 0), (36, .slc 36 0 3 3), (37, .v (.int .i64 3)), (38, .v (.int .i64 3))] [(4, ⟨28, a1.cs ++ a2.cs⟩), (5, ⟨28, b1.cs ++ b2.cs⟩), (36, ⟨26, r.cs ++ r45.cs ++ r51.cs⟩)], by exact weak_mk _ _ _, 3, by omega, rfl, rfl, (e56.trans (e293.trans (g300.ext.trans (e352.trans (g354.ext.trans (e357.trans (g359.ext.trans (e361.trans (g363.ext.trans (e366.trans (g368.ext.trans (e371.trans (g377.ext.trans (e379.trans g381.ext))))))))))))))⟩
            · refine sy_eq 51 (x := .v (.bool (Nt.inI x1 x2 (btw y1 y2 n)))) (.v (.bool false)) (by rw [hs356]) ?_
              refine sy_drop 52 (unwanted (g := 3) (b := true) (c := false) (t := 51) (by kernel_rfl) (by kernel_rfl) (by kernel_rfl) (by kernel_rfl)) ?_
              refine sy_drop 53 (unwanted (g := 3) (b := true) (c := false) (t := 51) (by kernel_rfl) (by kernel_rfl) (by kernel_rfl) (by kernel_rfl)) ?_
              refine sy_drop 54 (unwanted (g := 3) (b := true) (c := false) (t := 51) (by kernel_rfl) (by kernel_rfl) (by kernel_rfl) (by kernel_rfl)) ?_
              refine sy_pure 55 (.v (.bool false)) ?_
              refine sy_pure 13 (.v (.bool false)) ?_
              refine sy_next 85 [(4, .adr 4 0), (5, .adr 5 0), (10, .adr 10 0), (11, .adr 11 0), (12, .v (.bool true)), (13, .v (.bool false)), (36, .slc 36 0 3 3), (37, .v (.int .i64 3)), (38, .v (.int .i64 2))] [(4, ⟨28, a1.cs ++ a2.cs⟩), (5, ⟨28, b1.cs ++ b2.cs⟩), (10, ⟨26, r51.cs⟩), (11, ⟨28, r295.cs ++ r297.cs⟩), (36, ⟨26, r.cs ++ r45.cs ++ r51.cs⟩)] ?_
              refine sw_seq ?_
              refine sw_reg ?_
              refine sy_ldv 56 (.v (.agg #[.bool a1.s, .slice a1.m.a a1.m.n a1.m.c, .slice a1.d.a a1.d.n a1.d.c, .bool a2.s, .slice a2.m.a a2.m.n a2.m.c, .slice a2.d.a a2.d.n a2.d.c])) ty28 part_agg ?_
              refine sy_ldv 57 (.v (r51.v)) ty26 part_agg ?_
              refine sy_call 58 12 [.agg #[.bool a1.s, .slice a1.m.a a1.m.n a1.m.c, .slice a1.d.a a1.d.n a1.d.c, .bool a2.s, .slice a2.m.a a2.m.n a2.m.c, .slice a2.d.a a2.d.n a2.d.c], r51.v] ?_
              intro w383 u383 e383 d383
              have k386 := k_ivContains d383 (ha1f.ext (e11.trans (g13.ext.trans (e22.trans (g24.ext.trans (e33.trans (g35.ext.trans (e44.trans (g48.ext.trans (e50.trans (g54.ext.trans (e56.trans (e293.trans (g300.ext.trans (e352.trans (g354.ext.trans e383)))))))))))))))) (ha2f.ext (e11.trans (g13.ext.trans (e22.trans (g24.ext.trans (e33.trans (g35.ext.trans (e44.trans (g48.ext.trans (e50.trans (g54.ext.trans (e56.trans (e293.trans (g300.ext.trans (e352.trans (g354.ext.trans e383)))))))))))))))) (h52.ext (e56.trans (e293.trans (g300.ext.trans (e352.trans (g354.ext.trans e383)))))).raw (by omega) (by omega)
              with_reducible refine Post.mono k386 ?_
              clear k386
              rintro _ u384 g385 rfl
              refine sy_eq 59 (x := .v (.bool (Nt.inI x1 x2 (btw y1 y2 n)))) (.v (.bool false)) (by rw [show (Nt.inI x1 x2 (btw y1 y2 n)) = false from hs356]) ?_
              refine sy_ldv 60 (.v (.agg #[.bool b1.s, .slice b1.m.a b1.m.n b1.m.c, .slice b1.d.a b1.d.n b1.d.c, .bool b2.s, .slice b2.m.a b2.m.n b2.m.c, .slice b2.d.a b2.d.n b2.d.c])) ty28 part_agg ?_ (hw := wants1 (g := 3) (b := false) (t := 59) (by kernel_rfl) (by kernel_rfl) (by kernel_rfl))
              refine sy_ldv 61 (.v (r51.v)) ty26 part_agg ?_ (hw := wants1 (g := 3) (b := false) (t := 59) (by kernel_rfl) (by kernel_rfl) (by kernel_rfl))
              refine sy_call 62 12 [.agg #[.bool b1.s, .slice b1.m.a b1.m.n b1.m.c, .slice b1.d.a b1.d.n b1.d.c, .bool b2.s, .slice b2.m.a b2.m.n b2.m.c, .slice b2.d.a b2.d.n b2.d.c], r51.v] ?_ (hw := wants1 (g := 3) (b := false) (t := 59) (by kernel_rfl) (by kernel_rfl) (by kernel_rfl))
              intro w388 u388 e388 d388
              have k391 := k_ivContains d388 (hb1f.ext (e11.trans (g13.ext.trans (e22.trans (g24.ext.trans (e33.trans (g35.ext.trans (e44.trans (g48.ext.trans (e50.trans (g54.ext.trans (e56.trans (e293.trans (g300.ext.trans (e352.trans (g354.ext.trans (e383.trans (g385.ext.trans e388)))))))))))))))))) (hb2f.ext (e11.trans (g13.ext.trans (e22.trans (g24.ext.trans (e33.trans (g35.ext.trans (e44.trans (g48.ext.trans (e50.trans (g54.ext.trans (e56.trans (e293.trans (g300.ext.trans (e352.trans (g354.ext.trans (e383.trans (g385.ext.trans e388)))))))))))))))))) (h52.ext (e56.trans (e293.trans (g300.ext.trans (e352.trans (g354.ext.trans (e383.trans (g385.ext.trans e388)))))))).raw (by omega) (by omega)
              with_reducible refine Post.mono k391 ?_
              clear k391
              rintro _ u389 g390 rfl
              refine sy_pure 63 (.v (.bool (Nt.inI y1 y2 (btw y1 y2 n)))) ?_
              refine sy_pure 14 (.v (.bool (Nt.inI y1 y2 (btw y1 y2 n)))) ?_
              refine sy_next 85 [(4, .adr 4 0), (5, .adr 5 0), (10, .adr 10 0), (11, .adr 11 0), (12, .v (.bool true)), (13, .v (.bool false)), (14, .v (.bool (Nt.inI y1 y2 (btw y1 y2 n)))), (36, .slc 36 0 3 3), (37, .v (.int .i64 3)), (38, .v (.int .i64 2))] [(4, ⟨28, a1.cs ++ a2.cs⟩), (5, ⟨28, b1.cs ++ b2.cs⟩), (10, ⟨26, r51.cs⟩), (11, ⟨28, r295.cs ++ r297.cs⟩), (36, ⟨26, r.cs ++ r45.cs ++ r51.cs⟩)] ?_
              refine sw_seq ?_
              refine sw_any [0, 0, 2, 6, 6, 30, 62, 127, 255, 511, 1023, 2047, 2047, 8191, 2047, 32767, 65535, 131071, 262143] [(0, []), (1, []), (2, []), (3, []), (4, []), (5, []), (6, []), (7, []), (8, []), (9, []), (10, []), (11, []), (12, []), (14, []), (13, []), (15, []), (16, []), (17, []), (18, [])] (by kernel_rfl) (by kernel_rfl) ?_
              refine sy_pure 64 (.v (.bool false)) ?_
              refine sy_pure 65 (.v (.bool true)) ?_
              refine sy_pure 66 (.v (.bool true)) ?_
              refine sy_ldv 67 (.v (.agg #[.bool r295.s, .slice r295.m.a r295.m.n r295.m.c, .slice r295.d.a r295.d.n r295.d.c, .bool r297.s, .slice r297.m.a r297.m.n r297.m.c, .slice r297.d.a r297.d.n r297.d.c])) ty28 part_agg ?_ (hw := wants1 (g := 2) (b := true) (t := 66) (by kernel_rfl) (by kernel_rfl) (by kernel_rfl))
              refine sy_ldv 68 (.v (r51.v)) ty26 part_agg ?_ (hw := wants1 (g := 2) (b := true) (t := 66) (by kernel_rfl) (by kernel_rfl) (by kernel_rfl))
              refine sy_call 69 12 [.agg #[.bool r295.s, .slice r295.m.a r295.m.n r295.m.c, .slice r295.d.a r295.d.n r295.d.c, .bool r297.s, .slice r297.m.a r297.m.n r297.m.c, .slice r297.d.a r297.d.n r297.d.c], r51.v] ?_ (hw := wants1 (g := 2) (b := true) (t := 66) (by kernel_rfl) (by kernel_rfl) (by kernel_rfl))
              intro w392 u392 e392 d392
              have k395 := k_ivContains d392 (h296.ext (e352.trans (g354.ext.trans (e383.trans (g385.ext.trans (e388.trans (g390.ext.trans e392))))))).raw (h298.ext (e352.trans (g354.ext.trans (e383.trans (g385.ext.trans (e388.trans (g390.ext.trans e392))))))).raw (h52.ext (e56.trans (e293.trans (g300.ext.trans (e352.trans (g354.ext.trans (e383.trans (g385.ext.trans (e388.trans (g390.ext.trans e392)))))))))).raw (by omega) (by omega)
              with_reducible refine Post.mono k395 ?_
              clear k395
              rintro _ u393 g394 rfl
              refine sy_pure 70 (.v (.bool (Nt.inI (Nt.hi (Nt.lo x1 x2) (Nt.lo y1 y2)) (Nt.lo (Nt.hi x1 x2) (Nt.hi y1 y2)) (btw y1 y2 n)))) ?_
              refine sy_pure 71 (.v (.bool (!(false == (Nt.inI (Nt.hi (Nt.lo x1 x2) (Nt.lo y1 y2)) (Nt.lo (Nt.hi x1 x2) (Nt.hi y1 y2)) (btw y1 y2 n)))))) ?_
              refine sy_eq 72 (x := .v (.bool (!(false == (Nt.inI (Nt.hi (Nt.lo x1 x2) (Nt.lo y1 y2)) (Nt.lo (Nt.hi x1 x2) (Nt.hi y1 y2)) (btw y1 y2 n)))))) (.v (.bool false)) (by rw [show (!(false == (Nt.inI (Nt.hi (Nt.lo x1 x2) (Nt.lo y1 y2)) (Nt.lo (Nt.hi x1 x2) (Nt.hi y1 y2)) (btw y1 y2 n)))) = false from (by have h9 := Nt.meet1 (q := (btw y1 y2 n)) hm294; rw [hs356, Bool.false_and] at h9; simp [h9])]) ?_
              refine sy_pure 73 (.v (.bool (Nt.inI y1 y2 (btw y1 y2 n)))) ?_ (hw := wants1 (g := 8) (b := false) (t := 72) (by kernel_rfl) (by kernel_rfl) (by kernel_rfl))
              rcases Bool.eq_false_or_eq_true (Nt.inI y1 y2 (btw y1 y2 n)) with hs397 | hs397
              · refine sy_eq 74 (x := .v (.bool (Nt.inI y1 y2 (btw y1 y2 n)))) (.v (.bool true)) (by rw [hs397]) ?_ (hw := wants1 (g := 8) (b := false) (t := 72) (by kernel_rfl) (by kernel_rfl) (by kernel_rfl))
                refine sy_ldv 75 (.v (.agg #[.bool a1.s, .slice a1.m.a a1.m.n a1.m.c, .slice a1.d.a a1.d.n a1.d.c, .bool a2.s, .slice a2.m.a a2.m.n a2.m.c, .slice a2.d.a a2.d.n a2.d.c])) ty28 part_agg ?_ (hw := wants1 (g := 10) (b := true) (t := 74) (by kernel_rfl) (by kernel_rfl) (by kernel_rfl))
                refine sy_ldv 76 (.v (.agg #[.bool b1.s, .slice b1.m.a b1.m.n b1.m.c, .slice b1.d.a b1.d.n b1.d.c, .bool b2.s, .slice b2.m.a b2.m.n b2.m.c, .slice b2.d.a b2.d.n b2.d.c])) ty28 part_agg ?_ (hw := wants1 (g := 10) (b := true) (t := 74) (by kernel_rfl) (by kernel_rfl) (by kernel_rfl))
                refine sy_ldv 78 (.v (r51.v)) ty26 part_agg ?_ (hw := wants1 (g := 10) (b := true) (t := 74) (by kernel_rfl) (by kernel_rfl) (by kernel_rfl))
                refine sy_call 77 13 [.agg #[.bool a1.s, .slice a1.m.a a1.m.n a1.m.c, .slice a1.d.a a1.d.n a1.d.c, .bool a2.s, .slice a2.m.a a2.m.n a2.m.c, .slice a2.d.a a2.d.n a2.d.c], .agg #[.bool b1.s, .slice b1.m.a b1.m.n b1.m.c, .slice b1.d.a b1.d.n b1.d.c, .bool b2.s, .slice b2.m.a b2.m.n b2.m.c, .slice b2.d.a b2.d.n b2.d.c]] ?_ (hw := wants1 (g := 10) (b := true) (t := 74) (by kernel_rfl) (by kernel_rfl) (by kernel_rfl))
                intro w398 u398 e398 d398
                have k405 := k_ivHull d398 (ha1f.ext (e11.trans (g13.ext.trans (e22.trans (g24.ext.trans (e33.trans (g35.ext.trans (e44.trans (g48.ext.trans (e50.trans (g54.ext.trans (e56.trans (e293.trans (g300.ext.trans (e352.trans (g354.ext.trans (e383.trans (g385.ext.trans (e388.trans (g390.ext.trans (e392.trans (g394.ext.trans e398)))))))))))))))))))))) (ha2f.ext (e11.trans (g13.ext.trans (e22.trans (g24.ext.trans (e33.trans (g35.ext.trans (e44.trans (g48.ext.trans (e50.trans (g54.ext.trans (e56.trans (e293.trans (g300.ext.trans (e352.trans (g354.ext.trans (e383.trans (g385.ext.trans (e388.trans (g390.ext.trans (e392.trans (g394.ext.trans e398)))))))))))))))))))))) (hb1f.ext (e11.trans (g13.ext.trans (e22.trans (g24.ext.trans (e33.trans (g35.ext.trans (e44.trans (g48.ext.trans (e50.trans (g54.ext.trans (e56.trans (e293.trans (g300.ext.trans (e352.trans (g354.ext.trans (e383.trans (g385.ext.trans (e388.trans (g390.ext.trans (e392.trans (g394.ext.trans e398)))))))))))))))))))))) (hb2f.ext (e11.trans (g13.ext.trans (e22.trans (g24.ext.trans (e33.trans (g35.ext.trans (e44.trans (g48.ext.trans (e50.trans (g54.ext.trans (e56.trans (e293.trans (g300.ext.trans (e352.trans (g354.ext.trans (e383.trans (g385.ext.trans (e388.trans (g390.ext.trans (e392.trans (g394.ext.trans e398)))))))))))))))))))))) (by omega) (by omega)
                with_reducible refine Post.mono k405 ?_
                clear k405
                rintro _ u403 g404 ⟨r399, r401, rfl, h400, h402⟩
                refine sy_call 79 12 [.agg #[.bool r399.s, .slice r399.m.a r399.m.n r399.m.c, .slice r399.d.a r399.d.n r399.d.c, .bool r401.s, .slice r401.m.a r401.m.n r401.m.c, .slice r401.d.a r401.d.n r401.d.c], r51.v] ?_ (hw := wants1 (g := 10) (b := true) (t := 74) (by kernel_rfl) (by kernel_rfl) (by kernel_rfl))
                intro w406 u406 e406 d406
                have k409 := k_ivContains d406 (h400.ext e406).raw (h402.ext e406).raw (h52.ext (e56.trans (e293.trans (g300.ext.trans (e352.trans (g354.ext.trans (e383.trans (g385.ext.trans (e388.trans (g390.ext.trans (e392.trans (g394.ext.trans (e398.trans (g404.ext.trans e406)))))))))))))).raw (by omega) (by omega)
                with_reducible refine Post.mono k409 ?_
                clear k409
                rintro _ u407 g408 rfl
                refine sy_pure 80 (.v (.bool (!(Nt.inI (Nt.lo (Nt.lo x1 x2) (Nt.lo y1 y2)) (Nt.hi (Nt.hi x1 x2) (Nt.hi y1 y2)) (btw y1 y2 n))))) ?_ (hw := wants1 (g := 10) (b := true) (t := 74) (by kernel_rfl) (by kernel_rfl) (by kernel_rfl))
                refine sy_pure 81 (.v (.bool (!(Nt.inI (Nt.lo (Nt.lo x1 x2) (Nt.lo y1 y2)) (Nt.hi (Nt.hi x1 x2) (Nt.hi y1 y2)) (btw y1 y2 n))))) ?_ (hw := wants1 (g := 8) (b := false) (t := 72) (by kernel_rfl) (by kernel_rfl) (by kernel_rfl))
                refine sy_pure 82 (.v (.bool (!(Nt.inI (Nt.lo (Nt.lo x1 x2) (Nt.lo y1 y2)) (Nt.hi (Nt.hi x1 x2) (Nt.hi y1 y2)) (btw y1 y2 n))))) ?_
                refine sy_next 85 [(4, .adr 4 0), (5, .adr 5 0), (36, .slc 36 0 3 3), (37, .v (.int .i64 3)), (38, .v (.int .i64 2)), (82, .v (.bool (!(Nt.inI (Nt.lo (Nt.lo x1 x2) (Nt.lo y1 y2)) (Nt.hi (Nt.hi x1 x2) (Nt.hi y1 y2)) (btw y1 y2 n)))))] [(4, ⟨28, a1.cs ++ a2.cs⟩), (5, ⟨28, b1.cs ++ b2.cs⟩), (36, ⟨26, r.cs ++ r45.cs ++ r51.cs⟩)] ?_
                refine sw_cond (b := !(Nt.inI (Nt.lo (Nt.lo x1 x2) (Nt.lo y1 y2)) (Nt.hi (Nt.hi x1 x2) (Nt.hi y1 y2)) (btw y1 y2 n))) (by kernel_rfl) (fun hb => ?_) (fun hb => ?_)
                · exact absurd hb (by rw [show (!(Nt.inI (Nt.lo (Nt.lo x1 x2) (Nt.lo y1 y2)) (Nt.hi (Nt.hi x1 x2) (Nt.hi y1 y2)) (btw y1 y2 n))) = false from Nt.nott (Nt.hull_has (.inr hs397))]; decide)
                · clear hb
                  refine sw_skip (mp_seq ?_)
                  refine sw_reg ?_
                  refine sy_pure 83 (.v (.int .i64 3)) ?_
                  refine sy_pure 38 (.v (.int .i64 3)) ?_
                  refine sy_end ?_
                  exact ⟨3 - 3, by decide, St.of 85 [(4, .adr 4 0), (5, .adr 5 0), (36, .slc 36 0 3 3), (37, .v (.int .i64 3)), (38, .v (.int .i64 3))] [(4, ⟨28, a1.cs ++ a2.cs⟩), (5, ⟨28, b1.cs ++ b2.cs⟩), (36, ⟨26, r.cs ++ r45.cs ++ r51.cs⟩)], by exact weak_mk _ _ _, 3, by omega, rfl, rfl, (e56.trans (e293.trans (g300.ext.trans (e352.trans (g354.ext.trans (e383.trans (g385.ext.trans (e388.trans (g390.ext.trans (e392.trans (g394.ext.trans (e398.trans (g404.ext.trans (e406.trans g408.ext))))))))))))))⟩
              · refine sy_eq 74 (x := .v (.bool (Nt.inI y1 y2 (btw y1 y2 n)))) (.v (.bool false)) (by rw [hs397]) ?_ (hw := wants1 (g := 8) (b := false) (t := 72) (by kernel_rfl) (by kernel_rfl) (by kernel_rfl))
                refine sy_drop 75 (unwanted (g := 10) (b := true) (c := false) (t := 74) (by kernel_rfl) (by kernel_rfl) (by kernel_rfl) (by kernel_rfl)) ?_
                refine sy_drop 76 (unwanted (g := 10) (b := true) (c := false) (t := 74) (by kernel_rfl) (by kernel_rfl) (by kernel_rfl) (by kernel_rfl)) ?_
                refine sy_drop 78 (unwanted (g := 10) (b := true) (c := false) (t := 74) (by kernel_rfl) (by kernel_rfl) (by kernel_rfl) (by kernel_rfl)) ?_
                refine sy_drop 77 (unwanted (g := 10) (b := true) (c := false) (t := 74) (by kernel_rfl) (by kernel_rfl) (by kernel_rfl) (by kernel_rfl)) ?_
                refine sy_drop 79 (unwanted (g := 10) (b := true) (c := false) (t := 74) (by kernel_rfl) (by kernel_rfl) (by kernel_rfl) (by kernel_rfl)) ?_
                refine sy_drop 80 (unwanted (g := 10) (b := true) (c := false) (t := 74) (by kernel_rfl) (by kernel_rfl) (by kernel_rfl) (by kernel_rfl)) ?_
                refine sy_pure 81 (.v (.bool false)) ?_ (hw := wants1 (g := 8) (b := false) (t := 72) (by kernel_rfl) (by kernel_rfl) (by kernel_rfl))
                refine sy_pure 82 (.v (.bool false)) ?_
                refine sy_next 85 [(4, .adr 4 0), (5, .adr 5 0), (36, .slc 36 0 3 3), (37, .v (.int .i64 3)), (38, .v (.int .i64 2)), (82, .v (.bool false))] [(4, ⟨28, a1.cs ++ a2.cs⟩), (5, ⟨28, b1.cs ++ b2.cs⟩), (36, ⟨26, r.cs ++ r45.cs ++ r51.cs⟩)] ?_
                refine sw_false (by kernel_rfl) ?_
                refine sw_skip (mp_seq ?_)
                refine sw_reg ?_
                refine sy_pure 83 (.v (.int .i64 3)) ?_
                refine sy_pure 38 (.v (.int .i64 3)) ?_
                refine sy_end ?_
                exact ⟨3 - 3, by decide, St.of 85 [(4, .adr 4 0), (5, .adr 5 0), (36, .slc 36 0 3 3), (37, .v (.int .i64 3)), (38, .v (.int .i64 3))] [(4, ⟨28, a1.cs ++ a2.cs⟩), (5, ⟨28, b1.cs ++ b2.cs⟩), (36, ⟨26, r.cs ++ r45.cs ++ r51.cs⟩)], by exact weak_mk _ _ _, 3, by omega, rfl, rfl, (e56.trans (e293.trans (g300.ext.trans (e352.trans (g354.ext.trans (e383.trans (g385.ext.trans (e388.trans (g390.ext.trans (e392.trans g394.ext))))))))))⟩
        · change SW _ _ _ _ (St.of 85 [(4, .adr 4 0), (5, .adr 5 0), (36, .slc 36 0 3 3), (37, .v (.int .i64 3)), (38, .v (.int .i64 3))] [(4, ⟨28, a1.cs ++ a2.cs⟩), (5, ⟨28, b1.cs ++ b2.cs⟩), (36, ⟨26, r.cs ++ r45.cs ++ r51.cs⟩)]) _ _
          refine sw_seq ?_
          refine sw_reg ?_
          refine sy_pure 39 (.v (.bool false)) ?_
          refine sy_next 85 [(4, .adr 4 0), (5, .adr 5 0), (36, .slc 36 0 3 3), (37, .v (.int .i64 3)), (38, .v (.int .i64 3)), (39, .v (.bool false))] [(4, ⟨28, a1.cs ++ a2.cs⟩), (5, ⟨28, b1.cs ++ b2.cs⟩), (36, ⟨26, r.cs ++ r45.cs ++ r51.cs⟩)] ?_
          refine sw_seq ?_
          refine sw_false (by kernel_rfl) ?_
          refine sw_exit ?_
          refine mp_seq ?_
          refine sw_seq ?_
          refine sw_reg ?_
          refine sy_call 84 9 [] ?_
          intro w410 u410 e410 d410
          have k413 := k_awake4 d410
          with_reducible refine Post.mono k413 ?_
          clear k413
          rintro _ u411 g412 rfl
          refine sy_pure 8 (.v (.bool true)) ?_
          refine sy_next 85 [(8, .v (.bool true))] [] ?_
          refine sw_ret (ret0 [.bool true] ⟨res_tmp, trivial⟩ fun u414 e415 => ?_)
          exact rfl
end Go.Proofs.Ytnedhbidmfoegaa
