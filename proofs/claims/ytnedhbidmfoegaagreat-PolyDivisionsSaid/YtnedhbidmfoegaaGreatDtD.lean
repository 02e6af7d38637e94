/- Contracts of rational. Printed by wip/sym/g_rat.py. Contracts of interval. Printed by wip/sym/g_itv.py. Contracts of the reference of interval, of small functions. Printed by wip/sym/g_r4.py. Contracts of poly. Printed by wip/sym/g_pol.py. Contracts of the reference of poly. Printed by wip/sym/g_r5.py. Contracts of poly: division. Printed by wip/sym/g_div.py. -/
import Derived.Test.YtnedhbidmfoegaaGreatDtC
namespace Go.Proofs.YtnedhbidmfoegaaGreat
open Go.RowKit
set_option linter.unusedVariables false
theorem k_natural {u w : World} {x : Sl} (d : Dat u w) : Calls Tryz.prog 148 #[x.v] w (Post u w fun v _ => v = .agg #[.bool false, x.v]) := by
  refine calls_sym (args := [.slice x.a x.n x.c]) Tryz.func148 rfl Tryz.ntmps148 (rs := [.cell 2 24]) Tryz.results148 (le_b rfl) (le_b rfl) d ?_
  refine sw_seq ?_
  refine sw_reg ?_
  refine sy_new 2 ⟨24, [.bool false, .slice none 0 0]⟩ ?_
  refine sy_next 5 [(0, .v (.slice x.a x.n x.c)), (2, .adr 2 0)] [(2, ⟨24, [.bool false, .slice none 0 0]⟩)] ?_
  refine sw_seq ?_
  refine sw_reg ?_
  refine sy_pure 3 (.v (.slice x.a x.n x.c)) ?_
  refine sy_pure 4 (.v (.agg #[.bool false, .slice x.a x.n x.c])) ?_
  refine sy_store ⟨24, [.bool false, .slice x.a x.n x.c]⟩ ty24 ?_
  refine sy_next 5 [(2, .adr 2 0)] [(2, ⟨24, [.bool false, .slice x.a x.n x.c]⟩)] ?_
  refine sw_ret (ret0 [.agg #[.bool false, .slice x.a x.n x.c]] ⟨res_cell ty24 part_agg, trivial⟩ fun u11 e12 => ?_)
  exact rfl
theorem k_whole {u w : World} {i : IL} (d : Dat u w) : Calls Tryz.prog 152 #[i.v] w (Post u w fun v u' => ∃ y : Sl, v = .agg #[.bool i.s, i.m.v, y.v] ∧ NatN u' y 1 1) := by
  refine calls_sym (args := [i.v]) Tryz.func152 rfl Tryz.ntmps152 (rs := [.cell 2 26]) Tryz.results152 (le_b rfl) (le_b rfl) d ?_
  refine sw_seq ?_
  refine sw_reg ?_
  refine sy_new 1 ⟨24, i.cs⟩ ?_
  refine sy_new 2 ⟨26, [.bool false, .slice none 0 0, .slice none 0 0]⟩ ?_
  refine sy_next 6 [(1, .adr 1 0), (2, .adr 2 0)] [(1, ⟨24, i.cs⟩), (2, ⟨26, [.bool false, .slice none 0 0, .slice none 0 0]⟩)] ?_
  refine sw_seq ?_
  refine sw_reg ?_
  refine sy_ldv 3 (.v (i.v)) ty24 part_agg ?_
  refine sy_data 4 ⟨105, [.int .u32 1]⟩ 1 (fun b11 u12 e13 h14 => ?_)
  refine sy_pure 5 (.v (.agg #[.bool i.s, .slice i.m.a i.m.n i.m.c, .slice (some ⟨b11, 0, none⟩) 1 1])) ?_
  refine sy_store ⟨26, i.cs ++ [.slice (some ⟨b11, 0, none⟩) 1 1]⟩ ty26 ?_
  refine sy_next 6 [(2, .adr 2 0)] [(2, ⟨26, i.cs ++ [.slice (some ⟨b11, 0, none⟩) 1 1]⟩)] ?_
  refine sw_ret (ret0 [.agg #[.bool i.s, .slice i.m.a i.m.n i.m.c, .slice (some ⟨b11, 0, none⟩) 1 1]] ⟨res_cell ty26 part_agg, trivial⟩ fun u15 e16 => ?_)
  exact ⟨_, rfl, ((one_data h14).ext e16)⟩
theorem k_quotient {u w : World} {i j : IL} (d : Dat u w) : Calls Tryz.prog 149 #[i.v, j.v] w (Post u w fun v _ => v = .agg #[.bool (!(i.s == j.s)), i.m.v, j.m.v]) := by
  refine calls_sym (args := [i.v, j.v]) Tryz.func149 rfl Tryz.ntmps149 (rs := [.cell 4 114]) Tryz.results149 (le_b rfl) (le_b rfl) d ?_
  refine sw_seq ?_
  refine sw_reg ?_
  refine sy_new 2 ⟨24, i.cs⟩ ?_
  refine sy_new 3 ⟨24, j.cs⟩ ?_
  refine sy_new 4 ⟨114, [.bool false, .slice none 0 0, .slice none 0 0]⟩ ?_
  refine sy_next 16 [(2, .adr 2 0), (3, .adr 3 0), (4, .adr 4 0)] [(2, ⟨24, i.cs⟩), (3, ⟨24, j.cs⟩), (4, ⟨114, [.bool false, .slice none 0 0, .slice none 0 0]⟩)] ?_
  refine sw_seq ?_
  refine sw_reg ?_
  refine sy_pure 5 (.adr 2 0) ?_
  refine sy_ldv 6 (.v (.bool i.s)) ty4 part_one ?_
  refine sy_pure 7 (.adr 3 0) ?_
  refine sy_ldv 8 (.v (.bool j.s)) ty4 part_one ?_
  refine sy_pure 9 (.v (.bool (!(i.s == j.s)))) ?_
  refine sy_pure 10 (.adr 2 1) ?_
  refine sy_ldv 11 (.v (.slice i.m.a i.m.n i.m.c)) ty22 part_one ?_
  refine sy_pure 12 (.v (.agg #[.bool (!(i.s == j.s)), .slice i.m.a i.m.n i.m.c])) ?_
  refine sy_pure 13 (.adr 3 1) ?_
  refine sy_ldv 14 (.v (.slice j.m.a j.m.n j.m.c)) ty22 part_one ?_
  refine sy_pure 15 (.v (.agg #[.bool (!(i.s == j.s)), .slice i.m.a i.m.n i.m.c, .slice j.m.a j.m.n j.m.c])) ?_
  refine sy_store ⟨114, [.bool (!(i.s == j.s)), .slice i.m.a i.m.n i.m.c, .slice j.m.a j.m.n j.m.c]⟩ ty114 ?_
  refine sy_next 16 [(4, .adr 4 0)] [(4, ⟨114, [.bool (!(i.s == j.s)), .slice i.m.a i.m.n i.m.c, .slice j.m.a j.m.n j.m.c]⟩)] ?_
  refine sw_ret (ret0 [.agg #[.bool (!(i.s == j.s)), .slice i.m.a i.m.n i.m.c, .slice j.m.a j.m.n j.m.c]] ⟨res_cell ty114 part_agg, trivial⟩ fun u11 e12 => ?_)
  exact rfl
theorem k_flip {u w : World} {r : RL} (d : Dat u w) : Calls Tryz.prog 165 #[r.v] w (Post u w fun v _ => v = .agg #[.bool (!r.s), r.m.v, r.d.v]) := by
  refine calls_sym (args := [r.v]) Tryz.func165 rfl Tryz.ntmps165 (rs := [.cell 2 26]) Tryz.results165 (le_b rfl) (le_b rfl) d ?_
  refine sw_seq ?_
  refine sw_reg ?_
  refine sy_new 1 ⟨26, r.cs⟩ ?_
  refine sy_new 2 ⟨26, [.bool false, .slice none 0 0, .slice none 0 0]⟩ ?_
  refine sy_next 14 [(1, .adr 1 0), (2, .adr 2 0)] [(1, ⟨26, r.cs⟩), (2, ⟨26, [.bool false, .slice none 0 0, .slice none 0 0]⟩)] ?_
  refine sw_seq ?_
  refine sw_reg ?_
  refine sy_pure 3 (.adr 1 0) ?_
  refine sy_pure 4 (.adr 1 0) ?_
  refine sy_ldv 5 (.v (.bool r.s)) ty4 part_one ?_
  refine sy_pure 6 (.v (.bool (!r.s))) ?_
  refine sy_pure 7 (.adr 1 0) ?_
  refine sy_pure 8 (.adr 1 1) ?_
  refine sy_ldv 9 (.v (.slice r.m.a r.m.n r.m.c)) ty22 part_one ?_
  refine sy_pure 10 (.v (.agg #[.bool (!r.s), .slice r.m.a r.m.n r.m.c])) ?_
  refine sy_pure 11 (.adr 1 2) ?_
  refine sy_ldv 12 (.v (.slice r.d.a r.d.n r.d.c)) ty22 part_one ?_
  refine sy_pure 13 (.v (.agg #[.bool (!r.s), .slice r.m.a r.m.n r.m.c, .slice r.d.a r.d.n r.d.c])) ?_
  refine sy_store ⟨26, [.bool (!r.s), .slice r.m.a r.m.n r.m.c, .slice r.d.a r.d.n r.d.c]⟩ ty26 ?_
  refine sy_next 14 [(2, .adr 2 0)] [(2, ⟨26, [.bool (!r.s), .slice r.m.a r.m.n r.m.c, .slice r.d.a r.d.n r.d.c]⟩)] ?_
  refine sw_ret (ret0 [.agg #[.bool (!r.s), .slice r.m.a r.m.n r.m.c, .slice r.d.a r.d.n r.d.c]] ⟨res_cell ty26 part_agg, trivial⟩ fun u11 e12 => ?_)
  exact rfl
set_option maxHeartbeats 1000000 in
theorem k_read {u w : World} {r : RL} {q : Rat} {K : Nat} (d : Dat u w) (h : RatV u r q K) : Calls Tryz.prog 145 #[r.v] w (Post u w fun v u' => ∃ (r' : RL) (wh : Bool), v = .agg #[.bool r'.s, r'.m.v, r'.d.v, .bool wh] ∧ NumV u' r' wh q K) := by
  obtain ⟨⟨z, D, hi, hd, hq⟩, hK⟩ := h
  change IntV u ⟨r.s, r.m⟩ z K at hi
  change NatV u r.d D K at hd
  by_cases hn : r.d.n = 1
  · obtain ⟨b, o, ha, hc⟩ := nat_digit hd hn
    by_cases hD : D = 1
    · refine calls_sym (args := [r.v]) Tryz.func145 rfl Tryz.ntmps145 (rs := [.cell 2 116]) Tryz.results145 (le_b rfl) (le_b rfl) d ?_
      refine sw_seq ?_
      refine sw_reg ?_
      refine sy_new 1 ⟨26, r.cs⟩ ?_
      refine sy_new 2 ⟨116, [.bool false, .slice none 0 0, .slice none 0 0, .bool false]⟩ ?_
      refine sy_next 34 [(1, .adr 1 0), (2, .adr 2 0)] [(1, ⟨26, r.cs⟩), (2, ⟨116, [.bool false, .slice none 0 0, .slice none 0 0, .bool false]⟩)] ?_
      refine sw_seq ?_
      refine sw_seq ?_
      refine sw_reg ?_
      refine sy_pure 3 (.adr 1 2) ?_
      refine sy_ldv 4 (.v (.slice r.d.a r.d.n r.d.c)) ty22 part_one ?_
      refine sy_pure 5 (.v (.int .i64 (r.d.n : Int))) ?_
      refine sy_eq 6 (x := .v (.bool ((r.d.n : Int) == 1))) (.v (.bool true)) (by rw [show ((r.d.n : Int) == 1) = true from (by simp [hn])]) ?_
      refine sy_pure 7 (.v (.bool true)) ?_
      refine sy_pure 8 (.adr 1 2) ?_ (hw := w1 4 true 7)
      refine sy_ldv 9 (.v (.slice r.d.a r.d.n r.d.c)) ty22 part_one ?_ (hw := w1 4 true 7)
      refine sy_index 10 o (i := 0) (n := r.d.n) (by simp) ha (by omega) (by rw [hn]; decide) sl22 ?_ (hw := w1 4 true 7)
      refine sy_ld1 11 (.int .u32 (D : Int)) ((Ext.refl _).cell hc) ty105 ?_ (hw := w1 4 true 7)
      refine sy_eq 12 (x := .v (.bool ((D : Int) == 1))) (.v (.bool true)) (by rw [show ((D : Int) == 1) = true from (by simp [hD])]) ?_ (hw := w1 4 true 7)
      refine sy_pure 13 (.v (.bool true)) ?_
      refine sy_next 34 [(1, .adr 1 0), (2, .adr 2 0), (13, .v (.bool true))] [(1, ⟨26, r.cs⟩), (2, ⟨116, [.bool false, .slice none 0 0, .slice none 0 0, .bool false]⟩)] ?_
      refine sw_true (by kernel_rfl) ?_
      refine sw_seq ?_
      refine sw_reg ?_
      refine sy_pure 14 (.adr 1 0) ?_
      refine sy_ldv 15 (.v (.agg #[.bool r.s, .slice r.m.a r.m.n r.m.c])) ty24 part_agg ?_
      refine sy_pure 16 (.adr 1 2) ?_
      refine sy_ldv 17 (.v (.slice r.d.a r.d.n r.d.c)) ty22 part_one ?_
      refine sy_pure 18 (.v (r.v)) ?_
      refine sy_pure 19 (.v (.agg #[.bool r.s, .slice r.m.a r.m.n r.m.c, .slice r.d.a r.d.n r.d.c, .bool true])) ?_
      refine sy_store ⟨116, r.cs ++ [.bool true]⟩ ty116 ?_
      refine sy_next 34 [(2, .adr 2 0)] [(2, ⟨116, r.cs ++ [.bool true]⟩)] ?_
      refine sw_ret (mpr_seq (ret0 [.agg #[.bool r.s, .slice r.m.a r.m.n r.m.c, .slice r.d.a r.d.n r.d.c, .bool true]] ⟨res_cell ty116 part_agg, trivial⟩ fun u11 e12 => ?_))
      exact ⟨r, true, rfl, z, D, hi.ext e12, hd.ext e12, by omega, hq, fun _ => hD, hK⟩
    · refine calls_sym (args := [r.v]) Tryz.func145 rfl Tryz.ntmps145 (rs := [.cell 2 116]) Tryz.results145 (le_b rfl) (le_b rfl) d ?_
      refine sw_seq ?_
      refine sw_reg ?_
      refine sy_new 1 ⟨26, r.cs⟩ ?_
      refine sy_new 2 ⟨116, [.bool false, .slice none 0 0, .slice none 0 0, .bool false]⟩ ?_
      refine sy_next 34 [(1, .adr 1 0), (2, .adr 2 0)] [(1, ⟨26, r.cs⟩), (2, ⟨116, [.bool false, .slice none 0 0, .slice none 0 0, .bool false]⟩)] ?_
      refine sw_seq ?_
      refine sw_seq ?_
      refine sw_reg ?_
      refine sy_pure 3 (.adr 1 2) ?_
      refine sy_ldv 4 (.v (.slice r.d.a r.d.n r.d.c)) ty22 part_one ?_
      refine sy_pure 5 (.v (.int .i64 (r.d.n : Int))) ?_
      refine sy_eq 6 (x := .v (.bool ((r.d.n : Int) == 1))) (.v (.bool true)) (by rw [show ((r.d.n : Int) == 1) = true from (by simp [hn])]) ?_
      refine sy_pure 7 (.v (.bool true)) ?_
      refine sy_pure 8 (.adr 1 2) ?_ (hw := w1 4 true 7)
      refine sy_ldv 9 (.v (.slice r.d.a r.d.n r.d.c)) ty22 part_one ?_ (hw := w1 4 true 7)
      refine sy_index 10 o (i := 0) (n := r.d.n) (by simp) ha (by omega) (by rw [hn]; decide) sl22 ?_ (hw := w1 4 true 7)
      refine sy_ld1 11 (.int .u32 (D : Int)) ((Ext.refl _).cell hc) ty105 ?_ (hw := w1 4 true 7)
      refine sy_eq 12 (x := .v (.bool ((D : Int) == 1))) (.v (.bool false)) (by rw [show ((D : Int) == 1) = false from (by simp; omega)]) ?_ (hw := w1 4 true 7)
      refine sy_pure 13 (.v (.bool false)) ?_
      refine sy_next 34 [(1, .adr 1 0), (2, .adr 2 0), (13, .v (.bool false))] [(1, ⟨26, r.cs⟩), (2, ⟨116, [.bool false, .slice none 0 0, .slice none 0 0, .bool false]⟩)] ?_
      refine sw_false (by kernel_rfl) ?_
      refine sw_skip (mp_seq ?_)
      refine sw_seq ?_
      refine sw_seq ?_
      refine sw_reg ?_
      refine sy_pure 20 (.adr 1 2) ?_
      refine sy_ldv 21 (.v (.slice r.d.a r.d.n r.d.c)) ty22 part_one ?_
      refine sy_call 22 154 [.slice r.d.a r.d.n r.d.c, .slice none 0 0] ?_
      intro w11 u11 e11 d11
      have k14 := k_natCompare d11 (hd.ext e11) (nat_nil _ 1)
      with_reducible refine Post.mono k14 ?_
      clear k14
      rintro _ u12 g13 rfl
      refine sy_pure 23 (.v (.bool ((Nt.cmpS D 0) == 0))) ?_
      refine sy_next 34 [(1, .adr 1 0), (2, .adr 2 0), (23, .v (.bool ((Nt.cmpS D 0) == 0)))] [(1, ⟨26, r.cs⟩), (2, ⟨116, [.bool false, .slice none 0 0, .slice none 0 0, .bool false]⟩)] ?_
      refine sw_cond (b := (Nt.cmpS D 0) == 0) (by kernel_rfl) (fun hb15 => ?_) (fun hb15 => ?_)
      · replace hb15 : ((Nt.cmpS D 0) == 0) = true := hb15
        refine sw_seq ?_
        refine sw_reg ?_
        refine sy_pure 24 (.v (.agg #[.bool false, .slice none 0 0])) ?_
        refine sy_data 25 ⟨105, [.int .u32 1]⟩ 1 (fun b16 u17 e18 h19 => ?_)
        refine sy_pure 26 (.v (.agg #[.bool false, .slice none 0 0, .slice (some ⟨b16, 0, none⟩) 1 1])) ?_
        refine sy_pure 27 (.v (.agg #[.bool false, .slice none 0 0, .slice (some ⟨b16, 0, none⟩) 1 1, .bool true])) ?_
        refine sy_store ⟨116, [.bool false, .slice none 0 0, .slice (some ⟨b16, 0, none⟩) 1 1, .bool true]⟩ ty116 ?_
        refine sy_next 34 [(2, .adr 2 0)] [(2, ⟨116, [.bool false, .slice none 0 0, .slice (some ⟨b16, 0, none⟩) 1 1, .bool true]⟩)] ?_
        refine sw_ret (mpr_seq (ret0 [.agg #[.bool false, .slice none 0 0, .slice (some ⟨b16, 0, none⟩) 1 1, .bool true]] ⟨res_cell ty116 part_agg, trivial⟩ fun u20 e21 => ?_))
        have hD0 : D = 0 := (Nt.cmp_nat0 hb15).1 rfl
        refine ⟨⟨false, ⟨none, 0, 0⟩, (⟨some ⟨b16, 0, none⟩, 1, 1⟩ : Sl)⟩, true, rfl, 0, 1, (⟨0, nat_nil _ K, rfl⟩ : IntV _ ⟨false, ⟨none, 0, 0⟩⟩ 0 K), ((one_data h19).ext e21).raw.more hK, by omega, ?_, fun _ => rfl, hK⟩
        rw [hq, hD0]; simp
      · replace hb15 : ((Nt.cmpS D 0) == 0) = false := hb15
        refine sw_skip (mp_seq ?_)
        refine sw_seq ?_
        refine sw_reg ?_
        refine sy_pure 28 (.adr 1 0) ?_
        refine sy_ldv 29 (.v (.agg #[.bool r.s, .slice r.m.a r.m.n r.m.c])) ty24 part_agg ?_
        refine sy_pure 30 (.adr 1 2) ?_
        refine sy_ldv 31 (.v (.slice r.d.a r.d.n r.d.c)) ty22 part_one ?_
        refine sy_pure 32 (.v (r.v)) ?_
        refine sy_pure 33 (.v (.agg #[.bool r.s, .slice r.m.a r.m.n r.m.c, .slice r.d.a r.d.n r.d.c, .bool false])) ?_
        refine sy_store ⟨116, r.cs ++ [.bool false]⟩ ty116 ?_
        refine sy_next 34 [(2, .adr 2 0)] [(2, ⟨116, r.cs ++ [.bool false]⟩)] ?_
        refine sw_ret (ret0 [.agg #[.bool r.s, .slice r.m.a r.m.n r.m.c, .slice r.d.a r.d.n r.d.c, .bool false]] ⟨res_cell ty116 part_agg, trivial⟩ fun u22 e23 => ?_)
        have hD0 : 0 < D := (Nt.cmp_nat0 hb15).2 rfl
        exact ⟨r, false, rfl, z, D, hi.ext (e11.trans (g13.ext.trans e23)), hd.ext (e11.trans (g13.ext.trans e23)), hD0, hq, (fun k => by cases k), hK⟩
  · refine calls_sym (args := [r.v]) Tryz.func145 rfl Tryz.ntmps145 (rs := [.cell 2 116]) Tryz.results145 (le_b rfl) (le_b rfl) d ?_
    refine sw_seq ?_
    refine sw_reg ?_
    refine sy_new 1 ⟨26, r.cs⟩ ?_
    refine sy_new 2 ⟨116, [.bool false, .slice none 0 0, .slice none 0 0, .bool false]⟩ ?_
    refine sy_next 34 [(1, .adr 1 0), (2, .adr 2 0)] [(1, ⟨26, r.cs⟩), (2, ⟨116, [.bool false, .slice none 0 0, .slice none 0 0, .bool false]⟩)] ?_
    refine sw_seq ?_
    refine sw_seq ?_
    refine sw_reg ?_
    refine sy_pure 3 (.adr 1 2) ?_
    refine sy_ldv 4 (.v (.slice r.d.a r.d.n r.d.c)) ty22 part_one ?_
    refine sy_pure 5 (.v (.int .i64 (r.d.n : Int))) ?_
    refine sy_eq 6 (x := .v (.bool ((r.d.n : Int) == 1))) (.v (.bool false)) (by rw [show ((r.d.n : Int) == 1) = false from (by simp; omega)]) ?_
    refine sy_pure 7 (.v (.bool false)) ?_
    refine sy_drop 8 (uw 4 true false 7) ?_
    refine sy_drop 9 (uw 4 true false 7) ?_
    refine sy_drop 10 (uw 4 true false 7) ?_
    refine sy_drop 11 (uw 4 true false 7) ?_
    refine sy_drop 12 (uw 4 true false 7) ?_
    refine sy_pure 13 (.v (.bool false)) ?_
    refine sy_next 34 [(1, .adr 1 0), (2, .adr 2 0), (13, .v (.bool false))] [(1, ⟨26, r.cs⟩), (2, ⟨116, [.bool false, .slice none 0 0, .slice none 0 0, .bool false]⟩)] ?_
    refine sw_false (by kernel_rfl) ?_
    refine sw_skip (mp_seq ?_)
    refine sw_seq ?_
    refine sw_seq ?_
    refine sw_reg ?_
    refine sy_pure 20 (.adr 1 2) ?_
    refine sy_ldv 21 (.v (.slice r.d.a r.d.n r.d.c)) ty22 part_one ?_
    refine sy_call 22 154 [.slice r.d.a r.d.n r.d.c, .slice none 0 0] ?_
    intro w11 u11 e11 d11
    have k14 := k_natCompare d11 (hd.ext e11) (nat_nil _ 1)
    with_reducible refine Post.mono k14 ?_
    clear k14
    rintro _ u12 g13 rfl
    refine sy_pure 23 (.v (.bool ((Nt.cmpS D 0) == 0))) ?_
    refine sy_next 34 [(1, .adr 1 0), (2, .adr 2 0), (23, .v (.bool ((Nt.cmpS D 0) == 0)))] [(1, ⟨26, r.cs⟩), (2, ⟨116, [.bool false, .slice none 0 0, .slice none 0 0, .bool false]⟩)] ?_
    refine sw_cond (b := (Nt.cmpS D 0) == 0) (by kernel_rfl) (fun hb15 => ?_) (fun hb15 => ?_)
    · replace hb15 : ((Nt.cmpS D 0) == 0) = true := hb15
      refine sw_seq ?_
      refine sw_reg ?_
      refine sy_pure 24 (.v (.agg #[.bool false, .slice none 0 0])) ?_
      refine sy_data 25 ⟨105, [.int .u32 1]⟩ 1 (fun b16 u17 e18 h19 => ?_)
      refine sy_pure 26 (.v (.agg #[.bool false, .slice none 0 0, .slice (some ⟨b16, 0, none⟩) 1 1])) ?_
      refine sy_pure 27 (.v (.agg #[.bool false, .slice none 0 0, .slice (some ⟨b16, 0, none⟩) 1 1, .bool true])) ?_
      refine sy_store ⟨116, [.bool false, .slice none 0 0, .slice (some ⟨b16, 0, none⟩) 1 1, .bool true]⟩ ty116 ?_
      refine sy_next 34 [(2, .adr 2 0)] [(2, ⟨116, [.bool false, .slice none 0 0, .slice (some ⟨b16, 0, none⟩) 1 1, .bool true]⟩)] ?_
      refine sw_ret (mpr_seq (ret0 [.agg #[.bool false, .slice none 0 0, .slice (some ⟨b16, 0, none⟩) 1 1, .bool true]] ⟨res_cell ty116 part_agg, trivial⟩ fun u20 e21 => ?_))
      have hD0 : D = 0 := (Nt.cmp_nat0 hb15).1 rfl
      refine ⟨⟨false, ⟨none, 0, 0⟩, (⟨some ⟨b16, 0, none⟩, 1, 1⟩ : Sl)⟩, true, rfl, 0, 1, (⟨0, nat_nil _ K, rfl⟩ : IntV _ ⟨false, ⟨none, 0, 0⟩⟩ 0 K), ((one_data h19).ext e21).raw.more hK, by omega, ?_, fun _ => rfl, hK⟩
      rw [hq, hD0]; simp
    · replace hb15 : ((Nt.cmpS D 0) == 0) = false := hb15
      refine sw_skip (mp_seq ?_)
      refine sw_seq ?_
      refine sw_reg ?_
      refine sy_pure 28 (.adr 1 0) ?_
      refine sy_ldv 29 (.v (.agg #[.bool r.s, .slice r.m.a r.m.n r.m.c])) ty24 part_agg ?_
      refine sy_pure 30 (.adr 1 2) ?_
      refine sy_ldv 31 (.v (.slice r.d.a r.d.n r.d.c)) ty22 part_one ?_
      refine sy_pure 32 (.v (r.v)) ?_
      refine sy_pure 33 (.v (.agg #[.bool r.s, .slice r.m.a r.m.n r.m.c, .slice r.d.a r.d.n r.d.c, .bool false])) ?_
      refine sy_store ⟨116, r.cs ++ [.bool false]⟩ ty116 ?_
      refine sy_next 34 [(2, .adr 2 0)] [(2, ⟨116, r.cs ++ [.bool false]⟩)] ?_
      refine sw_ret (ret0 [.agg #[.bool r.s, .slice r.m.a r.m.n r.m.c, .slice r.d.a r.d.n r.d.c, .bool false]] ⟨res_cell ty116 part_agg, trivial⟩ fun u22 e23 => ?_)
      have hD0 : 0 < D := (Nt.cmp_nat0 hb15).2 rfl
      exact ⟨r, false, rfl, z, D, hi.ext (e11.trans (g13.ext.trans e23)), hd.ext (e11.trans (g13.ext.trans e23)), hD0, hq, (fun k => by cases k), hK⟩
theorem k_isOne {u w : World} {x : Sl} {N K : Nat} (d : Dat u w) (h : NatN u x N K) : Calls Tryz.prog 174 #[x.v] w (Post u w fun v _ => v = .bool (decide (N = 1))) := by
  by_cases hn : x.n = 1
  · obtain ⟨b, o, ha, hc⟩ := nat_digit h.raw hn
    refine calls_sym (args := [.slice x.a x.n x.c]) Tryz.func174 rfl Tryz.ntmps174 (rs := [.tmp 2]) Tryz.results174 (le_b rfl) (le_b rfl) d ?_
    refine sw_seq ?_
    refine sw_reg ?_
    refine sy_pure 2 (.v (.bool false)) ?_
    refine sy_next 12 [(0, .v (.slice x.a x.n x.c))] [] ?_
    refine sw_seq ?_
    refine sw_reg ?_
    refine sy_pure 3 (.v (.slice x.a x.n x.c)) ?_
    refine sy_pure 4 (.v (.int .i64 (x.n : Int))) ?_
    refine sy_eq 5 (x := .v (.bool ((x.n : Int) == 1))) (.v (.bool true)) (by rw [show ((x.n : Int) == 1) = true from (by simp [hn])]) ?_
    refine sy_pure 6 (.v (.bool true)) ?_
    refine sy_pure 7 (.v (.slice x.a x.n x.c)) ?_ (hw := w1 3 true 6)
    refine sy_index 8 o (i := 0) (n := x.n) (by simp) ha (by omega) (by rw [hn]; decide) sl22 ?_ (hw := w1 3 true 6)
    refine sy_ld1 9 (.int .u32 (N : Int)) ((Ext.refl _).cell hc) ty105 ?_ (hw := w1 3 true 6)
    refine sy_pure 10 (.v (.bool ((N : Int) == 1))) ?_ (hw := w1 3 true 6)
    refine sy_pure 11 (.v (.bool ((N : Int) == 1))) ?_
    refine sy_pure 2 (.v (.bool ((N : Int) == 1))) ?_
    refine sy_next 12 [(2, .v (.bool ((N : Int) == 1)))] [] ?_
    refine sw_ret (ret0 [.bool ((N : Int) == 1)] ⟨res_tmp, trivial⟩ fun u11 e12 => ?_)
    show Value.bool _ = Value.bool _
    congr 1
    rw [Bool.eq_iff_iff]
    simp <;> omega
  · have hN : N ≠ 1 := fun e => hn (by rw [h.1, e, Nt.dl_one])
    refine calls_sym (args := [.slice x.a x.n x.c]) Tryz.func174 rfl Tryz.ntmps174 (rs := [.tmp 2]) Tryz.results174 (le_b rfl) (le_b rfl) d ?_
    refine sw_seq ?_
    refine sw_reg ?_
    refine sy_pure 2 (.v (.bool false)) ?_
    refine sy_next 12 [(0, .v (.slice x.a x.n x.c))] [] ?_
    refine sw_seq ?_
    refine sw_reg ?_
    refine sy_pure 3 (.v (.slice x.a x.n x.c)) ?_
    refine sy_pure 4 (.v (.int .i64 (x.n : Int))) ?_
    refine sy_eq 5 (x := .v (.bool ((x.n : Int) == 1))) (.v (.bool false)) (by rw [show ((x.n : Int) == 1) = false from (by simp; omega)]) ?_
    refine sy_pure 6 (.v (.bool false)) ?_
    refine sy_drop 7 (uw 3 true false 6) ?_
    refine sy_drop 8 (uw 3 true false 6) ?_
    refine sy_drop 9 (uw 3 true false 6) ?_
    refine sy_drop 10 (uw 3 true false 6) ?_
    refine sy_pure 11 (.v (.bool false)) ?_
    refine sy_pure 2 (.v (.bool false)) ?_
    refine sy_next 12 [(2, .v (.bool false))] [] ?_
    refine sw_ret (ret0 [.bool false] ⟨res_tmp, trivial⟩ fun u11 e12 => ?_)
    show _ = _
    simp [tupV]
    exact hN
set_option maxHeartbeats 1000000 in
theorem k_lowest {u w : World} {i : IL} {z : Int} {y : Sl} {D K L : Nat} (d : Dat u w) (h1 : IntV u i z K) (hD : NatV u y D L) (hp : 0 < D) (hK : K ≤ 500000000) (hL : L ≤ 500000000) : Calls Tryz.prog 150 #[.agg #[.bool i.s, i.m.v, y.v]] w (Post u w fun v u' => ∃ r : RL, v = r.v ∧ RatN u' r (mkRat z D) (max K L)) := by
  obtain ⟨N, hN, hz⟩ := h1
  have hL1 : 1 ≤ L := by have h2 := hD.size; have h3 := Nt.dl_mono (x := D) (y := 1) (by omega); rw [Nt.dl_one] at h3; omega
  refine calls_sym (args := [.agg #[.bool i.s, .slice i.m.a i.m.n i.m.c, .slice y.a y.n y.c]]) Tryz.func150 rfl Tryz.ntmps150 (rs := [.cell 2 26]) Tryz.results150 (le_b rfl) (le_b rfl) d ?_
  refine sw_seq ?_
  refine sw_reg ?_
  refine sy_new 1 ⟨114, i.cs ++ [.slice y.a y.n y.c]⟩ ?_
  refine sy_new 2 ⟨26, [.bool false, .slice none 0 0, .slice none 0 0]⟩ ?_
  refine sy_next 70 [(1, .adr 1 0), (2, .adr 2 0)] [(1, ⟨114, i.cs ++ [.slice y.a y.n y.c]⟩), (2, ⟨26, [.bool false, .slice none 0 0, .slice none 0 0]⟩)] ?_
  refine sw_seq ?_
  refine sw_reg ?_
  refine sy_pure 14 (.adr 1 0) ?_
  refine sy_pure 15 (.adr 1 1) ?_
  refine sy_ldv 16 (.v (.slice i.m.a i.m.n i.m.c)) ty22 part_one ?_
  refine sy_pure 17 (.adr 1 2) ?_
  refine sy_ldv 18 (.v (.slice y.a y.n y.c)) ty22 part_one ?_
  refine sy_call 19 181 [.slice i.m.a i.m.n i.m.c, .slice y.a y.n y.c] ?_
  intro w11 u11 e11 d11
  have k18 := k_natDivMod d11 (hN.ext e11) (hD.ext e11) hp (by omega) (by omega)
  with_reducible refine Post.mono k18 ?_
  clear k18
  rintro _ u16 g17 ⟨x12, x13, rfl, h14, h15⟩
  refine sy_pure 13 (.v (.tuple #[.slice x12.a x12.n x12.c, .slice x13.a x13.n x13.c, .int .i64 0])) ?_
  refine sy_pure 20 (.v (.slice x12.a x12.n x12.c)) ?_
  refine sy_pure 21 (.v (.slice x13.a x13.n x13.c)) ?_
  refine sy_pure 22 (.v (.int .i64 0)) ?_
  refine sy_pure 3 (.v (.slice x12.a x12.n x12.c)) ?_
  refine sy_pure 4 (.v (.slice x13.a x13.n x13.c)) ?_
  refine sy_pure 5 (.v (.int .i64 0)) ?_
  refine sy_next 70 [(1, .adr 1 0), (2, .adr 2 0), (3, .v (.slice x12.a x12.n x12.c)), (4, .v (.slice x13.a x13.n x13.c))] [(1, ⟨114, i.cs ++ [.slice y.a y.n y.c]⟩), (2, ⟨26, [.bool false, .slice none 0 0, .slice none 0 0]⟩)] ?_
  refine sw_seq ?_
  refine sw_seq ?_
  refine sw_reg ?_
  refine sy_pure 23 (.v (.slice x13.a x13.n x13.c)) ?_
  refine sy_pure 24 (.v (.int .i64 (x13.n : Int))) ?_
  refine sy_pure 25 (.v (.bool ((x13.n : Int) == 0))) ?_
  refine sy_next 70 [(1, .adr 1 0), (2, .adr 2 0), (3, .v (.slice x12.a x12.n x12.c)), (4, .v (.slice x13.a x13.n x13.c)), (25, .v (.bool ((x13.n : Int) == 0)))] [(1, ⟨114, i.cs ++ [.slice y.a y.n y.c]⟩), (2, ⟨26, [.bool false, .slice none 0 0, .slice none 0 0]⟩)] ?_
  refine sw_cond (b := (x13.n : Int) == 0) (by kernel_rfl) (fun hb19 => ?_) (fun hb19 => ?_)
  · replace hb19 : ((x13.n : Int) == 0) = true := hb19
    have qhb19 : (x13.n : Int) = 0 := by simpa using hb19
    have hr : N % D = 0 := by have h7 := (h15).pos; simp at hb19; omega
    refine sw_seq ?_
    refine sw_reg ?_
    refine sy_pure 26 (.adr 1 0) ?_
    refine sy_pure 27 (.adr 1 0) ?_
    refine sy_ldv 28 (.v (.bool i.s)) ty4 part_one ?_
    refine sy_pure 29 (.v (.slice x12.a x12.n x12.c)) ?_
    refine sy_pure 30 (.v (.agg #[.bool i.s, .slice x12.a x12.n x12.c])) ?_
    refine sy_call 31 182 [.agg #[.bool i.s, .slice x12.a x12.n x12.c]] ?_
    intro w20 u20 e20 d20
    have k25 := k_intTrim d20 (IntV.same (s := i.s) (h14.ext e20).raw) (by omega)
    with_reducible refine Post.mono k25 ?_
    clear k25
    rintro _ u23 g24 ⟨i21, rfl, h22⟩
    refine sy_call 32 152 [i21.v] ?_
    intro w26 u26 e26 d26
    have k31 := k_whole (i := i21) d26
    with_reducible refine Post.mono k31 ?_
    clear k31
    rintro _ u29 g30 ⟨y27, rfl, h28⟩
    refine sy_store ⟨26, i21.cs ++ [.slice y27.a y27.n y27.c]⟩ ty26 ?_
    refine sy_next 70 [(2, .adr 2 0)] [(2, ⟨26, i21.cs ++ [.slice y27.a y27.n y27.c]⟩)] ?_
    refine sw_ret (mpr_seq (ret0 [.agg #[.bool i21.s, .slice i21.m.a i21.m.n i21.m.c, .slice y27.a y27.n y27.c]] ⟨res_cell ty26 part_agg, trivial⟩ fun u32 e33 => ?_))
    refine ⟨(⟨i21.s, i21.m, y27⟩ : RL), rfl, RatN.more (K := (max K 1)) ?_ (by omega)⟩
    rw [hz, ← low1 hp hr]
    exact ((whole_rat (h22.ext (e26.trans g30.ext)) h28).ext e33)
  · replace hb19 : ((x13.n : Int) == 0) = false := hb19
    have qhb19 : ¬ ((x13.n : Int) = 0) := by simpa using hb19
    have hr : N % D ≠ 0 := by have h7 := (h15).pos; simp at hb19; omega
    refine sw_skip (mp_seq ?_)
    refine sw_seq ?_
    refine sw_reg ?_
    refine sy_pure 33 (.adr 1 2) ?_
    refine sy_ldv 34 (.v (.slice y.a y.n y.c)) ty22 part_one ?_
    refine sy_pure 35 (.v (.slice x13.a x13.n x13.c)) ?_
    refine sy_call 36 175 [.slice y.a y.n y.c, .slice x13.a x13.n x13.c] ?_
    intro w34 u34 e34 d34
    have k39 := k_natGcd d34 (hD.ext (e11.trans (g17.ext.trans e34))) (h15.ext e34).raw (by omega) (by omega)
    with_reducible refine Post.mono k39 ?_
    clear k39
    rintro _ u37 g38 ⟨x35, rfl, h36⟩
    refine sy_pure 6 (.v (.slice x35.a x35.n x35.c)) ?_
    refine sy_next 70 [(1, .adr 1 0), (2, .adr 2 0), (6, .v (.slice x35.a x35.n x35.c))] [(1, ⟨114, i.cs ++ [.slice y.a y.n y.c]⟩), (2, ⟨26, [.bool false, .slice none 0 0, .slice none 0 0]⟩)] ?_
    refine sw_seq ?_
    refine sw_seq ?_
    refine sw_reg ?_
    refine sy_pure 37 (.v (.slice x35.a x35.n x35.c)) ?_
    refine sy_call 38 174 [.slice x35.a x35.n x35.c] ?_
    intro w40 u40 e40 d40
    have k43 := k_isOne d40 (h36.ext e40)
    with_reducible refine Post.mono k43 ?_
    clear k43
    rintro _ u41 g42 rfl
    refine sy_next 70 [(1, .adr 1 0), (2, .adr 2 0), (6, .v (.slice x35.a x35.n x35.c)), (38, .v (.bool (decide ((Nat.gcd D (N % D)) = 1))))] [(1, ⟨114, i.cs ++ [.slice y.a y.n y.c]⟩), (2, ⟨26, [.bool false, .slice none 0 0, .slice none 0 0]⟩)] ?_
    refine sw_cond (b := decide ((Nat.gcd D (N % D)) = 1)) (by kernel_rfl) (fun hb44 => ?_) (fun hb44 => ?_)
    · replace hb44 : (decide ((Nat.gcd D (N % D)) = 1)) = true := hb44
      have qhb44 := of_decide_eq_true hb44
      have hg : Nat.gcd D (N % D) = 1 := by simpa using hb44
      have hgp : 0 < Nat.gcd D (N % D) := Nat.gcd_pos_of_pos_left _ hp
      refine sw_seq ?_
      refine sw_any [0, 1, 3, 0, 8, 31, 63, 127] [(0, []), (1, []), (3, []), (4, []), (2, []), (5, []), (6, []), (7, [])] (by kernel_rfl) (by kernel_rfl) ?_
      refine sy_pure 39 (.adr 1 0) ?_
      refine sy_ldv 40 (.v (i.v)) ty24 part_agg ?_
      refine sy_pure 42 (.adr 1 2) ?_
      refine sy_ldv 43 (.v (.slice y.a y.n y.c)) ty22 part_one ?_
      refine sy_call 41 182 [i.v] ?_
      intro w45 u45 e45 d45
      have k50 := k_intTrim d45 (IntV.same (s := i.s) (hN.ext (e11.trans (g17.ext.trans (e34.trans (g38.ext.trans (e40.trans (g42.ext.trans e45)))))))) (by omega)
      with_reducible refine Post.mono k50 ?_
      clear k50
      rintro _ u48 g49 ⟨i46, rfl, h47⟩
      refine sy_call 44 183 [.slice y.a y.n y.c] ?_
      intro w51 u51 e51 d51
      have k56 := k_natTrim d51 (hD.ext (e11.trans (g17.ext.trans (e34.trans (g38.ext.trans (e40.trans (g42.ext.trans (e45.trans (g49.ext.trans e51))))))))) (by omega)
      with_reducible refine Post.mono k56 ?_
      clear k56
      rintro _ u54 g55 ⟨x52, rfl, h53⟩
      refine sy_pure 45 (.v (.agg #[.bool i46.s, .slice i46.m.a i46.m.n i46.m.c, .slice x52.a x52.n x52.c])) ?_
      refine sy_store ⟨26, i46.cs ++ [.slice x52.a x52.n x52.c]⟩ ty26 ?_
      refine sy_next 70 [(2, .adr 2 0)] [(2, ⟨26, i46.cs ++ [.slice x52.a x52.n x52.c]⟩)] ?_
      refine sw_ret (mpr_seq (ret0 [.agg #[.bool i46.s, .slice i46.m.a i46.m.n i46.m.c, .slice x52.a x52.n x52.c]] ⟨res_cell ty26 part_agg, trivial⟩ fun u57 e58 => ?_))
      refine ⟨(⟨i46.s, i46.m, x52⟩ : RL), rfl, ?_⟩
      rw [hz]
      exact low2 hp hg (h47.ext (e51.trans (g55.ext.trans e58))) (h53.ext e58)
    · replace hb44 : (decide ((Nat.gcd D (N % D)) = 1)) = false := hb44
      have qhb44 := of_decide_eq_false hb44
      have hg : ¬ Nat.gcd D (N % D) = 1 := by simpa using hb44
      have hgp : 0 < Nat.gcd D (N % D) := Nat.gcd_pos_of_pos_left _ hp
      refine sw_skip (mp_seq ?_)
      refine sw_seq ?_
      refine sw_reg ?_
      refine sy_pure 47 (.adr 1 0) ?_
      refine sy_pure 48 (.adr 1 1) ?_
      refine sy_ldv 49 (.v (.slice i.m.a i.m.n i.m.c)) ty22 part_one ?_
      refine sy_pure 50 (.v (.slice x35.a x35.n x35.c)) ?_
      refine sy_call 51 181 [.slice i.m.a i.m.n i.m.c, .slice x35.a x35.n x35.c] ?_
      intro w59 u59 e59 d59
      have k66 := k_natDivMod d59 (hN.ext (e11.trans (g17.ext.trans (e34.trans (g38.ext.trans (e40.trans (g42.ext.trans e59))))))) (h36.ext (e40.trans (g42.ext.trans e59))).raw hgp (by omega) (by omega)
      with_reducible refine Post.mono k66 ?_
      clear k66
      rintro _ u64 g65 ⟨x60, x61, rfl, h62, h63⟩
      refine sy_pure 46 (.v (.tuple #[.slice x60.a x60.n x60.c, .slice x61.a x61.n x61.c, .int .i64 0])) ?_
      refine sy_pure 52 (.v (.slice x60.a x60.n x60.c)) ?_
      refine sy_pure 53 (.v (.slice x61.a x61.n x61.c)) ?_
      refine sy_pure 54 (.v (.int .i64 0)) ?_
      refine sy_pure 7 (.v (.slice x60.a x60.n x60.c)) ?_
      refine sy_pure 8 (.v (.slice x61.a x61.n x61.c)) ?_
      refine sy_pure 9 (.v (.int .i64 0)) ?_
      refine sy_next 70 [(1, .adr 1 0), (2, .adr 2 0), (6, .v (.slice x35.a x35.n x35.c)), (7, .v (.slice x60.a x60.n x60.c))] [(1, ⟨114, i.cs ++ [.slice y.a y.n y.c]⟩), (2, ⟨26, [.bool false, .slice none 0 0, .slice none 0 0]⟩)] ?_
      refine sw_seq ?_
      refine sw_reg ?_
      refine sy_pure 56 (.adr 1 2) ?_
      refine sy_ldv 57 (.v (.slice y.a y.n y.c)) ty22 part_one ?_
      refine sy_pure 58 (.v (.slice x35.a x35.n x35.c)) ?_
      refine sy_call 59 181 [.slice y.a y.n y.c, .slice x35.a x35.n x35.c] ?_
      intro w67 u67 e67 d67
      have k74 := k_natDivMod d67 (hD.ext (e11.trans (g17.ext.trans (e34.trans (g38.ext.trans (e40.trans (g42.ext.trans (e59.trans (g65.ext.trans e67))))))))) (h36.ext (e40.trans (g42.ext.trans (e59.trans (g65.ext.trans e67))))).raw hgp (by omega) (by omega)
      with_reducible refine Post.mono k74 ?_
      clear k74
      rintro _ u72 g73 ⟨x68, x69, rfl, h70, h71⟩
      refine sy_pure 55 (.v (.tuple #[.slice x68.a x68.n x68.c, .slice x69.a x69.n x69.c, .int .i64 0])) ?_
      refine sy_pure 60 (.v (.slice x68.a x68.n x68.c)) ?_
      refine sy_pure 61 (.v (.slice x69.a x69.n x69.c)) ?_
      refine sy_pure 62 (.v (.int .i64 0)) ?_
      refine sy_pure 10 (.v (.slice x68.a x68.n x68.c)) ?_
      refine sy_pure 11 (.v (.slice x69.a x69.n x69.c)) ?_
      refine sy_pure 12 (.v (.int .i64 0)) ?_
      refine sy_next 70 [(1, .adr 1 0), (2, .adr 2 0), (7, .v (.slice x60.a x60.n x60.c)), (10, .v (.slice x68.a x68.n x68.c))] [(1, ⟨114, i.cs ++ [.slice y.a y.n y.c]⟩), (2, ⟨26, [.bool false, .slice none 0 0, .slice none 0 0]⟩)] ?_
      refine sw_seq ?_
      refine sw_reg ?_
      refine sy_pure 63 (.adr 1 0) ?_
      refine sy_pure 64 (.adr 1 0) ?_
      refine sy_ldv 65 (.v (.bool i.s)) ty4 part_one ?_
      refine sy_pure 66 (.v (.slice x60.a x60.n x60.c)) ?_
      refine sy_pure 67 (.v (.agg #[.bool i.s, .slice x60.a x60.n x60.c])) ?_
      refine sy_pure 68 (.v (.slice x68.a x68.n x68.c)) ?_
      refine sy_pure 69 (.v (.agg #[.bool i.s, .slice x60.a x60.n x60.c, .slice x68.a x68.n x68.c])) ?_
      refine sy_store ⟨26, [.bool i.s, .slice x60.a x60.n x60.c, .slice x68.a x68.n x68.c]⟩ ty26 ?_
      refine sy_next 70 [(2, .adr 2 0)] [(2, ⟨26, [.bool i.s, .slice x60.a x60.n x60.c, .slice x68.a x68.n x68.c]⟩)] ?_
      refine sw_ret (ret0 [.agg #[.bool i.s, .slice x60.a x60.n x60.c, .slice x68.a x68.n x68.c]] ⟨res_cell ty26 part_agg, trivial⟩ fun u75 e76 => ?_)
      refine ⟨(⟨i.s, x60, x68⟩ : RL), rfl, RatN.more (K := max K L) ?_ (by omega)⟩
      rw [hz]
      exact low3 hp hr (h62.ext (e67.trans (g73.ext.trans e76))) (h70.ext e76)
theorem k_ratTrim {u w : World} {r1 : RL} {x : Rat} {K : Nat} (d : Dat u w) (hr1 : RatV u r1 x K) (hK : K ≤ 200000000) : Calls Tryz.prog 126 #[r1.v] w (Post u w fun v u' => ∃ r : RL, v = r.v ∧ RatN u' r x K) := by
  refine calls_sym (args := [r1.v]) Tryz.func126 rfl Tryz.ntmps126 (rs := [.cell 2 26]) Tryz.results126 (le_b rfl) (le_b rfl) d ?_
  refine sw_seq ?_
  refine sw_reg ?_
  refine sy_new 1 ⟨26, r1.cs⟩ ?_
  refine sy_new 2 ⟨26, [.bool false, .slice none 0 0, .slice none 0 0]⟩ ?_
  refine sy_next 7 [(1, .adr 1 0), (2, .adr 2 0)] [(1, ⟨26, r1.cs⟩), (2, ⟨26, [.bool false, .slice none 0 0, .slice none 0 0]⟩)] ?_
  refine sw_seq ?_
  refine sw_reg ?_
  refine sy_ldv 3 (.v (r1.v)) ty26 part_agg ?_
  refine sy_call 4 145 [r1.v] ?_
  intro w11 u11 e11 d11
  have k15 := k_read d11 (hr1.ext e11)
  with_reducible refine Post.mono k15 ?_
  clear k15
  rintro _ u13 g14 ⟨r12, wh12, rfl, z12, D12, hi12, hd12, hp12, hq12, hw12, hk12⟩
  refine sy_pure 5 (.v (r12.v)) ?_
  refine sy_call 6 150 [r12.v] ?_
  intro w16 u16 e16 d16
  have k21 := k_lowest d16 (hi12.ext e16) (hd12.ext e16) hp12 (by omega) (by omega)
  with_reducible refine Post.mono k21 ?_
  clear k21
  rintro _ u19 g20 ⟨r17, rfl, h18⟩
  refine sy_store ⟨26, r17.cs⟩ ty26 ?_
  refine sy_next 7 [(2, .adr 2 0)] [(2, ⟨26, r17.cs⟩)] ?_
  refine sw_ret (ret0 [r17.v] ⟨res_cell ty26 part_agg, trivial⟩ fun u22 e23 => ?_)
  refine ⟨r17, rfl, RatN.more (K := (max K K)) ?_ (by omega)⟩
  rw [hq12]; exact (h18.ext e23)
theorem k_ratOf {u w : World} {z : Int} (d : Dat u w) (h0 : -9223372036854775808 ≤ z) (h1 : z ≤ 9223372036854775807) : Calls Tryz.prog 112 #[.int .i64 z] w (Post u w fun v u' => ∃ r : RL, v = r.v ∧ RatN u' r (z : Rat) 2) := by
  refine calls_sym (args := [.int .i64 z]) Tryz.func112 rfl Tryz.ntmps112 (rs := [.cell 2 26]) Tryz.results112 (le_b rfl) (le_b rfl) d ?_
  refine sw_seq ?_
  refine sw_reg ?_
  refine sy_new 2 ⟨26, [.bool false, .slice none 0 0, .slice none 0 0]⟩ ?_
  refine sy_next 6 [(0, .v (.int .i64 z)), (2, .adr 2 0)] [(2, ⟨26, [.bool false, .slice none 0 0, .slice none 0 0]⟩)] ?_
  refine sw_seq ?_
  refine sw_reg ?_
  refine sy_pure 3 (.v (.int .i64 z)) ?_
  refine sy_call 4 166 [.int .i64 z] ?_
  intro w11 u11 e11 d11
  have k16 := k_intOf d11 (z := z) (by omega) (by omega)
  with_reducible refine Post.mono k16 ?_
  clear k16
  rintro _ u14 g15 ⟨i12, rfl, h13⟩
  refine sy_call 5 152 [i12.v] ?_
  intro w17 u17 e17 d17
  have k22 := k_whole (i := i12) d17
  with_reducible refine Post.mono k22 ?_
  clear k22
  rintro _ u20 g21 ⟨y18, rfl, h19⟩
  refine sy_store ⟨26, i12.cs ++ [.slice y18.a y18.n y18.c]⟩ ty26 ?_
  refine sy_next 6 [(2, .adr 2 0)] [(2, ⟨26, i12.cs ++ [.slice y18.a y18.n y18.c]⟩)] ?_
  refine sw_ret (ret0 [.agg #[.bool i12.s, .slice i12.m.a i12.m.n i12.m.c, .slice y18.a y18.n y18.c]] ⟨res_cell ty26 part_agg, trivial⟩ fun u23 e24 => ?_)
  refine ⟨(⟨i12.s, i12.m, y18⟩ : RL), rfl, RatN.more (K := (max 2 1)) ?_ (by omega)⟩
  exact ((whole_rat (h13.ext (e17.trans g21.ext)) h19).ext e24)
theorem k_ratSign {u w : World} {r1 : RL} {x : Rat} {K : Nat} (d : Dat u w) (hr1 : RatV u r1 x K)  : Calls Tryz.prog 132 #[r1.v] w (Post u w fun v u' => v = .int .i64 (Nt.sgQ x)) := by
  refine calls_sym (args := [r1.v]) Tryz.func132 rfl Tryz.ntmps132 (rs := [.tmp 2]) Tryz.results132 (le_b rfl) (le_b rfl) d ?_
  refine sw_seq ?_
  refine sw_reg ?_
  refine sy_new 1 ⟨26, r1.cs⟩ ?_
  refine sy_pure 2 (.v (.int .i64 0)) ?_
  refine sy_next 8 [(1, .adr 1 0)] [(1, ⟨26, r1.cs⟩)] ?_
  refine sw_seq ?_
  refine sw_reg ?_
  refine sy_ldv 3 (.v (r1.v)) ty26 part_agg ?_
  refine sy_call 4 145 [r1.v] ?_
  intro w11 u11 e11 d11
  have k15 := k_read d11 (hr1.ext e11)
  with_reducible refine Post.mono k15 ?_
  clear k15
  rintro _ u13 g14 ⟨r12, wh12, rfl, z12, D12, hi12, hd12, hp12, hq12, hw12, hk12⟩
  refine sy_pure 5 (.v (r12.v)) ?_
  refine sy_pure 6 (.v (.agg #[.bool r12.s, .slice r12.m.a r12.m.n r12.m.c])) ?_
  refine sy_call 7 146 [.agg #[.bool r12.s, .slice r12.m.a r12.m.n r12.m.c]] ?_
  intro w16 u16 e16 d16
  have k19 := k_intSign d16 (hi12.ext e16)
  with_reducible refine Post.mono k19 ?_
  clear k19
  rintro _ u17 g18 rfl
  refine sy_pure 2 (.v (.int .i64 (Nt.cmpS z12 0))) ?_
  refine sy_next 8 [(2, .v (.int .i64 (Nt.cmpS z12 0)))] [] ?_
  refine sw_ret (ret0 [.int .i64 (Nt.cmpS z12 0)] ⟨res_tmp, trivial⟩ fun u20 e21 => ?_)
  show _ = _
  rw [hq12, ← Nt.sg_mk hp12]
  rfl
theorem k_ratCompare {u w : World} {r1 : RL} {x : Rat} {K : Nat} {r2 : RL} {y : Rat} {L : Nat} (d : Dat u w) (hr1 : RatV u r1 x K) (hr2 : RatV u r2 y L) (hK : K ≤ 200000000) (hL : L ≤ 200000000) : Calls Tryz.prog 114 #[r1.v, r2.v] w (Post u w fun v u' => v = .int .i64 (Nt.cmpQ x y)) := by
  refine calls_sym (args := [r1.v, r2.v]) Tryz.func114 rfl Tryz.ntmps114 (rs := [.tmp 4]) Tryz.results114 (le_b rfl) (le_b rfl) d ?_
  refine sw_seq ?_
  refine sw_reg ?_
  refine sy_new 2 ⟨26, r1.cs⟩ ?_
  refine sy_new 3 ⟨26, r2.cs⟩ ?_
  refine sy_pure 4 (.v (.int .i64 0)) ?_
  refine sy_next 41 [(2, .adr 2 0), (3, .adr 3 0)] [(2, ⟨26, r1.cs⟩), (3, ⟨26, r2.cs⟩)] ?_
  refine sw_seq ?_
  refine sw_any [0, 1, 0, 7, 0, 0, 63, 127] [(0, []), (2, []), (4, []), (5, []), (1, []), (3, []), (6, []), (7, [])] (by kernel_rfl) (by kernel_rfl) ?_
  refine sy_ldv 7 (.v (r1.v)) ty26 part_agg ?_
  refine sy_ldv 9 (.v (r2.v)) ty26 part_agg ?_
  refine sy_new 5 ⟨116, [.bool false, .slice none 0 0, .slice none 0 0, .bool false]⟩ ?_
  refine sy_new 6 ⟨116, [.bool false, .slice none 0 0, .slice none 0 0, .bool false]⟩ ?_
  refine sy_call 8 145 [r1.v] ?_
  intro w11 u11 e11 d11
  have k15 := k_read d11 (hr1.ext e11)
  with_reducible refine Post.mono k15 ?_
  clear k15
  rintro _ u13 g14 ⟨r12, wh12, rfl, z12, D12, hi12, hd12, hp12, hq12, hw12, hk12⟩
  refine sy_call 10 145 [r2.v] ?_
  intro w16 u16 e16 d16
  have k20 := k_read d16 (hr2.ext (e11.trans (g14.ext.trans e16)))
  with_reducible refine Post.mono k20 ?_
  clear k20
  rintro _ u18 g19 ⟨r17, wh17, rfl, z17, D17, hi17, hd17, hp17, hq17, hw17, hk17⟩
  refine sy_store ⟨116, r12.cs ++ [.bool wh12]⟩ ty116 ?_
  refine sy_store ⟨116, r17.cs ++ [.bool wh17]⟩ ty116 ?_
  refine sy_next 41 [(5, .adr 5 0), (6, .adr 6 0)] [(5, ⟨116, r12.cs ++ [.bool wh12]⟩), (6, ⟨116, r17.cs ++ [.bool wh17]⟩)] ?_
  refine sw_seq ?_
  refine sw_seq ?_
  refine sw_reg ?_
  refine sy_pure 11 (.adr 5 3) ?_
  refine sy_ldv 12 (.v (.bool wh12)) ty4 part_one ?_
  rcases Bool.eq_false_or_eq_true wh12 with hs21 | hs21
  · refine sy_eq 13 (x := .v (.bool wh12)) (.v (.bool true)) (by rw [hs21]) ?_
    refine sy_pure 14 (.adr 6 3) ?_ (hw := w1 2 true 13)
    refine sy_ldv 15 (.v (.bool wh17)) ty4 part_one ?_ (hw := w1 2 true 13)
    refine sy_pure 16 (.v (.bool wh17)) ?_
    refine sy_next 41 [(5, .adr 5 0), (6, .adr 6 0), (16, .v (.bool wh17))] [(5, ⟨116, r12.cs ++ [.bool wh12]⟩), (6, ⟨116, r17.cs ++ [.bool wh17]⟩)] ?_
    refine sw_cond (b := wh17) (by kernel_rfl) (fun hb22 => ?_) (fun hb22 => ?_)
    · replace hb22 : wh17 = true := hb22
      refine sw_seq ?_
      refine sw_reg ?_
      refine sy_pure 17 (.adr 5 0) ?_
      refine sy_pure 18 (.adr 5 0) ?_
      refine sy_ldv 19 (.v (.agg #[.bool r12.s, .slice r12.m.a r12.m.n r12.m.c])) ty24 part_agg ?_
      refine sy_pure 20 (.adr 6 0) ?_
      refine sy_pure 21 (.adr 6 0) ?_
      refine sy_ldv 22 (.v (.agg #[.bool r17.s, .slice r17.m.a r17.m.n r17.m.c])) ty24 part_agg ?_
      refine sy_call 23 167 [.agg #[.bool r12.s, .slice r12.m.a r12.m.n r12.m.c], .agg #[.bool r17.s, .slice r17.m.a r17.m.n r17.m.c]] ?_
      intro w23 u23 e23 d23
      have k26 := k_intCompare d23 (hi12.ext (e16.trans (g19.ext.trans e23))) (hi17.ext e23)
      with_reducible refine Post.mono k26 ?_
      clear k26
      rintro _ u24 g25 rfl
      refine sy_pure 4 (.v (.int .i64 (Nt.cmpS z12 z17))) ?_
      refine sy_next 41 [(4, .v (.int .i64 (Nt.cmpS z12 z17)))] [] ?_
      refine sw_ret (mpr_seq (ret0 [.int .i64 (Nt.cmpS z12 z17)] ⟨res_tmp, trivial⟩ fun u27 e28 => ?_))
      show _ = _
      rw [hq12, hq17, ← Nt.cmp_mk hp12 hp17]
      rw [hw12 (by assumption), hw17 (by assumption)]
      simp [tupV]
    · replace hb22 : wh17 = false := hb22
      refine sw_skip (mp_seq ?_)
      refine sw_seq ?_
      refine sw_any [0, 1, 3, 0, 8, 24, 56, 127, 0, 256, 768, 0, 2048, 6144, 14591, 32767, 65535, 131071] [(0, []), (1, []), (2, []), (3, []), (4, []), (5, []), (8, []), (9, []), (10, []), (11, []), (12, []), (13, []), (6, []), (7, []), (14, []), (15, []), (16, []), (17, [])] (by kernel_rfl) (by kernel_rfl) ?_
      refine sy_pure 24 (.adr 5 0) ?_
      refine sy_pure 25 (.adr 5 0) ?_
      refine sy_ldv 26 (.v (.agg #[.bool r12.s, .slice r12.m.a r12.m.n r12.m.c])) ty24 part_agg ?_
      refine sy_pure 27 (.adr 6 0) ?_
      refine sy_pure 28 (.adr 6 2) ?_
      refine sy_ldv 29 (.v (.slice r17.d.a r17.d.n r17.d.c)) ty22 part_one ?_
      refine sy_pure 32 (.adr 6 0) ?_
      refine sy_pure 33 (.adr 6 0) ?_
      refine sy_ldv 34 (.v (.agg #[.bool r17.s, .slice r17.m.a r17.m.n r17.m.c])) ty24 part_agg ?_
      refine sy_pure 35 (.adr 5 0) ?_
      refine sy_pure 36 (.adr 5 2) ?_
      refine sy_ldv 37 (.v (.slice r12.d.a r12.d.n r12.d.c)) ty22 part_one ?_
      refine sy_call 30 148 [.slice r17.d.a r17.d.n r17.d.c] ?_
      intro w29 u29 e29 d29
      have k32 := k_natural (x := r17.d) d29
      with_reducible refine Post.mono k32 ?_
      clear k32
      rintro _ u30 g31 rfl
      refine sy_call 31 147 [.agg #[.bool r12.s, .slice r12.m.a r12.m.n r12.m.c], .agg #[.bool false, .slice r17.d.a r17.d.n r17.d.c]] ?_
      intro w33 u33 e33 d33
      have k38 := k_intMul d33 (hi12.ext (e16.trans (g19.ext.trans (e29.trans (g31.ext.trans e33))))) (nat_int (hd17.ext (e29.trans (g31.ext.trans e33)))) (by omega) (by omega)
      with_reducible refine Post.mono k38 ?_
      clear k38
      rintro _ u36 g37 ⟨i34, rfl, h35⟩
      refine sy_call 38 148 [.slice r12.d.a r12.d.n r12.d.c] ?_
      intro w39 u39 e39 d39
      have k42 := k_natural (x := r12.d) d39
      with_reducible refine Post.mono k42 ?_
      clear k42
      rintro _ u40 g41 rfl
      refine sy_call 39 147 [.agg #[.bool r17.s, .slice r17.m.a r17.m.n r17.m.c], .agg #[.bool false, .slice r12.d.a r12.d.n r12.d.c]] ?_
      intro w43 u43 e43 d43
      have k48 := k_intMul d43 (hi17.ext (e29.trans (g31.ext.trans (e33.trans (g37.ext.trans (e39.trans (g41.ext.trans e43))))))) (nat_int (hd12.ext (e16.trans (g19.ext.trans (e29.trans (g31.ext.trans (e33.trans (g37.ext.trans (e39.trans (g41.ext.trans e43)))))))))) (by omega) (by omega)
      with_reducible refine Post.mono k48 ?_
      clear k48
      rintro _ u46 g47 ⟨i44, rfl, h45⟩
      refine sy_call 40 167 [i34.v, i44.v] ?_
      intro w49 u49 e49 d49
      have k52 := k_intCompare d49 (h35.ext (e39.trans (g41.ext.trans (e43.trans (g47.ext.trans e49))))).raw (h45.ext e49).raw
      with_reducible refine Post.mono k52 ?_
      clear k52
      rintro _ u50 g51 rfl
      refine sy_pure 4 (.v (.int .i64 (Nt.cmpS (z12 * (D17 : Int)) (z17 * (D12 : Int))))) ?_
      refine sy_next 41 [(4, .v (.int .i64 (Nt.cmpS (z12 * (D17 : Int)) (z17 * (D12 : Int)))))] [] ?_
      refine sw_ret (ret0 [.int .i64 (Nt.cmpS (z12 * (D17 : Int)) (z17 * (D12 : Int)))] ⟨res_tmp, trivial⟩ fun u53 e54 => ?_)
      show _ = _
      rw [hq12, hq17, ← Nt.cmp_mk hp12 hp17]
      rfl
  · refine sy_eq 13 (x := .v (.bool wh12)) (.v (.bool false)) (by rw [hs21]) ?_
    refine sy_drop 14 (uw 2 true false 13) ?_
    refine sy_drop 15 (uw 2 true false 13) ?_
    refine sy_pure 16 (.v (.bool false)) ?_
    refine sy_next 41 [(5, .adr 5 0), (6, .adr 6 0), (16, .v (.bool false))] [(5, ⟨116, r12.cs ++ [.bool wh12]⟩), (6, ⟨116, r17.cs ++ [.bool wh17]⟩)] ?_
    refine sw_false (by kernel_rfl) ?_
    refine sw_skip (mp_seq ?_)
    refine sw_seq ?_
    refine sw_any [0, 1, 3, 0, 8, 24, 56, 127, 0, 256, 768, 0, 2048, 6144, 14591, 32767, 65535, 131071] [(0, []), (1, []), (2, []), (3, []), (4, []), (5, []), (8, []), (9, []), (10, []), (11, []), (12, []), (13, []), (6, []), (7, []), (14, []), (15, []), (16, []), (17, [])] (by kernel_rfl) (by kernel_rfl) ?_
    refine sy_pure 24 (.adr 5 0) ?_
    refine sy_pure 25 (.adr 5 0) ?_
    refine sy_ldv 26 (.v (.agg #[.bool r12.s, .slice r12.m.a r12.m.n r12.m.c])) ty24 part_agg ?_
    refine sy_pure 27 (.adr 6 0) ?_
    refine sy_pure 28 (.adr 6 2) ?_
    refine sy_ldv 29 (.v (.slice r17.d.a r17.d.n r17.d.c)) ty22 part_one ?_
    refine sy_pure 32 (.adr 6 0) ?_
    refine sy_pure 33 (.adr 6 0) ?_
    refine sy_ldv 34 (.v (.agg #[.bool r17.s, .slice r17.m.a r17.m.n r17.m.c])) ty24 part_agg ?_
    refine sy_pure 35 (.adr 5 0) ?_
    refine sy_pure 36 (.adr 5 2) ?_
    refine sy_ldv 37 (.v (.slice r12.d.a r12.d.n r12.d.c)) ty22 part_one ?_
    refine sy_call 30 148 [.slice r17.d.a r17.d.n r17.d.c] ?_
    intro w55 u55 e55 d55
    have k58 := k_natural (x := r17.d) d55
    with_reducible refine Post.mono k58 ?_
    clear k58
    rintro _ u56 g57 rfl
    refine sy_call 31 147 [.agg #[.bool r12.s, .slice r12.m.a r12.m.n r12.m.c], .agg #[.bool false, .slice r17.d.a r17.d.n r17.d.c]] ?_
    intro w59 u59 e59 d59
    have k64 := k_intMul d59 (hi12.ext (e16.trans (g19.ext.trans (e55.trans (g57.ext.trans e59))))) (nat_int (hd17.ext (e55.trans (g57.ext.trans e59)))) (by omega) (by omega)
    with_reducible refine Post.mono k64 ?_
    clear k64
    rintro _ u62 g63 ⟨i60, rfl, h61⟩
    refine sy_call 38 148 [.slice r12.d.a r12.d.n r12.d.c] ?_
    intro w65 u65 e65 d65
    have k68 := k_natural (x := r12.d) d65
    with_reducible refine Post.mono k68 ?_
    clear k68
    rintro _ u66 g67 rfl
    refine sy_call 39 147 [.agg #[.bool r17.s, .slice r17.m.a r17.m.n r17.m.c], .agg #[.bool false, .slice r12.d.a r12.d.n r12.d.c]] ?_
    intro w69 u69 e69 d69
    have k74 := k_intMul d69 (hi17.ext (e55.trans (g57.ext.trans (e59.trans (g63.ext.trans (e65.trans (g67.ext.trans e69))))))) (nat_int (hd12.ext (e16.trans (g19.ext.trans (e55.trans (g57.ext.trans (e59.trans (g63.ext.trans (e65.trans (g67.ext.trans e69)))))))))) (by omega) (by omega)
    with_reducible refine Post.mono k74 ?_
    clear k74
    rintro _ u72 g73 ⟨i70, rfl, h71⟩
    refine sy_call 40 167 [i60.v, i70.v] ?_
    intro w75 u75 e75 d75
    have k78 := k_intCompare d75 (h61.ext (e65.trans (g67.ext.trans (e69.trans (g73.ext.trans e75))))).raw (h71.ext e75).raw
    with_reducible refine Post.mono k78 ?_
    clear k78
    rintro _ u76 g77 rfl
    refine sy_pure 4 (.v (.int .i64 (Nt.cmpS (z12 * (D17 : Int)) (z17 * (D12 : Int))))) ?_
    refine sy_next 41 [(4, .v (.int .i64 (Nt.cmpS (z12 * (D17 : Int)) (z17 * (D12 : Int)))))] [] ?_
    refine sw_ret (ret0 [.int .i64 (Nt.cmpS (z12 * (D17 : Int)) (z17 * (D12 : Int)))] ⟨res_tmp, trivial⟩ fun u79 e80 => ?_)
    show _ = _
    rw [hq12, hq17, ← Nt.cmp_mk hp12 hp17]
    rfl
theorem k_ratAbs {u w : World} {r1 : RL} {x : Rat} {K : Nat} (d : Dat u w) (hr1 : RatV u r1 x K) (hK : K ≤ 200000000) : Calls Tryz.prog 139 #[r1.v] w (Post u w fun v u' => ∃ r : RL, v = r.v ∧ RatN u' r (Nt.absQ x) K) := by
  refine calls_sym (args := [r1.v]) Tryz.func139 rfl Tryz.ntmps139 (rs := [.cell 2 26]) Tryz.results139 (le_b rfl) (le_b rfl) d ?_
  refine sw_seq ?_
  refine sw_reg ?_
  refine sy_new 1 ⟨26, r1.cs⟩ ?_
  refine sy_new 2 ⟨26, [.bool false, .slice none 0 0, .slice none 0 0]⟩ ?_
  refine sy_next 11 [(1, .adr 1 0), (2, .adr 2 0)] [(1, ⟨26, r1.cs⟩), (2, ⟨26, [.bool false, .slice none 0 0, .slice none 0 0]⟩)] ?_
  refine sw_seq ?_
  refine sw_reg ?_
  refine sy_pure 3 (.adr 1 0) ?_
  refine sy_pure 4 (.adr 1 1) ?_
  refine sy_ldv 5 (.v (.slice r1.m.a r1.m.n r1.m.c)) ty22 part_one ?_
  refine sy_pure 6 (.v (.agg #[.bool false, .slice r1.m.a r1.m.n r1.m.c])) ?_
  refine sy_pure 7 (.adr 1 2) ?_
  refine sy_ldv 8 (.v (.slice r1.d.a r1.d.n r1.d.c)) ty22 part_one ?_
  refine sy_pure 9 (.v (.agg #[.bool false, .slice r1.m.a r1.m.n r1.m.c, .slice r1.d.a r1.d.n r1.d.c])) ?_
  refine sy_call 10 126 [.agg #[.bool false, .slice r1.m.a r1.m.n r1.m.c, .slice r1.d.a r1.d.n r1.d.c]] ?_
  intro w11 u11 e11 d11
  have k16 := k_ratTrim d11 ((abs_rat hr1).ext e11) (by omega)
  with_reducible refine Post.mono k16 ?_
  clear k16
  rintro _ u14 g15 ⟨r12, rfl, h13⟩
  refine sy_store ⟨26, r12.cs⟩ ty26 ?_
  refine sy_next 11 [(2, .adr 2 0)] [(2, ⟨26, r12.cs⟩)] ?_
  refine sw_ret (ret0 [r12.v] ⟨res_cell ty26 part_agg, trivial⟩ fun u17 e18 => ?_)
  refine ⟨r12, rfl, RatN.more (K := K) ?_ (by omega)⟩
  exact (h13.ext e18)
set_option maxHeartbeats 1000000 in
theorem k_ratAdd {u w : World} {r1 : RL} {x : Rat} {K : Nat} {r2 : RL} {y : Rat} {L : Nat} (d : Dat u w) (hr1 : RatV u r1 x K) (hr2 : RatV u r2 y L) (hK : K ≤ 200000000) (hL : L ≤ 200000000) : Calls Tryz.prog 104 #[r1.v, r2.v] w (Post u w fun v u' => ∃ r : RL, v = r.v ∧ RatN u' r (x + y) (K + L + 1)) := by
  refine calls_sym (args := [r1.v, r2.v]) Tryz.func104 rfl Tryz.ntmps104 (rs := [.cell 4 26]) Tryz.results104 (le_b rfl) (le_b rfl) d ?_
  refine sw_seq ?_
  refine sw_reg ?_
  refine sy_new 2 ⟨26, r1.cs⟩ ?_
  refine sy_new 3 ⟨26, r2.cs⟩ ?_
  refine sy_new 4 ⟨26, [.bool false, .slice none 0 0, .slice none 0 0]⟩ ?_
  refine sy_next 73 [(2, .adr 2 0), (3, .adr 3 0), (4, .adr 4 0)] [(2, ⟨26, r1.cs⟩), (3, ⟨26, r2.cs⟩), (4, ⟨26, [.bool false, .slice none 0 0, .slice none 0 0]⟩)] ?_
  refine sw_seq ?_
  refine sw_any [0, 1, 0, 7, 0, 0, 63, 127] [(0, []), (2, []), (4, []), (5, []), (1, []), (3, []), (6, []), (7, [])] (by kernel_rfl) (by kernel_rfl) ?_
  refine sy_ldv 8 (.v (r1.v)) ty26 part_agg ?_
  refine sy_ldv 10 (.v (r2.v)) ty26 part_agg ?_
  refine sy_new 5 ⟨116, [.bool false, .slice none 0 0, .slice none 0 0, .bool false]⟩ ?_
  refine sy_new 6 ⟨116, [.bool false, .slice none 0 0, .slice none 0 0, .bool false]⟩ ?_
  refine sy_call 9 145 [r1.v] ?_
  intro w11 u11 e11 d11
  have k15 := k_read d11 (hr1.ext e11)
  with_reducible refine Post.mono k15 ?_
  clear k15
  rintro _ u13 g14 ⟨r12, wh12, rfl, z12, D12, hi12, hd12, hp12, hq12, hw12, hk12⟩
  refine sy_call 11 145 [r2.v] ?_
  intro w16 u16 e16 d16
  have k20 := k_read d16 (hr2.ext (e11.trans (g14.ext.trans e16)))
  with_reducible refine Post.mono k20 ?_
  clear k20
  rintro _ u18 g19 ⟨r17, wh17, rfl, z17, D17, hi17, hd17, hp17, hq17, hw17, hk17⟩
  refine sy_store ⟨116, r12.cs ++ [.bool wh12]⟩ ty116 ?_
  refine sy_store ⟨116, r17.cs ++ [.bool wh17]⟩ ty116 ?_
  refine sy_next 73 [(4, .adr 4 0), (5, .adr 5 0), (6, .adr 6 0)] [(4, ⟨26, [.bool false, .slice none 0 0, .slice none 0 0]⟩), (5, ⟨116, r12.cs ++ [.bool wh12]⟩), (6, ⟨116, r17.cs ++ [.bool wh17]⟩)] ?_
  refine sw_seq ?_
  refine sw_seq ?_
  refine sw_reg ?_
  refine sy_pure 12 (.adr 5 3) ?_
  refine sy_ldv 13 (.v (.bool wh12)) ty4 part_one ?_
  rcases Bool.eq_false_or_eq_true wh12 with hs21 | hs21
  · refine sy_eq 14 (x := .v (.bool wh12)) (.v (.bool true)) (by rw [hs21]) ?_
    refine sy_pure 15 (.adr 6 3) ?_ (hw := w1 2 true 14)
    refine sy_ldv 16 (.v (.bool wh17)) ty4 part_one ?_ (hw := w1 2 true 14)
    refine sy_pure 17 (.v (.bool wh17)) ?_
    refine sy_next 73 [(4, .adr 4 0), (5, .adr 5 0), (6, .adr 6 0), (17, .v (.bool wh17))] [(4, ⟨26, [.bool false, .slice none 0 0, .slice none 0 0]⟩), (5, ⟨116, r12.cs ++ [.bool wh12]⟩), (6, ⟨116, r17.cs ++ [.bool wh17]⟩)] ?_
    refine sw_cond (b := wh17) (by kernel_rfl) (fun hb22 => ?_) (fun hb22 => ?_)
    · replace hb22 : wh17 = true := hb22
      refine sw_seq ?_
      refine sw_reg ?_
      refine sy_pure 18 (.adr 5 0) ?_
      refine sy_pure 19 (.adr 5 0) ?_
      refine sy_ldv 20 (.v (.agg #[.bool r12.s, .slice r12.m.a r12.m.n r12.m.c])) ty24 part_agg ?_
      refine sy_pure 21 (.adr 6 0) ?_
      refine sy_pure 22 (.adr 6 0) ?_
      refine sy_ldv 23 (.v (.agg #[.bool r17.s, .slice r17.m.a r17.m.n r17.m.c])) ty24 part_agg ?_
      refine sy_call 24 153 [.agg #[.bool r12.s, .slice r12.m.a r12.m.n r12.m.c], .agg #[.bool r17.s, .slice r17.m.a r17.m.n r17.m.c]] ?_
      intro w23 u23 e23 d23
      have k28 := k_intAdd d23 (hi12.ext (e16.trans (g19.ext.trans e23))) (hi17.ext e23) (by omega) (by omega)
      with_reducible refine Post.mono k28 ?_
      clear k28
      rintro _ u26 g27 ⟨i24, rfl, h25⟩
      refine sy_call 25 152 [i24.v] ?_
      intro w29 u29 e29 d29
      have k34 := k_whole (i := i24) d29
      with_reducible refine Post.mono k34 ?_
      clear k34
      rintro _ u32 g33 ⟨y30, rfl, h31⟩
      refine sy_store ⟨26, i24.cs ++ [.slice y30.a y30.n y30.c]⟩ ty26 ?_
      refine sy_next 73 [(4, .adr 4 0)] [(4, ⟨26, i24.cs ++ [.slice y30.a y30.n y30.c]⟩)] ?_
      refine sw_ret (mpr_seq (ret0 [.agg #[.bool i24.s, .slice i24.m.a i24.m.n i24.m.c, .slice y30.a y30.n y30.c]] ⟨res_cell ty26 part_agg, trivial⟩ fun u35 e36 => ?_))
      refine ⟨(⟨i24.s, i24.m, y30⟩ : RL), rfl, RatN.more (K := (max (max K L + 1) 1)) ?_ (by omega)⟩
      rw [hq12, hq17, hw12 (by assumption), hw17 (by assumption), Nt.mk_one, Nt.mk_one, ← Rat.intCast_add]
      exact ((whole_rat (h25.ext (e29.trans g33.ext)) h31).ext e36)
    · replace hb22 : wh17 = false := hb22
      refine sw_skip (mp_seq ?_)
      refine sw_seq ?_
      refine sw_seq ?_
      refine sw_reg ?_
      refine sy_pure 26 (.adr 5 0) ?_
      refine sy_pure 27 (.adr 5 2) ?_
      refine sy_ldv 28 (.v (.slice r12.d.a r12.d.n r12.d.c)) ty22 part_one ?_
      refine sy_pure 29 (.adr 6 0) ?_
      refine sy_pure 30 (.adr 6 2) ?_
      refine sy_ldv 31 (.v (.slice r17.d.a r17.d.n r17.d.c)) ty22 part_one ?_
      refine sy_call 32 154 [.slice r12.d.a r12.d.n r12.d.c, .slice r17.d.a r17.d.n r17.d.c] ?_
      intro w37 u37 e37 d37
      have k40 := k_natCompare d37 (hd12.ext (e16.trans (g19.ext.trans e37))) (hd17.ext e37)
      with_reducible refine Post.mono k40 ?_
      clear k40
      rintro _ u38 g39 rfl
      refine sy_pure 33 (.v (.bool ((Nt.cmpS D12 D17) == 0))) ?_
      refine sy_next 73 [(4, .adr 4 0), (5, .adr 5 0), (6, .adr 6 0), (33, .v (.bool ((Nt.cmpS D12 D17) == 0)))] [(4, ⟨26, [.bool false, .slice none 0 0, .slice none 0 0]⟩), (5, ⟨116, r12.cs ++ [.bool wh12]⟩), (6, ⟨116, r17.cs ++ [.bool wh17]⟩)] ?_
      refine sw_cond (b := (Nt.cmpS D12 D17) == 0) (by kernel_rfl) (fun hb41 => ?_) (fun hb41 => ?_)
      · replace hb41 : ((Nt.cmpS D12 D17) == 0) = true := hb41
        refine sw_seq ?_
        refine sw_any [0, 1, 3, 0, 8, 24, 63, 0, 128, 384, 1023, 2047, 4095] [(0, []), (1, []), (2, []), (3, []), (4, []), (5, []), (7, []), (8, []), (9, []), (6, []), (10, []), (11, []), (12, [])] (by kernel_rfl) (by kernel_rfl) ?_
        refine sy_pure 34 (.adr 5 0) ?_
        refine sy_pure 35 (.adr 5 0) ?_
        refine sy_ldv 36 (.v (.agg #[.bool r12.s, .slice r12.m.a r12.m.n r12.m.c])) ty24 part_agg ?_
        refine sy_pure 37 (.adr 6 0) ?_
        refine sy_pure 38 (.adr 6 0) ?_
        refine sy_ldv 39 (.v (.agg #[.bool r17.s, .slice r17.m.a r17.m.n r17.m.c])) ty24 part_agg ?_
        refine sy_pure 41 (.adr 5 0) ?_
        refine sy_pure 42 (.adr 5 2) ?_
        refine sy_ldv 43 (.v (.slice r12.d.a r12.d.n r12.d.c)) ty22 part_one ?_
        refine sy_call 40 153 [.agg #[.bool r12.s, .slice r12.m.a r12.m.n r12.m.c], .agg #[.bool r17.s, .slice r17.m.a r17.m.n r17.m.c]] ?_
        intro w42 u42 e42 d42
        have k47 := k_intAdd d42 (hi12.ext (e16.trans (g19.ext.trans (e37.trans (g39.ext.trans e42))))) (hi17.ext (e37.trans (g39.ext.trans e42))) (by omega) (by omega)
        with_reducible refine Post.mono k47 ?_
        clear k47
        rintro _ u45 g46 ⟨i43, rfl, h44⟩
        refine sy_pure 44 (.v (.agg #[.bool i43.s, .slice i43.m.a i43.m.n i43.m.c, .slice r12.d.a r12.d.n r12.d.c])) ?_
        refine sy_call 45 150 [.agg #[.bool i43.s, .slice i43.m.a i43.m.n i43.m.c, .slice r12.d.a r12.d.n r12.d.c]] ?_
        intro w48 u48 e48 d48
        have k53 := k_lowest d48 (h44.ext e48).raw (hd12.ext (e16.trans (g19.ext.trans (e37.trans (g39.ext.trans (e42.trans (g46.ext.trans e48))))))) hp12 (by omega) (by omega)
        with_reducible refine Post.mono k53 ?_
        clear k53
        rintro _ u51 g52 ⟨r49, rfl, h50⟩
        refine sy_store ⟨26, r49.cs⟩ ty26 ?_
        refine sy_next 73 [(4, .adr 4 0)] [(4, ⟨26, r49.cs⟩)] ?_
        refine sw_ret (mpr_seq (ret0 [r49.v] ⟨res_cell ty26 part_agg, trivial⟩ fun u54 e55 => ?_))
        refine ⟨r49, rfl, RatN.more (K := (max (max K L + 1) K)) ?_ (by omega)⟩
        have hD : D12 = D17 := Nt.cmp_natE hb41
        rw [hq12, hq17, ← hD, ← Nt.add_same hp12]
        exact (h50.ext e55)
      · replace hb41 : ((Nt.cmpS D12 D17) == 0) = false := hb41
        refine sw_skip (mp_seq ?_)
        refine sw_seq ?_
        refine sw_any [0, 1, 3, 0, 8, 24, 56, 127, 0, 256, 768, 0, 2048, 6144, 14591, 32767, 65535, 0, 262143] [(0, []), (1, []), (2, []), (3, []), (4, []), (5, []), (8, []), (9, []), (10, []), (11, []), (12, []), (13, []), (17, []), (6, []), (7, []), (14, []), (15, []), (16, []), (18, [])] (by kernel_rfl) (by kernel_rfl) ?_
        refine sy_pure 46 (.adr 5 0) ?_
        refine sy_pure 47 (.adr 5 0) ?_
        refine sy_ldv 48 (.v (.agg #[.bool r12.s, .slice r12.m.a r12.m.n r12.m.c])) ty24 part_agg ?_
        refine sy_pure 49 (.adr 6 0) ?_
        refine sy_pure 50 (.adr 6 2) ?_
        refine sy_ldv 51 (.v (.slice r17.d.a r17.d.n r17.d.c)) ty22 part_one ?_
        refine sy_pure 54 (.adr 6 0) ?_
        refine sy_pure 55 (.adr 6 0) ?_
        refine sy_ldv 56 (.v (.agg #[.bool r17.s, .slice r17.m.a r17.m.n r17.m.c])) ty24 part_agg ?_
        refine sy_pure 57 (.adr 5 0) ?_
        refine sy_pure 58 (.adr 5 2) ?_
        refine sy_ldv 59 (.v (.slice r12.d.a r12.d.n r12.d.c)) ty22 part_one ?_
        refine sy_new 7 ⟨24, [.bool false, .slice none 0 0]⟩ ?_
        refine sy_call 52 148 [.slice r17.d.a r17.d.n r17.d.c] ?_
        intro w56 u56 e56 d56
        have k59 := k_natural (x := r17.d) d56
        with_reducible refine Post.mono k59 ?_
        clear k59
        rintro _ u57 g58 rfl
        refine sy_call 53 147 [.agg #[.bool r12.s, .slice r12.m.a r12.m.n r12.m.c], .agg #[.bool false, .slice r17.d.a r17.d.n r17.d.c]] ?_
        intro w60 u60 e60 d60
        have k65 := k_intMul d60 (hi12.ext (e16.trans (g19.ext.trans (e37.trans (g39.ext.trans (e56.trans (g58.ext.trans e60))))))) (nat_int (hd17.ext (e37.trans (g39.ext.trans (e56.trans (g58.ext.trans e60)))))) (by omega) (by omega)
        with_reducible refine Post.mono k65 ?_
        clear k65
        rintro _ u63 g64 ⟨i61, rfl, h62⟩
        refine sy_call 60 148 [.slice r12.d.a r12.d.n r12.d.c] ?_
        intro w66 u66 e66 d66
        have k69 := k_natural (x := r12.d) d66
        with_reducible refine Post.mono k69 ?_
        clear k69
        rintro _ u67 g68 rfl
        refine sy_call 61 147 [.agg #[.bool r17.s, .slice r17.m.a r17.m.n r17.m.c], .agg #[.bool false, .slice r12.d.a r12.d.n r12.d.c]] ?_
        intro w70 u70 e70 d70
        have k75 := k_intMul d70 (hi17.ext (e37.trans (g39.ext.trans (e56.trans (g58.ext.trans (e60.trans (g64.ext.trans (e66.trans (g68.ext.trans e70))))))))) (nat_int (hd12.ext (e16.trans (g19.ext.trans (e37.trans (g39.ext.trans (e56.trans (g58.ext.trans (e60.trans (g64.ext.trans (e66.trans (g68.ext.trans e70)))))))))))) (by omega) (by omega)
        with_reducible refine Post.mono k75 ?_
        clear k75
        rintro _ u73 g74 ⟨i71, rfl, h72⟩
        refine sy_call 62 153 [i61.v, i71.v] ?_
        intro w76 u76 e76 d76
        have k81 := k_intAdd d76 (h62.ext (e66.trans (g68.ext.trans (e70.trans (g74.ext.trans e76))))).raw (h72.ext e76).raw (by omega) (by omega)
        with_reducible refine Post.mono k81 ?_
        clear k81
        rintro _ u79 g80 ⟨i77, rfl, h78⟩
        refine sy_store ⟨24, i77.cs⟩ ty24 ?_
        refine sy_next 73 [(4, .adr 4 0), (5, .adr 5 0), (6, .adr 6 0), (7, .adr 7 0)] [(4, ⟨26, [.bool false, .slice none 0 0, .slice none 0 0]⟩), (5, ⟨116, r12.cs ++ [.bool wh12]⟩), (6, ⟨116, r17.cs ++ [.bool wh17]⟩), (7, ⟨24, i77.cs⟩)] ?_
        refine sw_seq ?_
        refine sw_any [0, 0, 2, 6, 0, 16, 48, 126, 255, 511, 1023] [(0, []), (1, []), (2, []), (3, []), (4, []), (5, []), (6, []), (7, []), (8, []), (9, []), (10, [])] (by kernel_rfl) (by kernel_rfl) ?_
        refine sy_ldv 63 (.v (i77.v)) ty24 part_agg ?_
        refine sy_pure 64 (.adr 5 0) ?_
        refine sy_pure 65 (.adr 5 2) ?_
        refine sy_ldv 66 (.v (.slice r12.d.a r12.d.n r12.d.c)) ty22 part_one ?_
        refine sy_pure 67 (.adr 6 0) ?_
        refine sy_pure 68 (.adr 6 2) ?_
        refine sy_ldv 69 (.v (.slice r17.d.a r17.d.n r17.d.c)) ty22 part_one ?_
        refine sy_call 70 155 [.slice r12.d.a r12.d.n r12.d.c, .slice r17.d.a r17.d.n r17.d.c] ?_
        intro w82 u82 e82 d82
        have k87 := k_natMul d82 (hd12.ext (e16.trans (g19.ext.trans (e37.trans (g39.ext.trans (e56.trans (g58.ext.trans (e60.trans (g64.ext.trans (e66.trans (g68.ext.trans (e70.trans (g74.ext.trans (e76.trans (g80.ext.trans e82))))))))))))))) (hd17.ext (e37.trans (g39.ext.trans (e56.trans (g58.ext.trans (e60.trans (g64.ext.trans (e66.trans (g68.ext.trans (e70.trans (g74.ext.trans (e76.trans (g80.ext.trans e82))))))))))))) (by omega) (by omega)
        with_reducible refine Post.mono k87 ?_
        clear k87
        rintro _ u85 g86 ⟨x83, rfl, h84⟩
        refine sy_pure 71 (.v (.agg #[.bool i77.s, .slice i77.m.a i77.m.n i77.m.c, .slice x83.a x83.n x83.c])) ?_
        refine sy_call 72 150 [.agg #[.bool i77.s, .slice i77.m.a i77.m.n i77.m.c, .slice x83.a x83.n x83.c]] ?_
        intro w88 u88 e88 d88
        have k93 := k_lowest d88 (h78.ext (e82.trans (g86.ext.trans e88))).raw (h84.ext e88).raw (Nat.mul_pos hp12 hp17) (by omega) (by omega)
        with_reducible refine Post.mono k93 ?_
        clear k93
        rintro _ u91 g92 ⟨r89, rfl, h90⟩
        refine sy_store ⟨26, r89.cs⟩ ty26 ?_
        refine sy_next 73 [(4, .adr 4 0)] [(4, ⟨26, r89.cs⟩)] ?_
        refine sw_ret (ret0 [r89.v] ⟨res_cell ty26 part_agg, trivial⟩ fun u94 e95 => ?_)
        refine ⟨r89, rfl, RatN.more (K := (max (max (K + L) (L + K) + 1) (K + L))) ?_ (by omega)⟩
        rw [hq12, hq17, ← Nt.add_mk hp12 hp17]
        exact (h90.ext e95)
  · refine sy_eq 14 (x := .v (.bool wh12)) (.v (.bool false)) (by rw [hs21]) ?_
    refine sy_drop 15 (uw 2 true false 14) ?_
    refine sy_drop 16 (uw 2 true false 14) ?_
    refine sy_pure 17 (.v (.bool false)) ?_
    refine sy_next 73 [(4, .adr 4 0), (5, .adr 5 0), (6, .adr 6 0), (17, .v (.bool false))] [(4, ⟨26, [.bool false, .slice none 0 0, .slice none 0 0]⟩), (5, ⟨116, r12.cs ++ [.bool wh12]⟩), (6, ⟨116, r17.cs ++ [.bool wh17]⟩)] ?_
    refine sw_false (by kernel_rfl) ?_
    refine sw_skip (mp_seq ?_)
    refine sw_seq ?_
    refine sw_seq ?_
    refine sw_reg ?_
    refine sy_pure 26 (.adr 5 0) ?_
    refine sy_pure 27 (.adr 5 2) ?_
    refine sy_ldv 28 (.v (.slice r12.d.a r12.d.n r12.d.c)) ty22 part_one ?_
    refine sy_pure 29 (.adr 6 0) ?_
    refine sy_pure 30 (.adr 6 2) ?_
    refine sy_ldv 31 (.v (.slice r17.d.a r17.d.n r17.d.c)) ty22 part_one ?_
    refine sy_call 32 154 [.slice r12.d.a r12.d.n r12.d.c, .slice r17.d.a r17.d.n r17.d.c] ?_
    intro w96 u96 e96 d96
    have k99 := k_natCompare d96 (hd12.ext (e16.trans (g19.ext.trans e96))) (hd17.ext e96)
    with_reducible refine Post.mono k99 ?_
    clear k99
    rintro _ u97 g98 rfl
    refine sy_pure 33 (.v (.bool ((Nt.cmpS D12 D17) == 0))) ?_
    refine sy_next 73 [(4, .adr 4 0), (5, .adr 5 0), (6, .adr 6 0), (33, .v (.bool ((Nt.cmpS D12 D17) == 0)))] [(4, ⟨26, [.bool false, .slice none 0 0, .slice none 0 0]⟩), (5, ⟨116, r12.cs ++ [.bool wh12]⟩), (6, ⟨116, r17.cs ++ [.bool wh17]⟩)] ?_
    refine sw_cond (b := (Nt.cmpS D12 D17) == 0) (by kernel_rfl) (fun hb100 => ?_) (fun hb100 => ?_)
    · replace hb100 : ((Nt.cmpS D12 D17) == 0) = true := hb100
      refine sw_seq ?_
      refine sw_any [0, 1, 3, 0, 8, 24, 63, 0, 128, 384, 1023, 2047, 4095] [(0, []), (1, []), (2, []), (3, []), (4, []), (5, []), (7, []), (8, []), (9, []), (6, []), (10, []), (11, []), (12, [])] (by kernel_rfl) (by kernel_rfl) ?_
      refine sy_pure 34 (.adr 5 0) ?_
      refine sy_pure 35 (.adr 5 0) ?_
      refine sy_ldv 36 (.v (.agg #[.bool r12.s, .slice r12.m.a r12.m.n r12.m.c])) ty24 part_agg ?_
      refine sy_pure 37 (.adr 6 0) ?_
      refine sy_pure 38 (.adr 6 0) ?_
      refine sy_ldv 39 (.v (.agg #[.bool r17.s, .slice r17.m.a r17.m.n r17.m.c])) ty24 part_agg ?_
      refine sy_pure 41 (.adr 5 0) ?_
      refine sy_pure 42 (.adr 5 2) ?_
      refine sy_ldv 43 (.v (.slice r12.d.a r12.d.n r12.d.c)) ty22 part_one ?_
      refine sy_call 40 153 [.agg #[.bool r12.s, .slice r12.m.a r12.m.n r12.m.c], .agg #[.bool r17.s, .slice r17.m.a r17.m.n r17.m.c]] ?_
      intro w101 u101 e101 d101
      have k106 := k_intAdd d101 (hi12.ext (e16.trans (g19.ext.trans (e96.trans (g98.ext.trans e101))))) (hi17.ext (e96.trans (g98.ext.trans e101))) (by omega) (by omega)
      with_reducible refine Post.mono k106 ?_
      clear k106
      rintro _ u104 g105 ⟨i102, rfl, h103⟩
      refine sy_pure 44 (.v (.agg #[.bool i102.s, .slice i102.m.a i102.m.n i102.m.c, .slice r12.d.a r12.d.n r12.d.c])) ?_
      refine sy_call 45 150 [.agg #[.bool i102.s, .slice i102.m.a i102.m.n i102.m.c, .slice r12.d.a r12.d.n r12.d.c]] ?_
      intro w107 u107 e107 d107
      have k112 := k_lowest d107 (h103.ext e107).raw (hd12.ext (e16.trans (g19.ext.trans (e96.trans (g98.ext.trans (e101.trans (g105.ext.trans e107))))))) hp12 (by omega) (by omega)
      with_reducible refine Post.mono k112 ?_
      clear k112
      rintro _ u110 g111 ⟨r108, rfl, h109⟩
      refine sy_store ⟨26, r108.cs⟩ ty26 ?_
      refine sy_next 73 [(4, .adr 4 0)] [(4, ⟨26, r108.cs⟩)] ?_
      refine sw_ret (mpr_seq (ret0 [r108.v] ⟨res_cell ty26 part_agg, trivial⟩ fun u113 e114 => ?_))
      refine ⟨r108, rfl, RatN.more (K := (max (max K L + 1) K)) ?_ (by omega)⟩
      have hD : D12 = D17 := Nt.cmp_natE hb100
      rw [hq12, hq17, ← hD, ← Nt.add_same hp12]
      exact (h109.ext e114)
    · replace hb100 : ((Nt.cmpS D12 D17) == 0) = false := hb100
      refine sw_skip (mp_seq ?_)
      refine sw_seq ?_
      refine sw_any [0, 1, 3, 0, 8, 24, 56, 127, 0, 256, 768, 0, 2048, 6144, 14591, 32767, 65535, 0, 262143] [(0, []), (1, []), (2, []), (3, []), (4, []), (5, []), (8, []), (9, []), (10, []), (11, []), (12, []), (13, []), (17, []), (6, []), (7, []), (14, []), (15, []), (16, []), (18, [])] (by kernel_rfl) (by kernel_rfl) ?_
      refine sy_pure 46 (.adr 5 0) ?_
      refine sy_pure 47 (.adr 5 0) ?_
      refine sy_ldv 48 (.v (.agg #[.bool r12.s, .slice r12.m.a r12.m.n r12.m.c])) ty24 part_agg ?_
      refine sy_pure 49 (.adr 6 0) ?_
      refine sy_pure 50 (.adr 6 2) ?_
      refine sy_ldv 51 (.v (.slice r17.d.a r17.d.n r17.d.c)) ty22 part_one ?_
      refine sy_pure 54 (.adr 6 0) ?_
      refine sy_pure 55 (.adr 6 0) ?_
      refine sy_ldv 56 (.v (.agg #[.bool r17.s, .slice r17.m.a r17.m.n r17.m.c])) ty24 part_agg ?_
      refine sy_pure 57 (.adr 5 0) ?_
      refine sy_pure 58 (.adr 5 2) ?_
      refine sy_ldv 59 (.v (.slice r12.d.a r12.d.n r12.d.c)) ty22 part_one ?_
      refine sy_new 7 ⟨24, [.bool false, .slice none 0 0]⟩ ?_
      refine sy_call 52 148 [.slice r17.d.a r17.d.n r17.d.c] ?_
      intro w115 u115 e115 d115
      have k118 := k_natural (x := r17.d) d115
      with_reducible refine Post.mono k118 ?_
      clear k118
      rintro _ u116 g117 rfl
      refine sy_call 53 147 [.agg #[.bool r12.s, .slice r12.m.a r12.m.n r12.m.c], .agg #[.bool false, .slice r17.d.a r17.d.n r17.d.c]] ?_
      intro w119 u119 e119 d119
      have k124 := k_intMul d119 (hi12.ext (e16.trans (g19.ext.trans (e96.trans (g98.ext.trans (e115.trans (g117.ext.trans e119))))))) (nat_int (hd17.ext (e96.trans (g98.ext.trans (e115.trans (g117.ext.trans e119)))))) (by omega) (by omega)
      with_reducible refine Post.mono k124 ?_
      clear k124
      rintro _ u122 g123 ⟨i120, rfl, h121⟩
      refine sy_call 60 148 [.slice r12.d.a r12.d.n r12.d.c] ?_
      intro w125 u125 e125 d125
      have k128 := k_natural (x := r12.d) d125
      with_reducible refine Post.mono k128 ?_
      clear k128
      rintro _ u126 g127 rfl
      refine sy_call 61 147 [.agg #[.bool r17.s, .slice r17.m.a r17.m.n r17.m.c], .agg #[.bool false, .slice r12.d.a r12.d.n r12.d.c]] ?_
      intro w129 u129 e129 d129
      have k134 := k_intMul d129 (hi17.ext (e96.trans (g98.ext.trans (e115.trans (g117.ext.trans (e119.trans (g123.ext.trans (e125.trans (g127.ext.trans e129))))))))) (nat_int (hd12.ext (e16.trans (g19.ext.trans (e96.trans (g98.ext.trans (e115.trans (g117.ext.trans (e119.trans (g123.ext.trans (e125.trans (g127.ext.trans e129)))))))))))) (by omega) (by omega)
      with_reducible refine Post.mono k134 ?_
      clear k134
      rintro _ u132 g133 ⟨i130, rfl, h131⟩
      refine sy_call 62 153 [i120.v, i130.v] ?_
      intro w135 u135 e135 d135
      have k140 := k_intAdd d135 (h121.ext (e125.trans (g127.ext.trans (e129.trans (g133.ext.trans e135))))).raw (h131.ext e135).raw (by omega) (by omega)
      with_reducible refine Post.mono k140 ?_
      clear k140
      rintro _ u138 g139 ⟨i136, rfl, h137⟩
      refine sy_store ⟨24, i136.cs⟩ ty24 ?_
      refine sy_next 73 [(4, .adr 4 0), (5, .adr 5 0), (6, .adr 6 0), (7, .adr 7 0)] [(4, ⟨26, [.bool false, .slice none 0 0, .slice none 0 0]⟩), (5, ⟨116, r12.cs ++ [.bool wh12]⟩), (6, ⟨116, r17.cs ++ [.bool wh17]⟩), (7, ⟨24, i136.cs⟩)] ?_
      refine sw_seq ?_
      refine sw_any [0, 0, 2, 6, 0, 16, 48, 126, 255, 511, 1023] [(0, []), (1, []), (2, []), (3, []), (4, []), (5, []), (6, []), (7, []), (8, []), (9, []), (10, [])] (by kernel_rfl) (by kernel_rfl) ?_
      refine sy_ldv 63 (.v (i136.v)) ty24 part_agg ?_
      refine sy_pure 64 (.adr 5 0) ?_
      refine sy_pure 65 (.adr 5 2) ?_
      refine sy_ldv 66 (.v (.slice r12.d.a r12.d.n r12.d.c)) ty22 part_one ?_
      refine sy_pure 67 (.adr 6 0) ?_
      refine sy_pure 68 (.adr 6 2) ?_
      refine sy_ldv 69 (.v (.slice r17.d.a r17.d.n r17.d.c)) ty22 part_one ?_
      refine sy_call 70 155 [.slice r12.d.a r12.d.n r12.d.c, .slice r17.d.a r17.d.n r17.d.c] ?_
      intro w141 u141 e141 d141
      have k146 := k_natMul d141 (hd12.ext (e16.trans (g19.ext.trans (e96.trans (g98.ext.trans (e115.trans (g117.ext.trans (e119.trans (g123.ext.trans (e125.trans (g127.ext.trans (e129.trans (g133.ext.trans (e135.trans (g139.ext.trans e141))))))))))))))) (hd17.ext (e96.trans (g98.ext.trans (e115.trans (g117.ext.trans (e119.trans (g123.ext.trans (e125.trans (g127.ext.trans (e129.trans (g133.ext.trans (e135.trans (g139.ext.trans e141))))))))))))) (by omega) (by omega)
      with_reducible refine Post.mono k146 ?_
      clear k146
      rintro _ u144 g145 ⟨x142, rfl, h143⟩
      refine sy_pure 71 (.v (.agg #[.bool i136.s, .slice i136.m.a i136.m.n i136.m.c, .slice x142.a x142.n x142.c])) ?_
      refine sy_call 72 150 [.agg #[.bool i136.s, .slice i136.m.a i136.m.n i136.m.c, .slice x142.a x142.n x142.c]] ?_
      intro w147 u147 e147 d147
      have k152 := k_lowest d147 (h137.ext (e141.trans (g145.ext.trans e147))).raw (h143.ext e147).raw (Nat.mul_pos hp12 hp17) (by omega) (by omega)
      with_reducible refine Post.mono k152 ?_
      clear k152
      rintro _ u150 g151 ⟨r148, rfl, h149⟩
      refine sy_store ⟨26, r148.cs⟩ ty26 ?_
      refine sy_next 73 [(4, .adr 4 0)] [(4, ⟨26, r148.cs⟩)] ?_
      refine sw_ret (ret0 [r148.v] ⟨res_cell ty26 part_agg, trivial⟩ fun u153 e154 => ?_)
      refine ⟨r148, rfl, RatN.more (K := (max (max (K + L) (L + K) + 1) (K + L))) ?_ (by omega)⟩
      rw [hq12, hq17, ← Nt.add_mk hp12 hp17]
      exact (h149.ext e154)
theorem k_ratSub {u w : World} {r1 : RL} {x : Rat} {K : Nat} {r2 : RL} {y : Rat} {L : Nat} (d : Dat u w) (hr1 : RatV u r1 x K) (hr2 : RatV u r2 y L) (hK : K ≤ 200000000) (hL : L ≤ 200000000) : Calls Tryz.prog 109 #[r1.v, r2.v] w (Post u w fun v u' => ∃ r : RL, v = r.v ∧ RatN u' r (x - y) (K + L + 1)) := by
  refine calls_sym (args := [r1.v, r2.v]) Tryz.func109 rfl Tryz.ntmps109 (rs := [.cell 4 26]) Tryz.results109 (le_b rfl) (le_b rfl) d ?_
  refine sw_seq ?_
  refine sw_reg ?_
  refine sy_new 2 ⟨26, r1.cs⟩ ?_
  refine sy_new 3 ⟨26, r2.cs⟩ ?_
  refine sy_new 4 ⟨26, [.bool false, .slice none 0 0, .slice none 0 0]⟩ ?_
  refine sy_next 9 [(2, .adr 2 0), (3, .adr 3 0), (4, .adr 4 0)] [(2, ⟨26, r1.cs⟩), (3, ⟨26, r2.cs⟩), (4, ⟨26, [.bool false, .slice none 0 0, .slice none 0 0]⟩)] ?_
  refine sw_seq ?_
  refine sw_any [0, 0, 2, 7, 15] [(0, []), (1, []), (2, []), (3, []), (4, [])] (by kernel_rfl) (by kernel_rfl) ?_
  refine sy_ldv 5 (.v (r1.v)) ty26 part_agg ?_
  refine sy_ldv 6 (.v (r2.v)) ty26 part_agg ?_
  refine sy_call 7 165 [r2.v] ?_
  intro w11 u11 e11 d11
  have k14 := k_flip (r := r2) d11
  with_reducible refine Post.mono k14 ?_
  clear k14
  rintro _ u12 g13 rfl
  refine sy_call 8 104 [r1.v, .agg #[.bool (!r2.s), .slice r2.m.a r2.m.n r2.m.c, .slice r2.d.a r2.d.n r2.d.c]] ?_
  intro w15 u15 e15 d15
  have k20 := k_ratAdd d15 (hr1.ext (e11.trans (g13.ext.trans e15))) ((flip_rat (hr2.ext (e11.trans g13.ext))).ext e15) (by omega) (by omega)
  with_reducible refine Post.mono k20 ?_
  clear k20
  rintro _ u18 g19 ⟨r16, rfl, h17⟩
  refine sy_store ⟨26, r16.cs⟩ ty26 ?_
  refine sy_next 9 [(4, .adr 4 0)] [(4, ⟨26, r16.cs⟩)] ?_
  refine sw_ret (ret0 [r16.v] ⟨res_cell ty26 part_agg, trivial⟩ fun u21 e22 => ?_)
  refine ⟨r16, rfl, RatN.more (K := (K + L + 1)) ?_ (by omega)⟩
  rw [Rat.sub_eq_add_neg]
  exact (h17.ext e22)
set_option maxHeartbeats 1000000 in
theorem k_ratMul {u w : World} {r1 : RL} {x : Rat} {K : Nat} {r2 : RL} {y : Rat} {L : Nat} (d : Dat u w) (hr1 : RatV u r1 x K) (hr2 : RatV u r2 y L) (hK : K ≤ 200000000) (hL : L ≤ 200000000) : Calls Tryz.prog 111 #[r1.v, r2.v] w (Post u w fun v u' => ∃ r : RL, v = r.v ∧ RatN u' r (x * y) (K + L)) := by
  refine calls_sym (args := [r1.v, r2.v]) Tryz.func111 rfl Tryz.ntmps111 (rs := [.cell 4 26]) Tryz.results111 (le_b rfl) (le_b rfl) d ?_
  refine sw_seq ?_
  refine sw_reg ?_
  refine sy_new 2 ⟨26, r1.cs⟩ ?_
  refine sy_new 3 ⟨26, r2.cs⟩ ?_
  refine sy_new 4 ⟨26, [.bool false, .slice none 0 0, .slice none 0 0]⟩ ?_
  refine sy_next 37 [(2, .adr 2 0), (3, .adr 3 0), (4, .adr 4 0)] [(2, ⟨26, r1.cs⟩), (3, ⟨26, r2.cs⟩), (4, ⟨26, [.bool false, .slice none 0 0, .slice none 0 0]⟩)] ?_
  refine sw_seq ?_
  refine sw_any [0, 1, 0, 7, 0, 0, 63, 127] [(0, []), (2, []), (4, []), (5, []), (1, []), (3, []), (6, []), (7, [])] (by kernel_rfl) (by kernel_rfl) ?_
  refine sy_ldv 8 (.v (r1.v)) ty26 part_agg ?_
  refine sy_ldv 10 (.v (r2.v)) ty26 part_agg ?_
  refine sy_new 5 ⟨116, [.bool false, .slice none 0 0, .slice none 0 0, .bool false]⟩ ?_
  refine sy_new 6 ⟨116, [.bool false, .slice none 0 0, .slice none 0 0, .bool false]⟩ ?_
  refine sy_call 9 145 [r1.v] ?_
  intro w11 u11 e11 d11
  have k15 := k_read d11 (hr1.ext e11)
  with_reducible refine Post.mono k15 ?_
  clear k15
  rintro _ u13 g14 ⟨r12, wh12, rfl, z12, D12, hi12, hd12, hp12, hq12, hw12, hk12⟩
  refine sy_call 11 145 [r2.v] ?_
  intro w16 u16 e16 d16
  have k20 := k_read d16 (hr2.ext (e11.trans (g14.ext.trans e16)))
  with_reducible refine Post.mono k20 ?_
  clear k20
  rintro _ u18 g19 ⟨r17, wh17, rfl, z17, D17, hi17, hd17, hp17, hq17, hw17, hk17⟩
  refine sy_store ⟨116, r12.cs ++ [.bool wh12]⟩ ty116 ?_
  refine sy_store ⟨116, r17.cs ++ [.bool wh17]⟩ ty116 ?_
  refine sy_next 37 [(4, .adr 4 0), (5, .adr 5 0), (6, .adr 6 0)] [(4, ⟨26, [.bool false, .slice none 0 0, .slice none 0 0]⟩), (5, ⟨116, r12.cs ++ [.bool wh12]⟩), (6, ⟨116, r17.cs ++ [.bool wh17]⟩)] ?_
  refine sw_seq ?_
  refine sw_reg ?_
  refine sy_pure 12 (.adr 5 0) ?_
  refine sy_pure 13 (.adr 5 0) ?_
  refine sy_ldv 14 (.v (.agg #[.bool r12.s, .slice r12.m.a r12.m.n r12.m.c])) ty24 part_agg ?_
  refine sy_pure 15 (.adr 6 0) ?_
  refine sy_pure 16 (.adr 6 0) ?_
  refine sy_ldv 17 (.v (.agg #[.bool r17.s, .slice r17.m.a r17.m.n r17.m.c])) ty24 part_agg ?_
  refine sy_call 18 147 [.agg #[.bool r12.s, .slice r12.m.a r12.m.n r12.m.c], .agg #[.bool r17.s, .slice r17.m.a r17.m.n r17.m.c]] ?_
  intro w21 u21 e21 d21
  have k26 := k_intMul d21 (hi12.ext (e16.trans (g19.ext.trans e21))) (hi17.ext e21) (by omega) (by omega)
  with_reducible refine Post.mono k26 ?_
  clear k26
  rintro _ u24 g25 ⟨i22, rfl, h23⟩
  refine sy_new 7 ⟨24, [.bool false, .slice none 0 0]⟩ ?_
  refine sy_store ⟨24, i22.cs⟩ ty24 ?_
  refine sy_next 37 [(4, .adr 4 0), (5, .adr 5 0), (6, .adr 6 0), (7, .adr 7 0)] [(4, ⟨26, [.bool false, .slice none 0 0, .slice none 0 0]⟩), (5, ⟨116, r12.cs ++ [.bool wh12]⟩), (6, ⟨116, r17.cs ++ [.bool wh17]⟩), (7, ⟨24, i22.cs⟩)] ?_
  refine sw_seq ?_
  refine sw_seq ?_
  refine sw_reg ?_
  refine sy_pure 19 (.adr 5 3) ?_
  refine sy_ldv 20 (.v (.bool wh12)) ty4 part_one ?_
  rcases Bool.eq_false_or_eq_true wh12 with hs27 | hs27
  · refine sy_eq 21 (x := .v (.bool wh12)) (.v (.bool true)) (by rw [hs27]) ?_
    refine sy_pure 22 (.adr 6 3) ?_ (hw := w1 2 true 21)
    refine sy_ldv 23 (.v (.bool wh17)) ty4 part_one ?_ (hw := w1 2 true 21)
    refine sy_pure 24 (.v (.bool wh17)) ?_
    refine sy_next 37 [(4, .adr 4 0), (5, .adr 5 0), (6, .adr 6 0), (7, .adr 7 0), (24, .v (.bool wh17))] [(4, ⟨26, [.bool false, .slice none 0 0, .slice none 0 0]⟩), (5, ⟨116, r12.cs ++ [.bool wh12]⟩), (6, ⟨116, r17.cs ++ [.bool wh17]⟩), (7, ⟨24, i22.cs⟩)] ?_
    refine sw_cond (b := wh17) (by kernel_rfl) (fun hb28 => ?_) (fun hb28 => ?_)
    · replace hb28 : wh17 = true := hb28
      refine sw_seq ?_
      refine sw_reg ?_
      refine sy_ldv 25 (.v (i22.v)) ty24 part_agg ?_
      refine sy_call 26 152 [i22.v] ?_
      intro w29 u29 e29 d29
      have k34 := k_whole (i := i22) d29
      with_reducible refine Post.mono k34 ?_
      clear k34
      rintro _ u32 g33 ⟨y30, rfl, h31⟩
      refine sy_store ⟨26, i22.cs ++ [.slice y30.a y30.n y30.c]⟩ ty26 ?_
      refine sy_next 37 [(4, .adr 4 0)] [(4, ⟨26, i22.cs ++ [.slice y30.a y30.n y30.c]⟩)] ?_
      refine sw_ret (mpr_seq (ret0 [.agg #[.bool i22.s, .slice i22.m.a i22.m.n i22.m.c, .slice y30.a y30.n y30.c]] ⟨res_cell ty26 part_agg, trivial⟩ fun u35 e36 => ?_))
      refine ⟨(⟨i22.s, i22.m, y30⟩ : RL), rfl, RatN.more (K := (max (K + L) 1)) ?_ (by omega)⟩
      rw [hq12, hq17, hw12 (by assumption), hw17 (by assumption), Nt.mk_one, Nt.mk_one, ← Rat.intCast_mul]
      exact ((whole_rat (h23.ext (e29.trans g33.ext)) h31).ext e36)
    · replace hb28 : wh17 = false := hb28
      refine sw_skip (mp_seq ?_)
      refine sw_seq ?_
      refine sw_any [0, 0, 2, 6, 0, 16, 48, 126, 255, 511, 1023] [(0, []), (1, []), (2, []), (3, []), (4, []), (5, []), (6, []), (7, []), (8, []), (9, []), (10, [])] (by kernel_rfl) (by kernel_rfl) ?_
      refine sy_ldv 27 (.v (i22.v)) ty24 part_agg ?_
      refine sy_pure 28 (.adr 5 0) ?_
      refine sy_pure 29 (.adr 5 2) ?_
      refine sy_ldv 30 (.v (.slice r12.d.a r12.d.n r12.d.c)) ty22 part_one ?_
      refine sy_pure 31 (.adr 6 0) ?_
      refine sy_pure 32 (.adr 6 2) ?_
      refine sy_ldv 33 (.v (.slice r17.d.a r17.d.n r17.d.c)) ty22 part_one ?_
      refine sy_call 34 155 [.slice r12.d.a r12.d.n r12.d.c, .slice r17.d.a r17.d.n r17.d.c] ?_
      intro w37 u37 e37 d37
      have k42 := k_natMul d37 (hd12.ext (e16.trans (g19.ext.trans (e21.trans (g25.ext.trans e37))))) (hd17.ext (e21.trans (g25.ext.trans e37))) (by omega) (by omega)
      with_reducible refine Post.mono k42 ?_
      clear k42
      rintro _ u40 g41 ⟨x38, rfl, h39⟩
      refine sy_pure 35 (.v (.agg #[.bool i22.s, .slice i22.m.a i22.m.n i22.m.c, .slice x38.a x38.n x38.c])) ?_
      refine sy_call 36 150 [.agg #[.bool i22.s, .slice i22.m.a i22.m.n i22.m.c, .slice x38.a x38.n x38.c]] ?_
      intro w43 u43 e43 d43
      have k48 := k_lowest d43 (h23.ext (e37.trans (g41.ext.trans e43))).raw (h39.ext e43).raw (Nat.mul_pos hp12 hp17) (by omega) (by omega)
      with_reducible refine Post.mono k48 ?_
      clear k48
      rintro _ u46 g47 ⟨r44, rfl, h45⟩
      refine sy_store ⟨26, r44.cs⟩ ty26 ?_
      refine sy_next 37 [(4, .adr 4 0)] [(4, ⟨26, r44.cs⟩)] ?_
      refine sw_ret (ret0 [r44.v] ⟨res_cell ty26 part_agg, trivial⟩ fun u49 e50 => ?_)
      refine ⟨r44, rfl, RatN.more (K := (max (K + L) (K + L))) ?_ (by omega)⟩
      rw [hq12, hq17, ← Nt.mul_mk]
      exact (h45.ext e50)
  · refine sy_eq 21 (x := .v (.bool wh12)) (.v (.bool false)) (by rw [hs27]) ?_
    refine sy_drop 22 (uw 2 true false 21) ?_
    refine sy_drop 23 (uw 2 true false 21) ?_
    refine sy_pure 24 (.v (.bool false)) ?_
    refine sy_next 37 [(4, .adr 4 0), (5, .adr 5 0), (6, .adr 6 0), (7, .adr 7 0), (24, .v (.bool false))] [(4, ⟨26, [.bool false, .slice none 0 0, .slice none 0 0]⟩), (5, ⟨116, r12.cs ++ [.bool wh12]⟩), (6, ⟨116, r17.cs ++ [.bool wh17]⟩), (7, ⟨24, i22.cs⟩)] ?_
    refine sw_false (by kernel_rfl) ?_
    refine sw_skip (mp_seq ?_)
    refine sw_seq ?_
    refine sw_any [0, 0, 2, 6, 0, 16, 48, 126, 255, 511, 1023] [(0, []), (1, []), (2, []), (3, []), (4, []), (5, []), (6, []), (7, []), (8, []), (9, []), (10, [])] (by kernel_rfl) (by kernel_rfl) ?_
    refine sy_ldv 27 (.v (i22.v)) ty24 part_agg ?_
    refine sy_pure 28 (.adr 5 0) ?_
    refine sy_pure 29 (.adr 5 2) ?_
    refine sy_ldv 30 (.v (.slice r12.d.a r12.d.n r12.d.c)) ty22 part_one ?_
    refine sy_pure 31 (.adr 6 0) ?_
    refine sy_pure 32 (.adr 6 2) ?_
    refine sy_ldv 33 (.v (.slice r17.d.a r17.d.n r17.d.c)) ty22 part_one ?_
    refine sy_call 34 155 [.slice r12.d.a r12.d.n r12.d.c, .slice r17.d.a r17.d.n r17.d.c] ?_
    intro w51 u51 e51 d51
    have k56 := k_natMul d51 (hd12.ext (e16.trans (g19.ext.trans (e21.trans (g25.ext.trans e51))))) (hd17.ext (e21.trans (g25.ext.trans e51))) (by omega) (by omega)
    with_reducible refine Post.mono k56 ?_
    clear k56
    rintro _ u54 g55 ⟨x52, rfl, h53⟩
    refine sy_pure 35 (.v (.agg #[.bool i22.s, .slice i22.m.a i22.m.n i22.m.c, .slice x52.a x52.n x52.c])) ?_
    refine sy_call 36 150 [.agg #[.bool i22.s, .slice i22.m.a i22.m.n i22.m.c, .slice x52.a x52.n x52.c]] ?_
    intro w57 u57 e57 d57
    have k62 := k_lowest d57 (h23.ext (e51.trans (g55.ext.trans e57))).raw (h53.ext e57).raw (Nat.mul_pos hp12 hp17) (by omega) (by omega)
    with_reducible refine Post.mono k62 ?_
    clear k62
    rintro _ u60 g61 ⟨r58, rfl, h59⟩
    refine sy_store ⟨26, r58.cs⟩ ty26 ?_
    refine sy_next 37 [(4, .adr 4 0)] [(4, ⟨26, r58.cs⟩)] ?_
    refine sw_ret (ret0 [r58.v] ⟨res_cell ty26 part_agg, trivial⟩ fun u63 e64 => ?_)
    refine ⟨r58, rfl, RatN.more (K := (max (K + L) (K + L))) ?_ (by omega)⟩
    rw [hq12, hq17, ← Nt.mul_mk]
    exact (h59.ext e64)
def DivR (x y : Rat) (K : Nat) (v : Value) (u : World) : Prop := (v = .tuple #[.agg #[.bool false, .slice none 0 0, .slice none 0 0], .int .i64 3] ∧ y = 0) ∨ (y ≠ 0 ∧ ∃ r : RL, v = .tuple #[r.v, .int .i64 0] ∧ RatN u r (x / y) K)
set_option maxHeartbeats 1000000 in
theorem k_ratDiv {u w : World} {r1 : RL} {x : Rat} {K : Nat} {r2 : RL} {y : Rat} {L : Nat} (d : Dat u w) (hr1 : RatV u r1 x K) (hr2 : RatV u r2 y L) (hK : K ≤ 200000000) (hL : L ≤ 200000000) : Calls Tryz.prog 99 #[r1.v, r2.v] w (Post u w fun v u' => DivR x y (K + L) v u') := by
  refine calls_sym (args := [r1.v, r2.v]) Tryz.func99 rfl Tryz.ntmps99 (rs := [.cell 4 26, .tmp 5]) Tryz.results99 (le_b rfl) (le_b rfl) d ?_
  refine sw_seq ?_
  refine sw_reg ?_
  refine sy_new 2 ⟨26, r1.cs⟩ ?_
  refine sy_new 3 ⟨26, r2.cs⟩ ?_
  refine sy_new 4 ⟨26, [.bool false, .slice none 0 0, .slice none 0 0]⟩ ?_
  refine sy_pure 5 (.v (.int .i64 0)) ?_
  refine sy_next 40 [(2, .adr 2 0), (3, .adr 3 0), (4, .adr 4 0)] [(2, ⟨26, r1.cs⟩), (3, ⟨26, r2.cs⟩), (4, ⟨26, [.bool false, .slice none 0 0, .slice none 0 0]⟩)] ?_
  refine sw_seq ?_
  refine sw_any [0, 1, 0, 7, 0, 0, 63, 127] [(0, []), (2, []), (4, []), (5, []), (1, []), (3, []), (6, []), (7, [])] (by kernel_rfl) (by kernel_rfl) ?_
  refine sy_ldv 10 (.v (r1.v)) ty26 part_agg ?_
  refine sy_ldv 12 (.v (r2.v)) ty26 part_agg ?_
  refine sy_new 6 ⟨116, [.bool false, .slice none 0 0, .slice none 0 0, .bool false]⟩ ?_
  refine sy_new 7 ⟨116, [.bool false, .slice none 0 0, .slice none 0 0, .bool false]⟩ ?_
  refine sy_call 11 145 [r1.v] ?_
  intro w11 u11 e11 d11
  have k15 := k_read d11 (hr1.ext e11)
  with_reducible refine Post.mono k15 ?_
  clear k15
  rintro _ u13 g14 ⟨r12, wh12, rfl, z12, D12, hi12, hd12, hp12, hq12, hw12, hk12⟩
  refine sy_call 13 145 [r2.v] ?_
  intro w16 u16 e16 d16
  have k20 := k_read d16 (hr2.ext (e11.trans (g14.ext.trans e16)))
  with_reducible refine Post.mono k20 ?_
  clear k20
  rintro _ u18 g19 ⟨r17, wh17, rfl, z17, D17, hi17, hd17, hp17, hq17, hw17, hk17⟩
  refine sy_store ⟨116, r12.cs ++ [.bool wh12]⟩ ty116 ?_
  refine sy_store ⟨116, r17.cs ++ [.bool wh17]⟩ ty116 ?_
  refine sy_next 40 [(4, .adr 4 0), (6, .adr 6 0), (7, .adr 7 0)] [(4, ⟨26, [.bool false, .slice none 0 0, .slice none 0 0]⟩), (6, ⟨116, r12.cs ++ [.bool wh12]⟩), (7, ⟨116, r17.cs ++ [.bool wh17]⟩)] ?_
  refine sw_seq ?_
  refine sw_seq ?_
  refine sw_reg ?_
  refine sy_pure 14 (.adr 7 0) ?_
  refine sy_pure 15 (.adr 7 0) ?_
  refine sy_ldv 16 (.v (.agg #[.bool r17.s, .slice r17.m.a r17.m.n r17.m.c])) ty24 part_agg ?_
  refine sy_call 17 146 [.agg #[.bool r17.s, .slice r17.m.a r17.m.n r17.m.c]] ?_
  intro w21 u21 e21 d21
  have k24 := k_intSign d21 (hi17.ext e21)
  with_reducible refine Post.mono k24 ?_
  clear k24
  rintro _ u22 g23 rfl
  refine sy_pure 18 (.v (.bool ((Nt.cmpS z17 0) == 0))) ?_
  refine sy_next 40 [(4, .adr 4 0), (6, .adr 6 0), (7, .adr 7 0), (18, .v (.bool ((Nt.cmpS z17 0) == 0)))] [(4, ⟨26, [.bool false, .slice none 0 0, .slice none 0 0]⟩), (6, ⟨116, r12.cs ++ [.bool wh12]⟩), (7, ⟨116, r17.cs ++ [.bool wh17]⟩)] ?_
  refine sw_cond (b := (Nt.cmpS z17 0) == 0) (by kernel_rfl) (fun hb25 => ?_) (fun hb25 => ?_)
  · replace hb25 : ((Nt.cmpS z17 0) == 0) = true := hb25
    refine sw_seq ?_
    refine sw_reg ?_
    refine sy_pure 19 (.v (.agg #[.bool false, .slice none 0 0, .slice none 0 0])) ?_
    refine sy_store ⟨26, [.bool false, .slice none 0 0, .slice none 0 0]⟩ ty26 ?_
    refine sy_pure 5 (.v (.int .i64 3)) ?_
    refine sy_next 40 [(4, .adr 4 0), (5, .v (.int .i64 3))] [(4, ⟨26, [.bool false, .slice none 0 0, .slice none 0 0]⟩)] ?_
    refine sw_ret (mpr_seq (ret0 [.agg #[.bool false, .slice none 0 0, .slice none 0 0], .int .i64 3] ⟨res_cell ty26 part_agg, res_tmp, trivial⟩ fun u26 e27 => ?_))
    left
    exact ⟨rfl, by rw [hq17, Nt.cmp_eq0 hb25, Rat.zero_mkRat]⟩
  · replace hb25 : ((Nt.cmpS z17 0) == 0) = false := hb25
    have hz0 : z17 ≠ 0 := Nt.cmp_ne0 hb25
    have hpp : 0 < ((D12 : Int) * z17 : Int).natAbs := Int.natAbs_pos.2 (Int.mul_ne_zero (by omega) hz0)
    refine sw_skip (mp_seq ?_)
    refine sw_seq ?_
    refine sw_any [0, 1, 3, 0, 8, 24, 56, 127, 0, 511] [(0, []), (1, []), (2, []), (3, []), (4, []), (5, []), (8, []), (6, []), (7, []), (9, [])] (by kernel_rfl) (by kernel_rfl) ?_
    refine sy_pure 20 (.adr 6 0) ?_
    refine sy_pure 21 (.adr 6 0) ?_
    refine sy_ldv 22 (.v (.agg #[.bool r12.s, .slice r12.m.a r12.m.n r12.m.c])) ty24 part_agg ?_
    refine sy_pure 23 (.adr 7 0) ?_
    refine sy_pure 24 (.adr 7 2) ?_
    refine sy_ldv 25 (.v (.slice r17.d.a r17.d.n r17.d.c)) ty22 part_one ?_
    refine sy_new 8 ⟨24, [.bool false, .slice none 0 0]⟩ ?_
    refine sy_call 26 148 [.slice r17.d.a r17.d.n r17.d.c] ?_
    intro w28 u28 e28 d28
    have k31 := k_natural (x := r17.d) d28
    with_reducible refine Post.mono k31 ?_
    clear k31
    rintro _ u29 g30 rfl
    refine sy_call 27 147 [.agg #[.bool r12.s, .slice r12.m.a r12.m.n r12.m.c], .agg #[.bool false, .slice r17.d.a r17.d.n r17.d.c]] ?_
    intro w32 u32 e32 d32
    have k37 := k_intMul d32 (hi12.ext (e16.trans (g19.ext.trans (e21.trans (g23.ext.trans (e28.trans (g30.ext.trans e32))))))) (nat_int (hd17.ext (e21.trans (g23.ext.trans (e28.trans (g30.ext.trans e32)))))) (by omega) (by omega)
    with_reducible refine Post.mono k37 ?_
    clear k37
    rintro _ u35 g36 ⟨i33, rfl, h34⟩
    refine sy_store ⟨24, i33.cs⟩ ty24 ?_
    refine sy_next 40 [(4, .adr 4 0), (6, .adr 6 0), (7, .adr 7 0), (8, .adr 8 0)] [(4, ⟨26, [.bool false, .slice none 0 0, .slice none 0 0]⟩), (6, ⟨116, r12.cs ++ [.bool wh12]⟩), (7, ⟨116, r17.cs ++ [.bool wh17]⟩), (8, ⟨24, i33.cs⟩)] ?_
    refine sw_seq ?_
    refine sw_any [0, 1, 3, 7, 0, 16, 48, 127, 0, 511] [(0, []), (1, []), (2, []), (4, []), (5, []), (6, []), (8, []), (3, []), (7, []), (9, [])] (by kernel_rfl) (by kernel_rfl) ?_
    refine sy_pure 28 (.adr 6 0) ?_
    refine sy_pure 29 (.adr 6 2) ?_
    refine sy_ldv 30 (.v (.slice r12.d.a r12.d.n r12.d.c)) ty22 part_one ?_
    refine sy_pure 32 (.adr 7 0) ?_
    refine sy_pure 33 (.adr 7 0) ?_
    refine sy_ldv 34 (.v (.agg #[.bool r17.s, .slice r17.m.a r17.m.n r17.m.c])) ty24 part_agg ?_
    refine sy_new 9 ⟨24, [.bool false, .slice none 0 0]⟩ ?_
    refine sy_call 31 148 [.slice r12.d.a r12.d.n r12.d.c] ?_
    intro w38 u38 e38 d38
    have k41 := k_natural (x := r12.d) d38
    with_reducible refine Post.mono k41 ?_
    clear k41
    rintro _ u39 g40 rfl
    refine sy_call 35 147 [.agg #[.bool false, .slice r12.d.a r12.d.n r12.d.c], .agg #[.bool r17.s, .slice r17.m.a r17.m.n r17.m.c]] ?_
    intro w42 u42 e42 d42
    have k47 := k_intMul d42 (nat_int (hd12.ext (e16.trans (g19.ext.trans (e21.trans (g23.ext.trans (e28.trans (g30.ext.trans (e32.trans (g36.ext.trans (e38.trans (g40.ext.trans e42)))))))))))) (hi17.ext (e21.trans (g23.ext.trans (e28.trans (g30.ext.trans (e32.trans (g36.ext.trans (e38.trans (g40.ext.trans e42))))))))) (by omega) (by omega)
    with_reducible refine Post.mono k47 ?_
    clear k47
    rintro _ u45 g46 ⟨i43, rfl, h44⟩
    refine sy_store ⟨24, i43.cs⟩ ty24 ?_
    refine sy_next 40 [(4, .adr 4 0), (8, .adr 8 0), (9, .adr 9 0)] [(4, ⟨26, [.bool false, .slice none 0 0, .slice none 0 0]⟩), (8, ⟨24, i33.cs⟩), (9, ⟨24, i43.cs⟩)] ?_
    refine sw_seq ?_
    refine sw_reg ?_
    refine sy_ldv 36 (.v (i33.v)) ty24 part_agg ?_
    refine sy_ldv 37 (.v (i43.v)) ty24 part_agg ?_
    refine sy_call 38 149 [i33.v, i43.v] ?_
    intro w48 u48 e48 d48
    have k51 := k_quotient (i := i33) (j := i43) d48
    with_reducible refine Post.mono k51 ?_
    clear k51
    rintro _ u49 g50 rfl
    refine sy_call 39 150 [.agg #[.bool (!(i33.s == i43.s)), .slice i33.m.a i33.m.n i33.m.c, .slice i43.m.a i43.m.n i43.m.c]] ?_
    intro w52 u52 e52 d52
    have k57 := k_lowest d52 ((quot_int (h34.ext (e38.trans (g40.ext.trans (e42.trans (g46.ext.trans (e48.trans g50.ext)))))) (h44.ext (e48.trans g50.ext))).ext e52) ((int_mag (h44.ext (e48.trans g50.ext))).ext e52).raw hpp (by omega) (by omega)
    with_reducible refine Post.mono k57 ?_
    clear k57
    rintro _ u55 g56 ⟨r53, rfl, h54⟩
    refine sy_store ⟨26, r53.cs⟩ ty26 ?_
    refine sy_pure 5 (.v (.int .i64 0)) ?_
    refine sy_next 40 [(4, .adr 4 0), (5, .v (.int .i64 0))] [(4, ⟨26, r53.cs⟩)] ?_
    refine sw_ret (ret0 [r53.v, .int .i64 0] ⟨res_cell ty26 part_agg, res_tmp, trivial⟩ fun u58 e59 => ?_)
    right
    refine ⟨?_, r53, rfl, RatN.more (K := (max (K + L) (K + L))) ?_ (by omega)⟩
    · rw [hq17]; exact (Rat.mkRat_ne_zero (by omega)).2 hz0
    · rw [hq12, hq17, ← Nt.quo_mk hp12 hp17 hz0, ← Nt.div_mk2 (by omega)]
      exact (h54.ext e59)
end Go.Proofs.YtnedhbidmfoegaaGreat
namespace Go.Proofs.YtnedhbidmfoegaaGreat
open Go.RowKit
set_option linter.unusedVariables false
theorem k_ratDiv1 {u w : World} {r1 r2 : RL} {x y : Rat} {K L : Nat} (d : Dat u w) (hr1 : RatV u r1 x K) (hr2 : RatV u r2 y L) (hy : y ≠ 0) (hK : K ≤ 200000000) (hL : L ≤ 200000000) : Calls Tryz.prog 99 #[r1.v, r2.v] w (Post u w fun v u' => ∃ r : RL, v = .tuple #[r.v, .int .i64 0] ∧ RatN u' r (x / y) (K + L)) :=
  Post.mono (k_ratDiv d hr1 hr2 hK hL) fun v u' _ h => h.elim (fun h => absurd h.2 hy) (fun h => h.2)
end Go.Proofs.YtnedhbidmfoegaaGreat
namespace Go.Proofs.YtnedhbidmfoegaaGreat
open Go.RowKit
set_option linter.unusedVariables false
theorem mod_pos (m : Int) (hm : 1 ≤ m) (n : Int) (h : decide (Int.tmod n m < 0) = false) : Int.tmod n m = n % m := by
  have h := of_decide_eq_false h
  rcases Int.lt_or_le n 0 with hn | hn
  · have e := Int.tmod_add_mul_tdiv n m
    have h2 : -m < Int.tmod n m := Int.lt_tmod_of_pos n (by omega)
    have h3 : Int.tmod n m ≤ 0 := by
      have h8 := Int.neg_tmod n m
      have h9 : Int.tmod (-n) m = (-n) % m := Int.tmod_eq_emod_of_nonneg (by omega)
      have h10 := Int.emod_nonneg (-n) (show m ≠ 0 by omega)
      omega
    have h4 : Int.tmod n m = 0 := by omega
    rw [h4] at e ⊢
    have : m ∣ n := ⟨n.tdiv m, by omega⟩
    exact (Int.emod_eq_zero_of_dvd this).symm
  · exact Int.tmod_eq_emod_of_nonneg hn
theorem mod_neg (m : Int) (hm : 1 ≤ m) (n : Int) (h : decide (Int.tmod n m < 0) = true) : Int.tmod n m + m = n % m := by
  have h := of_decide_eq_true h
  have e := Int.tmod_add_mul_tdiv n m
  have h2 : -m < Int.tmod n m := Int.lt_tmod_of_pos n (by omega)
  have h5 : n = m * (n.tdiv m - 1) + (Int.tmod n m + m) := by rw [Int.mul_sub, Int.mul_one]; omega
  have := (Nt.ediv_uniq (z := n) (y := m) (q := n.tdiv m - 1) (r := Int.tmod n m + m) (by omega) h5 (by omega) (by omega)).2
  exact this.symm
theorem k_Mod {u w : World} {n m : Int} (d : Dat u w) (hm : 1 ≤ m) (hm2 : m ≤ 4611686018427387904) (hn0 : -9223372036854775808 ≤ n) (hn1 : n ≤ 9223372036854775807) : Calls Tryz.prog 50 #[.int .i64 n, .int .i64 m] w (Post u w fun v _ => v = .int .i64 (n % m)) := by
  refine calls_sym (args := [.int .i64 n, .int .i64 m]) Tryz.func50 rfl Tryz.ntmps50 (rs := [.tmp 4]) Tryz.results50 (le_b rfl) (le_b rfl) d ?_
  refine sw_seq ?_
  refine sw_reg ?_
  refine sy_pure 4 (.v (.int .i64 0)) ?_
  refine sy_next 16 [(0, .v (.int .i64 n)), (1, .v (.int .i64 m))] [] ?_
  refine sw_seq ?_
  refine sw_seq ?_
  refine sw_reg ?_
  refine sy_pure 5 (.v (.int .i64 m)) ?_
  refine sy_eq 6 (x := .v (.bool (decide (m < 1)))) (.v (.bool false)) (by rw [show (decide (m < 1)) = false from (by simp; omega)]) ?_
  refine sy_next 16 [(0, .v (.int .i64 n)), (1, .v (.int .i64 m)), (6, .v (.bool false))] [] ?_
  refine sw_false (by kernel_rfl) ?_
  refine sw_skip (mp_seq ?_)
  refine sw_seq ?_
  refine sw_reg ?_
  refine sy_pure 7 (.v (.int .i64 n)) ?_
  refine sy_pure 8 (.v (.int .i64 m)) ?_
  refine sy_rem 9 (Int.tmod n m) (by omega) rfl ?_
  refine sy_pure 0 (.v (.int .i64 (Int.tmod n m))) ?_
  refine sy_next 16 [(0, .v (.int .i64 (Int.tmod n m))), (1, .v (.int .i64 m))] [] ?_
  refine sw_seq ?_
  refine sw_seq ?_
  refine sw_reg ?_
  refine sy_pure 10 (.v (.int .i64 (Int.tmod n m))) ?_
  refine sy_pure 11 (.v (.bool (decide ((Int.tmod n m) < 0)))) ?_
  refine sy_next 16 [(0, .v (.int .i64 (Int.tmod n m))), (1, .v (.int .i64 m)), (11, .v (.bool (decide ((Int.tmod n m) < 0))))] [] ?_
  refine sw_cond (b := decide ((Int.tmod n m) < 0)) (by kernel_rfl) (fun hb11 => ?_) (fun hb11 => ?_)
  · replace hb11 : (decide ((Int.tmod n m) < 0)) = true := hb11
    have qhb11 := of_decide_eq_true hb11
    refine sw_reg ?_
    refine sy_pure 12 (.v (.int .i64 (Int.tmod n m))) ?_
    refine sy_pure 13 (.v (.int .i64 m)) ?_
    refine sy_eq 14 (x := .v (.int .i64 (IntKind.i64.wrap (Int.tmod n m + m)))) (.v (.int .i64 (Int.tmod n m + m))) (by rw [show (IntKind.i64.wrap (Int.tmod n m + m)) = (Int.tmod n m + m) from (IntWalk.i64_in _ (by have h2 := Int.lt_tmod_of_pos n (show 0 < m by omega); have h3 := Int.tmod_lt_of_pos n (show 0 < m by omega); omega))]) ?_
    refine sy_pure 0 (.v (.int .i64 (Int.tmod n m + m))) ?_
    refine sy_next 16 [(0, .v (.int .i64 (Int.tmod n m + m)))] [] ?_
    refine sw_seq ?_
    refine sw_reg ?_
    refine sy_pure 15 (.v (.int .i64 (Int.tmod n m + m))) ?_
    refine sy_pure 4 (.v (.int .i64 (Int.tmod n m + m))) ?_
    refine sy_next 16 [(4, .v (.int .i64 (Int.tmod n m + m)))] [] ?_
    refine sw_ret (ret0 [.int .i64 (Int.tmod n m + m)] ⟨res_tmp, trivial⟩ fun u12 e13 => ?_)
    show Value.int _ _ = Value.int _ _
    rw [mod_neg m hm n hb11]
  · replace hb11 : (decide ((Int.tmod n m) < 0)) = false := hb11
    have qhb11 := of_decide_eq_false hb11
    refine sw_skip (mp_seq ?_)
    refine sw_seq ?_
    refine sw_reg ?_
    refine sy_pure 15 (.v (.int .i64 (Int.tmod n m))) ?_
    refine sy_pure 4 (.v (.int .i64 (Int.tmod n m))) ?_
    refine sy_next 16 [(4, .v (.int .i64 (Int.tmod n m)))] [] ?_
    refine sw_ret (ret0 [.int .i64 (Int.tmod n m)] ⟨res_tmp, trivial⟩ fun u14 e15 => ?_)
    show Value.int _ _ = Value.int _ _
    rw [mod_pos m hm n hb11]
end Go.Proofs.YtnedhbidmfoegaaGreat
namespace Go.Proofs.YtnedhbidmfoegaaGreat
open Go.RowKit
set_option linter.unusedVariables false
theorem k_cut {u w : World} {x : Sl} {l : List Rat} {K : Nat} (d : Dat u w) (hx : PolV u x l K) (hK : K ≤ 100000000) (hx9 : l.length ≤ 1000000000) : Calls Tryz.prog 118 #[x.v] w (Post u w fun v u' => v = .slice x.a (Nt.trimQ l).length x.c) := by
  have hlen := hx.len
  refine calls_sym (args := [.slice x.a x.n x.c]) Tryz.func118 rfl Tryz.ntmps118 (rs := [.tmp 2]) Tryz.results118 (le_b rfl) (le_b rfl) d ?_
  refine sw_seq ?_
  refine sw_reg ?_
  refine sy_pure 2 (.v (.slice none 0 0)) ?_
  refine sy_next 22 [(0, .v (.slice x.a x.n x.c))] [] ?_
  refine sw_seq ?_
  refine sw_reg ?_
  refine sy_pure 4 (.v (.slice x.a x.n x.c)) ?_
  refine sy_pure 5 (.v (.int .i64 (x.n : Int))) ?_
  refine sy_pure 3 (.v (.int .i64 (x.n : Int))) ?_
  refine sy_next 22 [(0, .v (.slice x.a x.n x.c)), (3, .v (.int .i64 (x.n : Int)))] [] ?_
  refine sw_seq ?_
  refine sw_block ?_
  refine sw_loop (I := fun m11 S' u' => ∃ (n : Nat), (m11 = n) ∧ (n ≤ l.length) ∧ (∀ i, n ≤ i → Nt.co l i = 0) ∧ (S' = St.of 22 [(0, .v (.slice x.a x.n x.c)), (3, .v (.int .i64 (n : Int)))] []) ∧ (Ext u u')) (fun m S u1 u2 e h => by obtain ⟨n, hm, p0, p1, hS, hE⟩ := h; exact ⟨n, hm, p0, p1, hS, hE.trans e⟩) _ (T := St.of 22 [(0, .v (.slice x.a x.n x.c)), (3, .v (.int .i64 (x.n : Int)))] []) (by exact weak_mk _ _ _) ⟨x.n, rfl, by omega, fun i hi => Nt.co_ge (by omega), rfl, Ext.refl _⟩ ?_
  rintro m11 _ u11 ⟨n, hm11, hn, hz, rfl, e11⟩
  refine sw_seq ?_
  refine sw_seq ?_
  refine sw_reg ?_
  refine sy_pure 6 (.v (.int .i64 (n : Int))) ?_
  refine sy_pure 7 (.v (.bool (decide ((0 : Int) < (n : Int))))) ?_
  rcases Bool.eq_false_or_eq_true (decide ((0 : Int) < (n : Int))) with hs12 | hs12
  · refine sy_eq 8 (x := .v (.bool (decide ((0 : Int) < (n : Int))))) (.v (.bool true)) (by rw [hs12]) ?_
    have qhs12 := of_decide_eq_true hs12
    refine sy_pure 9 (.v (.slice x.a x.n x.c)) ?_ (hw := w1 2 true 8)
    refine sy_pure 10 (.v (.int .i64 (n : Int))) ?_ (hw := w1 2 true 8)
    refine sy_eq 11 (x := .v (.int .i64 (IntKind.i64.wrap ((n : Int) - 1)))) (.v (.int .i64 ((n - 1 : Nat) : Int))) (eqI (by rw [IntWalk.i64_in _ (by omega)]; omega)) ?_ (hw := w1 2 true 8)
    have hl13 := (hx.ext e11).len
    obtain ⟨r13, b13, o13, hA13, hc13, hr13⟩ := pol_at (hx.ext e11) (i := n - 1) (by omega)
    refine sy_index 12 (o13 + (n - 1) * 3) (n := x.n) (off := o13) (sz := 3) (i := ((n - 1 : Nat) : Int)) (by omega) hA13 (by omega) (by omega) sl41 ?_ (hw := w1 2 true 8)
    refine sy_ldn 13 r13.cs hc13 ty26 ?_ (hw := w1 2 true 8)
    refine sy_call 14 132 [r13.v] ?_ (hw := w1 2 true 8)
    intro w14 u14 e14 d14
    have k17 := k_ratSign d14 (hr13.ext e14)
    with_reducible refine Post.mono k17 ?_
    clear k17
    rintro _ u15 g16 rfl
    refine sy_pure 15 (.v (.bool ((Nt.sgQ (l.getD (n - 1) 0)) == 0))) ?_ (hw := w1 2 true 8)
    refine sy_pure 16 (.v (.bool ((Nt.sgQ (l.getD (n - 1) 0)) == 0))) ?_
    refine sy_next 22 [(0, .v (.slice x.a x.n x.c)), (3, .v (.int .i64 (n : Int))), (16, .v (.bool ((Nt.sgQ (l.getD (n - 1) 0)) == 0)))] [] ?_
    refine sw_cond (b := (Nt.sgQ (l.getD (n - 1) 0)) == 0) (by kernel_rfl) (fun hb18 => ?_) (fun hb18 => ?_)
    · replace hb18 : ((Nt.sgQ (l.getD (n - 1) 0)) == 0) = true := hb18
      refine sw_skip (mp_seq ?_)
      refine sw_block ?_
      refine sw_reg ?_
      refine sy_pure 17 (.v (.int .i64 (n : Int))) ?_
      refine sy_eq 18 (x := .v (.int .i64 (IntKind.i64.wrap ((n : Int) - 1)))) (.v (.int .i64 ((n - 1 : Nat) : Int))) (eqI (by rw [IntWalk.i64_in _ (by omega)]; omega)) ?_
      refine sy_pure 3 (.v (.int .i64 ((n - 1 : Nat) : Int))) ?_
      refine sy_end ?_
      refine ⟨_, ?_, St.of 22 [(0, .v (.slice x.a x.n x.c)), (3, .v (.int .i64 ((n - 1 : Nat) : Int)))] [], by exact weak_mk _ _ _, n - 1, rfl, by omega, (fun i hi => by by_cases e : i = n - 1; (rw [e]; have h9 := hb18; rw [Nt.sgQ_eq] at h9; exact of_decide_eq_true h9); exact hz i (by omega)), rfl, (e11.trans (e14.trans g16.ext))⟩
      omega
    · replace hb18 : ((Nt.sgQ (l.getD (n - 1) 0)) == 0) = false := hb18
      refine sw_exit ?_
      refine mp_seq ?_
      refine sw_seq ?_
      refine sw_reg ?_
      refine sy_pure 19 (.v (.slice x.a x.n x.c)) ?_
      refine sy_pure 20 (.v (.int .i64 (n : Int))) ?_
      have hl19 := (hx.ext (e11.trans (e14.trans g16.ext))).len
      have hc19 := (hx.ext (e11.trans (e14.trans g16.ext))).cap
      refine sy_front 21 (n := x.n) (c := x.c) n sl41 rfl (by omega) ?_
      refine sy_pure 2 (.v (.slice x.a n x.c)) ?_
      refine sy_next 22 [(2, .v (.slice x.a n x.c))] [] ?_
      refine sw_ret (ret0 [.slice x.a n x.c] ⟨res_tmp, trivial⟩ fun u20 e21 => ?_)
      have e := Nt.trim_len_of (l := l) hn hz (fun _ h => by have h9 := hb18; rw [Nt.sgQ_eq] at h9; exact of_decide_eq_false h9 h)
      show Value.slice _ _ _ = Value.slice _ _ _
      rw [e]
  · refine sy_eq 8 (x := .v (.bool (decide ((0 : Int) < (n : Int))))) (.v (.bool false)) (by rw [hs12]) ?_
    have qhs12 := of_decide_eq_false hs12
    refine sy_drop 9 (uw 2 true false 8) ?_
    refine sy_drop 10 (uw 2 true false 8) ?_
    refine sy_drop 11 (uw 2 true false 8) ?_
    refine sy_drop 12 (uw 2 true false 8) ?_
    refine sy_drop 13 (uw 2 true false 8) ?_
    refine sy_drop 14 (uw 2 true false 8) ?_
    refine sy_drop 15 (uw 2 true false 8) ?_
    refine sy_pure 16 (.v (.bool false)) ?_
    refine sy_next 22 [(0, .v (.slice x.a x.n x.c)), (3, .v (.int .i64 (n : Int))), (16, .v (.bool false))] [] ?_
    refine sw_false (by kernel_rfl) ?_
    refine sw_exit ?_
    refine mp_seq ?_
    refine sw_seq ?_
    refine sw_reg ?_
    refine sy_pure 19 (.v (.slice x.a x.n x.c)) ?_
    refine sy_pure 20 (.v (.int .i64 (n : Int))) ?_
    have hl22 := (hx.ext e11).len
    have hc22 := (hx.ext e11).cap
    refine sy_front 21 (n := x.n) (c := x.c) n sl41 rfl (by omega) ?_
    refine sy_pure 2 (.v (.slice x.a n x.c)) ?_
    refine sy_next 22 [(2, .v (.slice x.a n x.c))] [] ?_
    refine sw_ret (ret0 [.slice x.a n x.c] ⟨res_tmp, trivial⟩ fun u23 e24 => ?_)
    have e := Nt.trim_len_of (l := l) hn hz (fun h => absurd h (by omega))
    show Value.slice _ _ _ = Value.slice _ _ _
    rw [e]
def NewR (u : World) (n : Nat) (t : List Rat) (K : Nat) (v : Value) (u' : World) : Prop := ∃ (b : Nat) (L : List RL), v = .slice (some ⟨b, 0, none⟩) n n ∧ u.heap.size ≤ b ∧ u'.heap[b]? = some (.cells (rcs L).toArray 26 (0, 0)) ∧ L.length = n ∧ RatsN u' L t K
theorem k_zeros {u w : World} {n : Nat} (d : Dat u w) (hn9 : n ≤ 1000000000) : Calls Tryz.prog 124 #[.int .i64 (n : Int)] w (Post u w fun v u' => NewR u n (List.replicate n 0) 2 v u') := by
  refine calls_sym (args := [.int .i64 (n : Int)]) Tryz.func124 rfl Tryz.ntmps124 (rs := [.tmp 2]) Tryz.results124 (le_b rfl) (le_b rfl) d ?_
  refine sw_seq ?_
  refine sw_reg ?_
  refine sy_pure 2 (.v (.slice none 0 0)) ?_
  refine sy_next 18 [(0, .v (.int .i64 (n : Int)))] [] ?_
  refine sw_seq ?_
  refine sw_reg ?_
  refine sy_pure 5 (.v (.int .i64 (n : Int))) ?_
  refine sy_make 6 (T := 41) (E := 26) (z := .agg #[.bool false, .slice none 0 0, .slice none 0 0]) (size := 3) (bytes := 56) n (rcs (List.replicate n rl0)) (by kernel_rfl) (by kernel_rfl) rfl rfl (by omega) (by unfold maxLen; omega) (made_rcs _) ?_
  refine sy_pure 3 (.slc 6 0 n n) ?_
  refine sy_next 18 [(3, .slc 6 0 n n)] [(6, ⟨26, rcs (List.replicate n rl0)⟩)] ?_
  refine sw_seq ?_
  refine sw_seq ?_
  refine sw_reg ?_
  refine sy_pure 7 (.slc 6 0 n n) ?_
  refine sy_pure 8 (.v (.int .i64 (n : Int))) ?_
  refine sy_pure 9 (.v (.int .i64 0)) ?_
  refine sy_next 18 [(3, .slc 6 0 n n), (8, .v (.int .i64 (n : Int))), (9, .v (.int .i64 0))] [(6, ⟨26, rcs (List.replicate n rl0)⟩)] ?_
  refine sw_block ?_
  refine sw_loop (I := fun m11 S' u' => ∃ (i : Nat) (L : List RL), (m11 = n - i) ∧ (i ≤ n) ∧ (L.length = n) ∧ (S' = St.of 18 [(3, .slc 6 0 n n), (8, .v (.int .i64 (n : Int))), (9, .v (.int .i64 (i : Int)))] [(6, ⟨26, rcs L⟩)]) ∧ (Ext u u') ∧ (RatsN u' (L.take i) ((List.replicate n (0 : Rat)).take i) 2)) (fun m S u1 u2 e h => by obtain ⟨i, L, hm, p0, p1, hS, hE, f0⟩ := h; exact ⟨i, L, hm, p0, p1, hS, hE.trans e, f0.ext e⟩) _ (T := St.of 18 [(3, .slc 6 0 n n), (8, .v (.int .i64 (n : Int))), (9, .v (.int .i64 0))] [(6, ⟨26, rcs (List.replicate n rl0)⟩)]) (by exact weak_mk _ _ _) ⟨0, List.replicate n rl0, rfl, by omega, by simp, rfl, Ext.refl _, RatsN.tnil _ _ _ _⟩ ?_
  rintro m11 _ u11 ⟨i, L, hm11, hi, hL, rfl, e11, hR⟩
  refine sw_seq ?_
  refine sw_reg ?_
  refine sy_pure 10 (.v (.bool (decide ((i : Int) < (n : Int))))) ?_
  refine sy_next 18 [(3, .slc 6 0 n n), (8, .v (.int .i64 (n : Int))), (9, .v (.int .i64 (i : Int))), (10, .v (.bool (decide ((i : Int) < (n : Int)))))] [(6, ⟨26, rcs L⟩)] ?_
  refine sw_seq ?_
  refine sw_cond (b := decide ((i : Int) < (n : Int))) (by kernel_rfl) (fun hb12 => ?_) (fun hb12 => ?_)
  · replace hb12 : (decide ((i : Int) < (n : Int))) = true := hb12
    have qhb12 := of_decide_eq_true hb12
    refine sw_skip (mp_seq ?_)
    refine sw_seq ?_
    refine sw_block ?_
    refine sw_seq ?_
    refine sw_reg ?_
    refine sy_pure 11 (.v (.int .i64 (i : Int))) ?_
    refine sy_pure 4 (.v (.int .i64 (i : Int))) ?_
    refine sy_next 18 [(3, .slc 6 0 n n), (4, .v (.int .i64 (i : Int))), (8, .v (.int .i64 (n : Int))), (9, .v (.int .i64 (i : Int)))] [(6, ⟨26, rcs L⟩)] ?_
    refine sw_reg ?_
    refine sy_pure 12 (.slc 6 0 n n) ?_
    refine sy_pure 13 (.v (.int .i64 (i : Int))) ?_
    refine sy_call 14 112 [.int .i64 0] ?_
    intro w13 u13 e13 d13
    have k18 := k_ratOf d13 (z := 0) (by omega) (by omega)
    with_reducible refine Post.mono k18 ?_
    clear k18
    rintro _ u16 g17 ⟨r14, rfl, h15⟩
    refine sy_idxO 15 (off' := i * 3) (n := n) (off := 0) (sz := 3) (i := (i : Int)) sl41 (by omega) (by omega) (by omega) ?_
    refine sy_storeO (V := ⟨26, rcs L⟩) (off := i * 3) (rcs ((L).set i r14)) ty26 (by rw [rcs_len]; first | omega | (simp; omega)) (setL_rcs (r := r14) (i := i) (by first | omega | (simp; omega)) rfl) ?_
    refine sy_end ?_
    refine mp_seq ?_
    refine sw_reg ?_
    refine sy_eq 16 (x := .v (.int .i64 (IntKind.i64.wrap ((i : Int) + 1)))) (.v (.int .i64 ((i + 1 : Nat) : Int))) (eqI (by rw [IntWalk.i64_in _ (by omega)]; omega)) ?_
    refine sy_pure 9 (.v (.int .i64 ((i + 1 : Nat) : Int))) ?_
    refine sy_end ?_
    have ht19 : i < (List.replicate n (0 : Rat)).length := by simp; omega
    refine ⟨_, ?_, St.of 18 [(3, .slc 6 0 n n), (8, .v (.int .i64 (n : Int))), (9, .v (.int .i64 ((i + 1 : Nat) : Int)))] [(6, ⟨26, rcs ((L).set i r14)⟩)], by exact weak_mk _ _ _, i + 1, (L).set i r14, rfl, by omega, by simpa using hL, rfl, (e11.trans (e13.trans g17.ext)), RatsN.tstep (hR.ext (e13.trans g17.ext)) (by omega) ht19 (RatN.more (K := 2) h15 (by omega)) (by rw [List.getD_eq_getElem?_getD, List.getElem?_replicate]; split <;> rfl)⟩
    omega
  · replace hb12 : (decide ((i : Int) < (n : Int))) = false := hb12
    have qhb12 := of_decide_eq_false hb12
    refine sw_exit ?_
    refine mp_seq ?_
    refine sw_seq ?_
    refine sw_pub (r := 3) (t := 6) [3, 6] (by repeat first | exact noAt_of | refine noAt_set ?_ | refine noAt_lit ?_ | refine noAt_new ?_ | refine noAt_setVar ?_ | refine noAt_unpub ?_) (by kernel_rfl) (by rfl) (by rfl) (by kernel_rfl) (fun b20 u21 e22 hb23 hh24 => ?_)
    have hp25 : PolN u21 ⟨some ⟨b20, 0, none⟩, n, n⟩ (List.replicate n (0 : Rat)) 2 := pol_data1 hh24 (by unfold maxLen; omega) (RatsN.tdone (hR.ext e22) (by omega) (by simp; omega)) (by omega)
    refine sw_reg ?_
    refine sy_pure 17 (.v (.slice (some ⟨b20, 0, none⟩) n n)) ?_
    refine sy_pure 2 (.v (.slice (some ⟨b20, 0, none⟩) n n)) ?_
    refine sy_next 18 [(2, .v (.slice (some ⟨b20, 0, none⟩) n n))] [] ?_
    refine sw_ret (ret0 [.slice (some ⟨b20, 0, none⟩) n n] ⟨res_tmp, trivial⟩ fun u26 e27 => ?_)
    exact ⟨b20, L, rfl, hb23, e27.cells hh24, by omega, (RatsN.tdone (hR.ext (e22.trans e27)) (by omega) (by simp; omega))⟩
theorem k_poScale {u w : World} {x : Sl} {l : List Rat} {r : RL} {q : Rat} {K M : Nat} (d : Dat u w) (hx : PolV u x l K) (hr : RatV u r q M) (hK : K ≤ 50000000) (hx9 : l.length ≤ 1000000000) (hM : M ≤ 50000000) : Calls Tryz.prog 97 #[x.v, r.v] w (Post u w fun v u' => ∃ y : Sl, v = y.v ∧ PolN u' y (Nt.trimQ (l.map (· * q))) (K + M)) := by
  have hlen := hx.len
  refine calls_sym (args := [.slice x.a x.n x.c, r.v]) Tryz.func97 rfl Tryz.ntmps97 (rs := [.tmp 4]) Tryz.results97 (le_b rfl) (le_b rfl) d ?_
  refine sw_seq ?_
  refine sw_reg ?_
  refine sy_new 3 ⟨26, r.cs⟩ ?_
  refine sy_pure 4 (.v (.slice none 0 0)) ?_
  refine sy_next 27 [(0, .v (.slice x.a x.n x.c)), (3, .adr 3 0)] [(3, ⟨26, r.cs⟩)] ?_
  refine sw_seq ?_
  refine sw_reg ?_
  refine sy_pure 7 (.v (.slice x.a x.n x.c)) ?_
  refine sy_pure 8 (.v (.int .i64 (x.n : Int))) ?_
  refine sy_make 9 (T := 41) (E := 26) (z := .agg #[.bool false, .slice none 0 0, .slice none 0 0]) (size := 3) (bytes := 56) x.n (rcs (List.replicate x.n rl0)) (by kernel_rfl) (by kernel_rfl) rfl rfl (by omega) (by unfold maxLen; omega) (made_rcs _) ?_
  refine sy_pure 5 (.slc 9 0 x.n x.n) ?_
  refine sy_next 27 [(0, .v (.slice x.a x.n x.c)), (3, .adr 3 0), (5, .slc 9 0 x.n x.n)] [(3, ⟨26, r.cs⟩), (9, ⟨26, rcs (List.replicate x.n rl0)⟩)] ?_
  refine sw_seq ?_
  refine sw_seq ?_
  refine sw_reg ?_
  refine sy_pure 10 (.slc 9 0 x.n x.n) ?_
  refine sy_pure 11 (.v (.int .i64 (x.n : Int))) ?_
  refine sy_pure 12 (.v (.int .i64 0)) ?_
  refine sy_next 27 [(0, .v (.slice x.a x.n x.c)), (3, .adr 3 0), (5, .slc 9 0 x.n x.n), (11, .v (.int .i64 (x.n : Int))), (12, .v (.int .i64 0))] [(3, ⟨26, r.cs⟩), (9, ⟨26, rcs (List.replicate x.n rl0)⟩)] ?_
  refine sw_block ?_
  refine sw_loop (I := fun m11 S' u' => ∃ (i : Nat) (L : List RL), (m11 = x.n - i) ∧ (i ≤ x.n) ∧ (L.length = x.n) ∧ (S' = St.of 27 [(0, .v (.slice x.a x.n x.c)), (3, .adr 3 0), (5, .slc 9 0 x.n x.n), (11, .v (.int .i64 (x.n : Int))), (12, .v (.int .i64 (i : Int)))] [(3, ⟨26, r.cs⟩), (9, ⟨26, rcs L⟩)]) ∧ (Ext u u') ∧ (RatsN u' (L.take i) ((l.map (· * q)).take i) (K + M))) (fun m S u1 u2 e h => by obtain ⟨i, L, hm, p0, p1, hS, hE, f0⟩ := h; exact ⟨i, L, hm, p0, p1, hS, hE.trans e, f0.ext e⟩) _ (T := St.of 27 [(0, .v (.slice x.a x.n x.c)), (3, .adr 3 0), (5, .slc 9 0 x.n x.n), (11, .v (.int .i64 (x.n : Int))), (12, .v (.int .i64 0))] [(3, ⟨26, r.cs⟩), (9, ⟨26, rcs (List.replicate x.n rl0)⟩)]) (by exact weak_mk _ _ _) ⟨0, List.replicate x.n rl0, rfl, by omega, by simp, rfl, Ext.refl _, RatsN.tnil _ _ _ _⟩ ?_
  rintro m11 _ u11 ⟨i, L, hm11, hi, hL, rfl, e11, hR⟩
  refine sw_seq ?_
  refine sw_reg ?_
  refine sy_pure 13 (.v (.bool (decide ((i : Int) < (x.n : Int))))) ?_
  refine sy_next 27 [(0, .v (.slice x.a x.n x.c)), (3, .adr 3 0), (5, .slc 9 0 x.n x.n), (11, .v (.int .i64 (x.n : Int))), (12, .v (.int .i64 (i : Int))), (13, .v (.bool (decide ((i : Int) < (x.n : Int)))))] [(3, ⟨26, r.cs⟩), (9, ⟨26, rcs L⟩)] ?_
  refine sw_seq ?_
  refine sw_cond (b := decide ((i : Int) < (x.n : Int))) (by kernel_rfl) (fun hb12 => ?_) (fun hb12 => ?_)
  · replace hb12 : (decide ((i : Int) < (x.n : Int))) = true := hb12
    have qhb12 := of_decide_eq_true hb12
    refine sw_skip (mp_seq ?_)
    refine sw_seq ?_
    refine sw_block ?_
    refine sw_seq ?_
    refine sw_reg ?_
    refine sy_pure 14 (.v (.int .i64 (i : Int))) ?_
    refine sy_pure 6 (.v (.int .i64 (i : Int))) ?_
    refine sy_next 27 [(0, .v (.slice x.a x.n x.c)), (3, .adr 3 0), (5, .slc 9 0 x.n x.n), (6, .v (.int .i64 (i : Int))), (11, .v (.int .i64 (x.n : Int))), (12, .v (.int .i64 (i : Int)))] [(3, ⟨26, r.cs⟩), (9, ⟨26, rcs L⟩)] ?_
    refine sw_any [0, 0, 0, 0, 12, 28, 0, 124, 255, 511] [(0, []), (1, []), (2, []), (3, []), (4, []), (5, []), (6, []), (7, []), (8, []), (9, [])] (by kernel_rfl) (by kernel_rfl) ?_
    refine sy_pure 15 (.slc 9 0 x.n x.n) ?_
    refine sy_pure 16 (.v (.int .i64 (i : Int))) ?_
    refine sy_pure 17 (.v (.slice x.a x.n x.c)) ?_
    refine sy_pure 18 (.v (.int .i64 (i : Int))) ?_
    have hl13 := (hx.ext e11).len
    obtain ⟨r13, b13, o13, hA13, hc13, hr13⟩ := pol_at (hx.ext e11) (i := i) (by omega)
    refine sy_index 19 (o13 + i * 3) (n := x.n) (off := o13) (sz := 3) (i := (i : Int)) (by omega) hA13 (by omega) (by omega) sl41 ?_
    refine sy_ldn 20 r13.cs hc13 ty26 ?_
    refine sy_ldv 21 (.v (r.v)) ty26 part_agg ?_
    refine sy_call 22 111 [r13.v, r.v] ?_
    intro w14 u14 e14 d14
    have k19 := k_ratMul d14 (hr13.ext e14) (hr.ext (e11.trans e14)) (by omega) (by omega)
    with_reducible refine Post.mono k19 ?_
    clear k19
    rintro _ u17 g18 ⟨r15, rfl, h16⟩
    refine sy_idxO 23 (off' := i * 3) (n := x.n) (off := 0) (sz := 3) (i := (i : Int)) sl41 (by omega) (by omega) (by omega) ?_
    refine sy_storeO (V := ⟨26, rcs L⟩) (off := i * 3) (rcs ((L).set i r15)) ty26 (by rw [rcs_len]; first | omega | (simp; omega)) (setL_rcs (r := r15) (i := i) (by first | omega | (simp; omega)) rfl) ?_
    refine sy_end ?_
    refine mp_seq ?_
    refine sw_reg ?_
    refine sy_eq 24 (x := .v (.int .i64 (IntKind.i64.wrap ((i : Int) + 1)))) (.v (.int .i64 ((i + 1 : Nat) : Int))) (eqI (by rw [IntWalk.i64_in _ (by omega)]; omega)) ?_
    refine sy_pure 12 (.v (.int .i64 ((i + 1 : Nat) : Int))) ?_
    refine sy_end ?_
    have ht20 : i < (l.map (· * q)).length := by simp; omega
    refine ⟨_, ?_, St.of 27 [(0, .v (.slice x.a x.n x.c)), (3, .adr 3 0), (5, .slc 9 0 x.n x.n), (11, .v (.int .i64 (x.n : Int))), (12, .v (.int .i64 ((i + 1 : Nat) : Int)))] [(3, ⟨26, r.cs⟩), (9, ⟨26, rcs ((L).set i r15)⟩)], by exact weak_mk _ _ _, i + 1, (L).set i r15, rfl, by omega, by simpa using hL, rfl, (e11.trans (e14.trans g18.ext)), RatsN.tstep (hR.ext (e14.trans g18.ext)) (by omega) ht20 (RatN.more (K := (K + M)) h16 (by omega)) (by simp [List.getElem?_eq_getElem (show i < l.length by omega)])⟩
    omega
  · replace hb12 : (decide ((i : Int) < (x.n : Int))) = false := hb12
    have qhb12 := of_decide_eq_false hb12
    refine sw_exit ?_
    refine mp_seq ?_
    refine sw_seq ?_
    refine sw_pub (r := 5) (t := 9) [5, 9] (by repeat first | exact noAt_of | refine noAt_set ?_ | refine noAt_lit ?_ | refine noAt_new ?_ | refine noAt_setVar ?_ | refine noAt_unpub ?_) (by kernel_rfl) (by rfl) (by rfl) (by kernel_rfl) (fun b21 u22 e23 hb24 hh25 => ?_)
    have hp26 : PolN u22 ⟨some ⟨b21, 0, none⟩, x.n, x.n⟩ (l.map (· * q)) (K + M) := pol_data1 hh25 (by unfold maxLen; omega) (RatsN.tdone (hR.ext e23) (by omega) (by simp; omega)) (by omega)
    refine sw_reg ?_
    refine sy_pure 25 (.v (.slice (some ⟨b21, 0, none⟩) x.n x.n)) ?_
    refine sy_call 26 118 [.slice (some ⟨b21, 0, none⟩) x.n x.n] ?_
    intro w27 u27 e27 d27
    have k30 := k_cut d27 (hp26.ext e27).raw (by omega) (by first | omega | (simp; omega) | (refine Nat.le_trans (Nt.trim_len _) ?_; first | omega | (simp; omega)) | (refine Nat.le_trans (Nt.trim_len _) ?_; simp only [List.length_map]; refine Nat.le_trans (Nt.trim_len _) ?_; first | omega | (simp; omega)))
    with_reducible refine Post.mono k30 ?_
    clear k30
    rintro _ u28 g29 rfl
    refine sy_pure 4 (.v (.slice (some ⟨b21, 0, none⟩) (Nt.trimQ (l.map (· * q))).length x.n)) ?_
    refine sy_next 27 [(4, .v (.slice (some ⟨b21, 0, none⟩) (Nt.trimQ (l.map (· * q))).length x.n))] [] ?_
    refine sw_ret (ret0 [.slice (some ⟨b21, 0, none⟩) (Nt.trimQ (l.map (· * q))).length x.n] ⟨res_tmp, trivial⟩ fun u31 e32 => ?_)
    refine ⟨(⟨some ⟨b21, 0, none⟩, (Nt.trimQ (l.map (· * q))).length, x.n⟩ : Sl), rfl, ?_⟩
    exact ((cut_N (hp26.ext (e27.trans g29.ext))).ext e32)
theorem k_poDerivative {u w : World} {x : Sl} {l : List Rat} {K : Nat} (d : Dat u w) (hx : PolV u x l K) (hK : K ≤ 50000000) (hx9 : l.length ≤ 1000000000) : Calls Tryz.prog 34 #[x.v] w (Post u w fun v u' => ∃ y : Sl, v = y.v ∧ PolN u' y (Nt.trimQ (Nt.derQ l)) (K + 2)) := by
  have hlen := hx.len
  refine calls_sym (args := [.slice x.a x.n x.c]) Tryz.func34 rfl Tryz.ntmps34 (rs := [.tmp 2]) Tryz.results34 (le_b rfl) (le_b rfl) d ?_
  refine sw_seq ?_
  refine sw_reg ?_
  refine sy_pure 2 (.v (.slice none 0 0)) ?_
  refine sy_next 32 [(0, .v (.slice x.a x.n x.c))] [] ?_
  refine sw_seq ?_
  refine sw_seq ?_
  refine sw_reg ?_
  refine sy_pure 5 (.v (.slice x.a x.n x.c)) ?_
  refine sy_pure 6 (.v (.int .i64 (x.n : Int))) ?_
  refine sy_pure 7 (.v (.bool ((x.n : Int) == 0))) ?_
  refine sy_next 32 [(0, .v (.slice x.a x.n x.c)), (7, .v (.bool ((x.n : Int) == 0)))] [] ?_
  refine sw_cond (b := (x.n : Int) == 0) (by kernel_rfl) (fun hb11 => ?_) (fun hb11 => ?_)
  · replace hb11 : ((x.n : Int) == 0) = true := hb11
    have qhb11 : (x.n : Int) = 0 := by simpa using hb11
    refine sw_seq ?_
    refine sw_reg ?_
    refine sy_pure 2 (.v (.slice none 0 0)) ?_
    refine sy_next 32 [(2, .v (.slice none 0 0))] [] ?_
    refine sw_ret (mpr_seq (ret0 [.slice none 0 0] ⟨res_tmp, trivial⟩ fun u12 e13 => ?_))
    have e9 : l = [] := List.eq_nil_of_length_eq_zero (by omega)
    rw [e9]
    exact ⟨⟨none, 0, 0⟩, rfl, pol_nil _ _⟩
  · replace hb11 : ((x.n : Int) == 0) = false := hb11
    have qhb11 : ¬ ((x.n : Int) = 0) := by simpa using hb11
    refine sw_skip (mp_seq ?_)
    refine sw_seq ?_
    refine sw_reg ?_
    refine sy_pure 8 (.v (.slice x.a x.n x.c)) ?_
    refine sy_pure 9 (.v (.int .i64 (x.n : Int))) ?_
    refine sy_eq 10 (x := .v (.int .i64 (IntKind.i64.wrap ((x.n : Int) - 1)))) (.v (.int .i64 ((x.n - 1 : Nat) : Int))) (eqI (by rw [IntWalk.i64_in _ (by omega)]; omega)) ?_
    refine sy_make 11 (T := 41) (E := 26) (z := .agg #[.bool false, .slice none 0 0, .slice none 0 0]) (size := 3) (bytes := 56) (x.n - 1) (rcs (List.replicate (x.n - 1) rl0)) (by kernel_rfl) (by kernel_rfl) rfl rfl (by omega) (by unfold maxLen; omega) (made_rcs _) ?_
    refine sy_pure 3 (.slc 11 0 (x.n - 1) (x.n - 1)) ?_
    refine sy_next 32 [(0, .v (.slice x.a x.n x.c)), (3, .slc 11 0 (x.n - 1) (x.n - 1))] [(11, ⟨26, rcs (List.replicate (x.n - 1) rl0)⟩)] ?_
    refine sw_seq ?_
    refine sw_seq ?_
    refine sw_reg ?_
    refine sy_pure 12 (.slc 11 0 (x.n - 1) (x.n - 1)) ?_
    refine sy_pure 13 (.v (.int .i64 ((x.n - 1 : Nat) : Int))) ?_
    refine sy_pure 14 (.v (.int .i64 0)) ?_
    refine sy_next 32 [(0, .v (.slice x.a x.n x.c)), (3, .slc 11 0 (x.n - 1) (x.n - 1)), (13, .v (.int .i64 ((x.n - 1 : Nat) : Int))), (14, .v (.int .i64 0))] [(11, ⟨26, rcs (List.replicate (x.n - 1) rl0)⟩)] ?_
    refine sw_block ?_
    refine sw_loop (I := fun m14 S' u' => ∃ (i : Nat) (L : List RL), (m14 = (x.n - 1) - i) ∧ (i ≤ x.n - 1) ∧ (L.length = x.n - 1) ∧ (S' = St.of 32 [(0, .v (.slice x.a x.n x.c)), (3, .slc 11 0 (x.n - 1) (x.n - 1)), (13, .v (.int .i64 ((x.n - 1 : Nat) : Int))), (14, .v (.int .i64 (i : Int)))] [(11, ⟨26, rcs L⟩)]) ∧ (Ext u u') ∧ (RatsN u' (L.take i) ((Nt.derQ l).take i) (K + 2))) (fun m S u1 u2 e h => by obtain ⟨i, L, hm, p0, p1, hS, hE, f0⟩ := h; exact ⟨i, L, hm, p0, p1, hS, hE.trans e, f0.ext e⟩) _ (T := St.of 32 [(0, .v (.slice x.a x.n x.c)), (3, .slc 11 0 (x.n - 1) (x.n - 1)), (13, .v (.int .i64 ((x.n - 1 : Nat) : Int))), (14, .v (.int .i64 0))] [(11, ⟨26, rcs (List.replicate (x.n - 1) rl0)⟩)]) (by exact weak_mk _ _ _) ⟨0, List.replicate (x.n - 1) rl0, rfl, by omega, by simp, rfl, Ext.refl _, RatsN.tnil _ _ _ _⟩ ?_
    rintro m14 _ u14 ⟨i, L, hm14, hi, hL, rfl, e14, hR⟩
    refine sw_seq ?_
    refine sw_reg ?_
    refine sy_pure 15 (.v (.bool (decide ((i : Int) < ((x.n - 1 : Nat) : Int))))) ?_
    refine sy_next 32 [(0, .v (.slice x.a x.n x.c)), (3, .slc 11 0 (x.n - 1) (x.n - 1)), (13, .v (.int .i64 ((x.n - 1 : Nat) : Int))), (14, .v (.int .i64 (i : Int))), (15, .v (.bool (decide ((i : Int) < ((x.n - 1 : Nat) : Int)))))] [(11, ⟨26, rcs L⟩)] ?_
    refine sw_seq ?_
    refine sw_cond (b := decide ((i : Int) < ((x.n - 1 : Nat) : Int))) (by kernel_rfl) (fun hb15 => ?_) (fun hb15 => ?_)
    · replace hb15 : (decide ((i : Int) < ((x.n - 1 : Nat) : Int))) = true := hb15
      have qhb15 := of_decide_eq_true hb15
      refine sw_skip (mp_seq ?_)
      refine sw_seq ?_
      refine sw_block ?_
      refine sw_seq ?_
      refine sw_reg ?_
      refine sy_pure 16 (.v (.int .i64 (i : Int))) ?_
      refine sy_pure 4 (.v (.int .i64 (i : Int))) ?_
      refine sy_next 32 [(0, .v (.slice x.a x.n x.c)), (3, .slc 11 0 (x.n - 1) (x.n - 1)), (4, .v (.int .i64 (i : Int))), (13, .v (.int .i64 ((x.n - 1 : Nat) : Int))), (14, .v (.int .i64 (i : Int)))] [(11, ⟨26, rcs L⟩)] ?_
      refine sw_any [0, 0, 0, 0, 8, 28, 60, 0, 128, 384, 1020, 2047, 4095] [(0, []), (1, []), (2, []), (3, []), (4, []), (5, []), (6, []), (7, []), (8, []), (9, []), (10, []), (11, []), (12, [])] (by kernel_rfl) (by kernel_rfl) ?_
      refine sy_pure 17 (.slc 11 0 (x.n - 1) (x.n - 1)) ?_
      refine sy_pure 18 (.v (.int .i64 (i : Int))) ?_
      refine sy_pure 19 (.v (.slice x.a x.n x.c)) ?_
      refine sy_pure 20 (.v (.int .i64 (i : Int))) ?_
      refine sy_eq 21 (x := .v (.int .i64 (IntKind.i64.wrap ((i : Int) + 1)))) (.v (.int .i64 ((i + 1 : Nat) : Int))) (eqI (by rw [IntWalk.i64_in _ (by omega)]; omega)) ?_
      have hl16 := (hx.ext e14).len
      obtain ⟨r16, b16, o16, hA16, hc16, hr16⟩ := pol_at (hx.ext e14) (i := i + 1) (by omega)
      refine sy_index 22 (o16 + (i + 1) * 3) (n := x.n) (off := o16) (sz := 3) (i := ((i + 1 : Nat) : Int)) (by omega) hA16 (by omega) (by omega) sl41 ?_
      refine sy_ldn 23 r16.cs hc16 ty26 ?_
      refine sy_pure 24 (.v (.int .i64 (i : Int))) ?_
      refine sy_eq 25 (x := .v (.int .i64 (IntKind.i64.wrap ((i : Int) + 1)))) (.v (.int .i64 ((i + 1 : Nat) : Int))) (eqI (by rw [IntWalk.i64_in _ (by omega)]; omega)) ?_
      refine sy_call 26 112 [.int .i64 ((i + 1 : Nat) : Int)] ?_
      intro w17 u17 e17 d17
      have k22 := k_ratOf d17 (z := ((i + 1 : Nat) : Int)) (by omega) (by omega)
      with_reducible refine Post.mono k22 ?_
      clear k22
      rintro _ u20 g21 ⟨r18, rfl, h19⟩
      refine sy_call 27 111 [r16.v, r18.v] ?_
      intro w23 u23 e23 d23
      have k28 := k_ratMul d23 (hr16.ext (e17.trans (g21.ext.trans e23))) (h19.ext e23).raw (by omega) (by omega)
      with_reducible refine Post.mono k28 ?_
      clear k28
      rintro _ u26 g27 ⟨r24, rfl, h25⟩
      refine sy_idxO 28 (off' := i * 3) (n := x.n - 1) (off := 0) (sz := 3) (i := (i : Int)) sl41 (by omega) (by omega) (by omega) ?_
      refine sy_storeO (V := ⟨26, rcs L⟩) (off := i * 3) (rcs ((L).set i r24)) ty26 (by rw [rcs_len]; first | omega | (simp; omega)) (setL_rcs (r := r24) (i := i) (by first | omega | (simp; omega)) rfl) ?_
      refine sy_end ?_
      refine mp_seq ?_
      refine sw_reg ?_
      refine sy_eq 29 (x := .v (.int .i64 (IntKind.i64.wrap ((i : Int) + 1)))) (.v (.int .i64 ((i + 1 : Nat) : Int))) (eqI (by rw [IntWalk.i64_in _ (by omega)]; omega)) ?_
      refine sy_pure 14 (.v (.int .i64 ((i + 1 : Nat) : Int))) ?_
      refine sy_end ?_
      have ht29 : i < (Nt.derQ l).length := by rw [Nt.derQ_len]; omega
      refine ⟨_, ?_, St.of 32 [(0, .v (.slice x.a x.n x.c)), (3, .slc 11 0 (x.n - 1) (x.n - 1)), (13, .v (.int .i64 ((x.n - 1 : Nat) : Int))), (14, .v (.int .i64 ((i + 1 : Nat) : Int)))] [(11, ⟨26, rcs ((L).set i r24)⟩)], by exact weak_mk _ _ _, i + 1, (L).set i r24, rfl, by omega, by simpa using hL, rfl, (e14.trans (e17.trans (g21.ext.trans (e23.trans g27.ext)))), RatsN.tstep (hR.ext (e17.trans (g21.ext.trans (e23.trans g27.ext)))) (by omega) ht29 (RatN.more (K := (K + 2)) h25 (by omega)) (by have h9 := Nt.derQ_co l i; unfold Nt.co at h9; exact h9.symm)⟩
      omega
    · replace hb15 : (decide ((i : Int) < ((x.n - 1 : Nat) : Int))) = false := hb15
      have qhb15 := of_decide_eq_false hb15
      refine sw_exit ?_
      refine mp_seq ?_
      refine sw_seq ?_
      refine sw_pub (r := 3) (t := 11) [3, 11] (by repeat first | exact noAt_of | refine noAt_set ?_ | refine noAt_lit ?_ | refine noAt_new ?_ | refine noAt_setVar ?_ | refine noAt_unpub ?_) (by kernel_rfl) (by rfl) (by rfl) (by kernel_rfl) (fun b30 u31 e32 hb33 hh34 => ?_)
      have hp35 : PolN u31 ⟨some ⟨b30, 0, none⟩, x.n - 1, x.n - 1⟩ (Nt.derQ l) (K + 2) := pol_data1 hh34 (by unfold maxLen; omega) (RatsN.tdone (hR.ext e32) (by omega) (by rw [Nt.derQ_len]; omega)) (by omega)
      refine sw_reg ?_
      refine sy_pure 30 (.v (.slice (some ⟨b30, 0, none⟩) (x.n - 1) (x.n - 1))) ?_
      refine sy_call 31 118 [.slice (some ⟨b30, 0, none⟩) (x.n - 1) (x.n - 1)] ?_
      intro w36 u36 e36 d36
      have k39 := k_cut d36 (hp35.ext e36).raw (by omega) (by first | omega | (simp; omega) | (refine Nat.le_trans (Nt.trim_len _) ?_; first | omega | (simp; omega)) | (refine Nat.le_trans (Nt.trim_len _) ?_; simp only [List.length_map]; refine Nat.le_trans (Nt.trim_len _) ?_; first | omega | (simp; omega)))
      with_reducible refine Post.mono k39 ?_
      clear k39
      rintro _ u37 g38 rfl
      refine sy_pure 2 (.v (.slice (some ⟨b30, 0, none⟩) (Nt.trimQ (Nt.derQ l)).length (x.n - 1))) ?_
      refine sy_next 32 [(2, .v (.slice (some ⟨b30, 0, none⟩) (Nt.trimQ (Nt.derQ l)).length (x.n - 1)))] [] ?_
      refine sw_ret (ret0 [.slice (some ⟨b30, 0, none⟩) (Nt.trimQ (Nt.derQ l)).length (x.n - 1)] ⟨res_tmp, trivial⟩ fun u40 e41 => ?_)
      refine ⟨(⟨some ⟨b30, 0, none⟩, (Nt.trimQ (Nt.derQ l)).length, x.n - 1⟩ : Sl), rfl, ?_⟩
      exact ((cut_N (hp35.ext (e36.trans g38.ext))).ext e41)
theorem k_poParts {u w : World} {r : RL} (d : Dat u w) : Calls Tryz.prog 127 #[r.v] w (Post u w fun v u' => ∃ y : Sl, v = .tuple #[.agg #[.bool r.s, r.m.v, y.v], .agg #[.bool false, r.d.v, y.v]] ∧ NatN u' y 1 1) := by
  refine calls_sym (args := [r.v]) Tryz.func127 rfl Tryz.ntmps127 (rs := [.cell 2 26, .cell 3 26]) Tryz.results127 (le_b rfl) (le_b rfl) d ?_
  refine sw_seq ?_
  refine sw_reg ?_
  refine sy_new 1 ⟨26, r.cs⟩ ?_
  refine sy_new 2 ⟨26, [.bool false, .slice none 0 0, .slice none 0 0]⟩ ?_
  refine sy_new 3 ⟨26, [.bool false, .slice none 0 0, .slice none 0 0]⟩ ?_
  refine sy_next 15 [(1, .adr 1 0), (2, .adr 2 0), (3, .adr 3 0)] [(1, ⟨26, r.cs⟩), (2, ⟨26, [.bool false, .slice none 0 0, .slice none 0 0]⟩), (3, ⟨26, [.bool false, .slice none 0 0, .slice none 0 0]⟩)] ?_
  refine sw_seq ?_
  refine sw_reg ?_
  refine sy_data 5 ⟨105, [.int .u32 1]⟩ 1 (fun b11 u12 e13 h14 => ?_)
  refine sy_pure 4 (.v (.slice (some ⟨b11, 0, none⟩) 1 1)) ?_
  refine sy_next 15 [(1, .adr 1 0), (2, .adr 2 0), (3, .adr 3 0), (4, .v (.slice (some ⟨b11, 0, none⟩) 1 1))] [(1, ⟨26, r.cs⟩), (2, ⟨26, [.bool false, .slice none 0 0, .slice none 0 0]⟩), (3, ⟨26, [.bool false, .slice none 0 0, .slice none 0 0]⟩)] ?_
  refine sw_seq ?_
  refine sw_any [0, 1, 0, 7, 0, 16, 48, 0, 240, 15, 1023] [(0, []), (1, []), (2, []), (3, []), (4, []), (5, []), (6, []), (7, []), (8, []), (9, [10]), (10, [])] (by kernel_rfl) (by kernel_rfl) ?_
  refine sy_pure 6 (.adr 1 0) ?_
  refine sy_ldv 7 (.v (.agg #[.bool r.s, .slice r.m.a r.m.n r.m.c])) ty24 part_agg ?_
  refine sy_pure 8 (.v (.slice (some ⟨b11, 0, none⟩) 1 1)) ?_
  refine sy_pure 9 (.v (.agg #[.bool r.s, .slice r.m.a r.m.n r.m.c, .slice (some ⟨b11, 0, none⟩) 1 1])) ?_
  refine sy_pure 10 (.adr 1 2) ?_
  refine sy_ldv 11 (.v (.slice r.d.a r.d.n r.d.c)) ty22 part_one ?_
  refine sy_pure 12 (.v (.agg #[.bool false, .slice r.d.a r.d.n r.d.c])) ?_
  refine sy_pure 13 (.v (.slice (some ⟨b11, 0, none⟩) 1 1)) ?_
  refine sy_pure 14 (.v (.agg #[.bool false, .slice r.d.a r.d.n r.d.c, .slice (some ⟨b11, 0, none⟩) 1 1])) ?_
  refine sy_store ⟨26, [.bool r.s, .slice r.m.a r.m.n r.m.c, .slice (some ⟨b11, 0, none⟩) 1 1]⟩ ty26 ?_
  refine sy_store ⟨26, [.bool false, .slice r.d.a r.d.n r.d.c, .slice (some ⟨b11, 0, none⟩) 1 1]⟩ ty26 ?_
  refine sy_next 15 [(2, .adr 2 0), (3, .adr 3 0)] [(2, ⟨26, [.bool r.s, .slice r.m.a r.m.n r.m.c, .slice (some ⟨b11, 0, none⟩) 1 1]⟩), (3, ⟨26, [.bool false, .slice r.d.a r.d.n r.d.c, .slice (some ⟨b11, 0, none⟩) 1 1]⟩)] ?_
  refine sw_ret (ret0 [.agg #[.bool r.s, .slice r.m.a r.m.n r.m.c, .slice (some ⟨b11, 0, none⟩) 1 1], .agg #[.bool false, .slice r.d.a r.d.n r.d.c, .slice (some ⟨b11, 0, none⟩) 1 1]] ⟨res_cell ty26 part_agg, res_cell ty26 part_agg, trivial⟩ fun u15 e16 => ?_)
  exact ⟨(⟨some ⟨b11, 0, none⟩, 1, 1⟩ : Sl), rfl, ((one_data h14).ext e16)⟩
set_option maxHeartbeats 1000000 in
theorem k_common {u w : World} {r1 r2 : RL} {x y : Rat} {K M : Nat} (d : Dat u w) (h1 : RatN u r1 x K) (h2 : RatV u r2 y M) (hK : K ≤ 40000000) (hM : M ≤ 40000000) : Calls Tryz.prog 168 #[r1.v, r2.v] w (Post u w fun v u' => ∃ r : RL, v = r.v ∧ RatN u' r (Nt.cmn x y) (K + M)) := by
  refine calls_sym (args := [r1.v, r2.v]) Tryz.func168 rfl Tryz.ntmps168 (rs := [.cell 4 26]) Tryz.results168 (le_b rfl) (le_b rfl) d ?_
  refine sw_seq ?_
  refine sw_reg ?_
  refine sy_new 2 ⟨26, r1.cs⟩ ?_
  refine sy_new 3 ⟨26, r2.cs⟩ ?_
  refine sy_new 4 ⟨26, [.bool false, .slice none 0 0, .slice none 0 0]⟩ ?_
  refine sy_next 38 [(2, .adr 2 0), (3, .adr 3 0), (4, .adr 4 0)] [(2, ⟨26, r1.cs⟩), (3, ⟨26, r2.cs⟩), (4, ⟨26, [.bool false, .slice none 0 0, .slice none 0 0]⟩)] ?_
  refine sw_seq ?_
  refine sw_seq ?_
  refine sw_reg ?_
  refine sy_ldv 11 (.v (r1.v)) ty26 part_agg ?_
  refine sy_call 12 132 [r1.v] ?_
  intro w11 u11 e11 d11
  have k14 := k_ratSign d11 (h1.ext e11).raw
  with_reducible refine Post.mono k14 ?_
  clear k14
  rintro _ u12 g13 rfl
  refine sy_pure 13 (.v (.bool ((Nt.sgQ x) == 0))) ?_
  refine sy_next 38 [(2, .adr 2 0), (3, .adr 3 0), (4, .adr 4 0), (13, .v (.bool ((Nt.sgQ x) == 0)))] [(2, ⟨26, r1.cs⟩), (3, ⟨26, r2.cs⟩), (4, ⟨26, [.bool false, .slice none 0 0, .slice none 0 0]⟩)] ?_
  refine sw_cond (b := (Nt.sgQ x) == 0) (by kernel_rfl) (fun hb15 => ?_) (fun hb15 => ?_)
  · replace hb15 : ((Nt.sgQ x) == 0) = true := hb15
    have hx0 : x = 0 := by have h9 := hb15; rw [Nt.sgQ_eq] at h9; simpa using h9
    refine sw_seq ?_
    refine sw_reg ?_
    refine sy_ldv 14 (.v (r2.v)) ty26 part_agg ?_
    refine sy_call 15 139 [r2.v] ?_
    intro w16 u16 e16 d16
    have k21 := k_ratAbs d16 (h2.ext (e11.trans (g13.ext.trans e16))) (by omega)
    with_reducible refine Post.mono k21 ?_
    clear k21
    rintro _ u19 g20 ⟨r17, rfl, h18⟩
    refine sy_store ⟨26, r17.cs⟩ ty26 ?_
    refine sy_next 38 [(4, .adr 4 0)] [(4, ⟨26, r17.cs⟩)] ?_
    refine sw_ret (mpr_seq (ret0 [r17.v] ⟨res_cell ty26 part_agg, trivial⟩ fun u22 e23 => ?_))
    have e9 : Nt.cmn x y = (Nt.absQ y) := by unfold Nt.cmn; rw [if_pos hx0]
    have hs := Nt.rs_cmn x y
    have hs1 := h1.rs
    have hs2 := h2.rs
    refine ⟨r17, rfl, RatN.fit (K := M) ?_ (by omega)⟩
    rw [e9]
    exact (h18.ext e23)
  · replace hb15 : ((Nt.sgQ x) == 0) = false := hb15
    have hx0 : ¬ x = 0 := by have h9 := hb15; rw [Nt.sgQ_eq] at h9; simpa using h9
    refine sw_skip (mp_seq ?_)
    refine sw_seq ?_
    refine sw_reg ?_
    refine sy_ldv 17 (.v (r1.v)) ty26 part_agg ?_
    refine sy_ldv 18 (.v (r2.v)) ty26 part_agg ?_
    refine sy_call 19 99 [r1.v, r2.v] ?_
    intro w24 u24 e24 d24
    have k30 := k_ratDiv d24 (h1.ext (e11.trans (g13.ext.trans e24))).raw (h2.ext (e11.trans (g13.ext.trans e24))) (by omega) (by omega)
    with_reducible refine Post.mono k30 ?_
    clear k30
    rintro _ u28 g29 (⟨rfl, hz27⟩ | ⟨hz27, r25, rfl, h26⟩)
    · skip
      refine sy_pure 16 (.v (.tuple #[.agg #[.bool false, .slice none 0 0, .slice none 0 0], .int .i64 3])) ?_
      refine sy_pure 20 (.v (.agg #[.bool false, .slice none 0 0, .slice none 0 0])) ?_
      refine sy_pure 21 (.v (.int .i64 3)) ?_
      refine sy_new 5 ⟨26, [.bool false, .slice none 0 0, .slice none 0 0]⟩ ?_
      refine sy_store ⟨26, [.bool false, .slice none 0 0, .slice none 0 0]⟩ ty26 ?_
      refine sy_pure 6 (.v (.int .i64 3)) ?_
      refine sy_next 38 [(2, .adr 2 0), (4, .adr 4 0), (5, .adr 5 0), (6, .v (.int .i64 3))] [(2, ⟨26, r1.cs⟩), (4, ⟨26, [.bool false, .slice none 0 0, .slice none 0 0]⟩), (5, ⟨26, [.bool false, .slice none 0 0, .slice none 0 0]⟩)] ?_
      refine sw_seq ?_
      refine sw_seq ?_
      refine sw_reg ?_
      refine sy_pure 22 (.v (.int .i64 3)) ?_
      refine sy_pure 23 (.v (.bool true)) ?_
      refine sy_next 38 [(2, .adr 2 0), (4, .adr 4 0), (5, .adr 5 0), (23, .v (.bool true))] [(2, ⟨26, r1.cs⟩), (4, ⟨26, [.bool false, .slice none 0 0, .slice none 0 0]⟩), (5, ⟨26, [.bool false, .slice none 0 0, .slice none 0 0]⟩)] ?_
      refine sw_true (by kernel_rfl) ?_
      refine sw_seq ?_
      refine sw_reg ?_
      refine sy_ldv 24 (.v (r1.v)) ty26 part_agg ?_
      refine sy_store ⟨26, r1.cs⟩ ty26 ?_
      refine sy_next 38 [(4, .adr 4 0)] [(4, ⟨26, r1.cs⟩)] ?_
      refine sw_ret (mpr_seq (ret0 [r1.v] ⟨res_cell ty26 part_agg, trivial⟩ fun u31 e32 => ?_))
      have e9 : Nt.cmn x y = x := by unfold Nt.cmn; rw [if_neg hx0, if_pos hz27]
      have hs := Nt.rs_cmn x y
      have hs1 := h1.rs
      have hs2 := h2.rs
      refine ⟨r1, rfl, RatN.fit (K := K) ?_ (by omega)⟩
      rw [e9]
      exact (h1.ext (e11.trans (g13.ext.trans (e24.trans (g29.ext.trans e32)))))
    · skip
      refine sy_pure 16 (.v (.tuple #[r25.v, .int .i64 0])) ?_
      refine sy_pure 20 (.v (r25.v)) ?_
      refine sy_pure 21 (.v (.int .i64 0)) ?_
      refine sy_new 5 ⟨26, [.bool false, .slice none 0 0, .slice none 0 0]⟩ ?_
      refine sy_store ⟨26, r25.cs⟩ ty26 ?_
      refine sy_pure 6 (.v (.int .i64 0)) ?_
      refine sy_next 38 [(2, .adr 2 0), (4, .adr 4 0), (5, .adr 5 0), (6, .v (.int .i64 0))] [(2, ⟨26, r1.cs⟩), (4, ⟨26, [.bool false, .slice none 0 0, .slice none 0 0]⟩), (5, ⟨26, r25.cs⟩)] ?_
      refine sw_seq ?_
      refine sw_seq ?_
      refine sw_reg ?_
      refine sy_pure 22 (.v (.int .i64 0)) ?_
      refine sy_pure 23 (.v (.bool false)) ?_
      refine sy_next 38 [(2, .adr 2 0), (4, .adr 4 0), (5, .adr 5 0), (23, .v (.bool false))] [(2, ⟨26, r1.cs⟩), (4, ⟨26, [.bool false, .slice none 0 0, .slice none 0 0]⟩), (5, ⟨26, r25.cs⟩)] ?_
      refine sw_false (by kernel_rfl) ?_
      refine sw_skip (mp_seq ?_)
      refine sw_seq ?_
      refine sw_reg ?_
      refine sy_ldv 26 (.v (r25.v)) ty26 part_agg ?_
      refine sy_call 27 127 [r25.v] ?_
      intro w33 u33 e33 d33
      have k38 := k_poParts (r := r25) d33
      with_reducible refine Post.mono k38 ?_
      clear k38
      rintro _ u36 g37 ⟨y34, rfl, h35⟩
      refine sy_pure 25 (.v (.tuple #[.agg #[.bool r25.s, .slice r25.m.a r25.m.n r25.m.c, .slice y34.a y34.n y34.c], .agg #[.bool false, .slice r25.d.a r25.d.n r25.d.c, .slice y34.a y34.n y34.c]])) ?_
      refine sy_pure 28 (.v (.agg #[.bool r25.s, .slice r25.m.a r25.m.n r25.m.c, .slice y34.a y34.n y34.c])) ?_
      refine sy_pure 29 (.v (.agg #[.bool false, .slice r25.d.a r25.d.n r25.d.c, .slice y34.a y34.n y34.c])) ?_
      refine sy_new 7 ⟨26, [.bool false, .slice none 0 0, .slice none 0 0]⟩ ?_
      refine sy_new 8 ⟨26, [.bool false, .slice none 0 0, .slice none 0 0]⟩ ?_
      refine sy_store ⟨26, [.bool r25.s, .slice r25.m.a r25.m.n r25.m.c, .slice y34.a y34.n y34.c]⟩ ty26 ?_
      refine sy_store ⟨26, [.bool false, .slice r25.d.a r25.d.n r25.d.c, .slice y34.a y34.n y34.c]⟩ ty26 ?_
      refine sy_next 38 [(2, .adr 2 0), (4, .adr 4 0), (7, .adr 7 0)] [(2, ⟨26, r1.cs⟩), (4, ⟨26, [.bool false, .slice none 0 0, .slice none 0 0]⟩), (7, ⟨26, [.bool r25.s, .slice r25.m.a r25.m.n r25.m.c, .slice y34.a y34.n y34.c]⟩)] ?_
      refine sw_seq ?_
      refine sw_reg ?_
      refine sy_ldv 31 (.v (r1.v)) ty26 part_agg ?_
      refine sy_ldv 32 (.v (.agg #[.bool r25.s, .slice r25.m.a r25.m.n r25.m.c, .slice y34.a y34.n y34.c])) ty26 part_agg ?_
      refine sy_call 33 99 [r1.v, .agg #[.bool r25.s, .slice r25.m.a r25.m.n r25.m.c, .slice y34.a y34.n y34.c]] ?_
      intro w39 u39 e39 d39
      have k44 := k_ratDiv1 d39 (h1.ext (e11.trans (g13.ext.trans (e24.trans (g29.ext.trans (e33.trans (g37.ext.trans e39))))))).raw ((whole_rat (RatN.num (h26.ext (e33.trans g37.ext))) h35).ext e39).raw (Nt.num_ne (Nt.div_ne hx0 hz27)) (by omega) (by omega)
      with_reducible refine Post.mono k44 ?_
      clear k44
      rintro _ u42 g43 ⟨r40, rfl, h41⟩
      refine sy_pure 30 (.v (.tuple #[r40.v, .int .i64 0])) ?_
      refine sy_pure 34 (.v (r40.v)) ?_
      refine sy_pure 35 (.v (.int .i64 0)) ?_
      refine sy_new 9 ⟨26, [.bool false, .slice none 0 0, .slice none 0 0]⟩ ?_
      refine sy_store ⟨26, r40.cs⟩ ty26 ?_
      refine sy_pure 10 (.v (.int .i64 0)) ?_
      refine sy_next 38 [(4, .adr 4 0), (9, .adr 9 0)] [(4, ⟨26, [.bool false, .slice none 0 0, .slice none 0 0]⟩), (9, ⟨26, r40.cs⟩)] ?_
      refine sw_seq ?_
      refine sw_reg ?_
      refine sy_ldv 36 (.v (r40.v)) ty26 part_agg ?_
      refine sy_call 37 139 [r40.v] ?_
      intro w45 u45 e45 d45
      have k50 := k_ratAbs d45 (h41.ext e45).raw (by omega)
      with_reducible refine Post.mono k50 ?_
      clear k50
      rintro _ u48 g49 ⟨r46, rfl, h47⟩
      refine sy_store ⟨26, r46.cs⟩ ty26 ?_
      refine sy_next 38 [(4, .adr 4 0)] [(4, ⟨26, r46.cs⟩)] ?_
      refine sw_ret (ret0 [r46.v] ⟨res_cell ty26 part_agg, trivial⟩ fun u51 e52 => ?_)
      have e9 : Nt.cmn x y = (Nt.absQ (x / (((x / y).num : Int) : Rat))) := by unfold Nt.cmn; rw [if_neg hx0, if_neg hz27]
      have hs := Nt.rs_cmn x y
      have hs1 := h1.rs
      have hs2 := h2.rs
      refine ⟨r46, rfl, RatN.fit (K := (K + (max (K + M) 1))) ?_ (by omega)⟩
      rw [e9]
      exact (h47.ext e52)
set_option maxHeartbeats 1000000 in
theorem k_split {u w : World} {x : Sl} {l : List Rat} {K : Nat} (d : Dat u w) (hx : PolV u x l K) (hK : (l.length + 1) * K ≤ 30000000) (hx9 : l.length ≤ 1000000000) : Calls Tryz.prog 115 #[x.v] w (Post u w fun v u' => ∃ (r : RL) (y : Sl), v = .tuple #[r.v, y.v] ∧ RatN u' r (Nt.msr (Nt.trimQ l)) ((Nt.trimQ l).length * K + 2) ∧ PolN u' y ((Nt.trimQ l).map (· / Nt.msr (Nt.trimQ l))) (K + ((Nt.trimQ l).length * K + 2))) := by
  have hlen := hx.len
  have htl := Nt.trim_len l
  have hKK : (Nt.trimQ l).length * K ≤ l.length * K := Nat.mul_le_mul_right _ htl
  rw [Nat.add_mul] at hK
  refine calls_sym (args := [.slice x.a x.n x.c]) Tryz.func115 rfl Tryz.ntmps115 (rs := [.cell 2 26, .tmp 3]) Tryz.results115 (le_b rfl) (le_b rfl) d ?_
  refine sw_seq ?_
  refine sw_reg ?_
  refine sy_new 2 ⟨26, [.bool false, .slice none 0 0, .slice none 0 0]⟩ ?_
  refine sy_pure 3 (.v (.slice none 0 0)) ?_
  refine sy_next 45 [(0, .v (.slice x.a x.n x.c)), (2, .adr 2 0)] [(2, ⟨26, [.bool false, .slice none 0 0, .slice none 0 0]⟩)] ?_
  refine sw_seq ?_
  refine sw_reg ?_
  refine sy_pure 10 (.v (.slice x.a x.n x.c)) ?_
  refine sy_call 11 118 [.slice x.a x.n x.c] ?_
  intro w11 u11 e11 d11
  have k14 := k_cut d11 (hx.ext e11) (by omega) (by first | omega | (simp; omega) | (refine Nat.le_trans (Nt.trim_len _) ?_; first | omega | (simp; omega)) | (refine Nat.le_trans (Nt.trim_len _) ?_; simp only [List.length_map]; refine Nat.le_trans (Nt.trim_len _) ?_; first | omega | (simp; omega)))
  with_reducible refine Post.mono k14 ?_
  clear k14
  rintro _ u12 g13 rfl
  refine sy_pure 0 (.v (.slice x.a (Nt.trimQ l).length x.c)) ?_
  refine sy_next 45 [(0, .v (.slice x.a (Nt.trimQ l).length x.c)), (2, .adr 2 0)] [(2, ⟨26, [.bool false, .slice none 0 0, .slice none 0 0]⟩)] ?_
  refine sw_seq ?_
  refine sw_reg ?_
  refine sy_call 12 112 [.int .i64 0] ?_
  intro w15 u15 e15 d15
  have k20 := k_ratOf d15 (z := 0) (by omega) (by omega)
  with_reducible refine Post.mono k20 ?_
  clear k20
  rintro _ u18 g19 ⟨r16, rfl, h17⟩
  refine sy_new 4 ⟨26, [.bool false, .slice none 0 0, .slice none 0 0]⟩ ?_
  refine sy_store ⟨26, r16.cs⟩ ty26 ?_
  refine sy_next 45 [(0, .v (.slice x.a (Nt.trimQ l).length x.c)), (2, .adr 2 0), (4, .adr 4 0)] [(2, ⟨26, [.bool false, .slice none 0 0, .slice none 0 0]⟩), (4, ⟨26, r16.cs⟩)] ?_
  refine sw_seq ?_
  refine sw_seq ?_
  refine sw_reg ?_
  refine sy_pure 13 (.v (.slice x.a (Nt.trimQ l).length x.c)) ?_
  refine sy_pure 14 (.v (.int .i64 (((Nt.trimQ l).length : Nat) : Int))) ?_
  refine sy_pure 15 (.v (.int .i64 0)) ?_
  refine sy_next 45 [(0, .v (.slice x.a (Nt.trimQ l).length x.c)), (2, .adr 2 0), (4, .adr 4 0), (13, .v (.slice x.a (Nt.trimQ l).length x.c)), (14, .v (.int .i64 (((Nt.trimQ l).length : Nat) : Int))), (15, .v (.int .i64 0))] [(2, ⟨26, [.bool false, .slice none 0 0, .slice none 0 0]⟩), (4, ⟨26, r16.cs⟩)] ?_
  refine sw_block ?_
  refine sw_loop (I := fun m21 S' u' => ∃ (i : Nat) (r : RL), (m21 = (Nt.trimQ l).length - i) ∧ (i ≤ (Nt.trimQ l).length) ∧ (S' = St.of 45 [(0, .v (.slice x.a (Nt.trimQ l).length x.c)), (2, .adr 2 0), (4, .adr 4 0), (13, .v (.slice x.a (Nt.trimQ l).length x.c)), (14, .v (.int .i64 (((Nt.trimQ l).length : Nat) : Int))), (15, .v (.int .i64 (i : Int)))] [(2, ⟨26, [.bool false, .slice none 0 0, .slice none 0 0]⟩), (4, ⟨26, r.cs⟩)]) ∧ (Ext u18 u') ∧ (RatN u' r (Nt.msr ((Nt.trimQ l).take i)) (i * K + 2))) (fun m S u1 u2 e h => by obtain ⟨i, r, hm, p0, hS, hE, f0⟩ := h; exact ⟨i, r, hm, p0, hS, hE.trans e, f0.ext e⟩) _ (T := St.of 45 [(0, .v (.slice x.a (Nt.trimQ l).length x.c)), (2, .adr 2 0), (4, .adr 4 0), (13, .v (.slice x.a (Nt.trimQ l).length x.c)), (14, .v (.int .i64 (((Nt.trimQ l).length : Nat) : Int))), (15, .v (.int .i64 0))] [(2, ⟨26, [.bool false, .slice none 0 0, .slice none 0 0]⟩), (4, ⟨26, r16.cs⟩)]) (by exact weak_mk _ _ _) ⟨0, r16, rfl, by omega, rfl, Ext.refl _, (RatN.more (K := 2) h17 (by omega))⟩ ?_
  rintro m21 _ u21 ⟨i, r, hm21, hi, rfl, e21, hM⟩
  have hiK : i * K ≤ (Nt.trimQ l).length * K := Nat.mul_le_mul_right _ hi
  refine sw_seq ?_
  refine sw_reg ?_
  refine sy_pure 16 (.v (.bool (decide ((i : Int) < (((Nt.trimQ l).length : Nat) : Int))))) ?_
  refine sy_next 45 [(0, .v (.slice x.a (Nt.trimQ l).length x.c)), (2, .adr 2 0), (4, .adr 4 0), (13, .v (.slice x.a (Nt.trimQ l).length x.c)), (14, .v (.int .i64 (((Nt.trimQ l).length : Nat) : Int))), (15, .v (.int .i64 (i : Int))), (16, .v (.bool (decide ((i : Int) < (((Nt.trimQ l).length : Nat) : Int)))))] [(2, ⟨26, [.bool false, .slice none 0 0, .slice none 0 0]⟩), (4, ⟨26, r.cs⟩)] ?_
  refine sw_seq ?_
  refine sw_cond (b := decide ((i : Int) < (((Nt.trimQ l).length : Nat) : Int))) (by kernel_rfl) (fun hb22 => ?_) (fun hb22 => ?_)
  · replace hb22 : (decide ((i : Int) < (((Nt.trimQ l).length : Nat) : Int))) = true := hb22
    have qhb22 := of_decide_eq_true hb22
    refine sw_skip (mp_seq ?_)
    refine sw_seq ?_
    refine sw_block ?_
    refine sw_seq ?_
    refine sw_reg ?_
    have hl23 := ((cut_V (hx.ext (e11.trans g13.ext))).ext (e15.trans (g19.ext.trans e21))).len
    change (Nt.trimQ l).length = _ at hl23
    obtain ⟨r23, b23, o23, hA23, hc23, hr23⟩ := pol_at ((cut_V (hx.ext (e11.trans g13.ext))).ext (e15.trans (g19.ext.trans e21))) (i := i) (by omega)
    refine sy_index 17 (o23 + i * 3) (n := (Nt.trimQ l).length) (off := o23) (sz := 3) (i := (i : Int)) (by omega) hA23 (by omega) (by omega) sl41 ?_
    refine sy_ldn 18 r23.cs hc23 ty26 ?_
    refine sy_new 6 ⟨26, [.bool false, .slice none 0 0, .slice none 0 0]⟩ ?_
    refine sy_store ⟨26, r23.cs⟩ ty26 ?_
    refine sy_next 45 [(0, .v (.slice x.a (Nt.trimQ l).length x.c)), (2, .adr 2 0), (4, .adr 4 0), (6, .adr 6 0), (13, .v (.slice x.a (Nt.trimQ l).length x.c)), (14, .v (.int .i64 (((Nt.trimQ l).length : Nat) : Int))), (15, .v (.int .i64 (i : Int)))] [(2, ⟨26, [.bool false, .slice none 0 0, .slice none 0 0]⟩), (4, ⟨26, r.cs⟩), (6, ⟨26, r23.cs⟩)] ?_
    refine sw_reg ?_
    refine sy_ldv 19 (.v (r.v)) ty26 part_agg ?_
    refine sy_ldv 20 (.v (r23.v)) ty26 part_agg ?_
    refine sy_call 21 168 [r.v, r23.v] ?_
    intro w24 u24 e24 d24
    have k29 := k_common d24 (hM.ext e24) (hr23.ext e24) (by omega) (by omega)
    with_reducible refine Post.mono k29 ?_
    clear k29
    rintro _ u27 g28 ⟨r25, rfl, h26⟩
    refine sy_store ⟨26, r25.cs⟩ ty26 ?_
    refine sy_end ?_
    refine mp_seq ?_
    refine sw_reg ?_
    refine sy_eq 22 (x := .v (.int .i64 (IntKind.i64.wrap ((i : Int) + 1)))) (.v (.int .i64 ((i + 1 : Nat) : Int))) (eqI (by rw [IntWalk.i64_in _ (by omega)]; omega)) ?_
    refine sy_pure 15 (.v (.int .i64 ((i + 1 : Nat) : Int))) ?_
    refine sy_end ?_
    refine ⟨_, ?_, St.of 45 [(0, .v (.slice x.a (Nt.trimQ l).length x.c)), (2, .adr 2 0), (4, .adr 4 0), (13, .v (.slice x.a (Nt.trimQ l).length x.c)), (14, .v (.int .i64 (((Nt.trimQ l).length : Nat) : Int))), (15, .v (.int .i64 ((i + 1 : Nat) : Int)))] [(2, ⟨26, [.bool false, .slice none 0 0, .slice none 0 0]⟩), (4, ⟨26, r25.cs⟩)], by exact weak_mk _ _ _, i + 1, r25, rfl, by omega, rfl, (e21.trans (e24.trans g28.ext)), (RatN.more (K := ((i * K + 2) + K)) (by rw [Nt.msr_take (by omega)]; exact h26) (by rw [Nat.add_mul]; omega))⟩
    omega
  · replace hb22 : (decide ((i : Int) < (((Nt.trimQ l).length : Nat) : Int))) = false := hb22
    have qhb22 := of_decide_eq_false hb22
    refine sw_exit ?_
    refine mp_seq ?_
    refine sw_seq ?_
    have hi9 : i = (Nt.trimQ l).length := by omega
    have hms : RatN u21 r (Nt.msr (Nt.trimQ l)) ((Nt.trimQ l).length * K + 2) := by have h9 := hM; rw [hi9, List.take_length] at h9; exact h9
    clear hi9
    refine sw_reg ?_
    refine sy_pure 23 (.v (.slice x.a (Nt.trimQ l).length x.c)) ?_
    refine sy_pure 24 (.v (.int .i64 (((Nt.trimQ l).length : Nat) : Int))) ?_
    refine sy_make 25 (T := 41) (E := 26) (z := .agg #[.bool false, .slice none 0 0, .slice none 0 0]) (size := 3) (bytes := 56) ((Nt.trimQ l).length) (rcs (List.replicate ((Nt.trimQ l).length) rl0)) (by kernel_rfl) (by kernel_rfl) rfl rfl (by omega) (by unfold maxLen; omega) (made_rcs _) ?_
    refine sy_pure 7 (.slc 25 0 ((Nt.trimQ l).length) ((Nt.trimQ l).length)) ?_
    refine sy_next 45 [(0, .v (.slice x.a (Nt.trimQ l).length x.c)), (2, .adr 2 0), (4, .adr 4 0), (7, .slc 25 0 ((Nt.trimQ l).length) ((Nt.trimQ l).length))] [(2, ⟨26, [.bool false, .slice none 0 0, .slice none 0 0]⟩), (4, ⟨26, r.cs⟩), (25, ⟨26, rcs (List.replicate ((Nt.trimQ l).length) rl0)⟩)] ?_
    refine sw_seq ?_
    refine sw_seq ?_
    refine sw_reg ?_
    refine sy_pure 26 (.v (.slice x.a (Nt.trimQ l).length x.c)) ?_
    refine sy_pure 27 (.v (.int .i64 (((Nt.trimQ l).length : Nat) : Int))) ?_
    refine sy_pure 28 (.v (.int .i64 0)) ?_
    refine sy_next 45 [(2, .adr 2 0), (4, .adr 4 0), (7, .slc 25 0 ((Nt.trimQ l).length) ((Nt.trimQ l).length)), (26, .v (.slice x.a (Nt.trimQ l).length x.c)), (27, .v (.int .i64 (((Nt.trimQ l).length : Nat) : Int))), (28, .v (.int .i64 0))] [(2, ⟨26, [.bool false, .slice none 0 0, .slice none 0 0]⟩), (4, ⟨26, r.cs⟩), (25, ⟨26, rcs (List.replicate ((Nt.trimQ l).length) rl0)⟩)] ?_
    refine sw_block ?_
    refine sw_loop (I := fun m30 S' u' => ∃ (i2 : Nat) (L2 : List RL), (m30 = ((Nt.trimQ l).length) - i2) ∧ (i2 ≤ (Nt.trimQ l).length) ∧ (L2.length = (Nt.trimQ l).length) ∧ (S' = St.of 45 [(2, .adr 2 0), (4, .adr 4 0), (7, .slc 25 0 ((Nt.trimQ l).length) ((Nt.trimQ l).length)), (26, .v (.slice x.a (Nt.trimQ l).length x.c)), (27, .v (.int .i64 (((Nt.trimQ l).length : Nat) : Int))), (28, .v (.int .i64 (i2 : Int)))] [(2, ⟨26, [.bool false, .slice none 0 0, .slice none 0 0]⟩), (4, ⟨26, r.cs⟩), (25, ⟨26, rcs L2⟩)]) ∧ (Ext u21 u') ∧ (RatsN u' (L2.take i2) (((Nt.trimQ l).map (· / Nt.msr (Nt.trimQ l))).take i2) (K + ((Nt.trimQ l).length * K + 2)))) (fun m S u1 u2 e h => by obtain ⟨i2, L2, hm, p0, p1, hS, hE, f0⟩ := h; exact ⟨i2, L2, hm, p0, p1, hS, hE.trans e, f0.ext e⟩) _ (T := St.of 45 [(2, .adr 2 0), (4, .adr 4 0), (7, .slc 25 0 ((Nt.trimQ l).length) ((Nt.trimQ l).length)), (26, .v (.slice x.a (Nt.trimQ l).length x.c)), (27, .v (.int .i64 (((Nt.trimQ l).length : Nat) : Int))), (28, .v (.int .i64 0))] [(2, ⟨26, [.bool false, .slice none 0 0, .slice none 0 0]⟩), (4, ⟨26, r.cs⟩), (25, ⟨26, rcs (List.replicate ((Nt.trimQ l).length) rl0)⟩)]) (by exact weak_mk _ _ _) ⟨0, List.replicate ((Nt.trimQ l).length) rl0, rfl, by omega, by simp, rfl, Ext.refl _, RatsN.tnil _ _ _ _⟩ ?_
    rintro m30 _ u30 ⟨i2, L2, hm30, hi2, hL2, rfl, e30, hR2⟩
    refine sw_seq ?_
    refine sw_reg ?_
    refine sy_pure 29 (.v (.bool (decide ((i2 : Int) < (((Nt.trimQ l).length : Nat) : Int))))) ?_
    refine sy_next 45 [(2, .adr 2 0), (4, .adr 4 0), (7, .slc 25 0 ((Nt.trimQ l).length) ((Nt.trimQ l).length)), (26, .v (.slice x.a (Nt.trimQ l).length x.c)), (27, .v (.int .i64 (((Nt.trimQ l).length : Nat) : Int))), (28, .v (.int .i64 (i2 : Int))), (29, .v (.bool (decide ((i2 : Int) < (((Nt.trimQ l).length : Nat) : Int)))))] [(2, ⟨26, [.bool false, .slice none 0 0, .slice none 0 0]⟩), (4, ⟨26, r.cs⟩), (25, ⟨26, rcs L2⟩)] ?_
    refine sw_seq ?_
    refine sw_cond (b := decide ((i2 : Int) < (((Nt.trimQ l).length : Nat) : Int))) (by kernel_rfl) (fun hb31 => ?_) (fun hb31 => ?_)
    · replace hb31 : (decide ((i2 : Int) < (((Nt.trimQ l).length : Nat) : Int))) = true := hb31
      have qhb31 := of_decide_eq_true hb31
      refine sw_skip (mp_seq ?_)
      refine sw_seq ?_
      refine sw_block ?_
      refine sw_seq ?_
      refine sw_reg ?_
      refine sy_pure 30 (.v (.int .i64 (i2 : Int))) ?_
      have hl32 := ((cut_V (hx.ext (e11.trans g13.ext))).ext (e15.trans (g19.ext.trans (e21.trans e30)))).len
      change (Nt.trimQ l).length = _ at hl32
      obtain ⟨r32, b32, o32, hA32, hc32, hr32⟩ := pol_at ((cut_V (hx.ext (e11.trans g13.ext))).ext (e15.trans (g19.ext.trans (e21.trans e30)))) (i := i2) (by omega)
      refine sy_index 31 (o32 + i2 * 3) (n := (Nt.trimQ l).length) (off := o32) (sz := 3) (i := (i2 : Int)) (by omega) hA32 (by omega) (by omega) sl41 ?_
      refine sy_ldn 32 r32.cs hc32 ty26 ?_
      refine sy_new 9 ⟨26, [.bool false, .slice none 0 0, .slice none 0 0]⟩ ?_
      refine sy_pure 8 (.v (.int .i64 (i2 : Int))) ?_
      refine sy_store ⟨26, r32.cs⟩ ty26 ?_
      refine sy_next 45 [(2, .adr 2 0), (4, .adr 4 0), (7, .slc 25 0 ((Nt.trimQ l).length) ((Nt.trimQ l).length)), (8, .v (.int .i64 (i2 : Int))), (9, .adr 9 0), (26, .v (.slice x.a (Nt.trimQ l).length x.c)), (27, .v (.int .i64 (((Nt.trimQ l).length : Nat) : Int))), (28, .v (.int .i64 (i2 : Int)))] [(2, ⟨26, [.bool false, .slice none 0 0, .slice none 0 0]⟩), (4, ⟨26, r.cs⟩), (9, ⟨26, r32.cs⟩), (25, ⟨26, rcs L2⟩)] ?_
      refine sw_reg ?_
      refine sy_pure 34 (.slc 25 0 ((Nt.trimQ l).length) ((Nt.trimQ l).length)) ?_
      refine sy_pure 35 (.v (.int .i64 (i2 : Int))) ?_
      refine sy_ldv 36 (.v (r32.v)) ty26 part_agg ?_
      refine sy_ldv 37 (.v (r.v)) ty26 part_agg ?_
      refine sy_call 38 99 [r32.v, r.v] ?_
      intro w33 u33 e33 d33
      have k38 := k_ratDiv1 d33 (hr32.ext e33) (hms.ext (e30.trans e33)).raw (Nt.msr_ne (Nt.trim_nrm l) (by omega)) (by omega) (by omega)
      with_reducible refine Post.mono k38 ?_
      clear k38
      rintro _ u36 g37 ⟨r34, rfl, h35⟩
      refine sy_pure 33 (.v (.tuple #[r34.v, .int .i64 0])) ?_
      refine sy_pure 39 (.v (r34.v)) ?_
      refine sy_pure 40 (.v (.int .i64 0)) ?_
      refine sy_idxO 41 (off' := i2 * 3) (n := (Nt.trimQ l).length) (off := 0) (sz := 3) (i := (i2 : Int)) sl41 (by omega) (by omega) (by omega) ?_
      refine sy_storeO (V := ⟨26, rcs L2⟩) (off := i2 * 3) (rcs ((L2).set i2 r34)) ty26 (by rw [rcs_len]; first | omega | (simp; omega)) (setL_rcs (r := r34) (i := i2) (by first | omega | (simp; omega)) rfl) ?_
      refine sy_end ?_
      refine mp_seq ?_
      refine sw_reg ?_
      refine sy_eq 42 (x := .v (.int .i64 (IntKind.i64.wrap ((i2 : Int) + 1)))) (.v (.int .i64 ((i2 + 1 : Nat) : Int))) (eqI (by rw [IntWalk.i64_in _ (by omega)]; omega)) ?_
      refine sy_pure 28 (.v (.int .i64 ((i2 + 1 : Nat) : Int))) ?_
      refine sy_end ?_
      have ht39 : i2 < ((Nt.trimQ l).map (· / Nt.msr (Nt.trimQ l))).length := by simp; omega
      refine ⟨_, ?_, St.of 45 [(2, .adr 2 0), (4, .adr 4 0), (7, .slc 25 0 ((Nt.trimQ l).length) ((Nt.trimQ l).length)), (26, .v (.slice x.a (Nt.trimQ l).length x.c)), (27, .v (.int .i64 (((Nt.trimQ l).length : Nat) : Int))), (28, .v (.int .i64 ((i2 + 1 : Nat) : Int)))] [(2, ⟨26, [.bool false, .slice none 0 0, .slice none 0 0]⟩), (4, ⟨26, r.cs⟩), (25, ⟨26, rcs ((L2).set i2 r34)⟩)], by exact weak_mk _ _ _, i2 + 1, (L2).set i2 r34, rfl, by omega, by simpa using hL2, rfl, (e30.trans (e33.trans g37.ext)), RatsN.tstep (hR2.ext (e33.trans g37.ext)) (by omega) ht39 (RatN.more (K := (K + ((Nt.trimQ l).length * K + 2))) h35 (by omega)) (by simp [List.getElem?_eq_getElem (show i2 < (Nt.trimQ l).length by omega)])⟩
      omega
    · replace hb31 : (decide ((i2 : Int) < (((Nt.trimQ l).length : Nat) : Int))) = false := hb31
      have qhb31 := of_decide_eq_false hb31
      refine sw_exit ?_
      refine mp_seq ?_
      refine sw_seq ?_
      refine sw_pub (r := 7) (t := 25) [7, 25] (by repeat first | exact noAt_of | refine noAt_set ?_ | refine noAt_lit ?_ | refine noAt_new ?_ | refine noAt_setVar ?_ | refine noAt_unpub ?_) (by kernel_rfl) (by rfl) (by rfl) (by kernel_rfl) (fun b40 u41 e42 hb43 hh44 => ?_)
      have hp45 : PolN u41 ⟨some ⟨b40, 0, none⟩, (Nt.trimQ l).length, (Nt.trimQ l).length⟩ ((Nt.trimQ l).map (· / Nt.msr (Nt.trimQ l))) (K + ((Nt.trimQ l).length * K + 2)) := pol_data1 hh44 (by unfold maxLen; omega) (RatsN.tdone (hR2.ext e42) (by omega) (by simp; omega)) (by omega)
      refine sw_reg ?_
      refine sy_ldv 43 (.v (r.v)) ty26 part_agg ?_
      refine sy_pure 44 (.v (.slice (some ⟨b40, 0, none⟩) ((Nt.trimQ l).length) ((Nt.trimQ l).length))) ?_
      refine sy_store ⟨26, r.cs⟩ ty26 ?_
      refine sy_pure 3 (.v (.slice (some ⟨b40, 0, none⟩) ((Nt.trimQ l).length) ((Nt.trimQ l).length))) ?_
      refine sy_next 45 [(2, .adr 2 0), (3, .v (.slice (some ⟨b40, 0, none⟩) ((Nt.trimQ l).length) ((Nt.trimQ l).length)))] [(2, ⟨26, r.cs⟩)] ?_
      refine sw_ret (ret0 [r.v, .slice (some ⟨b40, 0, none⟩) ((Nt.trimQ l).length) ((Nt.trimQ l).length)] ⟨res_cell ty26 part_agg, res_tmp, trivial⟩ fun u46 e47 => ?_)
      exact ⟨r, (⟨some ⟨b40, 0, none⟩, (Nt.trimQ l).length, (Nt.trimQ l).length⟩ : Sl), rfl, (hms.ext (e30.trans (e42.trans e47))), (hp45.ext e47)⟩
end Go.Proofs.YtnedhbidmfoegaaGreat
namespace Go.Proofs.YtnedhbidmfoegaaGreat
open Go.RowKit
set_option linter.unusedVariables false
set_option maxHeartbeats 2000000 in
theorem k_r5Trim {u w : World} {x : Sl} {l : List Rat} {K : Nat} (d : Dat u w) (hx : PolV u x l K) (hK : K ≤ 50000000) (hx9 : l.length ≤ 1000000000) : Calls Tryz.prog 87 #[x.v] w (Post u w fun v u' => ∃ y : Sl, v = y.v ∧ PolN u' y (Nt.trimQ l) K) := by
  have hlen := hx.len
  have htl := Nt.trim_len l
  refine calls_sym (args := [.slice x.a x.n x.c]) Tryz.func87 rfl Tryz.ntmps87 (rs := [.tmp 2]) Tryz.results87 (le_b rfl) (le_b rfl) d ?_
  refine sw_seq ?_
  refine sw_reg ?_
  refine sy_pure 2 (.v (.slice none 0 0)) ?_
  refine sy_next 37 [(0, .v (.slice x.a x.n x.c))] [] ?_
  refine sw_seq ?_
  refine sw_reg ?_
  refine sy_pure 7 (.v (.slice x.a x.n x.c)) ?_
  refine sy_pure 8 (.v (.int .i64 (x.n : Int))) ?_
  refine sy_pure 3 (.v (.int .i64 (x.n : Int))) ?_
  refine sy_next 37 [(0, .v (.slice x.a x.n x.c)), (3, .v (.int .i64 (x.n : Int)))] [] ?_
  refine sw_seq ?_
  refine sw_block ?_
  refine sw_loop (I := fun m11 S' u' => ∃ (n : Nat), (m11 = n) ∧ (n ≤ l.length) ∧ (∀ i, n ≤ i → Nt.co l i = 0) ∧ (S' = St.of 37 [(0, .v (.slice x.a x.n x.c)), (3, .v (.int .i64 (n : Int)))] []) ∧ (Ext u u')) (fun m S u1 u2 e h => by obtain ⟨n, hm, p0, p1, hS, hE⟩ := h; exact ⟨n, hm, p0, p1, hS, hE.trans e⟩) _ (T := St.of 37 [(0, .v (.slice x.a x.n x.c)), (3, .v (.int .i64 (x.n : Int)))] []) (by exact weak_mk _ _ _) ⟨x.n, rfl, by omega, fun i hi => Nt.co_ge (by omega), rfl, Ext.refl _⟩ ?_
  rintro m11 _ u11 ⟨n, hm11, hn, hz, rfl, e11⟩
  refine sw_seq ?_
  refine sw_seq ?_
  refine sw_reg ?_
  refine sy_pure 9 (.v (.int .i64 (n : Int))) ?_
  refine sy_pure 10 (.v (.bool (decide ((0 : Int) < (n : Int))))) ?_
  rcases Bool.eq_false_or_eq_true (decide ((0 : Int) < (n : Int))) with hs12 | hs12
  · refine sy_eq 11 (x := .v (.bool (decide ((0 : Int) < (n : Int))))) (.v (.bool true)) (by rw [hs12]) ?_
    have qhs12 := of_decide_eq_true hs12
    refine sy_pure 12 (.v (.slice x.a x.n x.c)) ?_ (hw := w1 2 true 11)
    refine sy_pure 13 (.v (.int .i64 (n : Int))) ?_ (hw := w1 2 true 11)
    refine sy_eq 14 (x := .v (.int .i64 (IntKind.i64.wrap ((n : Int) - 1)))) (.v (.int .i64 ((n - 1 : Nat) : Int))) (eqI (by rw [IntWalk.i64_in _ (by omega)]; omega)) ?_ (hw := w1 2 true 11)
    have hl13 := (hx.ext e11).len
    obtain ⟨r13, b13, o13, hA13, hc13, hr13⟩ := pol_at (hx.ext e11) (i := n - 1) (by omega)
    refine sy_index 15 (o13 + (n - 1) * 3) (n := x.n) (off := o13) (sz := 3) (i := ((n - 1 : Nat) : Int)) (by omega) hA13 (by omega) (by omega) sl41 ?_ (hw := w1 2 true 11)
    refine sy_ldn 16 r13.cs hc13 ty26 ?_ (hw := w1 2 true 11)
    refine sy_call 17 43 [r13.v] ?_ (hw := w1 2 true 11)
    intro w14 u14 e14 d14
    have k17 := k_rqSign d14 (hr13.ext e14) (by omega)
    with_reducible refine Post.mono k17 ?_
    clear k17
    rintro _ u15 g16 rfl
    refine sy_pure 18 (.v (.bool ((Nt.sgQ (l.getD (n - 1) 0)) == 0))) ?_ (hw := w1 2 true 11)
    refine sy_pure 19 (.v (.bool ((Nt.sgQ (l.getD (n - 1) 0)) == 0))) ?_
    refine sy_next 37 [(0, .v (.slice x.a x.n x.c)), (3, .v (.int .i64 (n : Int))), (19, .v (.bool ((Nt.sgQ (l.getD (n - 1) 0)) == 0)))] [] ?_
    refine sw_cond (b := (Nt.sgQ (l.getD (n - 1) 0)) == 0) (by kernel_rfl) (fun hb18 => ?_) (fun hb18 => ?_)
    · replace hb18 : ((Nt.sgQ (l.getD (n - 1) 0)) == 0) = true := hb18
      refine sw_skip (mp_seq ?_)
      refine sw_block ?_
      refine sw_reg ?_
      refine sy_pure 20 (.v (.int .i64 (n : Int))) ?_
      refine sy_eq 21 (x := .v (.int .i64 (IntKind.i64.wrap ((n : Int) - 1)))) (.v (.int .i64 ((n - 1 : Nat) : Int))) (eqI (by rw [IntWalk.i64_in _ (by omega)]; omega)) ?_
      refine sy_pure 3 (.v (.int .i64 ((n - 1 : Nat) : Int))) ?_
      refine sy_end ?_
      refine ⟨_, ?_, St.of 37 [(0, .v (.slice x.a x.n x.c)), (3, .v (.int .i64 ((n - 1 : Nat) : Int)))] [], by exact weak_mk _ _ _, n - 1, rfl, by omega, (fun i hi => by by_cases e : i = n - 1; (rw [e]; have h9 := hb18; rw [Nt.sgQ_eq] at h9; exact of_decide_eq_true h9); exact hz i (by omega)), rfl, (e11.trans (e14.trans g16.ext))⟩
      omega
    · replace hb18 : ((Nt.sgQ (l.getD (n - 1) 0)) == 0) = false := hb18
      refine sw_exit ?_
      refine mp_seq ?_
      refine sw_seq ?_
      have he9 := Nt.trim_len_of (l := l) hn hz (fun _ h => by have h9 := hb18; rw [Nt.sgQ_eq] at h9; exact of_decide_eq_false h9 h)
      clear hz
      refine sw_reg ?_
      refine sy_pure 4 (.v (.slice none 0 0)) ?_
      refine sy_next 37 [(0, .v (.slice x.a x.n x.c)), (3, .v (.int .i64 (n : Int))), (4, .v (.slice none 0 0))] [] ?_
      refine sw_seq ?_
      refine sw_seq ?_
      refine sw_reg ?_
      refine sy_pure 22 (.v (.slice x.a x.n x.c)) ?_
      refine sy_pure 23 (.v (.int .i64 (n : Int))) ?_
      have hl19 := (hx.ext (e11.trans (e14.trans g16.ext))).len
      have hc19 := (hx.ext (e11.trans (e14.trans g16.ext))).cap
      refine sy_front 24 (n := x.n) (c := x.c) n sl41 rfl (by omega) ?_
      refine sy_pure 25 (.v (.int .i64 (n : Int))) ?_
      refine sy_pure 26 (.v (.int .i64 0)) ?_
      refine sy_next 37 [(4, .v (.slice none 0 0)), (24, .v (.slice x.a n x.c)), (25, .v (.int .i64 (n : Int))), (26, .v (.int .i64 0))] [] ?_
      refine sw_block ?_
      refine sw_loop (I := fun m20 S' u' => (m20 = n ∧ S' = St.of 37 [(4, .v (.slice none 0 0)), (24, .v (.slice x.a n x.c)), (25, .v (.int .i64 (n : Int))), (26, .v (.int .i64 0))] [] ∧ Ext u15 u') ∨ (∃ (i : Nat) (L : List RL) (cs : List Value) (cp : Nat), m20 = n - i ∧ i ≤ n ∧ 0 < i ∧ L.length = i ∧ cs.length = cp * 3 ∧ i ≤ cp ∧ cp ≤ maxLen ∧ cs.take (i * 3) = rcs L ∧ S' = St.of 37 [(4, .slc 34 0 i cp), (24, .v (.slice x.a n x.c)), (25, .v (.int .i64 (n : Int))), (26, .v (.int .i64 (i : Int)))] [(34, ⟨26, cs⟩)] ∧ Ext u15 u' ∧ RatsN u' L ((Nt.trimQ l).take i) K)) (fun m S u1 u2 e h => by rcases h with ⟨a, b, c⟩ | ⟨a1, a2, a3, a4, b1, b2, b3, b4, b5, b6, b7, b8, b9, b10, b11⟩; exact .inl ⟨a, b, c.trans e⟩; exact .inr ⟨a1, a2, a3, a4, b1, b2, b3, b4, b5, b6, b7, b8, b9, b10.trans e, b11.ext e⟩) _ (T := St.of 37 [(4, .v (.slice none 0 0)), (24, .v (.slice x.a n x.c)), (25, .v (.int .i64 (n : Int))), (26, .v (.int .i64 0))] []) (by exact weak_mk _ _ _) (.inl ⟨rfl, rfl, Ext.refl _⟩) ?_
      rintro m20 _ u20 (⟨hm20, rfl, e20⟩ | ⟨i, L, cs, cp, hm20, hi, hp, hL, hc, hle, hmx, ht, rfl, e20, hR⟩)
      · change SW _ _ _ _ (St.of 37 [(4, .v (.slice none 0 0)), (24, .v (.slice x.a n x.c)), (25, .v (.int .i64 (n : Int))), (26, .v (.int .i64 0))] []) _ _
        refine sw_seq ?_
        refine sw_reg ?_
        refine sy_pure 27 (.v (.bool (decide ((0 : Int) < (n : Int))))) ?_
        refine sy_next 37 [(4, .v (.slice none 0 0)), (24, .v (.slice x.a n x.c)), (25, .v (.int .i64 (n : Int))), (26, .v (.int .i64 0)), (27, .v (.bool (decide ((0 : Int) < (n : Int)))))] [] ?_
        refine sw_seq ?_
        refine sw_cond (b := decide ((0 : Int) < (n : Int))) (by kernel_rfl) (fun hb21 => ?_) (fun hb21 => ?_)
        · replace hb21 : (decide ((0 : Int) < (n : Int))) = true := hb21
          have qhb21 := of_decide_eq_true hb21
          refine sw_skip (mp_seq ?_)
          refine sw_seq ?_
          refine sw_block ?_
          refine sw_seq ?_
          refine sw_reg ?_
          have hl22 := ((pol_take (hx.ext (e11.trans (e14.trans g16.ext))) (by omega)).ext e20).len
          change n = _ at hl22
          obtain ⟨r22, b22, o22, hA22, hc22, hr22⟩ := pol_at ((pol_take (hx.ext (e11.trans (e14.trans g16.ext))) (by omega)).ext e20) (i := 0) (by omega)
          refine sy_index 28 (o22 + 0 * 3) (n := n) (off := o22) (sz := 3) (i := 0) (by omega) hA22 (by omega) (by omega) sl41 ?_
          refine sy_ldn 29 r22.cs hc22 ty26 ?_
          refine sy_new 6 ⟨26, [.bool false, .slice none 0 0, .slice none 0 0]⟩ ?_
          refine sy_store ⟨26, r22.cs⟩ ty26 ?_
          refine sy_next 37 [(4, .v (.slice none 0 0)), (6, .adr 6 0), (24, .v (.slice x.a n x.c)), (25, .v (.int .i64 (n : Int))), (26, .v (.int .i64 0))] [(6, ⟨26, r22.cs⟩)] ?_
          refine sw_reg ?_
          refine sy_pure 30 (.v (.slice none 0 0)) ?_
          refine sy_ldv 31 (.v (r22.v)) ty26 part_agg ?_
          refine sy_call 32 142 [r22.v] ?_
          intro w23 u23 e23 d23
          have k28 := k_rqTrim d23 (hr22.ext e23) (by omega)
          with_reducible refine Post.mono k28 ?_
          clear k28
          rintro _ u26 g27 ⟨r24, rfl, h25⟩
          refine sy_data 33 ⟨26, r24.cs⟩ 1 (fun b29 u30 e31 h32 => ?_)
          have hp33 : PolN u30 (⟨some ⟨b29, 0, none⟩, 1, 1⟩ : Sl) [((l.take n).getD 0 0)] K := pol_lit (L := [r24]) h32 (rats1 (h25.ext e31)) rfl (by decide)
          refine sy_app0 34 (T := 41) (E := 26) (z := .agg #[.bool false, .slice none 0 0, .slice none 0 0]) (size := 3) (bytes := 56) (b := b29) (off := 0) (m := 1) r24.cs (by kernel_rfl) (by kernel_rfl) (by kernel_rfl) (by decide) rfl (lit_news ((Ext.refl _).cells h32)) (rl_one r24) (by decide) (by decide) (by decide) ?_
          intro c34 cs34 ha34 hb34 hc34 hd34
          refine sy_pure 4 (.slc 34 0 1 c34) ?_
          refine sy_end ?_
          refine mp_seq ?_
          refine sw_reg ?_
          refine sy_pure 35 (.v (.int .i64 1)) ?_
          refine sy_pure 26 (.v (.int .i64 1)) ?_
          refine sy_end ?_
          have ht35 : 0 < (Nt.trimQ l).length := by skip; omega
          refine ⟨_, ?_, St.of 37 [(4, .slc 34 0 1 c34), (24, .v (.slice x.a n x.c)), (25, .v (.int .i64 (n : Int))), (26, .v (.int .i64 1))] [(34, ⟨26, cs34⟩)], by exact weak_mk _ _ _, .inr ⟨1, [r24], cs34, c34, rfl, by omega, by omega, by simp, hc34, by omega, hb34, hd34, rfl, (e20.trans (e23.trans (g27.ext.trans e31))), (app_first (RatN.more (K := K) (h25.ext e31) (by omega)) ht35 (by rw [List.getD_eq_getElem?_getD, List.getElem?_take_of_lt (by omega), ← List.getD_eq_getElem?_getD]; exact (Nt.trim_co l 0).symm))⟩⟩
          omega
        · replace hb21 : (decide ((0 : Int) < (n : Int))) = false := hb21
          have qhb21 := of_decide_eq_false hb21
          refine sw_exit ?_
          refine mp_seq ?_
          refine sw_seq ?_
          have hp36 : PolN u20 ⟨none, 0, 0⟩ (Nt.trimQ l) K := by have h9 : Nt.trimQ l = [] := List.eq_nil_of_length_eq_zero (by skip; omega); rw [h9]; exact pol_nil _ _
          refine sw_reg ?_
          refine sy_pure 36 (.v (.slice none 0 0)) ?_
          refine sy_pure 2 (.v (.slice none 0 0)) ?_
          refine sy_next 37 [(2, .v (.slice none 0 0))] [] ?_
          refine sw_ret (ret0 [.slice none 0 0] ⟨res_tmp, trivial⟩ fun u37 e38 => ?_)
          refine ⟨⟨none, 0, 0⟩, rfl, ?_⟩
          exact (hp36.ext e38)
      · change SW _ _ _ _ (St.of 37 [(4, .slc 34 0 i cp), (24, .v (.slice x.a n x.c)), (25, .v (.int .i64 (n : Int))), (26, .v (.int .i64 (i : Int)))] [(34, ⟨26, cs⟩)]) _ _
        refine sw_seq ?_
        refine sw_reg ?_
        refine sy_pure 27 (.v (.bool (decide ((i : Int) < (n : Int))))) ?_
        refine sy_next 37 [(4, .slc 34 0 i cp), (24, .v (.slice x.a n x.c)), (25, .v (.int .i64 (n : Int))), (26, .v (.int .i64 (i : Int))), (27, .v (.bool (decide ((i : Int) < (n : Int)))))] [(34, ⟨26, cs⟩)] ?_
        refine sw_seq ?_
        refine sw_cond (b := decide ((i : Int) < (n : Int))) (by kernel_rfl) (fun hb39 => ?_) (fun hb39 => ?_)
        · replace hb39 : (decide ((i : Int) < (n : Int))) = true := hb39
          have qhb39 := of_decide_eq_true hb39
          refine sw_skip (mp_seq ?_)
          refine sw_seq ?_
          refine sw_block ?_
          refine sw_seq ?_
          refine sw_reg ?_
          have hl40 := ((pol_take (hx.ext (e11.trans (e14.trans g16.ext))) (by omega)).ext e20).len
          change n = _ at hl40
          obtain ⟨r40, b40, o40, hA40, hc40, hr40⟩ := pol_at ((pol_take (hx.ext (e11.trans (e14.trans g16.ext))) (by omega)).ext e20) (i := i) (by omega)
          refine sy_index 28 (o40 + i * 3) (n := n) (off := o40) (sz := 3) (i := (i : Int)) (by omega) hA40 (by omega) (by omega) sl41 ?_
          refine sy_ldn 29 r40.cs hc40 ty26 ?_
          refine sy_new 6 ⟨26, [.bool false, .slice none 0 0, .slice none 0 0]⟩ ?_
          refine sy_store ⟨26, r40.cs⟩ ty26 ?_
          refine sy_next 37 [(4, .slc 34 0 i cp), (6, .adr 6 0), (24, .v (.slice x.a n x.c)), (25, .v (.int .i64 (n : Int))), (26, .v (.int .i64 (i : Int)))] [(6, ⟨26, r40.cs⟩), (34, ⟨26, cs⟩)] ?_
          refine sw_reg ?_
          refine sy_pure 30 (.slc 34 0 i cp) ?_
          refine sy_ldv 31 (.v (r40.v)) ty26 part_agg ?_
          refine sy_call 32 142 [r40.v] ?_
          intro w41 u41 e41 d41
          have k46 := k_rqTrim d41 (hr40.ext e41) (by omega)
          with_reducible refine Post.mono k46 ?_
          clear k46
          rintro _ u44 g45 ⟨r42, rfl, h43⟩
          refine sy_data 33 ⟨26, r42.cs⟩ 1 (fun b47 u48 e49 h50 => ?_)
          have hp51 : PolN u48 (⟨some ⟨b47, 0, none⟩, 1, 1⟩ : Sl) [((l.take n).getD i 0)] K := pol_lit (L := [r42]) h50 (rats1 (h43.ext e49)) rfl (by decide)
          refine sy_app1 34 (T := 41) (E := 26) (z := .agg #[.bool false, .slice none 0 0, .slice none 0 0]) (size := 3) (bytes := 56) (b := b47) (off := 0) (m := 1) (n := i) (cap := cp) (t := 34) (cs0 := cs) [4, 30, 34] r42.cs (by kernel_rfl) (by kernel_rfl) (by kernel_rfl) (by decide) rfl (lit_news ((Ext.refl _).cells h50)) (rl_one r42) (by decide) (by unfold maxLen; omega) (by omega) (by omega) (by omega) (by omega) (by repeat first | exact noAt_of | refine noAt_set ?_ | refine noAt_lit ?_ | refine noAt_new ?_ | refine noAt_setVar ?_ | refine noAt_unpub ?_) ?_
          intro c52 cs52 ha52 hb52 hc52 hd52
          have hd52r : cs52.take ((i + 1) * 3) = rcs (L ++ [r42]) := by rw [hd52, ht, rcs_app]; rfl
          refine sy_pure 4 (.slc 34 0 (i + 1) c52) ?_
          refine sy_end ?_
          refine mp_seq ?_
          refine sw_reg ?_
          refine sy_eq 35 (x := .v (.int .i64 (IntKind.i64.wrap ((i : Int) + 1)))) (.v (.int .i64 ((i + 1 : Nat) : Int))) (eqI (by rw [IntWalk.i64_in _ (by omega)]; omega)) ?_
          refine sy_pure 26 (.v (.int .i64 ((i + 1 : Nat) : Int))) ?_
          refine sy_end ?_
          have ht53 : i < (Nt.trimQ l).length := by skip; omega
          refine ⟨_, ?_, St.of 37 [(4, .slc 34 0 (i + 1) c52), (24, .v (.slice x.a n x.c)), (25, .v (.int .i64 (n : Int))), (26, .v (.int .i64 ((i + 1 : Nat) : Int)))] [(34, ⟨26, cs52⟩)], by exact weak_mk _ _ _, .inr ⟨i + 1, L ++ [r42], cs52, c52, rfl, by omega, by omega, by simp; omega, hc52, by omega, hb52, hd52r, rfl, (e20.trans (e41.trans (g45.ext.trans e49))), (app_next (hR.ext (e41.trans (g45.ext.trans e49))) (RatN.more (K := K) (h43.ext e49) (by omega)) ht53 (by rw [List.getD_eq_getElem?_getD, List.getElem?_take_of_lt (by omega), ← List.getD_eq_getElem?_getD]; exact (Nt.trim_co l i).symm))⟩⟩
          omega
        · replace hb39 : (decide ((i : Int) < (n : Int))) = false := hb39
          have qhb39 := of_decide_eq_false hb39
          refine sw_exit ?_
          refine mp_seq ?_
          refine sw_seq ?_
          refine sw_pub (r := 4) (t := 34) [4, 34] (by repeat first | exact noAt_of | refine noAt_set ?_ | refine noAt_lit ?_ | refine noAt_new ?_ | refine noAt_setVar ?_ | refine noAt_unpub ?_) (by kernel_rfl) (by rfl) (by rfl) (by kernel_rfl) (fun b55 u56 e57 hb58 hh59 => ?_)
          have hp54 : PolN u56 ⟨some ⟨b55, 0, none⟩, i, cp⟩ (Nt.trimQ l) K := by have h8 := pol_data hh59 ht hc hle hmx (hR.ext e57); rw [List.take_of_length_le (l := Nt.trimQ l) (by skip; omega)] at h8; exact h8
          refine sw_reg ?_
          refine sy_pure 36 (.v (.slice (some ⟨b55, 0, none⟩) i cp)) ?_
          refine sy_pure 2 (.v (.slice (some ⟨b55, 0, none⟩) i cp)) ?_
          refine sy_next 37 [(2, .v (.slice (some ⟨b55, 0, none⟩) i cp))] [] ?_
          refine sw_ret (ret0 [.slice (some ⟨b55, 0, none⟩) i cp] ⟨res_tmp, trivial⟩ fun u60 e61 => ?_)
          refine ⟨(⟨some ⟨b55, 0, none⟩, i, cp⟩ : Sl), rfl, ?_⟩
          exact (hp54.ext e61)
  · refine sy_eq 11 (x := .v (.bool (decide ((0 : Int) < (n : Int))))) (.v (.bool false)) (by rw [hs12]) ?_
    have qhs12 := of_decide_eq_false hs12
    refine sy_drop 12 (uw 2 true false 11) ?_
    refine sy_drop 13 (uw 2 true false 11) ?_
    refine sy_drop 14 (uw 2 true false 11) ?_
    refine sy_drop 15 (uw 2 true false 11) ?_
    refine sy_drop 16 (uw 2 true false 11) ?_
    refine sy_drop 17 (uw 2 true false 11) ?_
    refine sy_drop 18 (uw 2 true false 11) ?_
    refine sy_pure 19 (.v (.bool false)) ?_
    refine sy_next 37 [(0, .v (.slice x.a x.n x.c)), (3, .v (.int .i64 (n : Int))), (19, .v (.bool false))] [] ?_
    refine sw_false (by kernel_rfl) ?_
    refine sw_exit ?_
    refine mp_seq ?_
    refine sw_seq ?_
    have he9 := Nt.trim_len_of (l := l) hn hz (fun h => absurd h (by omega))
    clear hz
    refine sw_reg ?_
    refine sy_pure 4 (.v (.slice none 0 0)) ?_
    refine sy_next 37 [(0, .v (.slice x.a x.n x.c)), (3, .v (.int .i64 (n : Int))), (4, .v (.slice none 0 0))] [] ?_
    refine sw_seq ?_
    refine sw_seq ?_
    refine sw_reg ?_
    refine sy_pure 22 (.v (.slice x.a x.n x.c)) ?_
    refine sy_pure 23 (.v (.int .i64 (n : Int))) ?_
    have hl62 := (hx.ext e11).len
    have hc62 := (hx.ext e11).cap
    refine sy_front 24 (n := x.n) (c := x.c) n sl41 rfl (by omega) ?_
    refine sy_pure 25 (.v (.int .i64 (n : Int))) ?_
    refine sy_pure 26 (.v (.int .i64 0)) ?_
    refine sy_next 37 [(4, .v (.slice none 0 0)), (24, .v (.slice x.a n x.c)), (25, .v (.int .i64 (n : Int))), (26, .v (.int .i64 0))] [] ?_
    refine sw_block ?_
    refine sw_loop (I := fun m63 S' u' => (m63 = n ∧ S' = St.of 37 [(4, .v (.slice none 0 0)), (24, .v (.slice x.a n x.c)), (25, .v (.int .i64 (n : Int))), (26, .v (.int .i64 0))] [] ∧ Ext u11 u') ∨ (∃ (i : Nat) (L : List RL) (cs : List Value) (cp : Nat), m63 = n - i ∧ i ≤ n ∧ 0 < i ∧ L.length = i ∧ cs.length = cp * 3 ∧ i ≤ cp ∧ cp ≤ maxLen ∧ cs.take (i * 3) = rcs L ∧ S' = St.of 37 [(4, .slc 34 0 i cp), (24, .v (.slice x.a n x.c)), (25, .v (.int .i64 (n : Int))), (26, .v (.int .i64 (i : Int)))] [(34, ⟨26, cs⟩)] ∧ Ext u11 u' ∧ RatsN u' L ((Nt.trimQ l).take i) K)) (fun m S u1 u2 e h => by rcases h with ⟨a, b, c⟩ | ⟨a1, a2, a3, a4, b1, b2, b3, b4, b5, b6, b7, b8, b9, b10, b11⟩; exact .inl ⟨a, b, c.trans e⟩; exact .inr ⟨a1, a2, a3, a4, b1, b2, b3, b4, b5, b6, b7, b8, b9, b10.trans e, b11.ext e⟩) _ (T := St.of 37 [(4, .v (.slice none 0 0)), (24, .v (.slice x.a n x.c)), (25, .v (.int .i64 (n : Int))), (26, .v (.int .i64 0))] []) (by exact weak_mk _ _ _) (.inl ⟨rfl, rfl, Ext.refl _⟩) ?_
    rintro m63 _ u63 (⟨hm63, rfl, e63⟩ | ⟨i, L, cs, cp, hm63, hi, hp, hL, hc, hle, hmx, ht, rfl, e63, hR⟩)
    · change SW _ _ _ _ (St.of 37 [(4, .v (.slice none 0 0)), (24, .v (.slice x.a n x.c)), (25, .v (.int .i64 (n : Int))), (26, .v (.int .i64 0))] []) _ _
      refine sw_seq ?_
      refine sw_reg ?_
      refine sy_pure 27 (.v (.bool (decide ((0 : Int) < (n : Int))))) ?_
      refine sy_next 37 [(4, .v (.slice none 0 0)), (24, .v (.slice x.a n x.c)), (25, .v (.int .i64 (n : Int))), (26, .v (.int .i64 0)), (27, .v (.bool (decide ((0 : Int) < (n : Int)))))] [] ?_
      refine sw_seq ?_
      refine sw_cond (b := decide ((0 : Int) < (n : Int))) (by kernel_rfl) (fun hb64 => ?_) (fun hb64 => ?_)
      · replace hb64 : (decide ((0 : Int) < (n : Int))) = true := hb64
        have qhb64 := of_decide_eq_true hb64
        refine sw_skip (mp_seq ?_)
        refine sw_seq ?_
        refine sw_block ?_
        refine sw_seq ?_
        refine sw_reg ?_
        have hl65 := ((pol_take (hx.ext e11) (by omega)).ext e63).len
        change n = _ at hl65
        obtain ⟨r65, b65, o65, hA65, hc65, hr65⟩ := pol_at ((pol_take (hx.ext e11) (by omega)).ext e63) (i := 0) (by omega)
        refine sy_index 28 (o65 + 0 * 3) (n := n) (off := o65) (sz := 3) (i := 0) (by omega) hA65 (by omega) (by omega) sl41 ?_
        refine sy_ldn 29 r65.cs hc65 ty26 ?_
        refine sy_new 6 ⟨26, [.bool false, .slice none 0 0, .slice none 0 0]⟩ ?_
        refine sy_store ⟨26, r65.cs⟩ ty26 ?_
        refine sy_next 37 [(4, .v (.slice none 0 0)), (6, .adr 6 0), (24, .v (.slice x.a n x.c)), (25, .v (.int .i64 (n : Int))), (26, .v (.int .i64 0))] [(6, ⟨26, r65.cs⟩)] ?_
        refine sw_reg ?_
        refine sy_pure 30 (.v (.slice none 0 0)) ?_
        refine sy_ldv 31 (.v (r65.v)) ty26 part_agg ?_
        refine sy_call 32 142 [r65.v] ?_
        intro w66 u66 e66 d66
        have k71 := k_rqTrim d66 (hr65.ext e66) (by omega)
        with_reducible refine Post.mono k71 ?_
        clear k71
        rintro _ u69 g70 ⟨r67, rfl, h68⟩
        refine sy_data 33 ⟨26, r67.cs⟩ 1 (fun b72 u73 e74 h75 => ?_)
        have hp76 : PolN u73 (⟨some ⟨b72, 0, none⟩, 1, 1⟩ : Sl) [((l.take n).getD 0 0)] K := pol_lit (L := [r67]) h75 (rats1 (h68.ext e74)) rfl (by decide)
        refine sy_app0 34 (T := 41) (E := 26) (z := .agg #[.bool false, .slice none 0 0, .slice none 0 0]) (size := 3) (bytes := 56) (b := b72) (off := 0) (m := 1) r67.cs (by kernel_rfl) (by kernel_rfl) (by kernel_rfl) (by decide) rfl (lit_news ((Ext.refl _).cells h75)) (rl_one r67) (by decide) (by decide) (by decide) ?_
        intro c77 cs77 ha77 hb77 hc77 hd77
        refine sy_pure 4 (.slc 34 0 1 c77) ?_
        refine sy_end ?_
        refine mp_seq ?_
        refine sw_reg ?_
        refine sy_pure 35 (.v (.int .i64 1)) ?_
        refine sy_pure 26 (.v (.int .i64 1)) ?_
        refine sy_end ?_
        have ht78 : 0 < (Nt.trimQ l).length := by skip; omega
        refine ⟨_, ?_, St.of 37 [(4, .slc 34 0 1 c77), (24, .v (.slice x.a n x.c)), (25, .v (.int .i64 (n : Int))), (26, .v (.int .i64 1))] [(34, ⟨26, cs77⟩)], by exact weak_mk _ _ _, .inr ⟨1, [r67], cs77, c77, rfl, by omega, by omega, by simp, hc77, by omega, hb77, hd77, rfl, (e63.trans (e66.trans (g70.ext.trans e74))), (app_first (RatN.more (K := K) (h68.ext e74) (by omega)) ht78 (by rw [List.getD_eq_getElem?_getD, List.getElem?_take_of_lt (by omega), ← List.getD_eq_getElem?_getD]; exact (Nt.trim_co l 0).symm))⟩⟩
        omega
      · replace hb64 : (decide ((0 : Int) < (n : Int))) = false := hb64
        have qhb64 := of_decide_eq_false hb64
        refine sw_exit ?_
        refine mp_seq ?_
        refine sw_seq ?_
        have hp79 : PolN u63 ⟨none, 0, 0⟩ (Nt.trimQ l) K := by have h9 : Nt.trimQ l = [] := List.eq_nil_of_length_eq_zero (by skip; omega); rw [h9]; exact pol_nil _ _
        refine sw_reg ?_
        refine sy_pure 36 (.v (.slice none 0 0)) ?_
        refine sy_pure 2 (.v (.slice none 0 0)) ?_
        refine sy_next 37 [(2, .v (.slice none 0 0))] [] ?_
        refine sw_ret (ret0 [.slice none 0 0] ⟨res_tmp, trivial⟩ fun u80 e81 => ?_)
        refine ⟨⟨none, 0, 0⟩, rfl, ?_⟩
        exact (hp79.ext e81)
    · change SW _ _ _ _ (St.of 37 [(4, .slc 34 0 i cp), (24, .v (.slice x.a n x.c)), (25, .v (.int .i64 (n : Int))), (26, .v (.int .i64 (i : Int)))] [(34, ⟨26, cs⟩)]) _ _
      refine sw_seq ?_
      refine sw_reg ?_
      refine sy_pure 27 (.v (.bool (decide ((i : Int) < (n : Int))))) ?_
      refine sy_next 37 [(4, .slc 34 0 i cp), (24, .v (.slice x.a n x.c)), (25, .v (.int .i64 (n : Int))), (26, .v (.int .i64 (i : Int))), (27, .v (.bool (decide ((i : Int) < (n : Int)))))] [(34, ⟨26, cs⟩)] ?_
      refine sw_seq ?_
      refine sw_cond (b := decide ((i : Int) < (n : Int))) (by kernel_rfl) (fun hb82 => ?_) (fun hb82 => ?_)
      · replace hb82 : (decide ((i : Int) < (n : Int))) = true := hb82
        have qhb82 := of_decide_eq_true hb82
        refine sw_skip (mp_seq ?_)
        refine sw_seq ?_
        refine sw_block ?_
        refine sw_seq ?_
        refine sw_reg ?_
        have hl83 := ((pol_take (hx.ext e11) (by omega)).ext e63).len
        change n = _ at hl83
        obtain ⟨r83, b83, o83, hA83, hc83, hr83⟩ := pol_at ((pol_take (hx.ext e11) (by omega)).ext e63) (i := i) (by omega)
        refine sy_index 28 (o83 + i * 3) (n := n) (off := o83) (sz := 3) (i := (i : Int)) (by omega) hA83 (by omega) (by omega) sl41 ?_
        refine sy_ldn 29 r83.cs hc83 ty26 ?_
        refine sy_new 6 ⟨26, [.bool false, .slice none 0 0, .slice none 0 0]⟩ ?_
        refine sy_store ⟨26, r83.cs⟩ ty26 ?_
        refine sy_next 37 [(4, .slc 34 0 i cp), (6, .adr 6 0), (24, .v (.slice x.a n x.c)), (25, .v (.int .i64 (n : Int))), (26, .v (.int .i64 (i : Int)))] [(6, ⟨26, r83.cs⟩), (34, ⟨26, cs⟩)] ?_
        refine sw_reg ?_
        refine sy_pure 30 (.slc 34 0 i cp) ?_
        refine sy_ldv 31 (.v (r83.v)) ty26 part_agg ?_
        refine sy_call 32 142 [r83.v] ?_
        intro w84 u84 e84 d84
        have k89 := k_rqTrim d84 (hr83.ext e84) (by omega)
        with_reducible refine Post.mono k89 ?_
        clear k89
        rintro _ u87 g88 ⟨r85, rfl, h86⟩
        refine sy_data 33 ⟨26, r85.cs⟩ 1 (fun b90 u91 e92 h93 => ?_)
        have hp94 : PolN u91 (⟨some ⟨b90, 0, none⟩, 1, 1⟩ : Sl) [((l.take n).getD i 0)] K := pol_lit (L := [r85]) h93 (rats1 (h86.ext e92)) rfl (by decide)
        refine sy_app1 34 (T := 41) (E := 26) (z := .agg #[.bool false, .slice none 0 0, .slice none 0 0]) (size := 3) (bytes := 56) (b := b90) (off := 0) (m := 1) (n := i) (cap := cp) (t := 34) (cs0 := cs) [4, 30, 34] r85.cs (by kernel_rfl) (by kernel_rfl) (by kernel_rfl) (by decide) rfl (lit_news ((Ext.refl _).cells h93)) (rl_one r85) (by decide) (by unfold maxLen; omega) (by omega) (by omega) (by omega) (by omega) (by repeat first | exact noAt_of | refine noAt_set ?_ | refine noAt_lit ?_ | refine noAt_new ?_ | refine noAt_setVar ?_ | refine noAt_unpub ?_) ?_
        intro c95 cs95 ha95 hb95 hc95 hd95
        have hd95r : cs95.take ((i + 1) * 3) = rcs (L ++ [r85]) := by rw [hd95, ht, rcs_app]; rfl
        refine sy_pure 4 (.slc 34 0 (i + 1) c95) ?_
        refine sy_end ?_
        refine mp_seq ?_
        refine sw_reg ?_
        refine sy_eq 35 (x := .v (.int .i64 (IntKind.i64.wrap ((i : Int) + 1)))) (.v (.int .i64 ((i + 1 : Nat) : Int))) (eqI (by rw [IntWalk.i64_in _ (by omega)]; omega)) ?_
        refine sy_pure 26 (.v (.int .i64 ((i + 1 : Nat) : Int))) ?_
        refine sy_end ?_
        have ht96 : i < (Nt.trimQ l).length := by skip; omega
        refine ⟨_, ?_, St.of 37 [(4, .slc 34 0 (i + 1) c95), (24, .v (.slice x.a n x.c)), (25, .v (.int .i64 (n : Int))), (26, .v (.int .i64 ((i + 1 : Nat) : Int)))] [(34, ⟨26, cs95⟩)], by exact weak_mk _ _ _, .inr ⟨i + 1, L ++ [r85], cs95, c95, rfl, by omega, by omega, by simp; omega, hc95, by omega, hb95, hd95r, rfl, (e63.trans (e84.trans (g88.ext.trans e92))), (app_next (hR.ext (e84.trans (g88.ext.trans e92))) (RatN.more (K := K) (h86.ext e92) (by omega)) ht96 (by rw [List.getD_eq_getElem?_getD, List.getElem?_take_of_lt (by omega), ← List.getD_eq_getElem?_getD]; exact (Nt.trim_co l i).symm))⟩⟩
        omega
      · replace hb82 : (decide ((i : Int) < (n : Int))) = false := hb82
        have qhb82 := of_decide_eq_false hb82
        refine sw_exit ?_
        refine mp_seq ?_
        refine sw_seq ?_
        refine sw_pub (r := 4) (t := 34) [4, 34] (by repeat first | exact noAt_of | refine noAt_set ?_ | refine noAt_lit ?_ | refine noAt_new ?_ | refine noAt_setVar ?_ | refine noAt_unpub ?_) (by kernel_rfl) (by rfl) (by rfl) (by kernel_rfl) (fun b98 u99 e100 hb101 hh102 => ?_)
        have hp97 : PolN u99 ⟨some ⟨b98, 0, none⟩, i, cp⟩ (Nt.trimQ l) K := by have h8 := pol_data hh102 ht hc hle hmx (hR.ext e100); rw [List.take_of_length_le (l := Nt.trimQ l) (by skip; omega)] at h8; exact h8
        refine sw_reg ?_
        refine sy_pure 36 (.v (.slice (some ⟨b98, 0, none⟩) i cp)) ?_
        refine sy_pure 2 (.v (.slice (some ⟨b98, 0, none⟩) i cp)) ?_
        refine sy_next 37 [(2, .v (.slice (some ⟨b98, 0, none⟩) i cp))] [] ?_
        refine sw_ret (ret0 [.slice (some ⟨b98, 0, none⟩) i cp] ⟨res_tmp, trivial⟩ fun u103 e104 => ?_)
        refine ⟨(⟨some ⟨b98, 0, none⟩, i, cp⟩ : Sl), rfl, ?_⟩
        exact (hp97.ext e104)
end Go.Proofs.YtnedhbidmfoegaaGreat
namespace Go.Proofs.YtnedhbidmfoegaaGreat
open Go.RowKit
set_option linter.unusedVariables false
set_option maxHeartbeats 1000000 in
theorem k_multiply {u w : World} {g n c : Nat} {L : List RL} {X : List Value} {l : List Rat} {r : RL} {q : Rat} {a b C : Nat} (d : Dat u w) (hg : w.heap[g]? = some (.cells (rcs L ++ X).toArray 26 (0, 0))) (hu : u.heap[g]? = some hidO) (hL : RatsN u L l (Nt.dg C)) (hr : RatN u r q (Nt.dg C)) (hn : n ≤ l.length) (hn9 : n ≤ 1000000000) (hA : Nt.WhL l a) (hB : Nt.Wh q b) (hAB : a + b ≤ C) (hC9 : C ≤ 600000000) : Calls Tryz.prog 170 #[.slice (some ⟨g, 0, none⟩) n c, r.v] w (PostL u w g fun V u' => ∃ L', V = ⟨26, rcs L' ++ X⟩ ∧ RatsN u' L' (Nt.mulN n l q) (Nt.dg C)) := by
  have hlL := hL.1
  have hdg : Nt.dg C ≤ 20000000 := by unfold Nt.dg; omega
  refine calls_lent (args := [r.v]) Tryz.func170 rfl Tryz.ntmps170 Tryz.results170 (le_b rfl) d hg hu ?_
  refine sw_seq ?_
  refine sw_reg ?_
  refine sy_new 3 ⟨26, r.cs⟩ ?_
  refine sy_next 20 [(0, .slc 20 0 n c), (3, .adr 3 0)] [(3, ⟨26, r.cs⟩), (20, ⟨26, rcs L ++ X⟩)] ?_
  refine sw_seq ?_
  refine sw_reg ?_
  refine sy_pure 5 (.slc 20 0 n c) ?_
  refine sy_pure 6 (.v (.int .i64 (n : Int))) ?_
  refine sy_pure 7 (.v (.int .i64 0)) ?_
  refine sy_next 20 [(0, .slc 20 0 n c), (3, .adr 3 0), (6, .v (.int .i64 (n : Int))), (7, .v (.int .i64 0))] [(3, ⟨26, r.cs⟩), (20, ⟨26, rcs L ++ X⟩)] ?_
  refine sw_block ?_
  refine sw_loop (I := fun m11 S' u' => ∃ (i : Nat) (M9 : List RL), (m11 = n - i) ∧ (i ≤ n) ∧ (M9.length = l.length) ∧ (S' = St.of 20 [(0, .slc 20 0 n c), (3, .adr 3 0), (6, .v (.int .i64 (n : Int))), (7, .v (.int .i64 (i : Int)))] [(3, ⟨26, r.cs⟩), (20, ⟨26, rcs M9 ++ X⟩)]) ∧ (Ext u u') ∧ (RatsN u' M9 (Nt.mulN i l q) (Nt.dg C))) (fun m S u1 u2 e h => by obtain ⟨i, M9, hm, p0, p1, hS, hE, f0⟩ := h; exact ⟨i, M9, hm, p0, p1, hS, hE.trans e, f0.ext e⟩) _ (T := St.of 20 [(0, .slc 20 0 n c), (3, .adr 3 0), (6, .v (.int .i64 (n : Int))), (7, .v (.int .i64 0))] [(3, ⟨26, r.cs⟩), (20, ⟨26, rcs L ++ X⟩)]) (by exact weak_mk _ _ _) ⟨0, L, rfl, by omega, by omega, rfl, Ext.refl _, (by rw [Nt.mulN_zero]; exact hL)⟩ ?_
  rintro m11 _ u11 ⟨i, M9, hm11, hi, hM9, rfl, e11, hQ⟩
  refine sw_seq ?_
  refine sw_reg ?_
  refine sy_pure 8 (.v (.bool (decide ((i : Int) < (n : Int))))) ?_
  refine sy_next 20 [(0, .slc 20 0 n c), (3, .adr 3 0), (6, .v (.int .i64 (n : Int))), (7, .v (.int .i64 (i : Int))), (8, .v (.bool (decide ((i : Int) < (n : Int)))))] [(3, ⟨26, r.cs⟩), (20, ⟨26, rcs M9 ++ X⟩)] ?_
  refine sw_seq ?_
  refine sw_cond (b := decide ((i : Int) < (n : Int))) (by kernel_rfl) (fun hb12 => ?_) (fun hb12 => ?_)
  · replace hb12 : (decide ((i : Int) < (n : Int))) = true := hb12
    have qhb12 := of_decide_eq_true hb12
    refine sw_skip (mp_seq ?_)
    refine sw_seq ?_
    refine sw_block ?_
    refine sw_seq ?_
    refine sw_reg ?_
    refine sy_pure 9 (.v (.int .i64 (i : Int))) ?_
    refine sy_pure 4 (.v (.int .i64 (i : Int))) ?_
    refine sy_next 20 [(0, .slc 20 0 n c), (3, .adr 3 0), (4, .v (.int .i64 (i : Int))), (6, .v (.int .i64 (n : Int))), (7, .v (.int .i64 (i : Int)))] [(3, ⟨26, r.cs⟩), (20, ⟨26, rcs M9 ++ X⟩)] ?_
    refine sw_any [0, 0, 0, 0, 12, 28, 0, 124, 255, 511] [(0, []), (1, []), (2, []), (3, []), (4, []), (5, []), (6, []), (7, []), (8, []), (9, [])] (by kernel_rfl) (by kernel_rfl) ?_
    refine sy_pure 10 (.slc 20 0 n c) ?_
    refine sy_pure 11 (.v (.int .i64 (i : Int))) ?_
    refine sy_pure 12 (.slc 20 0 n c) ?_
    refine sy_pure 13 (.v (.int .i64 (i : Int))) ?_
    refine sy_idxO 14 (off' := i * 3) (n := n) (off := 0) (sz := 3) (i := (i : Int)) sl41 (by omega) (by omega) (by omega) ?_
    obtain ⟨r13, hrr13⟩ : ∃ r : RL, (M9).getD i rl0 = r := ⟨_, rfl⟩
    refine sy_ldv 15 (V := ⟨26, rcs M9 ++ X⟩) (off := i * 3) (.v r13.v) ty26 (by have h9 := part_rcsX (X := X) (L := M9) (i := i) (off := i * 3) (by first | omega | (simp; omega)) rfl; rw [hrr13] at h9; exact h9) ?_
    have h14 := hQ.2 i (by first | omega | (simp; omega))
    rw [hrr13] at h14
    refine sy_ldv 16 (.v (r.v)) ty26 part_agg ?_
    refine sy_call 17 111 [r13.v, r.v] ?_
    intro w15 u15 e15 d15
    have k20 := k_ratMul d15 (h14.ext e15).raw (hr.ext (e11.trans e15)).raw (by omega) (by omega)
    with_reducible refine Post.mono k20 ?_
    clear k20
    rintro _ u18 g19 ⟨r16, rfl, h17⟩
    refine sy_idxO 18 (off' := i * 3) (n := n) (off := 0) (sz := 3) (i := (i : Int)) sl41 (by omega) (by omega) (by omega) ?_
    refine sy_storeO (V := ⟨26, rcs M9 ++ X⟩) (off := i * 3) (rcs ((M9).set i r16) ++ X) ty26 (by rw [List.length_append, rcs_len]; first | omega | (simp; omega)) (setL_rcsX (r := r16) (i := i) (by first | omega | (simp; omega)) rfl) ?_
    refine sy_end ?_
    refine mp_seq ?_
    refine sw_reg ?_
    refine sy_eq 19 (x := .v (.int .i64 (IntKind.i64.wrap ((i : Int) + 1)))) (.v (.int .i64 ((i + 1 : Nat) : Int))) (eqI (by rw [IntWalk.i64_in _ (by omega)]; omega)) ?_
    refine sy_pure 7 (.v (.int .i64 ((i + 1 : Nat) : Int))) ?_
    refine sy_end ?_
    refine ⟨_, ?_, St.of 20 [(0, .slc 20 0 n c), (3, .adr 3 0), (6, .v (.int .i64 (n : Int))), (7, .v (.int .i64 ((i + 1 : Nat) : Int)))] [(3, ⟨26, r.cs⟩), (20, ⟨26, rcs ((M9).set i r16) ++ X⟩)], by exact weak_mk _ _ _, i + 1, (M9).set i r16, rfl, by omega, by simp; omega, rfl, (e11.trans (e15.trans g19.ext)), (by rw [Nt.mulN_succ (by omega)]; exact RatsN.set (i := i) (hQ.ext (e15.trans g19.ext)) (by simp; omega) (RatN.fit (K := ((Nt.dg C) + (Nt.dg C))) h17 (by have h9 := ((hA i).mul hB).rs; have h8 : Nt.dg (a + b) ≤ Nt.dg C := Nt.dg_mono hAB; have e9 : (Nt.mulN i l q).getD i 0 = Nt.co l i := by { show Nt.co _ _ = _; rw [Nt.mulN_co, if_neg (Nat.lt_irrefl i)] }; rw [e9]; omega)))⟩
    omega
  · replace hb12 : (decide ((i : Int) < (n : Int))) = false := hb12
    have qhb12 := of_decide_eq_false hb12
    refine sw_exit ?_
    have hin : i = n := by omega
    refine lent_end (V := ⟨26, rcs M9 ++ X⟩) rfl rfl (fun u21 e22 => ⟨M9, rfl, ?_⟩)
    have h9 := (hQ.ext e22)
    rw [hin] at h9
    exact h9
set_option maxHeartbeats 1000000 in
theorem k_cutL {u w : World} {g n c : Nat} {L : List RL} {X : List Value} {l : List Rat} {K : Nat} (d : Dat u w) (hg : w.heap[g]? = some (.cells (rcs L ++ X).toArray 26 (0, 0))) (hu : u.heap[g]? = some hidO) (hL : RatsN u L l K) (hn : n ≤ l.length) (hn9 : n ≤ 1000000000) (hnc : n ≤ c) (hK : K ≤ 100000000) : Calls Tryz.prog 118 #[.slice (some ⟨g, 0, none⟩) n c] w (PostS u w g c fun m V u' => V = ⟨26, rcs L ++ X⟩ ∧ m = (Nt.trimQ (l.take n)).length) := by
  have hlL := hL.1
  refine calls_lentS (args := []) Tryz.func118 rfl Tryz.ntmps118 Tryz.results118 (le_b rfl) d hg hu ?_
  refine sw_seq ?_
  refine sw_reg ?_
  refine sy_pure 2 (.v (.slice none 0 0)) ?_
  refine sy_next 22 [(0, .slc 22 0 n c)] [(22, ⟨26, rcs L ++ X⟩)] ?_
  refine sw_seq ?_
  refine sw_reg ?_
  refine sy_pure 4 (.slc 22 0 n c) ?_
  refine sy_pure 5 (.v (.int .i64 (n : Int))) ?_
  refine sy_pure 3 (.v (.int .i64 (n : Int))) ?_
  refine sy_next 22 [(0, .slc 22 0 n c), (3, .v (.int .i64 (n : Int)))] [(22, ⟨26, rcs L ++ X⟩)] ?_
  refine sw_seq ?_
  refine sw_block ?_
  refine sw_loop (I := fun m11 S' u' => ∃ (k : Nat), (m11 = k) ∧ (k ≤ n) ∧ (∀ i, k ≤ i → Nt.co (l.take n) i = 0) ∧ (S' = St.of 22 [(0, .slc 22 0 n c), (3, .v (.int .i64 (k : Int)))] [(22, ⟨26, rcs L ++ X⟩)]) ∧ (Ext u u')) (fun m S u1 u2 e h => by obtain ⟨k, hm, p0, p1, hS, hE⟩ := h; exact ⟨k, hm, p0, p1, hS, hE.trans e⟩) _ (T := St.of 22 [(0, .slc 22 0 n c), (3, .v (.int .i64 (n : Int)))] [(22, ⟨26, rcs L ++ X⟩)]) (by exact weak_mk _ _ _) ⟨n, rfl, by omega, fun i hi => Nt.co_ge (by simp; omega), rfl, Ext.refl _⟩ ?_
  rintro m11 _ u11 ⟨k, hm11, hk, hz, rfl, e11⟩
  refine sw_seq ?_
  refine sw_seq ?_
  refine sw_reg ?_
  refine sy_pure 6 (.v (.int .i64 (k : Int))) ?_
  refine sy_pure 7 (.v (.bool (decide ((0 : Int) < (k : Int))))) ?_
  rcases Bool.eq_false_or_eq_true (decide ((0 : Int) < (k : Int))) with hs12 | hs12
  · refine sy_eq 8 (x := .v (.bool (decide ((0 : Int) < (k : Int))))) (.v (.bool true)) (by rw [hs12]) ?_
    have qhs12 := of_decide_eq_true hs12
    refine sy_pure 9 (.slc 22 0 n c) ?_ (hw := w1 2 true 8)
    refine sy_pure 10 (.v (.int .i64 (k : Int))) ?_ (hw := w1 2 true 8)
    refine sy_eq 11 (x := .v (.int .i64 (IntKind.i64.wrap ((k : Int) - 1)))) (.v (.int .i64 ((k - 1 : Nat) : Int))) (eqI (by rw [IntWalk.i64_in _ (by omega)]; omega)) ?_ (hw := w1 2 true 8)
    refine sy_idxO 12 (off' := (k - 1) * 3) (n := n) (off := 0) (sz := 3) (i := ((k - 1 : Nat) : Int)) sl41 (by omega) (by omega) (by omega) ?_ (hw := w1 2 true 8)
    obtain ⟨r13, hrr13⟩ : ∃ r : RL, (L).getD (k - 1) rl0 = r := ⟨_, rfl⟩
    refine sy_ldv 13 (V := ⟨26, rcs L ++ X⟩) (off := (k - 1) * 3) (.v r13.v) ty26 (by have h9 := part_rcsX (X := X) (L := L) (i := k - 1) (off := (k - 1) * 3) (by first | omega | (simp; omega)) rfl; rw [hrr13] at h9; exact h9) ?_ (hw := w1 2 true 8)
    have h14 := (hL.ext e11).2 (k - 1) (by first | omega | (simp; omega))
    rw [hrr13] at h14
    refine sy_call 14 132 [r13.v] ?_ (hw := w1 2 true 8)
    intro w15 u15 e15 d15
    have k18 := k_ratSign d15 (h14.ext e15).raw
    with_reducible refine Post.mono k18 ?_
    clear k18
    rintro _ u16 g17 rfl
    refine sy_pure 15 (.v (.bool ((Nt.sgQ (l.getD (k - 1) 0)) == 0))) ?_ (hw := w1 2 true 8)
    refine sy_pure 16 (.v (.bool ((Nt.sgQ (l.getD (k - 1) 0)) == 0))) ?_
    refine sy_next 22 [(0, .slc 22 0 n c), (3, .v (.int .i64 (k : Int))), (16, .v (.bool ((Nt.sgQ (l.getD (k - 1) 0)) == 0)))] [(22, ⟨26, rcs L ++ X⟩)] ?_
    refine sw_cond (b := (Nt.sgQ (l.getD (k - 1) 0)) == 0) (by kernel_rfl) (fun hb19 => ?_) (fun hb19 => ?_)
    · replace hb19 : ((Nt.sgQ (l.getD (k - 1) 0)) == 0) = true := hb19
      refine sw_skip (mp_seq ?_)
      refine sw_block ?_
      refine sw_reg ?_
      refine sy_pure 17 (.v (.int .i64 (k : Int))) ?_
      refine sy_eq 18 (x := .v (.int .i64 (IntKind.i64.wrap ((k : Int) - 1)))) (.v (.int .i64 ((k - 1 : Nat) : Int))) (eqI (by rw [IntWalk.i64_in _ (by omega)]; omega)) ?_
      refine sy_pure 3 (.v (.int .i64 ((k - 1 : Nat) : Int))) ?_
      refine sy_end ?_
      refine ⟨_, ?_, St.of 22 [(0, .slc 22 0 n c), (3, .v (.int .i64 ((k - 1 : Nat) : Int)))] [(22, ⟨26, rcs L ++ X⟩)], by exact weak_mk _ _ _, k - 1, rfl, by omega, (fun i hi => by by_cases e : i = k - 1; (rw [e, Nt.co_take (by omega)]; have h9 := hb19; rw [Nt.sgQ_eq] at h9; exact of_decide_eq_true h9); exact hz i (by omega)), rfl, (e11.trans (e15.trans g17.ext))⟩
      omega
    · replace hb19 : ((Nt.sgQ (l.getD (k - 1) 0)) == 0) = false := hb19
      refine sw_exit ?_
      refine mp_seq ?_
      refine sw_seq ?_
      refine sw_reg ?_
      refine sy_pure 19 (.slc 22 0 n c) ?_
      refine sy_pure 20 (.v (.int .i64 (k : Int))) ?_
      refine sy_frontO 21 (n := n) (c := c) k sl41 rfl (by omega) ?_
      refine sy_pure 2 (.slc 22 0 k c) ?_
      refine sy_next 22 [(2, .slc 22 0 k c)] [(22, ⟨26, rcs L ++ X⟩)] ?_
      refine sw_ret (lentS_ret (V := ⟨26, rcs L ++ X⟩) k rfl rfl res_tmp (fun _ _ => ⟨rfl, ?_⟩))
      exact (Nt.trim_len_of (l := (l.take n)) (by rw [List.length_take]; omega) hz (fun _ h => by rw [Nt.co_take (by omega)] at h; have h9 := hb19; rw [Nt.sgQ_eq] at h9; exact of_decide_eq_false h9 h)).symm
  · refine sy_eq 8 (x := .v (.bool (decide ((0 : Int) < (k : Int))))) (.v (.bool false)) (by rw [hs12]) ?_
    have qhs12 := of_decide_eq_false hs12
    refine sy_drop 9 (uw 2 true false 8) ?_
    refine sy_drop 10 (uw 2 true false 8) ?_
    refine sy_drop 11 (uw 2 true false 8) ?_
    refine sy_drop 12 (uw 2 true false 8) ?_
    refine sy_drop 13 (uw 2 true false 8) ?_
    refine sy_drop 14 (uw 2 true false 8) ?_
    refine sy_drop 15 (uw 2 true false 8) ?_
    refine sy_pure 16 (.v (.bool false)) ?_
    refine sy_next 22 [(0, .slc 22 0 n c), (3, .v (.int .i64 (k : Int))), (16, .v (.bool false))] [(22, ⟨26, rcs L ++ X⟩)] ?_
    refine sw_false (by kernel_rfl) ?_
    refine sw_exit ?_
    refine mp_seq ?_
    refine sw_seq ?_
    refine sw_reg ?_
    refine sy_pure 19 (.slc 22 0 n c) ?_
    refine sy_pure 20 (.v (.int .i64 (k : Int))) ?_
    refine sy_frontO 21 (n := n) (c := c) k sl41 rfl (by omega) ?_
    refine sy_pure 2 (.slc 22 0 k c) ?_
    refine sy_next 22 [(2, .slc 22 0 k c)] [(22, ⟨26, rcs L ++ X⟩)] ?_
    refine sw_ret (lentS_ret (V := ⟨26, rcs L ++ X⟩) k rfl rfl res_tmp (fun _ _ => ⟨rfl, ?_⟩))
    exact (Nt.trim_len_of (l := (l.take n)) (by rw [List.length_take]; omega) hz (fun h => absurd h (by omega))).symm
def CloneR (u : World) (n : Nat) (t : List Rat) (K : Nat) (v : Value) (u' : World) : Prop := ∃ (b c : Nat) (L : List RL) (X : List Value), v = .slice (some ⟨b, 0, none⟩) n c ∧ u.heap.size ≤ b ∧ u'.heap[b]? = some (.cells (rcs L ++ X).toArray 26 (0, 0)) ∧ L.length = n ∧ RatsN u L t K ∧ (rcs L ++ X).length = c * 3 ∧ n ≤ c ∧ c ≤ maxLen
set_option maxHeartbeats 1000000 in
theorem k_clonePol {u w : World} {x : Sl} {l : List Rat} {K : Nat} (d : Dat u w) (hx : PolN u x l K) (h0 : 0 < l.length) (h9 : l.length ≤ 1000000000) : Calls Tryz.prog 169 #[x.v] w (Post u w fun v u' => CloneR u x.n l K v u') := by
  have hn := hx.len
  obtain ⟨xa, n0, c0⟩ := x
  obtain ⟨L, ⟨h1, h2, h3, h4⟩, h5⟩ := hx
  change n0 = l.length at hn
  obtain ⟨b0, o0, e, hc⟩ := h4 (by show 0 < n0; omega)
  change xa = _ at e
  subst e
  have h6 := h5.1
  change Calls _ _ #[.slice (some ⟨b0, o0, none⟩) n0 c0] _ (Post u w fun v u' => CloneR u n0 l K v u')
  refine calls_sym (args := [.slice (some ⟨b0, o0, none⟩) n0 c0]) Tryz.func169 rfl Tryz.ntmps169 (rs := [.tmp 2]) Tryz.results169 (le_b rfl) (le_b rfl) d ?_
  refine sw_seq ?_
  refine sw_reg ?_
  refine sy_pure 2 (.v (.slice none 0 0)) ?_
  refine sy_next 8 [(0, .v (.slice (some ⟨b0, o0, none⟩) n0 c0))] [] ?_
  refine sw_seq ?_
  refine sw_seq ?_
  refine sw_reg ?_
  refine sy_pure 3 (.v (.slice (some ⟨b0, o0, none⟩) n0 c0)) ?_
  refine sy_pure 4 (.v (.bool false)) ?_
  refine sy_next 8 [(0, .v (.slice (some ⟨b0, o0, none⟩) n0 c0)), (4, .v (.bool false))] [] ?_
  refine sw_false (by kernel_rfl) ?_
  refine sw_skip (mp_seq ?_)
  refine sw_seq ?_
  refine sw_reg ?_
  refine sy_lit 5 ⟨26, []⟩ 0 ?_
  refine sy_pure 6 (.v (.slice (some ⟨b0, o0, none⟩) n0 c0)) ?_
  refine sy_app1 7 (T := 41) (E := 26) (z := .agg #[.bool false, .slice none 0 0, .slice none 0 0]) (size := 3) (bytes := 56) (b := b0) (off := o0) (m := n0) (c := c0) (n := 0) (cap := 0) (t := 5) (cs0 := []) [5, 7] (rcs L) (by kernel_rfl) (by kernel_rfl) (by kernel_rfl) (by decide) (by rw [rcs_len]; omega) (fun j v hv => by rw [hc j (List.getElem?_eq_some_iff.1 hv).1]; exact hv) (List.all_eq_true.1 (rcs_one (L := L))) (by omega) (by unfold maxLen; omega) (by omega) (by omega) (by decide) rfl (by repeat first | exact noAt_of | refine noAt_set ?_ | refine noAt_lit ?_ | refine noAt_new ?_ | refine noAt_setVar ?_ | refine noAt_unpub ?_) ?_
  intro c1 cs k1 k2 k3 k4
  refine sy_pure 2 (.slc 7 0 (0 + n0) c1) ?_
  refine sy_next 8 [(2, .slc 7 0 (0 + n0) c1)] [(7, ⟨26, cs⟩)] ?_
  refine sw_pub (r := 2) (t := 7) [2, 7] (by repeat first | exact noAt_of | refine noAt_set ?_ | refine noAt_lit ?_ | refine noAt_new ?_ | refine noAt_setVar ?_ | refine noAt_unpub ?_) (by kernel_rfl) (by rfl) (by rfl) (by kernel_rfl) (fun b u2 e2 hb hh => ?_)
  refine sw_ret (ret0 [.slice (some ⟨b, 0, none⟩) (0 + n0) c1] ⟨res_tmp, trivial⟩ fun u11 e12 => ?_)
  rw [Nat.zero_add] at k1 k4
  change cs.take (n0 * 3) = rcs L at k4
  have hL3 := rcs_len (L := L)
  have e9 : cs = rcs L ++ cs.drop (n0 * 3) := by rw [← k4]; exact (List.take_append_drop (n0 * 3) cs).symm
  refine ⟨b, c1, L, cs.drop (n0 * 3), ?_, hb, ?_, by omega, h5, by rw [← e9]; exact k3, k1, k2⟩
  · show Value.slice _ (0 + n0) _ = _; rw [Nat.zero_add]
  · rw [← e9]; exact e12.cells hh
set_option maxHeartbeats 4000000 in
theorem k_divide {u w : World} {x y : Sl} {p q : List Rat} {a b C K M : Nat} (d : Dat u w) (hx0 : PolN u x p K) (hy0 : PolN u y q M) (hA : Nt.WhL p a) (hB : Nt.WhL q b) (hq : Nt.Nrm q) (hq0 : 0 < q.length) (hC : a + (p.length - q.length + 1) * (b + 1) ≤ C) (hC9 : C ≤ 600000000) (hx9 : p.length ≤ 1000000) (hy9 : q.length ≤ 1000000) : Calls Tryz.prog 116 #[x.v, y.v] w (Post u w fun v u' => ∃ (y1 y2 : Sl) (r : RL) (s t : List Rat) (f : Rat), v = .tuple #[y1.v, y2.v, r.v] ∧ PolN u' y1 s (Nt.dg C) ∧ PolN u' y2 t (Nt.dg C) ∧ RatN u' r f (Nt.dg C) ∧ Nt.DivR p q s t f ∧ Nt.WhL s C ∧ Nt.WhL t C) := by
  have hmul : b + 1 ≤ (p.length - q.length + 1) * (b + 1) := Nat.le_mul_of_pos_left _ (by omega)
  have hx : PolN u x p (Nt.dg C) := hx0.fitW (hA.more (by omega))
  have hy : PolN u y q (Nt.dg C) := hy0.fitW (hB.more (by omega))
  have hlen := hx.len
  have hlen2 := hy.len
  have hdg : Nt.dg C ≤ 20000000 := by unfold Nt.dg; omega
  have hdg1 : 1 ≤ Nt.dg C := by unfold Nt.dg; omega
  refine calls_sym (args := [.slice x.a x.n x.c, .slice y.a y.n y.c]) Tryz.func116 rfl Tryz.ntmps116 (rs := [.tmp 4, .tmp 5, .cell 6 26]) Tryz.results116 (le_b rfl) (le_b rfl) d ?_
  refine sw_seq ?_
  refine sw_reg ?_
  refine sy_pure 4 (.v (.slice none 0 0)) ?_
  refine sy_pure 5 (.v (.slice none 0 0)) ?_
  refine sy_new 6 ⟨26, [.bool false, .slice none 0 0, .slice none 0 0]⟩ ?_
  refine sy_next 112 [(0, .v (.slice x.a x.n x.c)), (1, .v (.slice y.a y.n y.c)), (6, .adr 6 0)] [(6, ⟨26, [.bool false, .slice none 0 0, .slice none 0 0]⟩)] ?_
  refine sw_seq ?_
  refine sw_reg ?_
  refine sy_call 18 112 [.int .i64 1] ?_
  intro w11 u11 e11 d11
  have k16 := k_ratOf d11 (z := 1) (by omega) (by omega)
  with_reducible refine Post.mono k16 ?_
  clear k16
  rintro _ u14 g15 ⟨r12, rfl, h13⟩
  refine sy_new 7 ⟨26, [.bool false, .slice none 0 0, .slice none 0 0]⟩ ?_
  refine sy_store ⟨26, r12.cs⟩ ty26 ?_
  refine sy_next 112 [(0, .v (.slice x.a x.n x.c)), (1, .v (.slice y.a y.n y.c)), (6, .adr 6 0), (7, .adr 7 0)] [(6, ⟨26, [.bool false, .slice none 0 0, .slice none 0 0]⟩), (7, ⟨26, r12.cs⟩)] ?_
  refine sw_seq ?_
  refine sw_seq ?_
  refine sw_reg ?_
  refine sy_pure 19 (.v (.slice x.a x.n x.c)) ?_
  refine sy_pure 20 (.v (.int .i64 (x.n : Int))) ?_
  refine sy_pure 21 (.v (.slice y.a y.n y.c)) ?_
  refine sy_pure 22 (.v (.int .i64 (y.n : Int))) ?_
  refine sy_pure 23 (.v (.bool (decide ((x.n : Int) < (y.n : Int))))) ?_
  refine sy_next 112 [(0, .v (.slice x.a x.n x.c)), (1, .v (.slice y.a y.n y.c)), (6, .adr 6 0), (7, .adr 7 0), (23, .v (.bool (decide ((x.n : Int) < (y.n : Int)))))] [(6, ⟨26, [.bool false, .slice none 0 0, .slice none 0 0]⟩), (7, ⟨26, r12.cs⟩)] ?_
  refine sw_cond (b := decide ((x.n : Int) < (y.n : Int))) (by kernel_rfl) (fun hb17 => ?_) (fun hb17 => ?_)
  · replace hb17 : (decide ((x.n : Int) < (y.n : Int))) = true := hb17
    have qhb17 := of_decide_eq_true hb17
    refine sw_seq ?_
    refine sw_any [0, 0, 0, 5, 15] [(0, []), (1, []), (2, []), (3, []), (4, [])] (by kernel_rfl) (by kernel_rfl) ?_
    refine sy_pure 24 (.v (.slice x.a x.n x.c)) ?_
    refine sy_ldv 25 (.v (r12.v)) ty26 part_agg ?_
    refine sy_pure 4 (.v (.slice none 0 0)) ?_
    refine sy_pure 5 (.v (.slice x.a x.n x.c)) ?_
    refine sy_store ⟨26, r12.cs⟩ ty26 ?_
    refine sy_next 112 [(4, .v (.slice none 0 0)), (5, .v (.slice x.a x.n x.c)), (6, .adr 6 0)] [(6, ⟨26, r12.cs⟩)] ?_
    refine sw_ret (mpr_seq (ret0 [.slice none 0 0, .slice x.a x.n x.c, r12.v] ⟨res_tmp, res_tmp, res_cell ty26 part_agg, trivial⟩ fun u18 e19 => ?_))
    exact ⟨⟨none, 0, 0⟩, x, r12, [], p, 1, rfl, pol_nil _ _, (hx.ext (e11.trans (g15.ext.trans e19))), RatN.fit (K := 2) (h13.ext e19) (Nt.Wh.one C).rs, Nt.divR_self (by omega), Nt.whL_nil _, hA.more (by omega)⟩
  · replace hb17 : (decide ((x.n : Int) < (y.n : Int))) = false := hb17
    have qhb17 := of_decide_eq_false hb17
    refine sw_skip (mp_seq ?_)
    refine sw_seq ?_
    refine sw_reg ?_
    refine sy_pure 26 (.v (.slice x.a x.n x.c)) ?_
    refine sy_pure 27 (.v (.int .i64 (x.n : Int))) ?_
    refine sy_pure 28 (.v (.slice y.a y.n y.c)) ?_
    refine sy_pure 29 (.v (.int .i64 (y.n : Int))) ?_
    refine sy_eq 30 (x := .v (.int .i64 (IntKind.i64.wrap ((x.n : Int) - (y.n : Int))))) (.v (.int .i64 ((x.n - y.n : Nat) : Int))) (eqI (by rw [IntWalk.i64_in _ (by omega)]; omega)) ?_
    refine sy_eq 31 (x := .v (.int .i64 (IntKind.i64.wrap (((x.n - y.n : Nat) : Int) + 1)))) (.v (.int .i64 (((x.n - y.n) + 1 : Nat) : Int))) (eqI (by rw [IntWalk.i64_in _ (by omega)]; omega)) ?_
    refine sy_call 32 124 [.int .i64 (((x.n - y.n) + 1 : Nat) : Int)] ?_
    intro w20 u20 e20 d20
    have k29 := k_zeros (n := (x.n - y.n) + 1) d20 (by omega)
    with_reducible refine Post.mono k29 ?_
    clear k29
    rintro _ u27 g28 ⟨b21, L22, rfl, hb23, hh24, hL25, hR26⟩
    refine sy_pure 33 (.v (.slice x.a x.n x.c)) ?_
    refine sy_call 34 169 [.slice x.a x.n x.c] ?_
    intro w30 u30 e30 d30
    have k44 := k_clonePol d30 (hx.ext (e11.trans (g15.ext.trans (e20.trans (g28.ext.trans e30))))) (by omega) (by omega)
    with_reducible refine Post.mono k44 ?_
    clear k44
    rintro _ u42 g43 ⟨b31, c32, L33, X34, rfl, hb35, hh36, hL37, hR38, hlX39, hle40, hmx41⟩
    refine sy_pure 8 (.v (.slice (some ⟨b21, 0, none⟩) ((x.n - y.n) + 1) ((x.n - y.n) + 1))) ?_
    refine sy_pure 9 (.v (.slice (some ⟨b31, 0, none⟩) x.n c32)) ?_
    refine sy_next 112 [(1, .v (.slice y.a y.n y.c)), (6, .adr 6 0), (7, .adr 7 0), (8, .v (.slice (some ⟨b21, 0, none⟩) ((x.n - y.n) + 1) ((x.n - y.n) + 1))), (9, .v (.slice (some ⟨b31, 0, none⟩) x.n c32))] [(6, ⟨26, [.bool false, .slice none 0 0, .slice none 0 0]⟩), (7, ⟨26, r12.cs⟩)] ?_
    refine sw_seq ?_
    refine sw_adopt (r := 9) (k := 9) (by rfl) ((Ext.refl _).cells hh36) (Nat.le_trans ((e11.trans (g15.ext.trans (e20.trans (g28.ext.trans e30)))).size) hb35) (by kernel_rfl) (fun u45 eB46 => ?_)
    replace hR38 := hR38.ext (ExtB.old eB46 g43.ext hb35)
    refine sw_adopt (r := 8) (k := 8) (cs := rcs L22 ++ []) (by rfl) (by rw [List.append_nil]; exact ((e30.trans (ExtB.old eB46 g43.ext hb35)).cells hh24)) (Nat.le_trans ((e11.trans (g15.ext.trans e20)).size) hb23) (by kernel_rfl) (fun u47 eB48 => ?_)
    replace hR26 := (hR26.ext (e30.trans (ExtB.old eB46 g43.ext hb35))).extB ((e30.trans (ExtB.old eB46 g43.ext hb35)).cells hh24) eB48
    replace hR38 := (hR38.ext (Ext.refl _)).extB ((e30.trans (ExtB.old eB46 g43.ext hb35)).cells hh24) eB48
    have hXl : p.length * 3 + X34.length = c32 * 3 := by have h9 := hlX39; rw [List.length_append, rcs_len] at h9; omega
    have hq1 : (q.getD (y.n - 1) 0) ≠ 0 := by have h9 := Nt.nrm_last hq (by rintro rfl; simp at hq0); rw [hlen2]; exact h9
    refine sw_reg ?_
    refine sy_pure 35 (.v (.slice y.a y.n y.c)) ?_
    refine sy_pure 36 (.v (.slice y.a y.n y.c)) ?_
    refine sy_pure 37 (.v (.int .i64 (y.n : Int))) ?_
    refine sy_eq 38 (x := .v (.int .i64 (IntKind.i64.wrap ((y.n : Int) - 1)))) (.v (.int .i64 ((y.n - 1 : Nat) : Int))) (eqI (by rw [IntWalk.i64_in _ (by omega)]; omega)) ?_
    have hl49 := (hy.ext (e11.trans (g15.ext.trans (e20.trans (ExtB.old eB48 (g28.ext.trans (e30.trans (ExtB.old eB46 g43.ext hb35))) hb23))))).len
    obtain ⟨r49, b49, o49, hA49, hc49, hr49⟩ := pol_atN (hy.ext (e11.trans (g15.ext.trans (e20.trans (ExtB.old eB48 (g28.ext.trans (e30.trans (ExtB.old eB46 g43.ext hb35))) hb23))))) (i := y.n - 1) (by omega)
    refine sy_index 39 (o49 + (y.n - 1) * 3) (n := y.n) (off := o49) (sz := 3) (i := ((y.n - 1 : Nat) : Int)) (by omega) hA49 (by omega) (by omega) sl41 ?_
    refine sy_ldn 40 r49.cs hc49 ty26 ?_
    refine sy_new 10 ⟨26, [.bool false, .slice none 0 0, .slice none 0 0]⟩ ?_
    refine sy_store ⟨26, r49.cs⟩ ty26 ?_
    refine sy_next 112 [(1, .v (.slice y.a y.n y.c)), (6, .adr 6 0), (7, .adr 7 0), (8, .slc 8 0 ((x.n - y.n) + 1) ((x.n - y.n) + 1)), (9, .slc 9 0 x.n c32), (10, .adr 10 0)] [(6, ⟨26, [.bool false, .slice none 0 0, .slice none 0 0]⟩), (7, ⟨26, r12.cs⟩), (8, ⟨26, rcs L22 ++ []⟩), (9, ⟨26, rcs L33 ++ X34⟩), (10, ⟨26, r49.cs⟩)] ?_
    refine sw_seq ?_
    refine sw_block ?_
    refine sw_loop (I := fun m50 S' u' => ∃ (n : Nat) (k : Nat) (Ls : List RL) (Lr : List RL) (s : List Rat) (t : List Rat) (rf : RL) (f : Rat), (m50 = n) ∧ (n ≤ p.length) ∧ (k ≤ p.length - n ∧ k ≤ p.length - q.length + 1) ∧ (Nt.DivI p q n s t f) ∧ (Nt.WhL s (a + k * (b + 1))) ∧ (Nt.WhL t (a + k * (b + 1))) ∧ (Nt.Wh f (k * (b + 1))) ∧ (S' = St.of 112 [(1, .v (.slice y.a y.n y.c)), (6, .adr 6 0), (7, .adr 7 0), (8, .slc 8 0 ((x.n - y.n) + 1) ((x.n - y.n) + 1)), (9, .slc 9 0 n c32), (10, .adr 10 0)] [(6, ⟨26, [.bool false, .slice none 0 0, .slice none 0 0]⟩), (7, ⟨26, rf.cs⟩), (8, ⟨26, rcs Ls ++ []⟩), (9, ⟨26, rcs Lr ++ X34⟩), (10, ⟨26, r49.cs⟩)]) ∧ (Ext u47 u') ∧ (RatsN u' Ls s (Nt.dg C)) ∧ (RatsN u' Lr t (Nt.dg C)) ∧ (RatN u' rf f (Nt.dg C))) (fun m S u1 u2 e h => by obtain ⟨n, k, Ls, Lr, s, t, rf, f, hm, p0, p1, p2, p3, p4, p5, hS, hE, f0, f1, f2⟩ := h; exact ⟨n, k, Ls, Lr, s, t, rf, f, hm, p0, p1, p2, p3, p4, p5, hS, hE.trans e, f0.ext e, f1.ext e, f2.ext e⟩) _ (T := St.of 112 [(1, .v (.slice y.a y.n y.c)), (6, .adr 6 0), (7, .adr 7 0), (8, .slc 8 0 ((x.n - y.n) + 1) ((x.n - y.n) + 1)), (9, .slc 9 0 x.n c32), (10, .adr 10 0)] [(6, ⟨26, [.bool false, .slice none 0 0, .slice none 0 0]⟩), (7, ⟨26, r12.cs⟩), (8, ⟨26, rcs L22 ++ []⟩), (9, ⟨26, rcs L33 ++ X34⟩), (10, ⟨26, r49.cs⟩)]) (by exact weak_mk _ _ _) ⟨x.n, 0, L22, L33, (List.replicate ((x.n - y.n) + 1) (0 : Rat)), p, r12, 1, rfl, by omega, by omega, (by have h9 := Nt.DivI.begin p q; rw [hlen, hlen2]; exact h9), Nt.whL_rep _ _, (hA.more (by omega)), Nt.Wh.one _, rfl, Ext.refl _, (RatsN.fit hR26 (Nt.whL_rep _ C)), hR38, (RatN.fit (K := 2) (h13.ext (e20.trans (ExtB.old eB48 (g28.ext.trans (e30.trans (ExtB.old eB46 g43.ext hb35))) hb23))) (Nt.Wh.one C).rs)⟩ ?_
    rintro m50 _ u50 ⟨n, k, Ls, Lr, s, t, rf, f, hm50, hn, hk, hD, hWs, hWt, hWf, rfl, e50, hRs, hRt, hRf⟩
    have hls := hRs.1
    have hlt := hRt.1
    have hsl := hD.sl
    have htl := hD.tl
    refine sw_seq ?_
    refine sw_seq ?_
    refine sw_reg ?_
    refine sy_pure 41 (.slc 9 0 n c32) ?_
    refine sy_pure 42 (.v (.int .i64 (n : Int))) ?_
    refine sy_pure 43 (.v (.slice y.a y.n y.c)) ?_
    refine sy_pure 44 (.v (.int .i64 (y.n : Int))) ?_
    refine sy_pure 45 (.v (.bool (decide ((y.n : Int) ≤ (n : Int))))) ?_
    refine sy_next 112 [(1, .v (.slice y.a y.n y.c)), (6, .adr 6 0), (7, .adr 7 0), (8, .slc 8 0 ((x.n - y.n) + 1) ((x.n - y.n) + 1)), (9, .slc 9 0 n c32), (10, .adr 10 0), (45, .v (.bool (decide ((y.n : Int) ≤ (n : Int)))))] [(6, ⟨26, [.bool false, .slice none 0 0, .slice none 0 0]⟩), (7, ⟨26, rf.cs⟩), (8, ⟨26, rcs Ls ++ []⟩), (9, ⟨26, rcs Lr ++ X34⟩), (10, ⟨26, r49.cs⟩)] ?_
    refine sw_cond (b := decide ((y.n : Int) ≤ (n : Int))) (by kernel_rfl) (fun hb51 => ?_) (fun hb51 => ?_)
    · replace hb51 : (decide ((y.n : Int) ≤ (n : Int))) = true := hb51
      have qhb51 := of_decide_eq_true hb51
      refine sw_skip (mp_seq ?_)
      refine sw_block ?_
      refine sw_seq ?_
      refine sw_reg ?_
      refine sy_pure 46 (.slc 9 0 n c32) ?_
      refine sy_pure 47 (.v (.int .i64 (n : Int))) ?_
      refine sy_pure 48 (.v (.slice y.a y.n y.c)) ?_
      refine sy_pure 49 (.v (.int .i64 (y.n : Int))) ?_
      refine sy_eq 50 (x := .v (.int .i64 (IntKind.i64.wrap ((n : Int) - (y.n : Int))))) (.v (.int .i64 ((n - y.n : Nat) : Int))) (eqI (by rw [IntWalk.i64_in _ (by omega)]; omega)) ?_
      refine sy_pure 11 (.v (.int .i64 ((n - y.n : Nat) : Int))) ?_
      refine sy_next 112 [(1, .v (.slice y.a y.n y.c)), (6, .adr 6 0), (7, .adr 7 0), (8, .slc 8 0 ((x.n - y.n) + 1) ((x.n - y.n) + 1)), (9, .slc 9 0 n c32), (10, .adr 10 0), (11, .v (.int .i64 ((n - y.n : Nat) : Int)))] [(6, ⟨26, [.bool false, .slice none 0 0, .slice none 0 0]⟩), (7, ⟨26, rf.cs⟩), (8, ⟨26, rcs Ls ++ []⟩), (9, ⟨26, rcs Lr ++ X34⟩), (10, ⟨26, r49.cs⟩)] ?_
      refine sw_seq ?_
      refine sw_any [0, 0, 2, 6, 15, 31, 0, 127, 255, 511, 511, 0, 3071, 8191] [(0, []), (1, []), (2, []), (3, []), (4, []), (5, []), (6, []), (11, []), (7, []), (8, []), (9, []), (10, []), (12, []), (13, [])] (by kernel_rfl) (by kernel_rfl) ?_
      refine sy_pure 52 (.slc 9 0 n c32) ?_
      refine sy_pure 53 (.slc 9 0 n c32) ?_
      refine sy_pure 54 (.v (.int .i64 (n : Int))) ?_
      refine sy_eq 55 (x := .v (.int .i64 (IntKind.i64.wrap ((n : Int) - 1)))) (.v (.int .i64 ((n - 1 : Nat) : Int))) (eqI (by rw [IntWalk.i64_in _ (by omega)]; omega)) ?_
      refine sy_idxO 56 (off' := (n - 1) * 3) (n := n) (off := 0) (sz := 3) (i := ((n - 1 : Nat) : Int)) sl41 (by omega) (by omega) (by omega) ?_
      obtain ⟨r52, hrr52⟩ : ∃ r : RL, (Lr).getD (n - 1) rl0 = r := ⟨_, rfl⟩
      refine sy_ldv 57 (V := ⟨26, rcs Lr ++ X34⟩) (off := (n - 1) * 3) (.v r52.v) ty26 (by have h9 := part_rcsX (X := X34) (L := Lr) (i := n - 1) (off := (n - 1) * 3) (by first | omega | (simp; omega)) rfl; rw [hrr52] at h9; exact h9) ?_
      have h53 := hRt.2 (n - 1) (by first | omega | (simp; omega))
      rw [hrr52] at h53
      refine sy_ldv 58 (.v (r49.v)) ty26 part_agg ?_
      refine sy_new 12 ⟨26, [.bool false, .slice none 0 0, .slice none 0 0]⟩ ?_
      refine sy_call 59 99 [r52.v, r49.v] ?_
      intro w54 u54 e54 d54
      have k59 := k_ratDiv1 d54 (h53.ext e54).raw (hr49.ext (e50.trans e54)).raw hq1 (by omega) (by omega)
      with_reducible refine Post.mono k59 ?_
      clear k59
      rintro _ u57 g58 ⟨r55, rfl, h56⟩
      refine sy_pure 51 (.v (.tuple #[r55.v, .int .i64 0])) ?_
      refine sy_pure 60 (.v (r55.v)) ?_
      refine sy_pure 61 (.v (.int .i64 0)) ?_
      refine sy_store ⟨26, r55.cs⟩ ty26 ?_
      refine sy_pure 13 (.v (.int .i64 0)) ?_
      refine sy_next 112 [(1, .v (.slice y.a y.n y.c)), (6, .adr 6 0), (7, .adr 7 0), (8, .slc 8 0 ((x.n - y.n) + 1) ((x.n - y.n) + 1)), (9, .slc 9 0 n c32), (10, .adr 10 0), (11, .v (.int .i64 ((n - y.n : Nat) : Int))), (12, .adr 12 0)] [(6, ⟨26, [.bool false, .slice none 0 0, .slice none 0 0]⟩), (7, ⟨26, rf.cs⟩), (8, ⟨26, rcs Ls ++ []⟩), (9, ⟨26, rcs Lr ++ X34⟩), (10, ⟨26, r49.cs⟩), (12, ⟨26, r55.cs⟩)] ?_
      refine sw_seq ?_
      refine sw_reg ?_
      refine sy_ldv 63 (.v (r55.v)) ty26 part_agg ?_
      refine sy_call 64 127 [r55.v] ?_
      intro w60 u60 e60 d60
      have k65 := k_poParts (r := r55) d60
      with_reducible refine Post.mono k65 ?_
      clear k65
      rintro _ u63 g64 ⟨y61, rfl, h62⟩
      refine sy_pure 62 (.v (.tuple #[.agg #[.bool r55.s, .slice r55.m.a r55.m.n r55.m.c, .slice y61.a y61.n y61.c], .agg #[.bool false, .slice r55.d.a r55.d.n r55.d.c, .slice y61.a y61.n y61.c]])) ?_
      refine sy_pure 65 (.v (.agg #[.bool r55.s, .slice r55.m.a r55.m.n r55.m.c, .slice y61.a y61.n y61.c])) ?_
      refine sy_pure 66 (.v (.agg #[.bool false, .slice r55.d.a r55.d.n r55.d.c, .slice y61.a y61.n y61.c])) ?_
      refine sy_new 14 ⟨26, [.bool false, .slice none 0 0, .slice none 0 0]⟩ ?_
      refine sy_new 15 ⟨26, [.bool false, .slice none 0 0, .slice none 0 0]⟩ ?_
      refine sy_store ⟨26, [.bool r55.s, .slice r55.m.a r55.m.n r55.m.c, .slice y61.a y61.n y61.c]⟩ ty26 ?_
      refine sy_store ⟨26, [.bool false, .slice r55.d.a r55.d.n r55.d.c, .slice y61.a y61.n y61.c]⟩ ty26 ?_
      refine sy_next 112 [(1, .v (.slice y.a y.n y.c)), (6, .adr 6 0), (7, .adr 7 0), (8, .slc 8 0 ((x.n - y.n) + 1) ((x.n - y.n) + 1)), (9, .slc 9 0 n c32), (10, .adr 10 0), (11, .v (.int .i64 ((n - y.n : Nat) : Int))), (14, .adr 14 0), (15, .adr 15 0)] [(6, ⟨26, [.bool false, .slice none 0 0, .slice none 0 0]⟩), (7, ⟨26, rf.cs⟩), (8, ⟨26, rcs Ls ++ []⟩), (9, ⟨26, rcs Lr ++ X34⟩), (10, ⟨26, r49.cs⟩), (14, ⟨26, [.bool r55.s, .slice r55.m.a r55.m.n r55.m.c, .slice y61.a y61.n y61.c]⟩), (15, ⟨26, [.bool false, .slice r55.d.a r55.d.n r55.d.c, .slice y61.a y61.n y61.c]⟩)] ?_
      refine sw_seq ?_
      refine sw_seq ?_
      have hCn := Nt.bits_le (k9 := k + 1) hC (by omega)
      have hbs := Nat.succ_mul k (b + 1)
      rw [Nat.succ_eq_add_one] at hbs
      obtain ⟨hwn, hwd⟩ := Nt.Wh.quo (hWt (n - 1)) (hB (y.n - 1)) hq1
      obtain ⟨hst, hd0⟩ := Nt.quo_step (x := t.getD (n - 1) 0) hq1
      have hn14 := (whole_rat (RatN.num (h56.ext (e60.trans g64.ext))) h62)
      have hd15 := (whole_rat (nat_intN (RatN.den (h56.ext (e60.trans g64.ext)))) h62)
      change Nt.Wh ((((t.getD (n - 1) 0 / (q.getD (y.n - 1) 0)).num : Int) : Rat)) _ at hwn
      change Nt.Wh (((((t.getD (n - 1) 0 / (q.getD (y.n - 1) 0)).den : Nat) : Int) : Rat)) _ at hwd
      obtain ⟨nu, hnu⟩ : ∃ z : Rat, (((t.getD (n - 1) 0 / (q.getD (y.n - 1) 0)).num : Int) : Rat) = z := ⟨_, rfl⟩
      obtain ⟨de, hde⟩ : ∃ z : Rat, ((((t.getD (n - 1) 0 / (q.getD (y.n - 1) 0)).den : Nat) : Int) : Rat) = z := ⟨_, rfl⟩
      rw [hnu] at hwn hst hn14
      rw [hde] at hwd hst hd0 hd15
      replace hn14 := RatN.fit hn14 (hwn.more (by omega) : Nt.Wh nu C).rs
      replace hd15 := RatN.fit hd15 (hwd.more (by omega) : Nt.Wh de C).rs
      clear hnu hde
      refine sw_any [0, 0, 3, 7] [(0, []), (1, []), (2, []), (3, [])] (by kernel_rfl) (by kernel_rfl) ?_
      refine sy_ldv 67 (.v (.agg #[.bool false, .slice r55.d.a r55.d.n r55.d.c, .slice y61.a y61.n y61.c])) ty26 part_agg ?_
      refine sy_call 68 112 [.int .i64 1] ?_
      intro w66 u66 e66 d66
      have k71 := k_ratOf d66 (z := 1) (by omega) (by omega)
      with_reducible refine Post.mono k71 ?_
      clear k71
      rintro _ u69 g70 ⟨r67, rfl, h68⟩
      refine sy_call 69 114 [.agg #[.bool false, .slice r55.d.a r55.d.n r55.d.c, .slice y61.a y61.n y61.c], r67.v] ?_
      intro w72 u72 e72 d72
      have k75 := k_ratCompare d72 (hd15.ext (e66.trans (g70.ext.trans e72))).raw (h68.ext e72).raw (by omega) (by omega)
      with_reducible refine Post.mono k75 ?_
      clear k75
      rintro _ u73 g74 rfl
      refine sy_pure 70 (.v (.bool ((Nt.cmpQ de ((1 : Int) : Rat)) != 0))) ?_
      refine sy_next 112 [(1, .v (.slice y.a y.n y.c)), (6, .adr 6 0), (7, .adr 7 0), (8, .slc 8 0 ((x.n - y.n) + 1) ((x.n - y.n) + 1)), (9, .slc 9 0 n c32), (10, .adr 10 0), (11, .v (.int .i64 ((n - y.n : Nat) : Int))), (14, .adr 14 0), (15, .adr 15 0), (70, .v (.bool ((Nt.cmpQ de ((1 : Int) : Rat)) != 0)))] [(6, ⟨26, [.bool false, .slice none 0 0, .slice none 0 0]⟩), (7, ⟨26, rf.cs⟩), (8, ⟨26, rcs Ls ++ []⟩), (9, ⟨26, rcs Lr ++ X34⟩), (10, ⟨26, r49.cs⟩), (14, ⟨26, [.bool r55.s, .slice r55.m.a r55.m.n r55.m.c, .slice y61.a y61.n y61.c]⟩), (15, ⟨26, [.bool false, .slice r55.d.a r55.d.n r55.d.c, .slice y61.a y61.n y61.c]⟩)] ?_
      refine sw_cond (b := (Nt.cmpQ de ((1 : Int) : Rat)) != 0) (by kernel_rfl) (fun hb76 => ?_) (fun hb76 => ?_)
      · replace hb76 : ((Nt.cmpQ de ((1 : Int) : Rat)) != 0) = true := hb76
        refine sw_seq ?_
        refine sw_reg ?_
        refine sy_pure 71 (.slc 8 0 ((x.n - y.n) + 1) ((x.n - y.n) + 1)) ?_
        refine sy_ldv 72 (.v (.agg #[.bool false, .slice r55.d.a r55.d.n r55.d.c, .slice y61.a y61.n y61.c])) ty26 part_agg ?_
        have kc78 := fun (g : Nat) (w u1 : World) (e : Ext u73 u1) (d : Dat u1 w) (hg : w.heap[g]? = some (.cells (rcs Ls ++ []).toArray 26 (0, 0))) (hu : u1.heap[g]? = some hidO) => k_multiply (n := ((x.n - y.n) + 1)) (c := ((x.n - y.n) + 1)) (r := (⟨false, r55.d, y61⟩ : RL)) d hg hu (RatsN.ext (hRs.ext (e54.trans (g58.ext.trans (e60.trans (g64.ext.trans (e66.trans (g70.ext.trans (e72.trans g74.ext)))))))) e) (RatN.ext (hd15.ext (e66.trans (g70.ext.trans (e72.trans g74.ext)))) e) (by omega) (by omega) hWs hwd (by omega) hC9
        refine sy_lend 73 170 (t := 8) (V := ⟨26, rcs Ls ++ []⟩) (len := ((x.n - y.n) + 1)) (cap := ((x.n - y.n) + 1)) [.agg #[.bool false, .slice r55.d.a r55.d.n r55.d.c, .slice y61.a y61.n y61.c]] (by kernel_rfl) kc78 ?_
        clear kc78
        rintro V77 u77 e77 ⟨L77, rfl, hL77⟩
        refine sy_next 112 [(1, .v (.slice y.a y.n y.c)), (6, .adr 6 0), (7, .adr 7 0), (8, .slc 8 0 ((x.n - y.n) + 1) ((x.n - y.n) + 1)), (9, .slc 9 0 n c32), (10, .adr 10 0), (11, .v (.int .i64 ((n - y.n : Nat) : Int))), (14, .adr 14 0), (15, .adr 15 0)] [(6, ⟨26, [.bool false, .slice none 0 0, .slice none 0 0]⟩), (7, ⟨26, rf.cs⟩), (8, ⟨26, rcs L77 ++ []⟩), (9, ⟨26, rcs Lr ++ X34⟩), (10, ⟨26, r49.cs⟩), (14, ⟨26, [.bool r55.s, .slice r55.m.a r55.m.n r55.m.c, .slice y61.a y61.n y61.c]⟩), (15, ⟨26, [.bool false, .slice r55.d.a r55.d.n r55.d.c, .slice y61.a y61.n y61.c]⟩)] ?_
        refine sw_seq ?_
        refine sw_reg ?_
        refine sy_pure 74 (.slc 9 0 n c32) ?_
        refine sy_ldv 75 (.v (.agg #[.bool false, .slice r55.d.a r55.d.n r55.d.c, .slice y61.a y61.n y61.c])) ty26 part_agg ?_
        have kc80 := fun (g : Nat) (w u1 : World) (e : Ext u77 u1) (d : Dat u1 w) (hg : w.heap[g]? = some (.cells (rcs Lr ++ X34).toArray 26 (0, 0))) (hu : u1.heap[g]? = some hidO) => k_multiply (n := n) (c := c32) (r := (⟨false, r55.d, y61⟩ : RL)) d hg hu (RatsN.ext (hRt.ext (e54.trans (g58.ext.trans (e60.trans (g64.ext.trans (e66.trans (g70.ext.trans (e72.trans (g74.ext.trans e77))))))))) e) (RatN.ext (hd15.ext (e66.trans (g70.ext.trans (e72.trans (g74.ext.trans e77))))) e) (by omega) (by omega) hWt hwd (by omega) hC9
        refine sy_lend 76 170 (t := 9) (V := ⟨26, rcs Lr ++ X34⟩) (len := n) (cap := c32) [.agg #[.bool false, .slice r55.d.a r55.d.n r55.d.c, .slice y61.a y61.n y61.c]] (by kernel_rfl) kc80 ?_
        clear kc80
        rintro V79 u79 e79 ⟨L79, rfl, hL79⟩
        refine sy_next 112 [(1, .v (.slice y.a y.n y.c)), (6, .adr 6 0), (7, .adr 7 0), (8, .slc 8 0 ((x.n - y.n) + 1) ((x.n - y.n) + 1)), (9, .slc 9 0 n c32), (10, .adr 10 0), (11, .v (.int .i64 ((n - y.n : Nat) : Int))), (14, .adr 14 0), (15, .adr 15 0)] [(6, ⟨26, [.bool false, .slice none 0 0, .slice none 0 0]⟩), (7, ⟨26, rf.cs⟩), (8, ⟨26, rcs L77 ++ []⟩), (9, ⟨26, rcs L79 ++ X34⟩), (10, ⟨26, r49.cs⟩), (14, ⟨26, [.bool r55.s, .slice r55.m.a r55.m.n r55.m.c, .slice y61.a y61.n y61.c]⟩), (15, ⟨26, [.bool false, .slice r55.d.a r55.d.n r55.d.c, .slice y61.a y61.n y61.c]⟩)] ?_
        refine sw_reg ?_
        refine sy_ldv 77 (.v (rf.v)) ty26 part_agg ?_
        refine sy_ldv 78 (.v (.agg #[.bool false, .slice r55.d.a r55.d.n r55.d.c, .slice y61.a y61.n y61.c])) ty26 part_agg ?_
        refine sy_call 79 111 [rf.v, .agg #[.bool false, .slice r55.d.a r55.d.n r55.d.c, .slice y61.a y61.n y61.c]] ?_
        intro w81 u81 e81 d81
        have k86 := k_ratMul d81 (hRf.ext (e54.trans (g58.ext.trans (e60.trans (g64.ext.trans (e66.trans (g70.ext.trans (e72.trans (g74.ext.trans (e77.trans (e79.trans e81))))))))))).raw (hd15.ext (e66.trans (g70.ext.trans (e72.trans (g74.ext.trans (e77.trans (e79.trans e81))))))).raw (by omega) (by omega)
        with_reducible refine Post.mono k86 ?_
        clear k86
        rintro _ u84 g85 ⟨r82, rfl, h83⟩
        refine sy_store ⟨26, r82.cs⟩ ty26 ?_
        refine sy_next 112 [(1, .v (.slice y.a y.n y.c)), (6, .adr 6 0), (7, .adr 7 0), (8, .slc 8 0 ((x.n - y.n) + 1) ((x.n - y.n) + 1)), (9, .slc 9 0 n c32), (10, .adr 10 0), (11, .v (.int .i64 ((n - y.n : Nat) : Int))), (14, .adr 14 0)] [(6, ⟨26, [.bool false, .slice none 0 0, .slice none 0 0]⟩), (7, ⟨26, r82.cs⟩), (8, ⟨26, rcs L77 ++ []⟩), (9, ⟨26, rcs L79 ++ X34⟩), (10, ⟨26, r49.cs⟩), (14, ⟨26, [.bool r55.s, .slice r55.m.a r55.m.n r55.m.c, .slice y61.a y61.n y61.c]⟩)] ?_
        refine sw_seq ?_
        have hS8 := (hL77.ext (e79.trans (e81.trans g85.ext)))
        have hT9 := (hL79.ext (e81.trans g85.ext))
        rw [Nt.mulN_all (fun i hi => Nt.co_ge (by omega))] at hS8
        rw [Nt.mulN_all hD.tz] at hT9
        have hF7 := h83
        have hl8 := hS8.1
        have hl9 := hT9.1
        rw [List.length_map] at hl8 hl9
        have hD2 := hD.step hn (by omega) hq0 (by rw [← hlen2]; exact hq1) hd0 (by rw [← hlen2]; exact hst)
        rw [← hlen2] at hD2
        refine sw_reg ?_
        refine sy_pure 80 (.slc 8 0 ((x.n - y.n) + 1) ((x.n - y.n) + 1)) ?_
        refine sy_pure 81 (.v (.int .i64 ((n - y.n : Nat) : Int))) ?_
        refine sy_ldv 82 (.v (.agg #[.bool r55.s, .slice r55.m.a r55.m.n r55.m.c, .slice y61.a y61.n y61.c])) ty26 part_agg ?_
        refine sy_idxO 83 (off' := (n - y.n) * 3) (n := (x.n - y.n) + 1) (off := 0) (sz := 3) (i := ((n - y.n : Nat) : Int)) sl41 (by omega) (by omega) (by omega) ?_
        refine sy_storeO (V := ⟨26, rcs L77 ++ []⟩) (off := (n - y.n) * 3) (rcs ((L77).set (n - y.n) (⟨r55.s, r55.m, y61⟩ : RL)) ++ []) ty26 (by rw [List.length_append, rcs_len]; first | omega | (simp; omega)) (setL_rcsX (r := (⟨r55.s, r55.m, y61⟩ : RL)) (i := n - y.n) (by first | omega | (simp; omega)) rfl) ?_
        refine sy_next 112 [(1, .v (.slice y.a y.n y.c)), (6, .adr 6 0), (7, .adr 7 0), (8, .slc 8 0 ((x.n - y.n) + 1) ((x.n - y.n) + 1)), (9, .slc 9 0 n c32), (10, .adr 10 0), (11, .v (.int .i64 ((n - y.n : Nat) : Int))), (14, .adr 14 0)] [(6, ⟨26, [.bool false, .slice none 0 0, .slice none 0 0]⟩), (7, ⟨26, r82.cs⟩), (8, ⟨26, rcs ((L77).set (n - y.n) (⟨r55.s, r55.m, y61⟩ : RL)) ++ []⟩), (9, ⟨26, rcs L79 ++ X34⟩), (10, ⟨26, r49.cs⟩), (14, ⟨26, [.bool r55.s, .slice r55.m.a r55.m.n r55.m.c, .slice y61.a y61.n y61.c]⟩)] ?_
        refine sw_seq ?_
        refine sw_seq ?_
        have hS8b : RatsN u84 ((L77).set (n - y.n) (⟨r55.s, r55.m, y61⟩ : RL)) ((s.map (· * de)).set (n - y.n) nu) (Nt.dg C) := RatsN.set (i := n - y.n) hS8 (by simp; omega) (hn14.ext (e66.trans (g70.ext.trans (e72.trans (g74.ext.trans (e77.trans (e79.trans (e81.trans g85.ext))))))))
        have hWt2 : Nt.WhL (Nt.subN (n - y.n) nu q (t.map (· * de)) y.n) ((a + k * (b + 1)) + b + 1) := Nt.WhL.subN (hWt.map hwd) (fun i => hwn.mul (hB i)) (by simp; omega)
        refine sw_reg ?_
        refine sy_pure 84 (.v (.slice y.a y.n y.c)) ?_
        refine sy_pure 85 (.v (.int .i64 (y.n : Int))) ?_
        refine sy_pure 86 (.v (.int .i64 0)) ?_
        refine sy_next 112 [(1, .v (.slice y.a y.n y.c)), (6, .adr 6 0), (7, .adr 7 0), (8, .slc 8 0 ((x.n - y.n) + 1) ((x.n - y.n) + 1)), (9, .slc 9 0 n c32), (10, .adr 10 0), (11, .v (.int .i64 ((n - y.n : Nat) : Int))), (14, .adr 14 0), (84, .v (.slice y.a y.n y.c)), (85, .v (.int .i64 (y.n : Int))), (86, .v (.int .i64 0))] [(6, ⟨26, [.bool false, .slice none 0 0, .slice none 0 0]⟩), (7, ⟨26, r82.cs⟩), (8, ⟨26, rcs ((L77).set (n - y.n) (⟨r55.s, r55.m, y61⟩ : RL)) ++ []⟩), (9, ⟨26, rcs L79 ++ X34⟩), (10, ⟨26, r49.cs⟩), (14, ⟨26, [.bool r55.s, .slice r55.m.a r55.m.n r55.m.c, .slice y61.a y61.n y61.c]⟩)] ?_
        refine sw_block ?_
        refine sw_loop (I := fun m87 S' u' => ∃ (j : Nat) (M9 : List RL), (m87 = y.n - j) ∧ (j ≤ y.n) ∧ (M9.length = t.length) ∧ (S' = St.of 112 [(1, .v (.slice y.a y.n y.c)), (6, .adr 6 0), (7, .adr 7 0), (8, .slc 8 0 ((x.n - y.n) + 1) ((x.n - y.n) + 1)), (9, .slc 9 0 n c32), (10, .adr 10 0), (11, .v (.int .i64 ((n - y.n : Nat) : Int))), (14, .adr 14 0), (84, .v (.slice y.a y.n y.c)), (85, .v (.int .i64 (y.n : Int))), (86, .v (.int .i64 (j : Int)))] [(6, ⟨26, [.bool false, .slice none 0 0, .slice none 0 0]⟩), (7, ⟨26, r82.cs⟩), (8, ⟨26, rcs ((L77).set (n - y.n) (⟨r55.s, r55.m, y61⟩ : RL)) ++ []⟩), (9, ⟨26, rcs M9 ++ X34⟩), (10, ⟨26, r49.cs⟩), (14, ⟨26, [.bool r55.s, .slice r55.m.a r55.m.n r55.m.c, .slice y61.a y61.n y61.c]⟩)]) ∧ (Ext u84 u') ∧ (RatsN u' M9 (Nt.subN (n - y.n) nu q (t.map (· * de)) j) (Nt.dg C))) (fun m S u1 u2 e h => by obtain ⟨j, M9, hm, p0, p1, hS, hE, f0⟩ := h; exact ⟨j, M9, hm, p0, p1, hS, hE.trans e, f0.ext e⟩) _ (T := St.of 112 [(1, .v (.slice y.a y.n y.c)), (6, .adr 6 0), (7, .adr 7 0), (8, .slc 8 0 ((x.n - y.n) + 1) ((x.n - y.n) + 1)), (9, .slc 9 0 n c32), (10, .adr 10 0), (11, .v (.int .i64 ((n - y.n : Nat) : Int))), (14, .adr 14 0), (84, .v (.slice y.a y.n y.c)), (85, .v (.int .i64 (y.n : Int))), (86, .v (.int .i64 0))] [(6, ⟨26, [.bool false, .slice none 0 0, .slice none 0 0]⟩), (7, ⟨26, r82.cs⟩), (8, ⟨26, rcs ((L77).set (n - y.n) (⟨r55.s, r55.m, y61⟩ : RL)) ++ []⟩), (9, ⟨26, rcs L79 ++ X34⟩), (10, ⟨26, r49.cs⟩), (14, ⟨26, [.bool r55.s, .slice r55.m.a r55.m.n r55.m.c, .slice y61.a y61.n y61.c]⟩)]) (by exact weak_mk _ _ _) ⟨0, L79, rfl, by omega, by omega, rfl, Ext.refl _, hT9⟩ ?_
        rintro m87 _ u87 ⟨j, M9, hm87, hj, hM9, rfl, e87, hQ⟩
        refine sw_seq ?_
        refine sw_reg ?_
        refine sy_pure 87 (.v (.bool (decide ((j : Int) < (y.n : Int))))) ?_
        refine sy_next 112 [(1, .v (.slice y.a y.n y.c)), (6, .adr 6 0), (7, .adr 7 0), (8, .slc 8 0 ((x.n - y.n) + 1) ((x.n - y.n) + 1)), (9, .slc 9 0 n c32), (10, .adr 10 0), (11, .v (.int .i64 ((n - y.n : Nat) : Int))), (14, .adr 14 0), (84, .v (.slice y.a y.n y.c)), (85, .v (.int .i64 (y.n : Int))), (86, .v (.int .i64 (j : Int))), (87, .v (.bool (decide ((j : Int) < (y.n : Int)))))] [(6, ⟨26, [.bool false, .slice none 0 0, .slice none 0 0]⟩), (7, ⟨26, r82.cs⟩), (8, ⟨26, rcs ((L77).set (n - y.n) (⟨r55.s, r55.m, y61⟩ : RL)) ++ []⟩), (9, ⟨26, rcs M9 ++ X34⟩), (10, ⟨26, r49.cs⟩), (14, ⟨26, [.bool r55.s, .slice r55.m.a r55.m.n r55.m.c, .slice y61.a y61.n y61.c]⟩)] ?_
        refine sw_seq ?_
        refine sw_cond (b := decide ((j : Int) < (y.n : Int))) (by kernel_rfl) (fun hb88 => ?_) (fun hb88 => ?_)
        · replace hb88 : (decide ((j : Int) < (y.n : Int))) = true := hb88
          have qhb88 := of_decide_eq_true hb88
          refine sw_skip (mp_seq ?_)
          refine sw_seq ?_
          refine sw_block ?_
          refine sw_seq ?_
          refine sw_reg ?_
          refine sy_pure 88 (.v (.int .i64 (j : Int))) ?_
          have hl89 := (hy.ext (e11.trans (g15.ext.trans (e20.trans ((ExtB.old eB48 (g28.ext.trans (e30.trans (ExtB.old eB46 g43.ext hb35))) hb23).trans (e50.trans (e54.trans (g58.ext.trans (e60.trans (g64.ext.trans (e66.trans (g70.ext.trans (e72.trans (g74.ext.trans (e77.trans (e79.trans (e81.trans (g85.ext.trans e87)))))))))))))))))).len
          obtain ⟨r89, b89, o89, hA89, hc89, hr89⟩ := pol_atN (hy.ext (e11.trans (g15.ext.trans (e20.trans ((ExtB.old eB48 (g28.ext.trans (e30.trans (ExtB.old eB46 g43.ext hb35))) hb23).trans (e50.trans (e54.trans (g58.ext.trans (e60.trans (g64.ext.trans (e66.trans (g70.ext.trans (e72.trans (g74.ext.trans (e77.trans (e79.trans (e81.trans (g85.ext.trans e87)))))))))))))))))) (i := j) (by omega)
          refine sy_index 89 (o89 + j * 3) (n := y.n) (off := o89) (sz := 3) (i := (j : Int)) (by omega) hA89 (by omega) (by omega) sl41 ?_
          refine sy_ldn 90 r89.cs hc89 ty26 ?_
          refine sy_new 17 ⟨26, [.bool false, .slice none 0 0, .slice none 0 0]⟩ ?_
          refine sy_pure 16 (.v (.int .i64 (j : Int))) ?_
          refine sy_store ⟨26, r89.cs⟩ ty26 ?_
          refine sy_next 112 [(1, .v (.slice y.a y.n y.c)), (6, .adr 6 0), (7, .adr 7 0), (8, .slc 8 0 ((x.n - y.n) + 1) ((x.n - y.n) + 1)), (9, .slc 9 0 n c32), (10, .adr 10 0), (11, .v (.int .i64 ((n - y.n : Nat) : Int))), (14, .adr 14 0), (16, .v (.int .i64 (j : Int))), (17, .adr 17 0), (84, .v (.slice y.a y.n y.c)), (85, .v (.int .i64 (y.n : Int))), (86, .v (.int .i64 (j : Int)))] [(6, ⟨26, [.bool false, .slice none 0 0, .slice none 0 0]⟩), (7, ⟨26, r82.cs⟩), (8, ⟨26, rcs ((L77).set (n - y.n) (⟨r55.s, r55.m, y61⟩ : RL)) ++ []⟩), (9, ⟨26, rcs M9 ++ X34⟩), (10, ⟨26, r49.cs⟩), (14, ⟨26, [.bool r55.s, .slice r55.m.a r55.m.n r55.m.c, .slice y61.a y61.n y61.c]⟩), (17, ⟨26, r89.cs⟩)] ?_
          refine sw_any [0, 0, 0, 6, 0, 0, 0, 96, 240, 496, 0, 0, 3072, 8176, 16383, 32767] [(0, []), (1, []), (2, []), (3, []), (4, []), (5, []), (6, []), (7, []), (8, []), (9, []), (10, []), (11, []), (12, []), (13, []), (14, []), (15, [])] (by kernel_rfl) (by kernel_rfl) ?_
          refine sy_pure 91 (.slc 9 0 n c32) ?_
          refine sy_pure 92 (.v (.int .i64 ((n - y.n : Nat) : Int))) ?_
          refine sy_pure 93 (.v (.int .i64 (j : Int))) ?_
          refine sy_eq 94 (x := .v (.int .i64 (IntKind.i64.wrap (((n - y.n : Nat) : Int) + (j : Int))))) (.v (.int .i64 (((n - y.n) + j : Nat) : Int))) (eqI (by rw [IntWalk.i64_in _ (by omega)]; omega)) ?_
          refine sy_pure 95 (.slc 9 0 n c32) ?_
          refine sy_pure 96 (.v (.int .i64 ((n - y.n : Nat) : Int))) ?_
          refine sy_pure 97 (.v (.int .i64 (j : Int))) ?_
          refine sy_eq 98 (x := .v (.int .i64 (IntKind.i64.wrap (((n - y.n : Nat) : Int) + (j : Int))))) (.v (.int .i64 (((n - y.n) + j : Nat) : Int))) (eqI (by rw [IntWalk.i64_in _ (by omega)]; omega)) ?_
          refine sy_idxO 99 (off' := ((n - y.n) + j) * 3) (n := n) (off := 0) (sz := 3) (i := (((n - y.n) + j : Nat) : Int)) sl41 (by omega) (by omega) (by omega) ?_
          obtain ⟨r90, hrr90⟩ : ∃ r : RL, (M9).getD ((n - y.n) + j) rl0 = r := ⟨_, rfl⟩
          refine sy_ldv 100 (V := ⟨26, rcs M9 ++ X34⟩) (off := ((n - y.n) + j) * 3) (.v r90.v) ty26 (by have h9 := part_rcsX (X := X34) (L := M9) (i := (n - y.n) + j) (off := ((n - y.n) + j) * 3) (by first | omega | (simp; omega)) rfl; rw [hrr90] at h9; exact h9) ?_
          have h91 := hQ.2 ((n - y.n) + j) (by first | omega | (simp; omega))
          rw [hrr90] at h91
          refine sy_ldv 101 (.v (.agg #[.bool r55.s, .slice r55.m.a r55.m.n r55.m.c, .slice y61.a y61.n y61.c])) ty26 part_agg ?_
          refine sy_ldv 102 (.v (r89.v)) ty26 part_agg ?_
          refine sy_call 103 111 [.agg #[.bool r55.s, .slice r55.m.a r55.m.n r55.m.c, .slice y61.a y61.n y61.c], r89.v] ?_
          intro w92 u92 e92 d92
          have k97 := k_ratMul d92 (hn14.ext (e66.trans (g70.ext.trans (e72.trans (g74.ext.trans (e77.trans (e79.trans (e81.trans (g85.ext.trans (e87.trans e92)))))))))).raw (hr89.ext e92).raw (by omega) (by omega)
          with_reducible refine Post.mono k97 ?_
          clear k97
          rintro _ u95 g96 ⟨r93, rfl, h94⟩
          refine sy_call 104 109 [r90.v, r93.v] ?_
          intro w98 u98 e98 d98
          have k103 := k_ratSub d98 (h91.ext (e92.trans (g96.ext.trans e98))).raw (h94.ext e98).raw (by omega) (by omega)
          with_reducible refine Post.mono k103 ?_
          clear k103
          rintro _ u101 g102 ⟨r99, rfl, h100⟩
          refine sy_idxO 105 (off' := ((n - y.n) + j) * 3) (n := n) (off := 0) (sz := 3) (i := (((n - y.n) + j : Nat) : Int)) sl41 (by omega) (by omega) (by omega) ?_
          refine sy_storeO (V := ⟨26, rcs M9 ++ X34⟩) (off := ((n - y.n) + j) * 3) (rcs ((M9).set ((n - y.n) + j) r99) ++ X34) ty26 (by rw [List.length_append, rcs_len]; first | omega | (simp; omega)) (setL_rcsX (r := r99) (i := (n - y.n) + j) (by first | omega | (simp; omega)) rfl) ?_
          refine sy_end ?_
          refine mp_seq ?_
          refine sw_reg ?_
          refine sy_eq 106 (x := .v (.int .i64 (IntKind.i64.wrap ((j : Int) + 1)))) (.v (.int .i64 ((j + 1 : Nat) : Int))) (eqI (by rw [IntWalk.i64_in _ (by omega)]; omega)) ?_
          refine sy_pure 86 (.v (.int .i64 ((j + 1 : Nat) : Int))) ?_
          refine sy_end ?_
          have hw9 := (Nt.WhL.subN (hWt.map hwd) (fun i => hwn.mul (hB i)) (a := n - y.n) (j := j + 1) (by simp; omega)) (n - y.n + j)
          have e9 : Nt.co (Nt.subN (n - y.n) nu q (t.map (· * de)) (j + 1)) (n - y.n + j) = (((Nt.subN (n - y.n) nu q (t.map (· * de)) j).getD ((n - y.n) + j) 0) - (nu * (q.getD j 0))) := by show Nt.co (List.set _ _ _) _ = _; rw [Nt.co_set (by simp; omega), if_pos rfl]
          rw [e9] at hw9
          refine ⟨_, ?_, St.of 112 [(1, .v (.slice y.a y.n y.c)), (6, .adr 6 0), (7, .adr 7 0), (8, .slc 8 0 ((x.n - y.n) + 1) ((x.n - y.n) + 1)), (9, .slc 9 0 n c32), (10, .adr 10 0), (11, .v (.int .i64 ((n - y.n : Nat) : Int))), (14, .adr 14 0), (84, .v (.slice y.a y.n y.c)), (85, .v (.int .i64 (y.n : Int))), (86, .v (.int .i64 ((j + 1 : Nat) : Int)))] [(6, ⟨26, [.bool false, .slice none 0 0, .slice none 0 0]⟩), (7, ⟨26, r82.cs⟩), (8, ⟨26, rcs ((L77).set (n - y.n) (⟨r55.s, r55.m, y61⟩ : RL)) ++ []⟩), (9, ⟨26, rcs ((M9).set ((n - y.n) + j) r99) ++ X34⟩), (10, ⟨26, r49.cs⟩), (14, ⟨26, [.bool r55.s, .slice r55.m.a r55.m.n r55.m.c, .slice y61.a y61.n y61.c]⟩)], by exact weak_mk _ _ _, j + 1, (M9).set ((n - y.n) + j) r99, rfl, by omega, by simp; omega, rfl, (e87.trans (e92.trans (g96.ext.trans (e98.trans g102.ext)))), (RatsN.set (i := n - y.n + j) (hQ.ext (e92.trans (g96.ext.trans (e98.trans g102.ext)))) (by simp; omega) (RatN.fit (K := ((Nt.dg C) + ((Nt.dg C) + (Nt.dg C)) + 1)) h100 (hw9.more (by omega) : Nt.Wh _ C).rs))⟩
          omega
        · replace hb88 : (decide ((j : Int) < (y.n : Int))) = false := hb88
          have qhb88 := of_decide_eq_false hb88
          refine sw_exit ?_
          refine mp_seq ?_
          refine sw_reg ?_
          refine sy_pure 107 (.slc 9 0 n c32) ?_
          have kc105 := fun (g : Nat) (w u1 : World) (e : Ext u87 u1) (d : Dat u1 w) (hg : w.heap[g]? = some (.cells (rcs M9 ++ X34).toArray 26 (0, 0))) (hu : u1.heap[g]? = some hidO) => k_cutL (n := n) (c := c32) d hg hu (RatsN.ext hQ e) (by first | omega | (simp; omega)) (by omega) (by omega) (by omega)
          refine sy_lendS 108 118 (t := 9) (V := ⟨26, rcs M9 ++ X34⟩) (len := n) (cap := c32) [] (by kernel_rfl) kc105 ?_
          clear kc105
          rintro m104 _ u104 e104 ⟨rfl, hm104⟩
          refine sy_over 9 (.slc 9 0 m104 c32) ?_
          refine sy_end ?_
          have hj9 : j = y.n := by omega
          rw [hj9] at hm104
          have hmn : m104 ≤ n - 1 := by rw [hm104]; exact Nt.cut_lenQ hD2.tz (by omega)
          have hmz : ∀ i, m104 ≤ i → Nt.co (Nt.subN (n - y.n) nu q (t.map (· * de)) y.n) i = 0 := by rw [hm104]; exact Nt.cut_zeroQ (fun i hi => hD2.tz i (by omega))
          refine ⟨_, ?_, St.of 112 [(1, .v (.slice y.a y.n y.c)), (6, .adr 6 0), (7, .adr 7 0), (8, .slc 8 0 ((x.n - y.n) + 1) ((x.n - y.n) + 1)), (9, .slc 9 0 m104 c32), (10, .adr 10 0)] [(6, ⟨26, [.bool false, .slice none 0 0, .slice none 0 0]⟩), (7, ⟨26, r82.cs⟩), (8, ⟨26, rcs ((L77).set (n - y.n) (⟨r55.s, r55.m, y61⟩ : RL)) ++ []⟩), (9, ⟨26, rcs M9 ++ X34⟩), (10, ⟨26, r49.cs⟩)], by exact weak_mk _ _ _, m104, k + 1, (L77).set (n - y.n) (⟨r55.s, r55.m, y61⟩ : RL), M9, ((s.map (· * de)).set (n - y.n) nu), (Nt.subN (n - y.n) nu q (t.map (· * de)) y.n), r82, (f * de), rfl, by omega, by omega, (hD2.less (by omega) hmz), (Nt.WhL.set ((hWs.map hwd).more (by omega)) (hwn.more (by omega)) _), (hWt2.more (by omega)), ((hWf.mul hwd).more (by omega)), rfl, (e50.trans (e54.trans (g58.ext.trans (e60.trans (g64.ext.trans (e66.trans (g70.ext.trans (e72.trans (g74.ext.trans (e77.trans (e79.trans (e81.trans (g85.ext.trans (e87.trans e104)))))))))))))), (hS8b.ext (e87.trans e104)), (by have h9 := (hQ.ext e104); rw [hj9] at h9; exact h9), (RatN.fit (K := ((Nt.dg C) + (Nt.dg C))) (hF7.ext (e87.trans e104)) ((hWf.mul hwd).more (by omega) : Nt.Wh (f * de) C).rs)⟩
          omega
      · replace hb76 : ((Nt.cmpQ de ((1 : Int) : Rat)) != 0) = false := hb76
        refine sw_skip (mp_seq ?_)
        refine sw_seq ?_
        have hS8 := (hRs.ext (e54.trans (g58.ext.trans (e60.trans (g64.ext.trans (e66.trans (g70.ext.trans (e72.trans g74.ext))))))))
        have hT9 := (hRt.ext (e54.trans (g58.ext.trans (e60.trans (g64.ext.trans (e66.trans (g70.ext.trans (e72.trans g74.ext))))))))
        have hd1 : de = 1 := Nt.cmp_same hb76
        replace hS8 : RatsN u73 Ls (s.map (· * de)) (Nt.dg C) := by rw [hd1, Nt.map_one]; exact hS8
        replace hT9 : RatsN u73 Lr (t.map (· * de)) (Nt.dg C) := by rw [hd1, Nt.map_one]; exact hT9
        have hF7 : RatN u73 rf (f * de) ((Nt.dg C)) := by rw [hd1, Rat.mul_one]; exact (hRf.ext (e54.trans (g58.ext.trans (e60.trans (g64.ext.trans (e66.trans (g70.ext.trans (e72.trans g74.ext))))))))
        have hl8 := hS8.1
        have hl9 := hT9.1
        rw [List.length_map] at hl8 hl9
        have hD2 := hD.step hn (by omega) hq0 (by rw [← hlen2]; exact hq1) hd0 (by rw [← hlen2]; exact hst)
        rw [← hlen2] at hD2
        refine sw_reg ?_
        refine sy_pure 80 (.slc 8 0 ((x.n - y.n) + 1) ((x.n - y.n) + 1)) ?_
        refine sy_pure 81 (.v (.int .i64 ((n - y.n : Nat) : Int))) ?_
        refine sy_ldv 82 (.v (.agg #[.bool r55.s, .slice r55.m.a r55.m.n r55.m.c, .slice y61.a y61.n y61.c])) ty26 part_agg ?_
        refine sy_idxO 83 (off' := (n - y.n) * 3) (n := (x.n - y.n) + 1) (off := 0) (sz := 3) (i := ((n - y.n : Nat) : Int)) sl41 (by omega) (by omega) (by omega) ?_
        refine sy_storeO (V := ⟨26, rcs Ls ++ []⟩) (off := (n - y.n) * 3) (rcs ((Ls).set (n - y.n) (⟨r55.s, r55.m, y61⟩ : RL)) ++ []) ty26 (by rw [List.length_append, rcs_len]; first | omega | (simp; omega)) (setL_rcsX (r := (⟨r55.s, r55.m, y61⟩ : RL)) (i := n - y.n) (by first | omega | (simp; omega)) rfl) ?_
        refine sy_next 112 [(1, .v (.slice y.a y.n y.c)), (6, .adr 6 0), (7, .adr 7 0), (8, .slc 8 0 ((x.n - y.n) + 1) ((x.n - y.n) + 1)), (9, .slc 9 0 n c32), (10, .adr 10 0), (11, .v (.int .i64 ((n - y.n : Nat) : Int))), (14, .adr 14 0)] [(6, ⟨26, [.bool false, .slice none 0 0, .slice none 0 0]⟩), (7, ⟨26, rf.cs⟩), (8, ⟨26, rcs ((Ls).set (n - y.n) (⟨r55.s, r55.m, y61⟩ : RL)) ++ []⟩), (9, ⟨26, rcs Lr ++ X34⟩), (10, ⟨26, r49.cs⟩), (14, ⟨26, [.bool r55.s, .slice r55.m.a r55.m.n r55.m.c, .slice y61.a y61.n y61.c]⟩)] ?_
        refine sw_seq ?_
        refine sw_seq ?_
        have hS8b : RatsN u73 ((Ls).set (n - y.n) (⟨r55.s, r55.m, y61⟩ : RL)) ((s.map (· * de)).set (n - y.n) nu) (Nt.dg C) := RatsN.set (i := n - y.n) hS8 (by simp; omega) (hn14.ext (e66.trans (g70.ext.trans (e72.trans g74.ext))))
        have hWt2 : Nt.WhL (Nt.subN (n - y.n) nu q (t.map (· * de)) y.n) ((a + k * (b + 1)) + b + 1) := Nt.WhL.subN (hWt.map hwd) (fun i => hwn.mul (hB i)) (by simp; omega)
        refine sw_reg ?_
        refine sy_pure 84 (.v (.slice y.a y.n y.c)) ?_
        refine sy_pure 85 (.v (.int .i64 (y.n : Int))) ?_
        refine sy_pure 86 (.v (.int .i64 0)) ?_
        refine sy_next 112 [(1, .v (.slice y.a y.n y.c)), (6, .adr 6 0), (7, .adr 7 0), (8, .slc 8 0 ((x.n - y.n) + 1) ((x.n - y.n) + 1)), (9, .slc 9 0 n c32), (10, .adr 10 0), (11, .v (.int .i64 ((n - y.n : Nat) : Int))), (14, .adr 14 0), (84, .v (.slice y.a y.n y.c)), (85, .v (.int .i64 (y.n : Int))), (86, .v (.int .i64 0))] [(6, ⟨26, [.bool false, .slice none 0 0, .slice none 0 0]⟩), (7, ⟨26, rf.cs⟩), (8, ⟨26, rcs ((Ls).set (n - y.n) (⟨r55.s, r55.m, y61⟩ : RL)) ++ []⟩), (9, ⟨26, rcs Lr ++ X34⟩), (10, ⟨26, r49.cs⟩), (14, ⟨26, [.bool r55.s, .slice r55.m.a r55.m.n r55.m.c, .slice y61.a y61.n y61.c]⟩)] ?_
        refine sw_block ?_
        refine sw_loop (I := fun m106 S' u' => ∃ (j : Nat) (M9 : List RL), (m106 = y.n - j) ∧ (j ≤ y.n) ∧ (M9.length = t.length) ∧ (S' = St.of 112 [(1, .v (.slice y.a y.n y.c)), (6, .adr 6 0), (7, .adr 7 0), (8, .slc 8 0 ((x.n - y.n) + 1) ((x.n - y.n) + 1)), (9, .slc 9 0 n c32), (10, .adr 10 0), (11, .v (.int .i64 ((n - y.n : Nat) : Int))), (14, .adr 14 0), (84, .v (.slice y.a y.n y.c)), (85, .v (.int .i64 (y.n : Int))), (86, .v (.int .i64 (j : Int)))] [(6, ⟨26, [.bool false, .slice none 0 0, .slice none 0 0]⟩), (7, ⟨26, rf.cs⟩), (8, ⟨26, rcs ((Ls).set (n - y.n) (⟨r55.s, r55.m, y61⟩ : RL)) ++ []⟩), (9, ⟨26, rcs M9 ++ X34⟩), (10, ⟨26, r49.cs⟩), (14, ⟨26, [.bool r55.s, .slice r55.m.a r55.m.n r55.m.c, .slice y61.a y61.n y61.c]⟩)]) ∧ (Ext u73 u') ∧ (RatsN u' M9 (Nt.subN (n - y.n) nu q (t.map (· * de)) j) (Nt.dg C))) (fun m S u1 u2 e h => by obtain ⟨j, M9, hm, p0, p1, hS, hE, f0⟩ := h; exact ⟨j, M9, hm, p0, p1, hS, hE.trans e, f0.ext e⟩) _ (T := St.of 112 [(1, .v (.slice y.a y.n y.c)), (6, .adr 6 0), (7, .adr 7 0), (8, .slc 8 0 ((x.n - y.n) + 1) ((x.n - y.n) + 1)), (9, .slc 9 0 n c32), (10, .adr 10 0), (11, .v (.int .i64 ((n - y.n : Nat) : Int))), (14, .adr 14 0), (84, .v (.slice y.a y.n y.c)), (85, .v (.int .i64 (y.n : Int))), (86, .v (.int .i64 0))] [(6, ⟨26, [.bool false, .slice none 0 0, .slice none 0 0]⟩), (7, ⟨26, rf.cs⟩), (8, ⟨26, rcs ((Ls).set (n - y.n) (⟨r55.s, r55.m, y61⟩ : RL)) ++ []⟩), (9, ⟨26, rcs Lr ++ X34⟩), (10, ⟨26, r49.cs⟩), (14, ⟨26, [.bool r55.s, .slice r55.m.a r55.m.n r55.m.c, .slice y61.a y61.n y61.c]⟩)]) (by exact weak_mk _ _ _) ⟨0, Lr, rfl, by omega, by omega, rfl, Ext.refl _, hT9⟩ ?_
        rintro m106 _ u106 ⟨j, M9, hm106, hj, hM9, rfl, e106, hQ⟩
        refine sw_seq ?_
        refine sw_reg ?_
        refine sy_pure 87 (.v (.bool (decide ((j : Int) < (y.n : Int))))) ?_
        refine sy_next 112 [(1, .v (.slice y.a y.n y.c)), (6, .adr 6 0), (7, .adr 7 0), (8, .slc 8 0 ((x.n - y.n) + 1) ((x.n - y.n) + 1)), (9, .slc 9 0 n c32), (10, .adr 10 0), (11, .v (.int .i64 ((n - y.n : Nat) : Int))), (14, .adr 14 0), (84, .v (.slice y.a y.n y.c)), (85, .v (.int .i64 (y.n : Int))), (86, .v (.int .i64 (j : Int))), (87, .v (.bool (decide ((j : Int) < (y.n : Int)))))] [(6, ⟨26, [.bool false, .slice none 0 0, .slice none 0 0]⟩), (7, ⟨26, rf.cs⟩), (8, ⟨26, rcs ((Ls).set (n - y.n) (⟨r55.s, r55.m, y61⟩ : RL)) ++ []⟩), (9, ⟨26, rcs M9 ++ X34⟩), (10, ⟨26, r49.cs⟩), (14, ⟨26, [.bool r55.s, .slice r55.m.a r55.m.n r55.m.c, .slice y61.a y61.n y61.c]⟩)] ?_
        refine sw_seq ?_
        refine sw_cond (b := decide ((j : Int) < (y.n : Int))) (by kernel_rfl) (fun hb107 => ?_) (fun hb107 => ?_)
        · replace hb107 : (decide ((j : Int) < (y.n : Int))) = true := hb107
          have qhb107 := of_decide_eq_true hb107
          refine sw_skip (mp_seq ?_)
          refine sw_seq ?_
          refine sw_block ?_
          refine sw_seq ?_
          refine sw_reg ?_
          refine sy_pure 88 (.v (.int .i64 (j : Int))) ?_
          have hl108 := (hy.ext (e11.trans (g15.ext.trans (e20.trans ((ExtB.old eB48 (g28.ext.trans (e30.trans (ExtB.old eB46 g43.ext hb35))) hb23).trans (e50.trans (e54.trans (g58.ext.trans (e60.trans (g64.ext.trans (e66.trans (g70.ext.trans (e72.trans (g74.ext.trans e106)))))))))))))).len
          obtain ⟨r108, b108, o108, hA108, hc108, hr108⟩ := pol_atN (hy.ext (e11.trans (g15.ext.trans (e20.trans ((ExtB.old eB48 (g28.ext.trans (e30.trans (ExtB.old eB46 g43.ext hb35))) hb23).trans (e50.trans (e54.trans (g58.ext.trans (e60.trans (g64.ext.trans (e66.trans (g70.ext.trans (e72.trans (g74.ext.trans e106)))))))))))))) (i := j) (by omega)
          refine sy_index 89 (o108 + j * 3) (n := y.n) (off := o108) (sz := 3) (i := (j : Int)) (by omega) hA108 (by omega) (by omega) sl41 ?_
          refine sy_ldn 90 r108.cs hc108 ty26 ?_
          refine sy_new 17 ⟨26, [.bool false, .slice none 0 0, .slice none 0 0]⟩ ?_
          refine sy_pure 16 (.v (.int .i64 (j : Int))) ?_
          refine sy_store ⟨26, r108.cs⟩ ty26 ?_
          refine sy_next 112 [(1, .v (.slice y.a y.n y.c)), (6, .adr 6 0), (7, .adr 7 0), (8, .slc 8 0 ((x.n - y.n) + 1) ((x.n - y.n) + 1)), (9, .slc 9 0 n c32), (10, .adr 10 0), (11, .v (.int .i64 ((n - y.n : Nat) : Int))), (14, .adr 14 0), (16, .v (.int .i64 (j : Int))), (17, .adr 17 0), (84, .v (.slice y.a y.n y.c)), (85, .v (.int .i64 (y.n : Int))), (86, .v (.int .i64 (j : Int)))] [(6, ⟨26, [.bool false, .slice none 0 0, .slice none 0 0]⟩), (7, ⟨26, rf.cs⟩), (8, ⟨26, rcs ((Ls).set (n - y.n) (⟨r55.s, r55.m, y61⟩ : RL)) ++ []⟩), (9, ⟨26, rcs M9 ++ X34⟩), (10, ⟨26, r49.cs⟩), (14, ⟨26, [.bool r55.s, .slice r55.m.a r55.m.n r55.m.c, .slice y61.a y61.n y61.c]⟩), (17, ⟨26, r108.cs⟩)] ?_
          refine sw_any [0, 0, 0, 6, 0, 0, 0, 96, 240, 496, 0, 0, 3072, 8176, 16383, 32767] [(0, []), (1, []), (2, []), (3, []), (4, []), (5, []), (6, []), (7, []), (8, []), (9, []), (10, []), (11, []), (12, []), (13, []), (14, []), (15, [])] (by kernel_rfl) (by kernel_rfl) ?_
          refine sy_pure 91 (.slc 9 0 n c32) ?_
          refine sy_pure 92 (.v (.int .i64 ((n - y.n : Nat) : Int))) ?_
          refine sy_pure 93 (.v (.int .i64 (j : Int))) ?_
          refine sy_eq 94 (x := .v (.int .i64 (IntKind.i64.wrap (((n - y.n : Nat) : Int) + (j : Int))))) (.v (.int .i64 (((n - y.n) + j : Nat) : Int))) (eqI (by rw [IntWalk.i64_in _ (by omega)]; omega)) ?_
          refine sy_pure 95 (.slc 9 0 n c32) ?_
          refine sy_pure 96 (.v (.int .i64 ((n - y.n : Nat) : Int))) ?_
          refine sy_pure 97 (.v (.int .i64 (j : Int))) ?_
          refine sy_eq 98 (x := .v (.int .i64 (IntKind.i64.wrap (((n - y.n : Nat) : Int) + (j : Int))))) (.v (.int .i64 (((n - y.n) + j : Nat) : Int))) (eqI (by rw [IntWalk.i64_in _ (by omega)]; omega)) ?_
          refine sy_idxO 99 (off' := ((n - y.n) + j) * 3) (n := n) (off := 0) (sz := 3) (i := (((n - y.n) + j : Nat) : Int)) sl41 (by omega) (by omega) (by omega) ?_
          obtain ⟨r109, hrr109⟩ : ∃ r : RL, (M9).getD ((n - y.n) + j) rl0 = r := ⟨_, rfl⟩
          refine sy_ldv 100 (V := ⟨26, rcs M9 ++ X34⟩) (off := ((n - y.n) + j) * 3) (.v r109.v) ty26 (by have h9 := part_rcsX (X := X34) (L := M9) (i := (n - y.n) + j) (off := ((n - y.n) + j) * 3) (by first | omega | (simp; omega)) rfl; rw [hrr109] at h9; exact h9) ?_
          have h110 := hQ.2 ((n - y.n) + j) (by first | omega | (simp; omega))
          rw [hrr109] at h110
          refine sy_ldv 101 (.v (.agg #[.bool r55.s, .slice r55.m.a r55.m.n r55.m.c, .slice y61.a y61.n y61.c])) ty26 part_agg ?_
          refine sy_ldv 102 (.v (r108.v)) ty26 part_agg ?_
          refine sy_call 103 111 [.agg #[.bool r55.s, .slice r55.m.a r55.m.n r55.m.c, .slice y61.a y61.n y61.c], r108.v] ?_
          intro w111 u111 e111 d111
          have k116 := k_ratMul d111 (hn14.ext (e66.trans (g70.ext.trans (e72.trans (g74.ext.trans (e106.trans e111)))))).raw (hr108.ext e111).raw (by omega) (by omega)
          with_reducible refine Post.mono k116 ?_
          clear k116
          rintro _ u114 g115 ⟨r112, rfl, h113⟩
          refine sy_call 104 109 [r109.v, r112.v] ?_
          intro w117 u117 e117 d117
          have k122 := k_ratSub d117 (h110.ext (e111.trans (g115.ext.trans e117))).raw (h113.ext e117).raw (by omega) (by omega)
          with_reducible refine Post.mono k122 ?_
          clear k122
          rintro _ u120 g121 ⟨r118, rfl, h119⟩
          refine sy_idxO 105 (off' := ((n - y.n) + j) * 3) (n := n) (off := 0) (sz := 3) (i := (((n - y.n) + j : Nat) : Int)) sl41 (by omega) (by omega) (by omega) ?_
          refine sy_storeO (V := ⟨26, rcs M9 ++ X34⟩) (off := ((n - y.n) + j) * 3) (rcs ((M9).set ((n - y.n) + j) r118) ++ X34) ty26 (by rw [List.length_append, rcs_len]; first | omega | (simp; omega)) (setL_rcsX (r := r118) (i := (n - y.n) + j) (by first | omega | (simp; omega)) rfl) ?_
          refine sy_end ?_
          refine mp_seq ?_
          refine sw_reg ?_
          refine sy_eq 106 (x := .v (.int .i64 (IntKind.i64.wrap ((j : Int) + 1)))) (.v (.int .i64 ((j + 1 : Nat) : Int))) (eqI (by rw [IntWalk.i64_in _ (by omega)]; omega)) ?_
          refine sy_pure 86 (.v (.int .i64 ((j + 1 : Nat) : Int))) ?_
          refine sy_end ?_
          have hw9 := (Nt.WhL.subN (hWt.map hwd) (fun i => hwn.mul (hB i)) (a := n - y.n) (j := j + 1) (by simp; omega)) (n - y.n + j)
          have e9 : Nt.co (Nt.subN (n - y.n) nu q (t.map (· * de)) (j + 1)) (n - y.n + j) = (((Nt.subN (n - y.n) nu q (t.map (· * de)) j).getD ((n - y.n) + j) 0) - (nu * (q.getD j 0))) := by show Nt.co (List.set _ _ _) _ = _; rw [Nt.co_set (by simp; omega), if_pos rfl]
          rw [e9] at hw9
          refine ⟨_, ?_, St.of 112 [(1, .v (.slice y.a y.n y.c)), (6, .adr 6 0), (7, .adr 7 0), (8, .slc 8 0 ((x.n - y.n) + 1) ((x.n - y.n) + 1)), (9, .slc 9 0 n c32), (10, .adr 10 0), (11, .v (.int .i64 ((n - y.n : Nat) : Int))), (14, .adr 14 0), (84, .v (.slice y.a y.n y.c)), (85, .v (.int .i64 (y.n : Int))), (86, .v (.int .i64 ((j + 1 : Nat) : Int)))] [(6, ⟨26, [.bool false, .slice none 0 0, .slice none 0 0]⟩), (7, ⟨26, rf.cs⟩), (8, ⟨26, rcs ((Ls).set (n - y.n) (⟨r55.s, r55.m, y61⟩ : RL)) ++ []⟩), (9, ⟨26, rcs ((M9).set ((n - y.n) + j) r118) ++ X34⟩), (10, ⟨26, r49.cs⟩), (14, ⟨26, [.bool r55.s, .slice r55.m.a r55.m.n r55.m.c, .slice y61.a y61.n y61.c]⟩)], by exact weak_mk _ _ _, j + 1, (M9).set ((n - y.n) + j) r118, rfl, by omega, by simp; omega, rfl, (e106.trans (e111.trans (g115.ext.trans (e117.trans g121.ext)))), (RatsN.set (i := n - y.n + j) (hQ.ext (e111.trans (g115.ext.trans (e117.trans g121.ext)))) (by simp; omega) (RatN.fit (K := ((Nt.dg C) + ((Nt.dg C) + (Nt.dg C)) + 1)) h119 (hw9.more (by omega) : Nt.Wh _ C).rs))⟩
          omega
        · replace hb107 : (decide ((j : Int) < (y.n : Int))) = false := hb107
          have qhb107 := of_decide_eq_false hb107
          refine sw_exit ?_
          refine mp_seq ?_
          refine sw_reg ?_
          refine sy_pure 107 (.slc 9 0 n c32) ?_
          have kc124 := fun (g : Nat) (w u1 : World) (e : Ext u106 u1) (d : Dat u1 w) (hg : w.heap[g]? = some (.cells (rcs M9 ++ X34).toArray 26 (0, 0))) (hu : u1.heap[g]? = some hidO) => k_cutL (n := n) (c := c32) d hg hu (RatsN.ext hQ e) (by first | omega | (simp; omega)) (by omega) (by omega) (by omega)
          refine sy_lendS 108 118 (t := 9) (V := ⟨26, rcs M9 ++ X34⟩) (len := n) (cap := c32) [] (by kernel_rfl) kc124 ?_
          clear kc124
          rintro m123 _ u123 e123 ⟨rfl, hm123⟩
          refine sy_over 9 (.slc 9 0 m123 c32) ?_
          refine sy_end ?_
          have hj9 : j = y.n := by omega
          rw [hj9] at hm123
          have hmn : m123 ≤ n - 1 := by rw [hm123]; exact Nt.cut_lenQ hD2.tz (by omega)
          have hmz : ∀ i, m123 ≤ i → Nt.co (Nt.subN (n - y.n) nu q (t.map (· * de)) y.n) i = 0 := by rw [hm123]; exact Nt.cut_zeroQ (fun i hi => hD2.tz i (by omega))
          refine ⟨_, ?_, St.of 112 [(1, .v (.slice y.a y.n y.c)), (6, .adr 6 0), (7, .adr 7 0), (8, .slc 8 0 ((x.n - y.n) + 1) ((x.n - y.n) + 1)), (9, .slc 9 0 m123 c32), (10, .adr 10 0)] [(6, ⟨26, [.bool false, .slice none 0 0, .slice none 0 0]⟩), (7, ⟨26, rf.cs⟩), (8, ⟨26, rcs ((Ls).set (n - y.n) (⟨r55.s, r55.m, y61⟩ : RL)) ++ []⟩), (9, ⟨26, rcs M9 ++ X34⟩), (10, ⟨26, r49.cs⟩)], by exact weak_mk _ _ _, m123, k + 1, (Ls).set (n - y.n) (⟨r55.s, r55.m, y61⟩ : RL), M9, ((s.map (· * de)).set (n - y.n) nu), (Nt.subN (n - y.n) nu q (t.map (· * de)) y.n), rf, (f * de), rfl, by omega, by omega, (hD2.less (by omega) hmz), (Nt.WhL.set ((hWs.map hwd).more (by omega)) (hwn.more (by omega)) _), (hWt2.more (by omega)), ((hWf.mul hwd).more (by omega)), rfl, (e50.trans (e54.trans (g58.ext.trans (e60.trans (g64.ext.trans (e66.trans (g70.ext.trans (e72.trans (g74.ext.trans (e106.trans e123)))))))))), (hS8b.ext (e106.trans e123)), (by have h9 := (hQ.ext e123); rw [hj9] at h9; exact h9), (RatN.fit (K := (Nt.dg C)) (hF7.ext (e106.trans e123)) ((hWf.mul hwd).more (by omega) : Nt.Wh (f * de) C).rs)⟩
          omega
    · replace hb51 : (decide ((y.n : Int) ≤ (n : Int))) = false := hb51
      have qhb51 := of_decide_eq_false hb51
      refine sw_exit ?_
      refine mp_seq ?_
      refine sw_seq ?_
      refine sw_pub (r := 9) (t := 9) [9] (by repeat first | exact noAt_of | refine noAt_set ?_ | refine noAt_lit ?_ | refine noAt_new ?_ | refine noAt_setVar ?_ | refine noAt_unpub ?_) (by kernel_rfl) (by rfl) (by rfl) (by kernel_rfl) (fun b125 u126 e127 hb128 hh129 => ?_)
      have hp130 : PolN u126 ⟨some ⟨b125, 0, none⟩, n, c32⟩ (t.take n) (Nt.dg C) := pol_dataX hh129 (by rw [List.length_append, rcs_len]; first | omega | (simp; omega)) hmx41 (hRt.ext e127) (by omega)
      refine sw_pub (r := 8) (t := 8) [8] (by repeat first | exact noAt_of | refine noAt_set ?_ | refine noAt_lit ?_ | refine noAt_new ?_ | refine noAt_setVar ?_ | refine noAt_unpub ?_) (by kernel_rfl) (by rfl) (by rfl) (by kernel_rfl) (fun b131 u132 e133 hb134 hh135 => ?_)
      have hp136 : PolN u132 ⟨some ⟨b131, 0, none⟩, (x.n - y.n) + 1, (x.n - y.n) + 1⟩ (s.take ((x.n - y.n) + 1)) (Nt.dg C) := pol_dataX hh135 (by rw [List.length_append, rcs_len]; first | omega | (simp; omega)) (by unfold maxLen; omega) (hRs.ext (e127.trans e133)) (by omega)
      refine sw_any [0, 0, 0, 1, 11, 31] [(0, []), (1, []), (2, []), (3, []), (4, []), (5, [])] (by kernel_rfl) (by kernel_rfl) ?_
      refine sy_pure 109 (.v (.slice (some ⟨b131, 0, none⟩) ((x.n - y.n) + 1) ((x.n - y.n) + 1))) ?_
      refine sy_pure 110 (.v (.slice (some ⟨b125, 0, none⟩) n c32)) ?_
      refine sy_ldv 111 (.v (rf.v)) ty26 part_agg ?_
      refine sy_pure 4 (.v (.slice (some ⟨b131, 0, none⟩) ((x.n - y.n) + 1) ((x.n - y.n) + 1))) ?_
      refine sy_pure 5 (.v (.slice (some ⟨b125, 0, none⟩) n c32)) ?_
      refine sy_store ⟨26, rf.cs⟩ ty26 ?_
      refine sy_next 112 [(4, .v (.slice (some ⟨b131, 0, none⟩) ((x.n - y.n) + 1) ((x.n - y.n) + 1))), (5, .v (.slice (some ⟨b125, 0, none⟩) n c32)), (6, .adr 6 0)] [(6, ⟨26, rf.cs⟩)] ?_
      refine sw_ret (ret0 [.slice (some ⟨b131, 0, none⟩) ((x.n - y.n) + 1) ((x.n - y.n) + 1), .slice (some ⟨b125, 0, none⟩) n c32, rf.v] ⟨res_tmp, res_tmp, res_cell ty26 part_agg, trivial⟩ fun u137 e138 => ?_)
      have hCn := Nt.bits_le (k9 := k) hC (by omega)
      refine ⟨(⟨some ⟨b131, 0, none⟩, (x.n - y.n) + 1, (x.n - y.n) + 1⟩ : Sl), (⟨some ⟨b125, 0, none⟩, n, c32⟩ : Sl), rf, s, t.take n, f, rfl, ?_, (hp130.ext (e133.trans e138)), (hRf.ext (e127.trans (e133.trans e138))), hD.done (by omega), hWs.more hCn, (hWt.more hCn).take n⟩
      have h9 := (hp136.ext e138)
      rw [List.take_of_length_le (by omega)] at h9
      exact h9
end Go.Proofs.YtnedhbidmfoegaaGreat
