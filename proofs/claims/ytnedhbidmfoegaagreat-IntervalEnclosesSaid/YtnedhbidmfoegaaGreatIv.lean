/- Contracts of interval. Printed by wip/sym/g_itv.py. -/
import Derived.Test.YtnedhbidmfoegaaGreatRa
import Derived.Test.YtnedhbidmfoegaaGreatQi
namespace Go.Proofs.YtnedhbidmfoegaaGreat
open Go.RowKit
set_option linter.unusedVariables false
theorem k_ends {u w : World} {a1 a2 : RL} {x1 x2 : Rat} {K : Nat} (d : Dat u w) (ha1 : RatV u a1 x1 K) (ha2 : RatV u a2 x2 K) (hK : K ≤ 200000000) : Calls Tryz.prog 103 #[IV a1 a2] w (Post u w fun v u' => ∃ p q : RL, v = .tuple #[p.v, q.v] ∧ RatV u' p (Nt.lo x1 x2) K ∧ RatV u' q (Nt.hi x1 x2) K) := by
  refine calls_sym (args := [.agg #[.bool a1.s, .slice a1.m.a a1.m.n a1.m.c, .slice a1.d.a a1.d.n a1.d.c, .bool a2.s, .slice a2.m.a a2.m.n a2.m.c, .slice a2.d.a a2.d.n a2.d.c]]) Tryz.func103 rfl Tryz.ntmps103 (rs := [.cell 2 26, .cell 3 26]) Tryz.results103 (le_b rfl) (le_b rfl) d ?_
  refine sw_seq ?_
  refine sw_reg ?_
  refine sy_new 1 ⟨28, a1.cs ++ a2.cs⟩ ?_
  refine sy_new 2 ⟨26, [.bool false, .slice none 0 0, .slice none 0 0]⟩ ?_
  refine sy_new 3 ⟨26, [.bool false, .slice none 0 0, .slice none 0 0]⟩ ?_
  refine sy_next 18 [(1, .adr 1 0), (2, .adr 2 0), (3, .adr 3 0)] [(1, ⟨28, a1.cs ++ a2.cs⟩), (2, ⟨26, [.bool false, .slice none 0 0, .slice none 0 0]⟩), (3, ⟨26, [.bool false, .slice none 0 0, .slice none 0 0]⟩)] ?_
  refine sw_seq ?_
  refine sw_seq ?_
  refine sw_reg ?_
  refine sy_pure 4 (.adr 1 0) ?_
  refine sy_ldv 5 (.v (a1.v)) ty26 part_agg ?_
  refine sy_pure 6 (.adr 1 3) ?_
  refine sy_ldv 7 (.v (a2.v)) ty26 part_agg ?_
  refine sy_call 8 114 [a1.v, a2.v] ?_
  intro w11 u11 e11 d11
  have k14 := k_ratCompare d11 (ha1.ext e11) (ha2.ext e11) (by omega) (by omega)
  with_reducible refine Post.mono k14 ?_
  clear k14
  rintro _ u12 g13 rfl
  refine sy_pure 9 (.v (.bool (decide ((0 : Int) < (Nt.cmpQ x1 x2))))) ?_
  refine sy_next 18 [(1, .adr 1 0), (2, .adr 2 0), (3, .adr 3 0), (9, .v (.bool (decide ((0 : Int) < (Nt.cmpQ x1 x2)))))] [(1, ⟨28, a1.cs ++ a2.cs⟩), (2, ⟨26, [.bool false, .slice none 0 0, .slice none 0 0]⟩), (3, ⟨26, [.bool false, .slice none 0 0, .slice none 0 0]⟩)] ?_
  refine sw_cond (b := decide ((0 : Int) < (Nt.cmpQ x1 x2))) (by kernel_rfl) (fun hb15 => ?_) (fun hb15 => ?_)
  · replace hb15 : (decide ((0 : Int) < (Nt.cmpQ x1 x2))) = true := hb15
    refine sw_seq ?_
    refine sw_any [0, 1, 0, 4, 3, 31] [(0, []), (1, []), (2, []), (3, []), (4, [12]), (5, [])] (by kernel_rfl) (by kernel_rfl) ?_
    refine sy_pure 10 (.adr 1 3) ?_
    refine sy_ldv 11 (.v (a2.v)) ty26 part_agg ?_
    refine sy_pure 12 (.adr 1 0) ?_
    refine sy_ldv 13 (.v (a1.v)) ty26 part_agg ?_
    refine sy_store ⟨26, a2.cs⟩ ty26 ?_
    refine sy_store ⟨26, a1.cs⟩ ty26 ?_
    refine sy_next 18 [(2, .adr 2 0), (3, .adr 3 0)] [(2, ⟨26, a2.cs⟩), (3, ⟨26, a1.cs⟩)] ?_
    refine sw_ret (mpr_seq (ret0 [a2.v, a1.v] ⟨res_cell ty26 part_agg, res_cell ty26 part_agg, trivial⟩ fun u16 e17 => ?_))
    refine ⟨a2, a1, rfl, ?_, ?_⟩
    · rw [(Nt.ends_gt hb15).1]; exact (ha2.ext (e11.trans (g13.ext.trans e17)))
    · rw [(Nt.ends_gt hb15).2]; exact (ha1.ext (e11.trans (g13.ext.trans e17)))
  · replace hb15 : (decide ((0 : Int) < (Nt.cmpQ x1 x2))) = false := hb15
    refine sw_skip (mp_seq ?_)
    refine sw_seq ?_
    refine sw_any [0, 1, 0, 4, 3, 31] [(0, []), (1, []), (2, []), (3, []), (4, [16]), (5, [])] (by kernel_rfl) (by kernel_rfl) ?_
    refine sy_pure 14 (.adr 1 0) ?_
    refine sy_ldv 15 (.v (a1.v)) ty26 part_agg ?_
    refine sy_pure 16 (.adr 1 3) ?_
    refine sy_ldv 17 (.v (a2.v)) ty26 part_agg ?_
    refine sy_store ⟨26, a1.cs⟩ ty26 ?_
    refine sy_store ⟨26, a2.cs⟩ ty26 ?_
    refine sy_next 18 [(2, .adr 2 0), (3, .adr 3 0)] [(2, ⟨26, a1.cs⟩), (3, ⟨26, a2.cs⟩)] ?_
    refine sw_ret (ret0 [a1.v, a2.v] ⟨res_cell ty26 part_agg, res_cell ty26 part_agg, trivial⟩ fun u18 e19 => ?_)
    refine ⟨a1, a2, rfl, ?_, ?_⟩
    · rw [(Nt.ends_le hb15).1]; exact (ha1.ext (e11.trans (g13.ext.trans e19)))
    · rw [(Nt.ends_le hb15).2]; exact (ha2.ext (e11.trans (g13.ext.trans e19)))
theorem k_lesserV {u w : World} {a : RL} {x : Rat} {b : RL} {y : Rat} {K : Nat} (d : Dat u w) (ha : RatV u a x K) (hb : RatV u b y K) (hK : K ≤ 200000000) : Calls Tryz.prog 128 #[a.v, b.v] w (Post u w fun v u' => ∃ p : RL, v = p.v ∧ RatV u' p (Nt.lo x y) K) := by
  refine calls_sym (args := [a.v, b.v]) Tryz.func128 rfl Tryz.ntmps128 (rs := [.cell 4 26]) Tryz.results128 (le_b rfl) (le_b rfl) d ?_
  refine sw_seq ?_
  refine sw_reg ?_
  refine sy_new 2 ⟨26, a.cs⟩ ?_
  refine sy_new 3 ⟨26, b.cs⟩ ?_
  refine sy_new 4 ⟨26, [.bool false, .slice none 0 0, .slice none 0 0]⟩ ?_
  refine sy_next 11 [(2, .adr 2 0), (3, .adr 3 0), (4, .adr 4 0)] [(2, ⟨26, a.cs⟩), (3, ⟨26, b.cs⟩), (4, ⟨26, [.bool false, .slice none 0 0, .slice none 0 0]⟩)] ?_
  refine sw_seq ?_
  refine sw_seq ?_
  refine sw_reg ?_
  refine sy_ldv 5 (.v (b.v)) ty26 part_agg ?_
  refine sy_ldv 6 (.v (a.v)) ty26 part_agg ?_
  refine sy_call 7 114 [b.v, a.v] ?_
  intro w11 u11 e11 d11
  have k14 := k_ratCompare d11 (hb.ext e11) (ha.ext e11) (by omega) (by omega)
  with_reducible refine Post.mono k14 ?_
  clear k14
  rintro _ u12 g13 rfl
  refine sy_pure 8 (.v (.bool (decide ((Nt.cmpQ y x) < 0)))) ?_
  refine sy_next 11 [(2, .adr 2 0), (3, .adr 3 0), (4, .adr 4 0), (8, .v (.bool (decide ((Nt.cmpQ y x) < 0))))] [(2, ⟨26, a.cs⟩), (3, ⟨26, b.cs⟩), (4, ⟨26, [.bool false, .slice none 0 0, .slice none 0 0]⟩)] ?_
  refine sw_cond (b := decide ((Nt.cmpQ y x) < 0)) (by kernel_rfl) (fun hb15 => ?_) (fun hb15 => ?_)
  · replace hb15 : (decide ((Nt.cmpQ y x) < 0)) = true := hb15
    refine sw_seq ?_
    refine sw_reg ?_
    refine sy_ldv 9 (.v (b.v)) ty26 part_agg ?_
    refine sy_store ⟨26, b.cs⟩ ty26 ?_
    refine sy_next 11 [(4, .adr 4 0)] [(4, ⟨26, b.cs⟩)] ?_
    refine sw_ret (mpr_seq (ret0 [b.v] ⟨res_cell ty26 part_agg, trivial⟩ fun u16 e17 => ?_))
    refine ⟨b, rfl, ?_⟩
    rw [Nt.lesser_lt hb15]
    exact (hb.ext (e11.trans (g13.ext.trans e17)))
  · replace hb15 : (decide ((Nt.cmpQ y x) < 0)) = false := hb15
    refine sw_skip (mp_seq ?_)
    refine sw_seq ?_
    refine sw_reg ?_
    refine sy_ldv 10 (.v (a.v)) ty26 part_agg ?_
    refine sy_store ⟨26, a.cs⟩ ty26 ?_
    refine sy_next 11 [(4, .adr 4 0)] [(4, ⟨26, a.cs⟩)] ?_
    refine sw_ret (ret0 [a.v] ⟨res_cell ty26 part_agg, trivial⟩ fun u18 e19 => ?_)
    refine ⟨a, rfl, ?_⟩
    rw [Nt.lesser_ge hb15]
    exact (ha.ext (e11.trans (g13.ext.trans e19)))
theorem k_lesserN {u w : World} {a : RL} {x : Rat} {b : RL} {y : Rat} {K : Nat} (d : Dat u w) (ha : RatN u a x K) (hb : RatN u b y K) (hK : K ≤ 200000000) : Calls Tryz.prog 128 #[a.v, b.v] w (Post u w fun v u' => ∃ p : RL, v = p.v ∧ RatN u' p (Nt.lo x y) K) := by
  refine calls_sym (args := [a.v, b.v]) Tryz.func128 rfl Tryz.ntmps128 (rs := [.cell 4 26]) Tryz.results128 (le_b rfl) (le_b rfl) d ?_
  refine sw_seq ?_
  refine sw_reg ?_
  refine sy_new 2 ⟨26, a.cs⟩ ?_
  refine sy_new 3 ⟨26, b.cs⟩ ?_
  refine sy_new 4 ⟨26, [.bool false, .slice none 0 0, .slice none 0 0]⟩ ?_
  refine sy_next 11 [(2, .adr 2 0), (3, .adr 3 0), (4, .adr 4 0)] [(2, ⟨26, a.cs⟩), (3, ⟨26, b.cs⟩), (4, ⟨26, [.bool false, .slice none 0 0, .slice none 0 0]⟩)] ?_
  refine sw_seq ?_
  refine sw_seq ?_
  refine sw_reg ?_
  refine sy_ldv 5 (.v (b.v)) ty26 part_agg ?_
  refine sy_ldv 6 (.v (a.v)) ty26 part_agg ?_
  refine sy_call 7 114 [b.v, a.v] ?_
  intro w11 u11 e11 d11
  have k14 := k_ratCompare d11 (hb.ext e11).raw (ha.ext e11).raw (by omega) (by omega)
  with_reducible refine Post.mono k14 ?_
  clear k14
  rintro _ u12 g13 rfl
  refine sy_pure 8 (.v (.bool (decide ((Nt.cmpQ y x) < 0)))) ?_
  refine sy_next 11 [(2, .adr 2 0), (3, .adr 3 0), (4, .adr 4 0), (8, .v (.bool (decide ((Nt.cmpQ y x) < 0))))] [(2, ⟨26, a.cs⟩), (3, ⟨26, b.cs⟩), (4, ⟨26, [.bool false, .slice none 0 0, .slice none 0 0]⟩)] ?_
  refine sw_cond (b := decide ((Nt.cmpQ y x) < 0)) (by kernel_rfl) (fun hb15 => ?_) (fun hb15 => ?_)
  · replace hb15 : (decide ((Nt.cmpQ y x) < 0)) = true := hb15
    refine sw_seq ?_
    refine sw_reg ?_
    refine sy_ldv 9 (.v (b.v)) ty26 part_agg ?_
    refine sy_store ⟨26, b.cs⟩ ty26 ?_
    refine sy_next 11 [(4, .adr 4 0)] [(4, ⟨26, b.cs⟩)] ?_
    refine sw_ret (mpr_seq (ret0 [b.v] ⟨res_cell ty26 part_agg, trivial⟩ fun u16 e17 => ?_))
    refine ⟨b, rfl, ?_⟩
    rw [Nt.lesser_lt hb15]
    exact (hb.ext (e11.trans (g13.ext.trans e17)))
  · replace hb15 : (decide ((Nt.cmpQ y x) < 0)) = false := hb15
    refine sw_skip (mp_seq ?_)
    refine sw_seq ?_
    refine sw_reg ?_
    refine sy_ldv 10 (.v (a.v)) ty26 part_agg ?_
    refine sy_store ⟨26, a.cs⟩ ty26 ?_
    refine sy_next 11 [(4, .adr 4 0)] [(4, ⟨26, a.cs⟩)] ?_
    refine sw_ret (ret0 [a.v] ⟨res_cell ty26 part_agg, trivial⟩ fun u18 e19 => ?_)
    refine ⟨a, rfl, ?_⟩
    rw [Nt.lesser_ge hb15]
    exact (ha.ext (e11.trans (g13.ext.trans e19)))
theorem k_greaterV {u w : World} {a : RL} {x : Rat} {b : RL} {y : Rat} {K : Nat} (d : Dat u w) (ha : RatV u a x K) (hb : RatV u b y K) (hK : K ≤ 200000000) : Calls Tryz.prog 113 #[a.v, b.v] w (Post u w fun v u' => ∃ p : RL, v = p.v ∧ RatV u' p (Nt.hi x y) K) := by
  refine calls_sym (args := [a.v, b.v]) Tryz.func113 rfl Tryz.ntmps113 (rs := [.cell 4 26]) Tryz.results113 (le_b rfl) (le_b rfl) d ?_
  refine sw_seq ?_
  refine sw_reg ?_
  refine sy_new 2 ⟨26, a.cs⟩ ?_
  refine sy_new 3 ⟨26, b.cs⟩ ?_
  refine sy_new 4 ⟨26, [.bool false, .slice none 0 0, .slice none 0 0]⟩ ?_
  refine sy_next 11 [(2, .adr 2 0), (3, .adr 3 0), (4, .adr 4 0)] [(2, ⟨26, a.cs⟩), (3, ⟨26, b.cs⟩), (4, ⟨26, [.bool false, .slice none 0 0, .slice none 0 0]⟩)] ?_
  refine sw_seq ?_
  refine sw_seq ?_
  refine sw_reg ?_
  refine sy_ldv 5 (.v (b.v)) ty26 part_agg ?_
  refine sy_ldv 6 (.v (a.v)) ty26 part_agg ?_
  refine sy_call 7 114 [b.v, a.v] ?_
  intro w11 u11 e11 d11
  have k14 := k_ratCompare d11 (hb.ext e11) (ha.ext e11) (by omega) (by omega)
  with_reducible refine Post.mono k14 ?_
  clear k14
  rintro _ u12 g13 rfl
  refine sy_pure 8 (.v (.bool (decide ((0 : Int) < (Nt.cmpQ y x))))) ?_
  refine sy_next 11 [(2, .adr 2 0), (3, .adr 3 0), (4, .adr 4 0), (8, .v (.bool (decide ((0 : Int) < (Nt.cmpQ y x)))))] [(2, ⟨26, a.cs⟩), (3, ⟨26, b.cs⟩), (4, ⟨26, [.bool false, .slice none 0 0, .slice none 0 0]⟩)] ?_
  refine sw_cond (b := decide ((0 : Int) < (Nt.cmpQ y x))) (by kernel_rfl) (fun hb15 => ?_) (fun hb15 => ?_)
  · replace hb15 : (decide ((0 : Int) < (Nt.cmpQ y x))) = true := hb15
    refine sw_seq ?_
    refine sw_reg ?_
    refine sy_ldv 9 (.v (b.v)) ty26 part_agg ?_
    refine sy_store ⟨26, b.cs⟩ ty26 ?_
    refine sy_next 11 [(4, .adr 4 0)] [(4, ⟨26, b.cs⟩)] ?_
    refine sw_ret (mpr_seq (ret0 [b.v] ⟨res_cell ty26 part_agg, trivial⟩ fun u16 e17 => ?_))
    refine ⟨b, rfl, ?_⟩
    rw [Nt.greater_gt hb15]
    exact (hb.ext (e11.trans (g13.ext.trans e17)))
  · replace hb15 : (decide ((0 : Int) < (Nt.cmpQ y x))) = false := hb15
    refine sw_skip (mp_seq ?_)
    refine sw_seq ?_
    refine sw_reg ?_
    refine sy_ldv 10 (.v (a.v)) ty26 part_agg ?_
    refine sy_store ⟨26, a.cs⟩ ty26 ?_
    refine sy_next 11 [(4, .adr 4 0)] [(4, ⟨26, a.cs⟩)] ?_
    refine sw_ret (ret0 [a.v] ⟨res_cell ty26 part_agg, trivial⟩ fun u18 e19 => ?_)
    refine ⟨a, rfl, ?_⟩
    rw [Nt.greater_le hb15]
    exact (ha.ext (e11.trans (g13.ext.trans e19)))
theorem k_greaterN {u w : World} {a : RL} {x : Rat} {b : RL} {y : Rat} {K : Nat} (d : Dat u w) (ha : RatN u a x K) (hb : RatN u b y K) (hK : K ≤ 200000000) : Calls Tryz.prog 113 #[a.v, b.v] w (Post u w fun v u' => ∃ p : RL, v = p.v ∧ RatN u' p (Nt.hi x y) K) := by
  refine calls_sym (args := [a.v, b.v]) Tryz.func113 rfl Tryz.ntmps113 (rs := [.cell 4 26]) Tryz.results113 (le_b rfl) (le_b rfl) d ?_
  refine sw_seq ?_
  refine sw_reg ?_
  refine sy_new 2 ⟨26, a.cs⟩ ?_
  refine sy_new 3 ⟨26, b.cs⟩ ?_
  refine sy_new 4 ⟨26, [.bool false, .slice none 0 0, .slice none 0 0]⟩ ?_
  refine sy_next 11 [(2, .adr 2 0), (3, .adr 3 0), (4, .adr 4 0)] [(2, ⟨26, a.cs⟩), (3, ⟨26, b.cs⟩), (4, ⟨26, [.bool false, .slice none 0 0, .slice none 0 0]⟩)] ?_
  refine sw_seq ?_
  refine sw_seq ?_
  refine sw_reg ?_
  refine sy_ldv 5 (.v (b.v)) ty26 part_agg ?_
  refine sy_ldv 6 (.v (a.v)) ty26 part_agg ?_
  refine sy_call 7 114 [b.v, a.v] ?_
  intro w11 u11 e11 d11
  have k14 := k_ratCompare d11 (hb.ext e11).raw (ha.ext e11).raw (by omega) (by omega)
  with_reducible refine Post.mono k14 ?_
  clear k14
  rintro _ u12 g13 rfl
  refine sy_pure 8 (.v (.bool (decide ((0 : Int) < (Nt.cmpQ y x))))) ?_
  refine sy_next 11 [(2, .adr 2 0), (3, .adr 3 0), (4, .adr 4 0), (8, .v (.bool (decide ((0 : Int) < (Nt.cmpQ y x)))))] [(2, ⟨26, a.cs⟩), (3, ⟨26, b.cs⟩), (4, ⟨26, [.bool false, .slice none 0 0, .slice none 0 0]⟩)] ?_
  refine sw_cond (b := decide ((0 : Int) < (Nt.cmpQ y x))) (by kernel_rfl) (fun hb15 => ?_) (fun hb15 => ?_)
  · replace hb15 : (decide ((0 : Int) < (Nt.cmpQ y x))) = true := hb15
    refine sw_seq ?_
    refine sw_reg ?_
    refine sy_ldv 9 (.v (b.v)) ty26 part_agg ?_
    refine sy_store ⟨26, b.cs⟩ ty26 ?_
    refine sy_next 11 [(4, .adr 4 0)] [(4, ⟨26, b.cs⟩)] ?_
    refine sw_ret (mpr_seq (ret0 [b.v] ⟨res_cell ty26 part_agg, trivial⟩ fun u16 e17 => ?_))
    refine ⟨b, rfl, ?_⟩
    rw [Nt.greater_gt hb15]
    exact (hb.ext (e11.trans (g13.ext.trans e17)))
  · replace hb15 : (decide ((0 : Int) < (Nt.cmpQ y x))) = false := hb15
    refine sw_skip (mp_seq ?_)
    refine sw_seq ?_
    refine sw_reg ?_
    refine sy_ldv 10 (.v (a.v)) ty26 part_agg ?_
    refine sy_store ⟨26, a.cs⟩ ty26 ?_
    refine sy_next 11 [(4, .adr 4 0)] [(4, ⟨26, a.cs⟩)] ?_
    refine sw_ret (ret0 [a.v] ⟨res_cell ty26 part_agg, trivial⟩ fun u18 e19 => ?_)
    refine ⟨a, rfl, ?_⟩
    rw [Nt.greater_le hb15]
    exact (ha.ext (e11.trans (g13.ext.trans e19)))
theorem k_own {u w : World} {a : RL} {x : Rat} {K : Nat} (d : Dat u w) (ha : RatN u a x K) (hK : K ≤ 200000000) : Calls Tryz.prog 151 #[a.v] w (Post u w fun v u' => ∃ p : RL, v = p.v ∧ RatN u' p x K) := by
  refine calls_sym (args := [a.v]) Tryz.func151 rfl Tryz.ntmps151 (rs := [.cell 2 26]) Tryz.results151 (le_b rfl) (le_b rfl) d ?_
  refine sw_seq ?_
  refine sw_reg ?_
  refine sy_new 1 ⟨26, a.cs⟩ ?_
  refine sy_new 2 ⟨26, [.bool false, .slice none 0 0, .slice none 0 0]⟩ ?_
  refine sy_next 15 [(1, .adr 1 0), (2, .adr 2 0)] [(1, ⟨26, a.cs⟩), (2, ⟨26, [.bool false, .slice none 0 0, .slice none 0 0]⟩)] ?_
  refine sw_seq ?_
  refine sw_any [0, 1, 3, 0, 8, 24, 56, 127, 0, 256, 888, 2047, 4095] [(0, []), (1, []), (2, []), (3, []), (4, []), (5, []), (8, []), (9, []), (6, []), (7, []), (10, []), (11, []), (12, [])] (by kernel_rfl) (by kernel_rfl) ?_
  refine sy_pure 3 (.adr 1 0) ?_
  refine sy_pure 4 (.adr 1 0) ?_
  refine sy_ldv 5 (.v (.bool a.s)) ty4 part_one ?_
  refine sy_pure 6 (.adr 1 0) ?_
  refine sy_pure 7 (.adr 1 1) ?_
  refine sy_ldv 8 (.v (.slice a.m.a a.m.n a.m.c)) ty22 part_one ?_
  refine sy_pure 11 (.adr 1 2) ?_
  refine sy_ldv 12 (.v (.slice a.d.a a.d.n a.d.c)) ty22 part_one ?_
  refine sy_call 9 184 [.slice a.m.a a.m.n a.m.c] ?_
  intro w11 u11 e11 d11
  have k16 := k_cloneN d11 ((int_mag (RatN.num ha)).ext e11) (by omega)
  with_reducible refine Post.mono k16 ?_
  clear k16
  rintro _ u14 g15 ⟨x12, rfl, h13⟩
  refine sy_pure 10 (.v (.agg #[.bool a.s, .slice x12.a x12.n x12.c])) ?_
  refine sy_call 13 184 [.slice a.d.a a.d.n a.d.c] ?_
  intro w17 u17 e17 d17
  have k22 := k_cloneN d17 ((RatN.den ha).ext (e11.trans (g15.ext.trans e17))) (by omega)
  with_reducible refine Post.mono k22 ?_
  clear k22
  rintro _ u20 g21 ⟨x18, rfl, h19⟩
  refine sy_pure 14 (.v (.agg #[.bool a.s, .slice x12.a x12.n x12.c, .slice x18.a x18.n x18.c])) ?_
  refine sy_store ⟨26, [.bool a.s, .slice x12.a x12.n x12.c, .slice x18.a x18.n x18.c]⟩ ty26 ?_
  refine sy_next 15 [(2, .adr 2 0)] [(2, ⟨26, [.bool a.s, .slice x12.a x12.n x12.c, .slice x18.a x18.n x18.c]⟩)] ?_
  refine sw_ret (ret0 [.agg #[.bool a.s, .slice x12.a x12.n x12.c, .slice x18.a x18.n x18.c]] ⟨res_cell ty26 part_agg, trivial⟩ fun u23 e24 => ?_)
  exact ⟨(⟨a.s, x12, x18⟩ : RL), rfl, own_rat (r := a) ha (h13.ext (e17.trans (g21.ext.trans e24))) (h19.ext e24)⟩
set_option maxHeartbeats 1000000 in
theorem k_around {u w : World} {a1 a2 a3 a4 : RL} {x1 x2 x3 x4 : Rat} {K : Nat} (d : Dat u w) (ha1 : RatN u a1 x1 K) (ha2 : RatN u a2 x2 K) (ha3 : RatN u a3 x3 K) (ha4 : RatN u a4 x4 K) (hK : K ≤ 200000000) : Calls Tryz.prog 100 #[.agg #[.bool a1.s, .slice a1.m.a a1.m.n a1.m.c, .slice a1.d.a a1.d.n a1.d.c, .bool a2.s, .slice a2.m.a a2.m.n a2.m.c, .slice a2.d.a a2.d.n a2.d.c, .bool a3.s, .slice a3.m.a a3.m.n a3.m.c, .slice a3.d.a a3.d.n a3.d.c, .bool a4.s, .slice a4.m.a a4.m.n a4.m.c, .slice a4.d.a a4.d.n a4.d.c]] w (Post u w fun v u' => ∃ p q : RL, v = IV p q ∧ RatN u' p (Nt.lo4 x1 x2 x3 x4) K ∧ RatN u' q (Nt.hi4 x1 x2 x3 x4) K) := by
  refine calls_sym (args := [.agg #[.bool a1.s, .slice a1.m.a a1.m.n a1.m.c, .slice a1.d.a a1.d.n a1.d.c, .bool a2.s, .slice a2.m.a a2.m.n a2.m.c, .slice a2.d.a a2.d.n a2.d.c, .bool a3.s, .slice a3.m.a a3.m.n a3.m.c, .slice a3.d.a a3.d.n a3.d.c, .bool a4.s, .slice a4.m.a a4.m.n a4.m.c, .slice a4.d.a a4.d.n a4.d.c]]) Tryz.func100 rfl Tryz.ntmps100 (rs := [.cell 2 28]) Tryz.results100 (le_b rfl) (le_b rfl) d ?_
  refine sw_seq ?_
  refine sw_reg ?_
  refine sy_new 1 ⟨81, a1.cs ++ a2.cs ++ a3.cs ++ a4.cs⟩ ?_
  refine sy_new 2 ⟨28, [.bool false, .slice none 0 0, .slice none 0 0, .bool false, .slice none 0 0, .slice none 0 0]⟩ ?_
  refine sy_next 29 [(1, .adr 1 0), (2, .adr 2 0)] [(1, ⟨81, a1.cs ++ a2.cs ++ a3.cs ++ a4.cs⟩), (2, ⟨28, [.bool false, .slice none 0 0, .slice none 0 0, .bool false, .slice none 0 0, .slice none 0 0]⟩)] ?_
  refine sw_seq ?_
  refine sw_any [0, 1, 0, 4, 0, 0, 51, 127] [(0, []), (1, []), (2, []), (3, []), (4, []), (5, []), (6, [9]), (7, [])] (by kernel_rfl) (by kernel_rfl) ?_
  refine sy_pure 7 (.adr 1 0) ?_
  refine sy_ldv 8 (.v (a1.v)) ty26 part_agg ?_
  refine sy_pure 9 (.adr 1 0) ?_
  refine sy_ldv 10 (.v (a1.v)) ty26 part_agg ?_
  refine sy_new 3 ⟨26, [.bool false, .slice none 0 0, .slice none 0 0]⟩ ?_
  refine sy_new 4 ⟨26, [.bool false, .slice none 0 0, .slice none 0 0]⟩ ?_
  refine sy_store ⟨26, a1.cs⟩ ty26 ?_
  refine sy_store ⟨26, a1.cs⟩ ty26 ?_
  refine sy_next 29 [(1, .adr 1 0), (2, .adr 2 0), (3, .adr 3 0), (4, .adr 4 0)] [(1, ⟨81, a1.cs ++ a2.cs ++ a3.cs ++ a4.cs⟩), (2, ⟨28, [.bool false, .slice none 0 0, .slice none 0 0, .bool false, .slice none 0 0, .slice none 0 0]⟩), (3, ⟨26, a1.cs⟩), (4, ⟨26, a1.cs⟩)] ?_
  refine sw_seq ?_
  refine sw_seq ?_
  refine sw_reg ?_
  refine sy_pure 11 (.slc 1 3 3 3) ?_
  refine sy_pure 12 (.v (.int .i64 3)) ?_
  refine sy_pure 13 (.v (.int .i64 0)) ?_
  refine sy_next 29 [(2, .adr 2 0), (3, .adr 3 0), (4, .adr 4 0), (11, .slc 1 3 3 3), (12, .v (.int .i64 3)), (13, .v (.int .i64 0))] [(1, ⟨81, a1.cs ++ a2.cs ++ a3.cs ++ a4.cs⟩), (2, ⟨28, [.bool false, .slice none 0 0, .slice none 0 0, .bool false, .slice none 0 0, .slice none 0 0]⟩), (3, ⟨26, a1.cs⟩), (4, ⟨26, a1.cs⟩)] ?_
  refine sw_block ?_
  refine sw_rounds 3 ?_
  refine sw_seq ?_
  refine sw_reg ?_
  refine sy_pure 14 (.v (.bool true)) ?_
  refine sy_next 29 [(2, .adr 2 0), (3, .adr 3 0), (4, .adr 4 0), (11, .slc 1 3 3 3), (12, .v (.int .i64 3)), (13, .v (.int .i64 0)), (14, .v (.bool true))] [(1, ⟨81, a1.cs ++ a2.cs ++ a3.cs ++ a4.cs⟩), (2, ⟨28, [.bool false, .slice none 0 0, .slice none 0 0, .bool false, .slice none 0 0, .slice none 0 0]⟩), (3, ⟨26, a1.cs⟩), (4, ⟨26, a1.cs⟩)] ?_
  refine sw_seq ?_
  refine sw_true (by kernel_rfl) ?_
  refine sw_skip (mp_seq ?_)
  refine sw_seq ?_
  refine sw_block ?_
  refine sw_seq ?_
  refine sw_reg ?_
  refine sy_pure 15 (.adr 1 3) ?_
  refine sy_ldv 16 (.v (a2.v)) ty26 part_agg ?_
  refine sy_new 6 ⟨26, [.bool false, .slice none 0 0, .slice none 0 0]⟩ ?_
  refine sy_store ⟨26, a2.cs⟩ ty26 ?_
  refine sy_next 29 [(2, .adr 2 0), (3, .adr 3 0), (4, .adr 4 0), (6, .adr 6 0), (11, .slc 1 3 3 3), (12, .v (.int .i64 3)), (13, .v (.int .i64 0))] [(1, ⟨81, a1.cs ++ a2.cs ++ a3.cs ++ a4.cs⟩), (2, ⟨28, [.bool false, .slice none 0 0, .slice none 0 0, .bool false, .slice none 0 0, .slice none 0 0]⟩), (3, ⟨26, a1.cs⟩), (4, ⟨26, a1.cs⟩), (6, ⟨26, a2.cs⟩)] ?_
  refine sw_any [0, 0, 3, 0, 0, 31, 63, 127] [(0, []), (1, []), (3, []), (4, []), (2, []), (5, []), (6, []), (7, [])] (by kernel_rfl) (by kernel_rfl) ?_
  refine sy_ldv 17 (.v (a1.v)) ty26 part_agg ?_
  refine sy_ldv 18 (.v (a2.v)) ty26 part_agg ?_
  refine sy_ldv 20 (.v (a1.v)) ty26 part_agg ?_
  refine sy_ldv 21 (.v (a2.v)) ty26 part_agg ?_
  refine sy_call 19 128 [a1.v, a2.v] ?_
  intro w11 u11 e11 d11
  have k16 := k_lesserN d11 (ha1.ext e11) (ha2.ext e11) (by omega)
  with_reducible refine Post.mono k16 ?_
  clear k16
  rintro _ u14 g15 ⟨r12, rfl, h13⟩
  refine sy_call 22 113 [a1.v, a2.v] ?_
  intro w17 u17 e17 d17
  have k22 := k_greaterN d17 (ha1.ext (e11.trans (g15.ext.trans e17))) (ha2.ext (e11.trans (g15.ext.trans e17))) (by omega)
  with_reducible refine Post.mono k22 ?_
  clear k22
  rintro _ u20 g21 ⟨r18, rfl, h19⟩
  refine sy_store ⟨26, r12.cs⟩ ty26 ?_
  refine sy_store ⟨26, r18.cs⟩ ty26 ?_
  refine sy_end ?_
  refine mp_seq ?_
  refine sw_reg ?_
  refine sy_pure 23 (.v (.int .i64 1)) ?_
  refine sy_pure 13 (.v (.int .i64 1)) ?_
  refine sy_end ?_
  refine rn_next ?_
  refine sw_weak (T := St.of 29 [(2, .adr 2 0), (3, .adr 3 0), (4, .adr 4 0), (11, .slc 1 3 3 3), (12, .v (.int .i64 3)), (13, .v (.int .i64 1))] [(1, ⟨81, a1.cs ++ a2.cs ++ a3.cs ++ a4.cs⟩), (2, ⟨28, [.bool false, .slice none 0 0, .slice none 0 0, .bool false, .slice none 0 0, .slice none 0 0]⟩), (3, ⟨26, r12.cs⟩), (4, ⟨26, r18.cs⟩)]) (by exact weak_mk _ _ _) ?_
  refine sw_seq ?_
  refine sw_reg ?_
  refine sy_pure 14 (.v (.bool true)) ?_
  refine sy_next 29 [(2, .adr 2 0), (3, .adr 3 0), (4, .adr 4 0), (11, .slc 1 3 3 3), (12, .v (.int .i64 3)), (13, .v (.int .i64 1)), (14, .v (.bool true))] [(1, ⟨81, a1.cs ++ a2.cs ++ a3.cs ++ a4.cs⟩), (2, ⟨28, [.bool false, .slice none 0 0, .slice none 0 0, .bool false, .slice none 0 0, .slice none 0 0]⟩), (3, ⟨26, r12.cs⟩), (4, ⟨26, r18.cs⟩)] ?_
  refine sw_seq ?_
  refine sw_true (by kernel_rfl) ?_
  refine sw_skip (mp_seq ?_)
  refine sw_seq ?_
  refine sw_block ?_
  refine sw_seq ?_
  refine sw_reg ?_
  refine sy_pure 15 (.adr 1 6) ?_
  refine sy_ldv 16 (.v (a3.v)) ty26 part_agg ?_
  refine sy_new 6 ⟨26, [.bool false, .slice none 0 0, .slice none 0 0]⟩ ?_
  refine sy_store ⟨26, a3.cs⟩ ty26 ?_
  refine sy_next 29 [(2, .adr 2 0), (3, .adr 3 0), (4, .adr 4 0), (6, .adr 6 0), (11, .slc 1 3 3 3), (12, .v (.int .i64 3)), (13, .v (.int .i64 1))] [(1, ⟨81, a1.cs ++ a2.cs ++ a3.cs ++ a4.cs⟩), (2, ⟨28, [.bool false, .slice none 0 0, .slice none 0 0, .bool false, .slice none 0 0, .slice none 0 0]⟩), (3, ⟨26, r12.cs⟩), (4, ⟨26, r18.cs⟩), (6, ⟨26, a3.cs⟩)] ?_
  refine sw_any [0, 0, 3, 0, 0, 31, 63, 127] [(0, []), (1, []), (3, []), (4, []), (2, []), (5, []), (6, []), (7, [])] (by kernel_rfl) (by kernel_rfl) ?_
  refine sy_ldv 17 (.v (r12.v)) ty26 part_agg ?_
  refine sy_ldv 18 (.v (a3.v)) ty26 part_agg ?_
  refine sy_ldv 20 (.v (r18.v)) ty26 part_agg ?_
  refine sy_ldv 21 (.v (a3.v)) ty26 part_agg ?_
  refine sy_call 19 128 [r12.v, a3.v] ?_
  intro w23 u23 e23 d23
  have k28 := k_lesserN d23 (h13.ext (e17.trans (g21.ext.trans e23))) (ha3.ext (e11.trans (g15.ext.trans (e17.trans (g21.ext.trans e23))))) (by omega)
  with_reducible refine Post.mono k28 ?_
  clear k28
  rintro _ u26 g27 ⟨r24, rfl, h25⟩
  refine sy_call 22 113 [r18.v, a3.v] ?_
  intro w29 u29 e29 d29
  have k34 := k_greaterN d29 (h19.ext (e23.trans (g27.ext.trans e29))) (ha3.ext (e11.trans (g15.ext.trans (e17.trans (g21.ext.trans (e23.trans (g27.ext.trans e29))))))) (by omega)
  with_reducible refine Post.mono k34 ?_
  clear k34
  rintro _ u32 g33 ⟨r30, rfl, h31⟩
  refine sy_store ⟨26, r24.cs⟩ ty26 ?_
  refine sy_store ⟨26, r30.cs⟩ ty26 ?_
  refine sy_end ?_
  refine mp_seq ?_
  refine sw_reg ?_
  refine sy_pure 23 (.v (.int .i64 2)) ?_
  refine sy_pure 13 (.v (.int .i64 2)) ?_
  refine sy_end ?_
  refine rn_next ?_
  refine sw_weak (T := St.of 29 [(2, .adr 2 0), (3, .adr 3 0), (4, .adr 4 0), (11, .slc 1 3 3 3), (12, .v (.int .i64 3)), (13, .v (.int .i64 2))] [(1, ⟨81, a1.cs ++ a2.cs ++ a3.cs ++ a4.cs⟩), (2, ⟨28, [.bool false, .slice none 0 0, .slice none 0 0, .bool false, .slice none 0 0, .slice none 0 0]⟩), (3, ⟨26, r24.cs⟩), (4, ⟨26, r30.cs⟩)]) (by exact weak_mk _ _ _) ?_
  refine sw_seq ?_
  refine sw_reg ?_
  refine sy_pure 14 (.v (.bool true)) ?_
  refine sy_next 29 [(2, .adr 2 0), (3, .adr 3 0), (4, .adr 4 0), (11, .slc 1 3 3 3), (12, .v (.int .i64 3)), (13, .v (.int .i64 2)), (14, .v (.bool true))] [(1, ⟨81, a1.cs ++ a2.cs ++ a3.cs ++ a4.cs⟩), (2, ⟨28, [.bool false, .slice none 0 0, .slice none 0 0, .bool false, .slice none 0 0, .slice none 0 0]⟩), (3, ⟨26, r24.cs⟩), (4, ⟨26, r30.cs⟩)] ?_
  refine sw_seq ?_
  refine sw_true (by kernel_rfl) ?_
  refine sw_skip (mp_seq ?_)
  refine sw_seq ?_
  refine sw_block ?_
  refine sw_seq ?_
  refine sw_reg ?_
  refine sy_pure 15 (.adr 1 9) ?_
  refine sy_ldv 16 (.v (a4.v)) ty26 part_agg ?_
  refine sy_new 6 ⟨26, [.bool false, .slice none 0 0, .slice none 0 0]⟩ ?_
  refine sy_store ⟨26, a4.cs⟩ ty26 ?_
  refine sy_next 29 [(2, .adr 2 0), (3, .adr 3 0), (4, .adr 4 0), (6, .adr 6 0), (11, .slc 1 3 3 3), (12, .v (.int .i64 3)), (13, .v (.int .i64 2))] [(1, ⟨81, a1.cs ++ a2.cs ++ a3.cs ++ a4.cs⟩), (2, ⟨28, [.bool false, .slice none 0 0, .slice none 0 0, .bool false, .slice none 0 0, .slice none 0 0]⟩), (3, ⟨26, r24.cs⟩), (4, ⟨26, r30.cs⟩), (6, ⟨26, a4.cs⟩)] ?_
  refine sw_any [0, 0, 3, 0, 0, 31, 63, 127] [(0, []), (1, []), (3, []), (4, []), (2, []), (5, []), (6, []), (7, [])] (by kernel_rfl) (by kernel_rfl) ?_
  refine sy_ldv 17 (.v (r24.v)) ty26 part_agg ?_
  refine sy_ldv 18 (.v (a4.v)) ty26 part_agg ?_
  refine sy_ldv 20 (.v (r30.v)) ty26 part_agg ?_
  refine sy_ldv 21 (.v (a4.v)) ty26 part_agg ?_
  refine sy_call 19 128 [r24.v, a4.v] ?_
  intro w35 u35 e35 d35
  have k40 := k_lesserN d35 (h25.ext (e29.trans (g33.ext.trans e35))) (ha4.ext (e11.trans (g15.ext.trans (e17.trans (g21.ext.trans (e23.trans (g27.ext.trans (e29.trans (g33.ext.trans e35))))))))) (by omega)
  with_reducible refine Post.mono k40 ?_
  clear k40
  rintro _ u38 g39 ⟨r36, rfl, h37⟩
  refine sy_call 22 113 [r30.v, a4.v] ?_
  intro w41 u41 e41 d41
  have k46 := k_greaterN d41 (h31.ext (e35.trans (g39.ext.trans e41))) (ha4.ext (e11.trans (g15.ext.trans (e17.trans (g21.ext.trans (e23.trans (g27.ext.trans (e29.trans (g33.ext.trans (e35.trans (g39.ext.trans e41))))))))))) (by omega)
  with_reducible refine Post.mono k46 ?_
  clear k46
  rintro _ u44 g45 ⟨r42, rfl, h43⟩
  refine sy_store ⟨26, r36.cs⟩ ty26 ?_
  refine sy_store ⟨26, r42.cs⟩ ty26 ?_
  refine sy_end ?_
  refine mp_seq ?_
  refine sw_reg ?_
  refine sy_pure 23 (.v (.int .i64 3)) ?_
  refine sy_pure 13 (.v (.int .i64 3)) ?_
  refine sy_end ?_
  refine rn_next ?_
  refine sw_weak (T := St.of 29 [(2, .adr 2 0), (3, .adr 3 0), (4, .adr 4 0), (11, .slc 1 3 3 3), (12, .v (.int .i64 3)), (13, .v (.int .i64 3))] [(1, ⟨81, a1.cs ++ a2.cs ++ a3.cs ++ a4.cs⟩), (2, ⟨28, [.bool false, .slice none 0 0, .slice none 0 0, .bool false, .slice none 0 0, .slice none 0 0]⟩), (3, ⟨26, r36.cs⟩), (4, ⟨26, r42.cs⟩)]) (by exact weak_mk _ _ _) ?_
  refine sw_seq ?_
  refine sw_reg ?_
  refine sy_pure 14 (.v (.bool false)) ?_
  refine sy_next 29 [(2, .adr 2 0), (3, .adr 3 0), (4, .adr 4 0), (11, .slc 1 3 3 3), (12, .v (.int .i64 3)), (13, .v (.int .i64 3)), (14, .v (.bool false))] [(1, ⟨81, a1.cs ++ a2.cs ++ a3.cs ++ a4.cs⟩), (2, ⟨28, [.bool false, .slice none 0 0, .slice none 0 0, .bool false, .slice none 0 0, .slice none 0 0]⟩), (3, ⟨26, r36.cs⟩), (4, ⟨26, r42.cs⟩)] ?_
  refine sw_seq ?_
  refine sw_false (by kernel_rfl) ?_
  refine sw_exit ?_
  refine mp_seq ?_
  refine sw_seq ?_
  refine sw_any [0, 1, 0, 7, 15, 31] [(0, []), (2, []), (1, []), (3, []), (4, []), (5, [])] (by kernel_rfl) (by kernel_rfl) ?_
  refine sy_ldv 24 (.v (r36.v)) ty26 part_agg ?_
  refine sy_ldv 26 (.v (r42.v)) ty26 part_agg ?_
  refine sy_call 25 151 [r36.v] ?_
  intro w47 u47 e47 d47
  have k52 := k_own d47 (h37.ext (e41.trans (g45.ext.trans e47))) (by omega)
  with_reducible refine Post.mono k52 ?_
  clear k52
  rintro _ u50 g51 ⟨r48, rfl, h49⟩
  refine sy_call 27 151 [r42.v] ?_
  intro w53 u53 e53 d53
  have k58 := k_own d53 (h43.ext (e47.trans (g51.ext.trans e53))) (by omega)
  with_reducible refine Post.mono k58 ?_
  clear k58
  rintro _ u56 g57 ⟨r54, rfl, h55⟩
  refine sy_pure 28 (.v (.agg #[.bool r48.s, .slice r48.m.a r48.m.n r48.m.c, .slice r48.d.a r48.d.n r48.d.c, .bool r54.s, .slice r54.m.a r54.m.n r54.m.c, .slice r54.d.a r54.d.n r54.d.c])) ?_
  refine sy_store ⟨28, r48.cs ++ r54.cs⟩ ty28 ?_
  refine sy_next 29 [(2, .adr 2 0)] [(2, ⟨28, r48.cs ++ r54.cs⟩)] ?_
  refine sw_ret (ret0 [.agg #[.bool r48.s, .slice r48.m.a r48.m.n r48.m.c, .slice r48.d.a r48.d.n r48.d.c, .bool r54.s, .slice r54.m.a r54.m.n r54.m.c, .slice r54.d.a r54.d.n r54.d.c]] ⟨res_cell ty28 part_agg, trivial⟩ fun u59 e60 => ?_)
  refine ⟨r48, r54, rfl, RatN.more (K := K) ?_ (by omega), RatN.more (K := K) ?_ (by omega)⟩
  · exact (h49.ext (e53.trans (g57.ext.trans e60)))
  · exact (h55.ext e60)
theorem k_ivMake {u w : World} {a : RL} {x : Rat} {b : RL} {y : Rat} {K : Nat} (d : Dat u w) (ha : RatV u a x K) (hb : RatV u b y K) (hK : K ≤ 100000000) : Calls Tryz.prog 70 #[a.v, b.v] w (Post u w fun v u' => ∃ p q : RL, v = IV p q ∧ RatN u' p (Nt.lo x y) K ∧ RatN u' q (Nt.hi x y) K) := by
  refine calls_sym (args := [a.v, b.v]) Tryz.func70 rfl Tryz.ntmps70 (rs := [.cell 4 28]) Tryz.results70 (le_b rfl) (le_b rfl) d ?_
  refine sw_seq ?_
  refine sw_reg ?_
  refine sy_new 2 ⟨26, a.cs⟩ ?_
  refine sy_new 3 ⟨26, b.cs⟩ ?_
  refine sy_new 4 ⟨28, [.bool false, .slice none 0 0, .slice none 0 0, .bool false, .slice none 0 0, .slice none 0 0]⟩ ?_
  refine sy_next 19 [(2, .adr 2 0), (3, .adr 3 0), (4, .adr 4 0)] [(2, ⟨26, a.cs⟩), (3, ⟨26, b.cs⟩), (4, ⟨28, [.bool false, .slice none 0 0, .slice none 0 0, .bool false, .slice none 0 0, .slice none 0 0]⟩)] ?_
  refine sw_seq ?_
  refine sw_reg ?_
  refine sy_ldv 8 (.v (a.v)) ty26 part_agg ?_
  refine sy_ldv 9 (.v (b.v)) ty26 part_agg ?_
  refine sy_pure 10 (.v (.agg #[.bool a.s, .slice a.m.a a.m.n a.m.c, .slice a.d.a a.d.n a.d.c, .bool b.s, .slice b.m.a b.m.n b.m.c, .slice b.d.a b.d.n b.d.c])) ?_
  refine sy_call 11 103 [.agg #[.bool a.s, .slice a.m.a a.m.n a.m.c, .slice a.d.a a.d.n a.d.c, .bool b.s, .slice b.m.a b.m.n b.m.c, .slice b.d.a b.d.n b.d.c]] ?_
  intro w11 u11 e11 d11
  have k18 := k_ends d11 (ha.ext e11) (hb.ext e11) (by omega)
  with_reducible refine Post.mono k18 ?_
  clear k18
  rintro _ u16 g17 ⟨r12, r14, rfl, h13, h15⟩
  refine sy_pure 7 (.v (.tuple #[r12.v, r14.v])) ?_
  refine sy_pure 12 (.v (r12.v)) ?_
  refine sy_pure 13 (.v (r14.v)) ?_
  refine sy_new 5 ⟨26, [.bool false, .slice none 0 0, .slice none 0 0]⟩ ?_
  refine sy_new 6 ⟨26, [.bool false, .slice none 0 0, .slice none 0 0]⟩ ?_
  refine sy_store ⟨26, r12.cs⟩ ty26 ?_
  refine sy_store ⟨26, r14.cs⟩ ty26 ?_
  refine sy_next 19 [(4, .adr 4 0), (5, .adr 5 0), (6, .adr 6 0)] [(4, ⟨28, [.bool false, .slice none 0 0, .slice none 0 0, .bool false, .slice none 0 0, .slice none 0 0]⟩), (5, ⟨26, r12.cs⟩), (6, ⟨26, r14.cs⟩)] ?_
  refine sw_seq ?_
  refine sw_any [0, 1, 0, 7, 15, 31] [(0, []), (2, []), (1, []), (3, []), (4, []), (5, [])] (by kernel_rfl) (by kernel_rfl) ?_
  refine sy_ldv 14 (.v (r12.v)) ty26 part_agg ?_
  refine sy_ldv 16 (.v (r14.v)) ty26 part_agg ?_
  refine sy_call 15 126 [r12.v] ?_
  intro w19 u19 e19 d19
  have k24 := k_ratTrim d19 (h13.ext e19) (by omega)
  with_reducible refine Post.mono k24 ?_
  clear k24
  rintro _ u22 g23 ⟨r20, rfl, h21⟩
  refine sy_call 17 126 [r14.v] ?_
  intro w25 u25 e25 d25
  have k30 := k_ratTrim d25 (h15.ext (e19.trans (g23.ext.trans e25))) (by omega)
  with_reducible refine Post.mono k30 ?_
  clear k30
  rintro _ u28 g29 ⟨r26, rfl, h27⟩
  refine sy_pure 18 (.v (.agg #[.bool r20.s, .slice r20.m.a r20.m.n r20.m.c, .slice r20.d.a r20.d.n r20.d.c, .bool r26.s, .slice r26.m.a r26.m.n r26.m.c, .slice r26.d.a r26.d.n r26.d.c])) ?_
  refine sy_store ⟨28, r20.cs ++ r26.cs⟩ ty28 ?_
  refine sy_next 19 [(4, .adr 4 0)] [(4, ⟨28, r20.cs ++ r26.cs⟩)] ?_
  refine sw_ret (ret0 [.agg #[.bool r20.s, .slice r20.m.a r20.m.n r20.m.c, .slice r20.d.a r20.d.n r20.d.c, .bool r26.s, .slice r26.m.a r26.m.n r26.m.c, .slice r26.d.a r26.d.n r26.d.c]] ⟨res_cell ty28 part_agg, trivial⟩ fun u31 e32 => ?_)
  refine ⟨r20, r26, rfl, RatN.more (K := K) ?_ (by omega), RatN.more (K := K) ?_ (by omega)⟩
  · exact (h21.ext (e25.trans (g29.ext.trans e32)))
  · exact (h27.ext e32)
theorem k_ivTrim {u w : World} {a1 a2 : RL} {x1 x2 : Rat} {K : Nat} (d : Dat u w) (ha1 : RatV u a1 x1 K) (ha2 : RatV u a2 x2 K) (hK : K ≤ 100000000) : Calls Tryz.prog 68 #[IV a1 a2] w (Post u w fun v u' => ∃ p q : RL, v = IV p q ∧ RatN u' p (Nt.lo x1 x2) K ∧ RatN u' q (Nt.hi x1 x2) K) := by
  refine calls_sym (args := [.agg #[.bool a1.s, .slice a1.m.a a1.m.n a1.m.c, .slice a1.d.a a1.d.n a1.d.c, .bool a2.s, .slice a2.m.a a2.m.n a2.m.c, .slice a2.d.a a2.d.n a2.d.c]]) Tryz.func68 rfl Tryz.ntmps68 (rs := [.cell 2 28]) Tryz.results68 (le_b rfl) (le_b rfl) d ?_
  refine sw_seq ?_
  refine sw_reg ?_
  refine sy_new 1 ⟨28, a1.cs ++ a2.cs⟩ ?_
  refine sy_new 2 ⟨28, [.bool false, .slice none 0 0, .slice none 0 0, .bool false, .slice none 0 0, .slice none 0 0]⟩ ?_
  refine sy_next 8 [(1, .adr 1 0), (2, .adr 2 0)] [(1, ⟨28, a1.cs ++ a2.cs⟩), (2, ⟨28, [.bool false, .slice none 0 0, .slice none 0 0, .bool false, .slice none 0 0, .slice none 0 0]⟩)] ?_
  refine sw_seq ?_
  refine sw_reg ?_
  refine sy_pure 3 (.adr 1 0) ?_
  refine sy_ldv 4 (.v (a1.v)) ty26 part_agg ?_
  refine sy_pure 5 (.adr 1 3) ?_
  refine sy_ldv 6 (.v (a2.v)) ty26 part_agg ?_
  refine sy_call 7 70 [a1.v, a2.v] ?_
  intro w11 u11 e11 d11
  have k18 := k_ivMake d11 (ha1.ext e11) (ha2.ext e11) (by omega)
  with_reducible refine Post.mono k18 ?_
  clear k18
  rintro _ u16 g17 ⟨r12, r14, rfl, h13, h15⟩
  refine sy_store ⟨28, r12.cs ++ r14.cs⟩ ty28 ?_
  refine sy_next 8 [(2, .adr 2 0)] [(2, ⟨28, r12.cs ++ r14.cs⟩)] ?_
  refine sw_ret (ret0 [.agg #[.bool r12.s, .slice r12.m.a r12.m.n r12.m.c, .slice r12.d.a r12.d.n r12.d.c, .bool r14.s, .slice r14.m.a r14.m.n r14.m.c, .slice r14.d.a r14.d.n r14.d.c]] ⟨res_cell ty28 part_agg, trivial⟩ fun u19 e20 => ?_)
  refine ⟨r12, r14, rfl, RatN.more (K := K) ?_ (by omega), RatN.more (K := K) ?_ (by omega)⟩
  · exact (h13.ext e20)
  · exact (h15.ext e20)
theorem k_ivContains {u w : World} {a1 a2 : RL} {x1 x2 : Rat} {b : RL} {y : Rat} {K L : Nat} (d : Dat u w) (ha1 : RatV u a1 x1 K) (ha2 : RatV u a2 x2 K) (hb : RatV u b y L) (hK : K ≤ 100000000) (hL : L ≤ 100000000) : Calls Tryz.prog 24 #[IV a1 a2, b.v] w (Post u w fun v u' => v = .bool (Nt.inI x1 x2 y)) := by
  refine calls_sym (args := [.agg #[.bool a1.s, .slice a1.m.a a1.m.n a1.m.c, .slice a1.d.a a1.d.n a1.d.c, .bool a2.s, .slice a2.m.a a2.m.n a2.m.c, .slice a2.d.a a2.d.n a2.d.c], b.v]) Tryz.func24 rfl Tryz.ntmps24 (rs := [.tmp 4]) Tryz.results24 (le_b rfl) (le_b rfl) d ?_
  refine sw_seq ?_
  refine sw_reg ?_
  refine sy_new 2 ⟨28, a1.cs ++ a2.cs⟩ ?_
  refine sy_new 3 ⟨26, b.cs⟩ ?_
  refine sy_pure 4 (.v (.bool false)) ?_
  refine sy_next 22 [(2, .adr 2 0), (3, .adr 3 0)] [(2, ⟨28, a1.cs ++ a2.cs⟩), (3, ⟨26, b.cs⟩)] ?_
  refine sw_seq ?_
  refine sw_reg ?_
  refine sy_ldv 8 (.v (.agg #[.bool a1.s, .slice a1.m.a a1.m.n a1.m.c, .slice a1.d.a a1.d.n a1.d.c, .bool a2.s, .slice a2.m.a a2.m.n a2.m.c, .slice a2.d.a a2.d.n a2.d.c])) ty28 part_agg ?_
  refine sy_call 9 103 [.agg #[.bool a1.s, .slice a1.m.a a1.m.n a1.m.c, .slice a1.d.a a1.d.n a1.d.c, .bool a2.s, .slice a2.m.a a2.m.n a2.m.c, .slice a2.d.a a2.d.n a2.d.c]] ?_
  intro w11 u11 e11 d11
  have k18 := k_ends d11 (ha1.ext e11) (ha2.ext e11) (by omega)
  with_reducible refine Post.mono k18 ?_
  clear k18
  rintro _ u16 g17 ⟨r12, r14, rfl, h13, h15⟩
  refine sy_pure 7 (.v (.tuple #[r12.v, r14.v])) ?_
  refine sy_pure 10 (.v (r12.v)) ?_
  refine sy_pure 11 (.v (r14.v)) ?_
  refine sy_new 5 ⟨26, [.bool false, .slice none 0 0, .slice none 0 0]⟩ ?_
  refine sy_new 6 ⟨26, [.bool false, .slice none 0 0, .slice none 0 0]⟩ ?_
  refine sy_store ⟨26, r12.cs⟩ ty26 ?_
  refine sy_store ⟨26, r14.cs⟩ ty26 ?_
  refine sy_next 22 [(3, .adr 3 0), (5, .adr 5 0), (6, .adr 6 0)] [(3, ⟨26, b.cs⟩), (5, ⟨26, r12.cs⟩), (6, ⟨26, r14.cs⟩)] ?_
  refine sw_seq ?_
  refine sw_reg ?_
  refine sy_ldv 12 (.v (r12.v)) ty26 part_agg ?_
  refine sy_ldv 13 (.v (b.v)) ty26 part_agg ?_
  refine sy_call 14 114 [r12.v, b.v] ?_
  intro w19 u19 e19 d19
  have k22 := k_ratCompare d19 (h13.ext e19) (hb.ext (e11.trans (g17.ext.trans e19))) (by omega) (by omega)
  with_reducible refine Post.mono k22 ?_
  clear k22
  rintro _ u20 g21 rfl
  refine sy_pure 15 (.v (.bool (decide ((Nt.cmpQ (Nt.lo x1 x2) y) ≤ 0)))) ?_
  rcases Bool.eq_false_or_eq_true (decide ((Nt.cmpQ (Nt.lo x1 x2) y) ≤ 0)) with hs23 | hs23
  · refine sy_eq 16 (x := .v (.bool (decide ((Nt.cmpQ (Nt.lo x1 x2) y) ≤ 0)))) (.v (.bool true)) (by rw [hs23]) ?_
    refine sy_ldv 17 (.v (b.v)) ty26 part_agg ?_ (hw := wants1 (g := 4) (b := true) (t := 16) (by kernel_rfl) (by kernel_rfl) (by kernel_rfl))
    refine sy_ldv 18 (.v (r14.v)) ty26 part_agg ?_ (hw := wants1 (g := 4) (b := true) (t := 16) (by kernel_rfl) (by kernel_rfl) (by kernel_rfl))
    refine sy_call 19 114 [b.v, r14.v] ?_ (hw := wants1 (g := 4) (b := true) (t := 16) (by kernel_rfl) (by kernel_rfl) (by kernel_rfl))
    intro w24 u24 e24 d24
    have k27 := k_ratCompare d24 (hb.ext (e11.trans (g17.ext.trans (e19.trans (g21.ext.trans e24))))) (h15.ext (e19.trans (g21.ext.trans e24))) (by omega) (by omega)
    with_reducible refine Post.mono k27 ?_
    clear k27
    rintro _ u25 g26 rfl
    refine sy_pure 20 (.v (.bool (decide ((Nt.cmpQ y (Nt.hi x1 x2)) ≤ 0)))) ?_ (hw := wants1 (g := 4) (b := true) (t := 16) (by kernel_rfl) (by kernel_rfl) (by kernel_rfl))
    refine sy_pure 21 (.v (.bool (decide ((Nt.cmpQ y (Nt.hi x1 x2)) ≤ 0)))) ?_
    refine sy_pure 4 (.v (.bool (decide ((Nt.cmpQ y (Nt.hi x1 x2)) ≤ 0)))) ?_
    refine sy_next 22 [(4, .v (.bool (decide ((Nt.cmpQ y (Nt.hi x1 x2)) ≤ 0))))] [] ?_
    refine sw_ret (ret0 [.bool (decide ((Nt.cmpQ y (Nt.hi x1 x2)) ≤ 0))] ⟨res_tmp, trivial⟩ fun u28 e29 => ?_)
    show _ = _
    unfold Nt.inI
    rw [← Nt.cmpQ_le, ← Nt.cmpQ_le, hs23]
    rfl
  · refine sy_eq 16 (x := .v (.bool (decide ((Nt.cmpQ (Nt.lo x1 x2) y) ≤ 0)))) (.v (.bool false)) (by rw [hs23]) ?_
    refine sy_drop 17 (unwanted (g := 4) (b := true) (c := false) (t := 16) (by kernel_rfl) (by kernel_rfl) (by kernel_rfl) (by kernel_rfl)) ?_
    refine sy_drop 18 (unwanted (g := 4) (b := true) (c := false) (t := 16) (by kernel_rfl) (by kernel_rfl) (by kernel_rfl) (by kernel_rfl)) ?_
    refine sy_drop 19 (unwanted (g := 4) (b := true) (c := false) (t := 16) (by kernel_rfl) (by kernel_rfl) (by kernel_rfl) (by kernel_rfl)) ?_
    refine sy_drop 20 (unwanted (g := 4) (b := true) (c := false) (t := 16) (by kernel_rfl) (by kernel_rfl) (by kernel_rfl) (by kernel_rfl)) ?_
    refine sy_pure 21 (.v (.bool false)) ?_
    refine sy_pure 4 (.v (.bool false)) ?_
    refine sy_next 22 [(4, .v (.bool false))] [] ?_
    refine sw_ret (ret0 [.bool false] ⟨res_tmp, trivial⟩ fun u30 e31 => ?_)
    show _ = _
    unfold Nt.inI
    rw [← Nt.cmpQ_le, ← Nt.cmpQ_le, hs23]
    rfl
theorem k_ivInside {u w : World} {a1 a2 : RL} {x1 x2 : Rat} {b1 b2 : RL} {y1 y2 : Rat} {K L : Nat} (d : Dat u w) (ha1 : RatV u a1 x1 K) (ha2 : RatV u a2 x2 K) (hb1 : RatV u b1 y1 L) (hb2 : RatV u b2 y2 L) (hK : K ≤ 100000000) (hL : L ≤ 100000000) : Calls Tryz.prog 62 #[IV a1 a2, IV b1 b2] w (Post u w fun v u' => v = .bool (Nt.inI y1 y2 x1 && Nt.inI y1 y2 x2)) := by
  refine calls_sym (args := [.agg #[.bool a1.s, .slice a1.m.a a1.m.n a1.m.c, .slice a1.d.a a1.d.n a1.d.c, .bool a2.s, .slice a2.m.a a2.m.n a2.m.c, .slice a2.d.a a2.d.n a2.d.c], .agg #[.bool b1.s, .slice b1.m.a b1.m.n b1.m.c, .slice b1.d.a b1.d.n b1.d.c, .bool b2.s, .slice b2.m.a b2.m.n b2.m.c, .slice b2.d.a b2.d.n b2.d.c]]) Tryz.func62 rfl Tryz.ntmps62 (rs := [.tmp 4]) Tryz.results62 (le_b rfl) (le_b rfl) d ?_
  refine sw_seq ?_
  refine sw_reg ?_
  refine sy_new 2 ⟨28, a1.cs ++ a2.cs⟩ ?_
  refine sy_new 3 ⟨28, b1.cs ++ b2.cs⟩ ?_
  refine sy_pure 4 (.v (.bool false)) ?_
  refine sy_next 15 [(2, .adr 2 0), (3, .adr 3 0)] [(2, ⟨28, a1.cs ++ a2.cs⟩), (3, ⟨28, b1.cs ++ b2.cs⟩)] ?_
  refine sw_seq ?_
  refine sw_reg ?_
  refine sy_ldv 5 (.v (.agg #[.bool b1.s, .slice b1.m.a b1.m.n b1.m.c, .slice b1.d.a b1.d.n b1.d.c, .bool b2.s, .slice b2.m.a b2.m.n b2.m.c, .slice b2.d.a b2.d.n b2.d.c])) ty28 part_agg ?_
  refine sy_pure 6 (.adr 2 0) ?_
  refine sy_ldv 7 (.v (a1.v)) ty26 part_agg ?_
  refine sy_call 8 24 [.agg #[.bool b1.s, .slice b1.m.a b1.m.n b1.m.c, .slice b1.d.a b1.d.n b1.d.c, .bool b2.s, .slice b2.m.a b2.m.n b2.m.c, .slice b2.d.a b2.d.n b2.d.c], a1.v] ?_
  intro w11 u11 e11 d11
  have k14 := k_ivContains d11 (hb1.ext e11) (hb2.ext e11) (ha1.ext e11) (by omega) (by omega)
  with_reducible refine Post.mono k14 ?_
  clear k14
  rintro _ u12 g13 rfl
  rcases Bool.eq_false_or_eq_true (Nt.inI y1 y2 x1) with hs15 | hs15
  · refine sy_eq 9 (x := .v (.bool (Nt.inI y1 y2 x1))) (.v (.bool true)) (by rw [hs15]) ?_
    refine sy_ldv 10 (.v (.agg #[.bool b1.s, .slice b1.m.a b1.m.n b1.m.c, .slice b1.d.a b1.d.n b1.d.c, .bool b2.s, .slice b2.m.a b2.m.n b2.m.c, .slice b2.d.a b2.d.n b2.d.c])) ty28 part_agg ?_ (hw := wants1 (g := 4) (b := true) (t := 9) (by kernel_rfl) (by kernel_rfl) (by kernel_rfl))
    refine sy_pure 11 (.adr 2 3) ?_ (hw := wants1 (g := 4) (b := true) (t := 9) (by kernel_rfl) (by kernel_rfl) (by kernel_rfl))
    refine sy_ldv 12 (.v (a2.v)) ty26 part_agg ?_ (hw := wants1 (g := 4) (b := true) (t := 9) (by kernel_rfl) (by kernel_rfl) (by kernel_rfl))
    refine sy_call 13 24 [.agg #[.bool b1.s, .slice b1.m.a b1.m.n b1.m.c, .slice b1.d.a b1.d.n b1.d.c, .bool b2.s, .slice b2.m.a b2.m.n b2.m.c, .slice b2.d.a b2.d.n b2.d.c], a2.v] ?_ (hw := wants1 (g := 4) (b := true) (t := 9) (by kernel_rfl) (by kernel_rfl) (by kernel_rfl))
    intro w16 u16 e16 d16
    have k19 := k_ivContains d16 (hb1.ext (e11.trans (g13.ext.trans e16))) (hb2.ext (e11.trans (g13.ext.trans e16))) (ha2.ext (e11.trans (g13.ext.trans e16))) (by omega) (by omega)
    with_reducible refine Post.mono k19 ?_
    clear k19
    rintro _ u17 g18 rfl
    refine sy_pure 14 (.v (.bool (Nt.inI y1 y2 x2))) ?_
    refine sy_pure 4 (.v (.bool (Nt.inI y1 y2 x2))) ?_
    refine sy_next 15 [(4, .v (.bool (Nt.inI y1 y2 x2)))] [] ?_
    refine sw_ret (ret0 [.bool (Nt.inI y1 y2 x2)] ⟨res_tmp, trivial⟩ fun u20 e21 => ?_)
    show _ = _
    rw [hs15]
    rfl
  · refine sy_eq 9 (x := .v (.bool (Nt.inI y1 y2 x1))) (.v (.bool false)) (by rw [hs15]) ?_
    refine sy_drop 10 (unwanted (g := 4) (b := true) (c := false) (t := 9) (by kernel_rfl) (by kernel_rfl) (by kernel_rfl) (by kernel_rfl)) ?_
    refine sy_drop 11 (unwanted (g := 4) (b := true) (c := false) (t := 9) (by kernel_rfl) (by kernel_rfl) (by kernel_rfl) (by kernel_rfl)) ?_
    refine sy_drop 12 (unwanted (g := 4) (b := true) (c := false) (t := 9) (by kernel_rfl) (by kernel_rfl) (by kernel_rfl) (by kernel_rfl)) ?_
    refine sy_drop 13 (unwanted (g := 4) (b := true) (c := false) (t := 9) (by kernel_rfl) (by kernel_rfl) (by kernel_rfl) (by kernel_rfl)) ?_
    refine sy_pure 14 (.v (.bool false)) ?_
    refine sy_pure 4 (.v (.bool false)) ?_
    refine sy_next 15 [(4, .v (.bool false))] [] ?_
    refine sw_ret (ret0 [.bool false] ⟨res_tmp, trivial⟩ fun u22 e23 => ?_)
    show _ = _
    rw [hs15]
    rfl
theorem k_ivSign {u w : World} {a1 a2 : RL} {x1 x2 : Rat} {K : Nat} (d : Dat u w) (ha1 : RatV u a1 x1 K) (ha2 : RatV u a2 x2 K) (hK : K ≤ 100000000) : Calls Tryz.prog 64 #[IV a1 a2] w (Post u w fun v u' => v = .int .i64 (Nt.sgI x1 x2)) := by
  refine calls_sym (args := [.agg #[.bool a1.s, .slice a1.m.a a1.m.n a1.m.c, .slice a1.d.a a1.d.n a1.d.c, .bool a2.s, .slice a2.m.a a2.m.n a2.m.c, .slice a2.d.a a2.d.n a2.d.c]]) Tryz.func64 rfl Tryz.ntmps64 (rs := [.tmp 2]) Tryz.results64 (le_b rfl) (le_b rfl) d ?_
  refine sw_seq ?_
  refine sw_reg ?_
  refine sy_new 1 ⟨28, a1.cs ++ a2.cs⟩ ?_
  refine sy_pure 2 (.v (.int .i64 0)) ?_
  refine sy_next 18 [(1, .adr 1 0)] [(1, ⟨28, a1.cs ++ a2.cs⟩)] ?_
  refine sw_seq ?_
  refine sw_reg ?_
  refine sy_ldv 6 (.v (.agg #[.bool a1.s, .slice a1.m.a a1.m.n a1.m.c, .slice a1.d.a a1.d.n a1.d.c, .bool a2.s, .slice a2.m.a a2.m.n a2.m.c, .slice a2.d.a a2.d.n a2.d.c])) ty28 part_agg ?_
  refine sy_call 7 103 [.agg #[.bool a1.s, .slice a1.m.a a1.m.n a1.m.c, .slice a1.d.a a1.d.n a1.d.c, .bool a2.s, .slice a2.m.a a2.m.n a2.m.c, .slice a2.d.a a2.d.n a2.d.c]] ?_
  intro w11 u11 e11 d11
  have k18 := k_ends d11 (ha1.ext e11) (ha2.ext e11) (by omega)
  with_reducible refine Post.mono k18 ?_
  clear k18
  rintro _ u16 g17 ⟨r12, r14, rfl, h13, h15⟩
  refine sy_pure 5 (.v (.tuple #[r12.v, r14.v])) ?_
  refine sy_pure 8 (.v (r12.v)) ?_
  refine sy_pure 9 (.v (r14.v)) ?_
  refine sy_new 3 ⟨26, [.bool false, .slice none 0 0, .slice none 0 0]⟩ ?_
  refine sy_new 4 ⟨26, [.bool false, .slice none 0 0, .slice none 0 0]⟩ ?_
  refine sy_store ⟨26, r12.cs⟩ ty26 ?_
  refine sy_store ⟨26, r14.cs⟩ ty26 ?_
  refine sy_next 18 [(3, .adr 3 0), (4, .adr 4 0)] [(3, ⟨26, r12.cs⟩), (4, ⟨26, r14.cs⟩)] ?_
  refine sw_seq ?_
  refine sw_block ?_
  refine sw_seq ?_
  refine sw_reg ?_
  refine sy_ldv 11 (.v (r12.v)) ty26 part_agg ?_
  refine sy_call 12 132 [r12.v] ?_
  intro w19 u19 e19 d19
  have k22 := k_ratSign d19 (h13.ext e19)
  with_reducible refine Post.mono k22 ?_
  clear k22
  rintro _ u20 g21 rfl
  refine sy_pure 13 (.v (.bool (decide ((0 : Int) < (Nt.sgQ (Nt.lo x1 x2)))))) ?_
  refine sy_pure 10 (.v (.bool (decide ((0 : Int) < (Nt.sgQ (Nt.lo x1 x2)))))) ?_
  refine sy_next 18 [(4, .adr 4 0), (10, .v (.bool (decide ((0 : Int) < (Nt.sgQ (Nt.lo x1 x2))))))] [(4, ⟨26, r14.cs⟩)] ?_
  refine sw_cond (b := decide ((0 : Int) < (Nt.sgQ (Nt.lo x1 x2)))) (by kernel_rfl) (fun hb23 => ?_) (fun hb23 => ?_)
  · replace hb23 : (decide ((0 : Int) < (Nt.sgQ (Nt.lo x1 x2)))) = true := hb23
    refine sw_seq ?_
    refine sw_reg ?_
    refine sy_pure 2 (.v (.int .i64 1)) ?_
    refine sy_next 18 [(2, .v (.int .i64 1))] [] ?_
    refine sw_ret (mpr_block (mpr_seq (ret0 [.int .i64 1] ⟨res_tmp, trivial⟩ fun u24 e25 => ?_)))
    show _ = _
    unfold Nt.sgI
    rw [Nt.sgQ_gt] at hb23
    rw [if_pos (of_decide_eq_true hb23)]
    rfl
  · replace hb23 : (decide ((0 : Int) < (Nt.sgQ (Nt.lo x1 x2)))) = false := hb23
    refine sw_seq ?_
    refine sw_reg ?_
    refine sy_ldv 15 (.v (r14.v)) ty26 part_agg ?_
    refine sy_call 16 132 [r14.v] ?_
    intro w26 u26 e26 d26
    have k29 := k_ratSign d26 (h15.ext (e19.trans (g21.ext.trans e26)))
    with_reducible refine Post.mono k29 ?_
    clear k29
    rintro _ u27 g28 rfl
    refine sy_pure 17 (.v (.bool (decide ((Nt.sgQ (Nt.hi x1 x2)) < 0)))) ?_
    refine sy_pure 14 (.v (.bool (decide ((Nt.sgQ (Nt.hi x1 x2)) < 0)))) ?_
    refine sy_next 18 [(14, .v (.bool (decide ((Nt.sgQ (Nt.hi x1 x2)) < 0))))] [] ?_
    refine sw_cond (b := decide ((Nt.sgQ (Nt.hi x1 x2)) < 0)) (by kernel_rfl) (fun hb30 => ?_) (fun hb30 => ?_)
    · replace hb30 : (decide ((Nt.sgQ (Nt.hi x1 x2)) < 0)) = true := hb30
      refine sw_seq ?_
      refine sw_reg ?_
      refine sy_pure 2 (.v (.int .i64 (-1))) ?_
      refine sy_next 18 [(2, .v (.int .i64 (-1)))] [] ?_
      refine sw_ret (mpr_block (mpr_seq (ret0 [.int .i64 (-1)] ⟨res_tmp, trivial⟩ fun u31 e32 => ?_)))
      show _ = _
      unfold Nt.sgI
      rw [Nt.sgQ_gt] at hb23
      rw [if_neg (of_decide_eq_false hb23)]
      rw [Nt.sgQ_lt] at hb30
      rw [if_pos (of_decide_eq_true hb30)]
      rfl
    · replace hb30 : (decide ((Nt.sgQ (Nt.hi x1 x2)) < 0)) = false := hb30
      refine sw_skip (mp_seq ?_)
      refine sw_seq ?_
      refine sw_reg ?_
      refine sy_pure 2 (.v (.int .i64 0)) ?_
      refine sy_next 18 [(2, .v (.int .i64 0))] [] ?_
      refine sw_ret (ret0 [.int .i64 0] ⟨res_tmp, trivial⟩ fun u33 e34 => ?_)
      show _ = _
      unfold Nt.sgI
      rw [Nt.sgQ_gt] at hb23
      rw [if_neg (of_decide_eq_false hb23)]
      rw [Nt.sgQ_lt] at hb30
      rw [if_neg (of_decide_eq_false hb30)]
      rfl
theorem k_ivWidth {u w : World} {a1 a2 : RL} {x1 x2 : Rat} {K : Nat} (d : Dat u w) (ha1 : RatV u a1 x1 K) (ha2 : RatV u a2 x2 K) (hK : K ≤ 50000000) : Calls Tryz.prog 72 #[IV a1 a2] w (Post u w fun v u' => ∃ p : RL, v = p.v ∧ RatN u' p (Nt.absQ (x2 - x1)) (K + K + 1)) := by
  refine calls_sym (args := [.agg #[.bool a1.s, .slice a1.m.a a1.m.n a1.m.c, .slice a1.d.a a1.d.n a1.d.c, .bool a2.s, .slice a2.m.a a2.m.n a2.m.c, .slice a2.d.a a2.d.n a2.d.c]]) Tryz.func72 rfl Tryz.ntmps72 (rs := [.cell 2 26]) Tryz.results72 (le_b rfl) (le_b rfl) d ?_
  refine sw_seq ?_
  refine sw_reg ?_
  refine sy_new 1 ⟨28, a1.cs ++ a2.cs⟩ ?_
  refine sy_new 2 ⟨26, [.bool false, .slice none 0 0, .slice none 0 0]⟩ ?_
  refine sy_next 9 [(1, .adr 1 0), (2, .adr 2 0)] [(1, ⟨28, a1.cs ++ a2.cs⟩), (2, ⟨26, [.bool false, .slice none 0 0, .slice none 0 0]⟩)] ?_
  refine sw_seq ?_
  refine sw_reg ?_
  refine sy_pure 3 (.adr 1 3) ?_
  refine sy_ldv 4 (.v (a2.v)) ty26 part_agg ?_
  refine sy_pure 5 (.adr 1 0) ?_
  refine sy_ldv 6 (.v (a1.v)) ty26 part_agg ?_
  refine sy_call 7 109 [a2.v, a1.v] ?_
  intro w11 u11 e11 d11
  have k16 := k_ratSub d11 (ha2.ext e11) (ha1.ext e11) (by omega) (by omega)
  with_reducible refine Post.mono k16 ?_
  clear k16
  rintro _ u14 g15 ⟨r12, rfl, h13⟩
  refine sy_call 8 139 [r12.v] ?_
  intro w17 u17 e17 d17
  have k22 := k_ratAbs d17 (h13.ext e17).raw (by omega)
  with_reducible refine Post.mono k22 ?_
  clear k22
  rintro _ u20 g21 ⟨r18, rfl, h19⟩
  refine sy_store ⟨26, r18.cs⟩ ty26 ?_
  refine sy_next 9 [(2, .adr 2 0)] [(2, ⟨26, r18.cs⟩)] ?_
  refine sw_ret (ret0 [r18.v] ⟨res_cell ty26 part_agg, trivial⟩ fun u23 e24 => ?_)
  exact ⟨r18, rfl, (h19.ext e24)⟩
theorem k_ivMid {u w : World} {a1 a2 : RL} {x1 x2 : Rat} {K : Nat} (d : Dat u w) (ha1 : RatV u a1 x1 K) (ha2 : RatV u a2 x2 K) (hK : K ≤ 50000000) : Calls Tryz.prog 73 #[IV a1 a2] w (Post u w fun v u' => ∃ p : RL, v = p.v ∧ RatN u' p ((x1 + x2) * (((1 : Int) : Rat) / ((2 : Int) : Rat))) (K + K + 1 + 2)) := by
  refine calls_sym (args := [.agg #[.bool a1.s, .slice a1.m.a a1.m.n a1.m.c, .slice a1.d.a a1.d.n a1.d.c, .bool a2.s, .slice a2.m.a a2.m.n a2.m.c, .slice a2.d.a a2.d.n a2.d.c]]) Tryz.func73 rfl Tryz.ntmps73 (rs := [.cell 2 26]) Tryz.results73 (le_b rfl) (le_b rfl) d ?_
  refine sw_seq ?_
  refine sw_reg ?_
  refine sy_new 1 ⟨28, a1.cs ++ a2.cs⟩ ?_
  refine sy_new 2 ⟨26, [.bool false, .slice none 0 0, .slice none 0 0]⟩ ?_
  refine sy_next 10 [(1, .adr 1 0), (2, .adr 2 0)] [(1, ⟨28, a1.cs ++ a2.cs⟩), (2, ⟨26, [.bool false, .slice none 0 0, .slice none 0 0]⟩)] ?_
  refine sw_seq ?_
  refine sw_reg ?_
  refine sy_pure 3 (.adr 1 0) ?_
  refine sy_ldv 4 (.v (a1.v)) ty26 part_agg ?_
  refine sy_pure 5 (.adr 1 3) ?_
  refine sy_ldv 6 (.v (a2.v)) ty26 part_agg ?_
  refine sy_call 7 104 [a1.v, a2.v] ?_
  intro w11 u11 e11 d11
  have k16 := k_ratAdd d11 (ha1.ext e11) (ha2.ext e11) (by omega) (by omega)
  with_reducible refine Post.mono k16 ?_
  clear k16
  rintro _ u14 g15 ⟨r12, rfl, h13⟩
  refine sy_call 8 140 [.int .i64 1, .int .i64 2] ?_
  intro w17 u17 e17 d17
  have k22 := k_ratFrac d17 (a := 1) (b := 2) (by omega) (by omega) (by omega) (by omega)
  with_reducible refine Post.mono k22 ?_
  clear k22
  rintro _ u20 g21 ⟨r18, rfl, h19⟩
  refine sy_call 9 111 [r12.v, r18.v] ?_
  intro w23 u23 e23 d23
  have k28 := k_ratMul d23 (h13.ext (e17.trans (g21.ext.trans e23))).raw (h19.ext e23).raw (by omega) (by omega)
  with_reducible refine Post.mono k28 ?_
  clear k28
  rintro _ u26 g27 ⟨r24, rfl, h25⟩
  refine sy_store ⟨26, r24.cs⟩ ty26 ?_
  refine sy_next 10 [(2, .adr 2 0)] [(2, ⟨26, r24.cs⟩)] ?_
  refine sw_ret (ret0 [r24.v] ⟨res_cell ty26 part_agg, trivial⟩ fun u29 e30 => ?_)
  exact ⟨r24, rfl, (h25.ext e30)⟩
theorem k_ivAdd {u w : World} {a1 a2 : RL} {x1 x2 : Rat} {b1 b2 : RL} {y1 y2 : Rat} {K L : Nat} (d : Dat u w) (ha1 : RatV u a1 x1 K) (ha2 : RatV u a2 x2 K) (hb1 : RatV u b1 y1 L) (hb2 : RatV u b2 y2 L) (hK : K ≤ 100000000) (hL : L ≤ 100000000) : Calls Tryz.prog 17 #[IV a1 a2, IV b1 b2] w (Post u w fun v u' => ∃ p q : RL, v = IV p q ∧ RatN u' p (Nt.lo x1 x2 + Nt.lo y1 y2) (K + L + 1) ∧ RatN u' q (Nt.hi x1 x2 + Nt.hi y1 y2) (K + L + 1)) := by
  refine calls_sym (args := [.agg #[.bool a1.s, .slice a1.m.a a1.m.n a1.m.c, .slice a1.d.a a1.d.n a1.d.c, .bool a2.s, .slice a2.m.a a2.m.n a2.m.c, .slice a2.d.a a2.d.n a2.d.c], .agg #[.bool b1.s, .slice b1.m.a b1.m.n b1.m.c, .slice b1.d.a b1.d.n b1.d.c, .bool b2.s, .slice b2.m.a b2.m.n b2.m.c, .slice b2.d.a b2.d.n b2.d.c]]) Tryz.func17 rfl Tryz.ntmps17 (rs := [.cell 4 28]) Tryz.results17 (le_b rfl) (le_b rfl) d ?_
  refine sw_seq ?_
  refine sw_reg ?_
  refine sy_new 2 ⟨28, a1.cs ++ a2.cs⟩ ?_
  refine sy_new 3 ⟨28, b1.cs ++ b2.cs⟩ ?_
  refine sy_new 4 ⟨28, [.bool false, .slice none 0 0, .slice none 0 0, .bool false, .slice none 0 0, .slice none 0 0]⟩ ?_
  refine sy_next 26 [(2, .adr 2 0), (3, .adr 3 0), (4, .adr 4 0)] [(2, ⟨28, a1.cs ++ a2.cs⟩), (3, ⟨28, b1.cs ++ b2.cs⟩), (4, ⟨28, [.bool false, .slice none 0 0, .slice none 0 0, .bool false, .slice none 0 0, .slice none 0 0]⟩)] ?_
  refine sw_seq ?_
  refine sw_reg ?_
  refine sy_ldv 10 (.v (.agg #[.bool a1.s, .slice a1.m.a a1.m.n a1.m.c, .slice a1.d.a a1.d.n a1.d.c, .bool a2.s, .slice a2.m.a a2.m.n a2.m.c, .slice a2.d.a a2.d.n a2.d.c])) ty28 part_agg ?_
  refine sy_call 11 103 [.agg #[.bool a1.s, .slice a1.m.a a1.m.n a1.m.c, .slice a1.d.a a1.d.n a1.d.c, .bool a2.s, .slice a2.m.a a2.m.n a2.m.c, .slice a2.d.a a2.d.n a2.d.c]] ?_
  intro w11 u11 e11 d11
  have k18 := k_ends d11 (ha1.ext e11) (ha2.ext e11) (by omega)
  with_reducible refine Post.mono k18 ?_
  clear k18
  rintro _ u16 g17 ⟨r12, r14, rfl, h13, h15⟩
  refine sy_pure 9 (.v (.tuple #[r12.v, r14.v])) ?_
  refine sy_pure 12 (.v (r12.v)) ?_
  refine sy_pure 13 (.v (r14.v)) ?_
  refine sy_new 5 ⟨26, [.bool false, .slice none 0 0, .slice none 0 0]⟩ ?_
  refine sy_new 6 ⟨26, [.bool false, .slice none 0 0, .slice none 0 0]⟩ ?_
  refine sy_store ⟨26, r12.cs⟩ ty26 ?_
  refine sy_store ⟨26, r14.cs⟩ ty26 ?_
  refine sy_next 26 [(3, .adr 3 0), (4, .adr 4 0), (5, .adr 5 0), (6, .adr 6 0)] [(3, ⟨28, b1.cs ++ b2.cs⟩), (4, ⟨28, [.bool false, .slice none 0 0, .slice none 0 0, .bool false, .slice none 0 0, .slice none 0 0]⟩), (5, ⟨26, r12.cs⟩), (6, ⟨26, r14.cs⟩)] ?_
  refine sw_seq ?_
  refine sw_reg ?_
  refine sy_ldv 15 (.v (.agg #[.bool b1.s, .slice b1.m.a b1.m.n b1.m.c, .slice b1.d.a b1.d.n b1.d.c, .bool b2.s, .slice b2.m.a b2.m.n b2.m.c, .slice b2.d.a b2.d.n b2.d.c])) ty28 part_agg ?_
  refine sy_call 16 103 [.agg #[.bool b1.s, .slice b1.m.a b1.m.n b1.m.c, .slice b1.d.a b1.d.n b1.d.c, .bool b2.s, .slice b2.m.a b2.m.n b2.m.c, .slice b2.d.a b2.d.n b2.d.c]] ?_
  intro w19 u19 e19 d19
  have k26 := k_ends d19 (hb1.ext (e11.trans (g17.ext.trans e19))) (hb2.ext (e11.trans (g17.ext.trans e19))) (by omega)
  with_reducible refine Post.mono k26 ?_
  clear k26
  rintro _ u24 g25 ⟨r20, r22, rfl, h21, h23⟩
  refine sy_pure 14 (.v (.tuple #[r20.v, r22.v])) ?_
  refine sy_pure 17 (.v (r20.v)) ?_
  refine sy_pure 18 (.v (r22.v)) ?_
  refine sy_new 7 ⟨26, [.bool false, .slice none 0 0, .slice none 0 0]⟩ ?_
  refine sy_new 8 ⟨26, [.bool false, .slice none 0 0, .slice none 0 0]⟩ ?_
  refine sy_store ⟨26, r20.cs⟩ ty26 ?_
  refine sy_store ⟨26, r22.cs⟩ ty26 ?_
  refine sy_next 26 [(4, .adr 4 0), (5, .adr 5 0), (6, .adr 6 0), (7, .adr 7 0), (8, .adr 8 0)] [(4, ⟨28, [.bool false, .slice none 0 0, .slice none 0 0, .bool false, .slice none 0 0, .slice none 0 0]⟩), (5, ⟨26, r12.cs⟩), (6, ⟨26, r14.cs⟩), (7, ⟨26, r20.cs⟩), (8, ⟨26, r22.cs⟩)] ?_
  refine sw_seq ?_
  refine sw_any [0, 0, 3, 0, 0, 31, 63, 127] [(0, []), (1, []), (3, []), (4, []), (2, []), (5, []), (6, []), (7, [])] (by kernel_rfl) (by kernel_rfl) ?_
  refine sy_ldv 19 (.v (r12.v)) ty26 part_agg ?_
  refine sy_ldv 20 (.v (r20.v)) ty26 part_agg ?_
  refine sy_ldv 22 (.v (r14.v)) ty26 part_agg ?_
  refine sy_ldv 23 (.v (r22.v)) ty26 part_agg ?_
  refine sy_call 21 104 [r12.v, r20.v] ?_
  intro w27 u27 e27 d27
  have k32 := k_ratAdd d27 (h13.ext (e19.trans (g25.ext.trans e27))) (h21.ext e27) (by omega) (by omega)
  with_reducible refine Post.mono k32 ?_
  clear k32
  rintro _ u30 g31 ⟨r28, rfl, h29⟩
  refine sy_call 24 104 [r14.v, r22.v] ?_
  intro w33 u33 e33 d33
  have k38 := k_ratAdd d33 (h15.ext (e19.trans (g25.ext.trans (e27.trans (g31.ext.trans e33))))) (h23.ext (e27.trans (g31.ext.trans e33))) (by omega) (by omega)
  with_reducible refine Post.mono k38 ?_
  clear k38
  rintro _ u36 g37 ⟨r34, rfl, h35⟩
  refine sy_pure 25 (.v (.agg #[.bool r28.s, .slice r28.m.a r28.m.n r28.m.c, .slice r28.d.a r28.d.n r28.d.c, .bool r34.s, .slice r34.m.a r34.m.n r34.m.c, .slice r34.d.a r34.d.n r34.d.c])) ?_
  refine sy_store ⟨28, r28.cs ++ r34.cs⟩ ty28 ?_
  refine sy_next 26 [(4, .adr 4 0)] [(4, ⟨28, r28.cs ++ r34.cs⟩)] ?_
  refine sw_ret (ret0 [.agg #[.bool r28.s, .slice r28.m.a r28.m.n r28.m.c, .slice r28.d.a r28.d.n r28.d.c, .bool r34.s, .slice r34.m.a r34.m.n r34.m.c, .slice r34.d.a r34.d.n r34.d.c]] ⟨res_cell ty28 part_agg, trivial⟩ fun u39 e40 => ?_)
  refine ⟨r28, r34, rfl, RatN.more (K := (K + L + 1)) ?_ (by omega), RatN.more (K := (K + L + 1)) ?_ (by omega)⟩
  · exact (h29.ext (e33.trans (g37.ext.trans e40)))
  · exact (h35.ext e40)
theorem k_ivSub {u w : World} {a1 a2 : RL} {x1 x2 : Rat} {b1 b2 : RL} {y1 y2 : Rat} {K L : Nat} (d : Dat u w) (ha1 : RatV u a1 x1 K) (ha2 : RatV u a2 x2 K) (hb1 : RatV u b1 y1 L) (hb2 : RatV u b2 y2 L) (hK : K ≤ 100000000) (hL : L ≤ 100000000) : Calls Tryz.prog 19 #[IV a1 a2, IV b1 b2] w (Post u w fun v u' => ∃ p q : RL, v = IV p q ∧ RatN u' p (Nt.lo x1 x2 - Nt.hi y1 y2) (K + L + 1) ∧ RatN u' q (Nt.hi x1 x2 - Nt.lo y1 y2) (K + L + 1)) := by
  refine calls_sym (args := [.agg #[.bool a1.s, .slice a1.m.a a1.m.n a1.m.c, .slice a1.d.a a1.d.n a1.d.c, .bool a2.s, .slice a2.m.a a2.m.n a2.m.c, .slice a2.d.a a2.d.n a2.d.c], .agg #[.bool b1.s, .slice b1.m.a b1.m.n b1.m.c, .slice b1.d.a b1.d.n b1.d.c, .bool b2.s, .slice b2.m.a b2.m.n b2.m.c, .slice b2.d.a b2.d.n b2.d.c]]) Tryz.func19 rfl Tryz.ntmps19 (rs := [.cell 4 28]) Tryz.results19 (le_b rfl) (le_b rfl) d ?_
  refine sw_seq ?_
  refine sw_reg ?_
  refine sy_new 2 ⟨28, a1.cs ++ a2.cs⟩ ?_
  refine sy_new 3 ⟨28, b1.cs ++ b2.cs⟩ ?_
  refine sy_new 4 ⟨28, [.bool false, .slice none 0 0, .slice none 0 0, .bool false, .slice none 0 0, .slice none 0 0]⟩ ?_
  refine sy_next 26 [(2, .adr 2 0), (3, .adr 3 0), (4, .adr 4 0)] [(2, ⟨28, a1.cs ++ a2.cs⟩), (3, ⟨28, b1.cs ++ b2.cs⟩), (4, ⟨28, [.bool false, .slice none 0 0, .slice none 0 0, .bool false, .slice none 0 0, .slice none 0 0]⟩)] ?_
  refine sw_seq ?_
  refine sw_reg ?_
  refine sy_ldv 10 (.v (.agg #[.bool a1.s, .slice a1.m.a a1.m.n a1.m.c, .slice a1.d.a a1.d.n a1.d.c, .bool a2.s, .slice a2.m.a a2.m.n a2.m.c, .slice a2.d.a a2.d.n a2.d.c])) ty28 part_agg ?_
  refine sy_call 11 103 [.agg #[.bool a1.s, .slice a1.m.a a1.m.n a1.m.c, .slice a1.d.a a1.d.n a1.d.c, .bool a2.s, .slice a2.m.a a2.m.n a2.m.c, .slice a2.d.a a2.d.n a2.d.c]] ?_
  intro w11 u11 e11 d11
  have k18 := k_ends d11 (ha1.ext e11) (ha2.ext e11) (by omega)
  with_reducible refine Post.mono k18 ?_
  clear k18
  rintro _ u16 g17 ⟨r12, r14, rfl, h13, h15⟩
  refine sy_pure 9 (.v (.tuple #[r12.v, r14.v])) ?_
  refine sy_pure 12 (.v (r12.v)) ?_
  refine sy_pure 13 (.v (r14.v)) ?_
  refine sy_new 5 ⟨26, [.bool false, .slice none 0 0, .slice none 0 0]⟩ ?_
  refine sy_new 6 ⟨26, [.bool false, .slice none 0 0, .slice none 0 0]⟩ ?_
  refine sy_store ⟨26, r12.cs⟩ ty26 ?_
  refine sy_store ⟨26, r14.cs⟩ ty26 ?_
  refine sy_next 26 [(3, .adr 3 0), (4, .adr 4 0), (5, .adr 5 0), (6, .adr 6 0)] [(3, ⟨28, b1.cs ++ b2.cs⟩), (4, ⟨28, [.bool false, .slice none 0 0, .slice none 0 0, .bool false, .slice none 0 0, .slice none 0 0]⟩), (5, ⟨26, r12.cs⟩), (6, ⟨26, r14.cs⟩)] ?_
  refine sw_seq ?_
  refine sw_reg ?_
  refine sy_ldv 15 (.v (.agg #[.bool b1.s, .slice b1.m.a b1.m.n b1.m.c, .slice b1.d.a b1.d.n b1.d.c, .bool b2.s, .slice b2.m.a b2.m.n b2.m.c, .slice b2.d.a b2.d.n b2.d.c])) ty28 part_agg ?_
  refine sy_call 16 103 [.agg #[.bool b1.s, .slice b1.m.a b1.m.n b1.m.c, .slice b1.d.a b1.d.n b1.d.c, .bool b2.s, .slice b2.m.a b2.m.n b2.m.c, .slice b2.d.a b2.d.n b2.d.c]] ?_
  intro w19 u19 e19 d19
  have k26 := k_ends d19 (hb1.ext (e11.trans (g17.ext.trans e19))) (hb2.ext (e11.trans (g17.ext.trans e19))) (by omega)
  with_reducible refine Post.mono k26 ?_
  clear k26
  rintro _ u24 g25 ⟨r20, r22, rfl, h21, h23⟩
  refine sy_pure 14 (.v (.tuple #[r20.v, r22.v])) ?_
  refine sy_pure 17 (.v (r20.v)) ?_
  refine sy_pure 18 (.v (r22.v)) ?_
  refine sy_new 7 ⟨26, [.bool false, .slice none 0 0, .slice none 0 0]⟩ ?_
  refine sy_new 8 ⟨26, [.bool false, .slice none 0 0, .slice none 0 0]⟩ ?_
  refine sy_store ⟨26, r20.cs⟩ ty26 ?_
  refine sy_store ⟨26, r22.cs⟩ ty26 ?_
  refine sy_next 26 [(4, .adr 4 0), (5, .adr 5 0), (6, .adr 6 0), (7, .adr 7 0), (8, .adr 8 0)] [(4, ⟨28, [.bool false, .slice none 0 0, .slice none 0 0, .bool false, .slice none 0 0, .slice none 0 0]⟩), (5, ⟨26, r12.cs⟩), (6, ⟨26, r14.cs⟩), (7, ⟨26, r20.cs⟩), (8, ⟨26, r22.cs⟩)] ?_
  refine sw_seq ?_
  refine sw_any [0, 0, 3, 0, 0, 31, 63, 127] [(0, []), (1, []), (3, []), (4, []), (2, []), (5, []), (6, []), (7, [])] (by kernel_rfl) (by kernel_rfl) ?_
  refine sy_ldv 19 (.v (r12.v)) ty26 part_agg ?_
  refine sy_ldv 20 (.v (r22.v)) ty26 part_agg ?_
  refine sy_ldv 22 (.v (r14.v)) ty26 part_agg ?_
  refine sy_ldv 23 (.v (r20.v)) ty26 part_agg ?_
  refine sy_call 21 109 [r12.v, r22.v] ?_
  intro w27 u27 e27 d27
  have k32 := k_ratSub d27 (h13.ext (e19.trans (g25.ext.trans e27))) (h23.ext e27) (by omega) (by omega)
  with_reducible refine Post.mono k32 ?_
  clear k32
  rintro _ u30 g31 ⟨r28, rfl, h29⟩
  refine sy_call 24 109 [r14.v, r20.v] ?_
  intro w33 u33 e33 d33
  have k38 := k_ratSub d33 (h15.ext (e19.trans (g25.ext.trans (e27.trans (g31.ext.trans e33))))) (h21.ext (e27.trans (g31.ext.trans e33))) (by omega) (by omega)
  with_reducible refine Post.mono k38 ?_
  clear k38
  rintro _ u36 g37 ⟨r34, rfl, h35⟩
  refine sy_pure 25 (.v (.agg #[.bool r28.s, .slice r28.m.a r28.m.n r28.m.c, .slice r28.d.a r28.d.n r28.d.c, .bool r34.s, .slice r34.m.a r34.m.n r34.m.c, .slice r34.d.a r34.d.n r34.d.c])) ?_
  refine sy_store ⟨28, r28.cs ++ r34.cs⟩ ty28 ?_
  refine sy_next 26 [(4, .adr 4 0)] [(4, ⟨28, r28.cs ++ r34.cs⟩)] ?_
  refine sw_ret (ret0 [.agg #[.bool r28.s, .slice r28.m.a r28.m.n r28.m.c, .slice r28.d.a r28.d.n r28.d.c, .bool r34.s, .slice r34.m.a r34.m.n r34.m.c, .slice r34.d.a r34.d.n r34.d.c]] ⟨res_cell ty28 part_agg, trivial⟩ fun u39 e40 => ?_)
  refine ⟨r28, r34, rfl, RatN.more (K := (K + L + 1)) ?_ (by omega), RatN.more (K := (K + L + 1)) ?_ (by omega)⟩
  · exact (h29.ext (e33.trans (g37.ext.trans e40)))
  · exact (h35.ext e40)
theorem k_ivMul {u w : World} {a1 a2 : RL} {x1 x2 : Rat} {b1 b2 : RL} {y1 y2 : Rat} {K L : Nat} (d : Dat u w) (ha1 : RatV u a1 x1 K) (ha2 : RatV u a2 x2 K) (hb1 : RatV u b1 y1 L) (hb2 : RatV u b2 y2 L) (hK : K ≤ 100000000) (hL : L ≤ 100000000) : Calls Tryz.prog 21 #[IV a1 a2, IV b1 b2] w (Post u w fun v u' => ∃ p q : RL, v = IV p q ∧ RatN u' p (Nt.lo4 (x1 * y1) (x1 * y2) (x2 * y1) (x2 * y2)) (K + L) ∧ RatN u' q (Nt.hi4 (x1 * y1) (x1 * y2) (x2 * y1) (x2 * y2)) (K + L)) := by
  refine calls_sym (args := [.agg #[.bool a1.s, .slice a1.m.a a1.m.n a1.m.c, .slice a1.d.a a1.d.n a1.d.c, .bool a2.s, .slice a2.m.a a2.m.n a2.m.c, .slice a2.d.a a2.d.n a2.d.c], .agg #[.bool b1.s, .slice b1.m.a b1.m.n b1.m.c, .slice b1.d.a b1.d.n b1.d.c, .bool b2.s, .slice b2.m.a b2.m.n b2.m.c, .slice b2.d.a b2.d.n b2.d.c]]) Tryz.func21 rfl Tryz.ntmps21 (rs := [.cell 4 28]) Tryz.results21 (le_b rfl) (le_b rfl) d ?_
  refine sw_seq ?_
  refine sw_reg ?_
  refine sy_new 2 ⟨28, a1.cs ++ a2.cs⟩ ?_
  refine sy_new 3 ⟨28, b1.cs ++ b2.cs⟩ ?_
  refine sy_new 4 ⟨28, [.bool false, .slice none 0 0, .slice none 0 0, .bool false, .slice none 0 0, .slice none 0 0]⟩ ?_
  refine sy_next 27 [(2, .adr 2 0), (3, .adr 3 0), (4, .adr 4 0)] [(2, ⟨28, a1.cs ++ a2.cs⟩), (3, ⟨28, b1.cs ++ b2.cs⟩), (4, ⟨28, [.bool false, .slice none 0 0, .slice none 0 0, .bool false, .slice none 0 0, .slice none 0 0]⟩)] ?_
  refine sw_seq ?_
  refine sw_any [0, 1, 0, 4, 15, 0, 32, 0, 128, 511, 0, 1024, 0, 4096, 16383, 0, 32768, 0, 131072, 524287, 1048575, 2097151, 4194303] [(0, []), (1, []), (2, []), (3, []), (5, []), (6, []), (7, []), (8, []), (10, []), (11, []), (12, []), (13, []), (15, []), (16, []), (17, []), (18, []), (4, []), (9, []), (14, []), (19, []), (20, []), (21, []), (22, [])] (by kernel_rfl) (by kernel_rfl) ?_
  refine sy_pure 5 (.adr 2 0) ?_
  refine sy_ldv 6 (.v (a1.v)) ty26 part_agg ?_
  refine sy_pure 7 (.adr 3 0) ?_
  refine sy_ldv 8 (.v (b1.v)) ty26 part_agg ?_
  refine sy_pure 10 (.adr 2 0) ?_
  refine sy_ldv 11 (.v (a1.v)) ty26 part_agg ?_
  refine sy_pure 12 (.adr 3 3) ?_
  refine sy_ldv 13 (.v (b2.v)) ty26 part_agg ?_
  refine sy_pure 15 (.adr 2 3) ?_
  refine sy_ldv 16 (.v (a2.v)) ty26 part_agg ?_
  refine sy_pure 17 (.adr 3 0) ?_
  refine sy_ldv 18 (.v (b1.v)) ty26 part_agg ?_
  refine sy_pure 20 (.adr 2 3) ?_
  refine sy_ldv 21 (.v (a2.v)) ty26 part_agg ?_
  refine sy_pure 22 (.adr 3 3) ?_
  refine sy_ldv 23 (.v (b2.v)) ty26 part_agg ?_
  refine sy_call 9 111 [a1.v, b1.v] ?_
  intro w11 u11 e11 d11
  have k16 := k_ratMul d11 (ha1.ext e11) (hb1.ext e11) (by omega) (by omega)
  with_reducible refine Post.mono k16 ?_
  clear k16
  rintro _ u14 g15 ⟨r12, rfl, h13⟩
  refine sy_call 14 111 [a1.v, b2.v] ?_
  intro w17 u17 e17 d17
  have k22 := k_ratMul d17 (ha1.ext (e11.trans (g15.ext.trans e17))) (hb2.ext (e11.trans (g15.ext.trans e17))) (by omega) (by omega)
  with_reducible refine Post.mono k22 ?_
  clear k22
  rintro _ u20 g21 ⟨r18, rfl, h19⟩
  refine sy_call 19 111 [a2.v, b1.v] ?_
  intro w23 u23 e23 d23
  have k28 := k_ratMul d23 (ha2.ext (e11.trans (g15.ext.trans (e17.trans (g21.ext.trans e23))))) (hb1.ext (e11.trans (g15.ext.trans (e17.trans (g21.ext.trans e23))))) (by omega) (by omega)
  with_reducible refine Post.mono k28 ?_
  clear k28
  rintro _ u26 g27 ⟨r24, rfl, h25⟩
  refine sy_call 24 111 [a2.v, b2.v] ?_
  intro w29 u29 e29 d29
  have k34 := k_ratMul d29 (ha2.ext (e11.trans (g15.ext.trans (e17.trans (g21.ext.trans (e23.trans (g27.ext.trans e29))))))) (hb2.ext (e11.trans (g15.ext.trans (e17.trans (g21.ext.trans (e23.trans (g27.ext.trans e29))))))) (by omega) (by omega)
  with_reducible refine Post.mono k34 ?_
  clear k34
  rintro _ u32 g33 ⟨r30, rfl, h31⟩
  refine sy_pure 25 (.v (.agg #[.bool r12.s, .slice r12.m.a r12.m.n r12.m.c, .slice r12.d.a r12.d.n r12.d.c, .bool r18.s, .slice r18.m.a r18.m.n r18.m.c, .slice r18.d.a r18.d.n r18.d.c, .bool r24.s, .slice r24.m.a r24.m.n r24.m.c, .slice r24.d.a r24.d.n r24.d.c, .bool r30.s, .slice r30.m.a r30.m.n r30.m.c, .slice r30.d.a r30.d.n r30.d.c])) ?_
  refine sy_call 26 100 [.agg #[.bool r12.s, .slice r12.m.a r12.m.n r12.m.c, .slice r12.d.a r12.d.n r12.d.c, .bool r18.s, .slice r18.m.a r18.m.n r18.m.c, .slice r18.d.a r18.d.n r18.d.c, .bool r24.s, .slice r24.m.a r24.m.n r24.m.c, .slice r24.d.a r24.d.n r24.d.c, .bool r30.s, .slice r30.m.a r30.m.n r30.m.c, .slice r30.d.a r30.d.n r30.d.c]] ?_
  intro w35 u35 e35 d35
  have k42 := k_around d35 (h13.ext (e17.trans (g21.ext.trans (e23.trans (g27.ext.trans (e29.trans (g33.ext.trans e35))))))) (h19.ext (e23.trans (g27.ext.trans (e29.trans (g33.ext.trans e35))))) (h25.ext (e29.trans (g33.ext.trans e35))) (h31.ext e35) (by omega)
  with_reducible refine Post.mono k42 ?_
  clear k42
  rintro _ u40 g41 ⟨r36, r38, rfl, h37, h39⟩
  refine sy_store ⟨28, r36.cs ++ r38.cs⟩ ty28 ?_
  refine sy_next 27 [(4, .adr 4 0)] [(4, ⟨28, r36.cs ++ r38.cs⟩)] ?_
  refine sw_ret (ret0 [.agg #[.bool r36.s, .slice r36.m.a r36.m.n r36.m.c, .slice r36.d.a r36.d.n r36.d.c, .bool r38.s, .slice r38.m.a r38.m.n r38.m.c, .slice r38.d.a r38.d.n r38.d.c]] ⟨res_cell ty28 part_agg, trivial⟩ fun u43 e44 => ?_)
  refine ⟨r36, r38, rfl, RatN.more (K := (K + L)) ?_ (by omega), RatN.more (K := (K + L)) ?_ (by omega)⟩
  · exact (h37.ext e44)
  · exact (h39.ext e44)
theorem k_ivSquare {u w : World} {a1 a2 : RL} {x1 x2 : Rat} {K : Nat} (d : Dat u w) (ha1 : RatV u a1 x1 K) (ha2 : RatV u a2 x2 K) (hK : K ≤ 50000000) : Calls Tryz.prog 23 #[IV a1 a2] w (Post u w fun v u' => ∃ p q : RL, v = IV p q ∧ RatN u' p (if Nt.sgI x1 x2 = 0 then 0 else Nt.lo (x1 * x1) (x2 * x2)) (K + K + 2) ∧ RatN u' q (Nt.hi (x1 * x1) (x2 * x2)) (K + K + 2)) := by
  refine calls_sym (args := [.agg #[.bool a1.s, .slice a1.m.a a1.m.n a1.m.c, .slice a1.d.a a1.d.n a1.d.c, .bool a2.s, .slice a2.m.a a2.m.n a2.m.c, .slice a2.d.a a2.d.n a2.d.c]]) Tryz.func23 rfl Tryz.ntmps23 (rs := [.cell 2 28]) Tryz.results23 (le_b rfl) (le_b rfl) d ?_
  refine sw_seq ?_
  refine sw_reg ?_
  refine sy_new 1 ⟨28, a1.cs ++ a2.cs⟩ ?_
  refine sy_new 2 ⟨28, [.bool false, .slice none 0 0, .slice none 0 0, .bool false, .slice none 0 0, .slice none 0 0]⟩ ?_
  refine sy_next 26 [(1, .adr 1 0), (2, .adr 2 0)] [(1, ⟨28, a1.cs ++ a2.cs⟩), (2, ⟨28, [.bool false, .slice none 0 0, .slice none 0 0, .bool false, .slice none 0 0, .slice none 0 0]⟩)] ?_
  refine sw_seq ?_
  refine sw_any [0, 1, 0, 4, 15, 0, 32, 0, 128, 511, 0, 0, 4095, 8191] [(0, []), (1, []), (2, []), (3, []), (5, []), (6, []), (7, []), (8, []), (10, []), (11, []), (4, []), (9, []), (12, []), (13, [])] (by kernel_rfl) (by kernel_rfl) ?_
  refine sy_pure 5 (.adr 1 0) ?_
  refine sy_ldv 6 (.v (a1.v)) ty26 part_agg ?_
  refine sy_pure 7 (.adr 1 0) ?_
  refine sy_ldv 8 (.v (a1.v)) ty26 part_agg ?_
  refine sy_pure 10 (.adr 1 3) ?_
  refine sy_ldv 11 (.v (a2.v)) ty26 part_agg ?_
  refine sy_pure 12 (.adr 1 3) ?_
  refine sy_ldv 13 (.v (a2.v)) ty26 part_agg ?_
  refine sy_new 3 ⟨26, [.bool false, .slice none 0 0, .slice none 0 0]⟩ ?_
  refine sy_new 4 ⟨26, [.bool false, .slice none 0 0, .slice none 0 0]⟩ ?_
  refine sy_call 9 111 [a1.v, a1.v] ?_
  intro w11 u11 e11 d11
  have k16 := k_ratMul d11 (ha1.ext e11) (ha1.ext e11) (by omega) (by omega)
  with_reducible refine Post.mono k16 ?_
  clear k16
  rintro _ u14 g15 ⟨r12, rfl, h13⟩
  refine sy_call 14 111 [a2.v, a2.v] ?_
  intro w17 u17 e17 d17
  have k22 := k_ratMul d17 (ha2.ext (e11.trans (g15.ext.trans e17))) (ha2.ext (e11.trans (g15.ext.trans e17))) (by omega) (by omega)
  with_reducible refine Post.mono k22 ?_
  clear k22
  rintro _ u20 g21 ⟨r18, rfl, h19⟩
  refine sy_store ⟨26, r12.cs⟩ ty26 ?_
  refine sy_store ⟨26, r18.cs⟩ ty26 ?_
  refine sy_next 26 [(1, .adr 1 0), (2, .adr 2 0), (3, .adr 3 0), (4, .adr 4 0)] [(1, ⟨28, a1.cs ++ a2.cs⟩), (2, ⟨28, [.bool false, .slice none 0 0, .slice none 0 0, .bool false, .slice none 0 0, .slice none 0 0]⟩), (3, ⟨26, r12.cs⟩), (4, ⟨26, r18.cs⟩)] ?_
  refine sw_seq ?_
  refine sw_seq ?_
  refine sw_reg ?_
  refine sy_ldv 15 (.v (.agg #[.bool a1.s, .slice a1.m.a a1.m.n a1.m.c, .slice a1.d.a a1.d.n a1.d.c, .bool a2.s, .slice a2.m.a a2.m.n a2.m.c, .slice a2.d.a a2.d.n a2.d.c])) ty28 part_agg ?_
  refine sy_call 16 64 [.agg #[.bool a1.s, .slice a1.m.a a1.m.n a1.m.c, .slice a1.d.a a1.d.n a1.d.c, .bool a2.s, .slice a2.m.a a2.m.n a2.m.c, .slice a2.d.a a2.d.n a2.d.c]] ?_
  intro w23 u23 e23 d23
  have k26 := k_ivSign d23 (ha1.ext (e11.trans (g15.ext.trans (e17.trans (g21.ext.trans e23))))) (ha2.ext (e11.trans (g15.ext.trans (e17.trans (g21.ext.trans e23))))) (by omega)
  with_reducible refine Post.mono k26 ?_
  clear k26
  rintro _ u24 g25 rfl
  refine sy_pure 17 (.v (.bool ((Nt.sgI x1 x2) == 0))) ?_
  refine sy_next 26 [(2, .adr 2 0), (3, .adr 3 0), (4, .adr 4 0), (17, .v (.bool ((Nt.sgI x1 x2) == 0)))] [(2, ⟨28, [.bool false, .slice none 0 0, .slice none 0 0, .bool false, .slice none 0 0, .slice none 0 0]⟩), (3, ⟨26, r12.cs⟩), (4, ⟨26, r18.cs⟩)] ?_
  refine sw_cond (b := (Nt.sgI x1 x2) == 0) (by kernel_rfl) (fun hb27 => ?_) (fun hb27 => ?_)
  · replace hb27 : ((Nt.sgI x1 x2) == 0) = true := hb27
    refine sw_seq ?_
    refine sw_any [0, 0, 0, 7, 15, 31] [(1, []), (2, []), (0, []), (3, []), (4, []), (5, [])] (by kernel_rfl) (by kernel_rfl) ?_
    refine sy_ldv 19 (.v (r12.v)) ty26 part_agg ?_
    refine sy_ldv 20 (.v (r18.v)) ty26 part_agg ?_
    refine sy_call 18 112 [.int .i64 0] ?_
    intro w28 u28 e28 d28
    have k33 := k_ratOf d28 (z := 0) (by omega) (by omega)
    with_reducible refine Post.mono k33 ?_
    clear k33
    rintro _ u31 g32 ⟨r29, rfl, h30⟩
    refine sy_call 21 113 [r12.v, r18.v] ?_
    intro w34 u34 e34 d34
    have k39 := k_greaterN d34 (h13.ext (e17.trans (g21.ext.trans (e23.trans (g25.ext.trans (e28.trans (g32.ext.trans e34))))))) (h19.ext (e23.trans (g25.ext.trans (e28.trans (g32.ext.trans e34))))) (by omega)
    with_reducible refine Post.mono k39 ?_
    clear k39
    rintro _ u37 g38 ⟨r35, rfl, h36⟩
    refine sy_pure 22 (.v (.agg #[.bool r29.s, .slice r29.m.a r29.m.n r29.m.c, .slice r29.d.a r29.d.n r29.d.c, .bool r35.s, .slice r35.m.a r35.m.n r35.m.c, .slice r35.d.a r35.d.n r35.d.c])) ?_
    refine sy_store ⟨28, r29.cs ++ r35.cs⟩ ty28 ?_
    refine sy_next 26 [(2, .adr 2 0)] [(2, ⟨28, r29.cs ++ r35.cs⟩)] ?_
    refine sw_ret (mpr_seq (ret0 [.agg #[.bool r29.s, .slice r29.m.a r29.m.n r29.m.c, .slice r29.d.a r29.d.n r29.d.c, .bool r35.s, .slice r35.m.a r35.m.n r35.m.c, .slice r35.d.a r35.d.n r35.d.c]] ⟨res_cell ty28 part_agg, trivial⟩ fun u40 e41 => ?_))
    refine ⟨r29, r35, rfl, RatN.more (K := 2) ?_ (by omega), RatN.more (K := (K + K)) ?_ (by omega)⟩
    · rw [if_pos (by simpa using hb27)]
      exact (h30.ext (e34.trans (g38.ext.trans e41)))
    · exact (h36.ext e41)
  · replace hb27 : ((Nt.sgI x1 x2) == 0) = false := hb27
    refine sw_skip (mp_seq ?_)
    refine sw_seq ?_
    refine sw_reg ?_
    refine sy_ldv 23 (.v (r12.v)) ty26 part_agg ?_
    refine sy_ldv 24 (.v (r18.v)) ty26 part_agg ?_
    refine sy_call 25 70 [r12.v, r18.v] ?_
    intro w42 u42 e42 d42
    have k49 := k_ivMake d42 (h13.ext (e17.trans (g21.ext.trans (e23.trans (g25.ext.trans e42))))).raw (h19.ext (e23.trans (g25.ext.trans e42))).raw (by omega)
    with_reducible refine Post.mono k49 ?_
    clear k49
    rintro _ u47 g48 ⟨r43, r45, rfl, h44, h46⟩
    refine sy_store ⟨28, r43.cs ++ r45.cs⟩ ty28 ?_
    refine sy_next 26 [(2, .adr 2 0)] [(2, ⟨28, r43.cs ++ r45.cs⟩)] ?_
    refine sw_ret (ret0 [.agg #[.bool r43.s, .slice r43.m.a r43.m.n r43.m.c, .slice r43.d.a r43.d.n r43.d.c, .bool r45.s, .slice r45.m.a r45.m.n r45.m.c, .slice r45.d.a r45.d.n r45.d.c]] ⟨res_cell ty28 part_agg, trivial⟩ fun u50 e51 => ?_)
    refine ⟨r43, r45, rfl, RatN.more (K := (K + K)) ?_ (by omega), RatN.more (K := (K + K)) ?_ (by omega)⟩
    · rw [if_neg (by simpa using hb27)]
      exact (h44.ext e51)
    · exact (h46.ext e51)
theorem hull_ord (a b c d : Rat) : Nt.lo (Nt.lo (Nt.lo a b) (Nt.lo c d)) (Nt.hi (Nt.hi a b) (Nt.hi c d)) = Nt.lo (Nt.lo a b) (Nt.lo c d) ∧ Nt.hi (Nt.lo (Nt.lo a b) (Nt.lo c d)) (Nt.hi (Nt.hi a b) (Nt.hi c d)) = Nt.hi (Nt.hi a b) (Nt.hi c d) := by
  apply Nt.lo_of_le
  unfold Nt.lo Nt.hi
  grind
theorem k_ivHull {u w : World} {a1 a2 : RL} {x1 x2 : Rat} {b1 b2 : RL} {y1 y2 : Rat} {K L : Nat} (d : Dat u w) (ha1 : RatV u a1 x1 K) (ha2 : RatV u a2 x2 K) (hb1 : RatV u b1 y1 L) (hb2 : RatV u b2 y2 L) (hK : K ≤ 100000000) (hL : L ≤ 100000000) : Calls Tryz.prog 79 #[IV a1 a2, IV b1 b2] w (Post u w fun v u' => ∃ p q : RL, v = IV p q ∧ RatN u' p (Nt.lo (Nt.lo x1 x2) (Nt.lo y1 y2)) (max K L) ∧ RatN u' q (Nt.hi (Nt.hi x1 x2) (Nt.hi y1 y2)) (max K L)) := by
  refine calls_sym (args := [.agg #[.bool a1.s, .slice a1.m.a a1.m.n a1.m.c, .slice a1.d.a a1.d.n a1.d.c, .bool a2.s, .slice a2.m.a a2.m.n a2.m.c, .slice a2.d.a a2.d.n a2.d.c], .agg #[.bool b1.s, .slice b1.m.a b1.m.n b1.m.c, .slice b1.d.a b1.d.n b1.d.c, .bool b2.s, .slice b2.m.a b2.m.n b2.m.c, .slice b2.d.a b2.d.n b2.d.c]]) Tryz.func79 rfl Tryz.ntmps79 (rs := [.cell 4 28]) Tryz.results79 (le_b rfl) (le_b rfl) d ?_
  refine sw_seq ?_
  refine sw_reg ?_
  refine sy_new 2 ⟨28, a1.cs ++ a2.cs⟩ ?_
  refine sy_new 3 ⟨28, b1.cs ++ b2.cs⟩ ?_
  refine sy_new 4 ⟨28, [.bool false, .slice none 0 0, .slice none 0 0, .bool false, .slice none 0 0, .slice none 0 0]⟩ ?_
  refine sy_next 26 [(2, .adr 2 0), (3, .adr 3 0), (4, .adr 4 0)] [(2, ⟨28, a1.cs ++ a2.cs⟩), (3, ⟨28, b1.cs ++ b2.cs⟩), (4, ⟨28, [.bool false, .slice none 0 0, .slice none 0 0, .bool false, .slice none 0 0, .slice none 0 0]⟩)] ?_
  refine sw_seq ?_
  refine sw_reg ?_
  refine sy_ldv 10 (.v (.agg #[.bool a1.s, .slice a1.m.a a1.m.n a1.m.c, .slice a1.d.a a1.d.n a1.d.c, .bool a2.s, .slice a2.m.a a2.m.n a2.m.c, .slice a2.d.a a2.d.n a2.d.c])) ty28 part_agg ?_
  refine sy_call 11 103 [.agg #[.bool a1.s, .slice a1.m.a a1.m.n a1.m.c, .slice a1.d.a a1.d.n a1.d.c, .bool a2.s, .slice a2.m.a a2.m.n a2.m.c, .slice a2.d.a a2.d.n a2.d.c]] ?_
  intro w11 u11 e11 d11
  have k18 := k_ends d11 (ha1.ext e11) (ha2.ext e11) (by omega)
  with_reducible refine Post.mono k18 ?_
  clear k18
  rintro _ u16 g17 ⟨r12, r14, rfl, h13, h15⟩
  refine sy_pure 9 (.v (.tuple #[r12.v, r14.v])) ?_
  refine sy_pure 12 (.v (r12.v)) ?_
  refine sy_pure 13 (.v (r14.v)) ?_
  refine sy_new 5 ⟨26, [.bool false, .slice none 0 0, .slice none 0 0]⟩ ?_
  refine sy_new 6 ⟨26, [.bool false, .slice none 0 0, .slice none 0 0]⟩ ?_
  refine sy_store ⟨26, r12.cs⟩ ty26 ?_
  refine sy_store ⟨26, r14.cs⟩ ty26 ?_
  refine sy_next 26 [(3, .adr 3 0), (4, .adr 4 0), (5, .adr 5 0), (6, .adr 6 0)] [(3, ⟨28, b1.cs ++ b2.cs⟩), (4, ⟨28, [.bool false, .slice none 0 0, .slice none 0 0, .bool false, .slice none 0 0, .slice none 0 0]⟩), (5, ⟨26, r12.cs⟩), (6, ⟨26, r14.cs⟩)] ?_
  refine sw_seq ?_
  refine sw_reg ?_
  refine sy_ldv 15 (.v (.agg #[.bool b1.s, .slice b1.m.a b1.m.n b1.m.c, .slice b1.d.a b1.d.n b1.d.c, .bool b2.s, .slice b2.m.a b2.m.n b2.m.c, .slice b2.d.a b2.d.n b2.d.c])) ty28 part_agg ?_
  refine sy_call 16 103 [.agg #[.bool b1.s, .slice b1.m.a b1.m.n b1.m.c, .slice b1.d.a b1.d.n b1.d.c, .bool b2.s, .slice b2.m.a b2.m.n b2.m.c, .slice b2.d.a b2.d.n b2.d.c]] ?_
  intro w19 u19 e19 d19
  have k26 := k_ends d19 (hb1.ext (e11.trans (g17.ext.trans e19))) (hb2.ext (e11.trans (g17.ext.trans e19))) (by omega)
  with_reducible refine Post.mono k26 ?_
  clear k26
  rintro _ u24 g25 ⟨r20, r22, rfl, h21, h23⟩
  refine sy_pure 14 (.v (.tuple #[r20.v, r22.v])) ?_
  refine sy_pure 17 (.v (r20.v)) ?_
  refine sy_pure 18 (.v (r22.v)) ?_
  refine sy_new 7 ⟨26, [.bool false, .slice none 0 0, .slice none 0 0]⟩ ?_
  refine sy_new 8 ⟨26, [.bool false, .slice none 0 0, .slice none 0 0]⟩ ?_
  refine sy_store ⟨26, r20.cs⟩ ty26 ?_
  refine sy_store ⟨26, r22.cs⟩ ty26 ?_
  refine sy_next 26 [(4, .adr 4 0), (5, .adr 5 0), (6, .adr 6 0), (7, .adr 7 0), (8, .adr 8 0)] [(4, ⟨28, [.bool false, .slice none 0 0, .slice none 0 0, .bool false, .slice none 0 0, .slice none 0 0]⟩), (5, ⟨26, r12.cs⟩), (6, ⟨26, r14.cs⟩), (7, ⟨26, r20.cs⟩), (8, ⟨26, r22.cs⟩)] ?_
  refine sw_seq ?_
  refine sw_any [0, 0, 3, 0, 0, 31, 63, 127] [(0, []), (1, []), (3, []), (4, []), (2, []), (5, []), (6, []), (7, [])] (by kernel_rfl) (by kernel_rfl) ?_
  refine sy_ldv 19 (.v (r12.v)) ty26 part_agg ?_
  refine sy_ldv 20 (.v (r20.v)) ty26 part_agg ?_
  refine sy_ldv 22 (.v (r14.v)) ty26 part_agg ?_
  refine sy_ldv 23 (.v (r22.v)) ty26 part_agg ?_
  refine sy_call 21 128 [r12.v, r20.v] ?_
  intro w27 u27 e27 d27
  have k32 := k_lesserV d27 ((h13.ext (e19.trans (g25.ext.trans e27))).more (Nat.le_max_left K L)) ((h21.ext e27).more (Nat.le_max_right K L)) (by omega)
  with_reducible refine Post.mono k32 ?_
  clear k32
  rintro _ u30 g31 ⟨r28, rfl, h29⟩
  refine sy_call 24 113 [r14.v, r22.v] ?_
  intro w33 u33 e33 d33
  have k38 := k_greaterV d33 ((h15.ext (e19.trans (g25.ext.trans (e27.trans (g31.ext.trans e33))))).more (Nat.le_max_left K L)) ((h23.ext (e27.trans (g31.ext.trans e33))).more (Nat.le_max_right K L)) (by omega)
  with_reducible refine Post.mono k38 ?_
  clear k38
  rintro _ u36 g37 ⟨r34, rfl, h35⟩
  refine sy_call 25 70 [r28.v, r34.v] ?_
  intro w39 u39 e39 d39
  have k46 := k_ivMake d39 (h29.ext (e33.trans (g37.ext.trans e39))) (h35.ext e39) (by omega)
  with_reducible refine Post.mono k46 ?_
  clear k46
  rintro _ u44 g45 ⟨r40, r42, rfl, h41, h43⟩
  refine sy_store ⟨28, r40.cs ++ r42.cs⟩ ty28 ?_
  refine sy_next 26 [(4, .adr 4 0)] [(4, ⟨28, r40.cs ++ r42.cs⟩)] ?_
  refine sw_ret (ret0 [.agg #[.bool r40.s, .slice r40.m.a r40.m.n r40.m.c, .slice r40.d.a r40.d.n r40.d.c, .bool r42.s, .slice r42.m.a r42.m.n r42.m.c, .slice r42.d.a r42.d.n r42.d.c]] ⟨res_cell ty28 part_agg, trivial⟩ fun u47 e48 => ?_)
  refine ⟨r40, r42, rfl, RatN.more (K := (max K L)) ?_ (by omega), RatN.more (K := (max K L)) ?_ (by omega)⟩
  · rw [← (hull_ord x1 x2 y1 y2).1]
    exact (h41.ext e48)
  · rw [← (hull_ord x1 x2 y1 y2).2]
    exact (h43.ext e48)
/-- What Meet answers: nothing in common, or the interval. -/
def MeetR (l h : Rat) (K : Nat) (v : Value) (u : World) : Prop := (h < l ∧ v = .tuple #[.agg #[.bool false, .slice none 0 0, .slice none 0 0, .bool false, .slice none 0 0, .slice none 0 0], .bool false]) ∨ (l ≤ h ∧ ∃ p q : RL, v = .tuple #[IV p q, .bool true] ∧ RatN u p l K ∧ RatN u q h K)
theorem k_ivMeet {u w : World} {a1 a2 : RL} {x1 x2 : Rat} {b1 b2 : RL} {y1 y2 : Rat} {K L : Nat} (d : Dat u w) (ha1 : RatV u a1 x1 K) (ha2 : RatV u a2 x2 K) (hb1 : RatV u b1 y1 L) (hb2 : RatV u b2 y2 L) (hK : K ≤ 100000000) (hL : L ≤ 100000000) : Calls Tryz.prog 57 #[IV a1 a2, IV b1 b2] w (Post u w fun v u' => MeetR (Nt.hi (Nt.lo x1 x2) (Nt.lo y1 y2)) (Nt.lo (Nt.hi x1 x2) (Nt.hi y1 y2)) (max K L) v u') := by
  refine calls_sym (args := [.agg #[.bool a1.s, .slice a1.m.a a1.m.n a1.m.c, .slice a1.d.a a1.d.n a1.d.c, .bool a2.s, .slice a2.m.a a2.m.n a2.m.c, .slice a2.d.a a2.d.n a2.d.c], .agg #[.bool b1.s, .slice b1.m.a b1.m.n b1.m.c, .slice b1.d.a b1.d.n b1.d.c, .bool b2.s, .slice b2.m.a b2.m.n b2.m.c, .slice b2.d.a b2.d.n b2.d.c]]) Tryz.func57 rfl Tryz.ntmps57 (rs := [.cell 4 28, .tmp 5]) Tryz.results57 (le_b rfl) (le_b rfl) d ?_
  refine sw_seq ?_
  refine sw_reg ?_
  refine sy_new 2 ⟨28, a1.cs ++ a2.cs⟩ ?_
  refine sy_new 3 ⟨28, b1.cs ++ b2.cs⟩ ?_
  refine sy_new 4 ⟨28, [.bool false, .slice none 0 0, .slice none 0 0, .bool false, .slice none 0 0, .slice none 0 0]⟩ ?_
  refine sy_pure 5 (.v (.bool false)) ?_
  refine sy_next 36 [(2, .adr 2 0), (3, .adr 3 0), (4, .adr 4 0)] [(2, ⟨28, a1.cs ++ a2.cs⟩), (3, ⟨28, b1.cs ++ b2.cs⟩), (4, ⟨28, [.bool false, .slice none 0 0, .slice none 0 0, .bool false, .slice none 0 0, .slice none 0 0]⟩)] ?_
  refine sw_seq ?_
  refine sw_reg ?_
  refine sy_ldv 13 (.v (.agg #[.bool a1.s, .slice a1.m.a a1.m.n a1.m.c, .slice a1.d.a a1.d.n a1.d.c, .bool a2.s, .slice a2.m.a a2.m.n a2.m.c, .slice a2.d.a a2.d.n a2.d.c])) ty28 part_agg ?_
  refine sy_call 14 103 [.agg #[.bool a1.s, .slice a1.m.a a1.m.n a1.m.c, .slice a1.d.a a1.d.n a1.d.c, .bool a2.s, .slice a2.m.a a2.m.n a2.m.c, .slice a2.d.a a2.d.n a2.d.c]] ?_
  intro w11 u11 e11 d11
  have k18 := k_ends d11 (ha1.ext e11) (ha2.ext e11) (by omega)
  with_reducible refine Post.mono k18 ?_
  clear k18
  rintro _ u16 g17 ⟨r12, r14, rfl, h13, h15⟩
  refine sy_pure 12 (.v (.tuple #[r12.v, r14.v])) ?_
  refine sy_pure 15 (.v (r12.v)) ?_
  refine sy_pure 16 (.v (r14.v)) ?_
  refine sy_new 6 ⟨26, [.bool false, .slice none 0 0, .slice none 0 0]⟩ ?_
  refine sy_new 7 ⟨26, [.bool false, .slice none 0 0, .slice none 0 0]⟩ ?_
  refine sy_store ⟨26, r12.cs⟩ ty26 ?_
  refine sy_store ⟨26, r14.cs⟩ ty26 ?_
  refine sy_next 36 [(3, .adr 3 0), (4, .adr 4 0), (6, .adr 6 0), (7, .adr 7 0)] [(3, ⟨28, b1.cs ++ b2.cs⟩), (4, ⟨28, [.bool false, .slice none 0 0, .slice none 0 0, .bool false, .slice none 0 0, .slice none 0 0]⟩), (6, ⟨26, r12.cs⟩), (7, ⟨26, r14.cs⟩)] ?_
  refine sw_seq ?_
  refine sw_reg ?_
  refine sy_ldv 18 (.v (.agg #[.bool b1.s, .slice b1.m.a b1.m.n b1.m.c, .slice b1.d.a b1.d.n b1.d.c, .bool b2.s, .slice b2.m.a b2.m.n b2.m.c, .slice b2.d.a b2.d.n b2.d.c])) ty28 part_agg ?_
  refine sy_call 19 103 [.agg #[.bool b1.s, .slice b1.m.a b1.m.n b1.m.c, .slice b1.d.a b1.d.n b1.d.c, .bool b2.s, .slice b2.m.a b2.m.n b2.m.c, .slice b2.d.a b2.d.n b2.d.c]] ?_
  intro w19 u19 e19 d19
  have k26 := k_ends d19 (hb1.ext (e11.trans (g17.ext.trans e19))) (hb2.ext (e11.trans (g17.ext.trans e19))) (by omega)
  with_reducible refine Post.mono k26 ?_
  clear k26
  rintro _ u24 g25 ⟨r20, r22, rfl, h21, h23⟩
  refine sy_pure 17 (.v (.tuple #[r20.v, r22.v])) ?_
  refine sy_pure 20 (.v (r20.v)) ?_
  refine sy_pure 21 (.v (r22.v)) ?_
  refine sy_new 8 ⟨26, [.bool false, .slice none 0 0, .slice none 0 0]⟩ ?_
  refine sy_new 9 ⟨26, [.bool false, .slice none 0 0, .slice none 0 0]⟩ ?_
  refine sy_store ⟨26, r20.cs⟩ ty26 ?_
  refine sy_store ⟨26, r22.cs⟩ ty26 ?_
  refine sy_next 36 [(4, .adr 4 0), (6, .adr 6 0), (7, .adr 7 0), (8, .adr 8 0), (9, .adr 9 0)] [(4, ⟨28, [.bool false, .slice none 0 0, .slice none 0 0, .bool false, .slice none 0 0, .slice none 0 0]⟩), (6, ⟨26, r12.cs⟩), (7, ⟨26, r14.cs⟩), (8, ⟨26, r20.cs⟩), (9, ⟨26, r22.cs⟩)] ?_
  refine sw_seq ?_
  refine sw_any [0, 0, 3, 0, 0, 31, 0, 0, 255, 511] [(0, []), (1, []), (3, []), (4, []), (6, []), (7, []), (2, []), (5, []), (8, []), (9, [])] (by kernel_rfl) (by kernel_rfl) ?_
  refine sy_ldv 22 (.v (r12.v)) ty26 part_agg ?_
  refine sy_ldv 23 (.v (r20.v)) ty26 part_agg ?_
  refine sy_ldv 25 (.v (r14.v)) ty26 part_agg ?_
  refine sy_ldv 26 (.v (r22.v)) ty26 part_agg ?_
  refine sy_new 10 ⟨26, [.bool false, .slice none 0 0, .slice none 0 0]⟩ ?_
  refine sy_new 11 ⟨26, [.bool false, .slice none 0 0, .slice none 0 0]⟩ ?_
  refine sy_call 24 113 [r12.v, r20.v] ?_
  intro w27 u27 e27 d27
  have k32 := k_greaterV d27 ((h13.ext (e19.trans (g25.ext.trans e27))).more (Nat.le_max_left K L)) ((h21.ext e27).more (Nat.le_max_right K L)) (by omega)
  with_reducible refine Post.mono k32 ?_
  clear k32
  rintro _ u30 g31 ⟨r28, rfl, h29⟩
  refine sy_call 27 128 [r14.v, r22.v] ?_
  intro w33 u33 e33 d33
  have k38 := k_lesserV d33 ((h15.ext (e19.trans (g25.ext.trans (e27.trans (g31.ext.trans e33))))).more (Nat.le_max_left K L)) ((h23.ext (e27.trans (g31.ext.trans e33))).more (Nat.le_max_right K L)) (by omega)
  with_reducible refine Post.mono k38 ?_
  clear k38
  rintro _ u36 g37 ⟨r34, rfl, h35⟩
  refine sy_store ⟨26, r28.cs⟩ ty26 ?_
  refine sy_store ⟨26, r34.cs⟩ ty26 ?_
  refine sy_next 36 [(4, .adr 4 0), (10, .adr 10 0), (11, .adr 11 0)] [(4, ⟨28, [.bool false, .slice none 0 0, .slice none 0 0, .bool false, .slice none 0 0, .slice none 0 0]⟩), (10, ⟨26, r28.cs⟩), (11, ⟨26, r34.cs⟩)] ?_
  refine sw_seq ?_
  refine sw_seq ?_
  refine sw_reg ?_
  refine sy_ldv 28 (.v (r28.v)) ty26 part_agg ?_
  refine sy_ldv 29 (.v (r34.v)) ty26 part_agg ?_
  refine sy_call 30 114 [r28.v, r34.v] ?_
  intro w39 u39 e39 d39
  have k42 := k_ratCompare d39 (h29.ext (e33.trans (g37.ext.trans e39))) (h35.ext e39) (by omega) (by omega)
  with_reducible refine Post.mono k42 ?_
  clear k42
  rintro _ u40 g41 rfl
  refine sy_pure 31 (.v (.bool (decide ((0 : Int) < (Nt.cmpQ (Nt.hi (Nt.lo x1 x2) (Nt.lo y1 y2)) (Nt.lo (Nt.hi x1 x2) (Nt.hi y1 y2))))))) ?_
  refine sy_next 36 [(4, .adr 4 0), (10, .adr 10 0), (11, .adr 11 0), (31, .v (.bool (decide ((0 : Int) < (Nt.cmpQ (Nt.hi (Nt.lo x1 x2) (Nt.lo y1 y2)) (Nt.lo (Nt.hi x1 x2) (Nt.hi y1 y2)))))))] [(4, ⟨28, [.bool false, .slice none 0 0, .slice none 0 0, .bool false, .slice none 0 0, .slice none 0 0]⟩), (10, ⟨26, r28.cs⟩), (11, ⟨26, r34.cs⟩)] ?_
  refine sw_cond (b := decide ((0 : Int) < (Nt.cmpQ (Nt.hi (Nt.lo x1 x2) (Nt.lo y1 y2)) (Nt.lo (Nt.hi x1 x2) (Nt.hi y1 y2))))) (by kernel_rfl) (fun hb43 => ?_) (fun hb43 => ?_)
  · replace hb43 : (decide ((0 : Int) < (Nt.cmpQ (Nt.hi (Nt.lo x1 x2) (Nt.lo y1 y2)) (Nt.lo (Nt.hi x1 x2) (Nt.hi y1 y2))))) = true := hb43
    refine sw_seq ?_
    refine sw_reg ?_
    refine sy_pure 32 (.v (.agg #[.bool false, .slice none 0 0, .slice none 0 0, .bool false, .slice none 0 0, .slice none 0 0])) ?_
    refine sy_store ⟨28, [.bool false, .slice none 0 0, .slice none 0 0, .bool false, .slice none 0 0, .slice none 0 0]⟩ ty28 ?_
    refine sy_pure 5 (.v (.bool false)) ?_
    refine sy_next 36 [(4, .adr 4 0), (5, .v (.bool false))] [(4, ⟨28, [.bool false, .slice none 0 0, .slice none 0 0, .bool false, .slice none 0 0, .slice none 0 0]⟩)] ?_
    refine sw_ret (mpr_seq (ret0 [.agg #[.bool false, .slice none 0 0, .slice none 0 0, .bool false, .slice none 0 0, .slice none 0 0], .bool false] ⟨res_cell ty28 part_agg, res_tmp, trivial⟩ fun u44 e45 => ?_))
    rw [Nt.cmpQ_gt] at hb43
    exact .inl ⟨of_decide_eq_true hb43, rfl⟩
  · replace hb43 : (decide ((0 : Int) < (Nt.cmpQ (Nt.hi (Nt.lo x1 x2) (Nt.lo y1 y2)) (Nt.lo (Nt.hi x1 x2) (Nt.hi y1 y2))))) = false := hb43
    refine sw_skip (mp_seq ?_)
    refine sw_seq ?_
    refine sw_reg ?_
    refine sy_ldv 33 (.v (r28.v)) ty26 part_agg ?_
    refine sy_ldv 34 (.v (r34.v)) ty26 part_agg ?_
    refine sy_call 35 70 [r28.v, r34.v] ?_
    intro w46 u46 e46 d46
    have k53 := k_ivMake d46 (h29.ext (e33.trans (g37.ext.trans (e39.trans (g41.ext.trans e46))))) (h35.ext (e39.trans (g41.ext.trans e46))) (by omega)
    with_reducible refine Post.mono k53 ?_
    clear k53
    rintro _ u51 g52 ⟨r47, r49, rfl, h48, h50⟩
    refine sy_store ⟨28, r47.cs ++ r49.cs⟩ ty28 ?_
    refine sy_pure 5 (.v (.bool true)) ?_
    refine sy_next 36 [(4, .adr 4 0), (5, .v (.bool true))] [(4, ⟨28, r47.cs ++ r49.cs⟩)] ?_
    refine sw_ret (ret0 [.agg #[.bool r47.s, .slice r47.m.a r47.m.n r47.m.c, .slice r47.d.a r47.d.n r47.d.c, .bool r49.s, .slice r49.m.a r49.m.n r49.m.c, .slice r49.d.a r49.d.n r49.d.c], .bool true] ⟨res_cell ty28 part_agg, res_tmp, trivial⟩ fun u54 e55 => ?_)
    rw [Nt.cmpQ_gt] at hb43
    have hle : (Nt.hi (Nt.lo x1 x2) (Nt.lo y1 y2)) ≤ (Nt.lo (Nt.hi x1 x2) (Nt.hi y1 y2)) := by have h9 := of_decide_eq_false hb43; grind
    have h8 := Nt.lo_of_le hle
    refine .inr ⟨hle, r47, r49, rfl, ?_, ?_⟩
    · have h7 := (h48.ext e55)
      rw [h8.1] at h7
      exact h7
    · have h7 := (h50.ext e55)
      rw [h8.2] at h7
      exact h7
theorem k_ratDiv1 {u w : World} {r1 r2 : RL} {x y : Rat} {K L : Nat} (d : Dat u w) (hr1 : RatV u r1 x K) (hr2 : RatV u r2 y L) (hy : y ≠ 0) (hK : K ≤ 200000000) (hL : L ≤ 200000000) : Calls Tryz.prog 99 #[r1.v, r2.v] w (Post u w fun v u' => ∃ r : RL, v = .tuple #[r.v, .int .i64 0] ∧ RatN u' r (x / y) (K + L)) :=
  Post.mono (k_ratDiv d hr1 hr2 hK hL) fun v u' _ h => h.elim (fun h => absurd h.2 hy) (fun h => h.2)
theorem sgI_ne {a b : Rat} (h : (Nt.sgI a b == 0) = false) : a ≠ 0 ∧ b ≠ 0 := by
  unfold Nt.sgI Nt.lo Nt.hi at h
  grind
/-- What Div answers. -/
def IDivR (x1 x2 y1 y2 : Rat) (K : Nat) (v : Value) (u : World) : Prop := (Nt.sgI y1 y2 = 0 ∧ v = .tuple #[.agg #[.bool false, .slice none 0 0, .slice none 0 0, .bool false, .slice none 0 0, .slice none 0 0], .int .i64 3]) ∨ (Nt.sgI y1 y2 ≠ 0 ∧ ∃ p q : RL, v = .tuple #[IV p q, .int .i64 0] ∧ RatN u p (Nt.lo4 (x1 / y1) (x1 / y2) (x2 / y1) (x2 / y2)) K ∧ RatN u q (Nt.hi4 (x1 / y1) (x1 / y2) (x2 / y1) (x2 / y2)) K)
set_option maxHeartbeats 2000000 in
theorem k_ivDiv {u w : World} {a1 a2 : RL} {x1 x2 : Rat} {b1 b2 : RL} {y1 y2 : Rat} {K L : Nat} (d : Dat u w) (ha1 : RatV u a1 x1 K) (ha2 : RatV u a2 x2 K) (hb1 : RatV u b1 y1 L) (hb2 : RatV u b2 y2 L) (hK : K ≤ 100000000) (hL : L ≤ 100000000) : Calls Tryz.prog 14 #[IV a1 a2, IV b1 b2] w (Post u w fun v u' => IDivR x1 x2 y1 y2 (K + L) v u') := by
  refine calls_sym (args := [.agg #[.bool a1.s, .slice a1.m.a a1.m.n a1.m.c, .slice a1.d.a a1.d.n a1.d.c, .bool a2.s, .slice a2.m.a a2.m.n a2.m.c, .slice a2.d.a a2.d.n a2.d.c], .agg #[.bool b1.s, .slice b1.m.a b1.m.n b1.m.c, .slice b1.d.a b1.d.n b1.d.c, .bool b2.s, .slice b2.m.a b2.m.n b2.m.c, .slice b2.d.a b2.d.n b2.d.c]]) Tryz.func14 rfl Tryz.ntmps14 (rs := [.cell 4 28, .tmp 5]) Tryz.results14 (le_b rfl) (le_b rfl) d ?_
  refine sw_seq ?_
  refine sw_reg ?_
  refine sy_new 2 ⟨28, a1.cs ++ a2.cs⟩ ?_
  refine sy_new 3 ⟨28, b1.cs ++ b2.cs⟩ ?_
  refine sy_new 4 ⟨28, [.bool false, .slice none 0 0, .slice none 0 0, .bool false, .slice none 0 0, .slice none 0 0]⟩ ?_
  refine sy_pure 5 (.v (.int .i64 0)) ?_
  refine sy_next 48 [(2, .adr 2 0), (3, .adr 3 0), (4, .adr 4 0)] [(2, ⟨28, a1.cs ++ a2.cs⟩), (3, ⟨28, b1.cs ++ b2.cs⟩), (4, ⟨28, [.bool false, .slice none 0 0, .slice none 0 0, .bool false, .slice none 0 0, .slice none 0 0]⟩)] ?_
  refine sw_seq ?_
  refine sw_seq ?_
  refine sw_reg ?_
  refine sy_ldv 11 (.v (.agg #[.bool b1.s, .slice b1.m.a b1.m.n b1.m.c, .slice b1.d.a b1.d.n b1.d.c, .bool b2.s, .slice b2.m.a b2.m.n b2.m.c, .slice b2.d.a b2.d.n b2.d.c])) ty28 part_agg ?_
  refine sy_call 12 64 [.agg #[.bool b1.s, .slice b1.m.a b1.m.n b1.m.c, .slice b1.d.a b1.d.n b1.d.c, .bool b2.s, .slice b2.m.a b2.m.n b2.m.c, .slice b2.d.a b2.d.n b2.d.c]] ?_
  intro w11 u11 e11 d11
  have k14 := k_ivSign d11 (hb1.ext e11) (hb2.ext e11) (by omega)
  with_reducible refine Post.mono k14 ?_
  clear k14
  rintro _ u12 g13 rfl
  refine sy_pure 13 (.v (.bool ((Nt.sgI y1 y2) == 0))) ?_
  refine sy_next 48 [(2, .adr 2 0), (3, .adr 3 0), (4, .adr 4 0), (13, .v (.bool ((Nt.sgI y1 y2) == 0)))] [(2, ⟨28, a1.cs ++ a2.cs⟩), (3, ⟨28, b1.cs ++ b2.cs⟩), (4, ⟨28, [.bool false, .slice none 0 0, .slice none 0 0, .bool false, .slice none 0 0, .slice none 0 0]⟩)] ?_
  refine sw_cond (b := (Nt.sgI y1 y2) == 0) (by kernel_rfl) (fun hb15 => ?_) (fun hb15 => ?_)
  · replace hb15 : ((Nt.sgI y1 y2) == 0) = true := hb15
    refine sw_seq ?_
    refine sw_reg ?_
    refine sy_pure 14 (.v (.agg #[.bool false, .slice none 0 0, .slice none 0 0, .bool false, .slice none 0 0, .slice none 0 0])) ?_
    refine sy_store ⟨28, [.bool false, .slice none 0 0, .slice none 0 0, .bool false, .slice none 0 0, .slice none 0 0]⟩ ty28 ?_
    refine sy_pure 5 (.v (.int .i64 3)) ?_
    refine sy_next 48 [(4, .adr 4 0), (5, .v (.int .i64 3))] [(4, ⟨28, [.bool false, .slice none 0 0, .slice none 0 0, .bool false, .slice none 0 0, .slice none 0 0]⟩)] ?_
    refine sw_ret (mpr_seq (ret0 [.agg #[.bool false, .slice none 0 0, .slice none 0 0, .bool false, .slice none 0 0, .slice none 0 0], .int .i64 3] ⟨res_cell ty28 part_agg, res_tmp, trivial⟩ fun u16 e17 => ?_))
    exact .inl ⟨by simpa using hb15, rfl⟩
  · replace hb15 : ((Nt.sgI y1 y2) == 0) = false := hb15
    refine sw_skip (mp_seq ?_)
    refine sw_seq ?_
    refine sw_reg ?_
    refine sy_new 6 ⟨81, [.bool false, .slice none 0 0, .slice none 0 0, .bool false, .slice none 0 0, .slice none 0 0, .bool false, .slice none 0 0, .slice none 0 0, .bool false, .slice none 0 0, .slice none 0 0]⟩ ?_
    refine sy_next 48 [(2, .adr 2 0), (3, .adr 3 0), (4, .adr 4 0), (6, .adr 6 0)] [(2, ⟨28, a1.cs ++ a2.cs⟩), (3, ⟨28, b1.cs ++ b2.cs⟩), (4, ⟨28, [.bool false, .slice none 0 0, .slice none 0 0, .bool false, .slice none 0 0, .slice none 0 0]⟩), (6, ⟨81, [.bool false, .slice none 0 0, .slice none 0 0, .bool false, .slice none 0 0, .slice none 0 0, .bool false, .slice none 0 0, .slice none 0 0, .bool false, .slice none 0 0, .slice none 0 0]⟩)] ?_
    refine sw_seq ?_
    refine sw_seq ?_
    refine sw_reg ?_
    refine sy_pure 15 (.adr 2 0) ?_
    refine sy_ldv 16 (.v (a1.v)) ty26 part_agg ?_
    refine sy_pure 17 (.adr 2 3) ?_
    refine sy_ldv 18 (.v (a2.v)) ty26 part_agg ?_
    refine sy_pure 19 (.v (.agg #[.bool a1.s, .slice a1.m.a a1.m.n a1.m.c, .slice a1.d.a a1.d.n a1.d.c, .bool a2.s, .slice a2.m.a a2.m.n a2.m.c, .slice a2.d.a a2.d.n a2.d.c])) ?_
    refine sy_pure 20 (.v (.int .i64 0)) ?_
    refine sy_next 48 [(3, .adr 3 0), (4, .adr 4 0), (6, .adr 6 0), (19, .v (.agg #[.bool a1.s, .slice a1.m.a a1.m.n a1.m.c, .slice a1.d.a a1.d.n a1.d.c, .bool a2.s, .slice a2.m.a a2.m.n a2.m.c, .slice a2.d.a a2.d.n a2.d.c])), (20, .v (.int .i64 0))] [(3, ⟨28, b1.cs ++ b2.cs⟩), (4, ⟨28, [.bool false, .slice none 0 0, .slice none 0 0, .bool false, .slice none 0 0, .slice none 0 0]⟩), (6, ⟨81, [.bool false, .slice none 0 0, .slice none 0 0, .bool false, .slice none 0 0, .slice none 0 0, .bool false, .slice none 0 0, .slice none 0 0, .bool false, .slice none 0 0, .slice none 0 0]⟩)] ?_
    refine sw_block ?_
    refine sw_rounds 2 ?_
    refine sw_seq ?_
    refine sw_reg ?_
    refine sy_pure 21 (.v (.bool true)) ?_
    refine sy_next 48 [(3, .adr 3 0), (4, .adr 4 0), (6, .adr 6 0), (19, .v (.agg #[.bool a1.s, .slice a1.m.a a1.m.n a1.m.c, .slice a1.d.a a1.d.n a1.d.c, .bool a2.s, .slice a2.m.a a2.m.n a2.m.c, .slice a2.d.a a2.d.n a2.d.c])), (20, .v (.int .i64 0)), (21, .v (.bool true))] [(3, ⟨28, b1.cs ++ b2.cs⟩), (4, ⟨28, [.bool false, .slice none 0 0, .slice none 0 0, .bool false, .slice none 0 0, .slice none 0 0]⟩), (6, ⟨81, [.bool false, .slice none 0 0, .slice none 0 0, .bool false, .slice none 0 0, .slice none 0 0, .bool false, .slice none 0 0, .slice none 0 0, .bool false, .slice none 0 0, .slice none 0 0]⟩)] ?_
    refine sw_seq ?_
    refine sw_true (by kernel_rfl) ?_
    refine sw_skip (mp_seq ?_)
    refine sw_seq ?_
    refine sw_block ?_
    refine sw_seq ?_
    refine sw_reg ?_
    refine sy_pure 22 (.v (.int .i64 0)) ?_
    refine sy_pure 23 (.v (a1.v)) ?_
    refine sy_new 8 ⟨26, [.bool false, .slice none 0 0, .slice none 0 0]⟩ ?_
    refine sy_pure 7 (.v (.int .i64 0)) ?_
    refine sy_store ⟨26, a1.cs⟩ ty26 ?_
    refine sy_next 48 [(3, .adr 3 0), (4, .adr 4 0), (6, .adr 6 0), (7, .v (.int .i64 0)), (8, .adr 8 0), (19, .v (.agg #[.bool a1.s, .slice a1.m.a a1.m.n a1.m.c, .slice a1.d.a a1.d.n a1.d.c, .bool a2.s, .slice a2.m.a a2.m.n a2.m.c, .slice a2.d.a a2.d.n a2.d.c])), (20, .v (.int .i64 0))] [(3, ⟨28, b1.cs ++ b2.cs⟩), (4, ⟨28, [.bool false, .slice none 0 0, .slice none 0 0, .bool false, .slice none 0 0, .slice none 0 0]⟩), (6, ⟨81, [.bool false, .slice none 0 0, .slice none 0 0, .bool false, .slice none 0 0, .slice none 0 0, .bool false, .slice none 0 0, .slice none 0 0, .bool false, .slice none 0 0, .slice none 0 0]⟩), (8, ⟨26, a1.cs⟩)] ?_
    refine sw_seq ?_
    refine sw_reg ?_
    refine sy_pure 24 (.adr 3 0) ?_
    refine sy_ldv 25 (.v (b1.v)) ty26 part_agg ?_
    refine sy_pure 26 (.adr 3 3) ?_
    refine sy_ldv 27 (.v (b2.v)) ty26 part_agg ?_
    refine sy_pure 28 (.v (.agg #[.bool b1.s, .slice b1.m.a b1.m.n b1.m.c, .slice b1.d.a b1.d.n b1.d.c, .bool b2.s, .slice b2.m.a b2.m.n b2.m.c, .slice b2.d.a b2.d.n b2.d.c])) ?_
    refine sy_pure 29 (.v (.int .i64 0)) ?_
    refine sy_next 48 [(3, .adr 3 0), (4, .adr 4 0), (6, .adr 6 0), (7, .v (.int .i64 0)), (8, .adr 8 0), (19, .v (.agg #[.bool a1.s, .slice a1.m.a a1.m.n a1.m.c, .slice a1.d.a a1.d.n a1.d.c, .bool a2.s, .slice a2.m.a a2.m.n a2.m.c, .slice a2.d.a a2.d.n a2.d.c])), (20, .v (.int .i64 0)), (28, .v (.agg #[.bool b1.s, .slice b1.m.a b1.m.n b1.m.c, .slice b1.d.a b1.d.n b1.d.c, .bool b2.s, .slice b2.m.a b2.m.n b2.m.c, .slice b2.d.a b2.d.n b2.d.c])), (29, .v (.int .i64 0))] [(3, ⟨28, b1.cs ++ b2.cs⟩), (4, ⟨28, [.bool false, .slice none 0 0, .slice none 0 0, .bool false, .slice none 0 0, .slice none 0 0]⟩), (6, ⟨81, [.bool false, .slice none 0 0, .slice none 0 0, .bool false, .slice none 0 0, .slice none 0 0, .bool false, .slice none 0 0, .slice none 0 0, .bool false, .slice none 0 0, .slice none 0 0]⟩), (8, ⟨26, a1.cs⟩)] ?_
    refine sw_block ?_
    refine sw_rounds 2 ?_
    refine sw_seq ?_
    refine sw_reg ?_
    refine sy_pure 30 (.v (.bool true)) ?_
    refine sy_next 48 [(3, .adr 3 0), (4, .adr 4 0), (6, .adr 6 0), (7, .v (.int .i64 0)), (8, .adr 8 0), (19, .v (.agg #[.bool a1.s, .slice a1.m.a a1.m.n a1.m.c, .slice a1.d.a a1.d.n a1.d.c, .bool a2.s, .slice a2.m.a a2.m.n a2.m.c, .slice a2.d.a a2.d.n a2.d.c])), (20, .v (.int .i64 0)), (28, .v (.agg #[.bool b1.s, .slice b1.m.a b1.m.n b1.m.c, .slice b1.d.a b1.d.n b1.d.c, .bool b2.s, .slice b2.m.a b2.m.n b2.m.c, .slice b2.d.a b2.d.n b2.d.c])), (29, .v (.int .i64 0)), (30, .v (.bool true))] [(3, ⟨28, b1.cs ++ b2.cs⟩), (4, ⟨28, [.bool false, .slice none 0 0, .slice none 0 0, .bool false, .slice none 0 0, .slice none 0 0]⟩), (6, ⟨81, [.bool false, .slice none 0 0, .slice none 0 0, .bool false, .slice none 0 0, .slice none 0 0, .bool false, .slice none 0 0, .slice none 0 0, .bool false, .slice none 0 0, .slice none 0 0]⟩), (8, ⟨26, a1.cs⟩)] ?_
    refine sw_seq ?_
    refine sw_true (by kernel_rfl) ?_
    refine sw_skip (mp_seq ?_)
    refine sw_seq ?_
    refine sw_block ?_
    refine sw_seq ?_
    refine sw_reg ?_
    refine sy_pure 31 (.v (.int .i64 0)) ?_
    refine sy_pure 32 (.v (b1.v)) ?_
    refine sy_new 10 ⟨26, [.bool false, .slice none 0 0, .slice none 0 0]⟩ ?_
    refine sy_pure 9 (.v (.int .i64 0)) ?_
    refine sy_store ⟨26, b1.cs⟩ ty26 ?_
    refine sy_next 48 [(3, .adr 3 0), (4, .adr 4 0), (6, .adr 6 0), (7, .v (.int .i64 0)), (8, .adr 8 0), (9, .v (.int .i64 0)), (10, .adr 10 0), (19, .v (.agg #[.bool a1.s, .slice a1.m.a a1.m.n a1.m.c, .slice a1.d.a a1.d.n a1.d.c, .bool a2.s, .slice a2.m.a a2.m.n a2.m.c, .slice a2.d.a a2.d.n a2.d.c])), (20, .v (.int .i64 0)), (28, .v (.agg #[.bool b1.s, .slice b1.m.a b1.m.n b1.m.c, .slice b1.d.a b1.d.n b1.d.c, .bool b2.s, .slice b2.m.a b2.m.n b2.m.c, .slice b2.d.a b2.d.n b2.d.c])), (29, .v (.int .i64 0))] [(3, ⟨28, b1.cs ++ b2.cs⟩), (4, ⟨28, [.bool false, .slice none 0 0, .slice none 0 0, .bool false, .slice none 0 0, .slice none 0 0]⟩), (6, ⟨81, [.bool false, .slice none 0 0, .slice none 0 0, .bool false, .slice none 0 0, .slice none 0 0, .bool false, .slice none 0 0, .slice none 0 0, .bool false, .slice none 0 0, .slice none 0 0]⟩), (8, ⟨26, a1.cs⟩), (10, ⟨26, b1.cs⟩)] ?_
    refine sw_reg ?_
    refine sy_pure 34 (.v (.int .i64 0)) ?_
    refine sy_pure 35 (.v (.int .i64 0)) ?_
    refine sy_pure 36 (.v (.int .i64 0)) ?_
    refine sy_pure 37 (.v (.int .i64 0)) ?_
    refine sy_ldv 38 (.v (a1.v)) ty26 part_agg ?_
    refine sy_ldv 39 (.v (b1.v)) ty26 part_agg ?_
    refine sy_call 40 99 [a1.v, b1.v] ?_
    intro w18 u18 e18 d18
    have k23 := k_ratDiv1 d18 (ha1.ext (e11.trans (g13.ext.trans e18))) (hb1.ext (e11.trans (g13.ext.trans e18))) (sgI_ne hb15).1 (by omega) (by omega)
    with_reducible refine Post.mono k23 ?_
    clear k23
    rintro _ u21 g22 ⟨r19, rfl, h20⟩
    refine sy_pure 33 (.v (.tuple #[r19.v, .int .i64 0])) ?_
    refine sy_pure 41 (.v (r19.v)) ?_
    refine sy_pure 42 (.v (.int .i64 0)) ?_
    refine sy_pure 43 (.adr 6 0) ?_
    refine sy_store ⟨81, r19.cs ++ [.bool false, .slice none 0 0, .slice none 0 0, .bool false, .slice none 0 0, .slice none 0 0, .bool false, .slice none 0 0, .slice none 0 0]⟩ ty26 ?_
    refine sy_end ?_
    refine mp_seq ?_
    refine sw_reg ?_
    refine sy_pure 44 (.v (.int .i64 1)) ?_
    refine sy_pure 29 (.v (.int .i64 1)) ?_
    refine sy_end ?_
    refine rn_next ?_
    refine sw_weak (T := St.of 48 [(3, .adr 3 0), (4, .adr 4 0), (6, .adr 6 0), (7, .v (.int .i64 0)), (8, .adr 8 0), (19, .v (.agg #[.bool a1.s, .slice a1.m.a a1.m.n a1.m.c, .slice a1.d.a a1.d.n a1.d.c, .bool a2.s, .slice a2.m.a a2.m.n a2.m.c, .slice a2.d.a a2.d.n a2.d.c])), (20, .v (.int .i64 0)), (28, .v (.agg #[.bool b1.s, .slice b1.m.a b1.m.n b1.m.c, .slice b1.d.a b1.d.n b1.d.c, .bool b2.s, .slice b2.m.a b2.m.n b2.m.c, .slice b2.d.a b2.d.n b2.d.c])), (29, .v (.int .i64 1))] [(3, ⟨28, b1.cs ++ b2.cs⟩), (4, ⟨28, [.bool false, .slice none 0 0, .slice none 0 0, .bool false, .slice none 0 0, .slice none 0 0]⟩), (6, ⟨81, r19.cs ++ [.bool false, .slice none 0 0, .slice none 0 0, .bool false, .slice none 0 0, .slice none 0 0, .bool false, .slice none 0 0, .slice none 0 0]⟩), (8, ⟨26, a1.cs⟩)]) (by exact weak_mk _ _ _) ?_
    refine sw_seq ?_
    refine sw_reg ?_
    refine sy_pure 30 (.v (.bool true)) ?_
    refine sy_next 48 [(3, .adr 3 0), (4, .adr 4 0), (6, .adr 6 0), (7, .v (.int .i64 0)), (8, .adr 8 0), (19, .v (.agg #[.bool a1.s, .slice a1.m.a a1.m.n a1.m.c, .slice a1.d.a a1.d.n a1.d.c, .bool a2.s, .slice a2.m.a a2.m.n a2.m.c, .slice a2.d.a a2.d.n a2.d.c])), (20, .v (.int .i64 0)), (28, .v (.agg #[.bool b1.s, .slice b1.m.a b1.m.n b1.m.c, .slice b1.d.a b1.d.n b1.d.c, .bool b2.s, .slice b2.m.a b2.m.n b2.m.c, .slice b2.d.a b2.d.n b2.d.c])), (29, .v (.int .i64 1)), (30, .v (.bool true))] [(3, ⟨28, b1.cs ++ b2.cs⟩), (4, ⟨28, [.bool false, .slice none 0 0, .slice none 0 0, .bool false, .slice none 0 0, .slice none 0 0]⟩), (6, ⟨81, r19.cs ++ [.bool false, .slice none 0 0, .slice none 0 0, .bool false, .slice none 0 0, .slice none 0 0, .bool false, .slice none 0 0, .slice none 0 0]⟩), (8, ⟨26, a1.cs⟩)] ?_
    refine sw_seq ?_
    refine sw_true (by kernel_rfl) ?_
    refine sw_skip (mp_seq ?_)
    refine sw_seq ?_
    refine sw_block ?_
    refine sw_seq ?_
    refine sw_reg ?_
    refine sy_pure 31 (.v (.int .i64 1)) ?_
    refine sy_pure 32 (.v (b2.v)) ?_
    refine sy_new 10 ⟨26, [.bool false, .slice none 0 0, .slice none 0 0]⟩ ?_
    refine sy_pure 9 (.v (.int .i64 1)) ?_
    refine sy_store ⟨26, b2.cs⟩ ty26 ?_
    refine sy_next 48 [(3, .adr 3 0), (4, .adr 4 0), (6, .adr 6 0), (7, .v (.int .i64 0)), (8, .adr 8 0), (9, .v (.int .i64 1)), (10, .adr 10 0), (19, .v (.agg #[.bool a1.s, .slice a1.m.a a1.m.n a1.m.c, .slice a1.d.a a1.d.n a1.d.c, .bool a2.s, .slice a2.m.a a2.m.n a2.m.c, .slice a2.d.a a2.d.n a2.d.c])), (20, .v (.int .i64 0)), (28, .v (.agg #[.bool b1.s, .slice b1.m.a b1.m.n b1.m.c, .slice b1.d.a b1.d.n b1.d.c, .bool b2.s, .slice b2.m.a b2.m.n b2.m.c, .slice b2.d.a b2.d.n b2.d.c])), (29, .v (.int .i64 1))] [(3, ⟨28, b1.cs ++ b2.cs⟩), (4, ⟨28, [.bool false, .slice none 0 0, .slice none 0 0, .bool false, .slice none 0 0, .slice none 0 0]⟩), (6, ⟨81, r19.cs ++ [.bool false, .slice none 0 0, .slice none 0 0, .bool false, .slice none 0 0, .slice none 0 0, .bool false, .slice none 0 0, .slice none 0 0]⟩), (8, ⟨26, a1.cs⟩), (10, ⟨26, b2.cs⟩)] ?_
    refine sw_reg ?_
    refine sy_pure 34 (.v (.int .i64 0)) ?_
    refine sy_pure 35 (.v (.int .i64 0)) ?_
    refine sy_pure 36 (.v (.int .i64 1)) ?_
    refine sy_pure 37 (.v (.int .i64 1)) ?_
    refine sy_ldv 38 (.v (a1.v)) ty26 part_agg ?_
    refine sy_ldv 39 (.v (b2.v)) ty26 part_agg ?_
    refine sy_call 40 99 [a1.v, b2.v] ?_
    intro w24 u24 e24 d24
    have k29 := k_ratDiv1 d24 (ha1.ext (e11.trans (g13.ext.trans (e18.trans (g22.ext.trans e24))))) (hb2.ext (e11.trans (g13.ext.trans (e18.trans (g22.ext.trans e24))))) (sgI_ne hb15).2 (by omega) (by omega)
    with_reducible refine Post.mono k29 ?_
    clear k29
    rintro _ u27 g28 ⟨r25, rfl, h26⟩
    refine sy_pure 33 (.v (.tuple #[r25.v, .int .i64 0])) ?_
    refine sy_pure 41 (.v (r25.v)) ?_
    refine sy_pure 42 (.v (.int .i64 0)) ?_
    refine sy_pure 43 (.adr 6 3) ?_
    refine sy_store ⟨81, r19.cs ++ r25.cs ++ [.bool false, .slice none 0 0, .slice none 0 0, .bool false, .slice none 0 0, .slice none 0 0]⟩ ty26 ?_
    refine sy_end ?_
    refine mp_seq ?_
    refine sw_reg ?_
    refine sy_pure 44 (.v (.int .i64 2)) ?_
    refine sy_pure 29 (.v (.int .i64 2)) ?_
    refine sy_end ?_
    refine rn_next ?_
    refine sw_weak (T := St.of 48 [(3, .adr 3 0), (4, .adr 4 0), (6, .adr 6 0), (7, .v (.int .i64 0)), (8, .adr 8 0), (19, .v (.agg #[.bool a1.s, .slice a1.m.a a1.m.n a1.m.c, .slice a1.d.a a1.d.n a1.d.c, .bool a2.s, .slice a2.m.a a2.m.n a2.m.c, .slice a2.d.a a2.d.n a2.d.c])), (20, .v (.int .i64 0)), (28, .v (.agg #[.bool b1.s, .slice b1.m.a b1.m.n b1.m.c, .slice b1.d.a b1.d.n b1.d.c, .bool b2.s, .slice b2.m.a b2.m.n b2.m.c, .slice b2.d.a b2.d.n b2.d.c])), (29, .v (.int .i64 2))] [(3, ⟨28, b1.cs ++ b2.cs⟩), (4, ⟨28, [.bool false, .slice none 0 0, .slice none 0 0, .bool false, .slice none 0 0, .slice none 0 0]⟩), (6, ⟨81, r19.cs ++ r25.cs ++ [.bool false, .slice none 0 0, .slice none 0 0, .bool false, .slice none 0 0, .slice none 0 0]⟩), (8, ⟨26, a1.cs⟩)]) (by exact weak_mk _ _ _) ?_
    refine sw_seq ?_
    refine sw_reg ?_
    refine sy_pure 30 (.v (.bool false)) ?_
    refine sy_next 48 [(3, .adr 3 0), (4, .adr 4 0), (6, .adr 6 0), (7, .v (.int .i64 0)), (8, .adr 8 0), (19, .v (.agg #[.bool a1.s, .slice a1.m.a a1.m.n a1.m.c, .slice a1.d.a a1.d.n a1.d.c, .bool a2.s, .slice a2.m.a a2.m.n a2.m.c, .slice a2.d.a a2.d.n a2.d.c])), (20, .v (.int .i64 0)), (28, .v (.agg #[.bool b1.s, .slice b1.m.a b1.m.n b1.m.c, .slice b1.d.a b1.d.n b1.d.c, .bool b2.s, .slice b2.m.a b2.m.n b2.m.c, .slice b2.d.a b2.d.n b2.d.c])), (29, .v (.int .i64 2)), (30, .v (.bool false))] [(3, ⟨28, b1.cs ++ b2.cs⟩), (4, ⟨28, [.bool false, .slice none 0 0, .slice none 0 0, .bool false, .slice none 0 0, .slice none 0 0]⟩), (6, ⟨81, r19.cs ++ r25.cs ++ [.bool false, .slice none 0 0, .slice none 0 0, .bool false, .slice none 0 0, .slice none 0 0]⟩), (8, ⟨26, a1.cs⟩)] ?_
    refine sw_seq ?_
    refine sw_false (by kernel_rfl) ?_
    refine sw_exit ?_
    refine mp_seq ?_
    refine sw_reg ?_
    refine sy_pure 45 (.v (.int .i64 1)) ?_
    refine sy_pure 20 (.v (.int .i64 1)) ?_
    refine sy_end ?_
    refine rn_next ?_
    refine sw_weak (T := St.of 48 [(3, .adr 3 0), (4, .adr 4 0), (6, .adr 6 0), (19, .v (.agg #[.bool a1.s, .slice a1.m.a a1.m.n a1.m.c, .slice a1.d.a a1.d.n a1.d.c, .bool a2.s, .slice a2.m.a a2.m.n a2.m.c, .slice a2.d.a a2.d.n a2.d.c])), (20, .v (.int .i64 1))] [(3, ⟨28, b1.cs ++ b2.cs⟩), (4, ⟨28, [.bool false, .slice none 0 0, .slice none 0 0, .bool false, .slice none 0 0, .slice none 0 0]⟩), (6, ⟨81, r19.cs ++ r25.cs ++ [.bool false, .slice none 0 0, .slice none 0 0, .bool false, .slice none 0 0, .slice none 0 0]⟩)]) (by exact weak_mk _ _ _) ?_
    refine sw_seq ?_
    refine sw_reg ?_
    refine sy_pure 21 (.v (.bool true)) ?_
    refine sy_next 48 [(3, .adr 3 0), (4, .adr 4 0), (6, .adr 6 0), (19, .v (.agg #[.bool a1.s, .slice a1.m.a a1.m.n a1.m.c, .slice a1.d.a a1.d.n a1.d.c, .bool a2.s, .slice a2.m.a a2.m.n a2.m.c, .slice a2.d.a a2.d.n a2.d.c])), (20, .v (.int .i64 1)), (21, .v (.bool true))] [(3, ⟨28, b1.cs ++ b2.cs⟩), (4, ⟨28, [.bool false, .slice none 0 0, .slice none 0 0, .bool false, .slice none 0 0, .slice none 0 0]⟩), (6, ⟨81, r19.cs ++ r25.cs ++ [.bool false, .slice none 0 0, .slice none 0 0, .bool false, .slice none 0 0, .slice none 0 0]⟩)] ?_
    refine sw_seq ?_
    refine sw_true (by kernel_rfl) ?_
    refine sw_skip (mp_seq ?_)
    refine sw_seq ?_
    refine sw_block ?_
    refine sw_seq ?_
    refine sw_reg ?_
    refine sy_pure 22 (.v (.int .i64 1)) ?_
    refine sy_pure 23 (.v (a2.v)) ?_
    refine sy_new 8 ⟨26, [.bool false, .slice none 0 0, .slice none 0 0]⟩ ?_
    refine sy_pure 7 (.v (.int .i64 1)) ?_
    refine sy_store ⟨26, a2.cs⟩ ty26 ?_
    refine sy_next 48 [(3, .adr 3 0), (4, .adr 4 0), (6, .adr 6 0), (7, .v (.int .i64 1)), (8, .adr 8 0), (19, .v (.agg #[.bool a1.s, .slice a1.m.a a1.m.n a1.m.c, .slice a1.d.a a1.d.n a1.d.c, .bool a2.s, .slice a2.m.a a2.m.n a2.m.c, .slice a2.d.a a2.d.n a2.d.c])), (20, .v (.int .i64 1))] [(3, ⟨28, b1.cs ++ b2.cs⟩), (4, ⟨28, [.bool false, .slice none 0 0, .slice none 0 0, .bool false, .slice none 0 0, .slice none 0 0]⟩), (6, ⟨81, r19.cs ++ r25.cs ++ [.bool false, .slice none 0 0, .slice none 0 0, .bool false, .slice none 0 0, .slice none 0 0]⟩), (8, ⟨26, a2.cs⟩)] ?_
    refine sw_seq ?_
    refine sw_reg ?_
    refine sy_pure 24 (.adr 3 0) ?_
    refine sy_ldv 25 (.v (b1.v)) ty26 part_agg ?_
    refine sy_pure 26 (.adr 3 3) ?_
    refine sy_ldv 27 (.v (b2.v)) ty26 part_agg ?_
    refine sy_pure 28 (.v (.agg #[.bool b1.s, .slice b1.m.a b1.m.n b1.m.c, .slice b1.d.a b1.d.n b1.d.c, .bool b2.s, .slice b2.m.a b2.m.n b2.m.c, .slice b2.d.a b2.d.n b2.d.c])) ?_
    refine sy_pure 29 (.v (.int .i64 0)) ?_
    refine sy_next 48 [(3, .adr 3 0), (4, .adr 4 0), (6, .adr 6 0), (7, .v (.int .i64 1)), (8, .adr 8 0), (19, .v (.agg #[.bool a1.s, .slice a1.m.a a1.m.n a1.m.c, .slice a1.d.a a1.d.n a1.d.c, .bool a2.s, .slice a2.m.a a2.m.n a2.m.c, .slice a2.d.a a2.d.n a2.d.c])), (20, .v (.int .i64 1)), (28, .v (.agg #[.bool b1.s, .slice b1.m.a b1.m.n b1.m.c, .slice b1.d.a b1.d.n b1.d.c, .bool b2.s, .slice b2.m.a b2.m.n b2.m.c, .slice b2.d.a b2.d.n b2.d.c])), (29, .v (.int .i64 0))] [(3, ⟨28, b1.cs ++ b2.cs⟩), (4, ⟨28, [.bool false, .slice none 0 0, .slice none 0 0, .bool false, .slice none 0 0, .slice none 0 0]⟩), (6, ⟨81, r19.cs ++ r25.cs ++ [.bool false, .slice none 0 0, .slice none 0 0, .bool false, .slice none 0 0, .slice none 0 0]⟩), (8, ⟨26, a2.cs⟩)] ?_
    refine sw_block ?_
    refine sw_rounds 2 ?_
    refine sw_seq ?_
    refine sw_reg ?_
    refine sy_pure 30 (.v (.bool true)) ?_
    refine sy_next 48 [(3, .adr 3 0), (4, .adr 4 0), (6, .adr 6 0), (7, .v (.int .i64 1)), (8, .adr 8 0), (19, .v (.agg #[.bool a1.s, .slice a1.m.a a1.m.n a1.m.c, .slice a1.d.a a1.d.n a1.d.c, .bool a2.s, .slice a2.m.a a2.m.n a2.m.c, .slice a2.d.a a2.d.n a2.d.c])), (20, .v (.int .i64 1)), (28, .v (.agg #[.bool b1.s, .slice b1.m.a b1.m.n b1.m.c, .slice b1.d.a b1.d.n b1.d.c, .bool b2.s, .slice b2.m.a b2.m.n b2.m.c, .slice b2.d.a b2.d.n b2.d.c])), (29, .v (.int .i64 0)), (30, .v (.bool true))] [(3, ⟨28, b1.cs ++ b2.cs⟩), (4, ⟨28, [.bool false, .slice none 0 0, .slice none 0 0, .bool false, .slice none 0 0, .slice none 0 0]⟩), (6, ⟨81, r19.cs ++ r25.cs ++ [.bool false, .slice none 0 0, .slice none 0 0, .bool false, .slice none 0 0, .slice none 0 0]⟩), (8, ⟨26, a2.cs⟩)] ?_
    refine sw_seq ?_
    refine sw_true (by kernel_rfl) ?_
    refine sw_skip (mp_seq ?_)
    refine sw_seq ?_
    refine sw_block ?_
    refine sw_seq ?_
    refine sw_reg ?_
    refine sy_pure 31 (.v (.int .i64 0)) ?_
    refine sy_pure 32 (.v (b1.v)) ?_
    refine sy_new 10 ⟨26, [.bool false, .slice none 0 0, .slice none 0 0]⟩ ?_
    refine sy_pure 9 (.v (.int .i64 0)) ?_
    refine sy_store ⟨26, b1.cs⟩ ty26 ?_
    refine sy_next 48 [(3, .adr 3 0), (4, .adr 4 0), (6, .adr 6 0), (7, .v (.int .i64 1)), (8, .adr 8 0), (9, .v (.int .i64 0)), (10, .adr 10 0), (19, .v (.agg #[.bool a1.s, .slice a1.m.a a1.m.n a1.m.c, .slice a1.d.a a1.d.n a1.d.c, .bool a2.s, .slice a2.m.a a2.m.n a2.m.c, .slice a2.d.a a2.d.n a2.d.c])), (20, .v (.int .i64 1)), (28, .v (.agg #[.bool b1.s, .slice b1.m.a b1.m.n b1.m.c, .slice b1.d.a b1.d.n b1.d.c, .bool b2.s, .slice b2.m.a b2.m.n b2.m.c, .slice b2.d.a b2.d.n b2.d.c])), (29, .v (.int .i64 0))] [(3, ⟨28, b1.cs ++ b2.cs⟩), (4, ⟨28, [.bool false, .slice none 0 0, .slice none 0 0, .bool false, .slice none 0 0, .slice none 0 0]⟩), (6, ⟨81, r19.cs ++ r25.cs ++ [.bool false, .slice none 0 0, .slice none 0 0, .bool false, .slice none 0 0, .slice none 0 0]⟩), (8, ⟨26, a2.cs⟩), (10, ⟨26, b1.cs⟩)] ?_
    refine sw_reg ?_
    refine sy_pure 34 (.v (.int .i64 1)) ?_
    refine sy_pure 35 (.v (.int .i64 2)) ?_
    refine sy_pure 36 (.v (.int .i64 0)) ?_
    refine sy_pure 37 (.v (.int .i64 2)) ?_
    refine sy_ldv 38 (.v (a2.v)) ty26 part_agg ?_
    refine sy_ldv 39 (.v (b1.v)) ty26 part_agg ?_
    refine sy_call 40 99 [a2.v, b1.v] ?_
    intro w30 u30 e30 d30
    have k35 := k_ratDiv1 d30 (ha2.ext (e11.trans (g13.ext.trans (e18.trans (g22.ext.trans (e24.trans (g28.ext.trans e30))))))) (hb1.ext (e11.trans (g13.ext.trans (e18.trans (g22.ext.trans (e24.trans (g28.ext.trans e30))))))) (sgI_ne hb15).1 (by omega) (by omega)
    with_reducible refine Post.mono k35 ?_
    clear k35
    rintro _ u33 g34 ⟨r31, rfl, h32⟩
    refine sy_pure 33 (.v (.tuple #[r31.v, .int .i64 0])) ?_
    refine sy_pure 41 (.v (r31.v)) ?_
    refine sy_pure 42 (.v (.int .i64 0)) ?_
    refine sy_pure 43 (.adr 6 6) ?_
    refine sy_store ⟨81, r19.cs ++ r25.cs ++ r31.cs ++ [.bool false, .slice none 0 0, .slice none 0 0]⟩ ty26 ?_
    refine sy_end ?_
    refine mp_seq ?_
    refine sw_reg ?_
    refine sy_pure 44 (.v (.int .i64 1)) ?_
    refine sy_pure 29 (.v (.int .i64 1)) ?_
    refine sy_end ?_
    refine rn_next ?_
    refine sw_weak (T := St.of 48 [(3, .adr 3 0), (4, .adr 4 0), (6, .adr 6 0), (7, .v (.int .i64 1)), (8, .adr 8 0), (19, .v (.agg #[.bool a1.s, .slice a1.m.a a1.m.n a1.m.c, .slice a1.d.a a1.d.n a1.d.c, .bool a2.s, .slice a2.m.a a2.m.n a2.m.c, .slice a2.d.a a2.d.n a2.d.c])), (20, .v (.int .i64 1)), (28, .v (.agg #[.bool b1.s, .slice b1.m.a b1.m.n b1.m.c, .slice b1.d.a b1.d.n b1.d.c, .bool b2.s, .slice b2.m.a b2.m.n b2.m.c, .slice b2.d.a b2.d.n b2.d.c])), (29, .v (.int .i64 1))] [(3, ⟨28, b1.cs ++ b2.cs⟩), (4, ⟨28, [.bool false, .slice none 0 0, .slice none 0 0, .bool false, .slice none 0 0, .slice none 0 0]⟩), (6, ⟨81, r19.cs ++ r25.cs ++ r31.cs ++ [.bool false, .slice none 0 0, .slice none 0 0]⟩), (8, ⟨26, a2.cs⟩)]) (by exact weak_mk _ _ _) ?_
    refine sw_seq ?_
    refine sw_reg ?_
    refine sy_pure 30 (.v (.bool true)) ?_
    refine sy_next 48 [(3, .adr 3 0), (4, .adr 4 0), (6, .adr 6 0), (7, .v (.int .i64 1)), (8, .adr 8 0), (19, .v (.agg #[.bool a1.s, .slice a1.m.a a1.m.n a1.m.c, .slice a1.d.a a1.d.n a1.d.c, .bool a2.s, .slice a2.m.a a2.m.n a2.m.c, .slice a2.d.a a2.d.n a2.d.c])), (20, .v (.int .i64 1)), (28, .v (.agg #[.bool b1.s, .slice b1.m.a b1.m.n b1.m.c, .slice b1.d.a b1.d.n b1.d.c, .bool b2.s, .slice b2.m.a b2.m.n b2.m.c, .slice b2.d.a b2.d.n b2.d.c])), (29, .v (.int .i64 1)), (30, .v (.bool true))] [(3, ⟨28, b1.cs ++ b2.cs⟩), (4, ⟨28, [.bool false, .slice none 0 0, .slice none 0 0, .bool false, .slice none 0 0, .slice none 0 0]⟩), (6, ⟨81, r19.cs ++ r25.cs ++ r31.cs ++ [.bool false, .slice none 0 0, .slice none 0 0]⟩), (8, ⟨26, a2.cs⟩)] ?_
    refine sw_seq ?_
    refine sw_true (by kernel_rfl) ?_
    refine sw_skip (mp_seq ?_)
    refine sw_seq ?_
    refine sw_block ?_
    refine sw_seq ?_
    refine sw_reg ?_
    refine sy_pure 31 (.v (.int .i64 1)) ?_
    refine sy_pure 32 (.v (b2.v)) ?_
    refine sy_new 10 ⟨26, [.bool false, .slice none 0 0, .slice none 0 0]⟩ ?_
    refine sy_pure 9 (.v (.int .i64 1)) ?_
    refine sy_store ⟨26, b2.cs⟩ ty26 ?_
    refine sy_next 48 [(3, .adr 3 0), (4, .adr 4 0), (6, .adr 6 0), (7, .v (.int .i64 1)), (8, .adr 8 0), (9, .v (.int .i64 1)), (10, .adr 10 0), (19, .v (.agg #[.bool a1.s, .slice a1.m.a a1.m.n a1.m.c, .slice a1.d.a a1.d.n a1.d.c, .bool a2.s, .slice a2.m.a a2.m.n a2.m.c, .slice a2.d.a a2.d.n a2.d.c])), (20, .v (.int .i64 1)), (28, .v (.agg #[.bool b1.s, .slice b1.m.a b1.m.n b1.m.c, .slice b1.d.a b1.d.n b1.d.c, .bool b2.s, .slice b2.m.a b2.m.n b2.m.c, .slice b2.d.a b2.d.n b2.d.c])), (29, .v (.int .i64 1))] [(3, ⟨28, b1.cs ++ b2.cs⟩), (4, ⟨28, [.bool false, .slice none 0 0, .slice none 0 0, .bool false, .slice none 0 0, .slice none 0 0]⟩), (6, ⟨81, r19.cs ++ r25.cs ++ r31.cs ++ [.bool false, .slice none 0 0, .slice none 0 0]⟩), (8, ⟨26, a2.cs⟩), (10, ⟨26, b2.cs⟩)] ?_
    refine sw_reg ?_
    refine sy_pure 34 (.v (.int .i64 1)) ?_
    refine sy_pure 35 (.v (.int .i64 2)) ?_
    refine sy_pure 36 (.v (.int .i64 1)) ?_
    refine sy_pure 37 (.v (.int .i64 3)) ?_
    refine sy_ldv 38 (.v (a2.v)) ty26 part_agg ?_
    refine sy_ldv 39 (.v (b2.v)) ty26 part_agg ?_
    refine sy_call 40 99 [a2.v, b2.v] ?_
    intro w36 u36 e36 d36
    have k41 := k_ratDiv1 d36 (ha2.ext (e11.trans (g13.ext.trans (e18.trans (g22.ext.trans (e24.trans (g28.ext.trans (e30.trans (g34.ext.trans e36))))))))) (hb2.ext (e11.trans (g13.ext.trans (e18.trans (g22.ext.trans (e24.trans (g28.ext.trans (e30.trans (g34.ext.trans e36))))))))) (sgI_ne hb15).2 (by omega) (by omega)
    with_reducible refine Post.mono k41 ?_
    clear k41
    rintro _ u39 g40 ⟨r37, rfl, h38⟩
    refine sy_pure 33 (.v (.tuple #[r37.v, .int .i64 0])) ?_
    refine sy_pure 41 (.v (r37.v)) ?_
    refine sy_pure 42 (.v (.int .i64 0)) ?_
    refine sy_pure 43 (.adr 6 9) ?_
    refine sy_store ⟨81, r19.cs ++ r25.cs ++ r31.cs ++ r37.cs⟩ ty26 ?_
    refine sy_end ?_
    refine mp_seq ?_
    refine sw_reg ?_
    refine sy_pure 44 (.v (.int .i64 2)) ?_
    refine sy_pure 29 (.v (.int .i64 2)) ?_
    refine sy_end ?_
    refine rn_next ?_
    refine sw_weak (T := St.of 48 [(3, .adr 3 0), (4, .adr 4 0), (6, .adr 6 0), (7, .v (.int .i64 1)), (8, .adr 8 0), (19, .v (.agg #[.bool a1.s, .slice a1.m.a a1.m.n a1.m.c, .slice a1.d.a a1.d.n a1.d.c, .bool a2.s, .slice a2.m.a a2.m.n a2.m.c, .slice a2.d.a a2.d.n a2.d.c])), (20, .v (.int .i64 1)), (28, .v (.agg #[.bool b1.s, .slice b1.m.a b1.m.n b1.m.c, .slice b1.d.a b1.d.n b1.d.c, .bool b2.s, .slice b2.m.a b2.m.n b2.m.c, .slice b2.d.a b2.d.n b2.d.c])), (29, .v (.int .i64 2))] [(3, ⟨28, b1.cs ++ b2.cs⟩), (4, ⟨28, [.bool false, .slice none 0 0, .slice none 0 0, .bool false, .slice none 0 0, .slice none 0 0]⟩), (6, ⟨81, r19.cs ++ r25.cs ++ r31.cs ++ r37.cs⟩), (8, ⟨26, a2.cs⟩)]) (by exact weak_mk _ _ _) ?_
    refine sw_seq ?_
    refine sw_reg ?_
    refine sy_pure 30 (.v (.bool false)) ?_
    refine sy_next 48 [(3, .adr 3 0), (4, .adr 4 0), (6, .adr 6 0), (7, .v (.int .i64 1)), (8, .adr 8 0), (19, .v (.agg #[.bool a1.s, .slice a1.m.a a1.m.n a1.m.c, .slice a1.d.a a1.d.n a1.d.c, .bool a2.s, .slice a2.m.a a2.m.n a2.m.c, .slice a2.d.a a2.d.n a2.d.c])), (20, .v (.int .i64 1)), (28, .v (.agg #[.bool b1.s, .slice b1.m.a b1.m.n b1.m.c, .slice b1.d.a b1.d.n b1.d.c, .bool b2.s, .slice b2.m.a b2.m.n b2.m.c, .slice b2.d.a b2.d.n b2.d.c])), (29, .v (.int .i64 2)), (30, .v (.bool false))] [(3, ⟨28, b1.cs ++ b2.cs⟩), (4, ⟨28, [.bool false, .slice none 0 0, .slice none 0 0, .bool false, .slice none 0 0, .slice none 0 0]⟩), (6, ⟨81, r19.cs ++ r25.cs ++ r31.cs ++ r37.cs⟩), (8, ⟨26, a2.cs⟩)] ?_
    refine sw_seq ?_
    refine sw_false (by kernel_rfl) ?_
    refine sw_exit ?_
    refine mp_seq ?_
    refine sw_reg ?_
    refine sy_pure 45 (.v (.int .i64 2)) ?_
    refine sy_pure 20 (.v (.int .i64 2)) ?_
    refine sy_end ?_
    refine rn_next ?_
    refine sw_weak (T := St.of 48 [(3, .adr 3 0), (4, .adr 4 0), (6, .adr 6 0), (19, .v (.agg #[.bool a1.s, .slice a1.m.a a1.m.n a1.m.c, .slice a1.d.a a1.d.n a1.d.c, .bool a2.s, .slice a2.m.a a2.m.n a2.m.c, .slice a2.d.a a2.d.n a2.d.c])), (20, .v (.int .i64 2))] [(3, ⟨28, b1.cs ++ b2.cs⟩), (4, ⟨28, [.bool false, .slice none 0 0, .slice none 0 0, .bool false, .slice none 0 0, .slice none 0 0]⟩), (6, ⟨81, r19.cs ++ r25.cs ++ r31.cs ++ r37.cs⟩)]) (by exact weak_mk _ _ _) ?_
    refine sw_seq ?_
    refine sw_reg ?_
    refine sy_pure 21 (.v (.bool false)) ?_
    refine sy_next 48 [(3, .adr 3 0), (4, .adr 4 0), (6, .adr 6 0), (19, .v (.agg #[.bool a1.s, .slice a1.m.a a1.m.n a1.m.c, .slice a1.d.a a1.d.n a1.d.c, .bool a2.s, .slice a2.m.a a2.m.n a2.m.c, .slice a2.d.a a2.d.n a2.d.c])), (20, .v (.int .i64 2)), (21, .v (.bool false))] [(3, ⟨28, b1.cs ++ b2.cs⟩), (4, ⟨28, [.bool false, .slice none 0 0, .slice none 0 0, .bool false, .slice none 0 0, .slice none 0 0]⟩), (6, ⟨81, r19.cs ++ r25.cs ++ r31.cs ++ r37.cs⟩)] ?_
    refine sw_seq ?_
    refine sw_false (by kernel_rfl) ?_
    refine sw_exit ?_
    refine mp_seq ?_
    refine sw_seq ?_
    refine sw_reg ?_
    refine sy_ldv 46 (.v (.agg #[.bool r19.s, .slice r19.m.a r19.m.n r19.m.c, .slice r19.d.a r19.d.n r19.d.c, .bool r25.s, .slice r25.m.a r25.m.n r25.m.c, .slice r25.d.a r25.d.n r25.d.c, .bool r31.s, .slice r31.m.a r31.m.n r31.m.c, .slice r31.d.a r31.d.n r31.d.c, .bool r37.s, .slice r37.m.a r37.m.n r37.m.c, .slice r37.d.a r37.d.n r37.d.c])) ty81 part_agg ?_
    refine sy_call 47 100 [.agg #[.bool r19.s, .slice r19.m.a r19.m.n r19.m.c, .slice r19.d.a r19.d.n r19.d.c, .bool r25.s, .slice r25.m.a r25.m.n r25.m.c, .slice r25.d.a r25.d.n r25.d.c, .bool r31.s, .slice r31.m.a r31.m.n r31.m.c, .slice r31.d.a r31.d.n r31.d.c, .bool r37.s, .slice r37.m.a r37.m.n r37.m.c, .slice r37.d.a r37.d.n r37.d.c]] ?_
    intro w42 u42 e42 d42
    have k49 := k_around d42 (h20.ext (e24.trans (g28.ext.trans (e30.trans (g34.ext.trans (e36.trans (g40.ext.trans e42))))))) (h26.ext (e30.trans (g34.ext.trans (e36.trans (g40.ext.trans e42))))) (h32.ext (e36.trans (g40.ext.trans e42))) (h38.ext e42) (by omega)
    with_reducible refine Post.mono k49 ?_
    clear k49
    rintro _ u47 g48 ⟨r43, r45, rfl, h44, h46⟩
    refine sy_store ⟨28, r43.cs ++ r45.cs⟩ ty28 ?_
    refine sy_pure 5 (.v (.int .i64 0)) ?_
    refine sy_next 48 [(4, .adr 4 0), (5, .v (.int .i64 0))] [(4, ⟨28, r43.cs ++ r45.cs⟩)] ?_
    refine sw_ret (ret0 [.agg #[.bool r43.s, .slice r43.m.a r43.m.n r43.m.c, .slice r43.d.a r43.d.n r43.d.c, .bool r45.s, .slice r45.m.a r45.m.n r45.m.c, .slice r45.d.a r45.d.n r45.d.c], .int .i64 0] ⟨res_cell ty28 part_agg, res_tmp, trivial⟩ fun u50 e51 => ?_)
    exact .inr ⟨by simpa using hb15, r43, r45, rfl, (h44.ext e51), (h46.ext e51)⟩
end Go.Proofs.YtnedhbidmfoegaaGreat
