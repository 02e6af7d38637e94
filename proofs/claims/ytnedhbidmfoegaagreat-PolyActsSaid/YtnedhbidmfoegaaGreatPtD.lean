/- Contracts of interval. Printed by wip/sym/g_itv.py. Contracts of the reference of interval, of small functions. Printed by wip/sym/g_r4.py. Contracts of poly. Printed by wip/sym/g_pol.py. Contracts of the reference of poly. Printed by wip/sym/g_r5.py. Contracts of poly: division. Printed by wip/sym/g_div.py. -/
import Derived.Test.YtnedhbidmfoegaaGreatPtC
namespace Go.Proofs.YtnedhbidmfoegaaGreat
open Go.RowKit
set_option linter.unusedVariables false
theorem k_ends {u w : World} {a1 a2 : RL} {x1 x2 : Rat} {K : Nat} (d : Dat u w) (ha1 : RatV u a1 x1 K) (ha2 : RatV u a2 x2 K) (hK : K ≤ 200000000) : Calls Tryz.prog 103 #[IV a1 a2] w (Post u w fun v u' => ∃ p q : RL, v = .tuple #[p.v, q.v] ∧ RatV u' p (Nt.lo x1 x2) K ∧ RatV u' q (Nt.hi x1 x2) K) := by
 refine zzl (args := [.agg #[.bool a1.s, .slice a1.m.a a1.m.n a1.m.c, .slice a1.d.a a1.d.n a1.d.c, .bool a2.s, .slice a2.m.a a2.m.n a2.m.c, .slice a2.d.a a2.d.n a2.d.c]]) Tryz.func103 rfl Tryz.ntmps103 (rs := [.cell 2 26, .cell 3 26]) Tryz.results103 (le_b rfl) (le_b rfl) d ?_
 refine sq9 ?_
 refine zzj 1 ⟨28, a1.cs ++ a2.cs⟩ ?_
 refine zzj 2 ⟨26, [.bool false, .slice none 0 0, .slice none 0 0]⟩ ?_
 refine zzj 3 ⟨26, [.bool false, .slice none 0 0, .slice none 0 0]⟩ ?_
 refine zzb 18 [(1, .adr 1 0), (2, .adr 2 0), (3, .adr 3 0)] [(1, ⟨28, a1.cs ++ a2.cs⟩), (2, ⟨26, [.bool false, .slice none 0 0, .slice none 0 0]⟩), (3, ⟨26, [.bool false, .slice none 0 0, .slice none 0 0]⟩)] ?_
 refine zzc ?_
 refine sq9 ?_
 refine zza 4 (.adr 1 0) ?_
 refine zzh 5 (.v (a1.v)) ty26 zzd ?_
 refine zza 6 (.adr 1 3) ?_
 refine zzh 7 (.v (a2.v)) ty26 zzd ?_
 refine zzf 8 114 [a1.v, a2.v] ?_
 intro w11 u11 e11 d11
 have k14 := k_ratCompare d11 (ha1.ext e11) (ha2.ext e11) (by omega) (by omega)
 with_reducible refine Post.mono k14 ?_
 rintro _ u12 g13 rfl
 refine zza 9 (.v (.bool (decide ((0 : Int) < (Nt.cmpQ x1 x2))))) ?_
 refine zzb 18 [(1, .adr 1 0), (2, .adr 2 0), (3, .adr 3 0), (9, .v (.bool (decide ((0 : Int) < (Nt.cmpQ x1 x2)))))] [(1, ⟨28, a1.cs ++ a2.cs⟩), (2, ⟨26, [.bool false, .slice none 0 0, .slice none 0 0]⟩), (3, ⟨26, [.bool false, .slice none 0 0, .slice none 0 0]⟩)] ?_
 refine zzt (b := decide ((0 : Int) < (Nt.cmpQ x1 x2))) (by kernel_rfl) (fun hb15 => ?_) (fun hb15 => ?_)
 ·replace hb15 : (decide ((0 : Int) < (Nt.cmpQ x1 x2))) = true := hb15
  have qhb15 := of_decide_eq_true hb15
  refine zzc ?_
  refine zzy [0, 1, 0, 4, 3, 31] [(0, []), (1, []), (2, []), (3, []), (4, [12]), (5, [])] (by kernel_rfl) (by kernel_rfl) ?_
  refine zza 10 (.adr 1 3) ?_
  refine zzh 11 (.v (a2.v)) ty26 zzd ?_
  refine zza 12 (.adr 1 0) ?_
  refine zzh 13 (.v (a1.v)) ty26 zzd ?_
  refine zzi ⟨26, a2.cs⟩ ty26 ?_
  refine zzi ⟨26, a1.cs⟩ ty26 ?_
  refine zzb 18 [(2, .adr 2 0), (3, .adr 3 0)] [(2, ⟨26, a2.cs⟩), (3, ⟨26, a1.cs⟩)] ?_
  refine zzn (zzv (ret0 [a2.v, a1.v] ⟨zzq ty26 zzd, zzq ty26 zzd, trivial⟩ fun u16 e17 => ?_))
  refine ⟨a2, a1, rfl, ?_, ?_⟩
  ·rw [(Nt.ends_gt hb15).1]; exact (ha2.ext (e11.trans (g13.ext.trans e17)))
  ·rw [(Nt.ends_gt hb15).2]; exact (ha1.ext (e11.trans (g13.ext.trans e17)))
 ·replace hb15 : (decide ((0 : Int) < (Nt.cmpQ x1 x2))) = false := hb15
  have qhb15 := of_decide_eq_false hb15
  refine zzr (zzo ?_)
  refine zzc ?_
  refine zzy [0, 1, 0, 4, 3, 31] [(0, []), (1, []), (2, []), (3, []), (4, [16]), (5, [])] (by kernel_rfl) (by kernel_rfl) ?_
  refine zza 14 (.adr 1 0) ?_
  refine zzh 15 (.v (a1.v)) ty26 zzd ?_
  refine zza 16 (.adr 1 3) ?_
  refine zzh 17 (.v (a2.v)) ty26 zzd ?_
  refine zzi ⟨26, a1.cs⟩ ty26 ?_
  refine zzi ⟨26, a2.cs⟩ ty26 ?_
  refine zzb 18 [(2, .adr 2 0), (3, .adr 3 0)] [(2, ⟨26, a1.cs⟩), (3, ⟨26, a2.cs⟩)] ?_
  refine zzn (ret0 [a1.v, a2.v] ⟨zzq ty26 zzd, zzq ty26 zzd, trivial⟩ fun u18 e19 => ?_)
  refine ⟨a1, a2, rfl, ?_, ?_⟩
  ·rw [(Nt.ends_le hb15).1]; exact (ha1.ext (e11.trans (g13.ext.trans e19)))
  ·rw [(Nt.ends_le hb15).2]; exact (ha2.ext (e11.trans (g13.ext.trans e19)))
theorem k_lesserN {u w : World} {a : RL} {x : Rat} {b : RL} {y : Rat} {K : Nat} (d : Dat u w) (ha : RatN u a x K) (hb : RatN u b y K) (hK : K ≤ 200000000) : Calls Tryz.prog 128 #[a.v, b.v] w (Post u w fun v u' => ∃ p : RL, v = p.v ∧ RatN u' p (Nt.lo x y) K) := by
 refine zzl (args := [a.v, b.v]) Tryz.func128 rfl Tryz.ntmps128 (rs := [.cell 4 26]) Tryz.results128 (le_b rfl) (le_b rfl) d ?_
 refine sq9 ?_
 refine zzj 2 ⟨26, a.cs⟩ ?_
 refine zzj 3 ⟨26, b.cs⟩ ?_
 refine zzj 4 ⟨26, [.bool false, .slice none 0 0, .slice none 0 0]⟩ ?_
 refine zzb 11 [(2, .adr 2 0), (3, .adr 3 0), (4, .adr 4 0)] [(2, ⟨26, a.cs⟩), (3, ⟨26, b.cs⟩), (4, ⟨26, [.bool false, .slice none 0 0, .slice none 0 0]⟩)] ?_
 refine zzc ?_
 refine sq9 ?_
 refine zzh 5 (.v (b.v)) ty26 zzd ?_
 refine zzh 6 (.v (a.v)) ty26 zzd ?_
 refine zzf 7 114 [b.v, a.v] ?_
 intro w11 u11 e11 d11
 have k14 := k_ratCompare d11 (hb.ext e11).raw (ha.ext e11).raw (by omega) (by omega)
 with_reducible refine Post.mono k14 ?_
 rintro _ u12 g13 rfl
 refine zza 8 (.v (.bool (decide ((Nt.cmpQ y x) < 0)))) ?_
 refine zzb 11 [(2, .adr 2 0), (3, .adr 3 0), (4, .adr 4 0), (8, .v (.bool (decide ((Nt.cmpQ y x) < 0))))] [(2, ⟨26, a.cs⟩), (3, ⟨26, b.cs⟩), (4, ⟨26, [.bool false, .slice none 0 0, .slice none 0 0]⟩)] ?_
 refine zzt (b := decide ((Nt.cmpQ y x) < 0)) (by kernel_rfl) (fun hb15 => ?_) (fun hb15 => ?_)
 ·replace hb15 : (decide ((Nt.cmpQ y x) < 0)) = true := hb15
  have qhb15 := of_decide_eq_true hb15
  refine sq9 ?_
  refine zzh 9 (.v (b.v)) ty26 zzd ?_
  refine zzi ⟨26, b.cs⟩ ty26 ?_
  refine zzb 11 [(4, .adr 4 0)] [(4, ⟨26, b.cs⟩)] ?_
  refine zzn (zzv (ret0 [b.v] ⟨zzq ty26 zzd, trivial⟩ fun u16 e17 => ?_))
  refine ⟨b, rfl, ?_⟩
  rw [Nt.lesser_lt hb15]
  exact (hb.ext (e11.trans (g13.ext.trans e17)))
 ·replace hb15 : (decide ((Nt.cmpQ y x) < 0)) = false := hb15
  have qhb15 := of_decide_eq_false hb15
  refine zzr (zzo ?_)
  refine sq9 ?_
  refine zzh 10 (.v (a.v)) ty26 zzd ?_
  refine zzi ⟨26, a.cs⟩ ty26 ?_
  refine zzb 11 [(4, .adr 4 0)] [(4, ⟨26, a.cs⟩)] ?_
  refine zzn (ret0 [a.v] ⟨zzq ty26 zzd, trivial⟩ fun u18 e19 => ?_)
  refine ⟨a, rfl, ?_⟩
  rw [Nt.lesser_ge hb15]
  exact (ha.ext (e11.trans (g13.ext.trans e19)))
theorem k_greaterN {u w : World} {a : RL} {x : Rat} {b : RL} {y : Rat} {K : Nat} (d : Dat u w) (ha : RatN u a x K) (hb : RatN u b y K) (hK : K ≤ 200000000) : Calls Tryz.prog 113 #[a.v, b.v] w (Post u w fun v u' => ∃ p : RL, v = p.v ∧ RatN u' p (Nt.hi x y) K) := by
 refine zzl (args := [a.v, b.v]) Tryz.func113 rfl Tryz.ntmps113 (rs := [.cell 4 26]) Tryz.results113 (le_b rfl) (le_b rfl) d ?_
 refine sq9 ?_
 refine zzj 2 ⟨26, a.cs⟩ ?_
 refine zzj 3 ⟨26, b.cs⟩ ?_
 refine zzj 4 ⟨26, [.bool false, .slice none 0 0, .slice none 0 0]⟩ ?_
 refine zzb 11 [(2, .adr 2 0), (3, .adr 3 0), (4, .adr 4 0)] [(2, ⟨26, a.cs⟩), (3, ⟨26, b.cs⟩), (4, ⟨26, [.bool false, .slice none 0 0, .slice none 0 0]⟩)] ?_
 refine zzc ?_
 refine sq9 ?_
 refine zzh 5 (.v (b.v)) ty26 zzd ?_
 refine zzh 6 (.v (a.v)) ty26 zzd ?_
 refine zzf 7 114 [b.v, a.v] ?_
 intro w11 u11 e11 d11
 have k14 := k_ratCompare d11 (hb.ext e11).raw (ha.ext e11).raw (by omega) (by omega)
 with_reducible refine Post.mono k14 ?_
 rintro _ u12 g13 rfl
 refine zza 8 (.v (.bool (decide ((0 : Int) < (Nt.cmpQ y x))))) ?_
 refine zzb 11 [(2, .adr 2 0), (3, .adr 3 0), (4, .adr 4 0), (8, .v (.bool (decide ((0 : Int) < (Nt.cmpQ y x)))))] [(2, ⟨26, a.cs⟩), (3, ⟨26, b.cs⟩), (4, ⟨26, [.bool false, .slice none 0 0, .slice none 0 0]⟩)] ?_
 refine zzt (b := decide ((0 : Int) < (Nt.cmpQ y x))) (by kernel_rfl) (fun hb15 => ?_) (fun hb15 => ?_)
 ·replace hb15 : (decide ((0 : Int) < (Nt.cmpQ y x))) = true := hb15
  have qhb15 := of_decide_eq_true hb15
  refine sq9 ?_
  refine zzh 9 (.v (b.v)) ty26 zzd ?_
  refine zzi ⟨26, b.cs⟩ ty26 ?_
  refine zzb 11 [(4, .adr 4 0)] [(4, ⟨26, b.cs⟩)] ?_
  refine zzn (zzv (ret0 [b.v] ⟨zzq ty26 zzd, trivial⟩ fun u16 e17 => ?_))
  refine ⟨b, rfl, ?_⟩
  rw [Nt.greater_gt hb15]
  exact (hb.ext (e11.trans (g13.ext.trans e17)))
 ·replace hb15 : (decide ((0 : Int) < (Nt.cmpQ y x))) = false := hb15
  have qhb15 := of_decide_eq_false hb15
  refine zzr (zzo ?_)
  refine sq9 ?_
  refine zzh 10 (.v (a.v)) ty26 zzd ?_
  refine zzi ⟨26, a.cs⟩ ty26 ?_
  refine zzb 11 [(4, .adr 4 0)] [(4, ⟨26, a.cs⟩)] ?_
  refine zzn (ret0 [a.v] ⟨zzq ty26 zzd, trivial⟩ fun u18 e19 => ?_)
  refine ⟨a, rfl, ?_⟩
  rw [Nt.greater_le hb15]
  exact (ha.ext (e11.trans (g13.ext.trans e19)))
theorem k_own {u w : World} {a : RL} {x : Rat} {K : Nat} (d : Dat u w) (ha : RatN u a x K) (hK : K ≤ 200000000) : Calls Tryz.prog 151 #[a.v] w (Post u w fun v u' => ∃ p : RL, v = p.v ∧ RatN u' p x K) := by
 refine zzl (args := [a.v]) Tryz.func151 rfl Tryz.ntmps151 (rs := [.cell 2 26]) Tryz.results151 (le_b rfl) (le_b rfl) d ?_
 refine sq9 ?_
 refine zzj 1 ⟨26, a.cs⟩ ?_
 refine zzj 2 ⟨26, [.bool false, .slice none 0 0, .slice none 0 0]⟩ ?_
 refine zzb 15 [(1, .adr 1 0), (2, .adr 2 0)] [(1, ⟨26, a.cs⟩), (2, ⟨26, [.bool false, .slice none 0 0, .slice none 0 0]⟩)] ?_
 refine zzc ?_
 refine zzy [0, 1, 3, 0, 8, 24, 56, 127, 0, 256, 888, 2047, 4095] [(0, []), (1, []), (2, []), (3, []), (4, []), (5, []), (8, []), (9, []), (6, []), (7, []), (10, []), (11, []), (12, [])] (by kernel_rfl) (by kernel_rfl) ?_
 refine zza 3 (.adr 1 0) ?_
 refine zza 4 (.adr 1 0) ?_
 refine zzh 5 (.v (.bool a.s)) ty4 zzk ?_
 refine zza 6 (.adr 1 0) ?_
 refine zza 7 (.adr 1 1) ?_
 refine zzh 8 (.v a.m.v) ty22 zzk ?_
 refine zza 11 (.adr 1 2) ?_
 refine zzh 12 (.v a.d.v) ty22 zzk ?_
 refine zzf 9 184 [a.m.v] ?_
 intro w11 u11 e11 d11
 have k16 := k_cloneN d11 ((int_mag (RatN.num ha)).ext e11) (by omega)
 with_reducible refine Post.mono k16 ?_
 rintro _ u14 g15 ⟨x12, rfl, h13⟩
 refine zza 10 (.v (.agg #[.bool a.s, x12.v])) ?_
 refine zzf 13 184 [a.d.v] ?_
 intro w17 u17 e17 d17
 have k22 := k_cloneN d17 ((RatN.den ha).ext (e11.trans (g15.ext.trans e17))) (by omega)
 with_reducible refine Post.mono k22 ?_
 rintro _ u20 g21 ⟨x18, rfl, h19⟩
 refine zza 14 (.v (.agg #[.bool a.s, x12.v, x18.v])) ?_
 refine zzi ⟨26, [.bool a.s, x12.v, x18.v]⟩ ty26 ?_
 refine zzb 15 [(2, .adr 2 0)] [(2, ⟨26, [.bool a.s, x12.v, x18.v]⟩)] ?_
 refine zzn (ret0 [.agg #[.bool a.s, .slice x12.a x12.n x12.c, .slice x18.a x18.n x18.c]] ⟨zzq ty26 zzd, trivial⟩ fun u23 e24 => ?_)
 exact ⟨(⟨a.s, x12, x18⟩ : RL), rfl, own_rat (r := a) ha (h13.ext (e17.trans (g21.ext.trans e24))) (h19.ext e24)⟩
set_option maxHeartbeats 1000000 in
theorem k_around {u w : World} {a1 a2 a3 a4 : RL} {x1 x2 x3 x4 : Rat} {K : Nat} (d : Dat u w) (ha1 : RatN u a1 x1 K) (ha2 : RatN u a2 x2 K) (ha3 : RatN u a3 x3 K) (ha4 : RatN u a4 x4 K) (hK : K ≤ 200000000) : Calls Tryz.prog 100 #[.agg #[.bool a1.s, .slice a1.m.a a1.m.n a1.m.c, .slice a1.d.a a1.d.n a1.d.c, .bool a2.s, .slice a2.m.a a2.m.n a2.m.c, .slice a2.d.a a2.d.n a2.d.c, .bool a3.s, .slice a3.m.a a3.m.n a3.m.c, .slice a3.d.a a3.d.n a3.d.c, .bool a4.s, .slice a4.m.a a4.m.n a4.m.c, .slice a4.d.a a4.d.n a4.d.c]] w (Post u w fun v u' => ∃ p q : RL, v = IV p q ∧ RatN u' p (Nt.lo4 x1 x2 x3 x4) K ∧ RatN u' q (Nt.hi4 x1 x2 x3 x4) K) := by
 refine zzl (args := [.agg #[.bool a1.s, .slice a1.m.a a1.m.n a1.m.c, .slice a1.d.a a1.d.n a1.d.c, .bool a2.s, .slice a2.m.a a2.m.n a2.m.c, .slice a2.d.a a2.d.n a2.d.c, .bool a3.s, .slice a3.m.a a3.m.n a3.m.c, .slice a3.d.a a3.d.n a3.d.c, .bool a4.s, .slice a4.m.a a4.m.n a4.m.c, .slice a4.d.a a4.d.n a4.d.c]]) Tryz.func100 rfl Tryz.ntmps100 (rs := [.cell 2 28]) Tryz.results100 (le_b rfl) (le_b rfl) d ?_
 refine sq9 ?_
 refine zzj 1 ⟨81, a1.cs ++ a2.cs ++ a3.cs ++ a4.cs⟩ ?_
 refine zzj 2 ⟨28, [.bool false, .slice none 0 0, .slice none 0 0, .bool false, .slice none 0 0, .slice none 0 0]⟩ ?_
 refine zzb 29 [(1, .adr 1 0), (2, .adr 2 0)] [(1, ⟨81, a1.cs ++ a2.cs ++ a3.cs ++ a4.cs⟩), (2, ⟨28, [.bool false, .slice none 0 0, .slice none 0 0, .bool false, .slice none 0 0, .slice none 0 0]⟩)] ?_
 refine zzc ?_
 refine zzy [0, 1, 0, 4, 0, 0, 51, 127] [(0, []), (1, []), (2, []), (3, []), (4, []), (5, []), (6, [9]), (7, [])] (by kernel_rfl) (by kernel_rfl) ?_
 refine zza 7 (.adr 1 0) ?_
 refine zzh 8 (.v (a1.v)) ty26 zzd ?_
 refine zza 9 (.adr 1 0) ?_
 refine zzh 10 (.v (a1.v)) ty26 zzd ?_
 refine zzj 3 ⟨26, [.bool false, .slice none 0 0, .slice none 0 0]⟩ ?_
 refine zzj 4 ⟨26, [.bool false, .slice none 0 0, .slice none 0 0]⟩ ?_
 refine zzi ⟨26, a1.cs⟩ ty26 ?_
 refine zzi ⟨26, a1.cs⟩ ty26 ?_
 refine zzb 29 [(1, .adr 1 0), (2, .adr 2 0), (3, .adr 3 0), (4, .adr 4 0)] [(1, ⟨81, a1.cs ++ a2.cs ++ a3.cs ++ a4.cs⟩), (2, ⟨28, [.bool false, .slice none 0 0, .slice none 0 0, .bool false, .slice none 0 0, .slice none 0 0]⟩), (3, ⟨26, a1.cs⟩), (4, ⟨26, a1.cs⟩)] ?_
 refine zzc ?_
 refine sq9 ?_
 refine zza 11 (.slc 1 3 3 3) ?_
 refine zza 12 (.v (.int .i64 3)) ?_
 refine zza 13 (.v (.int .i64 0)) ?_
 refine zzb 29 [(2, .adr 2 0), (3, .adr 3 0), (4, .adr 4 0), (11, .slc 1 3 3 3), (12, .v (.int .i64 3)), (13, .v (.int .i64 0))] [(1, ⟨81, a1.cs ++ a2.cs ++ a3.cs ++ a4.cs⟩), (2, ⟨28, [.bool false, .slice none 0 0, .slice none 0 0, .bool false, .slice none 0 0, .slice none 0 0]⟩), (3, ⟨26, a1.cs⟩), (4, ⟨26, a1.cs⟩)] ?_
 refine zzs ?_
 refine sw_rounds 3 ?_
 refine sq9 ?_
 refine zza 14 (.v (.bool true)) ?_
 refine zzb 29 [(2, .adr 2 0), (3, .adr 3 0), (4, .adr 4 0), (11, .slc 1 3 3 3), (12, .v (.int .i64 3)), (13, .v (.int .i64 0)), (14, .v (.bool true))] [(1, ⟨81, a1.cs ++ a2.cs ++ a3.cs ++ a4.cs⟩), (2, ⟨28, [.bool false, .slice none 0 0, .slice none 0 0, .bool false, .slice none 0 0, .slice none 0 0]⟩), (3, ⟨26, a1.cs⟩), (4, ⟨26, a1.cs⟩)] ?_
 refine zzc ?_
 refine zyq (by kernel_rfl) ?_
 refine zzr (zzo ?_)
 refine zzc ?_
 refine zzs ?_
 refine sq9 ?_
 refine zza 15 (.adr 1 3) ?_
 refine zzh 16 (.v (a2.v)) ty26 zzd ?_
 refine zzj 6 ⟨26, [.bool false, .slice none 0 0, .slice none 0 0]⟩ ?_
 refine zzi ⟨26, a2.cs⟩ ty26 ?_
 refine zzb 29 [(2, .adr 2 0), (3, .adr 3 0), (4, .adr 4 0), (6, .adr 6 0), (11, .slc 1 3 3 3), (12, .v (.int .i64 3)), (13, .v (.int .i64 0))] [(1, ⟨81, a1.cs ++ a2.cs ++ a3.cs ++ a4.cs⟩), (2, ⟨28, [.bool false, .slice none 0 0, .slice none 0 0, .bool false, .slice none 0 0, .slice none 0 0]⟩), (3, ⟨26, a1.cs⟩), (4, ⟨26, a1.cs⟩), (6, ⟨26, a2.cs⟩)] ?_
 refine zzy [0, 0, 3, 0, 0, 31, 63, 127] [(0, []), (1, []), (3, []), (4, []), (2, []), (5, []), (6, []), (7, [])] (by kernel_rfl) (by kernel_rfl) ?_
 refine zzh 17 (.v (a1.v)) ty26 zzd ?_
 refine zzh 18 (.v (a2.v)) ty26 zzd ?_
 refine zzh 20 (.v (a1.v)) ty26 zzd ?_
 refine zzh 21 (.v (a2.v)) ty26 zzd ?_
 refine zzf 19 128 [a1.v, a2.v] ?_
 intro w11 u11 e11 d11
 have k16 := k_lesserN d11 (ha1.ext e11) (ha2.ext e11) (by omega)
 with_reducible refine Post.mono k16 ?_
 rintro _ u14 g15 ⟨r12, rfl, h13⟩
 refine zzf 22 113 [a1.v, a2.v] ?_
 intro w17 u17 e17 d17
 have k22 := k_greaterN d17 (ha1.ext (e11.trans (g15.ext.trans e17))) (ha2.ext (e11.trans (g15.ext.trans e17))) (by omega)
 with_reducible refine Post.mono k22 ?_
 rintro _ u20 g21 ⟨r18, rfl, h19⟩
 refine zzi ⟨26, r12.cs⟩ ty26 ?_
 refine zzi ⟨26, r18.cs⟩ ty26 ?_
 refine zzw ?_
 refine zzo ?_
 refine zze ?_
 refine zza 23 (.v (.int .i64 1)) ?_
 refine zza 13 (.v (.int .i64 1)) ?_
 refine zzw ?_
 refine rn_next ?_
 refine sw_weak (T := St.of 29 [(2, .adr 2 0), (3, .adr 3 0), (4, .adr 4 0), (11, .slc 1 3 3 3), (12, .v (.int .i64 3)), (13, .v (.int .i64 1))] [(1, ⟨81, a1.cs ++ a2.cs ++ a3.cs ++ a4.cs⟩), (2, ⟨28, [.bool false, .slice none 0 0, .slice none 0 0, .bool false, .slice none 0 0, .slice none 0 0]⟩), (3, ⟨26, r12.cs⟩), (4, ⟨26, r18.cs⟩)]) (by exact zzu _ _ _) ?_
 refine sq9 ?_
 refine zza 14 (.v (.bool true)) ?_
 refine zzb 29 [(2, .adr 2 0), (3, .adr 3 0), (4, .adr 4 0), (11, .slc 1 3 3 3), (12, .v (.int .i64 3)), (13, .v (.int .i64 1)), (14, .v (.bool true))] [(1, ⟨81, a1.cs ++ a2.cs ++ a3.cs ++ a4.cs⟩), (2, ⟨28, [.bool false, .slice none 0 0, .slice none 0 0, .bool false, .slice none 0 0, .slice none 0 0]⟩), (3, ⟨26, r12.cs⟩), (4, ⟨26, r18.cs⟩)] ?_
 refine zzc ?_
 refine zyq (by kernel_rfl) ?_
 refine zzr (zzo ?_)
 refine zzc ?_
 refine zzs ?_
 refine sq9 ?_
 refine zza 15 (.adr 1 6) ?_
 refine zzh 16 (.v (a3.v)) ty26 zzd ?_
 refine zzj 6 ⟨26, [.bool false, .slice none 0 0, .slice none 0 0]⟩ ?_
 refine zzi ⟨26, a3.cs⟩ ty26 ?_
 refine zzb 29 [(2, .adr 2 0), (3, .adr 3 0), (4, .adr 4 0), (6, .adr 6 0), (11, .slc 1 3 3 3), (12, .v (.int .i64 3)), (13, .v (.int .i64 1))] [(1, ⟨81, a1.cs ++ a2.cs ++ a3.cs ++ a4.cs⟩), (2, ⟨28, [.bool false, .slice none 0 0, .slice none 0 0, .bool false, .slice none 0 0, .slice none 0 0]⟩), (3, ⟨26, r12.cs⟩), (4, ⟨26, r18.cs⟩), (6, ⟨26, a3.cs⟩)] ?_
 refine zzy [0, 0, 3, 0, 0, 31, 63, 127] [(0, []), (1, []), (3, []), (4, []), (2, []), (5, []), (6, []), (7, [])] (by kernel_rfl) (by kernel_rfl) ?_
 refine zzh 17 (.v (r12.v)) ty26 zzd ?_
 refine zzh 18 (.v (a3.v)) ty26 zzd ?_
 refine zzh 20 (.v (r18.v)) ty26 zzd ?_
 refine zzh 21 (.v (a3.v)) ty26 zzd ?_
 refine zzf 19 128 [r12.v, a3.v] ?_
 intro w23 u23 e23 d23
 have k28 := k_lesserN d23 (h13.ext (e17.trans (g21.ext.trans e23))) (ha3.ext (e11.trans (g15.ext.trans (e17.trans (g21.ext.trans e23))))) (by omega)
 with_reducible refine Post.mono k28 ?_
 rintro _ u26 g27 ⟨r24, rfl, h25⟩
 refine zzf 22 113 [r18.v, a3.v] ?_
 intro w29 u29 e29 d29
 have k34 := k_greaterN d29 (h19.ext (e23.trans (g27.ext.trans e29))) (ha3.ext (e11.trans (g15.ext.trans (e17.trans (g21.ext.trans (e23.trans (g27.ext.trans e29))))))) (by omega)
 with_reducible refine Post.mono k34 ?_
 rintro _ u32 g33 ⟨r30, rfl, h31⟩
 refine zzi ⟨26, r24.cs⟩ ty26 ?_
 refine zzi ⟨26, r30.cs⟩ ty26 ?_
 refine zzw ?_
 refine zzo ?_
 refine zze ?_
 refine zza 23 (.v (.int .i64 2)) ?_
 refine zza 13 (.v (.int .i64 2)) ?_
 refine zzw ?_
 refine rn_next ?_
 refine sw_weak (T := St.of 29 [(2, .adr 2 0), (3, .adr 3 0), (4, .adr 4 0), (11, .slc 1 3 3 3), (12, .v (.int .i64 3)), (13, .v (.int .i64 2))] [(1, ⟨81, a1.cs ++ a2.cs ++ a3.cs ++ a4.cs⟩), (2, ⟨28, [.bool false, .slice none 0 0, .slice none 0 0, .bool false, .slice none 0 0, .slice none 0 0]⟩), (3, ⟨26, r24.cs⟩), (4, ⟨26, r30.cs⟩)]) (by exact zzu _ _ _) ?_
 refine sq9 ?_
 refine zza 14 (.v (.bool true)) ?_
 refine zzb 29 [(2, .adr 2 0), (3, .adr 3 0), (4, .adr 4 0), (11, .slc 1 3 3 3), (12, .v (.int .i64 3)), (13, .v (.int .i64 2)), (14, .v (.bool true))] [(1, ⟨81, a1.cs ++ a2.cs ++ a3.cs ++ a4.cs⟩), (2, ⟨28, [.bool false, .slice none 0 0, .slice none 0 0, .bool false, .slice none 0 0, .slice none 0 0]⟩), (3, ⟨26, r24.cs⟩), (4, ⟨26, r30.cs⟩)] ?_
 refine zzc ?_
 refine zyq (by kernel_rfl) ?_
 refine zzr (zzo ?_)
 refine zzc ?_
 refine zzs ?_
 refine sq9 ?_
 refine zza 15 (.adr 1 9) ?_
 refine zzh 16 (.v (a4.v)) ty26 zzd ?_
 refine zzj 6 ⟨26, [.bool false, .slice none 0 0, .slice none 0 0]⟩ ?_
 refine zzi ⟨26, a4.cs⟩ ty26 ?_
 refine zzb 29 [(2, .adr 2 0), (3, .adr 3 0), (4, .adr 4 0), (6, .adr 6 0), (11, .slc 1 3 3 3), (12, .v (.int .i64 3)), (13, .v (.int .i64 2))] [(1, ⟨81, a1.cs ++ a2.cs ++ a3.cs ++ a4.cs⟩), (2, ⟨28, [.bool false, .slice none 0 0, .slice none 0 0, .bool false, .slice none 0 0, .slice none 0 0]⟩), (3, ⟨26, r24.cs⟩), (4, ⟨26, r30.cs⟩), (6, ⟨26, a4.cs⟩)] ?_
 refine zzy [0, 0, 3, 0, 0, 31, 63, 127] [(0, []), (1, []), (3, []), (4, []), (2, []), (5, []), (6, []), (7, [])] (by kernel_rfl) (by kernel_rfl) ?_
 refine zzh 17 (.v (r24.v)) ty26 zzd ?_
 refine zzh 18 (.v (a4.v)) ty26 zzd ?_
 refine zzh 20 (.v (r30.v)) ty26 zzd ?_
 refine zzh 21 (.v (a4.v)) ty26 zzd ?_
 refine zzf 19 128 [r24.v, a4.v] ?_
 intro w35 u35 e35 d35
 have k40 := k_lesserN d35 (h25.ext (e29.trans (g33.ext.trans e35))) (ha4.ext (e11.trans (g15.ext.trans (e17.trans (g21.ext.trans (e23.trans (g27.ext.trans (e29.trans (g33.ext.trans e35))))))))) (by omega)
 with_reducible refine Post.mono k40 ?_
 rintro _ u38 g39 ⟨r36, rfl, h37⟩
 refine zzf 22 113 [r30.v, a4.v] ?_
 intro w41 u41 e41 d41
 have k46 := k_greaterN d41 (h31.ext (e35.trans (g39.ext.trans e41))) (ha4.ext (e11.trans (g15.ext.trans (e17.trans (g21.ext.trans (e23.trans (g27.ext.trans (e29.trans (g33.ext.trans (e35.trans (g39.ext.trans e41))))))))))) (by omega)
 with_reducible refine Post.mono k46 ?_
 rintro _ u44 g45 ⟨r42, rfl, h43⟩
 refine zzi ⟨26, r36.cs⟩ ty26 ?_
 refine zzi ⟨26, r42.cs⟩ ty26 ?_
 refine zzw ?_
 refine zzo ?_
 refine zze ?_
 refine zza 23 (.v (.int .i64 3)) ?_
 refine zza 13 (.v (.int .i64 3)) ?_
 refine zzw ?_
 refine rn_next ?_
 refine sw_weak (T := St.of 29 [(2, .adr 2 0), (3, .adr 3 0), (4, .adr 4 0), (11, .slc 1 3 3 3), (12, .v (.int .i64 3)), (13, .v (.int .i64 3))] [(1, ⟨81, a1.cs ++ a2.cs ++ a3.cs ++ a4.cs⟩), (2, ⟨28, [.bool false, .slice none 0 0, .slice none 0 0, .bool false, .slice none 0 0, .slice none 0 0]⟩), (3, ⟨26, r36.cs⟩), (4, ⟨26, r42.cs⟩)]) (by exact zzu _ _ _) ?_
 refine sq9 ?_
 refine zza 14 (.v (.bool false)) ?_
 refine zzb 29 [(2, .adr 2 0), (3, .adr 3 0), (4, .adr 4 0), (11, .slc 1 3 3 3), (12, .v (.int .i64 3)), (13, .v (.int .i64 3)), (14, .v (.bool false))] [(1, ⟨81, a1.cs ++ a2.cs ++ a3.cs ++ a4.cs⟩), (2, ⟨28, [.bool false, .slice none 0 0, .slice none 0 0, .bool false, .slice none 0 0, .slice none 0 0]⟩), (3, ⟨26, r36.cs⟩), (4, ⟨26, r42.cs⟩)] ?_
 refine zzc ?_
 refine zyr (by kernel_rfl) ?_
 refine zyb ?_
 refine zzo ?_
 refine zzc ?_
 refine zzy [0, 1, 0, 7, 15, 31] [(0, []), (2, []), (1, []), (3, []), (4, []), (5, [])] (by kernel_rfl) (by kernel_rfl) ?_
 refine zzh 24 (.v (r36.v)) ty26 zzd ?_
 refine zzh 26 (.v (r42.v)) ty26 zzd ?_
 refine zzf 25 151 [r36.v] ?_
 intro w47 u47 e47 d47
 have k52 := k_own d47 (h37.ext (e41.trans (g45.ext.trans e47))) (by omega)
 with_reducible refine Post.mono k52 ?_
 rintro _ u50 g51 ⟨r48, rfl, h49⟩
 refine zzf 27 151 [r42.v] ?_
 intro w53 u53 e53 d53
 have k58 := k_own d53 (h43.ext (e47.trans (g51.ext.trans e53))) (by omega)
 with_reducible refine Post.mono k58 ?_
 rintro _ u56 g57 ⟨r54, rfl, h55⟩
 refine zza 28 (.v (.agg #[.bool r48.s, r48.m.v, r48.d.v, .bool r54.s, r54.m.v, r54.d.v])) ?_
 refine zzi ⟨28, r48.cs ++ r54.cs⟩ ty28 ?_
 refine zzb 29 [(2, .adr 2 0)] [(2, ⟨28, r48.cs ++ r54.cs⟩)] ?_
 refine zzn (ret0 [.agg #[.bool r48.s, .slice r48.m.a r48.m.n r48.m.c, .slice r48.d.a r48.d.n r48.d.c, .bool r54.s, .slice r54.m.a r54.m.n r54.m.c, .slice r54.d.a r54.d.n r54.d.c]] ⟨zzq ty28 zzd, trivial⟩ fun u59 e60 => ?_)
 refine ⟨r48, r54, rfl, RatN.more (K := K) ?_ (by omega), RatN.more (K := K) ?_ (by omega)⟩
 ·exact (h49.ext (e53.trans (g57.ext.trans e60)))
 ·exact (h55.ext e60)
theorem k_ivMake {u w : World} {a : RL} {x : Rat} {b : RL} {y : Rat} {K : Nat} (d : Dat u w) (ha : RatV u a x K) (hb : RatV u b y K) (hK : K ≤ 100000000) : Calls Tryz.prog 70 #[a.v, b.v] w (Post u w fun v u' => ∃ p q : RL, v = IV p q ∧ RatN u' p (Nt.lo x y) K ∧ RatN u' q (Nt.hi x y) K) := by
 refine zzl (args := [a.v, b.v]) Tryz.func70 rfl Tryz.ntmps70 (rs := [.cell 4 28]) Tryz.results70 (le_b rfl) (le_b rfl) d ?_
 refine sq9 ?_
 refine zzj 2 ⟨26, a.cs⟩ ?_
 refine zzj 3 ⟨26, b.cs⟩ ?_
 refine zzj 4 ⟨28, [.bool false, .slice none 0 0, .slice none 0 0, .bool false, .slice none 0 0, .slice none 0 0]⟩ ?_
 refine zzb 19 [(2, .adr 2 0), (3, .adr 3 0), (4, .adr 4 0)] [(2, ⟨26, a.cs⟩), (3, ⟨26, b.cs⟩), (4, ⟨28, [.bool false, .slice none 0 0, .slice none 0 0, .bool false, .slice none 0 0, .slice none 0 0]⟩)] ?_
 refine sq9 ?_
 refine zzh 8 (.v (a.v)) ty26 zzd ?_
 refine zzh 9 (.v (b.v)) ty26 zzd ?_
 refine zza 10 (.v (.agg #[.bool a.s, a.m.v, a.d.v, .bool b.s, b.m.v, b.d.v])) ?_
 refine zzf 11 103 [.agg #[.bool a.s, a.m.v, a.d.v, .bool b.s, b.m.v, b.d.v]] ?_
 intro w11 u11 e11 d11
 have k18 := k_ends d11 (ha.ext e11) (hb.ext e11) (by omega)
 with_reducible refine Post.mono k18 ?_
 rintro _ u16 g17 ⟨r12, r14, rfl, h13, h15⟩
 refine zza 7 (.v (.tuple #[r12.v, r14.v])) ?_
 refine zza 12 (.v (r12.v)) ?_
 refine zza 13 (.v (r14.v)) ?_
 refine zzj 5 ⟨26, [.bool false, .slice none 0 0, .slice none 0 0]⟩ ?_
 refine zzj 6 ⟨26, [.bool false, .slice none 0 0, .slice none 0 0]⟩ ?_
 refine zzi ⟨26, r12.cs⟩ ty26 ?_
 refine zzi ⟨26, r14.cs⟩ ty26 ?_
 refine zzb 19 [(4, .adr 4 0), (5, .adr 5 0), (6, .adr 6 0)] [(4, ⟨28, [.bool false, .slice none 0 0, .slice none 0 0, .bool false, .slice none 0 0, .slice none 0 0]⟩), (5, ⟨26, r12.cs⟩), (6, ⟨26, r14.cs⟩)] ?_
 refine zzc ?_
 refine zzy [0, 1, 0, 7, 15, 31] [(0, []), (2, []), (1, []), (3, []), (4, []), (5, [])] (by kernel_rfl) (by kernel_rfl) ?_
 refine zzh 14 (.v (r12.v)) ty26 zzd ?_
 refine zzh 16 (.v (r14.v)) ty26 zzd ?_
 refine zzf 15 126 [r12.v] ?_
 intro w19 u19 e19 d19
 have k24 := k_ratTrim d19 (h13.ext e19) (by omega)
 with_reducible refine Post.mono k24 ?_
 rintro _ u22 g23 ⟨r20, rfl, h21⟩
 refine zzf 17 126 [r14.v] ?_
 intro w25 u25 e25 d25
 have k30 := k_ratTrim d25 (h15.ext (e19.trans (g23.ext.trans e25))) (by omega)
 with_reducible refine Post.mono k30 ?_
 rintro _ u28 g29 ⟨r26, rfl, h27⟩
 refine zza 18 (.v (.agg #[.bool r20.s, r20.m.v, r20.d.v, .bool r26.s, r26.m.v, r26.d.v])) ?_
 refine zzi ⟨28, r20.cs ++ r26.cs⟩ ty28 ?_
 refine zzb 19 [(4, .adr 4 0)] [(4, ⟨28, r20.cs ++ r26.cs⟩)] ?_
 refine zzn (ret0 [.agg #[.bool r20.s, .slice r20.m.a r20.m.n r20.m.c, .slice r20.d.a r20.d.n r20.d.c, .bool r26.s, .slice r26.m.a r26.m.n r26.m.c, .slice r26.d.a r26.d.n r26.d.c]] ⟨zzq ty28 zzd, trivial⟩ fun u31 e32 => ?_)
 refine ⟨r20, r26, rfl, RatN.more (K := K) ?_ (by omega), RatN.more (K := K) ?_ (by omega)⟩
 ·exact (h21.ext (e25.trans (g29.ext.trans e32)))
 ·exact (h27.ext e32)
theorem k_ivAdd {u w : World} {a1 a2 : RL} {x1 x2 : Rat} {b1 b2 : RL} {y1 y2 : Rat} {K L : Nat} (d : Dat u w) (ha1 : RatV u a1 x1 K) (ha2 : RatV u a2 x2 K) (hb1 : RatV u b1 y1 L) (hb2 : RatV u b2 y2 L) (hK : K ≤ 100000000) (hL : L ≤ 100000000) : Calls Tryz.prog 17 #[IV a1 a2, IV b1 b2] w (Post u w fun v u' => ∃ p q : RL, v = IV p q ∧ RatN u' p (Nt.lo x1 x2 + Nt.lo y1 y2) (K + L + 1) ∧ RatN u' q (Nt.hi x1 x2 + Nt.hi y1 y2) (K + L + 1)) := by
 refine zzl (args := [.agg #[.bool a1.s, .slice a1.m.a a1.m.n a1.m.c, .slice a1.d.a a1.d.n a1.d.c, .bool a2.s, .slice a2.m.a a2.m.n a2.m.c, .slice a2.d.a a2.d.n a2.d.c], .agg #[.bool b1.s, .slice b1.m.a b1.m.n b1.m.c, .slice b1.d.a b1.d.n b1.d.c, .bool b2.s, .slice b2.m.a b2.m.n b2.m.c, .slice b2.d.a b2.d.n b2.d.c]]) Tryz.func17 rfl Tryz.ntmps17 (rs := [.cell 4 28]) Tryz.results17 (le_b rfl) (le_b rfl) d ?_
 refine sq9 ?_
 refine zzj 2 ⟨28, a1.cs ++ a2.cs⟩ ?_
 refine zzj 3 ⟨28, b1.cs ++ b2.cs⟩ ?_
 refine zzj 4 ⟨28, [.bool false, .slice none 0 0, .slice none 0 0, .bool false, .slice none 0 0, .slice none 0 0]⟩ ?_
 refine zzb 26 [(2, .adr 2 0), (3, .adr 3 0), (4, .adr 4 0)] [(2, ⟨28, a1.cs ++ a2.cs⟩), (3, ⟨28, b1.cs ++ b2.cs⟩), (4, ⟨28, [.bool false, .slice none 0 0, .slice none 0 0, .bool false, .slice none 0 0, .slice none 0 0]⟩)] ?_
 refine sq9 ?_
 refine zzh 10 (.v (.agg #[.bool a1.s, a1.m.v, a1.d.v, .bool a2.s, a2.m.v, a2.d.v])) ty28 zzd ?_
 refine zzf 11 103 [.agg #[.bool a1.s, a1.m.v, a1.d.v, .bool a2.s, a2.m.v, a2.d.v]] ?_
 intro w11 u11 e11 d11
 have k18 := k_ends d11 (ha1.ext e11) (ha2.ext e11) (by omega)
 with_reducible refine Post.mono k18 ?_
 rintro _ u16 g17 ⟨r12, r14, rfl, h13, h15⟩
 refine zza 9 (.v (.tuple #[r12.v, r14.v])) ?_
 refine zza 12 (.v (r12.v)) ?_
 refine zza 13 (.v (r14.v)) ?_
 refine zzj 5 ⟨26, [.bool false, .slice none 0 0, .slice none 0 0]⟩ ?_
 refine zzj 6 ⟨26, [.bool false, .slice none 0 0, .slice none 0 0]⟩ ?_
 refine zzi ⟨26, r12.cs⟩ ty26 ?_
 refine zzi ⟨26, r14.cs⟩ ty26 ?_
 refine zzb 26 [(3, .adr 3 0), (4, .adr 4 0), (5, .adr 5 0), (6, .adr 6 0)] [(3, ⟨28, b1.cs ++ b2.cs⟩), (4, ⟨28, [.bool false, .slice none 0 0, .slice none 0 0, .bool false, .slice none 0 0, .slice none 0 0]⟩), (5, ⟨26, r12.cs⟩), (6, ⟨26, r14.cs⟩)] ?_
 refine sq9 ?_
 refine zzh 15 (.v (.agg #[.bool b1.s, b1.m.v, b1.d.v, .bool b2.s, b2.m.v, b2.d.v])) ty28 zzd ?_
 refine zzf 16 103 [.agg #[.bool b1.s, b1.m.v, b1.d.v, .bool b2.s, b2.m.v, b2.d.v]] ?_
 intro w19 u19 e19 d19
 have k26 := k_ends d19 (hb1.ext (e11.trans (g17.ext.trans e19))) (hb2.ext (e11.trans (g17.ext.trans e19))) (by omega)
 with_reducible refine Post.mono k26 ?_
 rintro _ u24 g25 ⟨r20, r22, rfl, h21, h23⟩
 refine zza 14 (.v (.tuple #[r20.v, r22.v])) ?_
 refine zza 17 (.v (r20.v)) ?_
 refine zza 18 (.v (r22.v)) ?_
 refine zzj 7 ⟨26, [.bool false, .slice none 0 0, .slice none 0 0]⟩ ?_
 refine zzj 8 ⟨26, [.bool false, .slice none 0 0, .slice none 0 0]⟩ ?_
 refine zzi ⟨26, r20.cs⟩ ty26 ?_
 refine zzi ⟨26, r22.cs⟩ ty26 ?_
 refine zzb 26 [(4, .adr 4 0), (5, .adr 5 0), (6, .adr 6 0), (7, .adr 7 0), (8, .adr 8 0)] [(4, ⟨28, [.bool false, .slice none 0 0, .slice none 0 0, .bool false, .slice none 0 0, .slice none 0 0]⟩), (5, ⟨26, r12.cs⟩), (6, ⟨26, r14.cs⟩), (7, ⟨26, r20.cs⟩), (8, ⟨26, r22.cs⟩)] ?_
 refine zzc ?_
 refine zzy [0, 0, 3, 0, 0, 31, 63, 127] [(0, []), (1, []), (3, []), (4, []), (2, []), (5, []), (6, []), (7, [])] (by kernel_rfl) (by kernel_rfl) ?_
 refine zzh 19 (.v (r12.v)) ty26 zzd ?_
 refine zzh 20 (.v (r20.v)) ty26 zzd ?_
 refine zzh 22 (.v (r14.v)) ty26 zzd ?_
 refine zzh 23 (.v (r22.v)) ty26 zzd ?_
 refine zzf 21 104 [r12.v, r20.v] ?_
 intro w27 u27 e27 d27
 have k32 := k_ratAdd d27 (h13.ext (e19.trans (g25.ext.trans e27))) (h21.ext e27) (by omega) (by omega)
 with_reducible refine Post.mono k32 ?_
 rintro _ u30 g31 ⟨r28, rfl, h29⟩
 refine zzf 24 104 [r14.v, r22.v] ?_
 intro w33 u33 e33 d33
 have k38 := k_ratAdd d33 (h15.ext (e19.trans (g25.ext.trans (e27.trans (g31.ext.trans e33))))) (h23.ext (e27.trans (g31.ext.trans e33))) (by omega) (by omega)
 with_reducible refine Post.mono k38 ?_
 rintro _ u36 g37 ⟨r34, rfl, h35⟩
 refine zza 25 (.v (.agg #[.bool r28.s, r28.m.v, r28.d.v, .bool r34.s, r34.m.v, r34.d.v])) ?_
 refine zzi ⟨28, r28.cs ++ r34.cs⟩ ty28 ?_
 refine zzb 26 [(4, .adr 4 0)] [(4, ⟨28, r28.cs ++ r34.cs⟩)] ?_
 refine zzn (ret0 [.agg #[.bool r28.s, .slice r28.m.a r28.m.n r28.m.c, .slice r28.d.a r28.d.n r28.d.c, .bool r34.s, .slice r34.m.a r34.m.n r34.m.c, .slice r34.d.a r34.d.n r34.d.c]] ⟨zzq ty28 zzd, trivial⟩ fun u39 e40 => ?_)
 refine ⟨r28, r34, rfl, RatN.more (K := (K + L + 1)) ?_ (by omega), RatN.more (K := (K + L + 1)) ?_ (by omega)⟩
 ·exact (h29.ext (e33.trans (g37.ext.trans e40)))
 ·exact (h35.ext e40)
theorem k_ivMul {u w : World} {a1 a2 : RL} {x1 x2 : Rat} {b1 b2 : RL} {y1 y2 : Rat} {K L : Nat} (d : Dat u w) (ha1 : RatV u a1 x1 K) (ha2 : RatV u a2 x2 K) (hb1 : RatV u b1 y1 L) (hb2 : RatV u b2 y2 L) (hK : K ≤ 100000000) (hL : L ≤ 100000000) : Calls Tryz.prog 21 #[IV a1 a2, IV b1 b2] w (Post u w fun v u' => ∃ p q : RL, v = IV p q ∧ RatN u' p (Nt.lo4 (x1 * y1) (x1 * y2) (x2 * y1) (x2 * y2)) (K + L) ∧ RatN u' q (Nt.hi4 (x1 * y1) (x1 * y2) (x2 * y1) (x2 * y2)) (K + L)) := by
 refine zzl (args := [.agg #[.bool a1.s, .slice a1.m.a a1.m.n a1.m.c, .slice a1.d.a a1.d.n a1.d.c, .bool a2.s, .slice a2.m.a a2.m.n a2.m.c, .slice a2.d.a a2.d.n a2.d.c], .agg #[.bool b1.s, .slice b1.m.a b1.m.n b1.m.c, .slice b1.d.a b1.d.n b1.d.c, .bool b2.s, .slice b2.m.a b2.m.n b2.m.c, .slice b2.d.a b2.d.n b2.d.c]]) Tryz.func21 rfl Tryz.ntmps21 (rs := [.cell 4 28]) Tryz.results21 (le_b rfl) (le_b rfl) d ?_
 refine sq9 ?_
 refine zzj 2 ⟨28, a1.cs ++ a2.cs⟩ ?_
 refine zzj 3 ⟨28, b1.cs ++ b2.cs⟩ ?_
 refine zzj 4 ⟨28, [.bool false, .slice none 0 0, .slice none 0 0, .bool false, .slice none 0 0, .slice none 0 0]⟩ ?_
 refine zzb 27 [(2, .adr 2 0), (3, .adr 3 0), (4, .adr 4 0)] [(2, ⟨28, a1.cs ++ a2.cs⟩), (3, ⟨28, b1.cs ++ b2.cs⟩), (4, ⟨28, [.bool false, .slice none 0 0, .slice none 0 0, .bool false, .slice none 0 0, .slice none 0 0]⟩)] ?_
 refine zzc ?_
 refine zzy [0, 1, 0, 4, 15, 0, 32, 0, 128, 511, 0, 1024, 0, 4096, 16383, 0, 32768, 0, 131072, 524287, 1048575, 2097151, 4194303] [(0, []), (1, []), (2, []), (3, []), (5, []), (6, []), (7, []), (8, []), (10, []), (11, []), (12, []), (13, []), (15, []), (16, []), (17, []), (18, []), (4, []), (9, []), (14, []), (19, []), (20, []), (21, []), (22, [])] (by kernel_rfl) (by kernel_rfl) ?_
 refine zza 5 (.adr 2 0) ?_
 refine zzh 6 (.v (a1.v)) ty26 zzd ?_
 refine zza 7 (.adr 3 0) ?_
 refine zzh 8 (.v (b1.v)) ty26 zzd ?_
 refine zza 10 (.adr 2 0) ?_
 refine zzh 11 (.v (a1.v)) ty26 zzd ?_
 refine zza 12 (.adr 3 3) ?_
 refine zzh 13 (.v (b2.v)) ty26 zzd ?_
 refine zza 15 (.adr 2 3) ?_
 refine zzh 16 (.v (a2.v)) ty26 zzd ?_
 refine zza 17 (.adr 3 0) ?_
 refine zzh 18 (.v (b1.v)) ty26 zzd ?_
 refine zza 20 (.adr 2 3) ?_
 refine zzh 21 (.v (a2.v)) ty26 zzd ?_
 refine zza 22 (.adr 3 3) ?_
 refine zzh 23 (.v (b2.v)) ty26 zzd ?_
 refine zzf 9 111 [a1.v, b1.v] ?_
 intro w11 u11 e11 d11
 have k16 := k_ratMul d11 (ha1.ext e11) (hb1.ext e11) (by omega) (by omega)
 with_reducible refine Post.mono k16 ?_
 rintro _ u14 g15 ⟨r12, rfl, h13⟩
 refine zzf 14 111 [a1.v, b2.v] ?_
 intro w17 u17 e17 d17
 have k22 := k_ratMul d17 (ha1.ext (e11.trans (g15.ext.trans e17))) (hb2.ext (e11.trans (g15.ext.trans e17))) (by omega) (by omega)
 with_reducible refine Post.mono k22 ?_
 rintro _ u20 g21 ⟨r18, rfl, h19⟩
 refine zzf 19 111 [a2.v, b1.v] ?_
 intro w23 u23 e23 d23
 have k28 := k_ratMul d23 (ha2.ext (e11.trans (g15.ext.trans (e17.trans (g21.ext.trans e23))))) (hb1.ext (e11.trans (g15.ext.trans (e17.trans (g21.ext.trans e23))))) (by omega) (by omega)
 with_reducible refine Post.mono k28 ?_
 rintro _ u26 g27 ⟨r24, rfl, h25⟩
 refine zzf 24 111 [a2.v, b2.v] ?_
 intro w29 u29 e29 d29
 have k34 := k_ratMul d29 (ha2.ext (e11.trans (g15.ext.trans (e17.trans (g21.ext.trans (e23.trans (g27.ext.trans e29))))))) (hb2.ext (e11.trans (g15.ext.trans (e17.trans (g21.ext.trans (e23.trans (g27.ext.trans e29))))))) (by omega) (by omega)
 with_reducible refine Post.mono k34 ?_
 rintro _ u32 g33 ⟨r30, rfl, h31⟩
 refine zza 25 (.v (.agg #[.bool r12.s, r12.m.v, r12.d.v, .bool r18.s, r18.m.v, r18.d.v, .bool r24.s, r24.m.v, r24.d.v, .bool r30.s, r30.m.v, r30.d.v])) ?_
 refine zzf 26 100 [.agg #[.bool r12.s, r12.m.v, r12.d.v, .bool r18.s, r18.m.v, r18.d.v, .bool r24.s, r24.m.v, r24.d.v, .bool r30.s, r30.m.v, r30.d.v]] ?_
 intro w35 u35 e35 d35
 have k42 := k_around d35 (h13.ext (e17.trans (g21.ext.trans (e23.trans (g27.ext.trans (e29.trans (g33.ext.trans e35))))))) (h19.ext (e23.trans (g27.ext.trans (e29.trans (g33.ext.trans e35))))) (h25.ext (e29.trans (g33.ext.trans e35))) (h31.ext e35) (by omega)
 with_reducible refine Post.mono k42 ?_
 rintro _ u40 g41 ⟨r36, r38, rfl, h37, h39⟩
 refine zzi ⟨28, r36.cs ++ r38.cs⟩ ty28 ?_
 refine zzb 27 [(4, .adr 4 0)] [(4, ⟨28, r36.cs ++ r38.cs⟩)] ?_
 refine zzn (ret0 [.agg #[.bool r36.s, .slice r36.m.a r36.m.n r36.m.c, .slice r36.d.a r36.d.n r36.d.c, .bool r38.s, .slice r38.m.a r38.m.n r38.m.c, .slice r38.d.a r38.d.n r38.d.c]] ⟨zzq ty28 zzd, trivial⟩ fun u43 e44 => ?_)
 refine ⟨r36, r38, rfl, RatN.more (K := (K + L)) ?_ (by omega), RatN.more (K := (K + L)) ?_ (by omega)⟩
 ·exact (h37.ext e44)
 ·exact (h39.ext e44)
theorem k_ratDiv1 {u w : World} {r1 r2 : RL} {x y : Rat} {K L : Nat} (d : Dat u w) (hr1 : RatV u r1 x K) (hr2 : RatV u r2 y L) (hy : y ≠ 0) (hK : K ≤ 200000000) (hL : L ≤ 200000000) : Calls Tryz.prog 99 #[r1.v, r2.v] w (Post u w fun v u' => ∃ r : RL, v = .tuple #[r.v, .int .i64 0] ∧ RatN u' r (x / y) (K + L)) :=
 Post.mono (k_ratDiv d hr1 hr2 hK hL) fun v u' _ h => h.elim (fun h => absurd h.2 hy) (fun h => h.2)
theorem k_r4Trim {u w : World} {a1 a2 : RL} {x1 x2 : Rat} {K : Nat} (d : Dat u w) (ha1 : RatV u a1 x1 K) (ha2 : RatV u a2 x2 K) (hK : K ≤ 100000000) : Calls Tryz.prog 69 #[IV a1 a2] w (Post u w fun v u' => ∃ p q : RL, v = IV p q ∧ RatN u' p (Nt.lo x1 x2) K ∧ RatN u' q (Nt.hi x1 x2) K) := by
 refine zzl (args := [.agg #[.bool a1.s, .slice a1.m.a a1.m.n a1.m.c, .slice a1.d.a a1.d.n a1.d.c, .bool a2.s, .slice a2.m.a a2.m.n a2.m.c, .slice a2.d.a a2.d.n a2.d.c]]) Tryz.func69 rfl Tryz.ntmps69 (rs := [.cell 2 28]) Tryz.results69 (le_b rfl) (le_b rfl) d ?_
 refine sq9 ?_
 refine zzj 1 ⟨28, a1.cs ++ a2.cs⟩ ?_
 refine zzj 2 ⟨28, [.bool false, .slice none 0 0, .slice none 0 0, .bool false, .slice none 0 0, .slice none 0 0]⟩ ?_
 refine zzb 14 [(1, .adr 1 0), (2, .adr 2 0)] [(1, ⟨28, a1.cs ++ a2.cs⟩), (2, ⟨28, [.bool false, .slice none 0 0, .slice none 0 0, .bool false, .slice none 0 0, .slice none 0 0]⟩)] ?_
 refine zzc ?_
 refine zzy [0, 1, 0, 4, 15, 0, 32, 0, 128, 511, 1023, 2047] [(0, []), (1, []), (2, []), (3, []), (5, []), (6, []), (7, []), (8, []), (4, []), (9, []), (10, []), (11, [])] (by kernel_rfl) (by kernel_rfl) ?_
 refine zza 3 (.adr 1 0) ?_
 refine zzh 4 (.v (a1.v)) ty26 zzd ?_
 refine zza 5 (.adr 1 3) ?_
 refine zzh 6 (.v (a2.v)) ty26 zzd ?_
 refine zza 8 (.adr 1 0) ?_
 refine zzh 9 (.v (a1.v)) ty26 zzd ?_
 refine zza 10 (.adr 1 3) ?_
 refine zzh 11 (.v (a2.v)) ty26 zzd ?_
 refine zzf 7 130 [a1.v, a2.v] ?_
 intro w11 u11 e11 d11
 have k16 := k_rqMin d11 (ha1.ext e11) (ha2.ext e11) (by omega) (by omega)
 with_reducible refine Post.mono k16 ?_
 rintro _ u14 g15 ⟨r12, rfl, h13⟩
 refine zzf 12 129 [a1.v, a2.v] ?_
 intro w17 u17 e17 d17
 have k22 := k_rqMax d17 (ha1.ext (e11.trans (g15.ext.trans e17))) (ha2.ext (e11.trans (g15.ext.trans e17))) (by omega) (by omega)
 with_reducible refine Post.mono k22 ?_
 rintro _ u20 g21 ⟨r18, rfl, h19⟩
 refine zza 13 (.v (.agg #[.bool r12.s, r12.m.v, r12.d.v, .bool r18.s, r18.m.v, r18.d.v])) ?_
 refine zzi ⟨28, r12.cs ++ r18.cs⟩ ty28 ?_
 refine zzb 14 [(2, .adr 2 0)] [(2, ⟨28, r12.cs ++ r18.cs⟩)] ?_
 refine zzn (ret0 [.agg #[.bool r12.s, .slice r12.m.a r12.m.n r12.m.c, .slice r12.d.a r12.d.n r12.d.c, .bool r18.s, .slice r18.m.a r18.m.n r18.m.c, .slice r18.d.a r18.d.n r18.d.c]] ⟨zzq ty28 zzd, trivial⟩ fun u23 e24 => ?_)
 refine ⟨r12, r18, rfl, RatN.more (K := (max K K)) ?_ (by omega), RatN.more (K := (max K K)) ?_ (by omega)⟩
 ·exact (h13.ext (e17.trans (g21.ext.trans e24)))
 ·exact (h19.ext e24)
theorem k_r4Same {u w : World} {a1 a2 : RL} {x1 x2 : Rat} {b1 b2 : RL} {y1 y2 : Rat} {K L : Nat} (d : Dat u w) (ha1 : RatN u a1 x1 K) (ha2 : RatN u a2 x2 K) (hb1 : RatN u b1 y1 L) (hb2 : RatN u b2 y2 L) : Calls Tryz.prog 59 #[IV a1 a2, IV b1 b2] w (Post u w fun v u' => v = .bool (decide (x1 = y1) && decide (x2 = y2))) := by
 refine zzl (args := [.agg #[.bool a1.s, .slice a1.m.a a1.m.n a1.m.c, .slice a1.d.a a1.d.n a1.d.c, .bool a2.s, .slice a2.m.a a2.m.n a2.m.c, .slice a2.d.a a2.d.n a2.d.c], .agg #[.bool b1.s, .slice b1.m.a b1.m.n b1.m.c, .slice b1.d.a b1.d.n b1.d.c, .bool b2.s, .slice b2.m.a b2.m.n b2.m.c, .slice b2.d.a b2.d.n b2.d.c]]) Tryz.func59 rfl Tryz.ntmps59 (rs := [.tmp 4]) Tryz.results59 (le_b rfl) (le_b rfl) d ?_
 refine sq9 ?_
 refine zzj 2 ⟨28, a1.cs ++ a2.cs⟩ ?_
 refine zzj 3 ⟨28, b1.cs ++ b2.cs⟩ ?_
 refine zza 4 (.v (.bool false)) ?_
 refine zzb 17 [(2, .adr 2 0), (3, .adr 3 0)] [(2, ⟨28, a1.cs ++ a2.cs⟩), (3, ⟨28, b1.cs ++ b2.cs⟩)] ?_
 refine sq9 ?_
 refine zza 5 (.adr 2 0) ?_
 refine zzh 6 (.v (a1.v)) ty26 zzd ?_
 refine zza 7 (.adr 3 0) ?_
 refine zzh 8 (.v (b1.v)) ty26 zzd ?_
 refine zzf 9 71 [a1.v, b1.v] ?_
 intro w11 u11 e11 d11
 have k14 := k_rqSame d11 (ha1.ext e11) (hb1.ext e11)
 with_reducible refine Post.mono k14 ?_
 rintro _ u12 g13 rfl
 rcases Bool.eq_false_or_eq_true (decide (x1 = y1)) with hs15 | hs15
 ·refine zyp 10 (x := .v (.bool (decide (x1 = y1)))) (.v (.bool true)) (by rw [hs15]) ?_
  have qhs15 := of_decide_eq_true hs15
  refine zza 11 (.adr 2 3) ?_ (hw := w1 5 true 10)
  refine zzh 12 (.v (a2.v)) ty26 zzd ?_ (hw := w1 5 true 10)
  refine zza 13 (.adr 3 3) ?_ (hw := w1 5 true 10)
  refine zzh 14 (.v (b2.v)) ty26 zzd ?_ (hw := w1 5 true 10)
  refine zzf 15 71 [a2.v, b2.v] ?_ (hw := w1 5 true 10)
  intro w16 u16 e16 d16
  have k19 := k_rqSame d16 (ha2.ext (e11.trans (g13.ext.trans e16))) (hb2.ext (e11.trans (g13.ext.trans e16)))
  with_reducible refine Post.mono k19 ?_
  rintro _ u17 g18 rfl
  refine zza 16 (.v (.bool (decide (x2 = y2)))) ?_
  refine zza 4 (.v (.bool (decide (x2 = y2)))) ?_
  refine zzb 17 [(4, .v (.bool (decide (x2 = y2))))] [] ?_
  refine zzn (ret0 [.bool (decide (x2 = y2))] ⟨zzp, trivial⟩ fun u20 e21 => ?_)
  show _ = _
  rw [hs15]
  rfl
 ·refine zyp 10 (x := .v (.bool (decide (x1 = y1)))) (.v (.bool false)) (by rw [hs15]) ?_
  have qhs15 := of_decide_eq_false hs15
  refine zzm 11 (uw 5 true false 10) ?_
  refine zzm 12 (uw 5 true false 10) ?_
  refine zzm 13 (uw 5 true false 10) ?_
  refine zzm 14 (uw 5 true false 10) ?_
  refine zzm 15 (uw 5 true false 10) ?_
  refine zza 16 (.v (.bool false)) ?_
  refine zza 4 (.v (.bool false)) ?_
  refine zzb 17 [(4, .v (.bool false))] [] ?_
  refine zzn (ret0 [.bool false] ⟨zzp, trivial⟩ fun u22 e23 => ?_)
  show _ = _
  rw [hs15]
  rfl
theorem k_r4Make {u w : World} {a : RL} {x : Rat} {b : RL} {y : Rat} {K : Nat} (d : Dat u w) (ha : RatV u a x K) (hb : RatV u b y K) (hK : K ≤ 100000000) : Calls Tryz.prog 46 #[a.v, b.v] w (Post u w fun v u' => ∃ p q : RL, v = IV p q ∧ RatN u' p (Nt.lo x y) K ∧ RatN u' q (Nt.hi x y) K) := by
 refine zzl (args := [a.v, b.v]) Tryz.func46 rfl Tryz.ntmps46 (rs := [.cell 4 28]) Tryz.results46 (le_b rfl) (le_b rfl) d ?_
 refine sq9 ?_
 refine zzj 2 ⟨26, a.cs⟩ ?_
 refine zzj 3 ⟨26, b.cs⟩ ?_
 refine zzj 4 ⟨28, [.bool false, .slice none 0 0, .slice none 0 0, .bool false, .slice none 0 0, .slice none 0 0]⟩ ?_
 refine zzb 9 [(2, .adr 2 0), (3, .adr 3 0), (4, .adr 4 0)] [(2, ⟨26, a.cs⟩), (3, ⟨26, b.cs⟩), (4, ⟨28, [.bool false, .slice none 0 0, .slice none 0 0, .bool false, .slice none 0 0, .slice none 0 0]⟩)] ?_
 refine sq9 ?_
 refine zzh 5 (.v (a.v)) ty26 zzd ?_
 refine zzh 6 (.v (b.v)) ty26 zzd ?_
 refine zza 7 (.v (.agg #[.bool a.s, a.m.v, a.d.v, .bool b.s, b.m.v, b.d.v])) ?_
 refine zzf 8 69 [.agg #[.bool a.s, a.m.v, a.d.v, .bool b.s, b.m.v, b.d.v]] ?_
 intro w11 u11 e11 d11
 have k18 := k_r4Trim d11 (ha.ext e11) (hb.ext e11) (by omega)
 with_reducible refine Post.mono k18 ?_
 rintro _ u16 g17 ⟨r12, r14, rfl, h13, h15⟩
 refine zzi ⟨28, r12.cs ++ r14.cs⟩ ty28 ?_
 refine zzb 9 [(4, .adr 4 0)] [(4, ⟨28, r12.cs ++ r14.cs⟩)] ?_
 refine zzn (ret0 [.agg #[.bool r12.s, .slice r12.m.a r12.m.n r12.m.c, .slice r12.d.a r12.d.n r12.d.c, .bool r14.s, .slice r14.m.a r14.m.n r14.m.c, .slice r14.d.a r14.d.n r14.d.c]] ⟨zzq ty28 zzd, trivial⟩ fun u19 e20 => ?_)
 refine ⟨r12, r14, rfl, RatN.more (K := K) ?_ (by omega), RatN.more (K := K) ?_ (by omega)⟩
 ·exact (h13.ext e20)
 ·exact (h15.ext e20)
theorem mod_pos (m : Int) (hm : 1 ≤ m) (n : Int) (h : decide (Int.tmod n m < 0) = false) : Int.tmod n m = n % m := by
 have h := of_decide_eq_false h
 rcases Int.lt_or_le n 0 with hn | hn
 ·have e := Int.tmod_add_mul_tdiv n m
  have h2 : -m < Int.tmod n m := Int.lt_tmod_of_pos n (by omega)
  have h3 : Int.tmod n m ≤ 0 := by
   have h8 := Int.neg_tmod n m
   have h9 : Int.tmod (-n) m = (-n) % m := Int.tmod_eq_emod_of_nonneg (by omega)
   have h10 := Int.emod_nonneg (-n) (show m ≠ 0 by omega)
   omega
  have h4 : Int.tmod n m = 0 := by omega
  rw [h4] at e ⊢
  have : m ∣ n := ⟨n.tdiv m, by omega⟩
  exact (Int.emod_eq_zero_of_dvd this).symm
 ·exact Int.tmod_eq_emod_of_nonneg hn
theorem mod_neg (m : Int) (hm : 1 ≤ m) (n : Int) (h : decide (Int.tmod n m < 0) = true) : Int.tmod n m + m = n % m := by
 have h := of_decide_eq_true h
 have e := Int.tmod_add_mul_tdiv n m
 have h2 : -m < Int.tmod n m := Int.lt_tmod_of_pos n (by omega)
 have h5 : n = m * (n.tdiv m - 1) + (Int.tmod n m + m) := by rw [Int.mul_sub, Int.mul_one]; omega
 have := (Nt.ediv_uniq (z := n) (y := m) (q := n.tdiv m - 1) (r := Int.tmod n m + m) (by omega) h5 (by omega) (by omega)).2
 exact this.symm
theorem k_Mod {u w : World} {n m : Int} (d : Dat u w) (hm : 1 ≤ m) (hm2 : m ≤ 4611686018427387904) (hn0 : -9223372036854775808 ≤ n) (hn1 : n ≤ 9223372036854775807) : Calls Tryz.prog 50 #[.int .i64 n, .int .i64 m] w (Post u w fun v _ => v = .int .i64 (n % m)) := by
 refine zzl (args := [.int .i64 n, .int .i64 m]) Tryz.func50 rfl Tryz.ntmps50 (rs := [.tmp 4]) Tryz.results50 (le_b rfl) (le_b rfl) d ?_
 refine sq9 ?_
 refine zza 4 (.v (.int .i64 0)) ?_
 refine zzb 16 [(0, .v (.int .i64 n)), (1, .v (.int .i64 m))] [] ?_
 refine zzc ?_
 refine sq9 ?_
 refine zza 5 (.v (.int .i64 m)) ?_
 refine zyp 6 (x := .v (.bool (decide (m < 1)))) (.v (.bool false)) (by rw [show (decide (m < 1)) = false from (by simp; omega)]) ?_
 refine zzb 16 [(0, .v (.int .i64 n)), (1, .v (.int .i64 m)), (6, .v (.bool false))] [] ?_
 refine zyr (by kernel_rfl) ?_
 refine zzr (zzo ?_)
 refine sq9 ?_
 refine zza 7 (.v (.int .i64 n)) ?_
 refine zza 8 (.v (.int .i64 m)) ?_
 refine sy_rem 9 (Int.tmod n m) (by omega) rfl ?_
 refine zza 0 (.v (.int .i64 (Int.tmod n m))) ?_
 refine zzb 16 [(0, .v (.int .i64 (Int.tmod n m))), (1, .v (.int .i64 m))] [] ?_
 refine zzc ?_
 refine sq9 ?_
 refine zza 10 (.v (.int .i64 (Int.tmod n m))) ?_
 refine zza 11 (.v (.bool (decide ((Int.tmod n m) < 0)))) ?_
 refine zzb 16 [(0, .v (.int .i64 (Int.tmod n m))), (1, .v (.int .i64 m)), (11, .v (.bool (decide ((Int.tmod n m) < 0))))] [] ?_
 refine zzt (b := decide ((Int.tmod n m) < 0)) (by kernel_rfl) (fun hb11 => ?_) (fun hb11 => ?_)
 ·replace hb11 : (decide ((Int.tmod n m) < 0)) = true := hb11
  have qhb11 := of_decide_eq_true hb11
  refine zze ?_
  refine zza 12 (.v (.int .i64 (Int.tmod n m))) ?_
  refine zza 13 (.v (.int .i64 m)) ?_
  refine zyp 14 (x := .v (.int .i64 (IntKind.i64.wrap (Int.tmod n m + m)))) (.v (.int .i64 (Int.tmod n m + m))) (by rw [show (IntKind.i64.wrap (Int.tmod n m + m)) = (Int.tmod n m + m) from (IntWalk.i64_in _ (by have h2 := Int.lt_tmod_of_pos n (show 0 < m by omega); have h3 := Int.tmod_lt_of_pos n (show 0 < m by omega); omega))]) ?_
  refine zza 0 (.v (.int .i64 (Int.tmod n m + m))) ?_
  refine zzb 16 [(0, .v (.int .i64 (Int.tmod n m + m)))] [] ?_
  refine sq9 ?_
  refine zza 15 (.v (.int .i64 (Int.tmod n m + m))) ?_
  refine zza 4 (.v (.int .i64 (Int.tmod n m + m))) ?_
  refine zzb 16 [(4, .v (.int .i64 (Int.tmod n m + m)))] [] ?_
  refine zzn (ret0 [.int .i64 (Int.tmod n m + m)] ⟨zzp, trivial⟩ fun u12 e13 => ?_)
  show Value.int _ _ = Value.int _ _
  rw [mod_neg m hm n hb11]
 ·replace hb11 : (decide ((Int.tmod n m) < 0)) = false := hb11
  have qhb11 := of_decide_eq_false hb11
  refine zzr (zzo ?_)
  refine sq9 ?_
  refine zza 15 (.v (.int .i64 (Int.tmod n m))) ?_
  refine zza 4 (.v (.int .i64 (Int.tmod n m))) ?_
  refine zzb 16 [(4, .v (.int .i64 (Int.tmod n m)))] [] ?_
  refine zzn (ret0 [.int .i64 (Int.tmod n m)] ⟨zzp, trivial⟩ fun u14 e15 => ?_)
  show Value.int _ _ = Value.int _ _
  rw [mod_pos m hm n hb11]
def smR (r : RL) : Bool := decide ((r.m.n : Int) ≤ 4) && decide ((r.d.n : Int) ≤ 4)
theorem smR_few {u : World} {r : RL} {q : Rat} {K : Nat} (h : RatV u r q K) (hs : smR r = true) : RatV u r q 4 := by
 unfold smR at hs
 simp at hs
 exact h.few (by omega) (by omega) (by omega)
theorem k_smallRat {u w : World} {r : RL} (d : Dat u w) : Calls Tryz.prog 55 #[r.v] w (Post u w fun v _ => v = .bool (smR r)) := by
 refine zzl (args := [r.v]) Tryz.func55 rfl Tryz.ntmps55 (rs := [.tmp 2]) Tryz.results55 (le_b rfl) (le_b rfl) d ?_
 refine sq9 ?_
 refine zzj 1 ⟨26, r.cs⟩ ?_
 refine zza 2 (.v (.bool false)) ?_
 refine zzb 14 [(1, .adr 1 0)] [(1, ⟨26, r.cs⟩)] ?_
 refine sq9 ?_
 refine zza 3 (.adr 1 0) ?_
 refine zza 4 (.adr 1 1) ?_
 refine zzh 5 (.v r.m.v) ty22 zzk ?_
 refine zza 6 (.v (.int .i64 (r.m.n : Int))) ?_
 refine zza 7 (.v (.bool (decide ((r.m.n : Int) ≤ 4)))) ?_
 rcases Bool.eq_false_or_eq_true (decide ((r.m.n : Int) ≤ 4)) with hs11 | hs11
 ·refine zyp 8 (x := .v (.bool (decide ((r.m.n : Int) ≤ 4)))) (.v (.bool true)) (by rw [hs11]) ?_
  have qhs11 := of_decide_eq_true hs11
  refine zza 9 (.adr 1 2) ?_ (hw := w1 5 true 8)
  refine zzh 10 (.v r.d.v) ty22 zzk ?_ (hw := w1 5 true 8)
  refine zza 11 (.v (.int .i64 (r.d.n : Int))) ?_ (hw := w1 5 true 8)
  refine zza 12 (.v (.bool (decide ((r.d.n : Int) ≤ 4)))) ?_ (hw := w1 5 true 8)
  refine zza 13 (.v (.bool (decide ((r.d.n : Int) ≤ 4)))) ?_
  refine zza 2 (.v (.bool (decide ((r.d.n : Int) ≤ 4)))) ?_
  refine zzb 14 [(2, .v (.bool (decide ((r.d.n : Int) ≤ 4))))] [] ?_
  refine zzn (ret0 [.bool (decide ((r.d.n : Int) ≤ 4))] ⟨zzp, trivial⟩ fun u12 e13 => ?_)
  show _ = _
  unfold smR
  rw [hs11]
  rfl
 ·refine zyp 8 (x := .v (.bool (decide ((r.m.n : Int) ≤ 4)))) (.v (.bool false)) (by rw [hs11]) ?_
  have qhs11 := of_decide_eq_false hs11
  refine zzm 9 (uw 5 true false 8) ?_
  refine zzm 10 (uw 5 true false 8) ?_
  refine zzm 11 (uw 5 true false 8) ?_
  refine zzm 12 (uw 5 true false 8) ?_
  refine zza 13 (.v (.bool false)) ?_
  refine zza 2 (.v (.bool false)) ?_
  refine zzb 14 [(2, .v (.bool false))] [] ?_
  refine zzn (ret0 [.bool false] ⟨zzp, trivial⟩ fun u14 e15 => ?_)
  show _ = _
  unfold smR
  rw [hs11]
  rfl
theorem k_smallOn {u w : World} {a b : RL} (d : Dat u w) : Calls Tryz.prog 11 #[IV a b] w (Post u w fun v _ => v = .bool (smR a && smR b)) := by
 refine zzl (args := [.agg #[.bool a.s, .slice a.m.a a.m.n a.m.c, .slice a.d.a a.d.n a.d.c, .bool b.s, .slice b.m.a b.m.n b.m.c, .slice b.d.a b.d.n b.d.c]]) Tryz.func11 rfl Tryz.ntmps11 (rs := [.tmp 2]) Tryz.results11 (le_b rfl) (le_b rfl) d ?_
 refine sq9 ?_
 refine zzj 1 ⟨28, a.cs ++ b.cs⟩ ?_
 refine zza 2 (.v (.bool false)) ?_
 refine zzb 11 [(1, .adr 1 0)] [(1, ⟨28, a.cs ++ b.cs⟩)] ?_
 refine sq9 ?_
 refine zza 3 (.adr 1 0) ?_
 refine zzh 4 (.v (a.v)) ty26 zzd ?_
 refine zzf 5 55 [a.v] ?_
 intro w11 u11 e11 d11
 have k14 := k_smallRat (r := a) d11
 with_reducible refine Post.mono k14 ?_
 rintro _ u12 g13 rfl
 rcases Bool.eq_false_or_eq_true (smR a) with hs15 | hs15
 ·refine zyp 6 (x := .v (.bool (smR a))) (.v (.bool true)) (by rw [hs15]) ?_
  refine zza 7 (.adr 1 3) ?_ (hw := w1 3 true 6)
  refine zzh 8 (.v (b.v)) ty26 zzd ?_ (hw := w1 3 true 6)
  refine zzf 9 55 [b.v] ?_ (hw := w1 3 true 6)
  intro w16 u16 e16 d16
  have k19 := k_smallRat (r := b) d16
  with_reducible refine Post.mono k19 ?_
  rintro _ u17 g18 rfl
  refine zza 10 (.v (.bool (smR b))) ?_
  refine zza 2 (.v (.bool (smR b))) ?_
  refine zzb 11 [(2, .v (.bool (smR b)))] [] ?_
  refine zzn (ret0 [.bool (smR b)] ⟨zzp, trivial⟩ fun u20 e21 => ?_)
  show _ = _
  rw [hs15]
  rfl
 ·refine zyp 6 (x := .v (.bool (smR a))) (.v (.bool false)) (by rw [hs15]) ?_
  refine zzm 7 (uw 3 true false 6) ?_
  refine zzm 8 (uw 3 true false 6) ?_
  refine zzm 9 (uw 3 true false 6) ?_
  refine zza 10 (.v (.bool false)) ?_
  refine zza 2 (.v (.bool false)) ?_
  refine zzb 11 [(2, .v (.bool false))] [] ?_
  refine zzn (ret0 [.bool false] ⟨zzp, trivial⟩ fun u22 e23 => ?_)
  show _ = _
  rw [hs15]
  rfl
theorem k_cut {u w : World} {x : Sl} {l : List Rat} {K : Nat} (d : Dat u w) (hx : PolV u x l K) (hK : K ≤ 100000000) (hx9 : l.length ≤ 1000000000) : Calls Tryz.prog 118 #[x.v] w (Post u w fun v u' => v = .slice x.a (Nt.trimQ l).length x.c) := by
 have hlen := hx.len
 refine zzl (args := [.slice x.a x.n x.c]) Tryz.func118 rfl Tryz.ntmps118 (rs := [.tmp 2]) Tryz.results118 (le_b rfl) (le_b rfl) d ?_
 refine sq9 ?_
 refine zza 2 (.v (.slice none 0 0)) ?_
 refine zzb 22 [(0, .v x.v)] [] ?_
 refine sq9 ?_
 refine zza 4 (.v x.v) ?_
 refine zza 5 (.v (.int .i64 (x.n : Int))) ?_
 refine zza 3 (.v (.int .i64 (x.n : Int))) ?_
 refine zzb 22 [(0, .v x.v), (3, .v (.int .i64 (x.n : Int)))] [] ?_
 refine zzc ?_
 refine zzs ?_
 refine zym (I := fun m11 S' u' => ∃ (n : Nat), (m11 = n) ∧ (n ≤ l.length) ∧ (∀ i, n ≤ i → Nt.co l i = 0) ∧ (S' = St.of 22 [(0, .v (.slice x.a x.n x.c)), (3, .v (.int .i64 (n : Int)))] []) ∧ (Ext u u')) (fun m S u1 u2 e h => by obtain ⟨n, hm, p0, p1, hS, hE⟩ := h; exact ⟨n, hm, p0, p1, hS, hE.trans e⟩) _ (T := St.of 22 [(0, .v (.slice x.a x.n x.c)), (3, .v (.int .i64 (x.n : Int)))] []) (by exact zzu _ _ _) ⟨x.n, rfl, by omega, fun i hi => Nt.co_ge (by omega), rfl, Ext.refl _⟩ ?_
 rintro m11 _ u11 ⟨n, hm11, hn, hz, rfl, e11⟩
 refine zzc ?_
 refine sq9 ?_
 refine zza 6 (.v (.int .i64 (n : Int))) ?_
 refine zza 7 (.v (.bool (decide ((0 : Int) < (n : Int))))) ?_
 rcases Bool.eq_false_or_eq_true (decide ((0 : Int) < (n : Int))) with hs12 | hs12
 ·refine zyp 8 (x := .v (.bool (decide ((0 : Int) < (n : Int))))) (.v (.bool true)) (by rw [hs12]) ?_
  have qhs12 := of_decide_eq_true hs12
  refine zza 9 (.v x.v) ?_ (hw := w1 2 true 8)
  refine zza 10 (.v (.int .i64 (n : Int))) ?_ (hw := w1 2 true 8)
  refine zyp 11 (x := .v (.int .i64 (IntKind.i64.wrap ((n : Int) - 1)))) (.v (.int .i64 ((n - 1 : Nat) : Int))) (eqI (by rw [IntWalk.i64_in _ (by omega)]; omega)) ?_ (hw := w1 2 true 8)
  have hl13 := (hx.ext e11).len
  obtain ⟨r13, b13, o13, hA13, hc13, hr13⟩ := pol_at (hx.ext e11) (i := n - 1) (by omega)
  refine zzz 12 (o13 + (n - 1) * 3) (n := x.n) (off := o13) (sz := 3) (i := ((n - 1 : Nat) : Int)) (by omega) hA13 (by omega) (by omega) sl41 ?_ (hw := w1 2 true 8)
  refine zyl 13 r13.cs hc13 ty26 ?_ (hw := w1 2 true 8)
  refine zzf 14 132 [r13.v] ?_ (hw := w1 2 true 8)
  intro w14 u14 e14 d14
  have k17 := k_ratSign d14 (hr13.ext e14)
  with_reducible refine Post.mono k17 ?_
  rintro _ u15 g16 rfl
  refine zza 15 (.v (.bool ((Nt.sgQ (l.getD (n - 1) 0)) == 0))) ?_ (hw := w1 2 true 8)
  refine zza 16 (.v (.bool ((Nt.sgQ (l.getD (n - 1) 0)) == 0))) ?_
  refine zzb 22 [(0, .v x.v), (3, .v (.int .i64 (n : Int))), (16, .v (.bool ((Nt.sgQ (l.getD (n - 1) 0)) == 0)))] [] ?_
  refine zzt (b := (Nt.sgQ (l.getD (n - 1) 0)) == 0) (by kernel_rfl) (fun hb18 => ?_) (fun hb18 => ?_)
  ·replace hb18 : ((Nt.sgQ (l.getD (n - 1) 0)) == 0) = true := hb18
   refine zzr (zzo ?_)
   refine zzs ?_
   refine zze ?_
   refine zza 17 (.v (.int .i64 (n : Int))) ?_
   refine zyp 18 (x := .v (.int .i64 (IntKind.i64.wrap ((n : Int) - 1)))) (.v (.int .i64 ((n - 1 : Nat) : Int))) (eqI (by rw [IntWalk.i64_in _ (by omega)]; omega)) ?_
   refine zza 3 (.v (.int .i64 ((n - 1 : Nat) : Int))) ?_
   refine zzw ?_
   refine ⟨_, ?_, St.of 22 [(0, .v (.slice x.a x.n x.c)), (3, .v (.int .i64 ((n - 1 : Nat) : Int)))] [], by exact zzu _ _ _, n - 1, rfl, by omega, (fun i hi => by by_cases e : i = n - 1; (rw [e]; have h9 := hb18; rw [Nt.sgQ_eq] at h9; exact of_decide_eq_true h9); exact hz i (by omega)), rfl, (e11.trans (e14.trans g16.ext))⟩
   omega
  ·replace hb18 : ((Nt.sgQ (l.getD (n - 1) 0)) == 0) = false := hb18
   refine zyb ?_
   refine zzo ?_
   refine sq9 ?_
   refine zza 19 (.v x.v) ?_
   refine zza 20 (.v (.int .i64 (n : Int))) ?_
   have hl19 := (hx.ext (e11.trans (e14.trans g16.ext))).len
   have hc19 := (hx.ext (e11.trans (e14.trans g16.ext))).cap
   refine sy_front 21 (n := x.n) (c := x.c) n sl41 rfl (by omega) ?_
   refine zza 2 (.v (.slice x.a n x.c)) ?_
   refine zzb 22 [(2, .v (.slice x.a n x.c))] [] ?_
   refine zzn (ret0 [.slice x.a n x.c] ⟨zzp, trivial⟩ fun u20 e21 => ?_)
   have e := Nt.trim_len_of (l := l) hn hz (fun _ h => by have h9 := hb18; rw [Nt.sgQ_eq] at h9; exact of_decide_eq_false h9 h)
   show Value.slice _ _ _ = Value.slice _ _ _
   rw [e]
 ·refine zyp 8 (x := .v (.bool (decide ((0 : Int) < (n : Int))))) (.v (.bool false)) (by rw [hs12]) ?_
  have qhs12 := of_decide_eq_false hs12
  refine zzm 9 (uw 2 true false 8) ?_
  refine zzm 10 (uw 2 true false 8) ?_
  refine zzm 11 (uw 2 true false 8) ?_
  refine zzm 12 (uw 2 true false 8) ?_
  refine zzm 13 (uw 2 true false 8) ?_
  refine zzm 14 (uw 2 true false 8) ?_
  refine zzm 15 (uw 2 true false 8) ?_
  refine zza 16 (.v (.bool false)) ?_
  refine zzb 22 [(0, .v x.v), (3, .v (.int .i64 (n : Int))), (16, .v (.bool false))] [] ?_
  refine zyr (by kernel_rfl) ?_
  refine zyb ?_
  refine zzo ?_
  refine sq9 ?_
  refine zza 19 (.v x.v) ?_
  refine zza 20 (.v (.int .i64 (n : Int))) ?_
  have hl22 := (hx.ext e11).len
  have hc22 := (hx.ext e11).cap
  refine sy_front 21 (n := x.n) (c := x.c) n sl41 rfl (by omega) ?_
  refine zza 2 (.v (.slice x.a n x.c)) ?_
  refine zzb 22 [(2, .v (.slice x.a n x.c))] [] ?_
  refine zzn (ret0 [.slice x.a n x.c] ⟨zzp, trivial⟩ fun u23 e24 => ?_)
  have e := Nt.trim_len_of (l := l) hn hz (fun h => absurd h (by omega))
  show Value.slice _ _ _ = Value.slice _ _ _
  rw [e]
def NewR (u : World) (n : Nat) (t : List Rat) (K : Nat) (v : Value) (u' : World) : Prop := ∃ (b : Nat) (L : List RL), v = .slice (some ⟨b, 0, none⟩) n n ∧ u.heap.size ≤ b ∧ u'.heap[b]? = some (.cells (rcs L).toArray 26 (0, 0)) ∧ L.length = n ∧ RatsN u' L t K
theorem k_zeros {u w : World} {n : Nat} (d : Dat u w) (hn9 : n ≤ 1000000000) : Calls Tryz.prog 124 #[.int .i64 (n : Int)] w (Post u w fun v u' => NewR u n (List.replicate n 0) 2 v u') := by
 refine zzl (args := [.int .i64 (n : Int)]) Tryz.func124 rfl Tryz.ntmps124 (rs := [.tmp 2]) Tryz.results124 (le_b rfl) (le_b rfl) d ?_
 refine sq9 ?_
 refine zza 2 (.v (.slice none 0 0)) ?_
 refine zzb 18 [(0, .v (.int .i64 (n : Int)))] [] ?_
 refine sq9 ?_
 refine zza 5 (.v (.int .i64 (n : Int))) ?_
 refine sy_make 6 (T := 41) (E := 26) (z := .agg #[.bool false, .slice none 0 0, .slice none 0 0]) (size := 3) (bytes := 56) n (rcs (List.replicate n rl0)) (by kernel_rfl) (by kernel_rfl) rfl rfl (by omega) (by unfold maxLen; omega) (made_rcs _) ?_
 refine zza 3 (.slc 6 0 n n) ?_
 refine zzb 18 [(3, .slc 6 0 n n)] [(6, ⟨26, rcs (List.replicate n rl0)⟩)] ?_
 refine zzc ?_
 refine sq9 ?_
 refine zza 7 (.slc 6 0 n n) ?_
 refine zza 8 (.v (.int .i64 (n : Int))) ?_
 refine zza 9 (.v (.int .i64 0)) ?_
 refine zzb 18 [(3, .slc 6 0 n n), (8, .v (.int .i64 (n : Int))), (9, .v (.int .i64 0))] [(6, ⟨26, rcs (List.replicate n rl0)⟩)] ?_
 refine zzs ?_
 refine zym (I := fun m11 S' u' => ∃ (i : Nat) (L : List RL), (m11 = n - i) ∧ (i ≤ n) ∧ (L.length = n) ∧ (S' = St.of 18 [(3, .slc 6 0 n n), (8, .v (.int .i64 (n : Int))), (9, .v (.int .i64 (i : Int)))] [(6, ⟨26, rcs L⟩)]) ∧ (Ext u u') ∧ (RatsN u' (L.take i) ((List.replicate n (0 : Rat)).take i) 2)) (fun m S u1 u2 e h => by obtain ⟨i, L, hm, p0, p1, hS, hE, f0⟩ := h; exact ⟨i, L, hm, p0, p1, hS, hE.trans e, f0.ext e⟩) _ (T := St.of 18 [(3, .slc 6 0 n n), (8, .v (.int .i64 (n : Int))), (9, .v (.int .i64 0))] [(6, ⟨26, rcs (List.replicate n rl0)⟩)]) (by exact zzu _ _ _) ⟨0, List.replicate n rl0, rfl, by omega, by simp, rfl, Ext.refl _, RatsN.tnil _ _ _ _⟩ ?_
 rintro m11 _ u11 ⟨i, L, hm11, hi, hL, rfl, e11, hR⟩
 refine sq9 ?_
 refine zza 10 (.v (.bool (decide ((i : Int) < (n : Int))))) ?_
 refine zzb 18 [(3, .slc 6 0 n n), (8, .v (.int .i64 (n : Int))), (9, .v (.int .i64 (i : Int))), (10, .v (.bool (decide ((i : Int) < (n : Int)))))] [(6, ⟨26, rcs L⟩)] ?_
 refine zzc ?_
 refine zzt (b := decide ((i : Int) < (n : Int))) (by kernel_rfl) (fun hb12 => ?_) (fun hb12 => ?_)
 ·replace hb12 : (decide ((i : Int) < (n : Int))) = true := hb12
  have qhb12 := of_decide_eq_true hb12
  refine zzr (zzo ?_)
  refine zzc ?_
  refine zzs ?_
  refine sq9 ?_
  refine zza 11 (.v (.int .i64 (i : Int))) ?_
  refine zza 4 (.v (.int .i64 (i : Int))) ?_
  refine zzb 18 [(3, .slc 6 0 n n), (4, .v (.int .i64 (i : Int))), (8, .v (.int .i64 (n : Int))), (9, .v (.int .i64 (i : Int)))] [(6, ⟨26, rcs L⟩)] ?_
  refine zze ?_
  refine zza 12 (.slc 6 0 n n) ?_
  refine zza 13 (.v (.int .i64 (i : Int))) ?_
  refine zzf 14 112 [.int .i64 0] ?_
  intro w13 u13 e13 d13
  have k18 := k_ratOf d13 (z := 0) (by omega) (by omega)
  with_reducible refine Post.mono k18 ?_
  rintro _ u16 g17 ⟨r14, rfl, h15⟩
  refine zyv 15 (off' := i * 3) (n := n) (off := 0) (sz := 3) (i := (i : Int)) sl41 (by omega) (by omega) (by omega) ?_
  refine zyu (V := ⟨26, rcs L⟩) (off := i * 3) (rcs ((L).set i r14)) ty26 (by rw [zyx]; first|omega|(simp;omega)) (zyw (r := r14) (i := i) (by first|omega|(simp;omega)) rfl) ?_
  refine zzw ?_
  refine zzo ?_
  refine zze ?_
  refine zyp 16 (x := .v (.int .i64 (IntKind.i64.wrap ((i : Int) + 1)))) (.v (.int .i64 ((i + 1 : Nat) : Int))) (eqI (by rw [IntWalk.i64_in _ (by omega)]; omega)) ?_
  refine zza 9 (.v (.int .i64 ((i + 1 : Nat) : Int))) ?_
  refine zzw ?_
  have ht19 : i < (List.replicate n (0 : Rat)).length := by simp; omega
  refine ⟨_, ?_, St.of 18 [(3, .slc 6 0 n n), (8, .v (.int .i64 (n : Int))), (9, .v (.int .i64 ((i + 1 : Nat) : Int)))] [(6, ⟨26, rcs ((L).set i r14)⟩)], by exact zzu _ _ _, i + 1, (L).set i r14, rfl, by omega, by simpa using hL, rfl, (e11.trans (e13.trans g17.ext)), RatsN.tstep (hR.ext (e13.trans g17.ext)) (by omega) ht19 (RatN.more (K := 2) h15 (by omega)) (by rw [List.getD_eq_getElem?_getD, List.getElem?_replicate]; split <;> rfl)⟩
  omega
 ·replace hb12 : (decide ((i : Int) < (n : Int))) = false := hb12
  have qhb12 := of_decide_eq_false hb12
  refine zyb ?_
  refine zzo ?_
  refine zzc ?_
  refine zyo (r := 3) (t := 6) [3, 6] (by repeat first | exact noAt_of | refine zyc ?_ | refine zye ?_ | refine zyd ?_ | refine zzx ?_ | refine zya ?_) (by kernel_rfl) (by rfl) (by rfl) (by kernel_rfl) (fun b20 u21 e22 hb23 hh24 => ?_)
  have hp25 : PolN u21 ⟨some ⟨b20, 0, none⟩, n, n⟩ (List.replicate n (0 : Rat)) 2 := pol_data1 hh24 (by unfold maxLen; omega) (RatsN.tdone (hR.ext e22) (by omega) (by simp; omega)) (by omega)
  refine zze ?_
  refine zza 17 (.v (.slice (some ⟨b20, 0, none⟩) n n)) ?_
  refine zza 2 (.v (.slice (some ⟨b20, 0, none⟩) n n)) ?_
  refine zzb 18 [(2, .v (.slice (some ⟨b20, 0, none⟩) n n))] [] ?_
  refine zzn (ret0 [.slice (some ⟨b20, 0, none⟩) n n] ⟨zzp, trivial⟩ fun u26 e27 => ?_)
  exact ⟨b20, L, rfl, hb23, e27.cells hh24, by omega, (RatsN.tdone (hR.ext (e22.trans e27)) (by omega) (by simp; omega))⟩
theorem k_poScale {u w : World} {x : Sl} {l : List Rat} {r : RL} {q : Rat} {K M : Nat} (d : Dat u w) (hx : PolV u x l K) (hr : RatV u r q M) (hK : K ≤ 50000000) (hx9 : l.length ≤ 1000000000) (hM : M ≤ 50000000) : Calls Tryz.prog 97 #[x.v, r.v] w (Post u w fun v u' => ∃ y : Sl, v = y.v ∧ PolN u' y (Nt.trimQ (l.map (· * q))) (K + M)) := by
 have hlen := hx.len
 refine zzl (args := [.slice x.a x.n x.c, r.v]) Tryz.func97 rfl Tryz.ntmps97 (rs := [.tmp 4]) Tryz.results97 (le_b rfl) (le_b rfl) d ?_
 refine sq9 ?_
 refine zzj 3 ⟨26, r.cs⟩ ?_
 refine zza 4 (.v (.slice none 0 0)) ?_
 refine zzb 27 [(0, .v x.v), (3, .adr 3 0)] [(3, ⟨26, r.cs⟩)] ?_
 refine sq9 ?_
 refine zza 7 (.v x.v) ?_
 refine zza 8 (.v (.int .i64 (x.n : Int))) ?_
 refine sy_make 9 (T := 41) (E := 26) (z := .agg #[.bool false, .slice none 0 0, .slice none 0 0]) (size := 3) (bytes := 56) x.n (rcs (List.replicate x.n rl0)) (by kernel_rfl) (by kernel_rfl) rfl rfl (by omega) (by unfold maxLen; omega) (made_rcs _) ?_
 refine zza 5 (.slc 9 0 x.n x.n) ?_
 refine zzb 27 [(0, .v x.v), (3, .adr 3 0), (5, .slc 9 0 x.n x.n)] [(3, ⟨26, r.cs⟩), (9, ⟨26, rcs (List.replicate x.n rl0)⟩)] ?_
 refine zzc ?_
 refine sq9 ?_
 refine zza 10 (.slc 9 0 x.n x.n) ?_
 refine zza 11 (.v (.int .i64 (x.n : Int))) ?_
 refine zza 12 (.v (.int .i64 0)) ?_
 refine zzb 27 [(0, .v x.v), (3, .adr 3 0), (5, .slc 9 0 x.n x.n), (11, .v (.int .i64 (x.n : Int))), (12, .v (.int .i64 0))] [(3, ⟨26, r.cs⟩), (9, ⟨26, rcs (List.replicate x.n rl0)⟩)] ?_
 refine zzs ?_
 refine zym (I := fun m11 S' u' => ∃ (i : Nat) (L : List RL), (m11 = x.n - i) ∧ (i ≤ x.n) ∧ (L.length = x.n) ∧ (S' = St.of 27 [(0, .v (.slice x.a x.n x.c)), (3, .adr 3 0), (5, .slc 9 0 x.n x.n), (11, .v (.int .i64 (x.n : Int))), (12, .v (.int .i64 (i : Int)))] [(3, ⟨26, r.cs⟩), (9, ⟨26, rcs L⟩)]) ∧ (Ext u u') ∧ (RatsN u' (L.take i) ((l.map (· * q)).take i) (K + M))) (fun m S u1 u2 e h => by obtain ⟨i, L, hm, p0, p1, hS, hE, f0⟩ := h; exact ⟨i, L, hm, p0, p1, hS, hE.trans e, f0.ext e⟩) _ (T := St.of 27 [(0, .v (.slice x.a x.n x.c)), (3, .adr 3 0), (5, .slc 9 0 x.n x.n), (11, .v (.int .i64 (x.n : Int))), (12, .v (.int .i64 0))] [(3, ⟨26, r.cs⟩), (9, ⟨26, rcs (List.replicate x.n rl0)⟩)]) (by exact zzu _ _ _) ⟨0, List.replicate x.n rl0, rfl, by omega, by simp, rfl, Ext.refl _, RatsN.tnil _ _ _ _⟩ ?_
 rintro m11 _ u11 ⟨i, L, hm11, hi, hL, rfl, e11, hR⟩
 refine sq9 ?_
 refine zza 13 (.v (.bool (decide ((i : Int) < (x.n : Int))))) ?_
 refine zzb 27 [(0, .v x.v), (3, .adr 3 0), (5, .slc 9 0 x.n x.n), (11, .v (.int .i64 (x.n : Int))), (12, .v (.int .i64 (i : Int))), (13, .v (.bool (decide ((i : Int) < (x.n : Int)))))] [(3, ⟨26, r.cs⟩), (9, ⟨26, rcs L⟩)] ?_
 refine zzc ?_
 refine zzt (b := decide ((i : Int) < (x.n : Int))) (by kernel_rfl) (fun hb12 => ?_) (fun hb12 => ?_)
 ·replace hb12 : (decide ((i : Int) < (x.n : Int))) = true := hb12
  have qhb12 := of_decide_eq_true hb12
  refine zzr (zzo ?_)
  refine zzc ?_
  refine zzs ?_
  refine sq9 ?_
  refine zza 14 (.v (.int .i64 (i : Int))) ?_
  refine zza 6 (.v (.int .i64 (i : Int))) ?_
  refine zzb 27 [(0, .v x.v), (3, .adr 3 0), (5, .slc 9 0 x.n x.n), (6, .v (.int .i64 (i : Int))), (11, .v (.int .i64 (x.n : Int))), (12, .v (.int .i64 (i : Int)))] [(3, ⟨26, r.cs⟩), (9, ⟨26, rcs L⟩)] ?_
  refine zzy [0, 0, 0, 0, 12, 28, 0, 124, 255, 511] [(0, []), (1, []), (2, []), (3, []), (4, []), (5, []), (6, []), (7, []), (8, []), (9, [])] (by kernel_rfl) (by kernel_rfl) ?_
  refine zza 15 (.slc 9 0 x.n x.n) ?_
  refine zza 16 (.v (.int .i64 (i : Int))) ?_
  refine zza 17 (.v x.v) ?_
  refine zza 18 (.v (.int .i64 (i : Int))) ?_
  have hl13 := (hx.ext e11).len
  obtain ⟨r13, b13, o13, hA13, hc13, hr13⟩ := pol_at (hx.ext e11) (i := i) (by omega)
  refine zzz 19 (o13 + i * 3) (n := x.n) (off := o13) (sz := 3) (i := (i : Int)) (by omega) hA13 (by omega) (by omega) sl41 ?_
  refine zyl 20 r13.cs hc13 ty26 ?_
  refine zzh 21 (.v (r.v)) ty26 zzd ?_
  refine zzf 22 111 [r13.v, r.v] ?_
  intro w14 u14 e14 d14
  have k19 := k_ratMul d14 (hr13.ext e14) (hr.ext (e11.trans e14)) (by omega) (by omega)
  with_reducible refine Post.mono k19 ?_
  rintro _ u17 g18 ⟨r15, rfl, h16⟩
  refine zyv 23 (off' := i * 3) (n := x.n) (off := 0) (sz := 3) (i := (i : Int)) sl41 (by omega) (by omega) (by omega) ?_
  refine zyu (V := ⟨26, rcs L⟩) (off := i * 3) (rcs ((L).set i r15)) ty26 (by rw [zyx]; first|omega|(simp;omega)) (zyw (r := r15) (i := i) (by first|omega|(simp;omega)) rfl) ?_
  refine zzw ?_
  refine zzo ?_
  refine zze ?_
  refine zyp 24 (x := .v (.int .i64 (IntKind.i64.wrap ((i : Int) + 1)))) (.v (.int .i64 ((i + 1 : Nat) : Int))) (eqI (by rw [IntWalk.i64_in _ (by omega)]; omega)) ?_
  refine zza 12 (.v (.int .i64 ((i + 1 : Nat) : Int))) ?_
  refine zzw ?_
  have ht20 : i < (l.map (· * q)).length := by simp; omega
  refine ⟨_, ?_, St.of 27 [(0, .v (.slice x.a x.n x.c)), (3, .adr 3 0), (5, .slc 9 0 x.n x.n), (11, .v (.int .i64 (x.n : Int))), (12, .v (.int .i64 ((i + 1 : Nat) : Int)))] [(3, ⟨26, r.cs⟩), (9, ⟨26, rcs ((L).set i r15)⟩)], by exact zzu _ _ _, i + 1, (L).set i r15, rfl, by omega, by simpa using hL, rfl, (e11.trans (e14.trans g18.ext)), RatsN.tstep (hR.ext (e14.trans g18.ext)) (by omega) ht20 (RatN.more (K := (K + M)) h16 (by omega)) (by simp [List.getElem?_eq_getElem (show i < l.length by omega)])⟩
  omega
 ·replace hb12 : (decide ((i : Int) < (x.n : Int))) = false := hb12
  have qhb12 := of_decide_eq_false hb12
  refine zyb ?_
  refine zzo ?_
  refine zzc ?_
  refine zyo (r := 5) (t := 9) [5, 9] (by repeat first | exact noAt_of | refine zyc ?_ | refine zye ?_ | refine zyd ?_ | refine zzx ?_ | refine zya ?_) (by kernel_rfl) (by rfl) (by rfl) (by kernel_rfl) (fun b21 u22 e23 hb24 hh25 => ?_)
  have hp26 : PolN u22 ⟨some ⟨b21, 0, none⟩, x.n, x.n⟩ (l.map (· * q)) (K + M) := pol_data1 hh25 (by unfold maxLen; omega) (RatsN.tdone (hR.ext e23) (by omega) (by simp; omega)) (by omega)
  refine zze ?_
  refine zza 25 (.v (.slice (some ⟨b21, 0, none⟩) x.n x.n)) ?_
  refine zzf 26 118 [.slice (some ⟨b21, 0, none⟩) x.n x.n] ?_
  intro w27 u27 e27 d27
  have k30 := k_cut d27 (hp26.ext e27).raw (by omega) (by first|omega|(simp;omega) | (refine Nat.le_trans (Nt.zzg _) ?_; first|omega|(simp;omega)) | (refine Nat.le_trans (Nt.zzg _) ?_; simp only [List.length_map]; refine Nat.le_trans (Nt.zzg _) ?_; first|omega|(simp;omega)))
  with_reducible refine Post.mono k30 ?_
  rintro _ u28 g29 rfl
  refine zza 4 (.v (.slice (some ⟨b21, 0, none⟩) (Nt.trimQ (l.map (· * q))).length x.n)) ?_
  refine zzb 27 [(4, .v (.slice (some ⟨b21, 0, none⟩) (Nt.trimQ (l.map (· * q))).length x.n))] [] ?_
  refine zzn (ret0 [.slice (some ⟨b21, 0, none⟩) (Nt.trimQ (l.map (· * q))).length x.n] ⟨zzp, trivial⟩ fun u31 e32 => ?_)
  refine ⟨(⟨some ⟨b21, 0, none⟩, (Nt.trimQ (l.map (· * q))).length, x.n⟩ : Sl), rfl, ?_⟩
  exact ((cut_N (hp26.ext (e27.trans g29.ext))).ext e32)
theorem k_poDerivative {u w : World} {x : Sl} {l : List Rat} {K : Nat} (d : Dat u w) (hx : PolV u x l K) (hK : K ≤ 50000000) (hx9 : l.length ≤ 1000000000) : Calls Tryz.prog 34 #[x.v] w (Post u w fun v u' => ∃ y : Sl, v = y.v ∧ PolN u' y (Nt.trimQ (Nt.derQ l)) (K + 2)) := by
 have hlen := hx.len
 refine zzl (args := [.slice x.a x.n x.c]) Tryz.func34 rfl Tryz.ntmps34 (rs := [.tmp 2]) Tryz.results34 (le_b rfl) (le_b rfl) d ?_
 refine sq9 ?_
 refine zza 2 (.v (.slice none 0 0)) ?_
 refine zzb 32 [(0, .v x.v)] [] ?_
 refine zzc ?_
 refine sq9 ?_
 refine zza 5 (.v x.v) ?_
 refine zza 6 (.v (.int .i64 (x.n : Int))) ?_
 refine zza 7 (.v (.bool ((x.n : Int) == 0))) ?_
 refine zzb 32 [(0, .v x.v), (7, .v (.bool ((x.n : Int) == 0)))] [] ?_
 refine zzt (b := (x.n : Int) == 0) (by kernel_rfl) (fun hb11 => ?_) (fun hb11 => ?_)
 ·replace hb11 : ((x.n : Int) == 0) = true := hb11
  have qhb11 : (x.n : Int) = 0 := by simpa using hb11
  refine sq9 ?_
  refine zza 2 (.v (.slice none 0 0)) ?_
  refine zzb 32 [(2, .v (.slice none 0 0))] [] ?_
  refine zzn (zzv (ret0 [.slice none 0 0] ⟨zzp, trivial⟩ fun u12 e13 => ?_))
  have e9 : l = [] := List.eq_nil_of_length_eq_zero (by omega)
  rw [e9]
  exact ⟨⟨none, 0, 0⟩, rfl, pol_nil _ _⟩
 ·replace hb11 : ((x.n : Int) == 0) = false := hb11
  have qhb11 : ¬ ((x.n : Int) = 0) := by simpa using hb11
  refine zzr (zzo ?_)
  refine sq9 ?_
  refine zza 8 (.v x.v) ?_
  refine zza 9 (.v (.int .i64 (x.n : Int))) ?_
  refine zyp 10 (x := .v (.int .i64 (IntKind.i64.wrap ((x.n : Int) - 1)))) (.v (.int .i64 ((x.n - 1 : Nat) : Int))) (eqI (by rw [IntWalk.i64_in _ (by omega)]; omega)) ?_
  refine sy_make 11 (T := 41) (E := 26) (z := .agg #[.bool false, .slice none 0 0, .slice none 0 0]) (size := 3) (bytes := 56) (x.n - 1) (rcs (List.replicate (x.n - 1) rl0)) (by kernel_rfl) (by kernel_rfl) rfl rfl (by omega) (by unfold maxLen; omega) (made_rcs _) ?_
  refine zza 3 (.slc 11 0 (x.n - 1) (x.n - 1)) ?_
  refine zzb 32 [(0, .v x.v), (3, .slc 11 0 (x.n - 1) (x.n - 1))] [(11, ⟨26, rcs (List.replicate (x.n - 1) rl0)⟩)] ?_
  refine zzc ?_
  refine sq9 ?_
  refine zza 12 (.slc 11 0 (x.n - 1) (x.n - 1)) ?_
  refine zza 13 (.v (.int .i64 ((x.n - 1 : Nat) : Int))) ?_
  refine zza 14 (.v (.int .i64 0)) ?_
  refine zzb 32 [(0, .v x.v), (3, .slc 11 0 (x.n - 1) (x.n - 1)), (13, .v (.int .i64 ((x.n - 1 : Nat) : Int))), (14, .v (.int .i64 0))] [(11, ⟨26, rcs (List.replicate (x.n - 1) rl0)⟩)] ?_
  refine zzs ?_
  refine zym (I := fun m14 S' u' => ∃ (i : Nat) (L : List RL), (m14 = (x.n - 1) - i) ∧ (i ≤ x.n - 1) ∧ (L.length = x.n - 1) ∧ (S' = St.of 32 [(0, .v (.slice x.a x.n x.c)), (3, .slc 11 0 (x.n - 1) (x.n - 1)), (13, .v (.int .i64 ((x.n - 1 : Nat) : Int))), (14, .v (.int .i64 (i : Int)))] [(11, ⟨26, rcs L⟩)]) ∧ (Ext u u') ∧ (RatsN u' (L.take i) ((Nt.derQ l).take i) (K + 2))) (fun m S u1 u2 e h => by obtain ⟨i, L, hm, p0, p1, hS, hE, f0⟩ := h; exact ⟨i, L, hm, p0, p1, hS, hE.trans e, f0.ext e⟩) _ (T := St.of 32 [(0, .v (.slice x.a x.n x.c)), (3, .slc 11 0 (x.n - 1) (x.n - 1)), (13, .v (.int .i64 ((x.n - 1 : Nat) : Int))), (14, .v (.int .i64 0))] [(11, ⟨26, rcs (List.replicate (x.n - 1) rl0)⟩)]) (by exact zzu _ _ _) ⟨0, List.replicate (x.n - 1) rl0, rfl, by omega, by simp, rfl, Ext.refl _, RatsN.tnil _ _ _ _⟩ ?_
  rintro m14 _ u14 ⟨i, L, hm14, hi, hL, rfl, e14, hR⟩
  refine sq9 ?_
  refine zza 15 (.v (.bool (decide ((i : Int) < ((x.n - 1 : Nat) : Int))))) ?_
  refine zzb 32 [(0, .v x.v), (3, .slc 11 0 (x.n - 1) (x.n - 1)), (13, .v (.int .i64 ((x.n - 1 : Nat) : Int))), (14, .v (.int .i64 (i : Int))), (15, .v (.bool (decide ((i : Int) < ((x.n - 1 : Nat) : Int)))))] [(11, ⟨26, rcs L⟩)] ?_
  refine zzc ?_
  refine zzt (b := decide ((i : Int) < ((x.n - 1 : Nat) : Int))) (by kernel_rfl) (fun hb15 => ?_) (fun hb15 => ?_)
  ·replace hb15 : (decide ((i : Int) < ((x.n - 1 : Nat) : Int))) = true := hb15
   have qhb15 := of_decide_eq_true hb15
   refine zzr (zzo ?_)
   refine zzc ?_
   refine zzs ?_
   refine sq9 ?_
   refine zza 16 (.v (.int .i64 (i : Int))) ?_
   refine zza 4 (.v (.int .i64 (i : Int))) ?_
   refine zzb 32 [(0, .v x.v), (3, .slc 11 0 (x.n - 1) (x.n - 1)), (4, .v (.int .i64 (i : Int))), (13, .v (.int .i64 ((x.n - 1 : Nat) : Int))), (14, .v (.int .i64 (i : Int)))] [(11, ⟨26, rcs L⟩)] ?_
   refine zzy [0, 0, 0, 0, 8, 28, 60, 0, 128, 384, 1020, 2047, 4095] [(0, []), (1, []), (2, []), (3, []), (4, []), (5, []), (6, []), (7, []), (8, []), (9, []), (10, []), (11, []), (12, [])] (by kernel_rfl) (by kernel_rfl) ?_
   refine zza 17 (.slc 11 0 (x.n - 1) (x.n - 1)) ?_
   refine zza 18 (.v (.int .i64 (i : Int))) ?_
   refine zza 19 (.v x.v) ?_
   refine zza 20 (.v (.int .i64 (i : Int))) ?_
   refine zyp 21 (x := .v (.int .i64 (IntKind.i64.wrap ((i : Int) + 1)))) (.v (.int .i64 ((i + 1 : Nat) : Int))) (eqI (by rw [IntWalk.i64_in _ (by omega)]; omega)) ?_
   have hl16 := (hx.ext e14).len
   obtain ⟨r16, b16, o16, hA16, hc16, hr16⟩ := pol_at (hx.ext e14) (i := i + 1) (by omega)
   refine zzz 22 (o16 + (i + 1) * 3) (n := x.n) (off := o16) (sz := 3) (i := ((i + 1 : Nat) : Int)) (by omega) hA16 (by omega) (by omega) sl41 ?_
   refine zyl 23 r16.cs hc16 ty26 ?_
   refine zza 24 (.v (.int .i64 (i : Int))) ?_
   refine zyp 25 (x := .v (.int .i64 (IntKind.i64.wrap ((i : Int) + 1)))) (.v (.int .i64 ((i + 1 : Nat) : Int))) (eqI (by rw [IntWalk.i64_in _ (by omega)]; omega)) ?_
   refine zzf 26 112 [.int .i64 ((i + 1 : Nat) : Int)] ?_
   intro w17 u17 e17 d17
   have k22 := k_ratOf d17 (z := ((i + 1 : Nat) : Int)) (by omega) (by omega)
   with_reducible refine Post.mono k22 ?_
   rintro _ u20 g21 ⟨r18, rfl, h19⟩
   refine zzf 27 111 [r16.v, r18.v] ?_
   intro w23 u23 e23 d23
   have k28 := k_ratMul d23 (hr16.ext (e17.trans (g21.ext.trans e23))) (h19.ext e23).raw (by omega) (by omega)
   with_reducible refine Post.mono k28 ?_
   rintro _ u26 g27 ⟨r24, rfl, h25⟩
   refine zyv 28 (off' := i * 3) (n := x.n - 1) (off := 0) (sz := 3) (i := (i : Int)) sl41 (by omega) (by omega) (by omega) ?_
   refine zyu (V := ⟨26, rcs L⟩) (off := i * 3) (rcs ((L).set i r24)) ty26 (by rw [zyx]; first|omega|(simp;omega)) (zyw (r := r24) (i := i) (by first|omega|(simp;omega)) rfl) ?_
   refine zzw ?_
   refine zzo ?_
   refine zze ?_
   refine zyp 29 (x := .v (.int .i64 (IntKind.i64.wrap ((i : Int) + 1)))) (.v (.int .i64 ((i + 1 : Nat) : Int))) (eqI (by rw [IntWalk.i64_in _ (by omega)]; omega)) ?_
   refine zza 14 (.v (.int .i64 ((i + 1 : Nat) : Int))) ?_
   refine zzw ?_
   have ht29 : i < (Nt.derQ l).length := by rw [Nt.derQ_len]; omega
   refine ⟨_, ?_, St.of 32 [(0, .v (.slice x.a x.n x.c)), (3, .slc 11 0 (x.n - 1) (x.n - 1)), (13, .v (.int .i64 ((x.n - 1 : Nat) : Int))), (14, .v (.int .i64 ((i + 1 : Nat) : Int)))] [(11, ⟨26, rcs ((L).set i r24)⟩)], by exact zzu _ _ _, i + 1, (L).set i r24, rfl, by omega, by simpa using hL, rfl, (e14.trans (e17.trans (g21.ext.trans (e23.trans g27.ext)))), RatsN.tstep (hR.ext (e17.trans (g21.ext.trans (e23.trans g27.ext)))) (by omega) ht29 (RatN.more (K := (K + 2)) h25 (by omega)) (by have h9 := Nt.derQ_co l i; unfold Nt.co at h9; exact h9.symm)⟩
   omega
  ·replace hb15 : (decide ((i : Int) < ((x.n - 1 : Nat) : Int))) = false := hb15
   have qhb15 := of_decide_eq_false hb15
   refine zyb ?_
   refine zzo ?_
   refine zzc ?_
   refine zyo (r := 3) (t := 11) [3, 11] (by repeat first | exact noAt_of | refine zyc ?_ | refine zye ?_ | refine zyd ?_ | refine zzx ?_ | refine zya ?_) (by kernel_rfl) (by rfl) (by rfl) (by kernel_rfl) (fun b30 u31 e32 hb33 hh34 => ?_)
   have hp35 : PolN u31 ⟨some ⟨b30, 0, none⟩, x.n - 1, x.n - 1⟩ (Nt.derQ l) (K + 2) := pol_data1 hh34 (by unfold maxLen; omega) (RatsN.tdone (hR.ext e32) (by omega) (by rw [Nt.derQ_len]; omega)) (by omega)
   refine zze ?_
   refine zza 30 (.v (.slice (some ⟨b30, 0, none⟩) (x.n - 1) (x.n - 1))) ?_
   refine zzf 31 118 [.slice (some ⟨b30, 0, none⟩) (x.n - 1) (x.n - 1)] ?_
   intro w36 u36 e36 d36
   have k39 := k_cut d36 (hp35.ext e36).raw (by omega) (by first|omega|(simp;omega) | (refine Nat.le_trans (Nt.zzg _) ?_; first|omega|(simp;omega)) | (refine Nat.le_trans (Nt.zzg _) ?_; simp only [List.length_map]; refine Nat.le_trans (Nt.zzg _) ?_; first|omega|(simp;omega)))
   with_reducible refine Post.mono k39 ?_
   rintro _ u37 g38 rfl
   refine zza 2 (.v (.slice (some ⟨b30, 0, none⟩) (Nt.trimQ (Nt.derQ l)).length (x.n - 1))) ?_
   refine zzb 32 [(2, .v (.slice (some ⟨b30, 0, none⟩) (Nt.trimQ (Nt.derQ l)).length (x.n - 1)))] [] ?_
   refine zzn (ret0 [.slice (some ⟨b30, 0, none⟩) (Nt.trimQ (Nt.derQ l)).length (x.n - 1)] ⟨zzp, trivial⟩ fun u40 e41 => ?_)
   refine ⟨(⟨some ⟨b30, 0, none⟩, (Nt.trimQ (Nt.derQ l)).length, x.n - 1⟩ : Sl), rfl, ?_⟩
   exact ((cut_N (hp35.ext (e36.trans g38.ext))).ext e41)
theorem k_poTrim {u w : World} {x : Sl} {l : List Rat} {K : Nat} (d : Dat u w) (hx : PolV u x l K) (hK : K ≤ 50000000) (hx9 : l.length ≤ 1000000000) : Calls Tryz.prog 86 #[x.v] w (Post u w fun v u' => ∃ y : Sl, v = y.v ∧ PolN u' y (Nt.trimQ l) K) := by
 have hlen := hx.len
 have htl := Nt.zzg l
 refine zzl (args := [.slice x.a x.n x.c]) Tryz.func86 rfl Tryz.ntmps86 (rs := [.tmp 2]) Tryz.results86 (le_b rfl) (le_b rfl) d ?_
 refine sq9 ?_
 refine zza 2 (.v (.slice none 0 0)) ?_
 refine zzb 24 [(0, .v x.v)] [] ?_
 refine sq9 ?_
 refine zza 5 (.v x.v) ?_
 refine zzf 6 118 [x.v] ?_
 intro w11 u11 e11 d11
 have k14 := k_cut d11 (hx.ext e11) (by omega) (by first|omega|(simp;omega) | (refine Nat.le_trans (Nt.zzg _) ?_; first|omega|(simp;omega)) | (refine Nat.le_trans (Nt.zzg _) ?_; simp only [List.length_map]; refine Nat.le_trans (Nt.zzg _) ?_; first|omega|(simp;omega)))
 with_reducible refine Post.mono k14 ?_
 rintro _ u12 g13 rfl
 refine zza 7 (.v (.int .i64 (((Nt.trimQ l).length : Nat) : Int))) ?_
 refine sy_make 8 (T := 41) (E := 26) (z := .agg #[.bool false, .slice none 0 0, .slice none 0 0]) (size := 3) (bytes := 56) ((Nt.trimQ l).length) (rcs (List.replicate ((Nt.trimQ l).length) rl0)) (by kernel_rfl) (by kernel_rfl) rfl rfl (by omega) (by unfold maxLen; omega) (made_rcs _) ?_
 refine zza 3 (.slc 8 0 ((Nt.trimQ l).length) ((Nt.trimQ l).length)) ?_
 refine zzb 24 [(0, .v x.v), (3, .slc 8 0 ((Nt.trimQ l).length) ((Nt.trimQ l).length))] [(8, ⟨26, rcs (List.replicate ((Nt.trimQ l).length) rl0)⟩)] ?_
 refine zzc ?_
 refine sq9 ?_
 refine zza 9 (.slc 8 0 ((Nt.trimQ l).length) ((Nt.trimQ l).length)) ?_
 refine zza 10 (.v (.int .i64 (((Nt.trimQ l).length : Nat) : Int))) ?_
 refine zza 11 (.v (.int .i64 0)) ?_
 refine zzb 24 [(0, .v x.v), (3, .slc 8 0 ((Nt.trimQ l).length) ((Nt.trimQ l).length)), (10, .v (.int .i64 (((Nt.trimQ l).length : Nat) : Int))), (11, .v (.int .i64 0))] [(8, ⟨26, rcs (List.replicate ((Nt.trimQ l).length) rl0)⟩)] ?_
 refine zzs ?_
 refine zym (I := fun m15 S' u' => ∃ (i : Nat) (L : List RL), (m15 = ((Nt.trimQ l).length) - i) ∧ (i ≤ (Nt.trimQ l).length) ∧ (L.length = (Nt.trimQ l).length) ∧ (S' = St.of 24 [(0, .v (.slice x.a x.n x.c)), (3, .slc 8 0 ((Nt.trimQ l).length) ((Nt.trimQ l).length)), (10, .v (.int .i64 (((Nt.trimQ l).length : Nat) : Int))), (11, .v (.int .i64 (i : Int)))] [(8, ⟨26, rcs L⟩)]) ∧ (Ext u12 u') ∧ (RatsN u' (L.take i) ((Nt.trimQ l).take i) K)) (fun m S u1 u2 e h => by obtain ⟨i, L, hm, p0, p1, hS, hE, f0⟩ := h; exact ⟨i, L, hm, p0, p1, hS, hE.trans e, f0.ext e⟩) _ (T := St.of 24 [(0, .v (.slice x.a x.n x.c)), (3, .slc 8 0 ((Nt.trimQ l).length) ((Nt.trimQ l).length)), (10, .v (.int .i64 (((Nt.trimQ l).length : Nat) : Int))), (11, .v (.int .i64 0))] [(8, ⟨26, rcs (List.replicate ((Nt.trimQ l).length) rl0)⟩)]) (by exact zzu _ _ _) ⟨0, List.replicate ((Nt.trimQ l).length) rl0, rfl, by omega, by simp, rfl, Ext.refl _, RatsN.tnil _ _ _ _⟩ ?_
 rintro m15 _ u15 ⟨i, L, hm15, hi, hL, rfl, e15, hR⟩
 refine sq9 ?_
 refine zza 12 (.v (.bool (decide ((i : Int) < (((Nt.trimQ l).length : Nat) : Int))))) ?_
 refine zzb 24 [(0, .v x.v), (3, .slc 8 0 ((Nt.trimQ l).length) ((Nt.trimQ l).length)), (10, .v (.int .i64 (((Nt.trimQ l).length : Nat) : Int))), (11, .v (.int .i64 (i : Int))), (12, .v (.bool (decide ((i : Int) < (((Nt.trimQ l).length : Nat) : Int)))))] [(8, ⟨26, rcs L⟩)] ?_
 refine zzc ?_
 refine zzt (b := decide ((i : Int) < (((Nt.trimQ l).length : Nat) : Int))) (by kernel_rfl) (fun hb16 => ?_) (fun hb16 => ?_)
 ·replace hb16 : (decide ((i : Int) < (((Nt.trimQ l).length : Nat) : Int))) = true := hb16
  have qhb16 := of_decide_eq_true hb16
  refine zzr (zzo ?_)
  refine zzc ?_
  refine zzs ?_
  refine sq9 ?_
  refine zza 13 (.v (.int .i64 (i : Int))) ?_
  refine zza 4 (.v (.int .i64 (i : Int))) ?_
  refine zzb 24 [(0, .v x.v), (3, .slc 8 0 ((Nt.trimQ l).length) ((Nt.trimQ l).length)), (4, .v (.int .i64 (i : Int))), (10, .v (.int .i64 (((Nt.trimQ l).length : Nat) : Int))), (11, .v (.int .i64 (i : Int)))] [(8, ⟨26, rcs L⟩)] ?_
  refine zze ?_
  refine zza 14 (.slc 8 0 ((Nt.trimQ l).length) ((Nt.trimQ l).length)) ?_
  refine zza 15 (.v (.int .i64 (i : Int))) ?_
  refine zza 16 (.v x.v) ?_
  refine zza 17 (.v (.int .i64 (i : Int))) ?_
  have hl17 := (hx.ext (e11.trans (g13.ext.trans e15))).len
  obtain ⟨r17, b17, o17, hA17, hc17, hr17⟩ := pol_at (hx.ext (e11.trans (g13.ext.trans e15))) (i := i) (by omega)
  refine zzz 18 (o17 + i * 3) (n := x.n) (off := o17) (sz := 3) (i := (i : Int)) (by omega) hA17 (by omega) (by omega) sl41 ?_
  refine zyl 19 r17.cs hc17 ty26 ?_
  refine zzf 20 126 [r17.v] ?_
  intro w18 u18 e18 d18
  have k23 := k_ratTrim d18 (hr17.ext e18) (by omega)
  with_reducible refine Post.mono k23 ?_
  rintro _ u21 g22 ⟨r19, rfl, h20⟩
  refine zyv 21 (off' := i * 3) (n := (Nt.trimQ l).length) (off := 0) (sz := 3) (i := (i : Int)) sl41 (by omega) (by omega) (by omega) ?_
  refine zyu (V := ⟨26, rcs L⟩) (off := i * 3) (rcs ((L).set i r19)) ty26 (by rw [zyx]; first|omega|(simp;omega)) (zyw (r := r19) (i := i) (by first|omega|(simp;omega)) rfl) ?_
  refine zzw ?_
  refine zzo ?_
  refine zze ?_
  refine zyp 22 (x := .v (.int .i64 (IntKind.i64.wrap ((i : Int) + 1)))) (.v (.int .i64 ((i + 1 : Nat) : Int))) (eqI (by rw [IntWalk.i64_in _ (by omega)]; omega)) ?_
  refine zza 11 (.v (.int .i64 ((i + 1 : Nat) : Int))) ?_
  refine zzw ?_
  have ht24 : i < (Nt.trimQ l).length := by skip; omega
  refine ⟨_, ?_, St.of 24 [(0, .v (.slice x.a x.n x.c)), (3, .slc 8 0 ((Nt.trimQ l).length) ((Nt.trimQ l).length)), (10, .v (.int .i64 (((Nt.trimQ l).length : Nat) : Int))), (11, .v (.int .i64 ((i + 1 : Nat) : Int)))] [(8, ⟨26, rcs ((L).set i r19)⟩)], by exact zzu _ _ _, i + 1, (L).set i r19, rfl, by omega, by simpa using hL, rfl, (e15.trans (e18.trans g22.ext)), RatsN.tstep (hR.ext (e18.trans g22.ext)) (by omega) ht24 (RatN.more (K := K) h20 (by omega)) (Nt.trim_co l i).symm⟩
  omega
 ·replace hb16 : (decide ((i : Int) < (((Nt.trimQ l).length : Nat) : Int))) = false := hb16
  have qhb16 := of_decide_eq_false hb16
  refine zyb ?_
  refine zzo ?_
  refine zzc ?_
  refine zyo (r := 3) (t := 8) [3, 8] (by repeat first | exact noAt_of | refine zyc ?_ | refine zye ?_ | refine zyd ?_ | refine zzx ?_ | refine zya ?_) (by kernel_rfl) (by rfl) (by rfl) (by kernel_rfl) (fun b25 u26 e27 hb28 hh29 => ?_)
  have hp30 : PolN u26 ⟨some ⟨b25, 0, none⟩, (Nt.trimQ l).length, (Nt.trimQ l).length⟩ (Nt.trimQ l) K := pol_data1 hh29 (by unfold maxLen; omega) (RatsN.tdone (hR.ext e27) (by omega) (by skip; omega)) (by omega)
  refine zze ?_
  refine zza 23 (.v (.slice (some ⟨b25, 0, none⟩) ((Nt.trimQ l).length) ((Nt.trimQ l).length))) ?_
  refine zza 2 (.v (.slice (some ⟨b25, 0, none⟩) ((Nt.trimQ l).length) ((Nt.trimQ l).length))) ?_
  refine zzb 24 [(2, .v (.slice (some ⟨b25, 0, none⟩) ((Nt.trimQ l).length) ((Nt.trimQ l).length)))] [] ?_
  refine zzn (ret0 [.slice (some ⟨b25, 0, none⟩) ((Nt.trimQ l).length) ((Nt.trimQ l).length)] ⟨zzp, trivial⟩ fun u31 e32 => ?_)
  refine ⟨(⟨some ⟨b25, 0, none⟩, (Nt.trimQ l).length, (Nt.trimQ l).length⟩ : Sl), rfl, ?_⟩
  exact (hp30.ext e32)
theorem k_poAdd {u w : World} {x : Sl} {l : List Rat} {y : Sl} {m : List Rat} {K M : Nat} (d : Dat u w) (hx : PolV u x l K) (hy : PolV u y m M) (hK : K ≤ 40000000) (hM : M ≤ 40000000) (hx9 : l.length ≤ 1000000000) (hy9 : m.length ≤ 1000000000) : Calls Tryz.prog 54 #[x.v, y.v] w (Post u w fun v u' => ∃ y : Sl, v = y.v ∧ PolN u' y (Nt.trimQ (Nt.addQ l m)) (K + M + 1)) := by
 have hlen := hx.len
 have hlen2 := hy.len
 refine zzl (args := [.slice x.a x.n x.c, .slice y.a y.n y.c]) Tryz.func54 rfl Tryz.ntmps54 (rs := [.tmp 4]) Tryz.results54 (le_b rfl) (le_b rfl) d ?_
 refine sq9 ?_
 refine zza 4 (.v (.slice none 0 0)) ?_
 refine zzb 49 [(0, .v x.v), (1, .v y.v)] [] ?_
 refine zzc ?_
 refine sq9 ?_
 refine zza 7 (.v x.v) ?_
 refine zza 8 (.v (.int .i64 (x.n : Int))) ?_
 refine zza 9 (.v y.v) ?_
 refine zza 10 (.v (.int .i64 (y.n : Int))) ?_
 refine zza 11 (.v (.bool (decide ((x.n : Int) < (y.n : Int))))) ?_
 refine zzb 49 [(0, .v x.v), (1, .v y.v), (11, .v (.bool (decide ((x.n : Int) < (y.n : Int)))))] [] ?_
 refine zzt (b := decide ((x.n : Int) < (y.n : Int))) (by kernel_rfl) (fun hb11 => ?_) (fun hb11 => ?_)
 ·replace hb11 : (decide ((x.n : Int) < (y.n : Int))) = true := hb11
  have qhb11 := of_decide_eq_true hb11
  refine zze ?_
  refine zza 12 (.v y.v) ?_
  refine zza 13 (.v x.v) ?_
  refine zza 0 (.v y.v) ?_
  refine zza 1 (.v x.v) ?_
  refine zzb 49 [(0, .v y.v), (1, .v x.v)] [] ?_
  refine sq9 ?_
  refine zza 14 (.v y.v) ?_
  refine zza 15 (.v (.int .i64 (y.n : Int))) ?_
  refine sy_make 16 (T := 41) (E := 26) (z := .agg #[.bool false, .slice none 0 0, .slice none 0 0]) (size := 3) (bytes := 56) y.n (rcs (List.replicate y.n rl0)) (by kernel_rfl) (by kernel_rfl) rfl rfl (by omega) (by unfold maxLen; omega) (made_rcs _) ?_
  refine zza 5 (.slc 16 0 y.n y.n) ?_
  refine zzb 49 [(0, .v y.v), (1, .v x.v), (5, .slc 16 0 y.n y.n)] [(16, ⟨26, rcs (List.replicate y.n rl0)⟩)] ?_
  refine zzc ?_
  refine sq9 ?_
  refine zza 17 (.slc 16 0 y.n y.n) ?_
  refine zza 18 (.v (.int .i64 (y.n : Int))) ?_
  refine zza 19 (.v (.int .i64 0)) ?_
  refine zzb 49 [(0, .v y.v), (1, .v x.v), (5, .slc 16 0 y.n y.n), (18, .v (.int .i64 (y.n : Int))), (19, .v (.int .i64 0))] [(16, ⟨26, rcs (List.replicate y.n rl0)⟩)] ?_
  refine zzs ?_
  refine zym (I := fun m12 S' u' => ∃ (i : Nat) (L : List RL), (m12 = y.n - i) ∧ (i ≤ y.n) ∧ (L.length = y.n) ∧ (S' = St.of 49 [(0, .v (.slice y.a y.n y.c)), (1, .v (.slice x.a x.n x.c)), (5, .slc 16 0 y.n y.n), (18, .v (.int .i64 (y.n : Int))), (19, .v (.int .i64 (i : Int)))] [(16, ⟨26, rcs L⟩)]) ∧ (Ext u u') ∧ (RatsN u' (L.take i) ((Nt.addQ l m).take i) (K + M + 1))) (fun m S u1 u2 e h => by obtain ⟨i, L, hm, p0, p1, hS, hE, f0⟩ := h; exact ⟨i, L, hm, p0, p1, hS, hE.trans e, f0.ext e⟩) _ (T := St.of 49 [(0, .v (.slice y.a y.n y.c)), (1, .v (.slice x.a x.n x.c)), (5, .slc 16 0 y.n y.n), (18, .v (.int .i64 (y.n : Int))), (19, .v (.int .i64 0))] [(16, ⟨26, rcs (List.replicate y.n rl0)⟩)]) (by exact zzu _ _ _) ⟨0, List.replicate y.n rl0, rfl, by omega, by simp, rfl, Ext.refl _, RatsN.tnil _ _ _ _⟩ ?_
  rintro m12 _ u12 ⟨i, L, hm12, hi, hL, rfl, e12, hR⟩
  refine sq9 ?_
  refine zza 20 (.v (.bool (decide ((i : Int) < (y.n : Int))))) ?_
  refine zzb 49 [(0, .v y.v), (1, .v x.v), (5, .slc 16 0 y.n y.n), (18, .v (.int .i64 (y.n : Int))), (19, .v (.int .i64 (i : Int))), (20, .v (.bool (decide ((i : Int) < (y.n : Int)))))] [(16, ⟨26, rcs L⟩)] ?_
  refine zzc ?_
  refine zzt (b := decide ((i : Int) < (y.n : Int))) (by kernel_rfl) (fun hb13 => ?_) (fun hb13 => ?_)
  ·replace hb13 : (decide ((i : Int) < (y.n : Int))) = true := hb13
   have qhb13 := of_decide_eq_true hb13
   refine zzr (zzo ?_)
   refine zzc ?_
   refine zzs ?_
   refine sq9 ?_
   refine zza 21 (.v (.int .i64 (i : Int))) ?_
   refine zza 6 (.v (.int .i64 (i : Int))) ?_
   refine zzb 49 [(0, .v y.v), (1, .v x.v), (5, .slc 16 0 y.n y.n), (6, .v (.int .i64 (i : Int))), (18, .v (.int .i64 (y.n : Int))), (19, .v (.int .i64 (i : Int)))] [(16, ⟨26, rcs L⟩)] ?_
   refine sq9 ?_
   refine zza 22 (.v (.int .i64 (i : Int))) ?_
   refine zza 23 (.v x.v) ?_
   refine zza 24 (.v (.int .i64 (x.n : Int))) ?_
   refine zza 25 (.v (.bool (decide ((i : Int) < (x.n : Int))))) ?_
   refine zzb 49 [(0, .v y.v), (1, .v x.v), (5, .slc 16 0 y.n y.n), (6, .v (.int .i64 (i : Int))), (18, .v (.int .i64 (y.n : Int))), (19, .v (.int .i64 (i : Int))), (25, .v (.bool (decide ((i : Int) < (x.n : Int)))))] [(16, ⟨26, rcs L⟩)] ?_
   refine zzt (b := decide ((i : Int) < (x.n : Int))) (by kernel_rfl) (fun hb14 => ?_) (fun hb14 => ?_)
   ·replace hb14 : (decide ((i : Int) < (x.n : Int))) = true := hb14
    have qhb14 := of_decide_eq_true hb14
    refine zzy [0, 0, 0, 0, 12, 28, 0, 0, 192, 448, 1020, 2047, 4095] [(0, []), (1, []), (2, []), (3, []), (4, []), (5, []), (6, []), (7, []), (8, []), (9, []), (10, []), (11, []), (12, [])] (by kernel_rfl) (by kernel_rfl) ?_
    refine zza 26 (.slc 16 0 y.n y.n) ?_
    refine zza 27 (.v (.int .i64 (i : Int))) ?_
    refine zza 28 (.v y.v) ?_
    refine zza 29 (.v (.int .i64 (i : Int))) ?_
    have hl15 := (hy.ext e12).len
    obtain ⟨r15, b15, o15, hA15, hc15, hr15⟩ := pol_at (hy.ext e12) (i := i) (by omega)
    refine zzz 30 (o15 + i * 3) (n := y.n) (off := o15) (sz := 3) (i := (i : Int)) (by omega) hA15 (by omega) (by omega) sl41 ?_
    refine zyl 31 r15.cs hc15 ty26 ?_
    refine zza 32 (.v x.v) ?_
    refine zza 33 (.v (.int .i64 (i : Int))) ?_
    have hl16 := (hx.ext e12).len
    obtain ⟨r16, b16, o16, hA16, hc16, hr16⟩ := pol_at (hx.ext e12) (i := i) (by omega)
    refine zzz 34 (o16 + i * 3) (n := x.n) (off := o16) (sz := 3) (i := (i : Int)) (by omega) hA16 (by omega) (by omega) sl41 ?_
    refine zyl 35 r16.cs hc16 ty26 ?_
    refine zzf 36 104 [r15.v, r16.v] ?_
    intro w17 u17 e17 d17
    have k22 := k_ratAdd d17 (hr15.ext e17) (hr16.ext e17) (by omega) (by omega)
    with_reducible refine Post.mono k22 ?_
    rintro _ u20 g21 ⟨r18, rfl, h19⟩
    refine zyv 37 (off' := i * 3) (n := y.n) (off := 0) (sz := 3) (i := (i : Int)) sl41 (by omega) (by omega) (by omega) ?_
    refine zyu (V := ⟨26, rcs L⟩) (off := i * 3) (rcs ((L).set i r18)) ty26 (by rw [zyx]; first|omega|(simp;omega)) (zyw (r := r18) (i := i) (by first|omega|(simp;omega)) rfl) ?_
    refine zzw ?_
    refine zzo ?_
    refine zze ?_
    refine zyp 46 (x := .v (.int .i64 (IntKind.i64.wrap ((i : Int) + 1)))) (.v (.int .i64 ((i + 1 : Nat) : Int))) (eqI (by rw [IntWalk.i64_in _ (by omega)]; omega)) ?_
    refine zza 19 (.v (.int .i64 ((i + 1 : Nat) : Int))) ?_
    refine zzw ?_
    have ht23 : i < (Nt.addQ l m).length := by rw [Nt.addQ_len]; omega
    refine ⟨_, ?_, St.of 49 [(0, .v (.slice y.a y.n y.c)), (1, .v (.slice x.a x.n x.c)), (5, .slc 16 0 y.n y.n), (18, .v (.int .i64 (y.n : Int))), (19, .v (.int .i64 ((i + 1 : Nat) : Int)))] [(16, ⟨26, rcs ((L).set i r18)⟩)], by exact zzu _ _ _, i + 1, (L).set i r18, rfl, by omega, by simpa using hL, rfl, (e12.trans (e17.trans g21.ext)), RatsN.tstep (hR.ext (e17.trans g21.ext)) (by omega) ht23 (RatN.more (K := (M + K + 1)) h19 (by omega)) (by have h9 := Nt.addQ_co l m i; unfold Nt.co at h9; show _ = List.getD _ _ _; rw [h9]; exact Rat.add_comm _ _)⟩
    omega
   ·replace hb14 : (decide ((i : Int) < (x.n : Int))) = false := hb14
    have qhb14 := of_decide_eq_false hb14
    refine zze ?_
    refine zza 38 (.slc 16 0 y.n y.n) ?_
    refine zza 39 (.v (.int .i64 (i : Int))) ?_
    refine zza 40 (.v y.v) ?_
    refine zza 41 (.v (.int .i64 (i : Int))) ?_
    have hl24 := (hy.ext e12).len
    obtain ⟨r24, b24, o24, hA24, hc24, hr24⟩ := pol_at (hy.ext e12) (i := i) (by omega)
    refine zzz 42 (o24 + i * 3) (n := y.n) (off := o24) (sz := 3) (i := (i : Int)) (by omega) hA24 (by omega) (by omega) sl41 ?_
    refine zyl 43 r24.cs hc24 ty26 ?_
    refine zzf 44 126 [r24.v] ?_
    intro w25 u25 e25 d25
    have k30 := k_ratTrim d25 (hr24.ext e25) (by omega)
    with_reducible refine Post.mono k30 ?_
    rintro _ u28 g29 ⟨r26, rfl, h27⟩
    refine zyv 45 (off' := i * 3) (n := y.n) (off := 0) (sz := 3) (i := (i : Int)) sl41 (by omega) (by omega) (by omega) ?_
    refine zyu (V := ⟨26, rcs L⟩) (off := i * 3) (rcs ((L).set i r26)) ty26 (by rw [zyx]; first|omega|(simp;omega)) (zyw (r := r26) (i := i) (by first|omega|(simp;omega)) rfl) ?_
    refine zzw ?_
    refine zzo ?_
    refine zze ?_
    refine zyp 46 (x := .v (.int .i64 (IntKind.i64.wrap ((i : Int) + 1)))) (.v (.int .i64 ((i + 1 : Nat) : Int))) (eqI (by rw [IntWalk.i64_in _ (by omega)]; omega)) ?_
    refine zza 19 (.v (.int .i64 ((i + 1 : Nat) : Int))) ?_
    refine zzw ?_
    have ht31 : i < (Nt.addQ l m).length := by rw [Nt.addQ_len]; omega
    refine ⟨_, ?_, St.of 49 [(0, .v (.slice y.a y.n y.c)), (1, .v (.slice x.a x.n x.c)), (5, .slc 16 0 y.n y.n), (18, .v (.int .i64 (y.n : Int))), (19, .v (.int .i64 ((i + 1 : Nat) : Int)))] [(16, ⟨26, rcs ((L).set i r26)⟩)], by exact zzu _ _ _, i + 1, (L).set i r26, rfl, by omega, by simpa using hL, rfl, (e12.trans (e25.trans g29.ext)), RatsN.tstep (hR.ext (e25.trans g29.ext)) (by omega) ht31 (RatN.more (K := M) h27 (by omega)) (by have h9 := Nt.addQ_co l m i; unfold Nt.co at h9; show _ = List.getD _ _ _; rw [h9]; rw [show l.getD i 0 = 0 from Nt.co_ge (by omega)]; grind)⟩
    omega
  ·replace hb13 : (decide ((i : Int) < (y.n : Int))) = false := hb13
   have qhb13 := of_decide_eq_false hb13
   refine zyb ?_
   refine zzo ?_
   refine zzc ?_
   refine zyo (r := 5) (t := 16) [5, 16] (by repeat first | exact noAt_of | refine zyc ?_ | refine zye ?_ | refine zyd ?_ | refine zzx ?_ | refine zya ?_) (by kernel_rfl) (by rfl) (by rfl) (by kernel_rfl) (fun b32 u33 e34 hb35 hh36 => ?_)
   have hp37 : PolN u33 ⟨some ⟨b32, 0, none⟩, y.n, y.n⟩ (Nt.addQ l m) (K + M + 1) := pol_data1 hh36 (by unfold maxLen; omega) (RatsN.tdone (hR.ext e34) (by omega) (by rw [Nt.addQ_len]; omega)) (by omega)
   refine zze ?_
   refine zza 47 (.v (.slice (some ⟨b32, 0, none⟩) y.n y.n)) ?_
   refine zzf 48 118 [.slice (some ⟨b32, 0, none⟩) y.n y.n] ?_
   intro w38 u38 e38 d38
   have k41 := k_cut d38 (hp37.ext e38).raw (by omega) (by first|omega|(simp;omega) | (refine Nat.le_trans (Nt.zzg _) ?_; first|omega|(simp;omega)) | (refine Nat.le_trans (Nt.zzg _) ?_; simp only [List.length_map]; refine Nat.le_trans (Nt.zzg _) ?_; first|omega|(simp;omega)))
   with_reducible refine Post.mono k41 ?_
   rintro _ u39 g40 rfl
   refine zza 4 (.v (.slice (some ⟨b32, 0, none⟩) (Nt.trimQ (Nt.addQ l m)).length y.n)) ?_
   refine zzb 49 [(4, .v (.slice (some ⟨b32, 0, none⟩) (Nt.trimQ (Nt.addQ l m)).length y.n))] [] ?_
   refine zzn (ret0 [.slice (some ⟨b32, 0, none⟩) (Nt.trimQ (Nt.addQ l m)).length y.n] ⟨zzp, trivial⟩ fun u42 e43 => ?_)
   refine ⟨(⟨some ⟨b32, 0, none⟩, (Nt.trimQ (Nt.addQ l m)).length, y.n⟩ : Sl), rfl, ?_⟩
   exact ((cut_N (hp37.ext (e38.trans g40.ext))).ext e43)
 ·replace hb11 : (decide ((x.n : Int) < (y.n : Int))) = false := hb11
  have qhb11 := of_decide_eq_false hb11
  refine zzr (zzo ?_)
  refine sq9 ?_
  refine zza 14 (.v x.v) ?_
  refine zza 15 (.v (.int .i64 (x.n : Int))) ?_
  refine sy_make 16 (T := 41) (E := 26) (z := .agg #[.bool false, .slice none 0 0, .slice none 0 0]) (size := 3) (bytes := 56) x.n (rcs (List.replicate x.n rl0)) (by kernel_rfl) (by kernel_rfl) rfl rfl (by omega) (by unfold maxLen; omega) (made_rcs _) ?_
  refine zza 5 (.slc 16 0 x.n x.n) ?_
  refine zzb 49 [(0, .v x.v), (1, .v y.v), (5, .slc 16 0 x.n x.n)] [(16, ⟨26, rcs (List.replicate x.n rl0)⟩)] ?_
  refine zzc ?_
  refine sq9 ?_
  refine zza 17 (.slc 16 0 x.n x.n) ?_
  refine zza 18 (.v (.int .i64 (x.n : Int))) ?_
  refine zza 19 (.v (.int .i64 0)) ?_
  refine zzb 49 [(0, .v x.v), (1, .v y.v), (5, .slc 16 0 x.n x.n), (18, .v (.int .i64 (x.n : Int))), (19, .v (.int .i64 0))] [(16, ⟨26, rcs (List.replicate x.n rl0)⟩)] ?_
  refine zzs ?_
  refine zym (I := fun m44 S' u' => ∃ (i : Nat) (L : List RL), (m44 = x.n - i) ∧ (i ≤ x.n) ∧ (L.length = x.n) ∧ (S' = St.of 49 [(0, .v (.slice x.a x.n x.c)), (1, .v (.slice y.a y.n y.c)), (5, .slc 16 0 x.n x.n), (18, .v (.int .i64 (x.n : Int))), (19, .v (.int .i64 (i : Int)))] [(16, ⟨26, rcs L⟩)]) ∧ (Ext u u') ∧ (RatsN u' (L.take i) ((Nt.addQ l m).take i) (K + M + 1))) (fun m S u1 u2 e h => by obtain ⟨i, L, hm, p0, p1, hS, hE, f0⟩ := h; exact ⟨i, L, hm, p0, p1, hS, hE.trans e, f0.ext e⟩) _ (T := St.of 49 [(0, .v (.slice x.a x.n x.c)), (1, .v (.slice y.a y.n y.c)), (5, .slc 16 0 x.n x.n), (18, .v (.int .i64 (x.n : Int))), (19, .v (.int .i64 0))] [(16, ⟨26, rcs (List.replicate x.n rl0)⟩)]) (by exact zzu _ _ _) ⟨0, List.replicate x.n rl0, rfl, by omega, by simp, rfl, Ext.refl _, RatsN.tnil _ _ _ _⟩ ?_
  rintro m44 _ u44 ⟨i, L, hm44, hi, hL, rfl, e44, hR⟩
  refine sq9 ?_
  refine zza 20 (.v (.bool (decide ((i : Int) < (x.n : Int))))) ?_
  refine zzb 49 [(0, .v x.v), (1, .v y.v), (5, .slc 16 0 x.n x.n), (18, .v (.int .i64 (x.n : Int))), (19, .v (.int .i64 (i : Int))), (20, .v (.bool (decide ((i : Int) < (x.n : Int)))))] [(16, ⟨26, rcs L⟩)] ?_
  refine zzc ?_
  refine zzt (b := decide ((i : Int) < (x.n : Int))) (by kernel_rfl) (fun hb45 => ?_) (fun hb45 => ?_)
  ·replace hb45 : (decide ((i : Int) < (x.n : Int))) = true := hb45
   have qhb45 := of_decide_eq_true hb45
   refine zzr (zzo ?_)
   refine zzc ?_
   refine zzs ?_
   refine sq9 ?_
   refine zza 21 (.v (.int .i64 (i : Int))) ?_
   refine zza 6 (.v (.int .i64 (i : Int))) ?_
   refine zzb 49 [(0, .v x.v), (1, .v y.v), (5, .slc 16 0 x.n x.n), (6, .v (.int .i64 (i : Int))), (18, .v (.int .i64 (x.n : Int))), (19, .v (.int .i64 (i : Int)))] [(16, ⟨26, rcs L⟩)] ?_
   refine sq9 ?_
   refine zza 22 (.v (.int .i64 (i : Int))) ?_
   refine zza 23 (.v y.v) ?_
   refine zza 24 (.v (.int .i64 (y.n : Int))) ?_
   refine zza 25 (.v (.bool (decide ((i : Int) < (y.n : Int))))) ?_
   refine zzb 49 [(0, .v x.v), (1, .v y.v), (5, .slc 16 0 x.n x.n), (6, .v (.int .i64 (i : Int))), (18, .v (.int .i64 (x.n : Int))), (19, .v (.int .i64 (i : Int))), (25, .v (.bool (decide ((i : Int) < (y.n : Int)))))] [(16, ⟨26, rcs L⟩)] ?_
   refine zzt (b := decide ((i : Int) < (y.n : Int))) (by kernel_rfl) (fun hb46 => ?_) (fun hb46 => ?_)
   ·replace hb46 : (decide ((i : Int) < (y.n : Int))) = true := hb46
    have qhb46 := of_decide_eq_true hb46
    refine zzy [0, 0, 0, 0, 12, 28, 0, 0, 192, 448, 1020, 2047, 4095] [(0, []), (1, []), (2, []), (3, []), (4, []), (5, []), (6, []), (7, []), (8, []), (9, []), (10, []), (11, []), (12, [])] (by kernel_rfl) (by kernel_rfl) ?_
    refine zza 26 (.slc 16 0 x.n x.n) ?_
    refine zza 27 (.v (.int .i64 (i : Int))) ?_
    refine zza 28 (.v x.v) ?_
    refine zza 29 (.v (.int .i64 (i : Int))) ?_
    have hl47 := (hx.ext e44).len
    obtain ⟨r47, b47, o47, hA47, hc47, hr47⟩ := pol_at (hx.ext e44) (i := i) (by omega)
    refine zzz 30 (o47 + i * 3) (n := x.n) (off := o47) (sz := 3) (i := (i : Int)) (by omega) hA47 (by omega) (by omega) sl41 ?_
    refine zyl 31 r47.cs hc47 ty26 ?_
    refine zza 32 (.v y.v) ?_
    refine zza 33 (.v (.int .i64 (i : Int))) ?_
    have hl48 := (hy.ext e44).len
    obtain ⟨r48, b48, o48, hA48, hc48, hr48⟩ := pol_at (hy.ext e44) (i := i) (by omega)
    refine zzz 34 (o48 + i * 3) (n := y.n) (off := o48) (sz := 3) (i := (i : Int)) (by omega) hA48 (by omega) (by omega) sl41 ?_
    refine zyl 35 r48.cs hc48 ty26 ?_
    refine zzf 36 104 [r47.v, r48.v] ?_
    intro w49 u49 e49 d49
    have k54 := k_ratAdd d49 (hr47.ext e49) (hr48.ext e49) (by omega) (by omega)
    with_reducible refine Post.mono k54 ?_
    rintro _ u52 g53 ⟨r50, rfl, h51⟩
    refine zyv 37 (off' := i * 3) (n := x.n) (off := 0) (sz := 3) (i := (i : Int)) sl41 (by omega) (by omega) (by omega) ?_
    refine zyu (V := ⟨26, rcs L⟩) (off := i * 3) (rcs ((L).set i r50)) ty26 (by rw [zyx]; first|omega|(simp;omega)) (zyw (r := r50) (i := i) (by first|omega|(simp;omega)) rfl) ?_
    refine zzw ?_
    refine zzo ?_
    refine zze ?_
    refine zyp 46 (x := .v (.int .i64 (IntKind.i64.wrap ((i : Int) + 1)))) (.v (.int .i64 ((i + 1 : Nat) : Int))) (eqI (by rw [IntWalk.i64_in _ (by omega)]; omega)) ?_
    refine zza 19 (.v (.int .i64 ((i + 1 : Nat) : Int))) ?_
    refine zzw ?_
    have ht55 : i < (Nt.addQ l m).length := by rw [Nt.addQ_len]; omega
    refine ⟨_, ?_, St.of 49 [(0, .v (.slice x.a x.n x.c)), (1, .v (.slice y.a y.n y.c)), (5, .slc 16 0 x.n x.n), (18, .v (.int .i64 (x.n : Int))), (19, .v (.int .i64 ((i + 1 : Nat) : Int)))] [(16, ⟨26, rcs ((L).set i r50)⟩)], by exact zzu _ _ _, i + 1, (L).set i r50, rfl, by omega, by simpa using hL, rfl, (e44.trans (e49.trans g53.ext)), RatsN.tstep (hR.ext (e49.trans g53.ext)) (by omega) ht55 (RatN.more (K := (K + M + 1)) h51 (by omega)) (by have h9 := Nt.addQ_co l m i; unfold Nt.co at h9; show _ = List.getD _ _ _; rw [h9])⟩
    omega
   ·replace hb46 : (decide ((i : Int) < (y.n : Int))) = false := hb46
    have qhb46 := of_decide_eq_false hb46
    refine zze ?_
    refine zza 38 (.slc 16 0 x.n x.n) ?_
    refine zza 39 (.v (.int .i64 (i : Int))) ?_
    refine zza 40 (.v x.v) ?_
    refine zza 41 (.v (.int .i64 (i : Int))) ?_
    have hl56 := (hx.ext e44).len
    obtain ⟨r56, b56, o56, hA56, hc56, hr56⟩ := pol_at (hx.ext e44) (i := i) (by omega)
    refine zzz 42 (o56 + i * 3) (n := x.n) (off := o56) (sz := 3) (i := (i : Int)) (by omega) hA56 (by omega) (by omega) sl41 ?_
    refine zyl 43 r56.cs hc56 ty26 ?_
    refine zzf 44 126 [r56.v] ?_
    intro w57 u57 e57 d57
    have k62 := k_ratTrim d57 (hr56.ext e57) (by omega)
    with_reducible refine Post.mono k62 ?_
    rintro _ u60 g61 ⟨r58, rfl, h59⟩
    refine zyv 45 (off' := i * 3) (n := x.n) (off := 0) (sz := 3) (i := (i : Int)) sl41 (by omega) (by omega) (by omega) ?_
    refine zyu (V := ⟨26, rcs L⟩) (off := i * 3) (rcs ((L).set i r58)) ty26 (by rw [zyx]; first|omega|(simp;omega)) (zyw (r := r58) (i := i) (by first|omega|(simp;omega)) rfl) ?_
    refine zzw ?_
    refine zzo ?_
    refine zze ?_
    refine zyp 46 (x := .v (.int .i64 (IntKind.i64.wrap ((i : Int) + 1)))) (.v (.int .i64 ((i + 1 : Nat) : Int))) (eqI (by rw [IntWalk.i64_in _ (by omega)]; omega)) ?_
    refine zza 19 (.v (.int .i64 ((i + 1 : Nat) : Int))) ?_
    refine zzw ?_
    have ht63 : i < (Nt.addQ l m).length := by rw [Nt.addQ_len]; omega
    refine ⟨_, ?_, St.of 49 [(0, .v (.slice x.a x.n x.c)), (1, .v (.slice y.a y.n y.c)), (5, .slc 16 0 x.n x.n), (18, .v (.int .i64 (x.n : Int))), (19, .v (.int .i64 ((i + 1 : Nat) : Int)))] [(16, ⟨26, rcs ((L).set i r58)⟩)], by exact zzu _ _ _, i + 1, (L).set i r58, rfl, by omega, by simpa using hL, rfl, (e44.trans (e57.trans g61.ext)), RatsN.tstep (hR.ext (e57.trans g61.ext)) (by omega) ht63 (RatN.more (K := K) h59 (by omega)) (by have h9 := Nt.addQ_co l m i; unfold Nt.co at h9; show _ = List.getD _ _ _; rw [h9]; rw [show m.getD i 0 = 0 from Nt.co_ge (by omega)]; grind)⟩
    omega
  ·replace hb45 : (decide ((i : Int) < (x.n : Int))) = false := hb45
   have qhb45 := of_decide_eq_false hb45
   refine zyb ?_
   refine zzo ?_
   refine zzc ?_
   refine zyo (r := 5) (t := 16) [5, 16] (by repeat first | exact noAt_of | refine zyc ?_ | refine zye ?_ | refine zyd ?_ | refine zzx ?_ | refine zya ?_) (by kernel_rfl) (by rfl) (by rfl) (by kernel_rfl) (fun b64 u65 e66 hb67 hh68 => ?_)
   have hp69 : PolN u65 ⟨some ⟨b64, 0, none⟩, x.n, x.n⟩ (Nt.addQ l m) (K + M + 1) := pol_data1 hh68 (by unfold maxLen; omega) (RatsN.tdone (hR.ext e66) (by omega) (by rw [Nt.addQ_len]; omega)) (by omega)
   refine zze ?_
   refine zza 47 (.v (.slice (some ⟨b64, 0, none⟩) x.n x.n)) ?_
   refine zzf 48 118 [.slice (some ⟨b64, 0, none⟩) x.n x.n] ?_
   intro w70 u70 e70 d70
   have k73 := k_cut d70 (hp69.ext e70).raw (by omega) (by first|omega|(simp;omega) | (refine Nat.le_trans (Nt.zzg _) ?_; first|omega|(simp;omega)) | (refine Nat.le_trans (Nt.zzg _) ?_; simp only [List.length_map]; refine Nat.le_trans (Nt.zzg _) ?_; first|omega|(simp;omega)))
   with_reducible refine Post.mono k73 ?_
   rintro _ u71 g72 rfl
   refine zza 4 (.v (.slice (some ⟨b64, 0, none⟩) (Nt.trimQ (Nt.addQ l m)).length x.n)) ?_
   refine zzb 49 [(4, .v (.slice (some ⟨b64, 0, none⟩) (Nt.trimQ (Nt.addQ l m)).length x.n))] [] ?_
   refine zzn (ret0 [.slice (some ⟨b64, 0, none⟩) (Nt.trimQ (Nt.addQ l m)).length x.n] ⟨zzp, trivial⟩ fun u74 e75 => ?_)
   refine ⟨(⟨some ⟨b64, 0, none⟩, (Nt.trimQ (Nt.addQ l m)).length, x.n⟩ : Sl), rfl, ?_⟩
   exact ((cut_N (hp69.ext (e70.trans g72.ext))).ext e75)
theorem k_poParts {u w : World} {r : RL} (d : Dat u w) : Calls Tryz.prog 127 #[r.v] w (Post u w fun v u' => ∃ y : Sl, v = .tuple #[.agg #[.bool r.s, r.m.v, y.v], .agg #[.bool false, r.d.v, y.v]] ∧ NatN u' y 1 1) := by
 refine zzl (args := [r.v]) Tryz.func127 rfl Tryz.ntmps127 (rs := [.cell 2 26, .cell 3 26]) Tryz.results127 (le_b rfl) (le_b rfl) d ?_
 refine sq9 ?_
 refine zzj 1 ⟨26, r.cs⟩ ?_
 refine zzj 2 ⟨26, [.bool false, .slice none 0 0, .slice none 0 0]⟩ ?_
 refine zzj 3 ⟨26, [.bool false, .slice none 0 0, .slice none 0 0]⟩ ?_
 refine zzb 15 [(1, .adr 1 0), (2, .adr 2 0), (3, .adr 3 0)] [(1, ⟨26, r.cs⟩), (2, ⟨26, [.bool false, .slice none 0 0, .slice none 0 0]⟩), (3, ⟨26, [.bool false, .slice none 0 0, .slice none 0 0]⟩)] ?_
 refine sq9 ?_
 refine sy_data 5 ⟨105, [.int .u32 1]⟩ 1 (fun b11 u12 e13 h14 => ?_)
 refine zza 4 (.v (.slice (some ⟨b11, 0, none⟩) 1 1)) ?_
 refine zzb 15 [(1, .adr 1 0), (2, .adr 2 0), (3, .adr 3 0), (4, .v (.slice (some ⟨b11, 0, none⟩) 1 1))] [(1, ⟨26, r.cs⟩), (2, ⟨26, [.bool false, .slice none 0 0, .slice none 0 0]⟩), (3, ⟨26, [.bool false, .slice none 0 0, .slice none 0 0]⟩)] ?_
 refine zzc ?_
 refine zzy [0, 1, 0, 7, 0, 16, 48, 0, 240, 15, 1023] [(0, []), (1, []), (2, []), (3, []), (4, []), (5, []), (6, []), (7, []), (8, []), (9, [10]), (10, [])] (by kernel_rfl) (by kernel_rfl) ?_
 refine zza 6 (.adr 1 0) ?_
 refine zzh 7 (.v (.agg #[.bool r.s, r.m.v])) ty24 zzd ?_
 refine zza 8 (.v (.slice (some ⟨b11, 0, none⟩) 1 1)) ?_
 refine zza 9 (.v (.agg #[.bool r.s, r.m.v, .slice (some ⟨b11, 0, none⟩) 1 1])) ?_
 refine zza 10 (.adr 1 2) ?_
 refine zzh 11 (.v r.d.v) ty22 zzk ?_
 refine zza 12 (.v (.agg #[.bool false, r.d.v])) ?_
 refine zza 13 (.v (.slice (some ⟨b11, 0, none⟩) 1 1)) ?_
 refine zza 14 (.v (.agg #[.bool false, r.d.v, .slice (some ⟨b11, 0, none⟩) 1 1])) ?_
 refine zzi ⟨26, [.bool r.s, r.m.v, .slice (some ⟨b11, 0, none⟩) 1 1]⟩ ty26 ?_
 refine zzi ⟨26, [.bool false, r.d.v, .slice (some ⟨b11, 0, none⟩) 1 1]⟩ ty26 ?_
 refine zzb 15 [(2, .adr 2 0), (3, .adr 3 0)] [(2, ⟨26, [.bool r.s, r.m.v, .slice (some ⟨b11, 0, none⟩) 1 1]⟩), (3, ⟨26, [.bool false, r.d.v, .slice (some ⟨b11, 0, none⟩) 1 1]⟩)] ?_
 refine zzn (ret0 [.agg #[.bool r.s, .slice r.m.a r.m.n r.m.c, .slice (some ⟨b11, 0, none⟩) 1 1], .agg #[.bool false, .slice r.d.a r.d.n r.d.c, .slice (some ⟨b11, 0, none⟩) 1 1]] ⟨zzq ty26 zzd, zzq ty26 zzd, trivial⟩ fun u15 e16 => ?_)
 exact ⟨(⟨some ⟨b11, 0, none⟩, 1, 1⟩ : Sl), rfl, ((one_data h14).ext e16)⟩
set_option maxHeartbeats 1000000 in
theorem k_common {u w : World} {r1 r2 : RL} {x y : Rat} {K M : Nat} (d : Dat u w) (h1 : RatN u r1 x K) (h2 : RatV u r2 y M) (hK : K ≤ 40000000) (hM : M ≤ 40000000) : Calls Tryz.prog 168 #[r1.v, r2.v] w (Post u w fun v u' => ∃ r : RL, v = r.v ∧ RatN u' r (Nt.cmn x y) (K + M)) := by
 refine zzl (args := [r1.v, r2.v]) Tryz.func168 rfl Tryz.ntmps168 (rs := [.cell 4 26]) Tryz.results168 (le_b rfl) (le_b rfl) d ?_
 refine sq9 ?_
 refine zzj 2 ⟨26, r1.cs⟩ ?_
 refine zzj 3 ⟨26, r2.cs⟩ ?_
 refine zzj 4 ⟨26, [.bool false, .slice none 0 0, .slice none 0 0]⟩ ?_
 refine zzb 38 [(2, .adr 2 0), (3, .adr 3 0), (4, .adr 4 0)] [(2, ⟨26, r1.cs⟩), (3, ⟨26, r2.cs⟩), (4, ⟨26, [.bool false, .slice none 0 0, .slice none 0 0]⟩)] ?_
 refine zzc ?_
 refine sq9 ?_
 refine zzh 11 (.v (r1.v)) ty26 zzd ?_
 refine zzf 12 132 [r1.v] ?_
 intro w11 u11 e11 d11
 have k14 := k_ratSign d11 (h1.ext e11).raw
 with_reducible refine Post.mono k14 ?_
 rintro _ u12 g13 rfl
 refine zza 13 (.v (.bool ((Nt.sgQ x) == 0))) ?_
 refine zzb 38 [(2, .adr 2 0), (3, .adr 3 0), (4, .adr 4 0), (13, .v (.bool ((Nt.sgQ x) == 0)))] [(2, ⟨26, r1.cs⟩), (3, ⟨26, r2.cs⟩), (4, ⟨26, [.bool false, .slice none 0 0, .slice none 0 0]⟩)] ?_
 refine zzt (b := (Nt.sgQ x) == 0) (by kernel_rfl) (fun hb15 => ?_) (fun hb15 => ?_)
 ·replace hb15 : ((Nt.sgQ x) == 0) = true := hb15
  have hx0 : x = 0 := by have h9 := hb15; rw [Nt.sgQ_eq] at h9; simpa using h9
  refine sq9 ?_
  refine zzh 14 (.v (r2.v)) ty26 zzd ?_
  refine zzf 15 139 [r2.v] ?_
  intro w16 u16 e16 d16
  have k21 := k_ratAbs d16 (h2.ext (e11.trans (g13.ext.trans e16))) (by omega)
  with_reducible refine Post.mono k21 ?_
  rintro _ u19 g20 ⟨r17, rfl, h18⟩
  refine zzi ⟨26, r17.cs⟩ ty26 ?_
  refine zzb 38 [(4, .adr 4 0)] [(4, ⟨26, r17.cs⟩)] ?_
  refine zzn (zzv (ret0 [r17.v] ⟨zzq ty26 zzd, trivial⟩ fun u22 e23 => ?_))
  have e9 : Nt.cmn x y = (Nt.absQ y) := by unfold Nt.cmn; rw [if_pos hx0]
  have hs := Nt.rs_cmn x y
  have hs1 := h1.rs
  have hs2 := h2.rs
  refine ⟨r17, rfl, RatN.fit (K := M) ?_ (by omega)⟩
  rw [e9]
  exact (h18.ext e23)
 ·replace hb15 : ((Nt.sgQ x) == 0) = false := hb15
  have hx0 : ¬ x = 0 := by have h9 := hb15; rw [Nt.sgQ_eq] at h9; simpa using h9
  refine zzr (zzo ?_)
  refine sq9 ?_
  refine zzh 17 (.v (r1.v)) ty26 zzd ?_
  refine zzh 18 (.v (r2.v)) ty26 zzd ?_
  refine zzf 19 99 [r1.v, r2.v] ?_
  intro w24 u24 e24 d24
  have k30 := k_ratDiv d24 (h1.ext (e11.trans (g13.ext.trans e24))).raw (h2.ext (e11.trans (g13.ext.trans e24))) (by omega) (by omega)
  with_reducible refine Post.mono k30 ?_
  rintro _ u28 g29 (⟨rfl, hz27⟩ | ⟨hz27, r25, rfl, h26⟩)
  ·skip
   refine zza 16 (.v (.tuple #[.agg #[.bool false, .slice none 0 0, .slice none 0 0], .int .i64 3])) ?_
   refine zza 20 (.v (.agg #[.bool false, .slice none 0 0, .slice none 0 0])) ?_
   refine zza 21 (.v (.int .i64 3)) ?_
   refine zzj 5 ⟨26, [.bool false, .slice none 0 0, .slice none 0 0]⟩ ?_
   refine zzi ⟨26, [.bool false, .slice none 0 0, .slice none 0 0]⟩ ty26 ?_
   refine zza 6 (.v (.int .i64 3)) ?_
   refine zzb 38 [(2, .adr 2 0), (4, .adr 4 0), (5, .adr 5 0), (6, .v (.int .i64 3))] [(2, ⟨26, r1.cs⟩), (4, ⟨26, [.bool false, .slice none 0 0, .slice none 0 0]⟩), (5, ⟨26, [.bool false, .slice none 0 0, .slice none 0 0]⟩)] ?_
   refine zzc ?_
   refine sq9 ?_
   refine zza 22 (.v (.int .i64 3)) ?_
   refine zza 23 (.v (.bool true)) ?_
   refine zzb 38 [(2, .adr 2 0), (4, .adr 4 0), (5, .adr 5 0), (23, .v (.bool true))] [(2, ⟨26, r1.cs⟩), (4, ⟨26, [.bool false, .slice none 0 0, .slice none 0 0]⟩), (5, ⟨26, [.bool false, .slice none 0 0, .slice none 0 0]⟩)] ?_
   refine zyq (by kernel_rfl) ?_
   refine sq9 ?_
   refine zzh 24 (.v (r1.v)) ty26 zzd ?_
   refine zzi ⟨26, r1.cs⟩ ty26 ?_
   refine zzb 38 [(4, .adr 4 0)] [(4, ⟨26, r1.cs⟩)] ?_
   refine zzn (zzv (ret0 [r1.v] ⟨zzq ty26 zzd, trivial⟩ fun u31 e32 => ?_))
   have e9 : Nt.cmn x y = x := by unfold Nt.cmn; rw [if_neg hx0, if_pos hz27]
   have hs := Nt.rs_cmn x y
   have hs1 := h1.rs
   have hs2 := h2.rs
   refine ⟨r1, rfl, RatN.fit (K := K) ?_ (by omega)⟩
   rw [e9]
   exact (h1.ext (e11.trans (g13.ext.trans (e24.trans (g29.ext.trans e32)))))
  ·skip
   refine zza 16 (.v (.tuple #[r25.v, .int .i64 0])) ?_
   refine zza 20 (.v (r25.v)) ?_
   refine zza 21 (.v (.int .i64 0)) ?_
   refine zzj 5 ⟨26, [.bool false, .slice none 0 0, .slice none 0 0]⟩ ?_
   refine zzi ⟨26, r25.cs⟩ ty26 ?_
   refine zza 6 (.v (.int .i64 0)) ?_
   refine zzb 38 [(2, .adr 2 0), (4, .adr 4 0), (5, .adr 5 0), (6, .v (.int .i64 0))] [(2, ⟨26, r1.cs⟩), (4, ⟨26, [.bool false, .slice none 0 0, .slice none 0 0]⟩), (5, ⟨26, r25.cs⟩)] ?_
   refine zzc ?_
   refine sq9 ?_
   refine zza 22 (.v (.int .i64 0)) ?_
   refine zza 23 (.v (.bool false)) ?_
   refine zzb 38 [(2, .adr 2 0), (4, .adr 4 0), (5, .adr 5 0), (23, .v (.bool false))] [(2, ⟨26, r1.cs⟩), (4, ⟨26, [.bool false, .slice none 0 0, .slice none 0 0]⟩), (5, ⟨26, r25.cs⟩)] ?_
   refine zyr (by kernel_rfl) ?_
   refine zzr (zzo ?_)
   refine sq9 ?_
   refine zzh 26 (.v (r25.v)) ty26 zzd ?_
   refine zzf 27 127 [r25.v] ?_
   intro w33 u33 e33 d33
   have k38 := k_poParts (r := r25) d33
   with_reducible refine Post.mono k38 ?_
   rintro _ u36 g37 ⟨y34, rfl, h35⟩
   refine zza 25 (.v (.tuple #[.agg #[.bool r25.s, r25.m.v, y34.v], .agg #[.bool false, r25.d.v, y34.v]])) ?_
   refine zza 28 (.v (.agg #[.bool r25.s, r25.m.v, y34.v])) ?_
   refine zza 29 (.v (.agg #[.bool false, r25.d.v, y34.v])) ?_
   refine zzj 7 ⟨26, [.bool false, .slice none 0 0, .slice none 0 0]⟩ ?_
   refine zzj 8 ⟨26, [.bool false, .slice none 0 0, .slice none 0 0]⟩ ?_
   refine zzi ⟨26, [.bool r25.s, r25.m.v, y34.v]⟩ ty26 ?_
   refine zzi ⟨26, [.bool false, r25.d.v, y34.v]⟩ ty26 ?_
   refine zzb 38 [(2, .adr 2 0), (4, .adr 4 0), (7, .adr 7 0)] [(2, ⟨26, r1.cs⟩), (4, ⟨26, [.bool false, .slice none 0 0, .slice none 0 0]⟩), (7, ⟨26, [.bool r25.s, r25.m.v, y34.v]⟩)] ?_
   refine sq9 ?_
   refine zzh 31 (.v (r1.v)) ty26 zzd ?_
   refine zzh 32 (.v (.agg #[.bool r25.s, r25.m.v, y34.v])) ty26 zzd ?_
   refine zzf 33 99 [r1.v, .agg #[.bool r25.s, r25.m.v, y34.v]] ?_
   intro w39 u39 e39 d39
   have k44 := k_ratDiv1 d39 (h1.ext (e11.trans (g13.ext.trans (e24.trans (g29.ext.trans (e33.trans (g37.ext.trans e39))))))).raw ((whole_rat (RatN.num (h26.ext (e33.trans g37.ext))) h35).ext e39).raw (Nt.num_ne (Nt.div_ne hx0 hz27)) (by omega) (by omega)
   with_reducible refine Post.mono k44 ?_
   rintro _ u42 g43 ⟨r40, rfl, h41⟩
   refine zza 30 (.v (.tuple #[r40.v, .int .i64 0])) ?_
   refine zza 34 (.v (r40.v)) ?_
   refine zza 35 (.v (.int .i64 0)) ?_
   refine zzj 9 ⟨26, [.bool false, .slice none 0 0, .slice none 0 0]⟩ ?_
   refine zzi ⟨26, r40.cs⟩ ty26 ?_
   refine zza 10 (.v (.int .i64 0)) ?_
   refine zzb 38 [(4, .adr 4 0), (9, .adr 9 0)] [(4, ⟨26, [.bool false, .slice none 0 0, .slice none 0 0]⟩), (9, ⟨26, r40.cs⟩)] ?_
   refine sq9 ?_
   refine zzh 36 (.v (r40.v)) ty26 zzd ?_
   refine zzf 37 139 [r40.v] ?_
   intro w45 u45 e45 d45
   have k50 := k_ratAbs d45 (h41.ext e45).raw (by omega)
   with_reducible refine Post.mono k50 ?_
   rintro _ u48 g49 ⟨r46, rfl, h47⟩
   refine zzi ⟨26, r46.cs⟩ ty26 ?_
   refine zzb 38 [(4, .adr 4 0)] [(4, ⟨26, r46.cs⟩)] ?_
   refine zzn (ret0 [r46.v] ⟨zzq ty26 zzd, trivial⟩ fun u51 e52 => ?_)
   have e9 : Nt.cmn x y = (Nt.absQ (x / (((x / y).num : Int) : Rat))) := by unfold Nt.cmn; rw [if_neg hx0, if_neg hz27]
   have hs := Nt.rs_cmn x y
   have hs1 := h1.rs
   have hs2 := h2.rs
   refine ⟨r46, rfl, RatN.fit (K := (K + (max (K + M) 1))) ?_ (by omega)⟩
   rw [e9]
   exact (h47.ext e52)
set_option maxHeartbeats 1000000 in
theorem k_split {u w : World} {x : Sl} {l : List Rat} {K : Nat} (d : Dat u w) (hx : PolV u x l K) (hK : (l.length + 1) * K ≤ 30000000) (hx9 : l.length ≤ 1000000000) : Calls Tryz.prog 115 #[x.v] w (Post u w fun v u' => ∃ (r : RL) (y : Sl), v = .tuple #[r.v, y.v] ∧ RatN u' r (Nt.msr (Nt.trimQ l)) ((Nt.trimQ l).length * K + 2) ∧ PolN u' y ((Nt.trimQ l).map (· / Nt.msr (Nt.trimQ l))) (K + ((Nt.trimQ l).length * K + 2))) := by
 have hlen := hx.len
 have htl := Nt.zzg l
 have hKK : (Nt.trimQ l).length * K ≤ l.length * K := Nat.mul_le_mul_right _ htl
 rw [Nat.add_mul] at hK
 refine zzl (args := [.slice x.a x.n x.c]) Tryz.func115 rfl Tryz.ntmps115 (rs := [.cell 2 26, .tmp 3]) Tryz.results115 (le_b rfl) (le_b rfl) d ?_
 refine sq9 ?_
 refine zzj 2 ⟨26, [.bool false, .slice none 0 0, .slice none 0 0]⟩ ?_
 refine zza 3 (.v (.slice none 0 0)) ?_
 refine zzb 45 [(0, .v x.v), (2, .adr 2 0)] [(2, ⟨26, [.bool false, .slice none 0 0, .slice none 0 0]⟩)] ?_
 refine sq9 ?_
 refine zza 10 (.v x.v) ?_
 refine zzf 11 118 [x.v] ?_
 intro w11 u11 e11 d11
 have k14 := k_cut d11 (hx.ext e11) (by omega) (by first|omega|(simp;omega) | (refine Nat.le_trans (Nt.zzg _) ?_; first|omega|(simp;omega)) | (refine Nat.le_trans (Nt.zzg _) ?_; simp only [List.length_map]; refine Nat.le_trans (Nt.zzg _) ?_; first|omega|(simp;omega)))
 with_reducible refine Post.mono k14 ?_
 rintro _ u12 g13 rfl
 refine zza 0 (.v (.slice x.a (Nt.trimQ l).length x.c)) ?_
 refine zzb 45 [(0, .v (.slice x.a (Nt.trimQ l).length x.c)), (2, .adr 2 0)] [(2, ⟨26, [.bool false, .slice none 0 0, .slice none 0 0]⟩)] ?_
 refine sq9 ?_
 refine zzf 12 112 [.int .i64 0] ?_
 intro w15 u15 e15 d15
 have k20 := k_ratOf d15 (z := 0) (by omega) (by omega)
 with_reducible refine Post.mono k20 ?_
 rintro _ u18 g19 ⟨r16, rfl, h17⟩
 refine zzj 4 ⟨26, [.bool false, .slice none 0 0, .slice none 0 0]⟩ ?_
 refine zzi ⟨26, r16.cs⟩ ty26 ?_
 refine zzb 45 [(0, .v (.slice x.a (Nt.trimQ l).length x.c)), (2, .adr 2 0), (4, .adr 4 0)] [(2, ⟨26, [.bool false, .slice none 0 0, .slice none 0 0]⟩), (4, ⟨26, r16.cs⟩)] ?_
 refine zzc ?_
 refine sq9 ?_
 refine zza 13 (.v (.slice x.a (Nt.trimQ l).length x.c)) ?_
 refine zza 14 (.v (.int .i64 (((Nt.trimQ l).length : Nat) : Int))) ?_
 refine zza 15 (.v (.int .i64 0)) ?_
 refine zzb 45 [(0, .v (.slice x.a (Nt.trimQ l).length x.c)), (2, .adr 2 0), (4, .adr 4 0), (13, .v (.slice x.a (Nt.trimQ l).length x.c)), (14, .v (.int .i64 (((Nt.trimQ l).length : Nat) : Int))), (15, .v (.int .i64 0))] [(2, ⟨26, [.bool false, .slice none 0 0, .slice none 0 0]⟩), (4, ⟨26, r16.cs⟩)] ?_
 refine zzs ?_
 refine zym (I := fun m21 S' u' => ∃ (i : Nat) (r : RL), (m21 = (Nt.trimQ l).length - i) ∧ (i ≤ (Nt.trimQ l).length) ∧ (S' = St.of 45 [(0, .v (.slice x.a (Nt.trimQ l).length x.c)), (2, .adr 2 0), (4, .adr 4 0), (13, .v (.slice x.a (Nt.trimQ l).length x.c)), (14, .v (.int .i64 (((Nt.trimQ l).length : Nat) : Int))), (15, .v (.int .i64 (i : Int)))] [(2, ⟨26, [.bool false, .slice none 0 0, .slice none 0 0]⟩), (4, ⟨26, r.cs⟩)]) ∧ (Ext u18 u') ∧ (RatN u' r (Nt.msr ((Nt.trimQ l).take i)) (i * K + 2))) (fun m S u1 u2 e h => by obtain ⟨i, r, hm, p0, hS, hE, f0⟩ := h; exact ⟨i, r, hm, p0, hS, hE.trans e, f0.ext e⟩) _ (T := St.of 45 [(0, .v (.slice x.a (Nt.trimQ l).length x.c)), (2, .adr 2 0), (4, .adr 4 0), (13, .v (.slice x.a (Nt.trimQ l).length x.c)), (14, .v (.int .i64 (((Nt.trimQ l).length : Nat) : Int))), (15, .v (.int .i64 0))] [(2, ⟨26, [.bool false, .slice none 0 0, .slice none 0 0]⟩), (4, ⟨26, r16.cs⟩)]) (by exact zzu _ _ _) ⟨0, r16, rfl, by omega, rfl, Ext.refl _, (RatN.more (K := 2) h17 (by omega))⟩ ?_
 rintro m21 _ u21 ⟨i, r, hm21, hi, rfl, e21, hM⟩
 have hiK : i * K ≤ (Nt.trimQ l).length * K := Nat.mul_le_mul_right _ hi
 refine sq9 ?_
 refine zza 16 (.v (.bool (decide ((i : Int) < (((Nt.trimQ l).length : Nat) : Int))))) ?_
 refine zzb 45 [(0, .v (.slice x.a (Nt.trimQ l).length x.c)), (2, .adr 2 0), (4, .adr 4 0), (13, .v (.slice x.a (Nt.trimQ l).length x.c)), (14, .v (.int .i64 (((Nt.trimQ l).length : Nat) : Int))), (15, .v (.int .i64 (i : Int))), (16, .v (.bool (decide ((i : Int) < (((Nt.trimQ l).length : Nat) : Int)))))] [(2, ⟨26, [.bool false, .slice none 0 0, .slice none 0 0]⟩), (4, ⟨26, r.cs⟩)] ?_
 refine zzc ?_
 refine zzt (b := decide ((i : Int) < (((Nt.trimQ l).length : Nat) : Int))) (by kernel_rfl) (fun hb22 => ?_) (fun hb22 => ?_)
 ·replace hb22 : (decide ((i : Int) < (((Nt.trimQ l).length : Nat) : Int))) = true := hb22
  have qhb22 := of_decide_eq_true hb22
  refine zzr (zzo ?_)
  refine zzc ?_
  refine zzs ?_
  refine sq9 ?_
  have hl23 := ((cut_V (hx.ext (e11.trans g13.ext))).ext (e15.trans (g19.ext.trans e21))).len
  change (Nt.trimQ l).length = _ at hl23
  obtain ⟨r23, b23, o23, hA23, hc23, hr23⟩ := pol_at ((cut_V (hx.ext (e11.trans g13.ext))).ext (e15.trans (g19.ext.trans e21))) (i := i) (by omega)
  refine zzz 17 (o23 + i * 3) (n := (Nt.trimQ l).length) (off := o23) (sz := 3) (i := (i : Int)) (by omega) hA23 (by omega) (by omega) sl41 ?_
  refine zyl 18 r23.cs hc23 ty26 ?_
  refine zzj 6 ⟨26, [.bool false, .slice none 0 0, .slice none 0 0]⟩ ?_
  refine zzi ⟨26, r23.cs⟩ ty26 ?_
  refine zzb 45 [(0, .v (.slice x.a (Nt.trimQ l).length x.c)), (2, .adr 2 0), (4, .adr 4 0), (6, .adr 6 0), (13, .v (.slice x.a (Nt.trimQ l).length x.c)), (14, .v (.int .i64 (((Nt.trimQ l).length : Nat) : Int))), (15, .v (.int .i64 (i : Int)))] [(2, ⟨26, [.bool false, .slice none 0 0, .slice none 0 0]⟩), (4, ⟨26, r.cs⟩), (6, ⟨26, r23.cs⟩)] ?_
  refine zze ?_
  refine zzh 19 (.v (r.v)) ty26 zzd ?_
  refine zzh 20 (.v (r23.v)) ty26 zzd ?_
  refine zzf 21 168 [r.v, r23.v] ?_
  intro w24 u24 e24 d24
  have k29 := k_common d24 (hM.ext e24) (hr23.ext e24) (by omega) (by omega)
  with_reducible refine Post.mono k29 ?_
  rintro _ u27 g28 ⟨r25, rfl, h26⟩
  refine zzi ⟨26, r25.cs⟩ ty26 ?_
  refine zzw ?_
  refine zzo ?_
  refine zze ?_
  refine zyp 22 (x := .v (.int .i64 (IntKind.i64.wrap ((i : Int) + 1)))) (.v (.int .i64 ((i + 1 : Nat) : Int))) (eqI (by rw [IntWalk.i64_in _ (by omega)]; omega)) ?_
  refine zza 15 (.v (.int .i64 ((i + 1 : Nat) : Int))) ?_
  refine zzw ?_
  refine ⟨_, ?_, St.of 45 [(0, .v (.slice x.a (Nt.trimQ l).length x.c)), (2, .adr 2 0), (4, .adr 4 0), (13, .v (.slice x.a (Nt.trimQ l).length x.c)), (14, .v (.int .i64 (((Nt.trimQ l).length : Nat) : Int))), (15, .v (.int .i64 ((i + 1 : Nat) : Int)))] [(2, ⟨26, [.bool false, .slice none 0 0, .slice none 0 0]⟩), (4, ⟨26, r25.cs⟩)], by exact zzu _ _ _, i + 1, r25, rfl, by omega, rfl, (e21.trans (e24.trans g28.ext)), (RatN.more (K := ((i * K + 2) + K)) (by rw [Nt.msr_take (by omega)]; exact h26) (by rw [Nat.add_mul]; omega))⟩
  omega
 ·replace hb22 : (decide ((i : Int) < (((Nt.trimQ l).length : Nat) : Int))) = false := hb22
  have qhb22 := of_decide_eq_false hb22
  refine zyb ?_
  refine zzo ?_
  refine zzc ?_
  have hi9 : i = (Nt.trimQ l).length := by omega
  have hms : RatN u21 r (Nt.msr (Nt.trimQ l)) ((Nt.trimQ l).length * K + 2) := by have h9 := hM; rw [hi9, List.take_length] at h9; exact h9
  clear hi9
  refine zze ?_
  refine zza 23 (.v (.slice x.a (Nt.trimQ l).length x.c)) ?_
  refine zza 24 (.v (.int .i64 (((Nt.trimQ l).length : Nat) : Int))) ?_
  refine sy_make 25 (T := 41) (E := 26) (z := .agg #[.bool false, .slice none 0 0, .slice none 0 0]) (size := 3) (bytes := 56) ((Nt.trimQ l).length) (rcs (List.replicate ((Nt.trimQ l).length) rl0)) (by kernel_rfl) (by kernel_rfl) rfl rfl (by omega) (by unfold maxLen; omega) (made_rcs _) ?_
  refine zza 7 (.slc 25 0 ((Nt.trimQ l).length) ((Nt.trimQ l).length)) ?_
  refine zzb 45 [(0, .v (.slice x.a (Nt.trimQ l).length x.c)), (2, .adr 2 0), (4, .adr 4 0), (7, .slc 25 0 ((Nt.trimQ l).length) ((Nt.trimQ l).length))] [(2, ⟨26, [.bool false, .slice none 0 0, .slice none 0 0]⟩), (4, ⟨26, r.cs⟩), (25, ⟨26, rcs (List.replicate ((Nt.trimQ l).length) rl0)⟩)] ?_
  refine zzc ?_
  refine sq9 ?_
  refine zza 26 (.v (.slice x.a (Nt.trimQ l).length x.c)) ?_
  refine zza 27 (.v (.int .i64 (((Nt.trimQ l).length : Nat) : Int))) ?_
  refine zza 28 (.v (.int .i64 0)) ?_
  refine zzb 45 [(2, .adr 2 0), (4, .adr 4 0), (7, .slc 25 0 ((Nt.trimQ l).length) ((Nt.trimQ l).length)), (26, .v (.slice x.a (Nt.trimQ l).length x.c)), (27, .v (.int .i64 (((Nt.trimQ l).length : Nat) : Int))), (28, .v (.int .i64 0))] [(2, ⟨26, [.bool false, .slice none 0 0, .slice none 0 0]⟩), (4, ⟨26, r.cs⟩), (25, ⟨26, rcs (List.replicate ((Nt.trimQ l).length) rl0)⟩)] ?_
  refine zzs ?_
  refine zym (I := fun m30 S' u' => ∃ (i2 : Nat) (L2 : List RL), (m30 = ((Nt.trimQ l).length) - i2) ∧ (i2 ≤ (Nt.trimQ l).length) ∧ (L2.length = (Nt.trimQ l).length) ∧ (S' = St.of 45 [(2, .adr 2 0), (4, .adr 4 0), (7, .slc 25 0 ((Nt.trimQ l).length) ((Nt.trimQ l).length)), (26, .v (.slice x.a (Nt.trimQ l).length x.c)), (27, .v (.int .i64 (((Nt.trimQ l).length : Nat) : Int))), (28, .v (.int .i64 (i2 : Int)))] [(2, ⟨26, [.bool false, .slice none 0 0, .slice none 0 0]⟩), (4, ⟨26, r.cs⟩), (25, ⟨26, rcs L2⟩)]) ∧ (Ext u21 u') ∧ (RatsN u' (L2.take i2) (((Nt.trimQ l).map (· / Nt.msr (Nt.trimQ l))).take i2) (K + ((Nt.trimQ l).length * K + 2)))) (fun m S u1 u2 e h => by obtain ⟨i2, L2, hm, p0, p1, hS, hE, f0⟩ := h; exact ⟨i2, L2, hm, p0, p1, hS, hE.trans e, f0.ext e⟩) _ (T := St.of 45 [(2, .adr 2 0), (4, .adr 4 0), (7, .slc 25 0 ((Nt.trimQ l).length) ((Nt.trimQ l).length)), (26, .v (.slice x.a (Nt.trimQ l).length x.c)), (27, .v (.int .i64 (((Nt.trimQ l).length : Nat) : Int))), (28, .v (.int .i64 0))] [(2, ⟨26, [.bool false, .slice none 0 0, .slice none 0 0]⟩), (4, ⟨26, r.cs⟩), (25, ⟨26, rcs (List.replicate ((Nt.trimQ l).length) rl0)⟩)]) (by exact zzu _ _ _) ⟨0, List.replicate ((Nt.trimQ l).length) rl0, rfl, by omega, by simp, rfl, Ext.refl _, RatsN.tnil _ _ _ _⟩ ?_
  rintro m30 _ u30 ⟨i2, L2, hm30, hi2, hL2, rfl, e30, hR2⟩
  refine sq9 ?_
  refine zza 29 (.v (.bool (decide ((i2 : Int) < (((Nt.trimQ l).length : Nat) : Int))))) ?_
  refine zzb 45 [(2, .adr 2 0), (4, .adr 4 0), (7, .slc 25 0 ((Nt.trimQ l).length) ((Nt.trimQ l).length)), (26, .v (.slice x.a (Nt.trimQ l).length x.c)), (27, .v (.int .i64 (((Nt.trimQ l).length : Nat) : Int))), (28, .v (.int .i64 (i2 : Int))), (29, .v (.bool (decide ((i2 : Int) < (((Nt.trimQ l).length : Nat) : Int)))))] [(2, ⟨26, [.bool false, .slice none 0 0, .slice none 0 0]⟩), (4, ⟨26, r.cs⟩), (25, ⟨26, rcs L2⟩)] ?_
  refine zzc ?_
  refine zzt (b := decide ((i2 : Int) < (((Nt.trimQ l).length : Nat) : Int))) (by kernel_rfl) (fun hb31 => ?_) (fun hb31 => ?_)
  ·replace hb31 : (decide ((i2 : Int) < (((Nt.trimQ l).length : Nat) : Int))) = true := hb31
   have qhb31 := of_decide_eq_true hb31
   refine zzr (zzo ?_)
   refine zzc ?_
   refine zzs ?_
   refine sq9 ?_
   refine zza 30 (.v (.int .i64 (i2 : Int))) ?_
   have hl32 := ((cut_V (hx.ext (e11.trans g13.ext))).ext (e15.trans (g19.ext.trans (e21.trans e30)))).len
   change (Nt.trimQ l).length = _ at hl32
   obtain ⟨r32, b32, o32, hA32, hc32, hr32⟩ := pol_at ((cut_V (hx.ext (e11.trans g13.ext))).ext (e15.trans (g19.ext.trans (e21.trans e30)))) (i := i2) (by omega)
   refine zzz 31 (o32 + i2 * 3) (n := (Nt.trimQ l).length) (off := o32) (sz := 3) (i := (i2 : Int)) (by omega) hA32 (by omega) (by omega) sl41 ?_
   refine zyl 32 r32.cs hc32 ty26 ?_
   refine zzj 9 ⟨26, [.bool false, .slice none 0 0, .slice none 0 0]⟩ ?_
   refine zza 8 (.v (.int .i64 (i2 : Int))) ?_
   refine zzi ⟨26, r32.cs⟩ ty26 ?_
   refine zzb 45 [(2, .adr 2 0), (4, .adr 4 0), (7, .slc 25 0 ((Nt.trimQ l).length) ((Nt.trimQ l).length)), (8, .v (.int .i64 (i2 : Int))), (9, .adr 9 0), (26, .v (.slice x.a (Nt.trimQ l).length x.c)), (27, .v (.int .i64 (((Nt.trimQ l).length : Nat) : Int))), (28, .v (.int .i64 (i2 : Int)))] [(2, ⟨26, [.bool false, .slice none 0 0, .slice none 0 0]⟩), (4, ⟨26, r.cs⟩), (9, ⟨26, r32.cs⟩), (25, ⟨26, rcs L2⟩)] ?_
   refine zze ?_
   refine zza 34 (.slc 25 0 ((Nt.trimQ l).length) ((Nt.trimQ l).length)) ?_
   refine zza 35 (.v (.int .i64 (i2 : Int))) ?_
   refine zzh 36 (.v (r32.v)) ty26 zzd ?_
   refine zzh 37 (.v (r.v)) ty26 zzd ?_
   refine zzf 38 99 [r32.v, r.v] ?_
   intro w33 u33 e33 d33
   have k38 := k_ratDiv1 d33 (hr32.ext e33) (hms.ext (e30.trans e33)).raw (Nt.msr_ne (Nt.trim_nrm l) (by omega)) (by omega) (by omega)
   with_reducible refine Post.mono k38 ?_
   rintro _ u36 g37 ⟨r34, rfl, h35⟩
   refine zza 33 (.v (.tuple #[r34.v, .int .i64 0])) ?_
   refine zza 39 (.v (r34.v)) ?_
   refine zza 40 (.v (.int .i64 0)) ?_
   refine zyv 41 (off' := i2 * 3) (n := (Nt.trimQ l).length) (off := 0) (sz := 3) (i := (i2 : Int)) sl41 (by omega) (by omega) (by omega) ?_
   refine zyu (V := ⟨26, rcs L2⟩) (off := i2 * 3) (rcs ((L2).set i2 r34)) ty26 (by rw [zyx]; first|omega|(simp;omega)) (zyw (r := r34) (i := i2) (by first|omega|(simp;omega)) rfl) ?_
   refine zzw ?_
   refine zzo ?_
   refine zze ?_
   refine zyp 42 (x := .v (.int .i64 (IntKind.i64.wrap ((i2 : Int) + 1)))) (.v (.int .i64 ((i2 + 1 : Nat) : Int))) (eqI (by rw [IntWalk.i64_in _ (by omega)]; omega)) ?_
   refine zza 28 (.v (.int .i64 ((i2 + 1 : Nat) : Int))) ?_
   refine zzw ?_
   have ht39 : i2 < ((Nt.trimQ l).map (· / Nt.msr (Nt.trimQ l))).length := by simp; omega
   refine ⟨_, ?_, St.of 45 [(2, .adr 2 0), (4, .adr 4 0), (7, .slc 25 0 ((Nt.trimQ l).length) ((Nt.trimQ l).length)), (26, .v (.slice x.a (Nt.trimQ l).length x.c)), (27, .v (.int .i64 (((Nt.trimQ l).length : Nat) : Int))), (28, .v (.int .i64 ((i2 + 1 : Nat) : Int)))] [(2, ⟨26, [.bool false, .slice none 0 0, .slice none 0 0]⟩), (4, ⟨26, r.cs⟩), (25, ⟨26, rcs ((L2).set i2 r34)⟩)], by exact zzu _ _ _, i2 + 1, (L2).set i2 r34, rfl, by omega, by simpa using hL2, rfl, (e30.trans (e33.trans g37.ext)), RatsN.tstep (hR2.ext (e33.trans g37.ext)) (by omega) ht39 (RatN.more (K := (K + ((Nt.trimQ l).length * K + 2))) h35 (by omega)) (by simp [List.getElem?_eq_getElem (show i2 < (Nt.trimQ l).length by omega)])⟩
   omega
  ·replace hb31 : (decide ((i2 : Int) < (((Nt.trimQ l).length : Nat) : Int))) = false := hb31
   have qhb31 := of_decide_eq_false hb31
   refine zyb ?_
   refine zzo ?_
   refine zzc ?_
   refine zyo (r := 7) (t := 25) [7, 25] (by repeat first | exact noAt_of | refine zyc ?_ | refine zye ?_ | refine zyd ?_ | refine zzx ?_ | refine zya ?_) (by kernel_rfl) (by rfl) (by rfl) (by kernel_rfl) (fun b40 u41 e42 hb43 hh44 => ?_)
   have hp45 : PolN u41 ⟨some ⟨b40, 0, none⟩, (Nt.trimQ l).length, (Nt.trimQ l).length⟩ ((Nt.trimQ l).map (· / Nt.msr (Nt.trimQ l))) (K + ((Nt.trimQ l).length * K + 2)) := pol_data1 hh44 (by unfold maxLen; omega) (RatsN.tdone (hR2.ext e42) (by omega) (by simp; omega)) (by omega)
   refine zze ?_
   refine zzh 43 (.v (r.v)) ty26 zzd ?_
   refine zza 44 (.v (.slice (some ⟨b40, 0, none⟩) ((Nt.trimQ l).length) ((Nt.trimQ l).length))) ?_
   refine zzi ⟨26, r.cs⟩ ty26 ?_
   refine zza 3 (.v (.slice (some ⟨b40, 0, none⟩) ((Nt.trimQ l).length) ((Nt.trimQ l).length))) ?_
   refine zzb 45 [(2, .adr 2 0), (3, .v (.slice (some ⟨b40, 0, none⟩) ((Nt.trimQ l).length) ((Nt.trimQ l).length)))] [(2, ⟨26, r.cs⟩)] ?_
   refine zzn (ret0 [r.v, .slice (some ⟨b40, 0, none⟩) ((Nt.trimQ l).length) ((Nt.trimQ l).length)] ⟨zzq ty26 zzd, zzp, trivial⟩ fun u46 e47 => ?_)
   exact ⟨r, (⟨some ⟨b40, 0, none⟩, (Nt.trimQ l).length, (Nt.trimQ l).length⟩ : Sl), rfl, (hms.ext (e30.trans (e42.trans e47))), (hp45.ext e47)⟩
set_option maxHeartbeats 4000000 in
theorem k_poMul {u w : World} {x : Sl} {l : List Rat} {y : Sl} {m : List Rat} {K M : Nat} (d : Dat u w) (hx : PolV u x l K) (hy : PolV u y m M) (hB : Nt.mlK l.length m.length K M ≤ 30000000) (hK1 : (l.length + 1) * K ≤ 20000000) (hM1 : (m.length + 1) * M ≤ 20000000) (hx9 : l.length ≤ 100000000) (hy9 : m.length ≤ 100000000) : Calls Tryz.prog 42 #[x.v, y.v] w (Post u w fun v u' => ∃ y : Sl, v = y.v ∧ PolN u' y (Nt.trimQ (Nt.mulQ l m)) (Nt.mlK l.length m.length K M)) := by
 have hlen := hx.len
 have hlen2 := hy.len
 have htl := Nt.zzg l
 have htm := Nt.zzg m
 have hB2 := Nat.le_trans (Nt.mlK_mono htl htm (Nat.le_refl K) (Nat.le_refl M)) hB
 have hB3 : Nt.kk ((K + ((Nt.trimQ l).length * K + 2)) + (M + ((Nt.trimQ m).length * M + 2)) + 1) ((Nt.trimQ l).length * (Nt.trimQ m).length) + (((Nt.trimQ l).length * K + 2) + ((Nt.trimQ m).length * M + 2)) ≤ 30000000 := hB2
 have hK2 := hK1
 have hM2 := hM1
 rw [Nat.add_mul] at hK2 hM2
 have hKK : (Nt.trimQ l).length * K ≤ l.length * K := Nat.mul_le_mul_right _ htl
 have hMM : (Nt.trimQ m).length * M ≤ m.length * M := Nat.mul_le_mul_right _ htm
 refine zzl (args := [.slice x.a x.n x.c, .slice y.a y.n y.c]) Tryz.func42 rfl Tryz.ntmps42 (rs := [.tmp 4]) Tryz.results42 (le_b rfl) (le_b rfl) d ?_
 refine sq9 ?_
 refine zza 4 (.v (.slice none 0 0)) ?_
 refine zzb 75 [(0, .v x.v), (1, .v y.v)] [] ?_
 refine sq9 ?_
 refine zza 15 (.v x.v) ?_
 refine zzf 16 115 [x.v] ?_
 intro w11 u11 e11 d11
 have k18 := k_split d11 (hx.ext e11) (by omega) (by first|omega|(simp;omega) | (refine Nat.le_trans (Nt.zzg _) ?_; first|omega|(simp;omega)) | (refine Nat.le_trans (Nt.zzg _) ?_; simp only [List.length_map]; refine Nat.le_trans (Nt.zzg _) ?_; first|omega|(simp;omega)))
 with_reducible refine Post.mono k18 ?_
 rintro _ u16 g17 ⟨r12, y14, rfl, h13, h15⟩
 have hly14 : y14.n = (Nt.trimQ l).length := by have h9 := h15.len; simpa using h9
 refine zza 14 (.v (.tuple #[r12.v, y14.v])) ?_
 refine zza 17 (.v (r12.v)) ?_
 refine zza 18 (.v y14.v) ?_
 refine zzj 5 ⟨26, [.bool false, .slice none 0 0, .slice none 0 0]⟩ ?_
 refine zzi ⟨26, r12.cs⟩ ty26 ?_
 refine zza 6 (.v y14.v) ?_
 refine zzb 75 [(1, .v y.v), (5, .adr 5 0), (6, .v y14.v)] [(5, ⟨26, r12.cs⟩)] ?_
 refine sq9 ?_
 refine zza 20 (.v y.v) ?_
 refine zzf 21 115 [y.v] ?_
 intro w19 u19 e19 d19
 have k26 := k_split d19 (hy.ext (e11.trans (g17.ext.trans e19))) (by omega) (by first|omega|(simp;omega) | (refine Nat.le_trans (Nt.zzg _) ?_; first|omega|(simp;omega)) | (refine Nat.le_trans (Nt.zzg _) ?_; simp only [List.length_map]; refine Nat.le_trans (Nt.zzg _) ?_; first|omega|(simp;omega)))
 with_reducible refine Post.mono k26 ?_
 rintro _ u24 g25 ⟨r20, y22, rfl, h21, h23⟩
 have hly22 : y22.n = (Nt.trimQ m).length := by have h9 := h23.len; simpa using h9
 refine zza 19 (.v (.tuple #[r20.v, y22.v])) ?_
 refine zza 22 (.v (r20.v)) ?_
 refine zza 23 (.v y22.v) ?_
 refine zzj 7 ⟨26, [.bool false, .slice none 0 0, .slice none 0 0]⟩ ?_
 refine zzi ⟨26, r20.cs⟩ ty26 ?_
 refine zza 8 (.v y22.v) ?_
 refine zzb 75 [(5, .adr 5 0), (6, .v y14.v), (7, .adr 7 0), (8, .v y22.v)] [(5, ⟨26, r12.cs⟩), (7, ⟨26, r20.cs⟩)] ?_
 refine zzc ?_
 refine sq9 ?_
 refine zza 24 (.v y14.v) ?_
 refine zza 25 (.v (.int .i64 (y14.n : Int))) ?_
 refine zza 26 (.v (.bool ((y14.n : Int) == 0))) ?_
 rcases Bool.eq_false_or_eq_true ((y14.n : Int) == 0) with hs27 | hs27
 ·refine zyp 27 (x := .v (.bool ((y14.n : Int) == 0))) (.v (.bool true)) (by rw [hs27]) ?_
  have qhs27 : (y14.n : Int) = 0 := by simpa using hs27
  refine zzm 28 (uw 3 false true 27) ?_
  refine zzm 29 (uw 3 false true 27) ?_
  refine zzm 30 (uw 3 false true 27) ?_
  refine zza 31 (.v (.bool true)) ?_
  refine zzb 75 [(5, .adr 5 0), (6, .v y14.v), (7, .adr 7 0), (8, .v y22.v), (31, .v (.bool true))] [(5, ⟨26, r12.cs⟩), (7, ⟨26, r20.cs⟩)] ?_
  refine zyq (by kernel_rfl) ?_
  refine sq9 ?_
  refine zza 4 (.v (.slice none 0 0)) ?_
  refine zzb 75 [(4, .v (.slice none 0 0))] [] ?_
  refine zzn (zzv (ret0 [.slice none 0 0] ⟨zzp, trivial⟩ fun u28 e29 => ?_))
  have e9 : Nt.trimQ l = [] := List.eq_nil_of_length_eq_zero (by omega)
  rw [Nt.mul_nil (.inl e9)]
  exact ⟨⟨none, 0, 0⟩, rfl, pol_nil _ _⟩
 ·refine zyp 27 (x := .v (.bool ((y14.n : Int) == 0))) (.v (.bool false)) (by rw [hs27]) ?_
  have qhs27 : ¬ ((y14.n : Int) = 0) := by simpa using hs27
  refine zza 28 (.v y22.v) ?_ (hw := w1 3 false 27)
  refine zza 29 (.v (.int .i64 (y22.n : Int))) ?_ (hw := w1 3 false 27)
  refine zza 30 (.v (.bool ((y22.n : Int) == 0))) ?_ (hw := w1 3 false 27)
  refine zza 31 (.v (.bool ((y22.n : Int) == 0))) ?_
  refine zzb 75 [(5, .adr 5 0), (6, .v y14.v), (7, .adr 7 0), (8, .v y22.v), (31, .v (.bool ((y22.n : Int) == 0)))] [(5, ⟨26, r12.cs⟩), (7, ⟨26, r20.cs⟩)] ?_
  refine zzt (b := (y22.n : Int) == 0) (by kernel_rfl) (fun hb30 => ?_) (fun hb30 => ?_)
  ·replace hb30 : ((y22.n : Int) == 0) = true := hb30
   have qhb30 : (y22.n : Int) = 0 := by simpa using hb30
   refine sq9 ?_
   refine zza 4 (.v (.slice none 0 0)) ?_
   refine zzb 75 [(4, .v (.slice none 0 0))] [] ?_
   refine zzn (zzv (ret0 [.slice none 0 0] ⟨zzp, trivial⟩ fun u31 e32 => ?_))
   have e9 : Nt.trimQ m = [] := List.eq_nil_of_length_eq_zero (by omega)
   rw [Nt.mul_nil (.inr e9)]
   exact ⟨⟨none, 0, 0⟩, rfl, pol_nil _ _⟩
  ·replace hb30 : ((y22.n : Int) == 0) = false := hb30
   have qhb30 : ¬ ((y22.n : Int) = 0) := by simpa using hb30
   refine zzr (zzo ?_)
   refine sq9 ?_
   refine zza 32 (.v y14.v) ?_
   refine zza 33 (.v (.int .i64 (y14.n : Int))) ?_
   refine zza 34 (.v y22.v) ?_
   refine zza 35 (.v (.int .i64 (y22.n : Int))) ?_
   refine zyp 36 (x := .v (.int .i64 (IntKind.i64.wrap ((y14.n : Int) + (y22.n : Int))))) (.v (.int .i64 ((y14.n + y22.n : Nat) : Int))) (eqI (by rw [IntWalk.i64_in _ (by omega)]; omega)) ?_
   refine zyp 37 (x := .v (.int .i64 (IntKind.i64.wrap (((y14.n + y22.n : Nat) : Int) - 1)))) (.v (.int .i64 (((y14.n + y22.n) - 1 : Nat) : Int))) (eqI (by rw [IntWalk.i64_in _ (by omega)]; omega)) ?_
   refine zzf 38 124 [.int .i64 (((y14.n + y22.n) - 1 : Nat) : Int)] ?_
   intro w33 u33 e33 d33
   have k42 := k_zeros (n := (y14.n + y22.n) - 1) d33 (by omega)
   with_reducible refine Post.mono k42 ?_
   rintro _ u40 g41 ⟨b34, L35, rfl, hb36, hh37, hL38, hR39⟩
   refine zza 9 (.v (.slice (some ⟨b34, 0, none⟩) ((y14.n + y22.n) - 1) ((y14.n + y22.n) - 1))) ?_
   refine zzb 75 [(5, .adr 5 0), (6, .v y14.v), (7, .adr 7 0), (8, .v y22.v), (9, .v (.slice (some ⟨b34, 0, none⟩) ((y14.n + y22.n) - 1) ((y14.n + y22.n) - 1)))] [(5, ⟨26, r12.cs⟩), (7, ⟨26, r20.cs⟩)] ?_
   refine zzc ?_
   refine zzc ?_
   refine sw_adopt (r := 9) (k := 9) (by rfl) ((Ext.refl _).cells hh37) (Nat.le_trans ((e11.trans (g17.ext.trans (e19.trans (g25.ext.trans e33)))).size) hb36) (by kernel_rfl) (fun u43 eB44 => ?_)
   replace hR39 := (hR39.ext (Ext.refl _)).extB ((Ext.refl _).cells hh37) eB44
   refine zze ?_
   refine zza 39 (.v y14.v) ?_
   refine zza 40 (.v (.int .i64 (y14.n : Int))) ?_
   refine zza 41 (.v (.int .i64 0)) ?_
   refine zzb 75 [(5, .adr 5 0), (7, .adr 7 0), (8, .v y22.v), (9, .slc 9 0 ((y14.n + y22.n) - 1) ((y14.n + y22.n) - 1)), (39, .v y14.v), (40, .v (.int .i64 (y14.n : Int))), (41, .v (.int .i64 0))] [(5, ⟨26, r12.cs⟩), (7, ⟨26, r20.cs⟩), (9, ⟨26, rcs L35⟩)] ?_
   refine zzs ?_
   refine zym (I := fun m45 S' u' => ∃ (i : Nat) (L : List RL), (m45 = (Nt.trimQ l).length - i) ∧ (i ≤ (Nt.trimQ l).length) ∧ (L.length = ((Nt.trimQ l).length + (Nt.trimQ m).length - 1)) ∧ (S' = St.of 75 [(5, .adr 5 0), (7, .adr 7 0), (8, .v (.slice y22.a y22.n y22.c)), (9, .slc 9 0 ((y14.n + y22.n) - 1) ((y14.n + y22.n) - 1)), (39, .v (.slice y14.a y14.n y14.c)), (40, .v (.int .i64 (y14.n : Int))), (41, .v (.int .i64 (i : Int)))] [(5, ⟨26, r12.cs⟩), (7, ⟨26, r20.cs⟩), (9, ⟨26, rcs L⟩)]) ∧ (Ext u43 u') ∧ (RatsN u' L (Nt.outQ ((Nt.trimQ l).map (· / Nt.msr (Nt.trimQ l))) ((Nt.trimQ m).map (· / Nt.msr (Nt.trimQ m))) ((Nt.trimQ l).length + (Nt.trimQ m).length - 1) i) (Nt.kk ((K + ((Nt.trimQ l).length * K + 2)) + (M + ((Nt.trimQ m).length * M + 2)) + 1) (i * (Nt.trimQ m).length)))) (fun m S u1 u2 e h => by obtain ⟨i, L, hm, p0, p1, hS, hE, f0⟩ := h; exact ⟨i, L, hm, p0, p1, hS, hE.trans e, f0.ext e⟩) _ (T := St.of 75 [(5, .adr 5 0), (7, .adr 7 0), (8, .v (.slice y22.a y22.n y22.c)), (9, .slc 9 0 ((y14.n + y22.n) - 1) ((y14.n + y22.n) - 1)), (39, .v (.slice y14.a y14.n y14.c)), (40, .v (.int .i64 (y14.n : Int))), (41, .v (.int .i64 0))] [(5, ⟨26, r12.cs⟩), (7, ⟨26, r20.cs⟩), (9, ⟨26, rcs L35⟩)]) (by exact zzu _ _ _) ⟨0, L35, rfl, by omega, by omega, rfl, Ext.refl _, (RatsN.more (K := 2) (by have h9 := hR39; rw [hly14, hly22] at h9; exact h9) (by unfold Nt.kk; omega))⟩ ?_
   rintro m45 _ u45 ⟨i, L, hm45, hi, hL, rfl, e45, hR⟩
   refine sq9 ?_
   refine zza 42 (.v (.bool (decide ((i : Int) < (y14.n : Int))))) ?_
   refine zzb 75 [(5, .adr 5 0), (7, .adr 7 0), (8, .v y22.v), (9, .slc 9 0 ((y14.n + y22.n) - 1) ((y14.n + y22.n) - 1)), (39, .v y14.v), (40, .v (.int .i64 (y14.n : Int))), (41, .v (.int .i64 (i : Int))), (42, .v (.bool (decide ((i : Int) < (y14.n : Int)))))] [(5, ⟨26, r12.cs⟩), (7, ⟨26, r20.cs⟩), (9, ⟨26, rcs L⟩)] ?_
   refine zzc ?_
   refine zzt (b := decide ((i : Int) < (y14.n : Int))) (by kernel_rfl) (fun hb46 => ?_) (fun hb46 => ?_)
   ·replace hb46 : (decide ((i : Int) < (y14.n : Int))) = true := hb46
    have qhb46 := of_decide_eq_true hb46
    refine zzr (zzo ?_)
    refine zzc ?_
    refine zzs ?_
    refine sq9 ?_
    refine zza 43 (.v (.int .i64 (i : Int))) ?_
    have hl47 := (h15.ext (e19.trans (g25.ext.trans (e33.trans ((ExtB.old eB44 g41.ext hb36).trans e45))))).len
    obtain ⟨r47, b47, o47, hA47, hc47, hr47⟩ := pol_atN (h15.ext (e19.trans (g25.ext.trans (e33.trans ((ExtB.old eB44 g41.ext hb36).trans e45))))) (i := i) (by omega)
    refine zzz 44 (o47 + i * 3) (n := y14.n) (off := o47) (sz := 3) (i := (i : Int)) (by omega) hA47 (by omega) (by omega) sl41 ?_
    refine zyl 45 r47.cs hc47 ty26 ?_
    refine zzj 11 ⟨26, [.bool false, .slice none 0 0, .slice none 0 0]⟩ ?_
    refine zza 10 (.v (.int .i64 (i : Int))) ?_
    refine zzi ⟨26, r47.cs⟩ ty26 ?_
    refine zzb 75 [(5, .adr 5 0), (7, .adr 7 0), (8, .v y22.v), (9, .slc 9 0 ((y14.n + y22.n) - 1) ((y14.n + y22.n) - 1)), (10, .v (.int .i64 (i : Int))), (11, .adr 11 0), (39, .v y14.v), (40, .v (.int .i64 (y14.n : Int))), (41, .v (.int .i64 (i : Int)))] [(5, ⟨26, r12.cs⟩), (7, ⟨26, r20.cs⟩), (9, ⟨26, rcs L⟩), (11, ⟨26, r47.cs⟩)] ?_
    refine sq9 ?_
    refine zza 46 (.v y22.v) ?_
    refine zza 47 (.v (.int .i64 (y22.n : Int))) ?_
    refine zza 48 (.v (.int .i64 0)) ?_
    refine zzb 75 [(5, .adr 5 0), (7, .adr 7 0), (8, .v y22.v), (9, .slc 9 0 ((y14.n + y22.n) - 1) ((y14.n + y22.n) - 1)), (10, .v (.int .i64 (i : Int))), (11, .adr 11 0), (39, .v y14.v), (40, .v (.int .i64 (y14.n : Int))), (41, .v (.int .i64 (i : Int))), (46, .v y22.v), (47, .v (.int .i64 (y22.n : Int))), (48, .v (.int .i64 0))] [(5, ⟨26, r12.cs⟩), (7, ⟨26, r20.cs⟩), (9, ⟨26, rcs L⟩), (11, ⟨26, r47.cs⟩)] ?_
    refine zzs ?_
    refine zym (I := fun m48 S' u' => ∃ (j : Nat) (M9 : List RL), (m48 = (Nt.trimQ m).length - j) ∧ (j ≤ (Nt.trimQ m).length) ∧ (M9.length = ((Nt.trimQ l).length + (Nt.trimQ m).length - 1)) ∧ (S' = St.of 75 [(5, .adr 5 0), (7, .adr 7 0), (8, .v (.slice y22.a y22.n y22.c)), (9, .slc 9 0 ((y14.n + y22.n) - 1) ((y14.n + y22.n) - 1)), (10, .v (.int .i64 (i : Int))), (11, .adr 11 0), (39, .v (.slice y14.a y14.n y14.c)), (40, .v (.int .i64 (y14.n : Int))), (41, .v (.int .i64 (i : Int))), (46, .v (.slice y22.a y22.n y22.c)), (47, .v (.int .i64 (y22.n : Int))), (48, .v (.int .i64 (j : Int)))] [(5, ⟨26, r12.cs⟩), (7, ⟨26, r20.cs⟩), (9, ⟨26, rcs M9⟩), (11, ⟨26, r47.cs⟩)]) ∧ (Ext u45 u') ∧ (RatsN u' M9 (Nt.inn (Nt.outQ ((Nt.trimQ l).map (· / Nt.msr (Nt.trimQ l))) ((Nt.trimQ m).map (· / Nt.msr (Nt.trimQ m))) ((Nt.trimQ l).length + (Nt.trimQ m).length - 1) i) i (((Nt.trimQ l).map (· / Nt.msr (Nt.trimQ l))).getD i 0) ((Nt.trimQ m).map (· / Nt.msr (Nt.trimQ m))) j) (Nt.kk ((K + ((Nt.trimQ l).length * K + 2)) + (M + ((Nt.trimQ m).length * M + 2)) + 1) (i * (Nt.trimQ m).length + j)))) (fun m S u1 u2 e h => by obtain ⟨j, M9, hm, p0, p1, hS, hE, f0⟩ := h; exact ⟨j, M9, hm, p0, p1, hS, hE.trans e, f0.ext e⟩) _ (T := St.of 75 [(5, .adr 5 0), (7, .adr 7 0), (8, .v (.slice y22.a y22.n y22.c)), (9, .slc 9 0 ((y14.n + y22.n) - 1) ((y14.n + y22.n) - 1)), (10, .v (.int .i64 (i : Int))), (11, .adr 11 0), (39, .v (.slice y14.a y14.n y14.c)), (40, .v (.int .i64 (y14.n : Int))), (41, .v (.int .i64 (i : Int))), (46, .v (.slice y22.a y22.n y22.c)), (47, .v (.int .i64 (y22.n : Int))), (48, .v (.int .i64 0))] [(5, ⟨26, r12.cs⟩), (7, ⟨26, r20.cs⟩), (9, ⟨26, rcs L⟩), (11, ⟨26, r47.cs⟩)]) (by exact zzu _ _ _) ⟨0, L, rfl, by omega, by omega, rfl, Ext.refl _, hR⟩ ?_
    rintro m48 _ u48 ⟨j, M9, hm48, hj, hM9, rfl, e48, hQ⟩
    have hmm := Nat.mul_le_mul_right (Nt.trimQ m).length (show i + 1 ≤ (Nt.trimQ l).length by omega)
    rw [Nat.add_mul] at hmm
    have hkk := Nt.kk_mono (W := ((K + ((Nt.trimQ l).length * K + 2)) + (M + ((Nt.trimQ m).length * M + 2)) + 1)) (t := i * (Nt.trimQ m).length + j) (t' := (Nt.trimQ l).length * (Nt.trimQ m).length) (Nat.le_refl _) (by omega)
    have hk2 := Nt.kk_succ ((K + ((Nt.trimQ l).length * K + 2)) + (M + ((Nt.trimQ m).length * M + 2)) + 1) (i * (Nt.trimQ m).length + j)
    refine sq9 ?_
    refine zza 49 (.v (.bool (decide ((j : Int) < (y22.n : Int))))) ?_
    refine zzb 75 [(5, .adr 5 0), (7, .adr 7 0), (8, .v y22.v), (9, .slc 9 0 ((y14.n + y22.n) - 1) ((y14.n + y22.n) - 1)), (10, .v (.int .i64 (i : Int))), (11, .adr 11 0), (39, .v y14.v), (40, .v (.int .i64 (y14.n : Int))), (41, .v (.int .i64 (i : Int))), (46, .v y22.v), (47, .v (.int .i64 (y22.n : Int))), (48, .v (.int .i64 (j : Int))), (49, .v (.bool (decide ((j : Int) < (y22.n : Int)))))] [(5, ⟨26, r12.cs⟩), (7, ⟨26, r20.cs⟩), (9, ⟨26, rcs M9⟩), (11, ⟨26, r47.cs⟩)] ?_
    refine zzc ?_
    refine zzt (b := decide ((j : Int) < (y22.n : Int))) (by kernel_rfl) (fun hb49 => ?_) (fun hb49 => ?_)
    ·replace hb49 : (decide ((j : Int) < (y22.n : Int))) = true := hb49
     have qhb49 := of_decide_eq_true hb49
     refine zzr (zzo ?_)
     refine zzc ?_
     refine zzs ?_
     refine sq9 ?_
     refine zza 50 (.v (.int .i64 (j : Int))) ?_
     have hl50 := (h23.ext (e33.trans ((ExtB.old eB44 g41.ext hb36).trans (e45.trans e48)))).len
     obtain ⟨r50, b50, o50, hA50, hc50, hr50⟩ := pol_atN (h23.ext (e33.trans ((ExtB.old eB44 g41.ext hb36).trans (e45.trans e48)))) (i := j) (by omega)
     refine zzz 51 (o50 + j * 3) (n := y22.n) (off := o50) (sz := 3) (i := (j : Int)) (by omega) hA50 (by omega) (by omega) sl41 ?_
     refine zyl 52 r50.cs hc50 ty26 ?_
     refine zzj 13 ⟨26, [.bool false, .slice none 0 0, .slice none 0 0]⟩ ?_
     refine zza 12 (.v (.int .i64 (j : Int))) ?_
     refine zzi ⟨26, r50.cs⟩ ty26 ?_
     refine zzb 75 [(5, .adr 5 0), (7, .adr 7 0), (8, .v y22.v), (9, .slc 9 0 ((y14.n + y22.n) - 1) ((y14.n + y22.n) - 1)), (10, .v (.int .i64 (i : Int))), (11, .adr 11 0), (12, .v (.int .i64 (j : Int))), (13, .adr 13 0), (39, .v y14.v), (40, .v (.int .i64 (y14.n : Int))), (41, .v (.int .i64 (i : Int))), (46, .v y22.v), (47, .v (.int .i64 (y22.n : Int))), (48, .v (.int .i64 (j : Int)))] [(5, ⟨26, r12.cs⟩), (7, ⟨26, r20.cs⟩), (9, ⟨26, rcs M9⟩), (11, ⟨26, r47.cs⟩), (13, ⟨26, r50.cs⟩)] ?_
     refine zzy [0, 0, 0, 6, 0, 0, 0, 96, 240, 496, 0, 0, 3072, 8176, 16383, 32767] [(0, []), (1, []), (2, []), (3, []), (4, []), (5, []), (6, []), (7, []), (8, []), (9, []), (10, []), (11, []), (12, []), (13, []), (14, []), (15, [])] (by kernel_rfl) (by kernel_rfl) ?_
     refine zza 53 (.slc 9 0 ((y14.n + y22.n) - 1) ((y14.n + y22.n) - 1)) ?_
     refine zza 54 (.v (.int .i64 (i : Int))) ?_
     refine zza 55 (.v (.int .i64 (j : Int))) ?_
     refine zyp 56 (x := .v (.int .i64 (IntKind.i64.wrap ((i : Int) + (j : Int))))) (.v (.int .i64 ((i + j : Nat) : Int))) (eqI (by rw [IntWalk.i64_in _ (by omega)]; omega)) ?_
     refine zza 57 (.slc 9 0 ((y14.n + y22.n) - 1) ((y14.n + y22.n) - 1)) ?_
     refine zza 58 (.v (.int .i64 (i : Int))) ?_
     refine zza 59 (.v (.int .i64 (j : Int))) ?_
     refine zyp 60 (x := .v (.int .i64 (IntKind.i64.wrap ((i : Int) + (j : Int))))) (.v (.int .i64 ((i + j : Nat) : Int))) (eqI (by rw [IntWalk.i64_in _ (by omega)]; omega)) ?_
     refine zyv 61 (off' := (i + j) * 3) (n := (y14.n + y22.n) - 1) (off := 0) (sz := 3) (i := ((i + j : Nat) : Int)) sl41 (by omega) (by omega) (by omega) ?_
     obtain ⟨r51, hrr51⟩ : ∃ r : RL, (M9).getD (i + j) rl0 = r := ⟨_, rfl⟩
     refine zzh 62 (V := ⟨26, rcs M9⟩) (off := (i + j) * 3) (.v r51.v) ty26 (by have h9 := part_rcs (L := M9) (i := i + j) (off := (i + j) * 3) (by first|omega|(simp;omega)) rfl; rw [hrr51] at h9; exact h9) ?_
     have h52 := hQ.2 (i + j) (by first|omega|(simp;omega))
     rw [hrr51] at h52
     refine zzh 63 (.v (r47.v)) ty26 zzd ?_
     refine zzh 64 (.v (r50.v)) ty26 zzd ?_
     refine zzf 65 111 [r47.v, r50.v] ?_
     intro w53 u53 e53 d53
     have k58 := k_ratMul d53 (hr47.ext (e48.trans e53)).raw (hr50.ext e53).raw (by omega) (by omega)
     with_reducible refine Post.mono k58 ?_
     rintro _ u56 g57 ⟨r54, rfl, h55⟩
     refine zzf 66 104 [r51.v, r54.v] ?_
     intro w59 u59 e59 d59
     have k64 := k_ratAdd d59 (h52.ext (e53.trans (g57.ext.trans e59))).raw (h55.ext e59).raw (by omega) (by omega)
     with_reducible refine Post.mono k64 ?_
     rintro _ u62 g63 ⟨r60, rfl, h61⟩
     refine zyv 67 (off' := (i + j) * 3) (n := (y14.n + y22.n) - 1) (off := 0) (sz := 3) (i := ((i + j : Nat) : Int)) sl41 (by omega) (by omega) (by omega) ?_
     refine zyu (V := ⟨26, rcs M9⟩) (off := (i + j) * 3) (rcs ((M9).set (i + j) r60)) ty26 (by rw [zyx]; first|omega|(simp;omega)) (zyw (r := r60) (i := i + j) (by first|omega|(simp;omega)) rfl) ?_
     refine zzw ?_
     refine zzo ?_
     refine zze ?_
     refine zyp 68 (x := .v (.int .i64 (IntKind.i64.wrap ((j : Int) + 1)))) (.v (.int .i64 ((j + 1 : Nat) : Int))) (eqI (by rw [IntWalk.i64_in _ (by omega)]; omega)) ?_
     refine zza 48 (.v (.int .i64 ((j + 1 : Nat) : Int))) ?_
     refine zzw ?_
     refine ⟨_, ?_, St.of 75 [(5, .adr 5 0), (7, .adr 7 0), (8, .v (.slice y22.a y22.n y22.c)), (9, .slc 9 0 ((y14.n + y22.n) - 1) ((y14.n + y22.n) - 1)), (10, .v (.int .i64 (i : Int))), (11, .adr 11 0), (39, .v (.slice y14.a y14.n y14.c)), (40, .v (.int .i64 (y14.n : Int))), (41, .v (.int .i64 (i : Int))), (46, .v (.slice y22.a y22.n y22.c)), (47, .v (.int .i64 (y22.n : Int))), (48, .v (.int .i64 ((j + 1 : Nat) : Int)))] [(5, ⟨26, r12.cs⟩), (7, ⟨26, r20.cs⟩), (9, ⟨26, rcs ((M9).set (i + j) r60)⟩), (11, ⟨26, r47.cs⟩)], by exact zzu _ _ _, j + 1, (M9).set (i + j) r60, rfl, by omega, by simp; omega, rfl, (e48.trans (e53.trans (g57.ext.trans (e59.trans g63.ext)))), (RatsN.set (i := i + j) (RatsN.more (K := Nt.kk ((K + ((Nt.trimQ l).length * K + 2)) + (M + ((Nt.trimQ m).length * M + 2)) + 1) (i * (Nt.trimQ m).length + j)) (hQ.ext (e53.trans (g57.ext.trans (e59.trans g63.ext)))) (by show _ ≤ Nt.kk _ (i * (Nt.trimQ m).length + j + 1); omega)) (by simp; omega) (RatN.more (K := ((Nt.kk ((K + ((Nt.trimQ l).length * K + 2)) + (M + ((Nt.trimQ m).length * M + 2)) + 1) (i * (Nt.trimQ m).length + j)) + ((K + ((Nt.trimQ l).length * K + 2)) + (M + ((Nt.trimQ m).length * M + 2))) + 1)) h61 (by show _ ≤ Nt.kk _ (i * (Nt.trimQ m).length + j + 1); omega)))⟩
     omega
    ·replace hb49 : (decide ((j : Int) < (y22.n : Int))) = false := hb49
     have qhb49 := of_decide_eq_false hb49
     refine zyb ?_
     refine zzo ?_
     refine zze ?_
     refine zyp 69 (x := .v (.int .i64 (IntKind.i64.wrap ((i : Int) + 1)))) (.v (.int .i64 ((i + 1 : Nat) : Int))) (eqI (by rw [IntWalk.i64_in _ (by omega)]; omega)) ?_
     refine zza 41 (.v (.int .i64 ((i + 1 : Nat) : Int))) ?_
     refine zzw ?_
     have hj9 : j = (Nt.trimQ m).length := by omega
     refine ⟨_, ?_, St.of 75 [(5, .adr 5 0), (7, .adr 7 0), (8, .v (.slice y22.a y22.n y22.c)), (9, .slc 9 0 ((y14.n + y22.n) - 1) ((y14.n + y22.n) - 1)), (39, .v (.slice y14.a y14.n y14.c)), (40, .v (.int .i64 (y14.n : Int))), (41, .v (.int .i64 ((i + 1 : Nat) : Int)))] [(5, ⟨26, r12.cs⟩), (7, ⟨26, r20.cs⟩), (9, ⟨26, rcs M9⟩)], by exact zzu _ _ _, i + 1, M9, rfl, by omega, by omega, rfl, (e45.trans e48), (by have h9 := hQ; rw [hj9, ← Nat.succ_mul] at h9; have e9 : ((Nt.trimQ m).map (· / Nt.msr (Nt.trimQ m))).length = (Nt.trimQ m).length := (by simp); show RatsN _ _ (Nt.inn _ _ _ _ ((Nt.trimQ m).map (· / Nt.msr (Nt.trimQ m))).length) _; rw [e9]; exact h9)⟩
     omega
   ·replace hb46 : (decide ((i : Int) < (y14.n : Int))) = false := hb46
    have qhb46 := of_decide_eq_false hb46
    refine zyb ?_
    refine zzo ?_
    refine zzc ?_
    have hi9 : i = (Nt.trimQ l).length := by omega
    have hR2 : RatsN u45 L (Nt.outQ ((Nt.trimQ l).map (· / Nt.msr (Nt.trimQ l))) ((Nt.trimQ m).map (· / Nt.msr (Nt.trimQ m))) ((Nt.trimQ l).length + (Nt.trimQ m).length - 1) ((Nt.trimQ l).length)) (Nt.kk ((K + ((Nt.trimQ l).length * K + 2)) + (M + ((Nt.trimQ m).length * M + 2)) + 1) ((Nt.trimQ l).length * (Nt.trimQ m).length)) := by have h9 := hR; rw [hi9] at h9; exact h9
    refine zyo (r := 9) (t := 9) [9] (by repeat first | exact noAt_of | refine zyc ?_ | refine zye ?_ | refine zyd ?_ | refine zzx ?_ | refine zya ?_) (by kernel_rfl) (by rfl) (by rfl) (by kernel_rfl) (fun b65 u66 e67 hb68 hh69 => ?_)
    have hp70 : PolN u66 ⟨some ⟨b65, 0, none⟩, (y14.n + y22.n) - 1, (y14.n + y22.n) - 1⟩ (Nt.outQ ((Nt.trimQ l).map (· / Nt.msr (Nt.trimQ l))) ((Nt.trimQ m).map (· / Nt.msr (Nt.trimQ m))) ((Nt.trimQ l).length + (Nt.trimQ m).length - 1) ((Nt.trimQ l).length)) (Nt.kk ((K + ((Nt.trimQ l).length * K + 2)) + (M + ((Nt.trimQ m).length * M + 2)) + 1) ((Nt.trimQ l).length * (Nt.trimQ m).length)) := pol_data1 hh69 (by unfold maxLen; omega) (hR2.ext e67) (by omega)
    refine zze ?_
    refine zza 70 (.v (.slice (some ⟨b65, 0, none⟩) ((y14.n + y22.n) - 1) ((y14.n + y22.n) - 1))) ?_
    refine zzh 71 (.v (r12.v)) ty26 zzd ?_
    refine zzh 72 (.v (r20.v)) ty26 zzd ?_
    refine zzf 73 111 [r12.v, r20.v] ?_
    intro w71 u71 e71 d71
    have k76 := k_ratMul d71 (h13.ext (e19.trans (g25.ext.trans (e33.trans ((ExtB.old eB44 g41.ext hb36).trans (e45.trans (e67.trans e71))))))).raw (h21.ext (e33.trans ((ExtB.old eB44 g41.ext hb36).trans (e45.trans (e67.trans e71))))).raw (by omega) (by omega)
    with_reducible refine Post.mono k76 ?_
    rintro _ u74 g75 ⟨r72, rfl, h73⟩
    refine zzf 74 97 [.slice (some ⟨b65, 0, none⟩) ((y14.n + y22.n) - 1) ((y14.n + y22.n) - 1), r72.v] ?_
    intro w77 u77 e77 d77
    have k82 := k_poScale d77 (hp70.ext (e71.trans (g75.ext.trans e77))).raw (h73.ext e77).raw (by omega) (by first|omega|(simp;omega) | (refine Nat.le_trans (Nt.zzg _) ?_; first|omega|(simp;omega)) | (refine Nat.le_trans (Nt.zzg _) ?_; simp only [List.length_map]; refine Nat.le_trans (Nt.zzg _) ?_; first|omega|(simp;omega))) (by omega)
    with_reducible refine Post.mono k82 ?_
    rintro _ u80 g81 ⟨y78, rfl, h79⟩
    have hly78 := h79.len
    refine zza 4 (.v y78.v) ?_
    refine zzb 75 [(4, .v y78.v)] [] ?_
    refine zzn (ret0 [.slice y78.a y78.n y78.c] ⟨zzp, trivial⟩ fun u83 e84 => ?_)
    have h8 := Nt.mul_parts (Nt.msr_ne (Nt.trim_nrm l) (by omega)) (Nt.msr_ne (Nt.trim_nrm m) (by omega)) (l := (Nt.trimQ l)) (m := (Nt.trimQ m)) (by omega) (by omega)
    refine ⟨y78, rfl, PolN.more (K := ((Nt.kk ((K + ((Nt.trimQ l).length * K + 2)) + (M + ((Nt.trimQ m).length * M + 2)) + 1) ((Nt.trimQ l).length * (Nt.trimQ m).length)) + (((Nt.trimQ l).length * K + 2) + ((Nt.trimQ m).length * M + 2)))) ?_ ?_⟩
    ·rw [← Nt.mul_trim, ← h8]
     exact (h79.ext e84)
    ·exact Nat.le_trans (Nat.add_le_add_left (Nat.le_refl _) _) (Nt.mlK_mono (n := (Nt.trimQ l).length) (m := (Nt.trimQ m).length) htl htm (Nat.le_refl K) (Nat.le_refl M))
set_option maxHeartbeats 2000000 in
theorem k_r5Trim {u w : World} {x : Sl} {l : List Rat} {K : Nat} (d : Dat u w) (hx : PolV u x l K) (hK : K ≤ 50000000) (hx9 : l.length ≤ 1000000000) : Calls Tryz.prog 87 #[x.v] w (Post u w fun v u' => ∃ y : Sl, v = y.v ∧ PolN u' y (Nt.trimQ l) K) := by
 have hlen := hx.len
 have htl := Nt.zzg l
 refine zzl (args := [.slice x.a x.n x.c]) Tryz.func87 rfl Tryz.ntmps87 (rs := [.tmp 2]) Tryz.results87 (le_b rfl) (le_b rfl) d ?_
 refine sq9 ?_
 refine zza 2 (.v (.slice none 0 0)) ?_
 refine zzb 37 [(0, .v x.v)] [] ?_
 refine sq9 ?_
 refine zza 7 (.v x.v) ?_
 refine zza 8 (.v (.int .i64 (x.n : Int))) ?_
 refine zza 3 (.v (.int .i64 (x.n : Int))) ?_
 refine zzb 37 [(0, .v x.v), (3, .v (.int .i64 (x.n : Int)))] [] ?_
 refine zzc ?_
 refine zzs ?_
 refine zym (I := fun m11 S' u' => ∃ (n : Nat), (m11 = n) ∧ (n ≤ l.length) ∧ (∀ i, n ≤ i → Nt.co l i = 0) ∧ (S' = St.of 37 [(0, .v (.slice x.a x.n x.c)), (3, .v (.int .i64 (n : Int)))] []) ∧ (Ext u u')) (fun m S u1 u2 e h => by obtain ⟨n, hm, p0, p1, hS, hE⟩ := h; exact ⟨n, hm, p0, p1, hS, hE.trans e⟩) _ (T := St.of 37 [(0, .v (.slice x.a x.n x.c)), (3, .v (.int .i64 (x.n : Int)))] []) (by exact zzu _ _ _) ⟨x.n, rfl, by omega, fun i hi => Nt.co_ge (by omega), rfl, Ext.refl _⟩ ?_
 rintro m11 _ u11 ⟨n, hm11, hn, hz, rfl, e11⟩
 refine zzc ?_
 refine sq9 ?_
 refine zza 9 (.v (.int .i64 (n : Int))) ?_
 refine zza 10 (.v (.bool (decide ((0 : Int) < (n : Int))))) ?_
 rcases Bool.eq_false_or_eq_true (decide ((0 : Int) < (n : Int))) with hs12 | hs12
 ·refine zyp 11 (x := .v (.bool (decide ((0 : Int) < (n : Int))))) (.v (.bool true)) (by rw [hs12]) ?_
  have qhs12 := of_decide_eq_true hs12
  refine zza 12 (.v x.v) ?_ (hw := w1 2 true 11)
  refine zza 13 (.v (.int .i64 (n : Int))) ?_ (hw := w1 2 true 11)
  refine zyp 14 (x := .v (.int .i64 (IntKind.i64.wrap ((n : Int) - 1)))) (.v (.int .i64 ((n - 1 : Nat) : Int))) (eqI (by rw [IntWalk.i64_in _ (by omega)]; omega)) ?_ (hw := w1 2 true 11)
  have hl13 := (hx.ext e11).len
  obtain ⟨r13, b13, o13, hA13, hc13, hr13⟩ := pol_at (hx.ext e11) (i := n - 1) (by omega)
  refine zzz 15 (o13 + (n - 1) * 3) (n := x.n) (off := o13) (sz := 3) (i := ((n - 1 : Nat) : Int)) (by omega) hA13 (by omega) (by omega) sl41 ?_ (hw := w1 2 true 11)
  refine zyl 16 r13.cs hc13 ty26 ?_ (hw := w1 2 true 11)
  refine zzf 17 43 [r13.v] ?_ (hw := w1 2 true 11)
  intro w14 u14 e14 d14
  have k17 := k_rqSign d14 (hr13.ext e14) (by omega)
  with_reducible refine Post.mono k17 ?_
  rintro _ u15 g16 rfl
  refine zza 18 (.v (.bool ((Nt.sgQ (l.getD (n - 1) 0)) == 0))) ?_ (hw := w1 2 true 11)
  refine zza 19 (.v (.bool ((Nt.sgQ (l.getD (n - 1) 0)) == 0))) ?_
  refine zzb 37 [(0, .v x.v), (3, .v (.int .i64 (n : Int))), (19, .v (.bool ((Nt.sgQ (l.getD (n - 1) 0)) == 0)))] [] ?_
  refine zzt (b := (Nt.sgQ (l.getD (n - 1) 0)) == 0) (by kernel_rfl) (fun hb18 => ?_) (fun hb18 => ?_)
  ·replace hb18 : ((Nt.sgQ (l.getD (n - 1) 0)) == 0) = true := hb18
   refine zzr (zzo ?_)
   refine zzs ?_
   refine zze ?_
   refine zza 20 (.v (.int .i64 (n : Int))) ?_
   refine zyp 21 (x := .v (.int .i64 (IntKind.i64.wrap ((n : Int) - 1)))) (.v (.int .i64 ((n - 1 : Nat) : Int))) (eqI (by rw [IntWalk.i64_in _ (by omega)]; omega)) ?_
   refine zza 3 (.v (.int .i64 ((n - 1 : Nat) : Int))) ?_
   refine zzw ?_
   refine ⟨_, ?_, St.of 37 [(0, .v (.slice x.a x.n x.c)), (3, .v (.int .i64 ((n - 1 : Nat) : Int)))] [], by exact zzu _ _ _, n - 1, rfl, by omega, (fun i hi => by by_cases e : i = n - 1; (rw [e]; have h9 := hb18; rw [Nt.sgQ_eq] at h9; exact of_decide_eq_true h9); exact hz i (by omega)), rfl, (e11.trans (e14.trans g16.ext))⟩
   omega
  ·replace hb18 : ((Nt.sgQ (l.getD (n - 1) 0)) == 0) = false := hb18
   refine zyb ?_
   refine zzo ?_
   refine zzc ?_
   have he9 := Nt.trim_len_of (l := l) hn hz (fun _ h => by have h9 := hb18; rw [Nt.sgQ_eq] at h9; exact of_decide_eq_false h9 h)
   clear hz
   refine zze ?_
   refine zza 4 (.v (.slice none 0 0)) ?_
   refine zzb 37 [(0, .v x.v), (3, .v (.int .i64 (n : Int))), (4, .v (.slice none 0 0))] [] ?_
   refine zzc ?_
   refine sq9 ?_
   refine zza 22 (.v x.v) ?_
   refine zza 23 (.v (.int .i64 (n : Int))) ?_
   have hl19 := (hx.ext (e11.trans (e14.trans g16.ext))).len
   have hc19 := (hx.ext (e11.trans (e14.trans g16.ext))).cap
   refine sy_front 24 (n := x.n) (c := x.c) n sl41 rfl (by omega) ?_
   refine zza 25 (.v (.int .i64 (n : Int))) ?_
   refine zza 26 (.v (.int .i64 0)) ?_
   refine zzb 37 [(4, .v (.slice none 0 0)), (24, .v (.slice x.a n x.c)), (25, .v (.int .i64 (n : Int))), (26, .v (.int .i64 0))] [] ?_
   refine zzs ?_
   refine zym (I := fun m20 S' u' => (m20 = n ∧ S' = St.of 37 [(4, .v (.slice none 0 0)), (24, .v (.slice x.a n x.c)), (25, .v (.int .i64 (n : Int))), (26, .v (.int .i64 0))] [] ∧ Ext u15 u') ∨ (∃ (i : Nat) (L : List RL) (cs : List Value) (cp : Nat), m20 = n - i ∧ i ≤ n ∧ 0 < i ∧ L.length = i ∧ cs.length = cp * 3 ∧ i ≤ cp ∧ cp ≤ maxLen ∧ cs.take (i * 3) = rcs L ∧ S' = St.of 37 [(4, .slc 34 0 i cp), (24, .v (.slice x.a n x.c)), (25, .v (.int .i64 (n : Int))), (26, .v (.int .i64 (i : Int)))] [(34, ⟨26, cs⟩)] ∧ Ext u15 u' ∧ RatsN u' L ((Nt.trimQ l).take i) K)) (fun m S u1 u2 e h => by rcases h with ⟨a, b, c⟩ | ⟨a1, a2, a3, a4, b1, b2, b3, b4, b5, b6, b7, b8, b9, b10, b11⟩; exact .inl ⟨a, b, c.trans e⟩; exact .inr ⟨a1, a2, a3, a4, b1, b2, b3, b4, b5, b6, b7, b8, b9, b10.trans e, b11.ext e⟩) _ (T := St.of 37 [(4, .v (.slice none 0 0)), (24, .v (.slice x.a n x.c)), (25, .v (.int .i64 (n : Int))), (26, .v (.int .i64 0))] []) (by exact zzu _ _ _) (.inl ⟨rfl, rfl, Ext.refl _⟩) ?_
   rintro m20 _ u20 (⟨hm20, rfl, e20⟩ | ⟨i, L, cs, cp, hm20, hi, hp, hL, hc, hle, hmx, ht, rfl, e20, hR⟩)
   ·change SW _ _ _ _ (St.of 37 [(4, .v (.slice none 0 0)), (24, .v (.slice x.a n x.c)), (25, .v (.int .i64 (n : Int))), (26, .v (.int .i64 0))] []) _ _
    refine sq9 ?_
    refine zza 27 (.v (.bool (decide ((0 : Int) < (n : Int))))) ?_
    refine zzb 37 [(4, .v (.slice none 0 0)), (24, .v (.slice x.a n x.c)), (25, .v (.int .i64 (n : Int))), (26, .v (.int .i64 0)), (27, .v (.bool (decide ((0 : Int) < (n : Int)))))] [] ?_
    refine zzc ?_
    refine zzt (b := decide ((0 : Int) < (n : Int))) (by kernel_rfl) (fun hb21 => ?_) (fun hb21 => ?_)
    ·replace hb21 : (decide ((0 : Int) < (n : Int))) = true := hb21
     have qhb21 := of_decide_eq_true hb21
     refine zzr (zzo ?_)
     refine zzc ?_
     refine zzs ?_
     refine sq9 ?_
     have hl22 := ((pol_take (hx.ext (e11.trans (e14.trans g16.ext))) (by omega)).ext e20).len
     change n = _ at hl22
     obtain ⟨r22, b22, o22, hA22, hc22, hr22⟩ := pol_at ((pol_take (hx.ext (e11.trans (e14.trans g16.ext))) (by omega)).ext e20) (i := 0) (by omega)
     refine zzz 28 (o22 + 0 * 3) (n := n) (off := o22) (sz := 3) (i := 0) (by omega) hA22 (by omega) (by omega) sl41 ?_
     refine zyl 29 r22.cs hc22 ty26 ?_
     refine zzj 6 ⟨26, [.bool false, .slice none 0 0, .slice none 0 0]⟩ ?_
     refine zzi ⟨26, r22.cs⟩ ty26 ?_
     refine zzb 37 [(4, .v (.slice none 0 0)), (6, .adr 6 0), (24, .v (.slice x.a n x.c)), (25, .v (.int .i64 (n : Int))), (26, .v (.int .i64 0))] [(6, ⟨26, r22.cs⟩)] ?_
     refine zze ?_
     refine zza 30 (.v (.slice none 0 0)) ?_
     refine zzh 31 (.v (r22.v)) ty26 zzd ?_
     refine zzf 32 142 [r22.v] ?_
     intro w23 u23 e23 d23
     have k28 := k_rqTrim d23 (hr22.ext e23) (by omega)
     with_reducible refine Post.mono k28 ?_
     rintro _ u26 g27 ⟨r24, rfl, h25⟩
     refine sy_data 33 ⟨26, r24.cs⟩ 1 (fun b29 u30 e31 h32 => ?_)
     have hp33 : PolN u30 (⟨some ⟨b29, 0, none⟩, 1, 1⟩ : Sl) [((l.take n).getD 0 0)] K := pol_lit (L := [r24]) h32 (rats1 (h25.ext e31)) rfl (by decide)
     refine sy_app0 34 (T := 41) (E := 26) (z := .agg #[.bool false, .slice none 0 0, .slice none 0 0]) (size := 3) (bytes := 56) (b := b29) (off := 0) (m := 1) r24.cs (by kernel_rfl) (by kernel_rfl) (by kernel_rfl) (by decide) rfl (lit_news ((Ext.refl _).cells h32)) (rl_one r24) (by decide) (by decide) (by decide) ?_
     intro c34 cs34 ha34 hb34 hc34 hd34
     refine zza 4 (.slc 34 0 1 c34) ?_
     refine zzw ?_
     refine zzo ?_
     refine zze ?_
     refine zza 35 (.v (.int .i64 1)) ?_
     refine zza 26 (.v (.int .i64 1)) ?_
     refine zzw ?_
     have ht35 : 0 < (Nt.trimQ l).length := by skip; omega
     refine ⟨_, ?_, St.of 37 [(4, .slc 34 0 1 c34), (24, .v (.slice x.a n x.c)), (25, .v (.int .i64 (n : Int))), (26, .v (.int .i64 1))] [(34, ⟨26, cs34⟩)], by exact zzu _ _ _, .inr ⟨1, [r24], cs34, c34, rfl, by omega, by omega, by simp, hc34, by omega, hb34, hd34, rfl, (e20.trans (e23.trans (g27.ext.trans e31))), (app_first (RatN.more (K := K) (h25.ext e31) (by omega)) ht35 (by rw [List.getD_eq_getElem?_getD, List.getElem?_take_of_lt (by omega), ← List.getD_eq_getElem?_getD]; exact (Nt.trim_co l 0).symm))⟩⟩
     omega
    ·replace hb21 : (decide ((0 : Int) < (n : Int))) = false := hb21
     have qhb21 := of_decide_eq_false hb21
     refine zyb ?_
     refine zzo ?_
     refine zzc ?_
     have hp36 : PolN u20 ⟨none, 0, 0⟩ (Nt.trimQ l) K := by have h9 : Nt.trimQ l = [] := List.eq_nil_of_length_eq_zero (by skip; omega); rw [h9]; exact pol_nil _ _
     refine zze ?_
     refine zza 36 (.v (.slice none 0 0)) ?_
     refine zza 2 (.v (.slice none 0 0)) ?_
     refine zzb 37 [(2, .v (.slice none 0 0))] [] ?_
     refine zzn (ret0 [.slice none 0 0] ⟨zzp, trivial⟩ fun u37 e38 => ?_)
     refine ⟨⟨none, 0, 0⟩, rfl, ?_⟩
     exact (hp36.ext e38)
   ·change SW _ _ _ _ (St.of 37 [(4, .slc 34 0 i cp), (24, .v (.slice x.a n x.c)), (25, .v (.int .i64 (n : Int))), (26, .v (.int .i64 (i : Int)))] [(34, ⟨26, cs⟩)]) _ _
    refine sq9 ?_
    refine zza 27 (.v (.bool (decide ((i : Int) < (n : Int))))) ?_
    refine zzb 37 [(4, .slc 34 0 i cp), (24, .v (.slice x.a n x.c)), (25, .v (.int .i64 (n : Int))), (26, .v (.int .i64 (i : Int))), (27, .v (.bool (decide ((i : Int) < (n : Int)))))] [(34, ⟨26, cs⟩)] ?_
    refine zzc ?_
    refine zzt (b := decide ((i : Int) < (n : Int))) (by kernel_rfl) (fun hb39 => ?_) (fun hb39 => ?_)
    ·replace hb39 : (decide ((i : Int) < (n : Int))) = true := hb39
     have qhb39 := of_decide_eq_true hb39
     refine zzr (zzo ?_)
     refine zzc ?_
     refine zzs ?_
     refine sq9 ?_
     have hl40 := ((pol_take (hx.ext (e11.trans (e14.trans g16.ext))) (by omega)).ext e20).len
     change n = _ at hl40
     obtain ⟨r40, b40, o40, hA40, hc40, hr40⟩ := pol_at ((pol_take (hx.ext (e11.trans (e14.trans g16.ext))) (by omega)).ext e20) (i := i) (by omega)
     refine zzz 28 (o40 + i * 3) (n := n) (off := o40) (sz := 3) (i := (i : Int)) (by omega) hA40 (by omega) (by omega) sl41 ?_
     refine zyl 29 r40.cs hc40 ty26 ?_
     refine zzj 6 ⟨26, [.bool false, .slice none 0 0, .slice none 0 0]⟩ ?_
     refine zzi ⟨26, r40.cs⟩ ty26 ?_
     refine zzb 37 [(4, .slc 34 0 i cp), (6, .adr 6 0), (24, .v (.slice x.a n x.c)), (25, .v (.int .i64 (n : Int))), (26, .v (.int .i64 (i : Int)))] [(6, ⟨26, r40.cs⟩), (34, ⟨26, cs⟩)] ?_
     refine zze ?_
     refine zza 30 (.slc 34 0 i cp) ?_
     refine zzh 31 (.v (r40.v)) ty26 zzd ?_
     refine zzf 32 142 [r40.v] ?_
     intro w41 u41 e41 d41
     have k46 := k_rqTrim d41 (hr40.ext e41) (by omega)
     with_reducible refine Post.mono k46 ?_
     rintro _ u44 g45 ⟨r42, rfl, h43⟩
     refine sy_data 33 ⟨26, r42.cs⟩ 1 (fun b47 u48 e49 h50 => ?_)
     have hp51 : PolN u48 (⟨some ⟨b47, 0, none⟩, 1, 1⟩ : Sl) [((l.take n).getD i 0)] K := pol_lit (L := [r42]) h50 (rats1 (h43.ext e49)) rfl (by decide)
     refine sy_app1 34 (T := 41) (E := 26) (z := .agg #[.bool false, .slice none 0 0, .slice none 0 0]) (size := 3) (bytes := 56) (b := b47) (off := 0) (m := 1) (n := i) (cap := cp) (t := 34) (cs0 := cs) [4, 30, 34] r42.cs (by kernel_rfl) (by kernel_rfl) (by kernel_rfl) (by decide) rfl (lit_news ((Ext.refl _).cells h50)) (rl_one r42) (by decide) (by unfold maxLen; omega) (by omega) (by omega) (by omega) (by omega) (by repeat first | exact noAt_of | refine zyc ?_ | refine zye ?_ | refine zyd ?_ | refine zzx ?_ | refine zya ?_) ?_
     intro c52 cs52 ha52 hb52 hc52 hd52
     have hd52r : cs52.take ((i + 1) * 3) = rcs (L ++ [r42]) := by rw [hd52, ht, rcs_app]; rfl
     refine zza 4 (.slc 34 0 (i + 1) c52) ?_
     refine zzw ?_
     refine zzo ?_
     refine zze ?_
     refine zyp 35 (x := .v (.int .i64 (IntKind.i64.wrap ((i : Int) + 1)))) (.v (.int .i64 ((i + 1 : Nat) : Int))) (eqI (by rw [IntWalk.i64_in _ (by omega)]; omega)) ?_
     refine zza 26 (.v (.int .i64 ((i + 1 : Nat) : Int))) ?_
     refine zzw ?_
     have ht53 : i < (Nt.trimQ l).length := by skip; omega
     refine ⟨_, ?_, St.of 37 [(4, .slc 34 0 (i + 1) c52), (24, .v (.slice x.a n x.c)), (25, .v (.int .i64 (n : Int))), (26, .v (.int .i64 ((i + 1 : Nat) : Int)))] [(34, ⟨26, cs52⟩)], by exact zzu _ _ _, .inr ⟨i + 1, L ++ [r42], cs52, c52, rfl, by omega, by omega, by simp; omega, hc52, by omega, hb52, hd52r, rfl, (e20.trans (e41.trans (g45.ext.trans e49))), (app_next (hR.ext (e41.trans (g45.ext.trans e49))) (RatN.more (K := K) (h43.ext e49) (by omega)) ht53 (by rw [List.getD_eq_getElem?_getD, List.getElem?_take_of_lt (by omega), ← List.getD_eq_getElem?_getD]; exact (Nt.trim_co l i).symm))⟩⟩
     omega
    ·replace hb39 : (decide ((i : Int) < (n : Int))) = false := hb39
     have qhb39 := of_decide_eq_false hb39
     refine zyb ?_
     refine zzo ?_
     refine zzc ?_
     refine zyo (r := 4) (t := 34) [4, 34] (by repeat first | exact noAt_of | refine zyc ?_ | refine zye ?_ | refine zyd ?_ | refine zzx ?_ | refine zya ?_) (by kernel_rfl) (by rfl) (by rfl) (by kernel_rfl) (fun b55 u56 e57 hb58 hh59 => ?_)
     have hp54 : PolN u56 ⟨some ⟨b55, 0, none⟩, i, cp⟩ (Nt.trimQ l) K := by have h8 := pol_data hh59 ht hc hle hmx (hR.ext e57); rw [List.take_of_length_le (l := Nt.trimQ l) (by skip; omega)] at h8; exact h8
     refine zze ?_
     refine zza 36 (.v (.slice (some ⟨b55, 0, none⟩) i cp)) ?_
     refine zza 2 (.v (.slice (some ⟨b55, 0, none⟩) i cp)) ?_
     refine zzb 37 [(2, .v (.slice (some ⟨b55, 0, none⟩) i cp))] [] ?_
     refine zzn (ret0 [.slice (some ⟨b55, 0, none⟩) i cp] ⟨zzp, trivial⟩ fun u60 e61 => ?_)
     refine ⟨(⟨some ⟨b55, 0, none⟩, i, cp⟩ : Sl), rfl, ?_⟩
     exact (hp54.ext e61)
 ·refine zyp 11 (x := .v (.bool (decide ((0 : Int) < (n : Int))))) (.v (.bool false)) (by rw [hs12]) ?_
  have qhs12 := of_decide_eq_false hs12
  refine zzm 12 (uw 2 true false 11) ?_
  refine zzm 13 (uw 2 true false 11) ?_
  refine zzm 14 (uw 2 true false 11) ?_
  refine zzm 15 (uw 2 true false 11) ?_
  refine zzm 16 (uw 2 true false 11) ?_
  refine zzm 17 (uw 2 true false 11) ?_
  refine zzm 18 (uw 2 true false 11) ?_
  refine zza 19 (.v (.bool false)) ?_
  refine zzb 37 [(0, .v x.v), (3, .v (.int .i64 (n : Int))), (19, .v (.bool false))] [] ?_
  refine zyr (by kernel_rfl) ?_
  refine zyb ?_
  refine zzo ?_
  refine zzc ?_
  have he9 := Nt.trim_len_of (l := l) hn hz (fun h => absurd h (by omega))
  clear hz
  refine zze ?_
  refine zza 4 (.v (.slice none 0 0)) ?_
  refine zzb 37 [(0, .v x.v), (3, .v (.int .i64 (n : Int))), (4, .v (.slice none 0 0))] [] ?_
  refine zzc ?_
  refine sq9 ?_
  refine zza 22 (.v x.v) ?_
  refine zza 23 (.v (.int .i64 (n : Int))) ?_
  have hl62 := (hx.ext e11).len
  have hc62 := (hx.ext e11).cap
  refine sy_front 24 (n := x.n) (c := x.c) n sl41 rfl (by omega) ?_
  refine zza 25 (.v (.int .i64 (n : Int))) ?_
  refine zza 26 (.v (.int .i64 0)) ?_
  refine zzb 37 [(4, .v (.slice none 0 0)), (24, .v (.slice x.a n x.c)), (25, .v (.int .i64 (n : Int))), (26, .v (.int .i64 0))] [] ?_
  refine zzs ?_
  refine zym (I := fun m63 S' u' => (m63 = n ∧ S' = St.of 37 [(4, .v (.slice none 0 0)), (24, .v (.slice x.a n x.c)), (25, .v (.int .i64 (n : Int))), (26, .v (.int .i64 0))] [] ∧ Ext u11 u') ∨ (∃ (i : Nat) (L : List RL) (cs : List Value) (cp : Nat), m63 = n - i ∧ i ≤ n ∧ 0 < i ∧ L.length = i ∧ cs.length = cp * 3 ∧ i ≤ cp ∧ cp ≤ maxLen ∧ cs.take (i * 3) = rcs L ∧ S' = St.of 37 [(4, .slc 34 0 i cp), (24, .v (.slice x.a n x.c)), (25, .v (.int .i64 (n : Int))), (26, .v (.int .i64 (i : Int)))] [(34, ⟨26, cs⟩)] ∧ Ext u11 u' ∧ RatsN u' L ((Nt.trimQ l).take i) K)) (fun m S u1 u2 e h => by rcases h with ⟨a, b, c⟩ | ⟨a1, a2, a3, a4, b1, b2, b3, b4, b5, b6, b7, b8, b9, b10, b11⟩; exact .inl ⟨a, b, c.trans e⟩; exact .inr ⟨a1, a2, a3, a4, b1, b2, b3, b4, b5, b6, b7, b8, b9, b10.trans e, b11.ext e⟩) _ (T := St.of 37 [(4, .v (.slice none 0 0)), (24, .v (.slice x.a n x.c)), (25, .v (.int .i64 (n : Int))), (26, .v (.int .i64 0))] []) (by exact zzu _ _ _) (.inl ⟨rfl, rfl, Ext.refl _⟩) ?_
  rintro m63 _ u63 (⟨hm63, rfl, e63⟩ | ⟨i, L, cs, cp, hm63, hi, hp, hL, hc, hle, hmx, ht, rfl, e63, hR⟩)
  ·change SW _ _ _ _ (St.of 37 [(4, .v (.slice none 0 0)), (24, .v (.slice x.a n x.c)), (25, .v (.int .i64 (n : Int))), (26, .v (.int .i64 0))] []) _ _
   refine sq9 ?_
   refine zza 27 (.v (.bool (decide ((0 : Int) < (n : Int))))) ?_
   refine zzb 37 [(4, .v (.slice none 0 0)), (24, .v (.slice x.a n x.c)), (25, .v (.int .i64 (n : Int))), (26, .v (.int .i64 0)), (27, .v (.bool (decide ((0 : Int) < (n : Int)))))] [] ?_
   refine zzc ?_
   refine zzt (b := decide ((0 : Int) < (n : Int))) (by kernel_rfl) (fun hb64 => ?_) (fun hb64 => ?_)
   ·replace hb64 : (decide ((0 : Int) < (n : Int))) = true := hb64
    have qhb64 := of_decide_eq_true hb64
    refine zzr (zzo ?_)
    refine zzc ?_
    refine zzs ?_
    refine sq9 ?_
    have hl65 := ((pol_take (hx.ext e11) (by omega)).ext e63).len
    change n = _ at hl65
    obtain ⟨r65, b65, o65, hA65, hc65, hr65⟩ := pol_at ((pol_take (hx.ext e11) (by omega)).ext e63) (i := 0) (by omega)
    refine zzz 28 (o65 + 0 * 3) (n := n) (off := o65) (sz := 3) (i := 0) (by omega) hA65 (by omega) (by omega) sl41 ?_
    refine zyl 29 r65.cs hc65 ty26 ?_
    refine zzj 6 ⟨26, [.bool false, .slice none 0 0, .slice none 0 0]⟩ ?_
    refine zzi ⟨26, r65.cs⟩ ty26 ?_
    refine zzb 37 [(4, .v (.slice none 0 0)), (6, .adr 6 0), (24, .v (.slice x.a n x.c)), (25, .v (.int .i64 (n : Int))), (26, .v (.int .i64 0))] [(6, ⟨26, r65.cs⟩)] ?_
    refine zze ?_
    refine zza 30 (.v (.slice none 0 0)) ?_
    refine zzh 31 (.v (r65.v)) ty26 zzd ?_
    refine zzf 32 142 [r65.v] ?_
    intro w66 u66 e66 d66
    have k71 := k_rqTrim d66 (hr65.ext e66) (by omega)
    with_reducible refine Post.mono k71 ?_
    rintro _ u69 g70 ⟨r67, rfl, h68⟩
    refine sy_data 33 ⟨26, r67.cs⟩ 1 (fun b72 u73 e74 h75 => ?_)
    have hp76 : PolN u73 (⟨some ⟨b72, 0, none⟩, 1, 1⟩ : Sl) [((l.take n).getD 0 0)] K := pol_lit (L := [r67]) h75 (rats1 (h68.ext e74)) rfl (by decide)
    refine sy_app0 34 (T := 41) (E := 26) (z := .agg #[.bool false, .slice none 0 0, .slice none 0 0]) (size := 3) (bytes := 56) (b := b72) (off := 0) (m := 1) r67.cs (by kernel_rfl) (by kernel_rfl) (by kernel_rfl) (by decide) rfl (lit_news ((Ext.refl _).cells h75)) (rl_one r67) (by decide) (by decide) (by decide) ?_
    intro c77 cs77 ha77 hb77 hc77 hd77
    refine zza 4 (.slc 34 0 1 c77) ?_
    refine zzw ?_
    refine zzo ?_
    refine zze ?_
    refine zza 35 (.v (.int .i64 1)) ?_
    refine zza 26 (.v (.int .i64 1)) ?_
    refine zzw ?_
    have ht78 : 0 < (Nt.trimQ l).length := by skip; omega
    refine ⟨_, ?_, St.of 37 [(4, .slc 34 0 1 c77), (24, .v (.slice x.a n x.c)), (25, .v (.int .i64 (n : Int))), (26, .v (.int .i64 1))] [(34, ⟨26, cs77⟩)], by exact zzu _ _ _, .inr ⟨1, [r67], cs77, c77, rfl, by omega, by omega, by simp, hc77, by omega, hb77, hd77, rfl, (e63.trans (e66.trans (g70.ext.trans e74))), (app_first (RatN.more (K := K) (h68.ext e74) (by omega)) ht78 (by rw [List.getD_eq_getElem?_getD, List.getElem?_take_of_lt (by omega), ← List.getD_eq_getElem?_getD]; exact (Nt.trim_co l 0).symm))⟩⟩
    omega
   ·replace hb64 : (decide ((0 : Int) < (n : Int))) = false := hb64
    have qhb64 := of_decide_eq_false hb64
    refine zyb ?_
    refine zzo ?_
    refine zzc ?_
    have hp79 : PolN u63 ⟨none, 0, 0⟩ (Nt.trimQ l) K := by have h9 : Nt.trimQ l = [] := List.eq_nil_of_length_eq_zero (by skip; omega); rw [h9]; exact pol_nil _ _
    refine zze ?_
    refine zza 36 (.v (.slice none 0 0)) ?_
    refine zza 2 (.v (.slice none 0 0)) ?_
    refine zzb 37 [(2, .v (.slice none 0 0))] [] ?_
    refine zzn (ret0 [.slice none 0 0] ⟨zzp, trivial⟩ fun u80 e81 => ?_)
    refine ⟨⟨none, 0, 0⟩, rfl, ?_⟩
    exact (hp79.ext e81)
  ·change SW _ _ _ _ (St.of 37 [(4, .slc 34 0 i cp), (24, .v (.slice x.a n x.c)), (25, .v (.int .i64 (n : Int))), (26, .v (.int .i64 (i : Int)))] [(34, ⟨26, cs⟩)]) _ _
   refine sq9 ?_
   refine zza 27 (.v (.bool (decide ((i : Int) < (n : Int))))) ?_
   refine zzb 37 [(4, .slc 34 0 i cp), (24, .v (.slice x.a n x.c)), (25, .v (.int .i64 (n : Int))), (26, .v (.int .i64 (i : Int))), (27, .v (.bool (decide ((i : Int) < (n : Int)))))] [(34, ⟨26, cs⟩)] ?_
   refine zzc ?_
   refine zzt (b := decide ((i : Int) < (n : Int))) (by kernel_rfl) (fun hb82 => ?_) (fun hb82 => ?_)
   ·replace hb82 : (decide ((i : Int) < (n : Int))) = true := hb82
    have qhb82 := of_decide_eq_true hb82
    refine zzr (zzo ?_)
    refine zzc ?_
    refine zzs ?_
    refine sq9 ?_
    have hl83 := ((pol_take (hx.ext e11) (by omega)).ext e63).len
    change n = _ at hl83
    obtain ⟨r83, b83, o83, hA83, hc83, hr83⟩ := pol_at ((pol_take (hx.ext e11) (by omega)).ext e63) (i := i) (by omega)
    refine zzz 28 (o83 + i * 3) (n := n) (off := o83) (sz := 3) (i := (i : Int)) (by omega) hA83 (by omega) (by omega) sl41 ?_
    refine zyl 29 r83.cs hc83 ty26 ?_
    refine zzj 6 ⟨26, [.bool false, .slice none 0 0, .slice none 0 0]⟩ ?_
    refine zzi ⟨26, r83.cs⟩ ty26 ?_
    refine zzb 37 [(4, .slc 34 0 i cp), (6, .adr 6 0), (24, .v (.slice x.a n x.c)), (25, .v (.int .i64 (n : Int))), (26, .v (.int .i64 (i : Int)))] [(6, ⟨26, r83.cs⟩), (34, ⟨26, cs⟩)] ?_
    refine zze ?_
    refine zza 30 (.slc 34 0 i cp) ?_
    refine zzh 31 (.v (r83.v)) ty26 zzd ?_
    refine zzf 32 142 [r83.v] ?_
    intro w84 u84 e84 d84
    have k89 := k_rqTrim d84 (hr83.ext e84) (by omega)
    with_reducible refine Post.mono k89 ?_
    rintro _ u87 g88 ⟨r85, rfl, h86⟩
    refine sy_data 33 ⟨26, r85.cs⟩ 1 (fun b90 u91 e92 h93 => ?_)
    have hp94 : PolN u91 (⟨some ⟨b90, 0, none⟩, 1, 1⟩ : Sl) [((l.take n).getD i 0)] K := pol_lit (L := [r85]) h93 (rats1 (h86.ext e92)) rfl (by decide)
    refine sy_app1 34 (T := 41) (E := 26) (z := .agg #[.bool false, .slice none 0 0, .slice none 0 0]) (size := 3) (bytes := 56) (b := b90) (off := 0) (m := 1) (n := i) (cap := cp) (t := 34) (cs0 := cs) [4, 30, 34] r85.cs (by kernel_rfl) (by kernel_rfl) (by kernel_rfl) (by decide) rfl (lit_news ((Ext.refl _).cells h93)) (rl_one r85) (by decide) (by unfold maxLen; omega) (by omega) (by omega) (by omega) (by omega) (by repeat first | exact noAt_of | refine zyc ?_ | refine zye ?_ | refine zyd ?_ | refine zzx ?_ | refine zya ?_) ?_
    intro c95 cs95 ha95 hb95 hc95 hd95
    have hd95r : cs95.take ((i + 1) * 3) = rcs (L ++ [r85]) := by rw [hd95, ht, rcs_app]; rfl
    refine zza 4 (.slc 34 0 (i + 1) c95) ?_
    refine zzw ?_
    refine zzo ?_
    refine zze ?_
    refine zyp 35 (x := .v (.int .i64 (IntKind.i64.wrap ((i : Int) + 1)))) (.v (.int .i64 ((i + 1 : Nat) : Int))) (eqI (by rw [IntWalk.i64_in _ (by omega)]; omega)) ?_
    refine zza 26 (.v (.int .i64 ((i + 1 : Nat) : Int))) ?_
    refine zzw ?_
    have ht96 : i < (Nt.trimQ l).length := by skip; omega
    refine ⟨_, ?_, St.of 37 [(4, .slc 34 0 (i + 1) c95), (24, .v (.slice x.a n x.c)), (25, .v (.int .i64 (n : Int))), (26, .v (.int .i64 ((i + 1 : Nat) : Int)))] [(34, ⟨26, cs95⟩)], by exact zzu _ _ _, .inr ⟨i + 1, L ++ [r85], cs95, c95, rfl, by omega, by omega, by simp; omega, hc95, by omega, hb95, hd95r, rfl, (e63.trans (e84.trans (g88.ext.trans e92))), (app_next (hR.ext (e84.trans (g88.ext.trans e92))) (RatN.more (K := K) (h86.ext e92) (by omega)) ht96 (by rw [List.getD_eq_getElem?_getD, List.getElem?_take_of_lt (by omega), ← List.getD_eq_getElem?_getD]; exact (Nt.trim_co l i).symm))⟩⟩
    omega
   ·replace hb82 : (decide ((i : Int) < (n : Int))) = false := hb82
    have qhb82 := of_decide_eq_false hb82
    refine zyb ?_
    refine zzo ?_
    refine zzc ?_
    refine zyo (r := 4) (t := 34) [4, 34] (by repeat first | exact noAt_of | refine zyc ?_ | refine zye ?_ | refine zyd ?_ | refine zzx ?_ | refine zya ?_) (by kernel_rfl) (by rfl) (by rfl) (by kernel_rfl) (fun b98 u99 e100 hb101 hh102 => ?_)
    have hp97 : PolN u99 ⟨some ⟨b98, 0, none⟩, i, cp⟩ (Nt.trimQ l) K := by have h8 := pol_data hh102 ht hc hle hmx (hR.ext e100); rw [List.take_of_length_le (l := Nt.trimQ l) (by skip; omega)] at h8; exact h8
    refine zze ?_
    refine zza 36 (.v (.slice (some ⟨b98, 0, none⟩) i cp)) ?_
    refine zza 2 (.v (.slice (some ⟨b98, 0, none⟩) i cp)) ?_
    refine zzb 37 [(2, .v (.slice (some ⟨b98, 0, none⟩) i cp))] [] ?_
    refine zzn (ret0 [.slice (some ⟨b98, 0, none⟩) i cp] ⟨zzp, trivial⟩ fun u103 e104 => ?_)
    refine ⟨(⟨some ⟨b98, 0, none⟩, i, cp⟩ : Sl), rfl, ?_⟩
    exact (hp97.ext e104)
set_option maxHeartbeats 1000000 in
theorem k_multiply {u w : World} {g n c : Nat} {L : List RL} {X : List Value} {l : List Rat} {r : RL} {q : Rat} {a b C : Nat} (d : Dat u w) (hg : w.heap[g]? = some (.cells (rcs L ++ X).toArray 26 (0, 0))) (hu : u.heap[g]? = some hidO) (hL : RatsN u L l (Nt.dg C)) (hr : RatN u r q (Nt.dg C)) (hn : n ≤ l.length) (hn9 : n ≤ 1000000000) (hA : Nt.WhL l a) (hB : Nt.Wh q b) (hAB : a + b ≤ C) (hC9 : C ≤ 600000000) : Calls Tryz.prog 170 #[.slice (some ⟨g, 0, none⟩) n c, r.v] w (PostL u w g fun V u' => ∃ L', V = ⟨26, rcs L' ++ X⟩ ∧ RatsN u' L' (Nt.mulN n l q) (Nt.dg C)) := by
 have hlL := hL.1
 have hdg : Nt.dg C ≤ 20000000 := by unfold Nt.dg; omega
 refine calls_lent (args := [r.v]) Tryz.func170 rfl Tryz.ntmps170 Tryz.results170 (le_b rfl) d hg hu ?_
 refine sq9 ?_
 refine zzj 3 ⟨26, r.cs⟩ ?_
 refine zzb 20 [(0, .slc 20 0 n c), (3, .adr 3 0)] [(3, ⟨26, r.cs⟩), (20, ⟨26, rcs L ++ X⟩)] ?_
 refine sq9 ?_
 refine zza 5 (.slc 20 0 n c) ?_
 refine zza 6 (.v (.int .i64 (n : Int))) ?_
 refine zza 7 (.v (.int .i64 0)) ?_
 refine zzb 20 [(0, .slc 20 0 n c), (3, .adr 3 0), (6, .v (.int .i64 (n : Int))), (7, .v (.int .i64 0))] [(3, ⟨26, r.cs⟩), (20, ⟨26, rcs L ++ X⟩)] ?_
 refine zzs ?_
 refine zym (I := fun m11 S' u' => ∃ (i : Nat) (M9 : List RL), (m11 = n - i) ∧ (i ≤ n) ∧ (M9.length = l.length) ∧ (S' = St.of 20 [(0, .slc 20 0 n c), (3, .adr 3 0), (6, .v (.int .i64 (n : Int))), (7, .v (.int .i64 (i : Int)))] [(3, ⟨26, r.cs⟩), (20, ⟨26, rcs M9 ++ X⟩)]) ∧ (Ext u u') ∧ (RatsN u' M9 (Nt.mulN i l q) (Nt.dg C))) (fun m S u1 u2 e h => by obtain ⟨i, M9, hm, p0, p1, hS, hE, f0⟩ := h; exact ⟨i, M9, hm, p0, p1, hS, hE.trans e, f0.ext e⟩) _ (T := St.of 20 [(0, .slc 20 0 n c), (3, .adr 3 0), (6, .v (.int .i64 (n : Int))), (7, .v (.int .i64 0))] [(3, ⟨26, r.cs⟩), (20, ⟨26, rcs L ++ X⟩)]) (by exact zzu _ _ _) ⟨0, L, rfl, by omega, by omega, rfl, Ext.refl _, (by rw [Nt.mulN_zero]; exact hL)⟩ ?_
 rintro m11 _ u11 ⟨i, M9, hm11, hi, hM9, rfl, e11, hQ⟩
 refine sq9 ?_
 refine zza 8 (.v (.bool (decide ((i : Int) < (n : Int))))) ?_
 refine zzb 20 [(0, .slc 20 0 n c), (3, .adr 3 0), (6, .v (.int .i64 (n : Int))), (7, .v (.int .i64 (i : Int))), (8, .v (.bool (decide ((i : Int) < (n : Int)))))] [(3, ⟨26, r.cs⟩), (20, ⟨26, rcs M9 ++ X⟩)] ?_
 refine zzc ?_
 refine zzt (b := decide ((i : Int) < (n : Int))) (by kernel_rfl) (fun hb12 => ?_) (fun hb12 => ?_)
 ·replace hb12 : (decide ((i : Int) < (n : Int))) = true := hb12
  have qhb12 := of_decide_eq_true hb12
  refine zzr (zzo ?_)
  refine zzc ?_
  refine zzs ?_
  refine sq9 ?_
  refine zza 9 (.v (.int .i64 (i : Int))) ?_
  refine zza 4 (.v (.int .i64 (i : Int))) ?_
  refine zzb 20 [(0, .slc 20 0 n c), (3, .adr 3 0), (4, .v (.int .i64 (i : Int))), (6, .v (.int .i64 (n : Int))), (7, .v (.int .i64 (i : Int)))] [(3, ⟨26, r.cs⟩), (20, ⟨26, rcs M9 ++ X⟩)] ?_
  refine zzy [0, 0, 0, 0, 12, 28, 0, 124, 255, 511] [(0, []), (1, []), (2, []), (3, []), (4, []), (5, []), (6, []), (7, []), (8, []), (9, [])] (by kernel_rfl) (by kernel_rfl) ?_
  refine zza 10 (.slc 20 0 n c) ?_
  refine zza 11 (.v (.int .i64 (i : Int))) ?_
  refine zza 12 (.slc 20 0 n c) ?_
  refine zza 13 (.v (.int .i64 (i : Int))) ?_
  refine zyv 14 (off' := i * 3) (n := n) (off := 0) (sz := 3) (i := (i : Int)) sl41 (by omega) (by omega) (by omega) ?_
  obtain ⟨r13, hrr13⟩ : ∃ r : RL, (M9).getD i rl0 = r := ⟨_, rfl⟩
  refine zzh 15 (V := ⟨26, rcs M9 ++ X⟩) (off := i * 3) (.v r13.v) ty26 (by have h9 := part_rcsX (X := X) (L := M9) (i := i) (off := i * 3) (by first|omega|(simp;omega)) rfl; rw [hrr13] at h9; exact h9) ?_
  have h14 := hQ.2 i (by first|omega|(simp;omega))
  rw [hrr13] at h14
  refine zzh 16 (.v (r.v)) ty26 zzd ?_
  refine zzf 17 111 [r13.v, r.v] ?_
  intro w15 u15 e15 d15
  have k20 := k_ratMul d15 (h14.ext e15).raw (hr.ext (e11.trans e15)).raw (by omega) (by omega)
  with_reducible refine Post.mono k20 ?_
  rintro _ u18 g19 ⟨r16, rfl, h17⟩
  refine zyv 18 (off' := i * 3) (n := n) (off := 0) (sz := 3) (i := (i : Int)) sl41 (by omega) (by omega) (by omega) ?_
  refine zyu (V := ⟨26, rcs M9 ++ X⟩) (off := i * 3) (rcs ((M9).set i r16) ++ X) ty26 (by rw [List.length_append, zyx]; first|omega|(simp;omega)) (setL_rcsX (r := r16) (i := i) (by first|omega|(simp;omega)) rfl) ?_
  refine zzw ?_
  refine zzo ?_
  refine zze ?_
  refine zyp 19 (x := .v (.int .i64 (IntKind.i64.wrap ((i : Int) + 1)))) (.v (.int .i64 ((i + 1 : Nat) : Int))) (eqI (by rw [IntWalk.i64_in _ (by omega)]; omega)) ?_
  refine zza 7 (.v (.int .i64 ((i + 1 : Nat) : Int))) ?_
  refine zzw ?_
  refine ⟨_, ?_, St.of 20 [(0, .slc 20 0 n c), (3, .adr 3 0), (6, .v (.int .i64 (n : Int))), (7, .v (.int .i64 ((i + 1 : Nat) : Int)))] [(3, ⟨26, r.cs⟩), (20, ⟨26, rcs ((M9).set i r16) ++ X⟩)], by exact zzu _ _ _, i + 1, (M9).set i r16, rfl, by omega, by simp; omega, rfl, (e11.trans (e15.trans g19.ext)), (by rw [Nt.mulN_succ (by omega)]; exact RatsN.set (i := i) (hQ.ext (e15.trans g19.ext)) (by simp; omega) (RatN.fit (K := ((Nt.dg C) + (Nt.dg C))) h17 (by have h9 := ((hA i).mul hB).rs; have h8 : Nt.dg (a + b) ≤ Nt.dg C := Nt.dg_mono hAB; have e9 : (Nt.mulN i l q).getD i 0 = Nt.co l i := by { show Nt.co _ _ = _; rw [Nt.mulN_co, if_neg (Nat.lt_irrefl i)] }; rw [e9]; omega)))⟩
  omega
 ·replace hb12 : (decide ((i : Int) < (n : Int))) = false := hb12
  have qhb12 := of_decide_eq_false hb12
  refine zyb ?_
  have hin : i = n := by omega
  refine lent_end (V := ⟨26, rcs M9 ++ X⟩) rfl rfl (fun u21 e22 => ⟨M9, rfl, ?_⟩)
  have h9 := (hQ.ext e22)
  rw [hin] at h9
  exact h9
set_option maxHeartbeats 1000000 in
theorem k_cutL {u w : World} {g n c : Nat} {L : List RL} {X : List Value} {l : List Rat} {K : Nat} (d : Dat u w) (hg : w.heap[g]? = some (.cells (rcs L ++ X).toArray 26 (0, 0))) (hu : u.heap[g]? = some hidO) (hL : RatsN u L l K) (hn : n ≤ l.length) (hn9 : n ≤ 1000000000) (hnc : n ≤ c) (hK : K ≤ 100000000) : Calls Tryz.prog 118 #[.slice (some ⟨g, 0, none⟩) n c] w (PostS u w g c fun m V u' => V = ⟨26, rcs L ++ X⟩ ∧ m = (Nt.trimQ (l.take n)).length) := by
 have hlL := hL.1
 refine calls_lentS (args := []) Tryz.func118 rfl Tryz.ntmps118 Tryz.results118 (le_b rfl) d hg hu ?_
 refine sq9 ?_
 refine zza 2 (.v (.slice none 0 0)) ?_
 refine zzb 22 [(0, .slc 22 0 n c)] [(22, ⟨26, rcs L ++ X⟩)] ?_
 refine sq9 ?_
 refine zza 4 (.slc 22 0 n c) ?_
 refine zza 5 (.v (.int .i64 (n : Int))) ?_
 refine zza 3 (.v (.int .i64 (n : Int))) ?_
 refine zzb 22 [(0, .slc 22 0 n c), (3, .v (.int .i64 (n : Int)))] [(22, ⟨26, rcs L ++ X⟩)] ?_
 refine zzc ?_
 refine zzs ?_
 refine zym (I := fun m11 S' u' => ∃ (k : Nat), (m11 = k) ∧ (k ≤ n) ∧ (∀ i, k ≤ i → Nt.co (l.take n) i = 0) ∧ (S' = St.of 22 [(0, .slc 22 0 n c), (3, .v (.int .i64 (k : Int)))] [(22, ⟨26, rcs L ++ X⟩)]) ∧ (Ext u u')) (fun m S u1 u2 e h => by obtain ⟨k, hm, p0, p1, hS, hE⟩ := h; exact ⟨k, hm, p0, p1, hS, hE.trans e⟩) _ (T := St.of 22 [(0, .slc 22 0 n c), (3, .v (.int .i64 (n : Int)))] [(22, ⟨26, rcs L ++ X⟩)]) (by exact zzu _ _ _) ⟨n, rfl, by omega, fun i hi => Nt.co_ge (by simp; omega), rfl, Ext.refl _⟩ ?_
 rintro m11 _ u11 ⟨k, hm11, hk, hz, rfl, e11⟩
 refine zzc ?_
 refine sq9 ?_
 refine zza 6 (.v (.int .i64 (k : Int))) ?_
 refine zza 7 (.v (.bool (decide ((0 : Int) < (k : Int))))) ?_
 rcases Bool.eq_false_or_eq_true (decide ((0 : Int) < (k : Int))) with hs12 | hs12
 ·refine zyp 8 (x := .v (.bool (decide ((0 : Int) < (k : Int))))) (.v (.bool true)) (by rw [hs12]) ?_
  have qhs12 := of_decide_eq_true hs12
  refine zza 9 (.slc 22 0 n c) ?_ (hw := w1 2 true 8)
  refine zza 10 (.v (.int .i64 (k : Int))) ?_ (hw := w1 2 true 8)
  refine zyp 11 (x := .v (.int .i64 (IntKind.i64.wrap ((k : Int) - 1)))) (.v (.int .i64 ((k - 1 : Nat) : Int))) (eqI (by rw [IntWalk.i64_in _ (by omega)]; omega)) ?_ (hw := w1 2 true 8)
  refine zyv 12 (off' := (k - 1) * 3) (n := n) (off := 0) (sz := 3) (i := ((k - 1 : Nat) : Int)) sl41 (by omega) (by omega) (by omega) ?_ (hw := w1 2 true 8)
  obtain ⟨r13, hrr13⟩ : ∃ r : RL, (L).getD (k - 1) rl0 = r := ⟨_, rfl⟩
  refine zzh 13 (V := ⟨26, rcs L ++ X⟩) (off := (k - 1) * 3) (.v r13.v) ty26 (by have h9 := part_rcsX (X := X) (L := L) (i := k - 1) (off := (k - 1) * 3) (by first|omega|(simp;omega)) rfl; rw [hrr13] at h9; exact h9) ?_ (hw := w1 2 true 8)
  have h14 := (hL.ext e11).2 (k - 1) (by first|omega|(simp;omega))
  rw [hrr13] at h14
  refine zzf 14 132 [r13.v] ?_ (hw := w1 2 true 8)
  intro w15 u15 e15 d15
  have k18 := k_ratSign d15 (h14.ext e15).raw
  with_reducible refine Post.mono k18 ?_
  rintro _ u16 g17 rfl
  refine zza 15 (.v (.bool ((Nt.sgQ (l.getD (k - 1) 0)) == 0))) ?_ (hw := w1 2 true 8)
  refine zza 16 (.v (.bool ((Nt.sgQ (l.getD (k - 1) 0)) == 0))) ?_
  refine zzb 22 [(0, .slc 22 0 n c), (3, .v (.int .i64 (k : Int))), (16, .v (.bool ((Nt.sgQ (l.getD (k - 1) 0)) == 0)))] [(22, ⟨26, rcs L ++ X⟩)] ?_
  refine zzt (b := (Nt.sgQ (l.getD (k - 1) 0)) == 0) (by kernel_rfl) (fun hb19 => ?_) (fun hb19 => ?_)
  ·replace hb19 : ((Nt.sgQ (l.getD (k - 1) 0)) == 0) = true := hb19
   refine zzr (zzo ?_)
   refine zzs ?_
   refine zze ?_
   refine zza 17 (.v (.int .i64 (k : Int))) ?_
   refine zyp 18 (x := .v (.int .i64 (IntKind.i64.wrap ((k : Int) - 1)))) (.v (.int .i64 ((k - 1 : Nat) : Int))) (eqI (by rw [IntWalk.i64_in _ (by omega)]; omega)) ?_
   refine zza 3 (.v (.int .i64 ((k - 1 : Nat) : Int))) ?_
   refine zzw ?_
   refine ⟨_, ?_, St.of 22 [(0, .slc 22 0 n c), (3, .v (.int .i64 ((k - 1 : Nat) : Int)))] [(22, ⟨26, rcs L ++ X⟩)], by exact zzu _ _ _, k - 1, rfl, by omega, (fun i hi => by by_cases e : i = k - 1; (rw [e, Nt.co_take (by omega)]; have h9 := hb19; rw [Nt.sgQ_eq] at h9; exact of_decide_eq_true h9); exact hz i (by omega)), rfl, (e11.trans (e15.trans g17.ext))⟩
   omega
  ·replace hb19 : ((Nt.sgQ (l.getD (k - 1) 0)) == 0) = false := hb19
   refine zyb ?_
   refine zzo ?_
   refine sq9 ?_
   refine zza 19 (.slc 22 0 n c) ?_
   refine zza 20 (.v (.int .i64 (k : Int))) ?_
   refine sy_frontO 21 (n := n) (c := c) k sl41 rfl (by omega) ?_
   refine zza 2 (.slc 22 0 k c) ?_
   refine zzb 22 [(2, .slc 22 0 k c)] [(22, ⟨26, rcs L ++ X⟩)] ?_
   refine zzn (lentS_ret (V := ⟨26, rcs L ++ X⟩) k rfl rfl zzp (fun _ _ => ⟨rfl, ?_⟩))
   exact (Nt.trim_len_of (l := (l.take n)) (by rw [List.length_take]; omega) hz (fun _ h => by rw [Nt.co_take (by omega)] at h; have h9 := hb19; rw [Nt.sgQ_eq] at h9; exact of_decide_eq_false h9 h)).symm
 ·refine zyp 8 (x := .v (.bool (decide ((0 : Int) < (k : Int))))) (.v (.bool false)) (by rw [hs12]) ?_
  have qhs12 := of_decide_eq_false hs12
  refine zzm 9 (uw 2 true false 8) ?_
  refine zzm 10 (uw 2 true false 8) ?_
  refine zzm 11 (uw 2 true false 8) ?_
  refine zzm 12 (uw 2 true false 8) ?_
  refine zzm 13 (uw 2 true false 8) ?_
  refine zzm 14 (uw 2 true false 8) ?_
  refine zzm 15 (uw 2 true false 8) ?_
  refine zza 16 (.v (.bool false)) ?_
  refine zzb 22 [(0, .slc 22 0 n c), (3, .v (.int .i64 (k : Int))), (16, .v (.bool false))] [(22, ⟨26, rcs L ++ X⟩)] ?_
  refine zyr (by kernel_rfl) ?_
  refine zyb ?_
  refine zzo ?_
  refine sq9 ?_
  refine zza 19 (.slc 22 0 n c) ?_
  refine zza 20 (.v (.int .i64 (k : Int))) ?_
  refine sy_frontO 21 (n := n) (c := c) k sl41 rfl (by omega) ?_
  refine zza 2 (.slc 22 0 k c) ?_
  refine zzb 22 [(2, .slc 22 0 k c)] [(22, ⟨26, rcs L ++ X⟩)] ?_
  refine zzn (lentS_ret (V := ⟨26, rcs L ++ X⟩) k rfl rfl zzp (fun _ _ => ⟨rfl, ?_⟩))
  exact (Nt.trim_len_of (l := (l.take n)) (by rw [List.length_take]; omega) hz (fun h => absurd h (by omega))).symm
def CloneR (u : World) (n : Nat) (t : List Rat) (K : Nat) (v : Value) (u' : World) : Prop := ∃ (b c : Nat) (L : List RL) (X : List Value), v = .slice (some ⟨b, 0, none⟩) n c ∧ u.heap.size ≤ b ∧ u'.heap[b]? = some (.cells (rcs L ++ X).toArray 26 (0, 0)) ∧ L.length = n ∧ RatsN u L t K ∧ (rcs L ++ X).length = c * 3 ∧ n ≤ c ∧ c ≤ maxLen
set_option maxHeartbeats 1000000 in
theorem k_clonePol {u w : World} {x : Sl} {l : List Rat} {K : Nat} (d : Dat u w) (hx : PolN u x l K) (h0 : 0 < l.length) (h9 : l.length ≤ 1000000000) : Calls Tryz.prog 169 #[x.v] w (Post u w fun v u' => CloneR u x.n l K v u') := by
 have hn := hx.len
 obtain ⟨xa, n0, c0⟩ := x
 obtain ⟨L, ⟨h1, h2, h3, h4⟩, h5⟩ := hx
 change n0 = l.length at hn
 obtain ⟨b0, o0, e, hc⟩ := h4 (by show 0 < n0; omega)
 change xa = _ at e
 subst e
 have h6 := h5.1
 change Calls _ _ #[.slice (some ⟨b0, o0, none⟩) n0 c0] _ (Post u w fun v u' => CloneR u n0 l K v u')
 refine zzl (args := [.slice (some ⟨b0, o0, none⟩) n0 c0]) Tryz.func169 rfl Tryz.ntmps169 (rs := [.tmp 2]) Tryz.results169 (le_b rfl) (le_b rfl) d ?_
 refine sq9 ?_
 refine zza 2 (.v (.slice none 0 0)) ?_
 refine zzb 8 [(0, .v (.slice (some ⟨b0, o0, none⟩) n0 c0))] [] ?_
 refine zzc ?_
 refine sq9 ?_
 refine zza 3 (.v (.slice (some ⟨b0, o0, none⟩) n0 c0)) ?_
 refine zza 4 (.v (.bool false)) ?_
 refine zzb 8 [(0, .v (.slice (some ⟨b0, o0, none⟩) n0 c0)), (4, .v (.bool false))] [] ?_
 refine zyr (by kernel_rfl) ?_
 refine zzr (zzo ?_)
 refine sq9 ?_
 refine sy_lit 5 ⟨26, []⟩ 0 ?_
 refine zza 6 (.v (.slice (some ⟨b0, o0, none⟩) n0 c0)) ?_
 refine sy_app1 7 (T := 41) (E := 26) (z := .agg #[.bool false, .slice none 0 0, .slice none 0 0]) (size := 3) (bytes := 56) (b := b0) (off := o0) (m := n0) (c := c0) (n := 0) (cap := 0) (t := 5) (cs0 := []) [5, 7] (rcs L) (by kernel_rfl) (by kernel_rfl) (by kernel_rfl) (by decide) (by rw [zyx]; omega) (fun j v hv => by rw [hc j (List.getElem?_eq_some_iff.1 hv).1]; exact hv) (List.all_eq_true.1 (rcs_one (L := L))) (by omega) (by unfold maxLen; omega) (by omega) (by omega) (by decide) rfl (by repeat first | exact noAt_of | refine zyc ?_ | refine zye ?_ | refine zyd ?_ | refine zzx ?_ | refine zya ?_) ?_
 intro c1 cs k1 k2 k3 k4
 refine zza 2 (.slc 7 0 (0 + n0) c1) ?_
 refine zzb 8 [(2, .slc 7 0 (0 + n0) c1)] [(7, ⟨26, cs⟩)] ?_
 refine zyo (r := 2) (t := 7) [2, 7] (by repeat first | exact noAt_of | refine zyc ?_ | refine zye ?_ | refine zyd ?_ | refine zzx ?_ | refine zya ?_) (by kernel_rfl) (by rfl) (by rfl) (by kernel_rfl) (fun b u2 e2 hb hh => ?_)
 refine zzn (ret0 [.slice (some ⟨b, 0, none⟩) (0 + n0) c1] ⟨zzp, trivial⟩ fun u11 e12 => ?_)
 rw [Nat.zero_add] at k1 k4
 change cs.take (n0 * 3) = rcs L at k4
 have hL3 := zyx (L := L)
 have e9 : cs = rcs L ++ cs.drop (n0 * 3) := by rw [← k4]; exact (List.take_append_drop (n0 * 3) cs).symm
 refine ⟨b, c1, L, cs.drop (n0 * 3), ?_, hb, ?_, by omega, h5, by rw [← e9]; exact k3, k1, k2⟩
 ·show Value.slice _ (0 + n0) _ = _; rw [Nat.zero_add]
 ·rw [← e9]; exact e12.cells hh
set_option maxHeartbeats 4000000 in
theorem k_divide {u w : World} {x y : Sl} {p q : List Rat} {a b C K M : Nat} (d : Dat u w) (hx0 : PolN u x p K) (hy0 : PolN u y q M) (hA : Nt.WhL p a) (hB : Nt.WhL q b) (hq : Nt.Nrm q) (hq0 : 0 < q.length) (hC : a + (p.length - q.length + 1) * (b + 1) ≤ C) (hC9 : C ≤ 600000000) (hx9 : p.length ≤ 1000000) (hy9 : q.length ≤ 1000000) : Calls Tryz.prog 116 #[x.v, y.v] w (Post u w fun v u' => ∃ (y1 y2 : Sl) (r : RL) (s t : List Rat) (f : Rat), v = .tuple #[y1.v, y2.v, r.v] ∧ PolN u' y1 s (Nt.dg C) ∧ PolN u' y2 t (Nt.dg C) ∧ RatN u' r f (Nt.dg C) ∧ Nt.DivR p q s t f ∧ Nt.WhL s C ∧ Nt.WhL t C) := by
 have hmul : b + 1 ≤ (p.length - q.length + 1) * (b + 1) := Nat.le_mul_of_pos_left _ (by omega)
 have hx : PolN u x p (Nt.dg C) := hx0.fitW (hA.more (by omega))
 have hy : PolN u y q (Nt.dg C) := hy0.fitW (hB.more (by omega))
 have hlen := hx.len
 have hlen2 := hy.len
 have hdg : Nt.dg C ≤ 20000000 := by unfold Nt.dg; omega
 have hdg1 : 1 ≤ Nt.dg C := by unfold Nt.dg; omega
 refine zzl (args := [.slice x.a x.n x.c, .slice y.a y.n y.c]) Tryz.func116 rfl Tryz.ntmps116 (rs := [.tmp 4, .tmp 5, .cell 6 26]) Tryz.results116 (le_b rfl) (le_b rfl) d ?_
 refine sq9 ?_
 refine zza 4 (.v (.slice none 0 0)) ?_
 refine zza 5 (.v (.slice none 0 0)) ?_
 refine zzj 6 ⟨26, [.bool false, .slice none 0 0, .slice none 0 0]⟩ ?_
 refine zzb 112 [(0, .v x.v), (1, .v y.v), (6, .adr 6 0)] [(6, ⟨26, [.bool false, .slice none 0 0, .slice none 0 0]⟩)] ?_
 refine sq9 ?_
 refine zzf 18 112 [.int .i64 1] ?_
 intro w11 u11 e11 d11
 have k16 := k_ratOf d11 (z := 1) (by omega) (by omega)
 with_reducible refine Post.mono k16 ?_
 rintro _ u14 g15 ⟨r12, rfl, h13⟩
 refine zzj 7 ⟨26, [.bool false, .slice none 0 0, .slice none 0 0]⟩ ?_
 refine zzi ⟨26, r12.cs⟩ ty26 ?_
 refine zzb 112 [(0, .v x.v), (1, .v y.v), (6, .adr 6 0), (7, .adr 7 0)] [(6, ⟨26, [.bool false, .slice none 0 0, .slice none 0 0]⟩), (7, ⟨26, r12.cs⟩)] ?_
 refine zzc ?_
 refine sq9 ?_
 refine zza 19 (.v x.v) ?_
 refine zza 20 (.v (.int .i64 (x.n : Int))) ?_
 refine zza 21 (.v y.v) ?_
 refine zza 22 (.v (.int .i64 (y.n : Int))) ?_
 refine zza 23 (.v (.bool (decide ((x.n : Int) < (y.n : Int))))) ?_
 refine zzb 112 [(0, .v x.v), (1, .v y.v), (6, .adr 6 0), (7, .adr 7 0), (23, .v (.bool (decide ((x.n : Int) < (y.n : Int)))))] [(6, ⟨26, [.bool false, .slice none 0 0, .slice none 0 0]⟩), (7, ⟨26, r12.cs⟩)] ?_
 refine zzt (b := decide ((x.n : Int) < (y.n : Int))) (by kernel_rfl) (fun hb17 => ?_) (fun hb17 => ?_)
 ·replace hb17 : (decide ((x.n : Int) < (y.n : Int))) = true := hb17
  have qhb17 := of_decide_eq_true hb17
  refine zzc ?_
  refine zzy [0, 0, 0, 5, 15] [(0, []), (1, []), (2, []), (3, []), (4, [])] (by kernel_rfl) (by kernel_rfl) ?_
  refine zza 24 (.v x.v) ?_
  refine zzh 25 (.v (r12.v)) ty26 zzd ?_
  refine zza 4 (.v (.slice none 0 0)) ?_
  refine zza 5 (.v x.v) ?_
  refine zzi ⟨26, r12.cs⟩ ty26 ?_
  refine zzb 112 [(4, .v (.slice none 0 0)), (5, .v x.v), (6, .adr 6 0)] [(6, ⟨26, r12.cs⟩)] ?_
  refine zzn (zzv (ret0 [.slice none 0 0, .slice x.a x.n x.c, r12.v] ⟨zzp, zzp, zzq ty26 zzd, trivial⟩ fun u18 e19 => ?_))
  exact ⟨⟨none, 0, 0⟩, x, r12, [], p, 1, rfl, pol_nil _ _, (hx.ext (e11.trans (g15.ext.trans e19))), RatN.fit (K := 2) (h13.ext e19) (Nt.Wh.one C).rs, Nt.divR_self (by omega), Nt.whL_nil _, hA.more (by omega)⟩
 ·replace hb17 : (decide ((x.n : Int) < (y.n : Int))) = false := hb17
  have qhb17 := of_decide_eq_false hb17
  refine zzr (zzo ?_)
  refine sq9 ?_
  refine zza 26 (.v x.v) ?_
  refine zza 27 (.v (.int .i64 (x.n : Int))) ?_
  refine zza 28 (.v y.v) ?_
  refine zza 29 (.v (.int .i64 (y.n : Int))) ?_
  refine zyp 30 (x := .v (.int .i64 (IntKind.i64.wrap ((x.n : Int) - (y.n : Int))))) (.v (.int .i64 ((x.n - y.n : Nat) : Int))) (eqI (by rw [IntWalk.i64_in _ (by omega)]; omega)) ?_
  refine zyp 31 (x := .v (.int .i64 (IntKind.i64.wrap (((x.n - y.n : Nat) : Int) + 1)))) (.v (.int .i64 (((x.n - y.n) + 1 : Nat) : Int))) (eqI (by rw [IntWalk.i64_in _ (by omega)]; omega)) ?_
  refine zzf 32 124 [.int .i64 (((x.n - y.n) + 1 : Nat) : Int)] ?_
  intro w20 u20 e20 d20
  have k29 := k_zeros (n := (x.n - y.n) + 1) d20 (by omega)
  with_reducible refine Post.mono k29 ?_
  rintro _ u27 g28 ⟨b21, L22, rfl, hb23, hh24, hL25, hR26⟩
  refine zza 33 (.v x.v) ?_
  refine zzf 34 169 [x.v] ?_
  intro w30 u30 e30 d30
  have k44 := k_clonePol d30 (hx.ext (e11.trans (g15.ext.trans (e20.trans (g28.ext.trans e30))))) (by omega) (by omega)
  with_reducible refine Post.mono k44 ?_
  rintro _ u42 g43 ⟨b31, c32, L33, X34, rfl, hb35, hh36, hL37, hR38, hlX39, hle40, hmx41⟩
  refine zza 8 (.v (.slice (some ⟨b21, 0, none⟩) ((x.n - y.n) + 1) ((x.n - y.n) + 1))) ?_
  refine zza 9 (.v (.slice (some ⟨b31, 0, none⟩) x.n c32)) ?_
  refine zzb 112 [(1, .v y.v), (6, .adr 6 0), (7, .adr 7 0), (8, .v (.slice (some ⟨b21, 0, none⟩) ((x.n - y.n) + 1) ((x.n - y.n) + 1))), (9, .v (.slice (some ⟨b31, 0, none⟩) x.n c32))] [(6, ⟨26, [.bool false, .slice none 0 0, .slice none 0 0]⟩), (7, ⟨26, r12.cs⟩)] ?_
  refine zzc ?_
  refine sw_adopt (r := 9) (k := 9) (by rfl) ((Ext.refl _).cells hh36) (Nat.le_trans ((e11.trans (g15.ext.trans (e20.trans (g28.ext.trans e30)))).size) hb35) (by kernel_rfl) (fun u45 eB46 => ?_)
  replace hR38 := hR38.ext (ExtB.old eB46 g43.ext hb35)
  refine sw_adopt (r := 8) (k := 8) (cs := rcs L22 ++ []) (by rfl) (by rw [List.append_nil]; exact ((e30.trans (ExtB.old eB46 g43.ext hb35)).cells hh24)) (Nat.le_trans ((e11.trans (g15.ext.trans e20)).size) hb23) (by kernel_rfl) (fun u47 eB48 => ?_)
  replace hR26 := (hR26.ext (e30.trans (ExtB.old eB46 g43.ext hb35))).extB ((e30.trans (ExtB.old eB46 g43.ext hb35)).cells hh24) eB48
  replace hR38 := (hR38.ext (Ext.refl _)).extB ((e30.trans (ExtB.old eB46 g43.ext hb35)).cells hh24) eB48
  have hXl : p.length * 3 + X34.length = c32 * 3 := by have h9 := hlX39; rw [List.length_append, zyx] at h9; omega
  have hq1 : (q.getD (y.n - 1) 0) ≠ 0 := by have h9 := Nt.nrm_last hq (by rintro rfl; simp at hq0); rw [hlen2]; exact h9
  refine zze ?_
  refine zza 35 (.v y.v) ?_
  refine zza 36 (.v y.v) ?_
  refine zza 37 (.v (.int .i64 (y.n : Int))) ?_
  refine zyp 38 (x := .v (.int .i64 (IntKind.i64.wrap ((y.n : Int) - 1)))) (.v (.int .i64 ((y.n - 1 : Nat) : Int))) (eqI (by rw [IntWalk.i64_in _ (by omega)]; omega)) ?_
  have hl49 := (hy.ext (e11.trans (g15.ext.trans (e20.trans (ExtB.old eB48 (g28.ext.trans (e30.trans (ExtB.old eB46 g43.ext hb35))) hb23))))).len
  obtain ⟨r49, b49, o49, hA49, hc49, hr49⟩ := pol_atN (hy.ext (e11.trans (g15.ext.trans (e20.trans (ExtB.old eB48 (g28.ext.trans (e30.trans (ExtB.old eB46 g43.ext hb35))) hb23))))) (i := y.n - 1) (by omega)
  refine zzz 39 (o49 + (y.n - 1) * 3) (n := y.n) (off := o49) (sz := 3) (i := ((y.n - 1 : Nat) : Int)) (by omega) hA49 (by omega) (by omega) sl41 ?_
  refine zyl 40 r49.cs hc49 ty26 ?_
  refine zzj 10 ⟨26, [.bool false, .slice none 0 0, .slice none 0 0]⟩ ?_
  refine zzi ⟨26, r49.cs⟩ ty26 ?_
  refine zzb 112 [(1, .v y.v), (6, .adr 6 0), (7, .adr 7 0), (8, .slc 8 0 ((x.n - y.n) + 1) ((x.n - y.n) + 1)), (9, .slc 9 0 x.n c32), (10, .adr 10 0)] [(6, ⟨26, [.bool false, .slice none 0 0, .slice none 0 0]⟩), (7, ⟨26, r12.cs⟩), (8, ⟨26, rcs L22 ++ []⟩), (9, ⟨26, rcs L33 ++ X34⟩), (10, ⟨26, r49.cs⟩)] ?_
  refine zzc ?_
  refine zzs ?_
  refine zym (I := fun m50 S' u' => ∃ (n : Nat) (k : Nat) (Ls : List RL) (Lr : List RL) (s : List Rat) (t : List Rat) (rf : RL) (f : Rat), (m50 = n) ∧ (n ≤ p.length) ∧ (k ≤ p.length - n ∧ k ≤ p.length - q.length + 1) ∧ (Nt.DivI p q n s t f) ∧ (Nt.WhL s (a + k * (b + 1))) ∧ (Nt.WhL t (a + k * (b + 1))) ∧ (Nt.Wh f (k * (b + 1))) ∧ (S' = St.of 112 [(1, .v (.slice y.a y.n y.c)), (6, .adr 6 0), (7, .adr 7 0), (8, .slc 8 0 ((x.n - y.n) + 1) ((x.n - y.n) + 1)), (9, .slc 9 0 n c32), (10, .adr 10 0)] [(6, ⟨26, [.bool false, .slice none 0 0, .slice none 0 0]⟩), (7, ⟨26, rf.cs⟩), (8, ⟨26, rcs Ls ++ []⟩), (9, ⟨26, rcs Lr ++ X34⟩), (10, ⟨26, r49.cs⟩)]) ∧ (Ext u47 u') ∧ (RatsN u' Ls s (Nt.dg C)) ∧ (RatsN u' Lr t (Nt.dg C)) ∧ (RatN u' rf f (Nt.dg C))) (fun m S u1 u2 e h => by obtain ⟨n, k, Ls, Lr, s, t, rf, f, hm, p0, p1, p2, p3, p4, p5, hS, hE, f0, f1, f2⟩ := h; exact ⟨n, k, Ls, Lr, s, t, rf, f, hm, p0, p1, p2, p3, p4, p5, hS, hE.trans e, f0.ext e, f1.ext e, f2.ext e⟩) _ (T := St.of 112 [(1, .v (.slice y.a y.n y.c)), (6, .adr 6 0), (7, .adr 7 0), (8, .slc 8 0 ((x.n - y.n) + 1) ((x.n - y.n) + 1)), (9, .slc 9 0 x.n c32), (10, .adr 10 0)] [(6, ⟨26, [.bool false, .slice none 0 0, .slice none 0 0]⟩), (7, ⟨26, r12.cs⟩), (8, ⟨26, rcs L22 ++ []⟩), (9, ⟨26, rcs L33 ++ X34⟩), (10, ⟨26, r49.cs⟩)]) (by exact zzu _ _ _) ⟨x.n, 0, L22, L33, (List.replicate ((x.n - y.n) + 1) (0 : Rat)), p, r12, 1, rfl, by omega, by omega, (by have h9 := Nt.DivI.begin p q; rw [hlen, hlen2]; exact h9), Nt.whL_rep _ _, (hA.more (by omega)), Nt.Wh.one _, rfl, Ext.refl _, (RatsN.fit hR26 (Nt.whL_rep _ C)), hR38, (RatN.fit (K := 2) (h13.ext (e20.trans (ExtB.old eB48 (g28.ext.trans (e30.trans (ExtB.old eB46 g43.ext hb35))) hb23))) (Nt.Wh.one C).rs)⟩ ?_
  rintro m50 _ u50 ⟨n, k, Ls, Lr, s, t, rf, f, hm50, hn, hk, hD, hWs, hWt, hWf, rfl, e50, hRs, hRt, hRf⟩
  have hls := hRs.1
  have hlt := hRt.1
  have hsl := hD.sl
  have htl := hD.tl
  refine zzc ?_
  refine sq9 ?_
  refine zza 41 (.slc 9 0 n c32) ?_
  refine zza 42 (.v (.int .i64 (n : Int))) ?_
  refine zza 43 (.v y.v) ?_
  refine zza 44 (.v (.int .i64 (y.n : Int))) ?_
  refine zza 45 (.v (.bool (decide ((y.n : Int) ≤ (n : Int))))) ?_
  refine zzb 112 [(1, .v y.v), (6, .adr 6 0), (7, .adr 7 0), (8, .slc 8 0 ((x.n - y.n) + 1) ((x.n - y.n) + 1)), (9, .slc 9 0 n c32), (10, .adr 10 0), (45, .v (.bool (decide ((y.n : Int) ≤ (n : Int)))))] [(6, ⟨26, [.bool false, .slice none 0 0, .slice none 0 0]⟩), (7, ⟨26, rf.cs⟩), (8, ⟨26, rcs Ls ++ []⟩), (9, ⟨26, rcs Lr ++ X34⟩), (10, ⟨26, r49.cs⟩)] ?_
  refine zzt (b := decide ((y.n : Int) ≤ (n : Int))) (by kernel_rfl) (fun hb51 => ?_) (fun hb51 => ?_)
  ·replace hb51 : (decide ((y.n : Int) ≤ (n : Int))) = true := hb51
   have qhb51 := of_decide_eq_true hb51
   refine zzr (zzo ?_)
   refine zzs ?_
   refine sq9 ?_
   refine zza 46 (.slc 9 0 n c32) ?_
   refine zza 47 (.v (.int .i64 (n : Int))) ?_
   refine zza 48 (.v y.v) ?_
   refine zza 49 (.v (.int .i64 (y.n : Int))) ?_
   refine zyp 50 (x := .v (.int .i64 (IntKind.i64.wrap ((n : Int) - (y.n : Int))))) (.v (.int .i64 ((n - y.n : Nat) : Int))) (eqI (by rw [IntWalk.i64_in _ (by omega)]; omega)) ?_
   refine zza 11 (.v (.int .i64 ((n - y.n : Nat) : Int))) ?_
   refine zzb 112 [(1, .v y.v), (6, .adr 6 0), (7, .adr 7 0), (8, .slc 8 0 ((x.n - y.n) + 1) ((x.n - y.n) + 1)), (9, .slc 9 0 n c32), (10, .adr 10 0), (11, .v (.int .i64 ((n - y.n : Nat) : Int)))] [(6, ⟨26, [.bool false, .slice none 0 0, .slice none 0 0]⟩), (7, ⟨26, rf.cs⟩), (8, ⟨26, rcs Ls ++ []⟩), (9, ⟨26, rcs Lr ++ X34⟩), (10, ⟨26, r49.cs⟩)] ?_
   refine zzc ?_
   refine zzy [0, 0, 2, 6, 15, 31, 0, 127, 255, 511, 511, 0, 3071, 8191] [(0, []), (1, []), (2, []), (3, []), (4, []), (5, []), (6, []), (11, []), (7, []), (8, []), (9, []), (10, []), (12, []), (13, [])] (by kernel_rfl) (by kernel_rfl) ?_
   refine zza 52 (.slc 9 0 n c32) ?_
   refine zza 53 (.slc 9 0 n c32) ?_
   refine zza 54 (.v (.int .i64 (n : Int))) ?_
   refine zyp 55 (x := .v (.int .i64 (IntKind.i64.wrap ((n : Int) - 1)))) (.v (.int .i64 ((n - 1 : Nat) : Int))) (eqI (by rw [IntWalk.i64_in _ (by omega)]; omega)) ?_
   refine zyv 56 (off' := (n - 1) * 3) (n := n) (off := 0) (sz := 3) (i := ((n - 1 : Nat) : Int)) sl41 (by omega) (by omega) (by omega) ?_
   obtain ⟨r52, hrr52⟩ : ∃ r : RL, (Lr).getD (n - 1) rl0 = r := ⟨_, rfl⟩
   refine zzh 57 (V := ⟨26, rcs Lr ++ X34⟩) (off := (n - 1) * 3) (.v r52.v) ty26 (by have h9 := part_rcsX (X := X34) (L := Lr) (i := n - 1) (off := (n - 1) * 3) (by first|omega|(simp;omega)) rfl; rw [hrr52] at h9; exact h9) ?_
   have h53 := hRt.2 (n - 1) (by first|omega|(simp;omega))
   rw [hrr52] at h53
   refine zzh 58 (.v (r49.v)) ty26 zzd ?_
   refine zzj 12 ⟨26, [.bool false, .slice none 0 0, .slice none 0 0]⟩ ?_
   refine zzf 59 99 [r52.v, r49.v] ?_
   intro w54 u54 e54 d54
   have k59 := k_ratDiv1 d54 (h53.ext e54).raw (hr49.ext (e50.trans e54)).raw hq1 (by omega) (by omega)
   with_reducible refine Post.mono k59 ?_
   rintro _ u57 g58 ⟨r55, rfl, h56⟩
   refine zza 51 (.v (.tuple #[r55.v, .int .i64 0])) ?_
   refine zza 60 (.v (r55.v)) ?_
   refine zza 61 (.v (.int .i64 0)) ?_
   refine zzi ⟨26, r55.cs⟩ ty26 ?_
   refine zza 13 (.v (.int .i64 0)) ?_
   refine zzb 112 [(1, .v y.v), (6, .adr 6 0), (7, .adr 7 0), (8, .slc 8 0 ((x.n - y.n) + 1) ((x.n - y.n) + 1)), (9, .slc 9 0 n c32), (10, .adr 10 0), (11, .v (.int .i64 ((n - y.n : Nat) : Int))), (12, .adr 12 0)] [(6, ⟨26, [.bool false, .slice none 0 0, .slice none 0 0]⟩), (7, ⟨26, rf.cs⟩), (8, ⟨26, rcs Ls ++ []⟩), (9, ⟨26, rcs Lr ++ X34⟩), (10, ⟨26, r49.cs⟩), (12, ⟨26, r55.cs⟩)] ?_
   refine sq9 ?_
   refine zzh 63 (.v (r55.v)) ty26 zzd ?_
   refine zzf 64 127 [r55.v] ?_
   intro w60 u60 e60 d60
   have k65 := k_poParts (r := r55) d60
   with_reducible refine Post.mono k65 ?_
   rintro _ u63 g64 ⟨y61, rfl, h62⟩
   refine zza 62 (.v (.tuple #[.agg #[.bool r55.s, r55.m.v, y61.v], .agg #[.bool false, r55.d.v, y61.v]])) ?_
   refine zza 65 (.v (.agg #[.bool r55.s, r55.m.v, y61.v])) ?_
   refine zza 66 (.v (.agg #[.bool false, r55.d.v, y61.v])) ?_
   refine zzj 14 ⟨26, [.bool false, .slice none 0 0, .slice none 0 0]⟩ ?_
   refine zzj 15 ⟨26, [.bool false, .slice none 0 0, .slice none 0 0]⟩ ?_
   refine zzi ⟨26, [.bool r55.s, r55.m.v, y61.v]⟩ ty26 ?_
   refine zzi ⟨26, [.bool false, r55.d.v, y61.v]⟩ ty26 ?_
   refine zzb 112 [(1, .v y.v), (6, .adr 6 0), (7, .adr 7 0), (8, .slc 8 0 ((x.n - y.n) + 1) ((x.n - y.n) + 1)), (9, .slc 9 0 n c32), (10, .adr 10 0), (11, .v (.int .i64 ((n - y.n : Nat) : Int))), (14, .adr 14 0), (15, .adr 15 0)] [(6, ⟨26, [.bool false, .slice none 0 0, .slice none 0 0]⟩), (7, ⟨26, rf.cs⟩), (8, ⟨26, rcs Ls ++ []⟩), (9, ⟨26, rcs Lr ++ X34⟩), (10, ⟨26, r49.cs⟩), (14, ⟨26, [.bool r55.s, r55.m.v, y61.v]⟩), (15, ⟨26, [.bool false, r55.d.v, y61.v]⟩)] ?_
   refine zzc ?_
   refine zzc ?_
   have hCn := Nt.bits_le (k9 := k + 1) hC (by omega)
   have hbs := Nat.succ_mul k (b + 1)
   rw [Nat.succ_eq_add_one] at hbs
   obtain ⟨hwn, hwd⟩ := Nt.Wh.quo (hWt (n - 1)) (hB (y.n - 1)) hq1
   obtain ⟨hst, hd0⟩ := Nt.quo_step (x := t.getD (n - 1) 0) hq1
   have hn14 := (whole_rat (RatN.num (h56.ext (e60.trans g64.ext))) h62)
   have hd15 := (whole_rat (nat_intN (RatN.den (h56.ext (e60.trans g64.ext)))) h62)
   change Nt.Wh ((((t.getD (n - 1) 0 / (q.getD (y.n - 1) 0)).num : Int) : Rat)) _ at hwn
   change Nt.Wh (((((t.getD (n - 1) 0 / (q.getD (y.n - 1) 0)).den : Nat) : Int) : Rat)) _ at hwd
   obtain ⟨nu, hnu⟩ : ∃ z : Rat, (((t.getD (n - 1) 0 / (q.getD (y.n - 1) 0)).num : Int) : Rat) = z := ⟨_, rfl⟩
   obtain ⟨de, hde⟩ : ∃ z : Rat, ((((t.getD (n - 1) 0 / (q.getD (y.n - 1) 0)).den : Nat) : Int) : Rat) = z := ⟨_, rfl⟩
   rw [hnu] at hwn hst hn14
   rw [hde] at hwd hst hd0 hd15
   replace hn14 := RatN.fit hn14 (hwn.more (by omega) : Nt.Wh nu C).rs
   replace hd15 := RatN.fit hd15 (hwd.more (by omega) : Nt.Wh de C).rs
   clear hnu hde
   refine zzy [0, 0, 3, 7] [(0, []), (1, []), (2, []), (3, [])] (by kernel_rfl) (by kernel_rfl) ?_
   refine zzh 67 (.v (.agg #[.bool false, r55.d.v, y61.v])) ty26 zzd ?_
   refine zzf 68 112 [.int .i64 1] ?_
   intro w66 u66 e66 d66
   have k71 := k_ratOf d66 (z := 1) (by omega) (by omega)
   with_reducible refine Post.mono k71 ?_
   rintro _ u69 g70 ⟨r67, rfl, h68⟩
   refine zzf 69 114 [.agg #[.bool false, r55.d.v, y61.v], r67.v] ?_
   intro w72 u72 e72 d72
   have k75 := k_ratCompare d72 (hd15.ext (e66.trans (g70.ext.trans e72))).raw (h68.ext e72).raw (by omega) (by omega)
   with_reducible refine Post.mono k75 ?_
   rintro _ u73 g74 rfl
   refine zza 70 (.v (.bool ((Nt.cmpQ de ((1 : Int) : Rat)) != 0))) ?_
   refine zzb 112 [(1, .v y.v), (6, .adr 6 0), (7, .adr 7 0), (8, .slc 8 0 ((x.n - y.n) + 1) ((x.n - y.n) + 1)), (9, .slc 9 0 n c32), (10, .adr 10 0), (11, .v (.int .i64 ((n - y.n : Nat) : Int))), (14, .adr 14 0), (15, .adr 15 0), (70, .v (.bool ((Nt.cmpQ de ((1 : Int) : Rat)) != 0)))] [(6, ⟨26, [.bool false, .slice none 0 0, .slice none 0 0]⟩), (7, ⟨26, rf.cs⟩), (8, ⟨26, rcs Ls ++ []⟩), (9, ⟨26, rcs Lr ++ X34⟩), (10, ⟨26, r49.cs⟩), (14, ⟨26, [.bool r55.s, r55.m.v, y61.v]⟩), (15, ⟨26, [.bool false, r55.d.v, y61.v]⟩)] ?_
   refine zzt (b := (Nt.cmpQ de ((1 : Int) : Rat)) != 0) (by kernel_rfl) (fun hb76 => ?_) (fun hb76 => ?_)
   ·replace hb76 : ((Nt.cmpQ de ((1 : Int) : Rat)) != 0) = true := hb76
    refine sq9 ?_
    refine zza 71 (.slc 8 0 ((x.n - y.n) + 1) ((x.n - y.n) + 1)) ?_
    refine zzh 72 (.v (.agg #[.bool false, r55.d.v, y61.v])) ty26 zzd ?_
    have kc78 := fun (g : Nat) (w u1 : World) (e : Ext u73 u1) (d : Dat u1 w) (hg : w.heap[g]? = some (.cells (rcs Ls ++ []).toArray 26 (0, 0))) (hu : u1.heap[g]? = some hidO) => k_multiply (n := ((x.n - y.n) + 1)) (c := ((x.n - y.n) + 1)) (r := (⟨false, r55.d, y61⟩ : RL)) d hg hu (RatsN.ext (hRs.ext (e54.trans (g58.ext.trans (e60.trans (g64.ext.trans (e66.trans (g70.ext.trans (e72.trans g74.ext)))))))) e) (RatN.ext (hd15.ext (e66.trans (g70.ext.trans (e72.trans g74.ext)))) e) (by omega) (by omega) hWs hwd (by omega) hC9
    refine sy_lend 73 170 (t := 8) (V := ⟨26, rcs Ls ++ []⟩) (len := ((x.n - y.n) + 1)) (cap := ((x.n - y.n) + 1)) [.agg #[.bool false, r55.d.v, y61.v]] (by kernel_rfl) kc78 ?_
    clear kc78
    rintro V77 u77 e77 ⟨L77, rfl, hL77⟩
    refine zzb 112 [(1, .v y.v), (6, .adr 6 0), (7, .adr 7 0), (8, .slc 8 0 ((x.n - y.n) + 1) ((x.n - y.n) + 1)), (9, .slc 9 0 n c32), (10, .adr 10 0), (11, .v (.int .i64 ((n - y.n : Nat) : Int))), (14, .adr 14 0), (15, .adr 15 0)] [(6, ⟨26, [.bool false, .slice none 0 0, .slice none 0 0]⟩), (7, ⟨26, rf.cs⟩), (8, ⟨26, rcs L77 ++ []⟩), (9, ⟨26, rcs Lr ++ X34⟩), (10, ⟨26, r49.cs⟩), (14, ⟨26, [.bool r55.s, r55.m.v, y61.v]⟩), (15, ⟨26, [.bool false, r55.d.v, y61.v]⟩)] ?_
    refine sq9 ?_
    refine zza 74 (.slc 9 0 n c32) ?_
    refine zzh 75 (.v (.agg #[.bool false, r55.d.v, y61.v])) ty26 zzd ?_
    have kc80 := fun (g : Nat) (w u1 : World) (e : Ext u77 u1) (d : Dat u1 w) (hg : w.heap[g]? = some (.cells (rcs Lr ++ X34).toArray 26 (0, 0))) (hu : u1.heap[g]? = some hidO) => k_multiply (n := n) (c := c32) (r := (⟨false, r55.d, y61⟩ : RL)) d hg hu (RatsN.ext (hRt.ext (e54.trans (g58.ext.trans (e60.trans (g64.ext.trans (e66.trans (g70.ext.trans (e72.trans (g74.ext.trans e77))))))))) e) (RatN.ext (hd15.ext (e66.trans (g70.ext.trans (e72.trans (g74.ext.trans e77))))) e) (by omega) (by omega) hWt hwd (by omega) hC9
    refine sy_lend 76 170 (t := 9) (V := ⟨26, rcs Lr ++ X34⟩) (len := n) (cap := c32) [.agg #[.bool false, r55.d.v, y61.v]] (by kernel_rfl) kc80 ?_
    clear kc80
    rintro V79 u79 e79 ⟨L79, rfl, hL79⟩
    refine zzb 112 [(1, .v y.v), (6, .adr 6 0), (7, .adr 7 0), (8, .slc 8 0 ((x.n - y.n) + 1) ((x.n - y.n) + 1)), (9, .slc 9 0 n c32), (10, .adr 10 0), (11, .v (.int .i64 ((n - y.n : Nat) : Int))), (14, .adr 14 0), (15, .adr 15 0)] [(6, ⟨26, [.bool false, .slice none 0 0, .slice none 0 0]⟩), (7, ⟨26, rf.cs⟩), (8, ⟨26, rcs L77 ++ []⟩), (9, ⟨26, rcs L79 ++ X34⟩), (10, ⟨26, r49.cs⟩), (14, ⟨26, [.bool r55.s, r55.m.v, y61.v]⟩), (15, ⟨26, [.bool false, r55.d.v, y61.v]⟩)] ?_
    refine zze ?_
    refine zzh 77 (.v (rf.v)) ty26 zzd ?_
    refine zzh 78 (.v (.agg #[.bool false, r55.d.v, y61.v])) ty26 zzd ?_
    refine zzf 79 111 [rf.v, .agg #[.bool false, r55.d.v, y61.v]] ?_
    intro w81 u81 e81 d81
    have k86 := k_ratMul d81 (hRf.ext (e54.trans (g58.ext.trans (e60.trans (g64.ext.trans (e66.trans (g70.ext.trans (e72.trans (g74.ext.trans (e77.trans (e79.trans e81))))))))))).raw (hd15.ext (e66.trans (g70.ext.trans (e72.trans (g74.ext.trans (e77.trans (e79.trans e81))))))).raw (by omega) (by omega)
    with_reducible refine Post.mono k86 ?_
    rintro _ u84 g85 ⟨r82, rfl, h83⟩
    refine zzi ⟨26, r82.cs⟩ ty26 ?_
    refine zzb 112 [(1, .v y.v), (6, .adr 6 0), (7, .adr 7 0), (8, .slc 8 0 ((x.n - y.n) + 1) ((x.n - y.n) + 1)), (9, .slc 9 0 n c32), (10, .adr 10 0), (11, .v (.int .i64 ((n - y.n : Nat) : Int))), (14, .adr 14 0)] [(6, ⟨26, [.bool false, .slice none 0 0, .slice none 0 0]⟩), (7, ⟨26, r82.cs⟩), (8, ⟨26, rcs L77 ++ []⟩), (9, ⟨26, rcs L79 ++ X34⟩), (10, ⟨26, r49.cs⟩), (14, ⟨26, [.bool r55.s, r55.m.v, y61.v]⟩)] ?_
    refine zzc ?_
    have hS8 := (hL77.ext (e79.trans (e81.trans g85.ext)))
    have hT9 := (hL79.ext (e81.trans g85.ext))
    rw [Nt.mulN_all (fun i hi => Nt.co_ge (by omega))] at hS8
    rw [Nt.mulN_all hD.tz] at hT9
    have hF7 := h83
    have hl8 := hS8.1
    have hl9 := hT9.1
    rw [List.length_map] at hl8 hl9
    have hD2 := hD.step hn (by omega) hq0 (by rw [← hlen2]; exact hq1) hd0 (by rw [← hlen2]; exact hst)
    rw [← hlen2] at hD2
    refine zze ?_
    refine zza 80 (.slc 8 0 ((x.n - y.n) + 1) ((x.n - y.n) + 1)) ?_
    refine zza 81 (.v (.int .i64 ((n - y.n : Nat) : Int))) ?_
    refine zzh 82 (.v (.agg #[.bool r55.s, r55.m.v, y61.v])) ty26 zzd ?_
    refine zyv 83 (off' := (n - y.n) * 3) (n := (x.n - y.n) + 1) (off := 0) (sz := 3) (i := ((n - y.n : Nat) : Int)) sl41 (by omega) (by omega) (by omega) ?_
    refine zyu (V := ⟨26, rcs L77 ++ []⟩) (off := (n - y.n) * 3) (rcs ((L77).set (n - y.n) (⟨r55.s, r55.m, y61⟩ : RL)) ++ []) ty26 (by rw [List.length_append, zyx]; first|omega|(simp;omega)) (setL_rcsX (r := (⟨r55.s, r55.m, y61⟩ : RL)) (i := n - y.n) (by first|omega|(simp;omega)) rfl) ?_
    refine zzb 112 [(1, .v y.v), (6, .adr 6 0), (7, .adr 7 0), (8, .slc 8 0 ((x.n - y.n) + 1) ((x.n - y.n) + 1)), (9, .slc 9 0 n c32), (10, .adr 10 0), (11, .v (.int .i64 ((n - y.n : Nat) : Int))), (14, .adr 14 0)] [(6, ⟨26, [.bool false, .slice none 0 0, .slice none 0 0]⟩), (7, ⟨26, r82.cs⟩), (8, ⟨26, rcs ((L77).set (n - y.n) (⟨r55.s, r55.m, y61⟩ : RL)) ++ []⟩), (9, ⟨26, rcs L79 ++ X34⟩), (10, ⟨26, r49.cs⟩), (14, ⟨26, [.bool r55.s, r55.m.v, y61.v]⟩)] ?_
    refine zzc ?_
    refine zzc ?_
    have hS8b : RatsN u84 ((L77).set (n - y.n) (⟨r55.s, r55.m, y61⟩ : RL)) ((s.map (· * de)).set (n - y.n) nu) (Nt.dg C) := RatsN.set (i := n - y.n) hS8 (by simp; omega) (hn14.ext (e66.trans (g70.ext.trans (e72.trans (g74.ext.trans (e77.trans (e79.trans (e81.trans g85.ext))))))))
    have hWt2 : Nt.WhL (Nt.subN (n - y.n) nu q (t.map (· * de)) y.n) ((a + k * (b + 1)) + b + 1) := Nt.WhL.subN (hWt.map hwd) (fun i => hwn.mul (hB i)) (by simp; omega)
    refine zze ?_
    refine zza 84 (.v y.v) ?_
    refine zza 85 (.v (.int .i64 (y.n : Int))) ?_
    refine zza 86 (.v (.int .i64 0)) ?_
    refine zzb 112 [(1, .v y.v), (6, .adr 6 0), (7, .adr 7 0), (8, .slc 8 0 ((x.n - y.n) + 1) ((x.n - y.n) + 1)), (9, .slc 9 0 n c32), (10, .adr 10 0), (11, .v (.int .i64 ((n - y.n : Nat) : Int))), (14, .adr 14 0), (84, .v y.v), (85, .v (.int .i64 (y.n : Int))), (86, .v (.int .i64 0))] [(6, ⟨26, [.bool false, .slice none 0 0, .slice none 0 0]⟩), (7, ⟨26, r82.cs⟩), (8, ⟨26, rcs ((L77).set (n - y.n) (⟨r55.s, r55.m, y61⟩ : RL)) ++ []⟩), (9, ⟨26, rcs L79 ++ X34⟩), (10, ⟨26, r49.cs⟩), (14, ⟨26, [.bool r55.s, r55.m.v, y61.v]⟩)] ?_
    refine zzs ?_
    refine zym (I := fun m87 S' u' => ∃ (j : Nat) (M9 : List RL), (m87 = y.n - j) ∧ (j ≤ y.n) ∧ (M9.length = t.length) ∧ (S' = St.of 112 [(1, .v (.slice y.a y.n y.c)), (6, .adr 6 0), (7, .adr 7 0), (8, .slc 8 0 ((x.n - y.n) + 1) ((x.n - y.n) + 1)), (9, .slc 9 0 n c32), (10, .adr 10 0), (11, .v (.int .i64 ((n - y.n : Nat) : Int))), (14, .adr 14 0), (84, .v (.slice y.a y.n y.c)), (85, .v (.int .i64 (y.n : Int))), (86, .v (.int .i64 (j : Int)))] [(6, ⟨26, [.bool false, .slice none 0 0, .slice none 0 0]⟩), (7, ⟨26, r82.cs⟩), (8, ⟨26, rcs ((L77).set (n - y.n) (⟨r55.s, r55.m, y61⟩ : RL)) ++ []⟩), (9, ⟨26, rcs M9 ++ X34⟩), (10, ⟨26, r49.cs⟩), (14, ⟨26, [.bool r55.s, .slice r55.m.a r55.m.n r55.m.c, .slice y61.a y61.n y61.c]⟩)]) ∧ (Ext u84 u') ∧ (RatsN u' M9 (Nt.subN (n - y.n) nu q (t.map (· * de)) j) (Nt.dg C))) (fun m S u1 u2 e h => by obtain ⟨j, M9, hm, p0, p1, hS, hE, f0⟩ := h; exact ⟨j, M9, hm, p0, p1, hS, hE.trans e, f0.ext e⟩) _ (T := St.of 112 [(1, .v (.slice y.a y.n y.c)), (6, .adr 6 0), (7, .adr 7 0), (8, .slc 8 0 ((x.n - y.n) + 1) ((x.n - y.n) + 1)), (9, .slc 9 0 n c32), (10, .adr 10 0), (11, .v (.int .i64 ((n - y.n : Nat) : Int))), (14, .adr 14 0), (84, .v (.slice y.a y.n y.c)), (85, .v (.int .i64 (y.n : Int))), (86, .v (.int .i64 0))] [(6, ⟨26, [.bool false, .slice none 0 0, .slice none 0 0]⟩), (7, ⟨26, r82.cs⟩), (8, ⟨26, rcs ((L77).set (n - y.n) (⟨r55.s, r55.m, y61⟩ : RL)) ++ []⟩), (9, ⟨26, rcs L79 ++ X34⟩), (10, ⟨26, r49.cs⟩), (14, ⟨26, [.bool r55.s, .slice r55.m.a r55.m.n r55.m.c, .slice y61.a y61.n y61.c]⟩)]) (by exact zzu _ _ _) ⟨0, L79, rfl, by omega, by omega, rfl, Ext.refl _, hT9⟩ ?_
    rintro m87 _ u87 ⟨j, M9, hm87, hj, hM9, rfl, e87, hQ⟩
    refine sq9 ?_
    refine zza 87 (.v (.bool (decide ((j : Int) < (y.n : Int))))) ?_
    refine zzb 112 [(1, .v y.v), (6, .adr 6 0), (7, .adr 7 0), (8, .slc 8 0 ((x.n - y.n) + 1) ((x.n - y.n) + 1)), (9, .slc 9 0 n c32), (10, .adr 10 0), (11, .v (.int .i64 ((n - y.n : Nat) : Int))), (14, .adr 14 0), (84, .v y.v), (85, .v (.int .i64 (y.n : Int))), (86, .v (.int .i64 (j : Int))), (87, .v (.bool (decide ((j : Int) < (y.n : Int)))))] [(6, ⟨26, [.bool false, .slice none 0 0, .slice none 0 0]⟩), (7, ⟨26, r82.cs⟩), (8, ⟨26, rcs ((L77).set (n - y.n) (⟨r55.s, r55.m, y61⟩ : RL)) ++ []⟩), (9, ⟨26, rcs M9 ++ X34⟩), (10, ⟨26, r49.cs⟩), (14, ⟨26, [.bool r55.s, r55.m.v, y61.v]⟩)] ?_
    refine zzc ?_
    refine zzt (b := decide ((j : Int) < (y.n : Int))) (by kernel_rfl) (fun hb88 => ?_) (fun hb88 => ?_)
    ·replace hb88 : (decide ((j : Int) < (y.n : Int))) = true := hb88
     have qhb88 := of_decide_eq_true hb88
     refine zzr (zzo ?_)
     refine zzc ?_
     refine zzs ?_
     refine sq9 ?_
     refine zza 88 (.v (.int .i64 (j : Int))) ?_
     have hl89 := (hy.ext (e11.trans (g15.ext.trans (e20.trans ((ExtB.old eB48 (g28.ext.trans (e30.trans (ExtB.old eB46 g43.ext hb35))) hb23).trans (e50.trans (e54.trans (g58.ext.trans (e60.trans (g64.ext.trans (e66.trans (g70.ext.trans (e72.trans (g74.ext.trans (e77.trans (e79.trans (e81.trans (g85.ext.trans e87)))))))))))))))))).len
     obtain ⟨r89, b89, o89, hA89, hc89, hr89⟩ := pol_atN (hy.ext (e11.trans (g15.ext.trans (e20.trans ((ExtB.old eB48 (g28.ext.trans (e30.trans (ExtB.old eB46 g43.ext hb35))) hb23).trans (e50.trans (e54.trans (g58.ext.trans (e60.trans (g64.ext.trans (e66.trans (g70.ext.trans (e72.trans (g74.ext.trans (e77.trans (e79.trans (e81.trans (g85.ext.trans e87)))))))))))))))))) (i := j) (by omega)
     refine zzz 89 (o89 + j * 3) (n := y.n) (off := o89) (sz := 3) (i := (j : Int)) (by omega) hA89 (by omega) (by omega) sl41 ?_
     refine zyl 90 r89.cs hc89 ty26 ?_
     refine zzj 17 ⟨26, [.bool false, .slice none 0 0, .slice none 0 0]⟩ ?_
     refine zza 16 (.v (.int .i64 (j : Int))) ?_
     refine zzi ⟨26, r89.cs⟩ ty26 ?_
     refine zzb 112 [(1, .v y.v), (6, .adr 6 0), (7, .adr 7 0), (8, .slc 8 0 ((x.n - y.n) + 1) ((x.n - y.n) + 1)), (9, .slc 9 0 n c32), (10, .adr 10 0), (11, .v (.int .i64 ((n - y.n : Nat) : Int))), (14, .adr 14 0), (16, .v (.int .i64 (j : Int))), (17, .adr 17 0), (84, .v y.v), (85, .v (.int .i64 (y.n : Int))), (86, .v (.int .i64 (j : Int)))] [(6, ⟨26, [.bool false, .slice none 0 0, .slice none 0 0]⟩), (7, ⟨26, r82.cs⟩), (8, ⟨26, rcs ((L77).set (n - y.n) (⟨r55.s, r55.m, y61⟩ : RL)) ++ []⟩), (9, ⟨26, rcs M9 ++ X34⟩), (10, ⟨26, r49.cs⟩), (14, ⟨26, [.bool r55.s, r55.m.v, y61.v]⟩), (17, ⟨26, r89.cs⟩)] ?_
     refine zzy [0, 0, 0, 6, 0, 0, 0, 96, 240, 496, 0, 0, 3072, 8176, 16383, 32767] [(0, []), (1, []), (2, []), (3, []), (4, []), (5, []), (6, []), (7, []), (8, []), (9, []), (10, []), (11, []), (12, []), (13, []), (14, []), (15, [])] (by kernel_rfl) (by kernel_rfl) ?_
     refine zza 91 (.slc 9 0 n c32) ?_
     refine zza 92 (.v (.int .i64 ((n - y.n : Nat) : Int))) ?_
     refine zza 93 (.v (.int .i64 (j : Int))) ?_
     refine zyp 94 (x := .v (.int .i64 (IntKind.i64.wrap (((n - y.n : Nat) : Int) + (j : Int))))) (.v (.int .i64 (((n - y.n) + j : Nat) : Int))) (eqI (by rw [IntWalk.i64_in _ (by omega)]; omega)) ?_
     refine zza 95 (.slc 9 0 n c32) ?_
     refine zza 96 (.v (.int .i64 ((n - y.n : Nat) : Int))) ?_
     refine zza 97 (.v (.int .i64 (j : Int))) ?_
     refine zyp 98 (x := .v (.int .i64 (IntKind.i64.wrap (((n - y.n : Nat) : Int) + (j : Int))))) (.v (.int .i64 (((n - y.n) + j : Nat) : Int))) (eqI (by rw [IntWalk.i64_in _ (by omega)]; omega)) ?_
     refine zyv 99 (off' := ((n - y.n) + j) * 3) (n := n) (off := 0) (sz := 3) (i := (((n - y.n) + j : Nat) : Int)) sl41 (by omega) (by omega) (by omega) ?_
     obtain ⟨r90, hrr90⟩ : ∃ r : RL, (M9).getD ((n - y.n) + j) rl0 = r := ⟨_, rfl⟩
     refine zzh 100 (V := ⟨26, rcs M9 ++ X34⟩) (off := ((n - y.n) + j) * 3) (.v r90.v) ty26 (by have h9 := part_rcsX (X := X34) (L := M9) (i := (n - y.n) + j) (off := ((n - y.n) + j) * 3) (by first|omega|(simp;omega)) rfl; rw [hrr90] at h9; exact h9) ?_
     have h91 := hQ.2 ((n - y.n) + j) (by first|omega|(simp;omega))
     rw [hrr90] at h91
     refine zzh 101 (.v (.agg #[.bool r55.s, r55.m.v, y61.v])) ty26 zzd ?_
     refine zzh 102 (.v (r89.v)) ty26 zzd ?_
     refine zzf 103 111 [.agg #[.bool r55.s, r55.m.v, y61.v], r89.v] ?_
     intro w92 u92 e92 d92
     have k97 := k_ratMul d92 (hn14.ext (e66.trans (g70.ext.trans (e72.trans (g74.ext.trans (e77.trans (e79.trans (e81.trans (g85.ext.trans (e87.trans e92)))))))))).raw (hr89.ext e92).raw (by omega) (by omega)
     with_reducible refine Post.mono k97 ?_
     rintro _ u95 g96 ⟨r93, rfl, h94⟩
     refine zzf 104 109 [r90.v, r93.v] ?_
     intro w98 u98 e98 d98
     have k103 := k_ratSub d98 (h91.ext (e92.trans (g96.ext.trans e98))).raw (h94.ext e98).raw (by omega) (by omega)
     with_reducible refine Post.mono k103 ?_
     rintro _ u101 g102 ⟨r99, rfl, h100⟩
     refine zyv 105 (off' := ((n - y.n) + j) * 3) (n := n) (off := 0) (sz := 3) (i := (((n - y.n) + j : Nat) : Int)) sl41 (by omega) (by omega) (by omega) ?_
     refine zyu (V := ⟨26, rcs M9 ++ X34⟩) (off := ((n - y.n) + j) * 3) (rcs ((M9).set ((n - y.n) + j) r99) ++ X34) ty26 (by rw [List.length_append, zyx]; first|omega|(simp;omega)) (setL_rcsX (r := r99) (i := (n - y.n) + j) (by first|omega|(simp;omega)) rfl) ?_
     refine zzw ?_
     refine zzo ?_
     refine zze ?_
     refine zyp 106 (x := .v (.int .i64 (IntKind.i64.wrap ((j : Int) + 1)))) (.v (.int .i64 ((j + 1 : Nat) : Int))) (eqI (by rw [IntWalk.i64_in _ (by omega)]; omega)) ?_
     refine zza 86 (.v (.int .i64 ((j + 1 : Nat) : Int))) ?_
     refine zzw ?_
     have hw9 := (Nt.WhL.subN (hWt.map hwd) (fun i => hwn.mul (hB i)) (a := n - y.n) (j := j + 1) (by simp; omega)) (n - y.n + j)
     have e9 : Nt.co (Nt.subN (n - y.n) nu q (t.map (· * de)) (j + 1)) (n - y.n + j) = (((Nt.subN (n - y.n) nu q (t.map (· * de)) j).getD ((n - y.n) + j) 0) - (nu * (q.getD j 0))) := by show Nt.co (List.set _ _ _) _ = _; rw [Nt.co_set (by simp; omega), if_pos rfl]
     rw [e9] at hw9
     refine ⟨_, ?_, St.of 112 [(1, .v (.slice y.a y.n y.c)), (6, .adr 6 0), (7, .adr 7 0), (8, .slc 8 0 ((x.n - y.n) + 1) ((x.n - y.n) + 1)), (9, .slc 9 0 n c32), (10, .adr 10 0), (11, .v (.int .i64 ((n - y.n : Nat) : Int))), (14, .adr 14 0), (84, .v (.slice y.a y.n y.c)), (85, .v (.int .i64 (y.n : Int))), (86, .v (.int .i64 ((j + 1 : Nat) : Int)))] [(6, ⟨26, [.bool false, .slice none 0 0, .slice none 0 0]⟩), (7, ⟨26, r82.cs⟩), (8, ⟨26, rcs ((L77).set (n - y.n) (⟨r55.s, r55.m, y61⟩ : RL)) ++ []⟩), (9, ⟨26, rcs ((M9).set ((n - y.n) + j) r99) ++ X34⟩), (10, ⟨26, r49.cs⟩), (14, ⟨26, [.bool r55.s, .slice r55.m.a r55.m.n r55.m.c, .slice y61.a y61.n y61.c]⟩)], by exact zzu _ _ _, j + 1, (M9).set ((n - y.n) + j) r99, rfl, by omega, by simp; omega, rfl, (e87.trans (e92.trans (g96.ext.trans (e98.trans g102.ext)))), (RatsN.set (i := n - y.n + j) (hQ.ext (e92.trans (g96.ext.trans (e98.trans g102.ext)))) (by simp; omega) (RatN.fit (K := ((Nt.dg C) + ((Nt.dg C) + (Nt.dg C)) + 1)) h100 (hw9.more (by omega) : Nt.Wh _ C).rs))⟩
     omega
    ·replace hb88 : (decide ((j : Int) < (y.n : Int))) = false := hb88
     have qhb88 := of_decide_eq_false hb88
     refine zyb ?_
     refine zzo ?_
     refine zze ?_
     refine zza 107 (.slc 9 0 n c32) ?_
     have kc105 := fun (g : Nat) (w u1 : World) (e : Ext u87 u1) (d : Dat u1 w) (hg : w.heap[g]? = some (.cells (rcs M9 ++ X34).toArray 26 (0, 0))) (hu : u1.heap[g]? = some hidO) => k_cutL (n := n) (c := c32) d hg hu (RatsN.ext hQ e) (by first|omega|(simp;omega)) (by omega) (by omega) (by omega)
     refine sy_lendS 108 118 (t := 9) (V := ⟨26, rcs M9 ++ X34⟩) (len := n) (cap := c32) [] (by kernel_rfl) kc105 ?_
     clear kc105
     rintro m104 _ u104 e104 ⟨rfl, hm104⟩
     refine sy_over 9 (.slc 9 0 m104 c32) ?_
     refine zzw ?_
     have hj9 : j = y.n := by omega
     rw [hj9] at hm104
     have hmn : m104 ≤ n - 1 := by rw [hm104]; exact Nt.cut_lenQ hD2.tz (by omega)
     have hmz : ∀ i, m104 ≤ i → Nt.co (Nt.subN (n - y.n) nu q (t.map (· * de)) y.n) i = 0 := by rw [hm104]; exact Nt.cut_zeroQ (fun i hi => hD2.tz i (by omega))
     refine ⟨_, ?_, St.of 112 [(1, .v (.slice y.a y.n y.c)), (6, .adr 6 0), (7, .adr 7 0), (8, .slc 8 0 ((x.n - y.n) + 1) ((x.n - y.n) + 1)), (9, .slc 9 0 m104 c32), (10, .adr 10 0)] [(6, ⟨26, [.bool false, .slice none 0 0, .slice none 0 0]⟩), (7, ⟨26, r82.cs⟩), (8, ⟨26, rcs ((L77).set (n - y.n) (⟨r55.s, r55.m, y61⟩ : RL)) ++ []⟩), (9, ⟨26, rcs M9 ++ X34⟩), (10, ⟨26, r49.cs⟩)], by exact zzu _ _ _, m104, k + 1, (L77).set (n - y.n) (⟨r55.s, r55.m, y61⟩ : RL), M9, ((s.map (· * de)).set (n - y.n) nu), (Nt.subN (n - y.n) nu q (t.map (· * de)) y.n), r82, (f * de), rfl, by omega, by omega, (hD2.less (by omega) hmz), (Nt.WhL.set ((hWs.map hwd).more (by omega)) (hwn.more (by omega)) _), (hWt2.more (by omega)), ((hWf.mul hwd).more (by omega)), rfl, (e50.trans (e54.trans (g58.ext.trans (e60.trans (g64.ext.trans (e66.trans (g70.ext.trans (e72.trans (g74.ext.trans (e77.trans (e79.trans (e81.trans (g85.ext.trans (e87.trans e104)))))))))))))), (hS8b.ext (e87.trans e104)), (by have h9 := (hQ.ext e104); rw [hj9] at h9; exact h9), (RatN.fit (K := ((Nt.dg C) + (Nt.dg C))) (hF7.ext (e87.trans e104)) ((hWf.mul hwd).more (by omega) : Nt.Wh (f * de) C).rs)⟩
     omega
   ·replace hb76 : ((Nt.cmpQ de ((1 : Int) : Rat)) != 0) = false := hb76
    refine zzr (zzo ?_)
    refine zzc ?_
    have hS8 := (hRs.ext (e54.trans (g58.ext.trans (e60.trans (g64.ext.trans (e66.trans (g70.ext.trans (e72.trans g74.ext))))))))
    have hT9 := (hRt.ext (e54.trans (g58.ext.trans (e60.trans (g64.ext.trans (e66.trans (g70.ext.trans (e72.trans g74.ext))))))))
    have hd1 : de = 1 := Nt.cmp_same hb76
    replace hS8 : RatsN u73 Ls (s.map (· * de)) (Nt.dg C) := by rw [hd1, Nt.map_one]; exact hS8
    replace hT9 : RatsN u73 Lr (t.map (· * de)) (Nt.dg C) := by rw [hd1, Nt.map_one]; exact hT9
    have hF7 : RatN u73 rf (f * de) ((Nt.dg C)) := by rw [hd1, Rat.mul_one]; exact (hRf.ext (e54.trans (g58.ext.trans (e60.trans (g64.ext.trans (e66.trans (g70.ext.trans (e72.trans g74.ext))))))))
    have hl8 := hS8.1
    have hl9 := hT9.1
    rw [List.length_map] at hl8 hl9
    have hD2 := hD.step hn (by omega) hq0 (by rw [← hlen2]; exact hq1) hd0 (by rw [← hlen2]; exact hst)
    rw [← hlen2] at hD2
    refine zze ?_
    refine zza 80 (.slc 8 0 ((x.n - y.n) + 1) ((x.n - y.n) + 1)) ?_
    refine zza 81 (.v (.int .i64 ((n - y.n : Nat) : Int))) ?_
    refine zzh 82 (.v (.agg #[.bool r55.s, r55.m.v, y61.v])) ty26 zzd ?_
    refine zyv 83 (off' := (n - y.n) * 3) (n := (x.n - y.n) + 1) (off := 0) (sz := 3) (i := ((n - y.n : Nat) : Int)) sl41 (by omega) (by omega) (by omega) ?_
    refine zyu (V := ⟨26, rcs Ls ++ []⟩) (off := (n - y.n) * 3) (rcs ((Ls).set (n - y.n) (⟨r55.s, r55.m, y61⟩ : RL)) ++ []) ty26 (by rw [List.length_append, zyx]; first|omega|(simp;omega)) (setL_rcsX (r := (⟨r55.s, r55.m, y61⟩ : RL)) (i := n - y.n) (by first|omega|(simp;omega)) rfl) ?_
    refine zzb 112 [(1, .v y.v), (6, .adr 6 0), (7, .adr 7 0), (8, .slc 8 0 ((x.n - y.n) + 1) ((x.n - y.n) + 1)), (9, .slc 9 0 n c32), (10, .adr 10 0), (11, .v (.int .i64 ((n - y.n : Nat) : Int))), (14, .adr 14 0)] [(6, ⟨26, [.bool false, .slice none 0 0, .slice none 0 0]⟩), (7, ⟨26, rf.cs⟩), (8, ⟨26, rcs ((Ls).set (n - y.n) (⟨r55.s, r55.m, y61⟩ : RL)) ++ []⟩), (9, ⟨26, rcs Lr ++ X34⟩), (10, ⟨26, r49.cs⟩), (14, ⟨26, [.bool r55.s, r55.m.v, y61.v]⟩)] ?_
    refine zzc ?_
    refine zzc ?_
    have hS8b : RatsN u73 ((Ls).set (n - y.n) (⟨r55.s, r55.m, y61⟩ : RL)) ((s.map (· * de)).set (n - y.n) nu) (Nt.dg C) := RatsN.set (i := n - y.n) hS8 (by simp; omega) (hn14.ext (e66.trans (g70.ext.trans (e72.trans g74.ext))))
    have hWt2 : Nt.WhL (Nt.subN (n - y.n) nu q (t.map (· * de)) y.n) ((a + k * (b + 1)) + b + 1) := Nt.WhL.subN (hWt.map hwd) (fun i => hwn.mul (hB i)) (by simp; omega)
    refine zze ?_
    refine zza 84 (.v y.v) ?_
    refine zza 85 (.v (.int .i64 (y.n : Int))) ?_
    refine zza 86 (.v (.int .i64 0)) ?_
    refine zzb 112 [(1, .v y.v), (6, .adr 6 0), (7, .adr 7 0), (8, .slc 8 0 ((x.n - y.n) + 1) ((x.n - y.n) + 1)), (9, .slc 9 0 n c32), (10, .adr 10 0), (11, .v (.int .i64 ((n - y.n : Nat) : Int))), (14, .adr 14 0), (84, .v y.v), (85, .v (.int .i64 (y.n : Int))), (86, .v (.int .i64 0))] [(6, ⟨26, [.bool false, .slice none 0 0, .slice none 0 0]⟩), (7, ⟨26, rf.cs⟩), (8, ⟨26, rcs ((Ls).set (n - y.n) (⟨r55.s, r55.m, y61⟩ : RL)) ++ []⟩), (9, ⟨26, rcs Lr ++ X34⟩), (10, ⟨26, r49.cs⟩), (14, ⟨26, [.bool r55.s, r55.m.v, y61.v]⟩)] ?_
    refine zzs ?_
    refine zym (I := fun m106 S' u' => ∃ (j : Nat) (M9 : List RL), (m106 = y.n - j) ∧ (j ≤ y.n) ∧ (M9.length = t.length) ∧ (S' = St.of 112 [(1, .v (.slice y.a y.n y.c)), (6, .adr 6 0), (7, .adr 7 0), (8, .slc 8 0 ((x.n - y.n) + 1) ((x.n - y.n) + 1)), (9, .slc 9 0 n c32), (10, .adr 10 0), (11, .v (.int .i64 ((n - y.n : Nat) : Int))), (14, .adr 14 0), (84, .v (.slice y.a y.n y.c)), (85, .v (.int .i64 (y.n : Int))), (86, .v (.int .i64 (j : Int)))] [(6, ⟨26, [.bool false, .slice none 0 0, .slice none 0 0]⟩), (7, ⟨26, rf.cs⟩), (8, ⟨26, rcs ((Ls).set (n - y.n) (⟨r55.s, r55.m, y61⟩ : RL)) ++ []⟩), (9, ⟨26, rcs M9 ++ X34⟩), (10, ⟨26, r49.cs⟩), (14, ⟨26, [.bool r55.s, .slice r55.m.a r55.m.n r55.m.c, .slice y61.a y61.n y61.c]⟩)]) ∧ (Ext u73 u') ∧ (RatsN u' M9 (Nt.subN (n - y.n) nu q (t.map (· * de)) j) (Nt.dg C))) (fun m S u1 u2 e h => by obtain ⟨j, M9, hm, p0, p1, hS, hE, f0⟩ := h; exact ⟨j, M9, hm, p0, p1, hS, hE.trans e, f0.ext e⟩) _ (T := St.of 112 [(1, .v (.slice y.a y.n y.c)), (6, .adr 6 0), (7, .adr 7 0), (8, .slc 8 0 ((x.n - y.n) + 1) ((x.n - y.n) + 1)), (9, .slc 9 0 n c32), (10, .adr 10 0), (11, .v (.int .i64 ((n - y.n : Nat) : Int))), (14, .adr 14 0), (84, .v (.slice y.a y.n y.c)), (85, .v (.int .i64 (y.n : Int))), (86, .v (.int .i64 0))] [(6, ⟨26, [.bool false, .slice none 0 0, .slice none 0 0]⟩), (7, ⟨26, rf.cs⟩), (8, ⟨26, rcs ((Ls).set (n - y.n) (⟨r55.s, r55.m, y61⟩ : RL)) ++ []⟩), (9, ⟨26, rcs Lr ++ X34⟩), (10, ⟨26, r49.cs⟩), (14, ⟨26, [.bool r55.s, .slice r55.m.a r55.m.n r55.m.c, .slice y61.a y61.n y61.c]⟩)]) (by exact zzu _ _ _) ⟨0, Lr, rfl, by omega, by omega, rfl, Ext.refl _, hT9⟩ ?_
    rintro m106 _ u106 ⟨j, M9, hm106, hj, hM9, rfl, e106, hQ⟩
    refine sq9 ?_
    refine zza 87 (.v (.bool (decide ((j : Int) < (y.n : Int))))) ?_
    refine zzb 112 [(1, .v y.v), (6, .adr 6 0), (7, .adr 7 0), (8, .slc 8 0 ((x.n - y.n) + 1) ((x.n - y.n) + 1)), (9, .slc 9 0 n c32), (10, .adr 10 0), (11, .v (.int .i64 ((n - y.n : Nat) : Int))), (14, .adr 14 0), (84, .v y.v), (85, .v (.int .i64 (y.n : Int))), (86, .v (.int .i64 (j : Int))), (87, .v (.bool (decide ((j : Int) < (y.n : Int)))))] [(6, ⟨26, [.bool false, .slice none 0 0, .slice none 0 0]⟩), (7, ⟨26, rf.cs⟩), (8, ⟨26, rcs ((Ls).set (n - y.n) (⟨r55.s, r55.m, y61⟩ : RL)) ++ []⟩), (9, ⟨26, rcs M9 ++ X34⟩), (10, ⟨26, r49.cs⟩), (14, ⟨26, [.bool r55.s, r55.m.v, y61.v]⟩)] ?_
    refine zzc ?_
    refine zzt (b := decide ((j : Int) < (y.n : Int))) (by kernel_rfl) (fun hb107 => ?_) (fun hb107 => ?_)
    ·replace hb107 : (decide ((j : Int) < (y.n : Int))) = true := hb107
     have qhb107 := of_decide_eq_true hb107
     refine zzr (zzo ?_)
     refine zzc ?_
     refine zzs ?_
     refine sq9 ?_
     refine zza 88 (.v (.int .i64 (j : Int))) ?_
     have hl108 := (hy.ext (e11.trans (g15.ext.trans (e20.trans ((ExtB.old eB48 (g28.ext.trans (e30.trans (ExtB.old eB46 g43.ext hb35))) hb23).trans (e50.trans (e54.trans (g58.ext.trans (e60.trans (g64.ext.trans (e66.trans (g70.ext.trans (e72.trans (g74.ext.trans e106)))))))))))))).len
     obtain ⟨r108, b108, o108, hA108, hc108, hr108⟩ := pol_atN (hy.ext (e11.trans (g15.ext.trans (e20.trans ((ExtB.old eB48 (g28.ext.trans (e30.trans (ExtB.old eB46 g43.ext hb35))) hb23).trans (e50.trans (e54.trans (g58.ext.trans (e60.trans (g64.ext.trans (e66.trans (g70.ext.trans (e72.trans (g74.ext.trans e106)))))))))))))) (i := j) (by omega)
     refine zzz 89 (o108 + j * 3) (n := y.n) (off := o108) (sz := 3) (i := (j : Int)) (by omega) hA108 (by omega) (by omega) sl41 ?_
     refine zyl 90 r108.cs hc108 ty26 ?_
     refine zzj 17 ⟨26, [.bool false, .slice none 0 0, .slice none 0 0]⟩ ?_
     refine zza 16 (.v (.int .i64 (j : Int))) ?_
     refine zzi ⟨26, r108.cs⟩ ty26 ?_
     refine zzb 112 [(1, .v y.v), (6, .adr 6 0), (7, .adr 7 0), (8, .slc 8 0 ((x.n - y.n) + 1) ((x.n - y.n) + 1)), (9, .slc 9 0 n c32), (10, .adr 10 0), (11, .v (.int .i64 ((n - y.n : Nat) : Int))), (14, .adr 14 0), (16, .v (.int .i64 (j : Int))), (17, .adr 17 0), (84, .v y.v), (85, .v (.int .i64 (y.n : Int))), (86, .v (.int .i64 (j : Int)))] [(6, ⟨26, [.bool false, .slice none 0 0, .slice none 0 0]⟩), (7, ⟨26, rf.cs⟩), (8, ⟨26, rcs ((Ls).set (n - y.n) (⟨r55.s, r55.m, y61⟩ : RL)) ++ []⟩), (9, ⟨26, rcs M9 ++ X34⟩), (10, ⟨26, r49.cs⟩), (14, ⟨26, [.bool r55.s, r55.m.v, y61.v]⟩), (17, ⟨26, r108.cs⟩)] ?_
     refine zzy [0, 0, 0, 6, 0, 0, 0, 96, 240, 496, 0, 0, 3072, 8176, 16383, 32767] [(0, []), (1, []), (2, []), (3, []), (4, []), (5, []), (6, []), (7, []), (8, []), (9, []), (10, []), (11, []), (12, []), (13, []), (14, []), (15, [])] (by kernel_rfl) (by kernel_rfl) ?_
     refine zza 91 (.slc 9 0 n c32) ?_
     refine zza 92 (.v (.int .i64 ((n - y.n : Nat) : Int))) ?_
     refine zza 93 (.v (.int .i64 (j : Int))) ?_
     refine zyp 94 (x := .v (.int .i64 (IntKind.i64.wrap (((n - y.n : Nat) : Int) + (j : Int))))) (.v (.int .i64 (((n - y.n) + j : Nat) : Int))) (eqI (by rw [IntWalk.i64_in _ (by omega)]; omega)) ?_
     refine zza 95 (.slc 9 0 n c32) ?_
     refine zza 96 (.v (.int .i64 ((n - y.n : Nat) : Int))) ?_
     refine zza 97 (.v (.int .i64 (j : Int))) ?_
     refine zyp 98 (x := .v (.int .i64 (IntKind.i64.wrap (((n - y.n : Nat) : Int) + (j : Int))))) (.v (.int .i64 (((n - y.n) + j : Nat) : Int))) (eqI (by rw [IntWalk.i64_in _ (by omega)]; omega)) ?_
     refine zyv 99 (off' := ((n - y.n) + j) * 3) (n := n) (off := 0) (sz := 3) (i := (((n - y.n) + j : Nat) : Int)) sl41 (by omega) (by omega) (by omega) ?_
     obtain ⟨r109, hrr109⟩ : ∃ r : RL, (M9).getD ((n - y.n) + j) rl0 = r := ⟨_, rfl⟩
     refine zzh 100 (V := ⟨26, rcs M9 ++ X34⟩) (off := ((n - y.n) + j) * 3) (.v r109.v) ty26 (by have h9 := part_rcsX (X := X34) (L := M9) (i := (n - y.n) + j) (off := ((n - y.n) + j) * 3) (by first|omega|(simp;omega)) rfl; rw [hrr109] at h9; exact h9) ?_
     have h110 := hQ.2 ((n - y.n) + j) (by first|omega|(simp;omega))
     rw [hrr109] at h110
     refine zzh 101 (.v (.agg #[.bool r55.s, r55.m.v, y61.v])) ty26 zzd ?_
     refine zzh 102 (.v (r108.v)) ty26 zzd ?_
     refine zzf 103 111 [.agg #[.bool r55.s, r55.m.v, y61.v], r108.v] ?_
     intro w111 u111 e111 d111
     have k116 := k_ratMul d111 (hn14.ext (e66.trans (g70.ext.trans (e72.trans (g74.ext.trans (e106.trans e111)))))).raw (hr108.ext e111).raw (by omega) (by omega)
     with_reducible refine Post.mono k116 ?_
     rintro _ u114 g115 ⟨r112, rfl, h113⟩
     refine zzf 104 109 [r109.v, r112.v] ?_
     intro w117 u117 e117 d117
     have k122 := k_ratSub d117 (h110.ext (e111.trans (g115.ext.trans e117))).raw (h113.ext e117).raw (by omega) (by omega)
     with_reducible refine Post.mono k122 ?_
     rintro _ u120 g121 ⟨r118, rfl, h119⟩
     refine zyv 105 (off' := ((n - y.n) + j) * 3) (n := n) (off := 0) (sz := 3) (i := (((n - y.n) + j : Nat) : Int)) sl41 (by omega) (by omega) (by omega) ?_
     refine zyu (V := ⟨26, rcs M9 ++ X34⟩) (off := ((n - y.n) + j) * 3) (rcs ((M9).set ((n - y.n) + j) r118) ++ X34) ty26 (by rw [List.length_append, zyx]; first|omega|(simp;omega)) (setL_rcsX (r := r118) (i := (n - y.n) + j) (by first|omega|(simp;omega)) rfl) ?_
     refine zzw ?_
     refine zzo ?_
     refine zze ?_
     refine zyp 106 (x := .v (.int .i64 (IntKind.i64.wrap ((j : Int) + 1)))) (.v (.int .i64 ((j + 1 : Nat) : Int))) (eqI (by rw [IntWalk.i64_in _ (by omega)]; omega)) ?_
     refine zza 86 (.v (.int .i64 ((j + 1 : Nat) : Int))) ?_
     refine zzw ?_
     have hw9 := (Nt.WhL.subN (hWt.map hwd) (fun i => hwn.mul (hB i)) (a := n - y.n) (j := j + 1) (by simp; omega)) (n - y.n + j)
     have e9 : Nt.co (Nt.subN (n - y.n) nu q (t.map (· * de)) (j + 1)) (n - y.n + j) = (((Nt.subN (n - y.n) nu q (t.map (· * de)) j).getD ((n - y.n) + j) 0) - (nu * (q.getD j 0))) := by show Nt.co (List.set _ _ _) _ = _; rw [Nt.co_set (by simp; omega), if_pos rfl]
     rw [e9] at hw9
     refine ⟨_, ?_, St.of 112 [(1, .v (.slice y.a y.n y.c)), (6, .adr 6 0), (7, .adr 7 0), (8, .slc 8 0 ((x.n - y.n) + 1) ((x.n - y.n) + 1)), (9, .slc 9 0 n c32), (10, .adr 10 0), (11, .v (.int .i64 ((n - y.n : Nat) : Int))), (14, .adr 14 0), (84, .v (.slice y.a y.n y.c)), (85, .v (.int .i64 (y.n : Int))), (86, .v (.int .i64 ((j + 1 : Nat) : Int)))] [(6, ⟨26, [.bool false, .slice none 0 0, .slice none 0 0]⟩), (7, ⟨26, rf.cs⟩), (8, ⟨26, rcs ((Ls).set (n - y.n) (⟨r55.s, r55.m, y61⟩ : RL)) ++ []⟩), (9, ⟨26, rcs ((M9).set ((n - y.n) + j) r118) ++ X34⟩), (10, ⟨26, r49.cs⟩), (14, ⟨26, [.bool r55.s, .slice r55.m.a r55.m.n r55.m.c, .slice y61.a y61.n y61.c]⟩)], by exact zzu _ _ _, j + 1, (M9).set ((n - y.n) + j) r118, rfl, by omega, by simp; omega, rfl, (e106.trans (e111.trans (g115.ext.trans (e117.trans g121.ext)))), (RatsN.set (i := n - y.n + j) (hQ.ext (e111.trans (g115.ext.trans (e117.trans g121.ext)))) (by simp; omega) (RatN.fit (K := ((Nt.dg C) + ((Nt.dg C) + (Nt.dg C)) + 1)) h119 (hw9.more (by omega) : Nt.Wh _ C).rs))⟩
     omega
    ·replace hb107 : (decide ((j : Int) < (y.n : Int))) = false := hb107
     have qhb107 := of_decide_eq_false hb107
     refine zyb ?_
     refine zzo ?_
     refine zze ?_
     refine zza 107 (.slc 9 0 n c32) ?_
     have kc124 := fun (g : Nat) (w u1 : World) (e : Ext u106 u1) (d : Dat u1 w) (hg : w.heap[g]? = some (.cells (rcs M9 ++ X34).toArray 26 (0, 0))) (hu : u1.heap[g]? = some hidO) => k_cutL (n := n) (c := c32) d hg hu (RatsN.ext hQ e) (by first|omega|(simp;omega)) (by omega) (by omega) (by omega)
     refine sy_lendS 108 118 (t := 9) (V := ⟨26, rcs M9 ++ X34⟩) (len := n) (cap := c32) [] (by kernel_rfl) kc124 ?_
     clear kc124
     rintro m123 _ u123 e123 ⟨rfl, hm123⟩
     refine sy_over 9 (.slc 9 0 m123 c32) ?_
     refine zzw ?_
     have hj9 : j = y.n := by omega
     rw [hj9] at hm123
     have hmn : m123 ≤ n - 1 := by rw [hm123]; exact Nt.cut_lenQ hD2.tz (by omega)
     have hmz : ∀ i, m123 ≤ i → Nt.co (Nt.subN (n - y.n) nu q (t.map (· * de)) y.n) i = 0 := by rw [hm123]; exact Nt.cut_zeroQ (fun i hi => hD2.tz i (by omega))
     refine ⟨_, ?_, St.of 112 [(1, .v (.slice y.a y.n y.c)), (6, .adr 6 0), (7, .adr 7 0), (8, .slc 8 0 ((x.n - y.n) + 1) ((x.n - y.n) + 1)), (9, .slc 9 0 m123 c32), (10, .adr 10 0)] [(6, ⟨26, [.bool false, .slice none 0 0, .slice none 0 0]⟩), (7, ⟨26, rf.cs⟩), (8, ⟨26, rcs ((Ls).set (n - y.n) (⟨r55.s, r55.m, y61⟩ : RL)) ++ []⟩), (9, ⟨26, rcs M9 ++ X34⟩), (10, ⟨26, r49.cs⟩)], by exact zzu _ _ _, m123, k + 1, (Ls).set (n - y.n) (⟨r55.s, r55.m, y61⟩ : RL), M9, ((s.map (· * de)).set (n - y.n) nu), (Nt.subN (n - y.n) nu q (t.map (· * de)) y.n), rf, (f * de), rfl, by omega, by omega, (hD2.less (by omega) hmz), (Nt.WhL.set ((hWs.map hwd).more (by omega)) (hwn.more (by omega)) _), (hWt2.more (by omega)), ((hWf.mul hwd).more (by omega)), rfl, (e50.trans (e54.trans (g58.ext.trans (e60.trans (g64.ext.trans (e66.trans (g70.ext.trans (e72.trans (g74.ext.trans (e106.trans e123)))))))))), (hS8b.ext (e106.trans e123)), (by have h9 := (hQ.ext e123); rw [hj9] at h9; exact h9), (RatN.fit (K := (Nt.dg C)) (hF7.ext (e106.trans e123)) ((hWf.mul hwd).more (by omega) : Nt.Wh (f * de) C).rs)⟩
     omega
  ·replace hb51 : (decide ((y.n : Int) ≤ (n : Int))) = false := hb51
   have qhb51 := of_decide_eq_false hb51
   refine zyb ?_
   refine zzo ?_
   refine zzc ?_
   refine zyo (r := 9) (t := 9) [9] (by repeat first | exact noAt_of | refine zyc ?_ | refine zye ?_ | refine zyd ?_ | refine zzx ?_ | refine zya ?_) (by kernel_rfl) (by rfl) (by rfl) (by kernel_rfl) (fun b125 u126 e127 hb128 hh129 => ?_)
   have hp130 : PolN u126 ⟨some ⟨b125, 0, none⟩, n, c32⟩ (t.take n) (Nt.dg C) := pol_dataX hh129 (by rw [List.length_append, zyx]; first|omega|(simp;omega)) hmx41 (hRt.ext e127) (by omega)
   refine zyo (r := 8) (t := 8) [8] (by repeat first | exact noAt_of | refine zyc ?_ | refine zye ?_ | refine zyd ?_ | refine zzx ?_ | refine zya ?_) (by kernel_rfl) (by rfl) (by rfl) (by kernel_rfl) (fun b131 u132 e133 hb134 hh135 => ?_)
   have hp136 : PolN u132 ⟨some ⟨b131, 0, none⟩, (x.n - y.n) + 1, (x.n - y.n) + 1⟩ (s.take ((x.n - y.n) + 1)) (Nt.dg C) := pol_dataX hh135 (by rw [List.length_append, zyx]; first|omega|(simp;omega)) (by unfold maxLen; omega) (hRs.ext (e127.trans e133)) (by omega)
   refine zzy [0, 0, 0, 1, 11, 31] [(0, []), (1, []), (2, []), (3, []), (4, []), (5, [])] (by kernel_rfl) (by kernel_rfl) ?_
   refine zza 109 (.v (.slice (some ⟨b131, 0, none⟩) ((x.n - y.n) + 1) ((x.n - y.n) + 1))) ?_
   refine zza 110 (.v (.slice (some ⟨b125, 0, none⟩) n c32)) ?_
   refine zzh 111 (.v (rf.v)) ty26 zzd ?_
   refine zza 4 (.v (.slice (some ⟨b131, 0, none⟩) ((x.n - y.n) + 1) ((x.n - y.n) + 1))) ?_
   refine zza 5 (.v (.slice (some ⟨b125, 0, none⟩) n c32)) ?_
   refine zzi ⟨26, rf.cs⟩ ty26 ?_
   refine zzb 112 [(4, .v (.slice (some ⟨b131, 0, none⟩) ((x.n - y.n) + 1) ((x.n - y.n) + 1))), (5, .v (.slice (some ⟨b125, 0, none⟩) n c32)), (6, .adr 6 0)] [(6, ⟨26, rf.cs⟩)] ?_
   refine zzn (ret0 [.slice (some ⟨b131, 0, none⟩) ((x.n - y.n) + 1) ((x.n - y.n) + 1), .slice (some ⟨b125, 0, none⟩) n c32, rf.v] ⟨zzp, zzp, zzq ty26 zzd, trivial⟩ fun u137 e138 => ?_)
   have hCn := Nt.bits_le (k9 := k) hC (by omega)
   refine ⟨(⟨some ⟨b131, 0, none⟩, (x.n - y.n) + 1, (x.n - y.n) + 1⟩ : Sl), (⟨some ⟨b125, 0, none⟩, n, c32⟩ : Sl), rf, s, t.take n, f, rfl, ?_, (hp130.ext (e133.trans e138)), (hRf.ext (e127.trans (e133.trans e138))), hD.done (by omega), hWs.more hCn, (hWt.more hCn).take n⟩
   have h9 := (hp136.ext e138)
   rw [List.take_of_length_le (by omega)] at h9
   exact h9
end Go.Proofs.YtnedhbidmfoegaaGreat
