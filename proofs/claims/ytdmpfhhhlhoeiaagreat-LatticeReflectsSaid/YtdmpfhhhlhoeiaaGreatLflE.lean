/- LatticeRefuses. Printed by wip/sym/g_cd.py. Steps down, walked. Printed by wip/sym/g_cf.py. Lattices of words. Printed by wip/sym/g_ch.py. LatticeReflects, walked. Printed by wip/sym/g_ci.py. -/
import Derived.Test.YtdmpfhhhlhoeiaaGreatLflD
namespace Go.Proofs.YtdmpfhhhlhoeiaaGreat
open Go.RowKit
set_option linter.unusedVariables false
set_option maxHeartbeats 2000000 in
theorem k_latWrong {u w : World} {x y : Sl} (d : Dat u w) (hx : SlR .i64 u x.a x.n x.c [8]) (hy : SlR .i64 u y.a y.n y.c [0, 16]) : Calls Tryz.prog 47 #[x.v, y.v, (⟨8, 4, 1, 1⟩ : WL).v] w (Post u w fun v u' => v = .int .i64 0) := by
 have hlx : x.n = 1 := hx.1.symm
 have hly : y.n = 2 := hy.1.symm
 refine zzl (args := [.slice x.a x.n x.c, .slice y.a y.n y.c, .agg #[.int .i64 8, .int .i64 4, .int .i64 1, .int .i64 1]]) Tryz.func47 rfl Tryz.ntmps47 (rs := [.tmp 6]) Tryz.results47 (le_b rfl) (le_b rfl) d ?_
 refine sq9 ?_
 refine zzj 5 ⟨24, [.int .i64 8, .int .i64 4, .int .i64 1, .int .i64 1]⟩ ?_
 refine zza 6 (.v (.int .i64 0)) ?_
 refine zzb 71 [(0, .v x.v), (1, .v y.v), (5, .adr 5 0)] [(5, ⟨24, [.int .i64 8, .int .i64 4, .int .i64 1, .int .i64 1]⟩)] ?_
 refine zzc ?_
 refine sq9 ?_
 refine zzh 13 (.v (.agg #[.int .i64 8, .int .i64 4, .int .i64 1, .int .i64 1])) ty24 zzd ?_
 refine zzf 14 75 [.agg #[.int .i64 8, .int .i64 4, .int .i64 1, .int .i64 1]] ?_
 intro w11 u11 e11 d11
 have k14 := k_fxValid (W := (⟨8, 4, 1, 1⟩ : WL)) d11 (show WdOK (⟨8, 4, 1, 1⟩ : WL) by unfold WdOK; decide)
 with_reducible refine Post.mono k14 ?_
 rintro _ u12 g13 rfl
 refine zza 15 (.v (.bool false)) ?_
 refine zzb 71 [(0, .v x.v), (1, .v y.v), (5, .adr 5 0), (15, .v (.bool false))] [(5, ⟨24, [.int .i64 8, .int .i64 4, .int .i64 1, .int .i64 1]⟩)] ?_
 refine zyr (by kernel_rfl) ?_
 refine zzr (zzo ?_)
 refine zzc ?_
 refine sq9 ?_
 refine zza 16 (.v x.v) ?_
 refine zza 17 (.v (.int .i64 (x.n : Int))) ?_
 refine zza 18 (.v (.bool (decide ((8 : Int) < (x.n : Int))))) ?_
 refine zyp 19 (x := .v (.bool (decide ((8 : Int) < (x.n : Int))))) (.v (.bool false)) (by rw [show (decide ((8 : Int) < (x.n : Int))) = false from decide_eq_false (by omega)]) ?_
 refine zza 20 (.v y.v) ?_ (hw := w1 3 false 19)
 refine zza 21 (.v (.int .i64 (y.n : Int))) ?_ (hw := w1 3 false 19)
 refine zza 22 (.v x.v) ?_ (hw := w1 3 false 19)
 refine zza 23 (.v (.int .i64 (x.n : Int))) ?_ (hw := w1 3 false 19)
 refine zyp 24 (x := .v (.int .i64 (IntKind.i64.wrap ((x.n : Int) + 1)))) (.v (.int .i64 ((x.n + 1 : Nat) : Int))) (eqI (by rw [IntWalk.i64_in _ (by omega)]; omega)) ?_ (hw := w1 3 false 19)
 refine zza 25 (.v (.bool ((y.n : Int) != ((x.n + 1 : Nat) : Int)))) ?_ (hw := w1 3 false 19)
 refine zza 26 (.v (.bool ((y.n : Int) != ((x.n + 1 : Nat) : Int)))) ?_
 refine zzb 71 [(0, .v x.v), (1, .v y.v), (5, .adr 5 0), (26, .v (.bool ((y.n : Int) != ((x.n + 1 : Nat) : Int))))] [(5, ⟨24, [.int .i64 8, .int .i64 4, .int .i64 1, .int .i64 1]⟩)] ?_
 refine zzt (b := (y.n : Int) != ((x.n + 1 : Nat) : Int)) (by kernel_rfl) (fun hb => ?_) (fun hb => ?_)
 ·exact absurd hb (by rw [show ((y.n : Int) != ((x.n + 1 : Nat) : Int)) = false from (by rw [hlx, hly]; rfl)]; decide)
 ·clear hb
  refine zzr (zzo ?_)
  refine zzc ?_
  refine sq9 ?_
  refine zza 27 (.v y.v) ?_
  refine zza 28 (.v (.int .i64 (y.n : Int))) ?_
  refine zza 29 (.v (.int .i64 0)) ?_
  refine zzb 71 [(0, .v x.v), (5, .adr 5 0), (27, .v y.v), (28, .v (.int .i64 (y.n : Int))), (29, .v (.int .i64 0))] [(5, ⟨24, [.int .i64 8, .int .i64 4, .int .i64 1, .int .i64 1]⟩)] ?_
  refine zzs ?_
  refine sw_rounds 2 ?_
  refine sq9 ?_
  refine zza 30 (.v (.bool (decide ((0 : Int) < (y.n : Int))))) ?_
  refine zzb 71 [(0, .v x.v), (5, .adr 5 0), (27, .v y.v), (28, .v (.int .i64 (y.n : Int))), (29, .v (.int .i64 0)), (30, .v (.bool (decide ((0 : Int) < (y.n : Int)))))] [(5, ⟨24, [.int .i64 8, .int .i64 4, .int .i64 1, .int .i64 1]⟩)] ?_
  refine zzc ?_
  refine zzt (b := decide ((0 : Int) < (y.n : Int))) (by kernel_rfl) (fun hb => ?_) (fun hb => ?_)
  ·clear hb
   refine zzr (zzo ?_)
   refine zzc ?_
   refine zzs ?_
   refine sq9 ?_
   have hl16 := ((hy.ext (e11.trans g13.ext))).1
   obtain ⟨b16, o16, hA16, hc16⟩ := ints_at (hy.ext (e11.trans g13.ext)) (i := 0) (by omega)
   have hz16 := ints_bd (show ∀ z ∈ ([0, 16] : List Int), -9223372036854775808 ≤ z ∧ z ≤ 9223372036854775807 by decide) (by omega) 0
   refine zzz 31 (o16 + 0 * 1) (n := y.n) (off := o16) (sz := 1) (i := 0) (by omega) hA16 (by omega) (by omega) sl22 ?_
   refine zyk 32 (.int .i64 0) hc16 ty3 ?_
   refine zza 8 (.v (.int .i64 0)) ?_
   refine zzb 71 [(0, .v x.v), (5, .adr 5 0), (8, .v (.int .i64 0)), (27, .v y.v), (28, .v (.int .i64 (y.n : Int))), (29, .v (.int .i64 0))] [(5, ⟨24, [.int .i64 8, .int .i64 4, .int .i64 1, .int .i64 1]⟩)] ?_
   refine sq9 ?_
   refine zzh 33 (.v (.agg #[.int .i64 8, .int .i64 4, .int .i64 1, .int .i64 1])) ty24 zzd ?_
   refine zza 34 (.v (.int .i64 0)) ?_
   refine zzf 35 126 [.agg #[.int .i64 8, .int .i64 4, .int .i64 1, .int .i64 1], .int .i64 0] ?_
   intro w17 u17 e17 d17
   have k20 := k_fxFits (W := (⟨8, 4, 1, 1⟩ : WL)) (z := 0) d17 (show WdOK (⟨8, 4, 1, 1⟩ : WL) by unfold WdOK; decide) (by decide +kernel) (by decide +kernel)
   with_reducible refine Post.mono k20 ?_
   rintro _ u18 g19 rfl
   refine zza 36 (.v (.bool false)) ?_
   refine zzb 71 [(0, .v x.v), (5, .adr 5 0), (27, .v y.v), (28, .v (.int .i64 (y.n : Int))), (29, .v (.int .i64 0)), (36, .v (.bool false))] [(5, ⟨24, [.int .i64 8, .int .i64 4, .int .i64 1, .int .i64 1]⟩)] ?_
   refine zyr (by kernel_rfl) ?_
   refine zzr (zzo ?_)
   refine zze ?_
   refine zza 37 (.v (.int .i64 1)) ?_
   refine zza 29 (.v (.int .i64 1)) ?_
   refine zzw ?_
   refine rn_next ?_
   refine sw_weak (T := St.of 71 [(0, .v (.slice x.a x.n x.c)), (5, .adr 5 0), (27, .v (.slice y.a y.n y.c)), (28, .v (.int .i64 (y.n : Int))), (29, .v (.int .i64 1))] [(5, ⟨24, [.int .i64 8, .int .i64 4, .int .i64 1, .int .i64 1]⟩)]) (by exact zzu _ _ _) ?_
   refine sq9 ?_
   refine zza 30 (.v (.bool (decide ((1 : Int) < (y.n : Int))))) ?_
   refine zzb 71 [(0, .v x.v), (5, .adr 5 0), (27, .v y.v), (28, .v (.int .i64 (y.n : Int))), (29, .v (.int .i64 1)), (30, .v (.bool (decide ((1 : Int) < (y.n : Int)))))] [(5, ⟨24, [.int .i64 8, .int .i64 4, .int .i64 1, .int .i64 1]⟩)] ?_
   refine zzc ?_
   refine zzt (b := decide ((1 : Int) < (y.n : Int))) (by kernel_rfl) (fun hb => ?_) (fun hb => ?_)
   ·clear hb
    refine zzr (zzo ?_)
    refine zzc ?_
    refine zzs ?_
    refine sq9 ?_
    have hl21 := ((hy.ext (e11.trans (g13.ext.trans (e17.trans g19.ext))))).1
    obtain ⟨b21, o21, hA21, hc21⟩ := ints_at (hy.ext (e11.trans (g13.ext.trans (e17.trans g19.ext)))) (i := 1) (by omega)
    have hz21 := ints_bd (show ∀ z ∈ ([0, 16] : List Int), -9223372036854775808 ≤ z ∧ z ≤ 9223372036854775807 by decide) (by omega) 1
    refine zzz 31 (o21 + 1 * 1) (n := y.n) (off := o21) (sz := 1) (i := 1) (by omega) hA21 (by omega) (by omega) sl22 ?_
    refine zyk 32 (.int .i64 16) hc21 ty3 ?_
    refine zza 8 (.v (.int .i64 16)) ?_
    refine zzb 71 [(0, .v x.v), (5, .adr 5 0), (8, .v (.int .i64 16)), (27, .v y.v), (28, .v (.int .i64 (y.n : Int))), (29, .v (.int .i64 1))] [(5, ⟨24, [.int .i64 8, .int .i64 4, .int .i64 1, .int .i64 1]⟩)] ?_
    refine sq9 ?_
    refine zzh 33 (.v (.agg #[.int .i64 8, .int .i64 4, .int .i64 1, .int .i64 1])) ty24 zzd ?_
    refine zza 34 (.v (.int .i64 16)) ?_
    refine zzf 35 126 [.agg #[.int .i64 8, .int .i64 4, .int .i64 1, .int .i64 1], .int .i64 16] ?_
    intro w22 u22 e22 d22
    have k25 := k_fxFits (W := (⟨8, 4, 1, 1⟩ : WL)) (z := 16) d22 (show WdOK (⟨8, 4, 1, 1⟩ : WL) by unfold WdOK; decide) (by decide +kernel) (by decide +kernel)
    with_reducible refine Post.mono k25 ?_
    rintro _ u23 g24 rfl
    refine zza 36 (.v (.bool false)) ?_
    refine zzb 71 [(0, .v x.v), (5, .adr 5 0), (27, .v y.v), (28, .v (.int .i64 (y.n : Int))), (29, .v (.int .i64 1)), (36, .v (.bool false))] [(5, ⟨24, [.int .i64 8, .int .i64 4, .int .i64 1, .int .i64 1]⟩)] ?_
    refine zyr (by kernel_rfl) ?_
    refine zzr (zzo ?_)
    refine zze ?_
    refine zza 37 (.v (.int .i64 2)) ?_
    refine zza 29 (.v (.int .i64 2)) ?_
    refine zzw ?_
    refine rn_next ?_
    refine sw_weak (T := St.of 71 [(0, .v (.slice x.a x.n x.c)), (5, .adr 5 0), (27, .v (.slice y.a y.n y.c)), (28, .v (.int .i64 (y.n : Int))), (29, .v (.int .i64 2))] [(5, ⟨24, [.int .i64 8, .int .i64 4, .int .i64 1, .int .i64 1]⟩)]) (by exact zzu _ _ _) ?_
    refine sq9 ?_
    refine zza 30 (.v (.bool (decide ((2 : Int) < (y.n : Int))))) ?_
    refine zzb 71 [(0, .v x.v), (5, .adr 5 0), (27, .v y.v), (28, .v (.int .i64 (y.n : Int))), (29, .v (.int .i64 2)), (30, .v (.bool (decide ((2 : Int) < (y.n : Int)))))] [(5, ⟨24, [.int .i64 8, .int .i64 4, .int .i64 1, .int .i64 1]⟩)] ?_
    refine zzc ?_
    refine zzt (b := decide ((2 : Int) < (y.n : Int))) (by kernel_rfl) (fun hb => ?_) (fun hb => ?_)
    ·exact absurd hb (by rw [show (decide ((2 : Int) < (y.n : Int))) = false from decide_eq_false (by omega)]; decide)
    ·clear hb
     refine zyb ?_
     refine zzo ?_
     refine zzc ?_
     refine sq9 ?_
     refine zza 38 (.v x.v) ?_
     refine zza 39 (.v (.int .i64 (x.n : Int))) ?_
     refine zza 40 (.v (.int .i64 0)) ?_
     refine zzb 71 [(0, .v x.v), (5, .adr 5 0), (38, .v x.v), (39, .v (.int .i64 (x.n : Int))), (40, .v (.int .i64 0))] [(5, ⟨24, [.int .i64 8, .int .i64 4, .int .i64 1, .int .i64 1]⟩)] ?_
     refine zzs ?_
     refine sw_rounds 1 ?_
     refine sq9 ?_
     refine zza 41 (.v (.bool (decide ((0 : Int) < (x.n : Int))))) ?_
     refine zzb 71 [(0, .v x.v), (5, .adr 5 0), (38, .v x.v), (39, .v (.int .i64 (x.n : Int))), (40, .v (.int .i64 0)), (41, .v (.bool (decide ((0 : Int) < (x.n : Int)))))] [(5, ⟨24, [.int .i64 8, .int .i64 4, .int .i64 1, .int .i64 1]⟩)] ?_
     refine zzc ?_
     refine zzt (b := decide ((0 : Int) < (x.n : Int))) (by kernel_rfl) (fun hb => ?_) (fun hb => ?_)
     ·clear hb
      refine zzr (zzo ?_)
      refine zzc ?_
      refine zzs ?_
      refine sq9 ?_
      have hl26 := ((hx.ext (e11.trans (g13.ext.trans (e17.trans (g19.ext.trans (e22.trans g24.ext))))))).1
      obtain ⟨b26, o26, hA26, hc26⟩ := ints_at (hx.ext (e11.trans (g13.ext.trans (e17.trans (g19.ext.trans (e22.trans g24.ext)))))) (i := 0) (by omega)
      have hz26 := ints_bd (show ∀ z ∈ ([8] : List Int), -9223372036854775808 ≤ z ∧ z ≤ 9223372036854775807 by decide) (by omega) 0
      refine zzz 42 (o26 + 0 * 1) (n := x.n) (off := o26) (sz := 1) (i := 0) (by omega) hA26 (by omega) (by omega) sl22 ?_
      refine zyk 43 (.int .i64 8) hc26 ty3 ?_
      refine zza 10 (.v (.int .i64 8)) ?_
      refine zzb 71 [(0, .v x.v), (5, .adr 5 0), (10, .v (.int .i64 8)), (38, .v x.v), (39, .v (.int .i64 (x.n : Int))), (40, .v (.int .i64 0))] [(5, ⟨24, [.int .i64 8, .int .i64 4, .int .i64 1, .int .i64 1]⟩)] ?_
      refine sq9 ?_
      refine zzh 44 (.v (.agg #[.int .i64 8, .int .i64 4, .int .i64 1, .int .i64 1])) ty24 zzd ?_
      refine zza 45 (.v (.int .i64 8)) ?_
      refine zzf 46 126 [.agg #[.int .i64 8, .int .i64 4, .int .i64 1, .int .i64 1], .int .i64 8] ?_
      intro w27 u27 e27 d27
      have k30 := k_fxFits (W := (⟨8, 4, 1, 1⟩ : WL)) (z := 8) d27 (show WdOK (⟨8, 4, 1, 1⟩ : WL) by unfold WdOK; decide) (by decide +kernel) (by decide +kernel)
      with_reducible refine Post.mono k30 ?_
      rintro _ u28 g29 rfl
      refine zza 47 (.v (.bool false)) ?_
      refine zza 48 (.v (.bool false)) ?_
      refine zzh 49 (.v (.agg #[.int .i64 8, .int .i64 4, .int .i64 1, .int .i64 1])) ty24 zzd ?_ (hw := w1 4 false 48)
      refine zza 50 (.v (.int .i64 8)) ?_ (hw := w1 4 false 48)
      refine zza 51 (.v (.int .i64 (-8))) ?_ (hw := w1 4 false 48)
      refine zzf 52 126 [.agg #[.int .i64 8, .int .i64 4, .int .i64 1, .int .i64 1], .int .i64 (-8)] ?_ (hw := w1 4 false 48)
      intro w31 u31 e31 d31
      have k34 := k_fxFits (W := (⟨8, 4, 1, 1⟩ : WL)) (z := (-8)) d31 (show WdOK (⟨8, 4, 1, 1⟩ : WL) by unfold WdOK; decide) (by decide +kernel) (by decide +kernel)
      with_reducible refine Post.mono k34 ?_
      rintro _ u32 g33 rfl
      refine zza 53 (.v (.bool false)) ?_ (hw := w1 4 false 48)
      refine zza 54 (.v (.bool false)) ?_
      refine zzb 71 [(0, .v x.v), (5, .adr 5 0), (38, .v x.v), (39, .v (.int .i64 (x.n : Int))), (40, .v (.int .i64 0)), (54, .v (.bool false))] [(5, ⟨24, [.int .i64 8, .int .i64 4, .int .i64 1, .int .i64 1]⟩)] ?_
      refine zyr (by kernel_rfl) ?_
      refine zzr (zzo ?_)
      refine zze ?_
      refine zza 55 (.v (.int .i64 1)) ?_
      refine zza 40 (.v (.int .i64 1)) ?_
      refine zzw ?_
      refine rn_next ?_
      refine sw_weak (T := St.of 71 [(0, .v (.slice x.a x.n x.c)), (5, .adr 5 0), (38, .v (.slice x.a x.n x.c)), (39, .v (.int .i64 (x.n : Int))), (40, .v (.int .i64 1))] [(5, ⟨24, [.int .i64 8, .int .i64 4, .int .i64 1, .int .i64 1]⟩)]) (by exact zzu _ _ _) ?_
      refine sq9 ?_
      refine zza 41 (.v (.bool (decide ((1 : Int) < (x.n : Int))))) ?_
      refine zzb 71 [(0, .v x.v), (5, .adr 5 0), (38, .v x.v), (39, .v (.int .i64 (x.n : Int))), (40, .v (.int .i64 1)), (41, .v (.bool (decide ((1 : Int) < (x.n : Int)))))] [(5, ⟨24, [.int .i64 8, .int .i64 4, .int .i64 1, .int .i64 1]⟩)] ?_
      refine zzc ?_
      refine zzt (b := decide ((1 : Int) < (x.n : Int))) (by kernel_rfl) (fun hb => ?_) (fun hb => ?_)
      ·exact absurd hb (by rw [show (decide ((1 : Int) < (x.n : Int))) = false from decide_eq_false (by omega)]; decide)
      ·clear hb
       refine zyb ?_
       refine zzo ?_
       refine zzc ?_
       refine sq9 ?_
       refine zza 56 (.v x.v) ?_
       refine zza 57 (.v (.int .i64 (x.n : Int))) ?_
       refine zza 58 (.v (.int .i64 0)) ?_
       refine zzb 71 [(5, .adr 5 0), (56, .v x.v), (57, .v (.int .i64 (x.n : Int))), (58, .v (.int .i64 0))] [(5, ⟨24, [.int .i64 8, .int .i64 4, .int .i64 1, .int .i64 1]⟩)] ?_
       refine zzs ?_
       refine sw_rounds 1 ?_
       refine sq9 ?_
       refine zza 59 (.v (.bool (decide ((0 : Int) < (x.n : Int))))) ?_
       refine zzb 71 [(5, .adr 5 0), (56, .v x.v), (57, .v (.int .i64 (x.n : Int))), (58, .v (.int .i64 0)), (59, .v (.bool (decide ((0 : Int) < (x.n : Int)))))] [(5, ⟨24, [.int .i64 8, .int .i64 4, .int .i64 1, .int .i64 1]⟩)] ?_
       refine zzc ?_
       refine zzt (b := decide ((0 : Int) < (x.n : Int))) (by kernel_rfl) (fun hb => ?_) (fun hb => ?_)
       ·clear hb
        refine zzr (zzo ?_)
        refine zzc ?_
        refine zzs ?_
        refine sq9 ?_
        have hl35 := ((hx.ext (e11.trans (g13.ext.trans (e17.trans (g19.ext.trans (e22.trans (g24.ext.trans (e27.trans (g29.ext.trans (e31.trans g33.ext))))))))))).1
        obtain ⟨b35, o35, hA35, hc35⟩ := ints_at (hx.ext (e11.trans (g13.ext.trans (e17.trans (g19.ext.trans (e22.trans (g24.ext.trans (e27.trans (g29.ext.trans (e31.trans g33.ext)))))))))) (i := 0) (by omega)
        have hz35 := ints_bd (show ∀ z ∈ ([8] : List Int), -9223372036854775808 ≤ z ∧ z ≤ 9223372036854775807 by decide) (by omega) 0
        refine zzz 60 (o35 + 0 * 1) (n := x.n) (off := o35) (sz := 1) (i := 0) (by omega) hA35 (by omega) (by omega) sl22 ?_
        refine zyk 61 (.int .i64 8) hc35 ty3 ?_
        refine zza 12 (.v (.int .i64 8)) ?_
        refine zzb 71 [(5, .adr 5 0), (12, .v (.int .i64 8)), (56, .v x.v), (57, .v (.int .i64 (x.n : Int))), (58, .v (.int .i64 0))] [(5, ⟨24, [.int .i64 8, .int .i64 4, .int .i64 1, .int .i64 1]⟩)] ?_
        refine sq9 ?_
        refine zza 62 (.v (.int .i64 8)) ?_
        refine zza 63 (.v (.int .i64 8)) ?_
        refine zza 64 (.v (.int .i64 (-8))) ?_
        refine sy_max2 65 (n := 8) (m := (-8)) (v := 8) (by decide) ?_
        refine zza 66 (.adr 5 1) ?_
        refine zzh 67 (.v (.int .i64 4)) ty3 zzk ?_
        refine sy_shl 68 (k := .i64) (n := 1) (s := 4) (16) (by decide) (by decide) (by decide +kernel) ?_
        refine zza 69 (.v (.bool false)) ?_
        refine zzb 71 [(5, .adr 5 0), (56, .v x.v), (57, .v (.int .i64 (x.n : Int))), (58, .v (.int .i64 0)), (69, .v (.bool false))] [(5, ⟨24, [.int .i64 8, .int .i64 4, .int .i64 1, .int .i64 1]⟩)] ?_
        refine zyr (by kernel_rfl) ?_
        refine zzr (zzo ?_)
        refine zze ?_
        refine zza 70 (.v (.int .i64 1)) ?_
        refine zza 58 (.v (.int .i64 1)) ?_
        refine zzw ?_
        refine rn_next ?_
        refine sw_weak (T := St.of 71 [(5, .adr 5 0), (56, .v (.slice x.a x.n x.c)), (57, .v (.int .i64 (x.n : Int))), (58, .v (.int .i64 1))] [(5, ⟨24, [.int .i64 8, .int .i64 4, .int .i64 1, .int .i64 1]⟩)]) (by exact zzu _ _ _) ?_
        refine sq9 ?_
        refine zza 59 (.v (.bool (decide ((1 : Int) < (x.n : Int))))) ?_
        refine zzb 71 [(5, .adr 5 0), (56, .v x.v), (57, .v (.int .i64 (x.n : Int))), (58, .v (.int .i64 1)), (59, .v (.bool (decide ((1 : Int) < (x.n : Int)))))] [(5, ⟨24, [.int .i64 8, .int .i64 4, .int .i64 1, .int .i64 1]⟩)] ?_
        refine zzc ?_
        refine zzt (b := decide ((1 : Int) < (x.n : Int))) (by kernel_rfl) (fun hb => ?_) (fun hb => ?_)
        ·exact absurd hb (by rw [show (decide ((1 : Int) < (x.n : Int))) = false from decide_eq_false (by omega)]; decide)
        ·clear hb
         refine zyb ?_
         refine zzo ?_
         refine sq9 ?_
         refine zza 6 (.v (.int .i64 0)) ?_
         refine zzb 71 [(6, .v (.int .i64 0))] [] ?_
         refine zzn (ret0 [.int .i64 0] ⟨zzp, trivial⟩ fun u36 e37 => ?_)
         rfl
       ·exact absurd hb (by rw [show (decide ((0 : Int) < (x.n : Int))) = true from decide_eq_true (by omega)]; decide)
     ·exact absurd hb (by rw [show (decide ((0 : Int) < (x.n : Int))) = true from decide_eq_true (by omega)]; decide)
   ·exact absurd hb (by rw [show (decide ((1 : Int) < (y.n : Int))) = true from decide_eq_true (by omega)]; decide)
  ·exact absurd hb (by rw [show (decide ((0 : Int) < (y.n : Int))) = true from decide_eq_true (by omega)]; decide)
theorem rats1set {u : World} {r : RL} {q : Rat} {n K : Nat} (hn : n = 1) (hr : RatN u r q K) : RatsN u ((List.replicate n rl0).set 0 r) [q] K := by subst hn; exact rats1 hr
theorem small_one {q : Rat} (h : Nt.smallQ q = true) : ∀ i, i < [q].length → Nt.smallQ ([q].getD i 0) = true := fun i hi => by
 have hi : i < 1 := hi
 have e : i = 0 := by omega
 subst e; exact h
set_option maxHeartbeats 4000000 in
theorem k_latIdeal {u w : World} {x y : Sl} (d : Dat u w) (hx : SlR .i64 u x.a x.n x.c [8]) (hy : SlR .i64 u y.a y.n y.c [0, 16]) : Calls Tryz.prog 11 #[x.v, y.v, (⟨8, 4, 1, 1⟩ : WL).v] w (Post u w fun v u' => ∃ y z : Sl, v = .tuple #[.agg #[y.v, z.v], .int .i64 0] ∧ PolN u' y [((1 : Int) : Rat) / ((2 : Int) : Rat), ((1 : Int) : Rat)] 20000 ∧ PolN u' z [((1 : Int) : Rat), ((1 : Int) : Rat) / ((2 : Int) : Rat)] 20000) := by
 have hlx : x.n = 1 := hx.1.symm
 have hly : y.n = 2 := hy.1.symm
 refine zzl (args := [.slice x.a x.n x.c, .slice y.a y.n y.c, .agg #[.int .i64 8, .int .i64 4, .int .i64 1, .int .i64 1]]) Tryz.func11 rfl Tryz.ntmps11 (rs := [.cell 6 31, .tmp 7]) Tryz.results11 (le_b rfl) (le_b rfl) d ?_
 refine sq9 ?_
 refine zzj 5 ⟨24, [.int .i64 8, .int .i64 4, .int .i64 1, .int .i64 1]⟩ ?_
 refine zzj 6 ⟨31, [.slice none 0 0, .slice none 0 0]⟩ ?_
 refine zza 7 (.v (.int .i64 0)) ?_
 refine zzb 72 [(0, .v x.v), (1, .v y.v), (5, .adr 5 0), (6, .adr 6 0)] [(5, ⟨24, [.int .i64 8, .int .i64 4, .int .i64 1, .int .i64 1]⟩), (6, ⟨31, [.slice none 0 0, .slice none 0 0]⟩)] ?_
 refine zzc ?_
 refine sq9 ?_
 refine zza 17 (.v x.v) ?_
 refine zza 18 (.v y.v) ?_
 refine zzh 19 (.v (.agg #[.int .i64 8, .int .i64 4, .int .i64 1, .int .i64 1])) ty24 zzd ?_
 refine zzf 20 47 [x.v, y.v, .agg #[.int .i64 8, .int .i64 4, .int .i64 1, .int .i64 1]] ?_
 intro w11 u11 e11 d11
 have k14 := k_latWrong d11 (hx.ext e11) (hy.ext e11)
 with_reducible refine Post.mono k14 ?_
 rintro _ u12 g13 rfl
 refine zza 8 (.v (.int .i64 0)) ?_
 refine zzb 72 [(0, .v x.v), (1, .v y.v), (5, .adr 5 0), (6, .adr 6 0), (8, .v (.int .i64 0))] [(5, ⟨24, [.int .i64 8, .int .i64 4, .int .i64 1, .int .i64 1]⟩), (6, ⟨31, [.slice none 0 0, .slice none 0 0]⟩)] ?_
 refine sq9 ?_
 refine zza 21 (.v (.int .i64 0)) ?_
 refine zza 22 (.v (.bool false)) ?_
 refine zzb 72 [(0, .v x.v), (1, .v y.v), (5, .adr 5 0), (6, .adr 6 0), (8, .v (.int .i64 0)), (22, .v (.bool false))] [(5, ⟨24, [.int .i64 8, .int .i64 4, .int .i64 1, .int .i64 1]⟩), (6, ⟨31, [.slice none 0 0, .slice none 0 0]⟩)] ?_
 refine zyr (by kernel_rfl) ?_
 refine zzr (zzo ?_)
 refine sq9 ?_
 refine zza 25 (.v x.v) ?_
 refine zza 26 (.v (.int .i64 (x.n : Int))) ?_
 refine sy_make 27 (T := 28) (E := 41) (z := .agg #[.bool false, .slice none 0 0, .slice none 0 0]) (size := 3) (bytes := 56) x.n (rcs (List.replicate x.n rl0)) (by kernel_rfl) (by kernel_rfl) rfl rfl (by omega) (by unfold maxLen; omega) (made_rcs _) ?_
 refine zza 9 (.slc 27 0 x.n x.n) ?_
 refine zzb 72 [(0, .v x.v), (1, .v y.v), (5, .adr 5 0), (6, .adr 6 0), (9, .slc 27 0 x.n x.n)] [(5, ⟨24, [.int .i64 8, .int .i64 4, .int .i64 1, .int .i64 1]⟩), (6, ⟨31, [.slice none 0 0, .slice none 0 0]⟩), (27, ⟨41, rcs (List.replicate x.n rl0)⟩)] ?_
 refine zzc ?_
 refine sq9 ?_
 refine zza 28 (.v x.v) ?_
 refine zza 29 (.v (.int .i64 (x.n : Int))) ?_
 refine zza 30 (.v (.int .i64 0)) ?_
 refine zzb 72 [(1, .v y.v), (5, .adr 5 0), (6, .adr 6 0), (9, .slc 27 0 x.n x.n), (28, .v x.v), (29, .v (.int .i64 (x.n : Int))), (30, .v (.int .i64 0))] [(5, ⟨24, [.int .i64 8, .int .i64 4, .int .i64 1, .int .i64 1]⟩), (6, ⟨31, [.slice none 0 0, .slice none 0 0]⟩), (27, ⟨41, rcs (List.replicate x.n rl0)⟩)] ?_
 refine zzs ?_
 refine sw_rounds 1 ?_
 refine sq9 ?_
 refine zza 31 (.v (.bool (decide ((0 : Int) < (x.n : Int))))) ?_
 refine zzb 72 [(1, .v y.v), (5, .adr 5 0), (6, .adr 6 0), (9, .slc 27 0 x.n x.n), (28, .v x.v), (29, .v (.int .i64 (x.n : Int))), (30, .v (.int .i64 0)), (31, .v (.bool (decide ((0 : Int) < (x.n : Int)))))] [(5, ⟨24, [.int .i64 8, .int .i64 4, .int .i64 1, .int .i64 1]⟩), (6, ⟨31, [.slice none 0 0, .slice none 0 0]⟩), (27, ⟨41, rcs (List.replicate x.n rl0)⟩)] ?_
 refine zzc ?_
 refine zzt (b := decide ((0 : Int) < (x.n : Int))) (by kernel_rfl) (fun hb => ?_) (fun hb => ?_)
 ·clear hb
  refine zzr (zzo ?_)
  refine zzc ?_
  refine zzs ?_
  refine sq9 ?_
  refine zza 32 (.v (.int .i64 0)) ?_
  have hl15 := ((hx.ext (e11.trans g13.ext))).1
  obtain ⟨b15, o15, hA15, hc15⟩ := ints_at (hx.ext (e11.trans g13.ext)) (i := 0) (by omega)
  have hz15 := ints_bd (show ∀ z ∈ ([8] : List Int), -9223372036854775808 ≤ z ∧ z ≤ 9223372036854775807 by decide) (by omega) 0
  refine zzz 33 (o15 + 0 * 1) (n := x.n) (off := o15) (sz := 1) (i := 0) (by omega) hA15 (by omega) (by omega) sl22 ?_
  refine zyk 34 (.int .i64 8) hc15 ty3 ?_
  refine zza 10 (.v (.int .i64 0)) ?_
  refine zza 11 (.v (.int .i64 8)) ?_
  refine zzb 72 [(1, .v y.v), (5, .adr 5 0), (6, .adr 6 0), (9, .slc 27 0 x.n x.n), (10, .v (.int .i64 0)), (11, .v (.int .i64 8)), (28, .v x.v), (29, .v (.int .i64 (x.n : Int))), (30, .v (.int .i64 0))] [(5, ⟨24, [.int .i64 8, .int .i64 4, .int .i64 1, .int .i64 1]⟩), (6, ⟨31, [.slice none 0 0, .slice none 0 0]⟩), (27, ⟨41, rcs (List.replicate x.n rl0)⟩)] ?_
  refine zze ?_
  refine zza 35 (.slc 27 0 x.n x.n) ?_
  refine zza 36 (.v (.int .i64 0)) ?_
  refine zzh 37 (.v (.agg #[.int .i64 8, .int .i64 4, .int .i64 1, .int .i64 1])) ty24 zzd ?_
  refine zza 38 (.v (.int .i64 8)) ?_
  refine zzf 39 48 [.agg #[.int .i64 8, .int .i64 4, .int .i64 1, .int .i64 1], .int .i64 8] ?_
  intro w16 u16 e16 d16
  have k21 := k_fxValue (W := (⟨8, 4, 1, 1⟩ : WL)) (z := 8) d16 (show WdOK (⟨8, 4, 1, 1⟩ : WL) by unfold WdOK; decide) (by decide) (by decide)
  with_reducible refine Post.mono k21 ?_
  rintro _ u19 g20 ⟨r17, rfl, h18⟩
  refine zyv 40 (off' := 0 * 3) (n := x.n) (off := 0) (sz := 3) (i := 0) sl28 (by omega) (by omega) (by omega) ?_
  refine zyu (V := ⟨41, rcs (List.replicate x.n rl0)⟩) (off := 0 * 3) (rcs ((List.replicate x.n rl0).set 0 r17)) ty41 (by rw [zyx]; first|omega|(simp;omega)) (zyw (r := r17) (i := 0) (by first|omega|(simp;omega)) rfl) ?_
  refine zzw ?_
  refine zzo ?_
  refine zze ?_
  refine zza 41 (.v (.int .i64 1)) ?_
  refine zza 30 (.v (.int .i64 1)) ?_
  refine zzw ?_
  refine rn_next ?_
  refine sw_weak (T := St.of 72 [(1, .v (.slice y.a y.n y.c)), (5, .adr 5 0), (6, .adr 6 0), (9, .slc 27 0 x.n x.n), (28, .v (.slice x.a x.n x.c)), (29, .v (.int .i64 (x.n : Int))), (30, .v (.int .i64 1))] [(5, ⟨24, [.int .i64 8, .int .i64 4, .int .i64 1, .int .i64 1]⟩), (6, ⟨31, [.slice none 0 0, .slice none 0 0]⟩), (27, ⟨41, rcs ((List.replicate x.n rl0).set 0 r17)⟩)]) (by exact zzu _ _ _) ?_
  refine sq9 ?_
  refine zza 31 (.v (.bool (decide ((1 : Int) < (x.n : Int))))) ?_
  refine zzb 72 [(1, .v y.v), (5, .adr 5 0), (6, .adr 6 0), (9, .slc 27 0 x.n x.n), (28, .v x.v), (29, .v (.int .i64 (x.n : Int))), (30, .v (.int .i64 1)), (31, .v (.bool (decide ((1 : Int) < (x.n : Int)))))] [(5, ⟨24, [.int .i64 8, .int .i64 4, .int .i64 1, .int .i64 1]⟩), (6, ⟨31, [.slice none 0 0, .slice none 0 0]⟩), (27, ⟨41, rcs ((List.replicate x.n rl0).set 0 r17)⟩)] ?_
  refine zzc ?_
  refine zzt (b := decide ((1 : Int) < (x.n : Int))) (by kernel_rfl) (fun hb => ?_) (fun hb => ?_)
  ·exact absurd hb (by rw [show (decide ((1 : Int) < (x.n : Int))) = false from decide_eq_false (by omega)]; decide)
  ·clear hb
   refine zyb ?_
   refine zzo ?_
   refine zzc ?_
   have hz : ∀ i, i < [(((8 : Int) : Rat) / ((Nt.p2i (⟨8, 4, 1, 1⟩ : WL).f : Int) : Rat))].length → Nt.smallQ ([(((8 : Int) : Rat) / ((Nt.p2i (⟨8, 4, 1, 1⟩ : WL).f : Int) : Rat))].getD i 0) = true := small_one (by decide +kernel)
   have hLL : ((List.replicate x.n rl0).set 0 r17).length = 1 := by rw [List.length_set, List.length_replicate]; exact hlx
   refine zyo (r := 9) (t := 27) [9, 27] (by repeat first | exact noAt_of | refine zyc ?_ | refine zye ?_ | refine zyd ?_ | refine zzx ?_ | refine zya ?_) (by kernel_rfl) (by rfl) (by rfl) (by kernel_rfl) (fun b22 u23 e24 hb25 hh26 => ?_)
   have hp27 : PolN u23 ⟨some ⟨b22, 0, none⟩, x.n, x.n⟩ ([(((8 : Int) : Rat) / ((Nt.p2i (⟨8, 4, 1, 1⟩ : WL).f : Int) : Rat))]) 2 := pol_data1 hh26 (by unfold maxLen; omega) ((rats1set hlx h18).ext e24) (by omega)
   refine zze ?_
   refine zza 12 (.v (.slice none 0 0)) ?_
   refine zzb 72 [(1, .v y.v), (5, .adr 5 0), (6, .adr 6 0), (9, .v (.slice (some ⟨b22, 0, none⟩) x.n x.n)), (12, .v (.slice none 0 0))] [(5, ⟨24, [.int .i64 8, .int .i64 4, .int .i64 1, .int .i64 1]⟩), (6, ⟨31, [.slice none 0 0, .slice none 0 0]⟩)] ?_
   refine zzc ?_
   refine sq9 ?_
   refine zza 42 (.v y.v) ?_
   refine zza 43 (.v (.int .i64 (y.n : Int))) ?_
   refine zza 44 (.v (.int .i64 0)) ?_
   refine zzb 72 [(5, .adr 5 0), (6, .adr 6 0), (9, .v (.slice (some ⟨b22, 0, none⟩) x.n x.n)), (12, .v (.slice none 0 0)), (42, .v y.v), (43, .v (.int .i64 (y.n : Int))), (44, .v (.int .i64 0))] [(5, ⟨24, [.int .i64 8, .int .i64 4, .int .i64 1, .int .i64 1]⟩), (6, ⟨31, [.slice none 0 0, .slice none 0 0]⟩)] ?_
   refine zzs ?_
   refine sw_rounds 2 ?_
   refine sq9 ?_
   refine zza 45 (.v (.bool (decide ((0 : Int) < (y.n : Int))))) ?_
   refine zzb 72 [(5, .adr 5 0), (6, .adr 6 0), (9, .v (.slice (some ⟨b22, 0, none⟩) x.n x.n)), (12, .v (.slice none 0 0)), (42, .v y.v), (43, .v (.int .i64 (y.n : Int))), (44, .v (.int .i64 0)), (45, .v (.bool (decide ((0 : Int) < (y.n : Int)))))] [(5, ⟨24, [.int .i64 8, .int .i64 4, .int .i64 1, .int .i64 1]⟩), (6, ⟨31, [.slice none 0 0, .slice none 0 0]⟩)] ?_
   refine zzc ?_
   refine zzt (b := decide ((0 : Int) < (y.n : Int))) (by kernel_rfl) (fun hb => ?_) (fun hb => ?_)
   ·clear hb
    refine zzr (zzo ?_)
    refine zzc ?_
    refine zzs ?_
    refine sq9 ?_
    refine zza 46 (.v (.int .i64 0)) ?_
    have hl28 := ((hy.ext (e11.trans (g13.ext.trans (e16.trans (g20.ext.trans e24)))))).1
    obtain ⟨b28, o28, hA28, hc28⟩ := ints_at (hy.ext (e11.trans (g13.ext.trans (e16.trans (g20.ext.trans e24))))) (i := 0) (by omega)
    have hz28 := ints_bd (show ∀ z ∈ ([0, 16] : List Int), -9223372036854775808 ≤ z ∧ z ≤ 9223372036854775807 by decide) (by omega) 0
    refine zzz 47 (o28 + 0 * 1) (n := y.n) (off := o28) (sz := 1) (i := 0) (by omega) hA28 (by omega) (by omega) sl22 ?_
    refine zyk 48 (.int .i64 0) hc28 ty3 ?_
    refine zza 13 (.v (.int .i64 0)) ?_
    refine zza 14 (.v (.int .i64 0)) ?_
    refine zzb 72 [(5, .adr 5 0), (6, .adr 6 0), (9, .v (.slice (some ⟨b22, 0, none⟩) x.n x.n)), (12, .v (.slice none 0 0)), (13, .v (.int .i64 0)), (14, .v (.int .i64 0)), (42, .v y.v), (43, .v (.int .i64 (y.n : Int))), (44, .v (.int .i64 0))] [(5, ⟨24, [.int .i64 8, .int .i64 4, .int .i64 1, .int .i64 1]⟩), (6, ⟨31, [.slice none 0 0, .slice none 0 0]⟩)] ?_
    refine zzy [0, 0, 0, 6, 0, 0, 62, 126, 255, 511] [(0, []), (1, []), (2, []), (4, []), (5, []), (3, []), (6, []), (7, []), (8, []), (9, [])] (by kernel_rfl) (by kernel_rfl) ?_
    refine zza 49 (.v (.slice none 0 0)) ?_
    refine zza 50 (.v (.slice (some ⟨b22, 0, none⟩) x.n x.n)) ?_
    refine zza 51 (.v (.int .i64 0)) ?_
    refine zzh 53 (.v (.agg #[.int .i64 8, .int .i64 4, .int .i64 1, .int .i64 1])) ty24 zzd ?_
    refine zza 54 (.v (.int .i64 0)) ?_
    refine zzf 52 51 [.slice (some ⟨b22, 0, none⟩) x.n x.n, .int .i64 0] ?_
    intro w29 u29 e29 d29
    have k34 := (show Calls _ _ #[_, .int .i64 0] _ _ from k_reversed (i := 0) d29 (hp27.ext e29).raw (by decide) (by decide) hz (by decide))
    with_reducible refine Post.mono k34 ?_
    rintro _ u32 g33 ⟨y30, rfl, h31⟩
    have hly30 := h31.len
    have hmy30 := Nat.le_of_eq (Nt.revL_len [(((8 : Int) : Rat) / ((Nt.p2i (⟨8, 4, 1, 1⟩ : WL).f : Int) : Rat))] 0)
    have hk35 := PolN.more h31 (Nt.upK_le (show 0 ≤ 6 by omega))
    refine zzf 55 48 [.agg #[.int .i64 8, .int .i64 4, .int .i64 1, .int .i64 1], .int .i64 0] ?_
    intro w36 u36 e36 d36
    have k41 := k_fxValue (W := (⟨8, 4, 1, 1⟩ : WL)) (z := 0) d36 (show WdOK (⟨8, 4, 1, 1⟩ : WL) by unfold WdOK; decide) (by decide) (by decide)
    with_reducible refine Post.mono k41 ?_
    rintro _ u39 g40 ⟨r37, rfl, h38⟩
    refine zzf 56 50 [y30.v, r37.v] ?_
    intro w42 u42 e42 d42
    have k47 := k_poScale d42 (hk35.ext (e36.trans (g40.ext.trans e42))).raw (h38.ext e42).raw (by omega) (by have h9 := hmy30; omega) (by omega)
    with_reducible refine Post.mono k47 ?_
    rintro _ u45 g46 ⟨y43, rfl, h44⟩
    have hly43 := h44.len
    have hm48 : (Nt.trimQ ((Nt.revL [(((8 : Int) : Rat) / ((Nt.p2i (⟨8, 4, 1, 1⟩ : WL).f : Int) : Rat))] 0).map (· * (((0 : Int) : Rat) / ((Nt.p2i (⟨8, 4, 1, 1⟩ : WL).f : Int) : Rat))))).length ≤ 1 := Nt.map_lenQ hmy30
    have hk49 : PolN _ y43 (Nt.trimQ ((Nt.revL [(((8 : Int) : Rat) / ((Nt.p2i (⟨8, 4, 1, 1⟩ : WL).f : Int) : Rat))] 0).map (· * (((0 : Int) : Rat) / ((Nt.p2i (⟨8, 4, 1, 1⟩ : WL).f : Int) : Rat))))) 2034 := PolN.more h44 (by omega)
    refine zzf 57 49 [.slice none 0 0, y43.v] ?_
    intro w50 u50 e50 d50
    have k55 := k_poAdd d50 (pol_nil _ 1).raw (hk49.ext e50).raw (by omega) (by omega) (by have h9 := (show ([] : List Rat).length ≤ 0 from Nat.le_refl 0); omega) (by have h9 := hm48; omega)
    with_reducible refine Post.mono k55 ?_
    rintro _ u53 g54 ⟨y51, rfl, h52⟩
    have hly51 := h52.len
    have hm56 : (Nt.trimQ (Nt.addQ [] (Nt.trimQ ((Nt.revL [(((8 : Int) : Rat) / ((Nt.p2i (⟨8, 4, 1, 1⟩ : WL).f : Int) : Rat))] 0).map (· * (((0 : Int) : Rat) / ((Nt.p2i (⟨8, 4, 1, 1⟩ : WL).f : Int) : Rat))))))).length ≤ 1 := Nt.add_lenQ (show ([] : List Rat).length ≤ 0 from Nat.le_refl 0) hm48
    have hk57 : PolN _ y51 (Nt.trimQ (Nt.addQ [] (Nt.trimQ ((Nt.revL [(((8 : Int) : Rat) / ((Nt.p2i (⟨8, 4, 1, 1⟩ : WL).f : Int) : Rat))] 0).map (· * (((0 : Int) : Rat) / ((Nt.p2i (⟨8, 4, 1, 1⟩ : WL).f : Int) : Rat))))))) 2036 := PolN.more h52 (by omega)
    refine zza 12 (.v y51.v) ?_
    refine zzw ?_
    refine zzo ?_
    refine zze ?_
    refine zza 58 (.v (.int .i64 1)) ?_
    refine zza 44 (.v (.int .i64 1)) ?_
    refine zzw ?_
    refine rn_next ?_
    refine sw_weak (T := St.of 72 [(5, .adr 5 0), (6, .adr 6 0), (9, .v (.slice (some ⟨b22, 0, none⟩) x.n x.n)), (12, .v (.slice y51.a y51.n y51.c)), (42, .v (.slice y.a y.n y.c)), (43, .v (.int .i64 (y.n : Int))), (44, .v (.int .i64 1))] [(5, ⟨24, [.int .i64 8, .int .i64 4, .int .i64 1, .int .i64 1]⟩), (6, ⟨31, [.slice none 0 0, .slice none 0 0]⟩)]) (by exact zzu _ _ _) ?_
    refine sq9 ?_
    refine zza 45 (.v (.bool (decide ((1 : Int) < (y.n : Int))))) ?_
    refine zzb 72 [(5, .adr 5 0), (6, .adr 6 0), (9, .v (.slice (some ⟨b22, 0, none⟩) x.n x.n)), (12, .v y51.v), (42, .v y.v), (43, .v (.int .i64 (y.n : Int))), (44, .v (.int .i64 1)), (45, .v (.bool (decide ((1 : Int) < (y.n : Int)))))] [(5, ⟨24, [.int .i64 8, .int .i64 4, .int .i64 1, .int .i64 1]⟩), (6, ⟨31, [.slice none 0 0, .slice none 0 0]⟩)] ?_
    refine zzc ?_
    refine zzt (b := decide ((1 : Int) < (y.n : Int))) (by kernel_rfl) (fun hb => ?_) (fun hb => ?_)
    ·clear hb
     refine zzr (zzo ?_)
     refine zzc ?_
     refine zzs ?_
     refine sq9 ?_
     refine zza 46 (.v (.int .i64 1)) ?_
     have hl58 := ((hy.ext (e11.trans (g13.ext.trans (e16.trans (g20.ext.trans (e24.trans (e29.trans (g33.ext.trans (e36.trans (g40.ext.trans (e42.trans (g46.ext.trans (e50.trans g54.ext)))))))))))))).1
     obtain ⟨b58, o58, hA58, hc58⟩ := ints_at (hy.ext (e11.trans (g13.ext.trans (e16.trans (g20.ext.trans (e24.trans (e29.trans (g33.ext.trans (e36.trans (g40.ext.trans (e42.trans (g46.ext.trans (e50.trans g54.ext))))))))))))) (i := 1) (by omega)
     have hz58 := ints_bd (show ∀ z ∈ ([0, 16] : List Int), -9223372036854775808 ≤ z ∧ z ≤ 9223372036854775807 by decide) (by omega) 1
     refine zzz 47 (o58 + 1 * 1) (n := y.n) (off := o58) (sz := 1) (i := 1) (by omega) hA58 (by omega) (by omega) sl22 ?_
     refine zyk 48 (.int .i64 16) hc58 ty3 ?_
     refine zza 13 (.v (.int .i64 1)) ?_
     refine zza 14 (.v (.int .i64 16)) ?_
     refine zzb 72 [(5, .adr 5 0), (6, .adr 6 0), (9, .v (.slice (some ⟨b22, 0, none⟩) x.n x.n)), (12, .v y51.v), (13, .v (.int .i64 1)), (14, .v (.int .i64 16)), (42, .v y.v), (43, .v (.int .i64 (y.n : Int))), (44, .v (.int .i64 1))] [(5, ⟨24, [.int .i64 8, .int .i64 4, .int .i64 1, .int .i64 1]⟩), (6, ⟨31, [.slice none 0 0, .slice none 0 0]⟩)] ?_
     refine zzy [0, 0, 0, 6, 0, 0, 62, 126, 255, 511] [(0, []), (1, []), (2, []), (4, []), (5, []), (3, []), (6, []), (7, []), (8, []), (9, [])] (by kernel_rfl) (by kernel_rfl) ?_
     refine zza 49 (.v y51.v) ?_
     refine zza 50 (.v (.slice (some ⟨b22, 0, none⟩) x.n x.n)) ?_
     refine zza 51 (.v (.int .i64 1)) ?_
     refine zzh 53 (.v (.agg #[.int .i64 8, .int .i64 4, .int .i64 1, .int .i64 1])) ty24 zzd ?_
     refine zza 54 (.v (.int .i64 16)) ?_
     refine zzf 52 51 [.slice (some ⟨b22, 0, none⟩) x.n x.n, .int .i64 1] ?_
     intro w59 u59 e59 d59
     have k64 := (show Calls _ _ #[_, .int .i64 1] _ _ from k_reversed (i := 1) d59 (hp27.ext (e29.trans (g33.ext.trans (e36.trans (g40.ext.trans (e42.trans (g46.ext.trans (e50.trans (g54.ext.trans e59))))))))).raw (by decide) (by decide) hz (by decide))
     with_reducible refine Post.mono k64 ?_
     rintro _ u62 g63 ⟨y60, rfl, h61⟩
     have hly60 := h61.len
     have hmy60 := Nat.le_of_eq (Nt.revL_len [(((8 : Int) : Rat) / ((Nt.p2i (⟨8, 4, 1, 1⟩ : WL).f : Int) : Rat))] 1)
     have hk65 := PolN.more h61 (Nt.upK_le (show 1 ≤ 6 by omega))
     refine zzf 55 48 [.agg #[.int .i64 8, .int .i64 4, .int .i64 1, .int .i64 1], .int .i64 16] ?_
     intro w66 u66 e66 d66
     have k71 := k_fxValue (W := (⟨8, 4, 1, 1⟩ : WL)) (z := 16) d66 (show WdOK (⟨8, 4, 1, 1⟩ : WL) by unfold WdOK; decide) (by decide) (by decide)
     with_reducible refine Post.mono k71 ?_
     rintro _ u69 g70 ⟨r67, rfl, h68⟩
     refine zzf 56 50 [y60.v, r67.v] ?_
     intro w72 u72 e72 d72
     have k77 := k_poScale d72 (hk65.ext (e66.trans (g70.ext.trans e72))).raw (h68.ext e72).raw (by omega) (by have h9 := hmy60; omega) (by omega)
     with_reducible refine Post.mono k77 ?_
     rintro _ u75 g76 ⟨y73, rfl, h74⟩
     have hly73 := h74.len
     have hm78 : (Nt.trimQ ((Nt.revL [(((8 : Int) : Rat) / ((Nt.p2i (⟨8, 4, 1, 1⟩ : WL).f : Int) : Rat))] 1).map (· * (((16 : Int) : Rat) / ((Nt.p2i (⟨8, 4, 1, 1⟩ : WL).f : Int) : Rat))))).length ≤ 2 := Nt.map_lenQ hmy60
     have hk79 : PolN _ y73 (Nt.trimQ ((Nt.revL [(((8 : Int) : Rat) / ((Nt.p2i (⟨8, 4, 1, 1⟩ : WL).f : Int) : Rat))] 1).map (· * (((16 : Int) : Rat) / ((Nt.p2i (⟨8, 4, 1, 1⟩ : WL).f : Int) : Rat))))) 2034 := PolN.more h74 (by omega)
     refine zzf 57 49 [y51.v, y73.v] ?_
     intro w80 u80 e80 d80
     have k85 := k_poAdd d80 (hk57.ext (e59.trans (g63.ext.trans (e66.trans (g70.ext.trans (e72.trans (g76.ext.trans e80))))))).raw (hk79.ext e80).raw (by omega) (by omega) (by have h9 := hm56; omega) (by have h9 := hm78; omega)
     with_reducible refine Post.mono k85 ?_
     rintro _ u83 g84 ⟨y81, rfl, h82⟩
     have hly81 := h82.len
     have hm86 : (Nt.trimQ (Nt.addQ (Nt.trimQ (Nt.addQ [] (Nt.trimQ ((Nt.revL [(((8 : Int) : Rat) / ((Nt.p2i (⟨8, 4, 1, 1⟩ : WL).f : Int) : Rat))] 0).map (· * (((0 : Int) : Rat) / ((Nt.p2i (⟨8, 4, 1, 1⟩ : WL).f : Int) : Rat))))))) (Nt.trimQ ((Nt.revL [(((8 : Int) : Rat) / ((Nt.p2i (⟨8, 4, 1, 1⟩ : WL).f : Int) : Rat))] 1).map (· * (((16 : Int) : Rat) / ((Nt.p2i (⟨8, 4, 1, 1⟩ : WL).f : Int) : Rat))))))).length ≤ 2 := Nt.add_lenQ hm56 hm78
     have hk87 : PolN _ y81 (Nt.trimQ (Nt.addQ (Nt.trimQ (Nt.addQ [] (Nt.trimQ ((Nt.revL [(((8 : Int) : Rat) / ((Nt.p2i (⟨8, 4, 1, 1⟩ : WL).f : Int) : Rat))] 0).map (· * (((0 : Int) : Rat) / ((Nt.p2i (⟨8, 4, 1, 1⟩ : WL).f : Int) : Rat))))))) (Nt.trimQ ((Nt.revL [(((8 : Int) : Rat) / ((Nt.p2i (⟨8, 4, 1, 1⟩ : WL).f : Int) : Rat))] 1).map (· * (((16 : Int) : Rat) / ((Nt.p2i (⟨8, 4, 1, 1⟩ : WL).f : Int) : Rat))))))) 4071 := PolN.more h82 (by omega)
     refine zza 12 (.v y81.v) ?_
     refine zzw ?_
     refine zzo ?_
     refine zze ?_
     refine zza 58 (.v (.int .i64 2)) ?_
     refine zza 44 (.v (.int .i64 2)) ?_
     refine zzw ?_
     refine rn_next ?_
     refine sw_weak (T := St.of 72 [(5, .adr 5 0), (6, .adr 6 0), (9, .v (.slice (some ⟨b22, 0, none⟩) x.n x.n)), (12, .v (.slice y81.a y81.n y81.c)), (42, .v (.slice y.a y.n y.c)), (43, .v (.int .i64 (y.n : Int))), (44, .v (.int .i64 2))] [(5, ⟨24, [.int .i64 8, .int .i64 4, .int .i64 1, .int .i64 1]⟩), (6, ⟨31, [.slice none 0 0, .slice none 0 0]⟩)]) (by exact zzu _ _ _) ?_
     refine sq9 ?_
     refine zza 45 (.v (.bool (decide ((2 : Int) < (y.n : Int))))) ?_
     refine zzb 72 [(5, .adr 5 0), (6, .adr 6 0), (9, .v (.slice (some ⟨b22, 0, none⟩) x.n x.n)), (12, .v y81.v), (42, .v y.v), (43, .v (.int .i64 (y.n : Int))), (44, .v (.int .i64 2)), (45, .v (.bool (decide ((2 : Int) < (y.n : Int)))))] [(5, ⟨24, [.int .i64 8, .int .i64 4, .int .i64 1, .int .i64 1]⟩), (6, ⟨31, [.slice none 0 0, .slice none 0 0]⟩)] ?_
     refine zzc ?_
     refine zzt (b := decide ((2 : Int) < (y.n : Int))) (by kernel_rfl) (fun hb => ?_) (fun hb => ?_)
     ·exact absurd hb (by rw [show (decide ((2 : Int) < (y.n : Int))) = false from decide_eq_false (by omega)]; decide)
     ·clear hb
      refine zyb ?_
      refine zzo ?_
      refine sq9 ?_
      refine zza 60 (.v (.slice (some ⟨b22, 0, none⟩) x.n x.n)) ?_
      refine zzf 61 52 [.slice (some ⟨b22, 0, none⟩) x.n x.n] ?_
      intro w88 u88 e88 d88
      have k93 := k_stepUpG d88 (hp27.ext (e29.trans (g33.ext.trans (e36.trans (g40.ext.trans (e42.trans (g46.ext.trans (e50.trans (g54.ext.trans (e59.trans (g63.ext.trans (e66.trans (g70.ext.trans (e72.trans (g76.ext.trans (e80.trans (g84.ext.trans e88))))))))))))))))).raw (by decide) (by decide) hz
      with_reducible refine Post.mono k93 ?_
      rintro _ u91 g92 ⟨y89, rfl, h90⟩
      change PolN _ _ (Nt.trimQ (Nt.upL [(((8 : Int) : Rat) / ((Nt.p2i (⟨8, 4, 1, 1⟩ : WL).f : Int) : Rat))] 1)) (Nt.upK 1) at h90
      have hly89 := h90.len
      have hky89 := Nt.upK_le (show 1 ≤ 6 by omega)
      refine zza 59 (.v (.tuple #[y89.v, .int .i64 0])) ?_
      refine zza 62 (.v y89.v) ?_
      refine zza 63 (.v (.int .i64 0)) ?_
      refine zza 15 (.v y89.v) ?_
      refine zza 16 (.v (.int .i64 0)) ?_
      refine zzb 72 [(6, .adr 6 0), (12, .v y81.v), (15, .v y89.v), (16, .v (.int .i64 0))] [(6, ⟨31, [.slice none 0 0, .slice none 0 0]⟩)] ?_
      refine zzc ?_
      refine sq9 ?_
      refine zza 64 (.v (.int .i64 0)) ?_
      refine zza 65 (.v (.bool false)) ?_
      refine zzb 72 [(6, .adr 6 0), (12, .v y81.v), (15, .v y89.v), (16, .v (.int .i64 0)), (65, .v (.bool false))] [(6, ⟨31, [.slice none 0 0, .slice none 0 0]⟩)] ?_
      refine zyr (by kernel_rfl) ?_
      refine zzr (zzo ?_)
      refine sq9 ?_
      refine zza 68 (.v y81.v) ?_
      refine zzf 69 53 [y81.v] ?_
      intro w94 u94 e94 d94
      have k99 := k_poTrim d94 (hk87.ext (e88.trans (g92.ext.trans e94))).raw (by omega) (by first|omega|(simp;omega) | (refine Nat.le_trans (Nt.zzg _) ?_; first|omega|(simp;omega)) | (refine Nat.le_trans (Nt.zzg _) ?_; simp only [List.length_map]; refine Nat.le_trans (Nt.zzg _) ?_; first|omega|(simp;omega)))
      with_reducible refine Post.mono k99 ?_
      rintro _ u97 g98 ⟨y95, rfl, h96⟩
      have hly95 := h96.len
      refine zza 70 (.v y89.v) ?_
      refine zza 71 (.v (.agg #[y95.v, y89.v])) ?_
      refine zzi ⟨31, [y95.v, y89.v]⟩ ty31 ?_
      refine zza 7 (.v (.int .i64 0)) ?_
      refine zzb 72 [(6, .adr 6 0), (7, .v (.int .i64 0))] [(6, ⟨31, [y95.v, y89.v]⟩)] ?_
      refine zzn (ret0 [.agg #[.slice y95.a y95.n y95.c, .slice y89.a y89.n y89.c], .int .i64 0] ⟨zzq ty31 zzd, zzp, trivial⟩ fun u100 e101 => ?_)
      refine ⟨y95, y89, rfl, ?_, ?_⟩
      ·have h9 := (h96.ext e101)
       rw [show (Nt.trimQ (Nt.trimQ (Nt.addQ (Nt.trimQ (Nt.addQ [] (Nt.trimQ ((Nt.revL [(((8 : Int) : Rat) / ((Nt.p2i (⟨8, 4, 1, 1⟩ : WL).f : Int) : Rat))] 0).map (· * (((0 : Int) : Rat) / ((Nt.p2i (⟨8, 4, 1, 1⟩ : WL).f : Int) : Rat))))))) (Nt.trimQ ((Nt.revL [(((8 : Int) : Rat) / ((Nt.p2i (⟨8, 4, 1, 1⟩ : WL).f : Int) : Rat))] 1).map (· * (((16 : Int) : Rat) / ((Nt.p2i (⟨8, 4, 1, 1⟩ : WL).f : Int) : Rat)))))))) = [((1 : Int) : Rat) / ((2 : Int) : Rat), ((1 : Int) : Rat)] from by decide +kernel] at h9
       exact h9.more (by omega)
      ·have h9 := (h90.ext (e94.trans (g98.ext.trans e101)))
       rw [show (Nt.trimQ (Nt.upL [(((8 : Int) : Rat) / ((Nt.p2i (⟨8, 4, 1, 1⟩ : WL).f : Int) : Rat))] 1)) = [((1 : Int) : Rat), ((1 : Int) : Rat) / ((2 : Int) : Rat)] from by decide +kernel] at h9
       exact h9.more (by omega)
    ·exact absurd hb (by rw [show (decide ((1 : Int) < (y.n : Int))) = true from decide_eq_true (by omega)]; decide)
   ·exact absurd hb (by rw [show (decide ((0 : Int) < (y.n : Int))) = true from decide_eq_true (by omega)]; decide)
 ·exact absurd hb (by rw [show (decide ((0 : Int) < (x.n : Int))) = true from decide_eq_true (by omega)]; decide)
set_option maxHeartbeats 4000000 in
theorem k_known25 {u w : World} (d : Dat u w) : Calls Tryz.prog 16 #[] w (Post u w fun v _ => v = .bool true) := by
 refine zzl (args := []) Tryz.func16 rfl Tryz.ntmps16 (rs := [.tmp 0]) Tryz.results16 (le_b rfl) (le_b rfl) d ?_
 refine sq9 ?_
 refine zza 0 (.v (.bool false)) ?_
 refine zzb 52 [] [] ?_
 refine sq9 ?_
 refine zza 6 (.v (.agg #[.int .i64 8, .int .i64 4, .int .i64 1, .int .i64 1])) ?_
 refine zzj 1 ⟨24, [.int .i64 0, .int .i64 0, .int .i64 0, .int .i64 0]⟩ ?_
 refine zzi ⟨24, [.int .i64 8, .int .i64 4, .int .i64 1, .int .i64 1]⟩ ty24 ?_
 refine zzb 52 [(1, .adr 1 0)] [(1, ⟨24, [.int .i64 8, .int .i64 4, .int .i64 1, .int .i64 1]⟩)] ?_
 refine sq9 ?_
 refine zzf 8 13 [.int .i64 1] ?_
 intro w11 u11 e11 d11
 have k16 := k_rqOf d11 (z := 1) (by omega) (by omega)
 with_reducible refine Post.mono k16 ?_
 rintro _ u14 g15 ⟨r12, rfl, h13⟩
 refine zzf 9 13 [.int .i64 1] ?_
 intro w17 u17 e17 d17
 have k22 := k_rqOf d17 (z := 1) (by omega) (by omega)
 with_reducible refine Post.mono k22 ?_
 rintro _ u20 g21 ⟨r18, rfl, h19⟩
 refine sy_data 10 ⟨41, r12.cs ++ r18.cs⟩ 2 (fun b23 u24 e25 h26 => ?_)
 have hp27 : PolN u24 (⟨some ⟨b23, 0, none⟩, 2, 2⟩ : Sl) [((1 : Int) : Rat), ((1 : Int) : Rat)] 2 := pol_lit (L := [r12, r18]) h26 (rats2 (h13.ext (e17.trans (g21.ext.trans e25))) (h19.ext e25)) rfl (by decide)
 refine zzf 11 72 [.int .i64 1, .int .i64 2] ?_
 intro w28 u28 e28 d28
 have k33 := k_rqFrac d28 (a := 1) (b := 2) (by omega) (by omega) (by omega) (by omega)
 with_reducible refine Post.mono k33 ?_
 rintro _ u31 g32 ⟨r29, rfl, h30⟩
 refine sy_data 12 ⟨41, r29.cs⟩ 1 (fun b34 u35 e36 h37 => ?_)
 have hp38 : PolN u35 (⟨some ⟨b34, 0, none⟩, 1, 1⟩ : Sl) [(((1 : Int) : Rat) / ((2 : Int) : Rat))] 3 := pol_lit (L := [r29]) h37 (rats1 (h30.ext e36)) rfl (by decide)
 refine zzf 13 71 [.slice (some ⟨b23, 0, none⟩) 2 2, .slice (some ⟨b34, 0, none⟩) 1 1] ?_
 intro w39 u39 e39 d39
 have k44 := k_taps d39 (hp27.ext (e28.trans (g32.ext.trans (e36.trans e39)))).raw (hp38.ext e39).raw (by first | omega | (simp; done) | (simp; omega)) (by omega) (by omega) (by first | omega | (simp; done) | (simp; omega))
 with_reducible refine Post.mono k44 ?_
 rintro _ u42 g43 ⟨y40, rfl, h41⟩
 refine zza 7 (.v (.tuple #[y40.v, .int .i64 (Nt.tapE ([((1 : Int) : Rat), ((1 : Int) : Rat)]) ([(((1 : Int) : Rat) / ((2 : Int) : Rat))]))])) ?_
 refine zza 14 (.v y40.v) ?_
 refine zza 15 (.v (.int .i64 (Nt.tapE ([((1 : Int) : Rat), ((1 : Int) : Rat)]) ([(((1 : Int) : Rat) / ((2 : Int) : Rat))])))) ?_
 refine zza 2 (.v y40.v) ?_
 refine zza 3 (.v (.int .i64 (Nt.tapE ([((1 : Int) : Rat), ((1 : Int) : Rat)]) ([(((1 : Int) : Rat) / ((2 : Int) : Rat))])))) ?_
 refine zzb 52 [(1, .adr 1 0), (2, .v y40.v), (3, .v (.int .i64 (Nt.tapE ([((1 : Int) : Rat), ((1 : Int) : Rat)]) ([(((1 : Int) : Rat) / ((2 : Int) : Rat))]))))] [(1, ⟨24, [.int .i64 8, .int .i64 4, .int .i64 1, .int .i64 1]⟩)] ?_
 refine sq9 ?_
 refine sy_data 17 ⟨3, [.int .i64 8]⟩ 1 (fun b45 u46 e47 h48 => ?_)
 have hp49 : SlR .i64 u46 (some ⟨b45, 0, none⟩) 1 1 [8] := ints_data h48 rfl rfl (Nat.le_refl _) (by decide)
 refine sy_data 18 ⟨3, [.int .i64 0, .int .i64 16]⟩ 2 (fun b50 u51 e52 h53 => ?_)
 have hp54 : SlR .i64 u51 (some ⟨b50, 0, none⟩) 2 2 [0, 16] := ints_data h53 rfl rfl (Nat.le_refl _) (by decide)
 refine zzh 19 (.v (.agg #[.int .i64 8, .int .i64 4, .int .i64 1, .int .i64 1])) ty24 zzd ?_
 refine zzf 20 11 [.slice (some ⟨b45, 0, none⟩) 1 1, .slice (some ⟨b50, 0, none⟩) 2 2, .agg #[.int .i64 8, .int .i64 4, .int .i64 1, .int .i64 1]] ?_
 intro w55 u55 e55 d55
 have k62 := k_latIdeal (x := (⟨some ⟨b45, 0, none⟩, 1, 1⟩ : Sl)) (y := (⟨some ⟨b50, 0, none⟩, 2, 2⟩ : Sl)) d55 (hp49.ext (e52.trans e55)) (hp54.ext e55)
 with_reducible refine Post.mono k62 ?_
 rintro _ u60 g61 ⟨y56, y57, rfl, h58, h59⟩
 refine zza 16 (.v (.tuple #[.agg #[y56.v, y57.v], .int .i64 0])) ?_
 refine zza 21 (.v (.agg #[y56.v, y57.v])) ?_
 refine zza 22 (.v (.int .i64 0)) ?_
 refine zzj 4 ⟨31, [.slice none 0 0, .slice none 0 0]⟩ ?_
 refine zzi ⟨31, [y56.v, y57.v]⟩ ty31 ?_
 refine zza 5 (.v (.int .i64 0)) ?_
 refine zzb 52 [(2, .v y40.v), (3, .v (.int .i64 (Nt.tapE ([((1 : Int) : Rat), ((1 : Int) : Rat)]) ([(((1 : Int) : Rat) / ((2 : Int) : Rat))])))), (4, .adr 4 0), (5, .v (.int .i64 0))] [(4, ⟨31, [y56.v, y57.v]⟩)] ?_
 refine zzc ?_
 refine zzy [0, 1, 3, 7, 15, 31, 63, 127, 127, 383, 895, 2047, 4095, 8191, 16383, 32767, 16383, 81919, 212991, 524287, 1048575, 2097151, 4194303, 8388607, 4194303, 20971519, 54525951, 134217727, 268435455, 536870911] [(0, []), (1, []), (2, []), (3, []), (4, []), (5, []), (6, []), (7, []), (8, []), (9, []), (10, []), (11, [33]), (12, []), (13, []), (14, []), (15, []), (16, []), (17, []), (18, []), (19, [41]), (20, []), (21, []), (22, []), (23, []), (24, []), (25, []), (26, []), (27, [49]), (28, []), (29, [])] (by kernel_rfl) (by kernel_rfl) ?_
 refine zza 23 (.v (.int .i64 (Nt.tapE ([((1 : Int) : Rat), ((1 : Int) : Rat)]) ([(((1 : Int) : Rat) / ((2 : Int) : Rat))])))) ?_
 refine zza 24 (.v (.bool ((Nt.tapE ([((1 : Int) : Rat), ((1 : Int) : Rat)]) ([(((1 : Int) : Rat) / ((2 : Int) : Rat))])) == 0))) ?_
 refine zyp 25 (x := .v (.bool ((Nt.tapE ([((1 : Int) : Rat), ((1 : Int) : Rat)]) ([(((1 : Int) : Rat) / ((2 : Int) : Rat))])) == 0))) (.v (.bool true)) (by rw [show ((Nt.tapE ([((1 : Int) : Rat), ((1 : Int) : Rat)]) ([(((1 : Int) : Rat) / ((2 : Int) : Rat))])) == 0) = true from (by decide +kernel)]) ?_
 refine zza 26 (.v (.int .i64 0)) ?_ (hw := w1 2 true 25)
 refine zza 27 (.v (.bool true)) ?_ (hw := w1 2 true 25)
 refine zza 28 (.v (.bool true)) ?_
 refine zza 29 (.v (.bool true)) ?_
 refine zza 30 (.v y40.v) ?_ (hw := w1 6 true 29)
 refine zzf 31 72 [.int .i64 1, .int .i64 2] ?_ (hw := w1 6 true 29)
 intro w64 u64 e64 d64
 have k69 := k_rqFrac d64 (a := 1) (b := 2) (by omega) (by omega) (by omega) (by omega)
 with_reducible refine Post.mono k69 ?_
 rintro _ u67 g68 ⟨r65, rfl, h66⟩
 refine zzf 32 13 [.int .i64 1] ?_ (hw := w1 6 true 29)
 intro w70 u70 e70 d70
 have k75 := k_rqOf d70 (z := 1) (by omega) (by omega)
 with_reducible refine Post.mono k75 ?_
 rintro _ u73 g74 ⟨r71, rfl, h72⟩
 refine sy_lit 33 ⟨41, r65.cs ++ r71.cs⟩ 2 ?_ (hw := w1 6 true 29)
 refine zyn 34 73 [.v y40.v, .slc 33 0 2 2] [33] (.inr rfl) (pub_mk (by repeat first | exact noAt_of | refine zyc ?_ | refine zye ?_ | refine zyd ?_ | refine zzx ?_ | refine zya ?_)) (k := ?_) (hw := w1 6 true 29)
 intro B76 w76 u76 e76 d76 v76
 have h78 : u76.heap[B76 33]? = some (.cells #[.bool r65.s, .slice r65.m.a r65.m.n r65.m.c, .slice r65.d.a r65.d.n r65.d.c, .bool r71.s, .slice r71.m.a r71.m.n r71.m.c, .slice r71.d.a r71.d.n r71.d.c] 41 (0, 0)) := v76 33 (by simp) _ rfl
 obtain ⟨b77, hBb77⟩ : ∃ b, B76 33 = b := ⟨_, rfl⟩
 rw [hBb77] at h78
 have hp79 : PolN u76 (⟨some ⟨b77, 0, none⟩, 2, 2⟩ : Sl) [(((1 : Int) : Rat) / ((2 : Int) : Rat)), ((1 : Int) : Rat)] (max 3 2) := pol_lit (L := [r65, r71]) h78 (rats2 (RatN.more (L := (max 3 2)) (h66.ext (e70.trans (g74.ext.trans e76))) (by omega)) (RatN.more (L := (max 3 2)) (h72.ext e76) (by omega))) rfl (by decide)
 show Calls _ _ #[.slice y40.a y40.n y40.c, .slice (some ⟨B76 33, 0, none⟩) 2 2] _ _
 rw [hBb77]
 have k82 := k_sameRats d76 (h41.ext (e47.trans (e52.trans (e55.trans (g61.ext.trans (e64.trans (g68.ext.trans (e70.trans (g74.ext.trans e76))))))))).raw (show PolV _ _ (Nt.tapO ([((1 : Int) : Rat), ((1 : Int) : Rat)]) ([(((1 : Int) : Rat) / ((2 : Int) : Rat))])) _ from (by rw [show (Nt.tapO ([((1 : Int) : Rat), ((1 : Int) : Rat)]) ([(((1 : Int) : Rat) / ((2 : Int) : Rat))])) = [(((1 : Int) : Rat) / ((2 : Int) : Rat)), ((1 : Int) : Rat)] from by decide +kernel]; exact hp79.raw)) (by decide) (by decide)
 with_reducible refine Post.mono k82 ?_
 rintro _ u80 g81 rfl
 refine zza 35 (.v (.bool true)) ?_
 refine zza 36 (.v (.bool true)) ?_
 refine zza 37 (.adr 4 1) ?_ (hw := w1 13 true 36)
 refine zzh 38 (.v y57.v) ty29 zzk ?_ (hw := w1 13 true 36)
 refine zzf 39 13 [.int .i64 1] ?_ (hw := w1 13 true 36)
 intro w83 u83 e83 d83
 have k88 := k_rqOf d83 (z := 1) (by omega) (by omega)
 with_reducible refine Post.mono k88 ?_
 rintro _ u86 g87 ⟨r84, rfl, h85⟩
 refine zzf 40 72 [.int .i64 1, .int .i64 2] ?_ (hw := w1 13 true 36)
 intro w89 u89 e89 d89
 have k94 := k_rqFrac d89 (a := 1) (b := 2) (by omega) (by omega) (by omega) (by omega)
 with_reducible refine Post.mono k94 ?_
 rintro _ u92 g93 ⟨r90, rfl, h91⟩
 refine sy_lit 41 ⟨41, r84.cs ++ r90.cs⟩ 2 ?_ (hw := w1 13 true 36)
 refine zyn 42 74 [.v y57.v, .slc 41 0 2 2] [41] (.inr rfl) (pub_mk (by repeat first | exact noAt_of | refine zyc ?_ | refine zye ?_ | refine zyd ?_ | refine zzx ?_ | refine zya ?_)) (k := ?_) (hw := w1 13 true 36)
 intro B95 w95 u95 e95 d95 v95
 have h97 : u95.heap[B95 41]? = some (.cells #[.bool r84.s, .slice r84.m.a r84.m.n r84.m.c, .slice r84.d.a r84.d.n r84.d.c, .bool r90.s, .slice r90.m.a r90.m.n r90.m.c, .slice r90.d.a r90.d.n r90.d.c] 41 (0, 0)) := v95 41 (by simp) _ rfl
 obtain ⟨b96, hBb96⟩ : ∃ b, B95 41 = b := ⟨_, rfl⟩
 rw [hBb96] at h97
 have hp98 : PolN u95 (⟨some ⟨b96, 0, none⟩, 2, 2⟩ : Sl) [((1 : Int) : Rat), (((1 : Int) : Rat) / ((2 : Int) : Rat))] (max 2 3) := pol_lit (L := [r84, r90]) h97 (rats2 (RatN.more (L := (max 2 3)) (h85.ext (e89.trans (g93.ext.trans e95))) (by omega)) (RatN.more (L := (max 2 3)) (h91.ext e95) (by omega))) rfl (by decide)
 show Calls _ _ #[.slice y57.a y57.n y57.c, .slice (some ⟨B95 41, 0, none⟩) 2 2] _ _
 rw [hBb96]
 have k101 := k_r5Same d95 (h59.ext (e64.trans (g68.ext.trans (e70.trans (g74.ext.trans (e76.trans (g81.ext.trans (e83.trans (g87.ext.trans (e89.trans (g93.ext.trans e95))))))))))).raw hp98.raw (by decide) (by decide) (by decide) (by decide)
 with_reducible refine Post.mono k101 ?_
 rintro _ u99 g100 rfl
 refine zza 43 (.v (.bool (decide (Nt.trimQ [((1 : Int) : Rat), ((1 : Int) : Rat) / ((2 : Int) : Rat)] = Nt.trimQ [((1 : Int) : Rat), (((1 : Int) : Rat) / ((2 : Int) : Rat))])))) ?_
 refine zyp 44 (x := .v (.bool (decide (Nt.trimQ [((1 : Int) : Rat), ((1 : Int) : Rat) / ((2 : Int) : Rat)] = Nt.trimQ [((1 : Int) : Rat), (((1 : Int) : Rat) / ((2 : Int) : Rat))])))) (.v (.bool true)) (by rw [show (decide (Nt.trimQ [((1 : Int) : Rat), ((1 : Int) : Rat) / ((2 : Int) : Rat)] = Nt.trimQ [((1 : Int) : Rat), (((1 : Int) : Rat) / ((2 : Int) : Rat))])) = true from decide_eq_true (by decide +kernel)]) ?_
 refine zza 45 (.adr 4 0) ?_ (hw := w1 21 true 44)
 refine zzh 46 (.v y56.v) ty29 zzk ?_ (hw := w1 21 true 44)
 refine zzf 47 72 [.int .i64 1, .int .i64 2] ?_ (hw := w1 21 true 44)
 intro w103 u103 e103 d103
 have k108 := k_rqFrac d103 (a := 1) (b := 2) (by omega) (by omega) (by omega) (by omega)
 with_reducible refine Post.mono k108 ?_
 rintro _ u106 g107 ⟨r104, rfl, h105⟩
 refine zzf 48 13 [.int .i64 1] ?_ (hw := w1 21 true 44)
 intro w109 u109 e109 d109
 have k114 := k_rqOf d109 (z := 1) (by omega) (by omega)
 with_reducible refine Post.mono k114 ?_
 rintro _ u112 g113 ⟨r110, rfl, h111⟩
 refine sy_lit 49 ⟨41, r104.cs ++ r110.cs⟩ 2 ?_ (hw := w1 21 true 44)
 refine zyn 50 74 [.v y56.v, .slc 49 0 2 2] [49] (.inr rfl) (pub_mk (by repeat first | exact noAt_of | refine zyc ?_ | refine zye ?_ | refine zyd ?_ | refine zzx ?_ | refine zya ?_)) (k := ?_) (hw := w1 21 true 44)
 intro B115 w115 u115 e115 d115 v115
 have h117 : u115.heap[B115 49]? = some (.cells #[.bool r104.s, .slice r104.m.a r104.m.n r104.m.c, .slice r104.d.a r104.d.n r104.d.c, .bool r110.s, .slice r110.m.a r110.m.n r110.m.c, .slice r110.d.a r110.d.n r110.d.c] 41 (0, 0)) := v115 49 (by simp) _ rfl
 obtain ⟨b116, hBb116⟩ : ∃ b, B115 49 = b := ⟨_, rfl⟩
 rw [hBb116] at h117
 have hp118 : PolN u115 (⟨some ⟨b116, 0, none⟩, 2, 2⟩ : Sl) [(((1 : Int) : Rat) / ((2 : Int) : Rat)), ((1 : Int) : Rat)] (max 3 2) := pol_lit (L := [r104, r110]) h117 (rats2 (RatN.more (L := (max 3 2)) (h105.ext (e109.trans (g113.ext.trans e115))) (by omega)) (RatN.more (L := (max 3 2)) (h111.ext e115) (by omega))) rfl (by decide)
 show Calls _ _ #[.slice y56.a y56.n y56.c, .slice (some ⟨B115 49, 0, none⟩) 2 2] _ _
 rw [hBb116]
 have k121 := k_r5Same d115 (h58.ext (e64.trans (g68.ext.trans (e70.trans (g74.ext.trans (e76.trans (g81.ext.trans (e83.trans (g87.ext.trans (e89.trans (g93.ext.trans (e95.trans (g100.ext.trans (e103.trans (g107.ext.trans (e109.trans (g113.ext.trans e115))))))))))))))))).raw hp118.raw (by decide) (by decide) (by decide) (by decide)
 with_reducible refine Post.mono k121 ?_
 rintro _ u119 g120 rfl
 refine zza 51 (.v (.bool (decide (Nt.trimQ [((1 : Int) : Rat) / ((2 : Int) : Rat), ((1 : Int) : Rat)] = Nt.trimQ [(((1 : Int) : Rat) / ((2 : Int) : Rat)), ((1 : Int) : Rat)])))) ?_
 refine zza 0 (.v (.bool (decide (Nt.trimQ [((1 : Int) : Rat) / ((2 : Int) : Rat), ((1 : Int) : Rat)] = Nt.trimQ [(((1 : Int) : Rat) / ((2 : Int) : Rat)), ((1 : Int) : Rat)])))) ?_
 refine zzb 52 [(0, .v (.bool (decide (Nt.trimQ [((1 : Int) : Rat) / ((2 : Int) : Rat), ((1 : Int) : Rat)] = Nt.trimQ [(((1 : Int) : Rat) / ((2 : Int) : Rat)), ((1 : Int) : Rat)]))))] [] ?_
 refine zzn (ret0 [.bool (decide (Nt.trimQ [((1 : Int) : Rat) / ((2 : Int) : Rat), ((1 : Int) : Rat)] = Nt.trimQ [(((1 : Int) : Rat) / ((2 : Int) : Rat)), ((1 : Int) : Rat)]))] ⟨zzp, trivial⟩ fun u122 e123 => ?_)
 show Value.bool _ = Value.bool _
 rw [show (decide (Nt.trimQ [((1 : Int) : Rat) / ((2 : Int) : Rat), ((1 : Int) : Rat)] = Nt.trimQ [(((1 : Int) : Rat) / ((2 : Int) : Rat)), ((1 : Int) : Rat)])) = true from decide_eq_true (by decide +kernel)]
set_option maxHeartbeats 1000000 in
theorem k_dn1 {u w : World} {r v : RL} {q y : Rat} {K M j b6 : Nat} (d : Dat u w) (hr : RatV u r q M) (hv : RatN u v y K) (h6 : u.heap[b6]? = some (.cells r.cs.toArray 41 (0, 0))) (hq : q ≠ 0) (hK : K ≤ 10000000) (hM : M ≤ 10000000) : Calls Tryz.prog 56 #[.int .i64 (j : Int), v.v, .pointer (some ⟨b6, 0, none⟩)] w (Post u w fun v u' => ∃ r : RL, v = r.v ∧ RatN u' r (y / q) (K + M)) := by
 refine zzl (args := [.int .i64 (j : Int), v.v, .pointer (some ⟨b6, 0, none⟩)]) Tryz.func56 rfl Tryz.ntmps56 (rs := [.cell 5 41]) Tryz.results56 (le_b rfl) (le_b rfl) d ?_
 refine sq9 ?_
 refine zzj 4 ⟨41, v.cs⟩ ?_
 refine zzj 5 ⟨41, [.bool false, .slice none 0 0, .slice none 0 0]⟩ ?_
 refine zzb 15 [(2, .v (.pointer (some ⟨b6, 0, none⟩))), (4, .adr 4 0), (5, .adr 5 0)] [(4, ⟨41, v.cs⟩), (5, ⟨41, [.bool false, .slice none 0 0, .slice none 0 0]⟩)] ?_
 refine sq9 ?_
 refine zzh 9 (.v (v.v)) ty41 zzd ?_
 refine zyl 10 (r.cs) (var_cells h6) ty41 ?_
 refine zzf 11 57 [v.v, r.v] ?_
 intro w11 u11 e11 d11
 have k16 := k_ratDiv1 d11 (hv.ext e11).raw (hr.ext e11) hq (by omega) (by omega)
 with_reducible refine Post.mono k16 ?_
 rintro _ u14 g15 ⟨r12, rfl, h13⟩
 refine zza 8 (.v (.tuple #[r12.v, .int .i64 0])) ?_
 refine zza 12 (.v (r12.v)) ?_
 refine zza 13 (.v (.int .i64 0)) ?_
 refine zzj 6 ⟨41, [.bool false, .slice none 0 0, .slice none 0 0]⟩ ?_
 refine zzi ⟨41, r12.cs⟩ ty41 ?_
 refine zza 7 (.v (.int .i64 0)) ?_
 refine zzb 15 [(5, .adr 5 0), (6, .adr 6 0)] [(5, ⟨41, [.bool false, .slice none 0 0, .slice none 0 0]⟩), (6, ⟨41, r12.cs⟩)] ?_
 refine sq9 ?_
 refine zzh 14 (.v (r12.v)) ty41 zzd ?_
 refine zzi ⟨41, r12.cs⟩ ty41 ?_
 refine zzb 15 [(5, .adr 5 0)] [(5, ⟨41, r12.cs⟩)] ?_
 refine zzn (ret0 [r12.v] ⟨zzq ty41 zzd, trivial⟩ fun u17 e18 => ?_)
 exact ⟨r12, rfl, RatN.more (K := (K + M)) (h13.ext e18) (by omega)⟩
set_option maxHeartbeats 2000000 in
theorem k_mapDn1 {u w : World} {x : Sl} {l : List Rat} {r : RL} {q : Rat} {K M b6 : Nat} (d : Dat u w) (hx : PolN u x l K) (hr : RatV u r q M) (h6 : u.heap[b6]? = some (.cells r.cs.toArray 41 (0, 0))) (hq : q ≠ 0) (hK : K ≤ 10000000) (hM : M ≤ 10000000) (hl : l.length ≤ 1000000) : Calls Tryz.prog 55 #[x.v, .func (.func 56) #[] #[.pointer (some ⟨b6, 0, none⟩)]] w (Post u w fun v u' => NewR u x.n (Nt.divS l q) (K + M) v u') := by
 have hlen := hx.len
 have hul := Nt.divS_len l q
 refine zzl (args := [.slice x.a x.n x.c, .func (.func 56) #[] #[.pointer (some ⟨b6, 0, none⟩)]]) Tryz.func55 rfl Tryz.ntmps55 (rs := [.tmp 4]) Tryz.results55 (le_b rfl) (le_b rfl) d ?_
 refine sq9 ?_
 refine zza 4 (.v (.slice none 0 0)) ?_
 refine zzb 27 [(0, .v x.v), (1, .v (.func (.func 56) #[] #[.pointer (some ⟨b6, 0, none⟩)]))] [] ?_
 refine sq9 ?_
 refine zza 8 (.v x.v) ?_
 refine zza 9 (.v (.int .i64 (x.n : Int))) ?_
 refine sy_make 10 (T := 28) (E := 41) (z := .agg #[.bool false, .slice none 0 0, .slice none 0 0]) (size := 3) (bytes := 56) x.n (rcs (List.replicate x.n rl0)) (by kernel_rfl) (by kernel_rfl) rfl rfl (by omega) (by unfold maxLen; omega) (made_rcs _) ?_
 refine zza 5 (.slc 10 0 x.n x.n) ?_
 refine zzb 27 [(0, .v x.v), (1, .v (.func (.func 56) #[] #[.pointer (some ⟨b6, 0, none⟩)])), (5, .slc 10 0 x.n x.n)] [(10, ⟨41, rcs (List.replicate x.n rl0)⟩)] ?_
 refine zzc ?_
 refine sq9 ?_
 refine zza 11 (.v x.v) ?_
 refine zza 12 (.v (.int .i64 (x.n : Int))) ?_
 refine zza 13 (.v (.int .i64 0)) ?_
 refine zzb 27 [(1, .v (.func (.func 56) #[] #[.pointer (some ⟨b6, 0, none⟩)])), (5, .slc 10 0 x.n x.n), (11, .v x.v), (12, .v (.int .i64 (x.n : Int))), (13, .v (.int .i64 0))] [(10, ⟨41, rcs (List.replicate x.n rl0)⟩)] ?_
 refine zzs ?_
 refine zym (I := fun m11 S' u' => ∃ (i : Nat) (L : List RL), (m11 = x.n - i) ∧ (i ≤ x.n) ∧ (L.length = x.n) ∧ (S' = St.of 27 [(1, .v (.func (.func 56) #[] #[.pointer (some ⟨b6, 0, none⟩)])), (5, .slc 10 0 x.n x.n), (11, .v (.slice x.a x.n x.c)), (12, .v (.int .i64 (x.n : Int))), (13, .v (.int .i64 (i : Int)))] [(10, ⟨41, rcs L⟩)]) ∧ (Ext u u') ∧ (RatsN u' (L.take i) ((Nt.divS l q).take i) (K + M))) (fun m S u1 u2 e h => by obtain ⟨i, L, hm, p0, p1, hS, hE, f0⟩ := h; exact ⟨i, L, hm, p0, p1, hS, hE.trans e, f0.ext e⟩) _ (T := St.of 27 [(1, .v (.func (.func 56) #[] #[.pointer (some ⟨b6, 0, none⟩)])), (5, .slc 10 0 x.n x.n), (11, .v (.slice x.a x.n x.c)), (12, .v (.int .i64 (x.n : Int))), (13, .v (.int .i64 0))] [(10, ⟨41, rcs (List.replicate x.n rl0)⟩)]) (by exact zzu _ _ _) ⟨0, List.replicate x.n rl0, rfl, by omega, by simp, rfl, Ext.refl _, RatsN.tnil _ _ _ _⟩ ?_
 rintro m11 _ u11 ⟨i, L, hm11, hi, hL, rfl, e11, hR⟩
 refine sq9 ?_
 refine zza 14 (.v (.bool (decide ((i : Int) < (x.n : Int))))) ?_
 refine zzb 27 [(1, .v (.func (.func 56) #[] #[.pointer (some ⟨b6, 0, none⟩)])), (5, .slc 10 0 x.n x.n), (11, .v x.v), (12, .v (.int .i64 (x.n : Int))), (13, .v (.int .i64 (i : Int))), (14, .v (.bool (decide ((i : Int) < (x.n : Int)))))] [(10, ⟨41, rcs L⟩)] ?_
 refine zzc ?_
 refine zzt (b := decide ((i : Int) < (x.n : Int))) (by kernel_rfl) (fun hb12 => ?_) (fun hb12 => ?_)
 ·replace hb12 : (decide ((i : Int) < (x.n : Int))) = true := hb12
  have qhb12 := of_decide_eq_true hb12
  refine zzr (zzo ?_)
  refine zzc ?_
  refine zzs ?_
  refine sq9 ?_
  refine zza 15 (.v (.int .i64 (i : Int))) ?_
  have hl13 := (hx.ext e11).len
  obtain ⟨r13, b13, o13, hA13, hc13, hr13⟩ := pol_atN (hx.ext e11) (i := i) (by omega)
  refine zzz 16 (o13 + i * 3) (n := x.n) (off := o13) (sz := 3) (i := (i : Int)) (by omega) hA13 (by omega) (by omega) sl28 ?_
  refine zyl 17 r13.cs hc13 ty41 ?_
  refine zzj 7 ⟨41, [.bool false, .slice none 0 0, .slice none 0 0]⟩ ?_
  refine zza 6 (.v (.int .i64 (i : Int))) ?_
  refine zzi ⟨41, r13.cs⟩ ty41 ?_
  refine zzb 27 [(1, .v (.func (.func 56) #[] #[.pointer (some ⟨b6, 0, none⟩)])), (5, .slc 10 0 x.n x.n), (6, .v (.int .i64 (i : Int))), (7, .adr 7 0), (11, .v x.v), (12, .v (.int .i64 (x.n : Int))), (13, .v (.int .i64 (i : Int)))] [(7, ⟨41, r13.cs⟩), (10, ⟨41, rcs L⟩)] ?_
  refine zze ?_
  refine zza 18 (.slc 10 0 x.n x.n) ?_
  refine zza 19 (.v (.int .i64 (i : Int))) ?_
  refine zza 20 (.v (.func (.func 56) #[] #[.pointer (some ⟨b6, 0, none⟩)])) ?_
  refine zza 21 (.v (.int .i64 (i : Int))) ?_
  refine zzh 22 (.v (r13.v)) ty41 zzd ?_
  refine zzf 23 56 [.int .i64 (i : Int), r13.v, .pointer (some ⟨b6, 0, none⟩)] ?_
  intro w14 u14 e14 d14
  have k19 := k_dn1 (j := i) d14 (hr.ext (e11.trans e14)) (hr13.ext e14) ((e11.trans e14).cells h6) hq (by omega) (by omega)
  with_reducible refine Post.mono k19 ?_
  rintro _ u17 g18 ⟨r15, rfl, h16⟩
  refine zyv 24 (off' := i * 3) (n := x.n) (off := 0) (sz := 3) (i := (i : Int)) sl28 (by omega) (by omega) (by omega) ?_
  refine zyu (V := ⟨41, rcs L⟩) (off := i * 3) (rcs ((L).set i r15)) ty41 (by rw [zyx]; first|omega|(simp;omega)) (zyw (r := r15) (i := i) (by first|omega|(simp;omega)) rfl) ?_
  refine zzw ?_
  refine zzo ?_
  refine zze ?_
  refine zyp 25 (x := .v (.int .i64 (IntKind.i64.wrap ((i : Int) + 1)))) (.v (.int .i64 ((i + 1 : Nat) : Int))) (eqI (by rw [IntWalk.i64_in _ (by omega)]; omega)) ?_
  refine zza 13 (.v (.int .i64 ((i + 1 : Nat) : Int))) ?_
  refine zzw ?_
  have ht20 : i < (Nt.divS l q).length := by rw [hul]; omega
  refine ⟨_, ?_, St.of 27 [(1, .v (.func (.func 56) #[] #[.pointer (some ⟨b6, 0, none⟩)])), (5, .slc 10 0 x.n x.n), (11, .v (.slice x.a x.n x.c)), (12, .v (.int .i64 (x.n : Int))), (13, .v (.int .i64 ((i + 1 : Nat) : Int)))] [(10, ⟨41, rcs ((L).set i r15)⟩)], by exact zzu _ _ _, i + 1, (L).set i r15, rfl, by omega, by simpa using hL, rfl, (e11.trans (e14.trans g18.ext)), RatsN.tstep (hR.ext (e14.trans g18.ext)) (by omega) ht20 (RatN.more (K := (K + M)) h16 (by omega)) (by rw [← Nt.divS_at l q (j := i) (by omega)])⟩
  omega
 ·replace hb12 : (decide ((i : Int) < (x.n : Int))) = false := hb12
  have qhb12 := of_decide_eq_false hb12
  refine zyb ?_
  refine zzo ?_
  refine zzc ?_
  refine zyo (r := 5) (t := 10) [5, 10] (by repeat first | exact noAt_of | refine zyc ?_ | refine zye ?_ | refine zyd ?_ | refine zzx ?_ | refine zya ?_) (by kernel_rfl) (by rfl) (by rfl) (by kernel_rfl) (fun b21 u22 e23 hb24 hh25 => ?_)
  have hp26 : PolN u22 ⟨some ⟨b21, 0, none⟩, x.n, x.n⟩ (Nt.divS l q) (K + M) := pol_data1 hh25 (by unfold maxLen; omega) (RatsN.tdone (hR.ext e23) (by omega) (by rw [hul]; omega)) (by omega)
  refine zze ?_
  refine zza 26 (.v (.slice (some ⟨b21, 0, none⟩) x.n x.n)) ?_
  refine zza 4 (.v (.slice (some ⟨b21, 0, none⟩) x.n x.n)) ?_
  refine zzb 27 [(4, .v (.slice (some ⟨b21, 0, none⟩) x.n x.n))] [] ?_
  refine zzn (ret0 [.slice (some ⟨b21, 0, none⟩) x.n x.n] ⟨zzp, trivial⟩ fun u27 e28 => ?_)
  exact ⟨b21, L, rfl, hb24, e28.cells hh25, by omega, (RatsN.tdone (hR.ext (e23.trans e28)) (by omega) (by rw [hul]; omega))⟩
set_option maxHeartbeats 2000000 in
theorem k_dn2 {u w : World} {x : Sl} {l : List Rat} {r s v : RL} {q p y : Rat} {K M N m j b10 b7 b9 b11 : Nat} (d : Dat u w) (hx : PolN u x l K) (hr : RatV u r q M) (hs : RatV u s p N) (hv : RatN u v y K) (h10 : u.heap[b10]? = some (.cells r.cs.toArray 41 (0, 0))) (h7 : u.heap[b7]? = some (.cells [Value.slice x.a x.n x.c].toArray 28 (0, 0))) (h9 : u.heap[b9]? = some (.cells [Value.int .i64 (m : Int)].toArray 3 (0, 0))) (h11 : u.heap[b11]? = some (.cells s.cs.toArray 41 (0, 0))) (hp : p ≠ 0) (hm : m + 1 = l.length) (hj : j < m) (hK : K ≤ 10000000) (hM : M ≤ 10000000) (hN : N ≤ 10000000) (hl : l.length ≤ 1000000) : Calls Tryz.prog 63 #[.int .i64 (j : Int), v.v, .pointer (some ⟨b10, 0, none⟩), .pointer (some ⟨b7, 0, none⟩), .pointer (some ⟨b9, 0, none⟩), .pointer (some ⟨b11, 0, none⟩)] w (Post u w fun v u' => ∃ r : RL, v = r.v ∧ RatN u' r ((y - q * l.getD (m - j) 0) / p) (2 * K + M + N + 1)) := by
 have hlen := hx.len
 refine zzl (args := [.int .i64 (j : Int), v.v, .pointer (some ⟨b10, 0, none⟩), .pointer (some ⟨b7, 0, none⟩), .pointer (some ⟨b9, 0, none⟩), .pointer (some ⟨b11, 0, none⟩)]) Tryz.func63 rfl Tryz.ntmps63 (rs := [.cell 8 41]) Tryz.results63 (le_b rfl) (le_b rfl) d ?_
 refine sq9 ?_
 refine zzj 7 ⟨41, v.cs⟩ ?_
 refine zzj 8 ⟨41, [.bool false, .slice none 0 0, .slice none 0 0]⟩ ?_
 refine zzb 27 [(0, .v (.int .i64 (j : Int))), (2, .v (.pointer (some ⟨b10, 0, none⟩))), (3, .v (.pointer (some ⟨b7, 0, none⟩))), (4, .v (.pointer (some ⟨b9, 0, none⟩))), (5, .v (.pointer (some ⟨b11, 0, none⟩))), (7, .adr 7 0), (8, .adr 8 0)] [(7, ⟨41, v.cs⟩), (8, ⟨41, [.bool false, .slice none 0 0, .slice none 0 0]⟩)] ?_
 refine zzc ?_
 refine zzy [0, 0, 0, 0, 0, 24, 60, 124, 254, 511, 0, 2047, 4095, 8191, 8191, 0, 49151, 131071] [(0, []), (1, []), (2, []), (3, []), (4, []), (5, []), (6, []), (7, []), (10, []), (15, []), (8, []), (9, []), (11, []), (12, []), (13, []), (14, []), (16, []), (17, [])] (by kernel_rfl) (by kernel_rfl) ?_
 refine zzh 12 (.v (v.v)) ty41 zzd ?_
 refine zyl 13 (r.cs) (var_cells h10) ty41 ?_
 refine zyk 14 x.v (var_cell1 h7) ty28 ?_
 refine zyk 15 (.int .i64 (m : Int)) (var_cell1 h9) ty3 ?_
 refine zza 16 (.v (.int .i64 (j : Int))) ?_
 refine zyp 17 (x := .v (.int .i64 (IntKind.i64.wrap ((m : Int) - (j : Int))))) (.v (.int .i64 ((m - j : Nat) : Int))) (eqI (by rw [IntWalk.i64_in _ (by omega)]; omega)) ?_
 have hl11 := hx.len
 obtain ⟨r11, b11, o11, hA11, hc11, hr11⟩ := pol_atN hx (i := m - j) (by omega)
 refine zzz 18 (o11 + (m - j) * 3) (n := x.n) (off := o11) (sz := 3) (i := ((m - j : Nat) : Int)) (by omega) hA11 (by omega) (by omega) sl28 ?_
 refine zyl 19 r11.cs hc11 ty41 ?_
 refine zyl 22 (s.cs) (var_cells h11) ty41 ?_
 refine zzj 9 ⟨41, [.bool false, .slice none 0 0, .slice none 0 0]⟩ ?_
 refine zzf 20 62 [r.v, r11.v] ?_
 intro w12 u12 e12 d12
 have k17 := k_ratMul d12 (hr.ext e12) (hr11.ext e12).raw (by omega) (by omega)
 with_reducible refine Post.mono k17 ?_
 rintro _ u15 g16 ⟨r13, rfl, h14⟩
 refine zzf 21 60 [v.v, r13.v] ?_
 intro w18 u18 e18 d18
 have k23 := k_ratSub d18 (hv.ext (e12.trans (g16.ext.trans e18))).raw (h14.ext e18).raw (by omega) (by omega)
 with_reducible refine Post.mono k23 ?_
 rintro _ u21 g22 ⟨r19, rfl, h20⟩
 refine zzf 23 57 [r19.v, s.v] ?_
 intro w24 u24 e24 d24
 have k29 := k_ratDiv1 d24 (h20.ext e24).raw (hs.ext (e12.trans (g16.ext.trans (e18.trans (g22.ext.trans e24))))) hp (by omega) (by omega)
 with_reducible refine Post.mono k29 ?_
 rintro _ u27 g28 ⟨r25, rfl, h26⟩
 refine zza 11 (.v (.tuple #[r25.v, .int .i64 0])) ?_
 refine zza 24 (.v (r25.v)) ?_
 refine zza 25 (.v (.int .i64 0)) ?_
 refine zzi ⟨41, r25.cs⟩ ty41 ?_
 refine zza 10 (.v (.int .i64 0)) ?_
 refine zzb 27 [(8, .adr 8 0), (9, .adr 9 0)] [(8, ⟨41, [.bool false, .slice none 0 0, .slice none 0 0]⟩), (9, ⟨41, r25.cs⟩)] ?_
 refine sq9 ?_
 refine zzh 26 (.v (r25.v)) ty41 zzd ?_
 refine zzi ⟨41, r25.cs⟩ ty41 ?_
 refine zzb 27 [(8, .adr 8 0)] [(8, ⟨41, r25.cs⟩)] ?_
 refine zzn (ret0 [r25.v] ⟨zzq ty41 zzd, trivial⟩ fun u30 e31 => ?_)
 exact ⟨r25, rfl, RatN.more (K := ((K + (M + K) + 1) + N)) (h26.ext e31) (by omega)⟩
theorem getD_take (l : List Rat) {m i : Nat} (h : i < m) : (l.take m).getD i 0 = l.getD i 0 := by
 rw [List.getD_eq_getElem?_getD, List.getD_eq_getElem?_getD, List.getElem?_take_of_lt h]
set_option maxHeartbeats 2000000 in
theorem k_mapDn2 {u w : World} {x z : Sl} {l : List Rat} {r s : RL} {q p : Rat} {K M N m b10 b7 b9 b11 : Nat} (d : Dat u w) (hx : PolN u x l K) (hr : RatV u r q M) (hs : RatV u s p N) (hz : PolN u z (l.take m) K) (h10 : u.heap[b10]? = some (.cells r.cs.toArray 41 (0, 0))) (h7 : u.heap[b7]? = some (.cells [Value.slice x.a x.n x.c].toArray 28 (0, 0))) (h9 : u.heap[b9]? = some (.cells [Value.int .i64 (m : Int)].toArray 3 (0, 0))) (h11 : u.heap[b11]? = some (.cells s.cs.toArray 41 (0, 0))) (hp : p ≠ 0) (hm : m + 1 = l.length) (hqe : q = l.getD m 0) (hpe : p = ((1 : Int) : Rat) - q * q) (hK : K ≤ 10000000) (hM : M ≤ 10000000) (hN : N ≤ 10000000) (hl : l.length ≤ 1000000) : Calls Tryz.prog 55 #[z.v, .func (.func 63) #[] #[.pointer (some ⟨b10, 0, none⟩), .pointer (some ⟨b7, 0, none⟩), .pointer (some ⟨b9, 0, none⟩), .pointer (some ⟨b11, 0, none⟩)]] w (Post u w fun v u' => NewR u z.n (Nt.dnS l m) (2 * K + M + N + 1) v u') := by
 have hlen := hx.len
 have hlez := hz.len
 rw [List.length_take] at hlez
 have hul := Nt.dnS_len l m
 refine zzl (args := [.slice z.a z.n z.c, .func (.func 63) #[] #[.pointer (some ⟨b10, 0, none⟩), .pointer (some ⟨b7, 0, none⟩), .pointer (some ⟨b9, 0, none⟩), .pointer (some ⟨b11, 0, none⟩)]]) Tryz.func55 rfl Tryz.ntmps55 (rs := [.tmp 4]) Tryz.results55 (le_b rfl) (le_b rfl) d ?_
 refine sq9 ?_
 refine zza 4 (.v (.slice none 0 0)) ?_
 refine zzb 27 [(0, .v z.v), (1, .v (.func (.func 63) #[] #[.pointer (some ⟨b10, 0, none⟩), .pointer (some ⟨b7, 0, none⟩), .pointer (some ⟨b9, 0, none⟩), .pointer (some ⟨b11, 0, none⟩)]))] [] ?_
 refine sq9 ?_
 refine zza 8 (.v z.v) ?_
 refine zza 9 (.v (.int .i64 (z.n : Int))) ?_
 refine sy_make 10 (T := 28) (E := 41) (z := .agg #[.bool false, .slice none 0 0, .slice none 0 0]) (size := 3) (bytes := 56) z.n (rcs (List.replicate z.n rl0)) (by kernel_rfl) (by kernel_rfl) rfl rfl (by omega) (by unfold maxLen; omega) (made_rcs _) ?_
 refine zza 5 (.slc 10 0 z.n z.n) ?_
 refine zzb 27 [(0, .v z.v), (1, .v (.func (.func 63) #[] #[.pointer (some ⟨b10, 0, none⟩), .pointer (some ⟨b7, 0, none⟩), .pointer (some ⟨b9, 0, none⟩), .pointer (some ⟨b11, 0, none⟩)])), (5, .slc 10 0 z.n z.n)] [(10, ⟨41, rcs (List.replicate z.n rl0)⟩)] ?_
 refine zzc ?_
 refine sq9 ?_
 refine zza 11 (.v z.v) ?_
 refine zza 12 (.v (.int .i64 (z.n : Int))) ?_
 refine zza 13 (.v (.int .i64 0)) ?_
 refine zzb 27 [(1, .v (.func (.func 63) #[] #[.pointer (some ⟨b10, 0, none⟩), .pointer (some ⟨b7, 0, none⟩), .pointer (some ⟨b9, 0, none⟩), .pointer (some ⟨b11, 0, none⟩)])), (5, .slc 10 0 z.n z.n), (11, .v z.v), (12, .v (.int .i64 (z.n : Int))), (13, .v (.int .i64 0))] [(10, ⟨41, rcs (List.replicate z.n rl0)⟩)] ?_
 refine zzs ?_
 refine zym (I := fun m11 S' u' => ∃ (i : Nat) (L : List RL), (m11 = z.n - i) ∧ (i ≤ z.n) ∧ (L.length = z.n) ∧ (S' = St.of 27 [(1, .v (.func (.func 63) #[] #[.pointer (some ⟨b10, 0, none⟩), .pointer (some ⟨b7, 0, none⟩), .pointer (some ⟨b9, 0, none⟩), .pointer (some ⟨b11, 0, none⟩)])), (5, .slc 10 0 z.n z.n), (11, .v (.slice z.a z.n z.c)), (12, .v (.int .i64 (z.n : Int))), (13, .v (.int .i64 (i : Int)))] [(10, ⟨41, rcs L⟩)]) ∧ (Ext u u') ∧ (RatsN u' (L.take i) ((Nt.dnS l m).take i) (2 * K + M + N + 1))) (fun m S u1 u2 e h => by obtain ⟨i, L, hm, p0, p1, hS, hE, f0⟩ := h; exact ⟨i, L, hm, p0, p1, hS, hE.trans e, f0.ext e⟩) _ (T := St.of 27 [(1, .v (.func (.func 63) #[] #[.pointer (some ⟨b10, 0, none⟩), .pointer (some ⟨b7, 0, none⟩), .pointer (some ⟨b9, 0, none⟩), .pointer (some ⟨b11, 0, none⟩)])), (5, .slc 10 0 z.n z.n), (11, .v (.slice z.a z.n z.c)), (12, .v (.int .i64 (z.n : Int))), (13, .v (.int .i64 0))] [(10, ⟨41, rcs (List.replicate z.n rl0)⟩)]) (by exact zzu _ _ _) ⟨0, List.replicate z.n rl0, rfl, by omega, by simp, rfl, Ext.refl _, RatsN.tnil _ _ _ _⟩ ?_
 rintro m11 _ u11 ⟨i, L, hm11, hi, hL, rfl, e11, hR⟩
 refine sq9 ?_
 refine zza 14 (.v (.bool (decide ((i : Int) < (z.n : Int))))) ?_
 refine zzb 27 [(1, .v (.func (.func 63) #[] #[.pointer (some ⟨b10, 0, none⟩), .pointer (some ⟨b7, 0, none⟩), .pointer (some ⟨b9, 0, none⟩), .pointer (some ⟨b11, 0, none⟩)])), (5, .slc 10 0 z.n z.n), (11, .v z.v), (12, .v (.int .i64 (z.n : Int))), (13, .v (.int .i64 (i : Int))), (14, .v (.bool (decide ((i : Int) < (z.n : Int)))))] [(10, ⟨41, rcs L⟩)] ?_
 refine zzc ?_
 refine zzt (b := decide ((i : Int) < (z.n : Int))) (by kernel_rfl) (fun hb12 => ?_) (fun hb12 => ?_)
 ·replace hb12 : (decide ((i : Int) < (z.n : Int))) = true := hb12
  have qhb12 := of_decide_eq_true hb12
  refine zzr (zzo ?_)
  refine zzc ?_
  refine zzs ?_
  refine sq9 ?_
  refine zza 15 (.v (.int .i64 (i : Int))) ?_
  have hl13 := (hz.ext e11).len
  obtain ⟨r13, b13, o13, hA13, hc13, hr13⟩ := pol_atN (hz.ext e11) (i := i) (by omega)
  refine zzz 16 (o13 + i * 3) (n := z.n) (off := o13) (sz := 3) (i := (i : Int)) (by omega) hA13 (by omega) (by omega) sl28 ?_
  refine zyl 17 r13.cs hc13 ty41 ?_
  refine zzj 7 ⟨41, [.bool false, .slice none 0 0, .slice none 0 0]⟩ ?_
  refine zza 6 (.v (.int .i64 (i : Int))) ?_
  refine zzi ⟨41, r13.cs⟩ ty41 ?_
  refine zzb 27 [(1, .v (.func (.func 63) #[] #[.pointer (some ⟨b10, 0, none⟩), .pointer (some ⟨b7, 0, none⟩), .pointer (some ⟨b9, 0, none⟩), .pointer (some ⟨b11, 0, none⟩)])), (5, .slc 10 0 z.n z.n), (6, .v (.int .i64 (i : Int))), (7, .adr 7 0), (11, .v z.v), (12, .v (.int .i64 (z.n : Int))), (13, .v (.int .i64 (i : Int)))] [(7, ⟨41, r13.cs⟩), (10, ⟨41, rcs L⟩)] ?_
  refine zze ?_
  refine zza 18 (.slc 10 0 z.n z.n) ?_
  refine zza 19 (.v (.int .i64 (i : Int))) ?_
  refine zza 20 (.v (.func (.func 63) #[] #[.pointer (some ⟨b10, 0, none⟩), .pointer (some ⟨b7, 0, none⟩), .pointer (some ⟨b9, 0, none⟩), .pointer (some ⟨b11, 0, none⟩)])) ?_
  refine zza 21 (.v (.int .i64 (i : Int))) ?_
  refine zzh 22 (.v (r13.v)) ty41 zzd ?_
  refine zzf 23 63 [.int .i64 (i : Int), r13.v, .pointer (some ⟨b10, 0, none⟩), .pointer (some ⟨b7, 0, none⟩), .pointer (some ⟨b9, 0, none⟩), .pointer (some ⟨b11, 0, none⟩)] ?_
  intro w14 u14 e14 d14
  have k19 := k_dn2 (j := i) d14 (hx.ext (e11.trans e14)) (hr.ext (e11.trans e14)) (hs.ext (e11.trans e14)) (hr13.ext e14) ((e11.trans e14).cells h10) ((e11.trans e14).cells h7) ((e11.trans e14).cells h9) ((e11.trans e14).cells h11) hp hm (by omega) (by omega) (by omega) (by omega) (by omega)
  with_reducible refine Post.mono k19 ?_
  rintro _ u17 g18 ⟨r15, rfl, h16⟩
  refine zyv 24 (off' := i * 3) (n := z.n) (off := 0) (sz := 3) (i := (i : Int)) sl28 (by omega) (by omega) (by omega) ?_
  refine zyu (V := ⟨41, rcs L⟩) (off := i * 3) (rcs ((L).set i r15)) ty41 (by rw [zyx]; first|omega|(simp;omega)) (zyw (r := r15) (i := i) (by first|omega|(simp;omega)) rfl) ?_
  refine zzw ?_
  refine zzo ?_
  refine zze ?_
  refine zyp 25 (x := .v (.int .i64 (IntKind.i64.wrap ((i : Int) + 1)))) (.v (.int .i64 ((i + 1 : Nat) : Int))) (eqI (by rw [IntWalk.i64_in _ (by omega)]; omega)) ?_
  refine zza 13 (.v (.int .i64 ((i + 1 : Nat) : Int))) ?_
  refine zzw ?_
  have ht20 : i < (Nt.dnS l m).length := by rw [hul]; omega
  refine ⟨_, ?_, St.of 27 [(1, .v (.func (.func 63) #[] #[.pointer (some ⟨b10, 0, none⟩), .pointer (some ⟨b7, 0, none⟩), .pointer (some ⟨b9, 0, none⟩), .pointer (some ⟨b11, 0, none⟩)])), (5, .slc 10 0 z.n z.n), (11, .v (.slice z.a z.n z.c)), (12, .v (.int .i64 (z.n : Int))), (13, .v (.int .i64 ((i + 1 : Nat) : Int)))] [(10, ⟨41, rcs ((L).set i r15)⟩)], by exact zzu _ _ _, i + 1, (L).set i r15, rfl, by omega, by simpa using hL, rfl, (e11.trans (e14.trans g18.ext)), RatsN.tstep (hR.ext (e14.trans g18.ext)) (by omega) ht20 (RatN.more (K := (2 * K + M + N + 1)) h16 (by omega)) (by rw [Nt.dnS_at l (by omega), hqe, hpe, hqe, getD_take l (by omega)])⟩
  omega
 ·replace hb12 : (decide ((i : Int) < (z.n : Int))) = false := hb12
  have qhb12 := of_decide_eq_false hb12
  refine zyb ?_
  refine zzo ?_
  refine zzc ?_
  refine zyo (r := 5) (t := 10) [5, 10] (by repeat first | exact noAt_of | refine zyc ?_ | refine zye ?_ | refine zyd ?_ | refine zzx ?_ | refine zya ?_) (by kernel_rfl) (by rfl) (by rfl) (by kernel_rfl) (fun b21 u22 e23 hb24 hh25 => ?_)
  have hp26 : PolN u22 ⟨some ⟨b21, 0, none⟩, z.n, z.n⟩ (Nt.dnS l m) (2 * K + M + N + 1) := pol_data1 hh25 (by unfold maxLen; omega) (RatsN.tdone (hR.ext e23) (by omega) (by rw [hul]; omega)) (by omega)
  refine zze ?_
  refine zza 26 (.v (.slice (some ⟨b21, 0, none⟩) z.n z.n)) ?_
  refine zza 4 (.v (.slice (some ⟨b21, 0, none⟩) z.n z.n)) ?_
  refine zzb 27 [(4, .v (.slice (some ⟨b21, 0, none⟩) z.n z.n))] [] ?_
  refine zzn (ret0 [.slice (some ⟨b21, 0, none⟩) z.n z.n] ⟨zzp, trivial⟩ fun u27 e28 => ?_)
  exact ⟨b21, L, rfl, hb24, e28.cells hh25, by omega, (RatsN.tdone (hR.ext (e23.trans e28)) (by omega) (by rw [hul]; omega))⟩
theorem k_stWrong {u w : World} {x : Sl} {l : List Rat} {K : Nat} (d : Dat u w) (hx : PolV u x l K) (hn : l.getD 0 0 ≠ 0) (hK : K ≤ 10000000) (hl : l.length ≤ 40) : Calls Tryz.prog 54 #[x.v] w (Post u w fun v _ => v = .int .i64 0) := by
 have hlen := hx.len
 have hpos : 0 < l.length := by
  cases l with
  | nil => exact absurd rfl hn
  | cons a l => simp
 refine zzl (args := [.slice x.a x.n x.c]) Tryz.func54 rfl Tryz.ntmps54 (rs := [.tmp 2]) Tryz.results54 (le_b rfl) (le_b rfl) d ?_
 refine sq9 ?_
 refine zza 2 (.v (.int .i64 0)) ?_
 refine zzb 16 [(0, .v x.v)] [] ?_
 refine zzc ?_
 refine sq9 ?_
 refine zza 3 (.v x.v) ?_
 refine zzf 4 130 [x.v] ?_
 intro w11 u11 e11 d11
 have k14 := k_poDegree d11 (hx.ext e11) (by omega) (by first|omega|(simp;omega) | (refine Nat.le_trans (Nt.zzg _) ?_; first|omega|(simp;omega)) | (refine Nat.le_trans (Nt.zzg _) ?_; simp only [List.length_map]; refine Nat.le_trans (Nt.zzg _) ?_; first|omega|(simp;omega)))
 with_reducible refine Post.mono k14 ?_
 rintro _ u12 g13 rfl
 refine zza 5 (.v (.bool (decide ((48 : Int) < (((Nt.trimQ l).length : Int) - 1))))) ?_
 refine zzb 16 [(0, .v x.v), (5, .v (.bool (decide ((48 : Int) < (((Nt.trimQ l).length : Int) - 1)))))] [] ?_
 refine zzt (b := decide ((48 : Int) < (((Nt.trimQ l).length : Int) - 1))) (by kernel_rfl) (fun hb => ?_) (fun hb => ?_)
 ·exact absurd hb (by rw [show (decide ((48 : Int) < (((Nt.trimQ l).length : Int) - 1))) = false from decide_eq_false (by have h9 := Nt.zzg l; omega)]; decide)
 ·clear hb
  refine zzr (zzo ?_)
  refine zzc ?_
  refine sq9 ?_
  refine zza 6 (.v x.v) ?_
  refine zza 7 (.v (.int .i64 (x.n : Int))) ?_
  refine zza 8 (.v (.bool ((x.n : Int) == 0))) ?_
  refine zyp 9 (x := .v (.bool ((x.n : Int) == 0))) (.v (.bool false)) (by rw [show ((x.n : Int) == 0) = false from (by simp; omega)]) ?_
  refine zza 10 (.v x.v) ?_ (hw := w1 3 false 9)
  have hl16 := (hx.ext (e11.trans g13.ext)).len
  obtain ⟨r16, b16, o16, hA16, hc16, hr16⟩ := pol_at (hx.ext (e11.trans g13.ext)) (i := 0) (by omega)
  refine zzz 11 (o16 + 0 * 3) (n := x.n) (off := o16) (sz := 3) (i := 0) (by omega) hA16 (by omega) (by omega) sl29 ?_ (hw := w1 3 false 9)
  refine zyl 12 r16.cs hc16 ty41 ?_ (hw := w1 3 false 9)
  refine zzf 13 131 [r16.v] ?_ (hw := w1 3 false 9)
  intro w17 u17 e17 d17
  have k20 := k_ratSign d17 (hr16.ext e17)
  with_reducible refine Post.mono k20 ?_
  rintro _ u18 g19 rfl
  refine zza 14 (.v (.bool ((Nt.sgQ (l.getD 0 0)) == 0))) ?_ (hw := w1 3 false 9)
  refine zza 15 (.v (.bool ((Nt.sgQ (l.getD 0 0)) == 0))) ?_
  refine zzb 16 [(15, .v (.bool ((Nt.sgQ (l.getD 0 0)) == 0)))] [] ?_
  refine zzt (b := (Nt.sgQ (l.getD 0 0)) == 0) (by kernel_rfl) (fun hb => ?_) (fun hb => ?_)
  ·exact absurd hb (by rw [show ((Nt.sgQ (l.getD 0 0)) == 0) = false from (by rw [Nt.sgQ_eq]; exact decide_eq_false hn)]; decide)
  ·clear hb
   refine zzr (zzo ?_)
   refine sq9 ?_
   refine zza 2 (.v (.int .i64 0)) ?_
   refine zzb 16 [(2, .v (.int .i64 0))] [] ?_
   refine zzn (ret0 [.int .i64 0] ⟨zzp, trivial⟩ fun u21 e22 => ?_)
   rfl
set_option maxHeartbeats 4000000 in
theorem k_reflect {u w : World} {x : Sl} {l : List Rat} {D : Nat → List Rat} {K n S : Nat} (d : Dat u w) (hx : PolV u x l K) (hD : Nt.Down (Nt.trimQ l) D n S) (hK : K ≤ 10000) (hS : S ≤ 10000) (hl : l.length ≤ 40) : Calls Tryz.prog 12 #[x.v] w (Post u w fun v u' => ∃ y : Sl, v = .tuple #[y.v, .int .i64 0] ∧ PolN u' y (Nt.refL D n) S) := by
 have hlen := hx.len
 have hDl := hD.len
 have htl := Nt.zzg l
 refine zzl (args := [.slice x.a x.n x.c]) Tryz.func12 rfl Tryz.ntmps12 (rs := [.tmp 2, .tmp 3]) Tryz.results12 (le_b rfl) (le_b rfl) d ?_
 refine sq9 ?_
 refine zza 2 (.v (.slice none 0 0)) ?_
 refine zza 3 (.v (.int .i64 0)) ?_
 refine zzb 61 [(0, .v x.v)] [] ?_
 refine zzc ?_
 refine sq9 ?_
 refine zza 12 (.v x.v) ?_
 refine zzf 13 54 [x.v] ?_
 intro w11 u11 e11 d11
 have k14 := k_stWrong d11 (hx.ext e11) (fun h => hD.nz ((Nt.trim_co l 0).trans h)) (by omega) (by omega)
 with_reducible refine Post.mono k14 ?_
 rintro _ u12 g13 rfl
 refine zza 4 (.v (.int .i64 0)) ?_
 refine zzb 61 [(0, .v x.v), (4, .v (.int .i64 0))] [] ?_
 refine sq9 ?_
 refine zza 14 (.v (.int .i64 0)) ?_
 refine zza 15 (.v (.bool false)) ?_
 refine zzb 61 [(0, .v x.v), (4, .v (.int .i64 0)), (15, .v (.bool false))] [] ?_
 refine zyr (by kernel_rfl) ?_
 refine zzr (zzo ?_)
 refine sq9 ?_
 refine zza 17 (.v x.v) ?_
 refine zzf 18 53 [x.v] ?_
 intro w15 u15 e15 d15
 have k20 := k_poTrim d15 (hx.ext (e11.trans (g13.ext.trans e15))) (by omega) (by first | omega | (simp; done) | (simp; omega))
 with_reducible refine Post.mono k20 ?_
 rintro _ u18 g19 ⟨y16, rfl, h17⟩
 have hly16 := h17.len
 refine zza 5 (.v y16.v) ?_
 refine zzb 61 [(5, .v y16.v)] [] ?_
 refine sq9 ?_
 refine zza 19 (.v y16.v) ?_
 have hl21 := h17.len
 obtain ⟨r21, b21, o21, hA21, hc21, hr21⟩ := pol_atN h17 (i := 0) (by omega)
 refine zzz 20 (o21 + 0 * 3) (n := y16.n) (off := o21) (sz := 3) (i := 0) (by omega) hA21 (by omega) (by omega) sl29 ?_
 refine zyl 21 r21.cs hc21 ty41 ?_
 refine zzj 6 ⟨41, [.bool false, .slice none 0 0, .slice none 0 0]⟩ ?_
 refine zzi ⟨41, r21.cs⟩ ty41 ?_
 refine zzb 61 [(5, .v y16.v), (6, .adr 6 0)] [(6, ⟨41, r21.cs⟩)] ?_
 refine zzc ?_
 refine sw_pubA (r := 6) (t := 6) [6] (by repeat first | exact noAt_of | refine zyc ?_ | refine zye ?_ | refine zyd ?_ | refine zzx ?_ | refine zya ?_) (by kernel_rfl) (by rfl) (by rfl) (by kernel_rfl) (fun b22 u23 e24 hb25 hv26 hh27 => ?_)
 refine zze ?_
 refine zza 22 (.v y16.v) ?_
 refine sy_fun 23 [.pointer (some ⟨b22, 0, none⟩)] ?_
 refine zzf 24 55 [y16.v, .func (.func 56) #[] #[.pointer (some ⟨b22, 0, none⟩)]] ?_
 intro w28 u28 e28 d28
 have k37 := k_mapDn1 d28 (h17.ext (e24.trans e28)) (hr21.ext (e24.trans e28)).raw (e28.cells hh27) hD.nz (by omega) (by omega) (by omega)
 with_reducible refine Post.mono k37 ?_
 rintro _ u35 g36 ⟨b29, L30, rfl, hb31, hh32, hL33, hR34⟩
 have hp38 : PolN u35 (⟨some ⟨b29, 0, none⟩, y16.n, y16.n⟩ : Sl) (Nt.divS (Nt.trimQ l) ((Nt.trimQ l).getD 0 0)) (K + K) := pol_data1 hh32 (by unfold maxLen; omega) hR34 (by omega)
 refine zzj 7 ⟨28, [.slice none 0 0]⟩ ?_
 refine zzi ⟨28, [.slice (some ⟨b29, 0, none⟩) y16.n y16.n]⟩ ty28 ?_
 refine zzb 61 [(7, .adr 7 0)] [(7, ⟨28, [.slice (some ⟨b29, 0, none⟩) y16.n y16.n]⟩)] ?_
 refine sq9 ?_
 refine zzh 25 (.v (.slice (some ⟨b29, 0, none⟩) y16.n y16.n)) ty28 zzk ?_
 refine zza 26 (.v (.int .i64 (y16.n : Int))) ?_
 refine zyp 27 (x := .v (.int .i64 (IntKind.i64.wrap ((y16.n : Int) - 1)))) (.v (.int .i64 (n : Int))) (eqI (by rw [IntWalk.i64_in _ (by omega)]; omega)) ?_
 refine sy_make 28 (T := 28) (E := 41) (z := .agg #[.bool false, .slice none 0 0, .slice none 0 0]) (size := 3) (bytes := 56) n (rcs (List.replicate n rl0)) (by kernel_rfl) (by kernel_rfl) rfl rfl (by omega) (by unfold maxLen; omega) (made_rcs _) ?_
 refine zza 8 (.slc 28 0 n n) ?_
 refine zzb 61 [(7, .adr 7 0), (8, .slc 28 0 n n)] [(7, ⟨28, [.slice (some ⟨b29, 0, none⟩) y16.n y16.n]⟩), (28, ⟨41, rcs (List.replicate n rl0)⟩)] ?_
 refine zzc ?_
 refine sq9 ?_
 refine zzh 29 (.v (.slice (some ⟨b29, 0, none⟩) y16.n y16.n)) ty28 zzk ?_
 refine zza 30 (.v (.int .i64 (y16.n : Int))) ?_
 refine zyp 31 (x := .v (.int .i64 (IntKind.i64.wrap ((y16.n : Int) - 1)))) (.v (.int .i64 (n : Int))) (eqI (by rw [IntWalk.i64_in _ (by omega)]; omega)) ?_
 refine zzj 9 ⟨3, [.int .i64 0]⟩ ?_
 refine zzi ⟨3, [.int .i64 (n : Int)]⟩ ty3 ?_
 refine zzb 61 [(7, .adr 7 0), (8, .slc 28 0 n n), (9, .adr 9 0)] [(7, ⟨28, [.slice (some ⟨b29, 0, none⟩) y16.n y16.n]⟩), (9, ⟨3, [.int .i64 (n : Int)]⟩), (28, ⟨41, rcs (List.replicate n rl0)⟩)] ?_
 refine zzs ?_
 have hn9 : n ≤ 40 := by have h9 := Nt.zzg l; omega
 refine zym (I := fun m39 S' u' => ∃ (m : Nat) (c : Sl) (L : List RL), (m39 = m) ∧ (m ≤ n) ∧ (L.length = n) ∧ (S' = St.of 61 [(7, .adr 7 0), (8, .slc 28 0 n n), (9, .adr 9 0)] [(7, ⟨28, [.slice c.a c.n c.c]⟩), (9, ⟨3, [.int .i64 (m : Int)]⟩), (28, ⟨41, rcs L⟩)]) ∧ (Ext u35 u') ∧ (PolN u' c (D m) S) ∧ (RatsN u' (L.drop m) ((Nt.refL D n).drop m) S)) (fun m S u1 u2 e h => by obtain ⟨m, c, L, hm, p0, p1, hS, hE, f0, f1⟩ := h; exact ⟨m, c, L, hm, p0, p1, hS, hE.trans e, f0.ext e, f1.ext e⟩) _ (T := St.of 61 [(7, .adr 7 0), (8, .slc 28 0 n n), (9, .adr 9 0)] [(7, ⟨28, [.slice (some ⟨b29, 0, none⟩) y16.n y16.n]⟩), (9, ⟨3, [.int .i64 (n : Int)]⟩), (28, ⟨41, rcs (List.replicate n rl0)⟩)]) (by exact zzu _ _ _) ⟨n, (⟨some ⟨b29, 0, none⟩, y16.n, y16.n⟩ : Sl), List.replicate n rl0, rfl, Nat.le_refl _, (by simp), rfl, Ext.refl _, (hD.fit (Nat.le_refl _) (by rw [hD.top]; exact hp38)), (RatsN.dnil (by simp) (Nt.refL_len D n))⟩ ?_
 rintro m39 _ u39 ⟨m, c, L, hm39, hm9, hL, rfl, e39, hC, hR⟩
 have hcl := hC.len
 have hdl := hD.dlen m hm9
 refine zzc ?_
 refine sq9 ?_
 refine zzh 32 (.v (.int .i64 (m : Int))) ty3 zzk ?_
 refine zza 33 (.v (.bool (decide ((1 : Int) ≤ (m : Int))))) ?_
 refine zzb 61 [(7, .adr 7 0), (8, .slc 28 0 n n), (9, .adr 9 0), (33, .v (.bool (decide ((1 : Int) ≤ (m : Int)))))] [(7, ⟨28, [c.v]⟩), (9, ⟨3, [.int .i64 (m : Int)]⟩), (28, ⟨41, rcs L⟩)] ?_
 refine zzt (b := decide ((1 : Int) ≤ (m : Int))) (by kernel_rfl) (fun hb40 => ?_) (fun hb40 => ?_)
 ·replace hb40 : (decide ((1 : Int) ≤ (m : Int))) = true := hb40
  have qhb40 := of_decide_eq_true hb40
  refine zzr (zzo ?_)
  refine zzc ?_
  refine zzs ?_
  refine sq9 ?_
  refine zzh 36 (.v c.v) ty28 zzk ?_
  refine zzh 37 (.v (.int .i64 (m : Int))) ty3 zzk ?_
  have hl41 := hC.len
  obtain ⟨r41, b41, o41, hA41, hc41, hr41⟩ := pol_atN hC (i := m) (by omega)
  refine zzz 38 (o41 + m * 3) (n := c.n) (off := o41) (sz := 3) (i := (m : Int)) (by omega) hA41 (by omega) (by omega) sl28 ?_
  refine zyl 39 r41.cs hc41 ty41 ?_
  refine zzf 40 58 [r41.v] ?_
  intro w42 u42 e42 d42
  have k47 := k_ratTrim d42 (hr41.ext e42).raw (by omega)
  with_reducible refine Post.mono k47 ?_
  rintro _ u45 g46 ⟨r43, rfl, h44⟩
  refine zzj 10 ⟨41, [.bool false, .slice none 0 0, .slice none 0 0]⟩ ?_
  refine zzi ⟨41, r43.cs⟩ ty41 ?_
  refine zzb 61 [(7, .adr 7 0), (8, .slc 28 0 n n), (9, .adr 9 0), (10, .adr 10 0)] [(7, ⟨28, [c.v]⟩), (9, ⟨3, [.int .i64 (m : Int)]⟩), (10, ⟨41, r43.cs⟩), (28, ⟨41, rcs L⟩)] ?_
  refine zzc ?_
  refine sq9 ?_
  refine zzh 41 (.v (r43.v)) ty41 zzd ?_
  refine zzf 42 59 [r43.v] ?_
  intro w48 u48 e48 d48
  have k51 := k_small d48 (h44.ext e48).raw (by omega)
  with_reducible refine Post.mono k51 ?_
  rintro _ u49 g50 rfl
  refine zza 43 (.v (.bool (!(Nt.smallQ ((D m).getD m 0))))) ?_
  refine zzb 61 [(7, .adr 7 0), (8, .slc 28 0 n n), (9, .adr 9 0), (10, .adr 10 0), (43, .v (.bool (!(Nt.smallQ ((D m).getD m 0)))))] [(7, ⟨28, [c.v]⟩), (9, ⟨3, [.int .i64 (m : Int)]⟩), (10, ⟨41, r43.cs⟩), (28, ⟨41, rcs L⟩)] ?_
  refine zzt (b := !(Nt.smallQ ((D m).getD m 0))) (by kernel_rfl) (fun hb => ?_) (fun hb => ?_)
  ·exact absurd hb (by rw [show (!(Nt.smallQ ((D m).getD m 0))) = false from (by rw [hD.small m (by omega) (by omega)]; rfl)]; decide)
  ·clear hb
   refine zzr (zzo ?_)
   refine sq9 ?_
   refine zza 44 (.slc 28 0 n n) ?_
   refine zzh 45 (.v (.int .i64 (m : Int))) ty3 zzk ?_
   refine zyp 46 (x := .v (.int .i64 (IntKind.i64.wrap ((m : Int) - 1)))) (.v (.int .i64 ((m - 1 : Nat) : Int))) (eqI (by rw [IntWalk.i64_in _ (by omega)]; omega)) ?_
   refine zzh 47 (.v (r43.v)) ty41 zzd ?_
   refine zyv 48 (off' := (m - 1) * 3) (n := n) (off := 0) (sz := 3) (i := ((m - 1 : Nat) : Int)) sl28 (by omega) (by omega) (by omega) ?_
   refine zyu (V := ⟨41, rcs L⟩) (off := (m - 1) * 3) (rcs ((L).set (m - 1) r43)) ty41 (by rw [zyx]; first|omega|(simp;omega)) (zyw (r := r43) (i := m - 1) (by first|omega|(simp;omega)) rfl) ?_
   refine zzb 61 [(7, .adr 7 0), (8, .slc 28 0 n n), (9, .adr 9 0), (10, .adr 10 0)] [(7, ⟨28, [c.v]⟩), (9, ⟨3, [.int .i64 (m : Int)]⟩), (10, ⟨41, r43.cs⟩), (28, ⟨41, rcs ((L).set (m - 1) r43)⟩)] ?_
   refine zzc ?_
   refine zzy [0, 0, 0, 7, 15, 0, 63] [(1, []), (2, []), (5, []), (0, []), (3, []), (4, []), (6, [])] (by kernel_rfl) (by kernel_rfl) ?_
   refine zzh 50 (.v (r43.v)) ty41 zzd ?_
   refine zzh 51 (.v (r43.v)) ty41 zzd ?_
   refine zzj 11 ⟨41, [.bool false, .slice none 0 0, .slice none 0 0]⟩ ?_
   refine zzf 49 61 [.int .i64 1] ?_
   intro w52 u52 e52 d52
   have k57 := k_ratOf d52 (z := 1) (by omega) (by omega)
   with_reducible refine Post.mono k57 ?_
   rintro _ u55 g56 ⟨r53, rfl, h54⟩
   refine zzf 52 62 [r43.v, r43.v] ?_
   intro w58 u58 e58 d58
   have k63 := k_ratMul d58 (h44.ext (e48.trans (g50.ext.trans (e52.trans (g56.ext.trans e58))))).raw (h44.ext (e48.trans (g50.ext.trans (e52.trans (g56.ext.trans e58))))).raw (by omega) (by omega)
   with_reducible refine Post.mono k63 ?_
   rintro _ u61 g62 ⟨r59, rfl, h60⟩
   refine zzf 53 60 [r53.v, r59.v] ?_
   intro w64 u64 e64 d64
   have k69 := k_ratSub d64 (h54.ext (e58.trans (g62.ext.trans e64))).raw (h60.ext e64).raw (by omega) (by omega)
   with_reducible refine Post.mono k69 ?_
   rintro _ u67 g68 ⟨r65, rfl, h66⟩
   refine zzi ⟨41, r65.cs⟩ ty41 ?_
   refine zzb 61 [(7, .adr 7 0), (8, .slc 28 0 n n), (9, .adr 9 0), (10, .adr 10 0), (11, .adr 11 0)] [(7, ⟨28, [c.v]⟩), (9, ⟨3, [.int .i64 (m : Int)]⟩), (10, ⟨41, r43.cs⟩), (11, ⟨41, r65.cs⟩), (28, ⟨41, rcs ((L).set (m - 1) r43)⟩)] ?_
   refine sw_pubA (r := 10) (t := 10) [10] (by repeat first | exact noAt_of | refine zyc ?_ | refine zye ?_ | refine zyd ?_ | refine zzx ?_ | refine zya ?_) (by kernel_rfl) (by rfl) (by rfl) (by kernel_rfl) (fun b70 u71 e72 hb73 hv74 hh75 => ?_)
   refine sw_pubA (r := 9) (t := 9) [9] (by repeat first | exact noAt_of | refine zyc ?_ | refine zye ?_ | refine zyd ?_ | refine zzx ?_ | refine zya ?_) (by kernel_rfl) (by rfl) (by rfl) (by kernel_rfl) (fun b76 u77 e78 hb79 hv80 hh81 => ?_)
   refine sw_pubA (r := 11) (t := 11) [11] (by repeat first | exact noAt_of | refine zyc ?_ | refine zye ?_ | refine zyd ?_ | refine zzx ?_ | refine zya ?_) (by kernel_rfl) (by rfl) (by rfl) (by kernel_rfl) (fun b82 u83 e84 hb85 hv86 hh87 => ?_)
   refine sw_pubA (r := 7) (t := 7) [7] (by repeat first | exact noAt_of | refine zyc ?_ | refine zye ?_ | refine zyd ?_ | refine zzx ?_ | refine zya ?_) (by kernel_rfl) (by rfl) (by rfl) (by kernel_rfl) (fun b88 u89 e90 hb91 hv92 hh93 => ?_)
   refine sw_cut 5 ?_
   refine zyk 54 c.v (var_cell1 hh93) ty28 ?_
   refine zyk 55 (.int .i64 (m : Int)) (var_cell1 ((e84.trans e90).cells hh81)) ty3 ?_
   have hl94 := (hC.ext (e42.trans (g46.ext.trans (e48.trans (g50.ext.trans (e52.trans (g56.ext.trans (e58.trans (g62.ext.trans (e64.trans (g68.ext.trans (e72.trans (e78.trans (e84.trans e90)))))))))))))).len
   have hc94 := (hC.ext (e42.trans (g46.ext.trans (e48.trans (g50.ext.trans (e52.trans (g56.ext.trans (e58.trans (g62.ext.trans (e64.trans (g68.ext.trans (e72.trans (e78.trans (e84.trans e90)))))))))))))).cap
   refine sy_front 56 (n := c.n) (c := c.c) m sl28 rfl (by omega) ?_
   refine sy_fun 57 [.pointer (some ⟨b70, 0, none⟩), .pointer (some ⟨b88, 0, none⟩), .pointer (some ⟨b76, 0, none⟩), .pointer (some ⟨b82, 0, none⟩)] ?_
   refine zzf 58 55 [.slice c.a m c.c, .func (.func 63) #[] #[.pointer (some ⟨b70, 0, none⟩), .pointer (some ⟨b88, 0, none⟩), .pointer (some ⟨b76, 0, none⟩), .pointer (some ⟨b82, 0, none⟩)]] ?_
   intro w95 u95 e95 d95
   have k104 := k_mapDn2 (m := m) d95 (hC.ext (e42.trans (g46.ext.trans (e48.trans (g50.ext.trans (e52.trans (g56.ext.trans (e58.trans (g62.ext.trans (e64.trans (g68.ext.trans (e72.trans (e78.trans (e84.trans (e90.trans e95))))))))))))))) (h44.ext (e48.trans (g50.ext.trans (e52.trans (g56.ext.trans (e58.trans (g62.ext.trans (e64.trans (g68.ext.trans (e72.trans (e78.trans (e84.trans (e90.trans e95))))))))))))).raw (h66.ext (e72.trans (e78.trans (e84.trans (e90.trans e95))))).raw ((pol_takeN (hC.ext (e42.trans (g46.ext.trans (e48.trans (g50.ext.trans (e52.trans (g56.ext.trans (e58.trans (g62.ext.trans (e64.trans (g68.ext.trans (e72.trans (e78.trans (e84.trans e90)))))))))))))) (by omega)).ext e95) ((e78.trans (e84.trans (e90.trans e95))).cells hh75) (e95.cells hh93) ((e84.trans (e90.trans e95)).cells hh81) ((e90.trans e95).cells hh87) (Nt.small_nz (hD.small m (by omega) (by omega))) (by rw [hD.dlen m (by omega)]) rfl rfl (by omega) (by omega) (by omega) (by rw [hD.dlen m (by omega)]; omega)
   with_reducible refine Post.mono k104 ?_
   rintro _ u102 g103 ⟨b96, L97, rfl, hb98, hh99, hL100, hR101⟩
   refine zzw ?_
   refine sl_adoptA (r := 7) (k := 7) (by rfl) ((e95.trans g103.ext).cells hh93) hb91 (by kernel_rfl) (fun u105 eB106 => ?_)
   have hp107 : PolN u105 (⟨some ⟨b96, 0, none⟩, m, m⟩ : Sl) (Nt.dnS (D m) m) (2 * S + S + (2 + (S + S) + 1) + 1) := newR_adopt hb98 ((Ext.refl _).cells hh99) hL100 (hR101.ext (Ext.refl _)) (by unfold maxLen; omega) (e95.cells hh93) ((e95.trans g103.ext).cells hh93) (by simp) eB106
   refine sl_sym ?_
   refine zzi ⟨28, [.slice (some ⟨b96, 0, none⟩) m m]⟩ ty28 ?_
   refine zzw ?_
   refine zzo ?_
   refine zzc ?_
   refine sq9 ?_
   refine zyk 59 (.int .i64 (m : Int)) (var_cell1 ((e84.trans (ExtB.old2 eB106 (e90.trans (e95.trans g103.ext)) hv92)).cells hh81)) ty3 ?_
   refine zzb 61 [(7, .adr 7 0), (8, .slc 28 0 n n), (59, .v (.int .i64 (m : Int)))] [(7, ⟨28, [.slice (some ⟨b96, 0, none⟩) m m]⟩), (28, ⟨41, rcs ((L).set (m - 1) r43)⟩)] ?_
   refine zze ?_
   refine zzj 9 ⟨3, [.int .i64 0]⟩ ?_
   refine zzi ⟨3, [.int .i64 (m : Int)]⟩ ty3 ?_
   refine zzb 61 [(7, .adr 7 0), (8, .slc 28 0 n n), (9, .adr 9 0)] [(7, ⟨28, [.slice (some ⟨b96, 0, none⟩) m m]⟩), (9, ⟨3, [.int .i64 (m : Int)]⟩), (28, ⟨41, rcs ((L).set (m - 1) r43)⟩)] ?_
   refine zze ?_
   refine zzh 34 (.v (.int .i64 (m : Int))) ty3 zzk ?_
   refine zyp 35 (x := .v (.int .i64 (IntKind.i64.wrap ((m : Int) - 1)))) (.v (.int .i64 ((m - 1 : Nat) : Int))) (eqI (by rw [IntWalk.i64_in _ (by omega)]; omega)) ?_
   refine zzi ⟨3, [.int .i64 ((m - 1 : Nat) : Int)]⟩ ty3 ?_
   refine zzw ?_
   refine ⟨_, ?_, St.of 61 [(7, .adr 7 0), (8, .slc 28 0 n n), (9, .adr 9 0)] [(7, ⟨28, [.slice (some ⟨b96, 0, none⟩) m m]⟩), (9, ⟨3, [.int .i64 ((m - 1 : Nat) : Int)]⟩), (28, ⟨41, rcs ((L).set (m - 1) r43)⟩)], by exact zzu _ _ _, m - 1, (⟨some ⟨b96, 0, none⟩, m, m⟩ : Sl), (L).set (m - 1) r43, rfl, by omega, by simpa using hL, rfl, (e39.trans (e42.trans (g46.ext.trans (e48.trans (g50.ext.trans (e52.trans (g56.ext.trans (e58.trans (g62.ext.trans (e64.trans (g68.ext.trans (e72.trans (e78.trans (e84.trans (ExtB.old2 eB106 (e90.trans (e95.trans g103.ext)) hv92))))))))))))))), (hD.fit (by omega) (by rw [hD.step (m - 1) (by omega), show m - 1 + 1 = m by omega]; exact hp107)), (RatsN.dstep (hR.ext (e42.trans (g46.ext.trans (e48.trans (g50.ext.trans (e52.trans (g56.ext.trans (e58.trans (g62.ext.trans (e64.trans (g68.ext.trans (e72.trans (e78.trans (e84.trans (ExtB.old2 eB106 (e90.trans (e95.trans g103.ext)) hv92))))))))))))))) (by omega) (by omega) (by rw [Nt.refL_len]; exact hL) (by rw [Nt.refL_at D (by omega), show m - 1 + 1 = m by omega]; exact (h44.ext (e48.trans (g50.ext.trans (e52.trans (g56.ext.trans (e58.trans (g62.ext.trans (e64.trans (g68.ext.trans (e72.trans (e78.trans (e84.trans (ExtB.old2 eB106 (e90.trans (e95.trans g103.ext)) hv92)))))))))))))))⟩
   omega
 ·replace hb40 : (decide ((1 : Int) ≤ (m : Int))) = false := hb40
  have qhb40 := of_decide_eq_false hb40
  refine zyb ?_
  refine zzo ?_
  refine zzc ?_
  have hm0 : m = 0 := by omega
  refine zyo (r := 8) (t := 28) [8, 28] (by repeat first | exact noAt_of | refine zyc ?_ | refine zye ?_ | refine zyd ?_ | refine zzx ?_ | refine zya ?_) (by kernel_rfl) (by rfl) (by rfl) (by kernel_rfl) (fun b108 u109 e110 hb111 hh112 => ?_)
  have hp113 : PolN u109 ⟨some ⟨b108, 0, none⟩, n, n⟩ (Nt.refL D n) S := pol_data1 hh112 (by unfold maxLen; omega) ((RatsN.dall hR hm0).ext e110) (by omega)
  refine zze ?_
  refine zza 60 (.v (.slice (some ⟨b108, 0, none⟩) n n)) ?_
  refine zza 2 (.v (.slice (some ⟨b108, 0, none⟩) n n)) ?_
  refine zza 3 (.v (.int .i64 0)) ?_
  refine zzb 61 [(2, .v (.slice (some ⟨b108, 0, none⟩) n n)), (3, .v (.int .i64 0))] [] ?_
  refine zzn (ret0 [.slice (some ⟨b108, 0, none⟩) n n, .int .i64 0] ⟨zzp, zzp, trivial⟩ fun u114 e115 => ?_)
  exact ⟨(⟨some ⟨b108, 0, none⟩, n, n⟩ : Sl), rfl, (hp113.ext e115)⟩
theorem k_withinN {u w : World} {n m : Int} (d : Dat u w) (hm : 1 ≤ m) (hm2 : m ≤ 4611686018427387904) (hn0 : -9223372036854775808 ≤ n) (hn1 : n ≤ 9223372036854775807) : Calls Tryz.prog 45 #[.int .i64 n, .int .i64 m] w (Post u w fun v _ => ∃ z : Nat, v = .int .i64 (z : Int) ∧ (z : Int) < m) :=
 Post.mono (k_within d hm hm2 hn0 hn1) fun v u' _ h => by
  have h1 := Int.emod_nonneg n (show m ≠ 0 by omega)
  have h2 := Int.emod_lt_of_pos n (show 0 < m by omega)
  exact ⟨(n % m).toNat, by rw [h, Int.toNat_of_nonneg h1], by omega⟩
set_option maxHeartbeats 2000000 in
theorem k_belowN {u w : World} {x : Sl} {l : List Int} {b : Int} {n : Nat} (d : Dat u w) (hx : SlR .i64 u x.a x.n x.c l) (hb : ∀ z ∈ l, -9223372036854775808 ≤ z ∧ z ≤ 9223372036854775807) (hb0 : 0 ≤ b) (hb1 : b ≤ 16777216) (hn : n ≤ 1000) : Calls Tryz.prog 33 #[.int .i64 b, x.v, .int .i64 (n : Int)] w (Post u w fun v u' => ∃ (y : Sl) (m : List Int), v = y.v ∧ m.length = n ∧ SlR .i64 u' y.a y.n y.c m ∧ (∀ z ∈ m, -b ≤ z ∧ z ≤ b)) := by
 refine zzl (args := [.int .i64 b, .slice x.a x.n x.c, .int .i64 (n : Int)]) Tryz.func33 rfl Tryz.ntmps33 (rs := [.tmp 6]) Tryz.results33 (le_b rfl) (le_b rfl) d ?_
 refine sq9 ?_
 refine zza 6 (.v (.slice none 0 0)) ?_
 refine zzb 29 [(0, .v (.int .i64 b)), (1, .v x.v), (2, .v (.int .i64 (n : Int)))] [] ?_
 refine sq9 ?_
 refine zza 7 (.v (.slice none 0 0)) ?_
 refine zzb 29 [(0, .v (.int .i64 b)), (1, .v x.v), (2, .v (.int .i64 (n : Int))), (7, .v (.slice none 0 0))] [] ?_
 refine zzc ?_
 refine sq9 ?_
 refine zza 8 (.v (.int .i64 0)) ?_
 refine zzb 29 [(0, .v (.int .i64 b)), (1, .v x.v), (2, .v (.int .i64 (n : Int))), (7, .v (.slice none 0 0)), (8, .v (.int .i64 0))] [] ?_
 refine zzs ?_
 refine zym (I := fun m11 S' u' => (m11 = n ∧ S' = St.of 29 [(0, .v (.int .i64 b)), (1, .v (.slice x.a x.n x.c)), (2, .v (.int .i64 (n : Int))), (7, .v (.slice none 0 0)), (8, .v (.int .i64 0))] [] ∧ Ext u u') ∨ (∃ (i : Nat) (L : List Int) (cs : List Value) (cp : Nat), m11 = n - i ∧ i ≤ n ∧ 0 < i ∧ L.length = i ∧ cs.length = cp * 1 ∧ i ≤ cp ∧ cp ≤ maxLen ∧ cs.take (i * 1) = L.map (Value.int .i64) ∧ S' = St.of 29 [(0, .v (.int .i64 b)), (1, .v (.slice x.a x.n x.c)), (2, .v (.int .i64 (n : Int))), (7, .slc 27 0 i cp), (8, .v (.int .i64 (i : Int)))] [(27, ⟨3, cs⟩)] ∧ Ext u u' ∧ (∀ z ∈ L, -b ≤ z ∧ z ≤ b))) (fun m S u1 u2 e h => by rcases h with ⟨a, b, c⟩ | ⟨a1, a2, a3, a4, b1, b2, b3, b4, b5, b6, b7, b8, b9, b10, b11⟩; exact .inl ⟨a, b, c.trans e⟩; exact .inr ⟨a1, a2, a3, a4, b1, b2, b3, b4, b5, b6, b7, b8, b9, b10.trans e, b11⟩) _ (T := St.of 29 [(0, .v (.int .i64 b)), (1, .v (.slice x.a x.n x.c)), (2, .v (.int .i64 (n : Int))), (7, .v (.slice none 0 0)), (8, .v (.int .i64 0))] []) (by exact zzu _ _ _) (.inl ⟨rfl, rfl, Ext.refl _⟩) ?_
 rintro m11 _ u11 (⟨hm11, rfl, e11⟩ | ⟨i, L, cs, cp, hm11, hi, hp, hL, hc, hle, hmx, ht, rfl, e11, hP⟩)
 ·change SW _ _ _ _ (St.of 29 [(0, .v (.int .i64 b)), (1, .v (.slice x.a x.n x.c)), (2, .v (.int .i64 (n : Int))), (7, .v (.slice none 0 0)), (8, .v (.int .i64 0))] []) _ _
  refine zzc ?_
  refine sq9 ?_
  refine zza 9 (.v (.int .i64 0)) ?_
  refine zza 10 (.v (.int .i64 (n : Int))) ?_
  refine zza 11 (.v (.bool (decide ((0 : Int) < (n : Int))))) ?_
  refine zzb 29 [(0, .v (.int .i64 b)), (1, .v x.v), (2, .v (.int .i64 (n : Int))), (7, .v (.slice none 0 0)), (8, .v (.int .i64 0)), (11, .v (.bool (decide ((0 : Int) < (n : Int)))))] [] ?_
  refine zzt (b := decide ((0 : Int) < (n : Int))) (by kernel_rfl) (fun hb12 => ?_) (fun hb12 => ?_)
  ·replace hb12 : (decide ((0 : Int) < (n : Int))) = true := hb12
   have qhb12 := of_decide_eq_true hb12
   refine zzr (zzo ?_)
   refine zzc ?_
   refine zzs ?_
   refine zze ?_
   refine zza 14 (.v (.slice none 0 0)) ?_
   refine zza 15 (.v x.v) ?_
   refine zza 16 (.v (.int .i64 0)) ?_
   refine zzf 17 105 [x.v, .int .i64 0] ?_
   intro w13 u13 e13 d13
   have k16 := (show Calls _ _ #[_, .int .i64 0] _ _ from k_wat (x := x) (i := 0) d13 (hx.ext (e11.trans e13)) hb (by omega))
   with_reducible refine Post.mono k16 ?_
   rintro _ u14 g15 rfl
   have hz17 := ints_bd hb (by omega) 0
   refine zza 18 (.v (.int .i64 b)) ?_
   obtain ⟨z18, hz18, ha18, hb18⟩ := wrap64_ex ((l.getD 0 0) + b)
   refine zyp 19 (x := .v (.int .i64 (IntKind.i64.wrap ((l.getD 0 0) + b)))) (.v (.int .i64 z18)) (eqI hz18) ?_
   refine zza 20 (.v (.int .i64 b)) ?_
   refine zyp 21 (x := .v (.int .i64 (IntKind.i64.wrap ((2 : Int) * b)))) (.v (.int .i64 ((2 : Int) * b))) (by rw [IntWalk.i64_in _ (by omega)]) ?_
   refine zyp 22 (x := .v (.int .i64 (IntKind.i64.wrap (((2 : Int) * b) + 1)))) (.v (.int .i64 (((2 : Int) * b) + 1))) (by rw [IntWalk.i64_in _ (by omega)]) ?_
   refine zzf 23 45 [.int .i64 z18, .int .i64 (((2 : Int) * b) + 1)] ?_
   intro w19 u19 e19 d19
   have k25 := (show Calls _ _ #[.int .i64 z18, .int .i64 (((2 : Int) * b) + 1)] _ _ from k_withinB (n := z18) (m := ((2 : Int) * b) + 1) d19 (by omega) (by omega) (by omega) (by omega))
   with_reducible refine Post.mono k25 ?_
   rintro _ u23 g24 ⟨z20, rfl, h21, h22⟩
   refine zza 24 (.v (.int .i64 b)) ?_
   obtain ⟨g26, hg26⟩ : ∃ g, z20 - b = g := ⟨_, rfl⟩
   refine zyp 25 (x := .v (.int .i64 (IntKind.i64.wrap (z20 - b)))) (.v (.int .i64 g26)) (eqI (by rw [IntWalk.i64_in _ (by omega)]; exact hg26)) ?_
   refine sy_data 26 ⟨3, [.int .i64 g26]⟩ 1 (fun b27 u28 e29 h30 => ?_)
   refine sy_app0 27 (T := 22) (E := 3) (z := .int .i64 0) (size := 1) (bytes := 8) (b := b27) (off := 0) (m := 1) [.int .i64 g26] (by kernel_rfl) (by kernel_rfl) (by kernel_rfl) (by decide) rfl (lit_news ((Ext.refl _).cells h30)) (int_one _) (by decide) (by decide) (by decide) ?_
   intro c31 cs31 ha31 hb31 hc31 hd31
   have hd31r : cs31.take (1 * 1) = ([g26]).map (Value.int .i64) := hd31
   refine zza 7 (.slc 27 0 1 c31) ?_
   refine zzw ?_
   refine zzo ?_
   refine zze ?_
   refine zza 12 (.v (.int .i64 0)) ?_
   refine zza 13 (.v (.int .i64 1)) ?_
   refine zza 8 (.v (.int .i64 1)) ?_
   refine zzw ?_
   refine ⟨_, ?_, St.of 29 [(0, .v (.int .i64 b)), (1, .v (.slice x.a x.n x.c)), (2, .v (.int .i64 (n : Int))), (7, .slc 27 0 1 c31), (8, .v (.int .i64 1))] [(27, ⟨3, cs31⟩)], by exact zzu _ _ _, .inr ⟨1, [g26], cs31, c31, rfl, by omega, by omega, by simp, hc31, by omega, hb31, hd31r, rfl, (e11.trans (e13.trans (g15.ext.trans (e19.trans (g24.ext.trans e29))))), (all_snoc (L := []) all_nil (by omega) (by omega))⟩⟩
   omega
  ·replace hb12 : (decide ((0 : Int) < (n : Int))) = false := hb12
   have qhb12 := of_decide_eq_false hb12
   refine zyb ?_
   refine zzo ?_
   refine zzc ?_
   have hp32 : SlR .i64 u11 none 0 0 [] := ints_nil
   refine zze ?_
   refine zza 28 (.v (.slice none 0 0)) ?_
   refine zza 6 (.v (.slice none 0 0)) ?_
   refine zzb 29 [(6, .v (.slice none 0 0))] [] ?_
   refine zzn (ret0 [.slice none 0 0] ⟨zzp, trivial⟩ fun u33 e34 => ?_)
   exact ⟨⟨none, 0, 0⟩, [], rfl, (by first|omega|(simp;omega)), (hp32.ext e34), all_nil⟩
 ·change SW _ _ _ _ (St.of 29 [(0, .v (.int .i64 b)), (1, .v (.slice x.a x.n x.c)), (2, .v (.int .i64 (n : Int))), (7, .slc 27 0 i cp), (8, .v (.int .i64 (i : Int)))] [(27, ⟨3, cs⟩)]) _ _
  refine zzc ?_
  refine sq9 ?_
  refine zza 9 (.v (.int .i64 (i : Int))) ?_
  refine zza 10 (.v (.int .i64 (n : Int))) ?_
  refine zza 11 (.v (.bool (decide ((i : Int) < (n : Int))))) ?_
  refine zzb 29 [(0, .v (.int .i64 b)), (1, .v x.v), (2, .v (.int .i64 (n : Int))), (7, .slc 27 0 i cp), (8, .v (.int .i64 (i : Int))), (11, .v (.bool (decide ((i : Int) < (n : Int)))))] [(27, ⟨3, cs⟩)] ?_
  refine zzt (b := decide ((i : Int) < (n : Int))) (by kernel_rfl) (fun hb35 => ?_) (fun hb35 => ?_)
  ·replace hb35 : (decide ((i : Int) < (n : Int))) = true := hb35
   have qhb35 := of_decide_eq_true hb35
   refine zzr (zzo ?_)
   refine zzc ?_
   refine zzs ?_
   refine zze ?_
   refine zza 14 (.slc 27 0 i cp) ?_
   refine zza 15 (.v x.v) ?_
   refine zza 16 (.v (.int .i64 (i : Int))) ?_
   refine zzf 17 105 [x.v, .int .i64 (i : Int)] ?_
   intro w36 u36 e36 d36
   have k39 := (show Calls _ _ #[_, .int .i64 (i : Int)] _ _ from k_wat (x := x) (i := i) d36 (hx.ext (e11.trans e36)) hb (by omega))
   with_reducible refine Post.mono k39 ?_
   rintro _ u37 g38 rfl
   have hz40 := ints_bd hb (by omega) i
   refine zza 18 (.v (.int .i64 b)) ?_
   obtain ⟨z41, hz41, ha41, hb41⟩ := wrap64_ex ((l.getD i 0) + b)
   refine zyp 19 (x := .v (.int .i64 (IntKind.i64.wrap ((l.getD i 0) + b)))) (.v (.int .i64 z41)) (eqI hz41) ?_
   refine zza 20 (.v (.int .i64 b)) ?_
   refine zyp 21 (x := .v (.int .i64 (IntKind.i64.wrap ((2 : Int) * b)))) (.v (.int .i64 ((2 : Int) * b))) (by rw [IntWalk.i64_in _ (by omega)]) ?_
   refine zyp 22 (x := .v (.int .i64 (IntKind.i64.wrap (((2 : Int) * b) + 1)))) (.v (.int .i64 (((2 : Int) * b) + 1))) (by rw [IntWalk.i64_in _ (by omega)]) ?_
   refine zzf 23 45 [.int .i64 z41, .int .i64 (((2 : Int) * b) + 1)] ?_
   intro w42 u42 e42 d42
   have k48 := (show Calls _ _ #[.int .i64 z41, .int .i64 (((2 : Int) * b) + 1)] _ _ from k_withinB (n := z41) (m := ((2 : Int) * b) + 1) d42 (by omega) (by omega) (by omega) (by omega))
   with_reducible refine Post.mono k48 ?_
   rintro _ u46 g47 ⟨z43, rfl, h44, h45⟩
   refine zza 24 (.v (.int .i64 b)) ?_
   obtain ⟨g49, hg49⟩ : ∃ g, z43 - b = g := ⟨_, rfl⟩
   refine zyp 25 (x := .v (.int .i64 (IntKind.i64.wrap (z43 - b)))) (.v (.int .i64 g49)) (eqI (by rw [IntWalk.i64_in _ (by omega)]; exact hg49)) ?_
   refine sy_data 26 ⟨3, [.int .i64 g49]⟩ 1 (fun b50 u51 e52 h53 => ?_)
   refine sy_app1 27 (T := 22) (E := 3) (z := .int .i64 0) (size := 1) (bytes := 8) (b := b50) (off := 0) (m := 1) (n := i) (cap := cp) (t := 27) (cs0 := cs) [7, 14, 27] [.int .i64 g49] (by kernel_rfl) (by kernel_rfl) (by kernel_rfl) (by decide) rfl (lit_news ((Ext.refl _).cells h53)) (int_one _) (by decide) (by unfold maxLen; omega) (by omega) (by omega) (by omega) (by omega) (by repeat first | exact noAt_of | refine zyc ?_ | refine zye ?_ | refine zyd ?_ | refine zzx ?_ | refine zya ?_) ?_
   intro c54 cs54 ha54 hb54 hc54 hd54
   have hd54r : cs54.take ((i + 1) * 1) = (L ++ [g49]).map (Value.int .i64) := by rw [hd54, ht, List.map_append]; rfl
   refine zza 7 (.slc 27 0 (i + 1) c54) ?_
   refine zzw ?_
   refine zzo ?_
   refine zze ?_
   refine zza 12 (.v (.int .i64 (i : Int))) ?_
   refine zyp 13 (x := .v (.int .i64 (IntKind.i64.wrap ((i : Int) + 1)))) (.v (.int .i64 ((i + 1 : Nat) : Int))) (eqI (by rw [IntWalk.i64_in _ (by omega)]; omega)) ?_
   refine zza 8 (.v (.int .i64 ((i + 1 : Nat) : Int))) ?_
   refine zzw ?_
   refine ⟨_, ?_, St.of 29 [(0, .v (.int .i64 b)), (1, .v (.slice x.a x.n x.c)), (2, .v (.int .i64 (n : Int))), (7, .slc 27 0 (i + 1) c54), (8, .v (.int .i64 ((i + 1 : Nat) : Int)))] [(27, ⟨3, cs54⟩)], by exact zzu _ _ _, .inr ⟨i + 1, L ++ [g49], cs54, c54, rfl, by omega, by omega, by simp; omega, hc54, by omega, hb54, hd54r, rfl, (e11.trans (e36.trans (g38.ext.trans (e42.trans (g47.ext.trans e52))))), (all_snoc (L := L) hP (by omega) (by omega))⟩⟩
   omega
  ·replace hb35 : (decide ((i : Int) < (n : Int))) = false := hb35
   have qhb35 := of_decide_eq_false hb35
   refine zyb ?_
   refine zzo ?_
   refine zzc ?_
   refine zyo (r := 7) (t := 27) [7, 27] (by repeat first | exact noAt_of | refine zyc ?_ | refine zye ?_ | refine zyd ?_ | refine zzx ?_ | refine zya ?_) (by kernel_rfl) (by rfl) (by rfl) (by kernel_rfl) (fun b56 u57 e58 hb59 hh60 => ?_)
   have hp55 : SlR .i64 u57 (some ⟨b56, 0, none⟩) i cp L := ints_data hh60 (by have h9 := ht; rw [Nat.mul_one] at h9; exact h9) (by have h9 := hc; rw [Nat.mul_one] at h9; exact h9) hle hmx
   refine zze ?_
   refine zza 28 (.v (.slice (some ⟨b56, 0, none⟩) i cp)) ?_
   refine zza 6 (.v (.slice (some ⟨b56, 0, none⟩) i cp)) ?_
   refine zzb 29 [(6, .v (.slice (some ⟨b56, 0, none⟩) i cp))] [] ?_
   refine zzn (ret0 [.slice (some ⟨b56, 0, none⟩) i cp] ⟨zzp, trivial⟩ fun u61 e62 => ?_)
   exact ⟨(⟨some ⟨b56, 0, none⟩, i, cp⟩ : Sl), L, rfl, (by first|omega|(simp;omega)), (hp55.ext e62), hP⟩
set_option maxHeartbeats 1000000 in
theorem k_words {u w : World} {x y : Sl} {l m : List Int} {W : WL} (d : Dat u w) (hx : SlR .i64 u x.a x.n x.c l) (hb : ∀ z ∈ l, -9223372036854775808 ≤ z ∧ z ≤ 9223372036854775807) (hy : SlR .i64 u y.a y.n y.c m) (hc : ∀ z ∈ m, -9223372036854775808 ≤ z ∧ z ≤ 9223372036854775807) (hW : WdOK W) : Calls Tryz.prog 10 #[x.v, y.v, W.v] w (Post u w fun v u' => ∃ (y z : Sl) (p q : List Int), v = .tuple #[y.v, z.v] ∧ p.length ≤ 3 ∧ q.length = p.length + 1 ∧ SlR .i64 u' y.a y.n y.c p ∧ SlR .i64 u' z.a z.n z.c q ∧ (∀ z ∈ p, -(Nt.p2i W.f - 1) ≤ z ∧ z ≤ (Nt.p2i W.f - 1)) ∧ (∀ z ∈ q, -(Nt.p2i (W.b - 1) - 1) ≤ z ∧ z ≤ (Nt.p2i (W.b - 1) - 1))) := by
 obtain ⟨hw1, hw2, hw3, hw4, hw5, hw6, hw7, hw8⟩ := id hW
 have hu0 := Nt.p2i_pos W.f
 have hu1 := Nt.p2i_24 (n := W.f) (by omega)
 have hu2 := Nt.p2i_mono (a := W.f) (b := W.b - 1) (by omega)
 have hu3 := Nt.p2i_24 (n := W.b - 1) (by omega)
 have hlx : l.length = x.n := hx.1
 have hmx := Nat.le_trans hx.2.1 hx.2.2.1
 unfold maxLen at hmx
 refine zzl (args := [.slice x.a x.n x.c, .slice y.a y.n y.c, .agg #[.int .i64 W.b, .int .i64 W.f, .int .i64 W.r, .int .i64 W.o]]) Tryz.func10 rfl Tryz.ntmps10 (rs := [.tmp 6, .tmp 7]) Tryz.results10 (le_b rfl) (le_b rfl) d ?_
 refine sq9 ?_
 refine zzj 5 ⟨24, [.int .i64 W.b, .int .i64 W.f, .int .i64 W.r, .int .i64 W.o]⟩ ?_
 refine zza 6 (.v (.slice none 0 0)) ?_
 refine zza 7 (.v (.slice none 0 0)) ?_
 refine zzb 28 [(0, .v x.v), (1, .v y.v), (5, .adr 5 0)] [(5, ⟨24, [.int .i64 W.b, .int .i64 W.f, .int .i64 W.r, .int .i64 W.o]⟩)] ?_
 refine sq9 ?_
 refine zza 9 (.v x.v) ?_
 refine zza 10 (.v (.int .i64 (x.n : Int))) ?_
 refine zzf 11 45 [.int .i64 (x.n : Int), .int .i64 4] ?_
 intro w11 u11 e11 d11
 have k16 := (show Calls _ _ #[.int .i64 (x.n : Int), .int .i64 4] _ _ from k_withinN (n := (x.n : Int)) (m := 4) d11 (by omega) (by omega) (by omega) (by omega))
 with_reducible refine Post.mono k16 ?_
 rintro _ u14 g15 ⟨z12, rfl, h13⟩
 refine zza 8 (.v (.int .i64 (z12 : Int))) ?_
 refine zzb 28 [(0, .v x.v), (1, .v y.v), (5, .adr 5 0), (8, .v (.int .i64 (z12 : Int)))] [(5, ⟨24, [.int .i64 W.b, .int .i64 W.f, .int .i64 W.r, .int .i64 W.o]⟩)] ?_
 refine zzc ?_
 refine zzy [0, 1, 3, 0, 0, 31, 0, 64, 192, 448, 960, 1984, 0, 0, 8192, 32767, 65535, 131071] [(0, []), (3, []), (4, []), (6, []), (7, []), (8, []), (9, []), (10, []), (11, []), (12, []), (13, []), (14, []), (1, []), (2, []), (5, []), (15, []), (16, []), (17, [])] (by kernel_rfl) (by kernel_rfl) ?_
 refine zzh 12 (.v (.agg #[.int .i64 W.b, .int .i64 W.f, .int .i64 W.r, .int .i64 W.o])) ty24 zzd ?_
 refine zza 15 (.v x.v) ?_
 refine zza 16 (.v (.int .i64 (z12 : Int))) ?_
 refine zza 18 (.adr 5 0) ?_
 refine zzh 19 (.v (.int .i64 W.b)) ty3 zzk ?_
 refine zyp 20 (x := .v (.int .i64 (IntKind.i64.wrap (W.b - 1)))) (.v (.int .i64 (W.b - 1))) (by rw [IntWalk.i64_in _ (by omega)]) ?_
 refine sy_conv 21 (W.b - 1) (fun w => by kernel_rfl) (IntWalk.u64_in _ (by omega)) ?_
 refine sy_shl 22 (k := .i64) (s := W.b - 1) (Nt.p2i (W.b - 1)) (by omega) (by show _ ≤ (64 : Int); omega) (shl_one (by omega) (by omega)) ?_
 refine zyp 23 (x := .v (.int .i64 (IntKind.i64.wrap ((Nt.p2i (W.b - 1)) - 1)))) (.v (.int .i64 ((Nt.p2i (W.b - 1)) - 1))) (by rw [IntWalk.i64_in _ (by omega)]) ?_
 refine zza 24 (.v y.v) ?_
 refine zza 25 (.v (.int .i64 (z12 : Int))) ?_
 refine zyp 26 (x := .v (.int .i64 (IntKind.i64.wrap ((z12 : Int) + 1)))) (.v (.int .i64 ((z12 + 1 : Nat) : Int))) (eqI (by rw [IntWalk.i64_in _ (by omega)]; omega)) ?_
 refine zzf 13 46 [.agg #[.int .i64 W.b, .int .i64 W.f, .int .i64 W.r, .int .i64 W.o]] ?_
 intro w17 u17 e17 d17
 have k20 := k_wunit (W := W) d17 hW
 with_reducible refine Post.mono k20 ?_
 rintro _ u18 g19 rfl
 refine zyp 14 (x := .v (.int .i64 (IntKind.i64.wrap ((Nt.p2i W.f) - 1)))) (.v (.int .i64 ((Nt.p2i W.f) - 1))) (by rw [IntWalk.i64_in _ (by omega)]) ?_
 refine zzf 17 33 [.int .i64 ((Nt.p2i W.f) - 1), x.v, .int .i64 (z12 : Int)] ?_
 intro w21 u21 e21 d21
 have k25 := (show Calls _ _ #[.int .i64 ((Nt.p2i W.f) - 1), .slice x.a x.n x.c, .int .i64 (z12 : Int)] _ _ from k_belowN (x := x) (b := (Nt.p2i W.f) - 1) (n := z12) d21 (hx.ext (e11.trans (g15.ext.trans (e17.trans (g19.ext.trans e21))))) hb (by omega) (by omega) (by omega))
 with_reducible refine Post.mono k25 ?_
 rintro _ u23 g24 ⟨y22, m22, rfl, hln22, hs22, hal22⟩
 have hly22 : m22.length = y22.n := hs22.1
 refine zzf 27 33 [.int .i64 ((Nt.p2i (W.b - 1)) - 1), y.v, .int .i64 ((z12 + 1 : Nat) : Int)] ?_
 intro w26 u26 e26 d26
 have k30 := (show Calls _ _ #[.int .i64 ((Nt.p2i (W.b - 1)) - 1), .slice y.a y.n y.c, .int .i64 ((z12 + 1 : Nat) : Int)] _ _ from k_belowN (x := y) (b := (Nt.p2i (W.b - 1)) - 1) (n := z12 + 1) d26 (hy.ext (e11.trans (g15.ext.trans (e17.trans (g19.ext.trans (e21.trans (g24.ext.trans e26))))))) hc (by omega) (by omega) (by omega))
 with_reducible refine Post.mono k30 ?_
 rintro _ u28 g29 ⟨y27, m27, rfl, hln27, hs27, hal27⟩
 have hly27 : m27.length = y27.n := hs27.1
 refine zza 6 (.v y22.v) ?_
 refine zza 7 (.v y27.v) ?_
 refine zzb 28 [(6, .v y22.v), (7, .v y27.v)] [] ?_
 refine zzn (ret0 [.slice y22.a y22.n y22.c, .slice y27.a y27.n y27.c] ⟨zzp, zzp, trivial⟩ fun u31 e32 => ?_)
 exact ⟨y22, y27, m22, m27, rfl, by omega, by omega, (hs22.ext (e26.trans (g29.ext.trans e32))), (hs27.ext e32), hal22, hal27⟩
set_option maxHeartbeats 2000000 in
theorem k_latWrongN {u w : World} {x y : Sl} {l m : List Int} {W : WL} (d : Dat u w) (hW : WdOK W) (hx : SlR .i64 u x.a x.n x.c l) (hb : (∀ z ∈ l, -(Nt.p2i W.f - 1) ≤ z ∧ z ≤ (Nt.p2i W.f - 1))) (hy : SlR .i64 u y.a y.n y.c m) (hc : (∀ z ∈ m, -(Nt.p2i (W.b - 1) - 1) ≤ z ∧ z ≤ (Nt.p2i (W.b - 1) - 1))) (hlm : m.length = l.length + 1) (h6 : l.length ≤ 6) : Calls Tryz.prog 47 #[x.v, y.v, W.v] w (Post u w fun v u' => v = .int .i64 0) := by
 obtain ⟨hw1, hw2, hw3, hw4, hw5, hw6, hw7, hw8⟩ := id hW
 have hu0 := Nt.p2i_pos W.f
 have hu1 := Nt.p2i_24 (n := W.f) (by omega)
 have hu2 := Nt.p2i_mono (a := W.f) (b := W.b - 1) (by omega)
 have hu3 := Nt.p2i_24 (n := W.b - 1) (by omega)
 have hlx : l.length = x.n := hx.1
 have hly : m.length = y.n := hy.1
 refine zzl (args := [.slice x.a x.n x.c, .slice y.a y.n y.c, .agg #[.int .i64 W.b, .int .i64 W.f, .int .i64 W.r, .int .i64 W.o]]) Tryz.func47 rfl Tryz.ntmps47 (rs := [.tmp 6]) Tryz.results47 (le_b rfl) (le_b rfl) d ?_
 refine sq9 ?_
 refine zzj 5 ⟨24, [.int .i64 W.b, .int .i64 W.f, .int .i64 W.r, .int .i64 W.o]⟩ ?_
 refine zza 6 (.v (.int .i64 0)) ?_
 refine zzb 71 [(0, .v x.v), (1, .v y.v), (5, .adr 5 0)] [(5, ⟨24, [.int .i64 W.b, .int .i64 W.f, .int .i64 W.r, .int .i64 W.o]⟩)] ?_
 refine zzc ?_
 refine sq9 ?_
 refine zzh 13 (.v (.agg #[.int .i64 W.b, .int .i64 W.f, .int .i64 W.r, .int .i64 W.o])) ty24 zzd ?_
 refine zzf 14 75 [.agg #[.int .i64 W.b, .int .i64 W.f, .int .i64 W.r, .int .i64 W.o]] ?_
 intro w11 u11 e11 d11
 have k14 := k_fxValid (W := W) d11 hW
 with_reducible refine Post.mono k14 ?_
 rintro _ u12 g13 rfl
 refine zza 15 (.v (.bool false)) ?_
 refine zzb 71 [(0, .v x.v), (1, .v y.v), (5, .adr 5 0), (15, .v (.bool false))] [(5, ⟨24, [.int .i64 W.b, .int .i64 W.f, .int .i64 W.r, .int .i64 W.o]⟩)] ?_
 refine zyr (by kernel_rfl) ?_
 refine zzr (zzo ?_)
 refine zzc ?_
 refine sq9 ?_
 refine zza 16 (.v x.v) ?_
 refine zza 17 (.v (.int .i64 (x.n : Int))) ?_
 refine zza 18 (.v (.bool (decide ((8 : Int) < (x.n : Int))))) ?_
 refine zyp 19 (x := .v (.bool (decide ((8 : Int) < (x.n : Int))))) (.v (.bool false)) (by rw [show (decide ((8 : Int) < (x.n : Int))) = false from decide_eq_false (by omega)]) ?_
 refine zza 20 (.v y.v) ?_ (hw := w1 3 false 19)
 refine zza 21 (.v (.int .i64 (y.n : Int))) ?_ (hw := w1 3 false 19)
 refine zza 22 (.v x.v) ?_ (hw := w1 3 false 19)
 refine zza 23 (.v (.int .i64 (x.n : Int))) ?_ (hw := w1 3 false 19)
 refine zyp 24 (x := .v (.int .i64 (IntKind.i64.wrap ((x.n : Int) + 1)))) (.v (.int .i64 ((x.n + 1 : Nat) : Int))) (eqI (by rw [IntWalk.i64_in _ (by omega)]; omega)) ?_ (hw := w1 3 false 19)
 refine zza 25 (.v (.bool ((y.n : Int) != ((x.n + 1 : Nat) : Int)))) ?_ (hw := w1 3 false 19)
 refine zza 26 (.v (.bool ((y.n : Int) != ((x.n + 1 : Nat) : Int)))) ?_
 refine zzb 71 [(0, .v x.v), (1, .v y.v), (5, .adr 5 0), (26, .v (.bool ((y.n : Int) != ((x.n + 1 : Nat) : Int))))] [(5, ⟨24, [.int .i64 W.b, .int .i64 W.f, .int .i64 W.r, .int .i64 W.o]⟩)] ?_
 refine zzt (b := (y.n : Int) != ((x.n + 1 : Nat) : Int)) (by kernel_rfl) (fun hb => ?_) (fun hb => ?_)
 ·exact absurd hb (by rw [show ((y.n : Int) != ((x.n + 1 : Nat) : Int)) = false from (by simp; omega)]; decide)
 ·clear hb
  refine zzr (zzo ?_)
  refine zzc ?_
  refine sq9 ?_
  refine zza 27 (.v y.v) ?_
  refine zza 28 (.v (.int .i64 (y.n : Int))) ?_
  refine zza 29 (.v (.int .i64 0)) ?_
  refine zzb 71 [(0, .v x.v), (5, .adr 5 0), (27, .v y.v), (28, .v (.int .i64 (y.n : Int))), (29, .v (.int .i64 0))] [(5, ⟨24, [.int .i64 W.b, .int .i64 W.f, .int .i64 W.r, .int .i64 W.o]⟩)] ?_
  refine zzs ?_
  refine zym (I := fun m16 S' u' => ∃ (i : Nat), (m16 = y.n - i) ∧ (i ≤ y.n) ∧ (S' = St.of 71 [(0, .v (.slice x.a x.n x.c)), (5, .adr 5 0), (27, .v (.slice y.a y.n y.c)), (28, .v (.int .i64 (y.n : Int))), (29, .v (.int .i64 (i : Int)))] [(5, ⟨24, [.int .i64 W.b, .int .i64 W.f, .int .i64 W.r, .int .i64 W.o]⟩)]) ∧ (Ext u12 u')) (fun m S u1 u2 e h => by obtain ⟨i, hm, p0, hS, hE⟩ := h; exact ⟨i, hm, p0, hS, hE.trans e⟩) _ (T := St.of 71 [(0, .v (.slice x.a x.n x.c)), (5, .adr 5 0), (27, .v (.slice y.a y.n y.c)), (28, .v (.int .i64 (y.n : Int))), (29, .v (.int .i64 0))] [(5, ⟨24, [.int .i64 W.b, .int .i64 W.f, .int .i64 W.r, .int .i64 W.o]⟩)]) (by exact zzu _ _ _) ⟨0, rfl, Nat.zero_le _, rfl, Ext.refl _⟩ ?_
  rintro m16 _ u16 ⟨i, hm16, hi, rfl, e16⟩
  refine sq9 ?_
  refine zza 30 (.v (.bool (decide ((i : Int) < (y.n : Int))))) ?_
  refine zzb 71 [(0, .v x.v), (5, .adr 5 0), (27, .v y.v), (28, .v (.int .i64 (y.n : Int))), (29, .v (.int .i64 (i : Int))), (30, .v (.bool (decide ((i : Int) < (y.n : Int)))))] [(5, ⟨24, [.int .i64 W.b, .int .i64 W.f, .int .i64 W.r, .int .i64 W.o]⟩)] ?_
  refine zzc ?_
  refine zzt (b := decide ((i : Int) < (y.n : Int))) (by kernel_rfl) (fun hb17 => ?_) (fun hb17 => ?_)
  ·replace hb17 : (decide ((i : Int) < (y.n : Int))) = true := hb17
   have qhb17 := of_decide_eq_true hb17
   refine zzr (zzo ?_)
   refine zzc ?_
   refine zzs ?_
   refine sq9 ?_
   have hl18 := ((hy.ext (e11.trans (g13.ext.trans e16)))).1
   obtain ⟨b18, o18, hA18, hc18⟩ := ints_at (hy.ext (e11.trans (g13.ext.trans e16))) (i := i) (by omega)
   have hz18 := ints_bd hc (by omega) i
   refine zzz 31 (o18 + i * 1) (n := y.n) (off := o18) (sz := 1) (i := (i : Int)) (by omega) hA18 (by omega) (by omega) sl22 ?_
   refine zyk 32 (.int .i64 (m.getD i 0)) hc18 ty3 ?_
   refine zza 8 (.v (.int .i64 (m.getD i 0))) ?_
   refine zzb 71 [(0, .v x.v), (5, .adr 5 0), (8, .v (.int .i64 (m.getD i 0))), (27, .v y.v), (28, .v (.int .i64 (y.n : Int))), (29, .v (.int .i64 (i : Int)))] [(5, ⟨24, [.int .i64 W.b, .int .i64 W.f, .int .i64 W.r, .int .i64 W.o]⟩)] ?_
   refine sq9 ?_
   refine zzh 33 (.v (.agg #[.int .i64 W.b, .int .i64 W.f, .int .i64 W.r, .int .i64 W.o])) ty24 zzd ?_
   refine zza 34 (.v (.int .i64 (m.getD i 0))) ?_
   refine zzf 35 126 [.agg #[.int .i64 W.b, .int .i64 W.f, .int .i64 W.r, .int .i64 W.o], .int .i64 (m.getD i 0)] ?_
   intro w19 u19 e19 d19
   have k22 := k_fxFits (W := W) (z := (m.getD i 0)) d19 hW (by omega) (by omega)
   with_reducible refine Post.mono k22 ?_
   rintro _ u20 g21 rfl
   refine zza 36 (.v (.bool false)) ?_
   refine zzb 71 [(0, .v x.v), (5, .adr 5 0), (27, .v y.v), (28, .v (.int .i64 (y.n : Int))), (29, .v (.int .i64 (i : Int))), (36, .v (.bool false))] [(5, ⟨24, [.int .i64 W.b, .int .i64 W.f, .int .i64 W.r, .int .i64 W.o]⟩)] ?_
   refine zyr (by kernel_rfl) ?_
   refine zzr (zzo ?_)
   refine zze ?_
   refine zyp 37 (x := .v (.int .i64 (IntKind.i64.wrap ((i : Int) + 1)))) (.v (.int .i64 ((i + 1 : Nat) : Int))) (eqI (by rw [IntWalk.i64_in _ (by omega)]; omega)) ?_
   refine zza 29 (.v (.int .i64 ((i + 1 : Nat) : Int))) ?_
   refine zzw ?_
   refine ⟨_, ?_, St.of 71 [(0, .v (.slice x.a x.n x.c)), (5, .adr 5 0), (27, .v (.slice y.a y.n y.c)), (28, .v (.int .i64 (y.n : Int))), (29, .v (.int .i64 ((i + 1 : Nat) : Int)))] [(5, ⟨24, [.int .i64 W.b, .int .i64 W.f, .int .i64 W.r, .int .i64 W.o]⟩)], by exact zzu _ _ _, i + 1, rfl, by omega, rfl, (e16.trans (e19.trans g21.ext))⟩
   omega
  ·replace hb17 : (decide ((i : Int) < (y.n : Int))) = false := hb17
   have qhb17 := of_decide_eq_false hb17
   refine zyb ?_
   refine zzo ?_
   refine zzc ?_
   refine sq9 ?_
   refine zza 38 (.v x.v) ?_
   refine zza 39 (.v (.int .i64 (x.n : Int))) ?_
   refine zza 40 (.v (.int .i64 0)) ?_
   refine zzb 71 [(0, .v x.v), (5, .adr 5 0), (38, .v x.v), (39, .v (.int .i64 (x.n : Int))), (40, .v (.int .i64 0))] [(5, ⟨24, [.int .i64 W.b, .int .i64 W.f, .int .i64 W.r, .int .i64 W.o]⟩)] ?_
   refine zzs ?_
   refine zym (I := fun m23 S' u' => ∃ (i : Nat), (m23 = x.n - i) ∧ (i ≤ x.n) ∧ (S' = St.of 71 [(0, .v (.slice x.a x.n x.c)), (5, .adr 5 0), (38, .v (.slice x.a x.n x.c)), (39, .v (.int .i64 (x.n : Int))), (40, .v (.int .i64 (i : Int)))] [(5, ⟨24, [.int .i64 W.b, .int .i64 W.f, .int .i64 W.r, .int .i64 W.o]⟩)]) ∧ (Ext u16 u')) (fun m S u1 u2 e h => by obtain ⟨i, hm, p0, hS, hE⟩ := h; exact ⟨i, hm, p0, hS, hE.trans e⟩) _ (T := St.of 71 [(0, .v (.slice x.a x.n x.c)), (5, .adr 5 0), (38, .v (.slice x.a x.n x.c)), (39, .v (.int .i64 (x.n : Int))), (40, .v (.int .i64 0))] [(5, ⟨24, [.int .i64 W.b, .int .i64 W.f, .int .i64 W.r, .int .i64 W.o]⟩)]) (by exact zzu _ _ _) ⟨0, rfl, Nat.zero_le _, rfl, Ext.refl _⟩ ?_
   rintro m23 _ u23 ⟨i, hm23, hi, rfl, e23⟩
   refine sq9 ?_
   refine zza 41 (.v (.bool (decide ((i : Int) < (x.n : Int))))) ?_
   refine zzb 71 [(0, .v x.v), (5, .adr 5 0), (38, .v x.v), (39, .v (.int .i64 (x.n : Int))), (40, .v (.int .i64 (i : Int))), (41, .v (.bool (decide ((i : Int) < (x.n : Int)))))] [(5, ⟨24, [.int .i64 W.b, .int .i64 W.f, .int .i64 W.r, .int .i64 W.o]⟩)] ?_
   refine zzc ?_
   refine zzt (b := decide ((i : Int) < (x.n : Int))) (by kernel_rfl) (fun hb24 => ?_) (fun hb24 => ?_)
   ·replace hb24 : (decide ((i : Int) < (x.n : Int))) = true := hb24
    have qhb24 := of_decide_eq_true hb24
    refine zzr (zzo ?_)
    refine zzc ?_
    refine zzs ?_
    refine sq9 ?_
    have hl25 := ((hx.ext (e11.trans (g13.ext.trans (e16.trans e23))))).1
    obtain ⟨b25, o25, hA25, hc25⟩ := ints_at (hx.ext (e11.trans (g13.ext.trans (e16.trans e23)))) (i := i) (by omega)
    have hz25 := ints_bd hb (by omega) i
    refine zzz 42 (o25 + i * 1) (n := x.n) (off := o25) (sz := 1) (i := (i : Int)) (by omega) hA25 (by omega) (by omega) sl22 ?_
    refine zyk 43 (.int .i64 (l.getD i 0)) hc25 ty3 ?_
    refine zza 10 (.v (.int .i64 (l.getD i 0))) ?_
    refine zzb 71 [(0, .v x.v), (5, .adr 5 0), (10, .v (.int .i64 (l.getD i 0))), (38, .v x.v), (39, .v (.int .i64 (x.n : Int))), (40, .v (.int .i64 (i : Int)))] [(5, ⟨24, [.int .i64 W.b, .int .i64 W.f, .int .i64 W.r, .int .i64 W.o]⟩)] ?_
    refine sq9 ?_
    refine zzh 44 (.v (.agg #[.int .i64 W.b, .int .i64 W.f, .int .i64 W.r, .int .i64 W.o])) ty24 zzd ?_
    refine zza 45 (.v (.int .i64 (l.getD i 0))) ?_
    refine zzf 46 126 [.agg #[.int .i64 W.b, .int .i64 W.f, .int .i64 W.r, .int .i64 W.o], .int .i64 (l.getD i 0)] ?_
    intro w26 u26 e26 d26
    have k29 := k_fxFits (W := W) (z := (l.getD i 0)) d26 hW (by omega) (by omega)
    with_reducible refine Post.mono k29 ?_
    rintro _ u27 g28 rfl
    refine zza 47 (.v (.bool false)) ?_
    refine zza 48 (.v (.bool false)) ?_
    refine zzh 49 (.v (.agg #[.int .i64 W.b, .int .i64 W.f, .int .i64 W.r, .int .i64 W.o])) ty24 zzd ?_ (hw := w1 4 false 48)
    refine zza 50 (.v (.int .i64 (l.getD i 0))) ?_ (hw := w1 4 false 48)
    refine zyp 51 (x := .v (.int .i64 (IntKind.i64.wrap (0 - (l.getD i 0))))) (.v (.int .i64 (-(l.getD i 0)))) (eqI (by rw [IntWalk.i64_in _ (by omega)]; omega)) ?_ (hw := w1 4 false 48)
    refine zzf 52 126 [.agg #[.int .i64 W.b, .int .i64 W.f, .int .i64 W.r, .int .i64 W.o], .int .i64 (-(l.getD i 0))] ?_ (hw := w1 4 false 48)
    intro w30 u30 e30 d30
    have k33 := k_fxFits (W := W) (z := -(l.getD i 0)) d30 hW (by omega) (by omega)
    with_reducible refine Post.mono k33 ?_
    rintro _ u31 g32 rfl
    refine zza 53 (.v (.bool false)) ?_ (hw := w1 4 false 48)
    refine zza 54 (.v (.bool false)) ?_
    refine zzb 71 [(0, .v x.v), (5, .adr 5 0), (38, .v x.v), (39, .v (.int .i64 (x.n : Int))), (40, .v (.int .i64 (i : Int))), (54, .v (.bool false))] [(5, ⟨24, [.int .i64 W.b, .int .i64 W.f, .int .i64 W.r, .int .i64 W.o]⟩)] ?_
    refine zyr (by kernel_rfl) ?_
    refine zzr (zzo ?_)
    refine zze ?_
    refine zyp 55 (x := .v (.int .i64 (IntKind.i64.wrap ((i : Int) + 1)))) (.v (.int .i64 ((i + 1 : Nat) : Int))) (eqI (by rw [IntWalk.i64_in _ (by omega)]; omega)) ?_
    refine zza 40 (.v (.int .i64 ((i + 1 : Nat) : Int))) ?_
    refine zzw ?_
    refine ⟨_, ?_, St.of 71 [(0, .v (.slice x.a x.n x.c)), (5, .adr 5 0), (38, .v (.slice x.a x.n x.c)), (39, .v (.int .i64 (x.n : Int))), (40, .v (.int .i64 ((i + 1 : Nat) : Int)))] [(5, ⟨24, [.int .i64 W.b, .int .i64 W.f, .int .i64 W.r, .int .i64 W.o]⟩)], by exact zzu _ _ _, i + 1, rfl, by omega, rfl, (e23.trans (e26.trans (g28.ext.trans (e30.trans g32.ext))))⟩
    omega
   ·replace hb24 : (decide ((i : Int) < (x.n : Int))) = false := hb24
    have qhb24 := of_decide_eq_false hb24
    refine zyb ?_
    refine zzo ?_
    refine zzc ?_
    refine sq9 ?_
    refine zza 56 (.v x.v) ?_
    refine zza 57 (.v (.int .i64 (x.n : Int))) ?_
    refine zza 58 (.v (.int .i64 0)) ?_
    refine zzb 71 [(5, .adr 5 0), (56, .v x.v), (57, .v (.int .i64 (x.n : Int))), (58, .v (.int .i64 0))] [(5, ⟨24, [.int .i64 W.b, .int .i64 W.f, .int .i64 W.r, .int .i64 W.o]⟩)] ?_
    refine zzs ?_
    refine zym (I := fun m34 S' u' => ∃ (i : Nat), (m34 = x.n - i) ∧ (i ≤ x.n) ∧ (S' = St.of 71 [(5, .adr 5 0), (56, .v (.slice x.a x.n x.c)), (57, .v (.int .i64 (x.n : Int))), (58, .v (.int .i64 (i : Int)))] [(5, ⟨24, [.int .i64 W.b, .int .i64 W.f, .int .i64 W.r, .int .i64 W.o]⟩)]) ∧ (Ext u23 u')) (fun m S u1 u2 e h => by obtain ⟨i, hm, p0, hS, hE⟩ := h; exact ⟨i, hm, p0, hS, hE.trans e⟩) _ (T := St.of 71 [(5, .adr 5 0), (56, .v (.slice x.a x.n x.c)), (57, .v (.int .i64 (x.n : Int))), (58, .v (.int .i64 0))] [(5, ⟨24, [.int .i64 W.b, .int .i64 W.f, .int .i64 W.r, .int .i64 W.o]⟩)]) (by exact zzu _ _ _) ⟨0, rfl, Nat.zero_le _, rfl, Ext.refl _⟩ ?_
    rintro m34 _ u34 ⟨i, hm34, hi, rfl, e34⟩
    refine sq9 ?_
    refine zza 59 (.v (.bool (decide ((i : Int) < (x.n : Int))))) ?_
    refine zzb 71 [(5, .adr 5 0), (56, .v x.v), (57, .v (.int .i64 (x.n : Int))), (58, .v (.int .i64 (i : Int))), (59, .v (.bool (decide ((i : Int) < (x.n : Int)))))] [(5, ⟨24, [.int .i64 W.b, .int .i64 W.f, .int .i64 W.r, .int .i64 W.o]⟩)] ?_
    refine zzc ?_
    refine zzt (b := decide ((i : Int) < (x.n : Int))) (by kernel_rfl) (fun hb35 => ?_) (fun hb35 => ?_)
    ·replace hb35 : (decide ((i : Int) < (x.n : Int))) = true := hb35
     have qhb35 := of_decide_eq_true hb35
     refine zzr (zzo ?_)
     refine zzc ?_
     refine zzs ?_
     refine sq9 ?_
     have hl36 := ((hx.ext (e11.trans (g13.ext.trans (e16.trans (e23.trans e34)))))).1
     obtain ⟨b36, o36, hA36, hc36⟩ := ints_at (hx.ext (e11.trans (g13.ext.trans (e16.trans (e23.trans e34))))) (i := i) (by omega)
     have hz36 := ints_bd hb (by omega) i
     refine zzz 60 (o36 + i * 1) (n := x.n) (off := o36) (sz := 1) (i := (i : Int)) (by omega) hA36 (by omega) (by omega) sl22 ?_
     refine zyk 61 (.int .i64 (l.getD i 0)) hc36 ty3 ?_
     refine zza 12 (.v (.int .i64 (l.getD i 0))) ?_
     refine zzb 71 [(5, .adr 5 0), (12, .v (.int .i64 (l.getD i 0))), (56, .v x.v), (57, .v (.int .i64 (x.n : Int))), (58, .v (.int .i64 (i : Int)))] [(5, ⟨24, [.int .i64 W.b, .int .i64 W.f, .int .i64 W.r, .int .i64 W.o]⟩)] ?_
     refine sq9 ?_
     refine zza 62 (.v (.int .i64 (l.getD i 0))) ?_
     refine zza 63 (.v (.int .i64 (l.getD i 0))) ?_
     refine zyp 64 (x := .v (.int .i64 (IntKind.i64.wrap (0 - (l.getD i 0))))) (.v (.int .i64 (-(l.getD i 0)))) (eqI (by rw [IntWalk.i64_in _ (by omega)]; omega)) ?_
     obtain ⟨mx, hmx, hml⟩ : ∃ v, (if -(l.getD i 0) > (l.getD i 0) then -(l.getD i 0) else (l.getD i 0)) = v ∧ v < Nt.p2i W.f := ⟨_, rfl, by split <;> omega⟩
     refine sy_max2 65 (n := (l.getD i 0)) (m := -(l.getD i 0)) (v := mx) hmx ?_
     refine zza 66 (.adr 5 1) ?_
     refine zzh 67 (.v (.int .i64 W.f)) ty3 zzk ?_
     refine sy_shl 68 (k := .i64) (s := W.f) (Nt.p2i W.f) (by omega) (by show _ ≤ (64 : Int); omega) (shl_one (by omega) (by omega)) ?_
     refine zza 69 (.v (.bool (decide ((Nt.p2i W.f) ≤ mx)))) ?_
     refine zzb 71 [(5, .adr 5 0), (56, .v x.v), (57, .v (.int .i64 (x.n : Int))), (58, .v (.int .i64 (i : Int))), (69, .v (.bool (decide ((Nt.p2i W.f) ≤ mx))))] [(5, ⟨24, [.int .i64 W.b, .int .i64 W.f, .int .i64 W.r, .int .i64 W.o]⟩)] ?_
     refine zzt (b := decide ((Nt.p2i W.f) ≤ mx)) (by kernel_rfl) (fun hb => ?_) (fun hb => ?_)
     ·exact absurd hb (by rw [show (decide ((Nt.p2i W.f) ≤ mx)) = false from decide_eq_false (by omega)]; decide)
     ·clear hb
      refine zzr (zzo ?_)
      refine zze ?_
      refine zyp 70 (x := .v (.int .i64 (IntKind.i64.wrap ((i : Int) + 1)))) (.v (.int .i64 ((i + 1 : Nat) : Int))) (eqI (by rw [IntWalk.i64_in _ (by omega)]; omega)) ?_
      refine zza 58 (.v (.int .i64 ((i + 1 : Nat) : Int))) ?_
      refine zzw ?_
      refine ⟨_, ?_, St.of 71 [(5, .adr 5 0), (56, .v (.slice x.a x.n x.c)), (57, .v (.int .i64 (x.n : Int))), (58, .v (.int .i64 ((i + 1 : Nat) : Int)))] [(5, ⟨24, [.int .i64 W.b, .int .i64 W.f, .int .i64 W.r, .int .i64 W.o]⟩)], by exact zzu _ _ _, i + 1, rfl, by omega, rfl, e34⟩
      omega
    ·replace hb35 : (decide ((i : Int) < (x.n : Int))) = false := hb35
     have qhb35 := of_decide_eq_false hb35
     refine zyb ?_
     refine zzo ?_
     refine sq9 ?_
     refine zza 6 (.v (.int .i64 0)) ?_
     refine zzb 71 [(6, .v (.int .i64 0))] [] ?_
     refine zzn (ret0 [.int .i64 0] ⟨zzp, trivial⟩ fun u37 e38 => ?_)
     rfl
set_option maxHeartbeats 4000000 in
theorem k_latIdealN {u w : World} {x y : Sl} {l m : List Int} {W : WL} (d : Dat u w) (hW : WdOK W) (hx : SlR .i64 u x.a x.n x.c l) (hb : (∀ z ∈ l, -(Nt.p2i W.f - 1) ≤ z ∧ z ≤ (Nt.p2i W.f - 1))) (hy : SlR .i64 u y.a y.n y.c m) (hc : (∀ z ∈ m, -(Nt.p2i (W.b - 1) - 1) ≤ z ∧ z ≤ (Nt.p2i (W.b - 1) - 1))) (hlm : m.length = l.length + 1) (h6 : l.length ≤ 6) : Calls Tryz.prog 11 #[x.v, y.v, W.v] w (Post u w fun v u' => ∃ y z : Sl, v = .tuple #[.agg #[y.v, z.v], .int .i64 0] ∧ PolN u' y (Nt.trimQ (Nt.liS W.f l m m.length)) 20000 ∧ PolN u' z (Nt.trimQ (Nt.upL (Nt.wqL W.f l) (Nt.wqL W.f l).length)) 2032) := by
 obtain ⟨hw1, hw2, hw3, hw4, hw5, hw6, hw7, hw8⟩ := id hW
 have hu0 := Nt.p2i_pos W.f
 have hu1 := Nt.p2i_24 (n := W.f) (by omega)
 have hu2 := Nt.p2i_mono (a := W.f) (b := W.b - 1) (by omega)
 have hu3 := Nt.p2i_24 (n := W.b - 1) (by omega)
 have hlx : l.length = x.n := hx.1
 have hly : m.length = y.n := hy.1
 refine zzl (args := [.slice x.a x.n x.c, .slice y.a y.n y.c, .agg #[.int .i64 W.b, .int .i64 W.f, .int .i64 W.r, .int .i64 W.o]]) Tryz.func11 rfl Tryz.ntmps11 (rs := [.cell 6 31, .tmp 7]) Tryz.results11 (le_b rfl) (le_b rfl) d ?_
 refine sq9 ?_
 refine zzj 5 ⟨24, [.int .i64 W.b, .int .i64 W.f, .int .i64 W.r, .int .i64 W.o]⟩ ?_
 refine zzj 6 ⟨31, [.slice none 0 0, .slice none 0 0]⟩ ?_
 refine zza 7 (.v (.int .i64 0)) ?_
 refine zzb 72 [(0, .v x.v), (1, .v y.v), (5, .adr 5 0), (6, .adr 6 0)] [(5, ⟨24, [.int .i64 W.b, .int .i64 W.f, .int .i64 W.r, .int .i64 W.o]⟩), (6, ⟨31, [.slice none 0 0, .slice none 0 0]⟩)] ?_
 refine zzc ?_
 refine sq9 ?_
 refine zza 17 (.v x.v) ?_
 refine zza 18 (.v y.v) ?_
 refine zzh 19 (.v (.agg #[.int .i64 W.b, .int .i64 W.f, .int .i64 W.r, .int .i64 W.o])) ty24 zzd ?_
 refine zzf 20 47 [x.v, y.v, .agg #[.int .i64 W.b, .int .i64 W.f, .int .i64 W.r, .int .i64 W.o]] ?_
 intro w11 u11 e11 d11
 have k14 := k_latWrongN (W := W) d11 hW (hx.ext e11) hb (hy.ext e11) hc (by omega) (by omega)
 with_reducible refine Post.mono k14 ?_
 rintro _ u12 g13 rfl
 refine zza 8 (.v (.int .i64 0)) ?_
 refine zzb 72 [(0, .v x.v), (1, .v y.v), (5, .adr 5 0), (6, .adr 6 0), (8, .v (.int .i64 0))] [(5, ⟨24, [.int .i64 W.b, .int .i64 W.f, .int .i64 W.r, .int .i64 W.o]⟩), (6, ⟨31, [.slice none 0 0, .slice none 0 0]⟩)] ?_
 refine sq9 ?_
 refine zza 21 (.v (.int .i64 0)) ?_
 refine zza 22 (.v (.bool false)) ?_
 refine zzb 72 [(0, .v x.v), (1, .v y.v), (5, .adr 5 0), (6, .adr 6 0), (8, .v (.int .i64 0)), (22, .v (.bool false))] [(5, ⟨24, [.int .i64 W.b, .int .i64 W.f, .int .i64 W.r, .int .i64 W.o]⟩), (6, ⟨31, [.slice none 0 0, .slice none 0 0]⟩)] ?_
 refine zyr (by kernel_rfl) ?_
 refine zzr (zzo ?_)
 refine sq9 ?_
 refine zza 25 (.v x.v) ?_
 refine zza 26 (.v (.int .i64 (x.n : Int))) ?_
 refine sy_make 27 (T := 28) (E := 41) (z := .agg #[.bool false, .slice none 0 0, .slice none 0 0]) (size := 3) (bytes := 56) x.n (rcs (List.replicate x.n rl0)) (by kernel_rfl) (by kernel_rfl) rfl rfl (by omega) (by unfold maxLen; omega) (made_rcs _) ?_
 refine zza 9 (.slc 27 0 x.n x.n) ?_
 refine zzb 72 [(0, .v x.v), (1, .v y.v), (5, .adr 5 0), (6, .adr 6 0), (9, .slc 27 0 x.n x.n)] [(5, ⟨24, [.int .i64 W.b, .int .i64 W.f, .int .i64 W.r, .int .i64 W.o]⟩), (6, ⟨31, [.slice none 0 0, .slice none 0 0]⟩), (27, ⟨41, rcs (List.replicate x.n rl0)⟩)] ?_
 refine zzc ?_
 refine sq9 ?_
 refine zza 28 (.v x.v) ?_
 refine zza 29 (.v (.int .i64 (x.n : Int))) ?_
 refine zza 30 (.v (.int .i64 0)) ?_
 refine zzb 72 [(1, .v y.v), (5, .adr 5 0), (6, .adr 6 0), (9, .slc 27 0 x.n x.n), (28, .v x.v), (29, .v (.int .i64 (x.n : Int))), (30, .v (.int .i64 0))] [(5, ⟨24, [.int .i64 W.b, .int .i64 W.f, .int .i64 W.r, .int .i64 W.o]⟩), (6, ⟨31, [.slice none 0 0, .slice none 0 0]⟩), (27, ⟨41, rcs (List.replicate x.n rl0)⟩)] ?_
 refine zzs ?_
 refine zym (I := fun m15 S' u' => ∃ (i : Nat) (L : List RL), (m15 = x.n - i) ∧ (i ≤ x.n) ∧ (L.length = x.n) ∧ (S' = St.of 72 [(1, .v (.slice y.a y.n y.c)), (5, .adr 5 0), (6, .adr 6 0), (9, .slc 27 0 x.n x.n), (28, .v (.slice x.a x.n x.c)), (29, .v (.int .i64 (x.n : Int))), (30, .v (.int .i64 (i : Int)))] [(5, ⟨24, [.int .i64 W.b, .int .i64 W.f, .int .i64 W.r, .int .i64 W.o]⟩), (6, ⟨31, [.slice none 0 0, .slice none 0 0]⟩), (27, ⟨41, rcs L⟩)]) ∧ (Ext u12 u') ∧ (RatsN u' (L.take i) ((Nt.wqL W.f l).take i) 2)) (fun m S u1 u2 e h => by obtain ⟨i, L, hm, p0, p1, hS, hE, f0⟩ := h; exact ⟨i, L, hm, p0, p1, hS, hE.trans e, f0.ext e⟩) _ (T := St.of 72 [(1, .v (.slice y.a y.n y.c)), (5, .adr 5 0), (6, .adr 6 0), (9, .slc 27 0 x.n x.n), (28, .v (.slice x.a x.n x.c)), (29, .v (.int .i64 (x.n : Int))), (30, .v (.int .i64 0))] [(5, ⟨24, [.int .i64 W.b, .int .i64 W.f, .int .i64 W.r, .int .i64 W.o]⟩), (6, ⟨31, [.slice none 0 0, .slice none 0 0]⟩), (27, ⟨41, rcs (List.replicate x.n rl0)⟩)]) (by exact zzu _ _ _) ⟨0, List.replicate x.n rl0, rfl, by omega, by simp, rfl, Ext.refl _, RatsN.tnil _ _ _ _⟩ ?_
 rintro m15 _ u15 ⟨i, L, hm15, hi, hL, rfl, e15, hR⟩
 refine sq9 ?_
 refine zza 31 (.v (.bool (decide ((i : Int) < (x.n : Int))))) ?_
 refine zzb 72 [(1, .v y.v), (5, .adr 5 0), (6, .adr 6 0), (9, .slc 27 0 x.n x.n), (28, .v x.v), (29, .v (.int .i64 (x.n : Int))), (30, .v (.int .i64 (i : Int))), (31, .v (.bool (decide ((i : Int) < (x.n : Int)))))] [(5, ⟨24, [.int .i64 W.b, .int .i64 W.f, .int .i64 W.r, .int .i64 W.o]⟩), (6, ⟨31, [.slice none 0 0, .slice none 0 0]⟩), (27, ⟨41, rcs L⟩)] ?_
 refine zzc ?_
 refine zzt (b := decide ((i : Int) < (x.n : Int))) (by kernel_rfl) (fun hb16 => ?_) (fun hb16 => ?_)
 ·replace hb16 : (decide ((i : Int) < (x.n : Int))) = true := hb16
  have qhb16 := of_decide_eq_true hb16
  refine zzr (zzo ?_)
  refine zzc ?_
  refine zzs ?_
  refine sq9 ?_
  refine zza 32 (.v (.int .i64 (i : Int))) ?_
  have hl17 := ((hx.ext (e11.trans (g13.ext.trans e15)))).1
  obtain ⟨b17, o17, hA17, hc17⟩ := ints_at (hx.ext (e11.trans (g13.ext.trans e15))) (i := i) (by omega)
  have hz17 := ints_bd hb (by omega) i
  refine zzz 33 (o17 + i * 1) (n := x.n) (off := o17) (sz := 1) (i := (i : Int)) (by omega) hA17 (by omega) (by omega) sl22 ?_
  refine zyk 34 (.int .i64 (l.getD i 0)) hc17 ty3 ?_
  refine zza 10 (.v (.int .i64 (i : Int))) ?_
  refine zza 11 (.v (.int .i64 (l.getD i 0))) ?_
  refine zzb 72 [(1, .v y.v), (5, .adr 5 0), (6, .adr 6 0), (9, .slc 27 0 x.n x.n), (10, .v (.int .i64 (i : Int))), (11, .v (.int .i64 (l.getD i 0))), (28, .v x.v), (29, .v (.int .i64 (x.n : Int))), (30, .v (.int .i64 (i : Int)))] [(5, ⟨24, [.int .i64 W.b, .int .i64 W.f, .int .i64 W.r, .int .i64 W.o]⟩), (6, ⟨31, [.slice none 0 0, .slice none 0 0]⟩), (27, ⟨41, rcs L⟩)] ?_
  refine zze ?_
  refine zza 35 (.slc 27 0 x.n x.n) ?_
  refine zza 36 (.v (.int .i64 (i : Int))) ?_
  refine zzh 37 (.v (.agg #[.int .i64 W.b, .int .i64 W.f, .int .i64 W.r, .int .i64 W.o])) ty24 zzd ?_
  refine zza 38 (.v (.int .i64 (l.getD i 0))) ?_
  refine zzf 39 48 [.agg #[.int .i64 W.b, .int .i64 W.f, .int .i64 W.r, .int .i64 W.o], .int .i64 (l.getD i 0)] ?_
  intro w18 u18 e18 d18
  have k23 := k_fxValue (W := W) (z := (l.getD i 0)) d18 hW (by omega) (by omega)
  with_reducible refine Post.mono k23 ?_
  rintro _ u21 g22 ⟨r19, rfl, h20⟩
  refine zyv 40 (off' := i * 3) (n := x.n) (off := 0) (sz := 3) (i := (i : Int)) sl28 (by omega) (by omega) (by omega) ?_
  refine zyu (V := ⟨41, rcs L⟩) (off := i * 3) (rcs ((L).set i r19)) ty41 (by rw [zyx]; first|omega|(simp;omega)) (zyw (r := r19) (i := i) (by first|omega|(simp;omega)) rfl) ?_
  refine zzw ?_
  refine zzo ?_
  refine zze ?_
  refine zyp 41 (x := .v (.int .i64 (IntKind.i64.wrap ((i : Int) + 1)))) (.v (.int .i64 ((i + 1 : Nat) : Int))) (eqI (by rw [IntWalk.i64_in _ (by omega)]; omega)) ?_
  refine zza 30 (.v (.int .i64 ((i + 1 : Nat) : Int))) ?_
  refine zzw ?_
  have ht24 : i < (Nt.wqL W.f l).length := by rw [Nt.wqL_len]; omega
  refine ⟨_, ?_, St.of 72 [(1, .v (.slice y.a y.n y.c)), (5, .adr 5 0), (6, .adr 6 0), (9, .slc 27 0 x.n x.n), (28, .v (.slice x.a x.n x.c)), (29, .v (.int .i64 (x.n : Int))), (30, .v (.int .i64 ((i + 1 : Nat) : Int)))] [(5, ⟨24, [.int .i64 W.b, .int .i64 W.f, .int .i64 W.r, .int .i64 W.o]⟩), (6, ⟨31, [.slice none 0 0, .slice none 0 0]⟩), (27, ⟨41, rcs ((L).set i r19)⟩)], by exact zzu _ _ _, i + 1, (L).set i r19, rfl, by omega, by simpa using hL, rfl, (e15.trans (e18.trans g22.ext)), RatsN.tstep (hR.ext (e18.trans g22.ext)) (by omega) ht24 (RatN.more (K := 2) h20 (by omega)) (Nt.wqL_at W.f l (i := i) (by omega)).symm⟩
  omega
 ·replace hb16 : (decide ((i : Int) < (x.n : Int))) = false := hb16
  have qhb16 := of_decide_eq_false hb16
  refine zyb ?_
  refine zzo ?_
  refine zzc ?_
  have hzz := Nt.wqL_small hb
  have hql := Nt.wqL_len W.f l
  refine zyo (r := 9) (t := 27) [9, 27] (by repeat first | exact noAt_of | refine zyc ?_ | refine zye ?_ | refine zyd ?_ | refine zzx ?_ | refine zya ?_) (by kernel_rfl) (by rfl) (by rfl) (by kernel_rfl) (fun b25 u26 e27 hb28 hh29 => ?_)
  have hp30 : PolN u26 ⟨some ⟨b25, 0, none⟩, x.n, x.n⟩ (Nt.wqL W.f l) 2 := pol_data1 hh29 (by unfold maxLen; omega) (RatsN.tdone (hR.ext e27) (by omega) (by rw [Nt.wqL_len]; omega)) (by omega)
  refine zze ?_
  refine zza 12 (.v (.slice none 0 0)) ?_
  refine zzb 72 [(1, .v y.v), (5, .adr 5 0), (6, .adr 6 0), (9, .v (.slice (some ⟨b25, 0, none⟩) x.n x.n)), (12, .v (.slice none 0 0))] [(5, ⟨24, [.int .i64 W.b, .int .i64 W.f, .int .i64 W.r, .int .i64 W.o]⟩), (6, ⟨31, [.slice none 0 0, .slice none 0 0]⟩)] ?_
  refine zzc ?_
  refine sq9 ?_
  refine zza 42 (.v y.v) ?_
  refine zza 43 (.v (.int .i64 (y.n : Int))) ?_
  refine zza 44 (.v (.int .i64 0)) ?_
  refine zzb 72 [(5, .adr 5 0), (6, .adr 6 0), (9, .v (.slice (some ⟨b25, 0, none⟩) x.n x.n)), (12, .v (.slice none 0 0)), (42, .v y.v), (43, .v (.int .i64 (y.n : Int))), (44, .v (.int .i64 0))] [(5, ⟨24, [.int .i64 W.b, .int .i64 W.f, .int .i64 W.r, .int .i64 W.o]⟩), (6, ⟨31, [.slice none 0 0, .slice none 0 0]⟩)] ?_
  refine zzs ?_
  refine zym (I := fun m31 S' u' => ∃ (i : Nat) (a : Sl), (m31 = y.n - i) ∧ (i ≤ y.n) ∧ (S' = St.of 72 [(5, .adr 5 0), (6, .adr 6 0), (9, .v (.slice (some ⟨b25, 0, none⟩) x.n x.n)), (12, .v (.slice a.a a.n a.c)), (42, .v (.slice y.a y.n y.c)), (43, .v (.int .i64 (y.n : Int))), (44, .v (.int .i64 (i : Int)))] [(5, ⟨24, [.int .i64 W.b, .int .i64 W.f, .int .i64 W.r, .int .i64 W.o]⟩), (6, ⟨31, [.slice none 0 0, .slice none 0 0]⟩)]) ∧ (Ext u26 u') ∧ (PolN u' a (Nt.liS W.f l m i) (i * 2100 + 1))) (fun m S u1 u2 e h => by obtain ⟨i, a, hm, p0, hS, hE, f0⟩ := h; exact ⟨i, a, hm, p0, hS, hE.trans e, f0.ext e⟩) _ (T := St.of 72 [(5, .adr 5 0), (6, .adr 6 0), (9, .v (.slice (some ⟨b25, 0, none⟩) x.n x.n)), (12, .v (.slice none 0 0)), (42, .v (.slice y.a y.n y.c)), (43, .v (.int .i64 (y.n : Int))), (44, .v (.int .i64 0))] [(5, ⟨24, [.int .i64 W.b, .int .i64 W.f, .int .i64 W.r, .int .i64 W.o]⟩), (6, ⟨31, [.slice none 0 0, .slice none 0 0]⟩)]) (by exact zzu _ _ _) ⟨0, ⟨none, 0, 0⟩, rfl, Nat.zero_le _, rfl, Ext.refl _, pol_nil _ _⟩ ?_
  rintro m31 _ u31 ⟨i, a, hm31, hi, rfl, e31, hA⟩
  have hal := hA.len
  have hsl := Nt.liS_len W.f l m i
  refine sq9 ?_
  refine zza 45 (.v (.bool (decide ((i : Int) < (y.n : Int))))) ?_
  refine zzb 72 [(5, .adr 5 0), (6, .adr 6 0), (9, .v (.slice (some ⟨b25, 0, none⟩) x.n x.n)), (12, .v a.v), (42, .v y.v), (43, .v (.int .i64 (y.n : Int))), (44, .v (.int .i64 (i : Int))), (45, .v (.bool (decide ((i : Int) < (y.n : Int)))))] [(5, ⟨24, [.int .i64 W.b, .int .i64 W.f, .int .i64 W.r, .int .i64 W.o]⟩), (6, ⟨31, [.slice none 0 0, .slice none 0 0]⟩)] ?_
  refine zzc ?_
  refine zzt (b := decide ((i : Int) < (y.n : Int))) (by kernel_rfl) (fun hb32 => ?_) (fun hb32 => ?_)
  ·replace hb32 : (decide ((i : Int) < (y.n : Int))) = true := hb32
   have qhb32 := of_decide_eq_true hb32
   refine zzr (zzo ?_)
   refine zzc ?_
   refine zzs ?_
   refine sq9 ?_
   refine zza 46 (.v (.int .i64 (i : Int))) ?_
   have hl33 := ((hy.ext (e11.trans (g13.ext.trans (e15.trans (e27.trans e31)))))).1
   obtain ⟨b33, o33, hA33, hc33⟩ := ints_at (hy.ext (e11.trans (g13.ext.trans (e15.trans (e27.trans e31))))) (i := i) (by omega)
   have hz33 := ints_bd hc (by omega) i
   refine zzz 47 (o33 + i * 1) (n := y.n) (off := o33) (sz := 1) (i := (i : Int)) (by omega) hA33 (by omega) (by omega) sl22 ?_
   refine zyk 48 (.int .i64 (m.getD i 0)) hc33 ty3 ?_
   refine zza 13 (.v (.int .i64 (i : Int))) ?_
   refine zza 14 (.v (.int .i64 (m.getD i 0))) ?_
   refine zzb 72 [(5, .adr 5 0), (6, .adr 6 0), (9, .v (.slice (some ⟨b25, 0, none⟩) x.n x.n)), (12, .v a.v), (13, .v (.int .i64 (i : Int))), (14, .v (.int .i64 (m.getD i 0))), (42, .v y.v), (43, .v (.int .i64 (y.n : Int))), (44, .v (.int .i64 (i : Int)))] [(5, ⟨24, [.int .i64 W.b, .int .i64 W.f, .int .i64 W.r, .int .i64 W.o]⟩), (6, ⟨31, [.slice none 0 0, .slice none 0 0]⟩)] ?_
   refine zzy [0, 0, 0, 6, 0, 0, 62, 126, 255, 511] [(0, []), (1, []), (2, []), (4, []), (5, []), (3, []), (6, []), (7, []), (8, []), (9, [])] (by kernel_rfl) (by kernel_rfl) ?_
   refine zza 49 (.v a.v) ?_
   refine zza 50 (.v (.slice (some ⟨b25, 0, none⟩) x.n x.n)) ?_
   refine zza 51 (.v (.int .i64 (i : Int))) ?_
   refine zzh 53 (.v (.agg #[.int .i64 W.b, .int .i64 W.f, .int .i64 W.r, .int .i64 W.o])) ty24 zzd ?_
   refine zza 54 (.v (.int .i64 (m.getD i 0))) ?_
   refine zzf 52 51 [.slice (some ⟨b25, 0, none⟩) x.n x.n, .int .i64 (i : Int)] ?_
   intro w34 u34 e34 d34
   have k39 := (show Calls _ _ #[_, .int .i64 (i : Int)] _ _ from k_reversed (i := i) d34 (hp30.ext (e31.trans e34)).raw (by omega) (by omega) hzz (by omega))
   with_reducible refine Post.mono k39 ?_
   rintro _ u37 g38 ⟨y35, rfl, h36⟩
   have hly35 := h36.len
   have hmy35 := Nt.revL_len (Nt.wqL W.f l) i
   have hk40 := PolN.more h36 (Nt.upK_le (show i ≤ 6 by omega))
   refine zzf 55 48 [.agg #[.int .i64 W.b, .int .i64 W.f, .int .i64 W.r, .int .i64 W.o], .int .i64 (m.getD i 0)] ?_
   intro w41 u41 e41 d41
   have k46 := k_fxValue (W := W) (z := (m.getD i 0)) d41 hW (by omega) (by omega)
   with_reducible refine Post.mono k46 ?_
   rintro _ u44 g45 ⟨r42, rfl, h43⟩
   refine zzf 56 50 [y35.v, r42.v] ?_
   intro w47 u47 e47 d47
   have k52 := k_poScale d47 (hk40.ext (e41.trans (g45.ext.trans e47))).raw (h43.ext e47).raw (by omega) (by first|omega|(simp;omega) | (refine Nat.le_trans (Nt.zzg _) ?_; first|omega|(simp;omega)) | (refine Nat.le_trans (Nt.zzg _) ?_; simp only [List.length_map]; refine Nat.le_trans (Nt.zzg _) ?_; first|omega|(simp;omega))) (by omega)
   with_reducible refine Post.mono k52 ?_
   rintro _ u50 g51 ⟨y48, rfl, h49⟩
   have hly48 := h49.len
   refine zzf 57 49 [a.v, y48.v] ?_
   intro w53 u53 e53 d53
   have k58 := k_poAdd d53 (hA.ext (e34.trans (g38.ext.trans (e41.trans (g45.ext.trans (e47.trans (g51.ext.trans e53))))))).raw (h49.ext e53).raw (by omega) (by omega) (by first|omega|(simp;omega) | (refine Nat.le_trans (Nt.zzg _) ?_; first|omega|(simp;omega)) | (refine Nat.le_trans (Nt.zzg _) ?_; simp only [List.length_map]; refine Nat.le_trans (Nt.zzg _) ?_; first|omega|(simp;omega))) (by first|omega|(simp;omega) | (refine Nat.le_trans (Nt.zzg _) ?_; first|omega|(simp;omega)) | (refine Nat.le_trans (Nt.zzg _) ?_; simp only [List.length_map]; refine Nat.le_trans (Nt.zzg _) ?_; first|omega|(simp;omega)))
   with_reducible refine Post.mono k58 ?_
   rintro _ u56 g57 ⟨y54, rfl, h55⟩
   have hly54 := h55.len
   refine zza 12 (.v y54.v) ?_
   refine zzw ?_
   refine zzo ?_
   refine zze ?_
   refine zyp 58 (x := .v (.int .i64 (IntKind.i64.wrap ((i : Int) + 1)))) (.v (.int .i64 ((i + 1 : Nat) : Int))) (eqI (by rw [IntWalk.i64_in _ (by omega)]; omega)) ?_
   refine zza 44 (.v (.int .i64 ((i + 1 : Nat) : Int))) ?_
   refine zzw ?_
   refine ⟨_, ?_, St.of 72 [(5, .adr 5 0), (6, .adr 6 0), (9, .v (.slice (some ⟨b25, 0, none⟩) x.n x.n)), (12, .v (.slice y54.a y54.n y54.c)), (42, .v (.slice y.a y.n y.c)), (43, .v (.int .i64 (y.n : Int))), (44, .v (.int .i64 ((i + 1 : Nat) : Int)))] [(5, ⟨24, [.int .i64 W.b, .int .i64 W.f, .int .i64 W.r, .int .i64 W.o]⟩), (6, ⟨31, [.slice none 0 0, .slice none 0 0]⟩)], by exact zzu _ _ _, i + 1, y54, rfl, by omega, rfl, (e31.trans (e34.trans (g38.ext.trans (e41.trans (g45.ext.trans (e47.trans (g51.ext.trans (e53.trans g57.ext)))))))), (show PolN _ _ (Nt.liS W.f l m (i + 1)) _ from PolN.more (K := ((i * 2100 + 1) + (2032 + 2) + 1)) h55 (by omega))⟩
   omega
  ·replace hb32 : (decide ((i : Int) < (y.n : Int))) = false := hb32
   have qhb32 := of_decide_eq_false hb32
   refine zyb ?_
   refine zzo ?_
   refine sq9 ?_
   refine zza 60 (.v (.slice (some ⟨b25, 0, none⟩) x.n x.n)) ?_
   refine zzf 61 52 [.slice (some ⟨b25, 0, none⟩) x.n x.n] ?_
   intro w59 u59 e59 d59
   have k64 := k_stepUpG d59 (hp30.ext (e31.trans e59)).raw (by omega) (by omega) hzz
   with_reducible refine Post.mono k64 ?_
   rintro _ u62 g63 ⟨y60, rfl, h61⟩
   have hly60 := h61.len
   have hky60 := Nt.upK_le (show (Nt.wqL W.f l).length ≤ 6 by omega)
   refine zza 59 (.v (.tuple #[y60.v, .int .i64 0])) ?_
   refine zza 62 (.v y60.v) ?_
   refine zza 63 (.v (.int .i64 0)) ?_
   refine zza 15 (.v y60.v) ?_
   refine zza 16 (.v (.int .i64 0)) ?_
   refine zzb 72 [(6, .adr 6 0), (12, .v a.v), (15, .v y60.v), (16, .v (.int .i64 0))] [(6, ⟨31, [.slice none 0 0, .slice none 0 0]⟩)] ?_
   refine zzc ?_
   refine sq9 ?_
   refine zza 64 (.v (.int .i64 0)) ?_
   refine zza 65 (.v (.bool false)) ?_
   refine zzb 72 [(6, .adr 6 0), (12, .v a.v), (15, .v y60.v), (16, .v (.int .i64 0)), (65, .v (.bool false))] [(6, ⟨31, [.slice none 0 0, .slice none 0 0]⟩)] ?_
   refine zyr (by kernel_rfl) ?_
   refine zzr (zzo ?_)
   refine sq9 ?_
   refine zza 68 (.v a.v) ?_
   refine zzf 69 53 [a.v] ?_
   intro w65 u65 e65 d65
   have k70 := k_poTrim d65 (hA.ext (e59.trans (g63.ext.trans e65))).raw (by omega) (by first | omega | (simp; done) | (simp; omega))
   with_reducible refine Post.mono k70 ?_
   rintro _ u68 g69 ⟨y66, rfl, h67⟩
   have hly66 := h67.len
   refine zza 70 (.v y60.v) ?_
   refine zza 71 (.v (.agg #[y66.v, y60.v])) ?_
   refine zzi ⟨31, [y66.v, y60.v]⟩ ty31 ?_
   refine zza 7 (.v (.int .i64 0)) ?_
   refine zzb 72 [(6, .adr 6 0), (7, .v (.int .i64 0))] [(6, ⟨31, [y66.v, y60.v]⟩)] ?_
   refine zzn (ret0 [.agg #[.slice y66.a y66.n y66.c, .slice y60.a y60.n y60.c], .int .i64 0] ⟨zzq ty31 zzd, zzp, trivial⟩ fun u71 e72 => ?_)
   have hi9 : i = m.length := by omega
   refine ⟨y66, y60, rfl, ?_, PolN.more (K := (Nt.upK (Nt.wqL W.f l).length)) (h61.ext (e65.trans (g69.ext.trans e72))) (by omega)⟩
   have h9 := (h67.ext e72)
   rw [hi9] at h9
   exact h9.more (by omega)
theorem k_in {u w : World} {z a b : Int} (d : Dat u w) : Calls Tryz.prog 118 #[.int .i64 z, .int .i64 a, .int .i64 b] w (Post u w fun v _ => v = .bool (decide (a ≤ z) && decide (z ≤ b))) := by
 refine zzl (args := [.int .i64 z, .int .i64 a, .int .i64 b]) Tryz.func118 rfl Tryz.ntmps118 (rs := [.tmp 6]) Tryz.results118 (le_b rfl) (le_b rfl) d ?_
 refine sq9 ?_
 refine zza 6 (.v (.bool false)) ?_
 refine zzb 15 [(0, .v (.int .i64 z)), (1, .v (.int .i64 a)), (2, .v (.int .i64 b))] [] ?_
 refine sq9 ?_
 refine zza 7 (.v (.int .i64 z)) ?_
 refine zza 8 (.v (.int .i64 a)) ?_
 refine zza 9 (.v (.bool (decide (a ≤ z)))) ?_
 rcases Bool.eq_false_or_eq_true (decide (a ≤ z)) with hs11 | hs11
 ·refine zyp 10 (x := .v (.bool (decide (a ≤ z)))) (.v (.bool true)) (by rw [hs11]) ?_
  have qhs11 := of_decide_eq_true hs11
  refine zza 11 (.v (.int .i64 z)) ?_ (hw := w1 3 true 10)
  refine zza 12 (.v (.int .i64 b)) ?_ (hw := w1 3 true 10)
  refine zza 13 (.v (.bool (decide (z ≤ b)))) ?_ (hw := w1 3 true 10)
  refine zza 14 (.v (.bool (decide (z ≤ b)))) ?_
  refine zza 6 (.v (.bool (decide (z ≤ b)))) ?_
  refine zzb 15 [(6, .v (.bool (decide (z ≤ b))))] [] ?_
  refine zzn (ret0 [.bool (decide (z ≤ b))] ⟨zzp, trivial⟩ fun u12 e13 => ?_)
  show Value.bool _ = Value.bool _
  rw [hs11]
  rfl
 ·refine zyp 10 (x := .v (.bool (decide (a ≤ z)))) (.v (.bool false)) (by rw [hs11]) ?_
  have qhs11 := of_decide_eq_false hs11
  refine zzm 11 (uw 3 true false 10) ?_
  refine zzm 12 (uw 3 true false 10) ?_
  refine zzm 13 (uw 3 true false 10) ?_
  refine zza 14 (.v (.bool false)) ?_
  refine zza 6 (.v (.bool false)) ?_
  refine zzb 15 [(6, .v (.bool false))] [] ?_
  refine zzn (ret0 [.bool false] ⟨zzp, trivial⟩ fun u14 e15 => ?_)
  show Value.bool _ = Value.bool _
  rw [hs11]
  rfl
theorem k_r21Valid {u w : World} {W : WL} (d : Dat u w) (hW : WdOK W) : Calls Tryz.prog 68 #[W.v] w (Post u w fun v _ => v = .bool true) := by
 obtain ⟨hw1, hw2, hw3, hw4, hw5, hw6, hw7, hw8⟩ := id hW
 refine zzl (args := [.agg #[.int .i64 W.b, .int .i64 W.f, .int .i64 W.r, .int .i64 W.o]]) Tryz.func68 rfl Tryz.ntmps68 (rs := [.tmp 2]) Tryz.results68 (le_b rfl) (le_b rfl) d ?_
 refine sq9 ?_
 refine zzj 1 ⟨24, [.int .i64 W.b, .int .i64 W.f, .int .i64 W.r, .int .i64 W.o]⟩ ?_
 refine zza 2 (.v (.bool false)) ?_
 refine zzb 24 [(1, .adr 1 0)] [(1, ⟨24, [.int .i64 W.b, .int .i64 W.f, .int .i64 W.r, .int .i64 W.o]⟩)] ?_
 refine sq9 ?_
 refine zza 3 (.adr 1 0) ?_
 refine zzh 4 (.v (.int .i64 W.b)) ty3 zzk ?_
 refine zzf 5 118 [.int .i64 W.b, .int .i64 4, .int .i64 24] ?_
 intro w11 u11 e11 d11
 have k14 := k_in d11 (z := W.b) (a := 4) (b := 24)
 with_reducible refine Post.mono k14 ?_
 rintro _ u12 g13 rfl
 refine zyp 6 (x := .v (.bool (decide ((4 : Int) ≤ W.b) && decide (W.b ≤ 24)))) (.v (.bool true)) (by rw [show (decide ((4 : Int) ≤ W.b) && decide (W.b ≤ 24)) = true from (by simp; omega)]) ?_
 refine zza 7 (.adr 1 1) ?_ (hw := w1 3 true 6)
 refine zzh 8 (.v (.int .i64 W.f)) ty3 zzk ?_ (hw := w1 3 true 6)
 refine zza 9 (.adr 1 0) ?_ (hw := w1 3 true 6)
 refine zzh 10 (.v (.int .i64 W.b)) ty3 zzk ?_ (hw := w1 3 true 6)
 refine zyp 11 (x := .v (.int .i64 (IntKind.i64.wrap (W.b - 1)))) (.v (.int .i64 (W.b - 1))) (by rw [IntWalk.i64_in _ (by omega)]) ?_ (hw := w1 3 true 6)
 refine zzf 12 118 [.int .i64 W.f, .int .i64 0, .int .i64 (W.b - 1)] ?_ (hw := w1 3 true 6)
 intro w16 u16 e16 d16
 have k19 := k_in d16 (z := W.f) (a := 0) (b := W.b - 1)
 with_reducible refine Post.mono k19 ?_
 rintro _ u17 g18 rfl
 refine zza 13 (.v (.bool (decide ((0 : Int) ≤ W.f) && decide (W.f ≤ (W.b - 1))))) ?_
 refine zyp 14 (x := .v (.bool (decide ((0 : Int) ≤ W.f) && decide (W.f ≤ (W.b - 1))))) (.v (.bool true)) (by rw [show (decide ((0 : Int) ≤ W.f) && decide (W.f ≤ (W.b - 1))) = true from (by simp; omega)]) ?_
 refine zza 15 (.adr 1 2) ?_ (hw := w1 11 true 14)
 refine zzh 16 (.v (.int .i64 W.r)) ty3 zzk ?_ (hw := w1 11 true 14)
 refine zzf 17 118 [.int .i64 W.r, .int .i64 1, .int .i64 3] ?_ (hw := w1 11 true 14)
 intro w21 u21 e21 d21
 have k24 := k_in d21 (z := W.r) (a := 1) (b := 3)
 with_reducible refine Post.mono k24 ?_
 rintro _ u22 g23 rfl
 refine zza 18 (.v (.bool (decide ((1 : Int) ≤ W.r) && decide (W.r ≤ 3)))) ?_
 refine zyp 19 (x := .v (.bool (decide ((1 : Int) ≤ W.r) && decide (W.r ≤ 3)))) (.v (.bool true)) (by rw [show (decide ((1 : Int) ≤ W.r) && decide (W.r ≤ 3)) = true from (by simp; omega)]) ?_
 refine zza 20 (.adr 1 3) ?_ (hw := w1 16 true 19)
 refine zzh 21 (.v (.int .i64 W.o)) ty3 zzk ?_ (hw := w1 16 true 19)
 refine zzf 22 118 [.int .i64 W.o, .int .i64 1, .int .i64 2] ?_ (hw := w1 16 true 19)
 intro w26 u26 e26 d26
 have k29 := k_in d26 (z := W.o) (a := 1) (b := 2)
 with_reducible refine Post.mono k29 ?_
 rintro _ u27 g28 rfl
 refine zza 23 (.v (.bool (decide ((1 : Int) ≤ W.o) && decide (W.o ≤ 2)))) ?_
 refine zza 2 (.v (.bool (decide ((1 : Int) ≤ W.o) && decide (W.o ≤ 2)))) ?_
 refine zzb 24 [(2, .v (.bool (decide ((1 : Int) ≤ W.o) && decide (W.o ≤ 2))))] [] ?_
 refine zzn (ret0 [.bool (decide ((1 : Int) ≤ W.o) && decide (W.o ≤ 2))] ⟨zzp, trivial⟩ fun u30 e31 => ?_)
 show Value.bool _ = Value.bool _
 rw [show (decide ((1 : Int) ≤ W.o) && decide (W.o ≤ 2)) = true from (by simp; omega)]
theorem Nt.p2i_nat (i : Nat) : Nt.p2i ((i + 1 : Nat) : Int) = Nt.p2i ((i : Nat) : Int) + Nt.p2i ((i : Nat) : Int) := by
 unfold Nt.p2i
 rw [show (((i + 1 : Nat) : Int)).toNat = i + 1 by omega, show (((i : Nat) : Int)).toNat = i by omega, Int.pow_succ]; omega
theorem Nt.p2i_rs {z : Int} (h : z ≤ 24) : Nt.rs ((Nt.p2i z : Int) : Rat) ≤ 2 := by
 have h1 := Nt.p2i_pos z
 have h2 := Nt.p2i_24 h
 exact Nat.le_trans (Nt.Wh.rs (C := 24) ⟨Nt.p2i z, rfl, by omega⟩) (by decide)
theorem k_power {u w : World} {n : Nat} (d : Dat u w) (hn : n ≤ 24) : Calls Tryz.prog 70 #[.int .i64 (n : Int)] w (Post u w fun v u' => ∃ r : RL, v = r.v ∧ RatN u' r ((Nt.p2i ((n : Nat) : Int) : Int) : Rat) 2) := by
 refine zzl (args := [.int .i64 (n : Int)]) Tryz.func70 rfl Tryz.ntmps70 (rs := [.cell 2 41]) Tryz.results70 (le_b rfl) (le_b rfl) d ?_
 refine sq9 ?_
 refine zzj 2 ⟨41, [.bool false, .slice none 0 0, .slice none 0 0]⟩ ?_
 refine zzb 15 [(0, .v (.int .i64 (n : Int))), (2, .adr 2 0)] [(2, ⟨41, [.bool false, .slice none 0 0, .slice none 0 0]⟩)] ?_
 refine sq9 ?_
 refine zzf 5 13 [.int .i64 1] ?_
 intro w11 u11 e11 d11
 have k16 := k_rqOf d11 (z := 1) (by omega) (by omega)
 with_reducible refine Post.mono k16 ?_
 rintro _ u14 g15 ⟨r12, rfl, h13⟩
 refine zzj 3 ⟨41, [.bool false, .slice none 0 0, .slice none 0 0]⟩ ?_
 refine zzi ⟨41, r12.cs⟩ ty41 ?_
 refine zzb 15 [(0, .v (.int .i64 (n : Int))), (2, .adr 2 0), (3, .adr 3 0)] [(2, ⟨41, [.bool false, .slice none 0 0, .slice none 0 0]⟩), (3, ⟨41, r12.cs⟩)] ?_
 refine zzc ?_
 refine sq9 ?_
 refine zza 4 (.v (.int .i64 0)) ?_
 refine zzb 15 [(0, .v (.int .i64 (n : Int))), (2, .adr 2 0), (3, .adr 3 0), (4, .v (.int .i64 0))] [(2, ⟨41, [.bool false, .slice none 0 0, .slice none 0 0]⟩), (3, ⟨41, r12.cs⟩)] ?_
 refine zzs ?_
 refine zym (I := fun m17 S' u' => ∃ (i : Nat) (q : RL), (m17 = n - i) ∧ (i ≤ n) ∧ (S' = St.of 15 [(0, .v (.int .i64 (n : Int))), (2, .adr 2 0), (3, .adr 3 0), (4, .v (.int .i64 (i : Int)))] [(2, ⟨41, [.bool false, .slice none 0 0, .slice none 0 0]⟩), (3, ⟨41, q.cs⟩)]) ∧ (Ext u14 u') ∧ (RatN u' q ((Nt.p2i ((i : Nat) : Int) : Int) : Rat) 2)) (fun m S u1 u2 e h => by obtain ⟨i, q, hm, p0, hS, hE, f0⟩ := h; exact ⟨i, q, hm, p0, hS, hE.trans e, f0.ext e⟩) _ (T := St.of 15 [(0, .v (.int .i64 (n : Int))), (2, .adr 2 0), (3, .adr 3 0), (4, .v (.int .i64 0))] [(2, ⟨41, [.bool false, .slice none 0 0, .slice none 0 0]⟩), (3, ⟨41, r12.cs⟩)]) (by exact zzu _ _ _) ⟨0, r12, rfl, Nat.zero_le _, rfl, Ext.refl _, (show RatN _ _ ((Nt.p2i ((0 : Nat) : Int) : Int) : Rat) 2 from RatN.more (K := 2) h13 (by omega))⟩ ?_
 rintro m17 _ u17 ⟨i, q, hm17, hi, rfl, e17, hQ⟩
 refine zzc ?_
 refine sq9 ?_
 refine zza 6 (.v (.int .i64 (i : Int))) ?_
 refine zza 7 (.v (.int .i64 (n : Int))) ?_
 refine zza 8 (.v (.bool (decide ((i : Int) < (n : Int))))) ?_
 refine zzb 15 [(0, .v (.int .i64 (n : Int))), (2, .adr 2 0), (3, .adr 3 0), (4, .v (.int .i64 (i : Int))), (8, .v (.bool (decide ((i : Int) < (n : Int)))))] [(2, ⟨41, [.bool false, .slice none 0 0, .slice none 0 0]⟩), (3, ⟨41, q.cs⟩)] ?_
 refine zzt (b := decide ((i : Int) < (n : Int))) (by kernel_rfl) (fun hb18 => ?_) (fun hb18 => ?_)
 ·replace hb18 : (decide ((i : Int) < (n : Int))) = true := hb18
  have qhb18 := of_decide_eq_true hb18
  refine zzr (zzo ?_)
  refine zzc ?_
  refine zzs ?_
  refine zze ?_
  refine zzh 11 (.v (q.v)) ty41 zzd ?_
  refine zzh 12 (.v (q.v)) ty41 zzd ?_
  refine zzf 13 150 [q.v, q.v] ?_
  intro w19 u19 e19 d19
  have k24 := k_rqAdd d19 (hQ.ext e19).raw (hQ.ext e19).raw (by omega) (by omega)
  with_reducible refine Post.mono k24 ?_
  rintro _ u22 g23 ⟨r20, rfl, h21⟩
  refine zzi ⟨41, r20.cs⟩ ty41 ?_
  refine zzw ?_
  refine zzo ?_
  refine zze ?_
  refine zza 9 (.v (.int .i64 (i : Int))) ?_
  refine zyp 10 (x := .v (.int .i64 (IntKind.i64.wrap ((i : Int) + 1)))) (.v (.int .i64 ((i + 1 : Nat) : Int))) (eqI (by rw [IntWalk.i64_in _ (by omega)]; omega)) ?_
  refine zza 4 (.v (.int .i64 ((i + 1 : Nat) : Int))) ?_
  refine zzw ?_
  refine ⟨_, ?_, St.of 15 [(0, .v (.int .i64 (n : Int))), (2, .adr 2 0), (3, .adr 3 0), (4, .v (.int .i64 ((i + 1 : Nat) : Int)))] [(2, ⟨41, [.bool false, .slice none 0 0, .slice none 0 0]⟩), (3, ⟨41, r20.cs⟩)], by exact zzu _ _ _, i + 1, r20, rfl, by omega, rfl, (e17.trans (e19.trans g23.ext)), (RatN.fit (K := (2 + 2 + 2)) (by rw [Nt.p2i_nat, Rat.intCast_add]; exact h21) (Nt.p2i_rs (by omega)))⟩
  omega
 ·replace hb18 : (decide ((i : Int) < (n : Int))) = false := hb18
  have qhb18 := of_decide_eq_false hb18
  refine zyb ?_
  refine zzo ?_
  refine sq9 ?_
  refine zzh 14 (.v (q.v)) ty41 zzd ?_
  refine zzi ⟨41, q.cs⟩ ty41 ?_
  refine zzb 15 [(2, .adr 2 0)] [(2, ⟨41, q.cs⟩)] ?_
  refine zzn (ret0 [q.v] ⟨zzq ty41 zzd, trivial⟩ fun u25 e26 => ?_)
  have hin : i = n := by omega
  subst hin
  exact ⟨q, rfl, (hQ.ext e26)⟩
theorem k_powerI {u w : World} {z : Int} (d : Dat u w) (h0 : 0 ≤ z) (h1 : z ≤ 24) : Calls Tryz.prog 70 #[.int .i64 z] w (Post u w fun v u' => ∃ r : RL, v = r.v ∧ RatN u' r ((Nt.p2i z : Int) : Rat) 2) := by
 have := k_power (n := z.toNat) d (by omega)
 rw [Int.toNat_of_nonneg h0] at this
 exact this
theorem k_rqDivN {u w : World} {r1 r2 : RL} {x y : Rat} {K L : Nat} (d : Dat u w) (hr1 : RatV u r1 x K) (hr2 : RatV u r2 y L) (hy : y ≠ 0) (hK : K ≤ 10000000) (hL : L ≤ 10000000) : Calls Tryz.prog 69 #[r1.v, r2.v] w (Post u w fun v u' => ∃ r : RL, v = .tuple #[r.v, .int .i64 0] ∧ RatN u' r (x / y) (K + L + 1)) :=
 Post.mono (k_rqDiv d hr1 hr2 (by omega) (by omega)) fun v u' _ h => h.elim (fun h => absurd h.2 hy) (fun h => h.2)
theorem Nt.p2i_ne (z : Int) : ((Nt.p2i z : Int) : Rat) ≠ 0 := fun e => by
 have h : Nt.p2i z = 0 := Rat.intCast_inj.1 e
 have := Nt.p2i_pos z
 omega
set_option maxHeartbeats 1000000 in
theorem k_r21Value {u w : World} {W : WL} {z : Int} (d : Dat u w) (hW : WdOK W) (h0 : -16777216 ≤ z) (h1 : z ≤ 16777216) : Calls Tryz.prog 15 #[W.v, .int .i64 z] w (Post u w fun v u' => ∃ r : RL, v = r.v ∧ RatN u' r (((z : Int) : Rat) / ((Nt.p2i W.f : Int) : Rat)) 8) := by
 obtain ⟨hw1, hw2, hw3, hw4, hw5, hw6, hw7, hw8⟩ := id hW
 refine zzl (args := [.agg #[.int .i64 W.b, .int .i64 W.f, .int .i64 W.r, .int .i64 W.o], .int .i64 z]) Tryz.func15 rfl Tryz.ntmps15 (rs := [.cell 4 41]) Tryz.results15 (le_b rfl) (le_b rfl) d ?_
 refine sq9 ?_
 refine zzj 2 ⟨24, [.int .i64 W.b, .int .i64 W.f, .int .i64 W.r, .int .i64 W.o]⟩ ?_
 refine zzj 4 ⟨41, [.bool false, .slice none 0 0, .slice none 0 0]⟩ ?_
 refine zzb 21 [(1, .v (.int .i64 z)), (2, .adr 2 0), (4, .adr 4 0)] [(2, ⟨24, [.int .i64 W.b, .int .i64 W.f, .int .i64 W.r, .int .i64 W.o]⟩), (4, ⟨41, [.bool false, .slice none 0 0, .slice none 0 0]⟩)] ?_
 refine zzc ?_
 refine sq9 ?_
 refine zzh 7 (.v (.agg #[.int .i64 W.b, .int .i64 W.f, .int .i64 W.r, .int .i64 W.o])) ty24 zzd ?_
 refine zzf 8 68 [.agg #[.int .i64 W.b, .int .i64 W.f, .int .i64 W.r, .int .i64 W.o]] ?_
 intro w11 u11 e11 d11
 have k14 := k_r21Valid (W := W) d11 hW
 with_reducible refine Post.mono k14 ?_
 rintro _ u12 g13 rfl
 refine zza 9 (.v (.bool false)) ?_
 refine zzb 21 [(1, .v (.int .i64 z)), (2, .adr 2 0), (4, .adr 4 0), (9, .v (.bool false))] [(2, ⟨24, [.int .i64 W.b, .int .i64 W.f, .int .i64 W.r, .int .i64 W.o]⟩), (4, ⟨41, [.bool false, .slice none 0 0, .slice none 0 0]⟩)] ?_
 refine zyr (by kernel_rfl) ?_
 refine zzr (zzo ?_)
 refine zzc ?_
 refine zzy [0, 1, 0, 4, 15, 31, 63, 127, 127, 0, 767, 2047] [(0, []), (2, []), (3, []), (9, []), (1, []), (4, []), (5, []), (6, []), (7, []), (8, []), (10, []), (11, [])] (by kernel_rfl) (by kernel_rfl) ?_
 refine zza 12 (.v (.int .i64 z)) ?_
 refine zza 14 (.adr 2 1) ?_
 refine zzh 15 (.v (.int .i64 W.f)) ty3 zzk ?_
 refine zzj 5 ⟨41, [.bool false, .slice none 0 0, .slice none 0 0]⟩ ?_
 refine zzf 13 13 [.int .i64 z] ?_
 intro w15 u15 e15 d15
 have k20 := k_rqOf d15 (z := z) (by omega) (by omega)
 with_reducible refine Post.mono k20 ?_
 rintro _ u18 g19 ⟨r16, rfl, h17⟩
 refine zzf 16 70 [.int .i64 W.f] ?_
 intro w21 u21 e21 d21
 have k26 := k_powerI (z := W.f) d21 (by omega) (by omega)
 with_reducible refine Post.mono k26 ?_
 rintro _ u24 g25 ⟨r22, rfl, h23⟩
 refine zzf 17 69 [r16.v, r22.v] ?_
 intro w27 u27 e27 d27
 have k32 := k_rqDivN d27 (h17.ext (e21.trans (g25.ext.trans e27))).raw (h23.ext e27).raw (Nt.p2i_ne _) (by omega) (by omega)
 with_reducible refine Post.mono k32 ?_
 rintro _ u30 g31 ⟨r28, rfl, h29⟩
 refine zza 11 (.v (.tuple #[r28.v, .int .i64 0])) ?_
 refine zza 18 (.v (r28.v)) ?_
 refine zza 19 (.v (.int .i64 0)) ?_
 refine zzi ⟨41, r28.cs⟩ ty41 ?_
 refine zza 6 (.v (.int .i64 0)) ?_
 refine zzb 21 [(4, .adr 4 0), (5, .adr 5 0)] [(4, ⟨41, [.bool false, .slice none 0 0, .slice none 0 0]⟩), (5, ⟨41, r28.cs⟩)] ?_
 refine sq9 ?_
 refine zzh 20 (.v (r28.v)) ty41 zzd ?_
 refine zzi ⟨41, r28.cs⟩ ty41 ?_
 refine zzb 21 [(4, .adr 4 0)] [(4, ⟨41, r28.cs⟩)] ?_
 refine zzn (ret0 [r28.v] ⟨zzq ty41 zzd, trivial⟩ fun u33 e34 => ?_)
 exact ⟨r28, rfl, RatN.more (K := (2 + 2 + 1)) (h29.ext e34) (by omega)⟩
set_option maxHeartbeats 4000000 in
theorem w_latRefl {u w : World} {x y : Sl} {l m : List Int} {k : Int} (d : Dat u w) (hx : SlR .i64 u x.a x.n x.c l) (hb : ∀ z ∈ l, -9223372036854775808 ≤ z ∧ z ≤ 9223372036854775807) (hy : SlR .i64 u y.a y.n y.c m) (hc : ∀ z ∈ m, -9223372036854775808 ≤ z ∧ z ≤ 9223372036854775807) (hk0 : -9223372036854775808 ≤ k) (hk1 : k ≤ 9223372036854775807) : Calls Tryz.prog 3 #[x.v, y.v, .int .i64 k] w (Post u w fun v _ => v = .bool true) := by
 refine zzl (args := [.slice x.a x.n x.c, .slice y.a y.n y.c, .int .i64 k]) Tryz.func3 rfl Tryz.ntmps3 (rs := [.tmp 6]) Tryz.results3 (le_b rfl) (le_b rfl) d ?_
 refine sq9 ?_
 refine zza 6 (.v (.bool false)) ?_
 refine zzb 76 [(0, .v x.v), (1, .v y.v), (2, .v (.int .i64 k))] [] ?_
 refine sq9 ?_
 refine zza 16 (.v (.int .i64 k)) ?_
 refine zzf 17 9 [.int .i64 k] ?_
 intro w11 u11 e11 d11
 have k16 := k_coef (k := k) d11 (by omega) (by omega)
 with_reducible refine Post.mono k16 ?_
 rintro _ u14 g15 ⟨W12, rfl, hW13⟩
 have hw17 := hW13.ok
 have hw17f : 1 ≤ W12.f := by have h9 := hW13; unfold CoefOK at h9; omega
 have hw17g : W12.f ≤ 24 := by have h9 := hW13; unfold CoefOK at h9; omega
 have hwc : W12.f ≤ 8 ∧ 0 ≤ W12.f ∧ W12.f < W12.b ∧ W12.b ≤ 24 := by have h9 := hW13; unfold CoefOK at h9; omega
 have hu0 := Nt.p2i_pos W12.f
 have hu1 := Nt.p2i_24 (n := W12.f) (by omega)
 refine zzj 7 ⟨24, [.int .i64 0, .int .i64 0, .int .i64 0, .int .i64 0]⟩ ?_
 refine zzi ⟨24, [.int .i64 W12.b, .int .i64 W12.f, .int .i64 W12.r, .int .i64 W12.o]⟩ ty24 ?_
 refine zzb 76 [(0, .v x.v), (1, .v y.v), (7, .adr 7 0)] [(7, ⟨24, [.int .i64 W12.b, .int .i64 W12.f, .int .i64 W12.r, .int .i64 W12.o]⟩)] ?_
 refine sq9 ?_
 refine zza 19 (.v x.v) ?_
 refine zza 20 (.v y.v) ?_
 refine zzh 21 (.v (.agg #[.int .i64 W12.b, .int .i64 W12.f, .int .i64 W12.r, .int .i64 W12.o])) ty24 zzd ?_
 refine zzf 22 10 [x.v, y.v, .agg #[.int .i64 W12.b, .int .i64 W12.f, .int .i64 W12.r, .int .i64 W12.o]] ?_
 intro w18 u18 e18 d18
 have k22 := k_words (W := W12) d18 (hx.ext (e11.trans (g15.ext.trans e18))) hb (hy.ext (e11.trans (g15.ext.trans e18))) hc hw17
 with_reducible refine Post.mono k22 ?_
 rintro _ u20 g21 ⟨y19, z19, p19, q19, rfl, h119, h219, h319, h419, h519, h619⟩
 have hly19 : p19.length = y19.n := h319.1
 have hlz19 : q19.length = z19.n := h419.1
 refine zza 18 (.v (.tuple #[y19.v, z19.v])) ?_
 refine zza 23 (.v y19.v) ?_
 refine zza 24 (.v z19.v) ?_
 refine zza 8 (.v y19.v) ?_
 refine zza 9 (.v z19.v) ?_
 refine zzb 76 [(7, .adr 7 0), (8, .v y19.v), (9, .v z19.v)] [(7, ⟨24, [.int .i64 W12.b, .int .i64 W12.f, .int .i64 W12.r, .int .i64 W12.o]⟩)] ?_
 refine sq9 ?_
 refine zza 26 (.v y19.v) ?_
 refine zza 27 (.v z19.v) ?_
 refine zzh 28 (.v (.agg #[.int .i64 W12.b, .int .i64 W12.f, .int .i64 W12.r, .int .i64 W12.o])) ty24 zzd ?_
 refine zzf 29 11 [y19.v, z19.v, .agg #[.int .i64 W12.b, .int .i64 W12.f, .int .i64 W12.r, .int .i64 W12.o]] ?_
 intro w23 u23 e23 d23
 have k30 := k_latIdealN (W := W12) d23 hw17 (h319.ext e23) h519 (h419.ext e23) h619 (by omega) (by omega)
 with_reducible refine Post.mono k30 ?_
 rintro _ u28 g29 ⟨y24, y25, rfl, h26, h27⟩
 have hly24 := h26.len
 have hly25 := h27.len
 have hmy25 : (Nt.trimQ (Nt.upL (Nt.wqL W12.f p19) (Nt.wqL W12.f p19).length)).length ≤ p19.length + 1 := Nat.le_trans (Nt.zzg _) (by rw [Nt.upL_len, Nt.wqL_len]; exact Nat.le_refl _)
 have hDn := Nt.li_down (f := W12.f) (k := p19) (by omega) (by omega) h519
 refine zza 25 (.v (.tuple #[.agg #[y24.v, y25.v], .int .i64 0])) ?_
 refine zza 30 (.v (.agg #[y24.v, y25.v])) ?_
 refine zza 31 (.v (.int .i64 0)) ?_
 refine zzj 10 ⟨31, [.slice none 0 0, .slice none 0 0]⟩ ?_
 refine zzi ⟨31, [y24.v, y25.v]⟩ ty31 ?_
 refine zza 11 (.v (.int .i64 0)) ?_
 refine zzb 76 [(7, .adr 7 0), (8, .v y19.v), (10, .adr 10 0), (11, .v (.int .i64 0))] [(7, ⟨24, [.int .i64 W12.b, .int .i64 W12.f, .int .i64 W12.r, .int .i64 W12.o]⟩), (10, ⟨31, [y24.v, y25.v]⟩)] ?_
 refine sq9 ?_
 refine zza 33 (.adr 10 1) ?_
 refine zzh 34 (.v y25.v) ty29 zzk ?_
 refine zzf 35 12 [y25.v] ?_
 intro w31 u31 e31 d31
 have k36 := k_reflect d31 (h27.ext e31).raw hDn (by omega) (by omega) (by omega)
 with_reducible refine Post.mono k36 ?_
 rintro _ u34 g35 ⟨y32, rfl, h33⟩
 have hly32 := h33.len
 rw [Nt.refL_len] at hly32
 have hle9 := Nt.lastN_le (Nt.wqL W12.f p19) (Nt.wqL W12.f p19).length
 have hql9 := Nt.wqL_len W12.f p19
 refine zza 32 (.v (.tuple #[y32.v, .int .i64 0])) ?_
 refine zza 36 (.v y32.v) ?_
 refine zza 37 (.v (.int .i64 0)) ?_
 refine zza 12 (.v y32.v) ?_
 refine zza 13 (.v (.int .i64 0)) ?_
 refine zzb 76 [(7, .adr 7 0), (8, .v y19.v), (11, .v (.int .i64 0)), (12, .v y32.v), (13, .v (.int .i64 0))] [(7, ⟨24, [.int .i64 W12.b, .int .i64 W12.f, .int .i64 W12.r, .int .i64 W12.o]⟩)] ?_
 refine zzc ?_
 refine sq9 ?_
 refine zza 38 (.v (.int .i64 0)) ?_
 refine zza 39 (.v (.bool false)) ?_
 refine zza 40 (.v (.bool false)) ?_
 refine zza 41 (.v (.int .i64 0)) ?_ (hw := w1 2 false 40)
 refine zza 42 (.v (.bool false)) ?_ (hw := w1 2 false 40)
 refine zza 43 (.v (.bool false)) ?_
 refine zza 44 (.v (.bool false)) ?_
 refine zza 45 (.v y32.v) ?_ (hw := w1 6 false 44)
 refine zza 46 (.v (.int .i64 (y32.n : Int))) ?_ (hw := w1 6 false 44)
 refine zza 47 (.v y19.v) ?_ (hw := w1 6 false 44)
 refine zza 48 (.v (.int .i64 (y19.n : Int))) ?_ (hw := w1 6 false 44)
 refine zza 49 (.v (.bool (decide ((y19.n : Int) < (y32.n : Int))))) ?_ (hw := w1 6 false 44)
 refine zza 50 (.v (.bool (decide ((y19.n : Int) < (y32.n : Int))))) ?_
 refine zzb 76 [(7, .adr 7 0), (8, .v y19.v), (12, .v y32.v), (50, .v (.bool (decide ((y19.n : Int) < (y32.n : Int)))))] [(7, ⟨24, [.int .i64 W12.b, .int .i64 W12.f, .int .i64 W12.r, .int .i64 W12.o]⟩)] ?_
 refine zzt (b := decide ((y19.n : Int) < (y32.n : Int))) (by kernel_rfl) (fun hb => ?_) (fun hb => ?_)
 ·exact absurd hb (by rw [show (decide ((y19.n : Int) < (y32.n : Int))) = false from decide_eq_false (by omega)]; decide)
 ·clear hb
  refine zzr (zzo ?_)
  refine zzc ?_
  refine sq9 ?_
  refine zza 14 (.v (.int .i64 0)) ?_
  refine zzb 76 [(7, .adr 7 0), (8, .v y19.v), (12, .v y32.v), (14, .v (.int .i64 0))] [(7, ⟨24, [.int .i64 W12.b, .int .i64 W12.f, .int .i64 W12.r, .int .i64 W12.o]⟩)] ?_
  refine zzs ?_
  refine zym (I := fun m37 S' u' => ∃ (i : Nat), (m37 = y19.n - i) ∧ (i ≤ y19.n) ∧ (S' = St.of 76 [(7, .adr 7 0), (8, .v (.slice y19.a y19.n y19.c)), (12, .v (.slice y32.a y32.n y32.c)), (14, .v (.int .i64 (i : Int)))] [(7, ⟨24, [.int .i64 W12.b, .int .i64 W12.f, .int .i64 W12.r, .int .i64 W12.o]⟩)]) ∧ (Ext u34 u')) (fun m S u1 u2 e h => by obtain ⟨i, hm, p0, hS, hE⟩ := h; exact ⟨i, hm, p0, hS, hE.trans e⟩) _ (T := St.of 76 [(7, .adr 7 0), (8, .v (.slice y19.a y19.n y19.c)), (12, .v (.slice y32.a y32.n y32.c)), (14, .v (.int .i64 0))] [(7, ⟨24, [.int .i64 W12.b, .int .i64 W12.f, .int .i64 W12.r, .int .i64 W12.o]⟩)]) (by exact zzu _ _ _) ⟨0, rfl, Nat.zero_le _, rfl, Ext.refl _⟩ ?_
  rintro m37 _ u37 ⟨i, hm37, hi, rfl, e37⟩
  refine zzc ?_
  refine sq9 ?_
  refine zza 51 (.v (.int .i64 (i : Int))) ?_
  refine zza 52 (.v y19.v) ?_
  refine zza 53 (.v (.int .i64 (y19.n : Int))) ?_
  refine zza 54 (.v (.bool (decide ((i : Int) < (y19.n : Int))))) ?_
  refine zzb 76 [(7, .adr 7 0), (8, .v y19.v), (12, .v y32.v), (14, .v (.int .i64 (i : Int))), (54, .v (.bool (decide ((i : Int) < (y19.n : Int)))))] [(7, ⟨24, [.int .i64 W12.b, .int .i64 W12.f, .int .i64 W12.r, .int .i64 W12.o]⟩)] ?_
  refine zzt (b := decide ((i : Int) < (y19.n : Int))) (by kernel_rfl) (fun hb38 => ?_) (fun hb38 => ?_)
  ·replace hb38 : (decide ((i : Int) < (y19.n : Int))) = true := hb38
   have qhb38 := of_decide_eq_true hb38
   refine zzr (zzo ?_)
   refine zzc ?_
   refine zzs ?_
   refine sq9 ?_
   refine zzf 57 13 [.int .i64 0] ?_
   intro w39 u39 e39 d39
   have k44 := k_rqOf d39 (z := 0) (by omega) (by omega)
   with_reducible refine Post.mono k44 ?_
   rintro _ u42 g43 ⟨r40, rfl, h41⟩
   refine zzj 15 ⟨41, [.bool false, .slice none 0 0, .slice none 0 0]⟩ ?_
   refine zzi ⟨41, r40.cs⟩ ty41 ?_
   refine zzb 76 [(7, .adr 7 0), (8, .v y19.v), (12, .v y32.v), (14, .v (.int .i64 (i : Int))), (15, .adr 15 0)] [(7, ⟨24, [.int .i64 W12.b, .int .i64 W12.f, .int .i64 W12.r, .int .i64 W12.o]⟩), (15, ⟨41, r40.cs⟩)] ?_
   refine zzc ?_
   refine sq9 ?_
   refine zza 58 (.v (.int .i64 (i : Int))) ?_
   refine zza 59 (.v y32.v) ?_
   refine zza 60 (.v (.int .i64 (y32.n : Int))) ?_
   refine zza 61 (.v (.bool (decide ((i : Int) < (y32.n : Int))))) ?_
   refine zzb 76 [(7, .adr 7 0), (8, .v y19.v), (12, .v y32.v), (14, .v (.int .i64 (i : Int))), (15, .adr 15 0), (61, .v (.bool (decide ((i : Int) < (y32.n : Int)))))] [(7, ⟨24, [.int .i64 W12.b, .int .i64 W12.f, .int .i64 W12.r, .int .i64 W12.o]⟩), (15, ⟨41, r40.cs⟩)] ?_
   refine zzt (b := decide ((i : Int) < (y32.n : Int))) (by kernel_rfl) (fun hb45 => ?_) (fun hb45 => ?_)
   ·replace hb45 : (decide ((i : Int) < (y32.n : Int))) = true := hb45
    have qhb45 := of_decide_eq_true hb45
    refine zze ?_
    refine zza 62 (.v y32.v) ?_
    refine zza 63 (.v (.int .i64 (i : Int))) ?_
    have hl46 := (h33.ext (e37.trans (e39.trans g43.ext))).len
    obtain ⟨r46, b46, o46, hA46, hc46, hr46⟩ := pol_atN (h33.ext (e37.trans (e39.trans g43.ext))) (i := i) (by omega)
    refine zzz 64 (o46 + i * 3) (n := y32.n) (off := o46) (sz := 3) (i := (i : Int)) (by omega) hA46 (by omega) (by omega) sl28 ?_
    refine zyl 65 r46.cs hc46 ty41 ?_
    refine zzi ⟨41, r46.cs⟩ ty41 ?_
    refine zzb 76 [(7, .adr 7 0), (8, .v y19.v), (12, .v y32.v), (14, .v (.int .i64 (i : Int))), (15, .adr 15 0)] [(7, ⟨24, [.int .i64 W12.b, .int .i64 W12.f, .int .i64 W12.r, .int .i64 W12.o]⟩), (15, ⟨41, r46.cs⟩)] ?_
    refine zzc ?_
    refine zzy [0, 0, 0, 0, 12, 28, 62, 127, 255] [(0, []), (1, []), (2, []), (3, []), (4, []), (5, []), (6, []), (7, []), (8, [])] (by kernel_rfl) (by kernel_rfl) ?_
    refine zzh 66 (.v (r46.v)) ty41 zzd ?_
    refine zzh 67 (.v (.agg #[.int .i64 W12.b, .int .i64 W12.f, .int .i64 W12.r, .int .i64 W12.o])) ty24 zzd ?_
    refine zza 68 (.v y19.v) ?_
    refine zza 69 (.v (.int .i64 (i : Int))) ?_
    have hl47 := ((h319.ext (e23.trans (g29.ext.trans (e31.trans (g35.ext.trans (e37.trans (e39.trans g43.ext)))))))).1
    obtain ⟨b47, o47, hA47, hc47⟩ := ints_at (h319.ext (e23.trans (g29.ext.trans (e31.trans (g35.ext.trans (e37.trans (e39.trans g43.ext))))))) (i := i) (by omega)
    have hz47 := ints_bd h519 (by omega) i
    refine zzz 70 (o47 + i * 1) (n := y19.n) (off := o47) (sz := 1) (i := (i : Int)) (by omega) hA47 (by omega) (by omega) sl22 ?_
    refine zyk 71 (.int .i64 (p19.getD i 0)) hc47 ty3 ?_
    refine zzf 72 15 [.agg #[.int .i64 W12.b, .int .i64 W12.f, .int .i64 W12.r, .int .i64 W12.o], .int .i64 (p19.getD i 0)] ?_
    intro w48 u48 e48 d48
    have k53 := k_r21Value (W := W12) (z := (p19.getD i 0)) d48 hw17 (by omega) (by omega)
    with_reducible refine Post.mono k53 ?_
    rintro _ u51 g52 ⟨r49, rfl, h50⟩
    refine zzf 73 14 [r46.v, r49.v] ?_
    intro w54 u54 e54 d54
    have k57 := k_rqCompare d54 (hr46.ext (e48.trans (g52.ext.trans e54))).raw (h50.ext e54).raw (by omega) (by omega)
    with_reducible refine Post.mono k57 ?_
    rintro _ u55 g56 rfl
    refine zza 74 (.v (.bool ((Nt.cmpQ ((Nt.refL (Nt.upL (Nt.wqL W12.f p19)) (Nt.lastN (Nt.wqL W12.f p19) (Nt.wqL W12.f p19).length)).getD i 0) ((((p19.getD i 0) : Int) : Rat) / ((Nt.p2i W12.f : Int) : Rat))) != 0))) ?_
    refine zzb 76 [(7, .adr 7 0), (8, .v y19.v), (12, .v y32.v), (14, .v (.int .i64 (i : Int))), (74, .v (.bool ((Nt.cmpQ ((Nt.refL (Nt.upL (Nt.wqL W12.f p19)) (Nt.lastN (Nt.wqL W12.f p19) (Nt.wqL W12.f p19).length)).getD i 0) ((((p19.getD i 0) : Int) : Rat) / ((Nt.p2i W12.f : Int) : Rat))) != 0)))] [(7, ⟨24, [.int .i64 W12.b, .int .i64 W12.f, .int .i64 W12.r, .int .i64 W12.o]⟩)] ?_
    refine zzt (b := (Nt.cmpQ ((Nt.refL (Nt.upL (Nt.wqL W12.f p19)) (Nt.lastN (Nt.wqL W12.f p19) (Nt.wqL W12.f p19).length)).getD i 0) ((((p19.getD i 0) : Int) : Rat) / ((Nt.p2i W12.f : Int) : Rat))) != 0) (by kernel_rfl) (fun hb => ?_) (fun hb => ?_)
    ·exact absurd hb (by rw [show ((Nt.cmpQ ((Nt.refL (Nt.upL (Nt.wqL W12.f p19)) (Nt.lastN (Nt.wqL W12.f p19) (Nt.wqL W12.f p19).length)).getD i 0) ((((p19.getD i 0) : Int) : Rat) / ((Nt.p2i W12.f : Int) : Rat))) != 0) = false from (by have h9 := Nt.cmpQ_eq; simp only [bne, h9]; rw [decide_eq_true (by rw [Nt.ref_up _ (by omega)]; exact Nt.wqL_at W12.f p19 (by omega))]; rfl)]; decide)
    ·clear hb
     refine zzr (zzo ?_)
     refine zze ?_
     refine zza 55 (.v (.int .i64 (i : Int))) ?_
     refine zyp 56 (x := .v (.int .i64 (IntKind.i64.wrap ((i : Int) + 1)))) (.v (.int .i64 ((i + 1 : Nat) : Int))) (eqI (by rw [IntWalk.i64_in _ (by omega)]; omega)) ?_
     refine zza 14 (.v (.int .i64 ((i + 1 : Nat) : Int))) ?_
     refine zzw ?_
     refine ⟨_, ?_, St.of 76 [(7, .adr 7 0), (8, .v (.slice y19.a y19.n y19.c)), (12, .v (.slice y32.a y32.n y32.c)), (14, .v (.int .i64 ((i + 1 : Nat) : Int)))] [(7, ⟨24, [.int .i64 W12.b, .int .i64 W12.f, .int .i64 W12.r, .int .i64 W12.o]⟩)], by exact zzu _ _ _, i + 1, rfl, by omega, rfl, (e37.trans (e39.trans (g43.ext.trans (e48.trans (g52.ext.trans (e54.trans g56.ext))))))⟩
     omega
   ·replace hb45 : (decide ((i : Int) < (y32.n : Int))) = false := hb45
    have qhb45 := of_decide_eq_false hb45
    refine zzr (zzo ?_)
    refine zzc ?_
    refine zzy [0, 0, 0, 0, 12, 28, 62, 127, 255] [(0, []), (1, []), (2, []), (3, []), (4, []), (5, []), (6, []), (7, []), (8, [])] (by kernel_rfl) (by kernel_rfl) ?_
    refine zzh 66 (.v (r40.v)) ty41 zzd ?_
    refine zzh 67 (.v (.agg #[.int .i64 W12.b, .int .i64 W12.f, .int .i64 W12.r, .int .i64 W12.o])) ty24 zzd ?_
    refine zza 68 (.v y19.v) ?_
    refine zza 69 (.v (.int .i64 (i : Int))) ?_
    have hl58 := ((h319.ext (e23.trans (g29.ext.trans (e31.trans (g35.ext.trans (e37.trans (e39.trans g43.ext)))))))).1
    obtain ⟨b58, o58, hA58, hc58⟩ := ints_at (h319.ext (e23.trans (g29.ext.trans (e31.trans (g35.ext.trans (e37.trans (e39.trans g43.ext))))))) (i := i) (by omega)
    have hz58 := ints_bd h519 (by omega) i
    refine zzz 70 (o58 + i * 1) (n := y19.n) (off := o58) (sz := 1) (i := (i : Int)) (by omega) hA58 (by omega) (by omega) sl22 ?_
    refine zyk 71 (.int .i64 (p19.getD i 0)) hc58 ty3 ?_
    refine zzf 72 15 [.agg #[.int .i64 W12.b, .int .i64 W12.f, .int .i64 W12.r, .int .i64 W12.o], .int .i64 (p19.getD i 0)] ?_
    intro w59 u59 e59 d59
    have k64 := k_r21Value (W := W12) (z := (p19.getD i 0)) d59 hw17 (by omega) (by omega)
    with_reducible refine Post.mono k64 ?_
    rintro _ u62 g63 ⟨r60, rfl, h61⟩
    refine zzf 73 14 [r40.v, r60.v] ?_
    intro w65 u65 e65 d65
    have k68 := k_rqCompare d65 (h41.ext (e59.trans (g63.ext.trans e65))).raw (h61.ext e65).raw (by omega) (by omega)
    with_reducible refine Post.mono k68 ?_
    rintro _ u66 g67 rfl
    refine zza 74 (.v (.bool ((Nt.cmpQ ((0 : Int) : Rat) ((((p19.getD i 0) : Int) : Rat) / ((Nt.p2i W12.f : Int) : Rat))) != 0))) ?_
    refine zzb 76 [(7, .adr 7 0), (8, .v y19.v), (12, .v y32.v), (14, .v (.int .i64 (i : Int))), (74, .v (.bool ((Nt.cmpQ ((0 : Int) : Rat) ((((p19.getD i 0) : Int) : Rat) / ((Nt.p2i W12.f : Int) : Rat))) != 0)))] [(7, ⟨24, [.int .i64 W12.b, .int .i64 W12.f, .int .i64 W12.r, .int .i64 W12.o]⟩)] ?_
    refine zzt (b := (Nt.cmpQ ((0 : Int) : Rat) ((((p19.getD i 0) : Int) : Rat) / ((Nt.p2i W12.f : Int) : Rat))) != 0) (by kernel_rfl) (fun hb => ?_) (fun hb => ?_)
    ·exact absurd hb (by rw [show ((Nt.cmpQ ((0 : Int) : Rat) ((((p19.getD i 0) : Int) : Rat) / ((Nt.p2i W12.f : Int) : Rat))) != 0) = false from (by have h9 := Nt.cmpQ_eq; simp only [bne, h9]; rw [decide_eq_true (by show (0 : Rat) = Nt.wq (p19.getD i 0) W12.f; rw [← Nt.wqL_at W12.f p19 (by omega)]; exact (Nt.lastN_zero (Nt.wqL W12.f p19) (Nt.wqL W12.f p19).length i (by omega) (by omega)).symm)]; rfl)]; decide)
    ·clear hb
     refine zzr (zzo ?_)
     refine zze ?_
     refine zza 55 (.v (.int .i64 (i : Int))) ?_
     refine zyp 56 (x := .v (.int .i64 (IntKind.i64.wrap ((i : Int) + 1)))) (.v (.int .i64 ((i + 1 : Nat) : Int))) (eqI (by rw [IntWalk.i64_in _ (by omega)]; omega)) ?_
     refine zza 14 (.v (.int .i64 ((i + 1 : Nat) : Int))) ?_
     refine zzw ?_
     refine ⟨_, ?_, St.of 76 [(7, .adr 7 0), (8, .v (.slice y19.a y19.n y19.c)), (12, .v (.slice y32.a y32.n y32.c)), (14, .v (.int .i64 ((i + 1 : Nat) : Int)))] [(7, ⟨24, [.int .i64 W12.b, .int .i64 W12.f, .int .i64 W12.r, .int .i64 W12.o]⟩)], by exact zzu _ _ _, i + 1, rfl, by omega, rfl, (e37.trans (e39.trans (g43.ext.trans (e59.trans (g63.ext.trans (e65.trans g67.ext))))))⟩
     omega
  ·replace hb38 : (decide ((i : Int) < (y19.n : Int))) = false := hb38
   have qhb38 := of_decide_eq_false hb38
   refine zyb ?_
   refine zzo ?_
   refine sq9 ?_
   refine zzf 75 16 [] ?_
   intro w69 u69 e69 d69
   have k72 := k_known25 d69
   with_reducible refine Post.mono k72 ?_
   rintro _ u70 g71 rfl
   refine zza 6 (.v (.bool true)) ?_
   refine zzb 76 [(6, .v (.bool true))] [] ?_
   refine zzn (ret0 [.bool true] ⟨zzp, trivial⟩ fun u73 e74 => ?_)
   exact rfl
end Go.Proofs.YtdmpfhhhlhoeiaaGreat
