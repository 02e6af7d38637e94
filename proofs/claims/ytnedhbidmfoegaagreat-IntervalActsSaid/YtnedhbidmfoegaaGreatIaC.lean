/- Contracts of the reference of rational. Printed by wip/sym/g_rq.py. Contracts of integer. Printed by wip/sym/g_int.py. Contracts of rational. Printed by wip/sym/g_rat.py. Plain laws of intervals of rationals; a copied list of digits. -/
import Derived.Test.YtnedhbidmfoegaaGreatIaB
namespace Go.Proofs.YtnedhbidmfoegaaGreat
open Go.RowKit
set_option linter.unusedVariables false
set_option maxHeartbeats 2000000 in
theorem k_reduce {u w : World} {i1 i2 : IL} {z y : Int} {K L : Nat} (d : Dat u w) (hi1 : IntV u i1 z K) (hi2 : IntV u i2 y L) (hK : K ≤ 400000000) (hL : L ≤ 400000000) : Calls Tryz.prog 106 #[i1.v, i2.v] w (Post u w fun v u' => ∃ r : RL, v = r.v ∧ RatN u' r ((z : Rat) / (y : Rat)) (max K L + 1)) := by
 refine zzk (args := [i1.v, i2.v]) Tryz.func106 rfl Tryz.ntmps106 (rs := [.cell 4 26]) Tryz.results106 (le_b rfl) (le_b rfl) d ?_
 refine sq9 ?_
 refine zzi 2 ⟨24, i1.cs⟩ ?_
 refine zzi 3 ⟨24, i2.cs⟩ ?_
 refine zzi 4 ⟨26, [.bool false, .slice none 0 0, .slice none 0 0]⟩ ?_
 refine zzb 47 [(2, .adr 2 0), (3, .adr 3 0), (4, .adr 4 0)] [(2, ⟨24, i1.cs⟩), (3, ⟨24, i2.cs⟩), (4, ⟨26, [.bool false, .slice none 0 0, .slice none 0 0]⟩)] ?_
 refine zzc ?_
 refine sq9 ?_
 refine zzg 12 (.v (i1.v)) ty24 zzd ?_
 refine zzf 13 125 [i1.v] ?_
 intro w11 u11 e11 d11
 have k14 := k_riSign d11 (hi1.ext e11) (by omega)
 with_reducible refine Post.mono k14 ?_
 rintro _ u12 g13 rfl
 refine zza 14 (.v (.bool ((Nt.cmpS z 0) == 0))) ?_
 rcases Bool.eq_false_or_eq_true ((Nt.cmpS z 0) == 0) with hs15 | hs15
 ·refine zyl 15 (x := .v (.bool ((Nt.cmpS z 0) == 0))) (.v (.bool true)) (by rw [hs15]) ?_
  have hz0 : z = 0 := Nt.cmp_eq0 hs15
  refine zzl 16 (uw 3 false true 15) ?_
  refine zzl 17 (uw 3 false true 15) ?_
  refine zzl 18 (uw 3 false true 15) ?_
  refine zza 19 (.v (.bool true)) ?_
  refine zzb 47 [(2, .adr 2 0), (3, .adr 3 0), (4, .adr 4 0), (19, .v (.bool true))] [(2, ⟨24, i1.cs⟩), (3, ⟨24, i2.cs⟩), (4, ⟨26, [.bool false, .slice none 0 0, .slice none 0 0]⟩)] ?_
  refine zym (by kernel_rfl) ?_
  refine sq9 ?_
  refine sy_data 20 ⟨105, [.int .u32 1]⟩ 1 (fun b16 u17 e18 h19 => ?_)
  refine zza 21 (.v (.agg #[.bool false, .slice none 0 0, .slice (some ⟨b16, 0, none⟩) 1 1])) ?_
  refine zzh ⟨26, [.bool false, .slice none 0 0, .slice (some ⟨b16, 0, none⟩) 1 1]⟩ ty26 ?_
  refine zzb 47 [(4, .adr 4 0)] [(4, ⟨26, [.bool false, .slice none 0 0, .slice (some ⟨b16, 0, none⟩) 1 1]⟩)] ?_
  refine zzm (zzu (ret0 [.agg #[.bool false, .slice none 0 0, .slice (some ⟨b16, 0, none⟩) 1 1]] ⟨zzp ty26 zzd, trivial⟩ fun u20 e21 => ?_))
  refine ⟨(⟨false, ⟨none, 0, 0⟩, (⟨some ⟨b16, 0, none⟩, 1, 1⟩ : Sl)⟩ : RL), rfl, ?_⟩
  have h9 : (z : Rat) / (y : Rat) = ((0 : Int) : Rat) := by rw [hz0]; simp [Rat.div_def]
  rw [h9]
  exact RatN.more (whole_rat (int_zero _ 1) ((one_data h19).ext e21)) (by omega)
 ·refine zyl 15 (x := .v (.bool ((Nt.cmpS z 0) == 0))) (.v (.bool false)) (by rw [hs15]) ?_
  have hz0 : z ≠ 0 := Nt.cmp_ne0 hs15
  refine zzg 16 (.v (i2.v)) ty24 zzd ?_ (hw := w1 3 false 15)
  refine zzf 17 125 [i2.v] ?_ (hw := w1 3 false 15)
  intro w22 u22 e22 d22
  have k25 := k_riSign d22 (hi2.ext (e11.trans (g13.ext.trans e22))) (by omega)
  with_reducible refine Post.mono k25 ?_
  rintro _ u23 g24 rfl
  refine zza 18 (.v (.bool ((Nt.cmpS y 0) == 0))) ?_ (hw := w1 3 false 15)
  refine zza 19 (.v (.bool ((Nt.cmpS y 0) == 0))) ?_
  refine zzb 47 [(2, .adr 2 0), (3, .adr 3 0), (4, .adr 4 0), (19, .v (.bool ((Nt.cmpS y 0) == 0)))] [(2, ⟨24, i1.cs⟩), (3, ⟨24, i2.cs⟩), (4, ⟨26, [.bool false, .slice none 0 0, .slice none 0 0]⟩)] ?_
  refine zzs (b := (Nt.cmpS y 0) == 0) (by kernel_rfl) (fun hb26 => ?_) (fun hb26 => ?_)
  ·replace hb26 : ((Nt.cmpS y 0) == 0) = true := hb26
   have hy0 : y = 0 := Nt.cmp_eq0 hb26
   refine sq9 ?_
   refine sy_data 20 ⟨105, [.int .u32 1]⟩ 1 (fun b27 u28 e29 h30 => ?_)
   refine zza 21 (.v (.agg #[.bool false, .slice none 0 0, .slice (some ⟨b27, 0, none⟩) 1 1])) ?_
   refine zzh ⟨26, [.bool false, .slice none 0 0, .slice (some ⟨b27, 0, none⟩) 1 1]⟩ ty26 ?_
   refine zzb 47 [(4, .adr 4 0)] [(4, ⟨26, [.bool false, .slice none 0 0, .slice (some ⟨b27, 0, none⟩) 1 1]⟩)] ?_
   refine zzm (zzu (ret0 [.agg #[.bool false, .slice none 0 0, .slice (some ⟨b27, 0, none⟩) 1 1]] ⟨zzp ty26 zzd, trivial⟩ fun u31 e32 => ?_))
   refine ⟨(⟨false, ⟨none, 0, 0⟩, (⟨some ⟨b27, 0, none⟩, 1, 1⟩ : Sl)⟩ : RL), rfl, ?_⟩
   have h9 : (z : Rat) / (y : Rat) = ((0 : Int) : Rat) := by rw [hy0]; simp [Rat.div_def]
   rw [h9]
   exact RatN.more (whole_rat (int_zero _ 1) ((one_data h30).ext e32)) (by omega)
  ·replace hb26 : ((Nt.cmpS y 0) == 0) = false := hb26
   have hy0 : y ≠ 0 := Nt.cmp_ne0 hb26
   have hg0 : ((Nat.gcd z.natAbs y.natAbs : Nat) : Int) ≠ 0 := by have h9 := Nat.gcd_pos_of_pos_right z.natAbs (Int.natAbs_pos.2 hy0); omega
   refine zzq (zzn ?_)
   refine sq9 ?_
   refine zzg 22 (.v (i1.v)) ty24 zzd ?_
   refine zzg 23 (.v (i2.v)) ty24 zzd ?_
   refine zzf 24 157 [i1.v, i2.v] ?_
   intro w33 u33 e33 d33
   have k38 := k_riGcd d33 (hi1.ext (e11.trans (g13.ext.trans (e22.trans (g24.ext.trans e33))))) (hi2.ext (e11.trans (g13.ext.trans (e22.trans (g24.ext.trans e33))))) (by omega) (by omega)
   with_reducible refine Post.mono k38 ?_
   rintro _ u36 g37 ⟨i34, rfl, h35⟩
   refine zzi 5 ⟨24, [.bool false, .slice none 0 0]⟩ ?_
   refine zzh ⟨24, i34.cs⟩ ty24 ?_
   refine zzb 47 [(2, .adr 2 0), (3, .adr 3 0), (4, .adr 4 0), (5, .adr 5 0)] [(2, ⟨24, i1.cs⟩), (3, ⟨24, i2.cs⟩), (4, ⟨26, [.bool false, .slice none 0 0, .slice none 0 0]⟩), (5, ⟨24, i34.cs⟩)] ?_
   refine sq9 ?_
   refine zzg 26 (.v (i1.v)) ty24 zzd ?_
   refine zzg 27 (.v (i34.v)) ty24 zzd ?_
   refine zzf 28 158 [i1.v, i34.v] ?_
   intro w39 u39 e39 d39
   have k46 := k_riDiv d39 (hi1.ext (e11.trans (g13.ext.trans (e22.trans (g24.ext.trans (e33.trans (g37.ext.trans e39))))))) (h35.ext e39).raw hg0 (by omega) (by omega)
   with_reducible refine Post.mono k46 ?_
   rintro _ u44 g45 ⟨i40, i42, rfl, h41, h43⟩
   refine zza 25 (.v (.tuple #[i40.v, i42.v, .int .i64 0])) ?_
   refine zza 29 (.v (i40.v)) ?_
   refine zza 30 (.v (i42.v)) ?_
   refine zza 31 (.v (.int .i64 0)) ?_
   refine zzi 6 ⟨24, [.bool false, .slice none 0 0]⟩ ?_
   refine zzi 7 ⟨24, [.bool false, .slice none 0 0]⟩ ?_
   refine zzh ⟨24, i40.cs⟩ ty24 ?_
   refine zzh ⟨24, i42.cs⟩ ty24 ?_
   refine zza 8 (.v (.int .i64 0)) ?_
   refine zzb 47 [(3, .adr 3 0), (4, .adr 4 0), (5, .adr 5 0), (6, .adr 6 0)] [(3, ⟨24, i2.cs⟩), (4, ⟨26, [.bool false, .slice none 0 0, .slice none 0 0]⟩), (5, ⟨24, i34.cs⟩), (6, ⟨24, i40.cs⟩)] ?_
   refine sq9 ?_
   refine zzg 33 (.v (i2.v)) ty24 zzd ?_
   refine zzg 34 (.v (i34.v)) ty24 zzd ?_
   refine zzf 35 158 [i2.v, i34.v] ?_
   intro w47 u47 e47 d47
   have k54 := k_riDiv d47 (hi2.ext (e11.trans (g13.ext.trans (e22.trans (g24.ext.trans (e33.trans (g37.ext.trans (e39.trans (g45.ext.trans e47))))))))) (h35.ext (e39.trans (g45.ext.trans e47))).raw hg0 (by omega) (by omega)
   with_reducible refine Post.mono k54 ?_
   rintro _ u52 g53 ⟨i48, i50, rfl, h49, h51⟩
   refine zza 32 (.v (.tuple #[i48.v, i50.v, .int .i64 0])) ?_
   refine zza 36 (.v (i48.v)) ?_
   refine zza 37 (.v (i50.v)) ?_
   refine zza 38 (.v (.int .i64 0)) ?_
   refine zzi 9 ⟨24, [.bool false, .slice none 0 0]⟩ ?_
   refine zzi 10 ⟨24, [.bool false, .slice none 0 0]⟩ ?_
   refine zzh ⟨24, i48.cs⟩ ty24 ?_
   refine zzh ⟨24, i50.cs⟩ ty24 ?_
   refine zza 11 (.v (.int .i64 0)) ?_
   refine zzb 47 [(4, .adr 4 0), (6, .adr 6 0), (9, .adr 9 0)] [(4, ⟨26, [.bool false, .slice none 0 0, .slice none 0 0]⟩), (6, ⟨24, i40.cs⟩), (9, ⟨24, i48.cs⟩)] ?_
   refine zzc ?_
   refine sq9 ?_
   refine zza 39 (.adr 9 0) ?_
   refine zzg 40 (.v (.bool i48.s)) ty4 zzj ?_
   refine zzb 47 [(4, .adr 4 0), (6, .adr 6 0), (9, .adr 9 0), (40, .v (.bool i48.s))] [(4, ⟨26, [.bool false, .slice none 0 0, .slice none 0 0]⟩), (6, ⟨24, i40.cs⟩), (9, ⟨24, i48.cs⟩)] ?_
   refine zzs (b := i48.s) (by kernel_rfl) (fun hb55 => ?_) (fun hb55 => ?_)
   ·replace hb55 : i48.s = true := hb55
    refine zze ?_
    refine zzg 41 (.v (i40.v)) ty24 zzd ?_
    refine zzf 42 159 [i40.v] ?_
    intro w56 u56 e56 d56
    have k61 := k_riNeg d56 (h41.ext (e47.trans (g53.ext.trans e56))).raw (by omega)
    with_reducible refine Post.mono k61 ?_
    rintro _ u59 g60 ⟨i57, rfl, h58⟩
    refine zzh ⟨24, i57.cs⟩ ty24 ?_
    refine zzb 47 [(4, .adr 4 0), (6, .adr 6 0), (9, .adr 9 0)] [(4, ⟨26, [.bool false, .slice none 0 0, .slice none 0 0]⟩), (6, ⟨24, i57.cs⟩), (9, ⟨24, i48.cs⟩)] ?_
    refine sq9 ?_
    refine zzg 43 (.v (i57.v)) ty24 zzd ?_
    refine zza 44 (.adr 9 1) ?_
    refine zzg 45 (.v i48.m.v) ty22 zzj ?_
    refine zza 46 (.v (.agg #[.bool i57.s, i57.m.v, i48.m.v])) ?_
    refine zzh ⟨26, i57.cs ++ [i48.m.v]⟩ ty26 ?_
    refine zzb 47 [(4, .adr 4 0)] [(4, ⟨26, i57.cs ++ [i48.m.v]⟩)] ?_
    refine zzm (ret0 [.agg #[.bool i57.s, .slice i57.m.a i57.m.n i57.m.c, .slice i48.m.a i48.m.n i48.m.c]] ⟨zzp ty26 zzd, trivial⟩ fun u62 e63 => ?_)
    refine ⟨(⟨i57.s, i57.m, i48.m⟩ : RL), rfl, RatN.more (red_neg hy0 rfl (h58.ext e63) h49 hb55 ((int_mag h49).ext (e56.trans (g60.ext.trans e63)))) (by omega)⟩
   ·replace hb55 : i48.s = false := hb55
    refine zzq (zzn ?_)
    refine sq9 ?_
    refine zzg 43 (.v (i40.v)) ty24 zzd ?_
    refine zza 44 (.adr 9 1) ?_
    refine zzg 45 (.v i48.m.v) ty22 zzj ?_
    refine zza 46 (.v (.agg #[.bool i40.s, i40.m.v, i48.m.v])) ?_
    refine zzh ⟨26, i40.cs ++ [i48.m.v]⟩ ty26 ?_
    refine zzb 47 [(4, .adr 4 0)] [(4, ⟨26, i40.cs ++ [i48.m.v]⟩)] ?_
    refine zzm (ret0 [.agg #[.bool i40.s, .slice i40.m.a i40.m.n i40.m.c, .slice i48.m.a i48.m.n i48.m.c]] ⟨zzp ty26 zzd, trivial⟩ fun u64 e65 => ?_)
    refine ⟨(⟨i40.s, i40.m, i48.m⟩ : RL), rfl, RatN.more (red_pos hy0 rfl (h41.ext (e47.trans (g53.ext.trans e65))) h49 hb55 ((int_mag h49).ext e65)) (by omega)⟩
theorem k_parts {u w : World} {r : RL} {q : Rat} {K : Nat} (d : Dat u w) (h : RatV u r q K) (hKK : K ≤ 400000000) : Calls Tryz.prog 105 #[r.v] w (Post u w (PartV q K)) := by
 obtain ⟨⟨z, D, hi, hd, hq⟩, hK⟩ := h
 change IntV u ⟨r.s, r.m⟩ z K at hi
 change NatV u r.d D K at hd
 refine zzk (args := [r.v]) Tryz.func105 rfl Tryz.ntmps105 (rs := [.cell 2 24, .cell 3 24]) Tryz.results105 (le_b rfl) (le_b rfl) d ?_
 refine sq9 ?_
 refine zzi 1 ⟨26, r.cs⟩ ?_
 refine zzi 2 ⟨24, [.bool false, .slice none 0 0]⟩ ?_
 refine zzi 3 ⟨24, [.bool false, .slice none 0 0]⟩ ?_
 refine zzb 19 [(1, .adr 1 0), (2, .adr 2 0), (3, .adr 3 0)] [(1, ⟨26, r.cs⟩), (2, ⟨24, [.bool false, .slice none 0 0]⟩), (3, ⟨24, [.bool false, .slice none 0 0]⟩)] ?_
 refine sq9 ?_
 refine zza 5 (.adr 1 2) ?_
 refine zzg 6 (.v r.d.v) ty22 zzj ?_
 refine zzf 7 156 [r.d.v] ?_
 intro w11 u11 e11 d11
 have k16 := k_rnTrim d11 (hd.ext e11) (by omega)
 with_reducible refine Post.mono k16 ?_
 rintro _ u14 g15 ⟨x12, rfl, h13⟩
 refine zza 8 (.v (.agg #[.bool false, x12.v])) ?_
 refine zzi 4 ⟨24, [.bool false, .slice none 0 0]⟩ ?_
 refine zzh ⟨24, [.bool false, x12.v]⟩ ty24 ?_
 refine zzb 19 [(1, .adr 1 0), (2, .adr 2 0), (3, .adr 3 0), (4, .adr 4 0)] [(1, ⟨26, r.cs⟩), (2, ⟨24, [.bool false, .slice none 0 0]⟩), (3, ⟨24, [.bool false, .slice none 0 0]⟩), (4, ⟨24, [.bool false, x12.v]⟩)] ?_
 refine zzc ?_
 refine sq9 ?_
 refine zza 9 (.adr 4 1) ?_
 refine zzg 10 (.v x12.v) ty22 zzj ?_
 refine zza 11 (.v (.int .i64 (x12.n : Int))) ?_
 refine zza 12 (.v (.bool ((x12.n : Int) == 0))) ?_
 refine zzb 19 [(1, .adr 1 0), (2, .adr 2 0), (3, .adr 3 0), (4, .adr 4 0), (12, .v (.bool ((x12.n : Int) == 0)))] [(1, ⟨26, r.cs⟩), (2, ⟨24, [.bool false, .slice none 0 0]⟩), (3, ⟨24, [.bool false, .slice none 0 0]⟩), (4, ⟨24, [.bool false, x12.v]⟩)] ?_
 refine zzs (b := (x12.n : Int) == 0) (by kernel_rfl) (fun hb17 => ?_) (fun hb17 => ?_)
 ·replace hb17 : ((x12.n : Int) == 0) = true := hb17
  have qhb17 : (x12.n : Int) = 0 := by simpa using hb17
  refine sq9 ?_
  refine zza 13 (.v (.agg #[.bool false, .slice none 0 0])) ?_
  refine sy_data 14 ⟨105, [.int .u32 1]⟩ 1 (fun b18 u19 e20 h21 => ?_)
  refine zza 15 (.v (.agg #[.bool false, .slice (some ⟨b18, 0, none⟩) 1 1])) ?_
  refine zzh ⟨24, [.bool false, .slice none 0 0]⟩ ty24 ?_
  refine zzh ⟨24, [.bool false, .slice (some ⟨b18, 0, none⟩) 1 1]⟩ ty24 ?_
  refine zzb 19 [(2, .adr 2 0), (3, .adr 3 0)] [(2, ⟨24, [.bool false, .slice none 0 0]⟩), (3, ⟨24, [.bool false, .slice (some ⟨b18, 0, none⟩) 1 1]⟩)] ?_
  refine zzm (zzu (ret0 [.agg #[.bool false, .slice none 0 0], .agg #[.bool false, .slice (some ⟨b18, 0, none⟩) 1 1]] ⟨zzp ty24 zzd, zzp ty24 zzd, trivial⟩ fun u22 e23 => ?_))
  have hp := h13.pos
  have hD : D = 0 := by simp at hb17; omega
  exact ⟨⟨false, ⟨none, 0, 0⟩⟩, ⟨false, (⟨some ⟨b18, 0, none⟩, 1, 1⟩ : Sl)⟩, 0, 1, rfl, (int_zero _ K).raw, nat_intN (((one_data h21).ext e23).more hK), by omega, by rw [hq, hD]; simp, hK⟩
 ·replace hb17 : ((x12.n : Int) == 0) = false := hb17
  have qhb17 : ¬ ((x12.n : Int) = 0) := by simpa using hb17
  refine zzq (zzn ?_)
  refine zzc ?_
  refine zzx [0, 1, 0, 3, 15] [(0, []), (1, []), (2, []), (3, [4]), (4, [])] (by kernel_rfl) (by kernel_rfl) ?_
  refine zza 16 (.adr 1 0) ?_
  refine zzg 17 (.v (.agg #[.bool r.s, r.m.v])) ty24 zzd ?_
  refine zzg 18 (.v (.agg #[.bool false, x12.v])) ty24 zzd ?_
  refine zzh ⟨24, [.bool r.s, r.m.v]⟩ ty24 ?_
  refine zzh ⟨24, [.bool false, x12.v]⟩ ty24 ?_
  refine zzb 19 [(2, .adr 2 0), (3, .adr 3 0)] [(2, ⟨24, [.bool r.s, r.m.v]⟩), (3, ⟨24, [.bool false, x12.v]⟩)] ?_
  refine zzm (ret0 [.agg #[.bool r.s, .slice r.m.a r.m.n r.m.c], .agg #[.bool false, .slice x12.a x12.n x12.c]] ⟨zzp ty24 zzd, zzp ty24 zzd, trivial⟩ fun u24 e25 => ?_)
  have hp := h13.pos
  exact ⟨⟨r.s, r.m⟩, ⟨false, x12⟩, z, D, rfl, (hi.ext (e11.trans (g15.ext.trans e25))), nat_intN (h13.ext e25), by simp at hb17; omega, hq, hK⟩
theorem k_rqTrim {u w : World} {r1 : RL} {x : Rat} {K : Nat} (d : Dat u w) (hr1 : RatV u r1 x K) (hK : K ≤ 100000000) : Calls Tryz.prog 142 #[r1.v] w (Post u w fun v u' => ∃ r : RL, v = r.v ∧ RatN u' r x K) := by
 refine zzk (args := [r1.v]) Tryz.func142 rfl Tryz.ntmps142 (rs := [.cell 2 26]) Tryz.results142 (le_b rfl) (le_b rfl) d ?_
 refine sq9 ?_
 refine zzi 1 ⟨26, r1.cs⟩ ?_
 refine zzi 2 ⟨26, [.bool false, .slice none 0 0, .slice none 0 0]⟩ ?_
 refine zzb 13 [(1, .adr 1 0), (2, .adr 2 0)] [(1, ⟨26, r1.cs⟩), (2, ⟨26, [.bool false, .slice none 0 0, .slice none 0 0]⟩)] ?_
 refine sq9 ?_
 refine zzg 6 (.v (r1.v)) ty26 zzd ?_
 refine zzf 7 105 [r1.v] ?_
 intro w11 u11 e11 d11
 have k15 := k_parts d11 (hr1.ext e11) (by omega)
 with_reducible refine Post.mono k15 ?_
 rintro _ u13 g14 ⟨i12, j12, z12, D12, rfl, hi12, hj12, hp12, hq12, hk12⟩
 refine zza 5 (.v (.tuple #[i12.v, j12.v])) ?_
 refine zza 8 (.v (i12.v)) ?_
 refine zza 9 (.v (j12.v)) ?_
 refine zzi 3 ⟨24, [.bool false, .slice none 0 0]⟩ ?_
 refine zzi 4 ⟨24, [.bool false, .slice none 0 0]⟩ ?_
 refine zzh ⟨24, i12.cs⟩ ty24 ?_
 refine zzh ⟨24, j12.cs⟩ ty24 ?_
 refine zzb 13 [(2, .adr 2 0), (3, .adr 3 0), (4, .adr 4 0)] [(2, ⟨26, [.bool false, .slice none 0 0, .slice none 0 0]⟩), (3, ⟨24, i12.cs⟩), (4, ⟨24, j12.cs⟩)] ?_
 refine sq9 ?_
 refine zzg 10 (.v (i12.v)) ty24 zzd ?_
 refine zzg 11 (.v (j12.v)) ty24 zzd ?_
 refine zzf 12 106 [i12.v, j12.v] ?_
 intro w16 u16 e16 d16
 have k21 := k_reduce d16 (hi12.ext e16) (hj12.ext e16).raw (by omega) (by omega)
 with_reducible refine Post.mono k21 ?_
 rintro _ u19 g20 ⟨r17, rfl, h18⟩
 refine zzh ⟨26, r17.cs⟩ ty26 ?_
 refine zzb 13 [(2, .adr 2 0)] [(2, ⟨26, r17.cs⟩)] ?_
 refine zzm (ret0 [r17.v] ⟨zzp ty26 zzd, trivial⟩ fun u22 e23 => ?_)
 refine ⟨r17, rfl, RatN.fit (K := (max K K + 1)) ?_ (hr1.rs)⟩
 rw [hq12, ← Nt.mk_div]
 exact (h18.ext e23)
theorem k_rqSame {u w : World} {r1 r2 : RL} {x y : Rat} {K L : Nat} (d : Dat u w) (hr1 : RatN u r1 x K) (hr2 : RatN u r2 y L) : Calls Tryz.prog 71 #[r1.v, r2.v] w (Post u w fun v _ => v = .bool (decide (x = y))) := by
 refine zzk (args := [r1.v, r2.v]) Tryz.func71 rfl Tryz.ntmps71 (rs := [.tmp 4]) Tryz.results71 (le_b rfl) (le_b rfl) d ?_
 refine sq9 ?_
 refine zzi 2 ⟨26, r1.cs⟩ ?_
 refine zzi 3 ⟨26, r2.cs⟩ ?_
 refine zza 4 (.v (.bool false)) ?_
 refine zzb 17 [(2, .adr 2 0), (3, .adr 3 0)] [(2, ⟨26, r1.cs⟩), (3, ⟨26, r2.cs⟩)] ?_
 refine sq9 ?_
 refine zza 5 (.adr 2 0) ?_
 refine zzg 6 (.v (.agg #[.bool r1.s, r1.m.v])) ty24 zzd ?_
 refine zza 7 (.adr 3 0) ?_
 refine zzg 8 (.v (.agg #[.bool r2.s, r2.m.v])) ty24 zzd ?_
 refine zzf 9 137 [.agg #[.bool r1.s, r1.m.v], .agg #[.bool r2.s, r2.m.v]] ?_
 intro w11 u11 e11 d11
 have k14 := k_riSame d11 ((RatN.num hr1).ext e11) ((RatN.num hr2).ext e11)
 with_reducible refine Post.mono k14 ?_
 rintro _ u12 g13 rfl
 rcases Bool.eq_false_or_eq_true (decide (x.num = y.num)) with hs15 | hs15
 ·refine zyl 10 (x := .v (.bool (decide (x.num = y.num)))) (.v (.bool true)) (by rw [hs15]) ?_
  have qhs15 := of_decide_eq_true hs15
  refine zza 11 (.adr 2 2) ?_ (hw := w1 5 true 10)
  refine zzg 12 (.v r1.d.v) ty22 zzj ?_ (hw := w1 5 true 10)
  refine zza 13 (.adr 3 2) ?_ (hw := w1 5 true 10)
  refine zzg 14 (.v r2.d.v) ty22 zzj ?_ (hw := w1 5 true 10)
  refine zzf 15 138 [r1.d.v, r2.d.v] ?_ (hw := w1 5 true 10)
  intro w16 u16 e16 d16
  have k19 := k_rnSame d16 ((RatN.den hr1).ext (e11.trans (g13.ext.trans e16))) ((RatN.den hr2).ext (e11.trans (g13.ext.trans e16)))
  with_reducible refine Post.mono k19 ?_
  rintro _ u17 g18 rfl
  refine zza 16 (.v (.bool (decide (x.den = y.den)))) ?_
  refine zza 4 (.v (.bool (decide (x.den = y.den)))) ?_
  refine zzb 17 [(4, .v (.bool (decide (x.den = y.den))))] [] ?_
  refine zzm (ret0 [.bool (decide (x.den = y.den))] ⟨zzo, trivial⟩ fun u20 e21 => ?_)
  show _ = _
  rw [← Nt.same_q, hs15]
  rfl
 ·refine zyl 10 (x := .v (.bool (decide (x.num = y.num)))) (.v (.bool false)) (by rw [hs15]) ?_
  have qhs15 := of_decide_eq_false hs15
  refine zzl 11 (uw 5 true false 10) ?_
  refine zzl 12 (uw 5 true false 10) ?_
  refine zzl 13 (uw 5 true false 10) ?_
  refine zzl 14 (uw 5 true false 10) ?_
  refine zzl 15 (uw 5 true false 10) ?_
  refine zza 16 (.v (.bool false)) ?_
  refine zza 4 (.v (.bool false)) ?_
  refine zzb 17 [(4, .v (.bool false))] [] ?_
  refine zzm (ret0 [.bool false] ⟨zzo, trivial⟩ fun u22 e23 => ?_)
  show _ = _
  rw [← Nt.same_q, hs15]
  rfl
theorem k_rqOf {u w : World} {z : Int} (d : Dat u w) (h0 : -9223372036854775808 ≤ z) (h1 : z ≤ 9223372036854775807) : Calls Tryz.prog 41 #[.int .i64 z] w (Post u w fun v u' => ∃ r : RL, v = r.v ∧ RatN u' r (z : Rat) 2) := by
 refine zzk (args := [.int .i64 z]) Tryz.func41 rfl Tryz.ntmps41 (rs := [.cell 2 26]) Tryz.results41 (le_b rfl) (le_b rfl) d ?_
 refine sq9 ?_
 refine zzi 2 ⟨26, [.bool false, .slice none 0 0, .slice none 0 0]⟩ ?_
 refine zzb 7 [(0, .v (.int .i64 z)), (2, .adr 2 0)] [(2, ⟨26, [.bool false, .slice none 0 0, .slice none 0 0]⟩)] ?_
 refine sq9 ?_
 refine zza 3 (.v (.int .i64 z)) ?_
 refine zzf 4 123 [.int .i64 z] ?_
 intro w11 u11 e11 d11
 have k16 := k_riOf d11 (z := z) (by omega) (by omega)
 with_reducible refine Post.mono k16 ?_
 rintro _ u14 g15 ⟨i12, rfl, h13⟩
 refine sy_data 5 ⟨105, [.int .u32 1]⟩ 1 (fun b17 u18 e19 h20 => ?_)
 refine zza 6 (.v (.agg #[.bool i12.s, i12.m.v, .slice (some ⟨b17, 0, none⟩) 1 1])) ?_
 refine zzh ⟨26, i12.cs ++ [.slice (some ⟨b17, 0, none⟩) 1 1]⟩ ty26 ?_
 refine zzb 7 [(2, .adr 2 0)] [(2, ⟨26, i12.cs ++ [.slice (some ⟨b17, 0, none⟩) 1 1]⟩)] ?_
 refine zzm (ret0 [.agg #[.bool i12.s, .slice i12.m.a i12.m.n i12.m.c, .slice (some ⟨b17, 0, none⟩) 1 1]] ⟨zzp ty26 zzd, trivial⟩ fun u21 e22 => ?_)
 refine ⟨(⟨i12.s, i12.m, (⟨some ⟨b17, 0, none⟩, 1, 1⟩ : Sl)⟩ : RL), rfl, ?_⟩
 exact whole_rat (h13.ext (e19.trans e22)) ((one_data h20).ext e22)
theorem k_rqFrac {u w : World} {a b : Int} (d : Dat u w) (ha0 : -9223372036854775808 ≤ a) (ha1 : a ≤ 9223372036854775807) (hb0 : -9223372036854775808 ≤ b) (hb1 : b ≤ 9223372036854775807) : Calls Tryz.prog 49 #[.int .i64 a, .int .i64 b] w (Post u w fun v u' => ∃ r : RL, v = r.v ∧ RatN u' r ((a : Rat) / (b : Rat)) 3) := by
 refine zzk (args := [.int .i64 a, .int .i64 b]) Tryz.func49 rfl Tryz.ntmps49 (rs := [.cell 4 26]) Tryz.results49 (le_b rfl) (le_b rfl) d ?_
 refine sq9 ?_
 refine zzi 4 ⟨26, [.bool false, .slice none 0 0, .slice none 0 0]⟩ ?_
 refine zzb 10 [(0, .v (.int .i64 a)), (1, .v (.int .i64 b)), (4, .adr 4 0)] [(4, ⟨26, [.bool false, .slice none 0 0, .slice none 0 0]⟩)] ?_
 refine sq9 ?_
 refine zza 5 (.v (.int .i64 a)) ?_
 refine zzf 6 123 [.int .i64 a] ?_
 intro w11 u11 e11 d11
 have k16 := k_riOf d11 (z := a) (by omega) (by omega)
 with_reducible refine Post.mono k16 ?_
 rintro _ u14 g15 ⟨i12, rfl, h13⟩
 refine zza 7 (.v (.int .i64 b)) ?_
 refine zzf 8 123 [.int .i64 b] ?_
 intro w17 u17 e17 d17
 have k22 := k_riOf d17 (z := b) (by omega) (by omega)
 with_reducible refine Post.mono k22 ?_
 rintro _ u20 g21 ⟨i18, rfl, h19⟩
 refine zzf 9 106 [i12.v, i18.v] ?_
 intro w23 u23 e23 d23
 have k28 := k_reduce d23 (h13.ext (e17.trans (g21.ext.trans e23))).raw (h19.ext e23).raw (by omega) (by omega)
 with_reducible refine Post.mono k28 ?_
 rintro _ u26 g27 ⟨r24, rfl, h25⟩
 refine zzh ⟨26, r24.cs⟩ ty26 ?_
 refine zzb 10 [(4, .adr 4 0)] [(4, ⟨26, r24.cs⟩)] ?_
 refine zzm (ret0 [r24.v] ⟨zzp ty26 zzd, trivial⟩ fun u29 e30 => ?_)
 refine ⟨r24, rfl, RatN.more (K := (max 2 2 + 1)) ?_ (by omega)⟩
 exact (h25.ext e30)
theorem k_rqSign {u w : World} {r1 : RL} {x : Rat} {K : Nat} (d : Dat u w) (hr1 : RatV u r1 x K) (hK : K ≤ 100000000) : Calls Tryz.prog 43 #[r1.v] w (Post u w fun v u' => v = .int .i64 (Nt.sgQ x)) := by
 refine zzk (args := [r1.v]) Tryz.func43 rfl Tryz.ntmps43 (rs := [.tmp 2]) Tryz.results43 (le_b rfl) (le_b rfl) d ?_
 refine sq9 ?_
 refine zzi 1 ⟨26, r1.cs⟩ ?_
 refine zza 2 (.v (.int .i64 0)) ?_
 refine zzb 12 [(1, .adr 1 0)] [(1, ⟨26, r1.cs⟩)] ?_
 refine sq9 ?_
 refine zzg 6 (.v (r1.v)) ty26 zzd ?_
 refine zzf 7 105 [r1.v] ?_
 intro w11 u11 e11 d11
 have k15 := k_parts d11 (hr1.ext e11) (by omega)
 with_reducible refine Post.mono k15 ?_
 rintro _ u13 g14 ⟨i12, j12, z12, D12, rfl, hi12, hj12, hp12, hq12, hk12⟩
 refine zza 5 (.v (.tuple #[i12.v, j12.v])) ?_
 refine zza 8 (.v (i12.v)) ?_
 refine zza 9 (.v (j12.v)) ?_
 refine zzi 3 ⟨24, [.bool false, .slice none 0 0]⟩ ?_
 refine zzi 4 ⟨24, [.bool false, .slice none 0 0]⟩ ?_
 refine zzh ⟨24, i12.cs⟩ ty24 ?_
 refine zzh ⟨24, j12.cs⟩ ty24 ?_
 refine zzb 12 [(3, .adr 3 0)] [(3, ⟨24, i12.cs⟩)] ?_
 refine sq9 ?_
 refine zzg 10 (.v (i12.v)) ty24 zzd ?_
 refine zzf 11 125 [i12.v] ?_
 intro w16 u16 e16 d16
 have k19 := k_riSign d16 (hi12.ext e16) (by omega)
 with_reducible refine Post.mono k19 ?_
 rintro _ u17 g18 rfl
 refine zza 2 (.v (.int .i64 (Nt.cmpS z12 0))) ?_
 refine zzb 12 [(2, .v (.int .i64 (Nt.cmpS z12 0)))] [] ?_
 refine zzm (ret0 [.int .i64 (Nt.cmpS z12 0)] ⟨zzo, trivial⟩ fun u20 e21 => ?_)
 show _ = _
 rw [hq12, ← Nt.sg_mk hp12]
 rfl
theorem k_rqCompare {u w : World} {r1 : RL} {x : Rat} {K : Nat} {r2 : RL} {y : Rat} {L : Nat} (d : Dat u w) (hr1 : RatV u r1 x K) (hr2 : RatV u r2 y L) (hK : K ≤ 100000000) (hL : L ≤ 100000000) : Calls Tryz.prog 40 #[r1.v, r2.v] w (Post u w fun v u' => v = .int .i64 (Nt.cmpQ x y)) := by
 refine zzk (args := [r1.v, r2.v]) Tryz.func40 rfl Tryz.ntmps40 (rs := [.tmp 4]) Tryz.results40 (le_b rfl) (le_b rfl) d ?_
 refine sq9 ?_
 refine zzi 2 ⟨26, r1.cs⟩ ?_
 refine zzi 3 ⟨26, r2.cs⟩ ?_
 refine zza 4 (.v (.int .i64 0)) ?_
 refine zzb 26 [(2, .adr 2 0), (3, .adr 3 0)] [(2, ⟨26, r1.cs⟩), (3, ⟨26, r2.cs⟩)] ?_
 refine sq9 ?_
 refine zzg 10 (.v (r1.v)) ty26 zzd ?_
 refine zzf 11 105 [r1.v] ?_
 intro w11 u11 e11 d11
 have k15 := k_parts d11 (hr1.ext e11) (by omega)
 with_reducible refine Post.mono k15 ?_
 rintro _ u13 g14 ⟨i12, j12, z12, D12, rfl, hi12, hj12, hp12, hq12, hk12⟩
 refine zza 9 (.v (.tuple #[i12.v, j12.v])) ?_
 refine zza 12 (.v (i12.v)) ?_
 refine zza 13 (.v (j12.v)) ?_
 refine zzi 5 ⟨24, [.bool false, .slice none 0 0]⟩ ?_
 refine zzi 6 ⟨24, [.bool false, .slice none 0 0]⟩ ?_
 refine zzh ⟨24, i12.cs⟩ ty24 ?_
 refine zzh ⟨24, j12.cs⟩ ty24 ?_
 refine zzb 26 [(3, .adr 3 0), (5, .adr 5 0), (6, .adr 6 0)] [(3, ⟨26, r2.cs⟩), (5, ⟨24, i12.cs⟩), (6, ⟨24, j12.cs⟩)] ?_
 refine sq9 ?_
 refine zzg 15 (.v (r2.v)) ty26 zzd ?_
 refine zzf 16 105 [r2.v] ?_
 intro w16 u16 e16 d16
 have k20 := k_parts d16 (hr2.ext (e11.trans (g14.ext.trans e16))) (by omega)
 with_reducible refine Post.mono k20 ?_
 rintro _ u18 g19 ⟨i17, j17, z17, D17, rfl, hi17, hj17, hp17, hq17, hk17⟩
 refine zza 14 (.v (.tuple #[i17.v, j17.v])) ?_
 refine zza 17 (.v (i17.v)) ?_
 refine zza 18 (.v (j17.v)) ?_
 refine zzi 7 ⟨24, [.bool false, .slice none 0 0]⟩ ?_
 refine zzi 8 ⟨24, [.bool false, .slice none 0 0]⟩ ?_
 refine zzh ⟨24, i17.cs⟩ ty24 ?_
 refine zzh ⟨24, j17.cs⟩ ty24 ?_
 refine zzb 26 [(5, .adr 5 0), (6, .adr 6 0), (7, .adr 7 0), (8, .adr 8 0)] [(5, ⟨24, i12.cs⟩), (6, ⟨24, j12.cs⟩), (7, ⟨24, i17.cs⟩), (8, ⟨24, j17.cs⟩)] ?_
 refine zzc ?_
 refine zzx [0, 0, 3, 0, 0, 31, 63, 127] [(0, []), (1, []), (3, []), (4, []), (2, []), (5, []), (6, []), (7, [])] (by kernel_rfl) (by kernel_rfl) ?_
 refine zzg 19 (.v (i12.v)) ty24 zzd ?_
 refine zzg 20 (.v (j17.v)) ty24 zzd ?_
 refine zzg 22 (.v (i17.v)) ty24 zzd ?_
 refine zzg 23 (.v (j12.v)) ty24 zzd ?_
 refine zzf 21 108 [i12.v, j17.v] ?_
 intro w21 u21 e21 d21
 have k26 := k_riMul d21 (hi12.ext (e16.trans (g19.ext.trans e21))) (hj17.ext e21).raw (by omega) (by omega)
 with_reducible refine Post.mono k26 ?_
 rintro _ u24 g25 ⟨i22, rfl, h23⟩
 refine zzf 24 108 [i17.v, j12.v] ?_
 intro w27 u27 e27 d27
 have k32 := k_riMul d27 (hi17.ext (e21.trans (g25.ext.trans e27))) (hj12.ext (e16.trans (g19.ext.trans (e21.trans (g25.ext.trans e27))))).raw (by omega) (by omega)
 with_reducible refine Post.mono k32 ?_
 rintro _ u30 g31 ⟨i28, rfl, h29⟩
 refine zzf 25 122 [i22.v, i28.v] ?_
 intro w33 u33 e33 d33
 have k36 := k_riCompare d33 (h23.ext (e27.trans (g31.ext.trans e33))).raw (h29.ext e33).raw (by omega) (by omega)
 with_reducible refine Post.mono k36 ?_
 rintro _ u34 g35 rfl
 refine zza 4 (.v (.int .i64 (Nt.cmpS (z12 * (D17 : Int)) (z17 * (D12 : Int))))) ?_
 refine zzb 26 [(4, .v (.int .i64 (Nt.cmpS (z12 * (D17 : Int)) (z17 * (D12 : Int)))))] [] ?_
 refine zzm (ret0 [.int .i64 (Nt.cmpS (z12 * (D17 : Int)) (z17 * (D12 : Int)))] ⟨zzo, trivial⟩ fun u37 e38 => ?_)
 show _ = _
 rw [hq12, hq17, ← Nt.cmp_mk hp12 hp17]
 rfl
theorem k_rqLess {u w : World} {r1 : RL} {x : Rat} {K : Nat} {r2 : RL} {y : Rat} {L : Nat} (d : Dat u w) (hr1 : RatV u r1 x K) (hr2 : RatV u r2 y L) (hK : K ≤ 100000000) (hL : L ≤ 100000000) : Calls Tryz.prog 101 #[r1.v, r2.v] w (Post u w fun v u' => v = .bool (decide (x < y))) := by
 refine zzk (args := [r1.v, r2.v]) Tryz.func101 rfl Tryz.ntmps101 (rs := [.tmp 4]) Tryz.results101 (le_b rfl) (le_b rfl) d ?_
 refine sq9 ?_
 refine zzi 2 ⟨26, r1.cs⟩ ?_
 refine zzi 3 ⟨26, r2.cs⟩ ?_
 refine zza 4 (.v (.bool false)) ?_
 refine zzb 9 [(2, .adr 2 0), (3, .adr 3 0)] [(2, ⟨26, r1.cs⟩), (3, ⟨26, r2.cs⟩)] ?_
 refine sq9 ?_
 refine zzg 5 (.v (r1.v)) ty26 zzd ?_
 refine zzg 6 (.v (r2.v)) ty26 zzd ?_
 refine zzf 7 40 [r1.v, r2.v] ?_
 intro w11 u11 e11 d11
 have k14 := k_rqCompare d11 (hr1.ext e11) (hr2.ext e11) (by omega) (by omega)
 with_reducible refine Post.mono k14 ?_
 rintro _ u12 g13 rfl
 refine zza 8 (.v (.bool (decide ((Nt.cmpQ x y) < 0)))) ?_
 refine zza 4 (.v (.bool (decide ((Nt.cmpQ x y) < 0)))) ?_
 refine zzb 9 [(4, .v (.bool (decide ((Nt.cmpQ x y) < 0))))] [] ?_
 refine zzm (ret0 [.bool (decide ((Nt.cmpQ x y) < 0))] ⟨zzo, trivial⟩ fun u15 e16 => ?_)
 show _ = _
 rw [← Nt.cmpQ_lt]
 rfl
theorem k_rqNeg {u w : World} {r1 : RL} {x : Rat} {K : Nat} (d : Dat u w) (hr1 : RatV u r1 x K) (hK : K ≤ 100000000) : Calls Tryz.prog 110 #[r1.v] w (Post u w fun v u' => ∃ r : RL, v = r.v ∧ RatN u' r (-x) K) := by
 refine zzk (args := [r1.v]) Tryz.func110 rfl Tryz.ntmps110 (rs := [.cell 2 26]) Tryz.results110 (le_b rfl) (le_b rfl) d ?_
 refine sq9 ?_
 refine zzi 1 ⟨26, r1.cs⟩ ?_
 refine zzi 2 ⟨26, [.bool false, .slice none 0 0, .slice none 0 0]⟩ ?_
 refine zzb 10 [(1, .adr 1 0), (2, .adr 2 0)] [(1, ⟨26, r1.cs⟩), (2, ⟨26, [.bool false, .slice none 0 0, .slice none 0 0]⟩)] ?_
 refine sq9 ?_
 refine zzg 3 (.v (r1.v)) ty26 zzd ?_
 refine zzf 4 142 [r1.v] ?_
 intro w11 u11 e11 d11
 have k16 := k_rqTrim d11 (hr1.ext e11) (by omega)
 with_reducible refine Post.mono k16 ?_
 rintro _ u14 g15 ⟨r12, rfl, h13⟩
 refine zzh ⟨26, r12.cs⟩ ty26 ?_
 refine zzb 10 [(1, .adr 1 0), (2, .adr 2 0)] [(1, ⟨26, r12.cs⟩), (2, ⟨26, [.bool false, .slice none 0 0, .slice none 0 0]⟩)] ?_
 refine sq9 ?_
 refine zza 5 (.adr 1 0) ?_
 refine zzg 6 (.v (.agg #[.bool r12.s, r12.m.v])) ty24 zzd ?_
 refine zzf 7 159 [.agg #[.bool r12.s, r12.m.v]] ?_
 intro w17 u17 e17 d17
 have k22 := k_riNeg d17 ((RatN.num h13).ext e17).raw (by omega)
 with_reducible refine Post.mono k22 ?_
 rintro _ u20 g21 ⟨i18, rfl, h19⟩
 refine zza 8 (.adr 1 0) ?_
 refine zzh ⟨26, i18.cs ++ [r12.d.v]⟩ ty24 ?_
 refine zzb 10 [(1, .adr 1 0), (2, .adr 2 0)] [(1, ⟨26, i18.cs ++ [r12.d.v]⟩), (2, ⟨26, [.bool false, .slice none 0 0, .slice none 0 0]⟩)] ?_
 refine sq9 ?_
 refine zzg 9 (.v (.agg #[.bool i18.s, i18.m.v, r12.d.v])) ty26 zzd ?_
 refine zzh ⟨26, i18.cs ++ [r12.d.v]⟩ ty26 ?_
 refine zzb 10 [(2, .adr 2 0)] [(2, ⟨26, i18.cs ++ [r12.d.v]⟩)] ?_
 refine zzm (ret0 [.agg #[.bool i18.s, .slice i18.m.a i18.m.n i18.m.c, .slice r12.d.a r12.d.n r12.d.c]] ⟨zzp ty26 zzd, trivial⟩ fun u23 e24 => ?_)
 exact ⟨(⟨i18.s, i18.m, r12.d⟩ : RL), rfl, neg_rat (h13.ext (e17.trans (g21.ext.trans e24))) (h19.ext e24)⟩
theorem k_rqAdd {u w : World} {r1 : RL} {x : Rat} {K : Nat} {r2 : RL} {y : Rat} {L : Nat} (d : Dat u w) (hr1 : RatV u r1 x K) (hr2 : RatV u r2 y L) (hK : K ≤ 100000000) (hL : L ≤ 100000000) : Calls Tryz.prog 18 #[r1.v, r2.v] w (Post u w fun v u' => ∃ r : RL, v = r.v ∧ RatN u' r (x + y) (K + L + 2)) := by
 refine zzk (args := [r1.v, r2.v]) Tryz.func18 rfl Tryz.ntmps18 (rs := [.cell 4 26]) Tryz.results18 (le_b rfl) (le_b rfl) d ?_
 refine sq9 ?_
 refine zzi 2 ⟨26, r1.cs⟩ ?_
 refine zzi 3 ⟨26, r2.cs⟩ ?_
 refine zzi 4 ⟨26, [.bool false, .slice none 0 0, .slice none 0 0]⟩ ?_
 refine zzb 30 [(2, .adr 2 0), (3, .adr 3 0), (4, .adr 4 0)] [(2, ⟨26, r1.cs⟩), (3, ⟨26, r2.cs⟩), (4, ⟨26, [.bool false, .slice none 0 0, .slice none 0 0]⟩)] ?_
 refine sq9 ?_
 refine zzg 10 (.v (r1.v)) ty26 zzd ?_
 refine zzf 11 105 [r1.v] ?_
 intro w11 u11 e11 d11
 have k15 := k_parts d11 (hr1.ext e11) (by omega)
 with_reducible refine Post.mono k15 ?_
 rintro _ u13 g14 ⟨i12, j12, z12, D12, rfl, hi12, hj12, hp12, hq12, hk12⟩
 refine zza 9 (.v (.tuple #[i12.v, j12.v])) ?_
 refine zza 12 (.v (i12.v)) ?_
 refine zza 13 (.v (j12.v)) ?_
 refine zzi 5 ⟨24, [.bool false, .slice none 0 0]⟩ ?_
 refine zzi 6 ⟨24, [.bool false, .slice none 0 0]⟩ ?_
 refine zzh ⟨24, i12.cs⟩ ty24 ?_
 refine zzh ⟨24, j12.cs⟩ ty24 ?_
 refine zzb 30 [(3, .adr 3 0), (4, .adr 4 0), (5, .adr 5 0), (6, .adr 6 0)] [(3, ⟨26, r2.cs⟩), (4, ⟨26, [.bool false, .slice none 0 0, .slice none 0 0]⟩), (5, ⟨24, i12.cs⟩), (6, ⟨24, j12.cs⟩)] ?_
 refine sq9 ?_
 refine zzg 15 (.v (r2.v)) ty26 zzd ?_
 refine zzf 16 105 [r2.v] ?_
 intro w16 u16 e16 d16
 have k20 := k_parts d16 (hr2.ext (e11.trans (g14.ext.trans e16))) (by omega)
 with_reducible refine Post.mono k20 ?_
 rintro _ u18 g19 ⟨i17, j17, z17, D17, rfl, hi17, hj17, hp17, hq17, hk17⟩
 refine zza 14 (.v (.tuple #[i17.v, j17.v])) ?_
 refine zza 17 (.v (i17.v)) ?_
 refine zza 18 (.v (j17.v)) ?_
 refine zzi 7 ⟨24, [.bool false, .slice none 0 0]⟩ ?_
 refine zzi 8 ⟨24, [.bool false, .slice none 0 0]⟩ ?_
 refine zzh ⟨24, i17.cs⟩ ty24 ?_
 refine zzh ⟨24, j17.cs⟩ ty24 ?_
 refine zzb 30 [(4, .adr 4 0), (5, .adr 5 0), (6, .adr 6 0), (7, .adr 7 0), (8, .adr 8 0)] [(4, ⟨26, [.bool false, .slice none 0 0, .slice none 0 0]⟩), (5, ⟨24, i12.cs⟩), (6, ⟨24, j12.cs⟩), (7, ⟨24, i17.cs⟩), (8, ⟨24, j17.cs⟩)] ?_
 refine zzc ?_
 refine zzx [0, 0, 3, 0, 0, 31, 63, 0, 0, 511, 1023, 2047] [(0, []), (1, []), (3, []), (4, []), (7, []), (8, []), (2, []), (5, []), (6, []), (9, []), (10, []), (11, [])] (by kernel_rfl) (by kernel_rfl) ?_
 refine zzg 19 (.v (i12.v)) ty24 zzd ?_
 refine zzg 20 (.v (j17.v)) ty24 zzd ?_
 refine zzg 22 (.v (i17.v)) ty24 zzd ?_
 refine zzg 23 (.v (j12.v)) ty24 zzd ?_
 refine zzg 26 (.v (j12.v)) ty24 zzd ?_
 refine zzg 27 (.v (j17.v)) ty24 zzd ?_
 refine zzf 21 108 [i12.v, j17.v] ?_
 intro w21 u21 e21 d21
 have k26 := k_riMul d21 (hi12.ext (e16.trans (g19.ext.trans e21))) (hj17.ext e21).raw (by omega) (by omega)
 with_reducible refine Post.mono k26 ?_
 rintro _ u24 g25 ⟨i22, rfl, h23⟩
 refine zzf 24 108 [i17.v, j12.v] ?_
 intro w27 u27 e27 d27
 have k32 := k_riMul d27 (hi17.ext (e21.trans (g25.ext.trans e27))) (hj12.ext (e16.trans (g19.ext.trans (e21.trans (g25.ext.trans e27))))).raw (by omega) (by omega)
 with_reducible refine Post.mono k32 ?_
 rintro _ u30 g31 ⟨i28, rfl, h29⟩
 refine zzf 25 107 [i22.v, i28.v] ?_
 intro w33 u33 e33 d33
 have k38 := k_riAdd d33 (h23.ext (e27.trans (g31.ext.trans e33))).raw (h29.ext e33).raw (by omega) (by omega)
 with_reducible refine Post.mono k38 ?_
 rintro _ u36 g37 ⟨i34, rfl, h35⟩
 refine zzf 28 108 [j12.v, j17.v] ?_
 intro w39 u39 e39 d39
 have k44 := k_riMul d39 (hj12.ext (e16.trans (g19.ext.trans (e21.trans (g25.ext.trans (e27.trans (g31.ext.trans (e33.trans (g37.ext.trans e39))))))))).raw (hj17.ext (e21.trans (g25.ext.trans (e27.trans (g31.ext.trans (e33.trans (g37.ext.trans e39))))))).raw (by omega) (by omega)
 with_reducible refine Post.mono k44 ?_
 rintro _ u42 g43 ⟨i40, rfl, h41⟩
 refine zzf 29 106 [i34.v, i40.v] ?_
 intro w45 u45 e45 d45
 have k50 := k_reduce d45 (h35.ext (e39.trans (g43.ext.trans e45))).raw (h41.ext e45).raw (by omega) (by omega)
 with_reducible refine Post.mono k50 ?_
 rintro _ u48 g49 ⟨r46, rfl, h47⟩
 refine zzh ⟨26, r46.cs⟩ ty26 ?_
 refine zzb 30 [(4, .adr 4 0)] [(4, ⟨26, r46.cs⟩)] ?_
 refine zzm (ret0 [r46.v] ⟨zzp ty26 zzd, trivial⟩ fun u51 e52 => ?_)
 refine ⟨r46, rfl, RatN.more (K := (max (max (K + L) (L + K) + 1) (K + L) + 1)) ?_ (by omega)⟩
 rw [hq12, hq17, ← Nt.add_div2 hp12 hp17]
 exact (h47.ext e52)
theorem k_rqSub {u w : World} {r1 : RL} {x : Rat} {K : Nat} {r2 : RL} {y : Rat} {L : Nat} (d : Dat u w) (hr1 : RatV u r1 x K) (hr2 : RatV u r2 y L) (hK : K ≤ 100000000) (hL : L ≤ 100000000) : Calls Tryz.prog 20 #[r1.v, r2.v] w (Post u w fun v u' => ∃ r : RL, v = r.v ∧ RatN u' r (x - y) (K + L + 2)) := by
 refine zzk (args := [r1.v, r2.v]) Tryz.func20 rfl Tryz.ntmps20 (rs := [.cell 4 26]) Tryz.results20 (le_b rfl) (le_b rfl) d ?_
 refine sq9 ?_
 refine zzi 2 ⟨26, r1.cs⟩ ?_
 refine zzi 3 ⟨26, r2.cs⟩ ?_
 refine zzi 4 ⟨26, [.bool false, .slice none 0 0, .slice none 0 0]⟩ ?_
 refine zzb 9 [(2, .adr 2 0), (3, .adr 3 0), (4, .adr 4 0)] [(2, ⟨26, r1.cs⟩), (3, ⟨26, r2.cs⟩), (4, ⟨26, [.bool false, .slice none 0 0, .slice none 0 0]⟩)] ?_
 refine zzc ?_
 refine zzx [0, 0, 2, 7, 15] [(0, []), (1, []), (2, []), (3, []), (4, [])] (by kernel_rfl) (by kernel_rfl) ?_
 refine zzg 5 (.v (r1.v)) ty26 zzd ?_
 refine zzg 6 (.v (r2.v)) ty26 zzd ?_
 refine zzf 7 110 [r2.v] ?_
 intro w11 u11 e11 d11
 have k16 := k_rqNeg d11 (hr2.ext e11) (by omega)
 with_reducible refine Post.mono k16 ?_
 rintro _ u14 g15 ⟨r12, rfl, h13⟩
 refine zzf 8 18 [r1.v, r12.v] ?_
 intro w17 u17 e17 d17
 have k22 := k_rqAdd d17 (hr1.ext (e11.trans (g15.ext.trans e17))) (h13.ext e17).raw (by omega) (by omega)
 with_reducible refine Post.mono k22 ?_
 rintro _ u20 g21 ⟨r18, rfl, h19⟩
 refine zzh ⟨26, r18.cs⟩ ty26 ?_
 refine zzb 9 [(4, .adr 4 0)] [(4, ⟨26, r18.cs⟩)] ?_
 refine zzm (ret0 [r18.v] ⟨zzp ty26 zzd, trivial⟩ fun u23 e24 => ?_)
 refine ⟨r18, rfl, RatN.more (K := (K + L + 2)) ?_ (by omega)⟩
 rw [Rat.sub_eq_add_neg]
 exact (h19.ext e24)
theorem k_rqMul {u w : World} {r1 : RL} {x : Rat} {K : Nat} {r2 : RL} {y : Rat} {L : Nat} (d : Dat u w) (hr1 : RatV u r1 x K) (hr2 : RatV u r2 y L) (hK : K ≤ 100000000) (hL : L ≤ 100000000) : Calls Tryz.prog 22 #[r1.v, r2.v] w (Post u w fun v u' => ∃ r : RL, v = r.v ∧ RatN u' r (x * y) (K + L + 1)) := by
 refine zzk (args := [r1.v, r2.v]) Tryz.func22 rfl Tryz.ntmps22 (rs := [.cell 4 26]) Tryz.results22 (le_b rfl) (le_b rfl) d ?_
 refine sq9 ?_
 refine zzi 2 ⟨26, r1.cs⟩ ?_
 refine zzi 3 ⟨26, r2.cs⟩ ?_
 refine zzi 4 ⟨26, [.bool false, .slice none 0 0, .slice none 0 0]⟩ ?_
 refine zzb 26 [(2, .adr 2 0), (3, .adr 3 0), (4, .adr 4 0)] [(2, ⟨26, r1.cs⟩), (3, ⟨26, r2.cs⟩), (4, ⟨26, [.bool false, .slice none 0 0, .slice none 0 0]⟩)] ?_
 refine sq9 ?_
 refine zzg 10 (.v (r1.v)) ty26 zzd ?_
 refine zzf 11 105 [r1.v] ?_
 intro w11 u11 e11 d11
 have k15 := k_parts d11 (hr1.ext e11) (by omega)
 with_reducible refine Post.mono k15 ?_
 rintro _ u13 g14 ⟨i12, j12, z12, D12, rfl, hi12, hj12, hp12, hq12, hk12⟩
 refine zza 9 (.v (.tuple #[i12.v, j12.v])) ?_
 refine zza 12 (.v (i12.v)) ?_
 refine zza 13 (.v (j12.v)) ?_
 refine zzi 5 ⟨24, [.bool false, .slice none 0 0]⟩ ?_
 refine zzi 6 ⟨24, [.bool false, .slice none 0 0]⟩ ?_
 refine zzh ⟨24, i12.cs⟩ ty24 ?_
 refine zzh ⟨24, j12.cs⟩ ty24 ?_
 refine zzb 26 [(3, .adr 3 0), (4, .adr 4 0), (5, .adr 5 0), (6, .adr 6 0)] [(3, ⟨26, r2.cs⟩), (4, ⟨26, [.bool false, .slice none 0 0, .slice none 0 0]⟩), (5, ⟨24, i12.cs⟩), (6, ⟨24, j12.cs⟩)] ?_
 refine sq9 ?_
 refine zzg 15 (.v (r2.v)) ty26 zzd ?_
 refine zzf 16 105 [r2.v] ?_
 intro w16 u16 e16 d16
 have k20 := k_parts d16 (hr2.ext (e11.trans (g14.ext.trans e16))) (by omega)
 with_reducible refine Post.mono k20 ?_
 rintro _ u18 g19 ⟨i17, j17, z17, D17, rfl, hi17, hj17, hp17, hq17, hk17⟩
 refine zza 14 (.v (.tuple #[i17.v, j17.v])) ?_
 refine zza 17 (.v (i17.v)) ?_
 refine zza 18 (.v (j17.v)) ?_
 refine zzi 7 ⟨24, [.bool false, .slice none 0 0]⟩ ?_
 refine zzi 8 ⟨24, [.bool false, .slice none 0 0]⟩ ?_
 refine zzh ⟨24, i17.cs⟩ ty24 ?_
 refine zzh ⟨24, j17.cs⟩ ty24 ?_
 refine zzb 26 [(4, .adr 4 0), (5, .adr 5 0), (6, .adr 6 0), (7, .adr 7 0), (8, .adr 8 0)] [(4, ⟨26, [.bool false, .slice none 0 0, .slice none 0 0]⟩), (5, ⟨24, i12.cs⟩), (6, ⟨24, j12.cs⟩), (7, ⟨24, i17.cs⟩), (8, ⟨24, j17.cs⟩)] ?_
 refine zzc ?_
 refine zzx [0, 0, 3, 0, 0, 31, 63, 127] [(0, []), (1, []), (3, []), (4, []), (2, []), (5, []), (6, []), (7, [])] (by kernel_rfl) (by kernel_rfl) ?_
 refine zzg 19 (.v (i12.v)) ty24 zzd ?_
 refine zzg 20 (.v (i17.v)) ty24 zzd ?_
 refine zzg 22 (.v (j12.v)) ty24 zzd ?_
 refine zzg 23 (.v (j17.v)) ty24 zzd ?_
 refine zzf 21 108 [i12.v, i17.v] ?_
 intro w21 u21 e21 d21
 have k26 := k_riMul d21 (hi12.ext (e16.trans (g19.ext.trans e21))) (hi17.ext e21) (by omega) (by omega)
 with_reducible refine Post.mono k26 ?_
 rintro _ u24 g25 ⟨i22, rfl, h23⟩
 refine zzf 24 108 [j12.v, j17.v] ?_
 intro w27 u27 e27 d27
 have k32 := k_riMul d27 (hj12.ext (e16.trans (g19.ext.trans (e21.trans (g25.ext.trans e27))))).raw (hj17.ext (e21.trans (g25.ext.trans e27))).raw (by omega) (by omega)
 with_reducible refine Post.mono k32 ?_
 rintro _ u30 g31 ⟨i28, rfl, h29⟩
 refine zzf 25 106 [i22.v, i28.v] ?_
 intro w33 u33 e33 d33
 have k38 := k_reduce d33 (h23.ext (e27.trans (g31.ext.trans e33))).raw (h29.ext e33).raw (by omega) (by omega)
 with_reducible refine Post.mono k38 ?_
 rintro _ u36 g37 ⟨r34, rfl, h35⟩
 refine zzh ⟨26, r34.cs⟩ ty26 ?_
 refine zzb 26 [(4, .adr 4 0)] [(4, ⟨26, r34.cs⟩)] ?_
 refine zzm (ret0 [r34.v] ⟨zzp ty26 zzd, trivial⟩ fun u39 e40 => ?_)
 refine ⟨r34, rfl, RatN.more (K := (max (K + L) (K + L) + 1)) ?_ (by omega)⟩
 rw [hq12, hq17, ← Nt.mul_div2]
 exact (h35.ext e40)
theorem k_rqMin {u w : World} {r1 : RL} {x : Rat} {K : Nat} {r2 : RL} {y : Rat} {L : Nat} (d : Dat u w) (hr1 : RatV u r1 x K) (hr2 : RatV u r2 y L) (hK : K ≤ 100000000) (hL : L ≤ 100000000) : Calls Tryz.prog 130 #[r1.v, r2.v] w (Post u w fun v u' => ∃ r : RL, v = r.v ∧ RatN u' r (Nt.lo x y) (max K L)) := by
 refine zzk (args := [r1.v, r2.v]) Tryz.func130 rfl Tryz.ntmps130 (rs := [.cell 4 26]) Tryz.results130 (le_b rfl) (le_b rfl) d ?_
 refine sq9 ?_
 refine zzi 2 ⟨26, r1.cs⟩ ?_
 refine zzi 3 ⟨26, r2.cs⟩ ?_
 refine zzi 4 ⟨26, [.bool false, .slice none 0 0, .slice none 0 0]⟩ ?_
 refine zzb 12 [(2, .adr 2 0), (3, .adr 3 0), (4, .adr 4 0)] [(2, ⟨26, r1.cs⟩), (3, ⟨26, r2.cs⟩), (4, ⟨26, [.bool false, .slice none 0 0, .slice none 0 0]⟩)] ?_
 refine zzc ?_
 refine sq9 ?_
 refine zzg 5 (.v (r2.v)) ty26 zzd ?_
 refine zzg 6 (.v (r1.v)) ty26 zzd ?_
 refine zzf 7 101 [r2.v, r1.v] ?_
 intro w11 u11 e11 d11
 have k14 := k_rqLess d11 (hr2.ext e11) (hr1.ext e11) (by omega) (by omega)
 with_reducible refine Post.mono k14 ?_
 rintro _ u12 g13 rfl
 refine zzb 12 [(2, .adr 2 0), (3, .adr 3 0), (4, .adr 4 0), (7, .v (.bool (decide (y < x))))] [(2, ⟨26, r1.cs⟩), (3, ⟨26, r2.cs⟩), (4, ⟨26, [.bool false, .slice none 0 0, .slice none 0 0]⟩)] ?_
 refine zzs (b := decide (y < x)) (by kernel_rfl) (fun hb15 => ?_) (fun hb15 => ?_)
 ·replace hb15 : (decide (y < x)) = true := hb15
  have qhb15 := of_decide_eq_true hb15
  refine sq9 ?_
  refine zzg 8 (.v (r2.v)) ty26 zzd ?_
  refine zzf 9 142 [r2.v] ?_
  intro w16 u16 e16 d16
  have k21 := k_rqTrim d16 (hr2.ext (e11.trans (g13.ext.trans e16))) (by omega)
  with_reducible refine Post.mono k21 ?_
  rintro _ u19 g20 ⟨r17, rfl, h18⟩
  refine zzh ⟨26, r17.cs⟩ ty26 ?_
  refine zzb 12 [(4, .adr 4 0)] [(4, ⟨26, r17.cs⟩)] ?_
  refine zzm (zzu (ret0 [r17.v] ⟨zzp ty26 zzd, trivial⟩ fun u22 e23 => ?_))
  refine ⟨r17, rfl, RatN.more (K := L) ?_ (by omega)⟩
  unfold Nt.lo
  rw [if_pos (of_decide_eq_true hb15)]
  exact (h18.ext e23)
 ·replace hb15 : (decide (y < x)) = false := hb15
  have qhb15 := of_decide_eq_false hb15
  refine zzq (zzn ?_)
  refine sq9 ?_
  refine zzg 10 (.v (r1.v)) ty26 zzd ?_
  refine zzf 11 142 [r1.v] ?_
  intro w24 u24 e24 d24
  have k29 := k_rqTrim d24 (hr1.ext (e11.trans (g13.ext.trans e24))) (by omega)
  with_reducible refine Post.mono k29 ?_
  rintro _ u27 g28 ⟨r25, rfl, h26⟩
  refine zzh ⟨26, r25.cs⟩ ty26 ?_
  refine zzb 12 [(4, .adr 4 0)] [(4, ⟨26, r25.cs⟩)] ?_
  refine zzm (ret0 [r25.v] ⟨zzp ty26 zzd, trivial⟩ fun u30 e31 => ?_)
  refine ⟨r25, rfl, RatN.more (K := K) ?_ (by omega)⟩
  unfold Nt.lo
  rw [if_neg (of_decide_eq_false hb15)]
  exact (h26.ext e31)
theorem k_rqMax {u w : World} {r1 : RL} {x : Rat} {K : Nat} {r2 : RL} {y : Rat} {L : Nat} (d : Dat u w) (hr1 : RatV u r1 x K) (hr2 : RatV u r2 y L) (hK : K ≤ 100000000) (hL : L ≤ 100000000) : Calls Tryz.prog 129 #[r1.v, r2.v] w (Post u w fun v u' => ∃ r : RL, v = r.v ∧ RatN u' r (Nt.hi x y) (max K L)) := by
 refine zzk (args := [r1.v, r2.v]) Tryz.func129 rfl Tryz.ntmps129 (rs := [.cell 4 26]) Tryz.results129 (le_b rfl) (le_b rfl) d ?_
 refine sq9 ?_
 refine zzi 2 ⟨26, r1.cs⟩ ?_
 refine zzi 3 ⟨26, r2.cs⟩ ?_
 refine zzi 4 ⟨26, [.bool false, .slice none 0 0, .slice none 0 0]⟩ ?_
 refine zzb 12 [(2, .adr 2 0), (3, .adr 3 0), (4, .adr 4 0)] [(2, ⟨26, r1.cs⟩), (3, ⟨26, r2.cs⟩), (4, ⟨26, [.bool false, .slice none 0 0, .slice none 0 0]⟩)] ?_
 refine zzc ?_
 refine sq9 ?_
 refine zzg 5 (.v (r1.v)) ty26 zzd ?_
 refine zzg 6 (.v (r2.v)) ty26 zzd ?_
 refine zzf 7 101 [r1.v, r2.v] ?_
 intro w11 u11 e11 d11
 have k14 := k_rqLess d11 (hr1.ext e11) (hr2.ext e11) (by omega) (by omega)
 with_reducible refine Post.mono k14 ?_
 rintro _ u12 g13 rfl
 refine zzb 12 [(2, .adr 2 0), (3, .adr 3 0), (4, .adr 4 0), (7, .v (.bool (decide (x < y))))] [(2, ⟨26, r1.cs⟩), (3, ⟨26, r2.cs⟩), (4, ⟨26, [.bool false, .slice none 0 0, .slice none 0 0]⟩)] ?_
 refine zzs (b := decide (x < y)) (by kernel_rfl) (fun hb15 => ?_) (fun hb15 => ?_)
 ·replace hb15 : (decide (x < y)) = true := hb15
  have qhb15 := of_decide_eq_true hb15
  refine sq9 ?_
  refine zzg 8 (.v (r2.v)) ty26 zzd ?_
  refine zzf 9 142 [r2.v] ?_
  intro w16 u16 e16 d16
  have k21 := k_rqTrim d16 (hr2.ext (e11.trans (g13.ext.trans e16))) (by omega)
  with_reducible refine Post.mono k21 ?_
  rintro _ u19 g20 ⟨r17, rfl, h18⟩
  refine zzh ⟨26, r17.cs⟩ ty26 ?_
  refine zzb 12 [(4, .adr 4 0)] [(4, ⟨26, r17.cs⟩)] ?_
  refine zzm (zzu (ret0 [r17.v] ⟨zzp ty26 zzd, trivial⟩ fun u22 e23 => ?_))
  refine ⟨r17, rfl, RatN.more (K := L) ?_ (by omega)⟩
  unfold Nt.hi
  rw [if_pos (of_decide_eq_true hb15)]
  exact (h18.ext e23)
 ·replace hb15 : (decide (x < y)) = false := hb15
  have qhb15 := of_decide_eq_false hb15
  refine zzq (zzn ?_)
  refine sq9 ?_
  refine zzg 10 (.v (r1.v)) ty26 zzd ?_
  refine zzf 11 142 [r1.v] ?_
  intro w24 u24 e24 d24
  have k29 := k_rqTrim d24 (hr1.ext (e11.trans (g13.ext.trans e24))) (by omega)
  with_reducible refine Post.mono k29 ?_
  rintro _ u27 g28 ⟨r25, rfl, h26⟩
  refine zzh ⟨26, r25.cs⟩ ty26 ?_
  refine zzb 12 [(4, .adr 4 0)] [(4, ⟨26, r25.cs⟩)] ?_
  refine zzm (ret0 [r25.v] ⟨zzp ty26 zzd, trivial⟩ fun u30 e31 => ?_)
  refine ⟨r25, rfl, RatN.more (K := K) ?_ (by omega)⟩
  unfold Nt.hi
  rw [if_neg (of_decide_eq_false hb15)]
  exact (h26.ext e31)
def DivQ (x y : Rat) (K : Nat) (v : Value) (u : World) : Prop := (v = .tuple #[.agg #[.bool false, .slice none 0 0, .slice none 0 0], .int .i64 3] ∧ y = 0) ∨ (y ≠ 0 ∧ ∃ r : RL, v = .tuple #[r.v, .int .i64 0] ∧ RatN u r (x / y) K)
set_option maxHeartbeats 1000000 in
theorem k_rqDiv {u w : World} {r1 : RL} {x : Rat} {K : Nat} {r2 : RL} {y : Rat} {L : Nat} (d : Dat u w) (hr1 : RatV u r1 x K) (hr2 : RatV u r2 y L) (hK : K ≤ 100000000) (hL : L ≤ 100000000) : Calls Tryz.prog 102 #[r1.v, r2.v] w (Post u w fun v u' => DivQ x y (K + L + 1) v u') := by
 refine zzk (args := [r1.v, r2.v]) Tryz.func102 rfl Tryz.ntmps102 (rs := [.cell 4 26, .tmp 5]) Tryz.results102 (le_b rfl) (le_b rfl) d ?_
 refine sq9 ?_
 refine zzi 2 ⟨26, r1.cs⟩ ?_
 refine zzi 3 ⟨26, r2.cs⟩ ?_
 refine zzi 4 ⟨26, [.bool false, .slice none 0 0, .slice none 0 0]⟩ ?_
 refine zza 5 (.v (.int .i64 0)) ?_
 refine zzb 31 [(2, .adr 2 0), (3, .adr 3 0), (4, .adr 4 0)] [(2, ⟨26, r1.cs⟩), (3, ⟨26, r2.cs⟩), (4, ⟨26, [.bool false, .slice none 0 0, .slice none 0 0]⟩)] ?_
 refine sq9 ?_
 refine zzg 11 (.v (r1.v)) ty26 zzd ?_
 refine zzf 12 105 [r1.v] ?_
 intro w11 u11 e11 d11
 have k15 := k_parts d11 (hr1.ext e11) (by omega)
 with_reducible refine Post.mono k15 ?_
 rintro _ u13 g14 ⟨i12, j12, z12, D12, rfl, hi12, hj12, hp12, hq12, hk12⟩
 refine zza 10 (.v (.tuple #[i12.v, j12.v])) ?_
 refine zza 13 (.v (i12.v)) ?_
 refine zza 14 (.v (j12.v)) ?_
 refine zzi 6 ⟨24, [.bool false, .slice none 0 0]⟩ ?_
 refine zzi 7 ⟨24, [.bool false, .slice none 0 0]⟩ ?_
 refine zzh ⟨24, i12.cs⟩ ty24 ?_
 refine zzh ⟨24, j12.cs⟩ ty24 ?_
 refine zzb 31 [(3, .adr 3 0), (4, .adr 4 0), (6, .adr 6 0), (7, .adr 7 0)] [(3, ⟨26, r2.cs⟩), (4, ⟨26, [.bool false, .slice none 0 0, .slice none 0 0]⟩), (6, ⟨24, i12.cs⟩), (7, ⟨24, j12.cs⟩)] ?_
 refine sq9 ?_
 refine zzg 16 (.v (r2.v)) ty26 zzd ?_
 refine zzf 17 105 [r2.v] ?_
 intro w16 u16 e16 d16
 have k20 := k_parts d16 (hr2.ext (e11.trans (g14.ext.trans e16))) (by omega)
 with_reducible refine Post.mono k20 ?_
 rintro _ u18 g19 ⟨i17, j17, z17, D17, rfl, hi17, hj17, hp17, hq17, hk17⟩
 refine zza 15 (.v (.tuple #[i17.v, j17.v])) ?_
 refine zza 18 (.v (i17.v)) ?_
 refine zza 19 (.v (j17.v)) ?_
 refine zzi 8 ⟨24, [.bool false, .slice none 0 0]⟩ ?_
 refine zzi 9 ⟨24, [.bool false, .slice none 0 0]⟩ ?_
 refine zzh ⟨24, i17.cs⟩ ty24 ?_
 refine zzh ⟨24, j17.cs⟩ ty24 ?_
 refine zzb 31 [(4, .adr 4 0), (6, .adr 6 0), (7, .adr 7 0), (8, .adr 8 0), (9, .adr 9 0)] [(4, ⟨26, [.bool false, .slice none 0 0, .slice none 0 0]⟩), (6, ⟨24, i12.cs⟩), (7, ⟨24, j12.cs⟩), (8, ⟨24, i17.cs⟩), (9, ⟨24, j17.cs⟩)] ?_
 refine zzc ?_
 refine sq9 ?_
 refine zzg 20 (.v (i17.v)) ty24 zzd ?_
 refine zzf 21 125 [i17.v] ?_
 intro w21 u21 e21 d21
 have k24 := k_riSign d21 (hi17.ext e21) (by omega)
 with_reducible refine Post.mono k24 ?_
 rintro _ u22 g23 rfl
 refine zza 22 (.v (.bool ((Nt.cmpS z17 0) == 0))) ?_
 refine zzb 31 [(4, .adr 4 0), (6, .adr 6 0), (7, .adr 7 0), (8, .adr 8 0), (9, .adr 9 0), (22, .v (.bool ((Nt.cmpS z17 0) == 0)))] [(4, ⟨26, [.bool false, .slice none 0 0, .slice none 0 0]⟩), (6, ⟨24, i12.cs⟩), (7, ⟨24, j12.cs⟩), (8, ⟨24, i17.cs⟩), (9, ⟨24, j17.cs⟩)] ?_
 refine zzs (b := (Nt.cmpS z17 0) == 0) (by kernel_rfl) (fun hb25 => ?_) (fun hb25 => ?_)
 ·replace hb25 : ((Nt.cmpS z17 0) == 0) = true := hb25
  refine sq9 ?_
  refine zza 23 (.v (.agg #[.bool false, .slice none 0 0, .slice none 0 0])) ?_
  refine zzh ⟨26, [.bool false, .slice none 0 0, .slice none 0 0]⟩ ty26 ?_
  refine zza 5 (.v (.int .i64 3)) ?_
  refine zzb 31 [(4, .adr 4 0), (5, .v (.int .i64 3))] [(4, ⟨26, [.bool false, .slice none 0 0, .slice none 0 0]⟩)] ?_
  refine zzm (zzu (ret0 [.agg #[.bool false, .slice none 0 0, .slice none 0 0], .int .i64 3] ⟨zzp ty26 zzd, zzo, trivial⟩ fun u26 e27 => ?_))
  left
  exact ⟨rfl, by rw [hq17, Nt.cmp_eq0 hb25, Rat.zero_mkRat]⟩
 ·replace hb25 : ((Nt.cmpS z17 0) == 0) = false := hb25
  have hz0 : z17 ≠ 0 := Nt.cmp_ne0 hb25
  refine zzq (zzn ?_)
  refine zzc ?_
  refine zzx [0, 0, 3, 0, 0, 31, 63, 127, 255] [(0, []), (1, []), (3, []), (4, []), (2, []), (5, []), (6, []), (7, []), (8, [])] (by kernel_rfl) (by kernel_rfl) ?_
  refine zzg 24 (.v (i12.v)) ty24 zzd ?_
  refine zzg 25 (.v (j17.v)) ty24 zzd ?_
  refine zzg 27 (.v (j12.v)) ty24 zzd ?_
  refine zzg 28 (.v (i17.v)) ty24 zzd ?_
  refine zzf 26 108 [i12.v, j17.v] ?_
  intro w28 u28 e28 d28
  have k33 := k_riMul d28 (hi12.ext (e16.trans (g19.ext.trans (e21.trans (g23.ext.trans e28))))) (hj17.ext (e21.trans (g23.ext.trans e28))).raw (by omega) (by omega)
  with_reducible refine Post.mono k33 ?_
  rintro _ u31 g32 ⟨i29, rfl, h30⟩
  refine zzf 29 108 [j12.v, i17.v] ?_
  intro w34 u34 e34 d34
  have k39 := k_riMul d34 (hj12.ext (e16.trans (g19.ext.trans (e21.trans (g23.ext.trans (e28.trans (g32.ext.trans e34))))))).raw (hi17.ext (e21.trans (g23.ext.trans (e28.trans (g32.ext.trans e34))))) (by omega) (by omega)
  with_reducible refine Post.mono k39 ?_
  rintro _ u37 g38 ⟨i35, rfl, h36⟩
  refine zzf 30 106 [i29.v, i35.v] ?_
  intro w40 u40 e40 d40
  have k45 := k_reduce d40 (h30.ext (e34.trans (g38.ext.trans e40))).raw (h36.ext e40).raw (by omega) (by omega)
  with_reducible refine Post.mono k45 ?_
  rintro _ u43 g44 ⟨r41, rfl, h42⟩
  refine zzh ⟨26, r41.cs⟩ ty26 ?_
  refine zza 5 (.v (.int .i64 0)) ?_
  refine zzb 31 [(4, .adr 4 0), (5, .v (.int .i64 0))] [(4, ⟨26, r41.cs⟩)] ?_
  refine zzm (ret0 [r41.v, .int .i64 0] ⟨zzp ty26 zzd, zzo, trivial⟩ fun u46 e47 => ?_)
  right
  refine ⟨?_, r41, rfl, RatN.more (K := (max (K + L) (K + L) + 1)) ?_ (by omega)⟩
  ·rw [hq17]; exact (Rat.mkRat_ne_zero (by omega)).2 hz0
  ·rw [hq12, hq17, ← Nt.quo_mk hp12 hp17 hz0]
   exact (h42.ext e47)
theorem k_rqOver {u w : World} {r1 : RL} {x : Rat} {K : Nat} {r2 : RL} {y : Rat} {L : Nat} (d : Dat u w) (hr1 : RatV u r1 x K) (hr2 : RatV u r2 y L) (hK : K ≤ 100000000) (hL : L ≤ 100000000) : Calls Tryz.prog 16 #[r1.v, r2.v] w (Post u w fun v u' => ∃ r : RL, v = r.v ∧ RatN u' r (x / y) (K + L + 2)) := by
 refine zzk (args := [r1.v, r2.v]) Tryz.func16 rfl Tryz.ntmps16 (rs := [.cell 4 26]) Tryz.results16 (le_b rfl) (le_b rfl) d ?_
 refine sq9 ?_
 refine zzi 2 ⟨26, r1.cs⟩ ?_
 refine zzi 3 ⟨26, r2.cs⟩ ?_
 refine zzi 4 ⟨26, [.bool false, .slice none 0 0, .slice none 0 0]⟩ ?_
 refine zzb 17 [(2, .adr 2 0), (3, .adr 3 0), (4, .adr 4 0)] [(2, ⟨26, r1.cs⟩), (3, ⟨26, r2.cs⟩), (4, ⟨26, [.bool false, .slice none 0 0, .slice none 0 0]⟩)] ?_
 refine sq9 ?_
 refine zzg 8 (.v (r1.v)) ty26 zzd ?_
 refine zzg 9 (.v (r2.v)) ty26 zzd ?_
 refine zzf 10 102 [r1.v, r2.v] ?_
 intro w11 u11 e11 d11
 have k17 := k_rqDiv d11 (hr1.ext e11) (hr2.ext e11) (by omega) (by omega)
 with_reducible refine Post.mono k17 ?_
 rintro _ u15 g16 (⟨rfl, hz12⟩ | ⟨hz12, r13, rfl, h14⟩)
 ·skip
  refine zza 7 (.v (.tuple #[.agg #[.bool false, .slice none 0 0, .slice none 0 0], .int .i64 3])) ?_
  refine zza 11 (.v (.agg #[.bool false, .slice none 0 0, .slice none 0 0])) ?_
  refine zza 12 (.v (.int .i64 3)) ?_
  refine zzi 5 ⟨26, [.bool false, .slice none 0 0, .slice none 0 0]⟩ ?_
  refine zzh ⟨26, [.bool false, .slice none 0 0, .slice none 0 0]⟩ ty26 ?_
  refine zza 6 (.v (.int .i64 3)) ?_
  refine zzb 17 [(4, .adr 4 0), (5, .adr 5 0), (6, .v (.int .i64 3))] [(4, ⟨26, [.bool false, .slice none 0 0, .slice none 0 0]⟩), (5, ⟨26, [.bool false, .slice none 0 0, .slice none 0 0]⟩)] ?_
  refine zzc ?_
  refine sq9 ?_
  refine zza 13 (.v (.int .i64 3)) ?_
  refine zza 14 (.v (.bool true)) ?_
  refine zzb 17 [(4, .adr 4 0), (5, .adr 5 0), (14, .v (.bool true))] [(4, ⟨26, [.bool false, .slice none 0 0, .slice none 0 0]⟩), (5, ⟨26, [.bool false, .slice none 0 0, .slice none 0 0]⟩)] ?_
  refine zym (by kernel_rfl) ?_
  refine sq9 ?_
  refine zzf 15 41 [.int .i64 0] ?_
  intro w18 u18 e18 d18
  have k23 := k_rqOf d18 (z := 0) (by omega) (by omega)
  with_reducible refine Post.mono k23 ?_
  rintro _ u21 g22 ⟨r19, rfl, h20⟩
  refine zzh ⟨26, r19.cs⟩ ty26 ?_
  refine zzb 17 [(4, .adr 4 0)] [(4, ⟨26, r19.cs⟩)] ?_
  refine zzm (zzu (ret0 [r19.v] ⟨zzp ty26 zzd, trivial⟩ fun u24 e25 => ?_))
  refine ⟨r19, rfl, RatN.more (K := 2) ?_ (by omega)⟩
  rw [hz12, Rat.div_def, Rat.inv_zero, Rat.mul_zero]
  exact (h20.ext e25)
 ·skip
  refine zza 7 (.v (.tuple #[r13.v, .int .i64 0])) ?_
  refine zza 11 (.v (r13.v)) ?_
  refine zza 12 (.v (.int .i64 0)) ?_
  refine zzi 5 ⟨26, [.bool false, .slice none 0 0, .slice none 0 0]⟩ ?_
  refine zzh ⟨26, r13.cs⟩ ty26 ?_
  refine zza 6 (.v (.int .i64 0)) ?_
  refine zzb 17 [(4, .adr 4 0), (5, .adr 5 0), (6, .v (.int .i64 0))] [(4, ⟨26, [.bool false, .slice none 0 0, .slice none 0 0]⟩), (5, ⟨26, r13.cs⟩)] ?_
  refine zzc ?_
  refine sq9 ?_
  refine zza 13 (.v (.int .i64 0)) ?_
  refine zza 14 (.v (.bool false)) ?_
  refine zzb 17 [(4, .adr 4 0), (5, .adr 5 0), (14, .v (.bool false))] [(4, ⟨26, [.bool false, .slice none 0 0, .slice none 0 0]⟩), (5, ⟨26, r13.cs⟩)] ?_
  refine zyn (by kernel_rfl) ?_
  refine zzq (zzn ?_)
  refine sq9 ?_
  refine zzg 16 (.v (r13.v)) ty26 zzd ?_
  refine zzh ⟨26, r13.cs⟩ ty26 ?_
  refine zzb 17 [(4, .adr 4 0)] [(4, ⟨26, r13.cs⟩)] ?_
  refine zzm (ret0 [r13.v] ⟨zzp ty26 zzd, trivial⟩ fun u26 e27 => ?_)
  refine ⟨r13, rfl, RatN.more (K := (K + L + 1)) ?_ (by omega)⟩
  exact (h14.ext e27)
theorem k_signed {u w : World} {s : Bool} {x : Sl} {N K : Nat} (d : Dat u w) (h : NatN u x N K) : Calls Tryz.prog 180 #[.bool s, x.v] w (Post u w fun v u' => ∃ i : IL, v = i.v ∧ IntN u' i (Nt.sg s N) K) := by
 refine zzk (args := [.bool s, .slice x.a x.n x.c]) Tryz.func180 rfl Tryz.ntmps180 (rs := [.cell 4 24]) Tryz.results180 (le_b rfl) (le_b rfl) d ?_
 refine sq9 ?_
 refine zzi 4 ⟨24, [.bool false, .slice none 0 0]⟩ ?_
 refine zzb 13 [(0, .v (.bool s)), (1, .v x.v), (4, .adr 4 0)] [(4, ⟨24, [.bool false, .slice none 0 0]⟩)] ?_
 refine sq9 ?_
 refine zza 5 (.v (.bool s)) ?_
 rcases Bool.eq_false_or_eq_true s with hs11 | hs11
 ·refine zyl 6 (x := .v (.bool s)) (.v (.bool true)) (by rw [hs11]) ?_
  refine zza 7 (.v x.v) ?_ (hw := w1 1 true 6)
  refine zza 8 (.v (.int .i64 (x.n : Int))) ?_ (hw := w1 1 true 6)
  refine zza 9 (.v (.bool (decide ((0 : Int) < (x.n : Int))))) ?_ (hw := w1 1 true 6)
  refine zza 10 (.v (.bool (decide ((0 : Int) < (x.n : Int))))) ?_
  refine zza 11 (.v x.v) ?_
  refine zza 12 (.v (.agg #[.bool (decide ((0 : Int) < (x.n : Int))), x.v])) ?_
  refine zzh ⟨24, [.bool (decide ((0 : Int) < (x.n : Int))), x.v]⟩ ty24 ?_
  refine zzb 13 [(4, .adr 4 0)] [(4, ⟨24, [.bool (decide ((0 : Int) < (x.n : Int))), x.v]⟩)] ?_
  refine zzm (ret0 [.agg #[.bool (decide ((0 : Int) < (x.n : Int))), .slice x.a x.n x.c]] ⟨zzp ty24 zzd, trivial⟩ fun u12 e13 => ?_)
  rw [hs11]
  exact ⟨⟨_, x⟩, rfl, signed_int (s := true) (h.ext e13)⟩
 ·refine zyl 6 (x := .v (.bool s)) (.v (.bool false)) (by rw [hs11]) ?_
  refine zzl 7 (uw 1 true false 6) ?_
  refine zzl 8 (uw 1 true false 6) ?_
  refine zzl 9 (uw 1 true false 6) ?_
  refine zza 10 (.v (.bool false)) ?_
  refine zza 11 (.v x.v) ?_
  refine zza 12 (.v (.agg #[.bool false, x.v])) ?_
  refine zzh ⟨24, [.bool false, x.v]⟩ ty24 ?_
  refine zzb 13 [(4, .adr 4 0)] [(4, ⟨24, [.bool false, x.v]⟩)] ?_
  refine zzm (ret0 [.agg #[.bool false, .slice x.a x.n x.c]] ⟨zzp ty24 zzd, trivial⟩ fun u14 e15 => ?_)
  rw [hs11]
  exact ⟨⟨_, x⟩, rfl, signed_int (s := false) (h.ext e15)⟩
theorem k_intTrim {u w : World} {i1 : IL} {zN : Int} {K : Nat} (d : Dat u w) (hi1 : IntV u i1 zN K) (hK : K ≤ 500000000) : Calls Tryz.prog 182 #[i1.v] w (Post u w fun v u' => ∃ i : IL, v = i.v ∧ IntN u' i zN K) := by
 obtain ⟨N, hN, hzN⟩ := hi1
 refine zzk (args := [i1.v]) Tryz.func182 rfl Tryz.ntmps182 (rs := [.cell 2 24]) Tryz.results182 (le_b rfl) (le_b rfl) d ?_
 refine sq9 ?_
 refine zzi 1 ⟨24, i1.cs⟩ ?_
 refine zzi 2 ⟨24, [.bool false, .slice none 0 0]⟩ ?_
 refine zzb 9 [(1, .adr 1 0), (2, .adr 2 0)] [(1, ⟨24, i1.cs⟩), (2, ⟨24, [.bool false, .slice none 0 0]⟩)] ?_
 refine zzc ?_
 refine zzx [0, 1, 0, 4, 12, 31, 63] [(0, []), (1, []), (2, []), (3, []), (4, []), (5, []), (6, [])] (by kernel_rfl) (by kernel_rfl) ?_
 refine zza 3 (.adr 1 0) ?_
 refine zzg 4 (.v (.bool i1.s)) ty4 zzj ?_
 refine zza 5 (.adr 1 1) ?_
 refine zzg 6 (.v i1.m.v) ty22 zzj ?_
 refine zzf 7 183 [i1.m.v] ?_
 intro w11 u11 e11 d11
 have k16 := k_natTrim d11 (hN.ext e11) (by omega)
 with_reducible refine Post.mono k16 ?_
 rintro _ u14 g15 ⟨x12, rfl, h13⟩
 refine zzf 8 180 [.bool i1.s, x12.v] ?_
 intro w17 u17 e17 d17
 have k22 := k_signed d17 (s := i1.s) (h13.ext e17)
 with_reducible refine Post.mono k22 ?_
 rintro _ u20 g21 ⟨i18, rfl, h19⟩
 refine zzh ⟨24, i18.cs⟩ ty24 ?_
 refine zzb 9 [(2, .adr 2 0)] [(2, ⟨24, i18.cs⟩)] ?_
 refine zzm (ret0 [i18.v] ⟨zzp ty24 zzd, trivial⟩ fun u23 e24 => ?_)
 refine ⟨i18, rfl, IntN.more (K := K) ?_ (by omega)⟩
 rw [hzN]
 exact (h19.ext e24)
theorem k_intMul {u w : World} {i1 : IL} {zN : Int} {K : Nat} {i2 : IL} {zM : Int} {L : Nat} (d : Dat u w) (hi1 : IntV u i1 zN K) (hi2 : IntV u i2 zM L) (hK : K ≤ 500000000) (hL : L ≤ 500000000) : Calls Tryz.prog 147 #[i1.v, i2.v] w (Post u w fun v u' => ∃ i : IL, v = i.v ∧ IntN u' i (zN * zM) (K + L)) := by
 obtain ⟨N, hN, hzN⟩ := hi1
 obtain ⟨M, hM, hzM⟩ := hi2
 refine zzk (args := [i1.v, i2.v]) Tryz.func147 rfl Tryz.ntmps147 (rs := [.cell 4 24]) Tryz.results147 (le_b rfl) (le_b rfl) d ?_
 refine sq9 ?_
 refine zzi 2 ⟨24, i1.cs⟩ ?_
 refine zzi 3 ⟨24, i2.cs⟩ ?_
 refine zzi 4 ⟨24, [.bool false, .slice none 0 0]⟩ ?_
 refine zzb 16 [(2, .adr 2 0), (3, .adr 3 0), (4, .adr 4 0)] [(2, ⟨24, i1.cs⟩), (3, ⟨24, i2.cs⟩), (4, ⟨24, [.bool false, .slice none 0 0]⟩)] ?_
 refine zzc ?_
 refine zzx [0, 1, 0, 4, 15, 0, 32, 0, 128, 480, 1023, 2047] [(0, []), (1, []), (2, []), (3, []), (4, []), (5, []), (6, []), (7, []), (8, []), (9, []), (10, []), (11, [])] (by kernel_rfl) (by kernel_rfl) ?_
 refine zza 5 (.adr 2 0) ?_
 refine zzg 6 (.v (.bool i1.s)) ty4 zzj ?_
 refine zza 7 (.adr 3 0) ?_
 refine zzg 8 (.v (.bool i2.s)) ty4 zzj ?_
 refine zza 9 (.v (.bool (!(i1.s == i2.s)))) ?_
 refine zza 10 (.adr 2 1) ?_
 refine zzg 11 (.v i1.m.v) ty22 zzj ?_
 refine zza 12 (.adr 3 1) ?_
 refine zzg 13 (.v i2.m.v) ty22 zzj ?_
 refine zzf 14 155 [i1.m.v, i2.m.v] ?_
 intro w11 u11 e11 d11
 have k16 := k_natMul d11 (hN.ext e11) (hM.ext e11) (by omega) (by omega)
 with_reducible refine Post.mono k16 ?_
 rintro _ u14 g15 ⟨x12, rfl, h13⟩
 refine zzf 15 180 [.bool (!(i1.s == i2.s)), x12.v] ?_
 intro w17 u17 e17 d17
 have k22 := k_signed d17 (s := !(i1.s == i2.s)) (h13.ext e17)
 with_reducible refine Post.mono k22 ?_
 rintro _ u20 g21 ⟨i18, rfl, h19⟩
 refine zzh ⟨24, i18.cs⟩ ty24 ?_
 refine zzb 16 [(4, .adr 4 0)] [(4, ⟨24, i18.cs⟩)] ?_
 refine zzm (ret0 [i18.v] ⟨zzp ty24 zzd, trivial⟩ fun u23 e24 => ?_)
 refine ⟨i18, rfl, IntN.more (K := (K + L)) ?_ (by omega)⟩
 rw [hzN, hzM, ← Nt.sg_mul]
 exact (h19.ext e24)
theorem k_intAdd {u w : World} {i1 : IL} {zN : Int} {K : Nat} {i2 : IL} {zM : Int} {L : Nat} (d : Dat u w) (hi1 : IntV u i1 zN K) (hi2 : IntV u i2 zM L) (hK : K ≤ 500000000) (hL : L ≤ 500000000) : Calls Tryz.prog 153 #[i1.v, i2.v] w (Post u w fun v u' => ∃ i : IL, v = i.v ∧ IntN u' i (zN + zM) (max K L + 1)) := by
 obtain ⟨N, hN, hzN⟩ := hi1
 obtain ⟨M, hM, hzM⟩ := hi2
 refine zzk (args := [i1.v, i2.v]) Tryz.func153 rfl Tryz.ntmps153 (rs := [.cell 4 24]) Tryz.results153 (le_b rfl) (le_b rfl) d ?_
 refine sq9 ?_
 refine zzi 2 ⟨24, i1.cs⟩ ?_
 refine zzi 3 ⟨24, i2.cs⟩ ?_
 refine zzi 4 ⟨24, [.bool false, .slice none 0 0]⟩ ?_
 refine zzb 40 [(2, .adr 2 0), (3, .adr 3 0), (4, .adr 4 0)] [(2, ⟨24, i1.cs⟩), (3, ⟨24, i2.cs⟩), (4, ⟨24, [.bool false, .slice none 0 0]⟩)] ?_
 refine zzc ?_
 refine sq9 ?_
 refine zza 5 (.adr 2 0) ?_
 refine zzg 6 (.v (.bool i1.s)) ty4 zzj ?_
 refine zza 7 (.adr 3 0) ?_
 refine zzg 8 (.v (.bool i2.s)) ty4 zzj ?_
 refine zza 9 (.v (.bool (i1.s == i2.s))) ?_
 refine zzb 40 [(2, .adr 2 0), (3, .adr 3 0), (4, .adr 4 0), (9, .v (.bool (i1.s == i2.s)))] [(2, ⟨24, i1.cs⟩), (3, ⟨24, i2.cs⟩), (4, ⟨24, [.bool false, .slice none 0 0]⟩)] ?_
 refine zzs (b := i1.s == i2.s) (by kernel_rfl) (fun hb11 => ?_) (fun hb11 => ?_)
 ·replace hb11 : (i1.s == i2.s) = true := hb11
  refine zzc ?_
  refine zzx [0, 1, 0, 4, 0, 16, 60, 127, 255] [(0, []), (1, []), (2, []), (3, []), (4, []), (5, []), (6, []), (7, []), (8, [])] (by kernel_rfl) (by kernel_rfl) ?_
  refine zza 10 (.adr 2 0) ?_
  refine zzg 11 (.v (.bool i1.s)) ty4 zzj ?_
  refine zza 12 (.adr 2 1) ?_
  refine zzg 13 (.v i1.m.v) ty22 zzj ?_
  refine zza 14 (.adr 3 1) ?_
  refine zzg 15 (.v i2.m.v) ty22 zzj ?_
  refine zzf 16 185 [i1.m.v, i2.m.v] ?_
  intro w12 u12 e12 d12
  have k17 := k_natAdd d12 (hN.ext e12) (hM.ext e12) (by omega) (by omega)
  with_reducible refine Post.mono k17 ?_
  rintro _ u15 g16 ⟨x13, rfl, h14⟩
  refine zzf 17 180 [.bool i1.s, x13.v] ?_
  intro w18 u18 e18 d18
  have k23 := k_signed d18 (s := i1.s) (h14.ext e18)
  with_reducible refine Post.mono k23 ?_
  rintro _ u21 g22 ⟨i19, rfl, h20⟩
  refine zzh ⟨24, i19.cs⟩ ty24 ?_
  refine zzb 40 [(4, .adr 4 0)] [(4, ⟨24, i19.cs⟩)] ?_
  refine zzm (zzu (ret0 [i19.v] ⟨zzp ty24 zzd, trivial⟩ fun u24 e25 => ?_))
  refine ⟨i19, rfl, IntN.more (K := (max K L + 1)) ?_ (by omega)⟩
  rw [hzN, hzM, ← Nt.sg_add1 N M hb11]
  exact (h20.ext e25)
 ·replace hb11 : (i1.s == i2.s) = false := hb11
  refine zzq (zzn ?_)
  refine zzc ?_
  refine sq9 ?_
  refine zza 18 (.adr 2 1) ?_
  refine zzg 19 (.v i1.m.v) ty22 zzj ?_
  refine zza 20 (.adr 3 1) ?_
  refine zzg 21 (.v i2.m.v) ty22 zzj ?_
  refine zzf 22 154 [i1.m.v, i2.m.v] ?_
  intro w26 u26 e26 d26
  have k29 := k_natCompare d26 (hN.ext e26) (hM.ext e26)
  with_reducible refine Post.mono k29 ?_
  rintro _ u27 g28 rfl
  refine zza 23 (.v (.bool ((Nt.cmpS N M) == (-1)))) ?_
  refine zzb 40 [(2, .adr 2 0), (3, .adr 3 0), (4, .adr 4 0), (23, .v (.bool ((Nt.cmpS N M) == (-1))))] [(2, ⟨24, i1.cs⟩), (3, ⟨24, i2.cs⟩), (4, ⟨24, [.bool false, .slice none 0 0]⟩)] ?_
  refine zzs (b := (Nt.cmpS N M) == (-1)) (by kernel_rfl) (fun hb30 => ?_) (fun hb30 => ?_)
  ·replace hb30 : ((Nt.cmpS N M) == (-1)) = true := hb30
   refine zzc ?_
   refine zzx [0, 1, 0, 4, 0, 16, 60, 127, 255] [(0, []), (1, []), (2, []), (3, []), (4, []), (5, []), (6, []), (7, []), (8, [])] (by kernel_rfl) (by kernel_rfl) ?_
   refine zza 24 (.adr 3 0) ?_
   refine zzg 25 (.v (.bool i2.s)) ty4 zzj ?_
   refine zza 26 (.adr 3 1) ?_
   refine zzg 27 (.v i2.m.v) ty22 zzj ?_
   refine zza 28 (.adr 2 1) ?_
   refine zzg 29 (.v i1.m.v) ty22 zzj ?_
   refine zzf 30 186 [i2.m.v, i1.m.v] ?_
   intro w31 u31 e31 d31
   have k36 := k_natSub d31 (hM.ext (e26.trans (g28.ext.trans e31))) (hN.ext (e26.trans (g28.ext.trans e31))) (by omega) (by omega)
   with_reducible refine Post.mono k36 ?_
   rintro _ u34 g35 ⟨x32, rfl, h33⟩
   refine zzf 31 180 [.bool i2.s, x32.v] ?_
   intro w37 u37 e37 d37
   have k42 := k_signed d37 (s := i2.s) (h33.ext e37)
   with_reducible refine Post.mono k42 ?_
   rintro _ u40 g41 ⟨i38, rfl, h39⟩
   refine zzh ⟨24, i38.cs⟩ ty24 ?_
   refine zzb 40 [(4, .adr 4 0)] [(4, ⟨24, i38.cs⟩)] ?_
   refine zzm (zzu (ret0 [i38.v] ⟨zzp ty24 zzd, trivial⟩ fun u43 e44 => ?_))
   refine ⟨i38, rfl, IntN.more (K := L) ?_ (by omega)⟩
   rw [hzN, hzM, ← Nt.sg_add2 N M hb11 hb30]
   exact (h39.ext e44)
  ·replace hb30 : ((Nt.cmpS N M) == (-1)) = false := hb30
   refine zzq (zzn ?_)
   refine zzc ?_
   refine zzx [0, 1, 0, 4, 0, 16, 60, 127, 255] [(0, []), (1, []), (2, []), (3, []), (4, []), (5, []), (6, []), (7, []), (8, [])] (by kernel_rfl) (by kernel_rfl) ?_
   refine zza 32 (.adr 2 0) ?_
   refine zzg 33 (.v (.bool i1.s)) ty4 zzj ?_
   refine zza 34 (.adr 2 1) ?_
   refine zzg 35 (.v i1.m.v) ty22 zzj ?_
   refine zza 36 (.adr 3 1) ?_
   refine zzg 37 (.v i2.m.v) ty22 zzj ?_
   refine zzf 38 186 [i1.m.v, i2.m.v] ?_
   intro w45 u45 e45 d45
   have k50 := k_natSub d45 (hN.ext (e26.trans (g28.ext.trans e45))) (hM.ext (e26.trans (g28.ext.trans e45))) (by omega) (by omega)
   with_reducible refine Post.mono k50 ?_
   rintro _ u48 g49 ⟨x46, rfl, h47⟩
   refine zzf 39 180 [.bool i1.s, x46.v] ?_
   intro w51 u51 e51 d51
   have k56 := k_signed d51 (s := i1.s) (h47.ext e51)
   with_reducible refine Post.mono k56 ?_
   rintro _ u54 g55 ⟨i52, rfl, h53⟩
   refine zzh ⟨24, i52.cs⟩ ty24 ?_
   refine zzb 40 [(4, .adr 4 0)] [(4, ⟨24, i52.cs⟩)] ?_
   refine zzm (ret0 [i52.v] ⟨zzp ty24 zzd, trivial⟩ fun u57 e58 => ?_)
   refine ⟨i52, rfl, IntN.more (K := K) ?_ (by omega)⟩
   rw [hzN, hzM, ← Nt.sg_add3 N M hb11 hb30]
   exact (h53.ext e58)
theorem k_intSign {u w : World} {i1 : IL} {zN : Int} {K : Nat} (d : Dat u w) (hi1 : IntV u i1 zN K)  : Calls Tryz.prog 146 #[i1.v] w (Post u w fun v u' => v = .int .i64 (Nt.cmpS zN 0)) := by
 obtain ⟨N, hN, hzN⟩ := hi1
 refine zzk (args := [i1.v]) Tryz.func146 rfl Tryz.ntmps146 (rs := [.tmp 2]) Tryz.results146 (le_b rfl) (le_b rfl) d ?_
 refine sq9 ?_
 refine zzi 1 ⟨24, i1.cs⟩ ?_
 refine zza 2 (.v (.int .i64 0)) ?_
 refine zzb 11 [(1, .adr 1 0)] [(1, ⟨24, i1.cs⟩)] ?_
 refine zzc ?_
 refine zzr ?_
 refine sq9 ?_
 refine zza 4 (.adr 1 1) ?_
 refine zzg 5 (.v i1.m.v) ty22 zzj ?_
 refine zzf 6 154 [i1.m.v, .slice none 0 0] ?_
 intro w11 u11 e11 d11
 have k14 := k_natCompare d11 (hN.ext e11) (nat_nil _ 1)
 with_reducible refine Post.mono k14 ?_
 rintro _ u12 g13 rfl
 refine zza 7 (.v (.bool ((Nt.cmpS N 0) == 0))) ?_
 refine zza 3 (.v (.bool ((Nt.cmpS N 0) == 0))) ?_
 refine zzb 11 [(1, .adr 1 0), (3, .v (.bool ((Nt.cmpS N 0) == 0)))] [(1, ⟨24, i1.cs⟩)] ?_
 refine zzs (b := (Nt.cmpS N 0) == 0) (by kernel_rfl) (fun hb15 => ?_) (fun hb15 => ?_)
 ·replace hb15 : ((Nt.cmpS N 0) == 0) = true := hb15
  refine sq9 ?_
  refine zza 2 (.v (.int .i64 0)) ?_
  refine zzb 11 [(2, .v (.int .i64 0))] [] ?_
  refine zzm (zyo (zzu (ret0 [.int .i64 0] ⟨zzo, trivial⟩ fun u16 e17 => ?_)))
  show _ = _
  rw [hzN, Nt.sg_cmp0, if_pos hb15]
  rfl
 ·replace hb15 : ((Nt.cmpS N 0) == 0) = false := hb15
  refine sq9 ?_
  refine zza 9 (.adr 1 0) ?_
  refine zzg 10 (.v (.bool i1.s)) ty4 zzj ?_
  refine zza 8 (.v (.bool i1.s)) ?_
  refine zzb 11 [(8, .v (.bool i1.s))] [] ?_
  refine zzs (b := i1.s) (by kernel_rfl) (fun hb18 => ?_) (fun hb18 => ?_)
  ·replace hb18 : i1.s = true := hb18
   refine sq9 ?_
   refine zza 2 (.v (.int .i64 (-1))) ?_
   refine zzb 11 [(2, .v (.int .i64 (-1)))] [] ?_
   refine zzm (zyo (zzu (ret0 [.int .i64 (-1)] ⟨zzo, trivial⟩ fun u19 e20 => ?_)))
   show _ = _
   rw [hzN, Nt.sg_cmp0, if_neg (ne_true_of_eq_false hb15), if_pos hb18]
   rfl
  ·replace hb18 : i1.s = false := hb18
   refine zzq (zzn ?_)
   refine sq9 ?_
   refine zza 2 (.v (.int .i64 1)) ?_
   refine zzb 11 [(2, .v (.int .i64 1))] [] ?_
   refine zzm (ret0 [.int .i64 1] ⟨zzo, trivial⟩ fun u21 e22 => ?_)
   show _ = _
   rw [hzN, Nt.sg_cmp0, if_neg (ne_true_of_eq_false hb15), if_neg (ne_true_of_eq_false hb18)]
   rfl
namespace Nt
theorem cmp_sg (s t : Bool) (N M : Nat) : cmpS (sg s N) (sg t M) = if decide (cmpS (sg s N) 0 < cmpS (sg t M) 0) = true then -1 else if decide (cmpS (sg t M) 0 < cmpS (sg s N) 0) = true then 1 else if (cmpS (sg s N) 0 == -1) = true then cmpS (M : Int) (N : Int) else cmpS (N : Int) (M : Int) := by
 rcases cmp_range (sg s N) 0 with ⟨e, h⟩ | ⟨e, h⟩ | ⟨e, h⟩ <;> rcases cmp_range (sg t M) 0 with ⟨e', h'⟩ | ⟨e', h'⟩ | ⟨e', h'⟩ <;> rw [e, e'] <;> simp
 ·unfold sg at *; cases s <;> cases t <;> simp at h h' ⊢ <;> unfold cmpS <;> (repeat' split) <;> first | rfl | omega
 ·exact cmp_lt (by omega)
 ·exact cmp_lt (by omega)
 ·exact cmp_gt (by omega)
 ·rw [h, h']; unfold sg at *; cases s <;> cases t <;> simp at h h' <;> rw [h, h'] <;> rfl
 ·exact cmp_lt (by omega)
 ·exact cmp_gt (by omega)
 ·exact cmp_gt (by omega)
 ·unfold sg at *; cases s <;> cases t <;> simp at h h' ⊢ <;> first | rfl | omega
end Nt
theorem k_intCompare {u w : World} {i1 : IL} {zN : Int} {K : Nat} {i2 : IL} {zM : Int} {L : Nat} (d : Dat u w) (hi1 : IntV u i1 zN K) (hi2 : IntV u i2 zM L)  : Calls Tryz.prog 167 #[i1.v, i2.v] w (Post u w fun v u' => v = .int .i64 (Nt.cmpS zN zM)) := by
 obtain ⟨N, hN, hzN⟩ := hi1
 obtain ⟨M, hM, hzM⟩ := hi2
 refine zzk (args := [i1.v, i2.v]) Tryz.func167 rfl Tryz.ntmps167 (rs := [.tmp 4]) Tryz.results167 (le_b rfl) (le_b rfl) d ?_
 refine sq9 ?_
 refine zzi 2 ⟨24, i1.cs⟩ ?_
 refine zzi 3 ⟨24, i2.cs⟩ ?_
 refine zza 4 (.v (.int .i64 0)) ?_
 refine zzb 32 [(2, .adr 2 0), (3, .adr 3 0)] [(2, ⟨24, i1.cs⟩), (3, ⟨24, i2.cs⟩)] ?_
 refine zzc ?_
 refine zzx [0, 1, 0, 7, 15, 31] [(0, []), (2, []), (1, []), (3, []), (4, []), (5, [])] (by kernel_rfl) (by kernel_rfl) ?_
 refine zzg 7 (.v (i1.v)) ty24 zzd ?_
 refine zzg 9 (.v (i2.v)) ty24 zzd ?_
 refine zzf 8 146 [i1.v] ?_
 intro w11 u11 e11 d11
 have k14 := k_intSign d11 (IntV.same (s := i1.s) (hN.ext e11))
 with_reducible refine Post.mono k14 ?_
 rintro _ u12 g13 rfl
 refine zzf 10 146 [i2.v] ?_
 intro w15 u15 e15 d15
 have k18 := k_intSign d15 (IntV.same (s := i2.s) (hM.ext (e11.trans (g13.ext.trans e15))))
 with_reducible refine Post.mono k18 ?_
 rintro _ u16 g17 rfl
 refine zza 5 (.v (.int .i64 (Nt.cmpS (Nt.sg i1.s N) 0))) ?_
 refine zza 6 (.v (.int .i64 (Nt.cmpS (Nt.sg i2.s M) 0))) ?_
 refine zzb 32 [(2, .adr 2 0), (3, .adr 3 0), (5, .v (.int .i64 (Nt.cmpS (Nt.sg i1.s N) 0))), (6, .v (.int .i64 (Nt.cmpS (Nt.sg i2.s M) 0)))] [(2, ⟨24, i1.cs⟩), (3, ⟨24, i2.cs⟩)] ?_
 refine zzc ?_
 refine zzr ?_
 refine sq9 ?_
 refine zza 12 (.v (.int .i64 (Nt.cmpS (Nt.sg i1.s N) 0))) ?_
 refine zza 13 (.v (.int .i64 (Nt.cmpS (Nt.sg i2.s M) 0))) ?_
 refine zza 14 (.v (.bool (decide ((Nt.cmpS (Nt.sg i1.s N) 0) < (Nt.cmpS (Nt.sg i2.s M) 0))))) ?_
 refine zza 11 (.v (.bool (decide ((Nt.cmpS (Nt.sg i1.s N) 0) < (Nt.cmpS (Nt.sg i2.s M) 0))))) ?_
 refine zzb 32 [(2, .adr 2 0), (3, .adr 3 0), (5, .v (.int .i64 (Nt.cmpS (Nt.sg i1.s N) 0))), (6, .v (.int .i64 (Nt.cmpS (Nt.sg i2.s M) 0))), (11, .v (.bool (decide ((Nt.cmpS (Nt.sg i1.s N) 0) < (Nt.cmpS (Nt.sg i2.s M) 0)))))] [(2, ⟨24, i1.cs⟩), (3, ⟨24, i2.cs⟩)] ?_
 refine zzs (b := decide ((Nt.cmpS (Nt.sg i1.s N) 0) < (Nt.cmpS (Nt.sg i2.s M) 0))) (by kernel_rfl) (fun hb19 => ?_) (fun hb19 => ?_)
 ·replace hb19 : (decide ((Nt.cmpS (Nt.sg i1.s N) 0) < (Nt.cmpS (Nt.sg i2.s M) 0))) = true := hb19
  have qhb19 := of_decide_eq_true hb19
  refine sq9 ?_
  refine zza 4 (.v (.int .i64 (-1))) ?_
  refine zzb 32 [(4, .v (.int .i64 (-1)))] [] ?_
  refine zzm (zyo (zzu (ret0 [.int .i64 (-1)] ⟨zzo, trivial⟩ fun u20 e21 => ?_)))
  show _ = _
  rw [hzN, hzM, Nt.cmp_sg, if_pos hb19]
  rfl
 ·replace hb19 : (decide ((Nt.cmpS (Nt.sg i1.s N) 0) < (Nt.cmpS (Nt.sg i2.s M) 0))) = false := hb19
  have qhb19 := of_decide_eq_false hb19
  refine sq9 ?_
  refine zza 16 (.v (.int .i64 (Nt.cmpS (Nt.sg i1.s N) 0))) ?_
  refine zza 17 (.v (.int .i64 (Nt.cmpS (Nt.sg i2.s M) 0))) ?_
  refine zza 18 (.v (.bool (decide ((Nt.cmpS (Nt.sg i2.s M) 0) < (Nt.cmpS (Nt.sg i1.s N) 0))))) ?_
  refine zza 15 (.v (.bool (decide ((Nt.cmpS (Nt.sg i2.s M) 0) < (Nt.cmpS (Nt.sg i1.s N) 0))))) ?_
  refine zzb 32 [(2, .adr 2 0), (3, .adr 3 0), (5, .v (.int .i64 (Nt.cmpS (Nt.sg i1.s N) 0))), (15, .v (.bool (decide ((Nt.cmpS (Nt.sg i2.s M) 0) < (Nt.cmpS (Nt.sg i1.s N) 0)))))] [(2, ⟨24, i1.cs⟩), (3, ⟨24, i2.cs⟩)] ?_
  refine zzs (b := decide ((Nt.cmpS (Nt.sg i2.s M) 0) < (Nt.cmpS (Nt.sg i1.s N) 0))) (by kernel_rfl) (fun hb22 => ?_) (fun hb22 => ?_)
  ·replace hb22 : (decide ((Nt.cmpS (Nt.sg i2.s M) 0) < (Nt.cmpS (Nt.sg i1.s N) 0))) = true := hb22
   have qhb22 := of_decide_eq_true hb22
   refine sq9 ?_
   refine zza 4 (.v (.int .i64 1)) ?_
   refine zzb 32 [(4, .v (.int .i64 1))] [] ?_
   refine zzm (zyo (zzu (ret0 [.int .i64 1] ⟨zzo, trivial⟩ fun u23 e24 => ?_)))
   show _ = _
   rw [hzN, hzM, Nt.cmp_sg, if_neg (ne_true_of_eq_false hb19), if_pos hb22]
   rfl
  ·replace hb22 : (decide ((Nt.cmpS (Nt.sg i2.s M) 0) < (Nt.cmpS (Nt.sg i1.s N) 0))) = false := hb22
   have qhb22 := of_decide_eq_false hb22
   refine sq9 ?_
   refine zza 20 (.v (.int .i64 (Nt.cmpS (Nt.sg i1.s N) 0))) ?_
   refine zza 21 (.v (.bool ((Nt.cmpS (Nt.sg i1.s N) 0) == (-1)))) ?_
   refine zza 19 (.v (.bool ((Nt.cmpS (Nt.sg i1.s N) 0) == (-1)))) ?_
   refine zzb 32 [(2, .adr 2 0), (3, .adr 3 0), (19, .v (.bool ((Nt.cmpS (Nt.sg i1.s N) 0) == (-1))))] [(2, ⟨24, i1.cs⟩), (3, ⟨24, i2.cs⟩)] ?_
   refine zzs (b := (Nt.cmpS (Nt.sg i1.s N) 0) == (-1)) (by kernel_rfl) (fun hb25 => ?_) (fun hb25 => ?_)
   ·replace hb25 : ((Nt.cmpS (Nt.sg i1.s N) 0) == (-1)) = true := hb25
    refine sq9 ?_
    refine zza 22 (.adr 3 1) ?_
    refine zzg 23 (.v i2.m.v) ty22 zzj ?_
    refine zza 24 (.adr 2 1) ?_
    refine zzg 25 (.v i1.m.v) ty22 zzj ?_
    refine zzf 26 154 [i2.m.v, i1.m.v] ?_
    intro w26 u26 e26 d26
    have k29 := k_natCompare d26 (hM.ext (e11.trans (g13.ext.trans (e15.trans (g17.ext.trans e26))))) (hN.ext (e11.trans (g13.ext.trans (e15.trans (g17.ext.trans e26)))))
    with_reducible refine Post.mono k29 ?_
    rintro _ u27 g28 rfl
    refine zza 4 (.v (.int .i64 (Nt.cmpS M N))) ?_
    refine zzb 32 [(4, .v (.int .i64 (Nt.cmpS M N)))] [] ?_
    refine zzm (zyo (zzu (ret0 [.int .i64 (Nt.cmpS M N)] ⟨zzo, trivial⟩ fun u30 e31 => ?_)))
    show _ = _
    rw [hzN, hzM, Nt.cmp_sg, if_neg (ne_true_of_eq_false hb19), if_neg (ne_true_of_eq_false hb22), if_pos hb25]
    rfl
   ·replace hb25 : ((Nt.cmpS (Nt.sg i1.s N) 0) == (-1)) = false := hb25
    refine zzq (zzn ?_)
    refine sq9 ?_
    refine zza 27 (.adr 2 1) ?_
    refine zzg 28 (.v i1.m.v) ty22 zzj ?_
    refine zza 29 (.adr 3 1) ?_
    refine zzg 30 (.v i2.m.v) ty22 zzj ?_
    refine zzf 31 154 [i1.m.v, i2.m.v] ?_
    intro w32 u32 e32 d32
    have k35 := k_natCompare d32 (hN.ext (e11.trans (g13.ext.trans (e15.trans (g17.ext.trans e32))))) (hM.ext (e11.trans (g13.ext.trans (e15.trans (g17.ext.trans e32)))))
    with_reducible refine Post.mono k35 ?_
    rintro _ u33 g34 rfl
    refine zza 4 (.v (.int .i64 (Nt.cmpS N M))) ?_
    refine zzb 32 [(4, .v (.int .i64 (Nt.cmpS N M)))] [] ?_
    refine zzm (ret0 [.int .i64 (Nt.cmpS N M)] ⟨zzo, trivial⟩ fun u36 e37 => ?_)
    show _ = _
    rw [hzN, hzM, Nt.cmp_sg, if_neg (ne_true_of_eq_false hb19), if_neg (ne_true_of_eq_false hb22), if_neg (ne_true_of_eq_false hb25)]
    rfl
theorem k_intOf {u w : World} {z : Int} (d : Dat u w) (h0 : -9223372036854775808 ≤ z) (h1 : z ≤ 9223372036854775807) : Calls Tryz.prog 166 #[.int .i64 z] w (Post u w fun v u' => ∃ i : IL, v = i.v ∧ IntN u' i z 2) := by
 by_cases hneg : z < 0
 ·refine zzk (args := [.int .i64 z]) Tryz.func166 rfl Tryz.ntmps166 (rs := [.cell 2 24]) Tryz.results166 (le_b rfl) (le_b rfl) d ?_
  refine sq9 ?_
  refine zzi 2 ⟨24, [.bool false, .slice none 0 0]⟩ ?_
  refine zzb 20 [(0, .v (.int .i64 z)), (2, .adr 2 0)] [(2, ⟨24, [.bool false, .slice none 0 0]⟩)] ?_
  refine sq9 ?_
  refine zza 4 (.v (.int .i64 z)) ?_
  refine zyl 5 (x := .v (.int .u64 (IntKind.u64.wrap z))) (.v (.int .u64 (z + 18446744073709551616))) (by rw [show (IntKind.u64.wrap z) = (z + 18446744073709551616) from (by simp [IntKind.wrap, IntKind.bits, IntKind.signed]; omega)]) ?_
  refine zza 3 (.v (.int .u64 (z + 18446744073709551616))) ?_
  refine zzb 20 [(0, .v (.int .i64 z)), (2, .adr 2 0), (3, .v (.int .u64 (z + 18446744073709551616)))] [(2, ⟨24, [.bool false, .slice none 0 0]⟩)] ?_
  refine zzc ?_
  refine sq9 ?_
  refine zza 6 (.v (.int .i64 z)) ?_
  refine zyl 7 (x := .v (.bool (decide (z < 0)))) (.v (.bool true)) (by rw [show (decide (z < 0)) = true from (by simp; omega)]) ?_
  refine zzb 20 [(0, .v (.int .i64 z)), (2, .adr 2 0), (3, .v (.int .u64 (z + 18446744073709551616))), (7, .v (.bool true))] [(2, ⟨24, [.bool false, .slice none 0 0]⟩)] ?_
  refine zym (by kernel_rfl) ?_
  refine zze ?_
  refine zza 8 (.v (.int .u64 (z + 18446744073709551616))) ?_
  refine zyl 9 (x := .v (.int .u64 (IntKind.u64.wrap (0 - (z + 18446744073709551616))))) (.v (.int .u64 (-z))) (by rw [show (IntKind.u64.wrap (0 - (z + 18446744073709551616))) = (-z) from (by simp [IntKind.wrap, IntKind.bits, IntKind.signed]; omega)]) ?_
  refine zza 3 (.v (.int .u64 (-z))) ?_
  refine zzb 20 [(0, .v (.int .i64 z)), (2, .adr 2 0), (3, .v (.int .u64 (-z)))] [(2, ⟨24, [.bool false, .slice none 0 0]⟩)] ?_
  refine sq9 ?_
  refine zza 10 (.v (.int .i64 z)) ?_
  refine zyl 11 (x := .v (.bool (decide (z < 0)))) (.v (.bool true)) (by rw [show (decide (z < 0)) = true from (by simp; omega)]) ?_
  refine zza 12 (.v (.int .u64 (-z))) ?_
  refine zyl 13 (x := .v (.int .u32 (IntKind.u32.wrap (-z)))) (.v (.int .u32 ((-z) % 4294967296))) (by rw [show (IntKind.u32.wrap (-z)) = ((-z) % 4294967296) from (IntKind.wrap_u32 _)]) ?_
  refine zza 14 (.v (.int .u64 (-z))) ?_
  refine zyl 15 (x := .v (.int .u64 (Int.fdiv (-z) (2 ^ 32)))) (.v (.int .u64 ((-z) / 4294967296))) (by rw [show (Int.fdiv (-z) (2 ^ 32)) = ((-z) / 4294967296) from (by rw [Int.fdiv_eq_ediv_of_nonneg _ (by decide)]; rfl)]) ?_
  refine zyl 16 (x := .v (.int .u32 (IntKind.u32.wrap ((-z) / 4294967296)))) (.v (.int .u32 ((-z) / 4294967296))) (by rw [show (IntKind.u32.wrap ((-z) / 4294967296)) = ((-z) / 4294967296) from (IntWalk.u32_in _ (by omega))]) ?_
  refine sy_data 17 ⟨105, [.int .u32 ((-z) % 4294967296), .int .u32 ((-z) / 4294967296)]⟩ 2 (fun b11 u12 e13 h14 => ?_)
  refine zzf 18 183 [.slice (some ⟨b11, 0, none⟩) 2 2] ?_
  intro w15 u15 e15 d15
  have k20 := k_natTrim d15 ((two_data (N := z.natAbs) h14 (by omega) (by omega) (by omega)).ext e15) (by omega)
  with_reducible refine Post.mono k20 ?_
  rintro _ u18 g19 ⟨x16, rfl, h17⟩
  refine zzf 19 180 [.bool true, x16.v] ?_
  intro w21 u21 e21 d21
  have k26 := k_signed d21 (s := true) (h17.ext e21)
  with_reducible refine Post.mono k26 ?_
  rintro _ u24 g25 ⟨i22, rfl, h23⟩
  refine zzh ⟨24, i22.cs⟩ ty24 ?_
  refine zzb 20 [(2, .adr 2 0)] [(2, ⟨24, i22.cs⟩)] ?_
  refine zzm (ret0 [i22.v] ⟨zzp ty24 zzd, trivial⟩ fun u27 e28 => ?_)
  refine ⟨i22, rfl, IntN.more (K := 2) ?_ (by omega)⟩
  have e : z = Nt.sg true z.natAbs := by unfold Nt.sg; simp; omega
  rw [e]
  exact (h23.ext e28)
 ·refine zzk (args := [.int .i64 z]) Tryz.func166 rfl Tryz.ntmps166 (rs := [.cell 2 24]) Tryz.results166 (le_b rfl) (le_b rfl) d ?_
  refine sq9 ?_
  refine zzi 2 ⟨24, [.bool false, .slice none 0 0]⟩ ?_
  refine zzb 20 [(0, .v (.int .i64 z)), (2, .adr 2 0)] [(2, ⟨24, [.bool false, .slice none 0 0]⟩)] ?_
  refine sq9 ?_
  refine zza 4 (.v (.int .i64 z)) ?_
  refine zyl 5 (x := .v (.int .u64 (IntKind.u64.wrap z))) (.v (.int .u64 (z))) (by rw [show (IntKind.u64.wrap z) = z from (by simp [IntKind.wrap, IntKind.bits, IntKind.signed]; omega)]) ?_
  refine zza 3 (.v (.int .u64 z)) ?_
  refine zzb 20 [(0, .v (.int .i64 z)), (2, .adr 2 0), (3, .v (.int .u64 z))] [(2, ⟨24, [.bool false, .slice none 0 0]⟩)] ?_
  refine zzc ?_
  refine sq9 ?_
  refine zza 6 (.v (.int .i64 z)) ?_
  refine zyl 7 (x := .v (.bool (decide (z < 0)))) (.v (.bool false)) (by rw [show (decide (z < 0)) = false from (by simp; omega)]) ?_
  refine zzb 20 [(0, .v (.int .i64 z)), (2, .adr 2 0), (3, .v (.int .u64 z)), (7, .v (.bool false))] [(2, ⟨24, [.bool false, .slice none 0 0]⟩)] ?_
  refine zyn (by kernel_rfl) ?_
  refine zzq (zzn ?_)
  refine sq9 ?_
  refine zza 10 (.v (.int .i64 z)) ?_
  refine zyl 11 (x := .v (.bool (decide (z < 0)))) (.v (.bool false)) (by rw [show (decide (z < 0)) = false from (by simp; omega)]) ?_
  refine zza 12 (.v (.int .u64 z)) ?_
  refine zyl 13 (x := .v (.int .u32 (IntKind.u32.wrap (z)))) (.v (.int .u32 ((z) % 4294967296))) (by rw [show (IntKind.u32.wrap (z)) = ((z) % 4294967296) from (IntKind.wrap_u32 _)]) ?_
  refine zza 14 (.v (.int .u64 z)) ?_
  refine zyl 15 (x := .v (.int .u64 (Int.fdiv (z) (2 ^ 32)))) (.v (.int .u64 ((z) / 4294967296))) (by rw [show (Int.fdiv (z) (2 ^ 32)) = ((z) / 4294967296) from (by rw [Int.fdiv_eq_ediv_of_nonneg _ (by decide)]; rfl)]) ?_
  refine zyl 16 (x := .v (.int .u32 (IntKind.u32.wrap ((z) / 4294967296)))) (.v (.int .u32 ((z) / 4294967296))) (by rw [show (IntKind.u32.wrap ((z) / 4294967296)) = ((z) / 4294967296) from (IntWalk.u32_in _ (by omega))]) ?_
  refine sy_data 17 ⟨105, [.int .u32 ((z) % 4294967296), .int .u32 ((z) / 4294967296)]⟩ 2 (fun b11 u12 e13 h14 => ?_)
  refine zzf 18 183 [.slice (some ⟨b11, 0, none⟩) 2 2] ?_
  intro w15 u15 e15 d15
  have k20 := k_natTrim d15 ((two_data (N := z.natAbs) h14 (by omega) (by omega) (by omega)).ext e15) (by omega)
  with_reducible refine Post.mono k20 ?_
  rintro _ u18 g19 ⟨x16, rfl, h17⟩
  refine zzf 19 180 [.bool false, x16.v] ?_
  intro w21 u21 e21 d21
  have k26 := k_signed d21 (s := false) (h17.ext e21)
  with_reducible refine Post.mono k26 ?_
  rintro _ u24 g25 ⟨i22, rfl, h23⟩
  refine zzh ⟨24, i22.cs⟩ ty24 ?_
  refine zzb 20 [(2, .adr 2 0)] [(2, ⟨24, i22.cs⟩)] ?_
  refine zzm (ret0 [i22.v] ⟨zzp ty24 zzd, trivial⟩ fun u27 e28 => ?_)
  refine ⟨i22, rfl, IntN.more (K := 2) ?_ (by omega)⟩
  have e : z = Nt.sg false z.natAbs := by unfold Nt.sg; simp; omega
  rw [e]
  exact (h23.ext e28)
theorem k_natural {u w : World} {x : Sl} (d : Dat u w) : Calls Tryz.prog 148 #[x.v] w (Post u w fun v _ => v = .agg #[.bool false, x.v]) := by
 refine zzk (args := [.slice x.a x.n x.c]) Tryz.func148 rfl Tryz.ntmps148 (rs := [.cell 2 24]) Tryz.results148 (le_b rfl) (le_b rfl) d ?_
 refine sq9 ?_
 refine zzi 2 ⟨24, [.bool false, .slice none 0 0]⟩ ?_
 refine zzb 5 [(0, .v x.v), (2, .adr 2 0)] [(2, ⟨24, [.bool false, .slice none 0 0]⟩)] ?_
 refine sq9 ?_
 refine zza 3 (.v x.v) ?_
 refine zza 4 (.v (.agg #[.bool false, x.v])) ?_
 refine zzh ⟨24, [.bool false, x.v]⟩ ty24 ?_
 refine zzb 5 [(2, .adr 2 0)] [(2, ⟨24, [.bool false, x.v]⟩)] ?_
 refine zzm (ret0 [.agg #[.bool false, .slice x.a x.n x.c]] ⟨zzp ty24 zzd, trivial⟩ fun u11 e12 => ?_)
 exact rfl
theorem k_whole {u w : World} {i : IL} (d : Dat u w) : Calls Tryz.prog 152 #[i.v] w (Post u w fun v u' => ∃ y : Sl, v = .agg #[.bool i.s, i.m.v, y.v] ∧ NatN u' y 1 1) := by
 refine zzk (args := [i.v]) Tryz.func152 rfl Tryz.ntmps152 (rs := [.cell 2 26]) Tryz.results152 (le_b rfl) (le_b rfl) d ?_
 refine sq9 ?_
 refine zzi 1 ⟨24, i.cs⟩ ?_
 refine zzi 2 ⟨26, [.bool false, .slice none 0 0, .slice none 0 0]⟩ ?_
 refine zzb 6 [(1, .adr 1 0), (2, .adr 2 0)] [(1, ⟨24, i.cs⟩), (2, ⟨26, [.bool false, .slice none 0 0, .slice none 0 0]⟩)] ?_
 refine sq9 ?_
 refine zzg 3 (.v (i.v)) ty24 zzd ?_
 refine sy_data 4 ⟨105, [.int .u32 1]⟩ 1 (fun b11 u12 e13 h14 => ?_)
 refine zza 5 (.v (.agg #[.bool i.s, i.m.v, .slice (some ⟨b11, 0, none⟩) 1 1])) ?_
 refine zzh ⟨26, i.cs ++ [.slice (some ⟨b11, 0, none⟩) 1 1]⟩ ty26 ?_
 refine zzb 6 [(2, .adr 2 0)] [(2, ⟨26, i.cs ++ [.slice (some ⟨b11, 0, none⟩) 1 1]⟩)] ?_
 refine zzm (ret0 [.agg #[.bool i.s, .slice i.m.a i.m.n i.m.c, .slice (some ⟨b11, 0, none⟩) 1 1]] ⟨zzp ty26 zzd, trivial⟩ fun u15 e16 => ?_)
 exact ⟨_, rfl, ((one_data h14).ext e16)⟩
theorem k_quotient {u w : World} {i j : IL} (d : Dat u w) : Calls Tryz.prog 149 #[i.v, j.v] w (Post u w fun v _ => v = .agg #[.bool (!(i.s == j.s)), i.m.v, j.m.v]) := by
 refine zzk (args := [i.v, j.v]) Tryz.func149 rfl Tryz.ntmps149 (rs := [.cell 4 114]) Tryz.results149 (le_b rfl) (le_b rfl) d ?_
 refine sq9 ?_
 refine zzi 2 ⟨24, i.cs⟩ ?_
 refine zzi 3 ⟨24, j.cs⟩ ?_
 refine zzi 4 ⟨114, [.bool false, .slice none 0 0, .slice none 0 0]⟩ ?_
 refine zzb 16 [(2, .adr 2 0), (3, .adr 3 0), (4, .adr 4 0)] [(2, ⟨24, i.cs⟩), (3, ⟨24, j.cs⟩), (4, ⟨114, [.bool false, .slice none 0 0, .slice none 0 0]⟩)] ?_
 refine sq9 ?_
 refine zza 5 (.adr 2 0) ?_
 refine zzg 6 (.v (.bool i.s)) ty4 zzj ?_
 refine zza 7 (.adr 3 0) ?_
 refine zzg 8 (.v (.bool j.s)) ty4 zzj ?_
 refine zza 9 (.v (.bool (!(i.s == j.s)))) ?_
 refine zza 10 (.adr 2 1) ?_
 refine zzg 11 (.v i.m.v) ty22 zzj ?_
 refine zza 12 (.v (.agg #[.bool (!(i.s == j.s)), i.m.v])) ?_
 refine zza 13 (.adr 3 1) ?_
 refine zzg 14 (.v j.m.v) ty22 zzj ?_
 refine zza 15 (.v (.agg #[.bool (!(i.s == j.s)), i.m.v, j.m.v])) ?_
 refine zzh ⟨114, [.bool (!(i.s == j.s)), i.m.v, j.m.v]⟩ ty114 ?_
 refine zzb 16 [(4, .adr 4 0)] [(4, ⟨114, [.bool (!(i.s == j.s)), i.m.v, j.m.v]⟩)] ?_
 refine zzm (ret0 [.agg #[.bool (!(i.s == j.s)), .slice i.m.a i.m.n i.m.c, .slice j.m.a j.m.n j.m.c]] ⟨zzp ty114 zzd, trivial⟩ fun u11 e12 => ?_)
 exact rfl
theorem k_flip {u w : World} {r : RL} (d : Dat u w) : Calls Tryz.prog 165 #[r.v] w (Post u w fun v _ => v = .agg #[.bool (!r.s), r.m.v, r.d.v]) := by
 refine zzk (args := [r.v]) Tryz.func165 rfl Tryz.ntmps165 (rs := [.cell 2 26]) Tryz.results165 (le_b rfl) (le_b rfl) d ?_
 refine sq9 ?_
 refine zzi 1 ⟨26, r.cs⟩ ?_
 refine zzi 2 ⟨26, [.bool false, .slice none 0 0, .slice none 0 0]⟩ ?_
 refine zzb 14 [(1, .adr 1 0), (2, .adr 2 0)] [(1, ⟨26, r.cs⟩), (2, ⟨26, [.bool false, .slice none 0 0, .slice none 0 0]⟩)] ?_
 refine sq9 ?_
 refine zza 3 (.adr 1 0) ?_
 refine zza 4 (.adr 1 0) ?_
 refine zzg 5 (.v (.bool r.s)) ty4 zzj ?_
 refine zza 6 (.v (.bool (!r.s))) ?_
 refine zza 7 (.adr 1 0) ?_
 refine zza 8 (.adr 1 1) ?_
 refine zzg 9 (.v r.m.v) ty22 zzj ?_
 refine zza 10 (.v (.agg #[.bool (!r.s), r.m.v])) ?_
 refine zza 11 (.adr 1 2) ?_
 refine zzg 12 (.v r.d.v) ty22 zzj ?_
 refine zza 13 (.v (.agg #[.bool (!r.s), r.m.v, r.d.v])) ?_
 refine zzh ⟨26, [.bool (!r.s), r.m.v, r.d.v]⟩ ty26 ?_
 refine zzb 14 [(2, .adr 2 0)] [(2, ⟨26, [.bool (!r.s), r.m.v, r.d.v]⟩)] ?_
 refine zzm (ret0 [.agg #[.bool (!r.s), .slice r.m.a r.m.n r.m.c, .slice r.d.a r.d.n r.d.c]] ⟨zzp ty26 zzd, trivial⟩ fun u11 e12 => ?_)
 exact rfl
set_option maxHeartbeats 1000000 in
theorem k_read {u w : World} {r : RL} {q : Rat} {K : Nat} (d : Dat u w) (h : RatV u r q K) : Calls Tryz.prog 145 #[r.v] w (Post u w fun v u' => ∃ (r' : RL) (wh : Bool), v = .agg #[.bool r'.s, r'.m.v, r'.d.v, .bool wh] ∧ NumV u' r' wh q K) := by
 obtain ⟨⟨z, D, hi, hd, hq⟩, hK⟩ := h
 change IntV u ⟨r.s, r.m⟩ z K at hi
 change NatV u r.d D K at hd
 by_cases hn : r.d.n = 1
 ·obtain ⟨b, o, ha, hc⟩ := nat_digit hd hn
  by_cases hD : D = 1
  ·refine zzk (args := [r.v]) Tryz.func145 rfl Tryz.ntmps145 (rs := [.cell 2 116]) Tryz.results145 (le_b rfl) (le_b rfl) d ?_
   refine sq9 ?_
   refine zzi 1 ⟨26, r.cs⟩ ?_
   refine zzi 2 ⟨116, [.bool false, .slice none 0 0, .slice none 0 0, .bool false]⟩ ?_
   refine zzb 34 [(1, .adr 1 0), (2, .adr 2 0)] [(1, ⟨26, r.cs⟩), (2, ⟨116, [.bool false, .slice none 0 0, .slice none 0 0, .bool false]⟩)] ?_
   refine zzc ?_
   refine sq9 ?_
   refine zza 3 (.adr 1 2) ?_
   refine zzg 4 (.v r.d.v) ty22 zzj ?_
   refine zza 5 (.v (.int .i64 (r.d.n : Int))) ?_
   refine zyl 6 (x := .v (.bool ((r.d.n : Int) == 1))) (.v (.bool true)) (by rw [show ((r.d.n : Int) == 1) = true from (by simp [hn])]) ?_
   refine zza 7 (.v (.bool true)) ?_
   refine zza 8 (.adr 1 2) ?_ (hw := w1 4 true 7)
   refine zzg 9 (.v r.d.v) ty22 zzj ?_ (hw := w1 4 true 7)
   refine zzy 10 o (i := 0) (n := r.d.n) (by simp) ha (by omega) (by rw [hn]; decide) sl22 ?_ (hw := w1 4 true 7)
   refine zyj 11 (.int .u32 (D : Int)) ((Ext.refl _).cell hc) ty105 ?_ (hw := w1 4 true 7)
   refine zyl 12 (x := .v (.bool ((D : Int) == 1))) (.v (.bool true)) (by rw [show ((D : Int) == 1) = true from (by simp [hD])]) ?_ (hw := w1 4 true 7)
   refine zza 13 (.v (.bool true)) ?_
   refine zzb 34 [(1, .adr 1 0), (2, .adr 2 0), (13, .v (.bool true))] [(1, ⟨26, r.cs⟩), (2, ⟨116, [.bool false, .slice none 0 0, .slice none 0 0, .bool false]⟩)] ?_
   refine zym (by kernel_rfl) ?_
   refine sq9 ?_
   refine zza 14 (.adr 1 0) ?_
   refine zzg 15 (.v (.agg #[.bool r.s, r.m.v])) ty24 zzd ?_
   refine zza 16 (.adr 1 2) ?_
   refine zzg 17 (.v r.d.v) ty22 zzj ?_
   refine zza 18 (.v (r.v)) ?_
   refine zza 19 (.v (.agg #[.bool r.s, r.m.v, r.d.v, .bool true])) ?_
   refine zzh ⟨116, r.cs ++ [.bool true]⟩ ty116 ?_
   refine zzb 34 [(2, .adr 2 0)] [(2, ⟨116, r.cs ++ [.bool true]⟩)] ?_
   refine zzm (zzu (ret0 [.agg #[.bool r.s, .slice r.m.a r.m.n r.m.c, .slice r.d.a r.d.n r.d.c, .bool true]] ⟨zzp ty116 zzd, trivial⟩ fun u11 e12 => ?_))
   exact ⟨r, true, rfl, z, D, hi.ext e12, hd.ext e12, by omega, hq, fun _ => hD, hK⟩
  ·refine zzk (args := [r.v]) Tryz.func145 rfl Tryz.ntmps145 (rs := [.cell 2 116]) Tryz.results145 (le_b rfl) (le_b rfl) d ?_
   refine sq9 ?_
   refine zzi 1 ⟨26, r.cs⟩ ?_
   refine zzi 2 ⟨116, [.bool false, .slice none 0 0, .slice none 0 0, .bool false]⟩ ?_
   refine zzb 34 [(1, .adr 1 0), (2, .adr 2 0)] [(1, ⟨26, r.cs⟩), (2, ⟨116, [.bool false, .slice none 0 0, .slice none 0 0, .bool false]⟩)] ?_
   refine zzc ?_
   refine sq9 ?_
   refine zza 3 (.adr 1 2) ?_
   refine zzg 4 (.v r.d.v) ty22 zzj ?_
   refine zza 5 (.v (.int .i64 (r.d.n : Int))) ?_
   refine zyl 6 (x := .v (.bool ((r.d.n : Int) == 1))) (.v (.bool true)) (by rw [show ((r.d.n : Int) == 1) = true from (by simp [hn])]) ?_
   refine zza 7 (.v (.bool true)) ?_
   refine zza 8 (.adr 1 2) ?_ (hw := w1 4 true 7)
   refine zzg 9 (.v r.d.v) ty22 zzj ?_ (hw := w1 4 true 7)
   refine zzy 10 o (i := 0) (n := r.d.n) (by simp) ha (by omega) (by rw [hn]; decide) sl22 ?_ (hw := w1 4 true 7)
   refine zyj 11 (.int .u32 (D : Int)) ((Ext.refl _).cell hc) ty105 ?_ (hw := w1 4 true 7)
   refine zyl 12 (x := .v (.bool ((D : Int) == 1))) (.v (.bool false)) (by rw [show ((D : Int) == 1) = false from (by simp; omega)]) ?_ (hw := w1 4 true 7)
   refine zza 13 (.v (.bool false)) ?_
   refine zzb 34 [(1, .adr 1 0), (2, .adr 2 0), (13, .v (.bool false))] [(1, ⟨26, r.cs⟩), (2, ⟨116, [.bool false, .slice none 0 0, .slice none 0 0, .bool false]⟩)] ?_
   refine zyn (by kernel_rfl) ?_
   refine zzq (zzn ?_)
   refine zzc ?_
   refine sq9 ?_
   refine zza 20 (.adr 1 2) ?_
   refine zzg 21 (.v r.d.v) ty22 zzj ?_
   refine zzf 22 154 [r.d.v, .slice none 0 0] ?_
   intro w11 u11 e11 d11
   have k14 := k_natCompare d11 (hd.ext e11) (nat_nil _ 1)
   with_reducible refine Post.mono k14 ?_
   rintro _ u12 g13 rfl
   refine zza 23 (.v (.bool ((Nt.cmpS D 0) == 0))) ?_
   refine zzb 34 [(1, .adr 1 0), (2, .adr 2 0), (23, .v (.bool ((Nt.cmpS D 0) == 0)))] [(1, ⟨26, r.cs⟩), (2, ⟨116, [.bool false, .slice none 0 0, .slice none 0 0, .bool false]⟩)] ?_
   refine zzs (b := (Nt.cmpS D 0) == 0) (by kernel_rfl) (fun hb15 => ?_) (fun hb15 => ?_)
   ·replace hb15 : ((Nt.cmpS D 0) == 0) = true := hb15
    refine sq9 ?_
    refine zza 24 (.v (.agg #[.bool false, .slice none 0 0])) ?_
    refine sy_data 25 ⟨105, [.int .u32 1]⟩ 1 (fun b16 u17 e18 h19 => ?_)
    refine zza 26 (.v (.agg #[.bool false, .slice none 0 0, .slice (some ⟨b16, 0, none⟩) 1 1])) ?_
    refine zza 27 (.v (.agg #[.bool false, .slice none 0 0, .slice (some ⟨b16, 0, none⟩) 1 1, .bool true])) ?_
    refine zzh ⟨116, [.bool false, .slice none 0 0, .slice (some ⟨b16, 0, none⟩) 1 1, .bool true]⟩ ty116 ?_
    refine zzb 34 [(2, .adr 2 0)] [(2, ⟨116, [.bool false, .slice none 0 0, .slice (some ⟨b16, 0, none⟩) 1 1, .bool true]⟩)] ?_
    refine zzm (zzu (ret0 [.agg #[.bool false, .slice none 0 0, .slice (some ⟨b16, 0, none⟩) 1 1, .bool true]] ⟨zzp ty116 zzd, trivial⟩ fun u20 e21 => ?_))
    have hD0 : D = 0 := (Nt.cmp_nat0 hb15).1 rfl
    refine ⟨⟨false, ⟨none, 0, 0⟩, (⟨some ⟨b16, 0, none⟩, 1, 1⟩ : Sl)⟩, true, rfl, 0, 1, (⟨0, nat_nil _ K, rfl⟩ : IntV _ ⟨false, ⟨none, 0, 0⟩⟩ 0 K), ((one_data h19).ext e21).raw.more hK, by omega, ?_, fun _ => rfl, hK⟩
    rw [hq, hD0]; simp
   ·replace hb15 : ((Nt.cmpS D 0) == 0) = false := hb15
    refine zzq (zzn ?_)
    refine sq9 ?_
    refine zza 28 (.adr 1 0) ?_
    refine zzg 29 (.v (.agg #[.bool r.s, r.m.v])) ty24 zzd ?_
    refine zza 30 (.adr 1 2) ?_
    refine zzg 31 (.v r.d.v) ty22 zzj ?_
    refine zza 32 (.v (r.v)) ?_
    refine zza 33 (.v (.agg #[.bool r.s, r.m.v, r.d.v, .bool false])) ?_
    refine zzh ⟨116, r.cs ++ [.bool false]⟩ ty116 ?_
    refine zzb 34 [(2, .adr 2 0)] [(2, ⟨116, r.cs ++ [.bool false]⟩)] ?_
    refine zzm (ret0 [.agg #[.bool r.s, .slice r.m.a r.m.n r.m.c, .slice r.d.a r.d.n r.d.c, .bool false]] ⟨zzp ty116 zzd, trivial⟩ fun u22 e23 => ?_)
    have hD0 : 0 < D := (Nt.cmp_nat0 hb15).2 rfl
    exact ⟨r, false, rfl, z, D, hi.ext (e11.trans (g13.ext.trans e23)), hd.ext (e11.trans (g13.ext.trans e23)), hD0, hq, (fun k => by cases k), hK⟩
 ·refine zzk (args := [r.v]) Tryz.func145 rfl Tryz.ntmps145 (rs := [.cell 2 116]) Tryz.results145 (le_b rfl) (le_b rfl) d ?_
  refine sq9 ?_
  refine zzi 1 ⟨26, r.cs⟩ ?_
  refine zzi 2 ⟨116, [.bool false, .slice none 0 0, .slice none 0 0, .bool false]⟩ ?_
  refine zzb 34 [(1, .adr 1 0), (2, .adr 2 0)] [(1, ⟨26, r.cs⟩), (2, ⟨116, [.bool false, .slice none 0 0, .slice none 0 0, .bool false]⟩)] ?_
  refine zzc ?_
  refine sq9 ?_
  refine zza 3 (.adr 1 2) ?_
  refine zzg 4 (.v r.d.v) ty22 zzj ?_
  refine zza 5 (.v (.int .i64 (r.d.n : Int))) ?_
  refine zyl 6 (x := .v (.bool ((r.d.n : Int) == 1))) (.v (.bool false)) (by rw [show ((r.d.n : Int) == 1) = false from (by simp; omega)]) ?_
  refine zza 7 (.v (.bool false)) ?_
  refine zzl 8 (uw 4 true false 7) ?_
  refine zzl 9 (uw 4 true false 7) ?_
  refine zzl 10 (uw 4 true false 7) ?_
  refine zzl 11 (uw 4 true false 7) ?_
  refine zzl 12 (uw 4 true false 7) ?_
  refine zza 13 (.v (.bool false)) ?_
  refine zzb 34 [(1, .adr 1 0), (2, .adr 2 0), (13, .v (.bool false))] [(1, ⟨26, r.cs⟩), (2, ⟨116, [.bool false, .slice none 0 0, .slice none 0 0, .bool false]⟩)] ?_
  refine zyn (by kernel_rfl) ?_
  refine zzq (zzn ?_)
  refine zzc ?_
  refine sq9 ?_
  refine zza 20 (.adr 1 2) ?_
  refine zzg 21 (.v r.d.v) ty22 zzj ?_
  refine zzf 22 154 [r.d.v, .slice none 0 0] ?_
  intro w11 u11 e11 d11
  have k14 := k_natCompare d11 (hd.ext e11) (nat_nil _ 1)
  with_reducible refine Post.mono k14 ?_
  rintro _ u12 g13 rfl
  refine zza 23 (.v (.bool ((Nt.cmpS D 0) == 0))) ?_
  refine zzb 34 [(1, .adr 1 0), (2, .adr 2 0), (23, .v (.bool ((Nt.cmpS D 0) == 0)))] [(1, ⟨26, r.cs⟩), (2, ⟨116, [.bool false, .slice none 0 0, .slice none 0 0, .bool false]⟩)] ?_
  refine zzs (b := (Nt.cmpS D 0) == 0) (by kernel_rfl) (fun hb15 => ?_) (fun hb15 => ?_)
  ·replace hb15 : ((Nt.cmpS D 0) == 0) = true := hb15
   refine sq9 ?_
   refine zza 24 (.v (.agg #[.bool false, .slice none 0 0])) ?_
   refine sy_data 25 ⟨105, [.int .u32 1]⟩ 1 (fun b16 u17 e18 h19 => ?_)
   refine zza 26 (.v (.agg #[.bool false, .slice none 0 0, .slice (some ⟨b16, 0, none⟩) 1 1])) ?_
   refine zza 27 (.v (.agg #[.bool false, .slice none 0 0, .slice (some ⟨b16, 0, none⟩) 1 1, .bool true])) ?_
   refine zzh ⟨116, [.bool false, .slice none 0 0, .slice (some ⟨b16, 0, none⟩) 1 1, .bool true]⟩ ty116 ?_
   refine zzb 34 [(2, .adr 2 0)] [(2, ⟨116, [.bool false, .slice none 0 0, .slice (some ⟨b16, 0, none⟩) 1 1, .bool true]⟩)] ?_
   refine zzm (zzu (ret0 [.agg #[.bool false, .slice none 0 0, .slice (some ⟨b16, 0, none⟩) 1 1, .bool true]] ⟨zzp ty116 zzd, trivial⟩ fun u20 e21 => ?_))
   have hD0 : D = 0 := (Nt.cmp_nat0 hb15).1 rfl
   refine ⟨⟨false, ⟨none, 0, 0⟩, (⟨some ⟨b16, 0, none⟩, 1, 1⟩ : Sl)⟩, true, rfl, 0, 1, (⟨0, nat_nil _ K, rfl⟩ : IntV _ ⟨false, ⟨none, 0, 0⟩⟩ 0 K), ((one_data h19).ext e21).raw.more hK, by omega, ?_, fun _ => rfl, hK⟩
   rw [hq, hD0]; simp
  ·replace hb15 : ((Nt.cmpS D 0) == 0) = false := hb15
   refine zzq (zzn ?_)
   refine sq9 ?_
   refine zza 28 (.adr 1 0) ?_
   refine zzg 29 (.v (.agg #[.bool r.s, r.m.v])) ty24 zzd ?_
   refine zza 30 (.adr 1 2) ?_
   refine zzg 31 (.v r.d.v) ty22 zzj ?_
   refine zza 32 (.v (r.v)) ?_
   refine zza 33 (.v (.agg #[.bool r.s, r.m.v, r.d.v, .bool false])) ?_
   refine zzh ⟨116, r.cs ++ [.bool false]⟩ ty116 ?_
   refine zzb 34 [(2, .adr 2 0)] [(2, ⟨116, r.cs ++ [.bool false]⟩)] ?_
   refine zzm (ret0 [.agg #[.bool r.s, .slice r.m.a r.m.n r.m.c, .slice r.d.a r.d.n r.d.c, .bool false]] ⟨zzp ty116 zzd, trivial⟩ fun u22 e23 => ?_)
   have hD0 : 0 < D := (Nt.cmp_nat0 hb15).2 rfl
   exact ⟨r, false, rfl, z, D, hi.ext (e11.trans (g13.ext.trans e23)), hd.ext (e11.trans (g13.ext.trans e23)), hD0, hq, (fun k => by cases k), hK⟩
theorem k_isOne {u w : World} {x : Sl} {N K : Nat} (d : Dat u w) (h : NatN u x N K) : Calls Tryz.prog 174 #[x.v] w (Post u w fun v _ => v = .bool (decide (N = 1))) := by
 by_cases hn : x.n = 1
 ·obtain ⟨b, o, ha, hc⟩ := nat_digit h.raw hn
  refine zzk (args := [.slice x.a x.n x.c]) Tryz.func174 rfl Tryz.ntmps174 (rs := [.tmp 2]) Tryz.results174 (le_b rfl) (le_b rfl) d ?_
  refine sq9 ?_
  refine zza 2 (.v (.bool false)) ?_
  refine zzb 12 [(0, .v x.v)] [] ?_
  refine sq9 ?_
  refine zza 3 (.v x.v) ?_
  refine zza 4 (.v (.int .i64 (x.n : Int))) ?_
  refine zyl 5 (x := .v (.bool ((x.n : Int) == 1))) (.v (.bool true)) (by rw [show ((x.n : Int) == 1) = true from (by simp [hn])]) ?_
  refine zza 6 (.v (.bool true)) ?_
  refine zza 7 (.v x.v) ?_ (hw := w1 3 true 6)
  refine zzy 8 o (i := 0) (n := x.n) (by simp) ha (by omega) (by rw [hn]; decide) sl22 ?_ (hw := w1 3 true 6)
  refine zyj 9 (.int .u32 (N : Int)) ((Ext.refl _).cell hc) ty105 ?_ (hw := w1 3 true 6)
  refine zza 10 (.v (.bool ((N : Int) == 1))) ?_ (hw := w1 3 true 6)
  refine zza 11 (.v (.bool ((N : Int) == 1))) ?_
  refine zza 2 (.v (.bool ((N : Int) == 1))) ?_
  refine zzb 12 [(2, .v (.bool ((N : Int) == 1)))] [] ?_
  refine zzm (ret0 [.bool ((N : Int) == 1)] ⟨zzo, trivial⟩ fun u11 e12 => ?_)
  show Value.bool _ = Value.bool _
  congr 1
  rw [Bool.eq_iff_iff]
  simp <;> omega
 ·have hN : N ≠ 1 := fun e => hn (by rw [h.1, e, Nt.dl_one])
  refine zzk (args := [.slice x.a x.n x.c]) Tryz.func174 rfl Tryz.ntmps174 (rs := [.tmp 2]) Tryz.results174 (le_b rfl) (le_b rfl) d ?_
  refine sq9 ?_
  refine zza 2 (.v (.bool false)) ?_
  refine zzb 12 [(0, .v x.v)] [] ?_
  refine sq9 ?_
  refine zza 3 (.v x.v) ?_
  refine zza 4 (.v (.int .i64 (x.n : Int))) ?_
  refine zyl 5 (x := .v (.bool ((x.n : Int) == 1))) (.v (.bool false)) (by rw [show ((x.n : Int) == 1) = false from (by simp; omega)]) ?_
  refine zza 6 (.v (.bool false)) ?_
  refine zzl 7 (uw 3 true false 6) ?_
  refine zzl 8 (uw 3 true false 6) ?_
  refine zzl 9 (uw 3 true false 6) ?_
  refine zzl 10 (uw 3 true false 6) ?_
  refine zza 11 (.v (.bool false)) ?_
  refine zza 2 (.v (.bool false)) ?_
  refine zzb 12 [(2, .v (.bool false))] [] ?_
  refine zzm (ret0 [.bool false] ⟨zzo, trivial⟩ fun u11 e12 => ?_)
  show _ = _
  simp [tupV]
  exact hN
set_option maxHeartbeats 1000000 in
theorem k_lowest {u w : World} {i : IL} {z : Int} {y : Sl} {D K L : Nat} (d : Dat u w) (h1 : IntV u i z K) (hD : NatV u y D L) (hp : 0 < D) (hK : K ≤ 500000000) (hL : L ≤ 500000000) : Calls Tryz.prog 150 #[.agg #[.bool i.s, i.m.v, y.v]] w (Post u w fun v u' => ∃ r : RL, v = r.v ∧ RatN u' r (mkRat z D) (max K L)) := by
 obtain ⟨N, hN, hz⟩ := h1
 have hL1 : 1 ≤ L := by have h2 := hD.size; have h3 := Nt.dl_mono (x := D) (y := 1) (by omega); rw [Nt.dl_one] at h3; omega
 refine zzk (args := [.agg #[.bool i.s, .slice i.m.a i.m.n i.m.c, .slice y.a y.n y.c]]) Tryz.func150 rfl Tryz.ntmps150 (rs := [.cell 2 26]) Tryz.results150 (le_b rfl) (le_b rfl) d ?_
 refine sq9 ?_
 refine zzi 1 ⟨114, i.cs ++ [y.v]⟩ ?_
 refine zzi 2 ⟨26, [.bool false, .slice none 0 0, .slice none 0 0]⟩ ?_
 refine zzb 70 [(1, .adr 1 0), (2, .adr 2 0)] [(1, ⟨114, i.cs ++ [y.v]⟩), (2, ⟨26, [.bool false, .slice none 0 0, .slice none 0 0]⟩)] ?_
 refine sq9 ?_
 refine zza 14 (.adr 1 0) ?_
 refine zza 15 (.adr 1 1) ?_
 refine zzg 16 (.v i.m.v) ty22 zzj ?_
 refine zza 17 (.adr 1 2) ?_
 refine zzg 18 (.v y.v) ty22 zzj ?_
 refine zzf 19 181 [i.m.v, y.v] ?_
 intro w11 u11 e11 d11
 have k18 := k_natDivMod d11 (hN.ext e11) (hD.ext e11) hp (by omega) (by omega)
 with_reducible refine Post.mono k18 ?_
 rintro _ u16 g17 ⟨x12, x13, rfl, h14, h15⟩
 refine zza 13 (.v (.tuple #[x12.v, x13.v, .int .i64 0])) ?_
 refine zza 20 (.v x12.v) ?_
 refine zza 21 (.v x13.v) ?_
 refine zza 22 (.v (.int .i64 0)) ?_
 refine zza 3 (.v x12.v) ?_
 refine zza 4 (.v x13.v) ?_
 refine zza 5 (.v (.int .i64 0)) ?_
 refine zzb 70 [(1, .adr 1 0), (2, .adr 2 0), (3, .v x12.v), (4, .v x13.v)] [(1, ⟨114, i.cs ++ [y.v]⟩), (2, ⟨26, [.bool false, .slice none 0 0, .slice none 0 0]⟩)] ?_
 refine zzc ?_
 refine sq9 ?_
 refine zza 23 (.v x13.v) ?_
 refine zza 24 (.v (.int .i64 (x13.n : Int))) ?_
 refine zza 25 (.v (.bool ((x13.n : Int) == 0))) ?_
 refine zzb 70 [(1, .adr 1 0), (2, .adr 2 0), (3, .v x12.v), (4, .v x13.v), (25, .v (.bool ((x13.n : Int) == 0)))] [(1, ⟨114, i.cs ++ [y.v]⟩), (2, ⟨26, [.bool false, .slice none 0 0, .slice none 0 0]⟩)] ?_
 refine zzs (b := (x13.n : Int) == 0) (by kernel_rfl) (fun hb19 => ?_) (fun hb19 => ?_)
 ·replace hb19 : ((x13.n : Int) == 0) = true := hb19
  have qhb19 : (x13.n : Int) = 0 := by simpa using hb19
  have hr : N % D = 0 := by have h7 := (h15).pos; simp at hb19; omega
  refine sq9 ?_
  refine zza 26 (.adr 1 0) ?_
  refine zza 27 (.adr 1 0) ?_
  refine zzg 28 (.v (.bool i.s)) ty4 zzj ?_
  refine zza 29 (.v x12.v) ?_
  refine zza 30 (.v (.agg #[.bool i.s, x12.v])) ?_
  refine zzf 31 182 [.agg #[.bool i.s, x12.v]] ?_
  intro w20 u20 e20 d20
  have k25 := k_intTrim d20 (IntV.same (s := i.s) (h14.ext e20).raw) (by omega)
  with_reducible refine Post.mono k25 ?_
  rintro _ u23 g24 ⟨i21, rfl, h22⟩
  refine zzf 32 152 [i21.v] ?_
  intro w26 u26 e26 d26
  have k31 := k_whole (i := i21) d26
  with_reducible refine Post.mono k31 ?_
  rintro _ u29 g30 ⟨y27, rfl, h28⟩
  refine zzh ⟨26, i21.cs ++ [y27.v]⟩ ty26 ?_
  refine zzb 70 [(2, .adr 2 0)] [(2, ⟨26, i21.cs ++ [y27.v]⟩)] ?_
  refine zzm (zzu (ret0 [.agg #[.bool i21.s, .slice i21.m.a i21.m.n i21.m.c, .slice y27.a y27.n y27.c]] ⟨zzp ty26 zzd, trivial⟩ fun u32 e33 => ?_))
  refine ⟨(⟨i21.s, i21.m, y27⟩ : RL), rfl, RatN.more (K := (max K 1)) ?_ (by omega)⟩
  rw [hz, ← low1 hp hr]
  exact ((whole_rat (h22.ext (e26.trans g30.ext)) h28).ext e33)
 ·replace hb19 : ((x13.n : Int) == 0) = false := hb19
  have qhb19 : ¬ ((x13.n : Int) = 0) := by simpa using hb19
  have hr : N % D ≠ 0 := by have h7 := (h15).pos; simp at hb19; omega
  refine zzq (zzn ?_)
  refine sq9 ?_
  refine zza 33 (.adr 1 2) ?_
  refine zzg 34 (.v y.v) ty22 zzj ?_
  refine zza 35 (.v x13.v) ?_
  refine zzf 36 175 [y.v, x13.v] ?_
  intro w34 u34 e34 d34
  have k39 := k_natGcd d34 (hD.ext (e11.trans (g17.ext.trans e34))) (h15.ext e34).raw (by omega) (by omega)
  with_reducible refine Post.mono k39 ?_
  rintro _ u37 g38 ⟨x35, rfl, h36⟩
  refine zza 6 (.v x35.v) ?_
  refine zzb 70 [(1, .adr 1 0), (2, .adr 2 0), (6, .v x35.v)] [(1, ⟨114, i.cs ++ [y.v]⟩), (2, ⟨26, [.bool false, .slice none 0 0, .slice none 0 0]⟩)] ?_
  refine zzc ?_
  refine sq9 ?_
  refine zza 37 (.v x35.v) ?_
  refine zzf 38 174 [x35.v] ?_
  intro w40 u40 e40 d40
  have k43 := k_isOne d40 (h36.ext e40)
  with_reducible refine Post.mono k43 ?_
  rintro _ u41 g42 rfl
  refine zzb 70 [(1, .adr 1 0), (2, .adr 2 0), (6, .v x35.v), (38, .v (.bool (decide ((Nat.gcd D (N % D)) = 1))))] [(1, ⟨114, i.cs ++ [y.v]⟩), (2, ⟨26, [.bool false, .slice none 0 0, .slice none 0 0]⟩)] ?_
  refine zzs (b := decide ((Nat.gcd D (N % D)) = 1)) (by kernel_rfl) (fun hb44 => ?_) (fun hb44 => ?_)
  ·replace hb44 : (decide ((Nat.gcd D (N % D)) = 1)) = true := hb44
   have qhb44 := of_decide_eq_true hb44
   have hg : Nat.gcd D (N % D) = 1 := by simpa using hb44
   have hgp : 0 < Nat.gcd D (N % D) := Nat.gcd_pos_of_pos_left _ hp
   refine zzc ?_
   refine zzx [0, 1, 3, 0, 8, 31, 63, 127] [(0, []), (1, []), (3, []), (4, []), (2, []), (5, []), (6, []), (7, [])] (by kernel_rfl) (by kernel_rfl) ?_
   refine zza 39 (.adr 1 0) ?_
   refine zzg 40 (.v (i.v)) ty24 zzd ?_
   refine zza 42 (.adr 1 2) ?_
   refine zzg 43 (.v y.v) ty22 zzj ?_
   refine zzf 41 182 [i.v] ?_
   intro w45 u45 e45 d45
   have k50 := k_intTrim d45 (IntV.same (s := i.s) (hN.ext (e11.trans (g17.ext.trans (e34.trans (g38.ext.trans (e40.trans (g42.ext.trans e45)))))))) (by omega)
   with_reducible refine Post.mono k50 ?_
   rintro _ u48 g49 ⟨i46, rfl, h47⟩
   refine zzf 44 183 [y.v] ?_
   intro w51 u51 e51 d51
   have k56 := k_natTrim d51 (hD.ext (e11.trans (g17.ext.trans (e34.trans (g38.ext.trans (e40.trans (g42.ext.trans (e45.trans (g49.ext.trans e51))))))))) (by omega)
   with_reducible refine Post.mono k56 ?_
   rintro _ u54 g55 ⟨x52, rfl, h53⟩
   refine zza 45 (.v (.agg #[.bool i46.s, i46.m.v, x52.v])) ?_
   refine zzh ⟨26, i46.cs ++ [x52.v]⟩ ty26 ?_
   refine zzb 70 [(2, .adr 2 0)] [(2, ⟨26, i46.cs ++ [x52.v]⟩)] ?_
   refine zzm (zzu (ret0 [.agg #[.bool i46.s, .slice i46.m.a i46.m.n i46.m.c, .slice x52.a x52.n x52.c]] ⟨zzp ty26 zzd, trivial⟩ fun u57 e58 => ?_))
   refine ⟨(⟨i46.s, i46.m, x52⟩ : RL), rfl, ?_⟩
   rw [hz]
   exact low2 hp hg (h47.ext (e51.trans (g55.ext.trans e58))) (h53.ext e58)
  ·replace hb44 : (decide ((Nat.gcd D (N % D)) = 1)) = false := hb44
   have qhb44 := of_decide_eq_false hb44
   have hg : ¬ Nat.gcd D (N % D) = 1 := by simpa using hb44
   have hgp : 0 < Nat.gcd D (N % D) := Nat.gcd_pos_of_pos_left _ hp
   refine zzq (zzn ?_)
   refine sq9 ?_
   refine zza 47 (.adr 1 0) ?_
   refine zza 48 (.adr 1 1) ?_
   refine zzg 49 (.v i.m.v) ty22 zzj ?_
   refine zza 50 (.v x35.v) ?_
   refine zzf 51 181 [i.m.v, x35.v] ?_
   intro w59 u59 e59 d59
   have k66 := k_natDivMod d59 (hN.ext (e11.trans (g17.ext.trans (e34.trans (g38.ext.trans (e40.trans (g42.ext.trans e59))))))) (h36.ext (e40.trans (g42.ext.trans e59))).raw hgp (by omega) (by omega)
   with_reducible refine Post.mono k66 ?_
   rintro _ u64 g65 ⟨x60, x61, rfl, h62, h63⟩
   refine zza 46 (.v (.tuple #[x60.v, x61.v, .int .i64 0])) ?_
   refine zza 52 (.v x60.v) ?_
   refine zza 53 (.v x61.v) ?_
   refine zza 54 (.v (.int .i64 0)) ?_
   refine zza 7 (.v x60.v) ?_
   refine zza 8 (.v x61.v) ?_
   refine zza 9 (.v (.int .i64 0)) ?_
   refine zzb 70 [(1, .adr 1 0), (2, .adr 2 0), (6, .v x35.v), (7, .v x60.v)] [(1, ⟨114, i.cs ++ [y.v]⟩), (2, ⟨26, [.bool false, .slice none 0 0, .slice none 0 0]⟩)] ?_
   refine sq9 ?_
   refine zza 56 (.adr 1 2) ?_
   refine zzg 57 (.v y.v) ty22 zzj ?_
   refine zza 58 (.v x35.v) ?_
   refine zzf 59 181 [y.v, x35.v] ?_
   intro w67 u67 e67 d67
   have k74 := k_natDivMod d67 (hD.ext (e11.trans (g17.ext.trans (e34.trans (g38.ext.trans (e40.trans (g42.ext.trans (e59.trans (g65.ext.trans e67))))))))) (h36.ext (e40.trans (g42.ext.trans (e59.trans (g65.ext.trans e67))))).raw hgp (by omega) (by omega)
   with_reducible refine Post.mono k74 ?_
   rintro _ u72 g73 ⟨x68, x69, rfl, h70, h71⟩
   refine zza 55 (.v (.tuple #[x68.v, x69.v, .int .i64 0])) ?_
   refine zza 60 (.v x68.v) ?_
   refine zza 61 (.v x69.v) ?_
   refine zza 62 (.v (.int .i64 0)) ?_
   refine zza 10 (.v x68.v) ?_
   refine zza 11 (.v x69.v) ?_
   refine zza 12 (.v (.int .i64 0)) ?_
   refine zzb 70 [(1, .adr 1 0), (2, .adr 2 0), (7, .v x60.v), (10, .v x68.v)] [(1, ⟨114, i.cs ++ [y.v]⟩), (2, ⟨26, [.bool false, .slice none 0 0, .slice none 0 0]⟩)] ?_
   refine sq9 ?_
   refine zza 63 (.adr 1 0) ?_
   refine zza 64 (.adr 1 0) ?_
   refine zzg 65 (.v (.bool i.s)) ty4 zzj ?_
   refine zza 66 (.v x60.v) ?_
   refine zza 67 (.v (.agg #[.bool i.s, x60.v])) ?_
   refine zza 68 (.v x68.v) ?_
   refine zza 69 (.v (.agg #[.bool i.s, x60.v, x68.v])) ?_
   refine zzh ⟨26, [.bool i.s, x60.v, x68.v]⟩ ty26 ?_
   refine zzb 70 [(2, .adr 2 0)] [(2, ⟨26, [.bool i.s, x60.v, x68.v]⟩)] ?_
   refine zzm (ret0 [.agg #[.bool i.s, .slice x60.a x60.n x60.c, .slice x68.a x68.n x68.c]] ⟨zzp ty26 zzd, trivial⟩ fun u75 e76 => ?_)
   refine ⟨(⟨i.s, x60, x68⟩ : RL), rfl, RatN.more (K := max K L) ?_ (by omega)⟩
   rw [hz]
   exact low3 hp hr (h62.ext (e67.trans (g73.ext.trans e76))) (h70.ext e76)
theorem k_ratTrim {u w : World} {r1 : RL} {x : Rat} {K : Nat} (d : Dat u w) (hr1 : RatV u r1 x K) (hK : K ≤ 200000000) : Calls Tryz.prog 126 #[r1.v] w (Post u w fun v u' => ∃ r : RL, v = r.v ∧ RatN u' r x K) := by
 refine zzk (args := [r1.v]) Tryz.func126 rfl Tryz.ntmps126 (rs := [.cell 2 26]) Tryz.results126 (le_b rfl) (le_b rfl) d ?_
 refine sq9 ?_
 refine zzi 1 ⟨26, r1.cs⟩ ?_
 refine zzi 2 ⟨26, [.bool false, .slice none 0 0, .slice none 0 0]⟩ ?_
 refine zzb 7 [(1, .adr 1 0), (2, .adr 2 0)] [(1, ⟨26, r1.cs⟩), (2, ⟨26, [.bool false, .slice none 0 0, .slice none 0 0]⟩)] ?_
 refine sq9 ?_
 refine zzg 3 (.v (r1.v)) ty26 zzd ?_
 refine zzf 4 145 [r1.v] ?_
 intro w11 u11 e11 d11
 have k15 := k_read d11 (hr1.ext e11)
 with_reducible refine Post.mono k15 ?_
 rintro _ u13 g14 ⟨r12, wh12, rfl, z12, D12, hi12, hd12, hp12, hq12, hw12, hk12⟩
 refine zza 5 (.v (r12.v)) ?_
 refine zzf 6 150 [r12.v] ?_
 intro w16 u16 e16 d16
 have k21 := k_lowest d16 (hi12.ext e16) (hd12.ext e16) hp12 (by omega) (by omega)
 with_reducible refine Post.mono k21 ?_
 rintro _ u19 g20 ⟨r17, rfl, h18⟩
 refine zzh ⟨26, r17.cs⟩ ty26 ?_
 refine zzb 7 [(2, .adr 2 0)] [(2, ⟨26, r17.cs⟩)] ?_
 refine zzm (ret0 [r17.v] ⟨zzp ty26 zzd, trivial⟩ fun u22 e23 => ?_)
 refine ⟨r17, rfl, RatN.more (K := (max K K)) ?_ (by omega)⟩
 rw [hq12]; exact (h18.ext e23)
theorem k_ratOf {u w : World} {z : Int} (d : Dat u w) (h0 : -9223372036854775808 ≤ z) (h1 : z ≤ 9223372036854775807) : Calls Tryz.prog 112 #[.int .i64 z] w (Post u w fun v u' => ∃ r : RL, v = r.v ∧ RatN u' r (z : Rat) 2) := by
 refine zzk (args := [.int .i64 z]) Tryz.func112 rfl Tryz.ntmps112 (rs := [.cell 2 26]) Tryz.results112 (le_b rfl) (le_b rfl) d ?_
 refine sq9 ?_
 refine zzi 2 ⟨26, [.bool false, .slice none 0 0, .slice none 0 0]⟩ ?_
 refine zzb 6 [(0, .v (.int .i64 z)), (2, .adr 2 0)] [(2, ⟨26, [.bool false, .slice none 0 0, .slice none 0 0]⟩)] ?_
 refine sq9 ?_
 refine zza 3 (.v (.int .i64 z)) ?_
 refine zzf 4 166 [.int .i64 z] ?_
 intro w11 u11 e11 d11
 have k16 := k_intOf d11 (z := z) (by omega) (by omega)
 with_reducible refine Post.mono k16 ?_
 rintro _ u14 g15 ⟨i12, rfl, h13⟩
 refine zzf 5 152 [i12.v] ?_
 intro w17 u17 e17 d17
 have k22 := k_whole (i := i12) d17
 with_reducible refine Post.mono k22 ?_
 rintro _ u20 g21 ⟨y18, rfl, h19⟩
 refine zzh ⟨26, i12.cs ++ [y18.v]⟩ ty26 ?_
 refine zzb 6 [(2, .adr 2 0)] [(2, ⟨26, i12.cs ++ [y18.v]⟩)] ?_
 refine zzm (ret0 [.agg #[.bool i12.s, .slice i12.m.a i12.m.n i12.m.c, .slice y18.a y18.n y18.c]] ⟨zzp ty26 zzd, trivial⟩ fun u23 e24 => ?_)
 refine ⟨(⟨i12.s, i12.m, y18⟩ : RL), rfl, RatN.more (K := (max 2 1)) ?_ (by omega)⟩
 exact ((whole_rat (h13.ext (e17.trans g21.ext)) h19).ext e24)
theorem k_ratSign {u w : World} {r1 : RL} {x : Rat} {K : Nat} (d : Dat u w) (hr1 : RatV u r1 x K)  : Calls Tryz.prog 132 #[r1.v] w (Post u w fun v u' => v = .int .i64 (Nt.sgQ x)) := by
 refine zzk (args := [r1.v]) Tryz.func132 rfl Tryz.ntmps132 (rs := [.tmp 2]) Tryz.results132 (le_b rfl) (le_b rfl) d ?_
 refine sq9 ?_
 refine zzi 1 ⟨26, r1.cs⟩ ?_
 refine zza 2 (.v (.int .i64 0)) ?_
 refine zzb 8 [(1, .adr 1 0)] [(1, ⟨26, r1.cs⟩)] ?_
 refine sq9 ?_
 refine zzg 3 (.v (r1.v)) ty26 zzd ?_
 refine zzf 4 145 [r1.v] ?_
 intro w11 u11 e11 d11
 have k15 := k_read d11 (hr1.ext e11)
 with_reducible refine Post.mono k15 ?_
 rintro _ u13 g14 ⟨r12, wh12, rfl, z12, D12, hi12, hd12, hp12, hq12, hw12, hk12⟩
 refine zza 5 (.v (r12.v)) ?_
 refine zza 6 (.v (.agg #[.bool r12.s, r12.m.v])) ?_
 refine zzf 7 146 [.agg #[.bool r12.s, r12.m.v]] ?_
 intro w16 u16 e16 d16
 have k19 := k_intSign d16 (hi12.ext e16)
 with_reducible refine Post.mono k19 ?_
 rintro _ u17 g18 rfl
 refine zza 2 (.v (.int .i64 (Nt.cmpS z12 0))) ?_
 refine zzb 8 [(2, .v (.int .i64 (Nt.cmpS z12 0)))] [] ?_
 refine zzm (ret0 [.int .i64 (Nt.cmpS z12 0)] ⟨zzo, trivial⟩ fun u20 e21 => ?_)
 show _ = _
 rw [hq12, ← Nt.sg_mk hp12]
 rfl
theorem k_ratCompare {u w : World} {r1 : RL} {x : Rat} {K : Nat} {r2 : RL} {y : Rat} {L : Nat} (d : Dat u w) (hr1 : RatV u r1 x K) (hr2 : RatV u r2 y L) (hK : K ≤ 200000000) (hL : L ≤ 200000000) : Calls Tryz.prog 114 #[r1.v, r2.v] w (Post u w fun v u' => v = .int .i64 (Nt.cmpQ x y)) := by
 refine zzk (args := [r1.v, r2.v]) Tryz.func114 rfl Tryz.ntmps114 (rs := [.tmp 4]) Tryz.results114 (le_b rfl) (le_b rfl) d ?_
 refine sq9 ?_
 refine zzi 2 ⟨26, r1.cs⟩ ?_
 refine zzi 3 ⟨26, r2.cs⟩ ?_
 refine zza 4 (.v (.int .i64 0)) ?_
 refine zzb 41 [(2, .adr 2 0), (3, .adr 3 0)] [(2, ⟨26, r1.cs⟩), (3, ⟨26, r2.cs⟩)] ?_
 refine zzc ?_
 refine zzx [0, 1, 0, 7, 0, 0, 63, 127] [(0, []), (2, []), (4, []), (5, []), (1, []), (3, []), (6, []), (7, [])] (by kernel_rfl) (by kernel_rfl) ?_
 refine zzg 7 (.v (r1.v)) ty26 zzd ?_
 refine zzg 9 (.v (r2.v)) ty26 zzd ?_
 refine zzi 5 ⟨116, [.bool false, .slice none 0 0, .slice none 0 0, .bool false]⟩ ?_
 refine zzi 6 ⟨116, [.bool false, .slice none 0 0, .slice none 0 0, .bool false]⟩ ?_
 refine zzf 8 145 [r1.v] ?_
 intro w11 u11 e11 d11
 have k15 := k_read d11 (hr1.ext e11)
 with_reducible refine Post.mono k15 ?_
 rintro _ u13 g14 ⟨r12, wh12, rfl, z12, D12, hi12, hd12, hp12, hq12, hw12, hk12⟩
 refine zzf 10 145 [r2.v] ?_
 intro w16 u16 e16 d16
 have k20 := k_read d16 (hr2.ext (e11.trans (g14.ext.trans e16)))
 with_reducible refine Post.mono k20 ?_
 rintro _ u18 g19 ⟨r17, wh17, rfl, z17, D17, hi17, hd17, hp17, hq17, hw17, hk17⟩
 refine zzh ⟨116, r12.cs ++ [.bool wh12]⟩ ty116 ?_
 refine zzh ⟨116, r17.cs ++ [.bool wh17]⟩ ty116 ?_
 refine zzb 41 [(5, .adr 5 0), (6, .adr 6 0)] [(5, ⟨116, r12.cs ++ [.bool wh12]⟩), (6, ⟨116, r17.cs ++ [.bool wh17]⟩)] ?_
 refine zzc ?_
 refine sq9 ?_
 refine zza 11 (.adr 5 3) ?_
 refine zzg 12 (.v (.bool wh12)) ty4 zzj ?_
 rcases Bool.eq_false_or_eq_true wh12 with hs21 | hs21
 ·refine zyl 13 (x := .v (.bool wh12)) (.v (.bool true)) (by rw [hs21]) ?_
  refine zza 14 (.adr 6 3) ?_ (hw := w1 2 true 13)
  refine zzg 15 (.v (.bool wh17)) ty4 zzj ?_ (hw := w1 2 true 13)
  refine zza 16 (.v (.bool wh17)) ?_
  refine zzb 41 [(5, .adr 5 0), (6, .adr 6 0), (16, .v (.bool wh17))] [(5, ⟨116, r12.cs ++ [.bool wh12]⟩), (6, ⟨116, r17.cs ++ [.bool wh17]⟩)] ?_
  refine zzs (b := wh17) (by kernel_rfl) (fun hb22 => ?_) (fun hb22 => ?_)
  ·replace hb22 : wh17 = true := hb22
   refine sq9 ?_
   refine zza 17 (.adr 5 0) ?_
   refine zza 18 (.adr 5 0) ?_
   refine zzg 19 (.v (.agg #[.bool r12.s, r12.m.v])) ty24 zzd ?_
   refine zza 20 (.adr 6 0) ?_
   refine zza 21 (.adr 6 0) ?_
   refine zzg 22 (.v (.agg #[.bool r17.s, r17.m.v])) ty24 zzd ?_
   refine zzf 23 167 [.agg #[.bool r12.s, r12.m.v], .agg #[.bool r17.s, r17.m.v]] ?_
   intro w23 u23 e23 d23
   have k26 := k_intCompare d23 (hi12.ext (e16.trans (g19.ext.trans e23))) (hi17.ext e23)
   with_reducible refine Post.mono k26 ?_
   rintro _ u24 g25 rfl
   refine zza 4 (.v (.int .i64 (Nt.cmpS z12 z17))) ?_
   refine zzb 41 [(4, .v (.int .i64 (Nt.cmpS z12 z17)))] [] ?_
   refine zzm (zzu (ret0 [.int .i64 (Nt.cmpS z12 z17)] ⟨zzo, trivial⟩ fun u27 e28 => ?_))
   show _ = _
   rw [hq12, hq17, ← Nt.cmp_mk hp12 hp17]
   rw [hw12 (by assumption), hw17 (by assumption)]
   simp [tupV]
  ·replace hb22 : wh17 = false := hb22
   refine zzq (zzn ?_)
   refine zzc ?_
   refine zzx [0, 1, 3, 0, 8, 24, 56, 127, 0, 256, 768, 0, 2048, 6144, 14591, 32767, 65535, 131071] [(0, []), (1, []), (2, []), (3, []), (4, []), (5, []), (8, []), (9, []), (10, []), (11, []), (12, []), (13, []), (6, []), (7, []), (14, []), (15, []), (16, []), (17, [])] (by kernel_rfl) (by kernel_rfl) ?_
   refine zza 24 (.adr 5 0) ?_
   refine zza 25 (.adr 5 0) ?_
   refine zzg 26 (.v (.agg #[.bool r12.s, r12.m.v])) ty24 zzd ?_
   refine zza 27 (.adr 6 0) ?_
   refine zza 28 (.adr 6 2) ?_
   refine zzg 29 (.v r17.d.v) ty22 zzj ?_
   refine zza 32 (.adr 6 0) ?_
   refine zza 33 (.adr 6 0) ?_
   refine zzg 34 (.v (.agg #[.bool r17.s, r17.m.v])) ty24 zzd ?_
   refine zza 35 (.adr 5 0) ?_
   refine zza 36 (.adr 5 2) ?_
   refine zzg 37 (.v r12.d.v) ty22 zzj ?_
   refine zzf 30 148 [r17.d.v] ?_
   intro w29 u29 e29 d29
   have k32 := k_natural (x := r17.d) d29
   with_reducible refine Post.mono k32 ?_
   rintro _ u30 g31 rfl
   refine zzf 31 147 [.agg #[.bool r12.s, r12.m.v], .agg #[.bool false, r17.d.v]] ?_
   intro w33 u33 e33 d33
   have k38 := k_intMul d33 (hi12.ext (e16.trans (g19.ext.trans (e29.trans (g31.ext.trans e33))))) (nat_int (hd17.ext (e29.trans (g31.ext.trans e33)))) (by omega) (by omega)
   with_reducible refine Post.mono k38 ?_
   rintro _ u36 g37 ⟨i34, rfl, h35⟩
   refine zzf 38 148 [r12.d.v] ?_
   intro w39 u39 e39 d39
   have k42 := k_natural (x := r12.d) d39
   with_reducible refine Post.mono k42 ?_
   rintro _ u40 g41 rfl
   refine zzf 39 147 [.agg #[.bool r17.s, r17.m.v], .agg #[.bool false, r12.d.v]] ?_
   intro w43 u43 e43 d43
   have k48 := k_intMul d43 (hi17.ext (e29.trans (g31.ext.trans (e33.trans (g37.ext.trans (e39.trans (g41.ext.trans e43))))))) (nat_int (hd12.ext (e16.trans (g19.ext.trans (e29.trans (g31.ext.trans (e33.trans (g37.ext.trans (e39.trans (g41.ext.trans e43)))))))))) (by omega) (by omega)
   with_reducible refine Post.mono k48 ?_
   rintro _ u46 g47 ⟨i44, rfl, h45⟩
   refine zzf 40 167 [i34.v, i44.v] ?_
   intro w49 u49 e49 d49
   have k52 := k_intCompare d49 (h35.ext (e39.trans (g41.ext.trans (e43.trans (g47.ext.trans e49))))).raw (h45.ext e49).raw
   with_reducible refine Post.mono k52 ?_
   rintro _ u50 g51 rfl
   refine zza 4 (.v (.int .i64 (Nt.cmpS (z12 * (D17 : Int)) (z17 * (D12 : Int))))) ?_
   refine zzb 41 [(4, .v (.int .i64 (Nt.cmpS (z12 * (D17 : Int)) (z17 * (D12 : Int)))))] [] ?_
   refine zzm (ret0 [.int .i64 (Nt.cmpS (z12 * (D17 : Int)) (z17 * (D12 : Int)))] ⟨zzo, trivial⟩ fun u53 e54 => ?_)
   show _ = _
   rw [hq12, hq17, ← Nt.cmp_mk hp12 hp17]
   rfl
 ·refine zyl 13 (x := .v (.bool wh12)) (.v (.bool false)) (by rw [hs21]) ?_
  refine zzl 14 (uw 2 true false 13) ?_
  refine zzl 15 (uw 2 true false 13) ?_
  refine zza 16 (.v (.bool false)) ?_
  refine zzb 41 [(5, .adr 5 0), (6, .adr 6 0), (16, .v (.bool false))] [(5, ⟨116, r12.cs ++ [.bool wh12]⟩), (6, ⟨116, r17.cs ++ [.bool wh17]⟩)] ?_
  refine zyn (by kernel_rfl) ?_
  refine zzq (zzn ?_)
  refine zzc ?_
  refine zzx [0, 1, 3, 0, 8, 24, 56, 127, 0, 256, 768, 0, 2048, 6144, 14591, 32767, 65535, 131071] [(0, []), (1, []), (2, []), (3, []), (4, []), (5, []), (8, []), (9, []), (10, []), (11, []), (12, []), (13, []), (6, []), (7, []), (14, []), (15, []), (16, []), (17, [])] (by kernel_rfl) (by kernel_rfl) ?_
  refine zza 24 (.adr 5 0) ?_
  refine zza 25 (.adr 5 0) ?_
  refine zzg 26 (.v (.agg #[.bool r12.s, r12.m.v])) ty24 zzd ?_
  refine zza 27 (.adr 6 0) ?_
  refine zza 28 (.adr 6 2) ?_
  refine zzg 29 (.v r17.d.v) ty22 zzj ?_
  refine zza 32 (.adr 6 0) ?_
  refine zza 33 (.adr 6 0) ?_
  refine zzg 34 (.v (.agg #[.bool r17.s, r17.m.v])) ty24 zzd ?_
  refine zza 35 (.adr 5 0) ?_
  refine zza 36 (.adr 5 2) ?_
  refine zzg 37 (.v r12.d.v) ty22 zzj ?_
  refine zzf 30 148 [r17.d.v] ?_
  intro w55 u55 e55 d55
  have k58 := k_natural (x := r17.d) d55
  with_reducible refine Post.mono k58 ?_
  rintro _ u56 g57 rfl
  refine zzf 31 147 [.agg #[.bool r12.s, r12.m.v], .agg #[.bool false, r17.d.v]] ?_
  intro w59 u59 e59 d59
  have k64 := k_intMul d59 (hi12.ext (e16.trans (g19.ext.trans (e55.trans (g57.ext.trans e59))))) (nat_int (hd17.ext (e55.trans (g57.ext.trans e59)))) (by omega) (by omega)
  with_reducible refine Post.mono k64 ?_
  rintro _ u62 g63 ⟨i60, rfl, h61⟩
  refine zzf 38 148 [r12.d.v] ?_
  intro w65 u65 e65 d65
  have k68 := k_natural (x := r12.d) d65
  with_reducible refine Post.mono k68 ?_
  rintro _ u66 g67 rfl
  refine zzf 39 147 [.agg #[.bool r17.s, r17.m.v], .agg #[.bool false, r12.d.v]] ?_
  intro w69 u69 e69 d69
  have k74 := k_intMul d69 (hi17.ext (e55.trans (g57.ext.trans (e59.trans (g63.ext.trans (e65.trans (g67.ext.trans e69))))))) (nat_int (hd12.ext (e16.trans (g19.ext.trans (e55.trans (g57.ext.trans (e59.trans (g63.ext.trans (e65.trans (g67.ext.trans e69)))))))))) (by omega) (by omega)
  with_reducible refine Post.mono k74 ?_
  rintro _ u72 g73 ⟨i70, rfl, h71⟩
  refine zzf 40 167 [i60.v, i70.v] ?_
  intro w75 u75 e75 d75
  have k78 := k_intCompare d75 (h61.ext (e65.trans (g67.ext.trans (e69.trans (g73.ext.trans e75))))).raw (h71.ext e75).raw
  with_reducible refine Post.mono k78 ?_
  rintro _ u76 g77 rfl
  refine zza 4 (.v (.int .i64 (Nt.cmpS (z12 * (D17 : Int)) (z17 * (D12 : Int))))) ?_
  refine zzb 41 [(4, .v (.int .i64 (Nt.cmpS (z12 * (D17 : Int)) (z17 * (D12 : Int)))))] [] ?_
  refine zzm (ret0 [.int .i64 (Nt.cmpS (z12 * (D17 : Int)) (z17 * (D12 : Int)))] ⟨zzo, trivial⟩ fun u79 e80 => ?_)
  show _ = _
  rw [hq12, hq17, ← Nt.cmp_mk hp12 hp17]
  rfl
theorem k_ratNeg {u w : World} {r1 : RL} {x : Rat} {K : Nat} (d : Dat u w) (hr1 : RatV u r1 x K) (hK : K ≤ 200000000) : Calls Tryz.prog 144 #[r1.v] w (Post u w fun v u' => ∃ r : RL, v = r.v ∧ RatN u' r (-x) K) := by
 refine zzk (args := [r1.v]) Tryz.func144 rfl Tryz.ntmps144 (rs := [.cell 2 26]) Tryz.results144 (le_b rfl) (le_b rfl) d ?_
 refine sq9 ?_
 refine zzi 1 ⟨26, r1.cs⟩ ?_
 refine zzi 2 ⟨26, [.bool false, .slice none 0 0, .slice none 0 0]⟩ ?_
 refine zzb 6 [(1, .adr 1 0), (2, .adr 2 0)] [(1, ⟨26, r1.cs⟩), (2, ⟨26, [.bool false, .slice none 0 0, .slice none 0 0]⟩)] ?_
 refine sq9 ?_
 refine zzg 3 (.v (r1.v)) ty26 zzd ?_
 refine zzf 4 165 [r1.v] ?_
 intro w11 u11 e11 d11
 have k14 := k_flip (r := r1) d11
 with_reducible refine Post.mono k14 ?_
 rintro _ u12 g13 rfl
 refine zzf 5 126 [.agg #[.bool (!r1.s), r1.m.v, r1.d.v]] ?_
 intro w15 u15 e15 d15
 have k20 := k_ratTrim d15 ((flip_rat (hr1.ext (e11.trans g13.ext))).ext e15) (by omega)
 with_reducible refine Post.mono k20 ?_
 rintro _ u18 g19 ⟨r16, rfl, h17⟩
 refine zzh ⟨26, r16.cs⟩ ty26 ?_
 refine zzb 6 [(2, .adr 2 0)] [(2, ⟨26, r16.cs⟩)] ?_
 refine zzm (ret0 [r16.v] ⟨zzp ty26 zzd, trivial⟩ fun u21 e22 => ?_)
 refine ⟨r16, rfl, RatN.more (K := K) ?_ (by omega)⟩
 exact (h17.ext e22)
theorem k_ratAbs {u w : World} {r1 : RL} {x : Rat} {K : Nat} (d : Dat u w) (hr1 : RatV u r1 x K) (hK : K ≤ 200000000) : Calls Tryz.prog 139 #[r1.v] w (Post u w fun v u' => ∃ r : RL, v = r.v ∧ RatN u' r (Nt.absQ x) K) := by
 refine zzk (args := [r1.v]) Tryz.func139 rfl Tryz.ntmps139 (rs := [.cell 2 26]) Tryz.results139 (le_b rfl) (le_b rfl) d ?_
 refine sq9 ?_
 refine zzi 1 ⟨26, r1.cs⟩ ?_
 refine zzi 2 ⟨26, [.bool false, .slice none 0 0, .slice none 0 0]⟩ ?_
 refine zzb 11 [(1, .adr 1 0), (2, .adr 2 0)] [(1, ⟨26, r1.cs⟩), (2, ⟨26, [.bool false, .slice none 0 0, .slice none 0 0]⟩)] ?_
 refine sq9 ?_
 refine zza 3 (.adr 1 0) ?_
 refine zza 4 (.adr 1 1) ?_
 refine zzg 5 (.v r1.m.v) ty22 zzj ?_
 refine zza 6 (.v (.agg #[.bool false, r1.m.v])) ?_
 refine zza 7 (.adr 1 2) ?_
 refine zzg 8 (.v r1.d.v) ty22 zzj ?_
 refine zza 9 (.v (.agg #[.bool false, r1.m.v, r1.d.v])) ?_
 refine zzf 10 126 [.agg #[.bool false, r1.m.v, r1.d.v]] ?_
 intro w11 u11 e11 d11
 have k16 := k_ratTrim d11 ((abs_rat hr1).ext e11) (by omega)
 with_reducible refine Post.mono k16 ?_
 rintro _ u14 g15 ⟨r12, rfl, h13⟩
 refine zzh ⟨26, r12.cs⟩ ty26 ?_
 refine zzb 11 [(2, .adr 2 0)] [(2, ⟨26, r12.cs⟩)] ?_
 refine zzm (ret0 [r12.v] ⟨zzp ty26 zzd, trivial⟩ fun u17 e18 => ?_)
 refine ⟨r12, rfl, RatN.more (K := K) ?_ (by omega)⟩
 exact (h13.ext e18)
set_option maxHeartbeats 1000000 in
theorem k_ratAdd {u w : World} {r1 : RL} {x : Rat} {K : Nat} {r2 : RL} {y : Rat} {L : Nat} (d : Dat u w) (hr1 : RatV u r1 x K) (hr2 : RatV u r2 y L) (hK : K ≤ 200000000) (hL : L ≤ 200000000) : Calls Tryz.prog 104 #[r1.v, r2.v] w (Post u w fun v u' => ∃ r : RL, v = r.v ∧ RatN u' r (x + y) (K + L + 1)) := by
 refine zzk (args := [r1.v, r2.v]) Tryz.func104 rfl Tryz.ntmps104 (rs := [.cell 4 26]) Tryz.results104 (le_b rfl) (le_b rfl) d ?_
 refine sq9 ?_
 refine zzi 2 ⟨26, r1.cs⟩ ?_
 refine zzi 3 ⟨26, r2.cs⟩ ?_
 refine zzi 4 ⟨26, [.bool false, .slice none 0 0, .slice none 0 0]⟩ ?_
 refine zzb 73 [(2, .adr 2 0), (3, .adr 3 0), (4, .adr 4 0)] [(2, ⟨26, r1.cs⟩), (3, ⟨26, r2.cs⟩), (4, ⟨26, [.bool false, .slice none 0 0, .slice none 0 0]⟩)] ?_
 refine zzc ?_
 refine zzx [0, 1, 0, 7, 0, 0, 63, 127] [(0, []), (2, []), (4, []), (5, []), (1, []), (3, []), (6, []), (7, [])] (by kernel_rfl) (by kernel_rfl) ?_
 refine zzg 8 (.v (r1.v)) ty26 zzd ?_
 refine zzg 10 (.v (r2.v)) ty26 zzd ?_
 refine zzi 5 ⟨116, [.bool false, .slice none 0 0, .slice none 0 0, .bool false]⟩ ?_
 refine zzi 6 ⟨116, [.bool false, .slice none 0 0, .slice none 0 0, .bool false]⟩ ?_
 refine zzf 9 145 [r1.v] ?_
 intro w11 u11 e11 d11
 have k15 := k_read d11 (hr1.ext e11)
 with_reducible refine Post.mono k15 ?_
 rintro _ u13 g14 ⟨r12, wh12, rfl, z12, D12, hi12, hd12, hp12, hq12, hw12, hk12⟩
 refine zzf 11 145 [r2.v] ?_
 intro w16 u16 e16 d16
 have k20 := k_read d16 (hr2.ext (e11.trans (g14.ext.trans e16)))
 with_reducible refine Post.mono k20 ?_
 rintro _ u18 g19 ⟨r17, wh17, rfl, z17, D17, hi17, hd17, hp17, hq17, hw17, hk17⟩
 refine zzh ⟨116, r12.cs ++ [.bool wh12]⟩ ty116 ?_
 refine zzh ⟨116, r17.cs ++ [.bool wh17]⟩ ty116 ?_
 refine zzb 73 [(4, .adr 4 0), (5, .adr 5 0), (6, .adr 6 0)] [(4, ⟨26, [.bool false, .slice none 0 0, .slice none 0 0]⟩), (5, ⟨116, r12.cs ++ [.bool wh12]⟩), (6, ⟨116, r17.cs ++ [.bool wh17]⟩)] ?_
 refine zzc ?_
 refine sq9 ?_
 refine zza 12 (.adr 5 3) ?_
 refine zzg 13 (.v (.bool wh12)) ty4 zzj ?_
 rcases Bool.eq_false_or_eq_true wh12 with hs21 | hs21
 ·refine zyl 14 (x := .v (.bool wh12)) (.v (.bool true)) (by rw [hs21]) ?_
  refine zza 15 (.adr 6 3) ?_ (hw := w1 2 true 14)
  refine zzg 16 (.v (.bool wh17)) ty4 zzj ?_ (hw := w1 2 true 14)
  refine zza 17 (.v (.bool wh17)) ?_
  refine zzb 73 [(4, .adr 4 0), (5, .adr 5 0), (6, .adr 6 0), (17, .v (.bool wh17))] [(4, ⟨26, [.bool false, .slice none 0 0, .slice none 0 0]⟩), (5, ⟨116, r12.cs ++ [.bool wh12]⟩), (6, ⟨116, r17.cs ++ [.bool wh17]⟩)] ?_
  refine zzs (b := wh17) (by kernel_rfl) (fun hb22 => ?_) (fun hb22 => ?_)
  ·replace hb22 : wh17 = true := hb22
   refine sq9 ?_
   refine zza 18 (.adr 5 0) ?_
   refine zza 19 (.adr 5 0) ?_
   refine zzg 20 (.v (.agg #[.bool r12.s, r12.m.v])) ty24 zzd ?_
   refine zza 21 (.adr 6 0) ?_
   refine zza 22 (.adr 6 0) ?_
   refine zzg 23 (.v (.agg #[.bool r17.s, r17.m.v])) ty24 zzd ?_
   refine zzf 24 153 [.agg #[.bool r12.s, r12.m.v], .agg #[.bool r17.s, r17.m.v]] ?_
   intro w23 u23 e23 d23
   have k28 := k_intAdd d23 (hi12.ext (e16.trans (g19.ext.trans e23))) (hi17.ext e23) (by omega) (by omega)
   with_reducible refine Post.mono k28 ?_
   rintro _ u26 g27 ⟨i24, rfl, h25⟩
   refine zzf 25 152 [i24.v] ?_
   intro w29 u29 e29 d29
   have k34 := k_whole (i := i24) d29
   with_reducible refine Post.mono k34 ?_
   rintro _ u32 g33 ⟨y30, rfl, h31⟩
   refine zzh ⟨26, i24.cs ++ [y30.v]⟩ ty26 ?_
   refine zzb 73 [(4, .adr 4 0)] [(4, ⟨26, i24.cs ++ [y30.v]⟩)] ?_
   refine zzm (zzu (ret0 [.agg #[.bool i24.s, .slice i24.m.a i24.m.n i24.m.c, .slice y30.a y30.n y30.c]] ⟨zzp ty26 zzd, trivial⟩ fun u35 e36 => ?_))
   refine ⟨(⟨i24.s, i24.m, y30⟩ : RL), rfl, RatN.more (K := (max (max K L + 1) 1)) ?_ (by omega)⟩
   rw [hq12, hq17, hw12 (by assumption), hw17 (by assumption), Nt.mk_one, Nt.mk_one, ← Rat.intCast_add]
   exact ((whole_rat (h25.ext (e29.trans g33.ext)) h31).ext e36)
  ·replace hb22 : wh17 = false := hb22
   refine zzq (zzn ?_)
   refine zzc ?_
   refine sq9 ?_
   refine zza 26 (.adr 5 0) ?_
   refine zza 27 (.adr 5 2) ?_
   refine zzg 28 (.v r12.d.v) ty22 zzj ?_
   refine zza 29 (.adr 6 0) ?_
   refine zza 30 (.adr 6 2) ?_
   refine zzg 31 (.v r17.d.v) ty22 zzj ?_
   refine zzf 32 154 [r12.d.v, r17.d.v] ?_
   intro w37 u37 e37 d37
   have k40 := k_natCompare d37 (hd12.ext (e16.trans (g19.ext.trans e37))) (hd17.ext e37)
   with_reducible refine Post.mono k40 ?_
   rintro _ u38 g39 rfl
   refine zza 33 (.v (.bool ((Nt.cmpS D12 D17) == 0))) ?_
   refine zzb 73 [(4, .adr 4 0), (5, .adr 5 0), (6, .adr 6 0), (33, .v (.bool ((Nt.cmpS D12 D17) == 0)))] [(4, ⟨26, [.bool false, .slice none 0 0, .slice none 0 0]⟩), (5, ⟨116, r12.cs ++ [.bool wh12]⟩), (6, ⟨116, r17.cs ++ [.bool wh17]⟩)] ?_
   refine zzs (b := (Nt.cmpS D12 D17) == 0) (by kernel_rfl) (fun hb41 => ?_) (fun hb41 => ?_)
   ·replace hb41 : ((Nt.cmpS D12 D17) == 0) = true := hb41
    refine zzc ?_
    refine zzx [0, 1, 3, 0, 8, 24, 63, 0, 128, 384, 1023, 2047, 4095] [(0, []), (1, []), (2, []), (3, []), (4, []), (5, []), (7, []), (8, []), (9, []), (6, []), (10, []), (11, []), (12, [])] (by kernel_rfl) (by kernel_rfl) ?_
    refine zza 34 (.adr 5 0) ?_
    refine zza 35 (.adr 5 0) ?_
    refine zzg 36 (.v (.agg #[.bool r12.s, r12.m.v])) ty24 zzd ?_
    refine zza 37 (.adr 6 0) ?_
    refine zza 38 (.adr 6 0) ?_
    refine zzg 39 (.v (.agg #[.bool r17.s, r17.m.v])) ty24 zzd ?_
    refine zza 41 (.adr 5 0) ?_
    refine zza 42 (.adr 5 2) ?_
    refine zzg 43 (.v r12.d.v) ty22 zzj ?_
    refine zzf 40 153 [.agg #[.bool r12.s, r12.m.v], .agg #[.bool r17.s, r17.m.v]] ?_
    intro w42 u42 e42 d42
    have k47 := k_intAdd d42 (hi12.ext (e16.trans (g19.ext.trans (e37.trans (g39.ext.trans e42))))) (hi17.ext (e37.trans (g39.ext.trans e42))) (by omega) (by omega)
    with_reducible refine Post.mono k47 ?_
    rintro _ u45 g46 ⟨i43, rfl, h44⟩
    refine zza 44 (.v (.agg #[.bool i43.s, i43.m.v, r12.d.v])) ?_
    refine zzf 45 150 [.agg #[.bool i43.s, i43.m.v, r12.d.v]] ?_
    intro w48 u48 e48 d48
    have k53 := k_lowest d48 (h44.ext e48).raw (hd12.ext (e16.trans (g19.ext.trans (e37.trans (g39.ext.trans (e42.trans (g46.ext.trans e48))))))) hp12 (by omega) (by omega)
    with_reducible refine Post.mono k53 ?_
    rintro _ u51 g52 ⟨r49, rfl, h50⟩
    refine zzh ⟨26, r49.cs⟩ ty26 ?_
    refine zzb 73 [(4, .adr 4 0)] [(4, ⟨26, r49.cs⟩)] ?_
    refine zzm (zzu (ret0 [r49.v] ⟨zzp ty26 zzd, trivial⟩ fun u54 e55 => ?_))
    refine ⟨r49, rfl, RatN.more (K := (max (max K L + 1) K)) ?_ (by omega)⟩
    have hD : D12 = D17 := Nt.cmp_natE hb41
    rw [hq12, hq17, ← hD, ← Nt.add_same hp12]
    exact (h50.ext e55)
   ·replace hb41 : ((Nt.cmpS D12 D17) == 0) = false := hb41
    refine zzq (zzn ?_)
    refine zzc ?_
    refine zzx [0, 1, 3, 0, 8, 24, 56, 127, 0, 256, 768, 0, 2048, 6144, 14591, 32767, 65535, 0, 262143] [(0, []), (1, []), (2, []), (3, []), (4, []), (5, []), (8, []), (9, []), (10, []), (11, []), (12, []), (13, []), (17, []), (6, []), (7, []), (14, []), (15, []), (16, []), (18, [])] (by kernel_rfl) (by kernel_rfl) ?_
    refine zza 46 (.adr 5 0) ?_
    refine zza 47 (.adr 5 0) ?_
    refine zzg 48 (.v (.agg #[.bool r12.s, r12.m.v])) ty24 zzd ?_
    refine zza 49 (.adr 6 0) ?_
    refine zza 50 (.adr 6 2) ?_
    refine zzg 51 (.v r17.d.v) ty22 zzj ?_
    refine zza 54 (.adr 6 0) ?_
    refine zza 55 (.adr 6 0) ?_
    refine zzg 56 (.v (.agg #[.bool r17.s, r17.m.v])) ty24 zzd ?_
    refine zza 57 (.adr 5 0) ?_
    refine zza 58 (.adr 5 2) ?_
    refine zzg 59 (.v r12.d.v) ty22 zzj ?_
    refine zzi 7 ⟨24, [.bool false, .slice none 0 0]⟩ ?_
    refine zzf 52 148 [r17.d.v] ?_
    intro w56 u56 e56 d56
    have k59 := k_natural (x := r17.d) d56
    with_reducible refine Post.mono k59 ?_
    rintro _ u57 g58 rfl
    refine zzf 53 147 [.agg #[.bool r12.s, r12.m.v], .agg #[.bool false, r17.d.v]] ?_
    intro w60 u60 e60 d60
    have k65 := k_intMul d60 (hi12.ext (e16.trans (g19.ext.trans (e37.trans (g39.ext.trans (e56.trans (g58.ext.trans e60))))))) (nat_int (hd17.ext (e37.trans (g39.ext.trans (e56.trans (g58.ext.trans e60)))))) (by omega) (by omega)
    with_reducible refine Post.mono k65 ?_
    rintro _ u63 g64 ⟨i61, rfl, h62⟩
    refine zzf 60 148 [r12.d.v] ?_
    intro w66 u66 e66 d66
    have k69 := k_natural (x := r12.d) d66
    with_reducible refine Post.mono k69 ?_
    rintro _ u67 g68 rfl
    refine zzf 61 147 [.agg #[.bool r17.s, r17.m.v], .agg #[.bool false, r12.d.v]] ?_
    intro w70 u70 e70 d70
    have k75 := k_intMul d70 (hi17.ext (e37.trans (g39.ext.trans (e56.trans (g58.ext.trans (e60.trans (g64.ext.trans (e66.trans (g68.ext.trans e70))))))))) (nat_int (hd12.ext (e16.trans (g19.ext.trans (e37.trans (g39.ext.trans (e56.trans (g58.ext.trans (e60.trans (g64.ext.trans (e66.trans (g68.ext.trans e70)))))))))))) (by omega) (by omega)
    with_reducible refine Post.mono k75 ?_
    rintro _ u73 g74 ⟨i71, rfl, h72⟩
    refine zzf 62 153 [i61.v, i71.v] ?_
    intro w76 u76 e76 d76
    have k81 := k_intAdd d76 (h62.ext (e66.trans (g68.ext.trans (e70.trans (g74.ext.trans e76))))).raw (h72.ext e76).raw (by omega) (by omega)
    with_reducible refine Post.mono k81 ?_
    rintro _ u79 g80 ⟨i77, rfl, h78⟩
    refine zzh ⟨24, i77.cs⟩ ty24 ?_
    refine zzb 73 [(4, .adr 4 0), (5, .adr 5 0), (6, .adr 6 0), (7, .adr 7 0)] [(4, ⟨26, [.bool false, .slice none 0 0, .slice none 0 0]⟩), (5, ⟨116, r12.cs ++ [.bool wh12]⟩), (6, ⟨116, r17.cs ++ [.bool wh17]⟩), (7, ⟨24, i77.cs⟩)] ?_
    refine zzc ?_
    refine zzx [0, 0, 2, 6, 0, 16, 48, 126, 255, 511, 1023] [(0, []), (1, []), (2, []), (3, []), (4, []), (5, []), (6, []), (7, []), (8, []), (9, []), (10, [])] (by kernel_rfl) (by kernel_rfl) ?_
    refine zzg 63 (.v (i77.v)) ty24 zzd ?_
    refine zza 64 (.adr 5 0) ?_
    refine zza 65 (.adr 5 2) ?_
    refine zzg 66 (.v r12.d.v) ty22 zzj ?_
    refine zza 67 (.adr 6 0) ?_
    refine zza 68 (.adr 6 2) ?_
    refine zzg 69 (.v r17.d.v) ty22 zzj ?_
    refine zzf 70 155 [r12.d.v, r17.d.v] ?_
    intro w82 u82 e82 d82
    have k87 := k_natMul d82 (hd12.ext (e16.trans (g19.ext.trans (e37.trans (g39.ext.trans (e56.trans (g58.ext.trans (e60.trans (g64.ext.trans (e66.trans (g68.ext.trans (e70.trans (g74.ext.trans (e76.trans (g80.ext.trans e82))))))))))))))) (hd17.ext (e37.trans (g39.ext.trans (e56.trans (g58.ext.trans (e60.trans (g64.ext.trans (e66.trans (g68.ext.trans (e70.trans (g74.ext.trans (e76.trans (g80.ext.trans e82))))))))))))) (by omega) (by omega)
    with_reducible refine Post.mono k87 ?_
    rintro _ u85 g86 ⟨x83, rfl, h84⟩
    refine zza 71 (.v (.agg #[.bool i77.s, i77.m.v, x83.v])) ?_
    refine zzf 72 150 [.agg #[.bool i77.s, i77.m.v, x83.v]] ?_
    intro w88 u88 e88 d88
    have k93 := k_lowest d88 (h78.ext (e82.trans (g86.ext.trans e88))).raw (h84.ext e88).raw (Nat.mul_pos hp12 hp17) (by omega) (by omega)
    with_reducible refine Post.mono k93 ?_
    rintro _ u91 g92 ⟨r89, rfl, h90⟩
    refine zzh ⟨26, r89.cs⟩ ty26 ?_
    refine zzb 73 [(4, .adr 4 0)] [(4, ⟨26, r89.cs⟩)] ?_
    refine zzm (ret0 [r89.v] ⟨zzp ty26 zzd, trivial⟩ fun u94 e95 => ?_)
    refine ⟨r89, rfl, RatN.more (K := (max (max (K + L) (L + K) + 1) (K + L))) ?_ (by omega)⟩
    rw [hq12, hq17, ← Nt.add_mk hp12 hp17]
    exact (h90.ext e95)
 ·refine zyl 14 (x := .v (.bool wh12)) (.v (.bool false)) (by rw [hs21]) ?_
  refine zzl 15 (uw 2 true false 14) ?_
  refine zzl 16 (uw 2 true false 14) ?_
  refine zza 17 (.v (.bool false)) ?_
  refine zzb 73 [(4, .adr 4 0), (5, .adr 5 0), (6, .adr 6 0), (17, .v (.bool false))] [(4, ⟨26, [.bool false, .slice none 0 0, .slice none 0 0]⟩), (5, ⟨116, r12.cs ++ [.bool wh12]⟩), (6, ⟨116, r17.cs ++ [.bool wh17]⟩)] ?_
  refine zyn (by kernel_rfl) ?_
  refine zzq (zzn ?_)
  refine zzc ?_
  refine sq9 ?_
  refine zza 26 (.adr 5 0) ?_
  refine zza 27 (.adr 5 2) ?_
  refine zzg 28 (.v r12.d.v) ty22 zzj ?_
  refine zza 29 (.adr 6 0) ?_
  refine zza 30 (.adr 6 2) ?_
  refine zzg 31 (.v r17.d.v) ty22 zzj ?_
  refine zzf 32 154 [r12.d.v, r17.d.v] ?_
  intro w96 u96 e96 d96
  have k99 := k_natCompare d96 (hd12.ext (e16.trans (g19.ext.trans e96))) (hd17.ext e96)
  with_reducible refine Post.mono k99 ?_
  rintro _ u97 g98 rfl
  refine zza 33 (.v (.bool ((Nt.cmpS D12 D17) == 0))) ?_
  refine zzb 73 [(4, .adr 4 0), (5, .adr 5 0), (6, .adr 6 0), (33, .v (.bool ((Nt.cmpS D12 D17) == 0)))] [(4, ⟨26, [.bool false, .slice none 0 0, .slice none 0 0]⟩), (5, ⟨116, r12.cs ++ [.bool wh12]⟩), (6, ⟨116, r17.cs ++ [.bool wh17]⟩)] ?_
  refine zzs (b := (Nt.cmpS D12 D17) == 0) (by kernel_rfl) (fun hb100 => ?_) (fun hb100 => ?_)
  ·replace hb100 : ((Nt.cmpS D12 D17) == 0) = true := hb100
   refine zzc ?_
   refine zzx [0, 1, 3, 0, 8, 24, 63, 0, 128, 384, 1023, 2047, 4095] [(0, []), (1, []), (2, []), (3, []), (4, []), (5, []), (7, []), (8, []), (9, []), (6, []), (10, []), (11, []), (12, [])] (by kernel_rfl) (by kernel_rfl) ?_
   refine zza 34 (.adr 5 0) ?_
   refine zza 35 (.adr 5 0) ?_
   refine zzg 36 (.v (.agg #[.bool r12.s, r12.m.v])) ty24 zzd ?_
   refine zza 37 (.adr 6 0) ?_
   refine zza 38 (.adr 6 0) ?_
   refine zzg 39 (.v (.agg #[.bool r17.s, r17.m.v])) ty24 zzd ?_
   refine zza 41 (.adr 5 0) ?_
   refine zza 42 (.adr 5 2) ?_
   refine zzg 43 (.v r12.d.v) ty22 zzj ?_
   refine zzf 40 153 [.agg #[.bool r12.s, r12.m.v], .agg #[.bool r17.s, r17.m.v]] ?_
   intro w101 u101 e101 d101
   have k106 := k_intAdd d101 (hi12.ext (e16.trans (g19.ext.trans (e96.trans (g98.ext.trans e101))))) (hi17.ext (e96.trans (g98.ext.trans e101))) (by omega) (by omega)
   with_reducible refine Post.mono k106 ?_
   rintro _ u104 g105 ⟨i102, rfl, h103⟩
   refine zza 44 (.v (.agg #[.bool i102.s, i102.m.v, r12.d.v])) ?_
   refine zzf 45 150 [.agg #[.bool i102.s, i102.m.v, r12.d.v]] ?_
   intro w107 u107 e107 d107
   have k112 := k_lowest d107 (h103.ext e107).raw (hd12.ext (e16.trans (g19.ext.trans (e96.trans (g98.ext.trans (e101.trans (g105.ext.trans e107))))))) hp12 (by omega) (by omega)
   with_reducible refine Post.mono k112 ?_
   rintro _ u110 g111 ⟨r108, rfl, h109⟩
   refine zzh ⟨26, r108.cs⟩ ty26 ?_
   refine zzb 73 [(4, .adr 4 0)] [(4, ⟨26, r108.cs⟩)] ?_
   refine zzm (zzu (ret0 [r108.v] ⟨zzp ty26 zzd, trivial⟩ fun u113 e114 => ?_))
   refine ⟨r108, rfl, RatN.more (K := (max (max K L + 1) K)) ?_ (by omega)⟩
   have hD : D12 = D17 := Nt.cmp_natE hb100
   rw [hq12, hq17, ← hD, ← Nt.add_same hp12]
   exact (h109.ext e114)
  ·replace hb100 : ((Nt.cmpS D12 D17) == 0) = false := hb100
   refine zzq (zzn ?_)
   refine zzc ?_
   refine zzx [0, 1, 3, 0, 8, 24, 56, 127, 0, 256, 768, 0, 2048, 6144, 14591, 32767, 65535, 0, 262143] [(0, []), (1, []), (2, []), (3, []), (4, []), (5, []), (8, []), (9, []), (10, []), (11, []), (12, []), (13, []), (17, []), (6, []), (7, []), (14, []), (15, []), (16, []), (18, [])] (by kernel_rfl) (by kernel_rfl) ?_
   refine zza 46 (.adr 5 0) ?_
   refine zza 47 (.adr 5 0) ?_
   refine zzg 48 (.v (.agg #[.bool r12.s, r12.m.v])) ty24 zzd ?_
   refine zza 49 (.adr 6 0) ?_
   refine zza 50 (.adr 6 2) ?_
   refine zzg 51 (.v r17.d.v) ty22 zzj ?_
   refine zza 54 (.adr 6 0) ?_
   refine zza 55 (.adr 6 0) ?_
   refine zzg 56 (.v (.agg #[.bool r17.s, r17.m.v])) ty24 zzd ?_
   refine zza 57 (.adr 5 0) ?_
   refine zza 58 (.adr 5 2) ?_
   refine zzg 59 (.v r12.d.v) ty22 zzj ?_
   refine zzi 7 ⟨24, [.bool false, .slice none 0 0]⟩ ?_
   refine zzf 52 148 [r17.d.v] ?_
   intro w115 u115 e115 d115
   have k118 := k_natural (x := r17.d) d115
   with_reducible refine Post.mono k118 ?_
   rintro _ u116 g117 rfl
   refine zzf 53 147 [.agg #[.bool r12.s, r12.m.v], .agg #[.bool false, r17.d.v]] ?_
   intro w119 u119 e119 d119
   have k124 := k_intMul d119 (hi12.ext (e16.trans (g19.ext.trans (e96.trans (g98.ext.trans (e115.trans (g117.ext.trans e119))))))) (nat_int (hd17.ext (e96.trans (g98.ext.trans (e115.trans (g117.ext.trans e119)))))) (by omega) (by omega)
   with_reducible refine Post.mono k124 ?_
   rintro _ u122 g123 ⟨i120, rfl, h121⟩
   refine zzf 60 148 [r12.d.v] ?_
   intro w125 u125 e125 d125
   have k128 := k_natural (x := r12.d) d125
   with_reducible refine Post.mono k128 ?_
   rintro _ u126 g127 rfl
   refine zzf 61 147 [.agg #[.bool r17.s, r17.m.v], .agg #[.bool false, r12.d.v]] ?_
   intro w129 u129 e129 d129
   have k134 := k_intMul d129 (hi17.ext (e96.trans (g98.ext.trans (e115.trans (g117.ext.trans (e119.trans (g123.ext.trans (e125.trans (g127.ext.trans e129))))))))) (nat_int (hd12.ext (e16.trans (g19.ext.trans (e96.trans (g98.ext.trans (e115.trans (g117.ext.trans (e119.trans (g123.ext.trans (e125.trans (g127.ext.trans e129)))))))))))) (by omega) (by omega)
   with_reducible refine Post.mono k134 ?_
   rintro _ u132 g133 ⟨i130, rfl, h131⟩
   refine zzf 62 153 [i120.v, i130.v] ?_
   intro w135 u135 e135 d135
   have k140 := k_intAdd d135 (h121.ext (e125.trans (g127.ext.trans (e129.trans (g133.ext.trans e135))))).raw (h131.ext e135).raw (by omega) (by omega)
   with_reducible refine Post.mono k140 ?_
   rintro _ u138 g139 ⟨i136, rfl, h137⟩
   refine zzh ⟨24, i136.cs⟩ ty24 ?_
   refine zzb 73 [(4, .adr 4 0), (5, .adr 5 0), (6, .adr 6 0), (7, .adr 7 0)] [(4, ⟨26, [.bool false, .slice none 0 0, .slice none 0 0]⟩), (5, ⟨116, r12.cs ++ [.bool wh12]⟩), (6, ⟨116, r17.cs ++ [.bool wh17]⟩), (7, ⟨24, i136.cs⟩)] ?_
   refine zzc ?_
   refine zzx [0, 0, 2, 6, 0, 16, 48, 126, 255, 511, 1023] [(0, []), (1, []), (2, []), (3, []), (4, []), (5, []), (6, []), (7, []), (8, []), (9, []), (10, [])] (by kernel_rfl) (by kernel_rfl) ?_
   refine zzg 63 (.v (i136.v)) ty24 zzd ?_
   refine zza 64 (.adr 5 0) ?_
   refine zza 65 (.adr 5 2) ?_
   refine zzg 66 (.v r12.d.v) ty22 zzj ?_
   refine zza 67 (.adr 6 0) ?_
   refine zza 68 (.adr 6 2) ?_
   refine zzg 69 (.v r17.d.v) ty22 zzj ?_
   refine zzf 70 155 [r12.d.v, r17.d.v] ?_
   intro w141 u141 e141 d141
   have k146 := k_natMul d141 (hd12.ext (e16.trans (g19.ext.trans (e96.trans (g98.ext.trans (e115.trans (g117.ext.trans (e119.trans (g123.ext.trans (e125.trans (g127.ext.trans (e129.trans (g133.ext.trans (e135.trans (g139.ext.trans e141))))))))))))))) (hd17.ext (e96.trans (g98.ext.trans (e115.trans (g117.ext.trans (e119.trans (g123.ext.trans (e125.trans (g127.ext.trans (e129.trans (g133.ext.trans (e135.trans (g139.ext.trans e141))))))))))))) (by omega) (by omega)
   with_reducible refine Post.mono k146 ?_
   rintro _ u144 g145 ⟨x142, rfl, h143⟩
   refine zza 71 (.v (.agg #[.bool i136.s, i136.m.v, x142.v])) ?_
   refine zzf 72 150 [.agg #[.bool i136.s, i136.m.v, x142.v]] ?_
   intro w147 u147 e147 d147
   have k152 := k_lowest d147 (h137.ext (e141.trans (g145.ext.trans e147))).raw (h143.ext e147).raw (Nat.mul_pos hp12 hp17) (by omega) (by omega)
   with_reducible refine Post.mono k152 ?_
   rintro _ u150 g151 ⟨r148, rfl, h149⟩
   refine zzh ⟨26, r148.cs⟩ ty26 ?_
   refine zzb 73 [(4, .adr 4 0)] [(4, ⟨26, r148.cs⟩)] ?_
   refine zzm (ret0 [r148.v] ⟨zzp ty26 zzd, trivial⟩ fun u153 e154 => ?_)
   refine ⟨r148, rfl, RatN.more (K := (max (max (K + L) (L + K) + 1) (K + L))) ?_ (by omega)⟩
   rw [hq12, hq17, ← Nt.add_mk hp12 hp17]
   exact (h149.ext e154)
theorem k_ratSub {u w : World} {r1 : RL} {x : Rat} {K : Nat} {r2 : RL} {y : Rat} {L : Nat} (d : Dat u w) (hr1 : RatV u r1 x K) (hr2 : RatV u r2 y L) (hK : K ≤ 200000000) (hL : L ≤ 200000000) : Calls Tryz.prog 109 #[r1.v, r2.v] w (Post u w fun v u' => ∃ r : RL, v = r.v ∧ RatN u' r (x - y) (K + L + 1)) := by
 refine zzk (args := [r1.v, r2.v]) Tryz.func109 rfl Tryz.ntmps109 (rs := [.cell 4 26]) Tryz.results109 (le_b rfl) (le_b rfl) d ?_
 refine sq9 ?_
 refine zzi 2 ⟨26, r1.cs⟩ ?_
 refine zzi 3 ⟨26, r2.cs⟩ ?_
 refine zzi 4 ⟨26, [.bool false, .slice none 0 0, .slice none 0 0]⟩ ?_
 refine zzb 9 [(2, .adr 2 0), (3, .adr 3 0), (4, .adr 4 0)] [(2, ⟨26, r1.cs⟩), (3, ⟨26, r2.cs⟩), (4, ⟨26, [.bool false, .slice none 0 0, .slice none 0 0]⟩)] ?_
 refine zzc ?_
 refine zzx [0, 0, 2, 7, 15] [(0, []), (1, []), (2, []), (3, []), (4, [])] (by kernel_rfl) (by kernel_rfl) ?_
 refine zzg 5 (.v (r1.v)) ty26 zzd ?_
 refine zzg 6 (.v (r2.v)) ty26 zzd ?_
 refine zzf 7 165 [r2.v] ?_
 intro w11 u11 e11 d11
 have k14 := k_flip (r := r2) d11
 with_reducible refine Post.mono k14 ?_
 rintro _ u12 g13 rfl
 refine zzf 8 104 [r1.v, .agg #[.bool (!r2.s), r2.m.v, r2.d.v]] ?_
 intro w15 u15 e15 d15
 have k20 := k_ratAdd d15 (hr1.ext (e11.trans (g13.ext.trans e15))) ((flip_rat (hr2.ext (e11.trans g13.ext))).ext e15) (by omega) (by omega)
 with_reducible refine Post.mono k20 ?_
 rintro _ u18 g19 ⟨r16, rfl, h17⟩
 refine zzh ⟨26, r16.cs⟩ ty26 ?_
 refine zzb 9 [(4, .adr 4 0)] [(4, ⟨26, r16.cs⟩)] ?_
 refine zzm (ret0 [r16.v] ⟨zzp ty26 zzd, trivial⟩ fun u21 e22 => ?_)
 refine ⟨r16, rfl, RatN.more (K := (K + L + 1)) ?_ (by omega)⟩
 rw [Rat.sub_eq_add_neg]
 exact (h17.ext e22)
set_option maxHeartbeats 1000000 in
theorem k_ratMul {u w : World} {r1 : RL} {x : Rat} {K : Nat} {r2 : RL} {y : Rat} {L : Nat} (d : Dat u w) (hr1 : RatV u r1 x K) (hr2 : RatV u r2 y L) (hK : K ≤ 200000000) (hL : L ≤ 200000000) : Calls Tryz.prog 111 #[r1.v, r2.v] w (Post u w fun v u' => ∃ r : RL, v = r.v ∧ RatN u' r (x * y) (K + L)) := by
 refine zzk (args := [r1.v, r2.v]) Tryz.func111 rfl Tryz.ntmps111 (rs := [.cell 4 26]) Tryz.results111 (le_b rfl) (le_b rfl) d ?_
 refine sq9 ?_
 refine zzi 2 ⟨26, r1.cs⟩ ?_
 refine zzi 3 ⟨26, r2.cs⟩ ?_
 refine zzi 4 ⟨26, [.bool false, .slice none 0 0, .slice none 0 0]⟩ ?_
 refine zzb 37 [(2, .adr 2 0), (3, .adr 3 0), (4, .adr 4 0)] [(2, ⟨26, r1.cs⟩), (3, ⟨26, r2.cs⟩), (4, ⟨26, [.bool false, .slice none 0 0, .slice none 0 0]⟩)] ?_
 refine zzc ?_
 refine zzx [0, 1, 0, 7, 0, 0, 63, 127] [(0, []), (2, []), (4, []), (5, []), (1, []), (3, []), (6, []), (7, [])] (by kernel_rfl) (by kernel_rfl) ?_
 refine zzg 8 (.v (r1.v)) ty26 zzd ?_
 refine zzg 10 (.v (r2.v)) ty26 zzd ?_
 refine zzi 5 ⟨116, [.bool false, .slice none 0 0, .slice none 0 0, .bool false]⟩ ?_
 refine zzi 6 ⟨116, [.bool false, .slice none 0 0, .slice none 0 0, .bool false]⟩ ?_
 refine zzf 9 145 [r1.v] ?_
 intro w11 u11 e11 d11
 have k15 := k_read d11 (hr1.ext e11)
 with_reducible refine Post.mono k15 ?_
 rintro _ u13 g14 ⟨r12, wh12, rfl, z12, D12, hi12, hd12, hp12, hq12, hw12, hk12⟩
 refine zzf 11 145 [r2.v] ?_
 intro w16 u16 e16 d16
 have k20 := k_read d16 (hr2.ext (e11.trans (g14.ext.trans e16)))
 with_reducible refine Post.mono k20 ?_
 rintro _ u18 g19 ⟨r17, wh17, rfl, z17, D17, hi17, hd17, hp17, hq17, hw17, hk17⟩
 refine zzh ⟨116, r12.cs ++ [.bool wh12]⟩ ty116 ?_
 refine zzh ⟨116, r17.cs ++ [.bool wh17]⟩ ty116 ?_
 refine zzb 37 [(4, .adr 4 0), (5, .adr 5 0), (6, .adr 6 0)] [(4, ⟨26, [.bool false, .slice none 0 0, .slice none 0 0]⟩), (5, ⟨116, r12.cs ++ [.bool wh12]⟩), (6, ⟨116, r17.cs ++ [.bool wh17]⟩)] ?_
 refine sq9 ?_
 refine zza 12 (.adr 5 0) ?_
 refine zza 13 (.adr 5 0) ?_
 refine zzg 14 (.v (.agg #[.bool r12.s, r12.m.v])) ty24 zzd ?_
 refine zza 15 (.adr 6 0) ?_
 refine zza 16 (.adr 6 0) ?_
 refine zzg 17 (.v (.agg #[.bool r17.s, r17.m.v])) ty24 zzd ?_
 refine zzf 18 147 [.agg #[.bool r12.s, r12.m.v], .agg #[.bool r17.s, r17.m.v]] ?_
 intro w21 u21 e21 d21
 have k26 := k_intMul d21 (hi12.ext (e16.trans (g19.ext.trans e21))) (hi17.ext e21) (by omega) (by omega)
 with_reducible refine Post.mono k26 ?_
 rintro _ u24 g25 ⟨i22, rfl, h23⟩
 refine zzi 7 ⟨24, [.bool false, .slice none 0 0]⟩ ?_
 refine zzh ⟨24, i22.cs⟩ ty24 ?_
 refine zzb 37 [(4, .adr 4 0), (5, .adr 5 0), (6, .adr 6 0), (7, .adr 7 0)] [(4, ⟨26, [.bool false, .slice none 0 0, .slice none 0 0]⟩), (5, ⟨116, r12.cs ++ [.bool wh12]⟩), (6, ⟨116, r17.cs ++ [.bool wh17]⟩), (7, ⟨24, i22.cs⟩)] ?_
 refine zzc ?_
 refine sq9 ?_
 refine zza 19 (.adr 5 3) ?_
 refine zzg 20 (.v (.bool wh12)) ty4 zzj ?_
 rcases Bool.eq_false_or_eq_true wh12 with hs27 | hs27
 ·refine zyl 21 (x := .v (.bool wh12)) (.v (.bool true)) (by rw [hs27]) ?_
  refine zza 22 (.adr 6 3) ?_ (hw := w1 2 true 21)
  refine zzg 23 (.v (.bool wh17)) ty4 zzj ?_ (hw := w1 2 true 21)
  refine zza 24 (.v (.bool wh17)) ?_
  refine zzb 37 [(4, .adr 4 0), (5, .adr 5 0), (6, .adr 6 0), (7, .adr 7 0), (24, .v (.bool wh17))] [(4, ⟨26, [.bool false, .slice none 0 0, .slice none 0 0]⟩), (5, ⟨116, r12.cs ++ [.bool wh12]⟩), (6, ⟨116, r17.cs ++ [.bool wh17]⟩), (7, ⟨24, i22.cs⟩)] ?_
  refine zzs (b := wh17) (by kernel_rfl) (fun hb28 => ?_) (fun hb28 => ?_)
  ·replace hb28 : wh17 = true := hb28
   refine sq9 ?_
   refine zzg 25 (.v (i22.v)) ty24 zzd ?_
   refine zzf 26 152 [i22.v] ?_
   intro w29 u29 e29 d29
   have k34 := k_whole (i := i22) d29
   with_reducible refine Post.mono k34 ?_
   rintro _ u32 g33 ⟨y30, rfl, h31⟩
   refine zzh ⟨26, i22.cs ++ [y30.v]⟩ ty26 ?_
   refine zzb 37 [(4, .adr 4 0)] [(4, ⟨26, i22.cs ++ [y30.v]⟩)] ?_
   refine zzm (zzu (ret0 [.agg #[.bool i22.s, .slice i22.m.a i22.m.n i22.m.c, .slice y30.a y30.n y30.c]] ⟨zzp ty26 zzd, trivial⟩ fun u35 e36 => ?_))
   refine ⟨(⟨i22.s, i22.m, y30⟩ : RL), rfl, RatN.more (K := (max (K + L) 1)) ?_ (by omega)⟩
   rw [hq12, hq17, hw12 (by assumption), hw17 (by assumption), Nt.mk_one, Nt.mk_one, ← Rat.intCast_mul]
   exact ((whole_rat (h23.ext (e29.trans g33.ext)) h31).ext e36)
  ·replace hb28 : wh17 = false := hb28
   refine zzq (zzn ?_)
   refine zzc ?_
   refine zzx [0, 0, 2, 6, 0, 16, 48, 126, 255, 511, 1023] [(0, []), (1, []), (2, []), (3, []), (4, []), (5, []), (6, []), (7, []), (8, []), (9, []), (10, [])] (by kernel_rfl) (by kernel_rfl) ?_
   refine zzg 27 (.v (i22.v)) ty24 zzd ?_
   refine zza 28 (.adr 5 0) ?_
   refine zza 29 (.adr 5 2) ?_
   refine zzg 30 (.v r12.d.v) ty22 zzj ?_
   refine zza 31 (.adr 6 0) ?_
   refine zza 32 (.adr 6 2) ?_
   refine zzg 33 (.v r17.d.v) ty22 zzj ?_
   refine zzf 34 155 [r12.d.v, r17.d.v] ?_
   intro w37 u37 e37 d37
   have k42 := k_natMul d37 (hd12.ext (e16.trans (g19.ext.trans (e21.trans (g25.ext.trans e37))))) (hd17.ext (e21.trans (g25.ext.trans e37))) (by omega) (by omega)
   with_reducible refine Post.mono k42 ?_
   rintro _ u40 g41 ⟨x38, rfl, h39⟩
   refine zza 35 (.v (.agg #[.bool i22.s, i22.m.v, x38.v])) ?_
   refine zzf 36 150 [.agg #[.bool i22.s, i22.m.v, x38.v]] ?_
   intro w43 u43 e43 d43
   have k48 := k_lowest d43 (h23.ext (e37.trans (g41.ext.trans e43))).raw (h39.ext e43).raw (Nat.mul_pos hp12 hp17) (by omega) (by omega)
   with_reducible refine Post.mono k48 ?_
   rintro _ u46 g47 ⟨r44, rfl, h45⟩
   refine zzh ⟨26, r44.cs⟩ ty26 ?_
   refine zzb 37 [(4, .adr 4 0)] [(4, ⟨26, r44.cs⟩)] ?_
   refine zzm (ret0 [r44.v] ⟨zzp ty26 zzd, trivial⟩ fun u49 e50 => ?_)
   refine ⟨r44, rfl, RatN.more (K := (max (K + L) (K + L))) ?_ (by omega)⟩
   rw [hq12, hq17, ← Nt.mul_mk]
   exact (h45.ext e50)
 ·refine zyl 21 (x := .v (.bool wh12)) (.v (.bool false)) (by rw [hs27]) ?_
  refine zzl 22 (uw 2 true false 21) ?_
  refine zzl 23 (uw 2 true false 21) ?_
  refine zza 24 (.v (.bool false)) ?_
  refine zzb 37 [(4, .adr 4 0), (5, .adr 5 0), (6, .adr 6 0), (7, .adr 7 0), (24, .v (.bool false))] [(4, ⟨26, [.bool false, .slice none 0 0, .slice none 0 0]⟩), (5, ⟨116, r12.cs ++ [.bool wh12]⟩), (6, ⟨116, r17.cs ++ [.bool wh17]⟩), (7, ⟨24, i22.cs⟩)] ?_
  refine zyn (by kernel_rfl) ?_
  refine zzq (zzn ?_)
  refine zzc ?_
  refine zzx [0, 0, 2, 6, 0, 16, 48, 126, 255, 511, 1023] [(0, []), (1, []), (2, []), (3, []), (4, []), (5, []), (6, []), (7, []), (8, []), (9, []), (10, [])] (by kernel_rfl) (by kernel_rfl) ?_
  refine zzg 27 (.v (i22.v)) ty24 zzd ?_
  refine zza 28 (.adr 5 0) ?_
  refine zza 29 (.adr 5 2) ?_
  refine zzg 30 (.v r12.d.v) ty22 zzj ?_
  refine zza 31 (.adr 6 0) ?_
  refine zza 32 (.adr 6 2) ?_
  refine zzg 33 (.v r17.d.v) ty22 zzj ?_
  refine zzf 34 155 [r12.d.v, r17.d.v] ?_
  intro w51 u51 e51 d51
  have k56 := k_natMul d51 (hd12.ext (e16.trans (g19.ext.trans (e21.trans (g25.ext.trans e51))))) (hd17.ext (e21.trans (g25.ext.trans e51))) (by omega) (by omega)
  with_reducible refine Post.mono k56 ?_
  rintro _ u54 g55 ⟨x52, rfl, h53⟩
  refine zza 35 (.v (.agg #[.bool i22.s, i22.m.v, x52.v])) ?_
  refine zzf 36 150 [.agg #[.bool i22.s, i22.m.v, x52.v]] ?_
  intro w57 u57 e57 d57
  have k62 := k_lowest d57 (h23.ext (e51.trans (g55.ext.trans e57))).raw (h53.ext e57).raw (Nat.mul_pos hp12 hp17) (by omega) (by omega)
  with_reducible refine Post.mono k62 ?_
  rintro _ u60 g61 ⟨r58, rfl, h59⟩
  refine zzh ⟨26, r58.cs⟩ ty26 ?_
  refine zzb 37 [(4, .adr 4 0)] [(4, ⟨26, r58.cs⟩)] ?_
  refine zzm (ret0 [r58.v] ⟨zzp ty26 zzd, trivial⟩ fun u63 e64 => ?_)
  refine ⟨r58, rfl, RatN.more (K := (max (K + L) (K + L))) ?_ (by omega)⟩
  rw [hq12, hq17, ← Nt.mul_mk]
  exact (h59.ext e64)
theorem k_ratFrac {u w : World} {a b : Int} (d : Dat u w) (ha0 : -9223372036854775808 ≤ a) (ha1 : a ≤ 9223372036854775807) (hb0 : -9223372036854775808 ≤ b) (hb1 : b ≤ 9223372036854775807) : Calls Tryz.prog 140 #[.int .i64 a, .int .i64 b] w (Post u w fun v u' => ∃ r : RL, v = r.v ∧ RatN u' r ((a : Rat) / (b : Rat)) 2) := by
 refine zzk (args := [.int .i64 a, .int .i64 b]) Tryz.func140 rfl Tryz.ntmps140 (rs := [.cell 4 26]) Tryz.results140 (le_b rfl) (le_b rfl) d ?_
 refine sq9 ?_
 refine zzi 4 ⟨26, [.bool false, .slice none 0 0, .slice none 0 0]⟩ ?_
 refine zzb 14 [(0, .v (.int .i64 a)), (1, .v (.int .i64 b)), (4, .adr 4 0)] [(4, ⟨26, [.bool false, .slice none 0 0, .slice none 0 0]⟩)] ?_
 refine zzc ?_
 refine sq9 ?_
 refine zza 5 (.v (.int .i64 b)) ?_
 refine zza 6 (.v (.bool (b == 0))) ?_
 refine zzb 14 [(0, .v (.int .i64 a)), (1, .v (.int .i64 b)), (4, .adr 4 0), (6, .v (.bool (b == 0)))] [(4, ⟨26, [.bool false, .slice none 0 0, .slice none 0 0]⟩)] ?_
 refine zzs (b := b == 0) (by kernel_rfl) (fun hb11 => ?_) (fun hb11 => ?_)
 ·replace hb11 : (b == 0) = true := hb11
  refine sq9 ?_
  refine zzf 7 112 [.int .i64 0] ?_
  intro w12 u12 e12 d12
  have k17 := k_ratOf d12 (z := 0) (by omega) (by omega)
  with_reducible refine Post.mono k17 ?_
  rintro _ u15 g16 ⟨r13, rfl, h14⟩
  refine zzh ⟨26, r13.cs⟩ ty26 ?_
  refine zzb 14 [(4, .adr 4 0)] [(4, ⟨26, r13.cs⟩)] ?_
  refine zzm (zzu (ret0 [r13.v] ⟨zzp ty26 zzd, trivial⟩ fun u18 e19 => ?_))
  refine ⟨r13, rfl, RatN.more (K := 2) ?_ (by omega)⟩
  have hb0 : b = 0 := by simpa using hb11
  rw [hb0]; simp [Rat.div_def]; exact (h14.ext e19)
 ·replace hb11 : (b == 0) = false := hb11
  have hb0 : 0 < b.natAbs := by simp at hb11; omega
  refine zzq (zzn ?_)
  refine sq9 ?_
  refine zza 8 (.v (.int .i64 a)) ?_
  refine zzf 9 166 [.int .i64 a] ?_
  intro w20 u20 e20 d20
  have k25 := k_intOf d20 (z := a) (by omega) (by omega)
  with_reducible refine Post.mono k25 ?_
  rintro _ u23 g24 ⟨i21, rfl, h22⟩
  refine zza 10 (.v (.int .i64 b)) ?_
  refine zzf 11 166 [.int .i64 b] ?_
  intro w26 u26 e26 d26
  have k31 := k_intOf d26 (z := b) (by omega) (by omega)
  with_reducible refine Post.mono k31 ?_
  rintro _ u29 g30 ⟨i27, rfl, h28⟩
  refine zzf 12 149 [i21.v, i27.v] ?_
  intro w32 u32 e32 d32
  have k35 := k_quotient (i := i21) (j := i27) d32
  with_reducible refine Post.mono k35 ?_
  rintro _ u33 g34 rfl
  refine zzf 13 150 [.agg #[.bool (!(i21.s == i27.s)), i21.m.v, i27.m.v]] ?_
  intro w36 u36 e36 d36
  have k41 := k_lowest d36 ((quot_int (h22.ext (e26.trans (g30.ext.trans (e32.trans g34.ext)))) (h28.ext (e32.trans g34.ext))).ext e36) ((int_mag (h28.ext (e32.trans g34.ext))).ext e36).raw hb0 (by omega) (by omega)
  with_reducible refine Post.mono k41 ?_
  rintro _ u39 g40 ⟨r37, rfl, h38⟩
  refine zzh ⟨26, r37.cs⟩ ty26 ?_
  refine zzb 14 [(4, .adr 4 0)] [(4, ⟨26, r37.cs⟩)] ?_
  refine zzm (ret0 [r37.v] ⟨zzp ty26 zzd, trivial⟩ fun u42 e43 => ?_)
  refine ⟨r37, rfl, RatN.more (K := (max 2 2)) ?_ (by omega)⟩
  rw [← Nt.div_mk2 (by omega)]
  exact (h38.ext e43)
def DivR (x y : Rat) (K : Nat) (v : Value) (u : World) : Prop := (v = .tuple #[.agg #[.bool false, .slice none 0 0, .slice none 0 0], .int .i64 3] ∧ y = 0) ∨ (y ≠ 0 ∧ ∃ r : RL, v = .tuple #[r.v, .int .i64 0] ∧ RatN u r (x / y) K)
set_option maxHeartbeats 1000000 in
theorem k_ratDiv {u w : World} {r1 : RL} {x : Rat} {K : Nat} {r2 : RL} {y : Rat} {L : Nat} (d : Dat u w) (hr1 : RatV u r1 x K) (hr2 : RatV u r2 y L) (hK : K ≤ 200000000) (hL : L ≤ 200000000) : Calls Tryz.prog 99 #[r1.v, r2.v] w (Post u w fun v u' => DivR x y (K + L) v u') := by
 refine zzk (args := [r1.v, r2.v]) Tryz.func99 rfl Tryz.ntmps99 (rs := [.cell 4 26, .tmp 5]) Tryz.results99 (le_b rfl) (le_b rfl) d ?_
 refine sq9 ?_
 refine zzi 2 ⟨26, r1.cs⟩ ?_
 refine zzi 3 ⟨26, r2.cs⟩ ?_
 refine zzi 4 ⟨26, [.bool false, .slice none 0 0, .slice none 0 0]⟩ ?_
 refine zza 5 (.v (.int .i64 0)) ?_
 refine zzb 40 [(2, .adr 2 0), (3, .adr 3 0), (4, .adr 4 0)] [(2, ⟨26, r1.cs⟩), (3, ⟨26, r2.cs⟩), (4, ⟨26, [.bool false, .slice none 0 0, .slice none 0 0]⟩)] ?_
 refine zzc ?_
 refine zzx [0, 1, 0, 7, 0, 0, 63, 127] [(0, []), (2, []), (4, []), (5, []), (1, []), (3, []), (6, []), (7, [])] (by kernel_rfl) (by kernel_rfl) ?_
 refine zzg 10 (.v (r1.v)) ty26 zzd ?_
 refine zzg 12 (.v (r2.v)) ty26 zzd ?_
 refine zzi 6 ⟨116, [.bool false, .slice none 0 0, .slice none 0 0, .bool false]⟩ ?_
 refine zzi 7 ⟨116, [.bool false, .slice none 0 0, .slice none 0 0, .bool false]⟩ ?_
 refine zzf 11 145 [r1.v] ?_
 intro w11 u11 e11 d11
 have k15 := k_read d11 (hr1.ext e11)
 with_reducible refine Post.mono k15 ?_
 rintro _ u13 g14 ⟨r12, wh12, rfl, z12, D12, hi12, hd12, hp12, hq12, hw12, hk12⟩
 refine zzf 13 145 [r2.v] ?_
 intro w16 u16 e16 d16
 have k20 := k_read d16 (hr2.ext (e11.trans (g14.ext.trans e16)))
 with_reducible refine Post.mono k20 ?_
 rintro _ u18 g19 ⟨r17, wh17, rfl, z17, D17, hi17, hd17, hp17, hq17, hw17, hk17⟩
 refine zzh ⟨116, r12.cs ++ [.bool wh12]⟩ ty116 ?_
 refine zzh ⟨116, r17.cs ++ [.bool wh17]⟩ ty116 ?_
 refine zzb 40 [(4, .adr 4 0), (6, .adr 6 0), (7, .adr 7 0)] [(4, ⟨26, [.bool false, .slice none 0 0, .slice none 0 0]⟩), (6, ⟨116, r12.cs ++ [.bool wh12]⟩), (7, ⟨116, r17.cs ++ [.bool wh17]⟩)] ?_
 refine zzc ?_
 refine sq9 ?_
 refine zza 14 (.adr 7 0) ?_
 refine zza 15 (.adr 7 0) ?_
 refine zzg 16 (.v (.agg #[.bool r17.s, r17.m.v])) ty24 zzd ?_
 refine zzf 17 146 [.agg #[.bool r17.s, r17.m.v]] ?_
 intro w21 u21 e21 d21
 have k24 := k_intSign d21 (hi17.ext e21)
 with_reducible refine Post.mono k24 ?_
 rintro _ u22 g23 rfl
 refine zza 18 (.v (.bool ((Nt.cmpS z17 0) == 0))) ?_
 refine zzb 40 [(4, .adr 4 0), (6, .adr 6 0), (7, .adr 7 0), (18, .v (.bool ((Nt.cmpS z17 0) == 0)))] [(4, ⟨26, [.bool false, .slice none 0 0, .slice none 0 0]⟩), (6, ⟨116, r12.cs ++ [.bool wh12]⟩), (7, ⟨116, r17.cs ++ [.bool wh17]⟩)] ?_
 refine zzs (b := (Nt.cmpS z17 0) == 0) (by kernel_rfl) (fun hb25 => ?_) (fun hb25 => ?_)
 ·replace hb25 : ((Nt.cmpS z17 0) == 0) = true := hb25
  refine sq9 ?_
  refine zza 19 (.v (.agg #[.bool false, .slice none 0 0, .slice none 0 0])) ?_
  refine zzh ⟨26, [.bool false, .slice none 0 0, .slice none 0 0]⟩ ty26 ?_
  refine zza 5 (.v (.int .i64 3)) ?_
  refine zzb 40 [(4, .adr 4 0), (5, .v (.int .i64 3))] [(4, ⟨26, [.bool false, .slice none 0 0, .slice none 0 0]⟩)] ?_
  refine zzm (zzu (ret0 [.agg #[.bool false, .slice none 0 0, .slice none 0 0], .int .i64 3] ⟨zzp ty26 zzd, zzo, trivial⟩ fun u26 e27 => ?_))
  left
  exact ⟨rfl, by rw [hq17, Nt.cmp_eq0 hb25, Rat.zero_mkRat]⟩
 ·replace hb25 : ((Nt.cmpS z17 0) == 0) = false := hb25
  have hz0 : z17 ≠ 0 := Nt.cmp_ne0 hb25
  have hpp : 0 < ((D12 : Int) * z17 : Int).natAbs := Int.natAbs_pos.2 (Int.mul_ne_zero (by omega) hz0)
  refine zzq (zzn ?_)
  refine zzc ?_
  refine zzx [0, 1, 3, 0, 8, 24, 56, 127, 0, 511] [(0, []), (1, []), (2, []), (3, []), (4, []), (5, []), (8, []), (6, []), (7, []), (9, [])] (by kernel_rfl) (by kernel_rfl) ?_
  refine zza 20 (.adr 6 0) ?_
  refine zza 21 (.adr 6 0) ?_
  refine zzg 22 (.v (.agg #[.bool r12.s, r12.m.v])) ty24 zzd ?_
  refine zza 23 (.adr 7 0) ?_
  refine zza 24 (.adr 7 2) ?_
  refine zzg 25 (.v r17.d.v) ty22 zzj ?_
  refine zzi 8 ⟨24, [.bool false, .slice none 0 0]⟩ ?_
  refine zzf 26 148 [r17.d.v] ?_
  intro w28 u28 e28 d28
  have k31 := k_natural (x := r17.d) d28
  with_reducible refine Post.mono k31 ?_
  rintro _ u29 g30 rfl
  refine zzf 27 147 [.agg #[.bool r12.s, r12.m.v], .agg #[.bool false, r17.d.v]] ?_
  intro w32 u32 e32 d32
  have k37 := k_intMul d32 (hi12.ext (e16.trans (g19.ext.trans (e21.trans (g23.ext.trans (e28.trans (g30.ext.trans e32))))))) (nat_int (hd17.ext (e21.trans (g23.ext.trans (e28.trans (g30.ext.trans e32)))))) (by omega) (by omega)
  with_reducible refine Post.mono k37 ?_
  rintro _ u35 g36 ⟨i33, rfl, h34⟩
  refine zzh ⟨24, i33.cs⟩ ty24 ?_
  refine zzb 40 [(4, .adr 4 0), (6, .adr 6 0), (7, .adr 7 0), (8, .adr 8 0)] [(4, ⟨26, [.bool false, .slice none 0 0, .slice none 0 0]⟩), (6, ⟨116, r12.cs ++ [.bool wh12]⟩), (7, ⟨116, r17.cs ++ [.bool wh17]⟩), (8, ⟨24, i33.cs⟩)] ?_
  refine zzc ?_
  refine zzx [0, 1, 3, 7, 0, 16, 48, 127, 0, 511] [(0, []), (1, []), (2, []), (4, []), (5, []), (6, []), (8, []), (3, []), (7, []), (9, [])] (by kernel_rfl) (by kernel_rfl) ?_
  refine zza 28 (.adr 6 0) ?_
  refine zza 29 (.adr 6 2) ?_
  refine zzg 30 (.v r12.d.v) ty22 zzj ?_
  refine zza 32 (.adr 7 0) ?_
  refine zza 33 (.adr 7 0) ?_
  refine zzg 34 (.v (.agg #[.bool r17.s, r17.m.v])) ty24 zzd ?_
  refine zzi 9 ⟨24, [.bool false, .slice none 0 0]⟩ ?_
  refine zzf 31 148 [r12.d.v] ?_
  intro w38 u38 e38 d38
  have k41 := k_natural (x := r12.d) d38
  with_reducible refine Post.mono k41 ?_
  rintro _ u39 g40 rfl
  refine zzf 35 147 [.agg #[.bool false, r12.d.v], .agg #[.bool r17.s, r17.m.v]] ?_
  intro w42 u42 e42 d42
  have k47 := k_intMul d42 (nat_int (hd12.ext (e16.trans (g19.ext.trans (e21.trans (g23.ext.trans (e28.trans (g30.ext.trans (e32.trans (g36.ext.trans (e38.trans (g40.ext.trans e42)))))))))))) (hi17.ext (e21.trans (g23.ext.trans (e28.trans (g30.ext.trans (e32.trans (g36.ext.trans (e38.trans (g40.ext.trans e42))))))))) (by omega) (by omega)
  with_reducible refine Post.mono k47 ?_
  rintro _ u45 g46 ⟨i43, rfl, h44⟩
  refine zzh ⟨24, i43.cs⟩ ty24 ?_
  refine zzb 40 [(4, .adr 4 0), (8, .adr 8 0), (9, .adr 9 0)] [(4, ⟨26, [.bool false, .slice none 0 0, .slice none 0 0]⟩), (8, ⟨24, i33.cs⟩), (9, ⟨24, i43.cs⟩)] ?_
  refine sq9 ?_
  refine zzg 36 (.v (i33.v)) ty24 zzd ?_
  refine zzg 37 (.v (i43.v)) ty24 zzd ?_
  refine zzf 38 149 [i33.v, i43.v] ?_
  intro w48 u48 e48 d48
  have k51 := k_quotient (i := i33) (j := i43) d48
  with_reducible refine Post.mono k51 ?_
  rintro _ u49 g50 rfl
  refine zzf 39 150 [.agg #[.bool (!(i33.s == i43.s)), i33.m.v, i43.m.v]] ?_
  intro w52 u52 e52 d52
  have k57 := k_lowest d52 ((quot_int (h34.ext (e38.trans (g40.ext.trans (e42.trans (g46.ext.trans (e48.trans g50.ext)))))) (h44.ext (e48.trans g50.ext))).ext e52) ((int_mag (h44.ext (e48.trans g50.ext))).ext e52).raw hpp (by omega) (by omega)
  with_reducible refine Post.mono k57 ?_
  rintro _ u55 g56 ⟨r53, rfl, h54⟩
  refine zzh ⟨26, r53.cs⟩ ty26 ?_
  refine zza 5 (.v (.int .i64 0)) ?_
  refine zzb 40 [(4, .adr 4 0), (5, .v (.int .i64 0))] [(4, ⟨26, r53.cs⟩)] ?_
  refine zzm (ret0 [r53.v, .int .i64 0] ⟨zzp ty26 zzd, zzo, trivial⟩ fun u58 e59 => ?_)
  right
  refine ⟨?_, r53, rfl, RatN.more (K := (max (K + L) (K + L))) ?_ (by omega)⟩
  ·rw [hq17]; exact (Rat.mkRat_ne_zero (by omega)).2 hz0
  ·rw [hq12, hq17, ← Nt.quo_mk hp12 hp17 hz0, ← Nt.div_mk2 (by omega)]
   exact (h54.ext e59)
@[reducible] def IV (a b : RL) : Value := .agg #[.bool a.s, .slice a.m.a a.m.n a.m.c, .slice a.d.a a.d.n a.d.c, .bool b.s, .slice b.m.a b.m.n b.m.c, .slice b.d.a b.d.n b.d.c]
namespace Nt
theorem cmpQ_gt (x y : Rat) : decide ((0 : Int) < cmpQ x y) = decide (y < x) := by
 unfold cmpQ
 rw [decide_eq_decide]
 split
 ·constructor
  ·intro h; simp at h
  ·intro h; grind
 ·split
  ·constructor
   ·intro h; simp at h
   ·intro h; grind
  ·constructor
   ·intro h; grind
   ·intro h; simp
theorem cmpQ_le (x y : Rat) : decide (cmpQ x y ≤ (0 : Int)) = decide (x ≤ y) := by
 unfold cmpQ
 rw [decide_eq_decide]
 split
 ·constructor
  ·intro h; grind
  ·intro h; simp
 ·split
  ·constructor
   ·intro h; grind
   ·intro h; simp
  ·constructor
   ·intro h; simp at h
   ·intro h; grind
theorem sgQ_gt (x : Rat) : decide ((0 : Int) < sgQ x) = decide (0 < x) := cmpQ_gt x 0
theorem sgQ_lt (x : Rat) : decide (sgQ x < (0 : Int)) = decide (x < 0) := cmpQ_lt x 0
theorem ends_gt {x y : Rat} (h : decide ((0 : Int) < cmpQ x y) = true) : lo x y = y ∧ hi x y = x := by
 rw [cmpQ_gt] at h
 have h := of_decide_eq_true h
 unfold lo hi
 exact ⟨if_pos h, if_neg (by grind)⟩
theorem ends_le {x y : Rat} (h : decide ((0 : Int) < cmpQ x y) = false) : lo x y = x ∧ hi x y = y := by
 rw [cmpQ_gt] at h
 have h := of_decide_eq_false h
 unfold lo hi
 refine ⟨if_neg h, ?_⟩
 split
 ·rfl
 ·grind
theorem lesser_lt {x y : Rat} (h : decide (cmpQ y x < (0 : Int)) = true) : lo x y = y := by
 rw [cmpQ_lt] at h
 exact if_pos (of_decide_eq_true h)
theorem lesser_ge {x y : Rat} (h : decide (cmpQ y x < (0 : Int)) = false) : lo x y = x := by
 rw [cmpQ_lt] at h
 exact if_neg (of_decide_eq_false h)
theorem greater_gt {x y : Rat} (h : decide ((0 : Int) < cmpQ y x) = true) : hi x y = y := by
 rw [cmpQ_gt] at h
 exact if_pos (of_decide_eq_true h)
theorem greater_le {x y : Rat} (h : decide ((0 : Int) < cmpQ y x) = false) : hi x y = x := by
 rw [cmpQ_gt] at h
 exact if_neg (of_decide_eq_false h)
theorem lo_le_hi (x y : Rat) : lo x y ≤ hi x y := by unfold lo hi; grind
theorem lo_of_le {x y : Rat} (h : x ≤ y) : lo x y = x ∧ hi x y = y := by unfold lo hi; grind
def inI (a b x : Rat) : Bool := decide (lo a b ≤ x) && decide (x ≤ hi a b)
theorem inI_less (a b x : Rat) : inI a b x = ((!decide (x < lo a b)) && (!decide (hi a b < x))) := by
 unfold inI
 rw [Bool.eq_iff_iff]
 simp
 grind
def sgI (a b : Rat) : Int := if 0 < lo a b then 1 else if hi a b < 0 then -1 else 0
def lo4 (a b c d : Rat) : Rat := lo (lo (lo a b) c) d
def hi4 (a b c d : Rat) : Rat := hi (hi (hi a b) c) d
end Nt
section
variable {u u' w w' : World} {x y : Sl} {i j : IL} {r r' : RL} {N M K L : Nat} {z z' : Int} {q q' : Rat}
theorem k_cloneN (d : Dat u w) (h : NatN u x N K) (hK : K ≤ 500000000) : Calls Tryz.prog 184 #[x.v] w (Post u w fun v u' => ∃ y : Sl, v = y.v ∧ NatN u' y N K) := by
 obtain ⟨h1, h2, h3⟩ := h
 refine (CloneU_any _ _ _ _ _ (h2.ext d.ext) (by omega)).mono fun e w' ⟨A', c', he, f, g, hb⟩ => ?_
 have hs : u.heap.size ≤ w'.heap.size := by rw [d.size]; exact hb.size
 exact ⟨_, over u w', he, over_dat d hb, hb, over_grow hs, ⟨A', x.n, c'⟩, rfl, h1, f.over (fun hp => by obtain ⟨a, e, k, _⟩ := g hp; exact ⟨a, e, by rw [d.size]; exact k⟩) hs, h3⟩
theorem own_rat {m e : Sl} (h : RatN u r q K) (h1 : NatN u' m q.num.natAbs K) (h2 : NatN u' e q.den K) : RatN u' ⟨r.s, m, e⟩ q K := ⟨⟨h.1.1, h1⟩, h2⟩
theorem RatV.few (h : RatV u r q K) (h1 : r.m.n ≤ L) (h2 : r.d.n ≤ L) (hL : 1 ≤ L) : RatV u r q L := by
 obtain ⟨⟨z, D, ⟨N, ⟨l, a1, a2, a3, a4⟩, h4⟩, ⟨l', b1, b2, b3, b4⟩, h5⟩, h6⟩ := h
 exact ⟨⟨z, D, ⟨N, ⟨l, a1, a2, h1, a4⟩, h4⟩, ⟨l', b1, b2, h2, b4⟩, h5⟩, hL⟩
end
end Go.Proofs.YtnedhbidmfoegaaGreat
