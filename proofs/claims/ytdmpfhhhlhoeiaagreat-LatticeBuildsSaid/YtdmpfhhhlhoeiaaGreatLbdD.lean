/- Parts of the proof: contracts of functions, each walked once, and plain laws. -/
import Derived.Test.YtdmpfhhhlhoeiaaGreatLbdC
namespace Go.Proofs.YtdmpfhhhlhoeiaaGreat
open Go.RowKit
set_option linter.unusedVariables false
theorem k_signed {u w : World} {s : Bool} {x : Sl} {N K : Nat} (d : Dat u w) (h : NatN u x N K) : Calls Tryz.prog 173 #[.bool s, x.v] w (Post u w fun v u' => ∃ i : IL, v = i.v ∧ IntN u' i (Nt.sg s N) K) := by
 refine zzl (args := [.bool s, .slice x.a x.n x.c]) Tryz.func173 rfl Tryz.ntmps173 (rs := [.cell 4 39]) Tryz.results173 (le_b rfl) (le_b rfl) d ?_
 refine sq9 ?_
 refine zzj 4 ⟨39, [.bool false, .slice none 0 0]⟩ ?_
 refine zzb 13 [(0, .v (.bool s)), (1, .v x.v), (4, .adr 4 0)] [(4, ⟨39, [.bool false, .slice none 0 0]⟩)] ?_
 refine sq9 ?_
 refine zza 5 (.v (.bool s)) ?_
 rcases Bool.eq_false_or_eq_true s with hs11 | hs11
 ·refine zyp 6 (x := .v (.bool s)) (.v (.bool true)) (by rw [hs11]) ?_
  refine zza 7 (.v x.v) ?_ (hw := w1 1 true 6)
  refine zza 8 (.v (.int .i64 (x.n : Int))) ?_ (hw := w1 1 true 6)
  refine zza 9 (.v (.bool (decide ((0 : Int) < (x.n : Int))))) ?_ (hw := w1 1 true 6)
  refine zza 10 (.v (.bool (decide ((0 : Int) < (x.n : Int))))) ?_
  refine zza 11 (.v x.v) ?_
  refine zza 12 (.v (.agg #[.bool (decide ((0 : Int) < (x.n : Int))), x.v])) ?_
  refine zzi ⟨39, [.bool (decide ((0 : Int) < (x.n : Int))), x.v]⟩ ty39 ?_
  refine zzb 13 [(4, .adr 4 0)] [(4, ⟨39, [.bool (decide ((0 : Int) < (x.n : Int))), x.v]⟩)] ?_
  refine zzn (ret0 [.agg #[.bool (decide ((0 : Int) < (x.n : Int))), .slice x.a x.n x.c]] ⟨zzq ty39 zzd, trivial⟩ fun u12 e13 => ?_)
  rw [hs11]
  exact ⟨⟨_, x⟩, rfl, signed_int (s := true) (h.ext e13)⟩
 ·refine zyp 6 (x := .v (.bool s)) (.v (.bool false)) (by rw [hs11]) ?_
  refine zzm 7 (uw 1 true false 6) ?_
  refine zzm 8 (uw 1 true false 6) ?_
  refine zzm 9 (uw 1 true false 6) ?_
  refine zza 10 (.v (.bool false)) ?_
  refine zza 11 (.v x.v) ?_
  refine zza 12 (.v (.agg #[.bool false, x.v])) ?_
  refine zzi ⟨39, [.bool false, x.v]⟩ ty39 ?_
  refine zzb 13 [(4, .adr 4 0)] [(4, ⟨39, [.bool false, x.v]⟩)] ?_
  refine zzn (ret0 [.agg #[.bool false, .slice x.a x.n x.c]] ⟨zzq ty39 zzd, trivial⟩ fun u14 e15 => ?_)
  rw [hs11]
  exact ⟨⟨_, x⟩, rfl, signed_int (s := false) (h.ext e15)⟩
theorem k_intTrim {u w : World} {i1 : IL} {zN : Int} {K : Nat} (d : Dat u w) (hi1 : IntV u i1 zN K) (hK : K ≤ 500000000) : Calls Tryz.prog 175 #[i1.v] w (Post u w fun v u' => ∃ i : IL, v = i.v ∧ IntN u' i zN K) := by
 obtain ⟨N, hN, hzN⟩ := hi1
 refine zzl (args := [i1.v]) Tryz.func175 rfl Tryz.ntmps175 (rs := [.cell 2 39]) Tryz.results175 (le_b rfl) (le_b rfl) d ?_
 refine sq9 ?_
 refine zzj 1 ⟨39, i1.cs⟩ ?_
 refine zzj 2 ⟨39, [.bool false, .slice none 0 0]⟩ ?_
 refine zzb 9 [(1, .adr 1 0), (2, .adr 2 0)] [(1, ⟨39, i1.cs⟩), (2, ⟨39, [.bool false, .slice none 0 0]⟩)] ?_
 refine zzc ?_
 refine zzy [0, 1, 0, 4, 12, 31, 63] [(0, []), (1, []), (2, []), (3, []), (4, []), (5, []), (6, [])] (by kernel_rfl) (by kernel_rfl) ?_
 refine zza 3 (.adr 1 0) ?_
 refine zzh 4 (.v (.bool i1.s)) ty4 zzk ?_
 refine zza 5 (.adr 1 1) ?_
 refine zzh 6 (.v i1.m.v) ty37 zzk ?_
 refine zzf 7 178 [i1.m.v] ?_
 intro w11 u11 e11 d11
 have k16 := k_natTrim d11 (hN.ext e11) (by omega)
 with_reducible refine zPm k16 ?_
 rintro _ u14 g15 ⟨x12, rfl, h13⟩
 refine zzf 8 173 [.bool i1.s, x12.v] ?_
 intro w17 u17 e17 d17
 have k22 := k_signed d17 (s := i1.s) (h13.ext e17)
 with_reducible refine zPm k22 ?_
 rintro _ u20 g21 ⟨i18, rfl, h19⟩
 refine zzi ⟨39, i18.cs⟩ ty39 ?_
 refine zzb 9 [(2, .adr 2 0)] [(2, ⟨39, i18.cs⟩)] ?_
 refine zzn (ret0 [i18.v] ⟨zzq ty39 zzd, trivial⟩ fun u23 e24 => ?_)
 refine ⟨i18, rfl, IntN.more (K := K) ?_ (by omega)⟩
 rw [hzN]
 exact (h19.ext e24)
theorem k_intMul {u w : World} {i1 : IL} {zN : Int} {K : Nat} {i2 : IL} {zM : Int} {L : Nat} (d : Dat u w) (hi1 : IntV u i1 zN K) (hi2 : IntV u i2 zM L) (hK : K ≤ 500000000) (hL : L ≤ 500000000) : Calls Tryz.prog 134 #[i1.v, i2.v] w (Post u w fun v u' => ∃ i : IL, v = i.v ∧ IntN u' i (zN * zM) (K + L)) := by
 obtain ⟨N, hN, hzN⟩ := hi1
 obtain ⟨M, hM, hzM⟩ := hi2
 refine zzl (args := [i1.v, i2.v]) Tryz.func134 rfl Tryz.ntmps134 (rs := [.cell 4 39]) Tryz.results134 (le_b rfl) (le_b rfl) d ?_
 refine sq9 ?_
 refine zzj 2 ⟨39, i1.cs⟩ ?_
 refine zzj 3 ⟨39, i2.cs⟩ ?_
 refine zzj 4 ⟨39, [.bool false, .slice none 0 0]⟩ ?_
 refine zzb 16 [(2, .adr 2 0), (3, .adr 3 0), (4, .adr 4 0)] [(2, ⟨39, i1.cs⟩), (3, ⟨39, i2.cs⟩), (4, ⟨39, [.bool false, .slice none 0 0]⟩)] ?_
 refine zzc ?_
 refine zzy [0, 1, 0, 4, 15, 0, 32, 0, 128, 480, 1023, 2047] [(0, []), (1, []), (2, []), (3, []), (4, []), (5, []), (6, []), (7, []), (8, []), (9, []), (10, []), (11, [])] (by kernel_rfl) (by kernel_rfl) ?_
 refine zza 5 (.adr 2 0) ?_
 refine zzh 6 (.v (.bool i1.s)) ty4 zzk ?_
 refine zza 7 (.adr 3 0) ?_
 refine zzh 8 (.v (.bool i2.s)) ty4 zzk ?_
 refine zza 9 (.v (.bool (!(i1.s == i2.s)))) ?_
 refine zza 10 (.adr 2 1) ?_
 refine zzh 11 (.v i1.m.v) ty37 zzk ?_
 refine zza 12 (.adr 3 1) ?_
 refine zzh 13 (.v i2.m.v) ty37 zzk ?_
 refine zzf 14 143 [i1.m.v, i2.m.v] ?_
 intro w11 u11 e11 d11
 have k16 := k_natMul d11 (hN.ext e11) (hM.ext e11) (by omega) (by omega)
 with_reducible refine zPm k16 ?_
 rintro _ u14 g15 ⟨x12, rfl, h13⟩
 refine zzf 15 173 [.bool (!(i1.s == i2.s)), x12.v] ?_
 intro w17 u17 e17 d17
 have k22 := k_signed d17 (s := !(i1.s == i2.s)) (h13.ext e17)
 with_reducible refine zPm k22 ?_
 rintro _ u20 g21 ⟨i18, rfl, h19⟩
 refine zzi ⟨39, i18.cs⟩ ty39 ?_
 refine zzb 16 [(4, .adr 4 0)] [(4, ⟨39, i18.cs⟩)] ?_
 refine zzn (ret0 [i18.v] ⟨zzq ty39 zzd, trivial⟩ fun u23 e24 => ?_)
 refine ⟨i18, rfl, IntN.more (K := (K + L)) ?_ (by omega)⟩
 rw [hzN, hzM, ← Nt.sg_mul]
 exact (h19.ext e24)
theorem k_intAdd {u w : World} {i1 : IL} {zN : Int} {K : Nat} {i2 : IL} {zM : Int} {L : Nat} (d : Dat u w) (hi1 : IntV u i1 zN K) (hi2 : IntV u i2 zM L) (hK : K ≤ 500000000) (hL : L ≤ 500000000) : Calls Tryz.prog 171 #[i1.v, i2.v] w (Post u w fun v u' => ∃ i : IL, v = i.v ∧ IntN u' i (zN + zM) (max K L + 1)) := by
 obtain ⟨N, hN, hzN⟩ := hi1
 obtain ⟨M, hM, hzM⟩ := hi2
 refine zzl (args := [i1.v, i2.v]) Tryz.func171 rfl Tryz.ntmps171 (rs := [.cell 4 39]) Tryz.results171 (le_b rfl) (le_b rfl) d ?_
 refine sq9 ?_
 refine zzj 2 ⟨39, i1.cs⟩ ?_
 refine zzj 3 ⟨39, i2.cs⟩ ?_
 refine zzj 4 ⟨39, [.bool false, .slice none 0 0]⟩ ?_
 refine zzb 40 [(2, .adr 2 0), (3, .adr 3 0), (4, .adr 4 0)] [(2, ⟨39, i1.cs⟩), (3, ⟨39, i2.cs⟩), (4, ⟨39, [.bool false, .slice none 0 0]⟩)] ?_
 refine zzc ?_
 refine sq9 ?_
 refine zza 5 (.adr 2 0) ?_
 refine zzh 6 (.v (.bool i1.s)) ty4 zzk ?_
 refine zza 7 (.adr 3 0) ?_
 refine zzh 8 (.v (.bool i2.s)) ty4 zzk ?_
 refine zza 9 (.v (.bool (i1.s == i2.s))) ?_
 refine zzb 40 [(2, .adr 2 0), (3, .adr 3 0), (4, .adr 4 0), (9, .v (.bool (i1.s == i2.s)))] [(2, ⟨39, i1.cs⟩), (3, ⟨39, i2.cs⟩), (4, ⟨39, [.bool false, .slice none 0 0]⟩)] ?_
 refine zzt (b := i1.s == i2.s) (by kernel_rfl) (fun hb11 => ?_) (fun hb11 => ?_)
 ·replace hb11 : (i1.s == i2.s) = true := hb11
  refine zzc ?_
  refine zzy [0, 1, 0, 4, 0, 16, 60, 127, 255] [(0, []), (1, []), (2, []), (3, []), (4, []), (5, []), (6, []), (7, []), (8, [])] (by kernel_rfl) (by kernel_rfl) ?_
  refine zza 10 (.adr 2 0) ?_
  refine zzh 11 (.v (.bool i1.s)) ty4 zzk ?_
  refine zza 12 (.adr 2 1) ?_
  refine zzh 13 (.v i1.m.v) ty37 zzk ?_
  refine zza 14 (.adr 3 1) ?_
  refine zzh 15 (.v i2.m.v) ty37 zzk ?_
  refine zzf 16 195 [i1.m.v, i2.m.v] ?_
  intro w12 u12 e12 d12
  have k17 := k_natAdd d12 (hN.ext e12) (hM.ext e12) (by omega) (by omega)
  with_reducible refine zPm k17 ?_
  rintro _ u15 g16 ⟨x13, rfl, h14⟩
  refine zzf 17 173 [.bool i1.s, x13.v] ?_
  intro w18 u18 e18 d18
  have k23 := k_signed d18 (s := i1.s) (h14.ext e18)
  with_reducible refine zPm k23 ?_
  rintro _ u21 g22 ⟨i19, rfl, h20⟩
  refine zzi ⟨39, i19.cs⟩ ty39 ?_
  refine zzb 40 [(4, .adr 4 0)] [(4, ⟨39, i19.cs⟩)] ?_
  refine zzn (zzv (ret0 [i19.v] ⟨zzq ty39 zzd, trivial⟩ fun u24 e25 => ?_))
  refine ⟨i19, rfl, IntN.more (K := (max K L + 1)) ?_ (by omega)⟩
  rw [hzN, hzM, ← Nt.sg_add1 N M hb11]
  exact (h20.ext e25)
 ·replace hb11 : (i1.s == i2.s) = false := hb11
  refine zzr (zzo ?_)
  refine zzc ?_
  refine sq9 ?_
  refine zza 18 (.adr 2 1) ?_
  refine zzh 19 (.v i1.m.v) ty37 zzk ?_
  refine zza 20 (.adr 3 1) ?_
  refine zzh 21 (.v i2.m.v) ty37 zzk ?_
  refine zzf 22 172 [i1.m.v, i2.m.v] ?_
  intro w26 u26 e26 d26
  have k29 := k_natCompare d26 (hN.ext e26) (hM.ext e26)
  with_reducible refine zPm k29 ?_
  rintro _ u27 g28 rfl
  refine zza 23 (.v (.bool ((Nt.cmpS N M) == (-1)))) ?_
  refine zzb 40 [(2, .adr 2 0), (3, .adr 3 0), (4, .adr 4 0), (23, .v (.bool ((Nt.cmpS N M) == (-1))))] [(2, ⟨39, i1.cs⟩), (3, ⟨39, i2.cs⟩), (4, ⟨39, [.bool false, .slice none 0 0]⟩)] ?_
  refine zzt (b := (Nt.cmpS N M) == (-1)) (by kernel_rfl) (fun hb30 => ?_) (fun hb30 => ?_)
  ·replace hb30 : ((Nt.cmpS N M) == (-1)) = true := hb30
   refine zzc ?_
   refine zzy [0, 1, 0, 4, 0, 16, 60, 127, 255] [(0, []), (1, []), (2, []), (3, []), (4, []), (5, []), (6, []), (7, []), (8, [])] (by kernel_rfl) (by kernel_rfl) ?_
   refine zza 24 (.adr 3 0) ?_
   refine zzh 25 (.v (.bool i2.s)) ty4 zzk ?_
   refine zza 26 (.adr 3 1) ?_
   refine zzh 27 (.v i2.m.v) ty37 zzk ?_
   refine zza 28 (.adr 2 1) ?_
   refine zzh 29 (.v i1.m.v) ty37 zzk ?_
   refine zzf 30 196 [i2.m.v, i1.m.v] ?_
   intro w31 u31 e31 d31
   have k36 := k_natSub d31 (hM.ext (e26.trans (g28.ext.trans e31))) (hN.ext (e26.trans (g28.ext.trans e31))) (by omega) (by omega)
   with_reducible refine zPm k36 ?_
   rintro _ u34 g35 ⟨x32, rfl, h33⟩
   refine zzf 31 173 [.bool i2.s, x32.v] ?_
   intro w37 u37 e37 d37
   have k42 := k_signed d37 (s := i2.s) (h33.ext e37)
   with_reducible refine zPm k42 ?_
   rintro _ u40 g41 ⟨i38, rfl, h39⟩
   refine zzi ⟨39, i38.cs⟩ ty39 ?_
   refine zzb 40 [(4, .adr 4 0)] [(4, ⟨39, i38.cs⟩)] ?_
   refine zzn (zzv (ret0 [i38.v] ⟨zzq ty39 zzd, trivial⟩ fun u43 e44 => ?_))
   refine ⟨i38, rfl, IntN.more (K := L) ?_ (by omega)⟩
   rw [hzN, hzM, ← Nt.sg_add2 N M hb11 hb30]
   exact (h39.ext e44)
  ·replace hb30 : ((Nt.cmpS N M) == (-1)) = false := hb30
   refine zzr (zzo ?_)
   refine zzc ?_
   refine zzy [0, 1, 0, 4, 0, 16, 60, 127, 255] [(0, []), (1, []), (2, []), (3, []), (4, []), (5, []), (6, []), (7, []), (8, [])] (by kernel_rfl) (by kernel_rfl) ?_
   refine zza 32 (.adr 2 0) ?_
   refine zzh 33 (.v (.bool i1.s)) ty4 zzk ?_
   refine zza 34 (.adr 2 1) ?_
   refine zzh 35 (.v i1.m.v) ty37 zzk ?_
   refine zza 36 (.adr 3 1) ?_
   refine zzh 37 (.v i2.m.v) ty37 zzk ?_
   refine zzf 38 196 [i1.m.v, i2.m.v] ?_
   intro w45 u45 e45 d45
   have k50 := k_natSub d45 (hN.ext (e26.trans (g28.ext.trans e45))) (hM.ext (e26.trans (g28.ext.trans e45))) (by omega) (by omega)
   with_reducible refine zPm k50 ?_
   rintro _ u48 g49 ⟨x46, rfl, h47⟩
   refine zzf 39 173 [.bool i1.s, x46.v] ?_
   intro w51 u51 e51 d51
   have k56 := k_signed d51 (s := i1.s) (h47.ext e51)
   with_reducible refine zPm k56 ?_
   rintro _ u54 g55 ⟨i52, rfl, h53⟩
   refine zzi ⟨39, i52.cs⟩ ty39 ?_
   refine zzb 40 [(4, .adr 4 0)] [(4, ⟨39, i52.cs⟩)] ?_
   refine zzn (ret0 [i52.v] ⟨zzq ty39 zzd, trivial⟩ fun u57 e58 => ?_)
   refine ⟨i52, rfl, IntN.more (K := K) ?_ (by omega)⟩
   rw [hzN, hzM, ← Nt.sg_add3 N M hb11 hb30]
   exact (h53.ext e58)
theorem k_intSign {u w : World} {i1 : IL} {zN : Int} {K : Nat} (d : Dat u w) (hi1 : IntV u i1 zN K)  : Calls Tryz.prog 133 #[i1.v] w (Post u w fun v u' => v = .int .i64 (Nt.cmpS zN 0)) := by
 obtain ⟨N, hN, hzN⟩ := hi1
 refine zzl (args := [i1.v]) Tryz.func133 rfl Tryz.ntmps133 (rs := [.tmp 2]) Tryz.results133 (le_b rfl) (le_b rfl) d ?_
 refine sq9 ?_
 refine zzj 1 ⟨39, i1.cs⟩ ?_
 refine zza 2 (.v (.int .i64 0)) ?_
 refine zzb 11 [(1, .adr 1 0)] [(1, ⟨39, i1.cs⟩)] ?_
 refine zzc ?_
 refine zzs ?_
 refine sq9 ?_
 refine zza 4 (.adr 1 1) ?_
 refine zzh 5 (.v i1.m.v) ty37 zzk ?_
 refine zzf 6 172 [i1.m.v, .slice none 0 0] ?_
 intro w11 u11 e11 d11
 have k14 := k_natCompare d11 (hN.ext e11) (nat_nil _ 1)
 with_reducible refine zPm k14 ?_
 rintro _ u12 g13 rfl
 refine zza 7 (.v (.bool ((Nt.cmpS N 0) == 0))) ?_
 refine zza 3 (.v (.bool ((Nt.cmpS N 0) == 0))) ?_
 refine zzb 11 [(1, .adr 1 0), (3, .v (.bool ((Nt.cmpS N 0) == 0)))] [(1, ⟨39, i1.cs⟩)] ?_
 refine zzt (b := (Nt.cmpS N 0) == 0) (by kernel_rfl) (fun hb15 => ?_) (fun hb15 => ?_)
 ·replace hb15 : ((Nt.cmpS N 0) == 0) = true := hb15
  refine sq9 ?_
  refine zza 2 (.v (.int .i64 0)) ?_
  refine zzb 11 [(2, .v (.int .i64 0))] [] ?_
  refine zzn (zyt (zzv (ret0 [.int .i64 0] ⟨zzp, trivial⟩ fun u16 e17 => ?_)))
  show _ = _
  rw [hzN, Nt.sg_cmp0, if_pos hb15]
  rfl
 ·replace hb15 : ((Nt.cmpS N 0) == 0) = false := hb15
  refine sq9 ?_
  refine zza 9 (.adr 1 0) ?_
  refine zzh 10 (.v (.bool i1.s)) ty4 zzk ?_
  refine zza 8 (.v (.bool i1.s)) ?_
  refine zzb 11 [(8, .v (.bool i1.s))] [] ?_
  refine zzt (b := i1.s) (by kernel_rfl) (fun hb18 => ?_) (fun hb18 => ?_)
  ·replace hb18 : i1.s = true := hb18
   refine sq9 ?_
   refine zza 2 (.v (.int .i64 (-1))) ?_
   refine zzb 11 [(2, .v (.int .i64 (-1)))] [] ?_
   refine zzn (zyt (zzv (ret0 [.int .i64 (-1)] ⟨zzp, trivial⟩ fun u19 e20 => ?_)))
   show _ = _
   rw [hzN, Nt.sg_cmp0, if_neg (ne_true_of_eq_false hb15), if_pos hb18]
   rfl
  ·replace hb18 : i1.s = false := hb18
   refine zzr (zzo ?_)
   refine sq9 ?_
   refine zza 2 (.v (.int .i64 1)) ?_
   refine zzb 11 [(2, .v (.int .i64 1))] [] ?_
   refine zzn (ret0 [.int .i64 1] ⟨zzp, trivial⟩ fun u21 e22 => ?_)
   show _ = _
   rw [hzN, Nt.sg_cmp0, if_neg (ne_true_of_eq_false hb15), if_neg (ne_true_of_eq_false hb18)]
   rfl
namespace Nt
theorem cmp_sg (s t : Bool) (N M : Nat) : cmpS (sg s N) (sg t M) = if decide (cmpS (sg s N) 0 < cmpS (sg t M) 0) = true then -1 else if decide (cmpS (sg t M) 0 < cmpS (sg s N) 0) = true then 1 else if (cmpS (sg s N) 0 == -1) = true then cmpS (M : Int) (N : Int) else cmpS (N : Int) (M : Int) := by
 rcases cmp_range (sg s N) 0 with ⟨e, h⟩ | ⟨e, h⟩ | ⟨e, h⟩ <;> rcases cmp_range (sg t M) 0 with ⟨e', h'⟩ | ⟨e', h'⟩ | ⟨e', h'⟩ <;> rw [e, e'] <;> simp
 ·unfold sg at *; cases s <;> cases t <;> simp at h h' ⊢ <;> unfold cmpS <;> (repeat' split) <;> first | rfl | omega
 ·exact cmp_lt (by omega)
 ·exact cmp_lt (by omega)
 ·exact cmp_gt (by omega)
 ·rw [h, h']; unfold sg at *; cases s <;> cases t <;> simp at h h' <;> rw [h, h'] <;> rfl
 ·exact cmp_lt (by omega)
 ·exact cmp_gt (by omega)
 ·exact cmp_gt (by omega)
 ·unfold sg at *; cases s <;> cases t <;> simp at h h' ⊢ <;> first | rfl | omega
end Nt
theorem k_intCompare {u w : World} {i1 : IL} {zN : Int} {K : Nat} {i2 : IL} {zM : Int} {L : Nat} (d : Dat u w) (hi1 : IntV u i1 zN K) (hi2 : IntV u i2 zM L)  : Calls Tryz.prog 179 #[i1.v, i2.v] w (Post u w fun v u' => v = .int .i64 (Nt.cmpS zN zM)) := by
 obtain ⟨N, hN, hzN⟩ := hi1
 obtain ⟨M, hM, hzM⟩ := hi2
 refine zzl (args := [i1.v, i2.v]) Tryz.func179 rfl Tryz.ntmps179 (rs := [.tmp 4]) Tryz.results179 (le_b rfl) (le_b rfl) d ?_
 refine sq9 ?_
 refine zzj 2 ⟨39, i1.cs⟩ ?_
 refine zzj 3 ⟨39, i2.cs⟩ ?_
 refine zza 4 (.v (.int .i64 0)) ?_
 refine zzb 32 [(2, .adr 2 0), (3, .adr 3 0)] [(2, ⟨39, i1.cs⟩), (3, ⟨39, i2.cs⟩)] ?_
 refine zzc ?_
 refine zzy [0, 1, 0, 7, 15, 31] [(0, []), (2, []), (1, []), (3, []), (4, []), (5, [])] (by kernel_rfl) (by kernel_rfl) ?_
 refine zzh 7 (.v (i1.v)) ty39 zzd ?_
 refine zzh 9 (.v (i2.v)) ty39 zzd ?_
 refine zzf 8 133 [i1.v] ?_
 intro w11 u11 e11 d11
 have k14 := k_intSign d11 (IntV.same (s := i1.s) (hN.ext e11))
 with_reducible refine zPm k14 ?_
 rintro _ u12 g13 rfl
 refine zzf 10 133 [i2.v] ?_
 intro w15 u15 e15 d15
 have k18 := k_intSign d15 (IntV.same (s := i2.s) (hM.ext (e11.trans (g13.ext.trans e15))))
 with_reducible refine zPm k18 ?_
 rintro _ u16 g17 rfl
 refine zza 5 (.v (.int .i64 (Nt.cmpS (Nt.sg i1.s N) 0))) ?_
 refine zza 6 (.v (.int .i64 (Nt.cmpS (Nt.sg i2.s M) 0))) ?_
 refine zzb 32 [(2, .adr 2 0), (3, .adr 3 0), (5, .v (.int .i64 (Nt.cmpS (Nt.sg i1.s N) 0))), (6, .v (.int .i64 (Nt.cmpS (Nt.sg i2.s M) 0)))] [(2, ⟨39, i1.cs⟩), (3, ⟨39, i2.cs⟩)] ?_
 refine zzc ?_
 refine zzs ?_
 refine sq9 ?_
 refine zza 12 (.v (.int .i64 (Nt.cmpS (Nt.sg i1.s N) 0))) ?_
 refine zza 13 (.v (.int .i64 (Nt.cmpS (Nt.sg i2.s M) 0))) ?_
 refine zza 14 (.v (.bool (decide ((Nt.cmpS (Nt.sg i1.s N) 0) < (Nt.cmpS (Nt.sg i2.s M) 0))))) ?_
 refine zza 11 (.v (.bool (decide ((Nt.cmpS (Nt.sg i1.s N) 0) < (Nt.cmpS (Nt.sg i2.s M) 0))))) ?_
 refine zzb 32 [(2, .adr 2 0), (3, .adr 3 0), (5, .v (.int .i64 (Nt.cmpS (Nt.sg i1.s N) 0))), (6, .v (.int .i64 (Nt.cmpS (Nt.sg i2.s M) 0))), (11, .v (.bool (decide ((Nt.cmpS (Nt.sg i1.s N) 0) < (Nt.cmpS (Nt.sg i2.s M) 0)))))] [(2, ⟨39, i1.cs⟩), (3, ⟨39, i2.cs⟩)] ?_
 refine zzt (b := decide ((Nt.cmpS (Nt.sg i1.s N) 0) < (Nt.cmpS (Nt.sg i2.s M) 0))) (by kernel_rfl) (fun hb19 => ?_) (fun hb19 => ?_)
 ·replace hb19 : (decide ((Nt.cmpS (Nt.sg i1.s N) 0) < (Nt.cmpS (Nt.sg i2.s M) 0))) = true := hb19
  have qhb19 := of_decide_eq_true hb19
  refine sq9 ?_
  refine zza 4 (.v (.int .i64 (-1))) ?_
  refine zzb 32 [(4, .v (.int .i64 (-1)))] [] ?_
  refine zzn (zyt (zzv (ret0 [.int .i64 (-1)] ⟨zzp, trivial⟩ fun u20 e21 => ?_)))
  show _ = _
  rw [hzN, hzM, Nt.cmp_sg, if_pos hb19]
  rfl
 ·replace hb19 : (decide ((Nt.cmpS (Nt.sg i1.s N) 0) < (Nt.cmpS (Nt.sg i2.s M) 0))) = false := hb19
  have qhb19 := of_decide_eq_false hb19
  refine sq9 ?_
  refine zza 16 (.v (.int .i64 (Nt.cmpS (Nt.sg i1.s N) 0))) ?_
  refine zza 17 (.v (.int .i64 (Nt.cmpS (Nt.sg i2.s M) 0))) ?_
  refine zza 18 (.v (.bool (decide ((Nt.cmpS (Nt.sg i2.s M) 0) < (Nt.cmpS (Nt.sg i1.s N) 0))))) ?_
  refine zza 15 (.v (.bool (decide ((Nt.cmpS (Nt.sg i2.s M) 0) < (Nt.cmpS (Nt.sg i1.s N) 0))))) ?_
  refine zzb 32 [(2, .adr 2 0), (3, .adr 3 0), (5, .v (.int .i64 (Nt.cmpS (Nt.sg i1.s N) 0))), (15, .v (.bool (decide ((Nt.cmpS (Nt.sg i2.s M) 0) < (Nt.cmpS (Nt.sg i1.s N) 0)))))] [(2, ⟨39, i1.cs⟩), (3, ⟨39, i2.cs⟩)] ?_
  refine zzt (b := decide ((Nt.cmpS (Nt.sg i2.s M) 0) < (Nt.cmpS (Nt.sg i1.s N) 0))) (by kernel_rfl) (fun hb22 => ?_) (fun hb22 => ?_)
  ·replace hb22 : (decide ((Nt.cmpS (Nt.sg i2.s M) 0) < (Nt.cmpS (Nt.sg i1.s N) 0))) = true := hb22
   have qhb22 := of_decide_eq_true hb22
   refine sq9 ?_
   refine zza 4 (.v (.int .i64 1)) ?_
   refine zzb 32 [(4, .v (.int .i64 1))] [] ?_
   refine zzn (zyt (zzv (ret0 [.int .i64 1] ⟨zzp, trivial⟩ fun u23 e24 => ?_)))
   show _ = _
   rw [hzN, hzM, Nt.cmp_sg, if_neg (ne_true_of_eq_false hb19), if_pos hb22]
   rfl
  ·replace hb22 : (decide ((Nt.cmpS (Nt.sg i2.s M) 0) < (Nt.cmpS (Nt.sg i1.s N) 0))) = false := hb22
   have qhb22 := of_decide_eq_false hb22
   refine sq9 ?_
   refine zza 20 (.v (.int .i64 (Nt.cmpS (Nt.sg i1.s N) 0))) ?_
   refine zza 21 (.v (.bool ((Nt.cmpS (Nt.sg i1.s N) 0) == (-1)))) ?_
   refine zza 19 (.v (.bool ((Nt.cmpS (Nt.sg i1.s N) 0) == (-1)))) ?_
   refine zzb 32 [(2, .adr 2 0), (3, .adr 3 0), (19, .v (.bool ((Nt.cmpS (Nt.sg i1.s N) 0) == (-1))))] [(2, ⟨39, i1.cs⟩), (3, ⟨39, i2.cs⟩)] ?_
   refine zzt (b := (Nt.cmpS (Nt.sg i1.s N) 0) == (-1)) (by kernel_rfl) (fun hb25 => ?_) (fun hb25 => ?_)
   ·replace hb25 : ((Nt.cmpS (Nt.sg i1.s N) 0) == (-1)) = true := hb25
    refine sq9 ?_
    refine zza 22 (.adr 3 1) ?_
    refine zzh 23 (.v i2.m.v) ty37 zzk ?_
    refine zza 24 (.adr 2 1) ?_
    refine zzh 25 (.v i1.m.v) ty37 zzk ?_
    refine zzf 26 172 [i2.m.v, i1.m.v] ?_
    intro w26 u26 e26 d26
    have k29 := k_natCompare d26 (hM.ext (e11.trans (g13.ext.trans (e15.trans (g17.ext.trans e26))))) (hN.ext (e11.trans (g13.ext.trans (e15.trans (g17.ext.trans e26)))))
    with_reducible refine zPm k29 ?_
    rintro _ u27 g28 rfl
    refine zza 4 (.v (.int .i64 (Nt.cmpS M N))) ?_
    refine zzb 32 [(4, .v (.int .i64 (Nt.cmpS M N)))] [] ?_
    refine zzn (zyt (zzv (ret0 [.int .i64 (Nt.cmpS M N)] ⟨zzp, trivial⟩ fun u30 e31 => ?_)))
    show _ = _
    rw [hzN, hzM, Nt.cmp_sg, if_neg (ne_true_of_eq_false hb19), if_neg (ne_true_of_eq_false hb22), if_pos hb25]
    rfl
   ·replace hb25 : ((Nt.cmpS (Nt.sg i1.s N) 0) == (-1)) = false := hb25
    refine zzr (zzo ?_)
    refine sq9 ?_
    refine zza 27 (.adr 2 1) ?_
    refine zzh 28 (.v i1.m.v) ty37 zzk ?_
    refine zza 29 (.adr 3 1) ?_
    refine zzh 30 (.v i2.m.v) ty37 zzk ?_
    refine zzf 31 172 [i1.m.v, i2.m.v] ?_
    intro w32 u32 e32 d32
    have k35 := k_natCompare d32 (hN.ext (e11.trans (g13.ext.trans (e15.trans (g17.ext.trans e32))))) (hM.ext (e11.trans (g13.ext.trans (e15.trans (g17.ext.trans e32)))))
    with_reducible refine zPm k35 ?_
    rintro _ u33 g34 rfl
    refine zza 4 (.v (.int .i64 (Nt.cmpS N M))) ?_
    refine zzb 32 [(4, .v (.int .i64 (Nt.cmpS N M)))] [] ?_
    refine zzn (ret0 [.int .i64 (Nt.cmpS N M)] ⟨zzp, trivial⟩ fun u36 e37 => ?_)
    show _ = _
    rw [hzN, hzM, Nt.cmp_sg, if_neg (ne_true_of_eq_false hb19), if_neg (ne_true_of_eq_false hb22), if_neg (ne_true_of_eq_false hb25)]
    rfl
theorem k_intOf {u w : World} {z : Int} (d : Dat u w) (h0 : -9223372036854775808 ≤ z) (h1 : z ≤ 9223372036854775807) : Calls Tryz.prog 142 #[.int .i64 z] w (Post u w fun v u' => ∃ i : IL, v = i.v ∧ IntN u' i z 2) := by
 by_cases hneg : z < 0
 ·refine zzl (args := [.int .i64 z]) Tryz.func142 rfl Tryz.ntmps142 (rs := [.cell 2 39]) Tryz.results142 (le_b rfl) (le_b rfl) d ?_
  refine sq9 ?_
  refine zzj 2 ⟨39, [.bool false, .slice none 0 0]⟩ ?_
  refine zzb 20 [(0, .v (.int .i64 z)), (2, .adr 2 0)] [(2, ⟨39, [.bool false, .slice none 0 0]⟩)] ?_
  refine sq9 ?_
  refine zza 4 (.v (.int .i64 z)) ?_
  refine zyp 5 (x := .v (.int .u64 (IntKind.u64.wrap z))) (.v (.int .u64 (z + 18446744073709551616))) (by rw [show (IntKind.u64.wrap z) = (z + 18446744073709551616) from (by simp [IntKind.wrap, IntKind.bits, IntKind.signed]; omega)]) ?_
  refine zza 3 (.v (.int .u64 (z + 18446744073709551616))) ?_
  refine zzb 20 [(0, .v (.int .i64 z)), (2, .adr 2 0), (3, .v (.int .u64 (z + 18446744073709551616)))] [(2, ⟨39, [.bool false, .slice none 0 0]⟩)] ?_
  refine zzc ?_
  refine sq9 ?_
  refine zza 6 (.v (.int .i64 z)) ?_
  refine zyp 7 (x := .v (.bool (decide (z < 0)))) (.v (.bool true)) (by rw [show (decide (z < 0)) = true from (by simp; omega)]) ?_
  refine zzb 20 [(0, .v (.int .i64 z)), (2, .adr 2 0), (3, .v (.int .u64 (z + 18446744073709551616))), (7, .v (.bool true))] [(2, ⟨39, [.bool false, .slice none 0 0]⟩)] ?_
  refine zyq (by kernel_rfl) ?_
  refine zze ?_
  refine zza 8 (.v (.int .u64 (z + 18446744073709551616))) ?_
  refine zyp 9 (x := .v (.int .u64 (IntKind.u64.wrap (0 - (z + 18446744073709551616))))) (.v (.int .u64 (-z))) (by rw [show (IntKind.u64.wrap (0 - (z + 18446744073709551616))) = (-z) from (by simp [IntKind.wrap, IntKind.bits, IntKind.signed]; omega)]) ?_
  refine zza 3 (.v (.int .u64 (-z))) ?_
  refine zzb 20 [(0, .v (.int .i64 z)), (2, .adr 2 0), (3, .v (.int .u64 (-z)))] [(2, ⟨39, [.bool false, .slice none 0 0]⟩)] ?_
  refine sq9 ?_
  refine zza 10 (.v (.int .i64 z)) ?_
  refine zyp 11 (x := .v (.bool (decide (z < 0)))) (.v (.bool true)) (by rw [show (decide (z < 0)) = true from (by simp; omega)]) ?_
  refine zza 12 (.v (.int .u64 (-z))) ?_
  refine zyp 13 (x := .v (.int .u32 (IntKind.u32.wrap (-z)))) (.v (.int .u32 ((-z) % 4294967296))) (by rw [show (IntKind.u32.wrap (-z)) = ((-z) % 4294967296) from (IntKind.wrap_u32 _)]) ?_
  refine zza 14 (.v (.int .u64 (-z))) ?_
  refine zyp 15 (x := .v (.int .u64 (Int.fdiv (-z) (2 ^ 32)))) (.v (.int .u64 ((-z) / 4294967296))) (by rw [show (Int.fdiv (-z) (2 ^ 32)) = ((-z) / 4294967296) from (by rw [Int.fdiv_eq_ediv_of_nonneg _ (by decide)]; rfl)]) ?_
  refine zyp 16 (x := .v (.int .u32 (IntKind.u32.wrap ((-z) / 4294967296)))) (.v (.int .u32 ((-z) / 4294967296))) (by rw [show (IntKind.u32.wrap ((-z) / 4294967296)) = ((-z) / 4294967296) from (IntWalk.u32_in _ (by omega))]) ?_
  refine sy_data 17 ⟨113, [.int .u32 ((-z) % 4294967296), .int .u32 ((-z) / 4294967296)]⟩ 2 (fun b11 u12 e13 h14 => ?_)
  refine zzf 18 178 [.slice (some ⟨b11, 0, none⟩) 2 2] ?_
  intro w15 u15 e15 d15
  have k20 := k_natTrim d15 ((two_data (N := z.natAbs) h14 (by omega) (by omega) (by omega)).ext e15) (by omega)
  with_reducible refine zPm k20 ?_
  rintro _ u18 g19 ⟨x16, rfl, h17⟩
  refine zzf 19 173 [.bool true, x16.v] ?_
  intro w21 u21 e21 d21
  have k26 := k_signed d21 (s := true) (h17.ext e21)
  with_reducible refine zPm k26 ?_
  rintro _ u24 g25 ⟨i22, rfl, h23⟩
  refine zzi ⟨39, i22.cs⟩ ty39 ?_
  refine zzb 20 [(2, .adr 2 0)] [(2, ⟨39, i22.cs⟩)] ?_
  refine zzn (ret0 [i22.v] ⟨zzq ty39 zzd, trivial⟩ fun u27 e28 => ?_)
  refine ⟨i22, rfl, IntN.more (K := 2) ?_ (by omega)⟩
  have e : z = Nt.sg true z.natAbs := by unfold Nt.sg; simp; omega
  rw [e]
  exact (h23.ext e28)
 ·refine zzl (args := [.int .i64 z]) Tryz.func142 rfl Tryz.ntmps142 (rs := [.cell 2 39]) Tryz.results142 (le_b rfl) (le_b rfl) d ?_
  refine sq9 ?_
  refine zzj 2 ⟨39, [.bool false, .slice none 0 0]⟩ ?_
  refine zzb 20 [(0, .v (.int .i64 z)), (2, .adr 2 0)] [(2, ⟨39, [.bool false, .slice none 0 0]⟩)] ?_
  refine sq9 ?_
  refine zza 4 (.v (.int .i64 z)) ?_
  refine zyp 5 (x := .v (.int .u64 (IntKind.u64.wrap z))) (.v (.int .u64 (z))) (by rw [show (IntKind.u64.wrap z) = z from (by simp [IntKind.wrap, IntKind.bits, IntKind.signed]; omega)]) ?_
  refine zza 3 (.v (.int .u64 z)) ?_
  refine zzb 20 [(0, .v (.int .i64 z)), (2, .adr 2 0), (3, .v (.int .u64 z))] [(2, ⟨39, [.bool false, .slice none 0 0]⟩)] ?_
  refine zzc ?_
  refine sq9 ?_
  refine zza 6 (.v (.int .i64 z)) ?_
  refine zyp 7 (x := .v (.bool (decide (z < 0)))) (.v (.bool false)) (by rw [show (decide (z < 0)) = false from (by simp; omega)]) ?_
  refine zzb 20 [(0, .v (.int .i64 z)), (2, .adr 2 0), (3, .v (.int .u64 z)), (7, .v (.bool false))] [(2, ⟨39, [.bool false, .slice none 0 0]⟩)] ?_
  refine zyr (by kernel_rfl) ?_
  refine zzr (zzo ?_)
  refine sq9 ?_
  refine zza 10 (.v (.int .i64 z)) ?_
  refine zyp 11 (x := .v (.bool (decide (z < 0)))) (.v (.bool false)) (by rw [show (decide (z < 0)) = false from (by simp; omega)]) ?_
  refine zza 12 (.v (.int .u64 z)) ?_
  refine zyp 13 (x := .v (.int .u32 (IntKind.u32.wrap (z)))) (.v (.int .u32 ((z) % 4294967296))) (by rw [show (IntKind.u32.wrap (z)) = ((z) % 4294967296) from (IntKind.wrap_u32 _)]) ?_
  refine zza 14 (.v (.int .u64 z)) ?_
  refine zyp 15 (x := .v (.int .u64 (Int.fdiv (z) (2 ^ 32)))) (.v (.int .u64 ((z) / 4294967296))) (by rw [show (Int.fdiv (z) (2 ^ 32)) = ((z) / 4294967296) from (by rw [Int.fdiv_eq_ediv_of_nonneg _ (by decide)]; rfl)]) ?_
  refine zyp 16 (x := .v (.int .u32 (IntKind.u32.wrap ((z) / 4294967296)))) (.v (.int .u32 ((z) / 4294967296))) (by rw [show (IntKind.u32.wrap ((z) / 4294967296)) = ((z) / 4294967296) from (IntWalk.u32_in _ (by omega))]) ?_
  refine sy_data 17 ⟨113, [.int .u32 ((z) % 4294967296), .int .u32 ((z) / 4294967296)]⟩ 2 (fun b11 u12 e13 h14 => ?_)
  refine zzf 18 178 [.slice (some ⟨b11, 0, none⟩) 2 2] ?_
  intro w15 u15 e15 d15
  have k20 := k_natTrim d15 ((two_data (N := z.natAbs) h14 (by omega) (by omega) (by omega)).ext e15) (by omega)
  with_reducible refine zPm k20 ?_
  rintro _ u18 g19 ⟨x16, rfl, h17⟩
  refine zzf 19 173 [.bool false, x16.v] ?_
  intro w21 u21 e21 d21
  have k26 := k_signed d21 (s := false) (h17.ext e21)
  with_reducible refine zPm k26 ?_
  rintro _ u24 g25 ⟨i22, rfl, h23⟩
  refine zzi ⟨39, i22.cs⟩ ty39 ?_
  refine zzb 20 [(2, .adr 2 0)] [(2, ⟨39, i22.cs⟩)] ?_
  refine zzn (ret0 [i22.v] ⟨zzq ty39 zzd, trivial⟩ fun u27 e28 => ?_)
  refine ⟨i22, rfl, IntN.more (K := 2) ?_ (by omega)⟩
  have e : z = Nt.sg false z.natAbs := by unfold Nt.sg; simp; omega
  rw [e]
  exact (h23.ext e28)
theorem k_natural {u w : World} {x : Sl} (d : Dat u w) : Calls Tryz.prog 135 #[x.v] w (Post u w fun v _ => v = .agg #[.bool false, x.v]) := by
 refine zzl (args := [.slice x.a x.n x.c]) Tryz.func135 rfl Tryz.ntmps135 (rs := [.cell 2 39]) Tryz.results135 (le_b rfl) (le_b rfl) d ?_
 refine sq9 ?_
 refine zzj 2 ⟨39, [.bool false, .slice none 0 0]⟩ ?_
 refine zzb 5 [(0, .v x.v), (2, .adr 2 0)] [(2, ⟨39, [.bool false, .slice none 0 0]⟩)] ?_
 refine sq9 ?_
 refine zza 3 (.v x.v) ?_
 refine zza 4 (.v (.agg #[.bool false, x.v])) ?_
 refine zzi ⟨39, [.bool false, x.v]⟩ ty39 ?_
 refine zzb 5 [(2, .adr 2 0)] [(2, ⟨39, [.bool false, x.v]⟩)] ?_
 refine zzn (ret0 [.agg #[.bool false, .slice x.a x.n x.c]] ⟨zzq ty39 zzd, trivial⟩ fun u11 e12 => ?_)
 exact rfl
theorem k_whole {u w : World} {i : IL} (d : Dat u w) : Calls Tryz.prog 141 #[i.v] w (Post u w fun v u' => ∃ y : Sl, v = .agg #[.bool i.s, i.m.v, y.v] ∧ NatN u' y 1 1) := by
 refine zzl (args := [i.v]) Tryz.func141 rfl Tryz.ntmps141 (rs := [.cell 2 41]) Tryz.results141 (le_b rfl) (le_b rfl) d ?_
 refine sq9 ?_
 refine zzj 1 ⟨39, i.cs⟩ ?_
 refine zzj 2 ⟨41, [.bool false, .slice none 0 0, .slice none 0 0]⟩ ?_
 refine zzb 6 [(1, .adr 1 0), (2, .adr 2 0)] [(1, ⟨39, i.cs⟩), (2, ⟨41, [.bool false, .slice none 0 0, .slice none 0 0]⟩)] ?_
 refine sq9 ?_
 refine zzh 3 (.v (i.v)) ty39 zzd ?_
 refine sy_data 4 ⟨113, [.int .u32 1]⟩ 1 (fun b11 u12 e13 h14 => ?_)
 refine zza 5 (.v (.agg #[.bool i.s, i.m.v, .slice (some ⟨b11, 0, none⟩) 1 1])) ?_
 refine zzi ⟨41, i.cs ++ [.slice (some ⟨b11, 0, none⟩) 1 1]⟩ ty41 ?_
 refine zzb 6 [(2, .adr 2 0)] [(2, ⟨41, i.cs ++ [.slice (some ⟨b11, 0, none⟩) 1 1]⟩)] ?_
 refine zzn (ret0 [.agg #[.bool i.s, .slice i.m.a i.m.n i.m.c, .slice (some ⟨b11, 0, none⟩) 1 1]] ⟨zzq ty41 zzd, trivial⟩ fun u15 e16 => ?_)
 exact ⟨_, rfl, ((one_data h14).ext e16)⟩
theorem k_quotient {u w : World} {i j : IL} (d : Dat u w) : Calls Tryz.prog 136 #[i.v, j.v] w (Post u w fun v _ => v = .agg #[.bool (!(i.s == j.s)), i.m.v, j.m.v]) := by
 refine zzl (args := [i.v, j.v]) Tryz.func136 rfl Tryz.ntmps136 (rs := [.cell 4 164]) Tryz.results136 (le_b rfl) (le_b rfl) d ?_
 refine sq9 ?_
 refine zzj 2 ⟨39, i.cs⟩ ?_
 refine zzj 3 ⟨39, j.cs⟩ ?_
 refine zzj 4 ⟨164, [.bool false, .slice none 0 0, .slice none 0 0]⟩ ?_
 refine zzb 16 [(2, .adr 2 0), (3, .adr 3 0), (4, .adr 4 0)] [(2, ⟨39, i.cs⟩), (3, ⟨39, j.cs⟩), (4, ⟨164, [.bool false, .slice none 0 0, .slice none 0 0]⟩)] ?_
 refine sq9 ?_
 refine zza 5 (.adr 2 0) ?_
 refine zzh 6 (.v (.bool i.s)) ty4 zzk ?_
 refine zza 7 (.adr 3 0) ?_
 refine zzh 8 (.v (.bool j.s)) ty4 zzk ?_
 refine zza 9 (.v (.bool (!(i.s == j.s)))) ?_
 refine zza 10 (.adr 2 1) ?_
 refine zzh 11 (.v i.m.v) ty37 zzk ?_
 refine zza 12 (.v (.agg #[.bool (!(i.s == j.s)), i.m.v])) ?_
 refine zza 13 (.adr 3 1) ?_
 refine zzh 14 (.v j.m.v) ty37 zzk ?_
 refine zza 15 (.v (.agg #[.bool (!(i.s == j.s)), i.m.v, j.m.v])) ?_
 refine zzi ⟨164, [.bool (!(i.s == j.s)), i.m.v, j.m.v]⟩ ty164 ?_
 refine zzb 16 [(4, .adr 4 0)] [(4, ⟨164, [.bool (!(i.s == j.s)), i.m.v, j.m.v]⟩)] ?_
 refine zzn (ret0 [.agg #[.bool (!(i.s == j.s)), .slice i.m.a i.m.n i.m.c, .slice j.m.a j.m.n j.m.c]] ⟨zzq ty164 zzd, trivial⟩ fun u11 e12 => ?_)
 exact rfl
theorem k_flip {u w : World} {r : RL} (d : Dat u w) : Calls Tryz.prog 140 #[r.v] w (Post u w fun v _ => v = .agg #[.bool (!r.s), r.m.v, r.d.v]) := by
 refine zzl (args := [r.v]) Tryz.func140 rfl Tryz.ntmps140 (rs := [.cell 2 41]) Tryz.results140 (le_b rfl) (le_b rfl) d ?_
 refine sq9 ?_
 refine zzj 1 ⟨41, r.cs⟩ ?_
 refine zzj 2 ⟨41, [.bool false, .slice none 0 0, .slice none 0 0]⟩ ?_
 refine zzb 14 [(1, .adr 1 0), (2, .adr 2 0)] [(1, ⟨41, r.cs⟩), (2, ⟨41, [.bool false, .slice none 0 0, .slice none 0 0]⟩)] ?_
 refine sq9 ?_
 refine zza 3 (.adr 1 0) ?_
 refine zza 4 (.adr 1 0) ?_
 refine zzh 5 (.v (.bool r.s)) ty4 zzk ?_
 refine zza 6 (.v (.bool (!r.s))) ?_
 refine zza 7 (.adr 1 0) ?_
 refine zza 8 (.adr 1 1) ?_
 refine zzh 9 (.v r.m.v) ty37 zzk ?_
 refine zza 10 (.v (.agg #[.bool (!r.s), r.m.v])) ?_
 refine zza 11 (.adr 1 2) ?_
 refine zzh 12 (.v r.d.v) ty37 zzk ?_
 refine zza 13 (.v (.agg #[.bool (!r.s), r.m.v, r.d.v])) ?_
 refine zzi ⟨41, [.bool (!r.s), r.m.v, r.d.v]⟩ ty41 ?_
 refine zzb 14 [(2, .adr 2 0)] [(2, ⟨41, [.bool (!r.s), r.m.v, r.d.v]⟩)] ?_
 refine zzn (ret0 [.agg #[.bool (!r.s), .slice r.m.a r.m.n r.m.c, .slice r.d.a r.d.n r.d.c]] ⟨zzq ty41 zzd, trivial⟩ fun u11 e12 => ?_)
 exact rfl
set_option maxHeartbeats 1000000 in
theorem k_read {u w : World} {r : RL} {q : Rat} {K : Nat} (d : Dat u w) (h : RatV u r q K) : Calls Tryz.prog 132 #[r.v] w (Post u w fun v u' => ∃ (r' : RL) (wh : Bool), v = .agg #[.bool r'.s, r'.m.v, r'.d.v, .bool wh] ∧ NumV u' r' wh q K) := by
 obtain ⟨⟨z, D, hi, hd, hq⟩, hK⟩ := h
 change IntV u ⟨r.s, r.m⟩ z K at hi
 change NatV u r.d D K at hd
 by_cases hn : r.d.n = 1
 ·obtain ⟨b, o, ha, hc⟩ := nat_digit hd hn
  by_cases hD : D = 1
  ·refine zzl (args := [r.v]) Tryz.func132 rfl Tryz.ntmps132 (rs := [.cell 2 166]) Tryz.results132 (le_b rfl) (le_b rfl) d ?_
   refine sq9 ?_
   refine zzj 1 ⟨41, r.cs⟩ ?_
   refine zzj 2 ⟨166, [.bool false, .slice none 0 0, .slice none 0 0, .bool false]⟩ ?_
   refine zzb 34 [(1, .adr 1 0), (2, .adr 2 0)] [(1, ⟨41, r.cs⟩), (2, ⟨166, [.bool false, .slice none 0 0, .slice none 0 0, .bool false]⟩)] ?_
   refine zzc ?_
   refine sq9 ?_
   refine zza 3 (.adr 1 2) ?_
   refine zzh 4 (.v r.d.v) ty37 zzk ?_
   refine zza 5 (.v (.int .i64 (r.d.n : Int))) ?_
   refine zyp 6 (x := .v (.bool ((r.d.n : Int) == 1))) (.v (.bool true)) (by rw [show ((r.d.n : Int) == 1) = true from (by simp [hn])]) ?_
   refine zza 7 (.v (.bool true)) ?_
   refine zza 8 (.adr 1 2) ?_ (hw := w1 4 true 7)
   refine zzh 9 (.v r.d.v) ty37 zzk ?_ (hw := w1 4 true 7)
   refine zzz 10 o (i := 0) (n := r.d.n) (by simp) ha (by omega) (by rw [hn]; decide) sl37 ?_ (hw := w1 4 true 7)
   refine zyk 11 (.int .u32 (D : Int)) ((Ext.refl _).cell hc) ty113 ?_ (hw := w1 4 true 7)
   refine zyp 12 (x := .v (.bool ((D : Int) == 1))) (.v (.bool true)) (by rw [show ((D : Int) == 1) = true from (by simp [hD])]) ?_ (hw := w1 4 true 7)
   refine zza 13 (.v (.bool true)) ?_
   refine zzb 34 [(1, .adr 1 0), (2, .adr 2 0), (13, .v (.bool true))] [(1, ⟨41, r.cs⟩), (2, ⟨166, [.bool false, .slice none 0 0, .slice none 0 0, .bool false]⟩)] ?_
   refine zyq (by kernel_rfl) ?_
   refine sq9 ?_
   refine zza 14 (.adr 1 0) ?_
   refine zzh 15 (.v (.agg #[.bool r.s, r.m.v])) ty39 zzd ?_
   refine zza 16 (.adr 1 2) ?_
   refine zzh 17 (.v r.d.v) ty37 zzk ?_
   refine zza 18 (.v (r.v)) ?_
   refine zza 19 (.v (.agg #[.bool r.s, r.m.v, r.d.v, .bool true])) ?_
   refine zzi ⟨166, r.cs ++ [.bool true]⟩ ty166 ?_
   refine zzb 34 [(2, .adr 2 0)] [(2, ⟨166, r.cs ++ [.bool true]⟩)] ?_
   refine zzn (zzv (ret0 [.agg #[.bool r.s, .slice r.m.a r.m.n r.m.c, .slice r.d.a r.d.n r.d.c, .bool true]] ⟨zzq ty166 zzd, trivial⟩ fun u11 e12 => ?_))
   exact ⟨r, true, rfl, z, D, hi.ext e12, hd.ext e12, by omega, hq, fun _ => hD, hK⟩
  ·refine zzl (args := [r.v]) Tryz.func132 rfl Tryz.ntmps132 (rs := [.cell 2 166]) Tryz.results132 (le_b rfl) (le_b rfl) d ?_
   refine sq9 ?_
   refine zzj 1 ⟨41, r.cs⟩ ?_
   refine zzj 2 ⟨166, [.bool false, .slice none 0 0, .slice none 0 0, .bool false]⟩ ?_
   refine zzb 34 [(1, .adr 1 0), (2, .adr 2 0)] [(1, ⟨41, r.cs⟩), (2, ⟨166, [.bool false, .slice none 0 0, .slice none 0 0, .bool false]⟩)] ?_
   refine zzc ?_
   refine sq9 ?_
   refine zza 3 (.adr 1 2) ?_
   refine zzh 4 (.v r.d.v) ty37 zzk ?_
   refine zza 5 (.v (.int .i64 (r.d.n : Int))) ?_
   refine zyp 6 (x := .v (.bool ((r.d.n : Int) == 1))) (.v (.bool true)) (by rw [show ((r.d.n : Int) == 1) = true from (by simp [hn])]) ?_
   refine zza 7 (.v (.bool true)) ?_
   refine zza 8 (.adr 1 2) ?_ (hw := w1 4 true 7)
   refine zzh 9 (.v r.d.v) ty37 zzk ?_ (hw := w1 4 true 7)
   refine zzz 10 o (i := 0) (n := r.d.n) (by simp) ha (by omega) (by rw [hn]; decide) sl37 ?_ (hw := w1 4 true 7)
   refine zyk 11 (.int .u32 (D : Int)) ((Ext.refl _).cell hc) ty113 ?_ (hw := w1 4 true 7)
   refine zyp 12 (x := .v (.bool ((D : Int) == 1))) (.v (.bool false)) (by rw [show ((D : Int) == 1) = false from (by simp; omega)]) ?_ (hw := w1 4 true 7)
   refine zza 13 (.v (.bool false)) ?_
   refine zzb 34 [(1, .adr 1 0), (2, .adr 2 0), (13, .v (.bool false))] [(1, ⟨41, r.cs⟩), (2, ⟨166, [.bool false, .slice none 0 0, .slice none 0 0, .bool false]⟩)] ?_
   refine zyr (by kernel_rfl) ?_
   refine zzr (zzo ?_)
   refine zzc ?_
   refine sq9 ?_
   refine zza 20 (.adr 1 2) ?_
   refine zzh 21 (.v r.d.v) ty37 zzk ?_
   refine zzf 22 172 [r.d.v, .slice none 0 0] ?_
   intro w11 u11 e11 d11
   have k14 := k_natCompare d11 (hd.ext e11) (nat_nil _ 1)
   with_reducible refine zPm k14 ?_
   rintro _ u12 g13 rfl
   refine zza 23 (.v (.bool ((Nt.cmpS D 0) == 0))) ?_
   refine zzb 34 [(1, .adr 1 0), (2, .adr 2 0), (23, .v (.bool ((Nt.cmpS D 0) == 0)))] [(1, ⟨41, r.cs⟩), (2, ⟨166, [.bool false, .slice none 0 0, .slice none 0 0, .bool false]⟩)] ?_
   refine zzt (b := (Nt.cmpS D 0) == 0) (by kernel_rfl) (fun hb15 => ?_) (fun hb15 => ?_)
   ·replace hb15 : ((Nt.cmpS D 0) == 0) = true := hb15
    refine sq9 ?_
    refine zza 24 (.v (.agg #[.bool false, .slice none 0 0])) ?_
    refine sy_data 25 ⟨113, [.int .u32 1]⟩ 1 (fun b16 u17 e18 h19 => ?_)
    refine zza 26 (.v (.agg #[.bool false, .slice none 0 0, .slice (some ⟨b16, 0, none⟩) 1 1])) ?_
    refine zza 27 (.v (.agg #[.bool false, .slice none 0 0, .slice (some ⟨b16, 0, none⟩) 1 1, .bool true])) ?_
    refine zzi ⟨166, [.bool false, .slice none 0 0, .slice (some ⟨b16, 0, none⟩) 1 1, .bool true]⟩ ty166 ?_
    refine zzb 34 [(2, .adr 2 0)] [(2, ⟨166, [.bool false, .slice none 0 0, .slice (some ⟨b16, 0, none⟩) 1 1, .bool true]⟩)] ?_
    refine zzn (zzv (ret0 [.agg #[.bool false, .slice none 0 0, .slice (some ⟨b16, 0, none⟩) 1 1, .bool true]] ⟨zzq ty166 zzd, trivial⟩ fun u20 e21 => ?_))
    have hD0 : D = 0 := (Nt.cmp_nat0 hb15).1 rfl
    refine ⟨⟨false, ⟨none, 0, 0⟩, (⟨some ⟨b16, 0, none⟩, 1, 1⟩ : Sl)⟩, true, rfl, 0, 1, (⟨0, nat_nil _ K, rfl⟩ : IntV _ ⟨false, ⟨none, 0, 0⟩⟩ 0 K), ((one_data h19).ext e21).raw.more hK, by omega, ?_, fun _ => rfl, hK⟩
    rw [hq, hD0]; simp
   ·replace hb15 : ((Nt.cmpS D 0) == 0) = false := hb15
    refine zzr (zzo ?_)
    refine sq9 ?_
    refine zza 28 (.adr 1 0) ?_
    refine zzh 29 (.v (.agg #[.bool r.s, r.m.v])) ty39 zzd ?_
    refine zza 30 (.adr 1 2) ?_
    refine zzh 31 (.v r.d.v) ty37 zzk ?_
    refine zza 32 (.v (r.v)) ?_
    refine zza 33 (.v (.agg #[.bool r.s, r.m.v, r.d.v, .bool false])) ?_
    refine zzi ⟨166, r.cs ++ [.bool false]⟩ ty166 ?_
    refine zzb 34 [(2, .adr 2 0)] [(2, ⟨166, r.cs ++ [.bool false]⟩)] ?_
    refine zzn (ret0 [.agg #[.bool r.s, .slice r.m.a r.m.n r.m.c, .slice r.d.a r.d.n r.d.c, .bool false]] ⟨zzq ty166 zzd, trivial⟩ fun u22 e23 => ?_)
    have hD0 : 0 < D := (Nt.cmp_nat0 hb15).2 rfl
    exact ⟨r, false, rfl, z, D, hi.ext (e11.trans (g13.ext.trans e23)), hd.ext (e11.trans (g13.ext.trans e23)), hD0, hq, (fun k => by cases k), hK⟩
 ·refine zzl (args := [r.v]) Tryz.func132 rfl Tryz.ntmps132 (rs := [.cell 2 166]) Tryz.results132 (le_b rfl) (le_b rfl) d ?_
  refine sq9 ?_
  refine zzj 1 ⟨41, r.cs⟩ ?_
  refine zzj 2 ⟨166, [.bool false, .slice none 0 0, .slice none 0 0, .bool false]⟩ ?_
  refine zzb 34 [(1, .adr 1 0), (2, .adr 2 0)] [(1, ⟨41, r.cs⟩), (2, ⟨166, [.bool false, .slice none 0 0, .slice none 0 0, .bool false]⟩)] ?_
  refine zzc ?_
  refine sq9 ?_
  refine zza 3 (.adr 1 2) ?_
  refine zzh 4 (.v r.d.v) ty37 zzk ?_
  refine zza 5 (.v (.int .i64 (r.d.n : Int))) ?_
  refine zyp 6 (x := .v (.bool ((r.d.n : Int) == 1))) (.v (.bool false)) (by rw [show ((r.d.n : Int) == 1) = false from (by simp; omega)]) ?_
  refine zza 7 (.v (.bool false)) ?_
  refine zzm 8 (uw 4 true false 7) ?_
  refine zzm 9 (uw 4 true false 7) ?_
  refine zzm 10 (uw 4 true false 7) ?_
  refine zzm 11 (uw 4 true false 7) ?_
  refine zzm 12 (uw 4 true false 7) ?_
  refine zza 13 (.v (.bool false)) ?_
  refine zzb 34 [(1, .adr 1 0), (2, .adr 2 0), (13, .v (.bool false))] [(1, ⟨41, r.cs⟩), (2, ⟨166, [.bool false, .slice none 0 0, .slice none 0 0, .bool false]⟩)] ?_
  refine zyr (by kernel_rfl) ?_
  refine zzr (zzo ?_)
  refine zzc ?_
  refine sq9 ?_
  refine zza 20 (.adr 1 2) ?_
  refine zzh 21 (.v r.d.v) ty37 zzk ?_
  refine zzf 22 172 [r.d.v, .slice none 0 0] ?_
  intro w11 u11 e11 d11
  have k14 := k_natCompare d11 (hd.ext e11) (nat_nil _ 1)
  with_reducible refine zPm k14 ?_
  rintro _ u12 g13 rfl
  refine zza 23 (.v (.bool ((Nt.cmpS D 0) == 0))) ?_
  refine zzb 34 [(1, .adr 1 0), (2, .adr 2 0), (23, .v (.bool ((Nt.cmpS D 0) == 0)))] [(1, ⟨41, r.cs⟩), (2, ⟨166, [.bool false, .slice none 0 0, .slice none 0 0, .bool false]⟩)] ?_
  refine zzt (b := (Nt.cmpS D 0) == 0) (by kernel_rfl) (fun hb15 => ?_) (fun hb15 => ?_)
  ·replace hb15 : ((Nt.cmpS D 0) == 0) = true := hb15
   refine sq9 ?_
   refine zza 24 (.v (.agg #[.bool false, .slice none 0 0])) ?_
   refine sy_data 25 ⟨113, [.int .u32 1]⟩ 1 (fun b16 u17 e18 h19 => ?_)
   refine zza 26 (.v (.agg #[.bool false, .slice none 0 0, .slice (some ⟨b16, 0, none⟩) 1 1])) ?_
   refine zza 27 (.v (.agg #[.bool false, .slice none 0 0, .slice (some ⟨b16, 0, none⟩) 1 1, .bool true])) ?_
   refine zzi ⟨166, [.bool false, .slice none 0 0, .slice (some ⟨b16, 0, none⟩) 1 1, .bool true]⟩ ty166 ?_
   refine zzb 34 [(2, .adr 2 0)] [(2, ⟨166, [.bool false, .slice none 0 0, .slice (some ⟨b16, 0, none⟩) 1 1, .bool true]⟩)] ?_
   refine zzn (zzv (ret0 [.agg #[.bool false, .slice none 0 0, .slice (some ⟨b16, 0, none⟩) 1 1, .bool true]] ⟨zzq ty166 zzd, trivial⟩ fun u20 e21 => ?_))
   have hD0 : D = 0 := (Nt.cmp_nat0 hb15).1 rfl
   refine ⟨⟨false, ⟨none, 0, 0⟩, (⟨some ⟨b16, 0, none⟩, 1, 1⟩ : Sl)⟩, true, rfl, 0, 1, (⟨0, nat_nil _ K, rfl⟩ : IntV _ ⟨false, ⟨none, 0, 0⟩⟩ 0 K), ((one_data h19).ext e21).raw.more hK, by omega, ?_, fun _ => rfl, hK⟩
   rw [hq, hD0]; simp
  ·replace hb15 : ((Nt.cmpS D 0) == 0) = false := hb15
   refine zzr (zzo ?_)
   refine sq9 ?_
   refine zza 28 (.adr 1 0) ?_
   refine zzh 29 (.v (.agg #[.bool r.s, r.m.v])) ty39 zzd ?_
   refine zza 30 (.adr 1 2) ?_
   refine zzh 31 (.v r.d.v) ty37 zzk ?_
   refine zza 32 (.v (r.v)) ?_
   refine zza 33 (.v (.agg #[.bool r.s, r.m.v, r.d.v, .bool false])) ?_
   refine zzi ⟨166, r.cs ++ [.bool false]⟩ ty166 ?_
   refine zzb 34 [(2, .adr 2 0)] [(2, ⟨166, r.cs ++ [.bool false]⟩)] ?_
   refine zzn (ret0 [.agg #[.bool r.s, .slice r.m.a r.m.n r.m.c, .slice r.d.a r.d.n r.d.c, .bool false]] ⟨zzq ty166 zzd, trivial⟩ fun u22 e23 => ?_)
   have hD0 : 0 < D := (Nt.cmp_nat0 hb15).2 rfl
   exact ⟨r, false, rfl, z, D, hi.ext (e11.trans (g13.ext.trans e23)), hd.ext (e11.trans (g13.ext.trans e23)), hD0, hq, (fun k => by cases k), hK⟩
theorem k_isOne {u w : World} {x : Sl} {N K : Nat} (d : Dat u w) (h : NatN u x N K) : Calls Tryz.prog 177 #[x.v] w (Post u w fun v _ => v = .bool (decide (N = 1))) := by
 by_cases hn : x.n = 1
 ·obtain ⟨b, o, ha, hc⟩ := nat_digit h.raw hn
  refine zzl (args := [.slice x.a x.n x.c]) Tryz.func177 rfl Tryz.ntmps177 (rs := [.tmp 2]) Tryz.results177 (le_b rfl) (le_b rfl) d ?_
  refine sq9 ?_
  refine zza 2 (.v (.bool false)) ?_
  refine zzb 12 [(0, .v x.v)] [] ?_
  refine sq9 ?_
  refine zza 3 (.v x.v) ?_
  refine zza 4 (.v (.int .i64 (x.n : Int))) ?_
  refine zyp 5 (x := .v (.bool ((x.n : Int) == 1))) (.v (.bool true)) (by rw [show ((x.n : Int) == 1) = true from (by simp [hn])]) ?_
  refine zza 6 (.v (.bool true)) ?_
  refine zza 7 (.v x.v) ?_ (hw := w1 3 true 6)
  refine zzz 8 o (i := 0) (n := x.n) (by simp) ha (by omega) (by rw [hn]; decide) sl37 ?_ (hw := w1 3 true 6)
  refine zyk 9 (.int .u32 (N : Int)) ((Ext.refl _).cell hc) ty113 ?_ (hw := w1 3 true 6)
  refine zza 10 (.v (.bool ((N : Int) == 1))) ?_ (hw := w1 3 true 6)
  refine zza 11 (.v (.bool ((N : Int) == 1))) ?_
  refine zza 2 (.v (.bool ((N : Int) == 1))) ?_
  refine zzb 12 [(2, .v (.bool ((N : Int) == 1)))] [] ?_
  refine zzn (ret0 [.bool ((N : Int) == 1)] ⟨zzp, trivial⟩ fun u11 e12 => ?_)
  show Value.bool _ = Value.bool _
  congr 1
  rw [Bool.eq_iff_iff]
  simp <;> omega
 ·have hN : N ≠ 1 := fun e => hn (by rw [h.1, e, Nt.dl_one])
  refine zzl (args := [.slice x.a x.n x.c]) Tryz.func177 rfl Tryz.ntmps177 (rs := [.tmp 2]) Tryz.results177 (le_b rfl) (le_b rfl) d ?_
  refine sq9 ?_
  refine zza 2 (.v (.bool false)) ?_
  refine zzb 12 [(0, .v x.v)] [] ?_
  refine sq9 ?_
  refine zza 3 (.v x.v) ?_
  refine zza 4 (.v (.int .i64 (x.n : Int))) ?_
  refine zyp 5 (x := .v (.bool ((x.n : Int) == 1))) (.v (.bool false)) (by rw [show ((x.n : Int) == 1) = false from (by simp; omega)]) ?_
  refine zza 6 (.v (.bool false)) ?_
  refine zzm 7 (uw 3 true false 6) ?_
  refine zzm 8 (uw 3 true false 6) ?_
  refine zzm 9 (uw 3 true false 6) ?_
  refine zzm 10 (uw 3 true false 6) ?_
  refine zza 11 (.v (.bool false)) ?_
  refine zza 2 (.v (.bool false)) ?_
  refine zzb 12 [(2, .v (.bool false))] [] ?_
  refine zzn (ret0 [.bool false] ⟨zzp, trivial⟩ fun u11 e12 => ?_)
  show _ = _
  simp [tupV]
  exact hN
set_option maxHeartbeats 1000000 in
theorem k_lowest {u w : World} {i : IL} {z : Int} {y : Sl} {D K L : Nat} (d : Dat u w) (h1 : IntV u i z K) (hD : NatV u y D L) (hp : 0 < D) (hK : K ≤ 500000000) (hL : L ≤ 500000000) : Calls Tryz.prog 137 #[.agg #[.bool i.s, i.m.v, y.v]] w (Post u w fun v u' => ∃ r : RL, v = r.v ∧ RatN u' r (mkRat z D) (max K L)) := by
 obtain ⟨N, hN, hz⟩ := h1
 have hL1 : 1 ≤ L := by have h2 := hD.size; have h3 := Nt.dl_mono (x := D) (y := 1) (by omega); rw [Nt.dl_one] at h3; omega
 refine zzl (args := [.agg #[.bool i.s, .slice i.m.a i.m.n i.m.c, .slice y.a y.n y.c]]) Tryz.func137 rfl Tryz.ntmps137 (rs := [.cell 2 41]) Tryz.results137 (le_b rfl) (le_b rfl) d ?_
 refine sq9 ?_
 refine zzj 1 ⟨164, i.cs ++ [y.v]⟩ ?_
 refine zzj 2 ⟨41, [.bool false, .slice none 0 0, .slice none 0 0]⟩ ?_
 refine zzb 70 [(1, .adr 1 0), (2, .adr 2 0)] [(1, ⟨164, i.cs ++ [y.v]⟩), (2, ⟨41, [.bool false, .slice none 0 0, .slice none 0 0]⟩)] ?_
 refine sq9 ?_
 refine zza 14 (.adr 1 0) ?_
 refine zza 15 (.adr 1 1) ?_
 refine zzh 16 (.v i.m.v) ty37 zzk ?_
 refine zza 17 (.adr 1 2) ?_
 refine zzh 18 (.v y.v) ty37 zzk ?_
 refine zzf 19 174 [i.m.v, y.v] ?_
 intro w11 u11 e11 d11
 have k18 := k_natDivMod d11 (hN.ext e11) (hD.ext e11) hp (by omega) (by omega)
 with_reducible refine zPm k18 ?_
 rintro _ u16 g17 ⟨x12, x13, rfl, h14, h15⟩
 refine zza 13 (.v (.tuple #[x12.v, x13.v, .int .i64 0])) ?_
 refine zza 20 (.v x12.v) ?_
 refine zza 21 (.v x13.v) ?_
 refine zza 22 (.v (.int .i64 0)) ?_
 refine zza 3 (.v x12.v) ?_
 refine zza 4 (.v x13.v) ?_
 refine zza 5 (.v (.int .i64 0)) ?_
 refine zzb 70 [(1, .adr 1 0), (2, .adr 2 0), (3, .v x12.v), (4, .v x13.v)] [(1, ⟨164, i.cs ++ [y.v]⟩), (2, ⟨41, [.bool false, .slice none 0 0, .slice none 0 0]⟩)] ?_
 refine zzc ?_
 refine sq9 ?_
 refine zza 23 (.v x13.v) ?_
 refine zza 24 (.v (.int .i64 (x13.n : Int))) ?_
 refine zza 25 (.v (.bool ((x13.n : Int) == 0))) ?_
 refine zzb 70 [(1, .adr 1 0), (2, .adr 2 0), (3, .v x12.v), (4, .v x13.v), (25, .v (.bool ((x13.n : Int) == 0)))] [(1, ⟨164, i.cs ++ [y.v]⟩), (2, ⟨41, [.bool false, .slice none 0 0, .slice none 0 0]⟩)] ?_
 refine zzt (b := (x13.n : Int) == 0) (by kernel_rfl) (fun hb19 => ?_) (fun hb19 => ?_)
 ·replace hb19 : ((x13.n : Int) == 0) = true := hb19
  have qhb19 : (x13.n : Int) = 0 := by simpa using hb19
  have hr : N % D = 0 := by have h7 := (h15).pos; simp at hb19; omega
  refine sq9 ?_
  refine zza 26 (.adr 1 0) ?_
  refine zza 27 (.adr 1 0) ?_
  refine zzh 28 (.v (.bool i.s)) ty4 zzk ?_
  refine zza 29 (.v x12.v) ?_
  refine zza 30 (.v (.agg #[.bool i.s, x12.v])) ?_
  refine zzf 31 175 [.agg #[.bool i.s, x12.v]] ?_
  intro w20 u20 e20 d20
  have k25 := k_intTrim d20 (IntV.same (s := i.s) (h14.ext e20).raw) (by omega)
  with_reducible refine zPm k25 ?_
  rintro _ u23 g24 ⟨i21, rfl, h22⟩
  refine zzf 32 141 [i21.v] ?_
  intro w26 u26 e26 d26
  have k31 := k_whole (i := i21) d26
  with_reducible refine zPm k31 ?_
  rintro _ u29 g30 ⟨y27, rfl, h28⟩
  refine zzi ⟨41, i21.cs ++ [y27.v]⟩ ty41 ?_
  refine zzb 70 [(2, .adr 2 0)] [(2, ⟨41, i21.cs ++ [y27.v]⟩)] ?_
  refine zzn (zzv (ret0 [.agg #[.bool i21.s, .slice i21.m.a i21.m.n i21.m.c, .slice y27.a y27.n y27.c]] ⟨zzq ty41 zzd, trivial⟩ fun u32 e33 => ?_))
  refine ⟨(⟨i21.s, i21.m, y27⟩ : RL), rfl, RatN.more (K := (max K 1)) ?_ (by omega)⟩
  rw [hz, ← low1 hp hr]
  exact ((whole_rat (h22.ext (e26.trans g30.ext)) h28).ext e33)
 ·replace hb19 : ((x13.n : Int) == 0) = false := hb19
  have qhb19 : ¬ ((x13.n : Int) = 0) := by simpa using hb19
  have hr : N % D ≠ 0 := by have h7 := (h15).pos; simp at hb19; omega
  refine zzr (zzo ?_)
  refine sq9 ?_
  refine zza 33 (.adr 1 2) ?_
  refine zzh 34 (.v y.v) ty37 zzk ?_
  refine zza 35 (.v x13.v) ?_
  refine zzf 36 176 [y.v, x13.v] ?_
  intro w34 u34 e34 d34
  have k39 := k_natGcd d34 (hD.ext (e11.trans (g17.ext.trans e34))) (h15.ext e34).raw (by omega) (by omega)
  with_reducible refine zPm k39 ?_
  rintro _ u37 g38 ⟨x35, rfl, h36⟩
  refine zza 6 (.v x35.v) ?_
  refine zzb 70 [(1, .adr 1 0), (2, .adr 2 0), (6, .v x35.v)] [(1, ⟨164, i.cs ++ [y.v]⟩), (2, ⟨41, [.bool false, .slice none 0 0, .slice none 0 0]⟩)] ?_
  refine zzc ?_
  refine sq9 ?_
  refine zza 37 (.v x35.v) ?_
  refine zzf 38 177 [x35.v] ?_
  intro w40 u40 e40 d40
  have k43 := k_isOne d40 (h36.ext e40)
  with_reducible refine zPm k43 ?_
  rintro _ u41 g42 rfl
  refine zzb 70 [(1, .adr 1 0), (2, .adr 2 0), (6, .v x35.v), (38, .v (.bool (decide ((Nat.gcd D (N % D)) = 1))))] [(1, ⟨164, i.cs ++ [y.v]⟩), (2, ⟨41, [.bool false, .slice none 0 0, .slice none 0 0]⟩)] ?_
  refine zzt (b := decide ((Nat.gcd D (N % D)) = 1)) (by kernel_rfl) (fun hb44 => ?_) (fun hb44 => ?_)
  ·replace hb44 : (decide ((Nat.gcd D (N % D)) = 1)) = true := hb44
   have qhb44 := of_decide_eq_true hb44
   have hg : Nat.gcd D (N % D) = 1 := by simpa using hb44
   have hgp : 0 < Nat.gcd D (N % D) := Nat.gcd_pos_of_pos_left _ hp
   refine zzc ?_
   refine zzy [0, 1, 3, 0, 8, 31, 63, 127] [(0, []), (1, []), (3, []), (4, []), (2, []), (5, []), (6, []), (7, [])] (by kernel_rfl) (by kernel_rfl) ?_
   refine zza 39 (.adr 1 0) ?_
   refine zzh 40 (.v (i.v)) ty39 zzd ?_
   refine zza 42 (.adr 1 2) ?_
   refine zzh 43 (.v y.v) ty37 zzk ?_
   refine zzf 41 175 [i.v] ?_
   intro w45 u45 e45 d45
   have k50 := k_intTrim d45 (IntV.same (s := i.s) (hN.ext (e11.trans (g17.ext.trans (e34.trans (g38.ext.trans (e40.trans (g42.ext.trans e45)))))))) (by omega)
   with_reducible refine zPm k50 ?_
   rintro _ u48 g49 ⟨i46, rfl, h47⟩
   refine zzf 44 178 [y.v] ?_
   intro w51 u51 e51 d51
   have k56 := k_natTrim d51 (hD.ext (e11.trans (g17.ext.trans (e34.trans (g38.ext.trans (e40.trans (g42.ext.trans (e45.trans (g49.ext.trans e51))))))))) (by omega)
   with_reducible refine zPm k56 ?_
   rintro _ u54 g55 ⟨x52, rfl, h53⟩
   refine zza 45 (.v (.agg #[.bool i46.s, i46.m.v, x52.v])) ?_
   refine zzi ⟨41, i46.cs ++ [x52.v]⟩ ty41 ?_
   refine zzb 70 [(2, .adr 2 0)] [(2, ⟨41, i46.cs ++ [x52.v]⟩)] ?_
   refine zzn (zzv (ret0 [.agg #[.bool i46.s, .slice i46.m.a i46.m.n i46.m.c, .slice x52.a x52.n x52.c]] ⟨zzq ty41 zzd, trivial⟩ fun u57 e58 => ?_))
   refine ⟨(⟨i46.s, i46.m, x52⟩ : RL), rfl, ?_⟩
   rw [hz]
   exact low2 hp hg (h47.ext (e51.trans (g55.ext.trans e58))) (h53.ext e58)
  ·replace hb44 : (decide ((Nat.gcd D (N % D)) = 1)) = false := hb44
   have qhb44 := of_decide_eq_false hb44
   have hg : ¬ Nat.gcd D (N % D) = 1 := by simpa using hb44
   have hgp : 0 < Nat.gcd D (N % D) := Nat.gcd_pos_of_pos_left _ hp
   refine zzr (zzo ?_)
   refine sq9 ?_
   refine zza 47 (.adr 1 0) ?_
   refine zza 48 (.adr 1 1) ?_
   refine zzh 49 (.v i.m.v) ty37 zzk ?_
   refine zza 50 (.v x35.v) ?_
   refine zzf 51 174 [i.m.v, x35.v] ?_
   intro w59 u59 e59 d59
   have k66 := k_natDivMod d59 (hN.ext (e11.trans (g17.ext.trans (e34.trans (g38.ext.trans (e40.trans (g42.ext.trans e59))))))) (h36.ext (e40.trans (g42.ext.trans e59))).raw hgp (by omega) (by omega)
   with_reducible refine zPm k66 ?_
   rintro _ u64 g65 ⟨x60, x61, rfl, h62, h63⟩
   refine zza 46 (.v (.tuple #[x60.v, x61.v, .int .i64 0])) ?_
   refine zza 52 (.v x60.v) ?_
   refine zza 53 (.v x61.v) ?_
   refine zza 54 (.v (.int .i64 0)) ?_
   refine zza 7 (.v x60.v) ?_
   refine zza 8 (.v x61.v) ?_
   refine zza 9 (.v (.int .i64 0)) ?_
   refine zzb 70 [(1, .adr 1 0), (2, .adr 2 0), (6, .v x35.v), (7, .v x60.v)] [(1, ⟨164, i.cs ++ [y.v]⟩), (2, ⟨41, [.bool false, .slice none 0 0, .slice none 0 0]⟩)] ?_
   refine sq9 ?_
   refine zza 56 (.adr 1 2) ?_
   refine zzh 57 (.v y.v) ty37 zzk ?_
   refine zza 58 (.v x35.v) ?_
   refine zzf 59 174 [y.v, x35.v] ?_
   intro w67 u67 e67 d67
   have k74 := k_natDivMod d67 (hD.ext (e11.trans (g17.ext.trans (e34.trans (g38.ext.trans (e40.trans (g42.ext.trans (e59.trans (g65.ext.trans e67))))))))) (h36.ext (e40.trans (g42.ext.trans (e59.trans (g65.ext.trans e67))))).raw hgp (by omega) (by omega)
   with_reducible refine zPm k74 ?_
   rintro _ u72 g73 ⟨x68, x69, rfl, h70, h71⟩
   refine zza 55 (.v (.tuple #[x68.v, x69.v, .int .i64 0])) ?_
   refine zza 60 (.v x68.v) ?_
   refine zza 61 (.v x69.v) ?_
   refine zza 62 (.v (.int .i64 0)) ?_
   refine zza 10 (.v x68.v) ?_
   refine zza 11 (.v x69.v) ?_
   refine zza 12 (.v (.int .i64 0)) ?_
   refine zzb 70 [(1, .adr 1 0), (2, .adr 2 0), (7, .v x60.v), (10, .v x68.v)] [(1, ⟨164, i.cs ++ [y.v]⟩), (2, ⟨41, [.bool false, .slice none 0 0, .slice none 0 0]⟩)] ?_
   refine sq9 ?_
   refine zza 63 (.adr 1 0) ?_
   refine zza 64 (.adr 1 0) ?_
   refine zzh 65 (.v (.bool i.s)) ty4 zzk ?_
   refine zza 66 (.v x60.v) ?_
   refine zza 67 (.v (.agg #[.bool i.s, x60.v])) ?_
   refine zza 68 (.v x68.v) ?_
   refine zza 69 (.v (.agg #[.bool i.s, x60.v, x68.v])) ?_
   refine zzi ⟨41, [.bool i.s, x60.v, x68.v]⟩ ty41 ?_
   refine zzb 70 [(2, .adr 2 0)] [(2, ⟨41, [.bool i.s, x60.v, x68.v]⟩)] ?_
   refine zzn (ret0 [.agg #[.bool i.s, .slice x60.a x60.n x60.c, .slice x68.a x68.n x68.c]] ⟨zzq ty41 zzd, trivial⟩ fun u75 e76 => ?_)
   refine ⟨(⟨i.s, x60, x68⟩ : RL), rfl, RatN.more (K := max K L) ?_ (by omega)⟩
   rw [hz]
   exact low3 hp hr (h62.ext (e67.trans (g73.ext.trans e76))) (h70.ext e76)
theorem k_ratTrim {u w : World} {r1 : RL} {x : Rat} {K : Nat} (d : Dat u w) (hr1 : RatV u r1 x K) (hK : K ≤ 200000000) : Calls Tryz.prog 58 #[r1.v] w (Post u w fun v u' => ∃ r : RL, v = r.v ∧ RatN u' r x K) := by
 refine zzl (args := [r1.v]) Tryz.func58 rfl Tryz.ntmps58 (rs := [.cell 2 41]) Tryz.results58 (le_b rfl) (le_b rfl) d ?_
 refine sq9 ?_
 refine zzj 1 ⟨41, r1.cs⟩ ?_
 refine zzj 2 ⟨41, [.bool false, .slice none 0 0, .slice none 0 0]⟩ ?_
 refine zzb 7 [(1, .adr 1 0), (2, .adr 2 0)] [(1, ⟨41, r1.cs⟩), (2, ⟨41, [.bool false, .slice none 0 0, .slice none 0 0]⟩)] ?_
 refine sq9 ?_
 refine zzh 3 (.v (r1.v)) ty41 zzd ?_
 refine zzf 4 132 [r1.v] ?_
 intro w11 u11 e11 d11
 have k15 := k_read d11 (hr1.ext e11)
 with_reducible refine zPm k15 ?_
 rintro _ u13 g14 ⟨r12, wh12, rfl, z12, D12, hi12, hd12, hp12, hq12, hw12, hk12⟩
 refine zza 5 (.v (r12.v)) ?_
 refine zzf 6 137 [r12.v] ?_
 intro w16 u16 e16 d16
 have k21 := k_lowest d16 (hi12.ext e16) (hd12.ext e16) hp12 (by omega) (by omega)
 with_reducible refine zPm k21 ?_
 rintro _ u19 g20 ⟨r17, rfl, h18⟩
 refine zzi ⟨41, r17.cs⟩ ty41 ?_
 refine zzb 7 [(2, .adr 2 0)] [(2, ⟨41, r17.cs⟩)] ?_
 refine zzn (ret0 [r17.v] ⟨zzq ty41 zzd, trivial⟩ fun u22 e23 => ?_)
 refine ⟨r17, rfl, RatN.more (K := (max K K)) ?_ (by omega)⟩
 rw [hq12]; exact (h18.ext e23)
theorem k_ratOf {u w : World} {z : Int} (d : Dat u w) (h0 : -9223372036854775808 ≤ z) (h1 : z ≤ 9223372036854775807) : Calls Tryz.prog 61 #[.int .i64 z] w (Post u w fun v u' => ∃ r : RL, v = r.v ∧ RatN u' r (z : Rat) 2) := by
 refine zzl (args := [.int .i64 z]) Tryz.func61 rfl Tryz.ntmps61 (rs := [.cell 2 41]) Tryz.results61 (le_b rfl) (le_b rfl) d ?_
 refine sq9 ?_
 refine zzj 2 ⟨41, [.bool false, .slice none 0 0, .slice none 0 0]⟩ ?_
 refine zzb 6 [(0, .v (.int .i64 z)), (2, .adr 2 0)] [(2, ⟨41, [.bool false, .slice none 0 0, .slice none 0 0]⟩)] ?_
 refine sq9 ?_
 refine zza 3 (.v (.int .i64 z)) ?_
 refine zzf 4 142 [.int .i64 z] ?_
 intro w11 u11 e11 d11
 have k16 := k_intOf d11 (z := z) (by omega) (by omega)
 with_reducible refine zPm k16 ?_
 rintro _ u14 g15 ⟨i12, rfl, h13⟩
 refine zzf 5 141 [i12.v] ?_
 intro w17 u17 e17 d17
 have k22 := k_whole (i := i12) d17
 with_reducible refine zPm k22 ?_
 rintro _ u20 g21 ⟨y18, rfl, h19⟩
 refine zzi ⟨41, i12.cs ++ [y18.v]⟩ ty41 ?_
 refine zzb 6 [(2, .adr 2 0)] [(2, ⟨41, i12.cs ++ [y18.v]⟩)] ?_
 refine zzn (ret0 [.agg #[.bool i12.s, .slice i12.m.a i12.m.n i12.m.c, .slice y18.a y18.n y18.c]] ⟨zzq ty41 zzd, trivial⟩ fun u23 e24 => ?_)
 refine ⟨(⟨i12.s, i12.m, y18⟩ : RL), rfl, RatN.more (K := (max 2 1)) ?_ (by omega)⟩
 exact ((whole_rat (h13.ext (e17.trans g21.ext)) h19).ext e24)
theorem k_ratSign {u w : World} {r1 : RL} {x : Rat} {K : Nat} (d : Dat u w) (hr1 : RatV u r1 x K)  : Calls Tryz.prog 131 #[r1.v] w (Post u w fun v u' => v = .int .i64 (Nt.sgQ x)) := by
 refine zzl (args := [r1.v]) Tryz.func131 rfl Tryz.ntmps131 (rs := [.tmp 2]) Tryz.results131 (le_b rfl) (le_b rfl) d ?_
 refine sq9 ?_
 refine zzj 1 ⟨41, r1.cs⟩ ?_
 refine zza 2 (.v (.int .i64 0)) ?_
 refine zzb 8 [(1, .adr 1 0)] [(1, ⟨41, r1.cs⟩)] ?_
 refine sq9 ?_
 refine zzh 3 (.v (r1.v)) ty41 zzd ?_
 refine zzf 4 132 [r1.v] ?_
 intro w11 u11 e11 d11
 have k15 := k_read d11 (hr1.ext e11)
 with_reducible refine zPm k15 ?_
 rintro _ u13 g14 ⟨r12, wh12, rfl, z12, D12, hi12, hd12, hp12, hq12, hw12, hk12⟩
 refine zza 5 (.v (r12.v)) ?_
 refine zza 6 (.v (.agg #[.bool r12.s, r12.m.v])) ?_
 refine zzf 7 133 [.agg #[.bool r12.s, r12.m.v]] ?_
 intro w16 u16 e16 d16
 have k19 := k_intSign d16 (hi12.ext e16)
 with_reducible refine zPm k19 ?_
 rintro _ u17 g18 rfl
 refine zza 2 (.v (.int .i64 (Nt.cmpS z12 0))) ?_
 refine zzb 8 [(2, .v (.int .i64 (Nt.cmpS z12 0)))] [] ?_
 refine zzn (ret0 [.int .i64 (Nt.cmpS z12 0)] ⟨zzp, trivial⟩ fun u20 e21 => ?_)
 show _ = _
 rw [hq12, ← Nt.sg_mk hp12]
 rfl
theorem k_ratCompare {u w : World} {r1 : RL} {x : Rat} {K : Nat} {r2 : RL} {y : Rat} {L : Nat} (d : Dat u w) (hr1 : RatV u r1 x K) (hr2 : RatV u r2 y L) (hK : K ≤ 200000000) (hL : L ≤ 200000000) : Calls Tryz.prog 138 #[r1.v, r2.v] w (Post u w fun v u' => v = .int .i64 (Nt.cmpQ x y)) := by
 refine zzl (args := [r1.v, r2.v]) Tryz.func138 rfl Tryz.ntmps138 (rs := [.tmp 4]) Tryz.results138 (le_b rfl) (le_b rfl) d ?_
 refine sq9 ?_
 refine zzj 2 ⟨41, r1.cs⟩ ?_
 refine zzj 3 ⟨41, r2.cs⟩ ?_
 refine zza 4 (.v (.int .i64 0)) ?_
 refine zzb 41 [(2, .adr 2 0), (3, .adr 3 0)] [(2, ⟨41, r1.cs⟩), (3, ⟨41, r2.cs⟩)] ?_
 refine zzc ?_
 refine zzy [0, 1, 0, 7, 0, 0, 63, 127] [(0, []), (2, []), (4, []), (5, []), (1, []), (3, []), (6, []), (7, [])] (by kernel_rfl) (by kernel_rfl) ?_
 refine zzh 7 (.v (r1.v)) ty41 zzd ?_
 refine zzh 9 (.v (r2.v)) ty41 zzd ?_
 refine zzj 5 ⟨166, [.bool false, .slice none 0 0, .slice none 0 0, .bool false]⟩ ?_
 refine zzj 6 ⟨166, [.bool false, .slice none 0 0, .slice none 0 0, .bool false]⟩ ?_
 refine zzf 8 132 [r1.v] ?_
 intro w11 u11 e11 d11
 have k15 := k_read d11 (hr1.ext e11)
 with_reducible refine zPm k15 ?_
 rintro _ u13 g14 ⟨r12, wh12, rfl, z12, D12, hi12, hd12, hp12, hq12, hw12, hk12⟩
 refine zzf 10 132 [r2.v] ?_
 intro w16 u16 e16 d16
 have k20 := k_read d16 (hr2.ext (e11.trans (g14.ext.trans e16)))
 with_reducible refine zPm k20 ?_
 rintro _ u18 g19 ⟨r17, wh17, rfl, z17, D17, hi17, hd17, hp17, hq17, hw17, hk17⟩
 refine zzi ⟨166, r12.cs ++ [.bool wh12]⟩ ty166 ?_
 refine zzi ⟨166, r17.cs ++ [.bool wh17]⟩ ty166 ?_
 refine zzb 41 [(5, .adr 5 0), (6, .adr 6 0)] [(5, ⟨166, r12.cs ++ [.bool wh12]⟩), (6, ⟨166, r17.cs ++ [.bool wh17]⟩)] ?_
 refine zzc ?_
 refine sq9 ?_
 refine zza 11 (.adr 5 3) ?_
 refine zzh 12 (.v (.bool wh12)) ty4 zzk ?_
 rcases Bool.eq_false_or_eq_true wh12 with hs21 | hs21
 ·refine zyp 13 (x := .v (.bool wh12)) (.v (.bool true)) (by rw [hs21]) ?_
  refine zza 14 (.adr 6 3) ?_ (hw := w1 2 true 13)
  refine zzh 15 (.v (.bool wh17)) ty4 zzk ?_ (hw := w1 2 true 13)
  refine zza 16 (.v (.bool wh17)) ?_
  refine zzb 41 [(5, .adr 5 0), (6, .adr 6 0), (16, .v (.bool wh17))] [(5, ⟨166, r12.cs ++ [.bool wh12]⟩), (6, ⟨166, r17.cs ++ [.bool wh17]⟩)] ?_
  refine zzt (b := wh17) (by kernel_rfl) (fun hb22 => ?_) (fun hb22 => ?_)
  ·replace hb22 : wh17 = true := hb22
   refine sq9 ?_
   refine zza 17 (.adr 5 0) ?_
   refine zza 18 (.adr 5 0) ?_
   refine zzh 19 (.v (.agg #[.bool r12.s, r12.m.v])) ty39 zzd ?_
   refine zza 20 (.adr 6 0) ?_
   refine zza 21 (.adr 6 0) ?_
   refine zzh 22 (.v (.agg #[.bool r17.s, r17.m.v])) ty39 zzd ?_
   refine zzf 23 179 [.agg #[.bool r12.s, r12.m.v], .agg #[.bool r17.s, r17.m.v]] ?_
   intro w23 u23 e23 d23
   have k26 := k_intCompare d23 (hi12.ext (e16.trans (g19.ext.trans e23))) (hi17.ext e23)
   with_reducible refine zPm k26 ?_
   rintro _ u24 g25 rfl
   refine zza 4 (.v (.int .i64 (Nt.cmpS z12 z17))) ?_
   refine zzb 41 [(4, .v (.int .i64 (Nt.cmpS z12 z17)))] [] ?_
   refine zzn (zzv (ret0 [.int .i64 (Nt.cmpS z12 z17)] ⟨zzp, trivial⟩ fun u27 e28 => ?_))
   show _ = _
   rw [hq12, hq17, ← Nt.cmp_mk hp12 hp17]
   rw [hw12 (by assumption), hw17 (by assumption)]
   simp [tupV]
  ·replace hb22 : wh17 = false := hb22
   refine zzr (zzo ?_)
   refine zzc ?_
   refine zzy [0, 1, 3, 0, 8, 24, 56, 127, 0, 256, 768, 0, 2048, 6144, 14591, 32767, 65535, 131071] [(0, []), (1, []), (2, []), (3, []), (4, []), (5, []), (8, []), (9, []), (10, []), (11, []), (12, []), (13, []), (6, []), (7, []), (14, []), (15, []), (16, []), (17, [])] (by kernel_rfl) (by kernel_rfl) ?_
   refine zza 24 (.adr 5 0) ?_
   refine zza 25 (.adr 5 0) ?_
   refine zzh 26 (.v (.agg #[.bool r12.s, r12.m.v])) ty39 zzd ?_
   refine zza 27 (.adr 6 0) ?_
   refine zza 28 (.adr 6 2) ?_
   refine zzh 29 (.v r17.d.v) ty37 zzk ?_
   refine zza 32 (.adr 6 0) ?_
   refine zza 33 (.adr 6 0) ?_
   refine zzh 34 (.v (.agg #[.bool r17.s, r17.m.v])) ty39 zzd ?_
   refine zza 35 (.adr 5 0) ?_
   refine zza 36 (.adr 5 2) ?_
   refine zzh 37 (.v r12.d.v) ty37 zzk ?_
   refine zzf 30 135 [r17.d.v] ?_
   intro w29 u29 e29 d29
   have k32 := k_natural (x := r17.d) d29
   with_reducible refine zPm k32 ?_
   rintro _ u30 g31 rfl
   refine zzf 31 134 [.agg #[.bool r12.s, r12.m.v], .agg #[.bool false, r17.d.v]] ?_
   intro w33 u33 e33 d33
   have k38 := k_intMul d33 (hi12.ext (e16.trans (g19.ext.trans (e29.trans (g31.ext.trans e33))))) (nat_int (hd17.ext (e29.trans (g31.ext.trans e33)))) (by omega) (by omega)
   with_reducible refine zPm k38 ?_
   rintro _ u36 g37 ⟨i34, rfl, h35⟩
   refine zzf 38 135 [r12.d.v] ?_
   intro w39 u39 e39 d39
   have k42 := k_natural (x := r12.d) d39
   with_reducible refine zPm k42 ?_
   rintro _ u40 g41 rfl
   refine zzf 39 134 [.agg #[.bool r17.s, r17.m.v], .agg #[.bool false, r12.d.v]] ?_
   intro w43 u43 e43 d43
   have k48 := k_intMul d43 (hi17.ext (e29.trans (g31.ext.trans (e33.trans (g37.ext.trans (e39.trans (g41.ext.trans e43))))))) (nat_int (hd12.ext (e16.trans (g19.ext.trans (e29.trans (g31.ext.trans (e33.trans (g37.ext.trans (e39.trans (g41.ext.trans e43)))))))))) (by omega) (by omega)
   with_reducible refine zPm k48 ?_
   rintro _ u46 g47 ⟨i44, rfl, h45⟩
   refine zzf 40 179 [i34.v, i44.v] ?_
   intro w49 u49 e49 d49
   have k52 := k_intCompare d49 (h35.ext (e39.trans (g41.ext.trans (e43.trans (g47.ext.trans e49))))).raw (h45.ext e49).raw
   with_reducible refine zPm k52 ?_
   rintro _ u50 g51 rfl
   refine zza 4 (.v (.int .i64 (Nt.cmpS (z12 * (D17 : Int)) (z17 * (D12 : Int))))) ?_
   refine zzb 41 [(4, .v (.int .i64 (Nt.cmpS (z12 * (D17 : Int)) (z17 * (D12 : Int)))))] [] ?_
   refine zzn (ret0 [.int .i64 (Nt.cmpS (z12 * (D17 : Int)) (z17 * (D12 : Int)))] ⟨zzp, trivial⟩ fun u53 e54 => ?_)
   show _ = _
   rw [hq12, hq17, ← Nt.cmp_mk hp12 hp17]
   rfl
 ·refine zyp 13 (x := .v (.bool wh12)) (.v (.bool false)) (by rw [hs21]) ?_
  refine zzm 14 (uw 2 true false 13) ?_
  refine zzm 15 (uw 2 true false 13) ?_
  refine zza 16 (.v (.bool false)) ?_
  refine zzb 41 [(5, .adr 5 0), (6, .adr 6 0), (16, .v (.bool false))] [(5, ⟨166, r12.cs ++ [.bool wh12]⟩), (6, ⟨166, r17.cs ++ [.bool wh17]⟩)] ?_
  refine zyr (by kernel_rfl) ?_
  refine zzr (zzo ?_)
  refine zzc ?_
  refine zzy [0, 1, 3, 0, 8, 24, 56, 127, 0, 256, 768, 0, 2048, 6144, 14591, 32767, 65535, 131071] [(0, []), (1, []), (2, []), (3, []), (4, []), (5, []), (8, []), (9, []), (10, []), (11, []), (12, []), (13, []), (6, []), (7, []), (14, []), (15, []), (16, []), (17, [])] (by kernel_rfl) (by kernel_rfl) ?_
  refine zza 24 (.adr 5 0) ?_
  refine zza 25 (.adr 5 0) ?_
  refine zzh 26 (.v (.agg #[.bool r12.s, r12.m.v])) ty39 zzd ?_
  refine zza 27 (.adr 6 0) ?_
  refine zza 28 (.adr 6 2) ?_
  refine zzh 29 (.v r17.d.v) ty37 zzk ?_
  refine zza 32 (.adr 6 0) ?_
  refine zza 33 (.adr 6 0) ?_
  refine zzh 34 (.v (.agg #[.bool r17.s, r17.m.v])) ty39 zzd ?_
  refine zza 35 (.adr 5 0) ?_
  refine zza 36 (.adr 5 2) ?_
  refine zzh 37 (.v r12.d.v) ty37 zzk ?_
  refine zzf 30 135 [r17.d.v] ?_
  intro w55 u55 e55 d55
  have k58 := k_natural (x := r17.d) d55
  with_reducible refine zPm k58 ?_
  rintro _ u56 g57 rfl
  refine zzf 31 134 [.agg #[.bool r12.s, r12.m.v], .agg #[.bool false, r17.d.v]] ?_
  intro w59 u59 e59 d59
  have k64 := k_intMul d59 (hi12.ext (e16.trans (g19.ext.trans (e55.trans (g57.ext.trans e59))))) (nat_int (hd17.ext (e55.trans (g57.ext.trans e59)))) (by omega) (by omega)
  with_reducible refine zPm k64 ?_
  rintro _ u62 g63 ⟨i60, rfl, h61⟩
  refine zzf 38 135 [r12.d.v] ?_
  intro w65 u65 e65 d65
  have k68 := k_natural (x := r12.d) d65
  with_reducible refine zPm k68 ?_
  rintro _ u66 g67 rfl
  refine zzf 39 134 [.agg #[.bool r17.s, r17.m.v], .agg #[.bool false, r12.d.v]] ?_
  intro w69 u69 e69 d69
  have k74 := k_intMul d69 (hi17.ext (e55.trans (g57.ext.trans (e59.trans (g63.ext.trans (e65.trans (g67.ext.trans e69))))))) (nat_int (hd12.ext (e16.trans (g19.ext.trans (e55.trans (g57.ext.trans (e59.trans (g63.ext.trans (e65.trans (g67.ext.trans e69)))))))))) (by omega) (by omega)
  with_reducible refine zPm k74 ?_
  rintro _ u72 g73 ⟨i70, rfl, h71⟩
  refine zzf 40 179 [i60.v, i70.v] ?_
  intro w75 u75 e75 d75
  have k78 := k_intCompare d75 (h61.ext (e65.trans (g67.ext.trans (e69.trans (g73.ext.trans e75))))).raw (h71.ext e75).raw
  with_reducible refine zPm k78 ?_
  rintro _ u76 g77 rfl
  refine zza 4 (.v (.int .i64 (Nt.cmpS (z12 * (D17 : Int)) (z17 * (D12 : Int))))) ?_
  refine zzb 41 [(4, .v (.int .i64 (Nt.cmpS (z12 * (D17 : Int)) (z17 * (D12 : Int)))))] [] ?_
  refine zzn (ret0 [.int .i64 (Nt.cmpS (z12 * (D17 : Int)) (z17 * (D12 : Int)))] ⟨zzp, trivial⟩ fun u79 e80 => ?_)
  show _ = _
  rw [hq12, hq17, ← Nt.cmp_mk hp12 hp17]
  rfl
theorem k_ratNeg {u w : World} {r1 : RL} {x : Rat} {K : Nat} (d : Dat u w) (hr1 : RatV u r1 x K) (hK : K ≤ 200000000) : Calls Tryz.prog 159 #[r1.v] w (Post u w fun v u' => ∃ r : RL, v = r.v ∧ RatN u' r (-x) K) := by
 refine zzl (args := [r1.v]) Tryz.func159 rfl Tryz.ntmps159 (rs := [.cell 2 41]) Tryz.results159 (le_b rfl) (le_b rfl) d ?_
 refine sq9 ?_
 refine zzj 1 ⟨41, r1.cs⟩ ?_
 refine zzj 2 ⟨41, [.bool false, .slice none 0 0, .slice none 0 0]⟩ ?_
 refine zzb 6 [(1, .adr 1 0), (2, .adr 2 0)] [(1, ⟨41, r1.cs⟩), (2, ⟨41, [.bool false, .slice none 0 0, .slice none 0 0]⟩)] ?_
 refine sq9 ?_
 refine zzh 3 (.v (r1.v)) ty41 zzd ?_
 refine zzf 4 140 [r1.v] ?_
 intro w11 u11 e11 d11
 have k14 := k_flip (r := r1) d11
 with_reducible refine zPm k14 ?_
 rintro _ u12 g13 rfl
 refine zzf 5 58 [.agg #[.bool (!r1.s), r1.m.v, r1.d.v]] ?_
 intro w15 u15 e15 d15
 have k20 := k_ratTrim d15 ((flip_rat (hr1.ext (e11.trans g13.ext))).ext e15) (by omega)
 with_reducible refine zPm k20 ?_
 rintro _ u18 g19 ⟨r16, rfl, h17⟩
 refine zzi ⟨41, r16.cs⟩ ty41 ?_
 refine zzb 6 [(2, .adr 2 0)] [(2, ⟨41, r16.cs⟩)] ?_
 refine zzn (ret0 [r16.v] ⟨zzq ty41 zzd, trivial⟩ fun u21 e22 => ?_)
 refine ⟨r16, rfl, RatN.more (K := K) ?_ (by omega)⟩
 exact (h17.ext e22)
theorem k_ratAbs {u w : World} {r1 : RL} {x : Rat} {K : Nat} (d : Dat u w) (hr1 : RatV u r1 x K) (hK : K ≤ 200000000) : Calls Tryz.prog 139 #[r1.v] w (Post u w fun v u' => ∃ r : RL, v = r.v ∧ RatN u' r (Nt.absQ x) K) := by
 refine zzl (args := [r1.v]) Tryz.func139 rfl Tryz.ntmps139 (rs := [.cell 2 41]) Tryz.results139 (le_b rfl) (le_b rfl) d ?_
 refine sq9 ?_
 refine zzj 1 ⟨41, r1.cs⟩ ?_
 refine zzj 2 ⟨41, [.bool false, .slice none 0 0, .slice none 0 0]⟩ ?_
 refine zzb 11 [(1, .adr 1 0), (2, .adr 2 0)] [(1, ⟨41, r1.cs⟩), (2, ⟨41, [.bool false, .slice none 0 0, .slice none 0 0]⟩)] ?_
 refine sq9 ?_
 refine zza 3 (.adr 1 0) ?_
 refine zza 4 (.adr 1 1) ?_
 refine zzh 5 (.v r1.m.v) ty37 zzk ?_
 refine zza 6 (.v (.agg #[.bool false, r1.m.v])) ?_
 refine zza 7 (.adr 1 2) ?_
 refine zzh 8 (.v r1.d.v) ty37 zzk ?_
 refine zza 9 (.v (.agg #[.bool false, r1.m.v, r1.d.v])) ?_
 refine zzf 10 58 [.agg #[.bool false, r1.m.v, r1.d.v]] ?_
 intro w11 u11 e11 d11
 have k16 := k_ratTrim d11 ((abs_rat hr1).ext e11) (by omega)
 with_reducible refine zPm k16 ?_
 rintro _ u14 g15 ⟨r12, rfl, h13⟩
 refine zzi ⟨41, r12.cs⟩ ty41 ?_
 refine zzb 11 [(2, .adr 2 0)] [(2, ⟨41, r12.cs⟩)] ?_
 refine zzn (ret0 [r12.v] ⟨zzq ty41 zzd, trivial⟩ fun u17 e18 => ?_)
 refine ⟨r12, rfl, RatN.more (K := K) ?_ (by omega)⟩
 exact (h13.ext e18)
set_option maxHeartbeats 1000000 in
theorem k_ratAdd {u w : World} {r1 : RL} {x : Rat} {K : Nat} {r2 : RL} {y : Rat} {L : Nat} (d : Dat u w) (hr1 : RatV u r1 x K) (hr2 : RatV u r2 y L) (hK : K ≤ 200000000) (hL : L ≤ 200000000) : Calls Tryz.prog 127 #[r1.v, r2.v] w (Post u w fun v u' => ∃ r : RL, v = r.v ∧ RatN u' r (x + y) (K + L + 1)) := by
 refine zzl (args := [r1.v, r2.v]) Tryz.func127 rfl Tryz.ntmps127 (rs := [.cell 4 41]) Tryz.results127 (le_b rfl) (le_b rfl) d ?_
 refine sq9 ?_
 refine zzj 2 ⟨41, r1.cs⟩ ?_
 refine zzj 3 ⟨41, r2.cs⟩ ?_
 refine zzj 4 ⟨41, [.bool false, .slice none 0 0, .slice none 0 0]⟩ ?_
 refine zzb 73 [(2, .adr 2 0), (3, .adr 3 0), (4, .adr 4 0)] [(2, ⟨41, r1.cs⟩), (3, ⟨41, r2.cs⟩), (4, ⟨41, [.bool false, .slice none 0 0, .slice none 0 0]⟩)] ?_
 refine zzc ?_
 refine zzy [0, 1, 0, 7, 0, 0, 63, 127] [(0, []), (2, []), (4, []), (5, []), (1, []), (3, []), (6, []), (7, [])] (by kernel_rfl) (by kernel_rfl) ?_
 refine zzh 8 (.v (r1.v)) ty41 zzd ?_
 refine zzh 10 (.v (r2.v)) ty41 zzd ?_
 refine zzj 5 ⟨166, [.bool false, .slice none 0 0, .slice none 0 0, .bool false]⟩ ?_
 refine zzj 6 ⟨166, [.bool false, .slice none 0 0, .slice none 0 0, .bool false]⟩ ?_
 refine zzf 9 132 [r1.v] ?_
 intro w11 u11 e11 d11
 have k15 := k_read d11 (hr1.ext e11)
 with_reducible refine zPm k15 ?_
 rintro _ u13 g14 ⟨r12, wh12, rfl, z12, D12, hi12, hd12, hp12, hq12, hw12, hk12⟩
 refine zzf 11 132 [r2.v] ?_
 intro w16 u16 e16 d16
 have k20 := k_read d16 (hr2.ext (e11.trans (g14.ext.trans e16)))
 with_reducible refine zPm k20 ?_
 rintro _ u18 g19 ⟨r17, wh17, rfl, z17, D17, hi17, hd17, hp17, hq17, hw17, hk17⟩
 refine zzi ⟨166, r12.cs ++ [.bool wh12]⟩ ty166 ?_
 refine zzi ⟨166, r17.cs ++ [.bool wh17]⟩ ty166 ?_
 refine zzb 73 [(4, .adr 4 0), (5, .adr 5 0), (6, .adr 6 0)] [(4, ⟨41, [.bool false, .slice none 0 0, .slice none 0 0]⟩), (5, ⟨166, r12.cs ++ [.bool wh12]⟩), (6, ⟨166, r17.cs ++ [.bool wh17]⟩)] ?_
 refine zzc ?_
 refine sq9 ?_
 refine zza 12 (.adr 5 3) ?_
 refine zzh 13 (.v (.bool wh12)) ty4 zzk ?_
 rcases Bool.eq_false_or_eq_true wh12 with hs21 | hs21
 ·refine zyp 14 (x := .v (.bool wh12)) (.v (.bool true)) (by rw [hs21]) ?_
  refine zza 15 (.adr 6 3) ?_ (hw := w1 2 true 14)
  refine zzh 16 (.v (.bool wh17)) ty4 zzk ?_ (hw := w1 2 true 14)
  refine zza 17 (.v (.bool wh17)) ?_
  refine zzb 73 [(4, .adr 4 0), (5, .adr 5 0), (6, .adr 6 0), (17, .v (.bool wh17))] [(4, ⟨41, [.bool false, .slice none 0 0, .slice none 0 0]⟩), (5, ⟨166, r12.cs ++ [.bool wh12]⟩), (6, ⟨166, r17.cs ++ [.bool wh17]⟩)] ?_
  refine zzt (b := wh17) (by kernel_rfl) (fun hb22 => ?_) (fun hb22 => ?_)
  ·replace hb22 : wh17 = true := hb22
   refine sq9 ?_
   refine zza 18 (.adr 5 0) ?_
   refine zza 19 (.adr 5 0) ?_
   refine zzh 20 (.v (.agg #[.bool r12.s, r12.m.v])) ty39 zzd ?_
   refine zza 21 (.adr 6 0) ?_
   refine zza 22 (.adr 6 0) ?_
   refine zzh 23 (.v (.agg #[.bool r17.s, r17.m.v])) ty39 zzd ?_
   refine zzf 24 171 [.agg #[.bool r12.s, r12.m.v], .agg #[.bool r17.s, r17.m.v]] ?_
   intro w23 u23 e23 d23
   have k28 := k_intAdd d23 (hi12.ext (e16.trans (g19.ext.trans e23))) (hi17.ext e23) (by omega) (by omega)
   with_reducible refine zPm k28 ?_
   rintro _ u26 g27 ⟨i24, rfl, h25⟩
   refine zzf 25 141 [i24.v] ?_
   intro w29 u29 e29 d29
   have k34 := k_whole (i := i24) d29
   with_reducible refine zPm k34 ?_
   rintro _ u32 g33 ⟨y30, rfl, h31⟩
   refine zzi ⟨41, i24.cs ++ [y30.v]⟩ ty41 ?_
   refine zzb 73 [(4, .adr 4 0)] [(4, ⟨41, i24.cs ++ [y30.v]⟩)] ?_
   refine zzn (zzv (ret0 [.agg #[.bool i24.s, .slice i24.m.a i24.m.n i24.m.c, .slice y30.a y30.n y30.c]] ⟨zzq ty41 zzd, trivial⟩ fun u35 e36 => ?_))
   refine ⟨(⟨i24.s, i24.m, y30⟩ : RL), rfl, RatN.more (K := (max (max K L + 1) 1)) ?_ (by omega)⟩
   rw [hq12, hq17, hw12 (by assumption), hw17 (by assumption), Nt.mk_one, Nt.mk_one, ← Rat.intCast_add]
   exact ((whole_rat (h25.ext (e29.trans g33.ext)) h31).ext e36)
  ·replace hb22 : wh17 = false := hb22
   refine zzr (zzo ?_)
   refine zzc ?_
   refine sq9 ?_
   refine zza 26 (.adr 5 0) ?_
   refine zza 27 (.adr 5 2) ?_
   refine zzh 28 (.v r12.d.v) ty37 zzk ?_
   refine zza 29 (.adr 6 0) ?_
   refine zza 30 (.adr 6 2) ?_
   refine zzh 31 (.v r17.d.v) ty37 zzk ?_
   refine zzf 32 172 [r12.d.v, r17.d.v] ?_
   intro w37 u37 e37 d37
   have k40 := k_natCompare d37 (hd12.ext (e16.trans (g19.ext.trans e37))) (hd17.ext e37)
   with_reducible refine zPm k40 ?_
   rintro _ u38 g39 rfl
   refine zza 33 (.v (.bool ((Nt.cmpS D12 D17) == 0))) ?_
   refine zzb 73 [(4, .adr 4 0), (5, .adr 5 0), (6, .adr 6 0), (33, .v (.bool ((Nt.cmpS D12 D17) == 0)))] [(4, ⟨41, [.bool false, .slice none 0 0, .slice none 0 0]⟩), (5, ⟨166, r12.cs ++ [.bool wh12]⟩), (6, ⟨166, r17.cs ++ [.bool wh17]⟩)] ?_
   refine zzt (b := (Nt.cmpS D12 D17) == 0) (by kernel_rfl) (fun hb41 => ?_) (fun hb41 => ?_)
   ·replace hb41 : ((Nt.cmpS D12 D17) == 0) = true := hb41
    refine zzc ?_
    refine zzy [0, 1, 3, 0, 8, 24, 63, 0, 128, 384, 1023, 2047, 4095] [(0, []), (1, []), (2, []), (3, []), (4, []), (5, []), (7, []), (8, []), (9, []), (6, []), (10, []), (11, []), (12, [])] (by kernel_rfl) (by kernel_rfl) ?_
    refine zza 34 (.adr 5 0) ?_
    refine zza 35 (.adr 5 0) ?_
    refine zzh 36 (.v (.agg #[.bool r12.s, r12.m.v])) ty39 zzd ?_
    refine zza 37 (.adr 6 0) ?_
    refine zza 38 (.adr 6 0) ?_
    refine zzh 39 (.v (.agg #[.bool r17.s, r17.m.v])) ty39 zzd ?_
    refine zza 41 (.adr 5 0) ?_
    refine zza 42 (.adr 5 2) ?_
    refine zzh 43 (.v r12.d.v) ty37 zzk ?_
    refine zzf 40 171 [.agg #[.bool r12.s, r12.m.v], .agg #[.bool r17.s, r17.m.v]] ?_
    intro w42 u42 e42 d42
    have k47 := k_intAdd d42 (hi12.ext (e16.trans (g19.ext.trans (e37.trans (g39.ext.trans e42))))) (hi17.ext (e37.trans (g39.ext.trans e42))) (by omega) (by omega)
    with_reducible refine zPm k47 ?_
    rintro _ u45 g46 ⟨i43, rfl, h44⟩
    refine zza 44 (.v (.agg #[.bool i43.s, i43.m.v, r12.d.v])) ?_
    refine zzf 45 137 [.agg #[.bool i43.s, i43.m.v, r12.d.v]] ?_
    intro w48 u48 e48 d48
    have k53 := k_lowest d48 (h44.ext e48).raw (hd12.ext (e16.trans (g19.ext.trans (e37.trans (g39.ext.trans (e42.trans (g46.ext.trans e48))))))) hp12 (by omega) (by omega)
    with_reducible refine zPm k53 ?_
    rintro _ u51 g52 ⟨r49, rfl, h50⟩
    refine zzi ⟨41, r49.cs⟩ ty41 ?_
    refine zzb 73 [(4, .adr 4 0)] [(4, ⟨41, r49.cs⟩)] ?_
    refine zzn (zzv (ret0 [r49.v] ⟨zzq ty41 zzd, trivial⟩ fun u54 e55 => ?_))
    refine ⟨r49, rfl, RatN.more (K := (max (max K L + 1) K)) ?_ (by omega)⟩
    have hD : D12 = D17 := Nt.cmp_natE hb41
    rw [hq12, hq17, ← hD, ← Nt.add_same hp12]
    exact (h50.ext e55)
   ·replace hb41 : ((Nt.cmpS D12 D17) == 0) = false := hb41
    refine zzr (zzo ?_)
    refine zzc ?_
    refine zzy [0, 1, 3, 0, 8, 24, 56, 127, 0, 256, 768, 0, 2048, 6144, 14591, 32767, 65535, 0, 262143] [(0, []), (1, []), (2, []), (3, []), (4, []), (5, []), (8, []), (9, []), (10, []), (11, []), (12, []), (13, []), (17, []), (6, []), (7, []), (14, []), (15, []), (16, []), (18, [])] (by kernel_rfl) (by kernel_rfl) ?_
    refine zza 46 (.adr 5 0) ?_
    refine zza 47 (.adr 5 0) ?_
    refine zzh 48 (.v (.agg #[.bool r12.s, r12.m.v])) ty39 zzd ?_
    refine zza 49 (.adr 6 0) ?_
    refine zza 50 (.adr 6 2) ?_
    refine zzh 51 (.v r17.d.v) ty37 zzk ?_
    refine zza 54 (.adr 6 0) ?_
    refine zza 55 (.adr 6 0) ?_
    refine zzh 56 (.v (.agg #[.bool r17.s, r17.m.v])) ty39 zzd ?_
    refine zza 57 (.adr 5 0) ?_
    refine zza 58 (.adr 5 2) ?_
    refine zzh 59 (.v r12.d.v) ty37 zzk ?_
    refine zzj 7 ⟨39, [.bool false, .slice none 0 0]⟩ ?_
    refine zzf 52 135 [r17.d.v] ?_
    intro w56 u56 e56 d56
    have k59 := k_natural (x := r17.d) d56
    with_reducible refine zPm k59 ?_
    rintro _ u57 g58 rfl
    refine zzf 53 134 [.agg #[.bool r12.s, r12.m.v], .agg #[.bool false, r17.d.v]] ?_
    intro w60 u60 e60 d60
    have k65 := k_intMul d60 (hi12.ext (e16.trans (g19.ext.trans (e37.trans (g39.ext.trans (e56.trans (g58.ext.trans e60))))))) (nat_int (hd17.ext (e37.trans (g39.ext.trans (e56.trans (g58.ext.trans e60)))))) (by omega) (by omega)
    with_reducible refine zPm k65 ?_
    rintro _ u63 g64 ⟨i61, rfl, h62⟩
    refine zzf 60 135 [r12.d.v] ?_
    intro w66 u66 e66 d66
    have k69 := k_natural (x := r12.d) d66
    with_reducible refine zPm k69 ?_
    rintro _ u67 g68 rfl
    refine zzf 61 134 [.agg #[.bool r17.s, r17.m.v], .agg #[.bool false, r12.d.v]] ?_
    intro w70 u70 e70 d70
    have k75 := k_intMul d70 (hi17.ext (e37.trans (g39.ext.trans (e56.trans (g58.ext.trans (e60.trans (g64.ext.trans (e66.trans (g68.ext.trans e70))))))))) (nat_int (hd12.ext (e16.trans (g19.ext.trans (e37.trans (g39.ext.trans (e56.trans (g58.ext.trans (e60.trans (g64.ext.trans (e66.trans (g68.ext.trans e70)))))))))))) (by omega) (by omega)
    with_reducible refine zPm k75 ?_
    rintro _ u73 g74 ⟨i71, rfl, h72⟩
    refine zzf 62 171 [i61.v, i71.v] ?_
    intro w76 u76 e76 d76
    have k81 := k_intAdd d76 (h62.ext (e66.trans (g68.ext.trans (e70.trans (g74.ext.trans e76))))).raw (h72.ext e76).raw (by omega) (by omega)
    with_reducible refine zPm k81 ?_
    rintro _ u79 g80 ⟨i77, rfl, h78⟩
    refine zzi ⟨39, i77.cs⟩ ty39 ?_
    refine zzb 73 [(4, .adr 4 0), (5, .adr 5 0), (6, .adr 6 0), (7, .adr 7 0)] [(4, ⟨41, [.bool false, .slice none 0 0, .slice none 0 0]⟩), (5, ⟨166, r12.cs ++ [.bool wh12]⟩), (6, ⟨166, r17.cs ++ [.bool wh17]⟩), (7, ⟨39, i77.cs⟩)] ?_
    refine zzc ?_
    refine zzy [0, 0, 2, 6, 0, 16, 48, 126, 255, 511, 1023] [(0, []), (1, []), (2, []), (3, []), (4, []), (5, []), (6, []), (7, []), (8, []), (9, []), (10, [])] (by kernel_rfl) (by kernel_rfl) ?_
    refine zzh 63 (.v (i77.v)) ty39 zzd ?_
    refine zza 64 (.adr 5 0) ?_
    refine zza 65 (.adr 5 2) ?_
    refine zzh 66 (.v r12.d.v) ty37 zzk ?_
    refine zza 67 (.adr 6 0) ?_
    refine zza 68 (.adr 6 2) ?_
    refine zzh 69 (.v r17.d.v) ty37 zzk ?_
    refine zzf 70 143 [r12.d.v, r17.d.v] ?_
    intro w82 u82 e82 d82
    have k87 := k_natMul d82 (hd12.ext (e16.trans (g19.ext.trans (e37.trans (g39.ext.trans (e56.trans (g58.ext.trans (e60.trans (g64.ext.trans (e66.trans (g68.ext.trans (e70.trans (g74.ext.trans (e76.trans (g80.ext.trans e82))))))))))))))) (hd17.ext (e37.trans (g39.ext.trans (e56.trans (g58.ext.trans (e60.trans (g64.ext.trans (e66.trans (g68.ext.trans (e70.trans (g74.ext.trans (e76.trans (g80.ext.trans e82))))))))))))) (by omega) (by omega)
    with_reducible refine zPm k87 ?_
    rintro _ u85 g86 ⟨x83, rfl, h84⟩
    refine zza 71 (.v (.agg #[.bool i77.s, i77.m.v, x83.v])) ?_
    refine zzf 72 137 [.agg #[.bool i77.s, i77.m.v, x83.v]] ?_
    intro w88 u88 e88 d88
    have k93 := k_lowest d88 (h78.ext (e82.trans (g86.ext.trans e88))).raw (h84.ext e88).raw (Nat.mul_pos hp12 hp17) (by omega) (by omega)
    with_reducible refine zPm k93 ?_
    rintro _ u91 g92 ⟨r89, rfl, h90⟩
    refine zzi ⟨41, r89.cs⟩ ty41 ?_
    refine zzb 73 [(4, .adr 4 0)] [(4, ⟨41, r89.cs⟩)] ?_
    refine zzn (ret0 [r89.v] ⟨zzq ty41 zzd, trivial⟩ fun u94 e95 => ?_)
    refine ⟨r89, rfl, RatN.more (K := (max (max (K + L) (L + K) + 1) (K + L))) ?_ (by omega)⟩
    rw [hq12, hq17, ← Nt.add_mk hp12 hp17]
    exact (h90.ext e95)
 ·refine zyp 14 (x := .v (.bool wh12)) (.v (.bool false)) (by rw [hs21]) ?_
  refine zzm 15 (uw 2 true false 14) ?_
  refine zzm 16 (uw 2 true false 14) ?_
  refine zza 17 (.v (.bool false)) ?_
  refine zzb 73 [(4, .adr 4 0), (5, .adr 5 0), (6, .adr 6 0), (17, .v (.bool false))] [(4, ⟨41, [.bool false, .slice none 0 0, .slice none 0 0]⟩), (5, ⟨166, r12.cs ++ [.bool wh12]⟩), (6, ⟨166, r17.cs ++ [.bool wh17]⟩)] ?_
  refine zyr (by kernel_rfl) ?_
  refine zzr (zzo ?_)
  refine zzc ?_
  refine sq9 ?_
  refine zza 26 (.adr 5 0) ?_
  refine zza 27 (.adr 5 2) ?_
  refine zzh 28 (.v r12.d.v) ty37 zzk ?_
  refine zza 29 (.adr 6 0) ?_
  refine zza 30 (.adr 6 2) ?_
  refine zzh 31 (.v r17.d.v) ty37 zzk ?_
  refine zzf 32 172 [r12.d.v, r17.d.v] ?_
  intro w96 u96 e96 d96
  have k99 := k_natCompare d96 (hd12.ext (e16.trans (g19.ext.trans e96))) (hd17.ext e96)
  with_reducible refine zPm k99 ?_
  rintro _ u97 g98 rfl
  refine zza 33 (.v (.bool ((Nt.cmpS D12 D17) == 0))) ?_
  refine zzb 73 [(4, .adr 4 0), (5, .adr 5 0), (6, .adr 6 0), (33, .v (.bool ((Nt.cmpS D12 D17) == 0)))] [(4, ⟨41, [.bool false, .slice none 0 0, .slice none 0 0]⟩), (5, ⟨166, r12.cs ++ [.bool wh12]⟩), (6, ⟨166, r17.cs ++ [.bool wh17]⟩)] ?_
  refine zzt (b := (Nt.cmpS D12 D17) == 0) (by kernel_rfl) (fun hb100 => ?_) (fun hb100 => ?_)
  ·replace hb100 : ((Nt.cmpS D12 D17) == 0) = true := hb100
   refine zzc ?_
   refine zzy [0, 1, 3, 0, 8, 24, 63, 0, 128, 384, 1023, 2047, 4095] [(0, []), (1, []), (2, []), (3, []), (4, []), (5, []), (7, []), (8, []), (9, []), (6, []), (10, []), (11, []), (12, [])] (by kernel_rfl) (by kernel_rfl) ?_
   refine zza 34 (.adr 5 0) ?_
   refine zza 35 (.adr 5 0) ?_
   refine zzh 36 (.v (.agg #[.bool r12.s, r12.m.v])) ty39 zzd ?_
   refine zza 37 (.adr 6 0) ?_
   refine zza 38 (.adr 6 0) ?_
   refine zzh 39 (.v (.agg #[.bool r17.s, r17.m.v])) ty39 zzd ?_
   refine zza 41 (.adr 5 0) ?_
   refine zza 42 (.adr 5 2) ?_
   refine zzh 43 (.v r12.d.v) ty37 zzk ?_
   refine zzf 40 171 [.agg #[.bool r12.s, r12.m.v], .agg #[.bool r17.s, r17.m.v]] ?_
   intro w101 u101 e101 d101
   have k106 := k_intAdd d101 (hi12.ext (e16.trans (g19.ext.trans (e96.trans (g98.ext.trans e101))))) (hi17.ext (e96.trans (g98.ext.trans e101))) (by omega) (by omega)
   with_reducible refine zPm k106 ?_
   rintro _ u104 g105 ⟨i102, rfl, h103⟩
   refine zza 44 (.v (.agg #[.bool i102.s, i102.m.v, r12.d.v])) ?_
   refine zzf 45 137 [.agg #[.bool i102.s, i102.m.v, r12.d.v]] ?_
   intro w107 u107 e107 d107
   have k112 := k_lowest d107 (h103.ext e107).raw (hd12.ext (e16.trans (g19.ext.trans (e96.trans (g98.ext.trans (e101.trans (g105.ext.trans e107))))))) hp12 (by omega) (by omega)
   with_reducible refine zPm k112 ?_
   rintro _ u110 g111 ⟨r108, rfl, h109⟩
   refine zzi ⟨41, r108.cs⟩ ty41 ?_
   refine zzb 73 [(4, .adr 4 0)] [(4, ⟨41, r108.cs⟩)] ?_
   refine zzn (zzv (ret0 [r108.v] ⟨zzq ty41 zzd, trivial⟩ fun u113 e114 => ?_))
   refine ⟨r108, rfl, RatN.more (K := (max (max K L + 1) K)) ?_ (by omega)⟩
   have hD : D12 = D17 := Nt.cmp_natE hb100
   rw [hq12, hq17, ← hD, ← Nt.add_same hp12]
   exact (h109.ext e114)
  ·replace hb100 : ((Nt.cmpS D12 D17) == 0) = false := hb100
   refine zzr (zzo ?_)
   refine zzc ?_
   refine zzy [0, 1, 3, 0, 8, 24, 56, 127, 0, 256, 768, 0, 2048, 6144, 14591, 32767, 65535, 0, 262143] [(0, []), (1, []), (2, []), (3, []), (4, []), (5, []), (8, []), (9, []), (10, []), (11, []), (12, []), (13, []), (17, []), (6, []), (7, []), (14, []), (15, []), (16, []), (18, [])] (by kernel_rfl) (by kernel_rfl) ?_
   refine zza 46 (.adr 5 0) ?_
   refine zza 47 (.adr 5 0) ?_
   refine zzh 48 (.v (.agg #[.bool r12.s, r12.m.v])) ty39 zzd ?_
   refine zza 49 (.adr 6 0) ?_
   refine zza 50 (.adr 6 2) ?_
   refine zzh 51 (.v r17.d.v) ty37 zzk ?_
   refine zza 54 (.adr 6 0) ?_
   refine zza 55 (.adr 6 0) ?_
   refine zzh 56 (.v (.agg #[.bool r17.s, r17.m.v])) ty39 zzd ?_
   refine zza 57 (.adr 5 0) ?_
   refine zza 58 (.adr 5 2) ?_
   refine zzh 59 (.v r12.d.v) ty37 zzk ?_
   refine zzj 7 ⟨39, [.bool false, .slice none 0 0]⟩ ?_
   refine zzf 52 135 [r17.d.v] ?_
   intro w115 u115 e115 d115
   have k118 := k_natural (x := r17.d) d115
   with_reducible refine zPm k118 ?_
   rintro _ u116 g117 rfl
   refine zzf 53 134 [.agg #[.bool r12.s, r12.m.v], .agg #[.bool false, r17.d.v]] ?_
   intro w119 u119 e119 d119
   have k124 := k_intMul d119 (hi12.ext (e16.trans (g19.ext.trans (e96.trans (g98.ext.trans (e115.trans (g117.ext.trans e119))))))) (nat_int (hd17.ext (e96.trans (g98.ext.trans (e115.trans (g117.ext.trans e119)))))) (by omega) (by omega)
   with_reducible refine zPm k124 ?_
   rintro _ u122 g123 ⟨i120, rfl, h121⟩
   refine zzf 60 135 [r12.d.v] ?_
   intro w125 u125 e125 d125
   have k128 := k_natural (x := r12.d) d125
   with_reducible refine zPm k128 ?_
   rintro _ u126 g127 rfl
   refine zzf 61 134 [.agg #[.bool r17.s, r17.m.v], .agg #[.bool false, r12.d.v]] ?_
   intro w129 u129 e129 d129
   have k134 := k_intMul d129 (hi17.ext (e96.trans (g98.ext.trans (e115.trans (g117.ext.trans (e119.trans (g123.ext.trans (e125.trans (g127.ext.trans e129))))))))) (nat_int (hd12.ext (e16.trans (g19.ext.trans (e96.trans (g98.ext.trans (e115.trans (g117.ext.trans (e119.trans (g123.ext.trans (e125.trans (g127.ext.trans e129)))))))))))) (by omega) (by omega)
   with_reducible refine zPm k134 ?_
   rintro _ u132 g133 ⟨i130, rfl, h131⟩
   refine zzf 62 171 [i120.v, i130.v] ?_
   intro w135 u135 e135 d135
   have k140 := k_intAdd d135 (h121.ext (e125.trans (g127.ext.trans (e129.trans (g133.ext.trans e135))))).raw (h131.ext e135).raw (by omega) (by omega)
   with_reducible refine zPm k140 ?_
   rintro _ u138 g139 ⟨i136, rfl, h137⟩
   refine zzi ⟨39, i136.cs⟩ ty39 ?_
   refine zzb 73 [(4, .adr 4 0), (5, .adr 5 0), (6, .adr 6 0), (7, .adr 7 0)] [(4, ⟨41, [.bool false, .slice none 0 0, .slice none 0 0]⟩), (5, ⟨166, r12.cs ++ [.bool wh12]⟩), (6, ⟨166, r17.cs ++ [.bool wh17]⟩), (7, ⟨39, i136.cs⟩)] ?_
   refine zzc ?_
   refine zzy [0, 0, 2, 6, 0, 16, 48, 126, 255, 511, 1023] [(0, []), (1, []), (2, []), (3, []), (4, []), (5, []), (6, []), (7, []), (8, []), (9, []), (10, [])] (by kernel_rfl) (by kernel_rfl) ?_
   refine zzh 63 (.v (i136.v)) ty39 zzd ?_
   refine zza 64 (.adr 5 0) ?_
   refine zza 65 (.adr 5 2) ?_
   refine zzh 66 (.v r12.d.v) ty37 zzk ?_
   refine zza 67 (.adr 6 0) ?_
   refine zza 68 (.adr 6 2) ?_
   refine zzh 69 (.v r17.d.v) ty37 zzk ?_
   refine zzf 70 143 [r12.d.v, r17.d.v] ?_
   intro w141 u141 e141 d141
   have k146 := k_natMul d141 (hd12.ext (e16.trans (g19.ext.trans (e96.trans (g98.ext.trans (e115.trans (g117.ext.trans (e119.trans (g123.ext.trans (e125.trans (g127.ext.trans (e129.trans (g133.ext.trans (e135.trans (g139.ext.trans e141))))))))))))))) (hd17.ext (e96.trans (g98.ext.trans (e115.trans (g117.ext.trans (e119.trans (g123.ext.trans (e125.trans (g127.ext.trans (e129.trans (g133.ext.trans (e135.trans (g139.ext.trans e141))))))))))))) (by omega) (by omega)
   with_reducible refine zPm k146 ?_
   rintro _ u144 g145 ⟨x142, rfl, h143⟩
   refine zza 71 (.v (.agg #[.bool i136.s, i136.m.v, x142.v])) ?_
   refine zzf 72 137 [.agg #[.bool i136.s, i136.m.v, x142.v]] ?_
   intro w147 u147 e147 d147
   have k152 := k_lowest d147 (h137.ext (e141.trans (g145.ext.trans e147))).raw (h143.ext e147).raw (Nat.mul_pos hp12 hp17) (by omega) (by omega)
   with_reducible refine zPm k152 ?_
   rintro _ u150 g151 ⟨r148, rfl, h149⟩
   refine zzi ⟨41, r148.cs⟩ ty41 ?_
   refine zzb 73 [(4, .adr 4 0)] [(4, ⟨41, r148.cs⟩)] ?_
   refine zzn (ret0 [r148.v] ⟨zzq ty41 zzd, trivial⟩ fun u153 e154 => ?_)
   refine ⟨r148, rfl, RatN.more (K := (max (max (K + L) (L + K) + 1) (K + L))) ?_ (by omega)⟩
   rw [hq12, hq17, ← Nt.add_mk hp12 hp17]
   exact (h149.ext e154)
set_option maxHeartbeats 1000000 in
theorem k_ratMul {u w : World} {r1 : RL} {x : Rat} {K : Nat} {r2 : RL} {y : Rat} {L : Nat} (d : Dat u w) (hr1 : RatV u r1 x K) (hr2 : RatV u r2 y L) (hK : K ≤ 200000000) (hL : L ≤ 200000000) : Calls Tryz.prog 62 #[r1.v, r2.v] w (Post u w fun v u' => ∃ r : RL, v = r.v ∧ RatN u' r (x * y) (K + L)) := by
 refine zzl (args := [r1.v, r2.v]) Tryz.func62 rfl Tryz.ntmps62 (rs := [.cell 4 41]) Tryz.results62 (le_b rfl) (le_b rfl) d ?_
 refine sq9 ?_
 refine zzj 2 ⟨41, r1.cs⟩ ?_
 refine zzj 3 ⟨41, r2.cs⟩ ?_
 refine zzj 4 ⟨41, [.bool false, .slice none 0 0, .slice none 0 0]⟩ ?_
 refine zzb 37 [(2, .adr 2 0), (3, .adr 3 0), (4, .adr 4 0)] [(2, ⟨41, r1.cs⟩), (3, ⟨41, r2.cs⟩), (4, ⟨41, [.bool false, .slice none 0 0, .slice none 0 0]⟩)] ?_
 refine zzc ?_
 refine zzy [0, 1, 0, 7, 0, 0, 63, 127] [(0, []), (2, []), (4, []), (5, []), (1, []), (3, []), (6, []), (7, [])] (by kernel_rfl) (by kernel_rfl) ?_
 refine zzh 8 (.v (r1.v)) ty41 zzd ?_
 refine zzh 10 (.v (r2.v)) ty41 zzd ?_
 refine zzj 5 ⟨166, [.bool false, .slice none 0 0, .slice none 0 0, .bool false]⟩ ?_
 refine zzj 6 ⟨166, [.bool false, .slice none 0 0, .slice none 0 0, .bool false]⟩ ?_
 refine zzf 9 132 [r1.v] ?_
 intro w11 u11 e11 d11
 have k15 := k_read d11 (hr1.ext e11)
 with_reducible refine zPm k15 ?_
 rintro _ u13 g14 ⟨r12, wh12, rfl, z12, D12, hi12, hd12, hp12, hq12, hw12, hk12⟩
 refine zzf 11 132 [r2.v] ?_
 intro w16 u16 e16 d16
 have k20 := k_read d16 (hr2.ext (e11.trans (g14.ext.trans e16)))
 with_reducible refine zPm k20 ?_
 rintro _ u18 g19 ⟨r17, wh17, rfl, z17, D17, hi17, hd17, hp17, hq17, hw17, hk17⟩
 refine zzi ⟨166, r12.cs ++ [.bool wh12]⟩ ty166 ?_
 refine zzi ⟨166, r17.cs ++ [.bool wh17]⟩ ty166 ?_
 refine zzb 37 [(4, .adr 4 0), (5, .adr 5 0), (6, .adr 6 0)] [(4, ⟨41, [.bool false, .slice none 0 0, .slice none 0 0]⟩), (5, ⟨166, r12.cs ++ [.bool wh12]⟩), (6, ⟨166, r17.cs ++ [.bool wh17]⟩)] ?_
 refine sq9 ?_
 refine zza 12 (.adr 5 0) ?_
 refine zza 13 (.adr 5 0) ?_
 refine zzh 14 (.v (.agg #[.bool r12.s, r12.m.v])) ty39 zzd ?_
 refine zza 15 (.adr 6 0) ?_
 refine zza 16 (.adr 6 0) ?_
 refine zzh 17 (.v (.agg #[.bool r17.s, r17.m.v])) ty39 zzd ?_
 refine zzf 18 134 [.agg #[.bool r12.s, r12.m.v], .agg #[.bool r17.s, r17.m.v]] ?_
 intro w21 u21 e21 d21
 have k26 := k_intMul d21 (hi12.ext (e16.trans (g19.ext.trans e21))) (hi17.ext e21) (by omega) (by omega)
 with_reducible refine zPm k26 ?_
 rintro _ u24 g25 ⟨i22, rfl, h23⟩
 refine zzj 7 ⟨39, [.bool false, .slice none 0 0]⟩ ?_
 refine zzi ⟨39, i22.cs⟩ ty39 ?_
 refine zzb 37 [(4, .adr 4 0), (5, .adr 5 0), (6, .adr 6 0), (7, .adr 7 0)] [(4, ⟨41, [.bool false, .slice none 0 0, .slice none 0 0]⟩), (5, ⟨166, r12.cs ++ [.bool wh12]⟩), (6, ⟨166, r17.cs ++ [.bool wh17]⟩), (7, ⟨39, i22.cs⟩)] ?_
 refine zzc ?_
 refine sq9 ?_
 refine zza 19 (.adr 5 3) ?_
 refine zzh 20 (.v (.bool wh12)) ty4 zzk ?_
 rcases Bool.eq_false_or_eq_true wh12 with hs27 | hs27
 ·refine zyp 21 (x := .v (.bool wh12)) (.v (.bool true)) (by rw [hs27]) ?_
  refine zza 22 (.adr 6 3) ?_ (hw := w1 2 true 21)
  refine zzh 23 (.v (.bool wh17)) ty4 zzk ?_ (hw := w1 2 true 21)
  refine zza 24 (.v (.bool wh17)) ?_
  refine zzb 37 [(4, .adr 4 0), (5, .adr 5 0), (6, .adr 6 0), (7, .adr 7 0), (24, .v (.bool wh17))] [(4, ⟨41, [.bool false, .slice none 0 0, .slice none 0 0]⟩), (5, ⟨166, r12.cs ++ [.bool wh12]⟩), (6, ⟨166, r17.cs ++ [.bool wh17]⟩), (7, ⟨39, i22.cs⟩)] ?_
  refine zzt (b := wh17) (by kernel_rfl) (fun hb28 => ?_) (fun hb28 => ?_)
  ·replace hb28 : wh17 = true := hb28
   refine sq9 ?_
   refine zzh 25 (.v (i22.v)) ty39 zzd ?_
   refine zzf 26 141 [i22.v] ?_
   intro w29 u29 e29 d29
   have k34 := k_whole (i := i22) d29
   with_reducible refine zPm k34 ?_
   rintro _ u32 g33 ⟨y30, rfl, h31⟩
   refine zzi ⟨41, i22.cs ++ [y30.v]⟩ ty41 ?_
   refine zzb 37 [(4, .adr 4 0)] [(4, ⟨41, i22.cs ++ [y30.v]⟩)] ?_
   refine zzn (zzv (ret0 [.agg #[.bool i22.s, .slice i22.m.a i22.m.n i22.m.c, .slice y30.a y30.n y30.c]] ⟨zzq ty41 zzd, trivial⟩ fun u35 e36 => ?_))
   refine ⟨(⟨i22.s, i22.m, y30⟩ : RL), rfl, RatN.more (K := (max (K + L) 1)) ?_ (by omega)⟩
   rw [hq12, hq17, hw12 (by assumption), hw17 (by assumption), Nt.mk_one, Nt.mk_one, ← Rat.intCast_mul]
   exact ((whole_rat (h23.ext (e29.trans g33.ext)) h31).ext e36)
  ·replace hb28 : wh17 = false := hb28
   refine zzr (zzo ?_)
   refine zzc ?_
   refine zzy [0, 0, 2, 6, 0, 16, 48, 126, 255, 511, 1023] [(0, []), (1, []), (2, []), (3, []), (4, []), (5, []), (6, []), (7, []), (8, []), (9, []), (10, [])] (by kernel_rfl) (by kernel_rfl) ?_
   refine zzh 27 (.v (i22.v)) ty39 zzd ?_
   refine zza 28 (.adr 5 0) ?_
   refine zza 29 (.adr 5 2) ?_
   refine zzh 30 (.v r12.d.v) ty37 zzk ?_
   refine zza 31 (.adr 6 0) ?_
   refine zza 32 (.adr 6 2) ?_
   refine zzh 33 (.v r17.d.v) ty37 zzk ?_
   refine zzf 34 143 [r12.d.v, r17.d.v] ?_
   intro w37 u37 e37 d37
   have k42 := k_natMul d37 (hd12.ext (e16.trans (g19.ext.trans (e21.trans (g25.ext.trans e37))))) (hd17.ext (e21.trans (g25.ext.trans e37))) (by omega) (by omega)
   with_reducible refine zPm k42 ?_
   rintro _ u40 g41 ⟨x38, rfl, h39⟩
   refine zza 35 (.v (.agg #[.bool i22.s, i22.m.v, x38.v])) ?_
   refine zzf 36 137 [.agg #[.bool i22.s, i22.m.v, x38.v]] ?_
   intro w43 u43 e43 d43
   have k48 := k_lowest d43 (h23.ext (e37.trans (g41.ext.trans e43))).raw (h39.ext e43).raw (Nat.mul_pos hp12 hp17) (by omega) (by omega)
   with_reducible refine zPm k48 ?_
   rintro _ u46 g47 ⟨r44, rfl, h45⟩
   refine zzi ⟨41, r44.cs⟩ ty41 ?_
   refine zzb 37 [(4, .adr 4 0)] [(4, ⟨41, r44.cs⟩)] ?_
   refine zzn (ret0 [r44.v] ⟨zzq ty41 zzd, trivial⟩ fun u49 e50 => ?_)
   refine ⟨r44, rfl, RatN.more (K := (max (K + L) (K + L))) ?_ (by omega)⟩
   rw [hq12, hq17, ← Nt.mul_mk]
   exact (h45.ext e50)
 ·refine zyp 21 (x := .v (.bool wh12)) (.v (.bool false)) (by rw [hs27]) ?_
  refine zzm 22 (uw 2 true false 21) ?_
  refine zzm 23 (uw 2 true false 21) ?_
  refine zza 24 (.v (.bool false)) ?_
  refine zzb 37 [(4, .adr 4 0), (5, .adr 5 0), (6, .adr 6 0), (7, .adr 7 0), (24, .v (.bool false))] [(4, ⟨41, [.bool false, .slice none 0 0, .slice none 0 0]⟩), (5, ⟨166, r12.cs ++ [.bool wh12]⟩), (6, ⟨166, r17.cs ++ [.bool wh17]⟩), (7, ⟨39, i22.cs⟩)] ?_
  refine zyr (by kernel_rfl) ?_
  refine zzr (zzo ?_)
  refine zzc ?_
  refine zzy [0, 0, 2, 6, 0, 16, 48, 126, 255, 511, 1023] [(0, []), (1, []), (2, []), (3, []), (4, []), (5, []), (6, []), (7, []), (8, []), (9, []), (10, [])] (by kernel_rfl) (by kernel_rfl) ?_
  refine zzh 27 (.v (i22.v)) ty39 zzd ?_
  refine zza 28 (.adr 5 0) ?_
  refine zza 29 (.adr 5 2) ?_
  refine zzh 30 (.v r12.d.v) ty37 zzk ?_
  refine zza 31 (.adr 6 0) ?_
  refine zza 32 (.adr 6 2) ?_
  refine zzh 33 (.v r17.d.v) ty37 zzk ?_
  refine zzf 34 143 [r12.d.v, r17.d.v] ?_
  intro w51 u51 e51 d51
  have k56 := k_natMul d51 (hd12.ext (e16.trans (g19.ext.trans (e21.trans (g25.ext.trans e51))))) (hd17.ext (e21.trans (g25.ext.trans e51))) (by omega) (by omega)
  with_reducible refine zPm k56 ?_
  rintro _ u54 g55 ⟨x52, rfl, h53⟩
  refine zza 35 (.v (.agg #[.bool i22.s, i22.m.v, x52.v])) ?_
  refine zzf 36 137 [.agg #[.bool i22.s, i22.m.v, x52.v]] ?_
  intro w57 u57 e57 d57
  have k62 := k_lowest d57 (h23.ext (e51.trans (g55.ext.trans e57))).raw (h53.ext e57).raw (Nat.mul_pos hp12 hp17) (by omega) (by omega)
  with_reducible refine zPm k62 ?_
  rintro _ u60 g61 ⟨r58, rfl, h59⟩
  refine zzi ⟨41, r58.cs⟩ ty41 ?_
  refine zzb 37 [(4, .adr 4 0)] [(4, ⟨41, r58.cs⟩)] ?_
  refine zzn (ret0 [r58.v] ⟨zzq ty41 zzd, trivial⟩ fun u63 e64 => ?_)
  refine ⟨r58, rfl, RatN.more (K := (max (K + L) (K + L))) ?_ (by omega)⟩
  rw [hq12, hq17, ← Nt.mul_mk]
  exact (h59.ext e64)
theorem k_ratFrac {u w : World} {a b : Int} (d : Dat u w) (ha0 : -9223372036854775808 ≤ a) (ha1 : a ≤ 9223372036854775807) (hb0 : -9223372036854775808 ≤ b) (hb1 : b ≤ 9223372036854775807) : Calls Tryz.prog 95 #[.int .i64 a, .int .i64 b] w (Post u w fun v u' => ∃ r : RL, v = r.v ∧ RatN u' r ((a : Rat) / (b : Rat)) 2) := by
 refine zzl (args := [.int .i64 a, .int .i64 b]) Tryz.func95 rfl Tryz.ntmps95 (rs := [.cell 4 41]) Tryz.results95 (le_b rfl) (le_b rfl) d ?_
 refine sq9 ?_
 refine zzj 4 ⟨41, [.bool false, .slice none 0 0, .slice none 0 0]⟩ ?_
 refine zzb 14 [(0, .v (.int .i64 a)), (1, .v (.int .i64 b)), (4, .adr 4 0)] [(4, ⟨41, [.bool false, .slice none 0 0, .slice none 0 0]⟩)] ?_
 refine zzc ?_
 refine sq9 ?_
 refine zza 5 (.v (.int .i64 b)) ?_
 refine zza 6 (.v (.bool (b == 0))) ?_
 refine zzb 14 [(0, .v (.int .i64 a)), (1, .v (.int .i64 b)), (4, .adr 4 0), (6, .v (.bool (b == 0)))] [(4, ⟨41, [.bool false, .slice none 0 0, .slice none 0 0]⟩)] ?_
 refine zzt (b := b == 0) (by kernel_rfl) (fun hb11 => ?_) (fun hb11 => ?_)
 ·replace hb11 : (b == 0) = true := hb11
  refine sq9 ?_
  refine zzf 7 61 [.int .i64 0] ?_
  intro w12 u12 e12 d12
  have k17 := k_ratOf d12 (z := 0) (by omega) (by omega)
  with_reducible refine zPm k17 ?_
  rintro _ u15 g16 ⟨r13, rfl, h14⟩
  refine zzi ⟨41, r13.cs⟩ ty41 ?_
  refine zzb 14 [(4, .adr 4 0)] [(4, ⟨41, r13.cs⟩)] ?_
  refine zzn (zzv (ret0 [r13.v] ⟨zzq ty41 zzd, trivial⟩ fun u18 e19 => ?_))
  refine ⟨r13, rfl, RatN.more (K := 2) ?_ (by omega)⟩
  have hb0 : b = 0 := by simpa using hb11
  rw [hb0]; simp [Rat.div_def]; exact (h14.ext e19)
 ·replace hb11 : (b == 0) = false := hb11
  have hb0 : 0 < b.natAbs := by simp at hb11; omega
  refine zzr (zzo ?_)
  refine sq9 ?_
  refine zza 8 (.v (.int .i64 a)) ?_
  refine zzf 9 142 [.int .i64 a] ?_
  intro w20 u20 e20 d20
  have k25 := k_intOf d20 (z := a) (by omega) (by omega)
  with_reducible refine zPm k25 ?_
  rintro _ u23 g24 ⟨i21, rfl, h22⟩
  refine zza 10 (.v (.int .i64 b)) ?_
  refine zzf 11 142 [.int .i64 b] ?_
  intro w26 u26 e26 d26
  have k31 := k_intOf d26 (z := b) (by omega) (by omega)
  with_reducible refine zPm k31 ?_
  rintro _ u29 g30 ⟨i27, rfl, h28⟩
  refine zzf 12 136 [i21.v, i27.v] ?_
  intro w32 u32 e32 d32
  have k35 := k_quotient (i := i21) (j := i27) d32
  with_reducible refine zPm k35 ?_
  rintro _ u33 g34 rfl
  refine zzf 13 137 [.agg #[.bool (!(i21.s == i27.s)), i21.m.v, i27.m.v]] ?_
  intro w36 u36 e36 d36
  have k41 := k_lowest d36 ((quot_int (h22.ext (e26.trans (g30.ext.trans (e32.trans g34.ext)))) (h28.ext (e32.trans g34.ext))).ext e36) ((int_mag (h28.ext (e32.trans g34.ext))).ext e36).raw hb0 (by omega) (by omega)
  with_reducible refine zPm k41 ?_
  rintro _ u39 g40 ⟨r37, rfl, h38⟩
  refine zzi ⟨41, r37.cs⟩ ty41 ?_
  refine zzb 14 [(4, .adr 4 0)] [(4, ⟨41, r37.cs⟩)] ?_
  refine zzn (ret0 [r37.v] ⟨zzq ty41 zzd, trivial⟩ fun u42 e43 => ?_)
  refine ⟨r37, rfl, RatN.more (K := (max 2 2)) ?_ (by omega)⟩
  rw [← Nt.div_mk2 (by omega)]
  exact (h38.ext e43)
def DivR (x y : Rat) (K : Nat) (v : Value) (u : World) : Prop := (v = .tuple #[.agg #[.bool false, .slice none 0 0, .slice none 0 0], .int .i64 3] ∧ y = 0) ∨ (y ≠ 0 ∧ ∃ r : RL, v = .tuple #[r.v, .int .i64 0] ∧ RatN u r (x / y) K)
theorem k_cut {u w : World} {x : Sl} {l : List Rat} {K : Nat} (d : Dat u w) (hx : PolV u x l K) (hK : K ≤ 100000000) (hx9 : l.length ≤ 1000000000) : Calls Tryz.prog 128 #[x.v] w (Post u w fun v u' => v = .slice x.a (Nt.trimQ l).length x.c) := by
 have hlen := hx.len
 refine zzl (args := [.slice x.a x.n x.c]) Tryz.func128 rfl Tryz.ntmps128 (rs := [.tmp 2]) Tryz.results128 (le_b rfl) (le_b rfl) d ?_
 refine sq9 ?_
 refine zza 2 (.v (.slice none 0 0)) ?_
 refine zzb 22 [(0, .v x.v)] [] ?_
 refine sq9 ?_
 refine zza 4 (.v x.v) ?_
 refine zza 5 (.v (.int .i64 (x.n : Int))) ?_
 refine zza 3 (.v (.int .i64 (x.n : Int))) ?_
 refine zzb 22 [(0, .v x.v), (3, .v (.int .i64 (x.n : Int)))] [] ?_
 refine zzc ?_
 refine zzs ?_
 refine zym (I := fun m11 S' u' => ∃ (n : Nat), (m11 = n) ∧ (n ≤ l.length) ∧ (∀ i, n ≤ i → Nt.co l i = 0) ∧ (S' = St.of 22 [(0, .v (.slice x.a x.n x.c)), (3, .v (.int .i64 (n : Int)))] []) ∧ (Ext u u')) (fun m S u1 u2 e h => by obtain ⟨n, hm, p0, p1, hS, hE⟩ := h; exact ⟨n, hm, p0, p1, hS, hE.trans e⟩) _ (T := St.of 22 [(0, .v (.slice x.a x.n x.c)), (3, .v (.int .i64 (x.n : Int)))] []) (by exact zzu _ _ _) ⟨x.n, rfl, by omega, fun i hi => Nt.co_ge (by omega), rfl, (Ext.refl _)⟩ ?_
 rintro m11 _ u11 ⟨n, hm11, hn, hz, rfl, e11⟩
 refine zzc ?_
 refine sq9 ?_
 refine zza 6 (.v (.int .i64 (n : Int))) ?_
 refine zza 7 (.v (.bool (decide ((0 : Int) < (n : Int))))) ?_
 rcases Bool.eq_false_or_eq_true (decide ((0 : Int) < (n : Int))) with hs12 | hs12
 ·refine zyp 8 (x := .v (.bool (decide ((0 : Int) < (n : Int))))) (.v (.bool true)) (by rw [hs12]) ?_
  have qhs12 := of_decide_eq_true hs12
  refine zza 9 (.v x.v) ?_ (hw := w1 2 true 8)
  refine zza 10 (.v (.int .i64 (n : Int))) ?_ (hw := w1 2 true 8)
  refine zyp 11 (x := .v (.int .i64 (IntKind.i64.wrap ((n : Int) - 1)))) (.v (.int .i64 ((n - 1 : Nat) : Int))) (eqI (by rw [IntWalk.i64_in _ (by omega)]; omega)) ?_ (hw := w1 2 true 8)
  have hl13 := (hx.ext e11).len
  obtain ⟨r13, b13, o13, hA13, hc13, hr13⟩ := pol_at (hx.ext e11) (i := n - 1) (by omega)
  refine zzz 12 (o13 + (n - 1) * 3) (n := x.n) (off := o13) (sz := 3) (i := ((n - 1 : Nat) : Int)) (by omega) hA13 (by omega) (by omega) sl29 ?_ (hw := w1 2 true 8)
  refine zyl 13 r13.cs hc13 ty41 ?_ (hw := w1 2 true 8)
  refine zzf 14 131 [r13.v] ?_ (hw := w1 2 true 8)
  intro w14 u14 e14 d14
  have k17 := k_ratSign d14 (hr13.ext e14)
  with_reducible refine zPm k17 ?_
  rintro _ u15 g16 rfl
  refine zza 15 (.v (.bool ((Nt.sgQ (l.getD (n - 1) 0)) == 0))) ?_ (hw := w1 2 true 8)
  refine zza 16 (.v (.bool ((Nt.sgQ (l.getD (n - 1) 0)) == 0))) ?_
  refine zzb 22 [(0, .v x.v), (3, .v (.int .i64 (n : Int))), (16, .v (.bool ((Nt.sgQ (l.getD (n - 1) 0)) == 0)))] [] ?_
  refine zzt (b := (Nt.sgQ (l.getD (n - 1) 0)) == 0) (by kernel_rfl) (fun hb18 => ?_) (fun hb18 => ?_)
  ·replace hb18 : ((Nt.sgQ (l.getD (n - 1) 0)) == 0) = true := hb18
   refine zzr (zzo ?_)
   refine zzs ?_
   refine zze ?_
   refine zza 17 (.v (.int .i64 (n : Int))) ?_
   refine zyp 18 (x := .v (.int .i64 (IntKind.i64.wrap ((n : Int) - 1)))) (.v (.int .i64 ((n - 1 : Nat) : Int))) (eqI (by rw [IntWalk.i64_in _ (by omega)]; omega)) ?_
   refine zza 3 (.v (.int .i64 ((n - 1 : Nat) : Int))) ?_
   refine zzw ?_
   refine ⟨_, ?_, St.of 22 [(0, .v (.slice x.a x.n x.c)), (3, .v (.int .i64 ((n - 1 : Nat) : Int)))] [], by exact zzu _ _ _, n - 1, rfl, by omega, (fun i hi => by by_cases e : i = n - 1; (rw [e]; have h9 := hb18; rw [Nt.sgQ_eq] at h9; exact of_decide_eq_true h9); exact hz i (by omega)), rfl, (e11.trans (e14.trans g16.ext))⟩
   omega
  ·replace hb18 : ((Nt.sgQ (l.getD (n - 1) 0)) == 0) = false := hb18
   refine zyb ?_
   refine zzo ?_
   refine sq9 ?_
   refine zza 19 (.v x.v) ?_
   refine zza 20 (.v (.int .i64 (n : Int))) ?_
   have hl19 := (hx.ext (e11.trans (e14.trans g16.ext))).len
   have hc19 := (hx.ext (e11.trans (e14.trans g16.ext))).cap
   refine sy_front 21 (n := x.n) (c := x.c) n sl29 rfl (by omega) ?_
   refine zza 2 (.v (.slice x.a n x.c)) ?_
   refine zzb 22 [(2, .v (.slice x.a n x.c))] [] ?_
   refine zzn (ret0 [.slice x.a n x.c] ⟨zzp, trivial⟩ fun u20 e21 => ?_)
   have e := Nt.trim_len_of (l := l) hn hz (fun _ h => by have h9 := hb18; rw [Nt.sgQ_eq] at h9; exact of_decide_eq_false h9 h)
   show Value.slice _ _ _ = Value.slice _ _ _
   rw [e]
 ·refine zyp 8 (x := .v (.bool (decide ((0 : Int) < (n : Int))))) (.v (.bool false)) (by rw [hs12]) ?_
  have qhs12 := of_decide_eq_false hs12
  refine zzm 9 (uw 2 true false 8) ?_
  refine zzm 10 (uw 2 true false 8) ?_
  refine zzm 11 (uw 2 true false 8) ?_
  refine zzm 12 (uw 2 true false 8) ?_
  refine zzm 13 (uw 2 true false 8) ?_
  refine zzm 14 (uw 2 true false 8) ?_
  refine zzm 15 (uw 2 true false 8) ?_
  refine zza 16 (.v (.bool false)) ?_
  refine zzb 22 [(0, .v x.v), (3, .v (.int .i64 (n : Int))), (16, .v (.bool false))] [] ?_
  refine zyr (by kernel_rfl) ?_
  refine zyb ?_
  refine zzo ?_
  refine sq9 ?_
  refine zza 19 (.v x.v) ?_
  refine zza 20 (.v (.int .i64 (n : Int))) ?_
  have hl22 := (hx.ext e11).len
  have hc22 := (hx.ext e11).cap
  refine sy_front 21 (n := x.n) (c := x.c) n sl29 rfl (by omega) ?_
  refine zza 2 (.v (.slice x.a n x.c)) ?_
  refine zzb 22 [(2, .v (.slice x.a n x.c))] [] ?_
  refine zzn (ret0 [.slice x.a n x.c] ⟨zzp, trivial⟩ fun u23 e24 => ?_)
  have e := Nt.trim_len_of (l := l) hn hz (fun h => absurd h (by omega))
  show Value.slice _ _ _ = Value.slice _ _ _
  rw [e]
def NewR (u : World) (n : Nat) (t : List Rat) (K : Nat) (v : Value) (u' : World) : Prop := ∃ (b : Nat) (L : List RL), v = .slice (some ⟨b, 0, none⟩) n n ∧ u.heap.size ≤ b ∧ u'.heap[b]? = some (.cells (rcs L).toArray 41 (0, 0)) ∧ L.length = n ∧ RatsN u' L t K
theorem k_poScale {u w : World} {x : Sl} {l : List Rat} {r : RL} {q : Rat} {K M : Nat} (d : Dat u w) (hx : PolV u x l K) (hr : RatV u r q M) (hK : K ≤ 50000000) (hx9 : l.length ≤ 1000000000) (hM : M ≤ 50000000) : Calls Tryz.prog 50 #[x.v, r.v] w (Post u w fun v u' => ∃ y : Sl, v = y.v ∧ PolN u' y (Nt.trimQ (l.map (· * q))) (K + M)) := by
 have hlen := hx.len
 refine zzl (args := [.slice x.a x.n x.c, r.v]) Tryz.func50 rfl Tryz.ntmps50 (rs := [.tmp 4]) Tryz.results50 (le_b rfl) (le_b rfl) d ?_
 refine sq9 ?_
 refine zzj 3 ⟨41, r.cs⟩ ?_
 refine zza 4 (.v (.slice none 0 0)) ?_
 refine zzb 27 [(0, .v x.v), (3, .adr 3 0)] [(3, ⟨41, r.cs⟩)] ?_
 refine sq9 ?_
 refine zza 7 (.v x.v) ?_
 refine zza 8 (.v (.int .i64 (x.n : Int))) ?_
 refine sy_make 9 (T := 29) (E := 41) (z := .agg #[.bool false, .slice none 0 0, .slice none 0 0]) (size := 3) (bytes := 56) x.n (rcs (List.replicate x.n rl0)) (by kernel_rfl) (by kernel_rfl) rfl rfl (by omega) (by unfold maxLen; omega) (made_rcs _) ?_
 refine zza 5 (.slc 9 0 x.n x.n) ?_
 refine zzb 27 [(0, .v x.v), (3, .adr 3 0), (5, .slc 9 0 x.n x.n)] [(3, ⟨41, r.cs⟩), (9, ⟨41, rcs (List.replicate x.n rl0)⟩)] ?_
 refine zzc ?_
 refine sq9 ?_
 refine zza 10 (.slc 9 0 x.n x.n) ?_
 refine zza 11 (.v (.int .i64 (x.n : Int))) ?_
 refine zza 12 (.v (.int .i64 0)) ?_
 refine zzb 27 [(0, .v x.v), (3, .adr 3 0), (5, .slc 9 0 x.n x.n), (11, .v (.int .i64 (x.n : Int))), (12, .v (.int .i64 0))] [(3, ⟨41, r.cs⟩), (9, ⟨41, rcs (List.replicate x.n rl0)⟩)] ?_
 refine zzs ?_
 refine zym (I := fun m11 S' u' => ∃ (i : Nat) (L : List RL), (m11 = x.n - i) ∧ (i ≤ x.n) ∧ (L.length = x.n) ∧ (S' = St.of 27 [(0, .v (.slice x.a x.n x.c)), (3, .adr 3 0), (5, .slc 9 0 x.n x.n), (11, .v (.int .i64 (x.n : Int))), (12, .v (.int .i64 (i : Int)))] [(3, ⟨41, r.cs⟩), (9, ⟨41, rcs L⟩)]) ∧ (Ext u u') ∧ (RatsN u' (L.take i) ((l.map (· * q)).take i) (K + M))) (fun m S u1 u2 e h => by obtain ⟨i, L, hm, p0, p1, hS, hE, f0⟩ := h; exact ⟨i, L, hm, p0, p1, hS, hE.trans e, f0.ext e⟩) _ (T := St.of 27 [(0, .v (.slice x.a x.n x.c)), (3, .adr 3 0), (5, .slc 9 0 x.n x.n), (11, .v (.int .i64 (x.n : Int))), (12, .v (.int .i64 0))] [(3, ⟨41, r.cs⟩), (9, ⟨41, rcs (List.replicate x.n rl0)⟩)]) (by exact zzu _ _ _) ⟨0, List.replicate x.n rl0, rfl, by omega, by simp, rfl, (Ext.refl _), RatsN.tnil _ _ _ _⟩ ?_
 rintro m11 _ u11 ⟨i, L, hm11, hi, hL, rfl, e11, hR⟩
 refine sq9 ?_
 refine zza 13 (.v (.bool (decide ((i : Int) < (x.n : Int))))) ?_
 refine zzb 27 [(0, .v x.v), (3, .adr 3 0), (5, .slc 9 0 x.n x.n), (11, .v (.int .i64 (x.n : Int))), (12, .v (.int .i64 (i : Int))), (13, .v (.bool (decide ((i : Int) < (x.n : Int)))))] [(3, ⟨41, r.cs⟩), (9, ⟨41, rcs L⟩)] ?_
 refine zzc ?_
 refine zzt (b := decide ((i : Int) < (x.n : Int))) (by kernel_rfl) (fun hb12 => ?_) (fun hb12 => ?_)
 ·replace hb12 : (decide ((i : Int) < (x.n : Int))) = true := hb12
  have qhb12 := of_decide_eq_true hb12
  refine zzr (zzo ?_)
  refine zzc ?_
  refine zzs ?_
  refine sq9 ?_
  refine zza 14 (.v (.int .i64 (i : Int))) ?_
  refine zza 6 (.v (.int .i64 (i : Int))) ?_
  refine zzb 27 [(0, .v x.v), (3, .adr 3 0), (5, .slc 9 0 x.n x.n), (6, .v (.int .i64 (i : Int))), (11, .v (.int .i64 (x.n : Int))), (12, .v (.int .i64 (i : Int)))] [(3, ⟨41, r.cs⟩), (9, ⟨41, rcs L⟩)] ?_
  refine zzy [0, 0, 0, 0, 12, 28, 0, 124, 255, 511] [(0, []), (1, []), (2, []), (3, []), (4, []), (5, []), (6, []), (7, []), (8, []), (9, [])] (by kernel_rfl) (by kernel_rfl) ?_
  refine zza 15 (.slc 9 0 x.n x.n) ?_
  refine zza 16 (.v (.int .i64 (i : Int))) ?_
  refine zza 17 (.v x.v) ?_
  refine zza 18 (.v (.int .i64 (i : Int))) ?_
  have hl13 := (hx.ext e11).len
  obtain ⟨r13, b13, o13, hA13, hc13, hr13⟩ := pol_at (hx.ext e11) (i := i) (by omega)
  refine zzz 19 (o13 + i * 3) (n := x.n) (off := o13) (sz := 3) (i := (i : Int)) (by omega) hA13 (by omega) (by omega) sl29 ?_
  refine zyl 20 r13.cs hc13 ty41 ?_
  refine zzh 21 (.v (r.v)) ty41 zzd ?_
  refine zzf 22 62 [r13.v, r.v] ?_
  intro w14 u14 e14 d14
  have k19 := k_ratMul d14 (hr13.ext e14) (hr.ext (e11.trans e14)) (by omega) (by omega)
  with_reducible refine zPm k19 ?_
  rintro _ u17 g18 ⟨r15, rfl, h16⟩
  refine zyv 23 (off' := i * 3) (n := x.n) (off := 0) (sz := 3) (i := (i : Int)) sl29 (by omega) (by omega) (by omega) ?_
  refine zyu (V := ⟨41, rcs L⟩) (off := i * 3) (rcs ((L).set i r15)) ty41 (by rw [zyx]; first|omega|(simp;omega)) (zyw (r := r15) (i := i) (by first|omega|(simp;omega)) rfl) ?_
  refine zzw ?_
  refine zzo ?_
  refine zze ?_
  refine zyp 24 (x := .v (.int .i64 (IntKind.i64.wrap ((i : Int) + 1)))) (.v (.int .i64 ((i + 1 : Nat) : Int))) (eqI (by rw [IntWalk.i64_in _ (by omega)]; omega)) ?_
  refine zza 12 (.v (.int .i64 ((i + 1 : Nat) : Int))) ?_
  refine zzw ?_
  have ht20 : i < (l.map (· * q)).length := by simp; omega
  refine ⟨_, ?_, St.of 27 [(0, .v (.slice x.a x.n x.c)), (3, .adr 3 0), (5, .slc 9 0 x.n x.n), (11, .v (.int .i64 (x.n : Int))), (12, .v (.int .i64 ((i + 1 : Nat) : Int)))] [(3, ⟨41, r.cs⟩), (9, ⟨41, rcs ((L).set i r15)⟩)], by exact zzu _ _ _, i + 1, (L).set i r15, rfl, by omega, by simpa using hL, rfl, (e11.trans (e14.trans g18.ext)), RatsN.tstep (hR.ext (e14.trans g18.ext)) (by omega) ht20 (RatN.more (K := (K + M)) h16 (by omega)) (by simp [List.getElem?_eq_getElem (show i < l.length by omega)])⟩
  omega
 ·replace hb12 : (decide ((i : Int) < (x.n : Int))) = false := hb12
  have qhb12 := of_decide_eq_false hb12
  refine zyb ?_
  refine zzo ?_
  refine zzc ?_
  refine zyo (r := 5) (t := 9) [5, 9] (by repeat first | exact noAt_of | refine zyc ?_ | refine zye ?_ | refine zyd ?_ | refine zzx ?_ | refine zya ?_) (by kernel_rfl) (by rfl) (by rfl) (by kernel_rfl) (fun b21 u22 e23 hb24 hh25 => ?_)
  have hp26 : PolN u22 ⟨some ⟨b21, 0, none⟩, x.n, x.n⟩ (l.map (· * q)) (K + M) := pol_data1 hh25 (by unfold maxLen; omega) (RatsN.tdone (hR.ext e23) (by omega) (by simp; omega)) (by omega)
  refine zze ?_
  refine zza 25 (.v (.slice (some ⟨b21, 0, none⟩) x.n x.n)) ?_
  refine zzf 26 128 [.slice (some ⟨b21, 0, none⟩) x.n x.n] ?_
  intro w27 u27 e27 d27
  have k30 := k_cut d27 (hp26.ext e27).raw (by omega) (by first|omega|(simp;omega) | (refine Nat.le_trans (Nt.zzg _) ?_; first|omega|(simp;omega)) | (refine Nat.le_trans (Nt.zzg _) ?_; simp only [List.length_map]; refine Nat.le_trans (Nt.zzg _) ?_; first|omega|(simp;omega)))
  with_reducible refine zPm k30 ?_
  rintro _ u28 g29 rfl
  refine zza 4 (.v (.slice (some ⟨b21, 0, none⟩) (Nt.trimQ (l.map (· * q))).length x.n)) ?_
  refine zzb 27 [(4, .v (.slice (some ⟨b21, 0, none⟩) (Nt.trimQ (l.map (· * q))).length x.n))] [] ?_
  refine zzn (ret0 [.slice (some ⟨b21, 0, none⟩) (Nt.trimQ (l.map (· * q))).length x.n] ⟨zzp, trivial⟩ fun u31 e32 => ?_)
  refine ⟨(⟨some ⟨b21, 0, none⟩, (Nt.trimQ (l.map (· * q))).length, x.n⟩ : Sl), rfl, ?_⟩
  exact ((cut_N (hp26.ext (e27.trans g29.ext))).ext e32)
theorem k_poTrim {u w : World} {x : Sl} {l : List Rat} {K : Nat} (d : Dat u w) (hx : PolV u x l K) (hK : K ≤ 50000000) (hx9 : l.length ≤ 1000000000) : Calls Tryz.prog 53 #[x.v] w (Post u w fun v u' => ∃ y : Sl, v = y.v ∧ PolN u' y (Nt.trimQ l) K) := by
 have hlen := hx.len
 have htl := Nt.zzg l
 refine zzl (args := [.slice x.a x.n x.c]) Tryz.func53 rfl Tryz.ntmps53 (rs := [.tmp 2]) Tryz.results53 (le_b rfl) (le_b rfl) d ?_
 refine sq9 ?_
 refine zza 2 (.v (.slice none 0 0)) ?_
 refine zzb 24 [(0, .v x.v)] [] ?_
 refine sq9 ?_
 refine zza 5 (.v x.v) ?_
 refine zzf 6 128 [x.v] ?_
 intro w11 u11 e11 d11
 have k14 := k_cut d11 (hx.ext e11) (by omega) (by first|omega|(simp;omega) | (refine Nat.le_trans (Nt.zzg _) ?_; first|omega|(simp;omega)) | (refine Nat.le_trans (Nt.zzg _) ?_; simp only [List.length_map]; refine Nat.le_trans (Nt.zzg _) ?_; first|omega|(simp;omega)))
 with_reducible refine zPm k14 ?_
 rintro _ u12 g13 rfl
 refine zza 7 (.v (.int .i64 (((Nt.trimQ l).length : Nat) : Int))) ?_
 refine sy_make 8 (T := 29) (E := 41) (z := .agg #[.bool false, .slice none 0 0, .slice none 0 0]) (size := 3) (bytes := 56) ((Nt.trimQ l).length) (rcs (List.replicate ((Nt.trimQ l).length) rl0)) (by kernel_rfl) (by kernel_rfl) rfl rfl (by omega) (by unfold maxLen; omega) (made_rcs _) ?_
 refine zza 3 (.slc 8 0 ((Nt.trimQ l).length) ((Nt.trimQ l).length)) ?_
 refine zzb 24 [(0, .v x.v), (3, .slc 8 0 ((Nt.trimQ l).length) ((Nt.trimQ l).length))] [(8, ⟨41, rcs (List.replicate ((Nt.trimQ l).length) rl0)⟩)] ?_
 refine zzc ?_
 refine sq9 ?_
 refine zza 9 (.slc 8 0 ((Nt.trimQ l).length) ((Nt.trimQ l).length)) ?_
 refine zza 10 (.v (.int .i64 (((Nt.trimQ l).length : Nat) : Int))) ?_
 refine zza 11 (.v (.int .i64 0)) ?_
 refine zzb 24 [(0, .v x.v), (3, .slc 8 0 ((Nt.trimQ l).length) ((Nt.trimQ l).length)), (10, .v (.int .i64 (((Nt.trimQ l).length : Nat) : Int))), (11, .v (.int .i64 0))] [(8, ⟨41, rcs (List.replicate ((Nt.trimQ l).length) rl0)⟩)] ?_
 refine zzs ?_
 refine zym (I := fun m15 S' u' => ∃ (i : Nat) (L : List RL), (m15 = ((Nt.trimQ l).length) - i) ∧ (i ≤ (Nt.trimQ l).length) ∧ (L.length = (Nt.trimQ l).length) ∧ (S' = St.of 24 [(0, .v (.slice x.a x.n x.c)), (3, .slc 8 0 ((Nt.trimQ l).length) ((Nt.trimQ l).length)), (10, .v (.int .i64 (((Nt.trimQ l).length : Nat) : Int))), (11, .v (.int .i64 (i : Int)))] [(8, ⟨41, rcs L⟩)]) ∧ (Ext u12 u') ∧ (RatsN u' (L.take i) ((Nt.trimQ l).take i) K)) (fun m S u1 u2 e h => by obtain ⟨i, L, hm, p0, p1, hS, hE, f0⟩ := h; exact ⟨i, L, hm, p0, p1, hS, hE.trans e, f0.ext e⟩) _ (T := St.of 24 [(0, .v (.slice x.a x.n x.c)), (3, .slc 8 0 ((Nt.trimQ l).length) ((Nt.trimQ l).length)), (10, .v (.int .i64 (((Nt.trimQ l).length : Nat) : Int))), (11, .v (.int .i64 0))] [(8, ⟨41, rcs (List.replicate ((Nt.trimQ l).length) rl0)⟩)]) (by exact zzu _ _ _) ⟨0, List.replicate ((Nt.trimQ l).length) rl0, rfl, by omega, by simp, rfl, (Ext.refl _), RatsN.tnil _ _ _ _⟩ ?_
 rintro m15 _ u15 ⟨i, L, hm15, hi, hL, rfl, e15, hR⟩
 refine sq9 ?_
 refine zza 12 (.v (.bool (decide ((i : Int) < (((Nt.trimQ l).length : Nat) : Int))))) ?_
 refine zzb 24 [(0, .v x.v), (3, .slc 8 0 ((Nt.trimQ l).length) ((Nt.trimQ l).length)), (10, .v (.int .i64 (((Nt.trimQ l).length : Nat) : Int))), (11, .v (.int .i64 (i : Int))), (12, .v (.bool (decide ((i : Int) < (((Nt.trimQ l).length : Nat) : Int)))))] [(8, ⟨41, rcs L⟩)] ?_
 refine zzc ?_
 refine zzt (b := decide ((i : Int) < (((Nt.trimQ l).length : Nat) : Int))) (by kernel_rfl) (fun hb16 => ?_) (fun hb16 => ?_)
 ·replace hb16 : (decide ((i : Int) < (((Nt.trimQ l).length : Nat) : Int))) = true := hb16
  have qhb16 := of_decide_eq_true hb16
  refine zzr (zzo ?_)
  refine zzc ?_
  refine zzs ?_
  refine sq9 ?_
  refine zza 13 (.v (.int .i64 (i : Int))) ?_
  refine zza 4 (.v (.int .i64 (i : Int))) ?_
  refine zzb 24 [(0, .v x.v), (3, .slc 8 0 ((Nt.trimQ l).length) ((Nt.trimQ l).length)), (4, .v (.int .i64 (i : Int))), (10, .v (.int .i64 (((Nt.trimQ l).length : Nat) : Int))), (11, .v (.int .i64 (i : Int)))] [(8, ⟨41, rcs L⟩)] ?_
  refine zze ?_
  refine zza 14 (.slc 8 0 ((Nt.trimQ l).length) ((Nt.trimQ l).length)) ?_
  refine zza 15 (.v (.int .i64 (i : Int))) ?_
  refine zza 16 (.v x.v) ?_
  refine zza 17 (.v (.int .i64 (i : Int))) ?_
  have hl17 := (hx.ext (e11.trans (g13.ext.trans e15))).len
  obtain ⟨r17, b17, o17, hA17, hc17, hr17⟩ := pol_at (hx.ext (e11.trans (g13.ext.trans e15))) (i := i) (by omega)
  refine zzz 18 (o17 + i * 3) (n := x.n) (off := o17) (sz := 3) (i := (i : Int)) (by omega) hA17 (by omega) (by omega) sl29 ?_
  refine zyl 19 r17.cs hc17 ty41 ?_
  refine zzf 20 58 [r17.v] ?_
  intro w18 u18 e18 d18
  have k23 := k_ratTrim d18 (hr17.ext e18) (by omega)
  with_reducible refine zPm k23 ?_
  rintro _ u21 g22 ⟨r19, rfl, h20⟩
  refine zyv 21 (off' := i * 3) (n := (Nt.trimQ l).length) (off := 0) (sz := 3) (i := (i : Int)) sl29 (by omega) (by omega) (by omega) ?_
  refine zyu (V := ⟨41, rcs L⟩) (off := i * 3) (rcs ((L).set i r19)) ty41 (by rw [zyx]; first|omega|(simp;omega)) (zyw (r := r19) (i := i) (by first|omega|(simp;omega)) rfl) ?_
  refine zzw ?_
  refine zzo ?_
  refine zze ?_
  refine zyp 22 (x := .v (.int .i64 (IntKind.i64.wrap ((i : Int) + 1)))) (.v (.int .i64 ((i + 1 : Nat) : Int))) (eqI (by rw [IntWalk.i64_in _ (by omega)]; omega)) ?_
  refine zza 11 (.v (.int .i64 ((i + 1 : Nat) : Int))) ?_
  refine zzw ?_
  have ht24 : i < (Nt.trimQ l).length := by skip; omega
  refine ⟨_, ?_, St.of 24 [(0, .v (.slice x.a x.n x.c)), (3, .slc 8 0 ((Nt.trimQ l).length) ((Nt.trimQ l).length)), (10, .v (.int .i64 (((Nt.trimQ l).length : Nat) : Int))), (11, .v (.int .i64 ((i + 1 : Nat) : Int)))] [(8, ⟨41, rcs ((L).set i r19)⟩)], by exact zzu _ _ _, i + 1, (L).set i r19, rfl, by omega, by simpa using hL, rfl, (e15.trans (e18.trans g22.ext)), RatsN.tstep (hR.ext (e18.trans g22.ext)) (by omega) ht24 (RatN.more (K := K) h20 (by omega)) (Nt.trim_co l i).symm⟩
  omega
 ·replace hb16 : (decide ((i : Int) < (((Nt.trimQ l).length : Nat) : Int))) = false := hb16
  have qhb16 := of_decide_eq_false hb16
  refine zyb ?_
  refine zzo ?_
  refine zzc ?_
  refine zyo (r := 3) (t := 8) [3, 8] (by repeat first | exact noAt_of | refine zyc ?_ | refine zye ?_ | refine zyd ?_ | refine zzx ?_ | refine zya ?_) (by kernel_rfl) (by rfl) (by rfl) (by kernel_rfl) (fun b25 u26 e27 hb28 hh29 => ?_)
  have hp30 : PolN u26 ⟨some ⟨b25, 0, none⟩, (Nt.trimQ l).length, (Nt.trimQ l).length⟩ (Nt.trimQ l) K := pol_data1 hh29 (by unfold maxLen; omega) (RatsN.tdone (hR.ext e27) (by omega) (by skip; omega)) (by omega)
  refine zze ?_
  refine zza 23 (.v (.slice (some ⟨b25, 0, none⟩) ((Nt.trimQ l).length) ((Nt.trimQ l).length))) ?_
  refine zza 2 (.v (.slice (some ⟨b25, 0, none⟩) ((Nt.trimQ l).length) ((Nt.trimQ l).length))) ?_
  refine zzb 24 [(2, .v (.slice (some ⟨b25, 0, none⟩) ((Nt.trimQ l).length) ((Nt.trimQ l).length)))] [] ?_
  refine zzn (ret0 [.slice (some ⟨b25, 0, none⟩) ((Nt.trimQ l).length) ((Nt.trimQ l).length)] ⟨zzp, trivial⟩ fun u31 e32 => ?_)
  refine ⟨(⟨some ⟨b25, 0, none⟩, (Nt.trimQ l).length, (Nt.trimQ l).length⟩ : Sl), rfl, ?_⟩
  exact (hp30.ext e32)
theorem k_poAdd {u w : World} {x : Sl} {l : List Rat} {y : Sl} {m : List Rat} {K M : Nat} (d : Dat u w) (hx : PolV u x l K) (hy : PolV u y m M) (hK : K ≤ 40000000) (hM : M ≤ 40000000) (hx9 : l.length ≤ 1000000000) (hy9 : m.length ≤ 1000000000) : Calls Tryz.prog 49 #[x.v, y.v] w (Post u w fun v u' => ∃ y : Sl, v = y.v ∧ PolN u' y (Nt.trimQ (Nt.addQ l m)) (K + M + 1)) := by
 have hlen := hx.len
 have hlen2 := hy.len
 refine zzl (args := [.slice x.a x.n x.c, .slice y.a y.n y.c]) Tryz.func49 rfl Tryz.ntmps49 (rs := [.tmp 4]) Tryz.results49 (le_b rfl) (le_b rfl) d ?_
 refine sq9 ?_
 refine zza 4 (.v (.slice none 0 0)) ?_
 refine zzb 49 [(0, .v x.v), (1, .v y.v)] [] ?_
 refine zzc ?_
 refine sq9 ?_
 refine zza 7 (.v x.v) ?_
 refine zza 8 (.v (.int .i64 (x.n : Int))) ?_
 refine zza 9 (.v y.v) ?_
 refine zza 10 (.v (.int .i64 (y.n : Int))) ?_
 refine zza 11 (.v (.bool (decide ((x.n : Int) < (y.n : Int))))) ?_
 refine zzb 49 [(0, .v x.v), (1, .v y.v), (11, .v (.bool (decide ((x.n : Int) < (y.n : Int)))))] [] ?_
 refine zzt (b := decide ((x.n : Int) < (y.n : Int))) (by kernel_rfl) (fun hb11 => ?_) (fun hb11 => ?_)
 ·replace hb11 : (decide ((x.n : Int) < (y.n : Int))) = true := hb11
  have qhb11 := of_decide_eq_true hb11
  refine zze ?_
  refine zza 12 (.v y.v) ?_
  refine zza 13 (.v x.v) ?_
  refine zza 0 (.v y.v) ?_
  refine zza 1 (.v x.v) ?_
  refine zzb 49 [(0, .v y.v), (1, .v x.v)] [] ?_
  refine sq9 ?_
  refine zza 14 (.v y.v) ?_
  refine zza 15 (.v (.int .i64 (y.n : Int))) ?_
  refine sy_make 16 (T := 29) (E := 41) (z := .agg #[.bool false, .slice none 0 0, .slice none 0 0]) (size := 3) (bytes := 56) y.n (rcs (List.replicate y.n rl0)) (by kernel_rfl) (by kernel_rfl) rfl rfl (by omega) (by unfold maxLen; omega) (made_rcs _) ?_
  refine zza 5 (.slc 16 0 y.n y.n) ?_
  refine zzb 49 [(0, .v y.v), (1, .v x.v), (5, .slc 16 0 y.n y.n)] [(16, ⟨41, rcs (List.replicate y.n rl0)⟩)] ?_
  refine zzc ?_
  refine sq9 ?_
  refine zza 17 (.slc 16 0 y.n y.n) ?_
  refine zza 18 (.v (.int .i64 (y.n : Int))) ?_
  refine zza 19 (.v (.int .i64 0)) ?_
  refine zzb 49 [(0, .v y.v), (1, .v x.v), (5, .slc 16 0 y.n y.n), (18, .v (.int .i64 (y.n : Int))), (19, .v (.int .i64 0))] [(16, ⟨41, rcs (List.replicate y.n rl0)⟩)] ?_
  refine zzs ?_
  refine zym (I := fun m12 S' u' => ∃ (i : Nat) (L : List RL), (m12 = y.n - i) ∧ (i ≤ y.n) ∧ (L.length = y.n) ∧ (S' = St.of 49 [(0, .v (.slice y.a y.n y.c)), (1, .v (.slice x.a x.n x.c)), (5, .slc 16 0 y.n y.n), (18, .v (.int .i64 (y.n : Int))), (19, .v (.int .i64 (i : Int)))] [(16, ⟨41, rcs L⟩)]) ∧ (Ext u u') ∧ (RatsN u' (L.take i) ((Nt.addQ l m).take i) (K + M + 1))) (fun m S u1 u2 e h => by obtain ⟨i, L, hm, p0, p1, hS, hE, f0⟩ := h; exact ⟨i, L, hm, p0, p1, hS, hE.trans e, f0.ext e⟩) _ (T := St.of 49 [(0, .v (.slice y.a y.n y.c)), (1, .v (.slice x.a x.n x.c)), (5, .slc 16 0 y.n y.n), (18, .v (.int .i64 (y.n : Int))), (19, .v (.int .i64 0))] [(16, ⟨41, rcs (List.replicate y.n rl0)⟩)]) (by exact zzu _ _ _) ⟨0, List.replicate y.n rl0, rfl, by omega, by simp, rfl, (Ext.refl _), RatsN.tnil _ _ _ _⟩ ?_
  rintro m12 _ u12 ⟨i, L, hm12, hi, hL, rfl, e12, hR⟩
  refine sq9 ?_
  refine zza 20 (.v (.bool (decide ((i : Int) < (y.n : Int))))) ?_
  refine zzb 49 [(0, .v y.v), (1, .v x.v), (5, .slc 16 0 y.n y.n), (18, .v (.int .i64 (y.n : Int))), (19, .v (.int .i64 (i : Int))), (20, .v (.bool (decide ((i : Int) < (y.n : Int)))))] [(16, ⟨41, rcs L⟩)] ?_
  refine zzc ?_
  refine zzt (b := decide ((i : Int) < (y.n : Int))) (by kernel_rfl) (fun hb13 => ?_) (fun hb13 => ?_)
  ·replace hb13 : (decide ((i : Int) < (y.n : Int))) = true := hb13
   have qhb13 := of_decide_eq_true hb13
   refine zzr (zzo ?_)
   refine zzc ?_
   refine zzs ?_
   refine sq9 ?_
   refine zza 21 (.v (.int .i64 (i : Int))) ?_
   refine zza 6 (.v (.int .i64 (i : Int))) ?_
   refine zzb 49 [(0, .v y.v), (1, .v x.v), (5, .slc 16 0 y.n y.n), (6, .v (.int .i64 (i : Int))), (18, .v (.int .i64 (y.n : Int))), (19, .v (.int .i64 (i : Int)))] [(16, ⟨41, rcs L⟩)] ?_
   refine sq9 ?_
   refine zza 22 (.v (.int .i64 (i : Int))) ?_
   refine zza 23 (.v x.v) ?_
   refine zza 24 (.v (.int .i64 (x.n : Int))) ?_
   refine zza 25 (.v (.bool (decide ((i : Int) < (x.n : Int))))) ?_
   refine zzb 49 [(0, .v y.v), (1, .v x.v), (5, .slc 16 0 y.n y.n), (6, .v (.int .i64 (i : Int))), (18, .v (.int .i64 (y.n : Int))), (19, .v (.int .i64 (i : Int))), (25, .v (.bool (decide ((i : Int) < (x.n : Int)))))] [(16, ⟨41, rcs L⟩)] ?_
   refine zzt (b := decide ((i : Int) < (x.n : Int))) (by kernel_rfl) (fun hb14 => ?_) (fun hb14 => ?_)
   ·replace hb14 : (decide ((i : Int) < (x.n : Int))) = true := hb14
    have qhb14 := of_decide_eq_true hb14
    refine zzy [0, 0, 0, 0, 12, 28, 0, 0, 192, 448, 1020, 2047, 4095] [(0, []), (1, []), (2, []), (3, []), (4, []), (5, []), (6, []), (7, []), (8, []), (9, []), (10, []), (11, []), (12, [])] (by kernel_rfl) (by kernel_rfl) ?_
    refine zza 26 (.slc 16 0 y.n y.n) ?_
    refine zza 27 (.v (.int .i64 (i : Int))) ?_
    refine zza 28 (.v y.v) ?_
    refine zza 29 (.v (.int .i64 (i : Int))) ?_
    have hl15 := (hy.ext e12).len
    obtain ⟨r15, b15, o15, hA15, hc15, hr15⟩ := pol_at (hy.ext e12) (i := i) (by omega)
    refine zzz 30 (o15 + i * 3) (n := y.n) (off := o15) (sz := 3) (i := (i : Int)) (by omega) hA15 (by omega) (by omega) sl29 ?_
    refine zyl 31 r15.cs hc15 ty41 ?_
    refine zza 32 (.v x.v) ?_
    refine zza 33 (.v (.int .i64 (i : Int))) ?_
    have hl16 := (hx.ext e12).len
    obtain ⟨r16, b16, o16, hA16, hc16, hr16⟩ := pol_at (hx.ext e12) (i := i) (by omega)
    refine zzz 34 (o16 + i * 3) (n := x.n) (off := o16) (sz := 3) (i := (i : Int)) (by omega) hA16 (by omega) (by omega) sl29 ?_
    refine zyl 35 r16.cs hc16 ty41 ?_
    refine zzf 36 127 [r15.v, r16.v] ?_
    intro w17 u17 e17 d17
    have k22 := k_ratAdd d17 (hr15.ext e17) (hr16.ext e17) (by omega) (by omega)
    with_reducible refine zPm k22 ?_
    rintro _ u20 g21 ⟨r18, rfl, h19⟩
    refine zyv 37 (off' := i * 3) (n := y.n) (off := 0) (sz := 3) (i := (i : Int)) sl29 (by omega) (by omega) (by omega) ?_
    refine zyu (V := ⟨41, rcs L⟩) (off := i * 3) (rcs ((L).set i r18)) ty41 (by rw [zyx]; first|omega|(simp;omega)) (zyw (r := r18) (i := i) (by first|omega|(simp;omega)) rfl) ?_
    refine zzw ?_
    refine zzo ?_
    refine zze ?_
    refine zyp 46 (x := .v (.int .i64 (IntKind.i64.wrap ((i : Int) + 1)))) (.v (.int .i64 ((i + 1 : Nat) : Int))) (eqI (by rw [IntWalk.i64_in _ (by omega)]; omega)) ?_
    refine zza 19 (.v (.int .i64 ((i + 1 : Nat) : Int))) ?_
    refine zzw ?_
    have ht23 : i < (Nt.addQ l m).length := by rw [Nt.addQ_len]; omega
    refine ⟨_, ?_, St.of 49 [(0, .v (.slice y.a y.n y.c)), (1, .v (.slice x.a x.n x.c)), (5, .slc 16 0 y.n y.n), (18, .v (.int .i64 (y.n : Int))), (19, .v (.int .i64 ((i + 1 : Nat) : Int)))] [(16, ⟨41, rcs ((L).set i r18)⟩)], by exact zzu _ _ _, i + 1, (L).set i r18, rfl, by omega, by simpa using hL, rfl, (e12.trans (e17.trans g21.ext)), RatsN.tstep (hR.ext (e17.trans g21.ext)) (by omega) ht23 (RatN.more (K := (M + K + 1)) h19 (by omega)) (by have h9 := Nt.addQ_co l m i; unfold Nt.co at h9; show _ = List.getD _ _ _; rw [h9]; exact Rat.add_comm _ _)⟩
    omega
   ·replace hb14 : (decide ((i : Int) < (x.n : Int))) = false := hb14
    have qhb14 := of_decide_eq_false hb14
    refine zze ?_
    refine zza 38 (.slc 16 0 y.n y.n) ?_
    refine zza 39 (.v (.int .i64 (i : Int))) ?_
    refine zza 40 (.v y.v) ?_
    refine zza 41 (.v (.int .i64 (i : Int))) ?_
    have hl24 := (hy.ext e12).len
    obtain ⟨r24, b24, o24, hA24, hc24, hr24⟩ := pol_at (hy.ext e12) (i := i) (by omega)
    refine zzz 42 (o24 + i * 3) (n := y.n) (off := o24) (sz := 3) (i := (i : Int)) (by omega) hA24 (by omega) (by omega) sl29 ?_
    refine zyl 43 r24.cs hc24 ty41 ?_
    refine zzf 44 58 [r24.v] ?_
    intro w25 u25 e25 d25
    have k30 := k_ratTrim d25 (hr24.ext e25) (by omega)
    with_reducible refine zPm k30 ?_
    rintro _ u28 g29 ⟨r26, rfl, h27⟩
    refine zyv 45 (off' := i * 3) (n := y.n) (off := 0) (sz := 3) (i := (i : Int)) sl29 (by omega) (by omega) (by omega) ?_
    refine zyu (V := ⟨41, rcs L⟩) (off := i * 3) (rcs ((L).set i r26)) ty41 (by rw [zyx]; first|omega|(simp;omega)) (zyw (r := r26) (i := i) (by first|omega|(simp;omega)) rfl) ?_
    refine zzw ?_
    refine zzo ?_
    refine zze ?_
    refine zyp 46 (x := .v (.int .i64 (IntKind.i64.wrap ((i : Int) + 1)))) (.v (.int .i64 ((i + 1 : Nat) : Int))) (eqI (by rw [IntWalk.i64_in _ (by omega)]; omega)) ?_
    refine zza 19 (.v (.int .i64 ((i + 1 : Nat) : Int))) ?_
    refine zzw ?_
    have ht31 : i < (Nt.addQ l m).length := by rw [Nt.addQ_len]; omega
    refine ⟨_, ?_, St.of 49 [(0, .v (.slice y.a y.n y.c)), (1, .v (.slice x.a x.n x.c)), (5, .slc 16 0 y.n y.n), (18, .v (.int .i64 (y.n : Int))), (19, .v (.int .i64 ((i + 1 : Nat) : Int)))] [(16, ⟨41, rcs ((L).set i r26)⟩)], by exact zzu _ _ _, i + 1, (L).set i r26, rfl, by omega, by simpa using hL, rfl, (e12.trans (e25.trans g29.ext)), RatsN.tstep (hR.ext (e25.trans g29.ext)) (by omega) ht31 (RatN.more (K := M) h27 (by omega)) (by have h9 := Nt.addQ_co l m i; unfold Nt.co at h9; show _ = List.getD _ _ _; rw [h9]; rw [show l.getD i 0 = 0 from Nt.co_ge (by omega)]; grind)⟩
    omega
  ·replace hb13 : (decide ((i : Int) < (y.n : Int))) = false := hb13
   have qhb13 := of_decide_eq_false hb13
   refine zyb ?_
   refine zzo ?_
   refine zzc ?_
   refine zyo (r := 5) (t := 16) [5, 16] (by repeat first | exact noAt_of | refine zyc ?_ | refine zye ?_ | refine zyd ?_ | refine zzx ?_ | refine zya ?_) (by kernel_rfl) (by rfl) (by rfl) (by kernel_rfl) (fun b32 u33 e34 hb35 hh36 => ?_)
   have hp37 : PolN u33 ⟨some ⟨b32, 0, none⟩, y.n, y.n⟩ (Nt.addQ l m) (K + M + 1) := pol_data1 hh36 (by unfold maxLen; omega) (RatsN.tdone (hR.ext e34) (by omega) (by rw [Nt.addQ_len]; omega)) (by omega)
   refine zze ?_
   refine zza 47 (.v (.slice (some ⟨b32, 0, none⟩) y.n y.n)) ?_
   refine zzf 48 128 [.slice (some ⟨b32, 0, none⟩) y.n y.n] ?_
   intro w38 u38 e38 d38
   have k41 := k_cut d38 (hp37.ext e38).raw (by omega) (by first|omega|(simp;omega) | (refine Nat.le_trans (Nt.zzg _) ?_; first|omega|(simp;omega)) | (refine Nat.le_trans (Nt.zzg _) ?_; simp only [List.length_map]; refine Nat.le_trans (Nt.zzg _) ?_; first|omega|(simp;omega)))
   with_reducible refine zPm k41 ?_
   rintro _ u39 g40 rfl
   refine zza 4 (.v (.slice (some ⟨b32, 0, none⟩) (Nt.trimQ (Nt.addQ l m)).length y.n)) ?_
   refine zzb 49 [(4, .v (.slice (some ⟨b32, 0, none⟩) (Nt.trimQ (Nt.addQ l m)).length y.n))] [] ?_
   refine zzn (ret0 [.slice (some ⟨b32, 0, none⟩) (Nt.trimQ (Nt.addQ l m)).length y.n] ⟨zzp, trivial⟩ fun u42 e43 => ?_)
   refine ⟨(⟨some ⟨b32, 0, none⟩, (Nt.trimQ (Nt.addQ l m)).length, y.n⟩ : Sl), rfl, ?_⟩
   exact ((cut_N (hp37.ext (e38.trans g40.ext))).ext e43)
 ·replace hb11 : (decide ((x.n : Int) < (y.n : Int))) = false := hb11
  have qhb11 := of_decide_eq_false hb11
  refine zzr (zzo ?_)
  refine sq9 ?_
  refine zza 14 (.v x.v) ?_
  refine zza 15 (.v (.int .i64 (x.n : Int))) ?_
  refine sy_make 16 (T := 29) (E := 41) (z := .agg #[.bool false, .slice none 0 0, .slice none 0 0]) (size := 3) (bytes := 56) x.n (rcs (List.replicate x.n rl0)) (by kernel_rfl) (by kernel_rfl) rfl rfl (by omega) (by unfold maxLen; omega) (made_rcs _) ?_
  refine zza 5 (.slc 16 0 x.n x.n) ?_
  refine zzb 49 [(0, .v x.v), (1, .v y.v), (5, .slc 16 0 x.n x.n)] [(16, ⟨41, rcs (List.replicate x.n rl0)⟩)] ?_
  refine zzc ?_
  refine sq9 ?_
  refine zza 17 (.slc 16 0 x.n x.n) ?_
  refine zza 18 (.v (.int .i64 (x.n : Int))) ?_
  refine zza 19 (.v (.int .i64 0)) ?_
  refine zzb 49 [(0, .v x.v), (1, .v y.v), (5, .slc 16 0 x.n x.n), (18, .v (.int .i64 (x.n : Int))), (19, .v (.int .i64 0))] [(16, ⟨41, rcs (List.replicate x.n rl0)⟩)] ?_
  refine zzs ?_
  refine zym (I := fun m44 S' u' => ∃ (i : Nat) (L : List RL), (m44 = x.n - i) ∧ (i ≤ x.n) ∧ (L.length = x.n) ∧ (S' = St.of 49 [(0, .v (.slice x.a x.n x.c)), (1, .v (.slice y.a y.n y.c)), (5, .slc 16 0 x.n x.n), (18, .v (.int .i64 (x.n : Int))), (19, .v (.int .i64 (i : Int)))] [(16, ⟨41, rcs L⟩)]) ∧ (Ext u u') ∧ (RatsN u' (L.take i) ((Nt.addQ l m).take i) (K + M + 1))) (fun m S u1 u2 e h => by obtain ⟨i, L, hm, p0, p1, hS, hE, f0⟩ := h; exact ⟨i, L, hm, p0, p1, hS, hE.trans e, f0.ext e⟩) _ (T := St.of 49 [(0, .v (.slice x.a x.n x.c)), (1, .v (.slice y.a y.n y.c)), (5, .slc 16 0 x.n x.n), (18, .v (.int .i64 (x.n : Int))), (19, .v (.int .i64 0))] [(16, ⟨41, rcs (List.replicate x.n rl0)⟩)]) (by exact zzu _ _ _) ⟨0, List.replicate x.n rl0, rfl, by omega, by simp, rfl, (Ext.refl _), RatsN.tnil _ _ _ _⟩ ?_
  rintro m44 _ u44 ⟨i, L, hm44, hi, hL, rfl, e44, hR⟩
  refine sq9 ?_
  refine zza 20 (.v (.bool (decide ((i : Int) < (x.n : Int))))) ?_
  refine zzb 49 [(0, .v x.v), (1, .v y.v), (5, .slc 16 0 x.n x.n), (18, .v (.int .i64 (x.n : Int))), (19, .v (.int .i64 (i : Int))), (20, .v (.bool (decide ((i : Int) < (x.n : Int)))))] [(16, ⟨41, rcs L⟩)] ?_
  refine zzc ?_
  refine zzt (b := decide ((i : Int) < (x.n : Int))) (by kernel_rfl) (fun hb45 => ?_) (fun hb45 => ?_)
  ·replace hb45 : (decide ((i : Int) < (x.n : Int))) = true := hb45
   have qhb45 := of_decide_eq_true hb45
   refine zzr (zzo ?_)
   refine zzc ?_
   refine zzs ?_
   refine sq9 ?_
   refine zza 21 (.v (.int .i64 (i : Int))) ?_
   refine zza 6 (.v (.int .i64 (i : Int))) ?_
   refine zzb 49 [(0, .v x.v), (1, .v y.v), (5, .slc 16 0 x.n x.n), (6, .v (.int .i64 (i : Int))), (18, .v (.int .i64 (x.n : Int))), (19, .v (.int .i64 (i : Int)))] [(16, ⟨41, rcs L⟩)] ?_
   refine sq9 ?_
   refine zza 22 (.v (.int .i64 (i : Int))) ?_
   refine zza 23 (.v y.v) ?_
   refine zza 24 (.v (.int .i64 (y.n : Int))) ?_
   refine zza 25 (.v (.bool (decide ((i : Int) < (y.n : Int))))) ?_
   refine zzb 49 [(0, .v x.v), (1, .v y.v), (5, .slc 16 0 x.n x.n), (6, .v (.int .i64 (i : Int))), (18, .v (.int .i64 (x.n : Int))), (19, .v (.int .i64 (i : Int))), (25, .v (.bool (decide ((i : Int) < (y.n : Int)))))] [(16, ⟨41, rcs L⟩)] ?_
   refine zzt (b := decide ((i : Int) < (y.n : Int))) (by kernel_rfl) (fun hb46 => ?_) (fun hb46 => ?_)
   ·replace hb46 : (decide ((i : Int) < (y.n : Int))) = true := hb46
    have qhb46 := of_decide_eq_true hb46
    refine zzy [0, 0, 0, 0, 12, 28, 0, 0, 192, 448, 1020, 2047, 4095] [(0, []), (1, []), (2, []), (3, []), (4, []), (5, []), (6, []), (7, []), (8, []), (9, []), (10, []), (11, []), (12, [])] (by kernel_rfl) (by kernel_rfl) ?_
    refine zza 26 (.slc 16 0 x.n x.n) ?_
    refine zza 27 (.v (.int .i64 (i : Int))) ?_
    refine zza 28 (.v x.v) ?_
    refine zza 29 (.v (.int .i64 (i : Int))) ?_
    have hl47 := (hx.ext e44).len
    obtain ⟨r47, b47, o47, hA47, hc47, hr47⟩ := pol_at (hx.ext e44) (i := i) (by omega)
    refine zzz 30 (o47 + i * 3) (n := x.n) (off := o47) (sz := 3) (i := (i : Int)) (by omega) hA47 (by omega) (by omega) sl29 ?_
    refine zyl 31 r47.cs hc47 ty41 ?_
    refine zza 32 (.v y.v) ?_
    refine zza 33 (.v (.int .i64 (i : Int))) ?_
    have hl48 := (hy.ext e44).len
    obtain ⟨r48, b48, o48, hA48, hc48, hr48⟩ := pol_at (hy.ext e44) (i := i) (by omega)
    refine zzz 34 (o48 + i * 3) (n := y.n) (off := o48) (sz := 3) (i := (i : Int)) (by omega) hA48 (by omega) (by omega) sl29 ?_
    refine zyl 35 r48.cs hc48 ty41 ?_
    refine zzf 36 127 [r47.v, r48.v] ?_
    intro w49 u49 e49 d49
    have k54 := k_ratAdd d49 (hr47.ext e49) (hr48.ext e49) (by omega) (by omega)
    with_reducible refine zPm k54 ?_
    rintro _ u52 g53 ⟨r50, rfl, h51⟩
    refine zyv 37 (off' := i * 3) (n := x.n) (off := 0) (sz := 3) (i := (i : Int)) sl29 (by omega) (by omega) (by omega) ?_
    refine zyu (V := ⟨41, rcs L⟩) (off := i * 3) (rcs ((L).set i r50)) ty41 (by rw [zyx]; first|omega|(simp;omega)) (zyw (r := r50) (i := i) (by first|omega|(simp;omega)) rfl) ?_
    refine zzw ?_
    refine zzo ?_
    refine zze ?_
    refine zyp 46 (x := .v (.int .i64 (IntKind.i64.wrap ((i : Int) + 1)))) (.v (.int .i64 ((i + 1 : Nat) : Int))) (eqI (by rw [IntWalk.i64_in _ (by omega)]; omega)) ?_
    refine zza 19 (.v (.int .i64 ((i + 1 : Nat) : Int))) ?_
    refine zzw ?_
    have ht55 : i < (Nt.addQ l m).length := by rw [Nt.addQ_len]; omega
    refine ⟨_, ?_, St.of 49 [(0, .v (.slice x.a x.n x.c)), (1, .v (.slice y.a y.n y.c)), (5, .slc 16 0 x.n x.n), (18, .v (.int .i64 (x.n : Int))), (19, .v (.int .i64 ((i + 1 : Nat) : Int)))] [(16, ⟨41, rcs ((L).set i r50)⟩)], by exact zzu _ _ _, i + 1, (L).set i r50, rfl, by omega, by simpa using hL, rfl, (e44.trans (e49.trans g53.ext)), RatsN.tstep (hR.ext (e49.trans g53.ext)) (by omega) ht55 (RatN.more (K := (K + M + 1)) h51 (by omega)) (by have h9 := Nt.addQ_co l m i; unfold Nt.co at h9; show _ = List.getD _ _ _; rw [h9])⟩
    omega
   ·replace hb46 : (decide ((i : Int) < (y.n : Int))) = false := hb46
    have qhb46 := of_decide_eq_false hb46
    refine zze ?_
    refine zza 38 (.slc 16 0 x.n x.n) ?_
    refine zza 39 (.v (.int .i64 (i : Int))) ?_
    refine zza 40 (.v x.v) ?_
    refine zza 41 (.v (.int .i64 (i : Int))) ?_
    have hl56 := (hx.ext e44).len
    obtain ⟨r56, b56, o56, hA56, hc56, hr56⟩ := pol_at (hx.ext e44) (i := i) (by omega)
    refine zzz 42 (o56 + i * 3) (n := x.n) (off := o56) (sz := 3) (i := (i : Int)) (by omega) hA56 (by omega) (by omega) sl29 ?_
    refine zyl 43 r56.cs hc56 ty41 ?_
    refine zzf 44 58 [r56.v] ?_
    intro w57 u57 e57 d57
    have k62 := k_ratTrim d57 (hr56.ext e57) (by omega)
    with_reducible refine zPm k62 ?_
    rintro _ u60 g61 ⟨r58, rfl, h59⟩
    refine zyv 45 (off' := i * 3) (n := x.n) (off := 0) (sz := 3) (i := (i : Int)) sl29 (by omega) (by omega) (by omega) ?_
    refine zyu (V := ⟨41, rcs L⟩) (off := i * 3) (rcs ((L).set i r58)) ty41 (by rw [zyx]; first|omega|(simp;omega)) (zyw (r := r58) (i := i) (by first|omega|(simp;omega)) rfl) ?_
    refine zzw ?_
    refine zzo ?_
    refine zze ?_
    refine zyp 46 (x := .v (.int .i64 (IntKind.i64.wrap ((i : Int) + 1)))) (.v (.int .i64 ((i + 1 : Nat) : Int))) (eqI (by rw [IntWalk.i64_in _ (by omega)]; omega)) ?_
    refine zza 19 (.v (.int .i64 ((i + 1 : Nat) : Int))) ?_
    refine zzw ?_
    have ht63 : i < (Nt.addQ l m).length := by rw [Nt.addQ_len]; omega
    refine ⟨_, ?_, St.of 49 [(0, .v (.slice x.a x.n x.c)), (1, .v (.slice y.a y.n y.c)), (5, .slc 16 0 x.n x.n), (18, .v (.int .i64 (x.n : Int))), (19, .v (.int .i64 ((i + 1 : Nat) : Int)))] [(16, ⟨41, rcs ((L).set i r58)⟩)], by exact zzu _ _ _, i + 1, (L).set i r58, rfl, by omega, by simpa using hL, rfl, (e44.trans (e57.trans g61.ext)), RatsN.tstep (hR.ext (e57.trans g61.ext)) (by omega) ht63 (RatN.more (K := K) h59 (by omega)) (by have h9 := Nt.addQ_co l m i; unfold Nt.co at h9; show _ = List.getD _ _ _; rw [h9]; rw [show m.getD i 0 = 0 from Nt.co_ge (by omega)]; grind)⟩
    omega
  ·replace hb45 : (decide ((i : Int) < (x.n : Int))) = false := hb45
   have qhb45 := of_decide_eq_false hb45
   refine zyb ?_
   refine zzo ?_
   refine zzc ?_
   refine zyo (r := 5) (t := 16) [5, 16] (by repeat first | exact noAt_of | refine zyc ?_ | refine zye ?_ | refine zyd ?_ | refine zzx ?_ | refine zya ?_) (by kernel_rfl) (by rfl) (by rfl) (by kernel_rfl) (fun b64 u65 e66 hb67 hh68 => ?_)
   have hp69 : PolN u65 ⟨some ⟨b64, 0, none⟩, x.n, x.n⟩ (Nt.addQ l m) (K + M + 1) := pol_data1 hh68 (by unfold maxLen; omega) (RatsN.tdone (hR.ext e66) (by omega) (by rw [Nt.addQ_len]; omega)) (by omega)
   refine zze ?_
   refine zza 47 (.v (.slice (some ⟨b64, 0, none⟩) x.n x.n)) ?_
   refine zzf 48 128 [.slice (some ⟨b64, 0, none⟩) x.n x.n] ?_
   intro w70 u70 e70 d70
   have k73 := k_cut d70 (hp69.ext e70).raw (by omega) (by first|omega|(simp;omega) | (refine Nat.le_trans (Nt.zzg _) ?_; first|omega|(simp;omega)) | (refine Nat.le_trans (Nt.zzg _) ?_; simp only [List.length_map]; refine Nat.le_trans (Nt.zzg _) ?_; first|omega|(simp;omega)))
   with_reducible refine zPm k73 ?_
   rintro _ u71 g72 rfl
   refine zza 4 (.v (.slice (some ⟨b64, 0, none⟩) (Nt.trimQ (Nt.addQ l m)).length x.n)) ?_
   refine zzb 49 [(4, .v (.slice (some ⟨b64, 0, none⟩) (Nt.trimQ (Nt.addQ l m)).length x.n))] [] ?_
   refine zzn (ret0 [.slice (some ⟨b64, 0, none⟩) (Nt.trimQ (Nt.addQ l m)).length x.n] ⟨zzp, trivial⟩ fun u74 e75 => ?_)
   refine ⟨(⟨some ⟨b64, 0, none⟩, (Nt.trimQ (Nt.addQ l m)).length, x.n⟩ : Sl), rfl, ?_⟩
   exact ((cut_N (hp69.ext (e70.trans g72.ext))).ext e75)
set_option maxHeartbeats 2000000 in
theorem k_r5Trim {u w : World} {x : Sl} {l : List Rat} {K : Nat} (d : Dat u w) (hx : PolV u x l K) (hK : K ≤ 50000000) (hx9 : l.length ≤ 1000000000) : Calls Tryz.prog 82 #[x.v] w (Post u w fun v u' => ∃ y : Sl, v = y.v ∧ PolN u' y (Nt.trimQ l) K) := by
 have hlen := hx.len
 have htl := Nt.zzg l
 refine zzl (args := [.slice x.a x.n x.c]) Tryz.func82 rfl Tryz.ntmps82 (rs := [.tmp 2]) Tryz.results82 (le_b rfl) (le_b rfl) d ?_
 refine sq9 ?_
 refine zza 2 (.v (.slice none 0 0)) ?_
 refine zzb 37 [(0, .v x.v)] [] ?_
 refine sq9 ?_
 refine zza 7 (.v x.v) ?_
 refine zza 8 (.v (.int .i64 (x.n : Int))) ?_
 refine zza 3 (.v (.int .i64 (x.n : Int))) ?_
 refine zzb 37 [(0, .v x.v), (3, .v (.int .i64 (x.n : Int)))] [] ?_
 refine zzc ?_
 refine zzs ?_
 refine zym (I := fun m11 S' u' => ∃ (n : Nat), (m11 = n) ∧ (n ≤ l.length) ∧ (∀ i, n ≤ i → Nt.co l i = 0) ∧ (S' = St.of 37 [(0, .v (.slice x.a x.n x.c)), (3, .v (.int .i64 (n : Int)))] []) ∧ (Ext u u')) (fun m S u1 u2 e h => by obtain ⟨n, hm, p0, p1, hS, hE⟩ := h; exact ⟨n, hm, p0, p1, hS, hE.trans e⟩) _ (T := St.of 37 [(0, .v (.slice x.a x.n x.c)), (3, .v (.int .i64 (x.n : Int)))] []) (by exact zzu _ _ _) ⟨x.n, rfl, by omega, fun i hi => Nt.co_ge (by omega), rfl, (Ext.refl _)⟩ ?_
 rintro m11 _ u11 ⟨n, hm11, hn, hz, rfl, e11⟩
 refine zzc ?_
 refine sq9 ?_
 refine zza 9 (.v (.int .i64 (n : Int))) ?_
 refine zza 10 (.v (.bool (decide ((0 : Int) < (n : Int))))) ?_
 rcases Bool.eq_false_or_eq_true (decide ((0 : Int) < (n : Int))) with hs12 | hs12
 ·refine zyp 11 (x := .v (.bool (decide ((0 : Int) < (n : Int))))) (.v (.bool true)) (by rw [hs12]) ?_
  have qhs12 := of_decide_eq_true hs12
  refine zza 12 (.v x.v) ?_ (hw := w1 2 true 11)
  refine zza 13 (.v (.int .i64 (n : Int))) ?_ (hw := w1 2 true 11)
  refine zyp 14 (x := .v (.int .i64 (IntKind.i64.wrap ((n : Int) - 1)))) (.v (.int .i64 ((n - 1 : Nat) : Int))) (eqI (by rw [IntWalk.i64_in _ (by omega)]; omega)) ?_ (hw := w1 2 true 11)
  have hl13 := (hx.ext e11).len
  obtain ⟨r13, b13, o13, hA13, hc13, hr13⟩ := pol_at (hx.ext e11) (i := n - 1) (by omega)
  refine zzz 15 (o13 + (n - 1) * 3) (n := x.n) (off := o13) (sz := 3) (i := ((n - 1 : Nat) : Int)) (by omega) hA13 (by omega) (by omega) sl29 ?_ (hw := w1 2 true 11)
  refine zyl 16 r13.cs hc13 ty41 ?_ (hw := w1 2 true 11)
  refine zzf 17 157 [r13.v] ?_ (hw := w1 2 true 11)
  intro w14 u14 e14 d14
  have k17 := k_rqSign d14 (hr13.ext e14) (by omega)
  with_reducible refine zPm k17 ?_
  rintro _ u15 g16 rfl
  refine zza 18 (.v (.bool ((Nt.sgQ (l.getD (n - 1) 0)) == 0))) ?_ (hw := w1 2 true 11)
  refine zza 19 (.v (.bool ((Nt.sgQ (l.getD (n - 1) 0)) == 0))) ?_
  refine zzb 37 [(0, .v x.v), (3, .v (.int .i64 (n : Int))), (19, .v (.bool ((Nt.sgQ (l.getD (n - 1) 0)) == 0)))] [] ?_
  refine zzt (b := (Nt.sgQ (l.getD (n - 1) 0)) == 0) (by kernel_rfl) (fun hb18 => ?_) (fun hb18 => ?_)
  ·replace hb18 : ((Nt.sgQ (l.getD (n - 1) 0)) == 0) = true := hb18
   refine zzr (zzo ?_)
   refine zzs ?_
   refine zze ?_
   refine zza 20 (.v (.int .i64 (n : Int))) ?_
   refine zyp 21 (x := .v (.int .i64 (IntKind.i64.wrap ((n : Int) - 1)))) (.v (.int .i64 ((n - 1 : Nat) : Int))) (eqI (by rw [IntWalk.i64_in _ (by omega)]; omega)) ?_
   refine zza 3 (.v (.int .i64 ((n - 1 : Nat) : Int))) ?_
   refine zzw ?_
   refine ⟨_, ?_, St.of 37 [(0, .v (.slice x.a x.n x.c)), (3, .v (.int .i64 ((n - 1 : Nat) : Int)))] [], by exact zzu _ _ _, n - 1, rfl, by omega, (fun i hi => by by_cases e : i = n - 1; (rw [e]; have h9 := hb18; rw [Nt.sgQ_eq] at h9; exact of_decide_eq_true h9); exact hz i (by omega)), rfl, (e11.trans (e14.trans g16.ext))⟩
   omega
  ·replace hb18 : ((Nt.sgQ (l.getD (n - 1) 0)) == 0) = false := hb18
   refine zyb ?_
   refine zzo ?_
   refine zzc ?_
   have he9 := Nt.trim_len_of (l := l) hn hz (fun _ h => by have h9 := hb18; rw [Nt.sgQ_eq] at h9; exact of_decide_eq_false h9 h)
   clear hz
   refine zze ?_
   refine zza 4 (.v (.slice none 0 0)) ?_
   refine zzb 37 [(0, .v x.v), (3, .v (.int .i64 (n : Int))), (4, .v (.slice none 0 0))] [] ?_
   refine zzc ?_
   refine sq9 ?_
   refine zza 22 (.v x.v) ?_
   refine zza 23 (.v (.int .i64 (n : Int))) ?_
   have hl19 := (hx.ext (e11.trans (e14.trans g16.ext))).len
   have hc19 := (hx.ext (e11.trans (e14.trans g16.ext))).cap
   refine sy_front 24 (n := x.n) (c := x.c) n sl29 rfl (by omega) ?_
   refine zza 25 (.v (.int .i64 (n : Int))) ?_
   refine zza 26 (.v (.int .i64 0)) ?_
   refine zzb 37 [(4, .v (.slice none 0 0)), (24, .v (.slice x.a n x.c)), (25, .v (.int .i64 (n : Int))), (26, .v (.int .i64 0))] [] ?_
   refine zzs ?_
   refine zym (I := fun m20 S' u' => (m20 = n ∧ S' = St.of 37 [(4, .v (.slice none 0 0)), (24, .v (.slice x.a n x.c)), (25, .v (.int .i64 (n : Int))), (26, .v (.int .i64 0))] [] ∧ Ext u15 u') ∨ (∃ (i : Nat) (L : List RL) (cs : List Value) (cp : Nat), m20 = n - i ∧ i ≤ n ∧ 0 < i ∧ L.length = i ∧ cs.length = cp * 3 ∧ i ≤ cp ∧ cp ≤ maxLen ∧ cs.take (i * 3) = rcs L ∧ S' = St.of 37 [(4, .slc 34 0 i cp), (24, .v (.slice x.a n x.c)), (25, .v (.int .i64 (n : Int))), (26, .v (.int .i64 (i : Int)))] [(34, ⟨41, cs⟩)] ∧ Ext u15 u' ∧ RatsN u' L ((Nt.trimQ l).take i) K)) (fun m S u1 u2 e h => by rcases h with ⟨a, b, c⟩ | ⟨a1, a2, a3, a4, b1, b2, b3, b4, b5, b6, b7, b8, b9, b10, b11⟩; exact .inl ⟨a, b, c.trans e⟩; exact .inr ⟨a1, a2, a3, a4, b1, b2, b3, b4, b5, b6, b7, b8, b9, b10.trans e, b11.ext e⟩) _ (T := St.of 37 [(4, .v (.slice none 0 0)), (24, .v (.slice x.a n x.c)), (25, .v (.int .i64 (n : Int))), (26, .v (.int .i64 0))] []) (by exact zzu _ _ _) (.inl ⟨rfl, rfl, Ext.refl _⟩) ?_
   rintro m20 _ u20 (⟨hm20, rfl, e20⟩ | ⟨i, L, cs, cp, hm20, hi, hp, hL, hc, hle, hmx, ht, rfl, e20, hR⟩)
   ·change SW _ _ _ _ (St.of 37 [(4, .v (.slice none 0 0)), (24, .v (.slice x.a n x.c)), (25, .v (.int .i64 (n : Int))), (26, .v (.int .i64 0))] []) _ _
    refine sq9 ?_
    refine zza 27 (.v (.bool (decide ((0 : Int) < (n : Int))))) ?_
    refine zzb 37 [(4, .v (.slice none 0 0)), (24, .v (.slice x.a n x.c)), (25, .v (.int .i64 (n : Int))), (26, .v (.int .i64 0)), (27, .v (.bool (decide ((0 : Int) < (n : Int)))))] [] ?_
    refine zzc ?_
    refine zzt (b := decide ((0 : Int) < (n : Int))) (by kernel_rfl) (fun hb21 => ?_) (fun hb21 => ?_)
    ·replace hb21 : (decide ((0 : Int) < (n : Int))) = true := hb21
     have qhb21 := of_decide_eq_true hb21
     refine zzr (zzo ?_)
     refine zzc ?_
     refine zzs ?_
     refine sq9 ?_
     have hl22 := ((pol_take (hx.ext (e11.trans (e14.trans g16.ext))) (by omega)).ext e20).len
     change n = _ at hl22
     obtain ⟨r22, b22, o22, hA22, hc22, hr22⟩ := pol_at ((pol_take (hx.ext (e11.trans (e14.trans g16.ext))) (by omega)).ext e20) (i := 0) (by omega)
     refine zzz 28 (o22 + 0 * 3) (n := n) (off := o22) (sz := 3) (i := 0) (by omega) hA22 (by omega) (by omega) sl29 ?_
     refine zyl 29 r22.cs hc22 ty41 ?_
     refine zzj 6 ⟨41, [.bool false, .slice none 0 0, .slice none 0 0]⟩ ?_
     refine zzi ⟨41, r22.cs⟩ ty41 ?_
     refine zzb 37 [(4, .v (.slice none 0 0)), (6, .adr 6 0), (24, .v (.slice x.a n x.c)), (25, .v (.int .i64 (n : Int))), (26, .v (.int .i64 0))] [(6, ⟨41, r22.cs⟩)] ?_
     refine zze ?_
     refine zza 30 (.v (.slice none 0 0)) ?_
     refine zzh 31 (.v (r22.v)) ty41 zzd ?_
     refine zzf 32 158 [r22.v] ?_
     intro w23 u23 e23 d23
     have k28 := k_rqTrim d23 (hr22.ext e23) (by omega)
     with_reducible refine zPm k28 ?_
     rintro _ u26 g27 ⟨r24, rfl, h25⟩
     refine sy_data 33 ⟨41, r24.cs⟩ 1 (fun b29 u30 e31 h32 => ?_)
     have hp33 : PolN u30 (⟨some ⟨b29, 0, none⟩, 1, 1⟩ : Sl) [((l.take n).getD 0 0)] K := pol_lit (L := [r24]) h32 (rats1 (h25.ext e31)) rfl (by decide)
     refine sy_app0 34 (T := 29) (E := 41) (z := .agg #[.bool false, .slice none 0 0, .slice none 0 0]) (size := 3) (bytes := 56) (b := b29) (off := 0) (m := 1) r24.cs (by kernel_rfl) (by kernel_rfl) (by kernel_rfl) (by decide) rfl (lit_news ((Ext.refl _).cells h32)) (rl_one r24) (by decide) (by decide) (by decide) ?_
     intro c34 cs34 ha34 hb34 hc34 hd34
     refine zza 4 (.slc 34 0 1 c34) ?_
     refine zzw ?_
     refine zzo ?_
     refine zze ?_
     refine zza 35 (.v (.int .i64 1)) ?_
     refine zza 26 (.v (.int .i64 1)) ?_
     refine zzw ?_
     have ht35 : 0 < (Nt.trimQ l).length := by skip; omega
     refine ⟨_, ?_, St.of 37 [(4, .slc 34 0 1 c34), (24, .v (.slice x.a n x.c)), (25, .v (.int .i64 (n : Int))), (26, .v (.int .i64 1))] [(34, ⟨41, cs34⟩)], by exact zzu _ _ _, .inr ⟨1, [r24], cs34, c34, rfl, by omega, by omega, by simp, hc34, by omega, hb34, hd34, rfl, (e20.trans (e23.trans (g27.ext.trans e31))), (app_first (RatN.more (K := K) (h25.ext e31) (by omega)) ht35 (by rw [List.getD_eq_getElem?_getD, List.getElem?_take_of_lt (by omega), ← List.getD_eq_getElem?_getD]; exact (Nt.trim_co l 0).symm))⟩⟩
     omega
    ·replace hb21 : (decide ((0 : Int) < (n : Int))) = false := hb21
     have qhb21 := of_decide_eq_false hb21
     refine zyb ?_
     refine zzo ?_
     refine zzc ?_
     have hp36 : PolN u20 ⟨none, 0, 0⟩ (Nt.trimQ l) K := by have h9 : Nt.trimQ l = [] := List.eq_nil_of_length_eq_zero (by skip; omega); rw [h9]; exact pol_nil _ _
     refine zze ?_
     refine zza 36 (.v (.slice none 0 0)) ?_
     refine zza 2 (.v (.slice none 0 0)) ?_
     refine zzb 37 [(2, .v (.slice none 0 0))] [] ?_
     refine zzn (ret0 [.slice none 0 0] ⟨zzp, trivial⟩ fun u37 e38 => ?_)
     refine ⟨⟨none, 0, 0⟩, rfl, ?_⟩
     exact (hp36.ext e38)
   ·change SW _ _ _ _ (St.of 37 [(4, .slc 34 0 i cp), (24, .v (.slice x.a n x.c)), (25, .v (.int .i64 (n : Int))), (26, .v (.int .i64 (i : Int)))] [(34, ⟨41, cs⟩)]) _ _
    refine sq9 ?_
    refine zza 27 (.v (.bool (decide ((i : Int) < (n : Int))))) ?_
    refine zzb 37 [(4, .slc 34 0 i cp), (24, .v (.slice x.a n x.c)), (25, .v (.int .i64 (n : Int))), (26, .v (.int .i64 (i : Int))), (27, .v (.bool (decide ((i : Int) < (n : Int)))))] [(34, ⟨41, cs⟩)] ?_
    refine zzc ?_
    refine zzt (b := decide ((i : Int) < (n : Int))) (by kernel_rfl) (fun hb39 => ?_) (fun hb39 => ?_)
    ·replace hb39 : (decide ((i : Int) < (n : Int))) = true := hb39
     have qhb39 := of_decide_eq_true hb39
     refine zzr (zzo ?_)
     refine zzc ?_
     refine zzs ?_
     refine sq9 ?_
     have hl40 := ((pol_take (hx.ext (e11.trans (e14.trans g16.ext))) (by omega)).ext e20).len
     change n = _ at hl40
     obtain ⟨r40, b40, o40, hA40, hc40, hr40⟩ := pol_at ((pol_take (hx.ext (e11.trans (e14.trans g16.ext))) (by omega)).ext e20) (i := i) (by omega)
     refine zzz 28 (o40 + i * 3) (n := n) (off := o40) (sz := 3) (i := (i : Int)) (by omega) hA40 (by omega) (by omega) sl29 ?_
     refine zyl 29 r40.cs hc40 ty41 ?_
     refine zzj 6 ⟨41, [.bool false, .slice none 0 0, .slice none 0 0]⟩ ?_
     refine zzi ⟨41, r40.cs⟩ ty41 ?_
     refine zzb 37 [(4, .slc 34 0 i cp), (6, .adr 6 0), (24, .v (.slice x.a n x.c)), (25, .v (.int .i64 (n : Int))), (26, .v (.int .i64 (i : Int)))] [(6, ⟨41, r40.cs⟩), (34, ⟨41, cs⟩)] ?_
     refine zze ?_
     refine zza 30 (.slc 34 0 i cp) ?_
     refine zzh 31 (.v (r40.v)) ty41 zzd ?_
     refine zzf 32 158 [r40.v] ?_
     intro w41 u41 e41 d41
     have k46 := k_rqTrim d41 (hr40.ext e41) (by omega)
     with_reducible refine zPm k46 ?_
     rintro _ u44 g45 ⟨r42, rfl, h43⟩
     refine sy_data 33 ⟨41, r42.cs⟩ 1 (fun b47 u48 e49 h50 => ?_)
     have hp51 : PolN u48 (⟨some ⟨b47, 0, none⟩, 1, 1⟩ : Sl) [((l.take n).getD i 0)] K := pol_lit (L := [r42]) h50 (rats1 (h43.ext e49)) rfl (by decide)
     refine sy_app1 34 (T := 29) (E := 41) (z := .agg #[.bool false, .slice none 0 0, .slice none 0 0]) (size := 3) (bytes := 56) (b := b47) (off := 0) (m := 1) (n := i) (cap := cp) (t := 34) (cs0 := cs) [4, 30, 34] r42.cs (by kernel_rfl) (by kernel_rfl) (by kernel_rfl) (by decide) rfl (lit_news ((Ext.refl _).cells h50)) (rl_one r42) (by decide) (by unfold maxLen; omega) (by omega) (by omega) (by omega) (by omega) (by repeat first | exact noAt_of | refine zyc ?_ | refine zye ?_ | refine zyd ?_ | refine zzx ?_ | refine zya ?_) ?_
     intro c52 cs52 ha52 hb52 hc52 hd52
     have hd52r : cs52.take ((i + 1) * 3) = rcs (L ++ [r42]) := by rw [hd52, ht, rcs_app]; rfl
     refine zza 4 (.slc 34 0 (i + 1) c52) ?_
     refine zzw ?_
     refine zzo ?_
     refine zze ?_
     refine zyp 35 (x := .v (.int .i64 (IntKind.i64.wrap ((i : Int) + 1)))) (.v (.int .i64 ((i + 1 : Nat) : Int))) (eqI (by rw [IntWalk.i64_in _ (by omega)]; omega)) ?_
     refine zza 26 (.v (.int .i64 ((i + 1 : Nat) : Int))) ?_
     refine zzw ?_
     have ht53 : i < (Nt.trimQ l).length := by skip; omega
     refine ⟨_, ?_, St.of 37 [(4, .slc 34 0 (i + 1) c52), (24, .v (.slice x.a n x.c)), (25, .v (.int .i64 (n : Int))), (26, .v (.int .i64 ((i + 1 : Nat) : Int)))] [(34, ⟨41, cs52⟩)], by exact zzu _ _ _, .inr ⟨i + 1, L ++ [r42], cs52, c52, rfl, by omega, by omega, by simp; omega, hc52, by omega, hb52, hd52r, rfl, (e20.trans (e41.trans (g45.ext.trans e49))), (app_next (hR.ext (e41.trans (g45.ext.trans e49))) (RatN.more (K := K) (h43.ext e49) (by omega)) ht53 (by rw [List.getD_eq_getElem?_getD, List.getElem?_take_of_lt (by omega), ← List.getD_eq_getElem?_getD]; exact (Nt.trim_co l i).symm))⟩⟩
     omega
    ·replace hb39 : (decide ((i : Int) < (n : Int))) = false := hb39
     have qhb39 := of_decide_eq_false hb39
     refine zyb ?_
     refine zzo ?_
     refine zzc ?_
     refine zyo (r := 4) (t := 34) [4, 34] (by repeat first | exact noAt_of | refine zyc ?_ | refine zye ?_ | refine zyd ?_ | refine zzx ?_ | refine zya ?_) (by kernel_rfl) (by rfl) (by rfl) (by kernel_rfl) (fun b55 u56 e57 hb58 hh59 => ?_)
     have hp54 : PolN u56 ⟨some ⟨b55, 0, none⟩, i, cp⟩ (Nt.trimQ l) K := by have h8 := pol_data hh59 ht hc hle hmx (hR.ext e57); rw [List.take_of_length_le (l := Nt.trimQ l) (by skip; omega)] at h8; exact h8
     refine zze ?_
     refine zza 36 (.v (.slice (some ⟨b55, 0, none⟩) i cp)) ?_
     refine zza 2 (.v (.slice (some ⟨b55, 0, none⟩) i cp)) ?_
     refine zzb 37 [(2, .v (.slice (some ⟨b55, 0, none⟩) i cp))] [] ?_
     refine zzn (ret0 [.slice (some ⟨b55, 0, none⟩) i cp] ⟨zzp, trivial⟩ fun u60 e61 => ?_)
     refine ⟨(⟨some ⟨b55, 0, none⟩, i, cp⟩ : Sl), rfl, ?_⟩
     exact (hp54.ext e61)
 ·refine zyp 11 (x := .v (.bool (decide ((0 : Int) < (n : Int))))) (.v (.bool false)) (by rw [hs12]) ?_
  have qhs12 := of_decide_eq_false hs12
  refine zzm 12 (uw 2 true false 11) ?_
  refine zzm 13 (uw 2 true false 11) ?_
  refine zzm 14 (uw 2 true false 11) ?_
  refine zzm 15 (uw 2 true false 11) ?_
  refine zzm 16 (uw 2 true false 11) ?_
  refine zzm 17 (uw 2 true false 11) ?_
  refine zzm 18 (uw 2 true false 11) ?_
  refine zza 19 (.v (.bool false)) ?_
  refine zzb 37 [(0, .v x.v), (3, .v (.int .i64 (n : Int))), (19, .v (.bool false))] [] ?_
  refine zyr (by kernel_rfl) ?_
  refine zyb ?_
  refine zzo ?_
  refine zzc ?_
  have he9 := Nt.trim_len_of (l := l) hn hz (fun h => absurd h (by omega))
  clear hz
  refine zze ?_
  refine zza 4 (.v (.slice none 0 0)) ?_
  refine zzb 37 [(0, .v x.v), (3, .v (.int .i64 (n : Int))), (4, .v (.slice none 0 0))] [] ?_
  refine zzc ?_
  refine sq9 ?_
  refine zza 22 (.v x.v) ?_
  refine zza 23 (.v (.int .i64 (n : Int))) ?_
  have hl62 := (hx.ext e11).len
  have hc62 := (hx.ext e11).cap
  refine sy_front 24 (n := x.n) (c := x.c) n sl29 rfl (by omega) ?_
  refine zza 25 (.v (.int .i64 (n : Int))) ?_
  refine zza 26 (.v (.int .i64 0)) ?_
  refine zzb 37 [(4, .v (.slice none 0 0)), (24, .v (.slice x.a n x.c)), (25, .v (.int .i64 (n : Int))), (26, .v (.int .i64 0))] [] ?_
  refine zzs ?_
  refine zym (I := fun m63 S' u' => (m63 = n ∧ S' = St.of 37 [(4, .v (.slice none 0 0)), (24, .v (.slice x.a n x.c)), (25, .v (.int .i64 (n : Int))), (26, .v (.int .i64 0))] [] ∧ Ext u11 u') ∨ (∃ (i : Nat) (L : List RL) (cs : List Value) (cp : Nat), m63 = n - i ∧ i ≤ n ∧ 0 < i ∧ L.length = i ∧ cs.length = cp * 3 ∧ i ≤ cp ∧ cp ≤ maxLen ∧ cs.take (i * 3) = rcs L ∧ S' = St.of 37 [(4, .slc 34 0 i cp), (24, .v (.slice x.a n x.c)), (25, .v (.int .i64 (n : Int))), (26, .v (.int .i64 (i : Int)))] [(34, ⟨41, cs⟩)] ∧ Ext u11 u' ∧ RatsN u' L ((Nt.trimQ l).take i) K)) (fun m S u1 u2 e h => by rcases h with ⟨a, b, c⟩ | ⟨a1, a2, a3, a4, b1, b2, b3, b4, b5, b6, b7, b8, b9, b10, b11⟩; exact .inl ⟨a, b, c.trans e⟩; exact .inr ⟨a1, a2, a3, a4, b1, b2, b3, b4, b5, b6, b7, b8, b9, b10.trans e, b11.ext e⟩) _ (T := St.of 37 [(4, .v (.slice none 0 0)), (24, .v (.slice x.a n x.c)), (25, .v (.int .i64 (n : Int))), (26, .v (.int .i64 0))] []) (by exact zzu _ _ _) (.inl ⟨rfl, rfl, Ext.refl _⟩) ?_
  rintro m63 _ u63 (⟨hm63, rfl, e63⟩ | ⟨i, L, cs, cp, hm63, hi, hp, hL, hc, hle, hmx, ht, rfl, e63, hR⟩)
  ·change SW _ _ _ _ (St.of 37 [(4, .v (.slice none 0 0)), (24, .v (.slice x.a n x.c)), (25, .v (.int .i64 (n : Int))), (26, .v (.int .i64 0))] []) _ _
   refine sq9 ?_
   refine zza 27 (.v (.bool (decide ((0 : Int) < (n : Int))))) ?_
   refine zzb 37 [(4, .v (.slice none 0 0)), (24, .v (.slice x.a n x.c)), (25, .v (.int .i64 (n : Int))), (26, .v (.int .i64 0)), (27, .v (.bool (decide ((0 : Int) < (n : Int)))))] [] ?_
   refine zzc ?_
   refine zzt (b := decide ((0 : Int) < (n : Int))) (by kernel_rfl) (fun hb64 => ?_) (fun hb64 => ?_)
   ·replace hb64 : (decide ((0 : Int) < (n : Int))) = true := hb64
    have qhb64 := of_decide_eq_true hb64
    refine zzr (zzo ?_)
    refine zzc ?_
    refine zzs ?_
    refine sq9 ?_
    have hl65 := ((pol_take (hx.ext e11) (by omega)).ext e63).len
    change n = _ at hl65
    obtain ⟨r65, b65, o65, hA65, hc65, hr65⟩ := pol_at ((pol_take (hx.ext e11) (by omega)).ext e63) (i := 0) (by omega)
    refine zzz 28 (o65 + 0 * 3) (n := n) (off := o65) (sz := 3) (i := 0) (by omega) hA65 (by omega) (by omega) sl29 ?_
    refine zyl 29 r65.cs hc65 ty41 ?_
    refine zzj 6 ⟨41, [.bool false, .slice none 0 0, .slice none 0 0]⟩ ?_
    refine zzi ⟨41, r65.cs⟩ ty41 ?_
    refine zzb 37 [(4, .v (.slice none 0 0)), (6, .adr 6 0), (24, .v (.slice x.a n x.c)), (25, .v (.int .i64 (n : Int))), (26, .v (.int .i64 0))] [(6, ⟨41, r65.cs⟩)] ?_
    refine zze ?_
    refine zza 30 (.v (.slice none 0 0)) ?_
    refine zzh 31 (.v (r65.v)) ty41 zzd ?_
    refine zzf 32 158 [r65.v] ?_
    intro w66 u66 e66 d66
    have k71 := k_rqTrim d66 (hr65.ext e66) (by omega)
    with_reducible refine zPm k71 ?_
    rintro _ u69 g70 ⟨r67, rfl, h68⟩
    refine sy_data 33 ⟨41, r67.cs⟩ 1 (fun b72 u73 e74 h75 => ?_)
    have hp76 : PolN u73 (⟨some ⟨b72, 0, none⟩, 1, 1⟩ : Sl) [((l.take n).getD 0 0)] K := pol_lit (L := [r67]) h75 (rats1 (h68.ext e74)) rfl (by decide)
    refine sy_app0 34 (T := 29) (E := 41) (z := .agg #[.bool false, .slice none 0 0, .slice none 0 0]) (size := 3) (bytes := 56) (b := b72) (off := 0) (m := 1) r67.cs (by kernel_rfl) (by kernel_rfl) (by kernel_rfl) (by decide) rfl (lit_news ((Ext.refl _).cells h75)) (rl_one r67) (by decide) (by decide) (by decide) ?_
    intro c77 cs77 ha77 hb77 hc77 hd77
    refine zza 4 (.slc 34 0 1 c77) ?_
    refine zzw ?_
    refine zzo ?_
    refine zze ?_
    refine zza 35 (.v (.int .i64 1)) ?_
    refine zza 26 (.v (.int .i64 1)) ?_
    refine zzw ?_
    have ht78 : 0 < (Nt.trimQ l).length := by skip; omega
    refine ⟨_, ?_, St.of 37 [(4, .slc 34 0 1 c77), (24, .v (.slice x.a n x.c)), (25, .v (.int .i64 (n : Int))), (26, .v (.int .i64 1))] [(34, ⟨41, cs77⟩)], by exact zzu _ _ _, .inr ⟨1, [r67], cs77, c77, rfl, by omega, by omega, by simp, hc77, by omega, hb77, hd77, rfl, (e63.trans (e66.trans (g70.ext.trans e74))), (app_first (RatN.more (K := K) (h68.ext e74) (by omega)) ht78 (by rw [List.getD_eq_getElem?_getD, List.getElem?_take_of_lt (by omega), ← List.getD_eq_getElem?_getD]; exact (Nt.trim_co l 0).symm))⟩⟩
    omega
   ·replace hb64 : (decide ((0 : Int) < (n : Int))) = false := hb64
    have qhb64 := of_decide_eq_false hb64
    refine zyb ?_
    refine zzo ?_
    refine zzc ?_
    have hp79 : PolN u63 ⟨none, 0, 0⟩ (Nt.trimQ l) K := by have h9 : Nt.trimQ l = [] := List.eq_nil_of_length_eq_zero (by skip; omega); rw [h9]; exact pol_nil _ _
    refine zze ?_
    refine zza 36 (.v (.slice none 0 0)) ?_
    refine zza 2 (.v (.slice none 0 0)) ?_
    refine zzb 37 [(2, .v (.slice none 0 0))] [] ?_
    refine zzn (ret0 [.slice none 0 0] ⟨zzp, trivial⟩ fun u80 e81 => ?_)
    refine ⟨⟨none, 0, 0⟩, rfl, ?_⟩
    exact (hp79.ext e81)
  ·change SW _ _ _ _ (St.of 37 [(4, .slc 34 0 i cp), (24, .v (.slice x.a n x.c)), (25, .v (.int .i64 (n : Int))), (26, .v (.int .i64 (i : Int)))] [(34, ⟨41, cs⟩)]) _ _
   refine sq9 ?_
   refine zza 27 (.v (.bool (decide ((i : Int) < (n : Int))))) ?_
   refine zzb 37 [(4, .slc 34 0 i cp), (24, .v (.slice x.a n x.c)), (25, .v (.int .i64 (n : Int))), (26, .v (.int .i64 (i : Int))), (27, .v (.bool (decide ((i : Int) < (n : Int)))))] [(34, ⟨41, cs⟩)] ?_
   refine zzc ?_
   refine zzt (b := decide ((i : Int) < (n : Int))) (by kernel_rfl) (fun hb82 => ?_) (fun hb82 => ?_)
   ·replace hb82 : (decide ((i : Int) < (n : Int))) = true := hb82
    have qhb82 := of_decide_eq_true hb82
    refine zzr (zzo ?_)
    refine zzc ?_
    refine zzs ?_
    refine sq9 ?_
    have hl83 := ((pol_take (hx.ext e11) (by omega)).ext e63).len
    change n = _ at hl83
    obtain ⟨r83, b83, o83, hA83, hc83, hr83⟩ := pol_at ((pol_take (hx.ext e11) (by omega)).ext e63) (i := i) (by omega)
    refine zzz 28 (o83 + i * 3) (n := n) (off := o83) (sz := 3) (i := (i : Int)) (by omega) hA83 (by omega) (by omega) sl29 ?_
    refine zyl 29 r83.cs hc83 ty41 ?_
    refine zzj 6 ⟨41, [.bool false, .slice none 0 0, .slice none 0 0]⟩ ?_
    refine zzi ⟨41, r83.cs⟩ ty41 ?_
    refine zzb 37 [(4, .slc 34 0 i cp), (6, .adr 6 0), (24, .v (.slice x.a n x.c)), (25, .v (.int .i64 (n : Int))), (26, .v (.int .i64 (i : Int)))] [(6, ⟨41, r83.cs⟩), (34, ⟨41, cs⟩)] ?_
    refine zze ?_
    refine zza 30 (.slc 34 0 i cp) ?_
    refine zzh 31 (.v (r83.v)) ty41 zzd ?_
    refine zzf 32 158 [r83.v] ?_
    intro w84 u84 e84 d84
    have k89 := k_rqTrim d84 (hr83.ext e84) (by omega)
    with_reducible refine zPm k89 ?_
    rintro _ u87 g88 ⟨r85, rfl, h86⟩
    refine sy_data 33 ⟨41, r85.cs⟩ 1 (fun b90 u91 e92 h93 => ?_)
    have hp94 : PolN u91 (⟨some ⟨b90, 0, none⟩, 1, 1⟩ : Sl) [((l.take n).getD i 0)] K := pol_lit (L := [r85]) h93 (rats1 (h86.ext e92)) rfl (by decide)
    refine sy_app1 34 (T := 29) (E := 41) (z := .agg #[.bool false, .slice none 0 0, .slice none 0 0]) (size := 3) (bytes := 56) (b := b90) (off := 0) (m := 1) (n := i) (cap := cp) (t := 34) (cs0 := cs) [4, 30, 34] r85.cs (by kernel_rfl) (by kernel_rfl) (by kernel_rfl) (by decide) rfl (lit_news ((Ext.refl _).cells h93)) (rl_one r85) (by decide) (by unfold maxLen; omega) (by omega) (by omega) (by omega) (by omega) (by repeat first | exact noAt_of | refine zyc ?_ | refine zye ?_ | refine zyd ?_ | refine zzx ?_ | refine zya ?_) ?_
    intro c95 cs95 ha95 hb95 hc95 hd95
    have hd95r : cs95.take ((i + 1) * 3) = rcs (L ++ [r85]) := by rw [hd95, ht, rcs_app]; rfl
    refine zza 4 (.slc 34 0 (i + 1) c95) ?_
    refine zzw ?_
    refine zzo ?_
    refine zze ?_
    refine zyp 35 (x := .v (.int .i64 (IntKind.i64.wrap ((i : Int) + 1)))) (.v (.int .i64 ((i + 1 : Nat) : Int))) (eqI (by rw [IntWalk.i64_in _ (by omega)]; omega)) ?_
    refine zza 26 (.v (.int .i64 ((i + 1 : Nat) : Int))) ?_
    refine zzw ?_
    have ht96 : i < (Nt.trimQ l).length := by skip; omega
    refine ⟨_, ?_, St.of 37 [(4, .slc 34 0 (i + 1) c95), (24, .v (.slice x.a n x.c)), (25, .v (.int .i64 (n : Int))), (26, .v (.int .i64 ((i + 1 : Nat) : Int)))] [(34, ⟨41, cs95⟩)], by exact zzu _ _ _, .inr ⟨i + 1, L ++ [r85], cs95, c95, rfl, by omega, by omega, by simp; omega, hc95, by omega, hb95, hd95r, rfl, (e63.trans (e84.trans (g88.ext.trans e92))), (app_next (hR.ext (e84.trans (g88.ext.trans e92))) (RatN.more (K := K) (h86.ext e92) (by omega)) ht96 (by rw [List.getD_eq_getElem?_getD, List.getElem?_take_of_lt (by omega), ← List.getD_eq_getElem?_getD]; exact (Nt.trim_co l i).symm))⟩⟩
    omega
   ·replace hb82 : (decide ((i : Int) < (n : Int))) = false := hb82
    have qhb82 := of_decide_eq_false hb82
    refine zyb ?_
    refine zzo ?_
    refine zzc ?_
    refine zyo (r := 4) (t := 34) [4, 34] (by repeat first | exact noAt_of | refine zyc ?_ | refine zye ?_ | refine zyd ?_ | refine zzx ?_ | refine zya ?_) (by kernel_rfl) (by rfl) (by rfl) (by kernel_rfl) (fun b98 u99 e100 hb101 hh102 => ?_)
    have hp97 : PolN u99 ⟨some ⟨b98, 0, none⟩, i, cp⟩ (Nt.trimQ l) K := by have h8 := pol_data hh102 ht hc hle hmx (hR.ext e100); rw [List.take_of_length_le (l := Nt.trimQ l) (by skip; omega)] at h8; exact h8
    refine zze ?_
    refine zza 36 (.v (.slice (some ⟨b98, 0, none⟩) i cp)) ?_
    refine zza 2 (.v (.slice (some ⟨b98, 0, none⟩) i cp)) ?_
    refine zzb 37 [(2, .v (.slice (some ⟨b98, 0, none⟩) i cp))] [] ?_
    refine zzn (ret0 [.slice (some ⟨b98, 0, none⟩) i cp] ⟨zzp, trivial⟩ fun u103 e104 => ?_)
    refine ⟨(⟨some ⟨b98, 0, none⟩, i, cp⟩ : Sl), rfl, ?_⟩
    exact (hp97.ext e104)
theorem k_poDegree {u w : World} {x : Sl} {l : List Rat} {K : Nat} (d : Dat u w) (hx : PolV u x l K) (hK : K ≤ 100000000) (hx9 : l.length ≤ 1000000000) : Calls Tryz.prog 130 #[x.v] w (Post u w fun v u' => v = .int .i64 (((Nt.trimQ l).length : Int) - 1)) := by
 have hlen := hx.len
 have htl := Nt.zzg l
 refine zzl (args := [.slice x.a x.n x.c]) Tryz.func130 rfl Tryz.ntmps130 (rs := [.tmp 2]) Tryz.results130 (le_b rfl) (le_b rfl) d ?_
 refine sq9 ?_
 refine zza 2 (.v (.int .i64 0)) ?_
 refine zzb 7 [(0, .v x.v)] [] ?_
 refine sq9 ?_
 refine zza 3 (.v x.v) ?_
 refine zzf 4 128 [x.v] ?_
 intro w11 u11 e11 d11
 have k14 := k_cut d11 (hx.ext e11) (by omega) (by first|omega|(simp;omega) | (refine Nat.le_trans (Nt.zzg _) ?_; first|omega|(simp;omega)) | (refine Nat.le_trans (Nt.zzg _) ?_; simp only [List.length_map]; refine Nat.le_trans (Nt.zzg _) ?_; first|omega|(simp;omega)))
 with_reducible refine zPm k14 ?_
 rintro _ u12 g13 rfl
 refine zza 5 (.v (.int .i64 (((Nt.trimQ l).length : Nat) : Int))) ?_
 refine zyp 6 (x := .v (.int .i64 (IntKind.i64.wrap (((Nt.trimQ l).length : Int) - 1)))) (.v (.int .i64 (((Nt.trimQ l).length : Int) - 1))) (by rw [IntWalk.i64_in _ (by omega)]) ?_
 refine zza 2 (.v (.int .i64 (((Nt.trimQ l).length : Int) - 1))) ?_
 refine zzb 7 [(2, .v (.int .i64 (((Nt.trimQ l).length : Int) - 1)))] [] ?_
 refine zzn (ret0 [.int .i64 (((Nt.trimQ l).length : Int) - 1)] ⟨zzp, trivial⟩ fun u15 e16 => ?_)
 rfl
set_option maxHeartbeats 1000000 in
theorem k_sameList {u w : World} {x : Sl} {l : List Rat} {y : Sl} {m : List Rat} {K M : Nat} (d : Dat u w) (hx : PolN u x l K) (hy : PolN u y m M) (hx9 : l.length ≤ 1000000000) (hy9 : m.length ≤ 1000000000) : Calls Tryz.prog 184 #[x.v, y.v] w (Post u w fun v u' => v = .bool (decide (l = m))) := by
 have hlen := hx.len
 have hlen2 := hy.len
 refine zzl (args := [.slice x.a x.n x.c, .slice y.a y.n y.c]) Tryz.func184 rfl Tryz.ntmps184 (rs := [.tmp 4]) Tryz.results184 (le_b rfl) (le_b rfl) d ?_
 refine sq9 ?_
 refine zza 4 (.v (.bool false)) ?_
 refine zzb 27 [(0, .v x.v), (1, .v y.v)] [] ?_
 refine zzc ?_
 refine sq9 ?_
 refine zza 6 (.v x.v) ?_
 refine zza 7 (.v (.int .i64 (x.n : Int))) ?_
 refine zza 8 (.v y.v) ?_
 refine zza 9 (.v (.int .i64 (y.n : Int))) ?_
 refine zza 10 (.v (.bool ((x.n : Int) != (y.n : Int)))) ?_
 refine zzb 27 [(0, .v x.v), (1, .v y.v), (10, .v (.bool ((x.n : Int) != (y.n : Int))))] [] ?_
 refine zzt (b := (x.n : Int) != (y.n : Int)) (by kernel_rfl) (fun hb11 => ?_) (fun hb11 => ?_)
 ·replace hb11 : ((x.n : Int) != (y.n : Int)) = true := hb11
  refine sq9 ?_
  refine zza 4 (.v (.bool false)) ?_
  refine zzb 27 [(4, .v (.bool false))] [] ?_
  refine zzn (zzv (ret0 [.bool false] ⟨zzp, trivial⟩ fun u12 e13 => ?_))
  have e9 : l ≠ m := by intro e; have h9 := congrArg List.length e; have h8 := hb11; simp at h8; omega
  show Value.bool false = Value.bool _
  rw [decide_eq_false e9]
 ·replace hb11 : ((x.n : Int) != (y.n : Int)) = false := hb11
  have hnn : x.n = y.n := by have h9 : (x.n : Int) = (y.n : Int) := (by simpa using hb11); omega
  refine zzr (zzo ?_)
  refine zzc ?_
  refine sq9 ?_
  refine zza 5 (.v (.int .i64 0)) ?_
  refine zzb 27 [(0, .v x.v), (1, .v y.v), (5, .v (.int .i64 0))] [] ?_
  refine zzs ?_
  refine zym (I := fun m14 S' u' => ∃ (i : Nat), (m14 = x.n - i) ∧ (i ≤ x.n) ∧ (∀ j, j < i → l.getD j 0 = m.getD j 0) ∧ (S' = St.of 27 [(0, .v (.slice x.a x.n x.c)), (1, .v (.slice y.a y.n y.c)), (5, .v (.int .i64 (i : Int)))] []) ∧ (Ext u u')) (fun m S u1 u2 e h => by obtain ⟨i, hm, p0, p1, hS, hE⟩ := h; exact ⟨i, hm, p0, p1, hS, hE.trans e⟩) _ (T := St.of 27 [(0, .v (.slice x.a x.n x.c)), (1, .v (.slice y.a y.n y.c)), (5, .v (.int .i64 0))] []) (by exact zzu _ _ _) ⟨0, rfl, by omega, fun j hj => by omega, rfl, (Ext.refl _)⟩ ?_
  rintro m14 _ u14 ⟨i, hm14, hi, hz, rfl, e14⟩
  refine zzc ?_
  refine sq9 ?_
  refine zza 11 (.v (.int .i64 (i : Int))) ?_
  refine zza 12 (.v x.v) ?_
  refine zza 13 (.v (.int .i64 (x.n : Int))) ?_
  refine zza 14 (.v (.bool (decide ((i : Int) < (x.n : Int))))) ?_
  refine zzb 27 [(0, .v x.v), (1, .v y.v), (5, .v (.int .i64 (i : Int))), (14, .v (.bool (decide ((i : Int) < (x.n : Int)))))] [] ?_
  refine zzt (b := decide ((i : Int) < (x.n : Int))) (by kernel_rfl) (fun hb15 => ?_) (fun hb15 => ?_)
  ·replace hb15 : (decide ((i : Int) < (x.n : Int))) = true := hb15
   have qhb15 := of_decide_eq_true hb15
   refine zzr (zzo ?_)
   refine zzc ?_
   refine zzs ?_
   refine zzc ?_
   refine zzy [0, 0, 3, 7, 0, 0, 48, 112, 255, 511] [(0, []), (1, []), (2, []), (3, []), (4, []), (5, []), (6, []), (7, []), (8, []), (9, [])] (by kernel_rfl) (by kernel_rfl) ?_
   refine zza 17 (.v x.v) ?_
   refine zza 18 (.v (.int .i64 (i : Int))) ?_
   have hl16 := (hx.ext e14).len
   obtain ⟨r16, b16, o16, hA16, hc16, hr16⟩ := pol_atN (hx.ext e14) (i := i) (by omega)
   refine zzz 19 (o16 + i * 3) (n := x.n) (off := o16) (sz := 3) (i := (i : Int)) (by omega) hA16 (by omega) (by omega) sl28 ?_
   refine zyl 20 r16.cs hc16 ty41 ?_
   refine zza 21 (.v y.v) ?_
   refine zza 22 (.v (.int .i64 (i : Int))) ?_
   have hl17 := (hy.ext e14).len
   obtain ⟨r17, b17, o17, hA17, hc17, hr17⟩ := pol_atN (hy.ext e14) (i := i) (by omega)
   refine zzz 23 (o17 + i * 3) (n := y.n) (off := o17) (sz := 3) (i := (i : Int)) (by omega) hA17 (by omega) (by omega) sl28 ?_
   refine zyl 24 r17.cs hc17 ty41 ?_
   refine zzf 25 208 [r16.v, r17.v] ?_
   intro w18 u18 e18 d18
   have k21 := k_rqSame d18 (hr16.ext e18) (hr17.ext e18)
   with_reducible refine zPm k21 ?_
   rintro _ u19 g20 rfl
   refine zza 26 (.v (.bool (!(decide ((l.getD i 0) = (m.getD i 0)))))) ?_
   refine zzb 27 [(0, .v x.v), (1, .v y.v), (5, .v (.int .i64 (i : Int))), (26, .v (.bool (!(decide ((l.getD i 0) = (m.getD i 0))))))] [] ?_
   refine zzt (b := !(decide ((l.getD i 0) = (m.getD i 0)))) (by kernel_rfl) (fun hb22 => ?_) (fun hb22 => ?_)
   ·replace hb22 : (!(decide ((l.getD i 0) = (m.getD i 0)))) = true := hb22
    refine sq9 ?_
    refine zza 4 (.v (.bool false)) ?_
    refine zzb 27 [(4, .v (.bool false))] [] ?_
    refine zzn (zyt (zzv (zys (zyt (zzv (ret0 [.bool false] ⟨zzp, trivial⟩ fun u23 e24 => ?_))))))
    have e9 : l ≠ m := by intro e; have h9 := hb22; rw [e] at h9; simp at h9
    show Value.bool false = Value.bool _
    rw [decide_eq_false e9]
   ·replace hb22 : (!(decide ((l.getD i 0) = (m.getD i 0)))) = false := hb22
    refine zzr (zzo ?_)
    refine zze ?_
    refine zza 15 (.v (.int .i64 (i : Int))) ?_
    refine zyp 16 (x := .v (.int .i64 (IntKind.i64.wrap ((i : Int) + 1)))) (.v (.int .i64 ((i + 1 : Nat) : Int))) (eqI (by rw [IntWalk.i64_in _ (by omega)]; omega)) ?_
    refine zza 5 (.v (.int .i64 ((i + 1 : Nat) : Int))) ?_
    refine zzw ?_
    refine ⟨_, ?_, St.of 27 [(0, .v (.slice x.a x.n x.c)), (1, .v (.slice y.a y.n y.c)), (5, .v (.int .i64 ((i + 1 : Nat) : Int)))] [], by exact zzu _ _ _, i + 1, rfl, by omega, (fun j hj => by by_cases e : j = i; (rw [e]; have h9 := hb22; simpa using h9); exact hz j (by omega)), rfl, (e14.trans (e18.trans g20.ext))⟩
    omega
  ·replace hb15 : (decide ((i : Int) < (x.n : Int))) = false := hb15
   have qhb15 := of_decide_eq_false hb15
   refine zyb ?_
   refine zzo ?_
   refine sq9 ?_
   refine zza 4 (.v (.bool true)) ?_
   refine zzb 27 [(4, .v (.bool true))] [] ?_
   refine zzn (ret0 [.bool true] ⟨zzp, trivial⟩ fun u25 e26 => ?_)
   have e9 : l = m := Nt.list_ext (by omega) (fun j => by by_cases hj : j < i; exact hz j hj; rw [Nt.co_ge (by omega), Nt.co_ge (by omega)])
   show Value.bool true = Value.bool _
   rw [decide_eq_true e9]
theorem k_r5Equal {u w : World} {x : Sl} {l : List Rat} {y : Sl} {m : List Rat} {K M : Nat} (d : Dat u w) (hx : PolN u x l K) (hy : PolN u y m M) (hx9 : l.length ≤ 1000000000) (hy9 : m.length ≤ 1000000000) : Calls Tryz.prog 151 #[x.v, y.v] w (Post u w fun v u' => v = .bool (decide (l = m))) := by
 have hlen := hx.len
 have hlen2 := hy.len
 refine zzl (args := [.slice x.a x.n x.c, .slice y.a y.n y.c]) Tryz.func151 rfl Tryz.ntmps151 (rs := [.tmp 4]) Tryz.results151 (le_b rfl) (le_b rfl) d ?_
 refine sq9 ?_
 refine zza 4 (.v (.bool false)) ?_
 refine zzb 8 [(0, .v x.v), (1, .v y.v)] [] ?_
 refine sq9 ?_
 refine zza 5 (.v x.v) ?_
 refine zza 6 (.v y.v) ?_
 refine zzf 7 184 [x.v, y.v] ?_
 intro w11 u11 e11 d11
 have k14 := k_sameList d11 (hx.ext e11) (hy.ext e11) (by first|omega|(simp;omega) | (refine Nat.le_trans (Nt.zzg _) ?_; first|omega|(simp;omega)) | (refine Nat.le_trans (Nt.zzg _) ?_; simp only [List.length_map]; refine Nat.le_trans (Nt.zzg _) ?_; first|omega|(simp;omega))) (by first|omega|(simp;omega) | (refine Nat.le_trans (Nt.zzg _) ?_; first|omega|(simp;omega)) | (refine Nat.le_trans (Nt.zzg _) ?_; simp only [List.length_map]; refine Nat.le_trans (Nt.zzg _) ?_; first|omega|(simp;omega)))
 with_reducible refine zPm k14 ?_
 rintro _ u12 g13 rfl
 refine zza 4 (.v (.bool (decide (l = m)))) ?_
 refine zzb 8 [(4, .v (.bool (decide (l = m))))] [] ?_
 refine zzn (ret0 [.bool (decide (l = m))] ⟨zzp, trivial⟩ fun u15 e16 => ?_)
 rfl
set_option maxHeartbeats 2000000 in
theorem k_r5Scale {u w : World} {x : Sl} {l : List Rat} {r : RL} {q : Rat} {K M : Nat} (d : Dat u w) (hx : PolV u x l K) (hr : RatV u r q M) (hK : K ≤ 20000000) (hx9 : l.length ≤ 1000000000) (hM : M ≤ 20000000) : Calls Tryz.prog 81 #[x.v, r.v] w (Post u w fun v u' => ∃ y : Sl, v = y.v ∧ PolN u' y (Nt.trimQ (l.map (· * q))) (K + M + 1)) := by
 have hlen := hx.len
 refine zzl (args := [.slice x.a x.n x.c, r.v]) Tryz.func81 rfl Tryz.ntmps81 (rs := [.tmp 4]) Tryz.results81 (le_b rfl) (le_b rfl) d ?_
 refine sq9 ?_
 refine zzj 3 ⟨41, r.cs⟩ ?_
 refine zza 4 (.v (.slice none 0 0)) ?_
 refine zzb 23 [(0, .v x.v), (3, .adr 3 0)] [(3, ⟨41, r.cs⟩)] ?_
 refine sq9 ?_
 refine zza 5 (.v (.slice none 0 0)) ?_
 refine zzb 23 [(0, .v x.v), (3, .adr 3 0), (5, .v (.slice none 0 0))] [(3, ⟨41, r.cs⟩)] ?_
 refine zzc ?_
 refine sq9 ?_
 refine zza 8 (.v x.v) ?_
 refine zza 9 (.v (.int .i64 (x.n : Int))) ?_
 refine zza 10 (.v (.int .i64 0)) ?_
 refine zzb 23 [(3, .adr 3 0), (5, .v (.slice none 0 0)), (8, .v x.v), (9, .v (.int .i64 (x.n : Int))), (10, .v (.int .i64 0))] [(3, ⟨41, r.cs⟩)] ?_
 refine zzs ?_
 refine zym (I := fun m11 S' u' => (m11 = x.n ∧ S' = St.of 23 [(3, .adr 3 0), (5, .v (.slice none 0 0)), (8, .v (.slice x.a x.n x.c)), (9, .v (.int .i64 (x.n : Int))), (10, .v (.int .i64 0))] [(3, ⟨41, r.cs⟩)] ∧ Ext u u') ∨ (∃ (i : Nat) (L : List RL) (cs : List Value) (cp : Nat), m11 = x.n - i ∧ i ≤ x.n ∧ 0 < i ∧ L.length = i ∧ cs.length = cp * 3 ∧ i ≤ cp ∧ cp ≤ maxLen ∧ cs.take (i * 3) = rcs L ∧ S' = St.of 23 [(3, .adr 3 0), (5, .slc 19 0 i cp), (8, .v (.slice x.a x.n x.c)), (9, .v (.int .i64 (x.n : Int))), (10, .v (.int .i64 (i : Int)))] [(3, ⟨41, r.cs⟩), (19, ⟨41, cs⟩)] ∧ Ext u u' ∧ RatsN u' L ((l.map (· * q)).take i) (K + M + 1))) (fun m S u1 u2 e h => by rcases h with ⟨a, b, c⟩ | ⟨a1, a2, a3, a4, b1, b2, b3, b4, b5, b6, b7, b8, b9, b10, b11⟩; exact .inl ⟨a, b, c.trans e⟩; exact .inr ⟨a1, a2, a3, a4, b1, b2, b3, b4, b5, b6, b7, b8, b9, b10.trans e, b11.ext e⟩) _ (T := St.of 23 [(3, .adr 3 0), (5, .v (.slice none 0 0)), (8, .v (.slice x.a x.n x.c)), (9, .v (.int .i64 (x.n : Int))), (10, .v (.int .i64 0))] [(3, ⟨41, r.cs⟩)]) (by exact zzu _ _ _) (.inl ⟨rfl, rfl, Ext.refl _⟩) ?_
 rintro m11 _ u11 (⟨hm11, rfl, e11⟩ | ⟨i, L, cs, cp, hm11, hi, hp, hL, hc, hle, hmx, ht, rfl, e11, hR⟩)
 ·change SW _ _ _ _ (St.of 23 [(3, .adr 3 0), (5, .v (.slice none 0 0)), (8, .v (.slice x.a x.n x.c)), (9, .v (.int .i64 (x.n : Int))), (10, .v (.int .i64 0))] [(3, ⟨41, r.cs⟩)]) _ _
  refine sq9 ?_
  refine zza 11 (.v (.bool (decide ((0 : Int) < (x.n : Int))))) ?_
  refine zzb 23 [(3, .adr 3 0), (5, .v (.slice none 0 0)), (8, .v x.v), (9, .v (.int .i64 (x.n : Int))), (10, .v (.int .i64 0)), (11, .v (.bool (decide ((0 : Int) < (x.n : Int)))))] [(3, ⟨41, r.cs⟩)] ?_
  refine zzc ?_
  refine zzt (b := decide ((0 : Int) < (x.n : Int))) (by kernel_rfl) (fun hb12 => ?_) (fun hb12 => ?_)
  ·replace hb12 : (decide ((0 : Int) < (x.n : Int))) = true := hb12
   have qhb12 := of_decide_eq_true hb12
   refine zzr (zzo ?_)
   refine zzc ?_
   refine zzs ?_
   refine sq9 ?_
   have hl13 := (hx.ext e11).len
   obtain ⟨r13, b13, o13, hA13, hc13, hr13⟩ := pol_at (hx.ext e11) (i := 0) (by omega)
   refine zzz 12 (o13 + 0 * 3) (n := x.n) (off := o13) (sz := 3) (i := 0) (by omega) hA13 (by omega) (by omega) sl29 ?_
   refine zyl 13 r13.cs hc13 ty41 ?_
   refine zzj 7 ⟨41, [.bool false, .slice none 0 0, .slice none 0 0]⟩ ?_
   refine zzi ⟨41, r13.cs⟩ ty41 ?_
   refine zzb 23 [(3, .adr 3 0), (5, .v (.slice none 0 0)), (7, .adr 7 0), (8, .v x.v), (9, .v (.int .i64 (x.n : Int))), (10, .v (.int .i64 0))] [(3, ⟨41, r.cs⟩), (7, ⟨41, r13.cs⟩)] ?_
   refine zze ?_
   refine zza 14 (.v (.slice none 0 0)) ?_
   refine zzh 15 (.v (r13.v)) ty41 zzd ?_
   refine zzh 16 (.v (r.v)) ty41 zzd ?_
   refine zzf 17 90 [r13.v, r.v] ?_
   intro w14 u14 e14 d14
   have k19 := k_rqMul d14 (hr13.ext e14) (hr.ext (e11.trans e14)) (by omega) (by omega)
   with_reducible refine zPm k19 ?_
   rintro _ u17 g18 ⟨r15, rfl, h16⟩
   refine sy_data 18 ⟨41, r15.cs⟩ 1 (fun b20 u21 e22 h23 => ?_)
   have hp24 : PolN u21 (⟨some ⟨b20, 0, none⟩, 1, 1⟩ : Sl) [((l.getD 0 0) * q)] (K + M + 1) := pol_lit (L := [r15]) h23 (rats1 (h16.ext e22)) rfl (by decide)
   refine sy_app0 19 (T := 29) (E := 41) (z := .agg #[.bool false, .slice none 0 0, .slice none 0 0]) (size := 3) (bytes := 56) (b := b20) (off := 0) (m := 1) r15.cs (by kernel_rfl) (by kernel_rfl) (by kernel_rfl) (by decide) rfl (lit_news ((Ext.refl _).cells h23)) (rl_one r15) (by decide) (by decide) (by decide) ?_
   intro c25 cs25 ha25 hb25 hc25 hd25
   refine zza 5 (.slc 19 0 1 c25) ?_
   refine zzw ?_
   refine zzo ?_
   refine zze ?_
   refine zza 20 (.v (.int .i64 1)) ?_
   refine zza 10 (.v (.int .i64 1)) ?_
   refine zzw ?_
   have ht26 : 0 < (l.map (· * q)).length := by rw [List.length_map]; omega
   refine ⟨_, ?_, St.of 23 [(3, .adr 3 0), (5, .slc 19 0 1 c25), (8, .v (.slice x.a x.n x.c)), (9, .v (.int .i64 (x.n : Int))), (10, .v (.int .i64 1))] [(3, ⟨41, r.cs⟩), (19, ⟨41, cs25⟩)], by exact zzu _ _ _, .inr ⟨1, [r15], cs25, c25, rfl, by omega, by omega, by simp, hc25, by omega, hb25, hd25, rfl, (e11.trans (e14.trans (g18.ext.trans e22))), (app_first (RatN.more (K := (K + M + 1)) (h16.ext e22) (by omega)) ht26 (by simp [List.getElem?_eq_getElem (show 0 < l.length by omega)]))⟩⟩
   omega
  ·replace hb12 : (decide ((0 : Int) < (x.n : Int))) = false := hb12
   have qhb12 := of_decide_eq_false hb12
   refine zyb ?_
   refine zzo ?_
   refine zzc ?_
   have hp27 : PolN u11 ⟨none, 0, 0⟩ (l.map (· * q)) (K + M + 1) := by have h9 : l.map (· * q) = [] := List.eq_nil_of_length_eq_zero (by rw [List.length_map]; omega); rw [h9]; exact pol_nil _ _
   refine zze ?_
   refine zza 21 (.v (.slice none 0 0)) ?_
   refine zzf 22 82 [.slice none 0 0] ?_
   intro w28 u28 e28 d28
   have k33 := k_r5Trim d28 (hp27.ext e28).raw (by omega) (by first|omega|(simp;omega) | (refine Nat.le_trans (Nt.zzg _) ?_; first|omega|(simp;omega)) | (refine Nat.le_trans (Nt.zzg _) ?_; simp only [List.length_map]; refine Nat.le_trans (Nt.zzg _) ?_; first|omega|(simp;omega)))
   with_reducible refine zPm k33 ?_
   rintro _ u31 g32 ⟨y29, rfl, h30⟩
   have hly29 := h30.len
   refine zza 4 (.v y29.v) ?_
   refine zzb 23 [(4, .v y29.v)] [] ?_
   refine zzn (ret0 [.slice y29.a y29.n y29.c] ⟨zzp, trivial⟩ fun u34 e35 => ?_)
   refine ⟨y29, rfl, ?_⟩
   exact (h30.ext e35)
 ·change SW _ _ _ _ (St.of 23 [(3, .adr 3 0), (5, .slc 19 0 i cp), (8, .v (.slice x.a x.n x.c)), (9, .v (.int .i64 (x.n : Int))), (10, .v (.int .i64 (i : Int)))] [(3, ⟨41, r.cs⟩), (19, ⟨41, cs⟩)]) _ _
  refine sq9 ?_
  refine zza 11 (.v (.bool (decide ((i : Int) < (x.n : Int))))) ?_
  refine zzb 23 [(3, .adr 3 0), (5, .slc 19 0 i cp), (8, .v x.v), (9, .v (.int .i64 (x.n : Int))), (10, .v (.int .i64 (i : Int))), (11, .v (.bool (decide ((i : Int) < (x.n : Int)))))] [(3, ⟨41, r.cs⟩), (19, ⟨41, cs⟩)] ?_
  refine zzc ?_
  refine zzt (b := decide ((i : Int) < (x.n : Int))) (by kernel_rfl) (fun hb36 => ?_) (fun hb36 => ?_)
  ·replace hb36 : (decide ((i : Int) < (x.n : Int))) = true := hb36
   have qhb36 := of_decide_eq_true hb36
   refine zzr (zzo ?_)
   refine zzc ?_
   refine zzs ?_
   refine sq9 ?_
   have hl37 := (hx.ext e11).len
   obtain ⟨r37, b37, o37, hA37, hc37, hr37⟩ := pol_at (hx.ext e11) (i := i) (by omega)
   refine zzz 12 (o37 + i * 3) (n := x.n) (off := o37) (sz := 3) (i := (i : Int)) (by omega) hA37 (by omega) (by omega) sl29 ?_
   refine zyl 13 r37.cs hc37 ty41 ?_
   refine zzj 7 ⟨41, [.bool false, .slice none 0 0, .slice none 0 0]⟩ ?_
   refine zzi ⟨41, r37.cs⟩ ty41 ?_
   refine zzb 23 [(3, .adr 3 0), (5, .slc 19 0 i cp), (7, .adr 7 0), (8, .v x.v), (9, .v (.int .i64 (x.n : Int))), (10, .v (.int .i64 (i : Int)))] [(3, ⟨41, r.cs⟩), (7, ⟨41, r37.cs⟩), (19, ⟨41, cs⟩)] ?_
   refine zze ?_
   refine zza 14 (.slc 19 0 i cp) ?_
   refine zzh 15 (.v (r37.v)) ty41 zzd ?_
   refine zzh 16 (.v (r.v)) ty41 zzd ?_
   refine zzf 17 90 [r37.v, r.v] ?_
   intro w38 u38 e38 d38
   have k43 := k_rqMul d38 (hr37.ext e38) (hr.ext (e11.trans e38)) (by omega) (by omega)
   with_reducible refine zPm k43 ?_
   rintro _ u41 g42 ⟨r39, rfl, h40⟩
   refine sy_data 18 ⟨41, r39.cs⟩ 1 (fun b44 u45 e46 h47 => ?_)
   have hp48 : PolN u45 (⟨some ⟨b44, 0, none⟩, 1, 1⟩ : Sl) [((l.getD i 0) * q)] (K + M + 1) := pol_lit (L := [r39]) h47 (rats1 (h40.ext e46)) rfl (by decide)
   refine sy_app1 19 (T := 29) (E := 41) (z := .agg #[.bool false, .slice none 0 0, .slice none 0 0]) (size := 3) (bytes := 56) (b := b44) (off := 0) (m := 1) (n := i) (cap := cp) (t := 19) (cs0 := cs) [5, 14, 19] r39.cs (by kernel_rfl) (by kernel_rfl) (by kernel_rfl) (by decide) rfl (lit_news ((Ext.refl _).cells h47)) (rl_one r39) (by decide) (by unfold maxLen; omega) (by omega) (by omega) (by omega) (by omega) (by repeat first | exact noAt_of | refine zyc ?_ | refine zye ?_ | refine zyd ?_ | refine zzx ?_ | refine zya ?_) ?_
   intro c49 cs49 ha49 hb49 hc49 hd49
   have hd49r : cs49.take ((i + 1) * 3) = rcs (L ++ [r39]) := by rw [hd49, ht, rcs_app]; rfl
   refine zza 5 (.slc 19 0 (i + 1) c49) ?_
   refine zzw ?_
   refine zzo ?_
   refine zze ?_
   refine zyp 20 (x := .v (.int .i64 (IntKind.i64.wrap ((i : Int) + 1)))) (.v (.int .i64 ((i + 1 : Nat) : Int))) (eqI (by rw [IntWalk.i64_in _ (by omega)]; omega)) ?_
   refine zza 10 (.v (.int .i64 ((i + 1 : Nat) : Int))) ?_
   refine zzw ?_
   have ht50 : i < (l.map (· * q)).length := by rw [List.length_map]; omega
   refine ⟨_, ?_, St.of 23 [(3, .adr 3 0), (5, .slc 19 0 (i + 1) c49), (8, .v (.slice x.a x.n x.c)), (9, .v (.int .i64 (x.n : Int))), (10, .v (.int .i64 ((i + 1 : Nat) : Int)))] [(3, ⟨41, r.cs⟩), (19, ⟨41, cs49⟩)], by exact zzu _ _ _, .inr ⟨i + 1, L ++ [r39], cs49, c49, rfl, by omega, by omega, by simp; omega, hc49, by omega, hb49, hd49r, rfl, (e11.trans (e38.trans (g42.ext.trans e46))), (app_next (hR.ext (e38.trans (g42.ext.trans e46))) (RatN.more (K := (K + M + 1)) (h40.ext e46) (by omega)) ht50 (by simp [List.getElem?_eq_getElem (show i < l.length by omega)]))⟩⟩
   omega
  ·replace hb36 : (decide ((i : Int) < (x.n : Int))) = false := hb36
   have qhb36 := of_decide_eq_false hb36
   refine zyb ?_
   refine zzo ?_
   refine zzc ?_
   refine zyo (r := 5) (t := 19) [5, 19] (by repeat first | exact noAt_of | refine zyc ?_ | refine zye ?_ | refine zyd ?_ | refine zzx ?_ | refine zya ?_) (by kernel_rfl) (by rfl) (by rfl) (by kernel_rfl) (fun b52 u53 e54 hb55 hh56 => ?_)
   have hp51 : PolN u53 ⟨some ⟨b52, 0, none⟩, i, cp⟩ (l.map (· * q)) (K + M + 1) := by have h8 := pol_data hh56 ht hc hle hmx (hR.ext e54); rw [List.take_of_length_le (l := l.map (· * q)) (by rw [List.length_map]; omega)] at h8; exact h8
   refine zze ?_
   refine zza 21 (.v (.slice (some ⟨b52, 0, none⟩) i cp)) ?_
   refine zzf 22 82 [.slice (some ⟨b52, 0, none⟩) i cp] ?_
   intro w57 u57 e57 d57
   have k62 := k_r5Trim d57 (hp51.ext e57).raw (by omega) (by first|omega|(simp;omega) | (refine Nat.le_trans (Nt.zzg _) ?_; first|omega|(simp;omega)) | (refine Nat.le_trans (Nt.zzg _) ?_; simp only [List.length_map]; refine Nat.le_trans (Nt.zzg _) ?_; first|omega|(simp;omega)))
   with_reducible refine zPm k62 ?_
   rintro _ u60 g61 ⟨y58, rfl, h59⟩
   have hly58 := h59.len
   refine zza 4 (.v y58.v) ?_
   refine zzb 23 [(4, .v y58.v)] [] ?_
   refine zzn (ret0 [.slice y58.a y58.n y58.c] ⟨zzp, trivial⟩ fun u63 e64 => ?_)
   refine ⟨y58, rfl, ?_⟩
   exact (h59.ext e64)
set_option maxHeartbeats 2000000 in
theorem k_poSub {u w : World} {x : Sl} {l : List Rat} {y : Sl} {m : List Rat} {K M : Nat} (d : Dat u w) (hx : PolV u x l K) (hy : PolV u y m M) (hK : K ≤ 40000000) (hM : M ≤ 40000000) (hx9 : l.length ≤ 1000000000) (hy9 : m.length ≤ 1000000000) : Calls Tryz.prog 96 #[x.v, y.v] w (Post u w fun v u' => ∃ y : Sl, v = y.v ∧ PolN u' y (Nt.trimQ (Nt.addQ l (m.map (fun z => -z)))) (K + M + 1)) := by
 have hlen := hx.len
 have hlen2 := hy.len
 refine zzl (args := [.slice x.a x.n x.c, .slice y.a y.n y.c]) Tryz.func96 rfl Tryz.ntmps96 (rs := [.tmp 4]) Tryz.results96 (le_b rfl) (le_b rfl) d ?_
 refine sq9 ?_
 refine zza 4 (.v (.slice none 0 0)) ?_
 refine zzb 27 [(0, .v x.v), (1, .v y.v)] [] ?_
 refine sq9 ?_
 refine zza 7 (.v y.v) ?_
 refine zza 8 (.v (.int .i64 (y.n : Int))) ?_
 refine sy_make 9 (T := 29) (E := 41) (z := .agg #[.bool false, .slice none 0 0, .slice none 0 0]) (size := 3) (bytes := 56) y.n (rcs (List.replicate y.n rl0)) (by kernel_rfl) (by kernel_rfl) rfl rfl (by omega) (by unfold maxLen; omega) (made_rcs _) ?_
 refine zza 5 (.slc 9 0 y.n y.n) ?_
 refine zzb 27 [(0, .v x.v), (1, .v y.v), (5, .slc 9 0 y.n y.n)] [(9, ⟨41, rcs (List.replicate y.n rl0)⟩)] ?_
 refine zzc ?_
 refine sq9 ?_
 refine zza 10 (.slc 9 0 y.n y.n) ?_
 refine zza 11 (.v (.int .i64 (y.n : Int))) ?_
 refine zza 12 (.v (.int .i64 0)) ?_
 refine zzb 27 [(0, .v x.v), (1, .v y.v), (5, .slc 9 0 y.n y.n), (11, .v (.int .i64 (y.n : Int))), (12, .v (.int .i64 0))] [(9, ⟨41, rcs (List.replicate y.n rl0)⟩)] ?_
 refine zzs ?_
 refine zym (I := fun m11 S' u' => ∃ (i : Nat) (L : List RL), (m11 = y.n - i) ∧ (i ≤ y.n) ∧ (L.length = y.n) ∧ (S' = St.of 27 [(0, .v (.slice x.a x.n x.c)), (1, .v (.slice y.a y.n y.c)), (5, .slc 9 0 y.n y.n), (11, .v (.int .i64 (y.n : Int))), (12, .v (.int .i64 (i : Int)))] [(9, ⟨41, rcs L⟩)]) ∧ (Ext u u') ∧ (RatsN u' (L.take i) ((m.map (fun z => -z)).take i) M)) (fun m S u1 u2 e h => by obtain ⟨i, L, hm, p0, p1, hS, hE, f0⟩ := h; exact ⟨i, L, hm, p0, p1, hS, hE.trans e, f0.ext e⟩) _ (T := St.of 27 [(0, .v (.slice x.a x.n x.c)), (1, .v (.slice y.a y.n y.c)), (5, .slc 9 0 y.n y.n), (11, .v (.int .i64 (y.n : Int))), (12, .v (.int .i64 0))] [(9, ⟨41, rcs (List.replicate y.n rl0)⟩)]) (by exact zzu _ _ _) ⟨0, List.replicate y.n rl0, rfl, by omega, by simp, rfl, (Ext.refl _), RatsN.tnil _ _ _ _⟩ ?_
 rintro m11 _ u11 ⟨i, L, hm11, hi, hL, rfl, e11, hR⟩
 refine sq9 ?_
 refine zza 13 (.v (.bool (decide ((i : Int) < (y.n : Int))))) ?_
 refine zzb 27 [(0, .v x.v), (1, .v y.v), (5, .slc 9 0 y.n y.n), (11, .v (.int .i64 (y.n : Int))), (12, .v (.int .i64 (i : Int))), (13, .v (.bool (decide ((i : Int) < (y.n : Int)))))] [(9, ⟨41, rcs L⟩)] ?_
 refine zzc ?_
 refine zzt (b := decide ((i : Int) < (y.n : Int))) (by kernel_rfl) (fun hb12 => ?_) (fun hb12 => ?_)
 ·replace hb12 : (decide ((i : Int) < (y.n : Int))) = true := hb12
  have qhb12 := of_decide_eq_true hb12
  refine zzr (zzo ?_)
  refine zzc ?_
  refine zzs ?_
  refine sq9 ?_
  refine zza 14 (.v (.int .i64 (i : Int))) ?_
  refine zza 6 (.v (.int .i64 (i : Int))) ?_
  refine zzb 27 [(0, .v x.v), (1, .v y.v), (5, .slc 9 0 y.n y.n), (6, .v (.int .i64 (i : Int))), (11, .v (.int .i64 (y.n : Int))), (12, .v (.int .i64 (i : Int)))] [(9, ⟨41, rcs L⟩)] ?_
  refine zze ?_
  refine zza 15 (.slc 9 0 y.n y.n) ?_
  refine zza 16 (.v (.int .i64 (i : Int))) ?_
  refine zza 17 (.v y.v) ?_
  refine zza 18 (.v (.int .i64 (i : Int))) ?_
  have hl13 := (hy.ext e11).len
  obtain ⟨r13, b13, o13, hA13, hc13, hr13⟩ := pol_at (hy.ext e11) (i := i) (by omega)
  refine zzz 19 (o13 + i * 3) (n := y.n) (off := o13) (sz := 3) (i := (i : Int)) (by omega) hA13 (by omega) (by omega) sl29 ?_
  refine zyl 20 r13.cs hc13 ty41 ?_
  refine zzf 21 159 [r13.v] ?_
  intro w14 u14 e14 d14
  have k19 := k_ratNeg d14 (hr13.ext e14) (by omega)
  with_reducible refine zPm k19 ?_
  rintro _ u17 g18 ⟨r15, rfl, h16⟩
  refine zyv 22 (off' := i * 3) (n := y.n) (off := 0) (sz := 3) (i := (i : Int)) sl29 (by omega) (by omega) (by omega) ?_
  refine zyu (V := ⟨41, rcs L⟩) (off := i * 3) (rcs ((L).set i r15)) ty41 (by rw [zyx]; first|omega|(simp;omega)) (zyw (r := r15) (i := i) (by first|omega|(simp;omega)) rfl) ?_
  refine zzw ?_
  refine zzo ?_
  refine zze ?_
  refine zyp 23 (x := .v (.int .i64 (IntKind.i64.wrap ((i : Int) + 1)))) (.v (.int .i64 ((i + 1 : Nat) : Int))) (eqI (by rw [IntWalk.i64_in _ (by omega)]; omega)) ?_
  refine zza 12 (.v (.int .i64 ((i + 1 : Nat) : Int))) ?_
  refine zzw ?_
  have ht20 : i < (m.map (fun z => -z)).length := by rw [List.length_map]; omega
  refine ⟨_, ?_, St.of 27 [(0, .v (.slice x.a x.n x.c)), (1, .v (.slice y.a y.n y.c)), (5, .slc 9 0 y.n y.n), (11, .v (.int .i64 (y.n : Int))), (12, .v (.int .i64 ((i + 1 : Nat) : Int)))] [(9, ⟨41, rcs ((L).set i r15)⟩)], by exact zzu _ _ _, i + 1, (L).set i r15, rfl, by omega, by simpa using hL, rfl, (e11.trans (e14.trans g18.ext)), RatsN.tstep (hR.ext (e14.trans g18.ext)) (by omega) ht20 (RatN.more (K := M) h16 (by omega)) (by simp [List.getElem?_eq_getElem (show i < m.length by omega)])⟩
  omega
 ·replace hb12 : (decide ((i : Int) < (y.n : Int))) = false := hb12
  have qhb12 := of_decide_eq_false hb12
  refine zyb ?_
  refine zzo ?_
  refine zzc ?_
  refine zyo (r := 5) (t := 9) [5, 9] (by repeat first | exact noAt_of | refine zyc ?_ | refine zye ?_ | refine zyd ?_ | refine zzx ?_ | refine zya ?_) (by kernel_rfl) (by rfl) (by rfl) (by kernel_rfl) (fun b21 u22 e23 hb24 hh25 => ?_)
  have hp26 : PolN u22 ⟨some ⟨b21, 0, none⟩, y.n, y.n⟩ (m.map (fun z => -z)) M := pol_data1 hh25 (by unfold maxLen; omega) (RatsN.tdone (hR.ext e23) (by omega) (by rw [List.length_map]; omega)) (by omega)
  refine zze ?_
  refine zza 24 (.v x.v) ?_
  refine zza 25 (.v (.slice (some ⟨b21, 0, none⟩) y.n y.n)) ?_
  refine zzf 26 49 [x.v, .slice (some ⟨b21, 0, none⟩) y.n y.n] ?_
  intro w27 u27 e27 d27
  have k32 := k_poAdd d27 (hx.ext (e11.trans (e23.trans e27))) (hp26.ext e27).raw (by omega) (by omega) (by first|omega|(simp;omega) | (refine Nat.le_trans (Nt.zzg _) ?_; first|omega|(simp;omega)) | (refine Nat.le_trans (Nt.zzg _) ?_; simp only [List.length_map]; refine Nat.le_trans (Nt.zzg _) ?_; first|omega|(simp;omega))) (by first|omega|(simp;omega) | (refine Nat.le_trans (Nt.zzg _) ?_; first|omega|(simp;omega)) | (refine Nat.le_trans (Nt.zzg _) ?_; simp only [List.length_map]; refine Nat.le_trans (Nt.zzg _) ?_; first|omega|(simp;omega)))
  with_reducible refine zPm k32 ?_
  rintro _ u30 g31 ⟨y28, rfl, h29⟩
  have hly28 := h29.len
  refine zza 4 (.v y28.v) ?_
  refine zzb 27 [(4, .v y28.v)] [] ?_
  refine zzn (ret0 [.slice y28.a y28.n y28.c] ⟨zzp, trivial⟩ fun u33 e34 => ?_)
  refine ⟨y28, rfl, ?_⟩
  exact (h29.ext e34)
set_option maxHeartbeats 1000000 in
theorem k_r5Same {u w : World} {x : Sl} {l : List Rat} {y : Sl} {m : List Rat} {K M : Nat} (d : Dat u w) (hx : PolV u x l K) (hy : PolV u y m M) (hK : K ≤ 40000000) (hM : M ≤ 40000000) (hx9 : l.length ≤ 1000000000) (hy9 : m.length ≤ 1000000000) : Calls Tryz.prog 74 #[x.v, y.v] w (Post u w fun v u' => v = .bool (decide (Nt.trimQ l = Nt.trimQ m))) := by
 have hlen := hx.len
 have hlen2 := hy.len
 have htl := Nt.zzg l
 have htm := Nt.zzg m
 refine zzl (args := [.slice x.a x.n x.c, .slice y.a y.n y.c]) Tryz.func74 rfl Tryz.ntmps74 (rs := [.tmp 4]) Tryz.results74 (le_b rfl) (le_b rfl) d ?_
 refine sq9 ?_
 refine zza 4 (.v (.bool false)) ?_
 refine zzb 10 [(0, .v x.v), (1, .v y.v)] [] ?_
 refine sq9 ?_
 refine zza 5 (.v x.v) ?_
 refine zzf 6 82 [x.v] ?_
 intro w11 u11 e11 d11
 have k16 := k_r5Trim d11 (hx.ext e11) (by omega) (by first|omega|(simp;omega) | (refine Nat.le_trans (Nt.zzg _) ?_; first|omega|(simp;omega)) | (refine Nat.le_trans (Nt.zzg _) ?_; simp only [List.length_map]; refine Nat.le_trans (Nt.zzg _) ?_; first|omega|(simp;omega)))
 with_reducible refine zPm k16 ?_
 rintro _ u14 g15 ⟨y12, rfl, h13⟩
 have hly12 := h13.len
 refine zza 7 (.v y.v) ?_
 refine zzf 8 82 [y.v] ?_
 intro w17 u17 e17 d17
 have k22 := k_r5Trim d17 (hy.ext (e11.trans (g15.ext.trans e17))) (by omega) (by first|omega|(simp;omega) | (refine Nat.le_trans (Nt.zzg _) ?_; first|omega|(simp;omega)) | (refine Nat.le_trans (Nt.zzg _) ?_; simp only [List.length_map]; refine Nat.le_trans (Nt.zzg _) ?_; first|omega|(simp;omega)))
 with_reducible refine zPm k22 ?_
 rintro _ u20 g21 ⟨y18, rfl, h19⟩
 have hly18 := h19.len
 refine zzf 9 151 [y12.v, y18.v] ?_
 intro w23 u23 e23 d23
 have k26 := k_r5Equal d23 (h13.ext (e17.trans (g21.ext.trans e23))) (h19.ext e23) (by first|omega|(simp;omega) | (refine Nat.le_trans (Nt.zzg _) ?_; first|omega|(simp;omega)) | (refine Nat.le_trans (Nt.zzg _) ?_; simp only [List.length_map]; refine Nat.le_trans (Nt.zzg _) ?_; first|omega|(simp;omega))) (by first|omega|(simp;omega) | (refine Nat.le_trans (Nt.zzg _) ?_; first|omega|(simp;omega)) | (refine Nat.le_trans (Nt.zzg _) ?_; simp only [List.length_map]; refine Nat.le_trans (Nt.zzg _) ?_; first|omega|(simp;omega)))
 with_reducible refine zPm k26 ?_
 rintro _ u24 g25 rfl
 refine zza 4 (.v (.bool (decide ((Nt.trimQ l) = (Nt.trimQ m))))) ?_
 refine zzb 10 [(4, .v (.bool (decide ((Nt.trimQ l) = (Nt.trimQ m)))))] [] ?_
 refine zzn (ret0 [.bool (decide ((Nt.trimQ l) = (Nt.trimQ m)))] ⟨zzp, trivial⟩ fun u27 e28 => ?_)
 rfl
set_option maxHeartbeats 1000000 in
theorem k_r5At {u w : World} {x : Sl} {l : List Rat} {K i : Nat} (d : Dat u w) (hx : PolV u x l K) (hK : K ≤ 40000000) (hx9 : l.length ≤ 1000000000) (hi9 : i ≤ 1000000000) : Calls Tryz.prog 156 #[x.v, .int .i64 (i : Int)] w (Post u w fun v u' => ∃ r : RL, v = r.v ∧ RatN u' r (l.getD i 0) (K + 2)) := by
 have hlen := hx.len
 refine zzl (args := [.slice x.a x.n x.c, .int .i64 (i : Int)]) Tryz.func156 rfl Tryz.ntmps156 (rs := [.cell 4 41]) Tryz.results156 (le_b rfl) (le_b rfl) d ?_
 refine sq9 ?_
 refine zzj 4 ⟨41, [.bool false, .slice none 0 0, .slice none 0 0]⟩ ?_
 refine zzb 19 [(0, .v x.v), (1, .v (.int .i64 (i : Int))), (4, .adr 4 0)] [(4, ⟨41, [.bool false, .slice none 0 0, .slice none 0 0]⟩)] ?_
 refine zzc ?_
 refine sq9 ?_
 refine zza 5 (.v (.int .i64 (i : Int))) ?_
 refine zza 6 (.v (.bool (decide ((i : Int) < 0)))) ?_
 refine zyp 7 (x := .v (.bool (decide ((i : Int) < 0)))) (.v (.bool false)) (by rw [show (decide ((i : Int) < 0)) = false from decide_eq_false (by omega)]) ?_
 refine zza 8 (.v (.int .i64 (i : Int))) ?_ (hw := w1 2 false 7)
 refine zza 9 (.v x.v) ?_ (hw := w1 2 false 7)
 refine zza 10 (.v (.int .i64 (x.n : Int))) ?_ (hw := w1 2 false 7)
 refine zza 11 (.v (.bool (decide ((x.n : Int) ≤ (i : Int))))) ?_ (hw := w1 2 false 7)
 refine zza 12 (.v (.bool (decide ((x.n : Int) ≤ (i : Int))))) ?_
 refine zzb 19 [(0, .v x.v), (1, .v (.int .i64 (i : Int))), (4, .adr 4 0), (12, .v (.bool (decide ((x.n : Int) ≤ (i : Int)))))] [(4, ⟨41, [.bool false, .slice none 0 0, .slice none 0 0]⟩)] ?_
 refine zzt (b := decide ((x.n : Int) ≤ (i : Int))) (by kernel_rfl) (fun hb12 => ?_) (fun hb12 => ?_)
 ·replace hb12 : (decide ((x.n : Int) ≤ (i : Int))) = true := hb12
  have qhb12 := of_decide_eq_true hb12
  refine sq9 ?_
  refine zzf 13 13 [.int .i64 0] ?_
  intro w13 u13 e13 d13
  have k18 := k_rqOf d13 (z := 0) (by omega) (by omega)
  with_reducible refine zPm k18 ?_
  rintro _ u16 g17 ⟨r14, rfl, h15⟩
  refine zzi ⟨41, r14.cs⟩ ty41 ?_
  refine zzb 19 [(4, .adr 4 0)] [(4, ⟨41, r14.cs⟩)] ?_
  refine zzn (zzv (ret0 [r14.v] ⟨zzq ty41 zzd, trivial⟩ fun u19 e20 => ?_))
  have e9 : l.getD i 0 = ((0 : Int) : Rat) := Nt.co_ge (by omega)
  rw [e9]
  exact ⟨r14, rfl, RatN.more (K := 2) (h15.ext e20) (by omega)⟩
 ·replace hb12 : (decide ((x.n : Int) ≤ (i : Int))) = false := hb12
  have qhb12 := of_decide_eq_false hb12
  refine zzr (zzo ?_)
  refine sq9 ?_
  refine zza 14 (.v x.v) ?_
  refine zza 15 (.v (.int .i64 (i : Int))) ?_
  have hl21 := hx.len
  obtain ⟨r21, b21, o21, hA21, hc21, hr21⟩ := pol_at hx (i := i) (by omega)
  refine zzz 16 (o21 + i * 3) (n := x.n) (off := o21) (sz := 3) (i := (i : Int)) (by omega) hA21 (by omega) (by omega) sl29 ?_
  refine zyl 17 r21.cs hc21 ty41 ?_
  refine zzf 18 158 [r21.v] ?_
  intro w22 u22 e22 d22
  have k27 := k_rqTrim d22 (hr21.ext e22) (by omega)
  with_reducible refine zPm k27 ?_
  rintro _ u25 g26 ⟨r23, rfl, h24⟩
  refine zzi ⟨41, r23.cs⟩ ty41 ?_
  refine zzb 19 [(4, .adr 4 0)] [(4, ⟨41, r23.cs⟩)] ?_
  refine zzn (ret0 [r23.v] ⟨zzq ty41 zzd, trivial⟩ fun u28 e29 => ?_)
  exact ⟨r23, rfl, RatN.more (K := K) (h24.ext e29) (by omega)⟩
set_option maxHeartbeats 4000000 in
theorem k_r5Add {u w : World} {x : Sl} {l : List Rat} {y : Sl} {m : List Rat} {K M : Nat} (d : Dat u w) (hx : PolV u x l K) (hy : PolV u y m M) (hK : K ≤ 20000000) (hM : M ≤ 20000000) (hx9 : l.length ≤ 1000000000) (hy9 : m.length ≤ 1000000000) : Calls Tryz.prog 80 #[x.v, y.v] w (Post u w fun v u' => ∃ y : Sl, v = y.v ∧ PolN u' y (Nt.trimQ (Nt.addQ l m)) (K + M + 6)) := by
 have hlen := hx.len
 have hlen2 := hy.len
 refine zzl (args := [.slice x.a x.n x.c, .slice y.a y.n y.c]) Tryz.func80 rfl Tryz.ntmps80 (rs := [.tmp 4]) Tryz.results80 (le_b rfl) (le_b rfl) d ?_
 refine sq9 ?_
 refine zza 4 (.v (.slice none 0 0)) ?_
 refine zzb 31 [(0, .v x.v), (1, .v y.v)] [] ?_
 refine sq9 ?_
 refine zza 5 (.v (.slice none 0 0)) ?_
 refine zzb 31 [(0, .v x.v), (1, .v y.v), (5, .v (.slice none 0 0))] [] ?_
 refine zzc ?_
 refine sq9 ?_
 refine zza 6 (.v (.int .i64 0)) ?_
 refine zzb 31 [(0, .v x.v), (1, .v y.v), (5, .v (.slice none 0 0)), (6, .v (.int .i64 0))] [] ?_
 refine zzs ?_
 refine zym (I := fun m11 S' u' => (m11 = max x.n y.n ∧ S' = St.of 31 [(0, .v (.slice x.a x.n x.c)), (1, .v (.slice y.a y.n y.c)), (5, .v (.slice none 0 0)), (6, .v (.int .i64 0))] [] ∧ Ext u u') ∨ (∃ (i : Nat) (L : List RL) (cs : List Value) (cp : Nat), m11 = (max x.n y.n) - i ∧ i ≤ max x.n y.n ∧ 0 < i ∧ L.length = i ∧ cs.length = cp * 3 ∧ i ≤ cp ∧ cp ≤ maxLen ∧ cs.take (i * 3) = rcs L ∧ S' = St.of 31 [(0, .v (.slice x.a x.n x.c)), (1, .v (.slice y.a y.n y.c)), (5, .slc 28 0 i cp), (6, .v (.int .i64 (i : Int)))] [(28, ⟨41, cs⟩)] ∧ Ext u u' ∧ RatsN u' L ((Nt.addQ l m).take i) (K + M + 6))) (fun m S u1 u2 e h => by rcases h with ⟨a, b, c⟩ | ⟨a1, a2, a3, a4, b1, b2, b3, b4, b5, b6, b7, b8, b9, b10, b11⟩; exact .inl ⟨a, b, c.trans e⟩; exact .inr ⟨a1, a2, a3, a4, b1, b2, b3, b4, b5, b6, b7, b8, b9, b10.trans e, b11.ext e⟩) _ (T := St.of 31 [(0, .v (.slice x.a x.n x.c)), (1, .v (.slice y.a y.n y.c)), (5, .v (.slice none 0 0)), (6, .v (.int .i64 0))] []) (by exact zzu _ _ _) (.inl ⟨rfl, rfl, Ext.refl _⟩) ?_
 rintro m11 _ u11 (⟨hm11, rfl, e11⟩ | ⟨i, L, cs, cp, hm11, hi, hp, hL, hc, hle, hmx, ht, rfl, e11, hR⟩)
 ·change SW _ _ _ _ (St.of 31 [(0, .v (.slice x.a x.n x.c)), (1, .v (.slice y.a y.n y.c)), (5, .v (.slice none 0 0)), (6, .v (.int .i64 0))] []) _ _
  refine zzc ?_
  refine sq9 ?_
  refine zza 7 (.v (.int .i64 0)) ?_
  refine zza 8 (.v x.v) ?_
  refine zza 9 (.v (.int .i64 (x.n : Int))) ?_
  refine zza 10 (.v (.bool (decide ((0 : Int) < (x.n : Int))))) ?_
  rcases Bool.eq_false_or_eq_true (decide ((0 : Int) < (x.n : Int))) with hs12 | hs12
  ·refine zyp 11 (x := .v (.bool (decide ((0 : Int) < (x.n : Int))))) (.v (.bool true)) (by rw [hs12]) ?_
   have qhs12 := of_decide_eq_true hs12
   refine zzm 12 (uw 4 false true 11) ?_
   refine zzm 13 (uw 4 false true 11) ?_
   refine zzm 14 (uw 4 false true 11) ?_
   refine zzm 15 (uw 4 false true 11) ?_
   refine zza 16 (.v (.bool true)) ?_
   refine zzb 31 [(0, .v x.v), (1, .v y.v), (5, .v (.slice none 0 0)), (6, .v (.int .i64 0)), (16, .v (.bool true))] [] ?_
   refine zyq (by kernel_rfl) ?_
   refine zzr (zzo ?_)
   refine zzc ?_
   refine zzs ?_
   refine zze ?_
   refine zza 19 (.v (.slice none 0 0)) ?_
   refine zza 20 (.v x.v) ?_
   refine zza 21 (.v (.int .i64 0)) ?_
   refine zzf 22 156 [x.v, .int .i64 0] ?_
   intro w13 u13 e13 d13
   have k18 := (show Calls _ _ #[_, .int .i64 (0)] _ _ from k_r5At (i := 0) d13 (hx.ext (e11.trans e13)) (by omega) (by first|omega|(simp;omega) | (refine Nat.le_trans (Nt.zzg _) ?_; first|omega|(simp;omega)) | (refine Nat.le_trans (Nt.zzg _) ?_; simp only [List.length_map]; refine Nat.le_trans (Nt.zzg _) ?_; first|omega|(simp;omega))) (by omega))
   with_reducible refine zPm k18 ?_
   rintro _ u16 g17 ⟨r14, rfl, h15⟩
   refine zza 23 (.v y.v) ?_
   refine zza 24 (.v (.int .i64 0)) ?_
   refine zzf 25 156 [y.v, .int .i64 0] ?_
   intro w19 u19 e19 d19
   have k24 := (show Calls _ _ #[_, .int .i64 (0)] _ _ from k_r5At (i := 0) d19 (hy.ext (e11.trans (e13.trans (g17.ext.trans e19)))) (by omega) (by first|omega|(simp;omega) | (refine Nat.le_trans (Nt.zzg _) ?_; first|omega|(simp;omega)) | (refine Nat.le_trans (Nt.zzg _) ?_; simp only [List.length_map]; refine Nat.le_trans (Nt.zzg _) ?_; first|omega|(simp;omega))) (by omega))
   with_reducible refine zPm k24 ?_
   rintro _ u22 g23 ⟨r20, rfl, h21⟩
   refine zzf 26 150 [r14.v, r20.v] ?_
   intro w25 u25 e25 d25
   have k30 := k_rqAdd d25 (h15.ext (e19.trans (g23.ext.trans e25))).raw (h21.ext e25).raw (by omega) (by omega)
   with_reducible refine zPm k30 ?_
   rintro _ u28 g29 ⟨r26, rfl, h27⟩
   refine sy_data 27 ⟨41, r26.cs⟩ 1 (fun b31 u32 e33 h34 => ?_)
   have hp35 : PolN u32 (⟨some ⟨b31, 0, none⟩, 1, 1⟩ : Sl) [((l.getD 0 0) + (m.getD 0 0))] ((K + 2) + (M + 2) + 2) := pol_lit (L := [r26]) h34 (rats1 (h27.ext e33)) rfl (by decide)
   refine sy_app0 28 (T := 29) (E := 41) (z := .agg #[.bool false, .slice none 0 0, .slice none 0 0]) (size := 3) (bytes := 56) (b := b31) (off := 0) (m := 1) r26.cs (by kernel_rfl) (by kernel_rfl) (by kernel_rfl) (by decide) rfl (lit_news ((Ext.refl _).cells h34)) (rl_one r26) (by decide) (by decide) (by decide) ?_
   intro c36 cs36 ha36 hb36 hc36 hd36
   refine zza 5 (.slc 28 0 1 c36) ?_
   refine zzw ?_
   refine zzo ?_
   refine zze ?_
   refine zza 17 (.v (.int .i64 0)) ?_
   refine zza 18 (.v (.int .i64 1)) ?_
   refine zza 6 (.v (.int .i64 1)) ?_
   refine zzw ?_
   have ht37 : 0 < (Nt.addQ l m).length := by rw [Nt.addQ_len]; omega
   refine ⟨_, ?_, St.of 31 [(0, .v (.slice x.a x.n x.c)), (1, .v (.slice y.a y.n y.c)), (5, .slc 28 0 1 c36), (6, .v (.int .i64 1))] [(28, ⟨41, cs36⟩)], by exact zzu _ _ _, .inr ⟨1, [r26], cs36, c36, rfl, by omega, by omega, by simp, hc36, by omega, hb36, hd36, rfl, (e11.trans (e13.trans (g17.ext.trans (e19.trans (g23.ext.trans (e25.trans (g29.ext.trans e33))))))), (app_first (RatN.more (K := ((K + 2) + (M + 2) + 2)) (h27.ext e33) (by omega)) ht37 (by have h9 := Nt.addQ_co l m (0); unfold Nt.co at h9; exact h9.symm))⟩⟩
   omega
  ·refine zyp 11 (x := .v (.bool (decide ((0 : Int) < (x.n : Int))))) (.v (.bool false)) (by rw [hs12]) ?_
   have qhs12 := of_decide_eq_false hs12
   refine zza 12 (.v (.int .i64 0)) ?_ (hw := w1 4 false 11)
   refine zza 13 (.v y.v) ?_ (hw := w1 4 false 11)
   refine zza 14 (.v (.int .i64 (y.n : Int))) ?_ (hw := w1 4 false 11)
   refine zza 15 (.v (.bool (decide ((0 : Int) < (y.n : Int))))) ?_ (hw := w1 4 false 11)
   refine zza 16 (.v (.bool (decide ((0 : Int) < (y.n : Int))))) ?_
   refine zzb 31 [(0, .v x.v), (1, .v y.v), (5, .v (.slice none 0 0)), (6, .v (.int .i64 0)), (16, .v (.bool (decide ((0 : Int) < (y.n : Int)))))] [] ?_
   refine zzt (b := decide ((0 : Int) < (y.n : Int))) (by kernel_rfl) (fun hb38 => ?_) (fun hb38 => ?_)
   ·replace hb38 : (decide ((0 : Int) < (y.n : Int))) = true := hb38
    have qhb38 := of_decide_eq_true hb38
    refine zzr (zzo ?_)
    refine zzc ?_
    refine zzs ?_
    refine zze ?_
    refine zza 19 (.v (.slice none 0 0)) ?_
    refine zza 20 (.v x.v) ?_
    refine zza 21 (.v (.int .i64 0)) ?_
    refine zzf 22 156 [x.v, .int .i64 0] ?_
    intro w39 u39 e39 d39
    have k44 := (show Calls _ _ #[_, .int .i64 (0)] _ _ from k_r5At (i := 0) d39 (hx.ext (e11.trans e39)) (by omega) (by first|omega|(simp;omega) | (refine Nat.le_trans (Nt.zzg _) ?_; first|omega|(simp;omega)) | (refine Nat.le_trans (Nt.zzg _) ?_; simp only [List.length_map]; refine Nat.le_trans (Nt.zzg _) ?_; first|omega|(simp;omega))) (by omega))
    with_reducible refine zPm k44 ?_
    rintro _ u42 g43 ⟨r40, rfl, h41⟩
    refine zza 23 (.v y.v) ?_
    refine zza 24 (.v (.int .i64 0)) ?_
    refine zzf 25 156 [y.v, .int .i64 0] ?_
    intro w45 u45 e45 d45
    have k50 := (show Calls _ _ #[_, .int .i64 (0)] _ _ from k_r5At (i := 0) d45 (hy.ext (e11.trans (e39.trans (g43.ext.trans e45)))) (by omega) (by first|omega|(simp;omega) | (refine Nat.le_trans (Nt.zzg _) ?_; first|omega|(simp;omega)) | (refine Nat.le_trans (Nt.zzg _) ?_; simp only [List.length_map]; refine Nat.le_trans (Nt.zzg _) ?_; first|omega|(simp;omega))) (by omega))
    with_reducible refine zPm k50 ?_
    rintro _ u48 g49 ⟨r46, rfl, h47⟩
    refine zzf 26 150 [r40.v, r46.v] ?_
    intro w51 u51 e51 d51
    have k56 := k_rqAdd d51 (h41.ext (e45.trans (g49.ext.trans e51))).raw (h47.ext e51).raw (by omega) (by omega)
    with_reducible refine zPm k56 ?_
    rintro _ u54 g55 ⟨r52, rfl, h53⟩
    refine sy_data 27 ⟨41, r52.cs⟩ 1 (fun b57 u58 e59 h60 => ?_)
    have hp61 : PolN u58 (⟨some ⟨b57, 0, none⟩, 1, 1⟩ : Sl) [((l.getD 0 0) + (m.getD 0 0))] ((K + 2) + (M + 2) + 2) := pol_lit (L := [r52]) h60 (rats1 (h53.ext e59)) rfl (by decide)
    refine sy_app0 28 (T := 29) (E := 41) (z := .agg #[.bool false, .slice none 0 0, .slice none 0 0]) (size := 3) (bytes := 56) (b := b57) (off := 0) (m := 1) r52.cs (by kernel_rfl) (by kernel_rfl) (by kernel_rfl) (by decide) rfl (lit_news ((Ext.refl _).cells h60)) (rl_one r52) (by decide) (by decide) (by decide) ?_
    intro c62 cs62 ha62 hb62 hc62 hd62
    refine zza 5 (.slc 28 0 1 c62) ?_
    refine zzw ?_
    refine zzo ?_
    refine zze ?_
    refine zza 17 (.v (.int .i64 0)) ?_
    refine zza 18 (.v (.int .i64 1)) ?_
    refine zza 6 (.v (.int .i64 1)) ?_
    refine zzw ?_
    have ht63 : 0 < (Nt.addQ l m).length := by rw [Nt.addQ_len]; omega
    refine ⟨_, ?_, St.of 31 [(0, .v (.slice x.a x.n x.c)), (1, .v (.slice y.a y.n y.c)), (5, .slc 28 0 1 c62), (6, .v (.int .i64 1))] [(28, ⟨41, cs62⟩)], by exact zzu _ _ _, .inr ⟨1, [r52], cs62, c62, rfl, by omega, by omega, by simp, hc62, by omega, hb62, hd62, rfl, (e11.trans (e39.trans (g43.ext.trans (e45.trans (g49.ext.trans (e51.trans (g55.ext.trans e59))))))), (app_first (RatN.more (K := ((K + 2) + (M + 2) + 2)) (h53.ext e59) (by omega)) ht63 (by have h9 := Nt.addQ_co l m (0); unfold Nt.co at h9; exact h9.symm))⟩⟩
    omega
   ·replace hb38 : (decide ((0 : Int) < (y.n : Int))) = false := hb38
    have qhb38 := of_decide_eq_false hb38
    refine zyb ?_
    refine zzo ?_
    refine zzc ?_
    have hp64 : PolN u11 ⟨none, 0, 0⟩ (Nt.addQ l m) (K + M + 6) := by have h9 : Nt.addQ l m = [] := List.eq_nil_of_length_eq_zero (by rw [Nt.addQ_len]; omega); rw [h9]; exact pol_nil _ _
    refine zze ?_
    refine zza 29 (.v (.slice none 0 0)) ?_
    refine zzf 30 82 [.slice none 0 0] ?_
    intro w65 u65 e65 d65
    have k70 := k_r5Trim d65 (hp64.ext e65).raw (by omega) (by first|omega|(simp;omega) | (refine Nat.le_trans (Nt.zzg _) ?_; first|omega|(simp;omega)) | (refine Nat.le_trans (Nt.zzg _) ?_; simp only [List.length_map]; refine Nat.le_trans (Nt.zzg _) ?_; first|omega|(simp;omega)))
    with_reducible refine zPm k70 ?_
    rintro _ u68 g69 ⟨y66, rfl, h67⟩
    have hly66 := h67.len
    refine zza 4 (.v y66.v) ?_
    refine zzb 31 [(4, .v y66.v)] [] ?_
    refine zzn (ret0 [.slice y66.a y66.n y66.c] ⟨zzp, trivial⟩ fun u71 e72 => ?_)
    refine ⟨y66, rfl, ?_⟩
    exact (h67.ext e72)
 ·change SW _ _ _ _ (St.of 31 [(0, .v (.slice x.a x.n x.c)), (1, .v (.slice y.a y.n y.c)), (5, .slc 28 0 i cp), (6, .v (.int .i64 (i : Int)))] [(28, ⟨41, cs⟩)]) _ _
  refine zzc ?_
  refine sq9 ?_
  refine zza 7 (.v (.int .i64 (i : Int))) ?_
  refine zza 8 (.v x.v) ?_
  refine zza 9 (.v (.int .i64 (x.n : Int))) ?_
  refine zza 10 (.v (.bool (decide ((i : Int) < (x.n : Int))))) ?_
  rcases Bool.eq_false_or_eq_true (decide ((i : Int) < (x.n : Int))) with hs73 | hs73
  ·refine zyp 11 (x := .v (.bool (decide ((i : Int) < (x.n : Int))))) (.v (.bool true)) (by rw [hs73]) ?_
   have qhs73 := of_decide_eq_true hs73
   refine zzm 12 (uw 4 false true 11) ?_
   refine zzm 13 (uw 4 false true 11) ?_
   refine zzm 14 (uw 4 false true 11) ?_
   refine zzm 15 (uw 4 false true 11) ?_
   refine zza 16 (.v (.bool true)) ?_
   refine zzb 31 [(0, .v x.v), (1, .v y.v), (5, .slc 28 0 i cp), (6, .v (.int .i64 (i : Int))), (16, .v (.bool true))] [(28, ⟨41, cs⟩)] ?_
   refine zyq (by kernel_rfl) ?_
   refine zzr (zzo ?_)
   refine zzc ?_
   refine zzs ?_
   refine zze ?_
   refine zza 19 (.slc 28 0 i cp) ?_
   refine zza 20 (.v x.v) ?_
   refine zza 21 (.v (.int .i64 (i : Int))) ?_
   refine zzf 22 156 [x.v, .int .i64 (i : Int)] ?_
   intro w74 u74 e74 d74
   have k79 := (show Calls _ _ #[_, .int .i64 ((i : Int))] _ _ from k_r5At (i := i) d74 (hx.ext (e11.trans e74)) (by omega) (by first|omega|(simp;omega) | (refine Nat.le_trans (Nt.zzg _) ?_; first|omega|(simp;omega)) | (refine Nat.le_trans (Nt.zzg _) ?_; simp only [List.length_map]; refine Nat.le_trans (Nt.zzg _) ?_; first|omega|(simp;omega))) (by omega))
   with_reducible refine zPm k79 ?_
   rintro _ u77 g78 ⟨r75, rfl, h76⟩
   refine zza 23 (.v y.v) ?_
   refine zza 24 (.v (.int .i64 (i : Int))) ?_
   refine zzf 25 156 [y.v, .int .i64 (i : Int)] ?_
   intro w80 u80 e80 d80
   have k85 := (show Calls _ _ #[_, .int .i64 ((i : Int))] _ _ from k_r5At (i := i) d80 (hy.ext (e11.trans (e74.trans (g78.ext.trans e80)))) (by omega) (by first|omega|(simp;omega) | (refine Nat.le_trans (Nt.zzg _) ?_; first|omega|(simp;omega)) | (refine Nat.le_trans (Nt.zzg _) ?_; simp only [List.length_map]; refine Nat.le_trans (Nt.zzg _) ?_; first|omega|(simp;omega))) (by omega))
   with_reducible refine zPm k85 ?_
   rintro _ u83 g84 ⟨r81, rfl, h82⟩
   refine zzf 26 150 [r75.v, r81.v] ?_
   intro w86 u86 e86 d86
   have k91 := k_rqAdd d86 (h76.ext (e80.trans (g84.ext.trans e86))).raw (h82.ext e86).raw (by omega) (by omega)
   with_reducible refine zPm k91 ?_
   rintro _ u89 g90 ⟨r87, rfl, h88⟩
   refine sy_data 27 ⟨41, r87.cs⟩ 1 (fun b92 u93 e94 h95 => ?_)
   have hp96 : PolN u93 (⟨some ⟨b92, 0, none⟩, 1, 1⟩ : Sl) [((l.getD i 0) + (m.getD i 0))] ((K + 2) + (M + 2) + 2) := pol_lit (L := [r87]) h95 (rats1 (h88.ext e94)) rfl (by decide)
   refine sy_app1 28 (T := 29) (E := 41) (z := .agg #[.bool false, .slice none 0 0, .slice none 0 0]) (size := 3) (bytes := 56) (b := b92) (off := 0) (m := 1) (n := i) (cap := cp) (t := 28) (cs0 := cs) [5, 19, 28] r87.cs (by kernel_rfl) (by kernel_rfl) (by kernel_rfl) (by decide) rfl (lit_news ((Ext.refl _).cells h95)) (rl_one r87) (by decide) (by unfold maxLen; omega) (by omega) (by omega) (by omega) (by omega) (by repeat first | exact noAt_of | refine zyc ?_ | refine zye ?_ | refine zyd ?_ | refine zzx ?_ | refine zya ?_) ?_
   intro c97 cs97 ha97 hb97 hc97 hd97
   have hd97r : cs97.take ((i + 1) * 3) = rcs (L ++ [r87]) := by rw [hd97, ht, rcs_app]; rfl
   refine zza 5 (.slc 28 0 (i + 1) c97) ?_
   refine zzw ?_
   refine zzo ?_
   refine zze ?_
   refine zza 17 (.v (.int .i64 (i : Int))) ?_
   refine zyp 18 (x := .v (.int .i64 (IntKind.i64.wrap ((i : Int) + 1)))) (.v (.int .i64 ((i + 1 : Nat) : Int))) (eqI (by rw [IntWalk.i64_in _ (by omega)]; omega)) ?_
   refine zza 6 (.v (.int .i64 ((i + 1 : Nat) : Int))) ?_
   refine zzw ?_
   have ht98 : i < (Nt.addQ l m).length := by rw [Nt.addQ_len]; omega
   refine ⟨_, ?_, St.of 31 [(0, .v (.slice x.a x.n x.c)), (1, .v (.slice y.a y.n y.c)), (5, .slc 28 0 (i + 1) c97), (6, .v (.int .i64 ((i + 1 : Nat) : Int)))] [(28, ⟨41, cs97⟩)], by exact zzu _ _ _, .inr ⟨i + 1, L ++ [r87], cs97, c97, rfl, by omega, by omega, by simp; omega, hc97, by omega, hb97, hd97r, rfl, (e11.trans (e74.trans (g78.ext.trans (e80.trans (g84.ext.trans (e86.trans (g90.ext.trans e94))))))), (app_next (hR.ext (e74.trans (g78.ext.trans (e80.trans (g84.ext.trans (e86.trans (g90.ext.trans e94))))))) (RatN.more (K := ((K + 2) + (M + 2) + 2)) (h88.ext e94) (by omega)) ht98 (by have h9 := Nt.addQ_co l m (i); unfold Nt.co at h9; exact h9.symm))⟩⟩
   omega
  ·refine zyp 11 (x := .v (.bool (decide ((i : Int) < (x.n : Int))))) (.v (.bool false)) (by rw [hs73]) ?_
   have qhs73 := of_decide_eq_false hs73
   refine zza 12 (.v (.int .i64 (i : Int))) ?_ (hw := w1 4 false 11)
   refine zza 13 (.v y.v) ?_ (hw := w1 4 false 11)
   refine zza 14 (.v (.int .i64 (y.n : Int))) ?_ (hw := w1 4 false 11)
   refine zza 15 (.v (.bool (decide ((i : Int) < (y.n : Int))))) ?_ (hw := w1 4 false 11)
   refine zza 16 (.v (.bool (decide ((i : Int) < (y.n : Int))))) ?_
   refine zzb 31 [(0, .v x.v), (1, .v y.v), (5, .slc 28 0 i cp), (6, .v (.int .i64 (i : Int))), (16, .v (.bool (decide ((i : Int) < (y.n : Int)))))] [(28, ⟨41, cs⟩)] ?_
   refine zzt (b := decide ((i : Int) < (y.n : Int))) (by kernel_rfl) (fun hb99 => ?_) (fun hb99 => ?_)
   ·replace hb99 : (decide ((i : Int) < (y.n : Int))) = true := hb99
    have qhb99 := of_decide_eq_true hb99
    refine zzr (zzo ?_)
    refine zzc ?_
    refine zzs ?_
    refine zze ?_
    refine zza 19 (.slc 28 0 i cp) ?_
    refine zza 20 (.v x.v) ?_
    refine zza 21 (.v (.int .i64 (i : Int))) ?_
    refine zzf 22 156 [x.v, .int .i64 (i : Int)] ?_
    intro w100 u100 e100 d100
    have k105 := (show Calls _ _ #[_, .int .i64 ((i : Int))] _ _ from k_r5At (i := i) d100 (hx.ext (e11.trans e100)) (by omega) (by first|omega|(simp;omega) | (refine Nat.le_trans (Nt.zzg _) ?_; first|omega|(simp;omega)) | (refine Nat.le_trans (Nt.zzg _) ?_; simp only [List.length_map]; refine Nat.le_trans (Nt.zzg _) ?_; first|omega|(simp;omega))) (by omega))
    with_reducible refine zPm k105 ?_
    rintro _ u103 g104 ⟨r101, rfl, h102⟩
    refine zza 23 (.v y.v) ?_
    refine zza 24 (.v (.int .i64 (i : Int))) ?_
    refine zzf 25 156 [y.v, .int .i64 (i : Int)] ?_
    intro w106 u106 e106 d106
    have k111 := (show Calls _ _ #[_, .int .i64 ((i : Int))] _ _ from k_r5At (i := i) d106 (hy.ext (e11.trans (e100.trans (g104.ext.trans e106)))) (by omega) (by first|omega|(simp;omega) | (refine Nat.le_trans (Nt.zzg _) ?_; first|omega|(simp;omega)) | (refine Nat.le_trans (Nt.zzg _) ?_; simp only [List.length_map]; refine Nat.le_trans (Nt.zzg _) ?_; first|omega|(simp;omega))) (by omega))
    with_reducible refine zPm k111 ?_
    rintro _ u109 g110 ⟨r107, rfl, h108⟩
    refine zzf 26 150 [r101.v, r107.v] ?_
    intro w112 u112 e112 d112
    have k117 := k_rqAdd d112 (h102.ext (e106.trans (g110.ext.trans e112))).raw (h108.ext e112).raw (by omega) (by omega)
    with_reducible refine zPm k117 ?_
    rintro _ u115 g116 ⟨r113, rfl, h114⟩
    refine sy_data 27 ⟨41, r113.cs⟩ 1 (fun b118 u119 e120 h121 => ?_)
    have hp122 : PolN u119 (⟨some ⟨b118, 0, none⟩, 1, 1⟩ : Sl) [((l.getD i 0) + (m.getD i 0))] ((K + 2) + (M + 2) + 2) := pol_lit (L := [r113]) h121 (rats1 (h114.ext e120)) rfl (by decide)
    refine sy_app1 28 (T := 29) (E := 41) (z := .agg #[.bool false, .slice none 0 0, .slice none 0 0]) (size := 3) (bytes := 56) (b := b118) (off := 0) (m := 1) (n := i) (cap := cp) (t := 28) (cs0 := cs) [5, 19, 28] r113.cs (by kernel_rfl) (by kernel_rfl) (by kernel_rfl) (by decide) rfl (lit_news ((Ext.refl _).cells h121)) (rl_one r113) (by decide) (by unfold maxLen; omega) (by omega) (by omega) (by omega) (by omega) (by repeat first | exact noAt_of | refine zyc ?_ | refine zye ?_ | refine zyd ?_ | refine zzx ?_ | refine zya ?_) ?_
    intro c123 cs123 ha123 hb123 hc123 hd123
    have hd123r : cs123.take ((i + 1) * 3) = rcs (L ++ [r113]) := by rw [hd123, ht, rcs_app]; rfl
    refine zza 5 (.slc 28 0 (i + 1) c123) ?_
    refine zzw ?_
    refine zzo ?_
    refine zze ?_
    refine zza 17 (.v (.int .i64 (i : Int))) ?_
    refine zyp 18 (x := .v (.int .i64 (IntKind.i64.wrap ((i : Int) + 1)))) (.v (.int .i64 ((i + 1 : Nat) : Int))) (eqI (by rw [IntWalk.i64_in _ (by omega)]; omega)) ?_
    refine zza 6 (.v (.int .i64 ((i + 1 : Nat) : Int))) ?_
    refine zzw ?_
    have ht124 : i < (Nt.addQ l m).length := by rw [Nt.addQ_len]; omega
    refine ⟨_, ?_, St.of 31 [(0, .v (.slice x.a x.n x.c)), (1, .v (.slice y.a y.n y.c)), (5, .slc 28 0 (i + 1) c123), (6, .v (.int .i64 ((i + 1 : Nat) : Int)))] [(28, ⟨41, cs123⟩)], by exact zzu _ _ _, .inr ⟨i + 1, L ++ [r113], cs123, c123, rfl, by omega, by omega, by simp; omega, hc123, by omega, hb123, hd123r, rfl, (e11.trans (e100.trans (g104.ext.trans (e106.trans (g110.ext.trans (e112.trans (g116.ext.trans e120))))))), (app_next (hR.ext (e100.trans (g104.ext.trans (e106.trans (g110.ext.trans (e112.trans (g116.ext.trans e120))))))) (RatN.more (K := ((K + 2) + (M + 2) + 2)) (h114.ext e120) (by omega)) ht124 (by have h9 := Nt.addQ_co l m (i); unfold Nt.co at h9; exact h9.symm))⟩⟩
    omega
   ·replace hb99 : (decide ((i : Int) < (y.n : Int))) = false := hb99
    have qhb99 := of_decide_eq_false hb99
    refine zyb ?_
    refine zzo ?_
    refine zzc ?_
    refine zyo (r := 5) (t := 28) [5, 28] (by repeat first | exact noAt_of | refine zyc ?_ | refine zye ?_ | refine zyd ?_ | refine zzx ?_ | refine zya ?_) (by kernel_rfl) (by rfl) (by rfl) (by kernel_rfl) (fun b126 u127 e128 hb129 hh130 => ?_)
    have hp125 : PolN u127 ⟨some ⟨b126, 0, none⟩, i, cp⟩ (Nt.addQ l m) (K + M + 6) := by have h8 := pol_data hh130 ht hc hle hmx (hR.ext e128); rw [List.take_of_length_le (l := Nt.addQ l m) (by rw [Nt.addQ_len]; omega)] at h8; exact h8
    refine zze ?_
    refine zza 29 (.v (.slice (some ⟨b126, 0, none⟩) i cp)) ?_
    refine zzf 30 82 [.slice (some ⟨b126, 0, none⟩) i cp] ?_
    intro w131 u131 e131 d131
    have k136 := k_r5Trim d131 (hp125.ext e131).raw (by omega) (by first|omega|(simp;omega) | (refine Nat.le_trans (Nt.zzg _) ?_; first|omega|(simp;omega)) | (refine Nat.le_trans (Nt.zzg _) ?_; simp only [List.length_map]; refine Nat.le_trans (Nt.zzg _) ?_; first|omega|(simp;omega)))
    with_reducible refine zPm k136 ?_
    rintro _ u134 g135 ⟨y132, rfl, h133⟩
    have hly132 := h133.len
    refine zza 4 (.v y132.v) ?_
    refine zzb 31 [(4, .v y132.v)] [] ?_
    refine zzn (ret0 [.slice y132.a y132.n y132.c] ⟨zzp, trivial⟩ fun u137 e138 => ?_)
    refine ⟨y132, rfl, ?_⟩
    exact (h133.ext e138)
theorem k_mode {u w : World} {r : Int} (d : Dat u w) (h1 : 1 ≤ r) (h2 : r ≤ 3) : Calls Tryz.prog 152 #[.int .i64 r] w (Post u w fun v _ => v = .bool true) := by
 refine zzl (args := [.int .i64 r]) Tryz.func152 rfl Tryz.ntmps152 (rs := [.tmp 2]) Tryz.results152 (le_b rfl) (le_b rfl) d ?_
 refine sq9 ?_
 refine zza 2 (.v (.bool false)) ?_
 refine zzb 9 [(0, .v (.int .i64 r))] [] ?_
 refine sq9 ?_
 refine zza 3 (.v (.int .i64 r)) ?_
 refine zza 4 (.v (.bool (decide ((1 : Int) ≤ r)))) ?_
 refine zyp 5 (x := .v (.bool (decide ((1 : Int) ≤ r)))) (.v (.bool true)) (by rw [show (decide ((1 : Int) ≤ r)) = true from decide_eq_true (by omega)]) ?_
 refine zza 6 (.v (.int .i64 r)) ?_ (hw := w1 2 true 5)
 refine zza 7 (.v (.bool (decide (r ≤ 3)))) ?_ (hw := w1 2 true 5)
 refine zza 8 (.v (.bool (decide (r ≤ 3)))) ?_
 refine zza 2 (.v (.bool (decide (r ≤ 3)))) ?_
 refine zzb 9 [(2, .v (.bool (decide (r ≤ 3))))] [] ?_
 refine zzn (ret0 [.bool (decide (r ≤ 3))] ⟨zzp, trivial⟩ fun u12 e13 => ?_)
 show Value.bool _ = Value.bool _
 rw [show (decide (r ≤ 3)) = true from decide_eq_true (by omega)]
theorem k_fxValid {u w : World} {W : WL} (d : Dat u w) (hW : WdOK W) : Calls Tryz.prog 75 #[W.v] w (Post u w fun v _ => v = .bool true) := by
 obtain ⟨hw1, hw2, hw3, hw4, hw5, hw6, hw7, hw8⟩ := id hW
 refine zzl (args := [.agg #[.int .i64 W.b, .int .i64 W.f, .int .i64 W.r, .int .i64 W.o]]) Tryz.func75 rfl Tryz.ntmps75 (rs := [.tmp 2]) Tryz.results75 (le_b rfl) (le_b rfl) d ?_
 refine sq9 ?_
 refine zzj 1 ⟨24, W.cs⟩ ?_
 refine zza 2 (.v (.bool false)) ?_
 refine zzb 36 [(1, .adr 1 0)] [(1, ⟨24, W.cs⟩)] ?_
 refine zzc ?_
 refine sq9 ?_
 refine zza 3 (.adr 1 0) ?_
 refine zzh 4 (.v (.int .i64 W.b)) ty3 zzk ?_
 refine zza 5 (.v (.bool (decide (W.b < 4)))) ?_
 refine zyp 6 (x := .v (.bool (decide (W.b < 4)))) (.v (.bool false)) (by rw [show (decide (W.b < 4)) = false from decide_eq_false (by omega)]) ?_
 refine zza 7 (.adr 1 0) ?_ (hw := w1 3 false 6)
 refine zzh 8 (.v (.int .i64 W.b)) ty3 zzk ?_ (hw := w1 3 false 6)
 refine zza 9 (.v (.bool (decide ((24 : Int) < W.b)))) ?_ (hw := w1 3 false 6)
 refine zza 10 (.v (.bool (decide ((24 : Int) < W.b)))) ?_
 refine zyp 11 (x := .v (.bool (decide ((24 : Int) < W.b)))) (.v (.bool false)) (by rw [show (decide ((24 : Int) < W.b)) = false from decide_eq_false (by omega)]) ?_
 refine zza 12 (.adr 1 1) ?_ (hw := w1 8 false 11)
 refine zzh 13 (.v (.int .i64 W.f)) ty3 zzk ?_ (hw := w1 8 false 11)
 refine zza 14 (.v (.bool (decide (W.f < 0)))) ?_ (hw := w1 8 false 11)
 refine zza 15 (.v (.bool (decide (W.f < 0)))) ?_
 refine zyp 16 (x := .v (.bool (decide (W.f < 0)))) (.v (.bool false)) (by rw [show (decide (W.f < 0)) = false from decide_eq_false (by omega)]) ?_
 refine zza 17 (.adr 1 1) ?_ (hw := w1 13 false 16)
 refine zzh 18 (.v (.int .i64 W.f)) ty3 zzk ?_ (hw := w1 13 false 16)
 refine zza 19 (.adr 1 0) ?_ (hw := w1 13 false 16)
 refine zzh 20 (.v (.int .i64 W.b)) ty3 zzk ?_ (hw := w1 13 false 16)
 refine zza 21 (.v (.bool (decide (W.b ≤ W.f)))) ?_ (hw := w1 13 false 16)
 refine zza 22 (.v (.bool (decide (W.b ≤ W.f)))) ?_
 refine zzb 36 [(1, .adr 1 0), (22, .v (.bool (decide (W.b ≤ W.f))))] [(1, ⟨24, W.cs⟩)] ?_
 refine zzt (b := decide (W.b ≤ W.f)) (by kernel_rfl) (fun hb => ?_) (fun hb => ?_)
 ·exact absurd hb (by rw [show (decide (W.b ≤ W.f)) = false from decide_eq_false (by omega)]; decide)
 ·clear hb
  refine zzr (zzo ?_)
  refine sq9 ?_
  refine zza 23 (.adr 1 2) ?_
  refine zzh 24 (.v (.int .i64 W.r)) ty3 zzk ?_
  refine zzf 25 152 [.int .i64 W.r] ?_
  intro w14 u14 e14 d14
  have k17 := k_mode (r := W.r) d14 (by omega) (by omega)
  with_reducible refine zPm k17 ?_
  rintro _ u15 g16 rfl
  refine zza 26 (.v (.bool true)) ?_
  refine zza 27 (.adr 1 3) ?_ (hw := w1 3 true 26)
  refine zzh 28 (.v (.int .i64 W.o)) ty3 zzk ?_ (hw := w1 3 true 26)
  refine zza 29 (.v (.bool (W.o == 1))) ?_ (hw := w1 3 true 26)
  rcases Bool.eq_false_or_eq_true (W.o == 1) with hs18 | hs18
  ·refine zyp 30 (x := .v (.bool (W.o == 1))) (.v (.bool true)) (by rw [hs18]) ?_ (hw := w1 3 true 26)
   refine zzm 31 (uw 7 false true 30) ?_
   refine zzm 32 (uw 7 false true 30) ?_
   refine zzm 33 (uw 7 false true 30) ?_
   refine zza 34 (.v (.bool true)) ?_ (hw := w1 3 true 26)
   refine zza 35 (.v (.bool true)) ?_
   refine zza 2 (.v (.bool true)) ?_
   refine zzb 36 [(2, .v (.bool true))] [] ?_
   refine zzn (ret0 [.bool true] ⟨zzp, trivial⟩ fun u19 e20 => ?_)
   rfl
  ·refine zyp 30 (x := .v (.bool (W.o == 1))) (.v (.bool false)) (by rw [hs18]) ?_ (hw := w1 3 true 26)
   refine zza 31 (.adr 1 3) ?_ (hw := w1 7 false 30)
   refine zzh 32 (.v (.int .i64 W.o)) ty3 zzk ?_ (hw := w1 7 false 30)
   refine zza 33 (.v (.bool (W.o == 2))) ?_ (hw := w1 7 false 30)
   refine zza 34 (.v (.bool (W.o == 2))) ?_ (hw := w1 3 true 26)
   refine zza 35 (.v (.bool (W.o == 2))) ?_
   refine zza 2 (.v (.bool (W.o == 2))) ?_
   refine zzb 36 [(2, .v (.bool (W.o == 2)))] [] ?_
   refine zzn (ret0 [.bool (W.o == 2)] ⟨zzp, trivial⟩ fun u21 e22 => ?_)
   show Value.bool _ = Value.bool _
   rw [show (W.o == 2) = true from (by have hz := hs18; simp at hz ⊢; omega)]
theorem k_fxLow {u w : World} {W : WL} (d : Dat u w) (hW : WdOK W) : Calls Tryz.prog 169 #[W.v] w (Post u w fun v _ => v = .int .i64 (-Nt.p2i (W.b - 1))) := by
 obtain ⟨hw1, hw2, hw3, hw4, hw5, hw6, hw7, hw8⟩ := id hW
 have hp1 := Nt.p2i_pos (W.b - 1)
 have hp2 := Nt.p2i_24 (n := W.b - 1) (by omega)
 refine zzl (args := [.agg #[.int .i64 W.b, .int .i64 W.f, .int .i64 W.r, .int .i64 W.o]]) Tryz.func169 rfl Tryz.ntmps169 (rs := [.tmp 2]) Tryz.results169 (le_b rfl) (le_b rfl) d ?_
 refine sq9 ?_
 refine zzj 1 ⟨24, W.cs⟩ ?_
 refine zza 2 (.v (.int .i64 0)) ?_
 refine zzb 11 [(1, .adr 1 0)] [(1, ⟨24, W.cs⟩)] ?_
 refine zzc ?_
 refine sq9 ?_
 refine zzh 3 (.v (W.v)) ty24 zzd ?_
 refine zzf 4 75 [W.v] ?_
 intro w11 u11 e11 d11
 have k14 := k_fxValid (W := W) d11 hW
 with_reducible refine zPm k14 ?_
 rintro _ u12 g13 rfl
 refine zza 5 (.v (.bool false)) ?_
 refine zzb 11 [(1, .adr 1 0), (5, .v (.bool false))] [(1, ⟨24, W.cs⟩)] ?_
 refine zyr (by kernel_rfl) ?_
 refine zzr (zzo ?_)
 refine sq9 ?_
 refine zza 6 (.adr 1 0) ?_
 refine zzh 7 (.v (.int .i64 W.b)) ty3 zzk ?_
 refine zyp 8 (x := .v (.int .i64 (IntKind.i64.wrap (W.b - 1)))) (.v (.int .i64 (W.b - 1))) (by rw [IntWalk.i64_in _ (by omega)]) ?_
 refine sy_shl 9 (k := .i64) (s := W.b - 1) (Nt.p2i (W.b - 1)) (by omega) (by show _ ≤ (64 : Int); omega) (shl_one (by omega) (by omega)) ?_
 refine zyp 10 (x := .v (.int .i64 (IntKind.i64.wrap (0 - Nt.p2i (W.b - 1))))) (.v (.int .i64 (-Nt.p2i (W.b - 1)))) (by rw [show (IntKind.i64.wrap (0 - Nt.p2i (W.b - 1))) = (-Nt.p2i (W.b - 1)) from (by rw [IntWalk.i64_in _ (by omega)]; omega)]) ?_
 refine zza 2 (.v (.int .i64 (-Nt.p2i (W.b - 1)))) ?_
 refine zzb 11 [(2, .v (.int .i64 (-Nt.p2i (W.b - 1))))] [] ?_
 refine zzn (ret0 [.int .i64 (-Nt.p2i (W.b - 1))] ⟨zzp, trivial⟩ fun u15 e16 => ?_)
 rfl
theorem k_fxHigh {u w : World} {W : WL} (d : Dat u w) (hW : WdOK W) : Calls Tryz.prog 170 #[W.v] w (Post u w fun v _ => v = .int .i64 (Nt.p2i (W.b - 1) - 1)) := by
 obtain ⟨hw1, hw2, hw3, hw4, hw5, hw6, hw7, hw8⟩ := id hW
 have hp1 := Nt.p2i_pos (W.b - 1)
 have hp2 := Nt.p2i_24 (n := W.b - 1) (by omega)
 refine zzl (args := [.agg #[.int .i64 W.b, .int .i64 W.f, .int .i64 W.r, .int .i64 W.o]]) Tryz.func170 rfl Tryz.ntmps170 (rs := [.tmp 2]) Tryz.results170 (le_b rfl) (le_b rfl) d ?_
 refine sq9 ?_
 refine zzj 1 ⟨24, W.cs⟩ ?_
 refine zza 2 (.v (.int .i64 0)) ?_
 refine zzb 11 [(1, .adr 1 0)] [(1, ⟨24, W.cs⟩)] ?_
 refine zzc ?_
 refine sq9 ?_
 refine zzh 3 (.v (W.v)) ty24 zzd ?_
 refine zzf 4 75 [W.v] ?_
 intro w11 u11 e11 d11
 have k14 := k_fxValid (W := W) d11 hW
 with_reducible refine zPm k14 ?_
 rintro _ u12 g13 rfl
 refine zza 5 (.v (.bool false)) ?_
 refine zzb 11 [(1, .adr 1 0), (5, .v (.bool false))] [(1, ⟨24, W.cs⟩)] ?_
 refine zyr (by kernel_rfl) ?_
 refine zzr (zzo ?_)
 refine sq9 ?_
 refine zza 6 (.adr 1 0) ?_
 refine zzh 7 (.v (.int .i64 W.b)) ty3 zzk ?_
 refine zyp 8 (x := .v (.int .i64 (IntKind.i64.wrap (W.b - 1)))) (.v (.int .i64 (W.b - 1))) (by rw [IntWalk.i64_in _ (by omega)]) ?_
 refine sy_shl 9 (k := .i64) (s := W.b - 1) (Nt.p2i (W.b - 1)) (by omega) (by show _ ≤ (64 : Int); omega) (shl_one (by omega) (by omega)) ?_
 refine zyp 10 (x := .v (.int .i64 (IntKind.i64.wrap ((Nt.p2i (W.b - 1)) - 1)))) (.v (.int .i64 ((Nt.p2i (W.b - 1)) - 1))) (by rw [IntWalk.i64_in _ (by omega)]) ?_
 refine zza 2 (.v (.int .i64 ((Nt.p2i (W.b - 1)) - 1))) ?_
 refine zzb 11 [(2, .v (.int .i64 ((Nt.p2i (W.b - 1)) - 1)))] [] ?_
 refine zzn (ret0 [.int .i64 ((Nt.p2i (W.b - 1)) - 1)] ⟨zzp, trivial⟩ fun u15 e16 => ?_)
 rfl
theorem k_fxValue {u w : World} {W : WL} {z : Int} (d : Dat u w) (hW : WdOK W) (h0 : -16777216 ≤ z) (h1 : z ≤ 16777216) : Calls Tryz.prog 48 #[W.v, .int .i64 z] w (Post u w fun v u' => ∃ r : RL, v = r.v ∧ RatN u' r (((z : Int) : Rat) / ((Nt.p2i W.f : Int) : Rat)) 2) := by
 obtain ⟨hw1, hw2, hw3, hw4, hw5, hw6, hw7, hw8⟩ := id hW
 have hp1 := Nt.p2i_pos W.f
 have hp2 := Nt.p2i_24 (n := W.f) (by omega)
 refine zzl (args := [.agg #[.int .i64 W.b, .int .i64 W.f, .int .i64 W.r, .int .i64 W.o], .int .i64 z]) Tryz.func48 rfl Tryz.ntmps48 (rs := [.cell 4 41]) Tryz.results48 (le_b rfl) (le_b rfl) d ?_
 refine sq9 ?_
 refine zzj 2 ⟨24, W.cs⟩ ?_
 refine zzj 4 ⟨41, [.bool false, .slice none 0 0, .slice none 0 0]⟩ ?_
 refine zzb 14 [(1, .v (.int .i64 z)), (2, .adr 2 0), (4, .adr 4 0)] [(2, ⟨24, W.cs⟩), (4, ⟨41, [.bool false, .slice none 0 0, .slice none 0 0]⟩)] ?_
 refine zzc ?_
 refine sq9 ?_
 refine zzh 5 (.v (W.v)) ty24 zzd ?_
 refine zzf 6 75 [W.v] ?_
 intro w11 u11 e11 d11
 have k14 := k_fxValid (W := W) d11 hW
 with_reducible refine zPm k14 ?_
 rintro _ u12 g13 rfl
 refine zza 7 (.v (.bool false)) ?_
 refine zzb 14 [(1, .v (.int .i64 z)), (2, .adr 2 0), (4, .adr 4 0), (7, .v (.bool false))] [(2, ⟨24, W.cs⟩), (4, ⟨41, [.bool false, .slice none 0 0, .slice none 0 0]⟩)] ?_
 refine zyr (by kernel_rfl) ?_
 refine zzr (zzo ?_)
 refine sq9 ?_
 refine zza 9 (.v (.int .i64 z)) ?_
 refine zza 10 (.adr 2 1) ?_
 refine zzh 11 (.v (.int .i64 W.f)) ty3 zzk ?_
 refine sy_shl 12 (k := .i64) (s := W.f) (Nt.p2i W.f) (by omega) (by show _ ≤ (64 : Int); omega) (shl_one (by omega) (by omega)) ?_
 refine zzf 13 95 [.int .i64 z, .int .i64 (Nt.p2i W.f)] ?_
 intro w15 u15 e15 d15
 have k20 := k_ratFrac d15 (a := z) (b := Nt.p2i W.f) (by omega) (by omega) (by omega) (by omega)
 with_reducible refine zPm k20 ?_
 rintro _ u18 g19 ⟨r16, rfl, h17⟩
 refine zzi ⟨41, r16.cs⟩ ty41 ?_
 refine zzb 14 [(4, .adr 4 0)] [(4, ⟨41, r16.cs⟩)] ?_
 refine zzn (ret0 [r16.v] ⟨zzq ty41 zzd, trivial⟩ fun u21 e22 => ?_)
 exact ⟨r16, rfl, (h17.ext e22)⟩
namespace Nt
end Nt
end Go.Proofs.YtdmpfhhhlhoeiaaGreat
