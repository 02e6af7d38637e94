/- Parts of the proof: contracts of functions, each walked once, and plain laws. -/
import Derived.Test.YtnedhbidmfoegaaGreatPtD
namespace Go.Proofs.YtnedhbidmfoegaaGreat
open Go.RowKit
set_option linter.unusedVariables false
theorem k_poDegree {u w : World} {x : Sl} {l : List Rat} {K : Nat} (d : Dat u w) (hx : PolV u x l K) (hK : K ≤ 100000000) (hx9 : l.length ≤ 1000000000) : Calls Tryz.prog 45 #[x.v] w (Post u w fun v u' => v = .int .i64 (((Nt.trimQ l).length : Int) - 1)) := by
 have hlen := hx.len
 have htl := Nt.zzg l
 refine zzl (args := [.slice x.a x.n x.c]) Tryz.func45 rfl Tryz.ntmps45 (rs := [.tmp 2]) Tryz.results45 (le_b rfl) (le_b rfl) d ?_
 refine sq9 ?_
 refine zza 2 (.v (.int .i64 0)) ?_
 refine zzb 7 [(0, .v x.v)] [] ?_
 refine sq9 ?_
 refine zza 3 (.v x.v) ?_
 refine zzf 4 118 [x.v] ?_
 intro w11 u11 e11 d11
 have k14 := k_cut d11 (hx.ext e11) (by omega) (by first|omega|(simp;omega) | (refine Nat.le_trans (Nt.zzg _) ?_; first|omega|(simp;omega)) | (refine Nat.le_trans (Nt.zzg _) ?_; simp only [List.length_map]; refine Nat.le_trans (Nt.zzg _) ?_; first|omega|(simp;omega)))
 with_reducible refine Post.mono k14 ?_
 rintro _ u12 g13 rfl
 refine zza 5 (.v (.int .i64 (((Nt.trimQ l).length : Nat) : Int))) ?_
 refine zyp 6 (x := .v (.int .i64 (IntKind.i64.wrap (((Nt.trimQ l).length : Int) - 1)))) (.v (.int .i64 (((Nt.trimQ l).length : Int) - 1))) (by rw [IntWalk.i64_in _ (by omega)]) ?_
 refine zza 2 (.v (.int .i64 (((Nt.trimQ l).length : Int) - 1))) ?_
 refine zzb 7 [(2, .v (.int .i64 (((Nt.trimQ l).length : Int) - 1)))] [] ?_
 refine zzn (ret0 [.int .i64 (((Nt.trimQ l).length : Int) - 1)] ⟨zzp, trivial⟩ fun u15 e16 => ?_)
 rfl
set_option maxHeartbeats 1000000 in
theorem k_poMonic {u w : World} {x : Sl} {l : List Rat} {K : Nat} (d : Dat u w) (hx : PolV u x l K) (hK : K ≤ 40000000) (hx9 : l.length ≤ 1000000000) : Calls Tryz.prog 32 #[x.v] w (Post u w fun v u' => ∃ y : Sl, v = y.v ∧ PolN u' y ((Nt.Pol.mk' l).monic.l) (2 * K + 2)) := by
 have hlen := hx.len
 have htl := Nt.zzg l
 refine zzl (args := [.slice x.a x.n x.c]) Tryz.func32 rfl Tryz.ntmps32 (rs := [.tmp 2]) Tryz.results32 (le_b rfl) (le_b rfl) d ?_
 refine sq9 ?_
 refine zza 2 (.v (.slice none 0 0)) ?_
 refine zzb 25 [(0, .v x.v)] [] ?_
 refine sq9 ?_
 refine zza 6 (.v x.v) ?_
 refine zzf 7 118 [x.v] ?_
 intro w11 u11 e11 d11
 have k14 := k_cut d11 (hx.ext e11) (by omega) (by first|omega|(simp;omega) | (refine Nat.le_trans (Nt.zzg _) ?_; first|omega|(simp;omega)) | (refine Nat.le_trans (Nt.zzg _) ?_; simp only [List.length_map]; refine Nat.le_trans (Nt.zzg _) ?_; first|omega|(simp;omega)))
 with_reducible refine Post.mono k14 ?_
 rintro _ u12 g13 rfl
 refine zza 3 (.v (.slice x.a (Nt.trimQ l).length x.c)) ?_
 refine zzb 25 [(3, .v (.slice x.a (Nt.trimQ l).length x.c))] [] ?_
 refine zzc ?_
 refine sq9 ?_
 refine zza 8 (.v (.slice x.a (Nt.trimQ l).length x.c)) ?_
 refine zza 9 (.v (.int .i64 (((Nt.trimQ l).length : Nat) : Int))) ?_
 refine zza 10 (.v (.bool ((((Nt.trimQ l).length : Nat) : Int) == 0))) ?_
 refine zzb 25 [(3, .v (.slice x.a (Nt.trimQ l).length x.c)), (10, .v (.bool ((((Nt.trimQ l).length : Nat) : Int) == 0)))] [] ?_
 refine zzt (b := (((Nt.trimQ l).length : Nat) : Int) == 0) (by kernel_rfl) (fun hb15 => ?_) (fun hb15 => ?_)
 ·replace hb15 : ((((Nt.trimQ l).length : Nat) : Int) == 0) = true := hb15
  have qhb15 : (((Nt.trimQ l).length : Nat) : Int) = 0 := by simpa using hb15
  refine sq9 ?_
  refine zza 2 (.v (.slice none 0 0)) ?_
  refine zzb 25 [(2, .v (.slice none 0 0))] [] ?_
  refine zzn (zzv (ret0 [.slice none 0 0] ⟨zzp, trivial⟩ fun u16 e17 => ?_))
  have e9 : Nt.trimQ l = [] := List.eq_nil_of_length_eq_zero (by omega)
  rw [Nt.monic_list, e9]
  exact ⟨⟨none, 0, 0⟩, rfl, pol_nil _ _⟩
 ·replace hb15 : ((((Nt.trimQ l).length : Nat) : Int) == 0) = false := hb15
  have qhb15 : ¬ ((((Nt.trimQ l).length : Nat) : Int) = 0) := by simpa using hb15
  refine zzr (zzo ?_)
  refine zzc ?_
  have hq1 : ((Nt.trimQ l).getD (((Nt.trimQ l).length) - 1) 0) ≠ 0 := Nt.nrm_last (Nt.trim_nrm l) (by intro e; have h9 : (Nt.trimQ l).length = 0 := by { rw [e]; rfl }; omega)
  refine zzy [0, 0, 0, 4, 12, 30, 62, 127, 255, 511, 511, 0, 3071, 8191] [(1, []), (2, []), (3, []), (4, []), (5, []), (6, []), (11, []), (0, []), (7, []), (8, []), (9, []), (10, []), (12, []), (13, [])] (by kernel_rfl) (by kernel_rfl) ?_
  refine zza 13 (.v (.slice x.a (Nt.trimQ l).length x.c)) ?_
  refine zza 14 (.v (.slice x.a (Nt.trimQ l).length x.c)) ?_
  refine zza 15 (.v (.int .i64 (((Nt.trimQ l).length : Nat) : Int))) ?_
  refine zyp 16 (x := .v (.int .i64 (IntKind.i64.wrap ((((Nt.trimQ l).length : Nat) : Int) - 1)))) (.v (.int .i64 ((((Nt.trimQ l).length) - 1 : Nat) : Int))) (eqI (by rw [IntWalk.i64_in _ (by omega)]; omega)) ?_
  have hl18 := (cut_V (hx.ext (e11.trans g13.ext))).len
  change (Nt.trimQ l).length = _ at hl18
  obtain ⟨r18, b18, o18, hA18, hc18, hr18⟩ := pol_at (cut_V (hx.ext (e11.trans g13.ext))) (i := ((Nt.trimQ l).length) - 1) (by omega)
  refine zzz 17 (o18 + (((Nt.trimQ l).length) - 1) * 3) (n := (Nt.trimQ l).length) (off := o18) (sz := 3) (i := ((((Nt.trimQ l).length) - 1 : Nat) : Int)) (by omega) hA18 (by omega) (by omega) sl41 ?_
  refine zyl 18 r18.cs hc18 ty26 ?_
  refine zzj 4 ⟨26, [.bool false, .slice none 0 0, .slice none 0 0]⟩ ?_
  refine zzf 12 112 [.int .i64 1] ?_
  intro w19 u19 e19 d19
  have k24 := k_ratOf d19 (z := 1) (by omega) (by omega)
  with_reducible refine Post.mono k24 ?_
  rintro _ u22 g23 ⟨r20, rfl, h21⟩
  refine zzf 19 99 [r20.v, r18.v] ?_
  intro w25 u25 e25 d25
  have k30 := k_ratDiv1 d25 (h21.ext e25).raw (hr18.ext (e19.trans (g23.ext.trans e25))) hq1 (by omega) (by omega)
  with_reducible refine Post.mono k30 ?_
  rintro _ u28 g29 ⟨r26, rfl, h27⟩
  refine zza 11 (.v (.tuple #[r26.v, .int .i64 0])) ?_
  refine zza 20 (.v (r26.v)) ?_
  refine zza 21 (.v (.int .i64 0)) ?_
  refine zzi ⟨26, r26.cs⟩ ty26 ?_
  refine zza 5 (.v (.int .i64 0)) ?_
  refine zzb 25 [(3, .v (.slice x.a (Nt.trimQ l).length x.c)), (4, .adr 4 0)] [(4, ⟨26, r26.cs⟩)] ?_
  refine sq9 ?_
  refine zza 22 (.v (.slice x.a (Nt.trimQ l).length x.c)) ?_
  refine zzh 23 (.v (r26.v)) ty26 zzd ?_
  refine zzf 24 97 [.slice x.a (Nt.trimQ l).length x.c, r26.v] ?_
  intro w31 u31 e31 d31
  have k36 := k_poScale d31 ((cut_V (hx.ext (e11.trans g13.ext))).ext (e19.trans (g23.ext.trans (e25.trans (g29.ext.trans e31))))) (h27.ext e31).raw (by omega) (by first|omega|(simp;omega) | (refine Nat.le_trans (Nt.zzg _) ?_; first|omega|(simp;omega)) | (refine Nat.le_trans (Nt.zzg _) ?_; simp only [List.length_map]; refine Nat.le_trans (Nt.zzg _) ?_; first|omega|(simp;omega))) (by omega)
  with_reducible refine Post.mono k36 ?_
  rintro _ u34 g35 ⟨y32, rfl, h33⟩
  have hly32 := h33.len
  refine zza 2 (.v y32.v) ?_
  refine zzb 25 [(2, .v y32.v)] [] ?_
  refine zzn (ret0 [.slice y32.a y32.n y32.c] ⟨zzp, trivial⟩ fun u37 e38 => ?_)
  rw [Nt.monic_list]
  refine ⟨y32, rfl, PolN.more (K := (K + (2 + K))) ?_ (by omega)⟩
  exact (h33.ext e38)
set_option maxHeartbeats 2000000 in
theorem k_poDivMod {u w : World} {x : Sl} {l : List Rat} {y : Sl} {m : List Rat} {K M : Nat} (d : Dat u w) (hx : PolV u x l K) (hy : PolV u y m M) {a b C : Nat} (hA : Nt.WhL (Nt.prim l) a) (hB : Nt.WhL (Nt.prim m) b) (hC : a + (l.length + 1) * (b + 1) ≤ C) (hC9 : C ≤ 600000000) (hK1 : (l.length + 1) * K ≤ 20000000) (hM1 : (m.length + 1) * M ≤ 20000000) (hS : Nt.dg C + ((l.length * K + 2) + Nt.dg C + (m.length * M + 2)) ≤ 40000000) (hx9 : l.length ≤ 1000000) (hy9 : m.length ≤ 1000000) : Calls Tryz.prog 27 #[x.v, y.v] w (Post u w fun v u' => (v = .tuple #[.slice none 0 0, .slice none 0 0, .int .i64 3] ∧ Nt.trimQ m = []) ∨ (Nt.trimQ m ≠ [] ∧ ∃ (y1 y2 : Sl) (q r : Nt.Pol), v = .tuple #[y1.v, y2.v, .int .i64 0] ∧ PolN u' y1 q.l (Nt.dg C + ((l.length * K + 2) + Nt.dg C + (m.length * M + 2))) ∧ PolN u' y2 r.l (Nt.dg C + ((l.length * K + 2) + Nt.dg C + (m.length * M + 2))) ∧ Nt.Pol.mk' l = q * Nt.Pol.mk' m + r ∧ r.len < (Nt.Pol.mk' m).len)) := by
 have hlen := hx.len
 have hlen2 := hy.len
 have htl := Nt.zzg l
 have htm := Nt.zzg m
 have hK2 := hK1
 have hM2 := hM1
 rw [Nat.add_mul] at hK2 hM2
 have hKK : (Nt.trimQ l).length * K ≤ l.length * K := Nat.mul_le_mul_right _ htl
 have hMM : (Nt.trimQ m).length * M ≤ m.length * M := Nat.mul_le_mul_right _ htm
 refine zzl (args := [.slice x.a x.n x.c, .slice y.a y.n y.c]) Tryz.func27 rfl Tryz.ntmps27 (rs := [.tmp 4, .tmp 5, .tmp 6]) Tryz.results27 (le_b rfl) (le_b rfl) d ?_
 refine sq9 ?_
 refine zza 4 (.v (.slice none 0 0)) ?_
 refine zza 5 (.v (.slice none 0 0)) ?_
 refine zza 6 (.v (.int .i64 0)) ?_
 refine zzb 56 [(0, .v x.v), (1, .v y.v)] [] ?_
 refine sq9 ?_
 refine zza 19 (.v x.v) ?_
 refine zzf 20 115 [x.v] ?_
 intro w11 u11 e11 d11
 have k18 := k_split d11 (hx.ext e11) (by omega) (by first|omega|(simp;omega) | (refine Nat.le_trans (Nt.zzg _) ?_; first|omega|(simp;omega)) | (refine Nat.le_trans (Nt.zzg _) ?_; simp only [List.length_map]; refine Nat.le_trans (Nt.zzg _) ?_; first|omega|(simp;omega)))
 with_reducible refine Post.mono k18 ?_
 rintro _ u16 g17 ⟨r12, y14, rfl, h13, h15⟩
 have hly14 : y14.n = (Nt.trimQ l).length := by have h9 := h15.len; simpa using h9
 refine zza 18 (.v (.tuple #[r12.v, y14.v])) ?_
 refine zza 21 (.v (r12.v)) ?_
 refine zza 22 (.v y14.v) ?_
 refine zzj 7 ⟨26, [.bool false, .slice none 0 0, .slice none 0 0]⟩ ?_
 refine zzi ⟨26, r12.cs⟩ ty26 ?_
 refine zza 8 (.v y14.v) ?_
 refine zzb 56 [(1, .v y.v), (7, .adr 7 0), (8, .v y14.v)] [(7, ⟨26, r12.cs⟩)] ?_
 refine sq9 ?_
 refine zza 24 (.v y.v) ?_
 refine zzf 25 115 [y.v] ?_
 intro w19 u19 e19 d19
 have k26 := k_split d19 (hy.ext (e11.trans (g17.ext.trans e19))) (by omega) (by first|omega|(simp;omega) | (refine Nat.le_trans (Nt.zzg _) ?_; first|omega|(simp;omega)) | (refine Nat.le_trans (Nt.zzg _) ?_; simp only [List.length_map]; refine Nat.le_trans (Nt.zzg _) ?_; first|omega|(simp;omega)))
 with_reducible refine Post.mono k26 ?_
 rintro _ u24 g25 ⟨r20, y22, rfl, h21, h23⟩
 have hly22 : y22.n = (Nt.trimQ m).length := by have h9 := h23.len; simpa using h9
 refine zza 23 (.v (.tuple #[r20.v, y22.v])) ?_
 refine zza 26 (.v (r20.v)) ?_
 refine zza 27 (.v y22.v) ?_
 refine zzj 9 ⟨26, [.bool false, .slice none 0 0, .slice none 0 0]⟩ ?_
 refine zzi ⟨26, r20.cs⟩ ty26 ?_
 refine zza 10 (.v y22.v) ?_
 refine zzb 56 [(7, .adr 7 0), (8, .v y14.v), (9, .adr 9 0), (10, .v y22.v)] [(7, ⟨26, r12.cs⟩), (9, ⟨26, r20.cs⟩)] ?_
 refine zzc ?_
 refine sq9 ?_
 refine zza 28 (.v y22.v) ?_
 refine zza 29 (.v (.int .i64 (y22.n : Int))) ?_
 refine zza 30 (.v (.bool ((y22.n : Int) == 0))) ?_
 refine zzb 56 [(7, .adr 7 0), (8, .v y14.v), (9, .adr 9 0), (10, .v y22.v), (30, .v (.bool ((y22.n : Int) == 0)))] [(7, ⟨26, r12.cs⟩), (9, ⟨26, r20.cs⟩)] ?_
 refine zzt (b := (y22.n : Int) == 0) (by kernel_rfl) (fun hb27 => ?_) (fun hb27 => ?_)
 ·replace hb27 : ((y22.n : Int) == 0) = true := hb27
  have qhb27 : (y22.n : Int) = 0 := by simpa using hb27
  refine sq9 ?_
  refine zza 4 (.v (.slice none 0 0)) ?_
  refine zza 5 (.v (.slice none 0 0)) ?_
  refine zza 6 (.v (.int .i64 3)) ?_
  refine zzb 56 [(4, .v (.slice none 0 0)), (5, .v (.slice none 0 0)), (6, .v (.int .i64 3))] [] ?_
  refine zzn (zzv (ret0 [.slice none 0 0, .slice none 0 0, .int .i64 3] ⟨zzp, zzp, zzp, trivial⟩ fun u28 e29 => ?_))
  exact .inl ⟨rfl, List.eq_nil_of_length_eq_zero (by omega)⟩
 ·replace hb27 : ((y22.n : Int) == 0) = false := hb27
  have qhb27 : ¬ ((y22.n : Int) = 0) := by simpa using hb27
  refine zzr (zzo ?_)
  refine zzc ?_
  have hm1 : Nt.trimQ m ≠ [] := by intro e; have h9 : (Nt.trimQ m).length = 0 := by { rw [e]; rfl }; omega
  have hm2 : 0 < (Nt.prim m).length := by rw [Nt.prim_len]; omega
  refine zze ?_
  refine zza 32 (.v y14.v) ?_
  refine zza 33 (.v y22.v) ?_
  refine zzf 34 116 [y14.v, y22.v] ?_
  intro w30 u30 e30 d30
  have k34 := k_divide (C := C) d30 (h15.ext (e19.trans (g25.ext.trans e30))) (h23.ext e30) hA hB (Nt.prim_nrm m) hm2 (Nat.le_trans (Nat.add_le_add_left (Nat.mul_le_mul_right _ (by simp; omega)) _) hC) hC9 (by first|omega|(simp;omega)) (by first|omega|(simp;omega))
  with_reducible refine Post.mono k34 ?_
  rintro _ u32 g33 ⟨y31, z31, r31, s31, t31, f31, rfl, ha31, hb31, hc31, hD31, hws31, hwt31⟩
  have hly31 := ha31.len
  have hlz31 := hb31.len
  have hlty31 := hD31.lt
  have htly31 := hD31.tl
  have hsly31 := hD31.sl
  try simp only [List.length_map] at hlty31 htly31 hsly31
  refine zza 31 (.v (.tuple #[y31.v, z31.v, r31.v])) ?_
  refine zza 35 (.v y31.v) ?_
  refine zza 36 (.v z31.v) ?_
  refine zza 37 (.v (r31.v)) ?_
  refine zzj 13 ⟨26, [.bool false, .slice none 0 0, .slice none 0 0]⟩ ?_
  refine zza 11 (.v y31.v) ?_
  refine zza 12 (.v z31.v) ?_
  refine zzi ⟨26, r31.cs⟩ ty26 ?_
  refine zzb 56 [(7, .adr 7 0), (9, .adr 9 0), (11, .v y31.v), (12, .v z31.v), (13, .adr 13 0)] [(7, ⟨26, r12.cs⟩), (9, ⟨26, r20.cs⟩), (13, ⟨26, r31.cs⟩)] ?_
  refine sq9 ?_
  refine zzh 39 (.v (r12.v)) ty26 zzd ?_
  refine zzh 40 (.v (r31.v)) ty26 zzd ?_
  refine zzf 41 99 [r12.v, r31.v] ?_
  intro w35 u35 e35 d35
  have k40 := k_ratDiv1 d35 (h13.ext (e19.trans (g25.ext.trans (e30.trans (g33.ext.trans e35))))).raw (hc31.ext e35).raw hD31.f0 (by omega) (by omega)
  with_reducible refine Post.mono k40 ?_
  rintro _ u38 g39 ⟨r36, rfl, h37⟩
  refine zza 38 (.v (.tuple #[r36.v, .int .i64 0])) ?_
  refine zza 42 (.v (r36.v)) ?_
  refine zza 43 (.v (.int .i64 0)) ?_
  refine zzj 14 ⟨26, [.bool false, .slice none 0 0, .slice none 0 0]⟩ ?_
  refine zzi ⟨26, r36.cs⟩ ty26 ?_
  refine zza 15 (.v (.int .i64 0)) ?_
  refine zzb 56 [(9, .adr 9 0), (11, .v y31.v), (12, .v z31.v), (14, .adr 14 0)] [(9, ⟨26, r20.cs⟩), (14, ⟨26, r36.cs⟩)] ?_
  refine sq9 ?_
  refine zzh 45 (.v (r36.v)) ty26 zzd ?_
  refine zzh 46 (.v (r20.v)) ty26 zzd ?_
  refine zzf 47 99 [r36.v, r20.v] ?_
  intro w41 u41 e41 d41
  have k46 := k_ratDiv1 d41 (h37.ext e41).raw (h21.ext (e30.trans (g33.ext.trans (e35.trans (g39.ext.trans e41))))).raw (Nt.msr_ne' hm1) (by omega) (by omega)
  with_reducible refine Post.mono k46 ?_
  rintro _ u44 g45 ⟨r42, rfl, h43⟩
  refine zza 44 (.v (.tuple #[r42.v, .int .i64 0])) ?_
  refine zza 48 (.v (r42.v)) ?_
  refine zza 49 (.v (.int .i64 0)) ?_
  refine zzj 16 ⟨26, [.bool false, .slice none 0 0, .slice none 0 0]⟩ ?_
  refine zzi ⟨26, r42.cs⟩ ty26 ?_
  refine zza 17 (.v (.int .i64 0)) ?_
  refine zzb 56 [(11, .v y31.v), (12, .v z31.v), (14, .adr 14 0), (16, .adr 16 0)] [(14, ⟨26, r36.cs⟩), (16, ⟨26, r42.cs⟩)] ?_
  refine zzc ?_
  refine zzy [0, 0, 3, 0, 0, 31, 63, 127, 255] [(0, []), (1, []), (3, []), (4, []), (2, []), (5, []), (6, []), (7, []), (8, [])] (by kernel_rfl) (by kernel_rfl) ?_
  refine zza 50 (.v y31.v) ?_
  refine zzh 51 (.v (r42.v)) ty26 zzd ?_
  refine zza 53 (.v z31.v) ?_
  refine zzh 54 (.v (r36.v)) ty26 zzd ?_
  refine zzf 52 97 [y31.v, r42.v] ?_
  intro w47 u47 e47 d47
  have k52 := k_poScale d47 (ha31.ext (e35.trans (g39.ext.trans (e41.trans (g45.ext.trans e47))))).raw (h43.ext e47).raw (by omega) (by first|omega|(simp;omega) | (refine Nat.le_trans (Nt.zzg _) ?_; first|omega|(simp;omega)) | (refine Nat.le_trans (Nt.zzg _) ?_; simp only [List.length_map]; refine Nat.le_trans (Nt.zzg _) ?_; first|omega|(simp;omega))) (by omega)
  with_reducible refine Post.mono k52 ?_
  rintro _ u50 g51 ⟨y48, rfl, h49⟩
  have hly48 := h49.len
  refine zzf 55 97 [z31.v, r36.v] ?_
  intro w53 u53 e53 d53
  have k58 := k_poScale d53 (hb31.ext (e35.trans (g39.ext.trans (e41.trans (g45.ext.trans (e47.trans (g51.ext.trans e53))))))).raw (h37.ext (e41.trans (g45.ext.trans (e47.trans (g51.ext.trans e53))))).raw (by omega) (by first|omega|(simp;omega) | (refine Nat.le_trans (Nt.zzg _) ?_; first|omega|(simp;omega)) | (refine Nat.le_trans (Nt.zzg _) ?_; simp only [List.length_map]; refine Nat.le_trans (Nt.zzg _) ?_; first|omega|(simp;omega))) (by omega)
  with_reducible refine Post.mono k58 ?_
  rintro _ u56 g57 ⟨y54, rfl, h55⟩
  have hly54 := h55.len
  refine zza 4 (.v y48.v) ?_
  refine zza 5 (.v y54.v) ?_
  refine zza 6 (.v (.int .i64 0)) ?_
  refine zzb 56 [(4, .v y48.v), (5, .v y54.v), (6, .v (.int .i64 0))] [] ?_
  refine zzn (ret0 [.slice y48.a y48.n y48.c, .slice y54.a y54.n y54.c, .int .i64 0] ⟨zzp, zzp, zzp, trivial⟩ fun u59 e60 => ?_)
  obtain ⟨e1, e2⟩ := Nt.divmod_parts (l := l) (m := m) hm1 hD31
  exact .inr ⟨hm1, y48, y54, _, _, rfl, PolN.more (K := ((Nt.dg C) + ((((Nt.trimQ l).length * K + 2) + (Nt.dg C)) + ((Nt.trimQ m).length * M + 2)))) (h49.ext (e53.trans (g57.ext.trans e60))) (by omega), PolN.more (K := ((Nt.dg C) + (((Nt.trimQ l).length * K + 2) + (Nt.dg C)))) (h55.ext e60) (by omega), e1, e2⟩
theorem k_poDivMod1 {u w : World} {x y : Sl} {l m : List Rat} {K M : Nat} (d : Dat u w) (hx : PolV u x l K) (hy : PolV u y m M) {a b C : Nat} (hm1 : Nt.trimQ m ≠ []) (hA : Nt.WhL (Nt.prim l) a) (hB : Nt.WhL (Nt.prim m) b) (hC : a + (l.length + 1) * (b + 1) ≤ C) (hC9 : C ≤ 600000000) (hK1 : (l.length + 1) * K ≤ 20000000) (hM1 : (m.length + 1) * M ≤ 20000000) (hS : Nt.dg C + ((l.length * K + 2) + Nt.dg C + (m.length * M + 2)) ≤ 40000000) (hx9 : l.length ≤ 1000000) (hy9 : m.length ≤ 1000000) :
  Calls Tryz.prog 27 #[x.v, y.v] w (Post u w fun v u' => ∃ (y1 y2 : Sl) (q r : Nt.Pol), v = .tuple #[y1.v, y2.v, .int .i64 0] ∧ PolN u' y1 q.l (Nt.dg C + ((l.length * K + 2) + Nt.dg C + (m.length * M + 2))) ∧ PolN u' y2 r.l (Nt.dg C + ((l.length * K + 2) + Nt.dg C + (m.length * M + 2))) ∧ Nt.Pol.mk' l = q * Nt.Pol.mk' m + r ∧ r.len < (Nt.Pol.mk' m).len) :=
 Post.mono (k_poDivMod d hx hy hA hB hC hC9 hK1 hM1 hS hx9 hy9) fun v u' _ h => (h.resolve_left (fun k => hm1 k.2)).2
set_option maxHeartbeats 2000000 in
theorem k_poGcd {u w : World} {x : Sl} {l : List Rat} {y : Sl} {m : List Rat} {K M : Nat} (d : Dat u w) (hx : PolV u x l K) (hy : PolV u y m M) {A H N : Nat} (hA : Nt.WhL (Nt.prim l) A) (hB : Nt.WhL (Nt.prim m) A) (hH : (A + 1) * (A + 1) * 3 ^ Nt.pot (Nt.trimQ l).length (Nt.trimQ m).length ≤ H * H) (hH9 : H ≤ 600000000) (hN1 : l.length ≤ N) (hN2 : m.length ≤ N) (hN : (N + 1) * Nt.dg H ≤ 28000000) (hK1 : (l.length + 1) * K ≤ 20000000) (hM1 : (m.length + 1) * M ≤ 20000000) (hN9 : N ≤ 1000000) : Calls Tryz.prog 30 #[x.v, y.v] w (Post u w fun v u' => ∃ (z : Sl) (g : Nt.Pol) (W : List Rat) (k : Rat), v = z.v ∧ PolN u' z g.l (2 * Nt.dg H + 2) ∧ Nt.Pol.IsGcd (Nt.Pol.mk' l) (Nt.Pol.mk' m) g ∧ k ≠ 0 ∧ (∀ i, Nt.co g.l i = k * Nt.co W i) ∧ Nt.WhL W H) := by
 have hlen := hx.len
 have hlen2 := hy.len
 have htl := Nt.zzg l
 have htm := Nt.zzg m
 have hdgH : Nt.dg H ≤ (N + 1) * Nt.dg H := Nat.le_mul_of_pos_left _ (by omega)
 have hAH : A ≤ H := by have h9 := Nt.pot_le hH; omega
 refine zzl (args := [.slice x.a x.n x.c, .slice y.a y.n y.c]) Tryz.func30 rfl Tryz.ntmps30 (rs := [.tmp 4]) Tryz.results30 (le_b rfl) (le_b rfl) d ?_
 refine sq9 ?_
 refine zza 4 (.v (.slice none 0 0)) ?_
 refine zzb 41 [(0, .v x.v), (1, .v y.v)] [] ?_
 refine sq9 ?_
 refine zza 13 (.v x.v) ?_
 refine zzf 14 115 [x.v] ?_
 intro w11 u11 e11 d11
 have k18 := k_split d11 (hx.ext e11) (by omega) (by first|omega|(simp;omega) | (refine Nat.le_trans (Nt.zzg _) ?_; first|omega|(simp;omega)) | (refine Nat.le_trans (Nt.zzg _) ?_; simp only [List.length_map]; refine Nat.le_trans (Nt.zzg _) ?_; first|omega|(simp;omega)))
 with_reducible refine Post.mono k18 ?_
 rintro _ u16 g17 ⟨r12, y14, rfl, h13, h15⟩
 have hly14 : y14.n = (Nt.trimQ l).length := by have h9 := h15.len; simpa using h9
 refine zza 12 (.v (.tuple #[r12.v, y14.v])) ?_
 refine zza 15 (.v (r12.v)) ?_
 refine zza 16 (.v y14.v) ?_
 refine zzj 5 ⟨26, [.bool false, .slice none 0 0, .slice none 0 0]⟩ ?_
 refine zzi ⟨26, r12.cs⟩ ty26 ?_
 refine zza 6 (.v y14.v) ?_
 refine zzb 41 [(1, .v y.v), (6, .v y14.v)] [] ?_
 refine sq9 ?_
 refine zza 18 (.v y.v) ?_
 refine zzf 19 115 [y.v] ?_
 intro w19 u19 e19 d19
 have k26 := k_split d19 (hy.ext (e11.trans (g17.ext.trans e19))) (by omega) (by first|omega|(simp;omega) | (refine Nat.le_trans (Nt.zzg _) ?_; first|omega|(simp;omega)) | (refine Nat.le_trans (Nt.zzg _) ?_; simp only [List.length_map]; refine Nat.le_trans (Nt.zzg _) ?_; first|omega|(simp;omega)))
 with_reducible refine Post.mono k26 ?_
 rintro _ u24 g25 ⟨r20, y22, rfl, h21, h23⟩
 have hly22 : y22.n = (Nt.trimQ m).length := by have h9 := h23.len; simpa using h9
 refine zza 17 (.v (.tuple #[r20.v, y22.v])) ?_
 refine zza 20 (.v (r20.v)) ?_
 refine zza 21 (.v y22.v) ?_
 refine zzj 7 ⟨26, [.bool false, .slice none 0 0, .slice none 0 0]⟩ ?_
 refine zzi ⟨26, r20.cs⟩ ty26 ?_
 refine zza 8 (.v y22.v) ?_
 refine zzb 41 [(6, .v y14.v), (8, .v y22.v)] [] ?_
 refine zzc ?_
 refine zzs ?_
 refine zym (I := fun m27 S' u' => ∃ (xa : Sl) (xb : Sl) (pa : List Rat) (pb : List Rat) (A9 : Nat), (m27 = pb.length) ∧ (pa.length ≤ N) ∧ (pb.length ≤ N) ∧ (Nt.Nrm pb) ∧ (Nt.WhL pa A9) ∧ (Nt.WhL pb A9) ∧ ((A9 + 1) * (A9 + 1) * 3 ^ Nt.pot pa.length pb.length ≤ H * H) ∧ (Nt.Pol.Same (Nt.Pol.mk' l) (Nt.Pol.mk' m) (Nt.Pol.mk' pa) (Nt.Pol.mk' pb)) ∧ (S' = St.of 41 [(6, .v (.slice xa.a xa.n xa.c)), (8, .v (.slice xb.a xb.n xb.c))] []) ∧ (Ext u24 u') ∧ (PolN u' xa pa (Nt.dg H)) ∧ (PolN u' xb pb (Nt.dg H))) (fun m S u1 u2 e h => by obtain ⟨xa, xb, pa, pb, A9, hm, p0, p1, p2, p3, p4, p5, p6, hS, hE, f0, f1⟩ := h; exact ⟨xa, xb, pa, pb, A9, hm, p0, p1, p2, p3, p4, p5, p6, hS, hE.trans e, f0.ext e, f1.ext e⟩) _ (T := St.of 41 [(6, .v (.slice y14.a y14.n y14.c)), (8, .v (.slice y22.a y22.n y22.c))] []) (by exact zzu _ _ _) ⟨y14, y22, (Nt.prim l), (Nt.prim m), A, rfl, (by rw [Nt.prim_len]; omega), (by rw [Nt.prim_len]; omega), (Nt.prim_nrm m), hA, hB, (by rw [Nt.prim_len, Nt.prim_len]; exact hH), (Nt.prim_same l m), rfl, Ext.refl _, (PolN.fitW (K := (K + ((Nt.trimQ l).length * K + 2))) (h15.ext (e19.trans g25.ext)) (hA.more hAH)), (PolN.fitW (K := (M + ((Nt.trimQ m).length * M + 2))) h23 (hB.more hAH))⟩ ?_
 rintro m27 _ u27 ⟨xa, xb, pa, pb, A9, hm27, hna, hnl, hnb, hWa, hWb, hP, hS, rfl, e27, hFa, hFb⟩
 have hla := hFa.len
 have hlb := hFb.len
 have hA9 := Nt.pot_le hP
 refine zzc ?_
 refine sq9 ?_
 refine zza 22 (.v xb.v) ?_
 refine zza 23 (.v (.int .i64 (xb.n : Int))) ?_
 refine zza 24 (.v (.bool (decide ((0 : Int) < (xb.n : Int))))) ?_
 refine zzb 41 [(6, .v xa.v), (8, .v xb.v), (24, .v (.bool (decide ((0 : Int) < (xb.n : Int)))))] [] ?_
 refine zzt (b := decide ((0 : Int) < (xb.n : Int))) (by kernel_rfl) (fun hb28 => ?_) (fun hb28 => ?_)
 ·replace hb28 : (decide ((0 : Int) < (xb.n : Int))) = true := hb28
  have qhb28 := of_decide_eq_true hb28
  refine zzr (zzo ?_)
  refine zzs ?_
  refine zzc ?_
  have hP0 := Nt.pot_step hP (lr := 0) (by omega) (by omega)
  obtain ⟨C9, hC9⟩ : ∃ C9, A9 + (pa.length - pb.length + 1) * (A9 + 1) = C9 := ⟨_, rfl⟩
  rw [hC9] at hP0
  have hCH := Nt.pot_le hP0
  have hCA : A9 ≤ C9 := by omega
  refine zze ?_
  refine zza 26 (.v xa.v) ?_
  refine zza 27 (.v xb.v) ?_
  refine zzf 28 116 [xa.v, xb.v] ?_
  intro w29 u29 e29 d29
  have k33 := k_divide (C := C9) d29 (hFa.ext e29) (hFb.ext e29) hWa hWb hnb (by omega) (Nat.le_of_eq hC9) (by omega) (by first|omega|(simp;omega)) (by first|omega|(simp;omega))
  with_reducible refine Post.mono k33 ?_
  rintro _ u31 g32 ⟨y30, z30, r30, s30, t30, f30, rfl, ha30, hb30, hc30, hD30, hws30, hwt30⟩
  have hly30 := ha30.len
  have hlz30 := hb30.len
  have hlty30 := hD30.lt
  have htly30 := hD30.tl
  have hsly30 := hD30.sl
  try simp only [List.length_map, Nt.prim_len] at hlty30 htly30 hsly30
  refine zza 25 (.v (.tuple #[y30.v, z30.v, r30.v])) ?_
  refine zza 29 (.v y30.v) ?_
  refine zza 30 (.v z30.v) ?_
  refine zza 31 (.v (r30.v)) ?_
  refine zzj 11 ⟨26, [.bool false, .slice none 0 0, .slice none 0 0]⟩ ?_
  refine zza 9 (.v y30.v) ?_
  refine zza 10 (.v z30.v) ?_
  refine zzi ⟨26, r30.cs⟩ ty26 ?_
  refine zzb 41 [(8, .v xb.v), (10, .v z30.v)] [] ?_
  refine sq9 ?_
  refine zza 33 (.v z30.v) ?_
  refine zzf 34 115 [z30.v] ?_
  intro w34 u34 e34 d34
  have k41 := k_split d34 (hb30.ext e34).raw (Nat.le_trans (Nat.mul_le_mul (show t30.length + 1 ≤ N + 1 by omega) (Nt.dg_mono (show C9 ≤ H by omega))) (by omega)) (by first|omega|(simp;omega) | (refine Nat.le_trans (Nt.zzg _) ?_; first|omega|(simp;omega)) | (refine Nat.le_trans (Nt.zzg _) ?_; simp only [List.length_map]; refine Nat.le_trans (Nt.zzg _) ?_; first|omega|(simp;omega)))
  with_reducible refine Post.mono k41 ?_
  rintro _ u39 g40 ⟨r35, y37, rfl, h36, h38⟩
  have hly37 : y37.n = (Nt.trimQ t30).length := by have h9 := h38.len; simpa using h9
  refine zza 32 (.v (.tuple #[r35.v, y37.v])) ?_
  refine zza 35 (.v (r35.v)) ?_
  refine zza 36 (.v y37.v) ?_
  refine zza 10 (.v y37.v) ?_
  refine zzb 41 [(8, .v xb.v), (10, .v y37.v)] [] ?_
  refine zze ?_
  refine zza 37 (.v xb.v) ?_
  refine zza 38 (.v y37.v) ?_
  refine zza 6 (.v xb.v) ?_
  refine zza 8 (.v y37.v) ?_
  refine zzw ?_
  have hpt : (Nt.prim t30).length ≤ t30.length := by rw [Nt.prim_len]; exact Nt.zzg _
  have hP9 := Nt.pot_step hP (lr := (Nt.prim t30).length) (by omega) (by omega)
  rw [hC9] at hP9
  refine ⟨_, ?_, St.of 41 [(6, .v (.slice xb.a xb.n xb.c)), (8, .v (.slice y37.a y37.n y37.c))] [], by exact zzu _ _ _, xb, y37, pb, (Nt.prim t30), C9, rfl, by omega, by omega, (Nt.prim_nrm _), (hWb.more hCA), (Nt.prim_of_wh hwt30), hP9, (Nt.same_step hS hD30), rfl, (e27.trans (e29.trans (g32.ext.trans (e34.trans g40.ext)))), (hFb.ext (e29.trans (g32.ext.trans (e34.trans g40.ext)))), (PolN.fitW (K := ((Nt.dg C9) + ((Nt.trimQ t30).length * (Nt.dg C9) + 2))) h38 ((Nt.prim_of_wh hwt30).more (by omega)))⟩
  omega
 ·replace hb28 : (decide ((0 : Int) < (xb.n : Int))) = false := hb28
  have qhb28 := of_decide_eq_false hb28
  refine zyb ?_
  refine zzo ?_
  refine sq9 ?_
  refine zza 39 (.v xa.v) ?_
  refine zzf 40 32 [xa.v] ?_
  intro w42 u42 e42 d42
  have k47 := k_poMonic d42 (hFa.ext e42).raw (by omega) (by first|omega|(simp;omega) | (refine Nat.le_trans (Nt.zzg _) ?_; first|omega|(simp;omega)) | (refine Nat.le_trans (Nt.zzg _) ?_; simp only [List.length_map]; refine Nat.le_trans (Nt.zzg _) ?_; first|omega|(simp;omega)))
  with_reducible refine Post.mono k47 ?_
  rintro _ u45 g46 ⟨y43, rfl, h44⟩
  have hly43 := h44.len
  refine zza 4 (.v y43.v) ?_
  refine zzb 41 [(4, .v y43.v)] [] ?_
  refine zzn (ret0 [.slice y43.a y43.n y43.c] ⟨zzp, trivial⟩ fun u48 e49 => ?_)
  have hb0 : pb.length = 0 := by omega
  have hS9 := hS
  rw [Nt.mk_nil hb0] at hS9
  obtain ⟨k, hk0, hk⟩ := Nt.monic_scaled pa
  exact ⟨y43, _, pa, k, rfl, (h44.ext e49), hS9.gcd, hk0, hk, hWa.more (by omega)⟩
set_option maxHeartbeats 2000000 in
theorem k_poSquarefree {u w : World} {x : Sl} {l : List Rat} {K : Nat} (d : Dat u w) (hx : PolV u x l K) {A H N C : Nat} (hA : Nt.WhL (Nt.prim l) A) (hB : Nt.WhL (Nt.prim (Nt.trimQ (Nt.derQ l))) A) (hH : (A + 1) * (A + 1) * 3 ^ (2 * (l.length - 1) + 1) ≤ H * H) (hH9 : H ≤ 600000000) (hN1 : l.length ≤ N) (hN : (N + 1) * Nt.dg H ≤ 9500000) (hC : A + (l.length + 1) * (H + 1) ≤ C) (hC9 : C ≤ 600000000) (hK1 : (l.length + 1) * (K + 2) ≤ 20000000) (hS : (Nt.dg C + ((l.length * K + 2) + Nt.dg C + (N * (2 * Nt.dg H + 2) + 2))) ≤ 40000000) (hN9 : N ≤ 100000) : Calls Tryz.prog 36 #[x.v] w (Post u w fun v u' => ∃ (z : Sl) (s : Nt.Pol), v = z.v ∧ PolN u' z s.l (2 * (Nt.dg C + ((l.length * K + 2) + Nt.dg C + (N * (2 * Nt.dg H + 2) + 2))) + 2) ∧ Nt.IsSqf (Nt.Pol.mk' l) s) := by
 have hlen := hx.len
 have hK2 := hK1
 rw [Nat.add_mul] at hK2
 have hNN : (N + 1) * (2 * Nt.dg H + 2) = 2 * ((N + 1) * Nt.dg H) + 2 * (N + 1) := by rw [Nat.mul_add, Nat.mul_left_comm, Nat.mul_comm (N + 1) 2]
 have hdr : (Nt.trimQ (Nt.derQ l)).length ≤ l.length := by have h9 := Nt.zzg (Nt.derQ l); rw [Nt.derQ_len] at h9; omega
 have hKl : (l.length + 1) * K ≤ (l.length + 1) * (K + 2) := Nat.mul_le_mul_left _ (Nat.le_add_right K 2)
 refine zzl (args := [.slice x.a x.n x.c]) Tryz.func36 rfl Tryz.ntmps36 (rs := [.tmp 2]) Tryz.results36 (le_b rfl) (le_b rfl) d ?_
 refine sq9 ?_
 refine zza 2 (.v (.slice none 0 0)) ?_
 refine zzb 23 [(0, .v x.v)] [] ?_
 refine sq9 ?_
 refine zza 7 (.v x.v) ?_
 refine zza 8 (.v x.v) ?_
 refine zzf 9 34 [x.v] ?_
 intro w11 u11 e11 d11
 have k16 := k_poDerivative d11 (hx.ext e11) (by omega) (by first|omega|(simp;omega) | (refine Nat.le_trans (Nt.zzg _) ?_; first|omega|(simp;omega)) | (refine Nat.le_trans (Nt.zzg _) ?_; simp only [List.length_map]; refine Nat.le_trans (Nt.zzg _) ?_; first|omega|(simp;omega)))
 with_reducible refine Post.mono k16 ?_
 rintro _ u14 g15 ⟨y12, rfl, h13⟩
 have hly12 := h13.len
 refine zzf 10 30 [x.v, y12.v] ?_
 intro w17 u17 e17 d17
 have k21 := k_poGcd (H := H) d17 (hx.ext (e11.trans (g15.ext.trans e17))) (h13.ext e17).raw hA hB (Nt.pot_der hH) hH9 (by omega) (by first|omega|(simp;omega) | (refine Nat.le_trans (Nt.zzg _) ?_; first|omega|(simp;omega)) | (refine Nat.le_trans (Nt.zzg _) ?_; simp only [List.length_map]; refine Nat.le_trans (Nt.zzg _) ?_; first|omega|(simp;omega))) (by omega) (by omega) (Nat.le_trans (Nat.mul_le_mul_right _ (show (Nt.trimQ (Nt.derQ l)).length + 1 ≤ l.length + 1 by have h9 := Nt.zzg (Nt.derQ l); rw [Nt.derQ_len] at h9; omega)) hK1) (by omega)
 with_reducible refine Post.mono k21 ?_
 rintro _ u19 g20 ⟨z18, g18, W18, k18, rfl, hz18, hg18, hk18, hW18, hw18⟩
 have hlz18 := hz18.len
 refine zza 3 (.v z18.v) ?_
 refine zzb 23 [(0, .v x.v), (3, .v z18.v)] [] ?_
 refine zzc ?_
 refine sq9 ?_
 refine zza 11 (.v z18.v) ?_
 refine zza 12 (.v (.int .i64 (z18.n : Int))) ?_
 refine zza 13 (.v (.bool ((z18.n : Int) == 0))) ?_
 refine zzb 23 [(0, .v x.v), (3, .v z18.v), (13, .v (.bool ((z18.n : Int) == 0)))] [] ?_
 refine zzt (b := (z18.n : Int) == 0) (by kernel_rfl) (fun hb22 => ?_) (fun hb22 => ?_)
 ·replace hb22 : ((z18.n : Int) == 0) = true := hb22
  have qhb22 : (z18.n : Int) = 0 := by simpa using hb22
  refine sq9 ?_
  refine zza 2 (.v (.slice none 0 0)) ?_
  refine zzb 23 [(2, .v (.slice none 0 0))] [] ?_
  refine zzn (zzv (ret0 [.slice none 0 0] ⟨zzp, trivial⟩ fun u23 e24 => ?_))
  have hg0 : g18 = 0 := Nt.Pol.zero_of_len (by show g18.l.length = 0; omega)
  have hp0 : Nt.Pol.mk' l = 0 := by obtain ⟨u1, e1⟩ := hg18.l; rw [e1, hg0, Nt.Pol.zero_mul]
  exact ⟨⟨none, 0, 0⟩, 0, rfl, by rw [Nt.Pol.zero_l]; exact pol_nil _ _, .inl ⟨hp0, rfl⟩⟩
 ·replace hb22 : ((z18.n : Int) == 0) = false := hb22
  have qhb22 : ¬ ((z18.n : Int) = 0) := by simpa using hb22
  refine zzr (zzo ?_)
  refine zzc ?_
  have hgn : g18 ≠ 0 := Nt.Pol.ne_of_len (by show 0 < g18.l.length; omega)
  have hp0 : Nt.Pol.mk' l ≠ 0 := by intro e; obtain ⟨u1, v1, e1⟩ := hg18.s; apply hgn; rw [e1, Nt.mk_trim, Nt.Pol.mk_D, e, Nt.Pol.D_zero, Nt.Pol.mul_zero, Nt.Pol.mul_zero, Nt.Pol.add_zero]
  have hgl : g18.l.length ≤ N := by have h9 := Nt.len_dvd hg18.l hp0; have h8 := Nt.mk_len l; change g18.l.length ≤ _ at h9; omega
  have hgt : Nt.trimQ g18.l ≠ [] := by intro e; have h9 : (Nt.trimQ g18.l).length = 0 := by { rw [e]; rfl }; rw [g18.h] at h9; omega
  have hgm : (g18.l.length + 1) * (2 * Nt.dg H + 2) ≤ (N + 1) * (2 * Nt.dg H + 2) := Nat.mul_le_mul_right _ (by omega)
  have hgm2 : g18.l.length * (2 * Nt.dg H + 2) ≤ N * (2 * Nt.dg H + 2) := Nat.mul_le_mul_right _ hgl
  refine zze ?_
  refine zza 15 (.v x.v) ?_
  refine zza 16 (.v z18.v) ?_
  refine zzf 17 27 [x.v, z18.v] ?_
  intro w25 u25 e25 d25
  have k29 := k_poDivMod1 (C := C) d25 (hx.ext (e11.trans (g15.ext.trans (e17.trans (g20.ext.trans e25))))) (hz18.ext e25).raw hgt hA (Nt.prim_bits hk18 hW18 hw18) hC hC9 (Nat.le_trans (Nat.mul_le_mul_left _ (Nat.le_add_right K 2)) hK1) (Nat.le_trans hgm (by rw [hNN]; omega)) (by omega) (by omega) (by omega)
  with_reducible refine Post.mono k29 ?_
  rintro _ u27 g28 ⟨y26, z26, q26, r26, rfl, ha26, hb26, eq26, el26⟩
  have hly26 := ha26.len
  have hlz26 := hb26.len
  have hlly26 := Nt.div_lenL eq26 el26
  refine zza 14 (.v (.tuple #[y26.v, z26.v, .int .i64 0])) ?_
  refine zza 18 (.v y26.v) ?_
  refine zza 19 (.v z26.v) ?_
  refine zza 20 (.v (.int .i64 0)) ?_
  refine zza 4 (.v y26.v) ?_
  refine zza 5 (.v z26.v) ?_
  refine zza 6 (.v (.int .i64 0)) ?_
  refine zzb 23 [(4, .v y26.v)] [] ?_
  refine sq9 ?_
  refine zza 21 (.v y26.v) ?_
  refine zzf 22 32 [y26.v] ?_
  intro w30 u30 e30 d30
  have k35 := k_poMonic d30 (ha26.ext e30).raw (by omega) (by first|omega|(simp;omega) | (refine Nat.le_trans (Nt.zzg _) ?_; first|omega|(simp;omega)) | (refine Nat.le_trans (Nt.zzg _) ?_; simp only [List.length_map]; refine Nat.le_trans (Nt.zzg _) ?_; first|omega|(simp;omega)))
  with_reducible refine Post.mono k35 ?_
  rintro _ u33 g34 ⟨y31, rfl, h32⟩
  have hly31 := h32.len
  refine zza 2 (.v y31.v) ?_
  refine zzb 23 [(2, .v y31.v)] [] ?_
  refine zzn (ret0 [.slice y31.a y31.n y31.c] ⟨zzp, trivial⟩ fun u36 e37 => ?_)
  rw [Nt.Pol.mk_l] at eq26 el26
  obtain ⟨er, ep⟩ := Nt.div_exact eq26 el26 hg18.l
  refine ⟨y31, _, rfl, PolN.more (K := (2 * (Nt.dg C + ((l.length * K + 2) + Nt.dg C + (g18.l.length * (2 * Nt.dg H + 2) + 2))) + 2)) (h32.ext e37) (by omega), .inr ⟨hp0, g18, q26, ?_, hgn, ep, by rw [Nt.Pol.mk_l]⟩⟩
  rw [← Nt.Pol.mk_D, ← Nt.mk_trim (Nt.derQ l)]
  exact hg18
set_option maxHeartbeats 1000000 in
theorem k_sameList {u w : World} {x : Sl} {l : List Rat} {y : Sl} {m : List Rat} {K M : Nat} (d : Dat u w) (hx : PolN u x l K) (hy : PolN u y m M) (hx9 : l.length ≤ 1000000000) (hy9 : m.length ≤ 1000000000) : Calls Tryz.prog 117 #[x.v, y.v] w (Post u w fun v u' => v = .bool (decide (l = m))) := by
 have hlen := hx.len
 have hlen2 := hy.len
 refine zzl (args := [.slice x.a x.n x.c, .slice y.a y.n y.c]) Tryz.func117 rfl Tryz.ntmps117 (rs := [.tmp 4]) Tryz.results117 (le_b rfl) (le_b rfl) d ?_
 refine sq9 ?_
 refine zza 4 (.v (.bool false)) ?_
 refine zzb 27 [(0, .v x.v), (1, .v y.v)] [] ?_
 refine zzc ?_
 refine sq9 ?_
 refine zza 6 (.v x.v) ?_
 refine zza 7 (.v (.int .i64 (x.n : Int))) ?_
 refine zza 8 (.v y.v) ?_
 refine zza 9 (.v (.int .i64 (y.n : Int))) ?_
 refine zza 10 (.v (.bool ((x.n : Int) != (y.n : Int)))) ?_
 refine zzb 27 [(0, .v x.v), (1, .v y.v), (10, .v (.bool ((x.n : Int) != (y.n : Int))))] [] ?_
 refine zzt (b := (x.n : Int) != (y.n : Int)) (by kernel_rfl) (fun hb11 => ?_) (fun hb11 => ?_)
 ·replace hb11 : ((x.n : Int) != (y.n : Int)) = true := hb11
  refine sq9 ?_
  refine zza 4 (.v (.bool false)) ?_
  refine zzb 27 [(4, .v (.bool false))] [] ?_
  refine zzn (zzv (ret0 [.bool false] ⟨zzp, trivial⟩ fun u12 e13 => ?_))
  have e9 : l ≠ m := by intro e; have h9 := congrArg List.length e; have h8 := hb11; simp at h8; omega
  show Value.bool false = Value.bool _
  rw [decide_eq_false e9]
 ·replace hb11 : ((x.n : Int) != (y.n : Int)) = false := hb11
  have hnn : x.n = y.n := by have h9 : (x.n : Int) = (y.n : Int) := (by simpa using hb11); omega
  refine zzr (zzo ?_)
  refine zzc ?_
  refine sq9 ?_
  refine zza 5 (.v (.int .i64 0)) ?_
  refine zzb 27 [(0, .v x.v), (1, .v y.v), (5, .v (.int .i64 0))] [] ?_
  refine zzs ?_
  refine zym (I := fun m14 S' u' => ∃ (i : Nat), (m14 = x.n - i) ∧ (i ≤ x.n) ∧ (∀ j, j < i → l.getD j 0 = m.getD j 0) ∧ (S' = St.of 27 [(0, .v (.slice x.a x.n x.c)), (1, .v (.slice y.a y.n y.c)), (5, .v (.int .i64 (i : Int)))] []) ∧ (Ext u u')) (fun m S u1 u2 e h => by obtain ⟨i, hm, p0, p1, hS, hE⟩ := h; exact ⟨i, hm, p0, p1, hS, hE.trans e⟩) _ (T := St.of 27 [(0, .v (.slice x.a x.n x.c)), (1, .v (.slice y.a y.n y.c)), (5, .v (.int .i64 0))] []) (by exact zzu _ _ _) ⟨0, rfl, by omega, fun j hj => by omega, rfl, Ext.refl _⟩ ?_
  rintro m14 _ u14 ⟨i, hm14, hi, hz, rfl, e14⟩
  refine zzc ?_
  refine sq9 ?_
  refine zza 11 (.v (.int .i64 (i : Int))) ?_
  refine zza 12 (.v x.v) ?_
  refine zza 13 (.v (.int .i64 (x.n : Int))) ?_
  refine zza 14 (.v (.bool (decide ((i : Int) < (x.n : Int))))) ?_
  refine zzb 27 [(0, .v x.v), (1, .v y.v), (5, .v (.int .i64 (i : Int))), (14, .v (.bool (decide ((i : Int) < (x.n : Int)))))] [] ?_
  refine zzt (b := decide ((i : Int) < (x.n : Int))) (by kernel_rfl) (fun hb15 => ?_) (fun hb15 => ?_)
  ·replace hb15 : (decide ((i : Int) < (x.n : Int))) = true := hb15
   have qhb15 := of_decide_eq_true hb15
   refine zzr (zzo ?_)
   refine zzc ?_
   refine zzs ?_
   refine zzc ?_
   refine zzy [0, 0, 3, 7, 0, 0, 48, 112, 255, 511] [(0, []), (1, []), (2, []), (3, []), (4, []), (5, []), (6, []), (7, []), (8, []), (9, [])] (by kernel_rfl) (by kernel_rfl) ?_
   refine zza 17 (.v x.v) ?_
   refine zza 18 (.v (.int .i64 (i : Int))) ?_
   have hl16 := (hx.ext e14).len
   obtain ⟨r16, b16, o16, hA16, hc16, hr16⟩ := pol_atN (hx.ext e14) (i := i) (by omega)
   refine zzz 19 (o16 + i * 3) (n := x.n) (off := o16) (sz := 3) (i := (i : Int)) (by omega) hA16 (by omega) (by omega) sl40 ?_
   refine zyl 20 r16.cs hc16 ty26 ?_
   refine zza 21 (.v y.v) ?_
   refine zza 22 (.v (.int .i64 (i : Int))) ?_
   have hl17 := (hy.ext e14).len
   obtain ⟨r17, b17, o17, hA17, hc17, hr17⟩ := pol_atN (hy.ext e14) (i := i) (by omega)
   refine zzz 23 (o17 + i * 3) (n := y.n) (off := o17) (sz := 3) (i := (i : Int)) (by omega) hA17 (by omega) (by omega) sl40 ?_
   refine zyl 24 r17.cs hc17 ty26 ?_
   refine zzf 25 71 [r16.v, r17.v] ?_
   intro w18 u18 e18 d18
   have k21 := k_rqSame d18 (hr16.ext e18) (hr17.ext e18)
   with_reducible refine Post.mono k21 ?_
   rintro _ u19 g20 rfl
   refine zza 26 (.v (.bool (!(decide ((l.getD i 0) = (m.getD i 0)))))) ?_
   refine zzb 27 [(0, .v x.v), (1, .v y.v), (5, .v (.int .i64 (i : Int))), (26, .v (.bool (!(decide ((l.getD i 0) = (m.getD i 0))))))] [] ?_
   refine zzt (b := !(decide ((l.getD i 0) = (m.getD i 0)))) (by kernel_rfl) (fun hb22 => ?_) (fun hb22 => ?_)
   ·replace hb22 : (!(decide ((l.getD i 0) = (m.getD i 0)))) = true := hb22
    refine sq9 ?_
    refine zza 4 (.v (.bool false)) ?_
    refine zzb 27 [(4, .v (.bool false))] [] ?_
    refine zzn (zyt (zzv (zys (zyt (zzv (ret0 [.bool false] ⟨zzp, trivial⟩ fun u23 e24 => ?_))))))
    have e9 : l ≠ m := by intro e; have h9 := hb22; rw [e] at h9; simp at h9
    show Value.bool false = Value.bool _
    rw [decide_eq_false e9]
   ·replace hb22 : (!(decide ((l.getD i 0) = (m.getD i 0)))) = false := hb22
    refine zzr (zzo ?_)
    refine zze ?_
    refine zza 15 (.v (.int .i64 (i : Int))) ?_
    refine zyp 16 (x := .v (.int .i64 (IntKind.i64.wrap ((i : Int) + 1)))) (.v (.int .i64 ((i + 1 : Nat) : Int))) (eqI (by rw [IntWalk.i64_in _ (by omega)]; omega)) ?_
    refine zza 5 (.v (.int .i64 ((i + 1 : Nat) : Int))) ?_
    refine zzw ?_
    refine ⟨_, ?_, St.of 27 [(0, .v (.slice x.a x.n x.c)), (1, .v (.slice y.a y.n y.c)), (5, .v (.int .i64 ((i + 1 : Nat) : Int)))] [], by exact zzu _ _ _, i + 1, rfl, by omega, (fun j hj => by by_cases e : j = i; (rw [e]; have h9 := hb22; simpa using h9); exact hz j (by omega)), rfl, (e14.trans (e18.trans g20.ext))⟩
    omega
  ·replace hb15 : (decide ((i : Int) < (x.n : Int))) = false := hb15
   have qhb15 := of_decide_eq_false hb15
   refine zyb ?_
   refine zzo ?_
   refine sq9 ?_
   refine zza 4 (.v (.bool true)) ?_
   refine zzb 27 [(4, .v (.bool true))] [] ?_
   refine zzn (ret0 [.bool true] ⟨zzp, trivial⟩ fun u25 e26 => ?_)
   have e9 : l = m := Nt.list_ext (by omega) (fun j => by by_cases hj : j < i; exact hz j hj; rw [Nt.co_ge (by omega), Nt.co_ge (by omega)])
   show Value.bool true = Value.bool _
   rw [decide_eq_true e9]
theorem k_r5Equal {u w : World} {x : Sl} {l : List Rat} {y : Sl} {m : List Rat} {K M : Nat} (d : Dat u w) (hx : PolN u x l K) (hy : PolN u y m M) (hx9 : l.length ≤ 1000000000) (hy9 : m.length ≤ 1000000000) : Calls Tryz.prog 29 #[x.v, y.v] w (Post u w fun v u' => v = .bool (decide (l = m))) := by
 have hlen := hx.len
 have hlen2 := hy.len
 refine zzl (args := [.slice x.a x.n x.c, .slice y.a y.n y.c]) Tryz.func29 rfl Tryz.ntmps29 (rs := [.tmp 4]) Tryz.results29 (le_b rfl) (le_b rfl) d ?_
 refine sq9 ?_
 refine zza 4 (.v (.bool false)) ?_
 refine zzb 8 [(0, .v x.v), (1, .v y.v)] [] ?_
 refine sq9 ?_
 refine zza 5 (.v x.v) ?_
 refine zza 6 (.v y.v) ?_
 refine zzf 7 117 [x.v, y.v] ?_
 intro w11 u11 e11 d11
 have k14 := k_sameList d11 (hx.ext e11) (hy.ext e11) (by first|omega|(simp;omega) | (refine Nat.le_trans (Nt.zzg _) ?_; first|omega|(simp;omega)) | (refine Nat.le_trans (Nt.zzg _) ?_; simp only [List.length_map]; refine Nat.le_trans (Nt.zzg _) ?_; first|omega|(simp;omega))) (by first|omega|(simp;omega) | (refine Nat.le_trans (Nt.zzg _) ?_; first|omega|(simp;omega)) | (refine Nat.le_trans (Nt.zzg _) ?_; simp only [List.length_map]; refine Nat.le_trans (Nt.zzg _) ?_; first|omega|(simp;omega)))
 with_reducible refine Post.mono k14 ?_
 rintro _ u12 g13 rfl
 refine zza 4 (.v (.bool (decide (l = m)))) ?_
 refine zzb 8 [(4, .v (.bool (decide (l = m))))] [] ?_
 refine zzn (ret0 [.bool (decide (l = m))] ⟨zzp, trivial⟩ fun u15 e16 => ?_)
 rfl
namespace Nt
namespace Pol
theorem monic_zero : (0 : Pol).monic = 0 := by unfold monic; rw [mul_zero]
theorem IsGcd.mul {p q g : Pol} (h : IsGcd p q g) (r : Pol) : IsGcd (p * r) (q * r) (g * r).monic := by
 obtain ⟨u1, e1⟩ := h.l
 obtain ⟨u2, e2⟩ := h.r
 obtain ⟨s, t, e3⟩ := h.s
 by_cases h0 : g * r = 0
 ·rw [h0, monic_zero]
  exact ⟨.inl rfl, ⟨0, by rw [e1]; grind⟩, ⟨0, by rw [e2]; grind⟩, ⟨0, 0, by grind⟩⟩
 ·have h1 := lead_ne h0
  have h2 := C_inv h1
  refine ⟨.inr (monic_lead h0), ⟨C (g * r).lead * u1, ?_⟩, ⟨C (g * r).lead * u2, ?_⟩, ⟨C (1 / (g * r).lead) * s, C (1 / (g * r).lead) * t, ?_⟩⟩
  ·unfold monic; grind
  ·unfold monic; grind
  ·unfold monic; grind
theorem npow_zero (p : Pol) : npow p 0 = 1 := rfl
theorem npow_succ (p : Pol) (n : Nat) : npow p (n + 1) = npow p n * p := rfl
theorem npow_len (p : Pol) (n : Nat) : (npow p n).len ≤ n * p.len + 1 := by
 induction n with
 | zero => rw [npow_zero, show (1 : Pol).len = 1 from len_C (a := 1) (by decide)]; omega
 | succ n ih =>
  rw [npow_succ]
  by_cases h0 : npow p n = 0
  ·rw [h0, zero_mul, len_zero]; omega
  ·by_cases h1 : p = 0
   ·rw [h1, mul_zero, len_zero]; omega
   ·have h2 := len_mul h0 h1
    rw [Nat.add_mul]; omega
end Pol
section
variable {l m : List Rat} {D E A B n : Nat}
theorem Sm.npow (h : Sm l D A) (n : Nat) : Sm (Pol.npow (Pol.mk' l) n).l (D ^ n) (n * (A + l.length)) := by
 induction n with
 | zero =>
  rw [Pol.npow_zero, Nat.pow_zero, Nat.zero_mul]
  exact (show Sm (List.map (fun z : Int => (z : Rat)) [1]) 1 0 from Sm.ofInts (by decide)).trim
 | succ n ih =>
  rw [Pol.npow_succ, Nat.pow_succ, Nat.add_mul, Nat.one_mul]
  have h9 := (ih.mulR (h.trim : Sm (Pol.mk' l).l D A)).trim.more (B := n * (A + l.length) + (A + l.length)) (by have h8 := zzg l; change _ + A + (trimQ l).length ≤ _; omega)
  exact h9
theorem pow_le (hD : D ≤ 2 ^ A) (n k : Nat) (hk : A ≤ k) : D ^ n ≤ 2 ^ (n * k) := by
 rw [Nat.mul_comm, Nat.pow_mul]
 exact Nat.pow_le_pow_left (Nat.le_trans hD (Nat.pow_le_pow_right (by omega) hk)) n
theorem pow_leN {j : Nat} (hD : D ≤ 2 ^ A) (hj : j ≤ n) : D ^ j ≤ 2 ^ (n * (A + 8)) := Nat.le_trans (pow_le hD j (A + 8) (by omega)) (Nat.pow_le_pow_right (by omega) (Nat.mul_le_mul_right _ hj))
theorem npow_l (l : List Rat) (j : Nat) : (Pol.npow (Pol.mk' l) (j + 1)).l = trimQ (mulQ (Pol.npow (Pol.mk' l) j).l l) := trim_ext fun k => mulQ_congr (fun _ => rfl) (trim_co l) k
theorem len_of_co {a : Nat} (h : ∀ i, a ≤ i → Nt.co l i = 0) : (trimQ l).length ≤ a := Pol.len_le (p := Pol.mk' l) fun i hi => by rw [Pol.mk_c]; exact h i hi
theorem mul_lenQ {a b : Nat} (h1 : l.length ≤ a) (h2 : m.length ≤ b) : (trimQ (mulQ l m)).length ≤ a + b - 1 := len_of_co fun i hi => mulQ_far (by omega)
theorem map_lenQ {a : Nat} {f : Rat → Rat} (h1 : l.length ≤ a) : (trimQ (l.map f)).length ≤ a := Nat.le_trans (zzg _) (by rw [List.length_map]; omega)
end
end Nt
namespace Nt
section
variable {p q : List Rat} {u v x y : Pol}
end
end Nt
section
variable {P : Program} {ops : Array Oper} {w0 : Base} {u0 : World} {S : St} {u u' w : World} {o : Oper} {p : List Tmp} {seq : Bool} {rest : List (Oper × List Tmp)} {K : St → World → Prop}
theorem unwantedU {g : Nat} {b : Bool} {t : Tmp} (h : o.guard = some (g, b)) (ht : (ops[g]?).bind (·.dst) = some t) (hS : S.reg t = some (.v undef)) : ∀ B a, RegOK S B a → Want ops o a false := fun B a hr => by
 have := hr.reg t _ hS
 simp [Want, Region.wanted, h, yielded, ht, this, SV.conc, undef]
end
section
variable {u u' : World} {A : Option Addr} {n c i : Nat} {l : List Int} {k : IntKind}
end
set_option maxHeartbeats 2000000 in
theorem k_poPow {u w : World} {x : Sl} {l : List Rat} {K n D A : Nat} (d : Dat u w) (hx : PolV u x l K) (hs : Nt.Sm l D A) (hD : D ≤ 2 ^ A) (hl : l.length ≤ 8) (hn : n ≤ 4) (hA : A ≤ 1000) (hK : K ≤ 100) : Calls Tryz.prog 91 #[x.v, .int .i64 (n : Int)] w (Post u w fun v u' => ∃ y : Sl, v = .tuple #[y.v, .int .i64 0] ∧ PolN u' y (Nt.Pol.npow (Nt.Pol.mk' l) n).l (Nt.dg (n * (A + 8)))) := by
 have hlen := hx.len
 have htl := Nt.zzg l
 have hnb : -4 ≤ (n : Int) * (((Nt.trimQ l).length : Int) - 1) ∧ (n : Int) * (((Nt.trimQ l).length : Int) - 1) ≤ 28 := by
  obtain ⟨k, hk⟩ : ∃ k, (Nt.trimQ l).length = k := ⟨_, rfl⟩
  rw [hk] at htl ⊢
  rcases (by omega : n = 0 ∨ n = 1 ∨ n = 2 ∨ n = 3 ∨ n = 4) with rfl | rfl | rfl | rfl | rfl <;> omega
 have hdg : Nt.dg (n * (A + 8)) ≤ 127 := by
  have h9 : n * (A + 8) ≤ 4 * 1008 := Nat.mul_le_mul hn (by omega)
  exact Nat.le_trans (Nt.dg_mono h9) (by decide)
 refine zzl (args := [.slice x.a x.n x.c, .int .i64 (n : Int)]) Tryz.func91 rfl Tryz.ntmps91 (rs := [.tmp 4, .tmp 5]) Tryz.results91 (le_b rfl) (le_b rfl) d ?_
 refine sq9 ?_
 refine zza 4 (.v (.slice none 0 0)) ?_
 refine zza 5 (.v (.int .i64 0)) ?_
 refine zzb 30 [(0, .v x.v), (1, .v (.int .i64 (n : Int)))] [] ?_
 refine zzc ?_
 refine sq9 ?_
 refine zza 7 (.v (.int .i64 (n : Int))) ?_
 refine zza 8 (.v (.bool (decide ((n : Int) < 0)))) ?_
 refine zyp 9 (x := .v (.bool (decide ((n : Int) < 0)))) (.v (.bool false)) (by rw [show (decide ((n : Int) < 0)) = false from decide_eq_false (by omega)]) ?_
 refine zza 10 (.v (.int .i64 (n : Int))) ?_ (hw := w1 2 false 9)
 refine zza 11 (.v (.bool (decide ((48 : Int) < (n : Int))))) ?_ (hw := w1 2 false 9)
 refine zza 12 (.v (.bool (decide ((48 : Int) < (n : Int))))) ?_
 refine zyp 13 (x := .v (.bool (decide ((48 : Int) < (n : Int))))) (.v (.bool false)) (by rw [show (decide ((48 : Int) < (n : Int))) = false from decide_eq_false (by omega)]) ?_
 refine zza 14 (.v (.int .i64 (n : Int))) ?_ (hw := w1 6 false 13)
 refine zza 15 (.v x.v) ?_ (hw := w1 6 false 13)
 refine zzf 16 45 [x.v] ?_ (hw := w1 6 false 13)
 intro w13 u13 e13 d13
 have k16 := k_poDegree d13 (hx.ext e13) (by omega) (by first|omega|(simp;omega) | (refine Nat.le_trans (Nt.zzg _) ?_; first|omega|(simp;omega)) | (refine Nat.le_trans (Nt.zzg _) ?_; simp only [List.length_map]; refine Nat.le_trans (Nt.zzg _) ?_; first|omega|(simp;omega)))
 with_reducible refine Post.mono k16 ?_
 rintro _ u14 g15 rfl
 refine zyp 17 (x := .v (.int .i64 (IntKind.i64.wrap (((n : Int) * (((Nt.trimQ l).length : Int) - 1)))))) (.v (.int .i64 (((n : Int) * (((Nt.trimQ l).length : Int) - 1))))) (by rw [IntWalk.i64_in _ (by omega)]) ?_ (hw := w1 6 false 13)
 refine zza 18 (.v (.bool (decide ((192 : Int) < ((n : Int) * (((Nt.trimQ l).length : Int) - 1)))))) ?_ (hw := w1 6 false 13)
 refine zza 19 (.v (.bool (decide ((192 : Int) < ((n : Int) * (((Nt.trimQ l).length : Int) - 1)))))) ?_
 refine zzb 30 [(0, .v x.v), (1, .v (.int .i64 (n : Int))), (19, .v (.bool (decide ((192 : Int) < ((n : Int) * (((Nt.trimQ l).length : Int) - 1))))))] [] ?_
 refine zzt (b := decide ((192 : Int) < ((n : Int) * (((Nt.trimQ l).length : Int) - 1)))) (by kernel_rfl) (fun hb => ?_) (fun hb => ?_)
 ·exact absurd hb (by rw [show (decide ((192 : Int) < ((n : Int) * (((Nt.trimQ l).length : Int) - 1)))) = false from decide_eq_false (by omega)]; decide)
 ·clear hb
  refine zzr (zzo ?_)
  refine sq9 ?_
  refine zzf 20 112 [.int .i64 1] ?_
  intro w17 u17 e17 d17
  have k22 := k_ratOf d17 (z := 1) (by omega) (by omega)
  with_reducible refine Post.mono k22 ?_
  rintro _ u20 g21 ⟨r18, rfl, h19⟩
  refine sy_data 21 ⟨26, r18.cs⟩ 1 (fun b23 u24 e25 h26 => ?_)
  have hp27 : PolN u24 (⟨some ⟨b23, 0, none⟩, 1, 1⟩ : Sl) [((1 : Int) : Rat)] 2 := pol_lit (L := [r18]) h26 (rats1 (h19.ext e25)) rfl (by decide)
  refine zza 6 (.v (.slice (some ⟨b23, 0, none⟩) 1 1)) ?_
  refine zzb 30 [(0, .v x.v), (1, .v (.int .i64 (n : Int))), (6, .v (.slice (some ⟨b23, 0, none⟩) 1 1))] [] ?_
  refine zzc ?_
  refine sq9 ?_
  refine zza 22 (.v (.int .i64 (n : Int))) ?_
  refine zza 23 (.v (.int .i64 0)) ?_
  refine zzb 30 [(0, .v x.v), (6, .v (.slice (some ⟨b23, 0, none⟩) 1 1)), (22, .v (.int .i64 (n : Int))), (23, .v (.int .i64 0))] [] ?_
  refine zzs ?_
  refine zym (I := fun m28 S' u' => ∃ (j : Nat) (xr : Sl), (m28 = n - j) ∧ (j ≤ n) ∧ (S' = St.of 30 [(0, .v (.slice x.a x.n x.c)), (6, .v (.slice xr.a xr.n xr.c)), (22, .v (.int .i64 (n : Int))), (23, .v (.int .i64 (j : Int)))] []) ∧ (Ext u24 u') ∧ (PolN u' xr (Nt.Pol.npow (Nt.Pol.mk' l) j).l (Nt.dg (n * (A + 8))))) (fun m S u1 u2 e h => by obtain ⟨j, xr, hm, p0, hS, hE, f0⟩ := h; exact ⟨j, xr, hm, p0, hS, hE.trans e, f0.ext e⟩) _ (T := St.of 30 [(0, .v (.slice x.a x.n x.c)), (6, .v (.slice (some ⟨b23, 0, none⟩) 1 1)), (22, .v (.int .i64 (n : Int))), (23, .v (.int .i64 0))] []) (by exact zzu _ _ _) ⟨0, (⟨some ⟨b23, 0, none⟩, 1, 1⟩ : Sl), rfl, by omega, rfl, Ext.refl _, (by have h9 : PolN _ _ (Nt.Pol.npow (Nt.Pol.mk' l) 0).l _ := hp27; exact PolN.fitS h9 ((hs.npow 0).more (by rw [Nat.zero_mul]; exact Nat.zero_le _)) (Nt.pow_leN hD (Nat.zero_le _)))⟩ ?_
  rintro m28 _ u28 ⟨j, xr, hm28, hj, rfl, e28, hF⟩
  have hlr := hF.len
  have hlp : (Nt.Pol.npow (Nt.Pol.mk' l) j).l.length ≤ 33 := by have h9 := Nt.Pol.npow_len (Nt.Pol.mk' l) j; have h8 : j * (Nt.Pol.mk' l).len ≤ 4 * 8 := Nat.mul_le_mul (by omega) (Nat.le_trans (Nt.mk_len l) hl); change _ ≤ _ at h9; unfold Nt.Pol.len at h9; unfold Nt.Pol.len at h8; omega
  refine sq9 ?_
  refine zza 24 (.v (.bool (decide ((j : Int) < (n : Int))))) ?_
  refine zzb 30 [(0, .v x.v), (6, .v xr.v), (22, .v (.int .i64 (n : Int))), (23, .v (.int .i64 (j : Int))), (24, .v (.bool (decide ((j : Int) < (n : Int)))))] [] ?_
  refine zzc ?_
  refine zzt (b := decide ((j : Int) < (n : Int))) (by kernel_rfl) (fun hb29 => ?_) (fun hb29 => ?_)
  ·replace hb29 : (decide ((j : Int) < (n : Int))) = true := hb29
   have qhb29 := of_decide_eq_true hb29
   refine zzr (zzo ?_)
   refine zzc ?_
   refine zzs ?_
   refine zze ?_
   refine zza 25 (.v xr.v) ?_
   refine zza 26 (.v x.v) ?_
   refine zzf 27 42 [xr.v, x.v] ?_
   intro w30 u30 e30 d30
   have k35 := k_poMul d30 (hF.ext e30).raw (hx.ext (e13.trans (g15.ext.trans (e17.trans (g21.ext.trans (e25.trans (e28.trans e30))))))) (Nat.le_trans (Nt.mlK_mono hlp hl hdg hK) (by decide +kernel)) (by have h9 := Nat.mul_le_mul (show (Nt.Pol.npow (Nt.Pol.mk' l) j).l.length + 1 ≤ 34 by omega) hdg; omega) (by have h9 := Nat.mul_le_mul (show l.length + 1 ≤ 9 by omega) hK; omega) (by omega) (by omega)
   with_reducible refine Post.mono k35 ?_
   rintro _ u33 g34 ⟨y31, rfl, h32⟩
   refine zza 6 (.v y31.v) ?_
   refine zzw ?_
   refine zzo ?_
   refine zze ?_
   refine zyp 28 (x := .v (.int .i64 (IntKind.i64.wrap ((j : Int) + 1)))) (.v (.int .i64 ((j + 1 : Nat) : Int))) (eqI (by rw [IntWalk.i64_in _ (by omega)]; omega)) ?_
   refine zza 23 (.v (.int .i64 ((j + 1 : Nat) : Int))) ?_
   refine zzw ?_
   refine ⟨_, ?_, St.of 30 [(0, .v (.slice x.a x.n x.c)), (6, .v (.slice y31.a y31.n y31.c)), (22, .v (.int .i64 (n : Int))), (23, .v (.int .i64 ((j + 1 : Nat) : Int)))] [], by exact zzu _ _ _, j + 1, y31, rfl, by omega, rfl, (e28.trans (e30.trans g34.ext)), (by have h9 : PolN _ _ (Nt.Pol.npow (Nt.Pol.mk' l) (j + 1)).l _ := (by rw [Nt.npow_l]; exact h32); exact PolN.fitS h9 ((hs.npow (j + 1)).more (Nat.mul_le_mul (by omega) (by omega))) (Nt.pow_leN hD (by omega)))⟩
   omega
  ·replace hb29 : (decide ((j : Int) < (n : Int))) = false := hb29
   have qhb29 := of_decide_eq_false hb29
   refine zyb ?_
   refine zzo ?_
   refine sq9 ?_
   refine zza 29 (.v xr.v) ?_
   refine zza 4 (.v xr.v) ?_
   refine zza 5 (.v (.int .i64 0)) ?_
   refine zzb 30 [(4, .v xr.v), (5, .v (.int .i64 0))] [] ?_
   refine zzn (ret0 [.slice xr.a xr.n xr.c, .int .i64 0] ⟨zzp, zzp, trivial⟩ fun u36 e37 => ?_)
   have hjn : j = n := by omega
   refine ⟨xr, rfl, ?_⟩
   have h9 := (hF.ext e37)
   rw [hjn] at h9
   exact h9
end Go.Proofs.YtnedhbidmfoegaaGreat
namespace Go.Proofs.YtnedhbidmfoegaaGreat.Nt
open Go.RowKit
open Pol
set_option linter.unusedVariables false
theorem awake_dm {q r : Pol} (h : mk' [((0 : Int) : Rat), ((0 : Int) : Rat), ((1 : Int) : Rat)] = q * mk' [(((-1) : Int) : Rat), ((1 : Int) : Rat)] + r) (hr : r.len < (mk' [(((-1) : Int) : Rat), ((1 : Int) : Rat)]).len) :
  q.l = [((1 : Int) : Rat), ((1 : Int) : Rat)] ∧ r.l = [((1 : Int) : Rat)] := by
 have e : mk' [((0 : Int) : Rat), ((0 : Int) : Rat), ((1 : Int) : Rat)] = mk' [((1 : Int) : Rat), ((1 : Int) : Rat)] * mk' [(((-1) : Int) : Rat), ((1 : Int) : Rat)] + mk' [((1 : Int) : Rat)] := eqk (by decide +kernel)
 have h9 := div_unique (h.symm.trans e) hr (by decide +kernel)
 rw [h9.1, h9.2]
 exact ⟨by decide +kernel, by decide +kernel⟩
theorem awake_sqf {s : Pol} (h : IsSqf (mk' [((0 : Int) : Rat), ((0 : Int) : Rat), (((-1) : Int) : Rat), ((1 : Int) : Rat)]) s) : s.l = [((0 : Int) : Rat), (((-1) : Int) : Rat), ((1 : Int) : Rat)] := by
 have k : IsSqf (mk' [((0 : Int) : Rat), ((0 : Int) : Rat), (((-1) : Int) : Rat), ((1 : Int) : Rat)]) (mk' [((0 : Int) : Rat), (((-1) : Int) : Rat), ((1 : Int) : Rat)]) :=
  .inr ⟨ne_of_len (by decide +kernel), mk' [0, 1], mk' [0, -1, 1],
   ⟨.inr (by decide +kernel), ⟨mk' [0, -1, 1], eqk (by decide +kernel)⟩, ⟨mk' [-2, 3], eqk (by decide +kernel)⟩, ⟨mk' [-9/2], mk' [-1/2, 3/2], eqk (by decide +kernel)⟩⟩,
   ne_of_len (by decide +kernel), eqk (by decide +kernel), eqk (by decide +kernel)⟩
 rw [h.unique k]
 decide +kernel
end Go.Proofs.YtnedhbidmfoegaaGreat.Nt
namespace Go.Proofs.YtnedhbidmfoegaaGreat
open Go.RowKit
set_option linter.unusedVariables false
set_option maxHeartbeats 4000000 in
theorem k_awake5 {u w : World} (d : Dat u w) : Calls Tryz.prog 26 #[] w (Post u w fun v _ => v = .bool true) := by
 refine zzl (args := []) Tryz.func26 rfl Tryz.ntmps26 (rs := [.tmp 0]) Tryz.results26 (le_b rfl) (le_b rfl) d ?_
 refine sq9 ?_
 refine zza 0 (.v (.bool false)) ?_
 refine zzb 50 [] [] ?_
 refine sq9 ?_
 refine zzf 5 41 [.int .i64 1] ?_
 intro w11 u11 e11 d11
 have k16 := k_rqOf d11 (z := 1) (by omega) (by omega)
 with_reducible refine Post.mono k16 ?_
 rintro _ u14 g15 ⟨r12, rfl, h13⟩
 refine zzj 1 ⟨26, [.bool false, .slice none 0 0, .slice none 0 0]⟩ ?_
 refine zzi ⟨26, r12.cs⟩ ty26 ?_
 refine zzb 50 [(1, .adr 1 0)] [(1, ⟨26, r12.cs⟩)] ?_
 refine zzc ?_
 refine zzy [0, 1, 0, 7, 3, 0, 51, 127, 255, 511, 511, 511, 1023, 6143, 16383] [(2, []), (5, []), (0, []), (1, []), (3, []), (4, []), (6, []), (7, [10, 13]), (8, []), (9, []), (10, []), (11, []), (12, []), (13, []), (14, [])] (by kernel_rfl) (by kernel_rfl) ?_
 refine zzh 9 (.v (r12.v)) ty26 zzd ?_
 refine zzh 12 (.v (r12.v)) ty26 zzd ?_
 refine zzf 7 41 [.int .i64 0] ?_
 intro w17 u17 e17 d17
 have k22 := k_rqOf d17 (z := 0) (by omega) (by omega)
 with_reducible refine Post.mono k22 ?_
 rintro _ u20 g21 ⟨r18, rfl, h19⟩
 refine zzf 8 41 [.int .i64 0] ?_
 intro w23 u23 e23 d23
 have k28 := k_rqOf d23 (z := 0) (by omega) (by omega)
 with_reducible refine Post.mono k28 ?_
 rintro _ u26 g27 ⟨r24, rfl, h25⟩
 refine sy_lit 10 ⟨26, r18.cs ++ r24.cs ++ r12.cs⟩ 3 ?_
 refine zzf 11 41 [.int .i64 (-1)] ?_
 intro w29 u29 e29 d29
 have k34 := k_rqOf d29 (z := (-1)) (by omega) (by omega)
 with_reducible refine Post.mono k34 ?_
 rintro _ u32 g33 ⟨r30, rfl, h31⟩
 refine sy_lit 13 ⟨26, r30.cs ++ r12.cs⟩ 2 ?_
 refine zyn 14 27 [.slc 10 0 3 3, .slc 13 0 2 2] [10, 13] (.inr rfl) (pub_mk (by repeat first | exact noAt_of | refine zyc ?_ | refine zye ?_ | refine zyd ?_ | refine zzx ?_ | refine zya ?_)) (k := ?_)
 intro B35 w35 u35 e35 d35 v35
 have h37 : u35.heap[B35 10]? = some (.cells #[.bool r18.s, .slice r18.m.a r18.m.n r18.m.c, .slice r18.d.a r18.d.n r18.d.c, .bool r24.s, .slice r24.m.a r24.m.n r24.m.c, .slice r24.d.a r24.d.n r24.d.c, .bool r12.s, .slice r12.m.a r12.m.n r12.m.c, .slice r12.d.a r12.d.n r12.d.c] 26 (0, 0)) := v35 10 (by simp) _ rfl
 obtain ⟨b36, hBb36⟩ : ∃ b, B35 10 = b := ⟨_, rfl⟩
 rw [hBb36] at h37
 have hp38 : PolN u35 (⟨some ⟨b36, 0, none⟩, 3, 3⟩ : Sl) [((0 : Int) : Rat), ((0 : Int) : Rat), ((1 : Int) : Rat)] 2 := pol_lit (L := [r18, r24, r12]) h37 (rats3 (h19.ext (e23.trans (g27.ext.trans (e29.trans (g33.ext.trans e35))))) (h25.ext (e29.trans (g33.ext.trans e35))) (h13.ext (e17.trans (g21.ext.trans (e23.trans (g27.ext.trans (e29.trans (g33.ext.trans e35)))))))) rfl (by decide)
 have h40 : u35.heap[B35 13]? = some (.cells #[.bool r30.s, .slice r30.m.a r30.m.n r30.m.c, .slice r30.d.a r30.d.n r30.d.c, .bool r12.s, .slice r12.m.a r12.m.n r12.m.c, .slice r12.d.a r12.d.n r12.d.c] 26 (0, 0)) := v35 13 (by simp) _ rfl
 obtain ⟨b39, hBb39⟩ : ∃ b, B35 13 = b := ⟨_, rfl⟩
 rw [hBb39] at h40
 have hp41 : PolN u35 (⟨some ⟨b39, 0, none⟩, 2, 2⟩ : Sl) [(((-1) : Int) : Rat), ((1 : Int) : Rat)] 2 := pol_lit (L := [r30, r12]) h40 (rats2 (h31.ext e35) (h13.ext (e17.trans (g21.ext.trans (e23.trans (g27.ext.trans (e29.trans (g33.ext.trans e35)))))))) rfl (by decide)
 show Calls _ _ #[.slice (some ⟨B35 10, 0, none⟩) 3 3, .slice (some ⟨B35 13, 0, none⟩) 2 2] _ _
 rw [hBb36, hBb39]
 have k45 := k_poDivMod1 (C := 9) d35 hp38.raw hp41.raw (show Nt.trimQ [(((-1) : Int) : Rat), ((1 : Int) : Rat)] ≠ [] by decide +kernel) ((show Nt.Sm [((0 : Int) : Rat), ((0 : Int) : Rat), ((1 : Int) : Rat)] 1 1 from Nt.Sm.ofInts (zs := [0, 0, 1]) (by decide))).prim ((show Nt.Sm [(((-1) : Int) : Rat), ((1 : Int) : Rat)] 1 1 from Nt.Sm.ofInts (zs := [(-1), 1]) (by decide))).prim (by have h9 := (show ([((0 : Int) : Rat), ((0 : Int) : Rat), ((1 : Int) : Rat)]).length ≤ 3 by decide); have h8 := (show ([(((-1) : Int) : Rat), ((1 : Int) : Rat)]).length ≤ 2 by decide); omega) (by decide) (by have h9 := (show ([((0 : Int) : Rat), ((0 : Int) : Rat), ((1 : Int) : Rat)]).length ≤ 3 by decide); omega) (by have h9 := (show ([(((-1) : Int) : Rat), ((1 : Int) : Rat)]).length ≤ 2 by decide); omega) (by have h9 := (show ([((0 : Int) : Rat), ((0 : Int) : Rat), ((1 : Int) : Rat)]).length ≤ 3 by decide); have h8 := (show ([(((-1) : Int) : Rat), ((1 : Int) : Rat)]).length ≤ 2 by decide); have h7 : Nt.dg 9 = 1 := (by decide +kernel); omega) (by have h9 := (show ([((0 : Int) : Rat), ((0 : Int) : Rat), ((1 : Int) : Rat)]).length ≤ 3 by decide); omega) (by have h9 := (show ([(((-1) : Int) : Rat), ((1 : Int) : Rat)]).length ≤ 2 by decide); omega)
 with_reducible refine Post.mono k45 ?_
 rintro _ u43 g44 ⟨y42, z42, q42, r42, rfl, ha42, hb42, eq42, el42⟩
 have hly42 := ha42.len
 have hlz42 := hb42.len
 have hlly42 := Nt.div_lenL eq42 el42
 have hm48 : q42.l.length ≤ 3 := by have h9 := (show ([((0 : Int) : Rat), ((0 : Int) : Rat), ((1 : Int) : Rat)]).length ≤ 3 by decide); omega
 have hm49 : r42.l.length ≤ 2 := by have h9 := (show ([(((-1) : Int) : Rat), ((1 : Int) : Rat)]).length ≤ 2 by decide); omega
 have hk46 : PolN _ y42 q42.l 16 := PolN.more ha42 (by have h9 := (show ([((0 : Int) : Rat), ((0 : Int) : Rat), ((1 : Int) : Rat)]).length ≤ 3 by decide); have h8 := (show ([(((-1) : Int) : Rat), ((1 : Int) : Rat)]).length ≤ 2 by decide); have h7 : Nt.dg 9 = 1 := (by decide +kernel); omega)
 have hk47 : PolN _ z42 r42.l 16 := PolN.more hb42 (by have h9 := (show ([((0 : Int) : Rat), ((0 : Int) : Rat), ((1 : Int) : Rat)]).length ≤ 3 by decide); have h8 := (show ([(((-1) : Int) : Rat), ((1 : Int) : Rat)]).length ≤ 2 by decide); have h7 : Nt.dg 9 = 1 := (by decide +kernel); omega)
 refine zza 6 (.v (.tuple #[y42.v, z42.v, .int .i64 0])) ?_
 refine zza 15 (.v y42.v) ?_
 refine zza 16 (.v z42.v) ?_
 refine zza 17 (.v (.int .i64 0)) ?_
 refine zza 2 (.v y42.v) ?_
 refine zza 3 (.v z42.v) ?_
 refine zza 4 (.v (.int .i64 0)) ?_
 refine zzb 50 [(1, .adr 1 0), (2, .v y42.v), (3, .v z42.v), (4, .v (.int .i64 0))] [(1, ⟨26, r12.cs⟩)] ?_
 refine zzc ?_
 refine zzy [0, 1, 3, 7, 7, 7, 55, 127, 255, 511, 1023, 1023, 3071, 8191, 16383, 32767, 65535, 131071, 262143, 524287, 1048575, 2097151, 4194303, 1048575, 16777215, 33554431, 67108863, 134217727, 1048575, 536870911, 1073741823, 2147483647, 4294967295] [(0, []), (1, []), (2, []), (3, []), (4, []), (5, []), (6, []), (7, [24]), (8, []), (9, []), (10, []), (11, []), (12, []), (13, [30]), (14, []), (15, []), (16, []), (17, []), (18, []), (19, []), (23, []), (28, []), (20, []), (21, []), (22, []), (24, []), (25, [42]), (26, []), (27, []), (29, []), (30, [47]), (31, []), (32, [])] (by kernel_rfl) (by kernel_rfl) ?_
 refine zza 18 (.v (.int .i64 0)) ?_
 refine zza 19 (.v (.bool true)) ?_
 refine zza 20 (.v (.bool true)) ?_
 refine zza 21 (.v y42.v) ?_ (hw := w1 2 true 20)
 refine zzh 22 (.v (r12.v)) ty26 zzd ?_ (hw := w1 2 true 20)
 refine zzh 23 (.v (r12.v)) ty26 zzd ?_ (hw := w1 2 true 20)
 refine sy_lit 24 ⟨26, r12.cs ++ r12.cs⟩ 2 ?_ (hw := w1 2 true 20)
 refine zyn 25 29 [.v y42.v, .slc 24 0 2 2] [24] (.inr rfl) (pub_mk (by repeat first | exact noAt_of | refine zyc ?_ | refine zye ?_ | refine zyd ?_ | refine zzx ?_ | refine zya ?_)) (k := ?_) (hw := w1 2 true 20)
 intro B50 w50 u50 e50 d50 v50
 have h52 : u50.heap[B50 24]? = some (.cells #[.bool r12.s, .slice r12.m.a r12.m.n r12.m.c, .slice r12.d.a r12.d.n r12.d.c, .bool r12.s, .slice r12.m.a r12.m.n r12.m.c, .slice r12.d.a r12.d.n r12.d.c] 26 (0, 0)) := v50 24 (by simp) _ rfl
 obtain ⟨b51, hBb51⟩ : ∃ b, B50 24 = b := ⟨_, rfl⟩
 rw [hBb51] at h52
 have hp53 : PolN u50 (⟨some ⟨b51, 0, none⟩, 2, 2⟩ : Sl) [((1 : Int) : Rat), ((1 : Int) : Rat)] 2 := pol_lit (L := [r12, r12]) h52 (rats2 (h13.ext (e17.trans (g21.ext.trans (e23.trans (g27.ext.trans (e29.trans (g33.ext.trans (e35.trans (g44.ext.trans e50))))))))) (h13.ext (e17.trans (g21.ext.trans (e23.trans (g27.ext.trans (e29.trans (g33.ext.trans (e35.trans (g44.ext.trans e50)))))))))) rfl (by decide)
 show Calls _ _ #[.slice y42.a y42.n y42.c, .slice (some ⟨B50 24, 0, none⟩) 2 2] _ _
 rw [hBb51]
 have k56 := k_r5Equal d50 (hk46.ext e50) hp53 (by first|omega|(simp;omega) | (refine Nat.le_trans (Nt.zzg _) ?_; first|omega|(simp;omega)) | (refine Nat.le_trans (Nt.zzg _) ?_; simp only [List.length_map]; refine Nat.le_trans (Nt.zzg _) ?_; first|omega|(simp;omega))) (by simp)
 with_reducible refine Post.mono k56 ?_
 rintro _ u54 g55 rfl
 refine zza 26 (.v (.bool (decide (q42.l = [((1 : Int) : Rat), ((1 : Int) : Rat)])))) ?_
 refine zyp 27 (x := .v (.bool (decide (q42.l = [((1 : Int) : Rat), ((1 : Int) : Rat)])))) (.v (.bool true)) (by rw [show (decide (q42.l = [((1 : Int) : Rat), ((1 : Int) : Rat)])) = true from decide_eq_true (Nt.awake_dm eq42 el42).1]) ?_
 refine zza 28 (.v z42.v) ?_ (hw := w1 9 true 27)
 refine zzh 29 (.v (r12.v)) ty26 zzd ?_ (hw := w1 9 true 27)
 refine sy_lit 30 ⟨26, r12.cs⟩ 1 ?_ (hw := w1 9 true 27)
 refine zyn 31 29 [.v z42.v, .slc 30 0 1 1] [30] (.inr rfl) (pub_mk (by repeat first | exact noAt_of | refine zyc ?_ | refine zye ?_ | refine zyd ?_ | refine zzx ?_ | refine zya ?_)) (k := ?_) (hw := w1 9 true 27)
 intro B58 w58 u58 e58 d58 v58
 have h60 : u58.heap[B58 30]? = some (.cells #[.bool r12.s, .slice r12.m.a r12.m.n r12.m.c, .slice r12.d.a r12.d.n r12.d.c] 26 (0, 0)) := v58 30 (by simp) _ rfl
 obtain ⟨b59, hBb59⟩ : ∃ b, B58 30 = b := ⟨_, rfl⟩
 rw [hBb59] at h60
 have hp61 : PolN u58 (⟨some ⟨b59, 0, none⟩, 1, 1⟩ : Sl) [((1 : Int) : Rat)] 2 := pol_lit (L := [r12]) h60 (rats1 (h13.ext (e17.trans (g21.ext.trans (e23.trans (g27.ext.trans (e29.trans (g33.ext.trans (e35.trans (g44.ext.trans (e50.trans (g55.ext.trans e58)))))))))))) rfl (by decide)
 show Calls _ _ #[.slice z42.a z42.n z42.c, .slice (some ⟨B58 30, 0, none⟩) 1 1] _ _
 rw [hBb59]
 have k64 := k_r5Equal d58 (hk47.ext (e50.trans (g55.ext.trans e58))) hp61 (by first|omega|(simp;omega) | (refine Nat.le_trans (Nt.zzg _) ?_; first|omega|(simp;omega)) | (refine Nat.le_trans (Nt.zzg _) ?_; simp only [List.length_map]; refine Nat.le_trans (Nt.zzg _) ?_; first|omega|(simp;omega))) (by simp)
 with_reducible refine Post.mono k64 ?_
 rintro _ u62 g63 rfl
 refine zza 32 (.v (.bool (decide (r42.l = [((1 : Int) : Rat)])))) ?_
 refine zyp 33 (x := .v (.bool (decide (r42.l = [((1 : Int) : Rat)])))) (.v (.bool true)) (by rw [show (decide (r42.l = [((1 : Int) : Rat)])) = true from decide_eq_true (Nt.awake_dm eq42 el42).2]) ?_
 refine zzf 34 45 [.slice none 0 0] ?_ (hw := w1 15 true 33)
 intro w66 u66 e66 d66
 have k69 := k_poDegree (l := []) (x := ⟨none, 0, 0⟩) d66 (pol_nil _ 1).raw (by omega) (by decide)
 with_reducible refine Post.mono k69 ?_
 rintro _ u67 g68 rfl
 refine zza 35 (.v (.bool ((((Nt.trimQ []).length : Int) - 1) == (-1)))) ?_ (hw := w1 15 true 33)
 refine zza 36 (.v (.bool ((((Nt.trimQ []).length : Int) - 1) == (-1)))) ?_
 refine zyp 37 (x := .v (.bool ((((Nt.trimQ []).length : Int) - 1) == (-1)))) (.v (.bool true)) (by rw [show ((((Nt.trimQ []).length : Int) - 1) == (-1)) = true from (by decide +kernel)]) ?_
 refine zzh 41 (.v (r12.v)) ty26 zzd ?_ (hw := w1 19 true 37)
 refine zzh 46 (.v (r12.v)) ty26 zzd ?_ (hw := w1 19 true 37)
 refine zzf 38 41 [.int .i64 0] ?_ (hw := w1 19 true 37)
 intro w71 u71 e71 d71
 have k76 := k_rqOf d71 (z := 0) (by omega) (by omega)
 with_reducible refine Post.mono k76 ?_
 rintro _ u74 g75 ⟨r72, rfl, h73⟩
 refine zzf 39 41 [.int .i64 0] ?_ (hw := w1 19 true 37)
 intro w77 u77 e77 d77
 have k82 := k_rqOf d77 (z := 0) (by omega) (by omega)
 with_reducible refine Post.mono k82 ?_
 rintro _ u80 g81 ⟨r78, rfl, h79⟩
 refine zzf 40 41 [.int .i64 (-1)] ?_ (hw := w1 19 true 37)
 intro w83 u83 e83 d83
 have k88 := k_rqOf d83 (z := (-1)) (by omega) (by omega)
 with_reducible refine Post.mono k88 ?_
 rintro _ u86 g87 ⟨r84, rfl, h85⟩
 refine sy_lit 42 ⟨26, r72.cs ++ r78.cs ++ r84.cs ++ r12.cs⟩ 4 ?_ (hw := w1 19 true 37)
 refine zyn 43 36 [.slc 42 0 4 4] [42] (.inr rfl) (pub_mk (by repeat first | exact noAt_of | refine zyc ?_ | refine zye ?_ | refine zyd ?_ | refine zzx ?_ | refine zya ?_)) (k := ?_) (hw := w1 19 true 37)
 intro B89 w89 u89 e89 d89 v89
 have h91 : u89.heap[B89 42]? = some (.cells #[.bool r72.s, .slice r72.m.a r72.m.n r72.m.c, .slice r72.d.a r72.d.n r72.d.c, .bool r78.s, .slice r78.m.a r78.m.n r78.m.c, .slice r78.d.a r78.d.n r78.d.c, .bool r84.s, .slice r84.m.a r84.m.n r84.m.c, .slice r84.d.a r84.d.n r84.d.c, .bool r12.s, .slice r12.m.a r12.m.n r12.m.c, .slice r12.d.a r12.d.n r12.d.c] 26 (0, 0)) := v89 42 (by simp) _ rfl
 obtain ⟨b90, hBb90⟩ : ∃ b, B89 42 = b := ⟨_, rfl⟩
 rw [hBb90] at h91
 have hp92 : PolN u89 (⟨some ⟨b90, 0, none⟩, 4, 4⟩ : Sl) [((0 : Int) : Rat), ((0 : Int) : Rat), (((-1) : Int) : Rat), ((1 : Int) : Rat)] 2 := pol_lit (L := [r72, r78, r84, r12]) h91 (rats4 (h73.ext (e77.trans (g81.ext.trans (e83.trans (g87.ext.trans e89))))) (h79.ext (e83.trans (g87.ext.trans e89))) (h85.ext e89) (h13.ext (e17.trans (g21.ext.trans (e23.trans (g27.ext.trans (e29.trans (g33.ext.trans (e35.trans (g44.ext.trans (e50.trans (g55.ext.trans (e58.trans (g63.ext.trans (e66.trans (g68.ext.trans (e71.trans (g75.ext.trans (e77.trans (g81.ext.trans (e83.trans (g87.ext.trans e89)))))))))))))))))))))) rfl (by decide)
 show Calls _ _ #[.slice (some ⟨B89 42, 0, none⟩) 4 4] _ _
 rw [hBb90]
 have k99 := k_poSquarefree (l := [((0 : Int) : Rat), ((0 : Int) : Rat), (((-1) : Int) : Rat), ((1 : Int) : Rat)]) (A := 3) (H := 562) (N := 4) (C := 2818) d89 hp92.raw (Nt.Sm.prim ((show Nt.Sm [((0 : Int) : Rat), ((0 : Int) : Rat), (((-1) : Int) : Rat), ((1 : Int) : Rat)] 1 1 from Nt.Sm.ofInts (zs := [0, 0, -1, 1]) (by decide)).more (by decide))) (Nt.Sm.prim (((Nt.Sm.der (b := 2) (show Nt.Sm [((0 : Int) : Rat), ((0 : Int) : Rat), (((-1) : Int) : Rat), ((1 : Int) : Rat)] 1 1 from Nt.Sm.ofInts (zs := [0, 0, -1, 1]) (by decide)) (by decide)).trim).more (by decide))) (by decide +kernel) (by decide +kernel) (by decide +kernel) (by decide +kernel) (by decide +kernel) (by decide +kernel) (by decide +kernel) (by decide +kernel) (by decide +kernel)
 with_reducible refine Post.mono k99 ?_
 rintro _ u97 g98 ⟨z93, s94, rfl, hz95, hs96⟩
 have hlz93 := hz95.len
 have hqs94 := Nt.awake_sqf hs96
 have hns94 : s94.l.length = 3 := by rw [hqs94]; rfl
 refine zzf 44 41 [.int .i64 0] ?_ (hw := w1 19 true 37)
 intro w100 u100 e100 d100
 have k105 := k_rqOf d100 (z := 0) (by omega) (by omega)
 with_reducible refine Post.mono k105 ?_
 rintro _ u103 g104 ⟨r101, rfl, h102⟩
 refine zzf 45 41 [.int .i64 (-1)] ?_ (hw := w1 19 true 37)
 intro w106 u106 e106 d106
 have k111 := k_rqOf d106 (z := (-1)) (by omega) (by omega)
 with_reducible refine Post.mono k111 ?_
 rintro _ u109 g110 ⟨r107, rfl, h108⟩
 refine sy_lit 47 ⟨26, r101.cs ++ r107.cs ++ r12.cs⟩ 3 ?_ (hw := w1 19 true 37)
 refine zyn 48 29 [.v z93.v, .slc 47 0 3 3] [47] (.inr rfl) (pub_mk (by repeat first | exact noAt_of | refine zyc ?_ | refine zye ?_ | refine zyd ?_ | refine zzx ?_ | refine zya ?_)) (k := ?_) (hw := w1 19 true 37)
 intro B112 w112 u112 e112 d112 v112
 have h114 : u112.heap[B112 47]? = some (.cells #[.bool r101.s, .slice r101.m.a r101.m.n r101.m.c, .slice r101.d.a r101.d.n r101.d.c, .bool r107.s, .slice r107.m.a r107.m.n r107.m.c, .slice r107.d.a r107.d.n r107.d.c, .bool r12.s, .slice r12.m.a r12.m.n r12.m.c, .slice r12.d.a r12.d.n r12.d.c] 26 (0, 0)) := v112 47 (by simp) _ rfl
 obtain ⟨b113, hBb113⟩ : ∃ b, B112 47 = b := ⟨_, rfl⟩
 rw [hBb113] at h114
 have hp115 : PolN u112 (⟨some ⟨b113, 0, none⟩, 3, 3⟩ : Sl) [((0 : Int) : Rat), (((-1) : Int) : Rat), ((1 : Int) : Rat)] 2 := pol_lit (L := [r101, r107, r12]) h114 (rats3 (h102.ext (e106.trans (g110.ext.trans e112))) (h108.ext e112) (h13.ext (e17.trans (g21.ext.trans (e23.trans (g27.ext.trans (e29.trans (g33.ext.trans (e35.trans (g44.ext.trans (e50.trans (g55.ext.trans (e58.trans (g63.ext.trans (e66.trans (g68.ext.trans (e71.trans (g75.ext.trans (e77.trans (g81.ext.trans (e83.trans (g87.ext.trans (e89.trans (g98.ext.trans (e100.trans (g104.ext.trans (e106.trans (g110.ext.trans e112)))))))))))))))))))))))))))) rfl (by decide)
 show Calls _ _ #[.slice z93.a z93.n z93.c, .slice (some ⟨B112 47, 0, none⟩) 3 3] _ _
 rw [hBb113]
 have k118 := k_r5Equal d112 (hz95.ext (e100.trans (g104.ext.trans (e106.trans (g110.ext.trans e112))))) hp115 (by first|omega|(simp;omega) | (refine Nat.le_trans (Nt.zzg _) ?_; first|omega|(simp;omega)) | (refine Nat.le_trans (Nt.zzg _) ?_; simp only [List.length_map]; refine Nat.le_trans (Nt.zzg _) ?_; first|omega|(simp;omega))) (by simp)
 with_reducible refine Post.mono k118 ?_
 rintro _ u116 g117 rfl
 refine zza 49 (.v (.bool (decide (s94.l = [((0 : Int) : Rat), (((-1) : Int) : Rat), ((1 : Int) : Rat)])))) ?_
 refine zza 0 (.v (.bool (decide (s94.l = [((0 : Int) : Rat), (((-1) : Int) : Rat), ((1 : Int) : Rat)])))) ?_
 refine zzb 50 [(0, .v (.bool (decide (s94.l = [((0 : Int) : Rat), (((-1) : Int) : Rat), ((1 : Int) : Rat)]))))] [] ?_
 refine zzn (ret0 [.bool (decide (s94.l = [((0 : Int) : Rat), (((-1) : Int) : Rat), ((1 : Int) : Rat)]))] ⟨zzp, trivial⟩ fun u119 e120 => ?_)
 show Value.bool _ = Value.bool _
 rw [show (decide (s94.l = [((0 : Int) : Rat), (((-1) : Int) : Rat), ((1 : Int) : Rat)])) = true from (decide_eq_true (Nt.awake_sqf hs96))]
end Go.Proofs.YtnedhbidmfoegaaGreat
namespace Go.Proofs.YtnedhbidmfoegaaGreat.Nt
open Go.RowKit
open Pol
set_option linter.unusedVariables false
section
variable {P q ps qs l m p : List Rat} {A B D E F a b K : Nat} {c x y : Rat}
def nxQ (q ps : List Rat) : List Rat := subN (ps.length - q.length) (ps.getD (ps.length - 1) 0 / q.getD (q.length - 1) 0) q (ps.take (ps.length - 1)) (q.length - 1)
theorem nx_co (hn : q.length ≤ ps.length) (hm : 0 < q.length) (hq : co q (q.length - 1) ≠ 0) (i : Nat) :
  co (nxQ q ps) i = co ps i - (if ps.length - q.length ≤ i then co ps (ps.length - 1) / co q (q.length - 1) * co q (i - (ps.length - q.length)) else 0) := by
 unfold nxQ
 rw [subN_co (by rw [List.length_take]; omega)]
 change _ - (if _ then co ps (ps.length - 1) / co q (q.length - 1) * _ else 0) = _
 obtain ⟨c, hc⟩ : ∃ c, co ps (ps.length - 1) / co q (q.length - 1) = c := ⟨_, rfl⟩
 rw [hc]
 by_cases h1 : i < ps.length - 1
 ·rw [co_take h1]
  change co ps i - _ = _
  by_cases h2 : ps.length - q.length ≤ i
  ·rw [if_pos h2, if_pos (by omega)]
  ·rw [if_neg h2, if_neg (by omega)]
 ·rw [co_ge (l := ps.take _) (by rw [List.length_take]; omega), if_neg (by omega), if_pos (by omega)]
  by_cases h2 : i = ps.length - 1
  ·rw [h2, show ps.length - 1 - (ps.length - q.length) = q.length - 1 by omega, ← hc]; grind
  ·rw [co_ge (by omega), co_ge (l := q) (by omega)]; grind
theorem nx_len (hn : q.length ≤ ps.length) (hm : 0 < q.length) : (trimQ (nxQ q ps)).length < ps.length := by
 have h9 := zzg (nxQ q ps)
 unfold nxQ at h9 ⊢
 rw [subN_len, List.length_take] at h9
 omega
structure RefI (P q qs ps : List Rat) : Prop where
 ql : qs.length = P.length + 1 - q.length
 pl : ps.length ≤ P.length
 qz : ∀ j, j + q.length ≤ ps.length → co qs j = 0
 eq : ∀ i, co P i = co (mulQ qs q) i + co ps i
theorem RefI.begin (P q : List Rat) : RefI P q (List.replicate (P.length + 1 - q.length) 0) P := by
 have h0 : ∀ j, co (List.replicate (P.length + 1 - q.length) 0) j = 0 := fun j => by
  unfold co; rw [List.getD_eq_getElem?_getD, List.getElem?_replicate]; split <;> rfl
 exact ⟨by simp, Nat.le_refl _, fun j _ => h0 j, fun i => by rw [mulQ_zero h0]; grind⟩
theorem RefI.step (h : RefI P q qs ps) (hn : q.length ≤ ps.length) (hm : 0 < q.length) (hq : co q (q.length - 1) ≠ 0) :
  RefI P q (qs.set (ps.length - q.length) (ps.getD (ps.length - 1) 0 / q.getD (q.length - 1) 0)) (trimQ (nxQ q ps)) := by
 have hl := nx_len hn hm
 have hp := h.pl
 have hk : ps.length - q.length < qs.length := by rw [h.ql]; omega
 refine ⟨by rw [List.length_set]; exact h.ql, by omega, fun j hj => ?_, fun i => ?_⟩
 ·rw [co_set hk, if_neg (by omega)]
  exact h.qz j (by omega)
 ·rw [mulQ_set hk (h.qz _ (by omega)), trim_co, nx_co hn hm hq, h.eq i]
  change _ = _ + (if _ then co ps (ps.length - 1) / co q (q.length - 1) * _ else 0) + _
  split <;> grind
theorem RefI.done (h : RefI P q qs ps) : Pol.mk' P = Pol.mk' qs * Pol.mk' q + Pol.mk' ps := by
 refine Pol.ext fun i => ?_
 rw [c_add, ← mk_mul, mk_c, mk_c, mk_c]
 exact h.eq i
theorem div_go (hB : WhL q b) (hq : 0 < q.length) (hl : co q (q.length - 1) ≠ 0) : ∀ (n k : Nat) (s t : List Rat) (f : Rat), k + n = p.length → (k = 0 ∨ q.length ≤ n + 1) → DivI p q n s t f → WhL t (a + k * (b + 1)) →
  ∃ s t f, DivR p q s t f ∧ WhL t (a + (p.length - q.length + 1) * (b + 1)) := by
 intro n
 have stop : ∀ (n k : Nat) (s t : List Rat) (f : Rat), k + n = p.length → (k = 0 ∨ q.length ≤ n + 1) → n < q.length → DivI p q n s t f → WhL t (a + k * (b + 1)) → ∃ s t f, DivR p q s t f ∧ WhL t (a + (p.length - q.length + 1) * (b + 1)) := by
  intro n k s t f hk hs h hD hW
  refine ⟨s, _, f, hD.done h, (hW.take _).more (Nat.add_le_add_left (Nat.mul_le_mul_right _ ?_) _)⟩
  omega
 induction n with
 | zero =>
  intro k s t f hk hs hD hW
  exact stop 0 k s t f hk hs hq hD hW
 | succ n ih =>
  intro k s t f hk hs hD hW
  by_cases h : n + 1 < q.length
  ·exact stop (n + 1) k s t f hk hs h hD hW
  ·have h1 := hD.step (by omega) (by omega) hq hl (x := co t n) (d := co q (q.length - 1)) hl rfl
   refine ih (k + 1) _ _ _ (by omega) (.inr (by omega)) h1 ?_
   have hd : Wh (co q (q.length - 1)) b := hB _
   refine WhL.more (WhL.subN (hW.map hd) (fun i => (hW n).mul (hB i)) (by rw [List.length_map, hD.tl]; omega)) ?_
   rw [Nat.add_mul]; omega
theorem div_exists (hA : WhL p a) (hB : WhL q b) (hq : Nrm q) (hq0 : 0 < q.length) : ∃ s t f, DivR p q s t f ∧ WhL t (a + (p.length - q.length + 1) * (b + 1)) :=
 div_go hB hq0 (nrm_last hq (by rintro rfl; simp at hq0)) p.length 0 _ _ _ (by omega) (.inl rfl) (DivI.begin p q) (by rw [Nat.zero_mul]; exact hA)
theorem monic_Cmul {k : Rat} (hk : k ≠ 0) (r : Pol) : (C k * r).monic = r.monic := by
 by_cases h0 : r = 0
 ·rw [h0, mul_zero]
 ·have h1 := lead_ne h0
  have h2 : (C k * r).lead = k * r.lead := by rw [lead_mul (C_ne hk) h0, lead_C hk]
  unfold monic
  rw [h2, ← mul_assoc, ← C_mul]
  congr 2
  grind
theorem C_unit {k : Rat} (hk : k ≠ 0) : C k * C (1 / k) = 1 := C_inv hk
structure GcdI (l m p q pa pb : List Rat) (A H : Nat) : Prop where
 ep : p = (mk' pa).monic.l
 eq : q = (mk' pb).monic.l
 nb : Nrm pb
 wa : WhL pa A
 wb : WhL pb A
 pt : (A + 1) * (A + 1) * 3 ^ pot pa.length pb.length ≤ H * H
 s : Same (mk' l) (mk' m) (mk' pa) (mk' pb)
theorem GcdI.begin {H : Nat} (hA : WhL (prim l) A) (hB : WhL (prim m) A) (hH : (A + 1) * (A + 1) * 3 ^ pot (trimQ l).length (trimQ m).length ≤ H * H) :
  GcdI l m (mk' l).monic.l (mk' m).monic.l (prim l) (prim m) A H := by
 have e : ∀ l, (mk' l).monic.l = (mk' (prim l)).monic.l := fun l => by
  obtain ⟨k, hk, e⟩ := prim_mk' l
  rw [e, monic_Cmul hk]
 exact ⟨e l, e m, prim_nrm m, hA, hB, by rw [prim_len, prim_len]; exact hH, prim_same l m⟩
theorem monic_nz {r : Pol} (h : r ≠ 0) : ∃ k : Rat, k ≠ 0 ∧ r.monic = C k * r := by
 have h1 := lead_ne h
 exact ⟨1 / r.lead, by intro k; have : (1 : Rat) = (1 / r.lead) * r.lead := by grind
                       rw [k] at this; grind, rfl⟩
theorem GcdI.step {pa pb : List Rat} {H : Nat} {u r : Pol} (h : GcdI l m p q pa pb A H) (hq : 0 < q.length) (e : mk' p = u * mk' q + r) (hr : r.len < (mk' q).len) :
  ∃ pc A', GcdI l m q r.monic.l pb pc A' H := by
 have hb0 : mk' pb ≠ 0 := by
  intro e0
  rw [h.eq, e0, monic_zero, zero_l] at hq
  simp at hq
 have hpb : 0 < pb.length := by
  cases hp : pb with
  | nil => exact absurd (by rw [hp]; rfl) hb0
  | cons x y => simp
 obtain ⟨s, t, f, hD, hW⟩ := div_exists h.wa h.wb h.nb hpb
 obtain ⟨β, hβ, eβ⟩ := monic_nz hb0
 have hpol := hD.pol
 have h2 : (prim t).length < pb.length := by rw [prim_len]; exact Nat.lt_of_le_of_lt (zzg t) hD.lt
 have h3 : (prim t).length ≤ pa.length := by rw [prim_len]; exact Nat.le_trans (zzg t) hD.tl
 refine ⟨prim t, A + (pa.length - pb.length + 1) * (A + 1), h.eq, ?_, prim_nrm t, h.wb.more (by omega), prim_of_wh hW, pot_step h.pt h2 h3, same_step h.s hD⟩
 have hf := C_unit hD.f0
 have hmq : mk' q = C β * mk' pb := by rw [h.eq, mk_l, eβ]
 have hCβ := C_unit hβ
 obtain ⟨α, hα, eα⟩ : ∃ α : Rat, α ≠ 0 ∧ mk' p = C α * mk' pa := by
  rw [h.ep, mk_l]
  by_cases h0 : mk' pa = 0
  ·exact ⟨1, by decide, by rw [h0, monic_zero, mul_zero]⟩
  ·obtain ⟨k, hk, e⟩ := monic_nz h0
   exact ⟨k, hk, e⟩
 have e2 : u * mk' q + r = (C (1 / f) * C α * mk' s * C (1 / β)) * mk' q + C (1 / f * α) * mk' t := by
  rw [← e, eα, hmq, C_mul]; grind
 have hκ : 1 / f * α ≠ 0 := by
  have := hD.f0
  intro k
  have h7 : α = f * (1 / f * α) := by grind
  rw [k] at h7; grind
 have hlt : (C (1 / f * α) * mk' t).len < (mk' q).len := by
  rw [len_Cmul hκ, hmq, len_Cmul hβ, mk_len_nrm h.nb]
  exact Nat.lt_of_le_of_lt (mk_len t) hD.lt
 have h5 := div_unique e2 hr hlt
 obtain ⟨k, hk, e3⟩ := prim_mk' t
 rw [h5.2, monic_Cmul hκ, e3, monic_Cmul hk]
theorem GcdI.done {pa pb : List Rat} {H : Nat} (h : GcdI l m p q pa pb A H) (hq : q.length = 0) : IsGcd (mk' l) (mk' m) (mk' p) ∧ (∃ k : Rat, k ≠ 0 ∧ ∀ i, co p i = k * co pa i) ∧ WhL pa H := by
 have hb0 : mk' pb = 0 := by
  apply Classical.byContradiction
  intro k
  have h1 := monic_lead k
  have h2 : (mk' pb).monic ≠ 0 := by intro e; rw [e] at h1; unfold lead at h1; rw [c_zero] at h1; exact absurd h1 (by decide)
  have h3 := len_pos h2
  rw [h.eq] at hq
  unfold len at h3
  omega
 have hs := h.s
 rw [hb0] at hs
 refine ⟨by rw [h.ep, mk_l]; exact hs.gcd, by rw [h.ep]; exact monic_scaled pa, h.wa.more ?_⟩
 have := pot_le h.pt; omega
theorem out_trim (hl : 0 < l.length) (hm : 0 < m.length) : trimQ (outQ l m (l.length + m.length - 1) l.length) = trimQ (mulQ l m) := by
 apply trim_ext
 intro k
 rw [outQ_co (by omega) hm (Nat.le_refl _), List.take_length]
theorem GcdI.le {pa pb : List Rat} {H : Nat} (h : GcdI l m p q pa pb A H) : A ≤ H := by have := pot_le h.pt; omega
theorem GcdI.steps {pa pb : List Rat} {H : Nat} (h : GcdI l m p q pa pb A H) (hq : 0 < q.length) : A + ((trimQ p).length - (trimQ q).length + 1) * (A + 1) ≤ H := by
 have h1 := pot_step h.pt (lr := 0)
 have hp : (trimQ p).length ≤ pa.length := by
  refine Nat.le_trans (zzg p) ?_
  rw [h.ep]
  refine Nat.le_trans (?_ : (mk' pa).monic.l.length ≤ (mk' pa).len) (mk_len pa)
  by_cases h0 : mk' pa = 0
  ·rw [h0, monic_zero]; exact Nat.le_refl _
  ·obtain ⟨k, hk, e⟩ := monic_nz h0
   rw [e]; exact Nat.le_of_eq (len_Cmul hk _)
 have hb0 : mk' pb ≠ 0 := by
  intro e0
  rw [h.eq, e0, monic_zero, zero_l] at hq
  simp at hq
 have hq2 : (trimQ q).length = pb.length := by
  rw [show trimQ q = q by rw [h.eq]; exact (mk' pb).monic.h, h.eq]
  obtain ⟨k, hk, e⟩ := monic_nz hb0
  rw [e]
  exact (len_Cmul hk (mk' pb)).trans (mk_len_nrm h.nb)
 have hpb : 0 < pb.length := by
  cases hp : pb with
  | nil => exact absurd (by rw [hp]; rfl) hb0
  | cons x y => simp
 have h2 := pot_le (h1 hpb (Nat.zero_le _))
 have h3 : ((trimQ p).length - (trimQ q).length + 1) * (A + 1) ≤ (pa.length - pb.length + 1) * (A + 1) := Nat.mul_le_mul_right _ (by omega)
 omega
end
end Go.Proofs.YtnedhbidmfoegaaGreat.Nt
namespace Go.Proofs.YtnedhbidmfoegaaGreat
open Go.RowKit
set_option linter.unusedVariables false
section
variable {P : Program} {u0 u u' w w' : World} {S : St} {B : Tmp → Nat} {a : Act} {c : Code} {w0 : Base}
variable {ops : Array Oper} {o : Oper} {p : List Tmp} {rest : List (Oper × List Tmp)} {K : St → World → Prop}
theorem sy_max0 (d : Tmp) {x : Operand} {k0 : IntKind} {n v : Int} {tys : Array TypeId} (hv : (if (0 : Int) > n then 0 else n) = v)
  (k : sym P ops w0 u0 true rest (S.set d (.v (.int k0 v))) u K)
  (hw : Wants ops o S := by exact wants0 (by kernel_rfl)) (hd : o.dst = some d := by kernel_rfl) (hop : o.op = .call { callee := .builtin .max, args := #[x, .const (.int k0 0)], argTypes := tys } := by rfl) (hf : freeB S d = true := by kernel_rfl)
  (hx : evO S x = some (.v (.int k0 n)) := by rfl) : sym P ops w0 u0 true ((o, p) :: rest) S u K := by
 refine .inr (.inr (.inl ⟨.inl rfl, fun B a w u' he hrep => ⟨hw B a hrep.regs, ?_⟩⟩))
 have hrun : ∀ ty w, (Builtin.max_ tys ty #[.int k0 n, .int k0 0]).run P w = .ok (.int k0 v) w := by
  intro ty w
  rw [← hv]
  rfl
 have hc0 : a.eval (Operand.const (.int k0 0)) = .int k0 0 := rfl
 unfold Oper.wp execOp
 simp only [hop, resolve, invoke, builtin, Sem.run_bind, Sem.run_pure, Result.andThen_ok, List.map_toArray, List.map_cons, List.map_nil, ev_of hrep.regs hx, SV.conc, hc0, hrun]
 have hr2 := hrep.set (d := o.dst) (x := some (.v (.int k0 v))) (v := .int k0 v) (fun s hs => (free_of hd hf s hs).1) (fun z e => by injection e with e; rw [← e]; rfl) (fun z t e ht => by injection e with e; rw [← e] at ht; cases ht)
 show ∃ S' B' u'' u2, Rep w0 u0 S' B' (a.put o.dst _) w u'' ∧ _
 refine ⟨_, B, u', u, hr2, Ext.refl _, Ext.refl _, he, ?_⟩
 rw [hd]; exact k
end
section
variable {u u' : World} {L : List RL} {l : List Rat} {q : Rat} {r : RL} {K i b n c : Nat} {x : Sl}
theorem RatsV.set (h : RatsV u L l K) (hi : i < l.length) (hr : RatV u r q K) : RatsV u (L.set i r) (l.set i q) K := by
 refine ⟨by simpa using h.1, fun j hj => ?_⟩
 rw [List.length_set] at hj
 rw [List.getD_eq_getElem?_getD, List.getD_eq_getElem?_getD, List.getElem?_set, List.getElem?_set]
 by_cases e : i = j
 ·subst e
  rw [if_pos rfl, if_pos rfl, if_pos hi, if_pos (by rw [h.1]; exact hi)]
  exact hr
 ·rw [if_neg e, if_neg e, ← List.getD_eq_getElem?_getD, ← List.getD_eq_getElem?_getD]
  exact h.2 j hj
theorem RatsV.zeros (u : World) (n : Nat) : RatsV u (List.replicate n rl0) (List.replicate n 0) 1 := by
 refine ⟨by simp, fun i hi => ?_⟩
 rw [List.length_replicate] at hi
 rw [List.getD_eq_getElem?_getD, List.getD_eq_getElem?_getD, List.getElem?_replicate, List.getElem?_replicate, if_pos hi, if_pos hi]
 exact rat_nil _
theorem pol_data1V {t : TypeId} (h : u.heap[b]? = some (.cells (rcs L).toArray t (0, 0))) (hm : L.length ≤ maxLen) (hL : RatsV u L l K) (hn : n = L.length) : PolV u ⟨some ⟨b, 0, none⟩, n, n⟩ l K := by
 subst hn
 exact ⟨L, ⟨by rw [zyx], Nat.le_refl _, hm, fun _ => ⟨b, 0, rfl, fun j hj => by rw [Nat.zero_add, cells_at h]; simp⟩⟩, hL⟩
theorem RatsN.fitR {M : Nat} (h : RatsN u L l K) (k : ∀ i, Nt.rs (l.getD i 0) ≤ M) : RatsN u L l M := ⟨h.1, fun i hi => (h.2 i hi).fit (k i)⟩
theorem PolN.fitR {M : Nat} (h : PolN u x l K) (k : ∀ i, Nt.rs (l.getD i 0) ≤ M) : PolN u x l M := by obtain ⟨L, h1, h2⟩ := h; exact ⟨L, h1, h2.fitR k⟩
end
end Go.Proofs.YtnedhbidmfoegaaGreat
namespace Go.Proofs.YtnedhbidmfoegaaGreat
open Go.RowKit
set_option linter.unusedVariables false
set_option maxHeartbeats 2000000 in
theorem k_r5Scale {u w : World} {x : Sl} {l : List Rat} {r : RL} {q : Rat} {K M : Nat} (d : Dat u w) (hx : PolV u x l K) (hr : RatV u r q M) (hK : K ≤ 20000000) (hx9 : l.length ≤ 1000000000) (hM : M ≤ 20000000) : Calls Tryz.prog 98 #[x.v, r.v] w (Post u w fun v u' => ∃ y : Sl, v = y.v ∧ PolN u' y (Nt.trimQ (l.map (· * q))) (K + M + 1)) := by
 have hlen := hx.len
 refine zzl (args := [.slice x.a x.n x.c, r.v]) Tryz.func98 rfl Tryz.ntmps98 (rs := [.tmp 4]) Tryz.results98 (le_b rfl) (le_b rfl) d ?_
 refine sq9 ?_
 refine zzj 3 ⟨26, r.cs⟩ ?_
 refine zza 4 (.v (.slice none 0 0)) ?_
 refine zzb 23 [(0, .v x.v), (3, .adr 3 0)] [(3, ⟨26, r.cs⟩)] ?_
 refine sq9 ?_
 refine zza 5 (.v (.slice none 0 0)) ?_
 refine zzb 23 [(0, .v x.v), (3, .adr 3 0), (5, .v (.slice none 0 0))] [(3, ⟨26, r.cs⟩)] ?_
 refine zzc ?_
 refine sq9 ?_
 refine zza 8 (.v x.v) ?_
 refine zza 9 (.v (.int .i64 (x.n : Int))) ?_
 refine zza 10 (.v (.int .i64 0)) ?_
 refine zzb 23 [(3, .adr 3 0), (5, .v (.slice none 0 0)), (8, .v x.v), (9, .v (.int .i64 (x.n : Int))), (10, .v (.int .i64 0))] [(3, ⟨26, r.cs⟩)] ?_
 refine zzs ?_
 refine zym (I := fun m11 S' u' => (m11 = x.n ∧ S' = St.of 23 [(3, .adr 3 0), (5, .v (.slice none 0 0)), (8, .v (.slice x.a x.n x.c)), (9, .v (.int .i64 (x.n : Int))), (10, .v (.int .i64 0))] [(3, ⟨26, r.cs⟩)] ∧ Ext u u') ∨ (∃ (i : Nat) (L : List RL) (cs : List Value) (cp : Nat), m11 = x.n - i ∧ i ≤ x.n ∧ 0 < i ∧ L.length = i ∧ cs.length = cp * 3 ∧ i ≤ cp ∧ cp ≤ maxLen ∧ cs.take (i * 3) = rcs L ∧ S' = St.of 23 [(3, .adr 3 0), (5, .slc 19 0 i cp), (8, .v (.slice x.a x.n x.c)), (9, .v (.int .i64 (x.n : Int))), (10, .v (.int .i64 (i : Int)))] [(3, ⟨26, r.cs⟩), (19, ⟨26, cs⟩)] ∧ Ext u u' ∧ RatsN u' L ((l.map (· * q)).take i) (K + M + 1))) (fun m S u1 u2 e h => by rcases h with ⟨a, b, c⟩ | ⟨a1, a2, a3, a4, b1, b2, b3, b4, b5, b6, b7, b8, b9, b10, b11⟩; exact .inl ⟨a, b, c.trans e⟩; exact .inr ⟨a1, a2, a3, a4, b1, b2, b3, b4, b5, b6, b7, b8, b9, b10.trans e, b11.ext e⟩) _ (T := St.of 23 [(3, .adr 3 0), (5, .v (.slice none 0 0)), (8, .v (.slice x.a x.n x.c)), (9, .v (.int .i64 (x.n : Int))), (10, .v (.int .i64 0))] [(3, ⟨26, r.cs⟩)]) (by exact zzu _ _ _) (.inl ⟨rfl, rfl, Ext.refl _⟩) ?_
 rintro m11 _ u11 (⟨hm11, rfl, e11⟩ | ⟨i, L, cs, cp, hm11, hi, hp, hL, hc, hle, hmx, ht, rfl, e11, hR⟩)
 ·change SW _ _ _ _ (St.of 23 [(3, .adr 3 0), (5, .v (.slice none 0 0)), (8, .v (.slice x.a x.n x.c)), (9, .v (.int .i64 (x.n : Int))), (10, .v (.int .i64 0))] [(3, ⟨26, r.cs⟩)]) _ _
  refine sq9 ?_
  refine zza 11 (.v (.bool (decide ((0 : Int) < (x.n : Int))))) ?_
  refine zzb 23 [(3, .adr 3 0), (5, .v (.slice none 0 0)), (8, .v x.v), (9, .v (.int .i64 (x.n : Int))), (10, .v (.int .i64 0)), (11, .v (.bool (decide ((0 : Int) < (x.n : Int)))))] [(3, ⟨26, r.cs⟩)] ?_
  refine zzc ?_
  refine zzt (b := decide ((0 : Int) < (x.n : Int))) (by kernel_rfl) (fun hb12 => ?_) (fun hb12 => ?_)
  ·replace hb12 : (decide ((0 : Int) < (x.n : Int))) = true := hb12
   have qhb12 := of_decide_eq_true hb12
   refine zzr (zzo ?_)
   refine zzc ?_
   refine zzs ?_
   refine sq9 ?_
   have hl13 := (hx.ext e11).len
   obtain ⟨r13, b13, o13, hA13, hc13, hr13⟩ := pol_at (hx.ext e11) (i := 0) (by omega)
   refine zzz 12 (o13 + 0 * 3) (n := x.n) (off := o13) (sz := 3) (i := 0) (by omega) hA13 (by omega) (by omega) sl41 ?_
   refine zyl 13 r13.cs hc13 ty26 ?_
   refine zzj 7 ⟨26, [.bool false, .slice none 0 0, .slice none 0 0]⟩ ?_
   refine zzi ⟨26, r13.cs⟩ ty26 ?_
   refine zzb 23 [(3, .adr 3 0), (5, .v (.slice none 0 0)), (7, .adr 7 0), (8, .v x.v), (9, .v (.int .i64 (x.n : Int))), (10, .v (.int .i64 0))] [(3, ⟨26, r.cs⟩), (7, ⟨26, r13.cs⟩)] ?_
   refine zze ?_
   refine zza 14 (.v (.slice none 0 0)) ?_
   refine zzh 15 (.v (r13.v)) ty26 zzd ?_
   refine zzh 16 (.v (r.v)) ty26 zzd ?_
   refine zzf 17 22 [r13.v, r.v] ?_
   intro w14 u14 e14 d14
   have k19 := k_rqMul d14 (hr13.ext e14) (hr.ext (e11.trans e14)) (by omega) (by omega)
   with_reducible refine Post.mono k19 ?_
   rintro _ u17 g18 ⟨r15, rfl, h16⟩
   refine sy_data 18 ⟨26, r15.cs⟩ 1 (fun b20 u21 e22 h23 => ?_)
   have hp24 : PolN u21 (⟨some ⟨b20, 0, none⟩, 1, 1⟩ : Sl) [((l.getD 0 0) * q)] (K + M + 1) := pol_lit (L := [r15]) h23 (rats1 (h16.ext e22)) rfl (by decide)
   refine sy_app0 19 (T := 41) (E := 26) (z := .agg #[.bool false, .slice none 0 0, .slice none 0 0]) (size := 3) (bytes := 56) (b := b20) (off := 0) (m := 1) r15.cs (by kernel_rfl) (by kernel_rfl) (by kernel_rfl) (by decide) rfl (lit_news ((Ext.refl _).cells h23)) (rl_one r15) (by decide) (by decide) (by decide) ?_
   intro c25 cs25 ha25 hb25 hc25 hd25
   refine zza 5 (.slc 19 0 1 c25) ?_
   refine zzw ?_
   refine zzo ?_
   refine zze ?_
   refine zza 20 (.v (.int .i64 1)) ?_
   refine zza 10 (.v (.int .i64 1)) ?_
   refine zzw ?_
   have ht26 : 0 < (l.map (· * q)).length := by rw [List.length_map]; omega
   refine ⟨_, ?_, St.of 23 [(3, .adr 3 0), (5, .slc 19 0 1 c25), (8, .v (.slice x.a x.n x.c)), (9, .v (.int .i64 (x.n : Int))), (10, .v (.int .i64 1))] [(3, ⟨26, r.cs⟩), (19, ⟨26, cs25⟩)], by exact zzu _ _ _, .inr ⟨1, [r15], cs25, c25, rfl, by omega, by omega, by simp, hc25, by omega, hb25, hd25, rfl, (e11.trans (e14.trans (g18.ext.trans e22))), (app_first (RatN.more (K := (K + M + 1)) (h16.ext e22) (by omega)) ht26 (by simp [List.getElem?_eq_getElem (show 0 < l.length by omega)]))⟩⟩
   omega
  ·replace hb12 : (decide ((0 : Int) < (x.n : Int))) = false := hb12
   have qhb12 := of_decide_eq_false hb12
   refine zyb ?_
   refine zzo ?_
   refine zzc ?_
   have hp27 : PolN u11 ⟨none, 0, 0⟩ (l.map (· * q)) (K + M + 1) := by have h9 : l.map (· * q) = [] := List.eq_nil_of_length_eq_zero (by rw [List.length_map]; omega); rw [h9]; exact pol_nil _ _
   refine zze ?_
   refine zza 21 (.v (.slice none 0 0)) ?_
   refine zzf 22 87 [.slice none 0 0] ?_
   intro w28 u28 e28 d28
   have k33 := k_r5Trim d28 (hp27.ext e28).raw (by omega) (by first|omega|(simp;omega) | (refine Nat.le_trans (Nt.zzg _) ?_; first|omega|(simp;omega)) | (refine Nat.le_trans (Nt.zzg _) ?_; simp only [List.length_map]; refine Nat.le_trans (Nt.zzg _) ?_; first|omega|(simp;omega)))
   with_reducible refine Post.mono k33 ?_
   rintro _ u31 g32 ⟨y29, rfl, h30⟩
   have hly29 := h30.len
   refine zza 4 (.v y29.v) ?_
   refine zzb 23 [(4, .v y29.v)] [] ?_
   refine zzn (ret0 [.slice y29.a y29.n y29.c] ⟨zzp, trivial⟩ fun u34 e35 => ?_)
   refine ⟨y29, rfl, ?_⟩
   exact (h30.ext e35)
 ·change SW _ _ _ _ (St.of 23 [(3, .adr 3 0), (5, .slc 19 0 i cp), (8, .v (.slice x.a x.n x.c)), (9, .v (.int .i64 (x.n : Int))), (10, .v (.int .i64 (i : Int)))] [(3, ⟨26, r.cs⟩), (19, ⟨26, cs⟩)]) _ _
  refine sq9 ?_
  refine zza 11 (.v (.bool (decide ((i : Int) < (x.n : Int))))) ?_
  refine zzb 23 [(3, .adr 3 0), (5, .slc 19 0 i cp), (8, .v x.v), (9, .v (.int .i64 (x.n : Int))), (10, .v (.int .i64 (i : Int))), (11, .v (.bool (decide ((i : Int) < (x.n : Int)))))] [(3, ⟨26, r.cs⟩), (19, ⟨26, cs⟩)] ?_
  refine zzc ?_
  refine zzt (b := decide ((i : Int) < (x.n : Int))) (by kernel_rfl) (fun hb36 => ?_) (fun hb36 => ?_)
  ·replace hb36 : (decide ((i : Int) < (x.n : Int))) = true := hb36
   have qhb36 := of_decide_eq_true hb36
   refine zzr (zzo ?_)
   refine zzc ?_
   refine zzs ?_
   refine sq9 ?_
   have hl37 := (hx.ext e11).len
   obtain ⟨r37, b37, o37, hA37, hc37, hr37⟩ := pol_at (hx.ext e11) (i := i) (by omega)
   refine zzz 12 (o37 + i * 3) (n := x.n) (off := o37) (sz := 3) (i := (i : Int)) (by omega) hA37 (by omega) (by omega) sl41 ?_
   refine zyl 13 r37.cs hc37 ty26 ?_
   refine zzj 7 ⟨26, [.bool false, .slice none 0 0, .slice none 0 0]⟩ ?_
   refine zzi ⟨26, r37.cs⟩ ty26 ?_
   refine zzb 23 [(3, .adr 3 0), (5, .slc 19 0 i cp), (7, .adr 7 0), (8, .v x.v), (9, .v (.int .i64 (x.n : Int))), (10, .v (.int .i64 (i : Int)))] [(3, ⟨26, r.cs⟩), (7, ⟨26, r37.cs⟩), (19, ⟨26, cs⟩)] ?_
   refine zze ?_
   refine zza 14 (.slc 19 0 i cp) ?_
   refine zzh 15 (.v (r37.v)) ty26 zzd ?_
   refine zzh 16 (.v (r.v)) ty26 zzd ?_
   refine zzf 17 22 [r37.v, r.v] ?_
   intro w38 u38 e38 d38
   have k43 := k_rqMul d38 (hr37.ext e38) (hr.ext (e11.trans e38)) (by omega) (by omega)
   with_reducible refine Post.mono k43 ?_
   rintro _ u41 g42 ⟨r39, rfl, h40⟩
   refine sy_data 18 ⟨26, r39.cs⟩ 1 (fun b44 u45 e46 h47 => ?_)
   have hp48 : PolN u45 (⟨some ⟨b44, 0, none⟩, 1, 1⟩ : Sl) [((l.getD i 0) * q)] (K + M + 1) := pol_lit (L := [r39]) h47 (rats1 (h40.ext e46)) rfl (by decide)
   refine sy_app1 19 (T := 41) (E := 26) (z := .agg #[.bool false, .slice none 0 0, .slice none 0 0]) (size := 3) (bytes := 56) (b := b44) (off := 0) (m := 1) (n := i) (cap := cp) (t := 19) (cs0 := cs) [5, 14, 19] r39.cs (by kernel_rfl) (by kernel_rfl) (by kernel_rfl) (by decide) rfl (lit_news ((Ext.refl _).cells h47)) (rl_one r39) (by decide) (by unfold maxLen; omega) (by omega) (by omega) (by omega) (by omega) (by repeat first | exact noAt_of | refine zyc ?_ | refine zye ?_ | refine zyd ?_ | refine zzx ?_ | refine zya ?_) ?_
   intro c49 cs49 ha49 hb49 hc49 hd49
   have hd49r : cs49.take ((i + 1) * 3) = rcs (L ++ [r39]) := by rw [hd49, ht, rcs_app]; rfl
   refine zza 5 (.slc 19 0 (i + 1) c49) ?_
   refine zzw ?_
   refine zzo ?_
   refine zze ?_
   refine zyp 20 (x := .v (.int .i64 (IntKind.i64.wrap ((i : Int) + 1)))) (.v (.int .i64 ((i + 1 : Nat) : Int))) (eqI (by rw [IntWalk.i64_in _ (by omega)]; omega)) ?_
   refine zza 10 (.v (.int .i64 ((i + 1 : Nat) : Int))) ?_
   refine zzw ?_
   have ht50 : i < (l.map (· * q)).length := by rw [List.length_map]; omega
   refine ⟨_, ?_, St.of 23 [(3, .adr 3 0), (5, .slc 19 0 (i + 1) c49), (8, .v (.slice x.a x.n x.c)), (9, .v (.int .i64 (x.n : Int))), (10, .v (.int .i64 ((i + 1 : Nat) : Int)))] [(3, ⟨26, r.cs⟩), (19, ⟨26, cs49⟩)], by exact zzu _ _ _, .inr ⟨i + 1, L ++ [r39], cs49, c49, rfl, by omega, by omega, by simp; omega, hc49, by omega, hb49, hd49r, rfl, (e11.trans (e38.trans (g42.ext.trans e46))), (app_next (hR.ext (e38.trans (g42.ext.trans e46))) (RatN.more (K := (K + M + 1)) (h40.ext e46) (by omega)) ht50 (by simp [List.getElem?_eq_getElem (show i < l.length by omega)]))⟩⟩
   omega
  ·replace hb36 : (decide ((i : Int) < (x.n : Int))) = false := hb36
   have qhb36 := of_decide_eq_false hb36
   refine zyb ?_
   refine zzo ?_
   refine zzc ?_
   refine zyo (r := 5) (t := 19) [5, 19] (by repeat first | exact noAt_of | refine zyc ?_ | refine zye ?_ | refine zyd ?_ | refine zzx ?_ | refine zya ?_) (by kernel_rfl) (by rfl) (by rfl) (by kernel_rfl) (fun b52 u53 e54 hb55 hh56 => ?_)
   have hp51 : PolN u53 ⟨some ⟨b52, 0, none⟩, i, cp⟩ (l.map (· * q)) (K + M + 1) := by have h8 := pol_data hh56 ht hc hle hmx (hR.ext e54); rw [List.take_of_length_le (l := l.map (· * q)) (by rw [List.length_map]; omega)] at h8; exact h8
   refine zze ?_
   refine zza 21 (.v (.slice (some ⟨b52, 0, none⟩) i cp)) ?_
   refine zzf 22 87 [.slice (some ⟨b52, 0, none⟩) i cp] ?_
   intro w57 u57 e57 d57
   have k62 := k_r5Trim d57 (hp51.ext e57).raw (by omega) (by first|omega|(simp;omega) | (refine Nat.le_trans (Nt.zzg _) ?_; first|omega|(simp;omega)) | (refine Nat.le_trans (Nt.zzg _) ?_; simp only [List.length_map]; refine Nat.le_trans (Nt.zzg _) ?_; first|omega|(simp;omega)))
   with_reducible refine Post.mono k62 ?_
   rintro _ u60 g61 ⟨y58, rfl, h59⟩
   have hly58 := h59.len
   refine zza 4 (.v y58.v) ?_
   refine zzb 23 [(4, .v y58.v)] [] ?_
   refine zzn (ret0 [.slice y58.a y58.n y58.c] ⟨zzp, trivial⟩ fun u63 e64 => ?_)
   refine ⟨y58, rfl, ?_⟩
   exact (h59.ext e64)
set_option maxHeartbeats 4000000 in
theorem k_r5Mul {u w : World} {x : Sl} {l : List Rat} {y : Sl} {m : List Rat} {K M : Nat} (d : Dat u w) (hx : PolV u x l K) (hy : PolV u y m M) (hB : Nt.kk (K + M + 3) (l.length * m.length) ≤ 20000000) (hK1 : K ≤ 10000000) (hM1 : M ≤ 10000000) (hx9 : l.length ≤ 100000000) (hy9 : m.length ≤ 100000000) : Calls Tryz.prog 96 #[x.v, y.v] w (Post u w fun v u' => ∃ y : Sl, v = y.v ∧ PolN u' y (Nt.trimQ (Nt.mulQ l m)) (Nt.kk (K + M + 3) (l.length * m.length))) := by
 have hlen := hx.len
 have hlen2 := hy.len
 have htl := Nt.zzg l
 have htm := Nt.zzg m
 have hB2 : Nt.kk (K + M + 3) ((Nt.trimQ l).length * (Nt.trimQ m).length) ≤ 20000000 := Nat.le_trans (Nt.kk_mono (Nat.le_refl _) (Nat.mul_le_mul htl htm)) hB
 refine zzl (args := [.slice x.a x.n x.c, .slice y.a y.n y.c]) Tryz.func96 rfl Tryz.ntmps96 (rs := [.tmp 4]) Tryz.results96 (le_b rfl) (le_b rfl) d ?_
 refine sq9 ?_
 refine zza 4 (.v (.slice none 0 0)) ?_
 refine zzb 62 [(0, .v x.v), (1, .v y.v)] [] ?_
 refine sq9 ?_
 refine zza 8 (.v x.v) ?_
 refine zzf 9 87 [x.v] ?_
 intro w11 u11 e11 d11
 have k16 := k_r5Trim d11 (hx.ext e11) (by omega) (by first|omega|(simp;omega) | (refine Nat.le_trans (Nt.zzg _) ?_; first|omega|(simp;omega)) | (refine Nat.le_trans (Nt.zzg _) ?_; simp only [List.length_map]; refine Nat.le_trans (Nt.zzg _) ?_; first|omega|(simp;omega)))
 with_reducible refine Post.mono k16 ?_
 rintro _ u14 g15 ⟨y12, rfl, h13⟩
 have hly12 := h13.len
 refine zza 10 (.v y.v) ?_
 refine zzf 11 87 [y.v] ?_
 intro w17 u17 e17 d17
 have k22 := k_r5Trim d17 (hy.ext (e11.trans (g15.ext.trans e17))) (by omega) (by first|omega|(simp;omega) | (refine Nat.le_trans (Nt.zzg _) ?_; first|omega|(simp;omega)) | (refine Nat.le_trans (Nt.zzg _) ?_; simp only [List.length_map]; refine Nat.le_trans (Nt.zzg _) ?_; first|omega|(simp;omega)))
 with_reducible refine Post.mono k22 ?_
 rintro _ u20 g21 ⟨y18, rfl, h19⟩
 have hly18 := h19.len
 refine zza 0 (.v y12.v) ?_
 refine zza 1 (.v y18.v) ?_
 refine zzb 62 [(0, .v y12.v), (1, .v y18.v)] [] ?_
 refine zzc ?_
 refine sq9 ?_
 refine zza 12 (.v y12.v) ?_
 refine zza 13 (.v (.int .i64 (y12.n : Int))) ?_
 refine zza 14 (.v (.bool ((y12.n : Int) == 0))) ?_
 rcases Bool.eq_false_or_eq_true ((y12.n : Int) == 0) with hs23 | hs23
 ·refine zyp 15 (x := .v (.bool ((y12.n : Int) == 0))) (.v (.bool true)) (by rw [hs23]) ?_
  have qhs23 : (y12.n : Int) = 0 := by simpa using hs23
  refine zzm 16 (uw 3 false true 15) ?_
  refine zzm 17 (uw 3 false true 15) ?_
  refine zzm 18 (uw 3 false true 15) ?_
  refine zza 19 (.v (.bool true)) ?_
  refine zzb 62 [(0, .v y12.v), (1, .v y18.v), (19, .v (.bool true))] [] ?_
  refine zyq (by kernel_rfl) ?_
  refine sq9 ?_
  refine zza 4 (.v (.slice none 0 0)) ?_
  refine zzb 62 [(4, .v (.slice none 0 0))] [] ?_
  refine zzn (zzv (ret0 [.slice none 0 0] ⟨zzp, trivial⟩ fun u24 e25 => ?_))
  have e9 : Nt.trimQ l = [] := List.eq_nil_of_length_eq_zero (by omega)
  rw [Nt.mul_nil (.inl e9)]
  exact ⟨⟨none, 0, 0⟩, rfl, pol_nil _ _⟩
 ·refine zyp 15 (x := .v (.bool ((y12.n : Int) == 0))) (.v (.bool false)) (by rw [hs23]) ?_
  have qhs23 : ¬ ((y12.n : Int) = 0) := by simpa using hs23
  refine zza 16 (.v y18.v) ?_ (hw := w1 3 false 15)
  refine zza 17 (.v (.int .i64 (y18.n : Int))) ?_ (hw := w1 3 false 15)
  refine zza 18 (.v (.bool ((y18.n : Int) == 0))) ?_ (hw := w1 3 false 15)
  refine zza 19 (.v (.bool ((y18.n : Int) == 0))) ?_
  refine zzb 62 [(0, .v y12.v), (1, .v y18.v), (19, .v (.bool ((y18.n : Int) == 0)))] [] ?_
  refine zzt (b := (y18.n : Int) == 0) (by kernel_rfl) (fun hb26 => ?_) (fun hb26 => ?_)
  ·replace hb26 : ((y18.n : Int) == 0) = true := hb26
   have qhb26 : (y18.n : Int) = 0 := by simpa using hb26
   refine sq9 ?_
   refine zza 4 (.v (.slice none 0 0)) ?_
   refine zzb 62 [(4, .v (.slice none 0 0))] [] ?_
   refine zzn (zzv (ret0 [.slice none 0 0] ⟨zzp, trivial⟩ fun u27 e28 => ?_))
   have e9 : Nt.trimQ m = [] := List.eq_nil_of_length_eq_zero (by omega)
   rw [Nt.mul_nil (.inr e9)]
   exact ⟨⟨none, 0, 0⟩, rfl, pol_nil _ _⟩
  ·replace hb26 : ((y18.n : Int) == 0) = false := hb26
   have qhb26 : ¬ ((y18.n : Int) = 0) := by simpa using hb26
   refine zzr (zzo ?_)
   refine sq9 ?_
   refine zza 20 (.v y12.v) ?_
   refine zza 21 (.v (.int .i64 (y12.n : Int))) ?_
   refine zza 22 (.v y18.v) ?_
   refine zza 23 (.v (.int .i64 (y18.n : Int))) ?_
   refine zyp 24 (x := .v (.int .i64 (IntKind.i64.wrap ((y12.n : Int) + (y18.n : Int))))) (.v (.int .i64 ((y12.n + y18.n : Nat) : Int))) (eqI (by rw [IntWalk.i64_in _ (by omega)]; omega)) ?_
   refine zyp 25 (x := .v (.int .i64 (IntKind.i64.wrap (((y12.n + y18.n : Nat) : Int) - 1)))) (.v (.int .i64 (((y12.n + y18.n) - 1 : Nat) : Int))) (eqI (by rw [IntWalk.i64_in _ (by omega)]; omega)) ?_
   refine sy_make 26 (T := 41) (E := 26) (z := .agg #[.bool false, .slice none 0 0, .slice none 0 0]) (size := 3) (bytes := 56) ((y12.n + y18.n) - 1) (rcs (List.replicate ((y12.n + y18.n) - 1) rl0)) (by kernel_rfl) (by kernel_rfl) rfl rfl (by omega) (by unfold maxLen; omega) (made_rcs _) ?_
   refine zza 5 (.slc 26 0 ((y12.n + y18.n) - 1) ((y12.n + y18.n) - 1)) ?_
   refine zzb 62 [(0, .v y12.v), (1, .v y18.v), (5, .slc 26 0 ((y12.n + y18.n) - 1) ((y12.n + y18.n) - 1))] [(26, ⟨26, rcs (List.replicate ((y12.n + y18.n) - 1) rl0)⟩)] ?_
   refine zzc ?_
   refine sq9 ?_
   refine zza 27 (.v y12.v) ?_
   refine zza 28 (.v (.int .i64 (y12.n : Int))) ?_
   refine zza 29 (.v (.int .i64 0)) ?_
   refine zzb 62 [(0, .v y12.v), (1, .v y18.v), (5, .slc 26 0 ((y12.n + y18.n) - 1) ((y12.n + y18.n) - 1)), (28, .v (.int .i64 (y12.n : Int))), (29, .v (.int .i64 0))] [(26, ⟨26, rcs (List.replicate ((y12.n + y18.n) - 1) rl0)⟩)] ?_
   refine zzs ?_
   refine zym (I := fun m29 S' u' => ∃ (i : Nat) (L : List RL), (m29 = (Nt.trimQ l).length - i) ∧ (i ≤ (Nt.trimQ l).length) ∧ (L.length = ((Nt.trimQ l).length + (Nt.trimQ m).length - 1)) ∧ (S' = St.of 62 [(0, .v (.slice y12.a y12.n y12.c)), (1, .v (.slice y18.a y18.n y18.c)), (5, .slc 26 0 ((y12.n + y18.n) - 1) ((y12.n + y18.n) - 1)), (28, .v (.int .i64 (y12.n : Int))), (29, .v (.int .i64 (i : Int)))] [(26, ⟨26, rcs L⟩)]) ∧ (Ext u20 u') ∧ (RatsV u' L (Nt.outQ (Nt.trimQ l) (Nt.trimQ m) ((Nt.trimQ l).length + (Nt.trimQ m).length - 1) i) (Nt.kk (K + M + 3) (i * (Nt.trimQ m).length)))) (fun m S u1 u2 e h => by obtain ⟨i, L, hm, p0, p1, hS, hE, f0⟩ := h; exact ⟨i, L, hm, p0, p1, hS, hE.trans e, f0.ext e⟩) _ (T := St.of 62 [(0, .v (.slice y12.a y12.n y12.c)), (1, .v (.slice y18.a y18.n y18.c)), (5, .slc 26 0 ((y12.n + y18.n) - 1) ((y12.n + y18.n) - 1)), (28, .v (.int .i64 (y12.n : Int))), (29, .v (.int .i64 0))] [(26, ⟨26, rcs (List.replicate ((y12.n + y18.n) - 1) rl0)⟩)]) (by exact zzu _ _ _) ⟨0, List.replicate ((y12.n + y18.n) - 1) rl0, rfl, by omega, by simp; omega, rfl, Ext.refl _, (RatsV.more (K := 1) (by rw [hly12, hly18]; exact RatsV.zeros _ _) (by unfold Nt.kk; omega))⟩ ?_
   rintro m29 _ u29 ⟨i, L, hm29, hi, hL, rfl, e29, hR⟩
   refine sq9 ?_
   refine zza 30 (.v (.bool (decide ((i : Int) < (y12.n : Int))))) ?_
   refine zzb 62 [(0, .v y12.v), (1, .v y18.v), (5, .slc 26 0 ((y12.n + y18.n) - 1) ((y12.n + y18.n) - 1)), (28, .v (.int .i64 (y12.n : Int))), (29, .v (.int .i64 (i : Int))), (30, .v (.bool (decide ((i : Int) < (y12.n : Int)))))] [(26, ⟨26, rcs L⟩)] ?_
   refine zzc ?_
   refine zzt (b := decide ((i : Int) < (y12.n : Int))) (by kernel_rfl) (fun hb30 => ?_) (fun hb30 => ?_)
   ·replace hb30 : (decide ((i : Int) < (y12.n : Int))) = true := hb30
    have qhb30 := of_decide_eq_true hb30
    refine zzr (zzo ?_)
    refine zzc ?_
    refine zzs ?_
    refine sq9 ?_
    refine zza 31 (.v (.int .i64 (i : Int))) ?_
    refine zza 6 (.v (.int .i64 (i : Int))) ?_
    refine zzb 62 [(0, .v y12.v), (1, .v y18.v), (5, .slc 26 0 ((y12.n + y18.n) - 1) ((y12.n + y18.n) - 1)), (6, .v (.int .i64 (i : Int))), (28, .v (.int .i64 (y12.n : Int))), (29, .v (.int .i64 (i : Int)))] [(26, ⟨26, rcs L⟩)] ?_
    refine sq9 ?_
    refine zza 32 (.v y18.v) ?_
    refine zza 33 (.v (.int .i64 (y18.n : Int))) ?_
    refine zza 34 (.v (.int .i64 0)) ?_
    refine zzb 62 [(0, .v y12.v), (1, .v y18.v), (5, .slc 26 0 ((y12.n + y18.n) - 1) ((y12.n + y18.n) - 1)), (6, .v (.int .i64 (i : Int))), (28, .v (.int .i64 (y12.n : Int))), (29, .v (.int .i64 (i : Int))), (33, .v (.int .i64 (y18.n : Int))), (34, .v (.int .i64 0))] [(26, ⟨26, rcs L⟩)] ?_
    refine zzs ?_
    refine zym (I := fun m31 S' u' => ∃ (j : Nat) (M9 : List RL), (m31 = (Nt.trimQ m).length - j) ∧ (j ≤ (Nt.trimQ m).length) ∧ (M9.length = ((Nt.trimQ l).length + (Nt.trimQ m).length - 1)) ∧ (S' = St.of 62 [(0, .v (.slice y12.a y12.n y12.c)), (1, .v (.slice y18.a y18.n y18.c)), (5, .slc 26 0 ((y12.n + y18.n) - 1) ((y12.n + y18.n) - 1)), (6, .v (.int .i64 (i : Int))), (28, .v (.int .i64 (y12.n : Int))), (29, .v (.int .i64 (i : Int))), (33, .v (.int .i64 (y18.n : Int))), (34, .v (.int .i64 (j : Int)))] [(26, ⟨26, rcs M9⟩)]) ∧ (Ext u29 u') ∧ (RatsV u' M9 (Nt.inn (Nt.outQ (Nt.trimQ l) (Nt.trimQ m) ((Nt.trimQ l).length + (Nt.trimQ m).length - 1) i) i ((Nt.trimQ l).getD i 0) (Nt.trimQ m) j) (Nt.kk (K + M + 3) (i * (Nt.trimQ m).length + j)))) (fun m S u1 u2 e h => by obtain ⟨j, M9, hm, p0, p1, hS, hE, f0⟩ := h; exact ⟨j, M9, hm, p0, p1, hS, hE.trans e, f0.ext e⟩) _ (T := St.of 62 [(0, .v (.slice y12.a y12.n y12.c)), (1, .v (.slice y18.a y18.n y18.c)), (5, .slc 26 0 ((y12.n + y18.n) - 1) ((y12.n + y18.n) - 1)), (6, .v (.int .i64 (i : Int))), (28, .v (.int .i64 (y12.n : Int))), (29, .v (.int .i64 (i : Int))), (33, .v (.int .i64 (y18.n : Int))), (34, .v (.int .i64 0))] [(26, ⟨26, rcs L⟩)]) (by exact zzu _ _ _) ⟨0, L, rfl, by omega, by omega, rfl, Ext.refl _, hR⟩ ?_
    rintro m31 _ u31 ⟨j, M9, hm31, hj, hM9, rfl, e31, hQ⟩
    have hmm := Nat.mul_le_mul_right (Nt.trimQ m).length (show i + 1 ≤ (Nt.trimQ l).length by omega)
    rw [Nat.add_mul] at hmm
    have hkk := Nt.kk_mono (W := (K + M + 3)) (t := i * (Nt.trimQ m).length + j) (t' := (Nt.trimQ l).length * (Nt.trimQ m).length) (Nat.le_refl _) (by omega)
    have hk2 := Nt.kk_succ (K + M + 3) (i * (Nt.trimQ m).length + j)
    refine sq9 ?_
    refine zza 35 (.v (.bool (decide ((j : Int) < (y18.n : Int))))) ?_
    refine zzb 62 [(0, .v y12.v), (1, .v y18.v), (5, .slc 26 0 ((y12.n + y18.n) - 1) ((y12.n + y18.n) - 1)), (6, .v (.int .i64 (i : Int))), (28, .v (.int .i64 (y12.n : Int))), (29, .v (.int .i64 (i : Int))), (33, .v (.int .i64 (y18.n : Int))), (34, .v (.int .i64 (j : Int))), (35, .v (.bool (decide ((j : Int) < (y18.n : Int)))))] [(26, ⟨26, rcs M9⟩)] ?_
    refine zzc ?_
    refine zzt (b := decide ((j : Int) < (y18.n : Int))) (by kernel_rfl) (fun hb32 => ?_) (fun hb32 => ?_)
    ·replace hb32 : (decide ((j : Int) < (y18.n : Int))) = true := hb32
     have qhb32 := of_decide_eq_true hb32
     refine zzr (zzo ?_)
     refine zzc ?_
     refine zzs ?_
     refine sq9 ?_
     refine zza 36 (.v (.int .i64 (j : Int))) ?_
     refine zza 7 (.v (.int .i64 (j : Int))) ?_
     refine zzb 62 [(0, .v y12.v), (1, .v y18.v), (5, .slc 26 0 ((y12.n + y18.n) - 1) ((y12.n + y18.n) - 1)), (6, .v (.int .i64 (i : Int))), (7, .v (.int .i64 (j : Int))), (28, .v (.int .i64 (y12.n : Int))), (29, .v (.int .i64 (i : Int))), (33, .v (.int .i64 (y18.n : Int))), (34, .v (.int .i64 (j : Int)))] [(26, ⟨26, rcs M9⟩)] ?_
     refine zzy [0, 0, 0, 6, 0, 0, 0, 96, 240, 496, 0, 0, 3072, 7168, 0, 0, 49152, 114688, 261120, 524272, 1048575, 2097151] [(0, []), (1, []), (2, []), (3, []), (4, []), (5, []), (6, []), (7, []), (8, []), (9, []), (10, []), (11, []), (12, []), (13, []), (14, []), (15, []), (16, []), (17, []), (18, []), (19, []), (20, []), (21, [])] (by kernel_rfl) (by kernel_rfl) ?_
     refine zza 37 (.slc 26 0 ((y12.n + y18.n) - 1) ((y12.n + y18.n) - 1)) ?_
     refine zza 38 (.v (.int .i64 (i : Int))) ?_
     refine zza 39 (.v (.int .i64 (j : Int))) ?_
     refine zyp 40 (x := .v (.int .i64 (IntKind.i64.wrap ((i : Int) + (j : Int))))) (.v (.int .i64 ((i + j : Nat) : Int))) (eqI (by rw [IntWalk.i64_in _ (by omega)]; omega)) ?_
     refine zza 41 (.slc 26 0 ((y12.n + y18.n) - 1) ((y12.n + y18.n) - 1)) ?_
     refine zza 42 (.v (.int .i64 (i : Int))) ?_
     refine zza 43 (.v (.int .i64 (j : Int))) ?_
     refine zyp 44 (x := .v (.int .i64 (IntKind.i64.wrap ((i : Int) + (j : Int))))) (.v (.int .i64 ((i + j : Nat) : Int))) (eqI (by rw [IntWalk.i64_in _ (by omega)]; omega)) ?_
     refine zyv 45 (off' := (i + j) * 3) (n := (y12.n + y18.n) - 1) (off := 0) (sz := 3) (i := ((i + j : Nat) : Int)) sl41 (by omega) (by omega) (by omega) ?_
     obtain ⟨r33, hrr33⟩ : ∃ r : RL, (M9).getD (i + j) rl0 = r := ⟨_, rfl⟩
     refine zzh 46 (V := ⟨26, rcs M9⟩) (off := (i + j) * 3) (.v r33.v) ty26 (by have h9 := part_rcs (L := M9) (i := i + j) (off := (i + j) * 3) (by first|omega|(simp;omega)) rfl; rw [hrr33] at h9; exact h9) ?_
     have h34 := hQ.2 (i + j) (by first|omega|(simp;omega))
     rw [hrr33] at h34
     refine zza 47 (.v y12.v) ?_
     refine zza 48 (.v (.int .i64 (i : Int))) ?_
     have hl35 := (h13.ext (e17.trans (g21.ext.trans (e29.trans e31)))).len
     obtain ⟨r35, b35, o35, hA35, hc35, hr35⟩ := pol_atN (h13.ext (e17.trans (g21.ext.trans (e29.trans e31)))) (i := i) (by omega)
     refine zzz 49 (o35 + i * 3) (n := y12.n) (off := o35) (sz := 3) (i := (i : Int)) (by omega) hA35 (by omega) (by omega) sl41 ?_
     refine zyl 50 r35.cs hc35 ty26 ?_
     refine zza 51 (.v y18.v) ?_
     refine zza 52 (.v (.int .i64 (j : Int))) ?_
     have hl36 := (h19.ext (e29.trans e31)).len
     obtain ⟨r36, b36, o36, hA36, hc36, hr36⟩ := pol_atN (h19.ext (e29.trans e31)) (i := j) (by omega)
     refine zzz 53 (o36 + j * 3) (n := y18.n) (off := o36) (sz := 3) (i := (j : Int)) (by omega) hA36 (by omega) (by omega) sl41 ?_
     refine zyl 54 r36.cs hc36 ty26 ?_
     refine zzf 55 22 [r35.v, r36.v] ?_
     intro w37 u37 e37 d37
     have k42 := k_rqMul d37 (hr35.ext e37).raw (hr36.ext e37).raw (by omega) (by omega)
     with_reducible refine Post.mono k42 ?_
     rintro _ u40 g41 ⟨r38, rfl, h39⟩
     refine zzf 56 18 [r33.v, r38.v] ?_
     intro w43 u43 e43 d43
     have k48 := k_rqAdd d43 (h34.ext (e37.trans (g41.ext.trans e43))) (h39.ext e43).raw (by omega) (by omega)
     with_reducible refine Post.mono k48 ?_
     rintro _ u46 g47 ⟨r44, rfl, h45⟩
     refine zyv 57 (off' := (i + j) * 3) (n := (y12.n + y18.n) - 1) (off := 0) (sz := 3) (i := ((i + j : Nat) : Int)) sl41 (by omega) (by omega) (by omega) ?_
     refine zyu (V := ⟨26, rcs M9⟩) (off := (i + j) * 3) (rcs ((M9).set (i + j) r44)) ty26 (by rw [zyx]; first|omega|(simp;omega)) (zyw (r := r44) (i := i + j) (by first|omega|(simp;omega)) rfl) ?_
     refine zzw ?_
     refine zzo ?_
     refine zze ?_
     refine zyp 58 (x := .v (.int .i64 (IntKind.i64.wrap ((j : Int) + 1)))) (.v (.int .i64 ((j + 1 : Nat) : Int))) (eqI (by rw [IntWalk.i64_in _ (by omega)]; omega)) ?_
     refine zza 34 (.v (.int .i64 ((j + 1 : Nat) : Int))) ?_
     refine zzw ?_
     refine ⟨_, ?_, St.of 62 [(0, .v (.slice y12.a y12.n y12.c)), (1, .v (.slice y18.a y18.n y18.c)), (5, .slc 26 0 ((y12.n + y18.n) - 1) ((y12.n + y18.n) - 1)), (6, .v (.int .i64 (i : Int))), (28, .v (.int .i64 (y12.n : Int))), (29, .v (.int .i64 (i : Int))), (33, .v (.int .i64 (y18.n : Int))), (34, .v (.int .i64 ((j + 1 : Nat) : Int)))] [(26, ⟨26, rcs ((M9).set (i + j) r44)⟩)], by exact zzu _ _ _, j + 1, (M9).set (i + j) r44, rfl, by omega, by simp; omega, rfl, (e31.trans (e37.trans (g41.ext.trans (e43.trans g47.ext)))), (RatsV.set (i := i + j) (RatsV.more (K := Nt.kk (K + M + 3) (i * (Nt.trimQ m).length + j)) (hQ.ext (e37.trans (g41.ext.trans (e43.trans g47.ext)))) (by show _ ≤ Nt.kk _ (i * (Nt.trimQ m).length + j + 1); omega)) (by simp; omega) (RatV.more (K := ((Nt.kk (K + M + 3) (i * (Nt.trimQ m).length + j)) + (K + M + 1) + 2)) h45.raw (by show _ ≤ Nt.kk _ (i * (Nt.trimQ m).length + j + 1); omega)))⟩
     omega
    ·replace hb32 : (decide ((j : Int) < (y18.n : Int))) = false := hb32
     have qhb32 := of_decide_eq_false hb32
     refine zyb ?_
     refine zzo ?_
     refine zze ?_
     refine zyp 59 (x := .v (.int .i64 (IntKind.i64.wrap ((i : Int) + 1)))) (.v (.int .i64 ((i + 1 : Nat) : Int))) (eqI (by rw [IntWalk.i64_in _ (by omega)]; omega)) ?_
     refine zza 29 (.v (.int .i64 ((i + 1 : Nat) : Int))) ?_
     refine zzw ?_
     have hj9 : j = (Nt.trimQ m).length := by omega
     refine ⟨_, ?_, St.of 62 [(0, .v (.slice y12.a y12.n y12.c)), (1, .v (.slice y18.a y18.n y18.c)), (5, .slc 26 0 ((y12.n + y18.n) - 1) ((y12.n + y18.n) - 1)), (28, .v (.int .i64 (y12.n : Int))), (29, .v (.int .i64 ((i + 1 : Nat) : Int)))] [(26, ⟨26, rcs M9⟩)], by exact zzu _ _ _, i + 1, M9, rfl, by omega, by omega, rfl, (e29.trans e31), (by have h9 := hQ; rw [hj9, ← Nat.succ_mul] at h9; exact h9)⟩
     omega
   ·replace hb30 : (decide ((i : Int) < (y12.n : Int))) = false := hb30
    have qhb30 := of_decide_eq_false hb30
    refine zyb ?_
    refine zzo ?_
    refine zzc ?_
    have hi9 : i = (Nt.trimQ l).length := by omega
    have hR2 : RatsV u29 L (Nt.outQ (Nt.trimQ l) (Nt.trimQ m) ((Nt.trimQ l).length + (Nt.trimQ m).length - 1) ((Nt.trimQ l).length)) (Nt.kk (K + M + 3) ((Nt.trimQ l).length * (Nt.trimQ m).length)) := by have h9 := hR; rw [hi9] at h9; exact h9
    have hol : (Nt.outQ (Nt.trimQ l) (Nt.trimQ m) ((Nt.trimQ l).length + (Nt.trimQ m).length - 1) ((Nt.trimQ l).length)).length = ((Nt.trimQ l).length + (Nt.trimQ m).length - 1) := by simp
    refine zyo (r := 5) (t := 26) [5, 26] (by repeat first | exact noAt_of | refine zyc ?_ | refine zye ?_ | refine zyd ?_ | refine zzx ?_ | refine zya ?_) (by kernel_rfl) (by rfl) (by rfl) (by kernel_rfl) (fun b49 u50 e51 hb52 hh53 => ?_)
    have hp54 : PolV u50 ⟨some ⟨b49, 0, none⟩, (y12.n + y18.n) - 1, (y12.n + y18.n) - 1⟩ (Nt.outQ (Nt.trimQ l) (Nt.trimQ m) ((Nt.trimQ l).length + (Nt.trimQ m).length - 1) ((Nt.trimQ l).length)) (Nt.kk (K + M + 3) ((Nt.trimQ l).length * (Nt.trimQ m).length)) := pol_data1V hh53 (by unfold maxLen; omega) (hR2.ext e51) (by omega)
    refine zze ?_
    refine zza 60 (.v (.slice (some ⟨b49, 0, none⟩) ((y12.n + y18.n) - 1) ((y12.n + y18.n) - 1))) ?_
    refine zzf 61 87 [.slice (some ⟨b49, 0, none⟩) ((y12.n + y18.n) - 1) ((y12.n + y18.n) - 1)] ?_
    intro w55 u55 e55 d55
    have k60 := k_r5Trim d55 (hp54.ext e55) (by omega) (by first|omega|(simp;omega) | (refine Nat.le_trans (Nt.zzg _) ?_; first|omega|(simp;omega)) | (refine Nat.le_trans (Nt.zzg _) ?_; simp only [List.length_map]; refine Nat.le_trans (Nt.zzg _) ?_; first|omega|(simp;omega)))
    with_reducible refine Post.mono k60 ?_
    rintro _ u58 g59 ⟨y56, rfl, h57⟩
    have hly56 := h57.len
    refine zza 4 (.v y56.v) ?_
    refine zzb 62 [(4, .v y56.v)] [] ?_
    refine zzn (ret0 [.slice y56.a y56.n y56.c] ⟨zzp, trivial⟩ fun u61 e62 => ?_)
    refine ⟨y56, rfl, PolN.more (K := (Nt.kk (K + M + 3) ((Nt.trimQ l).length * (Nt.trimQ m).length))) ?_ (Nt.kk_mono (Nat.le_refl _) (Nat.mul_le_mul htl htm))⟩
    rw [← Nt.mul_trim, ← Nt.out_trim (l := (Nt.trimQ l)) (m := (Nt.trimQ m)) (by omega) (by omega)]
    exact (h57.ext e62)
end Go.Proofs.YtnedhbidmfoegaaGreat
namespace Go.Proofs.YtnedhbidmfoegaaGreat.Nt
open Go.RowKit
open Pol
set_option linter.unusedVariables false
def RSz (l : List Rat) (j : Nat) : Prop := l.length ≤ 1 + j ∧ ∃ D, D ≤ 2 ^ (2 + 6 * j) ∧ Sm l D (2 + 6 * j)
theorem RSz.more {l : List Rat} {i j : Nat} (h : RSz l i) (k : i ≤ j) : RSz l j := by
 obtain ⟨h1, D, h2, h3⟩ := h
 exact ⟨by omega, D, Nat.le_trans h2 (Nat.pow_le_pow_right (by omega) (by omega)), h3.more (by omega)⟩
theorem RSz.one {z : Nat} (hz : z < 3) : RSz [(((1 + z : Nat) : Int) : Rat)] 0 :=
 ⟨by simp, 1, by decide, Sm.ofAll (by omega) (fun x hx => by
  rw [List.mem_singleton.1 hx, show ((((1 : Nat) : Int)) : Rat) = 1 from rfl, Rat.mul_one]
  exact whNat (by omega))⟩
theorem RSz.neg {l : List Rat} {j : Nat} (h : RSz l j) : RSz (trimQ (l.map (· * (((-1) : Int) : Rat)))) j := by
 obtain ⟨h1, D, h2, h3⟩ := h
 refine ⟨map_lenQ h1, D, h2, Sm.trim ⟨h3.1, fun i => ?_⟩⟩
 rw [co_map (fun x => x * (((-1) : Int) : Rat)) (Rat.zero_mul _)]
 obtain ⟨z, hz, hb⟩ := h3.2 i
 refine ⟨-z, ?_, by rw [Int.natAbs_neg]; exact hb⟩
 rw [Rat.intCast_neg (a := z), ← hz]
 have e1 : (((-1) : Int) : Rat) = -1 := by decide +kernel
 rw [e1]; grind
theorem lin_sm {r : Rat} (h : Wh (r * (((12 : Nat) : Int) : Rat)) 4) : Sm [-r, ((1 : Int) : Rat)] 12 4 := Sm.ofAll (by omega) (fun x hx => by
 rcases List.mem_cons.1 hx with rfl | hx
 ·obtain ⟨z, hz, hb⟩ := h
  exact ⟨-z, by rw [Rat.intCast_neg, ← hz]; grind, by rw [Int.natAbs_neg]; exact hb⟩
 ·rw [List.mem_singleton.1 hx]
  exact ⟨12, by decide +kernel, by decide⟩)
theorem RSz.lin {l : List Rat} {j : Nat} {r : Rat} (h : RSz l j) (hr : Wh (r * (((12 : Nat) : Int) : Rat)) 4) : RSz (trimQ (mulQ l [-r, ((1 : Int) : Rat)])) (j + 1) := by
 obtain ⟨h1, D, h2, h3⟩ := h
 refine ⟨Nat.le_trans (mul_lenQ h1 (Nat.le_refl _)) (by simp; omega), D * 12, ?_, ((h3.mulR (lin_sm hr)).trim).more (by simp; omega)⟩
 rw [show 2 + 6 * (j + 1) = (2 + 6 * j) + 6 by omega, Nat.pow_add]
 exact Nat.mul_le_mul h2 (by decide)
def RFin (l : List Rat) : Prop := l.length ≤ 12 ∧ ∃ D, D ≤ 2 ^ 63 ∧ Sm l D 63
theorem RSz.fin {l : List Rat} (h : RSz l 9) : RFin l := by
 obtain ⟨h1, D, h2, h3⟩ := h
 exact ⟨by omega, D, Nat.le_trans h2 (by decide), h3.more (by decide)⟩
end Go.Proofs.YtnedhbidmfoegaaGreat.Nt
namespace Go.Proofs.YtnedhbidmfoegaaGreat
open Go.RowKit
set_option linter.unusedVariables false
theorem pol_at_eq {u : World} {x : Sl} {L : List RL} {r : RL} {b o i : Nat} (hS : SlC u x (rcs L)) (hA : x.a = some ⟨b, o, none⟩) (hi : i < L.length) (hc : ∀ j, j < r.cs.length → u.cell? ⟨b, o + i * 3 + j, none⟩ = r.cs[j]?) : r = L.getD i rl0 := by
 obtain ⟨h1, h2, h3, h4⟩ := hS
 rw [zyx] at h1
 obtain ⟨b2, o2, e, h5⟩ := h4 (by omega)
 rw [hA] at e
 injection e with e
 injection e with e1 e2 e3
 subst e1 e2
 have key : ∀ j, j < 3 → r.cs[j]? = (L.getD i rl0).cs[j]? := fun j hj => by
  rw [← hc j hj, ← rcs_ix hi hj, Nat.add_assoc]
  exact h5 (i * 3 + j) (by rw [zyx]; omega)
 have k0 := key 0 (by omega)
 have k1 := key 1 (by omega)
 have k2 := key 2 (by omega)
 revert k0 k1 k2
 generalize L.getD i rl0 = s
 intro k0 k1 k2
 obtain ⟨rs, ⟨ra, rn, rc⟩, ⟨rda, rdn, rdc⟩⟩ := r
 obtain ⟨ss, ⟨sa, sn, sc⟩, ⟨sda, sdn, sdc⟩⟩ := s
 simp [RL.cs] at k0 k1 k2
 simp_all
set_option maxHeartbeats 2000000 in
theorem k_smallPoly {u w : World} {x : Sl} {l : List Rat} {K : Nat} (d : Dat u w) (hx : PolV u x l K) : Calls Tryz.prog 25 #[x.v] w (Post u w fun v u' => (v = .bool true ∧ l.length ≤ 8 ∧ PolV u x l 2) ∨ v = .bool false) := by
 have hlen := hx.len
 obtain ⟨L, hS, hR⟩ := id hx
 have hLl := hR.1
 have hmx := hx.max
 unfold maxLen at hmx
 refine zzl (args := [.slice x.a x.n x.c]) Tryz.func25 rfl Tryz.ntmps25 (rs := [.tmp 2]) Tryz.results25 (le_b rfl) (le_b rfl) d ?_
 refine sq9 ?_
 refine zza 2 (.v (.bool false)) ?_
 refine zzb 26 [(0, .v x.v)] [] ?_
 refine zzc ?_
 refine sq9 ?_
 refine zza 5 (.v x.v) ?_
 refine zza 6 (.v (.int .i64 (x.n : Int))) ?_
 refine zza 7 (.v (.bool (decide ((8 : Int) < (x.n : Int))))) ?_
 refine zzb 26 [(0, .v x.v), (7, .v (.bool (decide ((8 : Int) < (x.n : Int)))))] [] ?_
 refine zzt (b := decide ((8 : Int) < (x.n : Int))) (by kernel_rfl) (fun hb11 => ?_) (fun hb11 => ?_)
 ·replace hb11 : (decide ((8 : Int) < (x.n : Int))) = true := hb11
  have qhb11 := of_decide_eq_true hb11
  refine sq9 ?_
  refine zza 2 (.v (.bool false)) ?_
  refine zzb 26 [(2, .v (.bool false))] [] ?_
  refine zzn (zzv (ret0 [.bool false] ⟨zzp, trivial⟩ fun u12 e13 => ?_))
  exact .inr rfl
 ·replace hb11 : (decide ((8 : Int) < (x.n : Int))) = false := hb11
  have qhb11 := of_decide_eq_false hb11
  refine zzr (zzo ?_)
  refine zzc ?_
  refine sq9 ?_
  refine zza 8 (.v x.v) ?_
  refine zza 9 (.v (.int .i64 (x.n : Int))) ?_
  refine zza 10 (.v (.int .i64 0)) ?_
  refine zzb 26 [(8, .v x.v), (9, .v (.int .i64 (x.n : Int))), (10, .v (.int .i64 0))] [] ?_
  refine zzs ?_
  refine zym (I := fun m14 S' u' => ∃ (i : Nat), (m14 = x.n - i) ∧ (i ≤ x.n) ∧ (∀ j, j < i → (L.getD j rl0).m.n ≤ 2 ∧ (L.getD j rl0).d.n ≤ 2) ∧ (S' = St.of 26 [(8, .v (.slice x.a x.n x.c)), (9, .v (.int .i64 (x.n : Int))), (10, .v (.int .i64 (i : Int)))] []) ∧ (Ext u u')) (fun m S u1 u2 e h => by obtain ⟨i, hm, p0, p1, hS, hE⟩ := h; exact ⟨i, hm, p0, p1, hS, hE.trans e⟩) _ (T := St.of 26 [(8, .v (.slice x.a x.n x.c)), (9, .v (.int .i64 (x.n : Int))), (10, .v (.int .i64 0))] []) (by exact zzu _ _ _) ⟨0, rfl, by omega, fun j hj => absurd hj (Nat.not_lt_zero j), rfl, Ext.refl _⟩ ?_
  rintro m14 _ u14 ⟨i, hm14, hi, hz, rfl, e14⟩
  refine sq9 ?_
  refine zza 11 (.v (.bool (decide ((i : Int) < (x.n : Int))))) ?_
  refine zzb 26 [(8, .v x.v), (9, .v (.int .i64 (x.n : Int))), (10, .v (.int .i64 (i : Int))), (11, .v (.bool (decide ((i : Int) < (x.n : Int)))))] [] ?_
  refine zzc ?_
  refine zzt (b := decide ((i : Int) < (x.n : Int))) (by kernel_rfl) (fun hb15 => ?_) (fun hb15 => ?_)
  ·replace hb15 : (decide ((i : Int) < (x.n : Int))) = true := hb15
   have qhb15 := of_decide_eq_true hb15
   refine zzr (zzo ?_)
   refine zzc ?_
   refine zzs ?_
   refine sq9 ?_
   have hl16 := (hx.ext e14).len
   obtain ⟨r16, b16, o16, hA16, hc16, hr16⟩ := pol_at (hx.ext e14) (i := i) (by omega)
   refine zzz 12 (o16 + i * 3) (n := x.n) (off := o16) (sz := 3) (i := (i : Int)) (by omega) hA16 (by omega) (by omega) sl41 ?_
   refine zyl 13 r16.cs hc16 ty26 ?_
   refine zzj 4 ⟨26, [.bool false, .slice none 0 0, .slice none 0 0]⟩ ?_
   refine zzi ⟨26, r16.cs⟩ ty26 ?_
   refine zzb 26 [(4, .adr 4 0), (8, .v x.v), (9, .v (.int .i64 (x.n : Int))), (10, .v (.int .i64 (i : Int)))] [(4, ⟨26, r16.cs⟩)] ?_
   refine zzc ?_
   have hre := pol_at_eq (hS.ext e14) hA16 (by omega) hc16
   refine zze ?_
   refine zza 14 (.adr 4 0) ?_
   refine zza 15 (.adr 4 1) ?_
   refine zzh 16 (.v r16.m.v) ty22 zzk ?_
   refine zza 17 (.v (.int .i64 (r16.m.n : Int))) ?_
   refine zza 18 (.v (.bool (decide ((2 : Int) < (r16.m.n : Int))))) ?_
   rcases Bool.eq_false_or_eq_true (decide ((2 : Int) < (r16.m.n : Int))) with hs17 | hs17
   ·refine zyp 19 (x := .v (.bool (decide ((2 : Int) < (r16.m.n : Int))))) (.v (.bool true)) (by rw [hs17]) ?_
    have qhs17 := of_decide_eq_true hs17
    refine zzm 20 (uw 5 false true 19) ?_
    refine zzm 21 (uw 5 false true 19) ?_
    refine zzm 22 (uw 5 false true 19) ?_
    refine zzm 23 (uw 5 false true 19) ?_
    refine zza 24 (.v (.bool true)) ?_
    refine zzb 26 [(8, .v x.v), (9, .v (.int .i64 (x.n : Int))), (10, .v (.int .i64 (i : Int))), (24, .v (.bool true))] [] ?_
    refine zyq (by kernel_rfl) ?_
    refine sq9 ?_
    refine zza 2 (.v (.bool false)) ?_
    refine zzb 26 [(2, .v (.bool false))] [] ?_
    refine zzn (zyt (zzv (zys (zyt (zzv (ret0 [.bool false] ⟨zzp, trivial⟩ fun u18 e19 => ?_))))))
    exact .inr rfl
   ·refine zyp 19 (x := .v (.bool (decide ((2 : Int) < (r16.m.n : Int))))) (.v (.bool false)) (by rw [hs17]) ?_
    have qhs17 := of_decide_eq_false hs17
    refine zza 20 (.adr 4 2) ?_ (hw := w1 5 false 19)
    refine zzh 21 (.v r16.d.v) ty22 zzk ?_ (hw := w1 5 false 19)
    refine zza 22 (.v (.int .i64 (r16.d.n : Int))) ?_ (hw := w1 5 false 19)
    refine zza 23 (.v (.bool (decide ((2 : Int) < (r16.d.n : Int))))) ?_ (hw := w1 5 false 19)
    refine zza 24 (.v (.bool (decide ((2 : Int) < (r16.d.n : Int))))) ?_
    refine zzb 26 [(8, .v x.v), (9, .v (.int .i64 (x.n : Int))), (10, .v (.int .i64 (i : Int))), (24, .v (.bool (decide ((2 : Int) < (r16.d.n : Int)))))] [] ?_
    refine zzt (b := decide ((2 : Int) < (r16.d.n : Int))) (by kernel_rfl) (fun hb20 => ?_) (fun hb20 => ?_)
    ·replace hb20 : (decide ((2 : Int) < (r16.d.n : Int))) = true := hb20
     have qhb20 := of_decide_eq_true hb20
     refine sq9 ?_
     refine zza 2 (.v (.bool false)) ?_
     refine zzb 26 [(2, .v (.bool false))] [] ?_
     refine zzn (zyt (zzv (zys (zyt (zzv (ret0 [.bool false] ⟨zzp, trivial⟩ fun u21 e22 => ?_))))))
     exact .inr rfl
    ·replace hb20 : (decide ((2 : Int) < (r16.d.n : Int))) = false := hb20
     have qhb20 := of_decide_eq_false hb20
     refine zzr (zzo ?_)
     refine zze ?_
     refine zyp 25 (x := .v (.int .i64 (IntKind.i64.wrap ((i : Int) + 1)))) (.v (.int .i64 ((i + 1 : Nat) : Int))) (eqI (by rw [IntWalk.i64_in _ (by omega)]; omega)) ?_
     refine zza 10 (.v (.int .i64 ((i + 1 : Nat) : Int))) ?_
     refine zzw ?_
     refine ⟨_, ?_, St.of 26 [(8, .v (.slice x.a x.n x.c)), (9, .v (.int .i64 (x.n : Int))), (10, .v (.int .i64 ((i + 1 : Nat) : Int)))] [], by exact zzu _ _ _, i + 1, rfl, by omega, (fun j hj => by by_cases e : j = i; (rw [e, ← hre]; exact ⟨by omega, by omega⟩); exact hz j (by omega)), rfl, e14⟩
     omega
  ·replace hb15 : (decide ((i : Int) < (x.n : Int))) = false := hb15
   have qhb15 := of_decide_eq_false hb15
   refine zyb ?_
   refine zzo ?_
   refine sq9 ?_
   refine zza 2 (.v (.bool true)) ?_
   refine zzb 26 [(2, .v (.bool true))] [] ?_
   refine zzn (ret0 [.bool true] ⟨zzp, trivial⟩ fun u23 e24 => ?_)
   exact .inl ⟨rfl, by omega, L, hS, hR.1, fun i hi => (hR.2 i hi).few (hz i (by omega)).1 (hz i (by omega)).2 (by decide)⟩
end Go.Proofs.YtnedhbidmfoegaaGreat
namespace Go.Proofs.YtnedhbidmfoegaaGreat.Nt
open Go.RowKit
open Pol
set_option linter.unusedVariables false
def lin (r : Rat) : Pol := mk' [-r, ((1 : Int) : Rat)]
def Cop (a b : Pol) : Prop := ∃ u v, u * a + v * b = 1
theorem Cop.symm {a b : Pol} (h : Cop a b) : Cop b a := by obtain ⟨u, v, e⟩ := h; exact ⟨v, u, by grind⟩
theorem Cop.mul {a b c : Pol} (h : Cop a c) (k : Cop b c) : Cop (a * b) c := by
 obtain ⟨u, v, e⟩ := h
 obtain ⟨u', v', e'⟩ := k
 refine ⟨u * u', u * a * v' + v * u' * b + v * v' * c, ?_⟩
 have : (u * a + v * c) * (u' * b + v' * c) = 1 := by rw [e, e', one_mul]
 grind
theorem Cop.mulR {a b c : Pol} (h : Cop c a) (k : Cop c b) : Cop c (a * b) := (h.symm.mul k.symm).symm
theorem Cop.add {a b : Pol} (h : Cop a b) (k : Pol) : Cop a (b + k * a) := by
 obtain ⟨u, v, e⟩ := h
 exact ⟨u - v * k, v, by grind⟩
theorem Cop.one (b : Pol) : Cop 1 b := ⟨1, 0, by grind⟩
def prA : List (Rat × Nat) → Pol
 | [] => 1
 | f :: fs => prA fs * npow (lin f.1) f.2
structure QOK (Q : Pol) (rs : List Rat) : Prop where
 ne : Q ≠ 0
 d : Cop Q Q.D
 r : ∀ r ∈ rs, Q.ev r ≠ 0
structure MadeF (P : Pol) (rs : List Rat) : Prop where
 nd : rs.Nodup
 wh : ∀ r ∈ rs, Wh (r * (((12 : Nat) : Int) : Rat)) 4
 ex : ∃ (c : Rat) (fs : List (Rat × Nat)), c ≠ 0 ∧ (∀ f ∈ fs, 1 ≤ f.2) ∧ fs.map (·.1) = rs.reverse ∧ P = C c * prA fs
theorem MadeF.begin (z : Nat) : MadeF (mk' [(((1 + z : Nat) : Int) : Rat)]) [] :=
 ⟨List.nodup_nil, (fun r hr => by cases hr), _, [], dz (show 0 < 1 + z by omega), (fun f hf => by cases hf), rfl, (mul_one _).symm⟩
theorem MadeF.neg {l : List Rat} (h : MadeF (mk' l) []) : MadeF (mk' (trimQ (l.map (· * (((-1) : Int) : Rat))))) [] := by
 obtain ⟨h1, h2, c, fs, h3, h4, h5, h6⟩ := h
 refine ⟨h1, h2, (((-1) : Int) : Rat) * c, fs, ?_, h4, h5, ?_⟩
 ·intro e
  rcases Rat.mul_eq_zero.1 e with e | e
  ·exact absurd e (by decide +kernel)
  ·exact h3 e
 ·rw [mk_trim, mk_map, h6, C_mul]; grind
theorem MadeF.step {P : Pol} {rs : List Rat} {r : Rat} {k : Nat} (h : MadeF P rs) (hr : r ∉ rs) (hk : 1 ≤ k) (hw : Wh (r * (((12 : Nat) : Int) : Rat)) 4) : MadeF (P * npow (lin r) k) (rs ++ [r]) := by
 obtain ⟨h1, h2, c, fs, h3, h4, h5, h6⟩ := h
 refine ⟨?_, ?_, c, (r, k) :: fs, h3, ?_, ?_, ?_⟩
 ·rw [List.nodup_append]
  refine ⟨h1, by simp, fun a ha b hb e => ?_⟩
  rw [List.mem_singleton.1 hb] at e
  exact hr (e ▸ ha)
 ·intro y hy
  rcases List.mem_append.1 hy with hy | hy
  ·exact h2 y hy
  ·rw [List.mem_singleton.1 hy]; exact hw
 ·intro f hf
  rcases List.mem_cons.1 hf with rfl | hf
  ·exact hk
  ·exact h4 f hf
 ·rw [List.map_cons, h5, List.reverse_append]; rfl
 ·show _ = C c * (prA fs * npow (lin r) k)
  rw [h6]; grind
end Go.Proofs.YtnedhbidmfoegaaGreat.Nt
namespace Go.Proofs.YtnedhbidmfoegaaGreat
open Go.RowKit
set_option linter.unusedVariables false
end Go.Proofs.YtnedhbidmfoegaaGreat
namespace Go.Proofs.YtnedhbidmfoegaaGreat
set_option linter.unusedVariables false
namespace Nt
theorem lo4_le (a b c d : Rat) : lo4 a b c d ≤ a ∧ lo4 a b c d ≤ b ∧ lo4 a b c d ≤ c ∧ lo4 a b c d ≤ d := by unfold lo4 lo; grind
theorem le_hi4 (a b c d : Rat) : a ≤ hi4 a b c d ∧ b ≤ hi4 a b c d ∧ c ≤ hi4 a b c d ∧ d ≤ hi4 a b c d := by unfold hi4 hi; grind
section
variable {a1 a2 b1 b2 c1 c2 d1 d2 : Rat}
def hl (a b c d : Rat) : Rat := lo (lo a b) (lo c d)
def hh (a b c d : Rat) : Rat := hi (hi a b) (hi c d)
theorem lo4_hi4 (a b c d : Rat) : lo4 a b c d ≤ hi4 a b c d := by
 have h1 := lo4_le a b c d
 have h2 := le_hi4 a b c d
 grind
end
end Nt
end Go.Proofs.YtnedhbidmfoegaaGreat
namespace Go.Proofs.YtnedhbidmfoegaaGreat.Nt
open Go.RowKit
open Pol
set_option linter.unusedVariables false
section
variable {l : List Rat} {x a b c : Rat} {i n D A B K : Nat} {q : Pol}
theorem drop_top {α : Type} {l : List α} (d : α) (h : i < l.length) : l.drop (l.length - (i + 1)) = l.getD (l.length - 1 - i) d :: l.drop (l.length - i) := by
 rw [show l.length - (i + 1) = l.length - 1 - i by omega, List.drop_eq_getElem_cons (by omega), show l.length - 1 - i + 1 = l.length - i by omega]
 congr 1
 rw [List.getD_eq_getElem?_getD, List.getElem?_eq_getElem (by omega), Option.getD_some]
theorem ev_top (h : i < l.length) : evL (l.drop (l.length - (i + 1))) x = l.getD (l.length - 1 - i) 0 + x * evL (l.drop (l.length - i)) x := by
 rw [drop_top 0 h]; rfl
theorem ev_top0 : evL (l.drop (l.length - 0)) x = 0 := by rw [Nat.sub_zero, List.drop_length]; rfl
theorem ev_topn : evL (l.drop (l.length - l.length)) x = evL l x := by rw [Nat.sub_self]; rfl
theorem evL_trim (l : List Rat) (x : Rat) : evL (trimQ l) x = evL l x := evL_congr (trim_co l) x
theorem evL_scale (c : Rat) (l : List Rat) (x : Rat) : c * evL (l.map (· / c)) x = if c = 0 then 0 else evL l x := by
 split
 ·rename_i h; rw [h, Rat.zero_mul]
 ·rename_i h
  induction l with
  | nil => show c * 0 = 0; grind
  | cons y l ih =>
   show c * (y / c + x * evL (l.map (· / c)) x) = y + x * evL l x
   rw [← ih]; grind
theorem ev_parts (l : List Rat) (x : Rat) : msr (trimQ l) * evL (prim l) x = evL l x := by
 unfold prim
 rw [evL_scale]
 split
 ·rename_i h
  by_cases ht : trimQ l = []
  ·rw [← evL_trim, ht]; rfl
  ·exact absurd h (msr_ne' ht)
 ·exact evL_trim l x
def encL (a b : Rat) : List Rat → Rat × Rat
 | [] => (0, 0)
 | c :: l => (lo4 ((encL a b l).1 * a) ((encL a b l).1 * b) ((encL a b l).2 * a) ((encL a b l).2 * b) + c, hi4 ((encL a b l).1 * a) ((encL a b l).1 * b) ((encL a b l).2 * a) ((encL a b l).2 * b) + c)
theorem enc_top (h : i < l.length) : encL a b (l.drop (l.length - (i + 1))) = (lo4 ((encL a b (l.drop (l.length - i))).1 * a) ((encL a b (l.drop (l.length - i))).1 * b) ((encL a b (l.drop (l.length - i))).2 * a) ((encL a b (l.drop (l.length - i))).2 * b) + l.getD (l.length - 1 - i) 0, hi4 ((encL a b (l.drop (l.length - i))).1 * a) ((encL a b (l.drop (l.length - i))).1 * b) ((encL a b (l.drop (l.length - i))).2 * a) ((encL a b (l.drop (l.length - i))).2 * b) + l.getD (l.length - 1 - i) 0) := by
 rw [drop_top 0 h]; rfl
theorem lo_self (c : Rat) : lo c c = c := by unfold lo; split <;> rfl
theorem hi_self (c : Rat) : hi c c = c := by unfold hi; split <;> rfl
theorem enc_step (s t a b c : Rat) : lo (lo4 (s * a) (s * b) (t * a) (t * b)) (hi4 (s * a) (s * b) (t * a) (t * b)) + lo (lo c c) (hi c c) = lo4 (s * a) (s * b) (t * a) (t * b) + c ∧ hi (lo4 (s * a) (s * b) (t * a) (t * b)) (hi4 (s * a) (s * b) (t * a) (t * b)) + hi (lo c c) (hi c c) = hi4 (s * a) (s * b) (t * a) (t * b) + c := by
 have h := lo_of_le (lo4_hi4 (s * a) (s * b) (t * a) (t * b))
 rw [h.1, h.2, lo_self, hi_self, lo_self, hi_self]
 exact ⟨rfl, rfl⟩
theorem lo4_zero (a b : Rat) : lo4 (0 * a) (0 * b) (0 * a) (0 * b) = 0 ∧ hi4 (0 * a) (0 * b) (0 * a) (0 * b) = 0 := by
 rw [Rat.zero_mul, Rat.zero_mul]; decide +kernel
theorem encL_trim (a b : Rat) (l : List Rat) : encL a b (trimQ l) = encL a b l := by
 induction l with
 | nil => rfl
 | cons c l ih =>
  unfold trimQ
  split
  ·rename_i h
   have h1 : encL a b l = (0, 0) := by rw [← ih, h.1]; rfl
   show (0, 0) = encL a b (c :: l)
   unfold encL
   rw [h1, h.2]
   have h2 := lo4_zero a b
   simp only []
   rw [h2.1, h2.2, Rat.add_zero]
  ·show (_, _) = (_, _)
   rw [ih]
end
end Go.Proofs.YtnedhbidmfoegaaGreat.Nt
namespace Go.Proofs.YtnedhbidmfoegaaGreat.Nt
open Go.RowKit
open Pol
set_option linter.unusedVariables false
section
variable {l m W : List Rat} {x q : Rat} {i A B C : Nat}
def hp (q : Rat) (i : Nat) : Rat := (((q.den ^ (i - 1) : Nat) : Int) : Rat)
def hs (W : List Rat) (q : Rat) (i : Nat) : Rat := hp q i * evL (W.drop (W.length - i)) q
theorem hp_zero (q : Rat) : hp q 0 = ((1 : Int) : Rat) := rfl
theorem hs_zero (W : List Rat) (q : Rat) : hs W q 0 = ((0 : Int) : Rat) := by unfold hs; rw [ev_top0, Rat.mul_zero]; rfl
theorem hp_succ (h : 0 < i) : hp q (i + 1) = hp q i * (((q.den : Nat) : Int) : Rat) := by
 unfold hp
 rw [show i + 1 - 1 = (i - 1) + 1 by omega, Nat.pow_succ, ← Rat.intCast_mul]
 simp
theorem num_den (q : Rat) : ((q.num : Int) : Rat) = q * (((q.den : Nat) : Int) : Rat) := by
 have h1 := dz (den_pos q)
 have h2 : mkRat q.num q.den = q := Rat.mkRat_self q
 rw [← mk_div] at h2
 grind
theorem hs_succ (h : i < W.length) : hs W q (i + 1) = hs W q i * ((q.num : Int) : Rat) + W.getD (W.length - 1 - i) 0 * hp q (i + 1) := by
 unfold hs
 rw [ev_top h]
 by_cases hi : i = 0
 ·subst hi
  rw [ev_top0]; grind
 ·rw [hp_succ (by omega), num_den q]; grind
theorem hp_ne (q : Rat) (i : Nat) : hp q i ≠ 0 := dz (Nat.pow_pos (den_pos q))
theorem hs_end (W : List Rat) (q : Rat) : hs W q W.length / hp q W.length = evL W q := by
 unfold hs
 rw [ev_topn]
 have := hp_ne q W.length
 grind
theorem rat_wh {K : Nat} (h : rs q ≤ K) : q.num.natAbs ≤ 2 ^ (32 * K) ∧ q.den ≤ 2 ^ (32 * K) := by
 unfold rs at h
 exact ⟨dl_bits (by omega), dl_bits (by omega)⟩
theorem hp_wh (hd : q.den ≤ 2 ^ B) (i : Nat) : Wh (hp q i) (i * B) := by
 refine (whNat (b := (i - 1) * B) ?_).more (Nat.mul_le_mul_right _ (by omega))
 rw [Nat.mul_comm, Nat.pow_mul]
 exact Nat.pow_le_pow_left hd _
theorem hs_wh (hW : WhL W A) (hn : q.num.natAbs ≤ 2 ^ B) (hd : q.den ≤ 2 ^ B) : ∀ i, i ≤ W.length → Wh (hs W q i) (A + i * (B + 1)) := by
 intro i
 induction i with
 | zero => intro _; rw [hs_zero]; exact Wh.zero _
 | succ i ih =>
  intro h
  rw [hs_succ (by omega)]
  have h1 := (ih (by omega)).mul (whInt hn)
  have h2 : Wh (hp q (i + 1)) (i * B) := by
   refine (whNat (b := (i + 1 - 1) * B) ?_)
   rw [Nat.mul_comm, Nat.pow_mul]
   exact Nat.pow_le_pow_left hd _
  have h3 := (hW (W.length - 1 - i)).mul h2
  have e : A + (i + 1) * (B + 1) = A + i * (B + 1) + B + 1 := by rw [Nat.add_mul]; omega
  rw [e]
  refine h1.add (h3.more ?_)
  have : i * B ≤ i * (B + 1) := Nat.mul_le_mul_left _ (by omega)
  omega
theorem bits_in {n : Nat} (h : i ≤ n) (hC : A + n * (B + 1) ≤ C) : A + i * (B + 1) ≤ C ∧ i * B ≤ C := by
 have h1 : i * (B + 1) ≤ n * (B + 1) := Nat.mul_le_mul_right _ h
 have h2 : i * B ≤ i * (B + 1) := Nat.mul_le_mul_left _ (by omega)
 omega
theorem ev_drop_all {k : Nat} (h : l.length ≤ k) : evL (l.drop k) x = ((0 : Int) : Rat) := by rw [List.drop_eq_nil_of_le h]; rfl
theorem ev_drop1 {k : Nat} (h : 0 < k) (h2 : k ≤ l.length) : evL (l.drop (k - 1)) x = evL (l.drop k) x * x + l.getD (k - 1) 0 := by
 rw [List.drop_eq_getElem_cons (show k - 1 < l.length by omega), show k - 1 + 1 = k by omega, List.getD_eq_getElem?_getD, List.getElem?_eq_getElem (show k - 1 < l.length by omega), Option.getD_some]
 show _ + x * _ = _
 grind
theorem ev_drop0 : evL (l.drop 0) x = evL l x := rfl
theorem Sm.mem {D : Nat} (h : Sm l D A) : ∀ y ∈ l, Wh (y * ((D : Int) : Rat)) A := fun y hy => by
 obtain ⟨j, hj, e⟩ := List.getElem_of_mem hy
 have h9 := h.2 j
 unfold Nt.co at h9
 rw [List.getD_eq_getElem?_getD, List.getElem?_eq_getElem hj, Option.getD_some, e] at h9
 exact h9
end
end Go.Proofs.YtnedhbidmfoegaaGreat.Nt
namespace Go.Proofs.YtnedhbidmfoegaaGreat.Nt
open Go.RowKit
open Pol
set_option linter.unusedVariables false
section
variable {p q r : List Rat} {g h u v : Pol} {x y : Rat} {n : Int}
end
end Go.Proofs.YtnedhbidmfoegaaGreat.Nt
namespace Go.Proofs.YtnedhbidmfoegaaGreat.Nt
open Go.RowKit
open Pol
set_option linter.unusedVariables false
set_option exponentiation.threshold 1000 in
theorem any8 {l : List Rat} (h : ∀ x ∈ l, rs x ≤ 2) (h8 : l.length ≤ 8) : ∃ D, D ≤ 2 ^ 576 ∧ Sm l D 576 := by
 obtain ⟨D, h1, h2⟩ := Sm.any h
 exact ⟨D, Nat.le_trans h1 (Nat.pow_le_pow_right (by decide) (by omega)), h2.more (by omega)⟩
def DMR (l m ql rl : List Rat) (e : Int) : Prop := (e = 3 ∧ trimQ m = [] ∧ ql = [] ∧ rl = []) ∨ (e = 0 ∧ trimQ m ≠ [] ∧ ∃ q r : Pol, ql = q.l ∧ rl = r.l ∧ mk' l = q * mk' m + r ∧ r.len < (mk' m).len)
theorem DMR.len {l m a b : List Rat} {e : Int} (h : DMR l m a b e) : a.length ≤ l.length ∧ b.length ≤ m.length := by
 rcases h with ⟨h1, h2, h3, h4⟩ | ⟨h1, h2, q, r, h3, h4, h5, h6⟩
 ·rw [h3, h4]; exact ⟨Nat.zero_le _, Nat.zero_le _⟩
 ·have := div_lenL h5 h6
  rw [h3, h4]; omega
end Go.Proofs.YtnedhbidmfoegaaGreat.Nt
namespace Go.Proofs.YtnedhbidmfoegaaGreat
open Go.RowKit
set_option linter.unusedVariables false
set_option maxHeartbeats 2000000 in
theorem k_poSub {u w : World} {x : Sl} {l : List Rat} {y : Sl} {m : List Rat} {K M : Nat} (d : Dat u w) (hx : PolV u x l K) (hy : PolV u y m M) (hK : K ≤ 40000000) (hM : M ≤ 40000000) (hx9 : l.length ≤ 1000000000) (hy9 : m.length ≤ 1000000000) : Calls Tryz.prog 94 #[x.v, y.v] w (Post u w fun v u' => ∃ y : Sl, v = y.v ∧ PolN u' y (Nt.trimQ (Nt.addQ l (m.map (fun z => -z)))) (K + M + 1)) := by
 have hlen := hx.len
 have hlen2 := hy.len
 refine zzl (args := [.slice x.a x.n x.c, .slice y.a y.n y.c]) Tryz.func94 rfl Tryz.ntmps94 (rs := [.tmp 4]) Tryz.results94 (le_b rfl) (le_b rfl) d ?_
 refine sq9 ?_
 refine zza 4 (.v (.slice none 0 0)) ?_
 refine zzb 27 [(0, .v x.v), (1, .v y.v)] [] ?_
 refine sq9 ?_
 refine zza 7 (.v y.v) ?_
 refine zza 8 (.v (.int .i64 (y.n : Int))) ?_
 refine sy_make 9 (T := 41) (E := 26) (z := .agg #[.bool false, .slice none 0 0, .slice none 0 0]) (size := 3) (bytes := 56) y.n (rcs (List.replicate y.n rl0)) (by kernel_rfl) (by kernel_rfl) rfl rfl (by omega) (by unfold maxLen; omega) (made_rcs _) ?_
 refine zza 5 (.slc 9 0 y.n y.n) ?_
 refine zzb 27 [(0, .v x.v), (1, .v y.v), (5, .slc 9 0 y.n y.n)] [(9, ⟨26, rcs (List.replicate y.n rl0)⟩)] ?_
 refine zzc ?_
 refine sq9 ?_
 refine zza 10 (.slc 9 0 y.n y.n) ?_
 refine zza 11 (.v (.int .i64 (y.n : Int))) ?_
 refine zza 12 (.v (.int .i64 0)) ?_
 refine zzb 27 [(0, .v x.v), (1, .v y.v), (5, .slc 9 0 y.n y.n), (11, .v (.int .i64 (y.n : Int))), (12, .v (.int .i64 0))] [(9, ⟨26, rcs (List.replicate y.n rl0)⟩)] ?_
 refine zzs ?_
 refine zym (I := fun m11 S' u' => ∃ (i : Nat) (L : List RL), (m11 = y.n - i) ∧ (i ≤ y.n) ∧ (L.length = y.n) ∧ (S' = St.of 27 [(0, .v (.slice x.a x.n x.c)), (1, .v (.slice y.a y.n y.c)), (5, .slc 9 0 y.n y.n), (11, .v (.int .i64 (y.n : Int))), (12, .v (.int .i64 (i : Int)))] [(9, ⟨26, rcs L⟩)]) ∧ (Ext u u') ∧ (RatsN u' (L.take i) ((m.map (fun z => -z)).take i) M)) (fun m S u1 u2 e h => by obtain ⟨i, L, hm, p0, p1, hS, hE, f0⟩ := h; exact ⟨i, L, hm, p0, p1, hS, hE.trans e, f0.ext e⟩) _ (T := St.of 27 [(0, .v (.slice x.a x.n x.c)), (1, .v (.slice y.a y.n y.c)), (5, .slc 9 0 y.n y.n), (11, .v (.int .i64 (y.n : Int))), (12, .v (.int .i64 0))] [(9, ⟨26, rcs (List.replicate y.n rl0)⟩)]) (by exact zzu _ _ _) ⟨0, List.replicate y.n rl0, rfl, by omega, by simp, rfl, Ext.refl _, RatsN.tnil _ _ _ _⟩ ?_
 rintro m11 _ u11 ⟨i, L, hm11, hi, hL, rfl, e11, hR⟩
 refine sq9 ?_
 refine zza 13 (.v (.bool (decide ((i : Int) < (y.n : Int))))) ?_
 refine zzb 27 [(0, .v x.v), (1, .v y.v), (5, .slc 9 0 y.n y.n), (11, .v (.int .i64 (y.n : Int))), (12, .v (.int .i64 (i : Int))), (13, .v (.bool (decide ((i : Int) < (y.n : Int)))))] [(9, ⟨26, rcs L⟩)] ?_
 refine zzc ?_
 refine zzt (b := decide ((i : Int) < (y.n : Int))) (by kernel_rfl) (fun hb12 => ?_) (fun hb12 => ?_)
 ·replace hb12 : (decide ((i : Int) < (y.n : Int))) = true := hb12
  have qhb12 := of_decide_eq_true hb12
  refine zzr (zzo ?_)
  refine zzc ?_
  refine zzs ?_
  refine sq9 ?_
  refine zza 14 (.v (.int .i64 (i : Int))) ?_
  refine zza 6 (.v (.int .i64 (i : Int))) ?_
  refine zzb 27 [(0, .v x.v), (1, .v y.v), (5, .slc 9 0 y.n y.n), (6, .v (.int .i64 (i : Int))), (11, .v (.int .i64 (y.n : Int))), (12, .v (.int .i64 (i : Int)))] [(9, ⟨26, rcs L⟩)] ?_
  refine zze ?_
  refine zza 15 (.slc 9 0 y.n y.n) ?_
  refine zza 16 (.v (.int .i64 (i : Int))) ?_
  refine zza 17 (.v y.v) ?_
  refine zza 18 (.v (.int .i64 (i : Int))) ?_
  have hl13 := (hy.ext e11).len
  obtain ⟨r13, b13, o13, hA13, hc13, hr13⟩ := pol_at (hy.ext e11) (i := i) (by omega)
  refine zzz 19 (o13 + i * 3) (n := y.n) (off := o13) (sz := 3) (i := (i : Int)) (by omega) hA13 (by omega) (by omega) sl41 ?_
  refine zyl 20 r13.cs hc13 ty26 ?_
  refine zzf 21 144 [r13.v] ?_
  intro w14 u14 e14 d14
  have k19 := k_ratNeg d14 (hr13.ext e14) (by omega)
  with_reducible refine Post.mono k19 ?_
  rintro _ u17 g18 ⟨r15, rfl, h16⟩
  refine zyv 22 (off' := i * 3) (n := y.n) (off := 0) (sz := 3) (i := (i : Int)) sl41 (by omega) (by omega) (by omega) ?_
  refine zyu (V := ⟨26, rcs L⟩) (off := i * 3) (rcs ((L).set i r15)) ty26 (by rw [zyx]; first|omega|(simp;omega)) (zyw (r := r15) (i := i) (by first|omega|(simp;omega)) rfl) ?_
  refine zzw ?_
  refine zzo ?_
  refine zze ?_
  refine zyp 23 (x := .v (.int .i64 (IntKind.i64.wrap ((i : Int) + 1)))) (.v (.int .i64 ((i + 1 : Nat) : Int))) (eqI (by rw [IntWalk.i64_in _ (by omega)]; omega)) ?_
  refine zza 12 (.v (.int .i64 ((i + 1 : Nat) : Int))) ?_
  refine zzw ?_
  have ht20 : i < (m.map (fun z => -z)).length := by rw [List.length_map]; omega
  refine ⟨_, ?_, St.of 27 [(0, .v (.slice x.a x.n x.c)), (1, .v (.slice y.a y.n y.c)), (5, .slc 9 0 y.n y.n), (11, .v (.int .i64 (y.n : Int))), (12, .v (.int .i64 ((i + 1 : Nat) : Int)))] [(9, ⟨26, rcs ((L).set i r15)⟩)], by exact zzu _ _ _, i + 1, (L).set i r15, rfl, by omega, by simpa using hL, rfl, (e11.trans (e14.trans g18.ext)), RatsN.tstep (hR.ext (e14.trans g18.ext)) (by omega) ht20 (RatN.more (K := M) h16 (by omega)) (by simp [List.getElem?_eq_getElem (show i < m.length by omega)])⟩
  omega
 ·replace hb12 : (decide ((i : Int) < (y.n : Int))) = false := hb12
  have qhb12 := of_decide_eq_false hb12
  refine zyb ?_
  refine zzo ?_
  refine zzc ?_
  refine zyo (r := 5) (t := 9) [5, 9] (by repeat first | exact noAt_of | refine zyc ?_ | refine zye ?_ | refine zyd ?_ | refine zzx ?_ | refine zya ?_) (by kernel_rfl) (by rfl) (by rfl) (by kernel_rfl) (fun b21 u22 e23 hb24 hh25 => ?_)
  have hp26 : PolN u22 ⟨some ⟨b21, 0, none⟩, y.n, y.n⟩ (m.map (fun z => -z)) M := pol_data1 hh25 (by unfold maxLen; omega) (RatsN.tdone (hR.ext e23) (by omega) (by rw [List.length_map]; omega)) (by omega)
  refine zze ?_
  refine zza 24 (.v x.v) ?_
  refine zza 25 (.v (.slice (some ⟨b21, 0, none⟩) y.n y.n)) ?_
  refine zzf 26 54 [x.v, .slice (some ⟨b21, 0, none⟩) y.n y.n] ?_
  intro w27 u27 e27 d27
  have k32 := k_poAdd d27 (hx.ext (e11.trans (e23.trans e27))) (hp26.ext e27).raw (by omega) (by omega) (by first|omega|(simp;omega) | (refine Nat.le_trans (Nt.zzg _) ?_; first|omega|(simp;omega)) | (refine Nat.le_trans (Nt.zzg _) ?_; simp only [List.length_map]; refine Nat.le_trans (Nt.zzg _) ?_; first|omega|(simp;omega))) (by first|omega|(simp;omega) | (refine Nat.le_trans (Nt.zzg _) ?_; first|omega|(simp;omega)) | (refine Nat.le_trans (Nt.zzg _) ?_; simp only [List.length_map]; refine Nat.le_trans (Nt.zzg _) ?_; first|omega|(simp;omega)))
  with_reducible refine Post.mono k32 ?_
  rintro _ u30 g31 ⟨y28, rfl, h29⟩
  have hly28 := h29.len
  refine zza 4 (.v y28.v) ?_
  refine zzb 27 [(4, .v y28.v)] [] ?_
  refine zzn (ret0 [.slice y28.a y28.n y28.c] ⟨zzp, trivial⟩ fun u33 e34 => ?_)
  refine ⟨y28, rfl, ?_⟩
  exact (h29.ext e34)
set_option maxHeartbeats 2000000 in
theorem k_poSame {u w : World} {x : Sl} {l : List Rat} {y : Sl} {m : List Rat} {K M : Nat} (d : Dat u w) (hx : PolV u x l K) (hy : PolV u y m M) (hK : K ≤ 40000000) (hM : M ≤ 40000000) (hx9 : l.length ≤ 1000000000) (hy9 : m.length ≤ 1000000000) : Calls Tryz.prog 84 #[x.v, y.v] w (Post u w fun v u' => v = .bool (decide (Nt.trimQ l = Nt.trimQ m))) := by
 have hlen := hx.len
 have hlen2 := hy.len
 have htl := Nt.zzg l
 have htm := Nt.zzg m
 refine zzl (args := [.slice x.a x.n x.c, .slice y.a y.n y.c]) Tryz.func84 rfl Tryz.ntmps84 (rs := [.tmp 4]) Tryz.results84 (le_b rfl) (le_b rfl) d ?_
 refine sq9 ?_
 refine zza 4 (.v (.bool false)) ?_
 refine zzb 33 [(0, .v x.v), (1, .v y.v)] [] ?_
 refine sq9 ?_
 refine zza 8 (.v x.v) ?_
 refine zzf 9 118 [x.v] ?_
 intro w11 u11 e11 d11
 have k14 := k_cut d11 (hx.ext e11) (by omega) (by first|omega|(simp;omega) | (refine Nat.le_trans (Nt.zzg _) ?_; first|omega|(simp;omega)) | (refine Nat.le_trans (Nt.zzg _) ?_; simp only [List.length_map]; refine Nat.le_trans (Nt.zzg _) ?_; first|omega|(simp;omega)))
 with_reducible refine Post.mono k14 ?_
 rintro _ u12 g13 rfl
 refine zza 10 (.v y.v) ?_
 refine zzf 11 118 [y.v] ?_
 intro w15 u15 e15 d15
 have k18 := k_cut d15 (hy.ext (e11.trans (g13.ext.trans e15))) (by omega) (by first|omega|(simp;omega) | (refine Nat.le_trans (Nt.zzg _) ?_; first|omega|(simp;omega)) | (refine Nat.le_trans (Nt.zzg _) ?_; simp only [List.length_map]; refine Nat.le_trans (Nt.zzg _) ?_; first|omega|(simp;omega)))
 with_reducible refine Post.mono k18 ?_
 rintro _ u16 g17 rfl
 refine zza 5 (.v (.slice x.a (Nt.trimQ l).length x.c)) ?_
 refine zza 6 (.v (.slice y.a (Nt.trimQ m).length y.c)) ?_
 refine zzb 33 [(5, .v (.slice x.a (Nt.trimQ l).length x.c)), (6, .v (.slice y.a (Nt.trimQ m).length y.c))] [] ?_
 refine zzc ?_
 refine sq9 ?_
 refine zza 12 (.v (.slice x.a (Nt.trimQ l).length x.c)) ?_
 refine zza 13 (.v (.int .i64 (((Nt.trimQ l).length : Nat) : Int))) ?_
 refine zza 14 (.v (.slice y.a (Nt.trimQ m).length y.c)) ?_
 refine zza 15 (.v (.int .i64 (((Nt.trimQ m).length : Nat) : Int))) ?_
 refine zza 16 (.v (.bool ((((Nt.trimQ l).length : Nat) : Int) != (((Nt.trimQ m).length : Nat) : Int)))) ?_
 refine zzb 33 [(5, .v (.slice x.a (Nt.trimQ l).length x.c)), (6, .v (.slice y.a (Nt.trimQ m).length y.c)), (16, .v (.bool ((((Nt.trimQ l).length : Nat) : Int) != (((Nt.trimQ m).length : Nat) : Int))))] [] ?_
 refine zzt (b := (((Nt.trimQ l).length : Nat) : Int) != (((Nt.trimQ m).length : Nat) : Int)) (by kernel_rfl) (fun hb19 => ?_) (fun hb19 => ?_)
 ·replace hb19 : ((((Nt.trimQ l).length : Nat) : Int) != (((Nt.trimQ m).length : Nat) : Int)) = true := hb19
  refine sq9 ?_
  refine zza 4 (.v (.bool false)) ?_
  refine zzb 33 [(4, .v (.bool false))] [] ?_
  refine zzn (zzv (ret0 [.bool false] ⟨zzp, trivial⟩ fun u20 e21 => ?_))
  have e9 : (Nt.trimQ l) ≠ (Nt.trimQ m) := by intro e; have h9 := congrArg List.length e; have h8 := hb19; simp at h8; omega
  show Value.bool false = Value.bool _
  rw [decide_eq_false e9]
 ·replace hb19 : ((((Nt.trimQ l).length : Nat) : Int) != (((Nt.trimQ m).length : Nat) : Int)) = false := hb19
  have hnn : (Nt.trimQ l).length = (Nt.trimQ m).length := by have h9 : ((Nt.trimQ l).length : Int) = ((Nt.trimQ m).length : Int) := (by simpa using hb19); omega
  refine zzr (zzo ?_)
  refine zzc ?_
  refine sq9 ?_
  refine zza 17 (.v (.slice x.a (Nt.trimQ l).length x.c)) ?_
  refine zza 18 (.v (.int .i64 (((Nt.trimQ l).length : Nat) : Int))) ?_
  refine zza 19 (.v (.int .i64 0)) ?_
  refine zzb 33 [(5, .v (.slice x.a (Nt.trimQ l).length x.c)), (6, .v (.slice y.a (Nt.trimQ m).length y.c)), (18, .v (.int .i64 (((Nt.trimQ l).length : Nat) : Int))), (19, .v (.int .i64 0))] [] ?_
  refine zzs ?_
  refine zym (I := fun m22 S' u' => ∃ (i : Nat), (m22 = (Nt.trimQ l).length - i) ∧ (i ≤ (Nt.trimQ l).length) ∧ (∀ j, j < i → (Nt.trimQ l).getD j 0 = (Nt.trimQ m).getD j 0) ∧ (S' = St.of 33 [(5, .v (.slice x.a (Nt.trimQ l).length x.c)), (6, .v (.slice y.a (Nt.trimQ m).length y.c)), (18, .v (.int .i64 (((Nt.trimQ l).length : Nat) : Int))), (19, .v (.int .i64 (i : Int)))] []) ∧ (Ext u16 u')) (fun m S u1 u2 e h => by obtain ⟨i, hm, p0, p1, hS, hE⟩ := h; exact ⟨i, hm, p0, p1, hS, hE.trans e⟩) _ (T := St.of 33 [(5, .v (.slice x.a (Nt.trimQ l).length x.c)), (6, .v (.slice y.a (Nt.trimQ m).length y.c)), (18, .v (.int .i64 (((Nt.trimQ l).length : Nat) : Int))), (19, .v (.int .i64 0))] []) (by exact zzu _ _ _) ⟨0, rfl, by omega, fun j hj => absurd hj (Nat.not_lt_zero j), rfl, Ext.refl _⟩ ?_
  rintro m22 _ u22 ⟨i, hm22, hi, hz, rfl, e22⟩
  refine sq9 ?_
  refine zza 20 (.v (.bool (decide ((i : Int) < (((Nt.trimQ l).length : Nat) : Int))))) ?_
  refine zzb 33 [(5, .v (.slice x.a (Nt.trimQ l).length x.c)), (6, .v (.slice y.a (Nt.trimQ m).length y.c)), (18, .v (.int .i64 (((Nt.trimQ l).length : Nat) : Int))), (19, .v (.int .i64 (i : Int))), (20, .v (.bool (decide ((i : Int) < (((Nt.trimQ l).length : Nat) : Int)))))] [] ?_
  refine zzc ?_
  refine zzt (b := decide ((i : Int) < (((Nt.trimQ l).length : Nat) : Int))) (by kernel_rfl) (fun hb23 => ?_) (fun hb23 => ?_)
  ·replace hb23 : (decide ((i : Int) < (((Nt.trimQ l).length : Nat) : Int))) = true := hb23
   have qhb23 := of_decide_eq_true hb23
   refine zzr (zzo ?_)
   refine zzc ?_
   refine zzs ?_
   refine sq9 ?_
   refine zza 21 (.v (.int .i64 (i : Int))) ?_
   refine zza 7 (.v (.int .i64 (i : Int))) ?_
   refine zzb 33 [(5, .v (.slice x.a (Nt.trimQ l).length x.c)), (6, .v (.slice y.a (Nt.trimQ m).length y.c)), (7, .v (.int .i64 (i : Int))), (18, .v (.int .i64 (((Nt.trimQ l).length : Nat) : Int))), (19, .v (.int .i64 (i : Int)))] [] ?_
   refine zzc ?_
   refine zzy [0, 0, 3, 7, 0, 0, 48, 112, 255, 511] [(0, []), (1, []), (2, []), (3, []), (4, []), (5, []), (6, []), (7, []), (8, []), (9, [])] (by kernel_rfl) (by kernel_rfl) ?_
   refine zza 22 (.v (.slice x.a (Nt.trimQ l).length x.c)) ?_
   refine zza 23 (.v (.int .i64 (i : Int))) ?_
   have hl24 := ((cut_V (hx.ext (e11.trans g13.ext))).ext (e15.trans (g17.ext.trans e22))).len
   change (Nt.trimQ l).length = _ at hl24
   obtain ⟨r24, b24, o24, hA24, hc24, hr24⟩ := pol_at ((cut_V (hx.ext (e11.trans g13.ext))).ext (e15.trans (g17.ext.trans e22))) (i := i) (by omega)
   refine zzz 24 (o24 + i * 3) (n := (Nt.trimQ l).length) (off := o24) (sz := 3) (i := (i : Int)) (by omega) hA24 (by omega) (by omega) sl41 ?_
   refine zyl 25 r24.cs hc24 ty26 ?_
   refine zza 26 (.v (.slice y.a (Nt.trimQ m).length y.c)) ?_
   refine zza 27 (.v (.int .i64 (i : Int))) ?_
   have hl25 := ((cut_V (hy.ext (e11.trans (g13.ext.trans (e15.trans g17.ext))))).ext e22).len
   change (Nt.trimQ m).length = _ at hl25
   obtain ⟨r25, b25, o25, hA25, hc25, hr25⟩ := pol_at ((cut_V (hy.ext (e11.trans (g13.ext.trans (e15.trans g17.ext))))).ext e22) (i := i) (by omega)
   refine zzz 28 (o25 + i * 3) (n := (Nt.trimQ m).length) (off := o25) (sz := 3) (i := (i : Int)) (by omega) hA25 (by omega) (by omega) sl41 ?_
   refine zyl 29 r25.cs hc25 ty26 ?_
   refine zzf 30 114 [r24.v, r25.v] ?_
   intro w26 u26 e26 d26
   have k29 := k_ratCompare d26 (hr24.ext e26) (hr25.ext e26) (by omega) (by omega)
   with_reducible refine Post.mono k29 ?_
   rintro _ u27 g28 rfl
   refine zza 31 (.v (.bool ((Nt.cmpQ ((Nt.trimQ l).getD i 0) ((Nt.trimQ m).getD i 0)) != 0))) ?_
   refine zzb 33 [(5, .v (.slice x.a (Nt.trimQ l).length x.c)), (6, .v (.slice y.a (Nt.trimQ m).length y.c)), (18, .v (.int .i64 (((Nt.trimQ l).length : Nat) : Int))), (19, .v (.int .i64 (i : Int))), (31, .v (.bool ((Nt.cmpQ ((Nt.trimQ l).getD i 0) ((Nt.trimQ m).getD i 0)) != 0)))] [] ?_
   refine zzt (b := (Nt.cmpQ ((Nt.trimQ l).getD i 0) ((Nt.trimQ m).getD i 0)) != 0) (by kernel_rfl) (fun hb30 => ?_) (fun hb30 => ?_)
   ·replace hb30 : ((Nt.cmpQ ((Nt.trimQ l).getD i 0) ((Nt.trimQ m).getD i 0)) != 0) = true := hb30
    refine sq9 ?_
    refine zza 4 (.v (.bool false)) ?_
    refine zzb 33 [(4, .v (.bool false))] [] ?_
    refine zzn (zyt (zzv (zys (zyt (zzv (ret0 [.bool false] ⟨zzp, trivial⟩ fun u31 e32 => ?_))))))
    have e9 : (Nt.trimQ l) ≠ (Nt.trimQ m) := by intro e; have h9 := hb30; rw [e] at h9; simp [bne, Nt.cmpQ_eq] at h9
    show Value.bool false = Value.bool _
    rw [decide_eq_false e9]
   ·replace hb30 : ((Nt.cmpQ ((Nt.trimQ l).getD i 0) ((Nt.trimQ m).getD i 0)) != 0) = false := hb30
    refine zzr (zzo ?_)
    refine zze ?_
    refine zyp 32 (x := .v (.int .i64 (IntKind.i64.wrap ((i : Int) + 1)))) (.v (.int .i64 ((i + 1 : Nat) : Int))) (eqI (by rw [IntWalk.i64_in _ (by omega)]; omega)) ?_
    refine zza 19 (.v (.int .i64 ((i + 1 : Nat) : Int))) ?_
    refine zzw ?_
    refine ⟨_, ?_, St.of 33 [(5, .v (.slice x.a (Nt.trimQ l).length x.c)), (6, .v (.slice y.a (Nt.trimQ m).length y.c)), (18, .v (.int .i64 (((Nt.trimQ l).length : Nat) : Int))), (19, .v (.int .i64 ((i + 1 : Nat) : Int)))] [], by exact zzu _ _ _, i + 1, rfl, by omega, (fun j hj => by by_cases e : j = i; (rw [e]; have h9 := hb30; simpa [bne, Nt.cmpQ_eq] using h9); exact hz j (by omega)), rfl, (e22.trans (e26.trans g28.ext))⟩
    omega
  ·replace hb23 : (decide ((i : Int) < (((Nt.trimQ l).length : Nat) : Int))) = false := hb23
   have qhb23 := of_decide_eq_false hb23
   refine zyb ?_
   refine zzo ?_
   refine sq9 ?_
   refine zza 4 (.v (.bool true)) ?_
   refine zzb 33 [(4, .v (.bool true))] [] ?_
   refine zzn (ret0 [.bool true] ⟨zzp, trivial⟩ fun u33 e34 => ?_)
   have e9 : (Nt.trimQ l) = (Nt.trimQ m) := Nt.list_ext (by omega) (fun j => by by_cases hj : j < i; exact hz j hj; rw [Nt.co_ge (by omega), Nt.co_ge (by omega)])
   show Value.bool true = Value.bool _
   rw [decide_eq_true e9]
set_option maxHeartbeats 1000000 in
theorem k_r5Same {u w : World} {x : Sl} {l : List Rat} {y : Sl} {m : List Rat} {K M : Nat} (d : Dat u w) (hx : PolV u x l K) (hy : PolV u y m M) (hK : K ≤ 40000000) (hM : M ≤ 40000000) (hx9 : l.length ≤ 1000000000) (hy9 : m.length ≤ 1000000000) : Calls Tryz.prog 85 #[x.v, y.v] w (Post u w fun v u' => v = .bool (decide (Nt.trimQ l = Nt.trimQ m))) := by
 have hlen := hx.len
 have hlen2 := hy.len
 have htl := Nt.zzg l
 have htm := Nt.zzg m
 refine zzl (args := [.slice x.a x.n x.c, .slice y.a y.n y.c]) Tryz.func85 rfl Tryz.ntmps85 (rs := [.tmp 4]) Tryz.results85 (le_b rfl) (le_b rfl) d ?_
 refine sq9 ?_
 refine zza 4 (.v (.bool false)) ?_
 refine zzb 10 [(0, .v x.v), (1, .v y.v)] [] ?_
 refine sq9 ?_
 refine zza 5 (.v x.v) ?_
 refine zzf 6 87 [x.v] ?_
 intro w11 u11 e11 d11
 have k16 := k_r5Trim d11 (hx.ext e11) (by omega) (by first|omega|(simp;omega) | (refine Nat.le_trans (Nt.zzg _) ?_; first|omega|(simp;omega)) | (refine Nat.le_trans (Nt.zzg _) ?_; simp only [List.length_map]; refine Nat.le_trans (Nt.zzg _) ?_; first|omega|(simp;omega)))
 with_reducible refine Post.mono k16 ?_
 rintro _ u14 g15 ⟨y12, rfl, h13⟩
 have hly12 := h13.len
 refine zza 7 (.v y.v) ?_
 refine zzf 8 87 [y.v] ?_
 intro w17 u17 e17 d17
 have k22 := k_r5Trim d17 (hy.ext (e11.trans (g15.ext.trans e17))) (by omega) (by first|omega|(simp;omega) | (refine Nat.le_trans (Nt.zzg _) ?_; first|omega|(simp;omega)) | (refine Nat.le_trans (Nt.zzg _) ?_; simp only [List.length_map]; refine Nat.le_trans (Nt.zzg _) ?_; first|omega|(simp;omega)))
 with_reducible refine Post.mono k22 ?_
 rintro _ u20 g21 ⟨y18, rfl, h19⟩
 have hly18 := h19.len
 refine zzf 9 29 [y12.v, y18.v] ?_
 intro w23 u23 e23 d23
 have k26 := k_r5Equal d23 (h13.ext (e17.trans (g21.ext.trans e23))) (h19.ext e23) (by first|omega|(simp;omega) | (refine Nat.le_trans (Nt.zzg _) ?_; first|omega|(simp;omega)) | (refine Nat.le_trans (Nt.zzg _) ?_; simp only [List.length_map]; refine Nat.le_trans (Nt.zzg _) ?_; first|omega|(simp;omega))) (by first|omega|(simp;omega) | (refine Nat.le_trans (Nt.zzg _) ?_; first|omega|(simp;omega)) | (refine Nat.le_trans (Nt.zzg _) ?_; simp only [List.length_map]; refine Nat.le_trans (Nt.zzg _) ?_; first|omega|(simp;omega)))
 with_reducible refine Post.mono k26 ?_
 rintro _ u24 g25 rfl
 refine zza 4 (.v (.bool (decide ((Nt.trimQ l) = (Nt.trimQ m))))) ?_
 refine zzb 10 [(4, .v (.bool (decide ((Nt.trimQ l) = (Nt.trimQ m)))))] [] ?_
 refine zzn (ret0 [.bool (decide ((Nt.trimQ l) = (Nt.trimQ m)))] ⟨zzp, trivial⟩ fun u27 e28 => ?_)
 rfl
set_option maxHeartbeats 1000000 in
theorem k_r5Degree {u w : World} {x : Sl} {l : List Rat} {K : Nat} (d : Dat u w) (hx : PolV u x l K) (hK : K ≤ 40000000) (hx9 : l.length ≤ 1000000000) : Calls Tryz.prog 83 #[x.v] w (Post u w fun v u' => v = .int .i64 (((Nt.trimQ l).length : Int) - 1)) := by
 have hlen := hx.len
 have htl := Nt.zzg l
 refine zzl (args := [.slice x.a x.n x.c]) Tryz.func83 rfl Tryz.ntmps83 (rs := [.tmp 2]) Tryz.results83 (le_b rfl) (le_b rfl) d ?_
 refine sq9 ?_
 refine zza 2 (.v (.int .i64 0)) ?_
 refine zzb 7 [(0, .v x.v)] [] ?_
 refine sq9 ?_
 refine zza 3 (.v x.v) ?_
 refine zzf 4 87 [x.v] ?_
 intro w11 u11 e11 d11
 have k16 := k_r5Trim d11 (hx.ext e11) (by omega) (by first|omega|(simp;omega) | (refine Nat.le_trans (Nt.zzg _) ?_; first|omega|(simp;omega)) | (refine Nat.le_trans (Nt.zzg _) ?_; simp only [List.length_map]; refine Nat.le_trans (Nt.zzg _) ?_; first|omega|(simp;omega)))
 with_reducible refine Post.mono k16 ?_
 rintro _ u14 g15 ⟨y12, rfl, h13⟩
 have hly12 := h13.len
 refine zza 5 (.v (.int .i64 (y12.n : Int))) ?_
 refine zyp 6 (x := .v (.int .i64 (IntKind.i64.wrap ((y12.n : Int) - 1)))) (.v (.int .i64 ((y12.n : Int) - 1))) (eqI (by rw [IntWalk.i64_in _ (by omega)])) ?_
 refine zza 2 (.v (.int .i64 ((y12.n : Int) - 1))) ?_
 refine zzb 7 [(2, .v (.int .i64 ((y12.n : Int) - 1)))] [] ?_
 refine zzn (ret0 [.int .i64 ((y12.n : Int) - 1)] ⟨zzp, trivial⟩ fun u17 e18 => ?_)
 show Value.int _ _ = Value.int _ _
 rw [show ((y12.n : Int) - 1) = (((Nt.trimQ l).length : Int) - 1) by omega]
set_option maxHeartbeats 1000000 in
theorem k_r5At {u w : World} {x : Sl} {l : List Rat} {K i : Nat} (d : Dat u w) (hx : PolV u x l K) (hK : K ≤ 40000000) (hx9 : l.length ≤ 1000000000) (hi9 : i ≤ 1000000000) : Calls Tryz.prog 143 #[x.v, .int .i64 (i : Int)] w (Post u w fun v u' => ∃ r : RL, v = r.v ∧ RatN u' r (l.getD i 0) (K + 2)) := by
 have hlen := hx.len
 refine zzl (args := [.slice x.a x.n x.c, .int .i64 (i : Int)]) Tryz.func143 rfl Tryz.ntmps143 (rs := [.cell 4 26]) Tryz.results143 (le_b rfl) (le_b rfl) d ?_
 refine sq9 ?_
 refine zzj 4 ⟨26, [.bool false, .slice none 0 0, .slice none 0 0]⟩ ?_
 refine zzb 19 [(0, .v x.v), (1, .v (.int .i64 (i : Int))), (4, .adr 4 0)] [(4, ⟨26, [.bool false, .slice none 0 0, .slice none 0 0]⟩)] ?_
 refine zzc ?_
 refine sq9 ?_
 refine zza 5 (.v (.int .i64 (i : Int))) ?_
 refine zza 6 (.v (.bool (decide ((i : Int) < 0)))) ?_
 refine zyp 7 (x := .v (.bool (decide ((i : Int) < 0)))) (.v (.bool false)) (by rw [show (decide ((i : Int) < 0)) = false from decide_eq_false (by omega)]) ?_
 refine zza 8 (.v (.int .i64 (i : Int))) ?_ (hw := w1 2 false 7)
 refine zza 9 (.v x.v) ?_ (hw := w1 2 false 7)
 refine zza 10 (.v (.int .i64 (x.n : Int))) ?_ (hw := w1 2 false 7)
 refine zza 11 (.v (.bool (decide ((x.n : Int) ≤ (i : Int))))) ?_ (hw := w1 2 false 7)
 refine zza 12 (.v (.bool (decide ((x.n : Int) ≤ (i : Int))))) ?_
 refine zzb 19 [(0, .v x.v), (1, .v (.int .i64 (i : Int))), (4, .adr 4 0), (12, .v (.bool (decide ((x.n : Int) ≤ (i : Int)))))] [(4, ⟨26, [.bool false, .slice none 0 0, .slice none 0 0]⟩)] ?_
 refine zzt (b := decide ((x.n : Int) ≤ (i : Int))) (by kernel_rfl) (fun hb12 => ?_) (fun hb12 => ?_)
 ·replace hb12 : (decide ((x.n : Int) ≤ (i : Int))) = true := hb12
  have qhb12 := of_decide_eq_true hb12
  refine sq9 ?_
  refine zzf 13 41 [.int .i64 0] ?_
  intro w13 u13 e13 d13
  have k18 := k_rqOf d13 (z := 0) (by omega) (by omega)
  with_reducible refine Post.mono k18 ?_
  rintro _ u16 g17 ⟨r14, rfl, h15⟩
  refine zzi ⟨26, r14.cs⟩ ty26 ?_
  refine zzb 19 [(4, .adr 4 0)] [(4, ⟨26, r14.cs⟩)] ?_
  refine zzn (zzv (ret0 [r14.v] ⟨zzq ty26 zzd, trivial⟩ fun u19 e20 => ?_))
  have e9 : l.getD i 0 = ((0 : Int) : Rat) := Nt.co_ge (by omega)
  rw [e9]
  exact ⟨r14, rfl, RatN.more (K := 2) (h15.ext e20) (by omega)⟩
 ·replace hb12 : (decide ((x.n : Int) ≤ (i : Int))) = false := hb12
  have qhb12 := of_decide_eq_false hb12
  refine zzr (zzo ?_)
  refine sq9 ?_
  refine zza 14 (.v x.v) ?_
  refine zza 15 (.v (.int .i64 (i : Int))) ?_
  have hl21 := hx.len
  obtain ⟨r21, b21, o21, hA21, hc21, hr21⟩ := pol_at hx (i := i) (by omega)
  refine zzz 16 (o21 + i * 3) (n := x.n) (off := o21) (sz := 3) (i := (i : Int)) (by omega) hA21 (by omega) (by omega) sl41 ?_
  refine zyl 17 r21.cs hc21 ty26 ?_
  refine zzf 18 142 [r21.v] ?_
  intro w22 u22 e22 d22
  have k27 := k_rqTrim d22 (hr21.ext e22) (by omega)
  with_reducible refine Post.mono k27 ?_
  rintro _ u25 g26 ⟨r23, rfl, h24⟩
  refine zzi ⟨26, r23.cs⟩ ty26 ?_
  refine zzb 19 [(4, .adr 4 0)] [(4, ⟨26, r23.cs⟩)] ?_
  refine zzn (ret0 [r23.v] ⟨zzq ty26 zzd, trivial⟩ fun u28 e29 => ?_)
  exact ⟨r23, rfl, RatN.more (K := K) (h24.ext e29) (by omega)⟩
set_option maxHeartbeats 4000000 in
theorem k_r5Add {u w : World} {x : Sl} {l : List Rat} {y : Sl} {m : List Rat} {K M : Nat} (d : Dat u w) (hx : PolV u x l K) (hy : PolV u y m M) (hK : K ≤ 20000000) (hM : M ≤ 20000000) (hx9 : l.length ≤ 1000000000) (hy9 : m.length ≤ 1000000000) : Calls Tryz.prog 93 #[x.v, y.v] w (Post u w fun v u' => ∃ y : Sl, v = y.v ∧ PolN u' y (Nt.trimQ (Nt.addQ l m)) (K + M + 6)) := by
 have hlen := hx.len
 have hlen2 := hy.len
 refine zzl (args := [.slice x.a x.n x.c, .slice y.a y.n y.c]) Tryz.func93 rfl Tryz.ntmps93 (rs := [.tmp 4]) Tryz.results93 (le_b rfl) (le_b rfl) d ?_
 refine sq9 ?_
 refine zza 4 (.v (.slice none 0 0)) ?_
 refine zzb 31 [(0, .v x.v), (1, .v y.v)] [] ?_
 refine sq9 ?_
 refine zza 5 (.v (.slice none 0 0)) ?_
 refine zzb 31 [(0, .v x.v), (1, .v y.v), (5, .v (.slice none 0 0))] [] ?_
 refine zzc ?_
 refine sq9 ?_
 refine zza 6 (.v (.int .i64 0)) ?_
 refine zzb 31 [(0, .v x.v), (1, .v y.v), (5, .v (.slice none 0 0)), (6, .v (.int .i64 0))] [] ?_
 refine zzs ?_
 refine zym (I := fun m11 S' u' => (m11 = max x.n y.n ∧ S' = St.of 31 [(0, .v (.slice x.a x.n x.c)), (1, .v (.slice y.a y.n y.c)), (5, .v (.slice none 0 0)), (6, .v (.int .i64 0))] [] ∧ Ext u u') ∨ (∃ (i : Nat) (L : List RL) (cs : List Value) (cp : Nat), m11 = (max x.n y.n) - i ∧ i ≤ max x.n y.n ∧ 0 < i ∧ L.length = i ∧ cs.length = cp * 3 ∧ i ≤ cp ∧ cp ≤ maxLen ∧ cs.take (i * 3) = rcs L ∧ S' = St.of 31 [(0, .v (.slice x.a x.n x.c)), (1, .v (.slice y.a y.n y.c)), (5, .slc 28 0 i cp), (6, .v (.int .i64 (i : Int)))] [(28, ⟨26, cs⟩)] ∧ Ext u u' ∧ RatsN u' L ((Nt.addQ l m).take i) (K + M + 6))) (fun m S u1 u2 e h => by rcases h with ⟨a, b, c⟩ | ⟨a1, a2, a3, a4, b1, b2, b3, b4, b5, b6, b7, b8, b9, b10, b11⟩; exact .inl ⟨a, b, c.trans e⟩; exact .inr ⟨a1, a2, a3, a4, b1, b2, b3, b4, b5, b6, b7, b8, b9, b10.trans e, b11.ext e⟩) _ (T := St.of 31 [(0, .v (.slice x.a x.n x.c)), (1, .v (.slice y.a y.n y.c)), (5, .v (.slice none 0 0)), (6, .v (.int .i64 0))] []) (by exact zzu _ _ _) (.inl ⟨rfl, rfl, Ext.refl _⟩) ?_
 rintro m11 _ u11 (⟨hm11, rfl, e11⟩ | ⟨i, L, cs, cp, hm11, hi, hp, hL, hc, hle, hmx, ht, rfl, e11, hR⟩)
 ·change SW _ _ _ _ (St.of 31 [(0, .v (.slice x.a x.n x.c)), (1, .v (.slice y.a y.n y.c)), (5, .v (.slice none 0 0)), (6, .v (.int .i64 0))] []) _ _
  refine zzc ?_
  refine sq9 ?_
  refine zza 7 (.v (.int .i64 0)) ?_
  refine zza 8 (.v x.v) ?_
  refine zza 9 (.v (.int .i64 (x.n : Int))) ?_
  refine zza 10 (.v (.bool (decide ((0 : Int) < (x.n : Int))))) ?_
  rcases Bool.eq_false_or_eq_true (decide ((0 : Int) < (x.n : Int))) with hs12 | hs12
  ·refine zyp 11 (x := .v (.bool (decide ((0 : Int) < (x.n : Int))))) (.v (.bool true)) (by rw [hs12]) ?_
   have qhs12 := of_decide_eq_true hs12
   refine zzm 12 (uw 4 false true 11) ?_
   refine zzm 13 (uw 4 false true 11) ?_
   refine zzm 14 (uw 4 false true 11) ?_
   refine zzm 15 (uw 4 false true 11) ?_
   refine zza 16 (.v (.bool true)) ?_
   refine zzb 31 [(0, .v x.v), (1, .v y.v), (5, .v (.slice none 0 0)), (6, .v (.int .i64 0)), (16, .v (.bool true))] [] ?_
   refine zyq (by kernel_rfl) ?_
   refine zzr (zzo ?_)
   refine zzc ?_
   refine zzs ?_
   refine zze ?_
   refine zza 19 (.v (.slice none 0 0)) ?_
   refine zza 20 (.v x.v) ?_
   refine zza 21 (.v (.int .i64 0)) ?_
   refine zzf 22 143 [x.v, .int .i64 0] ?_
   intro w13 u13 e13 d13
   have k18 := (show Calls _ _ #[_, .int .i64 (0)] _ _ from k_r5At (i := 0) d13 (hx.ext (e11.trans e13)) (by omega) (by first|omega|(simp;omega) | (refine Nat.le_trans (Nt.zzg _) ?_; first|omega|(simp;omega)) | (refine Nat.le_trans (Nt.zzg _) ?_; simp only [List.length_map]; refine Nat.le_trans (Nt.zzg _) ?_; first|omega|(simp;omega))) (by omega))
   with_reducible refine Post.mono k18 ?_
   rintro _ u16 g17 ⟨r14, rfl, h15⟩
   refine zza 23 (.v y.v) ?_
   refine zza 24 (.v (.int .i64 0)) ?_
   refine zzf 25 143 [y.v, .int .i64 0] ?_
   intro w19 u19 e19 d19
   have k24 := (show Calls _ _ #[_, .int .i64 (0)] _ _ from k_r5At (i := 0) d19 (hy.ext (e11.trans (e13.trans (g17.ext.trans e19)))) (by omega) (by first|omega|(simp;omega) | (refine Nat.le_trans (Nt.zzg _) ?_; first|omega|(simp;omega)) | (refine Nat.le_trans (Nt.zzg _) ?_; simp only [List.length_map]; refine Nat.le_trans (Nt.zzg _) ?_; first|omega|(simp;omega))) (by omega))
   with_reducible refine Post.mono k24 ?_
   rintro _ u22 g23 ⟨r20, rfl, h21⟩
   refine zzf 26 18 [r14.v, r20.v] ?_
   intro w25 u25 e25 d25
   have k30 := k_rqAdd d25 (h15.ext (e19.trans (g23.ext.trans e25))).raw (h21.ext e25).raw (by omega) (by omega)
   with_reducible refine Post.mono k30 ?_
   rintro _ u28 g29 ⟨r26, rfl, h27⟩
   refine sy_data 27 ⟨26, r26.cs⟩ 1 (fun b31 u32 e33 h34 => ?_)
   have hp35 : PolN u32 (⟨some ⟨b31, 0, none⟩, 1, 1⟩ : Sl) [((l.getD 0 0) + (m.getD 0 0))] ((K + 2) + (M + 2) + 2) := pol_lit (L := [r26]) h34 (rats1 (h27.ext e33)) rfl (by decide)
   refine sy_app0 28 (T := 41) (E := 26) (z := .agg #[.bool false, .slice none 0 0, .slice none 0 0]) (size := 3) (bytes := 56) (b := b31) (off := 0) (m := 1) r26.cs (by kernel_rfl) (by kernel_rfl) (by kernel_rfl) (by decide) rfl (lit_news ((Ext.refl _).cells h34)) (rl_one r26) (by decide) (by decide) (by decide) ?_
   intro c36 cs36 ha36 hb36 hc36 hd36
   refine zza 5 (.slc 28 0 1 c36) ?_
   refine zzw ?_
   refine zzo ?_
   refine zze ?_
   refine zza 17 (.v (.int .i64 0)) ?_
   refine zza 18 (.v (.int .i64 1)) ?_
   refine zza 6 (.v (.int .i64 1)) ?_
   refine zzw ?_
   have ht37 : 0 < (Nt.addQ l m).length := by rw [Nt.addQ_len]; omega
   refine ⟨_, ?_, St.of 31 [(0, .v (.slice x.a x.n x.c)), (1, .v (.slice y.a y.n y.c)), (5, .slc 28 0 1 c36), (6, .v (.int .i64 1))] [(28, ⟨26, cs36⟩)], by exact zzu _ _ _, .inr ⟨1, [r26], cs36, c36, rfl, by omega, by omega, by simp, hc36, by omega, hb36, hd36, rfl, (e11.trans (e13.trans (g17.ext.trans (e19.trans (g23.ext.trans (e25.trans (g29.ext.trans e33))))))), (app_first (RatN.more (K := ((K + 2) + (M + 2) + 2)) (h27.ext e33) (by omega)) ht37 (by have h9 := Nt.addQ_co l m (0); unfold Nt.co at h9; exact h9.symm))⟩⟩
   omega
  ·refine zyp 11 (x := .v (.bool (decide ((0 : Int) < (x.n : Int))))) (.v (.bool false)) (by rw [hs12]) ?_
   have qhs12 := of_decide_eq_false hs12
   refine zza 12 (.v (.int .i64 0)) ?_ (hw := w1 4 false 11)
   refine zza 13 (.v y.v) ?_ (hw := w1 4 false 11)
   refine zza 14 (.v (.int .i64 (y.n : Int))) ?_ (hw := w1 4 false 11)
   refine zza 15 (.v (.bool (decide ((0 : Int) < (y.n : Int))))) ?_ (hw := w1 4 false 11)
   refine zza 16 (.v (.bool (decide ((0 : Int) < (y.n : Int))))) ?_
   refine zzb 31 [(0, .v x.v), (1, .v y.v), (5, .v (.slice none 0 0)), (6, .v (.int .i64 0)), (16, .v (.bool (decide ((0 : Int) < (y.n : Int)))))] [] ?_
   refine zzt (b := decide ((0 : Int) < (y.n : Int))) (by kernel_rfl) (fun hb38 => ?_) (fun hb38 => ?_)
   ·replace hb38 : (decide ((0 : Int) < (y.n : Int))) = true := hb38
    have qhb38 := of_decide_eq_true hb38
    refine zzr (zzo ?_)
    refine zzc ?_
    refine zzs ?_
    refine zze ?_
    refine zza 19 (.v (.slice none 0 0)) ?_
    refine zza 20 (.v x.v) ?_
    refine zza 21 (.v (.int .i64 0)) ?_
    refine zzf 22 143 [x.v, .int .i64 0] ?_
    intro w39 u39 e39 d39
    have k44 := (show Calls _ _ #[_, .int .i64 (0)] _ _ from k_r5At (i := 0) d39 (hx.ext (e11.trans e39)) (by omega) (by first|omega|(simp;omega) | (refine Nat.le_trans (Nt.zzg _) ?_; first|omega|(simp;omega)) | (refine Nat.le_trans (Nt.zzg _) ?_; simp only [List.length_map]; refine Nat.le_trans (Nt.zzg _) ?_; first|omega|(simp;omega))) (by omega))
    with_reducible refine Post.mono k44 ?_
    rintro _ u42 g43 ⟨r40, rfl, h41⟩
    refine zza 23 (.v y.v) ?_
    refine zza 24 (.v (.int .i64 0)) ?_
    refine zzf 25 143 [y.v, .int .i64 0] ?_
    intro w45 u45 e45 d45
    have k50 := (show Calls _ _ #[_, .int .i64 (0)] _ _ from k_r5At (i := 0) d45 (hy.ext (e11.trans (e39.trans (g43.ext.trans e45)))) (by omega) (by first|omega|(simp;omega) | (refine Nat.le_trans (Nt.zzg _) ?_; first|omega|(simp;omega)) | (refine Nat.le_trans (Nt.zzg _) ?_; simp only [List.length_map]; refine Nat.le_trans (Nt.zzg _) ?_; first|omega|(simp;omega))) (by omega))
    with_reducible refine Post.mono k50 ?_
    rintro _ u48 g49 ⟨r46, rfl, h47⟩
    refine zzf 26 18 [r40.v, r46.v] ?_
    intro w51 u51 e51 d51
    have k56 := k_rqAdd d51 (h41.ext (e45.trans (g49.ext.trans e51))).raw (h47.ext e51).raw (by omega) (by omega)
    with_reducible refine Post.mono k56 ?_
    rintro _ u54 g55 ⟨r52, rfl, h53⟩
    refine sy_data 27 ⟨26, r52.cs⟩ 1 (fun b57 u58 e59 h60 => ?_)
    have hp61 : PolN u58 (⟨some ⟨b57, 0, none⟩, 1, 1⟩ : Sl) [((l.getD 0 0) + (m.getD 0 0))] ((K + 2) + (M + 2) + 2) := pol_lit (L := [r52]) h60 (rats1 (h53.ext e59)) rfl (by decide)
    refine sy_app0 28 (T := 41) (E := 26) (z := .agg #[.bool false, .slice none 0 0, .slice none 0 0]) (size := 3) (bytes := 56) (b := b57) (off := 0) (m := 1) r52.cs (by kernel_rfl) (by kernel_rfl) (by kernel_rfl) (by decide) rfl (lit_news ((Ext.refl _).cells h60)) (rl_one r52) (by decide) (by decide) (by decide) ?_
    intro c62 cs62 ha62 hb62 hc62 hd62
    refine zza 5 (.slc 28 0 1 c62) ?_
    refine zzw ?_
    refine zzo ?_
    refine zze ?_
    refine zza 17 (.v (.int .i64 0)) ?_
    refine zza 18 (.v (.int .i64 1)) ?_
    refine zza 6 (.v (.int .i64 1)) ?_
    refine zzw ?_
    have ht63 : 0 < (Nt.addQ l m).length := by rw [Nt.addQ_len]; omega
    refine ⟨_, ?_, St.of 31 [(0, .v (.slice x.a x.n x.c)), (1, .v (.slice y.a y.n y.c)), (5, .slc 28 0 1 c62), (6, .v (.int .i64 1))] [(28, ⟨26, cs62⟩)], by exact zzu _ _ _, .inr ⟨1, [r52], cs62, c62, rfl, by omega, by omega, by simp, hc62, by omega, hb62, hd62, rfl, (e11.trans (e39.trans (g43.ext.trans (e45.trans (g49.ext.trans (e51.trans (g55.ext.trans e59))))))), (app_first (RatN.more (K := ((K + 2) + (M + 2) + 2)) (h53.ext e59) (by omega)) ht63 (by have h9 := Nt.addQ_co l m (0); unfold Nt.co at h9; exact h9.symm))⟩⟩
    omega
   ·replace hb38 : (decide ((0 : Int) < (y.n : Int))) = false := hb38
    have qhb38 := of_decide_eq_false hb38
    refine zyb ?_
    refine zzo ?_
    refine zzc ?_
    have hp64 : PolN u11 ⟨none, 0, 0⟩ (Nt.addQ l m) (K + M + 6) := by have h9 : Nt.addQ l m = [] := List.eq_nil_of_length_eq_zero (by rw [Nt.addQ_len]; omega); rw [h9]; exact pol_nil _ _
    refine zze ?_
    refine zza 29 (.v (.slice none 0 0)) ?_
    refine zzf 30 87 [.slice none 0 0] ?_
    intro w65 u65 e65 d65
    have k70 := k_r5Trim d65 (hp64.ext e65).raw (by omega) (by first|omega|(simp;omega) | (refine Nat.le_trans (Nt.zzg _) ?_; first|omega|(simp;omega)) | (refine Nat.le_trans (Nt.zzg _) ?_; simp only [List.length_map]; refine Nat.le_trans (Nt.zzg _) ?_; first|omega|(simp;omega)))
    with_reducible refine Post.mono k70 ?_
    rintro _ u68 g69 ⟨y66, rfl, h67⟩
    have hly66 := h67.len
    refine zza 4 (.v y66.v) ?_
    refine zzb 31 [(4, .v y66.v)] [] ?_
    refine zzn (ret0 [.slice y66.a y66.n y66.c] ⟨zzp, trivial⟩ fun u71 e72 => ?_)
    refine ⟨y66, rfl, ?_⟩
    exact (h67.ext e72)
 ·change SW _ _ _ _ (St.of 31 [(0, .v (.slice x.a x.n x.c)), (1, .v (.slice y.a y.n y.c)), (5, .slc 28 0 i cp), (6, .v (.int .i64 (i : Int)))] [(28, ⟨26, cs⟩)]) _ _
  refine zzc ?_
  refine sq9 ?_
  refine zza 7 (.v (.int .i64 (i : Int))) ?_
  refine zza 8 (.v x.v) ?_
  refine zza 9 (.v (.int .i64 (x.n : Int))) ?_
  refine zza 10 (.v (.bool (decide ((i : Int) < (x.n : Int))))) ?_
  rcases Bool.eq_false_or_eq_true (decide ((i : Int) < (x.n : Int))) with hs73 | hs73
  ·refine zyp 11 (x := .v (.bool (decide ((i : Int) < (x.n : Int))))) (.v (.bool true)) (by rw [hs73]) ?_
   have qhs73 := of_decide_eq_true hs73
   refine zzm 12 (uw 4 false true 11) ?_
   refine zzm 13 (uw 4 false true 11) ?_
   refine zzm 14 (uw 4 false true 11) ?_
   refine zzm 15 (uw 4 false true 11) ?_
   refine zza 16 (.v (.bool true)) ?_
   refine zzb 31 [(0, .v x.v), (1, .v y.v), (5, .slc 28 0 i cp), (6, .v (.int .i64 (i : Int))), (16, .v (.bool true))] [(28, ⟨26, cs⟩)] ?_
   refine zyq (by kernel_rfl) ?_
   refine zzr (zzo ?_)
   refine zzc ?_
   refine zzs ?_
   refine zze ?_
   refine zza 19 (.slc 28 0 i cp) ?_
   refine zza 20 (.v x.v) ?_
   refine zza 21 (.v (.int .i64 (i : Int))) ?_
   refine zzf 22 143 [x.v, .int .i64 (i : Int)] ?_
   intro w74 u74 e74 d74
   have k79 := (show Calls _ _ #[_, .int .i64 ((i : Int))] _ _ from k_r5At (i := i) d74 (hx.ext (e11.trans e74)) (by omega) (by first|omega|(simp;omega) | (refine Nat.le_trans (Nt.zzg _) ?_; first|omega|(simp;omega)) | (refine Nat.le_trans (Nt.zzg _) ?_; simp only [List.length_map]; refine Nat.le_trans (Nt.zzg _) ?_; first|omega|(simp;omega))) (by omega))
   with_reducible refine Post.mono k79 ?_
   rintro _ u77 g78 ⟨r75, rfl, h76⟩
   refine zza 23 (.v y.v) ?_
   refine zza 24 (.v (.int .i64 (i : Int))) ?_
   refine zzf 25 143 [y.v, .int .i64 (i : Int)] ?_
   intro w80 u80 e80 d80
   have k85 := (show Calls _ _ #[_, .int .i64 ((i : Int))] _ _ from k_r5At (i := i) d80 (hy.ext (e11.trans (e74.trans (g78.ext.trans e80)))) (by omega) (by first|omega|(simp;omega) | (refine Nat.le_trans (Nt.zzg _) ?_; first|omega|(simp;omega)) | (refine Nat.le_trans (Nt.zzg _) ?_; simp only [List.length_map]; refine Nat.le_trans (Nt.zzg _) ?_; first|omega|(simp;omega))) (by omega))
   with_reducible refine Post.mono k85 ?_
   rintro _ u83 g84 ⟨r81, rfl, h82⟩
   refine zzf 26 18 [r75.v, r81.v] ?_
   intro w86 u86 e86 d86
   have k91 := k_rqAdd d86 (h76.ext (e80.trans (g84.ext.trans e86))).raw (h82.ext e86).raw (by omega) (by omega)
   with_reducible refine Post.mono k91 ?_
   rintro _ u89 g90 ⟨r87, rfl, h88⟩
   refine sy_data 27 ⟨26, r87.cs⟩ 1 (fun b92 u93 e94 h95 => ?_)
   have hp96 : PolN u93 (⟨some ⟨b92, 0, none⟩, 1, 1⟩ : Sl) [((l.getD i 0) + (m.getD i 0))] ((K + 2) + (M + 2) + 2) := pol_lit (L := [r87]) h95 (rats1 (h88.ext e94)) rfl (by decide)
   refine sy_app1 28 (T := 41) (E := 26) (z := .agg #[.bool false, .slice none 0 0, .slice none 0 0]) (size := 3) (bytes := 56) (b := b92) (off := 0) (m := 1) (n := i) (cap := cp) (t := 28) (cs0 := cs) [5, 19, 28] r87.cs (by kernel_rfl) (by kernel_rfl) (by kernel_rfl) (by decide) rfl (lit_news ((Ext.refl _).cells h95)) (rl_one r87) (by decide) (by unfold maxLen; omega) (by omega) (by omega) (by omega) (by omega) (by repeat first | exact noAt_of | refine zyc ?_ | refine zye ?_ | refine zyd ?_ | refine zzx ?_ | refine zya ?_) ?_
   intro c97 cs97 ha97 hb97 hc97 hd97
   have hd97r : cs97.take ((i + 1) * 3) = rcs (L ++ [r87]) := by rw [hd97, ht, rcs_app]; rfl
   refine zza 5 (.slc 28 0 (i + 1) c97) ?_
   refine zzw ?_
   refine zzo ?_
   refine zze ?_
   refine zza 17 (.v (.int .i64 (i : Int))) ?_
   refine zyp 18 (x := .v (.int .i64 (IntKind.i64.wrap ((i : Int) + 1)))) (.v (.int .i64 ((i + 1 : Nat) : Int))) (eqI (by rw [IntWalk.i64_in _ (by omega)]; omega)) ?_
   refine zza 6 (.v (.int .i64 ((i + 1 : Nat) : Int))) ?_
   refine zzw ?_
   have ht98 : i < (Nt.addQ l m).length := by rw [Nt.addQ_len]; omega
   refine ⟨_, ?_, St.of 31 [(0, .v (.slice x.a x.n x.c)), (1, .v (.slice y.a y.n y.c)), (5, .slc 28 0 (i + 1) c97), (6, .v (.int .i64 ((i + 1 : Nat) : Int)))] [(28, ⟨26, cs97⟩)], by exact zzu _ _ _, .inr ⟨i + 1, L ++ [r87], cs97, c97, rfl, by omega, by omega, by simp; omega, hc97, by omega, hb97, hd97r, rfl, (e11.trans (e74.trans (g78.ext.trans (e80.trans (g84.ext.trans (e86.trans (g90.ext.trans e94))))))), (app_next (hR.ext (e74.trans (g78.ext.trans (e80.trans (g84.ext.trans (e86.trans (g90.ext.trans e94))))))) (RatN.more (K := ((K + 2) + (M + 2) + 2)) (h88.ext e94) (by omega)) ht98 (by have h9 := Nt.addQ_co l m (i); unfold Nt.co at h9; exact h9.symm))⟩⟩
   omega
  ·refine zyp 11 (x := .v (.bool (decide ((i : Int) < (x.n : Int))))) (.v (.bool false)) (by rw [hs73]) ?_
   have qhs73 := of_decide_eq_false hs73
   refine zza 12 (.v (.int .i64 (i : Int))) ?_ (hw := w1 4 false 11)
   refine zza 13 (.v y.v) ?_ (hw := w1 4 false 11)
   refine zza 14 (.v (.int .i64 (y.n : Int))) ?_ (hw := w1 4 false 11)
   refine zza 15 (.v (.bool (decide ((i : Int) < (y.n : Int))))) ?_ (hw := w1 4 false 11)
   refine zza 16 (.v (.bool (decide ((i : Int) < (y.n : Int))))) ?_
   refine zzb 31 [(0, .v x.v), (1, .v y.v), (5, .slc 28 0 i cp), (6, .v (.int .i64 (i : Int))), (16, .v (.bool (decide ((i : Int) < (y.n : Int)))))] [(28, ⟨26, cs⟩)] ?_
   refine zzt (b := decide ((i : Int) < (y.n : Int))) (by kernel_rfl) (fun hb99 => ?_) (fun hb99 => ?_)
   ·replace hb99 : (decide ((i : Int) < (y.n : Int))) = true := hb99
    have qhb99 := of_decide_eq_true hb99
    refine zzr (zzo ?_)
    refine zzc ?_
    refine zzs ?_
    refine zze ?_
    refine zza 19 (.slc 28 0 i cp) ?_
    refine zza 20 (.v x.v) ?_
    refine zza 21 (.v (.int .i64 (i : Int))) ?_
    refine zzf 22 143 [x.v, .int .i64 (i : Int)] ?_
    intro w100 u100 e100 d100
    have k105 := (show Calls _ _ #[_, .int .i64 ((i : Int))] _ _ from k_r5At (i := i) d100 (hx.ext (e11.trans e100)) (by omega) (by first|omega|(simp;omega) | (refine Nat.le_trans (Nt.zzg _) ?_; first|omega|(simp;omega)) | (refine Nat.le_trans (Nt.zzg _) ?_; simp only [List.length_map]; refine Nat.le_trans (Nt.zzg _) ?_; first|omega|(simp;omega))) (by omega))
    with_reducible refine Post.mono k105 ?_
    rintro _ u103 g104 ⟨r101, rfl, h102⟩
    refine zza 23 (.v y.v) ?_
    refine zza 24 (.v (.int .i64 (i : Int))) ?_
    refine zzf 25 143 [y.v, .int .i64 (i : Int)] ?_
    intro w106 u106 e106 d106
    have k111 := (show Calls _ _ #[_, .int .i64 ((i : Int))] _ _ from k_r5At (i := i) d106 (hy.ext (e11.trans (e100.trans (g104.ext.trans e106)))) (by omega) (by first|omega|(simp;omega) | (refine Nat.le_trans (Nt.zzg _) ?_; first|omega|(simp;omega)) | (refine Nat.le_trans (Nt.zzg _) ?_; simp only [List.length_map]; refine Nat.le_trans (Nt.zzg _) ?_; first|omega|(simp;omega))) (by omega))
    with_reducible refine Post.mono k111 ?_
    rintro _ u109 g110 ⟨r107, rfl, h108⟩
    refine zzf 26 18 [r101.v, r107.v] ?_
    intro w112 u112 e112 d112
    have k117 := k_rqAdd d112 (h102.ext (e106.trans (g110.ext.trans e112))).raw (h108.ext e112).raw (by omega) (by omega)
    with_reducible refine Post.mono k117 ?_
    rintro _ u115 g116 ⟨r113, rfl, h114⟩
    refine sy_data 27 ⟨26, r113.cs⟩ 1 (fun b118 u119 e120 h121 => ?_)
    have hp122 : PolN u119 (⟨some ⟨b118, 0, none⟩, 1, 1⟩ : Sl) [((l.getD i 0) + (m.getD i 0))] ((K + 2) + (M + 2) + 2) := pol_lit (L := [r113]) h121 (rats1 (h114.ext e120)) rfl (by decide)
    refine sy_app1 28 (T := 41) (E := 26) (z := .agg #[.bool false, .slice none 0 0, .slice none 0 0]) (size := 3) (bytes := 56) (b := b118) (off := 0) (m := 1) (n := i) (cap := cp) (t := 28) (cs0 := cs) [5, 19, 28] r113.cs (by kernel_rfl) (by kernel_rfl) (by kernel_rfl) (by decide) rfl (lit_news ((Ext.refl _).cells h121)) (rl_one r113) (by decide) (by unfold maxLen; omega) (by omega) (by omega) (by omega) (by omega) (by repeat first | exact noAt_of | refine zyc ?_ | refine zye ?_ | refine zyd ?_ | refine zzx ?_ | refine zya ?_) ?_
    intro c123 cs123 ha123 hb123 hc123 hd123
    have hd123r : cs123.take ((i + 1) * 3) = rcs (L ++ [r113]) := by rw [hd123, ht, rcs_app]; rfl
    refine zza 5 (.slc 28 0 (i + 1) c123) ?_
    refine zzw ?_
    refine zzo ?_
    refine zze ?_
    refine zza 17 (.v (.int .i64 (i : Int))) ?_
    refine zyp 18 (x := .v (.int .i64 (IntKind.i64.wrap ((i : Int) + 1)))) (.v (.int .i64 ((i + 1 : Nat) : Int))) (eqI (by rw [IntWalk.i64_in _ (by omega)]; omega)) ?_
    refine zza 6 (.v (.int .i64 ((i + 1 : Nat) : Int))) ?_
    refine zzw ?_
    have ht124 : i < (Nt.addQ l m).length := by rw [Nt.addQ_len]; omega
    refine ⟨_, ?_, St.of 31 [(0, .v (.slice x.a x.n x.c)), (1, .v (.slice y.a y.n y.c)), (5, .slc 28 0 (i + 1) c123), (6, .v (.int .i64 ((i + 1 : Nat) : Int)))] [(28, ⟨26, cs123⟩)], by exact zzu _ _ _, .inr ⟨i + 1, L ++ [r113], cs123, c123, rfl, by omega, by omega, by simp; omega, hc123, by omega, hb123, hd123r, rfl, (e11.trans (e100.trans (g104.ext.trans (e106.trans (g110.ext.trans (e112.trans (g116.ext.trans e120))))))), (app_next (hR.ext (e100.trans (g104.ext.trans (e106.trans (g110.ext.trans (e112.trans (g116.ext.trans e120))))))) (RatN.more (K := ((K + 2) + (M + 2) + 2)) (h114.ext e120) (by omega)) ht124 (by have h9 := Nt.addQ_co l m (i); unfold Nt.co at h9; exact h9.symm))⟩⟩
    omega
   ·replace hb99 : (decide ((i : Int) < (y.n : Int))) = false := hb99
    have qhb99 := of_decide_eq_false hb99
    refine zyb ?_
    refine zzo ?_
    refine zzc ?_
    refine zyo (r := 5) (t := 28) [5, 28] (by repeat first | exact noAt_of | refine zyc ?_ | refine zye ?_ | refine zyd ?_ | refine zzx ?_ | refine zya ?_) (by kernel_rfl) (by rfl) (by rfl) (by kernel_rfl) (fun b126 u127 e128 hb129 hh130 => ?_)
    have hp125 : PolN u127 ⟨some ⟨b126, 0, none⟩, i, cp⟩ (Nt.addQ l m) (K + M + 6) := by have h8 := pol_data hh130 ht hc hle hmx (hR.ext e128); rw [List.take_of_length_le (l := Nt.addQ l m) (by rw [Nt.addQ_len]; omega)] at h8; exact h8
    refine zze ?_
    refine zza 29 (.v (.slice (some ⟨b126, 0, none⟩) i cp)) ?_
    refine zzf 30 87 [.slice (some ⟨b126, 0, none⟩) i cp] ?_
    intro w131 u131 e131 d131
    have k136 := k_r5Trim d131 (hp125.ext e131).raw (by omega) (by first|omega|(simp;omega) | (refine Nat.le_trans (Nt.zzg _) ?_; first|omega|(simp;omega)) | (refine Nat.le_trans (Nt.zzg _) ?_; simp only [List.length_map]; refine Nat.le_trans (Nt.zzg _) ?_; first|omega|(simp;omega)))
    with_reducible refine Post.mono k136 ?_
    rintro _ u134 g135 ⟨y132, rfl, h133⟩
    have hly132 := h133.len
    refine zza 4 (.v y132.v) ?_
    refine zzb 31 [(4, .v y132.v)] [] ?_
    refine zzn (ret0 [.slice y132.a y132.n y132.c] ⟨zzp, trivial⟩ fun u137 e138 => ?_)
    refine ⟨y132, rfl, ?_⟩
    exact (h133.ext e138)
set_option maxHeartbeats 1000000 in
theorem k_r5Sub {u w : World} {x : Sl} {l : List Rat} {y : Sl} {m : List Rat} {K M : Nat} (d : Dat u w) (hx : PolV u x l K) (hy : PolV u y m M) (hK : K ≤ 10000000) (hM : M ≤ 10000000) (hx9 : l.length ≤ 1000000000) (hy9 : m.length ≤ 1000000000) : Calls Tryz.prog 95 #[x.v, y.v] w (Post u w fun v u' => ∃ y : Sl, v = y.v ∧ PolN u' y (Nt.trimQ (Nt.addQ l (Nt.trimQ (m.map (· * (((-1) : Int) : Rat)))))) (K + M + 20)) := by
 have hlen := hx.len
 have hlen2 := hy.len
 refine zzl (args := [.slice x.a x.n x.c, .slice y.a y.n y.c]) Tryz.func95 rfl Tryz.ntmps95 (rs := [.tmp 4]) Tryz.results95 (le_b rfl) (le_b rfl) d ?_
 refine sq9 ?_
 refine zza 4 (.v (.slice none 0 0)) ?_
 refine zzb 10 [(0, .v x.v), (1, .v y.v)] [] ?_
 refine sq9 ?_
 refine zza 5 (.v x.v) ?_
 refine zza 6 (.v y.v) ?_
 refine zzf 7 41 [.int .i64 (-1)] ?_
 intro w11 u11 e11 d11
 have k16 := k_rqOf d11 (z := (-1)) (by omega) (by omega)
 with_reducible refine Post.mono k16 ?_
 rintro _ u14 g15 ⟨r12, rfl, h13⟩
 refine zzf 8 98 [y.v, r12.v] ?_
 intro w17 u17 e17 d17
 have k22 := k_r5Scale d17 (hy.ext (e11.trans (g15.ext.trans e17))) (h13.ext e17).raw (by omega) (by omega) (by omega)
 with_reducible refine Post.mono k22 ?_
 rintro _ u20 g21 ⟨y18, rfl, h19⟩
 have hly18 := h19.len
 refine zzf 9 93 [x.v, y18.v] ?_
 intro w23 u23 e23 d23
 have k28 := k_r5Add d23 (hx.ext (e11.trans (g15.ext.trans (e17.trans (g21.ext.trans e23))))) (h19.ext e23).raw (by omega) (by omega) (by first|omega|(simp;omega) | (refine Nat.le_trans (Nt.zzg _) ?_; first|omega|(simp;omega)) | (refine Nat.le_trans (Nt.zzg _) ?_; simp only [List.length_map]; refine Nat.le_trans (Nt.zzg _) ?_; first|omega|(simp;omega))) (by first|omega|(simp;omega) | (refine Nat.le_trans (Nt.zzg _) ?_; first|omega|(simp;omega)) | (refine Nat.le_trans (Nt.zzg _) ?_; simp only [List.length_map]; refine Nat.le_trans (Nt.zzg _) ?_; first|omega|(simp;omega)))
 with_reducible refine Post.mono k28 ?_
 rintro _ u26 g27 ⟨y24, rfl, h25⟩
 have hly24 := h25.len
 refine zza 4 (.v y24.v) ?_
 refine zzb 10 [(4, .v y24.v)] [] ?_
 refine zzn (ret0 [.slice y24.a y24.n y24.c] ⟨zzp, trivial⟩ fun u29 e30 => ?_)
 refine ⟨y24, rfl, PolN.more (K := (K + (M + 2 + 1) + 6)) ?_ (by omega)⟩
 exact (h25.ext e30)
end Go.Proofs.YtnedhbidmfoegaaGreat
namespace Go.Proofs.YtnedhbidmfoegaaGreat
open Go.RowKit
set_option linter.unusedVariables false
set_option maxHeartbeats 2000000 in
theorem k_poEval {u w : World} {x : Sl} {l : List Rat} {r : RL} {q : Rat} {K M A C : Nat} (d : Dat u w) (hx : PolV u x l K) (hr : RatV u r q M) (hA : Nt.WhL (Nt.prim l) A) (hC : A + l.length * (32 * M + 1) ≤ C) (hC9 : C ≤ 300000000) (hK : (l.length + 1) * K ≤ 20000000) (hM : M ≤ 10000000) (hl9 : l.length ≤ 1000000) : Calls Tryz.prog 44 #[x.v, r.v] w (Post u w fun v u' => ∃ p : RL, v = p.v ∧ RatN u' p (Nt.Pol.evL l q) (l.length * K + 2 * Nt.dg C + 6)) := by
 have hlen := hx.len
 have htl := Nt.zzg l
 have hK2 := hK
 rw [Nat.add_mul] at hK2
 have hKK : (Nt.trimQ l).length * K ≤ l.length * K := Nat.mul_le_mul_right _ htl
 have hWl : ((Nt.trimQ l).map (· / Nt.msr (Nt.trimQ l))).length = (Nt.trimQ l).length := by simp
 have hqr := hr.rs
 obtain ⟨hqn, hqd⟩ := Nt.rat_wh hqr
 have hdg : Nt.dg C ≤ 10000000 := by unfold Nt.dg; omega
 have hdg1 : 1 ≤ Nt.dg C := by unfold Nt.dg; omega
 refine zzl (args := [.slice x.a x.n x.c, r.v]) Tryz.func44 rfl Tryz.ntmps44 (rs := [.cell 4 26]) Tryz.results44 (le_b rfl) (le_b rfl) d ?_
 refine sq9 ?_
 refine zzj 3 ⟨26, r.cs⟩ ?_
 refine zzj 4 ⟨26, [.bool false, .slice none 0 0, .slice none 0 0]⟩ ?_
 refine zzb 64 [(0, .v x.v), (3, .adr 3 0), (4, .adr 4 0)] [(3, ⟨26, r.cs⟩), (4, ⟨26, [.bool false, .slice none 0 0, .slice none 0 0]⟩)] ?_
 refine sq9 ?_
 refine zza 16 (.v x.v) ?_
 refine zzf 17 115 [x.v] ?_
 intro w11 u11 e11 d11
 have k18 := k_split d11 (hx.ext e11) (by omega) (by first|omega|(simp;omega) | (refine Nat.le_trans (Nt.zzg _) ?_; first|omega|(simp;omega)) | (refine Nat.le_trans (Nt.zzg _) ?_; simp only [List.length_map]; refine Nat.le_trans (Nt.zzg _) ?_; first|omega|(simp;omega)))
 with_reducible refine Post.mono k18 ?_
 rintro _ u16 g17 ⟨r12, y14, rfl, h13, h15⟩
 have hly14 : y14.n = (Nt.trimQ l).length := by have h9 := h15.len; simpa using h9
 refine zza 15 (.v (.tuple #[r12.v, y14.v])) ?_
 refine zza 18 (.v (r12.v)) ?_
 refine zza 19 (.v y14.v) ?_
 refine zzj 5 ⟨26, [.bool false, .slice none 0 0, .slice none 0 0]⟩ ?_
 refine zzi ⟨26, r12.cs⟩ ty26 ?_
 refine zza 6 (.v y14.v) ?_
 refine zzb 64 [(3, .adr 3 0), (4, .adr 4 0), (5, .adr 5 0), (6, .v y14.v)] [(3, ⟨26, r.cs⟩), (4, ⟨26, [.bool false, .slice none 0 0, .slice none 0 0]⟩), (5, ⟨26, r12.cs⟩)] ?_
 refine zzc ?_
 have hyn : y14.n = (Nt.trimQ l).length := hly14
 refine zze ?_
 refine zzh 20 (.v (r.v)) ty26 zzd ?_
 refine zzf 21 126 [r.v] ?_
 intro w19 u19 e19 d19
 have k24 := k_ratTrim d19 (hr.ext (e11.trans (g17.ext.trans e19))) (by omega)
 with_reducible refine Post.mono k24 ?_
 rintro _ u22 g23 ⟨r20, rfl, h21⟩
 refine zzi ⟨26, r20.cs⟩ ty26 ?_
 refine zzb 64 [(3, .adr 3 0), (4, .adr 4 0), (5, .adr 5 0), (6, .v y14.v)] [(3, ⟨26, r20.cs⟩), (4, ⟨26, [.bool false, .slice none 0 0, .slice none 0 0]⟩), (5, ⟨26, r12.cs⟩)] ?_
 refine sq9 ?_
 refine zzh 23 (.v (r20.v)) ty26 zzd ?_
 refine zzf 24 127 [r20.v] ?_
 intro w25 u25 e25 d25
 have k30 := k_poParts (r := r20) d25
 with_reducible refine Post.mono k30 ?_
 rintro _ u28 g29 ⟨y26, rfl, h27⟩
 refine zza 22 (.v (.tuple #[.agg #[.bool r20.s, r20.m.v, y26.v], .agg #[.bool false, r20.d.v, y26.v]])) ?_
 refine zza 25 (.v (.agg #[.bool r20.s, r20.m.v, y26.v])) ?_
 refine zza 26 (.v (.agg #[.bool false, r20.d.v, y26.v])) ?_
 refine zzj 7 ⟨26, [.bool false, .slice none 0 0, .slice none 0 0]⟩ ?_
 refine zzj 8 ⟨26, [.bool false, .slice none 0 0, .slice none 0 0]⟩ ?_
 refine zzi ⟨26, [.bool r20.s, r20.m.v, y26.v]⟩ ty26 ?_
 refine zzi ⟨26, [.bool false, r20.d.v, y26.v]⟩ ty26 ?_
 refine zzb 64 [(4, .adr 4 0), (5, .adr 5 0), (6, .v y14.v), (7, .adr 7 0), (8, .adr 8 0)] [(4, ⟨26, [.bool false, .slice none 0 0, .slice none 0 0]⟩), (5, ⟨26, r12.cs⟩), (7, ⟨26, [.bool r20.s, r20.m.v, y26.v]⟩), (8, ⟨26, [.bool false, r20.d.v, y26.v]⟩)] ?_
 refine sq9 ?_
 refine zzf 27 112 [.int .i64 0] ?_
 intro w31 u31 e31 d31
 have k36 := k_ratOf d31 (z := 0) (by omega) (by omega)
 with_reducible refine Post.mono k36 ?_
 rintro _ u34 g35 ⟨r32, rfl, h33⟩
 refine zzf 28 112 [.int .i64 1] ?_
 intro w37 u37 e37 d37
 have k42 := k_ratOf d37 (z := 1) (by omega) (by omega)
 with_reducible refine Post.mono k42 ?_
 rintro _ u40 g41 ⟨r38, rfl, h39⟩
 refine zzj 9 ⟨26, [.bool false, .slice none 0 0, .slice none 0 0]⟩ ?_
 refine zzj 10 ⟨26, [.bool false, .slice none 0 0, .slice none 0 0]⟩ ?_
 refine zzi ⟨26, r32.cs⟩ ty26 ?_
 refine zzi ⟨26, r38.cs⟩ ty26 ?_
 refine zzb 64 [(4, .adr 4 0), (5, .adr 5 0), (6, .v y14.v), (7, .adr 7 0), (8, .adr 8 0), (9, .adr 9 0), (10, .adr 10 0)] [(4, ⟨26, [.bool false, .slice none 0 0, .slice none 0 0]⟩), (5, ⟨26, r12.cs⟩), (7, ⟨26, [.bool r20.s, r20.m.v, y26.v]⟩), (8, ⟨26, [.bool false, r20.d.v, y26.v]⟩), (9, ⟨26, r32.cs⟩), (10, ⟨26, r38.cs⟩)] ?_
 refine zzc ?_
 refine sq9 ?_
 refine zza 29 (.v y14.v) ?_
 refine zza 30 (.v (.int .i64 (y14.n : Int))) ?_
 refine zza 31 (.v (.int .i64 0)) ?_
 refine zzb 64 [(4, .adr 4 0), (5, .adr 5 0), (6, .v y14.v), (7, .adr 7 0), (8, .adr 8 0), (9, .adr 9 0), (10, .adr 10 0), (30, .v (.int .i64 (y14.n : Int))), (31, .v (.int .i64 0))] [(4, ⟨26, [.bool false, .slice none 0 0, .slice none 0 0]⟩), (5, ⟨26, r12.cs⟩), (7, ⟨26, [.bool r20.s, r20.m.v, y26.v]⟩), (8, ⟨26, [.bool false, r20.d.v, y26.v]⟩), (9, ⟨26, r32.cs⟩), (10, ⟨26, r38.cs⟩)] ?_
 refine zzs ?_
 refine zym (I := fun m43 S' u' => ∃ (i : Nat) (rs : RL) (rp : RL), (m43 = (Nt.trimQ l).length - i) ∧ (i ≤ (Nt.trimQ l).length) ∧ (S' = St.of 64 [(4, .adr 4 0), (5, .adr 5 0), (6, .v (.slice y14.a y14.n y14.c)), (7, .adr 7 0), (8, .adr 8 0), (9, .adr 9 0), (10, .adr 10 0), (30, .v (.int .i64 (y14.n : Int))), (31, .v (.int .i64 (i : Int)))] [(4, ⟨26, [.bool false, .slice none 0 0, .slice none 0 0]⟩), (5, ⟨26, r12.cs⟩), (7, ⟨26, [.bool r20.s, .slice r20.m.a r20.m.n r20.m.c, .slice y26.a y26.n y26.c]⟩), (8, ⟨26, [.bool false, .slice r20.d.a r20.d.n r20.d.c, .slice y26.a y26.n y26.c]⟩), (9, ⟨26, rs.cs⟩), (10, ⟨26, rp.cs⟩)]) ∧ (Ext u40 u') ∧ (RatN u' rs (Nt.hs ((Nt.trimQ l).map (· / Nt.msr (Nt.trimQ l))) q i) (Nt.dg C)) ∧ (RatN u' rp (Nt.hp q i) (Nt.dg C))) (fun m S u1 u2 e h => by obtain ⟨i, rs, rp, hm, p0, hS, hE, f0, f1⟩ := h; exact ⟨i, rs, rp, hm, p0, hS, hE.trans e, f0.ext e, f1.ext e⟩) _ (T := St.of 64 [(4, .adr 4 0), (5, .adr 5 0), (6, .v (.slice y14.a y14.n y14.c)), (7, .adr 7 0), (8, .adr 8 0), (9, .adr 9 0), (10, .adr 10 0), (30, .v (.int .i64 (y14.n : Int))), (31, .v (.int .i64 0))] [(4, ⟨26, [.bool false, .slice none 0 0, .slice none 0 0]⟩), (5, ⟨26, r12.cs⟩), (7, ⟨26, [.bool r20.s, .slice r20.m.a r20.m.n r20.m.c, .slice y26.a y26.n y26.c]⟩), (8, ⟨26, [.bool false, .slice r20.d.a r20.d.n r20.d.c, .slice y26.a y26.n y26.c]⟩), (9, ⟨26, r32.cs⟩), (10, ⟨26, r38.cs⟩)]) (by exact zzu _ _ _) ⟨0, r32, r38, rfl, Nat.zero_le _, rfl, Ext.refl _, (by rw [Nt.hs_zero]; exact RatN.fit (K := 2) (h33.ext (e37.trans g41.ext)) (Nt.whInt (z := 0) (Nat.zero_le _) : Nt.Wh ((0 : Int) : Rat) C).rs), (by rw [Nt.hp_zero]; exact RatN.fit (K := 2) h39 (Nt.whInt (z := 1) Nat.one_le_two_pow : Nt.Wh ((1 : Int) : Rat) C).rs)⟩ ?_
 rintro m43 _ u43 ⟨i, rs, rp, hm43, hi, rfl, e43, hS, hP⟩
 refine sq9 ?_
 refine zza 32 (.v (.bool (decide ((i : Int) < (y14.n : Int))))) ?_
 refine zzb 64 [(4, .adr 4 0), (5, .adr 5 0), (6, .v y14.v), (7, .adr 7 0), (8, .adr 8 0), (9, .adr 9 0), (10, .adr 10 0), (30, .v (.int .i64 (y14.n : Int))), (31, .v (.int .i64 (i : Int))), (32, .v (.bool (decide ((i : Int) < (y14.n : Int)))))] [(4, ⟨26, [.bool false, .slice none 0 0, .slice none 0 0]⟩), (5, ⟨26, r12.cs⟩), (7, ⟨26, [.bool r20.s, r20.m.v, y26.v]⟩), (8, ⟨26, [.bool false, r20.d.v, y26.v]⟩), (9, ⟨26, rs.cs⟩), (10, ⟨26, rp.cs⟩)] ?_
 refine zzc ?_
 refine zzt (b := decide ((i : Int) < (y14.n : Int))) (by kernel_rfl) (fun hb44 => ?_) (fun hb44 => ?_)
 ·replace hb44 : (decide ((i : Int) < (y14.n : Int))) = true := hb44
  have qhb44 := of_decide_eq_true hb44
  refine zzr (zzo ?_)
  refine zzc ?_
  refine zzs ?_
  refine sq9 ?_
  refine zza 33 (.v (.int .i64 (i : Int))) ?_
  refine zza 11 (.v (.int .i64 (i : Int))) ?_
  refine zzb 64 [(4, .adr 4 0), (5, .adr 5 0), (6, .v y14.v), (7, .adr 7 0), (8, .adr 8 0), (9, .adr 9 0), (10, .adr 10 0), (11, .v (.int .i64 (i : Int))), (30, .v (.int .i64 (y14.n : Int))), (31, .v (.int .i64 (i : Int)))] [(4, ⟨26, [.bool false, .slice none 0 0, .slice none 0 0]⟩), (5, ⟨26, r12.cs⟩), (7, ⟨26, [.bool r20.s, r20.m.v, y26.v]⟩), (8, ⟨26, [.bool false, r20.d.v, y26.v]⟩), (9, ⟨26, rs.cs⟩), (10, ⟨26, rp.cs⟩)] ?_
  refine zzc ?_
  refine sq9 ?_
  refine zza 34 (.v (.int .i64 (i : Int))) ?_
  refine zza 35 (.v (.bool (decide ((0 : Int) < (i : Int))))) ?_
  refine zzb 64 [(4, .adr 4 0), (5, .adr 5 0), (6, .v y14.v), (7, .adr 7 0), (8, .adr 8 0), (9, .adr 9 0), (10, .adr 10 0), (11, .v (.int .i64 (i : Int))), (30, .v (.int .i64 (y14.n : Int))), (31, .v (.int .i64 (i : Int))), (35, .v (.bool (decide ((0 : Int) < (i : Int)))))] [(4, ⟨26, [.bool false, .slice none 0 0, .slice none 0 0]⟩), (5, ⟨26, r12.cs⟩), (7, ⟨26, [.bool r20.s, r20.m.v, y26.v]⟩), (8, ⟨26, [.bool false, r20.d.v, y26.v]⟩), (9, ⟨26, rs.cs⟩), (10, ⟨26, rp.cs⟩)] ?_
  refine zzt (b := decide ((0 : Int) < (i : Int))) (by kernel_rfl) (fun hb45 => ?_) (fun hb45 => ?_)
  ·replace hb45 : (decide ((0 : Int) < (i : Int))) = true := hb45
   have qhb45 := of_decide_eq_true hb45
   refine zze ?_
   refine zzh 36 (.v (rp.v)) ty26 zzd ?_
   refine zzh 37 (.v (.agg #[.bool false, r20.d.v, y26.v])) ty26 zzd ?_
   refine zzf 38 111 [rp.v, .agg #[.bool false, r20.d.v, y26.v]] ?_
   intro w46 u46 e46 d46
   have k51 := k_ratMul d46 (hP.ext e46).raw ((whole_rat (nat_intN (RatN.den (h21.ext (e25.trans g29.ext)))) h27).ext (e31.trans (g35.ext.trans (e37.trans (g41.ext.trans (e43.trans e46)))))).raw (by omega) (by omega)
   with_reducible refine Post.mono k51 ?_
   rintro _ u49 g50 ⟨r47, rfl, h48⟩
   refine zzi ⟨26, r47.cs⟩ ty26 ?_
   refine zzb 64 [(4, .adr 4 0), (5, .adr 5 0), (6, .v y14.v), (7, .adr 7 0), (8, .adr 8 0), (9, .adr 9 0), (10, .adr 10 0), (11, .v (.int .i64 (i : Int))), (30, .v (.int .i64 (y14.n : Int))), (31, .v (.int .i64 (i : Int)))] [(4, ⟨26, [.bool false, .slice none 0 0, .slice none 0 0]⟩), (5, ⟨26, r12.cs⟩), (7, ⟨26, [.bool r20.s, r20.m.v, y26.v]⟩), (8, ⟨26, [.bool false, r20.d.v, y26.v]⟩), (9, ⟨26, rs.cs⟩), (10, ⟨26, r47.cs⟩)] ?_
   refine sq9 ?_
   refine zza 39 (.v y14.v) ?_
   refine zza 40 (.v y14.v) ?_
   refine zza 41 (.v (.int .i64 (y14.n : Int))) ?_
   refine zyp 42 (x := .v (.int .i64 (IntKind.i64.wrap ((y14.n : Int) - 1)))) (.v (.int .i64 ((y14.n - 1 : Nat) : Int))) (eqI (by rw [IntWalk.i64_in _ (by omega)]; omega)) ?_
   refine zza 43 (.v (.int .i64 (i : Int))) ?_
   refine zyp 44 (x := .v (.int .i64 (IntKind.i64.wrap (((y14.n - 1 : Nat) : Int) - (i : Int))))) (.v (.int .i64 (((y14.n - 1) - i : Nat) : Int))) (eqI (by rw [IntWalk.i64_in _ (by omega)]; omega)) ?_
   have hl52 := (h15.ext (e19.trans (g23.ext.trans (e25.trans (g29.ext.trans (e31.trans (g35.ext.trans (e37.trans (g41.ext.trans (e43.trans (e46.trans g50.ext))))))))))).len
   obtain ⟨r52, b52, o52, hA52, hc52, hr52⟩ := pol_atN (h15.ext (e19.trans (g23.ext.trans (e25.trans (g29.ext.trans (e31.trans (g35.ext.trans (e37.trans (g41.ext.trans (e43.trans (e46.trans g50.ext))))))))))) (i := (y14.n - 1) - i) (by omega)
   refine zzz 45 (o52 + ((y14.n - 1) - i) * 3) (n := y14.n) (off := o52) (sz := 3) (i := (((y14.n - 1) - i : Nat) : Int)) (by omega) hA52 (by omega) (by omega) sl41 ?_
   refine zyl 46 r52.cs hc52 ty26 ?_
   refine zzj 12 ⟨26, [.bool false, .slice none 0 0, .slice none 0 0]⟩ ?_
   refine zzi ⟨26, r52.cs⟩ ty26 ?_
   refine zzb 64 [(4, .adr 4 0), (5, .adr 5 0), (6, .v y14.v), (7, .adr 7 0), (8, .adr 8 0), (9, .adr 9 0), (10, .adr 10 0), (12, .adr 12 0), (30, .v (.int .i64 (y14.n : Int))), (31, .v (.int .i64 (i : Int)))] [(4, ⟨26, [.bool false, .slice none 0 0, .slice none 0 0]⟩), (5, ⟨26, r12.cs⟩), (7, ⟨26, [.bool r20.s, r20.m.v, y26.v]⟩), (8, ⟨26, [.bool false, r20.d.v, y26.v]⟩), (9, ⟨26, rs.cs⟩), (10, ⟨26, r47.cs⟩), (12, ⟨26, r52.cs⟩)] ?_
   refine zzy [0, 0, 3, 0, 0, 31, 63, 127] [(0, []), (1, []), (3, []), (4, []), (2, []), (5, []), (6, []), (7, [])] (by kernel_rfl) (by kernel_rfl) ?_
   refine zzh 47 (.v (rs.v)) ty26 zzd ?_
   refine zzh 48 (.v (.agg #[.bool r20.s, r20.m.v, y26.v])) ty26 zzd ?_
   refine zzh 50 (.v (r52.v)) ty26 zzd ?_
   refine zzh 51 (.v (r47.v)) ty26 zzd ?_
   refine zzf 49 111 [rs.v, .agg #[.bool r20.s, r20.m.v, y26.v]] ?_
   intro w53 u53 e53 d53
   have k58 := k_ratMul d53 (hS.ext (e46.trans (g50.ext.trans e53))).raw ((whole_rat (RatN.num (h21.ext (e25.trans g29.ext))) h27).ext (e31.trans (g35.ext.trans (e37.trans (g41.ext.trans (e43.trans (e46.trans (g50.ext.trans e53)))))))).raw (by omega) (by omega)
   with_reducible refine Post.mono k58 ?_
   rintro _ u56 g57 ⟨r54, rfl, h55⟩
   refine zzf 52 111 [r52.v, r47.v] ?_
   intro w59 u59 e59 d59
   have k64 := k_ratMul d59 (hr52.ext (e53.trans (g57.ext.trans e59))).raw (h48.ext (e53.trans (g57.ext.trans e59))).raw (by omega) (by omega)
   with_reducible refine Post.mono k64 ?_
   rintro _ u62 g63 ⟨r60, rfl, h61⟩
   refine zzf 53 104 [r54.v, r60.v] ?_
   intro w65 u65 e65 d65
   have k70 := k_ratAdd d65 (h55.ext (e59.trans (g63.ext.trans e65))).raw (h61.ext e65).raw (by omega) (by omega)
   with_reducible refine Post.mono k70 ?_
   rintro _ u68 g69 ⟨r66, rfl, h67⟩
   refine zzi ⟨26, r66.cs⟩ ty26 ?_
   refine zzw ?_
   refine zzo ?_
   refine zze ?_
   refine zyp 54 (x := .v (.int .i64 (IntKind.i64.wrap ((i : Int) + 1)))) (.v (.int .i64 ((i + 1 : Nat) : Int))) (eqI (by rw [IntWalk.i64_in _ (by omega)]; omega)) ?_
   refine zza 31 (.v (.int .i64 ((i + 1 : Nat) : Int))) ?_
   refine zzw ?_
   have hi1 : i < ((Nt.trimQ l).map (· / Nt.msr (Nt.trimQ l))).length := by rw [hWl]; omega
   have hb9 := Nt.bits_in (i := i + 1) (n := l.length) (B := 32 * M) (by omega) hC
   have hw9 := ((Nt.hs_wh (W := ((Nt.trimQ l).map (· / Nt.msr (Nt.trimQ l)))) (q := q) hA hqn hqd (i + 1) hi1).more hb9.1).rs
   have hw8 := ((Nt.hp_wh hqd (i + 1)).more hb9.2).rs
   have hps : Nt.hp q (i + 1) = ((Nt.hp q i) * (((q.den : Nat) : Int) : Rat)) := Nt.hp_succ (by omega)
   have hss : Nt.hs ((Nt.trimQ l).map (· / Nt.msr (Nt.trimQ l))) q (i + 1) = (((Nt.hs ((Nt.trimQ l).map (· / Nt.msr (Nt.trimQ l))) q i) * ((q.num : Int) : Rat)) + ((((Nt.trimQ l).map (· / Nt.msr (Nt.trimQ l))).getD ((y14.n - 1) - i) 0) * ((Nt.hp q i) * (((q.den : Nat) : Int) : Rat)))) := by rw [Nt.hs_succ hi1, hps, hWl, ← hyn]
   refine ⟨_, ?_, St.of 64 [(4, .adr 4 0), (5, .adr 5 0), (6, .v (.slice y14.a y14.n y14.c)), (7, .adr 7 0), (8, .adr 8 0), (9, .adr 9 0), (10, .adr 10 0), (30, .v (.int .i64 (y14.n : Int))), (31, .v (.int .i64 ((i + 1 : Nat) : Int)))] [(4, ⟨26, [.bool false, .slice none 0 0, .slice none 0 0]⟩), (5, ⟨26, r12.cs⟩), (7, ⟨26, [.bool r20.s, .slice r20.m.a r20.m.n r20.m.c, .slice y26.a y26.n y26.c]⟩), (8, ⟨26, [.bool false, .slice r20.d.a r20.d.n r20.d.c, .slice y26.a y26.n y26.c]⟩), (9, ⟨26, r66.cs⟩), (10, ⟨26, r47.cs⟩)], by exact zzu _ _ _, i + 1, r66, r47, rfl, by omega, rfl, (e43.trans (e46.trans (g50.ext.trans (e53.trans (g57.ext.trans (e59.trans (g63.ext.trans (e65.trans g69.ext)))))))), (by rw [hss] at hw9 ⊢; exact RatN.fit (K := (((Nt.dg C) + (max M 1)) + ((K + ((Nt.trimQ l).length * K + 2)) + ((Nt.dg C) + (max M 1))) + 1)) h67 hw9), (by rw [hps] at hw8 ⊢; exact RatN.fit (K := ((Nt.dg C) + (max M 1))) (h48.ext (e53.trans (g57.ext.trans (e59.trans (g63.ext.trans (e65.trans g69.ext)))))) hw8)⟩
   omega
  ·replace hb45 : (decide ((0 : Int) < (i : Int))) = false := hb45
   have qhb45 := of_decide_eq_false hb45
   refine zzr (zzo ?_)
   refine sq9 ?_
   refine zza 39 (.v y14.v) ?_
   refine zza 40 (.v y14.v) ?_
   refine zza 41 (.v (.int .i64 (y14.n : Int))) ?_
   refine zyp 42 (x := .v (.int .i64 (IntKind.i64.wrap ((y14.n : Int) - 1)))) (.v (.int .i64 ((y14.n - 1 : Nat) : Int))) (eqI (by rw [IntWalk.i64_in _ (by omega)]; omega)) ?_
   refine zza 43 (.v (.int .i64 (i : Int))) ?_
   refine zyp 44 (x := .v (.int .i64 (IntKind.i64.wrap (((y14.n - 1 : Nat) : Int) - (i : Int))))) (.v (.int .i64 (((y14.n - 1) - i : Nat) : Int))) (eqI (by rw [IntWalk.i64_in _ (by omega)]; omega)) ?_
   have hl71 := (h15.ext (e19.trans (g23.ext.trans (e25.trans (g29.ext.trans (e31.trans (g35.ext.trans (e37.trans (g41.ext.trans e43))))))))).len
   obtain ⟨r71, b71, o71, hA71, hc71, hr71⟩ := pol_atN (h15.ext (e19.trans (g23.ext.trans (e25.trans (g29.ext.trans (e31.trans (g35.ext.trans (e37.trans (g41.ext.trans e43))))))))) (i := (y14.n - 1) - i) (by omega)
   refine zzz 45 (o71 + ((y14.n - 1) - i) * 3) (n := y14.n) (off := o71) (sz := 3) (i := (((y14.n - 1) - i : Nat) : Int)) (by omega) hA71 (by omega) (by omega) sl41 ?_
   refine zyl 46 r71.cs hc71 ty26 ?_
   refine zzj 12 ⟨26, [.bool false, .slice none 0 0, .slice none 0 0]⟩ ?_
   refine zzi ⟨26, r71.cs⟩ ty26 ?_
   refine zzb 64 [(4, .adr 4 0), (5, .adr 5 0), (6, .v y14.v), (7, .adr 7 0), (8, .adr 8 0), (9, .adr 9 0), (10, .adr 10 0), (12, .adr 12 0), (30, .v (.int .i64 (y14.n : Int))), (31, .v (.int .i64 (i : Int)))] [(4, ⟨26, [.bool false, .slice none 0 0, .slice none 0 0]⟩), (5, ⟨26, r12.cs⟩), (7, ⟨26, [.bool r20.s, r20.m.v, y26.v]⟩), (8, ⟨26, [.bool false, r20.d.v, y26.v]⟩), (9, ⟨26, rs.cs⟩), (10, ⟨26, rp.cs⟩), (12, ⟨26, r71.cs⟩)] ?_
   refine zzy [0, 0, 3, 0, 0, 31, 63, 127] [(0, []), (1, []), (3, []), (4, []), (2, []), (5, []), (6, []), (7, [])] (by kernel_rfl) (by kernel_rfl) ?_
   refine zzh 47 (.v (rs.v)) ty26 zzd ?_
   refine zzh 48 (.v (.agg #[.bool r20.s, r20.m.v, y26.v])) ty26 zzd ?_
   refine zzh 50 (.v (r71.v)) ty26 zzd ?_
   refine zzh 51 (.v (rp.v)) ty26 zzd ?_
   refine zzf 49 111 [rs.v, .agg #[.bool r20.s, r20.m.v, y26.v]] ?_
   intro w72 u72 e72 d72
   have k77 := k_ratMul d72 (hS.ext e72).raw ((whole_rat (RatN.num (h21.ext (e25.trans g29.ext))) h27).ext (e31.trans (g35.ext.trans (e37.trans (g41.ext.trans (e43.trans e72)))))).raw (by omega) (by omega)
   with_reducible refine Post.mono k77 ?_
   rintro _ u75 g76 ⟨r73, rfl, h74⟩
   refine zzf 52 111 [r71.v, rp.v] ?_
   intro w78 u78 e78 d78
   have k83 := k_ratMul d78 (hr71.ext (e72.trans (g76.ext.trans e78))).raw (hP.ext (e72.trans (g76.ext.trans e78))).raw (by omega) (by omega)
   with_reducible refine Post.mono k83 ?_
   rintro _ u81 g82 ⟨r79, rfl, h80⟩
   refine zzf 53 104 [r73.v, r79.v] ?_
   intro w84 u84 e84 d84
   have k89 := k_ratAdd d84 (h74.ext (e78.trans (g82.ext.trans e84))).raw (h80.ext e84).raw (by omega) (by omega)
   with_reducible refine Post.mono k89 ?_
   rintro _ u87 g88 ⟨r85, rfl, h86⟩
   refine zzi ⟨26, r85.cs⟩ ty26 ?_
   refine zzw ?_
   refine zzo ?_
   refine zze ?_
   refine zyp 54 (x := .v (.int .i64 (IntKind.i64.wrap ((i : Int) + 1)))) (.v (.int .i64 ((i + 1 : Nat) : Int))) (eqI (by rw [IntWalk.i64_in _ (by omega)]; omega)) ?_
   refine zza 31 (.v (.int .i64 ((i + 1 : Nat) : Int))) ?_
   refine zzw ?_
   have hi1 : i < ((Nt.trimQ l).map (· / Nt.msr (Nt.trimQ l))).length := by rw [hWl]; omega
   have hb9 := Nt.bits_in (i := i + 1) (n := l.length) (B := 32 * M) (by omega) hC
   have hw9 := ((Nt.hs_wh (W := ((Nt.trimQ l).map (· / Nt.msr (Nt.trimQ l)))) (q := q) hA hqn hqd (i + 1) hi1).more hb9.1).rs
   have hw8 := ((Nt.hp_wh hqd (i + 1)).more hb9.2).rs
   have hps : Nt.hp q (i + 1) = (Nt.hp q i) := (by have hi0 : i = 0 := (by omega); rw [hi0]; rfl)
   have hss : Nt.hs ((Nt.trimQ l).map (· / Nt.msr (Nt.trimQ l))) q (i + 1) = (((Nt.hs ((Nt.trimQ l).map (· / Nt.msr (Nt.trimQ l))) q i) * ((q.num : Int) : Rat)) + ((((Nt.trimQ l).map (· / Nt.msr (Nt.trimQ l))).getD ((y14.n - 1) - i) 0) * (Nt.hp q i))) := by rw [Nt.hs_succ hi1, hps, hWl, ← hyn]
   refine ⟨_, ?_, St.of 64 [(4, .adr 4 0), (5, .adr 5 0), (6, .v (.slice y14.a y14.n y14.c)), (7, .adr 7 0), (8, .adr 8 0), (9, .adr 9 0), (10, .adr 10 0), (30, .v (.int .i64 (y14.n : Int))), (31, .v (.int .i64 ((i + 1 : Nat) : Int)))] [(4, ⟨26, [.bool false, .slice none 0 0, .slice none 0 0]⟩), (5, ⟨26, r12.cs⟩), (7, ⟨26, [.bool r20.s, .slice r20.m.a r20.m.n r20.m.c, .slice y26.a y26.n y26.c]⟩), (8, ⟨26, [.bool false, .slice r20.d.a r20.d.n r20.d.c, .slice y26.a y26.n y26.c]⟩), (9, ⟨26, r85.cs⟩), (10, ⟨26, rp.cs⟩)], by exact zzu _ _ _, i + 1, r85, rp, rfl, by omega, rfl, (e43.trans (e72.trans (g76.ext.trans (e78.trans (g82.ext.trans (e84.trans g88.ext)))))), (by rw [hss] at hw9 ⊢; exact RatN.fit (K := (((Nt.dg C) + (max M 1)) + ((K + ((Nt.trimQ l).length * K + 2)) + (Nt.dg C)) + 1)) h86 hw9), (by rw [hps] at hw8 ⊢; exact RatN.fit (K := (Nt.dg C)) (hP.ext (e72.trans (g76.ext.trans (e78.trans (g82.ext.trans (e84.trans g88.ext)))))) hw8)⟩
   omega
 ·replace hb44 : (decide ((i : Int) < (y14.n : Int))) = false := hb44
  have qhb44 := of_decide_eq_false hb44
  refine zyb ?_
  refine zzo ?_
  refine sq9 ?_
  refine zzh 56 (.v (rs.v)) ty26 zzd ?_
  refine zzh 57 (.v (rp.v)) ty26 zzd ?_
  refine zzf 58 99 [rs.v, rp.v] ?_
  intro w90 u90 e90 d90
  have k95 := k_ratDiv1 d90 (hS.ext e90).raw (hP.ext e90).raw (Nt.hp_ne q i) (by omega) (by omega)
  with_reducible refine Post.mono k95 ?_
  rintro _ u93 g94 ⟨r91, rfl, h92⟩
  refine zza 55 (.v (.tuple #[r91.v, .int .i64 0])) ?_
  refine zza 59 (.v (r91.v)) ?_
  refine zza 60 (.v (.int .i64 0)) ?_
  refine zzj 13 ⟨26, [.bool false, .slice none 0 0, .slice none 0 0]⟩ ?_
  refine zzi ⟨26, r91.cs⟩ ty26 ?_
  refine zza 14 (.v (.int .i64 0)) ?_
  refine zzb 64 [(4, .adr 4 0), (5, .adr 5 0), (13, .adr 13 0)] [(4, ⟨26, [.bool false, .slice none 0 0, .slice none 0 0]⟩), (5, ⟨26, r12.cs⟩), (13, ⟨26, r91.cs⟩)] ?_
  refine sq9 ?_
  refine zzh 61 (.v (r12.v)) ty26 zzd ?_
  refine zzh 62 (.v (r91.v)) ty26 zzd ?_
  refine zzf 63 111 [r12.v, r91.v] ?_
  intro w96 u96 e96 d96
  have k101 := k_ratMul d96 (h13.ext (e19.trans (g23.ext.trans (e25.trans (g29.ext.trans (e31.trans (g35.ext.trans (e37.trans (g41.ext.trans (e43.trans (e90.trans (g94.ext.trans e96)))))))))))).raw (h92.ext e96).raw (by omega) (by omega)
  with_reducible refine Post.mono k101 ?_
  rintro _ u99 g100 ⟨r97, rfl, h98⟩
  refine zzi ⟨26, r97.cs⟩ ty26 ?_
  refine zzb 64 [(4, .adr 4 0)] [(4, ⟨26, r97.cs⟩)] ?_
  refine zzn (ret0 [r97.v] ⟨zzq ty26 zzd, trivial⟩ fun u102 e103 => ?_)
  have hin : i = (Nt.trimQ l).length := by omega
  have e9 : Nt.Pol.evL l q = Nt.msr (Nt.trimQ l) * (Nt.hs ((Nt.trimQ l).map (· / Nt.msr (Nt.trimQ l))) q i / Nt.hp q i) := by rw [hin, ← hWl, Nt.hs_end]; exact (Nt.ev_parts l q).symm
  refine ⟨r97, rfl, RatN.more (K := (((Nt.trimQ l).length * K + 2) + ((Nt.dg C) + (Nt.dg C)))) ?_ (by omega)⟩
  rw [e9]
  exact (h98.ext e103)
set_option maxHeartbeats 2000000 in
theorem k_r5Eval {u w : World} {x : Sl} {l : List Rat} {r : RL} {q : Rat} {K M S : Nat} (d : Dat u w) (hx : PolV u x l K) (hr : RatV u r q M) (hS : K + M + 4 ≤ S) (hS9 : l.length * S ≤ 20000000) (hM : M ≤ 10000000) (hK : K ≤ 10000000) (hl9 : l.length ≤ 1000000) : Calls Tryz.prog 52 #[x.v, r.v] w (Post u w fun v u' => ∃ p : RL, v = p.v ∧ RatN u' p (Nt.Pol.evL l q) (l.length * S + 2)) := by
 have hlen := hx.len
 refine zzl (args := [.slice x.a x.n x.c, r.v]) Tryz.func52 rfl Tryz.ntmps52 (rs := [.cell 4 26]) Tryz.results52 (le_b rfl) (le_b rfl) d ?_
 refine sq9 ?_
 refine zzj 3 ⟨26, r.cs⟩ ?_
 refine zzj 4 ⟨26, [.bool false, .slice none 0 0, .slice none 0 0]⟩ ?_
 refine zzb 24 [(0, .v x.v), (3, .adr 3 0), (4, .adr 4 0)] [(3, ⟨26, r.cs⟩), (4, ⟨26, [.bool false, .slice none 0 0, .slice none 0 0]⟩)] ?_
 refine sq9 ?_
 refine zzf 7 41 [.int .i64 0] ?_
 intro w11 u11 e11 d11
 have k16 := k_rqOf d11 (z := 0) (by omega) (by omega)
 with_reducible refine Post.mono k16 ?_
 rintro _ u14 g15 ⟨r12, rfl, h13⟩
 refine zzj 5 ⟨26, [.bool false, .slice none 0 0, .slice none 0 0]⟩ ?_
 refine zzi ⟨26, r12.cs⟩ ty26 ?_
 refine zzb 24 [(0, .v x.v), (3, .adr 3 0), (4, .adr 4 0), (5, .adr 5 0)] [(3, ⟨26, r.cs⟩), (4, ⟨26, [.bool false, .slice none 0 0, .slice none 0 0]⟩), (5, ⟨26, r12.cs⟩)] ?_
 refine zzc ?_
 refine sq9 ?_
 refine zza 8 (.v x.v) ?_
 refine zza 9 (.v (.int .i64 (x.n : Int))) ?_
 refine zyp 10 (x := .v (.int .i64 (IntKind.i64.wrap ((x.n : Int) - 1)))) (.v (.int .i64 ((x.n : Int) - 1))) (eqI (by rw [IntWalk.i64_in _ (by omega)]; try omega)) ?_
 refine zza 6 (.v (.int .i64 ((x.n : Int) - 1))) ?_
 refine zzb 24 [(0, .v x.v), (3, .adr 3 0), (4, .adr 4 0), (5, .adr 5 0), (6, .v (.int .i64 ((x.n : Int) - 1)))] [(3, ⟨26, r.cs⟩), (4, ⟨26, [.bool false, .slice none 0 0, .slice none 0 0]⟩), (5, ⟨26, r12.cs⟩)] ?_
 refine zzs ?_
 refine zym (I := fun m17 S' u' => ∃ (k : Nat) (ry : RL), (m17 = k) ∧ (k ≤ l.length) ∧ (S' = St.of 24 [(0, .v (.slice x.a x.n x.c)), (3, .adr 3 0), (4, .adr 4 0), (5, .adr 5 0), (6, .v (.int .i64 ((k : Int) - 1)))] [(3, ⟨26, r.cs⟩), (4, ⟨26, [.bool false, .slice none 0 0, .slice none 0 0]⟩), (5, ⟨26, ry.cs⟩)]) ∧ (Ext u14 u') ∧ (RatN u' ry (Nt.Pol.evL (l.drop k) q) ((l.length - k) * S + 2))) (fun m S u1 u2 e h => by obtain ⟨k, ry, hm, p0, hS, hE, f0⟩ := h; exact ⟨k, ry, hm, p0, hS, hE.trans e, f0.ext e⟩) _ (T := St.of 24 [(0, .v (.slice x.a x.n x.c)), (3, .adr 3 0), (4, .adr 4 0), (5, .adr 5 0), (6, .v (.int .i64 ((x.n : Int) - 1)))] [(3, ⟨26, r.cs⟩), (4, ⟨26, [.bool false, .slice none 0 0, .slice none 0 0]⟩), (5, ⟨26, r12.cs⟩)]) (by exact zzu _ _ _) ⟨x.n, r12, rfl, by omega, rfl, Ext.refl _, (by rw [Nt.ev_drop_all (by omega)]; exact RatN.more (K := 2) h13 (by omega))⟩ ?_
 rintro m17 _ u17 ⟨k, ry, hm17, hk, rfl, e17, hY⟩
 have hm1 : (l.length - k) * S ≤ l.length * S := Nat.mul_le_mul_right _ (by omega)
 refine zzc ?_
 refine sq9 ?_
 refine zza 11 (.v (.int .i64 ((k : Int) - 1))) ?_
 refine zza 12 (.v (.bool (decide ((0 : Int) ≤ ((k : Int) - 1))))) ?_
 refine zzb 24 [(0, .v x.v), (3, .adr 3 0), (4, .adr 4 0), (5, .adr 5 0), (6, .v (.int .i64 ((k : Int) - 1))), (12, .v (.bool (decide ((0 : Int) ≤ ((k : Int) - 1)))))] [(3, ⟨26, r.cs⟩), (4, ⟨26, [.bool false, .slice none 0 0, .slice none 0 0]⟩), (5, ⟨26, ry.cs⟩)] ?_
 refine zzt (b := decide ((0 : Int) ≤ ((k : Int) - 1))) (by kernel_rfl) (fun hb18 => ?_) (fun hb18 => ?_)
 ·replace hb18 : (decide ((0 : Int) ≤ ((k : Int) - 1))) = true := hb18
  have qhb18 := of_decide_eq_true hb18
  refine zzr (zzo ?_)
  refine zzc ?_
  refine zzs ?_
  refine zzy [0, 0, 3, 0, 0, 24, 56, 127, 255] [(0, []), (1, []), (3, []), (4, []), (5, []), (6, []), (2, []), (7, []), (8, [])] (by kernel_rfl) (by kernel_rfl) ?_
  refine zzh 15 (.v (ry.v)) ty26 zzd ?_
  refine zzh 16 (.v (r.v)) ty26 zzd ?_
  refine zza 18 (.v x.v) ?_
  refine zyp 19 (x := .v (.int .i64 ((k : Int) - 1))) (.v (.int .i64 ((k - 1 : Nat) : Int))) (eqI (by omega)) ?_
  have hl19 := (hx.ext (e11.trans (g15.ext.trans e17))).len
  obtain ⟨r19, b19, o19, hA19, hc19, hr19⟩ := pol_at (hx.ext (e11.trans (g15.ext.trans e17))) (i := (k - 1)) (by omega)
  refine zzz 20 (o19 + (k - 1) * 3) (n := x.n) (off := o19) (sz := 3) (i := ((k - 1 : Nat) : Int)) (by omega) hA19 (by omega) (by omega) sl41 ?_
  refine zyl 21 r19.cs hc19 ty26 ?_
  refine zzf 17 22 [ry.v, r.v] ?_
  intro w20 u20 e20 d20
  have k25 := k_rqMul d20 (hY.ext e20).raw (hr.ext (e11.trans (g15.ext.trans (e17.trans e20)))) (by omega) (by omega)
  with_reducible refine Post.mono k25 ?_
  rintro _ u23 g24 ⟨r21, rfl, h22⟩
  refine zzf 22 18 [r21.v, r19.v] ?_
  intro w26 u26 e26 d26
  have k31 := k_rqAdd d26 (h22.ext e26).raw (hr19.ext (e20.trans (g24.ext.trans e26))) (by omega) (by omega)
  with_reducible refine Post.mono k31 ?_
  rintro _ u29 g30 ⟨r27, rfl, h28⟩
  refine zzi ⟨26, r27.cs⟩ ty26 ?_
  refine zzw ?_
  refine zzo ?_
  refine zze ?_
  refine zza 13 (.v (.int .i64 ((k : Int) - 1))) ?_
  refine zyp 14 (x := .v (.int .i64 (IntKind.i64.wrap (((k : Int) - 1) - 1)))) (.v (.int .i64 (((k - 1 : Nat) : Int) - 1))) (eqI (by rw [IntWalk.i64_in _ (by omega)]; try omega)) ?_
  refine zza 6 (.v (.int .i64 (((k - 1 : Nat) : Int) - 1))) ?_
  refine zzw ?_
  have hs1 : (l.length - (k - 1)) * S = (l.length - k) * S + S := by rw [show l.length - (k - 1) = (l.length - k) + 1 by omega, Nat.add_mul, Nat.one_mul]
  refine ⟨_, ?_, St.of 24 [(0, .v (.slice x.a x.n x.c)), (3, .adr 3 0), (4, .adr 4 0), (5, .adr 5 0), (6, .v (.int .i64 (((k - 1 : Nat) : Int) - 1)))] [(3, ⟨26, r.cs⟩), (4, ⟨26, [.bool false, .slice none 0 0, .slice none 0 0]⟩), (5, ⟨26, r27.cs⟩)], by exact zzu _ _ _, k - 1, r27, rfl, by omega, rfl, (e17.trans (e20.trans (g24.ext.trans (e26.trans g30.ext)))), (by rw [Nt.ev_drop1 (by omega) (by omega)]; exact RatN.more (K := ((((l.length - k) * S + 2) + M + 1) + K + 2)) h28 (by omega))⟩
  omega
 ·replace hb18 : (decide ((0 : Int) ≤ ((k : Int) - 1))) = false := hb18
  have qhb18 := of_decide_eq_false hb18
  refine zyb ?_
  refine zzo ?_
  refine sq9 ?_
  refine zzh 23 (.v (ry.v)) ty26 zzd ?_
  refine zzi ⟨26, ry.cs⟩ ty26 ?_
  refine zzb 24 [(4, .adr 4 0)] [(4, ⟨26, ry.cs⟩)] ?_
  refine zzn (ret0 [ry.v] ⟨zzq ty26 zzd, trivial⟩ fun u32 e33 => ?_)
  have hk0 : k = 0 := by omega
  refine ⟨ry, rfl, RatN.more (K := ((l.length - k) * S + 2)) ?_ (by omega)⟩
  have h9 := (hY.ext e33)
  rw [hk0, Nt.ev_drop0] at h9
  rw [hk0]
  exact h9
set_option maxHeartbeats 4000000 in
theorem k_poEnclose {u w : World} {x : Sl} {l : List Rat} {b1 b2 : RL} {y1 y2 : Rat} {K M S : Nat} (d : Dat u w) (hx : PolV u x l K) (hb1 : RatV u b1 y1 M) (hb2 : RatV u b2 y2 M) (hS : K + M + 2 ≤ S) (hS9 : l.length * S ≤ 20000000) (hM : M ≤ 10000000) (hK : K ≤ 10000000) (hl9 : l.length ≤ 1000000) : Calls Tryz.prog 51 #[x.v, IV b1 b2] w (Post u w fun v u' => ∃ p q : RL, v = IV p q ∧ RatN u' p (Nt.encL y1 y2 l).1 (l.length * S + 2) ∧ RatN u' q (Nt.encL y1 y2 l).2 (l.length * S + 2)) := by
 have hlen := hx.len
 refine zzl (args := [.slice x.a x.n x.c, .agg #[.bool b1.s, .slice b1.m.a b1.m.n b1.m.c, .slice b1.d.a b1.d.n b1.d.c, .bool b2.s, .slice b2.m.a b2.m.n b2.m.c, .slice b2.d.a b2.d.n b2.d.c]]) Tryz.func51 rfl Tryz.ntmps51 (rs := [.cell 4 28]) Tryz.results51 (le_b rfl) (le_b rfl) d ?_
 refine sq9 ?_
 refine zzj 3 ⟨28, b1.cs ++ b2.cs⟩ ?_
 refine zzj 4 ⟨28, [.bool false, .slice none 0 0, .slice none 0 0, .bool false, .slice none 0 0, .slice none 0 0]⟩ ?_
 refine zzb 33 [(0, .v x.v), (3, .adr 3 0), (4, .adr 4 0)] [(3, ⟨28, b1.cs ++ b2.cs⟩), (4, ⟨28, [.bool false, .slice none 0 0, .slice none 0 0, .bool false, .slice none 0 0, .slice none 0 0]⟩)] ?_
 refine sq9 ?_
 refine zzf 8 112 [.int .i64 0] ?_
 intro w11 u11 e11 d11
 have k16 := k_ratOf d11 (z := 0) (by omega) (by omega)
 with_reducible refine Post.mono k16 ?_
 rintro _ u14 g15 ⟨r12, rfl, h13⟩
 refine zzf 9 112 [.int .i64 0] ?_
 intro w17 u17 e17 d17
 have k22 := k_ratOf d17 (z := 0) (by omega) (by omega)
 with_reducible refine Post.mono k22 ?_
 rintro _ u20 g21 ⟨r18, rfl, h19⟩
 refine zzf 10 70 [r12.v, r18.v] ?_
 intro w23 u23 e23 d23
 have k30 := k_ivMake d23 (h13.ext (e17.trans (g21.ext.trans e23))).raw (h19.ext e23).raw (by omega)
 with_reducible refine Post.mono k30 ?_
 rintro _ u28 g29 ⟨r24, r26, rfl, h25, h27⟩
 refine zzj 5 ⟨28, [.bool false, .slice none 0 0, .slice none 0 0, .bool false, .slice none 0 0, .slice none 0 0]⟩ ?_
 refine zzi ⟨28, r24.cs ++ r26.cs⟩ ty28 ?_
 refine zzb 33 [(0, .v x.v), (3, .adr 3 0), (4, .adr 4 0), (5, .adr 5 0)] [(3, ⟨28, b1.cs ++ b2.cs⟩), (4, ⟨28, [.bool false, .slice none 0 0, .slice none 0 0, .bool false, .slice none 0 0, .slice none 0 0]⟩), (5, ⟨28, r24.cs ++ r26.cs⟩)] ?_
 refine zzc ?_
 refine sq9 ?_
 refine zza 11 (.v x.v) ?_
 refine zza 12 (.v (.int .i64 (x.n : Int))) ?_
 refine zza 13 (.v (.int .i64 0)) ?_
 refine zzb 33 [(0, .v x.v), (3, .adr 3 0), (4, .adr 4 0), (5, .adr 5 0), (12, .v (.int .i64 (x.n : Int))), (13, .v (.int .i64 0))] [(3, ⟨28, b1.cs ++ b2.cs⟩), (4, ⟨28, [.bool false, .slice none 0 0, .slice none 0 0, .bool false, .slice none 0 0, .slice none 0 0]⟩), (5, ⟨28, r24.cs ++ r26.cs⟩)] ?_
 refine zzs ?_
 refine zym (I := fun m31 S' u' => ∃ (i : Nat) (p1 : RL) (p2 : RL), (m31 = l.length - i) ∧ (i ≤ l.length) ∧ (S' = St.of 33 [(0, .v (.slice x.a x.n x.c)), (3, .adr 3 0), (4, .adr 4 0), (5, .adr 5 0), (12, .v (.int .i64 (x.n : Int))), (13, .v (.int .i64 (i : Int)))] [(3, ⟨28, b1.cs ++ b2.cs⟩), (4, ⟨28, [.bool false, .slice none 0 0, .slice none 0 0, .bool false, .slice none 0 0, .slice none 0 0]⟩), (5, ⟨28, p1.cs ++ p2.cs⟩)]) ∧ (Ext u28 u') ∧ (RatN u' p1 (Nt.encL y1 y2 (l.drop (l.length - i))).1 (i * S + 2)) ∧ (RatN u' p2 (Nt.encL y1 y2 (l.drop (l.length - i))).2 (i * S + 2))) (fun m S u1 u2 e h => by obtain ⟨i, p1, p2, hm, p0, hS, hE, f0, f1⟩ := h; exact ⟨i, p1, p2, hm, p0, hS, hE.trans e, f0.ext e, f1.ext e⟩) _ (T := St.of 33 [(0, .v (.slice x.a x.n x.c)), (3, .adr 3 0), (4, .adr 4 0), (5, .adr 5 0), (12, .v (.int .i64 (x.n : Int))), (13, .v (.int .i64 0))] [(3, ⟨28, b1.cs ++ b2.cs⟩), (4, ⟨28, [.bool false, .slice none 0 0, .slice none 0 0, .bool false, .slice none 0 0, .slice none 0 0]⟩), (5, ⟨28, r24.cs ++ r26.cs⟩)]) (by exact zzu _ _ _) ⟨0, r24, r26, rfl, by omega, rfl, Ext.refl _, (by rw [Nat.sub_zero, List.drop_length]; have h9 := h25; rw [show (Nt.lo ((0 : Int) : Rat) ((0 : Int) : Rat)) = (0 : Rat) from (by decide +kernel)] at h9; exact RatN.more (K := 2) h9 (by omega)), (by rw [Nat.sub_zero, List.drop_length]; have h9 := h27; rw [show (Nt.hi ((0 : Int) : Rat) ((0 : Int) : Rat)) = (0 : Rat) from (by decide +kernel)] at h9; exact RatN.more (K := 2) h9 (by omega))⟩ ?_
 rintro m31 _ u31 ⟨i, p1, p2, hm31, hi, rfl, e31, hP, hQ⟩
 have hm1 : i * S ≤ l.length * S := Nat.mul_le_mul_right _ (by omega)
 refine sq9 ?_
 refine zza 14 (.v (.bool (decide ((i : Int) < (x.n : Int))))) ?_
 refine zzb 33 [(0, .v x.v), (3, .adr 3 0), (4, .adr 4 0), (5, .adr 5 0), (12, .v (.int .i64 (x.n : Int))), (13, .v (.int .i64 (i : Int))), (14, .v (.bool (decide ((i : Int) < (x.n : Int)))))] [(3, ⟨28, b1.cs ++ b2.cs⟩), (4, ⟨28, [.bool false, .slice none 0 0, .slice none 0 0, .bool false, .slice none 0 0, .slice none 0 0]⟩), (5, ⟨28, p1.cs ++ p2.cs⟩)] ?_
 refine zzc ?_
 refine zzt (b := decide ((i : Int) < (x.n : Int))) (by kernel_rfl) (fun hb32 => ?_) (fun hb32 => ?_)
 ·replace hb32 : (decide ((i : Int) < (x.n : Int))) = true := hb32
  have qhb32 := of_decide_eq_true hb32
  refine zzr (zzo ?_)
  refine zzc ?_
  refine zzs ?_
  refine sq9 ?_
  refine zza 15 (.v (.int .i64 (i : Int))) ?_
  refine zza 6 (.v (.int .i64 (i : Int))) ?_
  refine zzb 33 [(0, .v x.v), (3, .adr 3 0), (4, .adr 4 0), (5, .adr 5 0), (6, .v (.int .i64 (i : Int))), (12, .v (.int .i64 (x.n : Int))), (13, .v (.int .i64 (i : Int)))] [(3, ⟨28, b1.cs ++ b2.cs⟩), (4, ⟨28, [.bool false, .slice none 0 0, .slice none 0 0, .bool false, .slice none 0 0, .slice none 0 0]⟩), (5, ⟨28, p1.cs ++ p2.cs⟩)] ?_
  refine sq9 ?_
  refine zza 16 (.v x.v) ?_
  refine zza 17 (.v x.v) ?_
  refine zza 18 (.v (.int .i64 (x.n : Int))) ?_
  refine zyp 19 (x := .v (.int .i64 (IntKind.i64.wrap ((x.n : Int) - 1)))) (.v (.int .i64 ((x.n - 1 : Nat) : Int))) (eqI (by rw [IntWalk.i64_in _ (by omega)]; omega)) ?_
  refine zza 20 (.v (.int .i64 (i : Int))) ?_
  refine zyp 21 (x := .v (.int .i64 (IntKind.i64.wrap (((x.n - 1 : Nat) : Int) - (i : Int))))) (.v (.int .i64 (((x.n - 1) - i : Nat) : Int))) (eqI (by rw [IntWalk.i64_in _ (by omega)]; omega)) ?_
  have hl33 := (hx.ext (e11.trans (g15.ext.trans (e17.trans (g21.ext.trans (e23.trans (g29.ext.trans e31))))))).len
  obtain ⟨r33, b33, o33, hA33, hc33, hr33⟩ := pol_at (hx.ext (e11.trans (g15.ext.trans (e17.trans (g21.ext.trans (e23.trans (g29.ext.trans e31))))))) (i := (x.n - 1) - i) (by omega)
  refine zzz 22 (o33 + ((x.n - 1) - i) * 3) (n := x.n) (off := o33) (sz := 3) (i := (((x.n - 1) - i : Nat) : Int)) (by omega) hA33 (by omega) (by omega) sl41 ?_
  refine zyl 23 r33.cs hc33 ty26 ?_
  refine zzj 7 ⟨26, [.bool false, .slice none 0 0, .slice none 0 0]⟩ ?_
  refine zzi ⟨26, r33.cs⟩ ty26 ?_
  refine zzb 33 [(0, .v x.v), (3, .adr 3 0), (4, .adr 4 0), (5, .adr 5 0), (7, .adr 7 0), (12, .v (.int .i64 (x.n : Int))), (13, .v (.int .i64 (i : Int)))] [(3, ⟨28, b1.cs ++ b2.cs⟩), (4, ⟨28, [.bool false, .slice none 0 0, .slice none 0 0, .bool false, .slice none 0 0, .slice none 0 0]⟩), (5, ⟨28, p1.cs ++ p2.cs⟩), (7, ⟨26, r33.cs⟩)] ?_
  refine zzy [0, 0, 3, 0, 0, 31, 63, 127] [(0, []), (1, []), (3, []), (4, []), (2, []), (5, []), (6, []), (7, [])] (by kernel_rfl) (by kernel_rfl) ?_
  refine zzh 24 (.v (.agg #[.bool p1.s, p1.m.v, p1.d.v, .bool p2.s, p2.m.v, p2.d.v])) ty28 zzd ?_
  refine zzh 25 (.v (.agg #[.bool b1.s, b1.m.v, b1.d.v, .bool b2.s, b2.m.v, b2.d.v])) ty28 zzd ?_
  refine zzh 27 (.v (r33.v)) ty26 zzd ?_
  refine zzh 28 (.v (r33.v)) ty26 zzd ?_
  refine zzf 26 21 [.agg #[.bool p1.s, p1.m.v, p1.d.v, .bool p2.s, p2.m.v, p2.d.v], .agg #[.bool b1.s, b1.m.v, b1.d.v, .bool b2.s, b2.m.v, b2.d.v]] ?_
  intro w34 u34 e34 d34
  have k41 := k_ivMul d34 (hP.ext e34).raw (hQ.ext e34).raw (hb1.ext (e11.trans (g15.ext.trans (e17.trans (g21.ext.trans (e23.trans (g29.ext.trans (e31.trans e34)))))))) (hb2.ext (e11.trans (g15.ext.trans (e17.trans (g21.ext.trans (e23.trans (g29.ext.trans (e31.trans e34)))))))) (by omega) (by omega)
  with_reducible refine Post.mono k41 ?_
  rintro _ u39 g40 ⟨r35, r37, rfl, h36, h38⟩
  refine zzf 29 70 [r33.v, r33.v] ?_
  intro w42 u42 e42 d42
  have k49 := k_ivMake d42 (hr33.ext (e34.trans (g40.ext.trans e42))) (hr33.ext (e34.trans (g40.ext.trans e42))) (by omega)
  with_reducible refine Post.mono k49 ?_
  rintro _ u47 g48 ⟨r43, r45, rfl, h44, h46⟩
  refine zzf 30 17 [.agg #[.bool r35.s, r35.m.v, r35.d.v, .bool r37.s, r37.m.v, r37.d.v], .agg #[.bool r43.s, r43.m.v, r43.d.v, .bool r45.s, r45.m.v, r45.d.v]] ?_
  intro w50 u50 e50 d50
  have k57 := k_ivAdd d50 (h36.ext (e42.trans (g48.ext.trans e50))).raw (h38.ext (e42.trans (g48.ext.trans e50))).raw (h44.ext e50).raw (h46.ext e50).raw (by omega) (by omega)
  with_reducible refine Post.mono k57 ?_
  rintro _ u55 g56 ⟨r51, r53, rfl, h52, h54⟩
  refine zzi ⟨28, r51.cs ++ r53.cs⟩ ty28 ?_
  refine zzw ?_
  refine zzo ?_
  refine zze ?_
  refine zyp 31 (x := .v (.int .i64 (IntKind.i64.wrap ((i : Int) + 1)))) (.v (.int .i64 ((i + 1 : Nat) : Int))) (eqI (by rw [IntWalk.i64_in _ (by omega)]; omega)) ?_
  refine zza 13 (.v (.int .i64 ((i + 1 : Nat) : Int))) ?_
  refine zzw ?_
  have hs1 : (i + 1) * S = i * S + S := by rw [Nat.add_mul, Nat.one_mul]
  refine ⟨_, ?_, St.of 33 [(0, .v (.slice x.a x.n x.c)), (3, .adr 3 0), (4, .adr 4 0), (5, .adr 5 0), (12, .v (.int .i64 (x.n : Int))), (13, .v (.int .i64 ((i + 1 : Nat) : Int)))] [(3, ⟨28, b1.cs ++ b2.cs⟩), (4, ⟨28, [.bool false, .slice none 0 0, .slice none 0 0, .bool false, .slice none 0 0, .slice none 0 0]⟩), (5, ⟨28, r51.cs ++ r53.cs⟩)], by exact zzu _ _ _, i + 1, r51, r53, rfl, by omega, rfl, (e31.trans (e34.trans (g40.ext.trans (e42.trans (g48.ext.trans (e50.trans g56.ext)))))), (by have h9 := h52; rw [(Nt.enc_step _ _ _ _ _).1, hlen] at h9; rw [Nt.enc_top (by omega)]; exact RatN.more (K := (((i * S + 2) + M) + K + 1)) h9 (by omega)), (by have h9 := h54; rw [(Nt.enc_step _ _ _ _ _).2, hlen] at h9; rw [Nt.enc_top (by omega)]; exact RatN.more (K := (((i * S + 2) + M) + K + 1)) h9 (by omega))⟩
  omega
 ·replace hb32 : (decide ((i : Int) < (x.n : Int))) = false := hb32
  have qhb32 := of_decide_eq_false hb32
  refine zyb ?_
  refine zzo ?_
  refine sq9 ?_
  refine zzh 32 (.v (.agg #[.bool p1.s, p1.m.v, p1.d.v, .bool p2.s, p2.m.v, p2.d.v])) ty28 zzd ?_
  refine zzi ⟨28, p1.cs ++ p2.cs⟩ ty28 ?_
  refine zzb 33 [(4, .adr 4 0)] [(4, ⟨28, p1.cs ++ p2.cs⟩)] ?_
  refine zzn (ret0 [.agg #[.bool p1.s, .slice p1.m.a p1.m.n p1.m.c, .slice p1.d.a p1.d.n p1.d.c, .bool p2.s, .slice p2.m.a p2.m.n p2.m.c, .slice p2.d.a p2.d.n p2.d.c]] ⟨zzq ty28 zzd, trivial⟩ fun u58 e59 => ?_)
  have hin : i = l.length := by omega
  refine ⟨p1, p2, rfl, ?_, ?_⟩
  ·have h9 := (hP.ext e59)
   rw [hin, Nat.sub_self] at h9
   exact h9
  ·have h9 := (hQ.ext e59)
   rw [hin, Nat.sub_self] at h9
   exact h9
namespace Nt
theorem lo4_eq (a b c d : Rat) : lo (lo a b) (lo c d) = lo4 a b c d := by unfold lo4 lo; grind
theorem hi4_eq (a b c d : Rat) : hi (hi a b) (hi c d) = hi4 a b c d := by unfold hi4 hi; grind
end Nt
theorem k_r4Add {u w : World} {a1 a2 : RL} {x1 x2 : Rat} {b1 b2 : RL} {y1 y2 : Rat} {K L : Nat} (d : Dat u w) (ha1 : RatV u a1 x1 K) (ha2 : RatV u a2 x2 K) (hb1 : RatV u b1 y1 L) (hb2 : RatV u b2 y2 L) (hK : K ≤ 40000000) (hL : L ≤ 40000000) : Calls Tryz.prog 75 #[IV a1 a2, IV b1 b2] w (Post u w fun v u' => ∃ p q : RL, v = IV p q ∧ RatN u' p (Nt.lo x1 x2 + Nt.lo y1 y2) (K + L + 2) ∧ RatN u' q (Nt.hi x1 x2 + Nt.hi y1 y2) (K + L + 2)) := by
 refine zzl (args := [.agg #[.bool a1.s, .slice a1.m.a a1.m.n a1.m.c, .slice a1.d.a a1.d.n a1.d.c, .bool a2.s, .slice a2.m.a a2.m.n a2.m.c, .slice a2.d.a a2.d.n a2.d.c], .agg #[.bool b1.s, .slice b1.m.a b1.m.n b1.m.c, .slice b1.d.a b1.d.n b1.d.c, .bool b2.s, .slice b2.m.a b2.m.n b2.m.c, .slice b2.d.a b2.d.n b2.d.c]]) Tryz.func75 rfl Tryz.ntmps75 (rs := [.cell 4 28]) Tryz.results75 (le_b rfl) (le_b rfl) d ?_
 refine sq9 ?_
 refine zzj 2 ⟨28, a1.cs ++ a2.cs⟩ ?_
 refine zzj 3 ⟨28, b1.cs ++ b2.cs⟩ ?_
 refine zzj 4 ⟨28, [.bool false, .slice none 0 0, .slice none 0 0, .bool false, .slice none 0 0, .slice none 0 0]⟩ ?_
 refine zzb 20 [(2, .adr 2 0), (3, .adr 3 0), (4, .adr 4 0)] [(2, ⟨28, a1.cs ++ a2.cs⟩), (3, ⟨28, b1.cs ++ b2.cs⟩), (4, ⟨28, [.bool false, .slice none 0 0, .slice none 0 0, .bool false, .slice none 0 0, .slice none 0 0]⟩)] ?_
 refine zzc ?_
 refine zzy [0, 1, 0, 7, 15, 31] [(0, []), (2, []), (1, []), (3, []), (4, []), (5, [])] (by kernel_rfl) (by kernel_rfl) ?_
 refine zzh 5 (.v (.agg #[.bool a1.s, a1.m.v, a1.d.v, .bool a2.s, a2.m.v, a2.d.v])) ty28 zzd ?_
 refine zzh 7 (.v (.agg #[.bool b1.s, b1.m.v, b1.d.v, .bool b2.s, b2.m.v, b2.d.v])) ty28 zzd ?_
 refine zzf 6 69 [.agg #[.bool a1.s, a1.m.v, a1.d.v, .bool a2.s, a2.m.v, a2.d.v]] ?_
 intro w11 u11 e11 d11
 have k18 := k_r4Trim d11 (ha1.ext e11) (ha2.ext e11) (by omega)
 with_reducible refine Post.mono k18 ?_
 rintro _ u16 g17 ⟨r12, r14, rfl, h13, h15⟩
 refine zzf 8 69 [.agg #[.bool b1.s, b1.m.v, b1.d.v, .bool b2.s, b2.m.v, b2.d.v]] ?_
 intro w19 u19 e19 d19
 have k26 := k_r4Trim d19 (hb1.ext (e11.trans (g17.ext.trans e19))) (hb2.ext (e11.trans (g17.ext.trans e19))) (by omega)
 with_reducible refine Post.mono k26 ?_
 rintro _ u24 g25 ⟨r20, r22, rfl, h21, h23⟩
 refine zzi ⟨28, r12.cs ++ r14.cs⟩ ty28 ?_
 refine zzi ⟨28, r20.cs ++ r22.cs⟩ ty28 ?_
 refine zzb 20 [(2, .adr 2 0), (3, .adr 3 0), (4, .adr 4 0)] [(2, ⟨28, r12.cs ++ r14.cs⟩), (3, ⟨28, r20.cs ++ r22.cs⟩), (4, ⟨28, [.bool false, .slice none 0 0, .slice none 0 0, .bool false, .slice none 0 0, .slice none 0 0]⟩)] ?_
 refine zzc ?_
 refine zzy [0, 1, 0, 4, 15, 0, 32, 0, 128, 511, 1023, 2047] [(0, []), (1, []), (2, []), (3, []), (5, []), (6, []), (7, []), (8, []), (4, []), (9, []), (10, []), (11, [])] (by kernel_rfl) (by kernel_rfl) ?_
 refine zza 9 (.adr 2 0) ?_
 refine zzh 10 (.v (r12.v)) ty26 zzd ?_
 refine zza 11 (.adr 3 0) ?_
 refine zzh 12 (.v (r20.v)) ty26 zzd ?_
 refine zza 14 (.adr 2 3) ?_
 refine zzh 15 (.v (r14.v)) ty26 zzd ?_
 refine zza 16 (.adr 3 3) ?_
 refine zzh 17 (.v (r22.v)) ty26 zzd ?_
 refine zzf 13 18 [r12.v, r20.v] ?_
 intro w27 u27 e27 d27
 have k32 := k_rqAdd d27 (h13.ext (e19.trans (g25.ext.trans e27))).raw (h21.ext e27).raw (by omega) (by omega)
 with_reducible refine Post.mono k32 ?_
 rintro _ u30 g31 ⟨r28, rfl, h29⟩
 refine zzf 18 18 [r14.v, r22.v] ?_
 intro w33 u33 e33 d33
 have k38 := k_rqAdd d33 (h15.ext (e19.trans (g25.ext.trans (e27.trans (g31.ext.trans e33))))).raw (h23.ext (e27.trans (g31.ext.trans e33))).raw (by omega) (by omega)
 with_reducible refine Post.mono k38 ?_
 rintro _ u36 g37 ⟨r34, rfl, h35⟩
 refine zza 19 (.v (.agg #[.bool r28.s, r28.m.v, r28.d.v, .bool r34.s, r34.m.v, r34.d.v])) ?_
 refine zzi ⟨28, r28.cs ++ r34.cs⟩ ty28 ?_
 refine zzb 20 [(4, .adr 4 0)] [(4, ⟨28, r28.cs ++ r34.cs⟩)] ?_
 refine zzn (ret0 [.agg #[.bool r28.s, .slice r28.m.a r28.m.n r28.m.c, .slice r28.d.a r28.d.n r28.d.c, .bool r34.s, .slice r34.m.a r34.m.n r34.m.c, .slice r34.d.a r34.d.n r34.d.c]] ⟨zzq ty28 zzd, trivial⟩ fun u39 e40 => ?_)
 refine ⟨r28, r34, rfl, RatN.more (K := (K + L + 2)) ?_ (by omega), RatN.more (K := (K + L + 2)) ?_ (by omega)⟩
 ·exact (h29.ext (e33.trans (g37.ext.trans e40)))
 ·exact (h35.ext e40)
theorem k_r4Mul {u w : World} {a1 a2 : RL} {x1 x2 : Rat} {b1 b2 : RL} {y1 y2 : Rat} {K L : Nat} (d : Dat u w) (ha1 : RatV u a1 x1 K) (ha2 : RatV u a2 x2 K) (hb1 : RatV u b1 y1 L) (hb2 : RatV u b2 y2 L) (hK : K ≤ 40000000) (hL : L ≤ 40000000) : Calls Tryz.prog 77 #[IV a1 a2, IV b1 b2] w (Post u w fun v u' => ∃ p q : RL, v = IV p q ∧ RatN u' p (Nt.lo4 (x1 * y1) (x1 * y2) (x2 * y1) (x2 * y2)) (K + L + 1) ∧ RatN u' q (Nt.hi4 (x1 * y1) (x1 * y2) (x2 * y1) (x2 * y2)) (K + L + 1)) := by
 refine zzl (args := [.agg #[.bool a1.s, .slice a1.m.a a1.m.n a1.m.c, .slice a1.d.a a1.d.n a1.d.c, .bool a2.s, .slice a2.m.a a2.m.n a2.m.c, .slice a2.d.a a2.d.n a2.d.c], .agg #[.bool b1.s, .slice b1.m.a b1.m.n b1.m.c, .slice b1.d.a b1.d.n b1.d.c, .bool b2.s, .slice b2.m.a b2.m.n b2.m.c, .slice b2.d.a b2.d.n b2.d.c]]) Tryz.func77 rfl Tryz.ntmps77 (rs := [.cell 4 28]) Tryz.results77 (le_b rfl) (le_b rfl) d ?_
 refine sq9 ?_
 refine zzj 2 ⟨28, a1.cs ++ a2.cs⟩ ?_
 refine zzj 3 ⟨28, b1.cs ++ b2.cs⟩ ?_
 refine zzj 4 ⟨28, [.bool false, .slice none 0 0, .slice none 0 0, .bool false, .slice none 0 0, .slice none 0 0]⟩ ?_
 refine zzb 44 [(2, .adr 2 0), (3, .adr 3 0), (4, .adr 4 0)] [(2, ⟨28, a1.cs ++ a2.cs⟩), (3, ⟨28, b1.cs ++ b2.cs⟩), (4, ⟨28, [.bool false, .slice none 0 0, .slice none 0 0, .bool false, .slice none 0 0, .slice none 0 0]⟩)] ?_
 refine zzc ?_
 refine zzy [0, 1, 0, 4, 15, 0, 32, 0, 128, 511, 0, 1024, 0, 4096, 16383, 0, 32768, 0, 131072, 524287, 0, 0, 0, 0, 16777215, 33554431, 67108863, 134217727] [(0, []), (1, []), (2, []), (3, []), (5, []), (6, []), (7, []), (8, []), (10, []), (11, []), (12, []), (13, []), (15, []), (16, []), (17, []), (18, []), (20, []), (21, []), (22, []), (23, []), (4, []), (9, []), (14, []), (19, []), (24, []), (25, []), (26, []), (27, [])] (by kernel_rfl) (by kernel_rfl) ?_
 refine zza 9 (.adr 2 0) ?_
 refine zzh 10 (.v (a1.v)) ty26 zzd ?_
 refine zza 11 (.adr 3 0) ?_
 refine zzh 12 (.v (b1.v)) ty26 zzd ?_
 refine zza 14 (.adr 2 0) ?_
 refine zzh 15 (.v (a1.v)) ty26 zzd ?_
 refine zza 16 (.adr 3 3) ?_
 refine zzh 17 (.v (b2.v)) ty26 zzd ?_
 refine zza 19 (.adr 2 3) ?_
 refine zzh 20 (.v (a2.v)) ty26 zzd ?_
 refine zza 21 (.adr 3 0) ?_
 refine zzh 22 (.v (b1.v)) ty26 zzd ?_
 refine zza 24 (.adr 2 3) ?_
 refine zzh 25 (.v (a2.v)) ty26 zzd ?_
 refine zza 26 (.adr 3 3) ?_
 refine zzh 27 (.v (b2.v)) ty26 zzd ?_
 refine zzj 5 ⟨26, [.bool false, .slice none 0 0, .slice none 0 0]⟩ ?_
 refine zzj 6 ⟨26, [.bool false, .slice none 0 0, .slice none 0 0]⟩ ?_
 refine zzj 7 ⟨26, [.bool false, .slice none 0 0, .slice none 0 0]⟩ ?_
 refine zzj 8 ⟨26, [.bool false, .slice none 0 0, .slice none 0 0]⟩ ?_
 refine zzf 13 22 [a1.v, b1.v] ?_
 intro w11 u11 e11 d11
 have k16 := k_rqMul d11 (ha1.ext e11) (hb1.ext e11) (by omega) (by omega)
 with_reducible refine Post.mono k16 ?_
 rintro _ u14 g15 ⟨r12, rfl, h13⟩
 refine zzf 18 22 [a1.v, b2.v] ?_
 intro w17 u17 e17 d17
 have k22 := k_rqMul d17 (ha1.ext (e11.trans (g15.ext.trans e17))) (hb2.ext (e11.trans (g15.ext.trans e17))) (by omega) (by omega)
 with_reducible refine Post.mono k22 ?_
 rintro _ u20 g21 ⟨r18, rfl, h19⟩
 refine zzf 23 22 [a2.v, b1.v] ?_
 intro w23 u23 e23 d23
 have k28 := k_rqMul d23 (ha2.ext (e11.trans (g15.ext.trans (e17.trans (g21.ext.trans e23))))) (hb1.ext (e11.trans (g15.ext.trans (e17.trans (g21.ext.trans e23))))) (by omega) (by omega)
 with_reducible refine Post.mono k28 ?_
 rintro _ u26 g27 ⟨r24, rfl, h25⟩
 refine zzf 28 22 [a2.v, b2.v] ?_
 intro w29 u29 e29 d29
 have k34 := k_rqMul d29 (ha2.ext (e11.trans (g15.ext.trans (e17.trans (g21.ext.trans (e23.trans (g27.ext.trans e29))))))) (hb2.ext (e11.trans (g15.ext.trans (e17.trans (g21.ext.trans (e23.trans (g27.ext.trans e29))))))) (by omega) (by omega)
 with_reducible refine Post.mono k34 ?_
 rintro _ u32 g33 ⟨r30, rfl, h31⟩
 refine zzi ⟨26, r12.cs⟩ ty26 ?_
 refine zzi ⟨26, r18.cs⟩ ty26 ?_
 refine zzi ⟨26, r24.cs⟩ ty26 ?_
 refine zzi ⟨26, r30.cs⟩ ty26 ?_
 refine zzb 44 [(4, .adr 4 0), (5, .adr 5 0), (6, .adr 6 0), (7, .adr 7 0), (8, .adr 8 0)] [(4, ⟨28, [.bool false, .slice none 0 0, .slice none 0 0, .bool false, .slice none 0 0, .slice none 0 0]⟩), (5, ⟨26, r12.cs⟩), (6, ⟨26, r18.cs⟩), (7, ⟨26, r24.cs⟩), (8, ⟨26, r30.cs⟩)] ?_
 refine zzc ?_
 refine zzy [0, 0, 3, 0, 0, 31, 63, 0, 0, 511, 0, 0, 4095, 8191, 16383, 32767] [(0, []), (1, []), (3, []), (4, []), (7, []), (8, []), (10, []), (11, []), (2, []), (5, []), (6, []), (9, []), (12, []), (13, []), (14, []), (15, [])] (by kernel_rfl) (by kernel_rfl) ?_
 refine zzh 29 (.v (r12.v)) ty26 zzd ?_
 refine zzh 30 (.v (r18.v)) ty26 zzd ?_
 refine zzh 32 (.v (r24.v)) ty26 zzd ?_
 refine zzh 33 (.v (r30.v)) ty26 zzd ?_
 refine zzh 36 (.v (r12.v)) ty26 zzd ?_
 refine zzh 37 (.v (r18.v)) ty26 zzd ?_
 refine zzh 39 (.v (r24.v)) ty26 zzd ?_
 refine zzh 40 (.v (r30.v)) ty26 zzd ?_
 refine zzf 31 130 [r12.v, r18.v] ?_
 intro w35 u35 e35 d35
 have k40 := k_rqMin d35 (h13.ext (e17.trans (g21.ext.trans (e23.trans (g27.ext.trans (e29.trans (g33.ext.trans e35))))))).raw (h19.ext (e23.trans (g27.ext.trans (e29.trans (g33.ext.trans e35))))).raw (by omega) (by omega)
 with_reducible refine Post.mono k40 ?_
 rintro _ u38 g39 ⟨r36, rfl, h37⟩
 refine zzf 34 130 [r24.v, r30.v] ?_
 intro w41 u41 e41 d41
 have k46 := k_rqMin d41 (h25.ext (e29.trans (g33.ext.trans (e35.trans (g39.ext.trans e41))))).raw (h31.ext (e35.trans (g39.ext.trans e41))).raw (by omega) (by omega)
 with_reducible refine Post.mono k46 ?_
 rintro _ u44 g45 ⟨r42, rfl, h43⟩
 refine zzf 35 130 [r36.v, r42.v] ?_
 intro w47 u47 e47 d47
 have k52 := k_rqMin d47 (h37.ext (e41.trans (g45.ext.trans e47))).raw (h43.ext e47).raw (by omega) (by omega)
 with_reducible refine Post.mono k52 ?_
 rintro _ u50 g51 ⟨r48, rfl, h49⟩
 refine zzf 38 129 [r12.v, r18.v] ?_
 intro w53 u53 e53 d53
 have k58 := k_rqMax d53 (h13.ext (e17.trans (g21.ext.trans (e23.trans (g27.ext.trans (e29.trans (g33.ext.trans (e35.trans (g39.ext.trans (e41.trans (g45.ext.trans (e47.trans (g51.ext.trans e53))))))))))))).raw (h19.ext (e23.trans (g27.ext.trans (e29.trans (g33.ext.trans (e35.trans (g39.ext.trans (e41.trans (g45.ext.trans (e47.trans (g51.ext.trans e53))))))))))).raw (by omega) (by omega)
 with_reducible refine Post.mono k58 ?_
 rintro _ u56 g57 ⟨r54, rfl, h55⟩
 refine zzf 41 129 [r24.v, r30.v] ?_
 intro w59 u59 e59 d59
 have k64 := k_rqMax d59 (h25.ext (e29.trans (g33.ext.trans (e35.trans (g39.ext.trans (e41.trans (g45.ext.trans (e47.trans (g51.ext.trans (e53.trans (g57.ext.trans e59))))))))))).raw (h31.ext (e35.trans (g39.ext.trans (e41.trans (g45.ext.trans (e47.trans (g51.ext.trans (e53.trans (g57.ext.trans e59))))))))).raw (by omega) (by omega)
 with_reducible refine Post.mono k64 ?_
 rintro _ u62 g63 ⟨r60, rfl, h61⟩
 refine zzf 42 129 [r54.v, r60.v] ?_
 intro w65 u65 e65 d65
 have k70 := k_rqMax d65 (h55.ext (e59.trans (g63.ext.trans e65))).raw (h61.ext e65).raw (by omega) (by omega)
 with_reducible refine Post.mono k70 ?_
 rintro _ u68 g69 ⟨r66, rfl, h67⟩
 refine zza 43 (.v (.agg #[.bool r48.s, r48.m.v, r48.d.v, .bool r66.s, r66.m.v, r66.d.v])) ?_
 refine zzi ⟨28, r48.cs ++ r66.cs⟩ ty28 ?_
 refine zzb 44 [(4, .adr 4 0)] [(4, ⟨28, r48.cs ++ r66.cs⟩)] ?_
 refine zzn (ret0 [.agg #[.bool r48.s, .slice r48.m.a r48.m.n r48.m.c, .slice r48.d.a r48.d.n r48.d.c, .bool r66.s, .slice r66.m.a r66.m.n r66.m.c, .slice r66.d.a r66.d.n r66.d.c]] ⟨zzq ty28 zzd, trivial⟩ fun u71 e72 => ?_)
 refine ⟨r48, r66, rfl, RatN.more (K := (max (max (K + L + 1) (K + L + 1)) (max (K + L + 1) (K + L + 1)))) ?_ (by omega), RatN.more (K := (max (max (K + L + 1) (K + L + 1)) (max (K + L + 1) (K + L + 1)))) ?_ (by omega)⟩
 ·rw [← Nt.lo4_eq]; exact (h49.ext (e53.trans (g57.ext.trans (e59.trans (g63.ext.trans (e65.trans (g69.ext.trans e72)))))))
 ·rw [← Nt.hi4_eq]; exact (h67.ext e72)
end Go.Proofs.YtnedhbidmfoegaaGreat
