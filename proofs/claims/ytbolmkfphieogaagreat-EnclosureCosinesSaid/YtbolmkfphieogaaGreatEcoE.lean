/- Parts of the proof: contracts of functions, each walked once, and plain laws. -/
import Derived.Test.YtbolmkfphieogaaGreatEcoD
namespace Go.Proofs.YtbolmkfphieogaaGreat
open Go.RowKit
set_option linter.unusedVariables false
theorem k_exactly {u w : World} {r : RL} {q : Rat} {K k : Nat} (d : Dat u w) (hr : RatN u r q K) (hk : k ≤ 256) (hK : K ≤ 10) : Calls Tryz.prog 177 #[r.v, .int .i64 (k : Int)] w (Post u w fun v u' => ∃ r1 r2 : RL, v = IV r1 r2 ∧ RatN u' r1 (Nt.dnQ q k) 80 ∧ RatN u' r2 (-Nt.dnQ (-q) k) 80) := by
 refine zzl (args := [r.v, .int .i64 k]) Tryz.func177 rfl Tryz.ntmps177 (rs := [.cell 4 32]) Tryz.results177 (le_b rfl) (le_b rfl) d ?_
 refine sq9 (zzj 2 ⟨26, r.cs⟩ (zzj 4 ⟨32, [.bool false, .slice none 0 0, .slice none 0 0, .bool false, .slice none 0 0, .slice none 0 0]⟩ (zzb (sq9 (zzh 8 (.v (r.v)) ty26 zze (zzh 9 (.v (r.v)) ty26 zze (zzg 10 144 [r.v, r.v] ?_)))))))
 intro w11 u11 e11 d11
 have k18 := k_ivMake d11 (hr.ext e11).raw (hr.ext e11).raw xq
 with_reducible refine zPm k18 ?_
 rintro _ u16 g17 ⟨r12, r14, rfl, h13, h15⟩
 refine zza 11 (zI k) (zzg 12 227 [.agg #[.bool r12.s, r12.m.v, r12.d.v, .bool r14.s, r14.m.v, r14.d.v], .int .i64 k] ?_)
 intro w19 u19 e19 d19
 have k25 := k_ivRoundG (k := k) xq d19 (h13.ext e19).raw (h15.ext e19).raw xq
 with_reducible refine zPm k25 ?_
 rintro _ u23 g24 ⟨r20, r21, rfl, h22⟩
 refine zza 7 (.v (.tuple #[.agg #[.bool r20.s, r20.m.v, r20.d.v, .bool r21.s, r21.m.v, r21.d.v], .int .i64 (Nt.rndE (k : Int))])) (zza 13 (.v (.agg #[.bool r20.s, r20.m.v, r20.d.v, .bool r21.s, r21.m.v, r21.d.v])) (zza 14 (zI (Nt.rndE (k : Int))) (zzj 5 ⟨32, [.bool false, .slice none 0 0, .slice none 0 0, .bool false, .slice none 0 0, .slice none 0 0]⟩ (zzi ⟨32, r20.cs ++ r21.cs⟩ ty32 ?_))))
 refine zza 6 (zI (Nt.rndE (k : Int))) (zzb (sq9 (zzh 15 (.v (.agg #[.bool r20.s, r20.m.v, r20.d.v, .bool r21.s, r21.m.v, r21.d.v])) ty32 zze (zzi ⟨32, r20.cs ++ r21.cs⟩ ty32 ?_))))
 refine zzb (zzn (ret0 [.agg #[.bool r20.s, .slice r20.m.a r20.m.n r20.m.c, .slice r20.d.a r20.d.n r20.d.c, .bool r21.s, .slice r21.m.a r21.m.n r21.m.c, .slice r21.d.a r21.d.n r21.d.c]] ⟨zzq ty32 zze, trivial⟩ fun u26 e27 => ?_))
 have h9 := (h22.ext e27)
 rw [Nt.rnd_pt hk] at h9
 exact ⟨r20, r21, rfl, RatN.more h9.1 xq, RatN.more h9.2 xq⟩
set_option maxHeartbeats 4000000 in
theorem k_cosA {u w : World} {p : Int} {q k : Nat} (d : Dat u w) (hq0 : 0 < q) (hq2 : q ≤ 10000) (hG0 : Nt.GapQ q k) (hp0 : -1000000000 ≤ p) (hp1 : p ≤ 1000000000) (hk : k ≤ 256) (hA : 2 * Nt.fold p q ≤ q) : Calls Tryz.prog 100 #[.int .i64 p, .int .i64 (q : Int), .int .i64 (k : Int)] w (Post u w fun v u' => ∃ r1 r2 : RL, v = IV r1 r2 ∧ RatN u' r1 ((Nt.cosA (Nt.fold p q) q k).1) 80 ∧ RatN u' r2 ((Nt.cosA (Nt.fold p q) q k).2) 80) := by
 have htm := Nt.tmod_bd p hq0
 obtain ⟨g, hg3, hG⟩ := id hG0
 refine zzl (args := [.int .i64 p, .int .i64 q, .int .i64 k]) Tryz.func100 rfl Tryz.ntmps100 (rs := [.cell 6 32]) Tryz.results100 (le_b rfl) (le_b rfl) d ?_
 refine sq9 (zzj 3 ⟨3, [.int .i64 p]⟩ (zzj 4 ⟨3, [.int .i64 q]⟩ (zzj 6 ⟨32, [.bool false, .slice none 0 0, .slice none 0 0, .bool false, .slice none 0 0, .slice none 0 0]⟩ (zzb (sq9 (zzh 8 (zI p) ty3 zzk (zzh 9 (zI q) ty3 zzk (zyn 10 (x := zI (IntKind.i64.wrap ((2 : Int) * (q : Int)))) (zI (2 * q : Nat)) (eqI xj) (sy_rem 11 (m := ((2 * q : Nat) : Int)) (Int.tmod p (2 * (q : Int))) xq (by rw [Int.natCast_mul]; rfl) ?_)))))))))
 refine zzi ⟨3, [.int .i64 (Int.tmod p (2 * (q : Int)))]⟩ ty3 ?_
 refine zzb (zzd (sq9 (zzh 12 (zI (Int.tmod p (2 * (q : Int)))) ty3 zzk (zza 13 (zB (decide ((Int.tmod p (2 * (q : Int))) < 0))) (zzb (zzt (b := decide ((Int.tmod p (2 * (q : Int))) < 0)) xk (fun hb11 => ?_) (fun hb11 => ?_)))))))
 ·replace hb11 : (decide ((Int.tmod p (2 * (q : Int))) < 0)) = true := hb11
  have qhb11 := of_decide_eq_true hb11
  refine zzf (zzh 14 (zI (Int.tmod p (2 * (q : Int)))) ty3 zzk (zyn 15 (x := zI (IntKind.i64.wrap (0 - (Int.tmod p (2 * (q : Int)))))) (zI (-(Int.tmod p (2 * (q : Int))))) (eqI xj) (zzi ⟨3, [.int .i64 (-(Int.tmod p (2 * (q : Int))))]⟩ ty3 ?_)))
  refine zzb (zzd (sq9 (zzh 16 (zI (-(Int.tmod p (2 * (q : Int))))) ty3 zzk (zzh 17 (zI q) ty3 zzk (zza 18 (zB (decide ((q : Int) < (-(Int.tmod p (2 * (q : Int))))))) (zzb (zzt (b := decide ((q : Int) < (-(Int.tmod p (2 * (q : Int)))))) xk (fun hb12 => ?_) (fun hb12 => ?_))))))))
  ·replace hb12 : (decide ((q : Int) < (-(Int.tmod p (2 * (q : Int)))))) = true := hb12
   have qhb12 := of_decide_eq_true hb12
   refine zzf (zzh 19 (zI q) ty3 zzk (zyn 20 (x := zI (IntKind.i64.wrap ((2 : Int) * (q : Int)))) (zI (2 * q : Nat)) (eqI xj) (zzh 21 (zI (-(Int.tmod p (2 * (q : Int))))) ty3 zzk (zyn 22 (x := zI (IntKind.i64.wrap (((2 * q : Nat) : Int) - (-(Int.tmod p (2 * (q : Int))))))) (zI (((2 * q : Nat) : Int) - (-(Int.tmod p (2 * (q : Int)))))) yv (zzi ⟨3, [.int .i64 (((2 * q : Nat) : Int) - (-(Int.tmod p (2 * (q : Int)))))]⟩ ty3 ?_)))))
   refine zzb (zzd (zzd ?_))
   have hfold : (((2 * q : Nat) : Int) - (-(Int.tmod p (2 * (q : Int))))) = ((Nt.fold p q : Nat) : Int) := by unfold Nt.fold; dsimp only; split <;> omega
   rw [hfold]
   have hfl := Nt.fold_le p q hq0
   obtain ⟨r, hr⟩ : ∃ r, Nt.fold p q = r := ⟨_, rfl⟩
   rw [hr] at hfl ⊢
   clear hfold
   rw [hr] at hA
   refine zzf (zzh 23 (zI r) ty3 zzk (zyn 24 (x := zI (IntKind.i64.wrap ((2 : Int) * (r : Int)))) (zI (2 * r : Nat)) (eqI xj) (zzh 25 (zI q) ty3 zzk (zza 26 (zB (decide ((q : Int) < ((2 * r : Nat) : Int)))) (zzb (zzt (b := decide ((q : Int) < ((2 * r : Nat) : Int))) xk (fun hb => ?_) (fun hb => ?_)))))))
   ·exact absurd hb (by rw [show (decide ((q : Int) < ((2 * r : Nat) : Int))) = false from decide_eq_false xq]; decide)
   ·clear hb
    refine zzr (zzo ?_)
    refine zzd (zzs (sq9 (zzh 41 (zI r) ty3 zzk (zza 42 (zB ((r : Int) == 0)) (zza 40 (zB ((r : Int) == 0)) (zzb (zzt (b := (r : Int) == 0) xk (fun hb13 => ?_) (fun hb13 => ?_))))))))
    ·replace hb13 : ((r : Int) == 0) = true := hb13
     have qhb13 : (r : Int) = 0 := by simpa using hb13
     refine sq9 (zzg 43 118 [.int .i64 1] ?_)
     intro w14 u14 e14 d14
     have k19 := k_ratOf d14 (z := 1) xq xq
     with_reducible refine zPm k19 ?_
     rintro _ u17 g18 ⟨r15, rfl, h16⟩
     refine zza 44 (zI k) (zzg 45 177 [r15.v, .int .i64 k] ?_)
     intro w20 u20 e20 d20
     have k27 := k_exactly (k := k) d20 (h16.ext e20) xq xq
     with_reducible refine zPm k27 ?_
     rintro _ u25 g26 ⟨r21, r23, rfl, h22, h24⟩
     refine zzi ⟨32, r21.cs ++ r23.cs⟩ ty32 ?_
     refine zzc 65 [(6, .adr 6 0)] [(6, ⟨32, r21.cs ++ r23.cs⟩)] (zzn (zyr (zzv (ret0 [.agg #[.bool r21.s, .slice r21.m.a r21.m.n r21.m.c, .slice r21.d.a r21.d.n r21.d.c, .bool r23.s, .slice r23.m.a r23.m.n r23.m.c, .slice r23.d.a r23.d.n r23.d.c]] ⟨zzq ty32 zze, trivial⟩ fun u28 e29 => ?_))))
     have hc := Nt.cosA_0 (r := r) (q := q) (b := k) (by have h9 := hb13; simp at h9; omega)
     refine ⟨r21, r23, rfl, RatN.more (K := 80) ?_ xq, RatN.more (K := 80) ?_ xq⟩
     ·rw [hc]; exact (h22.ext e29)
     ·rw [hc]; exact (h24.ext e29)
    ·replace hb13 : ((r : Int) == 0) = false := hb13
     have qhb13 : ¬ ((r : Int) = 0) := by simpa using hb13
     refine sq9 (zzh 47 (zI r) ty3 zzk (zyn 48 (x := zI (IntKind.i64.wrap ((2 : Int) * (r : Int)))) (zI (2 * r : Nat)) (eqI xj) (zzh 49 (zI q) ty3 zzk (zza 50 (zB (((2 * r : Nat) : Int) == (q : Int))) (zza 46 (zB (((2 * r : Nat) : Int) == (q : Int))) (zzc 65 [(2, zI k), (3, .adr 3 0), (4, .adr 4 0), (6, .adr 6 0), (46, zB (((2 * r : Nat) : Int) == (q : Int)))] [(3, ⟨3, [.int .i64 r]⟩), (4, ⟨3, [.int .i64 q]⟩), (6, ⟨32, [.bool false, .slice none 0 0, .slice none 0 0, .bool false, .slice none 0 0, .slice none 0 0]⟩)] (zzt (b := ((2 * r : Nat) : Int) == (q : Int)) xk (fun hb30 => ?_) (fun hb30 => ?_))))))))
     ·replace hb30 : (((2 * r : Nat) : Int) == (q : Int)) = true := hb30
      refine sq9 (zzg 51 118 [.int .i64 0] ?_)
      intro w31 u31 e31 d31
      have k36 := k_ratOf d31 (z := 0) xq xq
      with_reducible refine zPm k36 ?_
      rintro _ u34 g35 ⟨r32, rfl, h33⟩
      refine zza 52 (zI k) (zzg 53 177 [r32.v, .int .i64 k] ?_)
      intro w37 u37 e37 d37
      have k44 := k_exactly (k := k) d37 (h33.ext e37) xq xq
      with_reducible refine zPm k44 ?_
      rintro _ u42 g43 ⟨r38, r40, rfl, h39, h41⟩
      refine zzi ⟨32, r38.cs ++ r40.cs⟩ ty32 ?_
      refine zzb (zzn (zyr (zzv (ret0 [.agg #[.bool r38.s, .slice r38.m.a r38.m.n r38.m.c, .slice r38.d.a r38.d.n r38.d.c, .bool r40.s, .slice r40.m.a r40.m.n r40.m.c, .slice r40.d.a r40.d.n r40.d.c]] ⟨zzq ty32 zze, trivial⟩ fun u45 e46 => ?_))))
      have hc := Nt.cosA_h (r := r) (q := q) (b := k) (by have h9 := hb13; simp at h9; omega) (by have h9 := hb30; simp at h9; omega)
      refine ⟨r38, r40, rfl, RatN.more (K := 80) ?_ xq, RatN.more (K := 80) ?_ xq⟩
      ·rw [hc]; exact (h39.ext e46)
      ·rw [hc]; exact (h41.ext e46)
     ·replace hb30 : (((2 * r : Nat) : Int) == (q : Int)) = false := hb30
      have q9hb30 : ¬ 2 * r = q := by have h9 := hb30; simp at h9; omega
      refine sq9 (zzh 55 (zI r) ty3 zzk (zyn 56 (x := zI (IntKind.i64.wrap ((3 : Int) * (r : Int)))) (zI (3 * r : Nat)) (eqI xj) (zzh 57 (zI q) ty3 zzk (zza 58 (zB (((3 * r : Nat) : Int) == (q : Int))) (zza 54 (zB (((3 * r : Nat) : Int) == (q : Int))) (zzb (zzt (b := ((3 * r : Nat) : Int) == (q : Int)) xk (fun hb47 => ?_) (fun hb47 => ?_))))))))
      ·replace hb47 : (((3 * r : Nat) : Int) == (q : Int)) = true := hb47
       refine sq9 (zzg 59 127 [.int .i64 1, .int .i64 2] ?_)
       intro w48 u48 e48 d48
       have k53 := k_ratFrac d48 (a := 1) (b := 2) xq xq xq xq
       with_reducible refine zPm k53 ?_
       rintro _ u51 g52 ⟨r49, rfl, h50⟩
       refine zza 60 (zI k) (zzg 61 177 [r49.v, .int .i64 k] ?_)
       intro w54 u54 e54 d54
       have k61 := k_exactly (k := k) d54 (h50.ext e54) xq xq
       with_reducible refine zPm k61 ?_
       rintro _ u59 g60 ⟨r55, r57, rfl, h56, h58⟩
       refine zzi ⟨32, r55.cs ++ r57.cs⟩ ty32 ?_
       refine zzb (zzn (zyr (zzv (ret0 [.agg #[.bool r55.s, .slice r55.m.a r55.m.n r55.m.c, .slice r55.d.a r55.d.n r55.d.c, .bool r57.s, .slice r57.m.a r57.m.n r57.m.c, .slice r57.d.a r57.d.n r57.d.c]] ⟨zzq ty32 zze, trivial⟩ fun u62 e63 => ?_))))
       have hc := Nt.cosA_3 (r := r) (q := q) (b := k) (by have h9 := hb13; simp at h9; omega) (by have h9 := hb30; simp at h9; omega) (by have h9 := hb47; simp at h9; omega)
       refine ⟨r55, r57, rfl, RatN.more (K := 80) ?_ xq, RatN.more (K := 80) ?_ xq⟩
       ·rw [hc]; exact (h56.ext e63)
       ·rw [hc]; exact (h58.ext e63)
      ·replace hb47 : (((3 * r : Nat) : Int) == (q : Int)) = false := hb47
       have q9hb47 : ¬ 3 * r = q := by have h9 := hb47; simp at h9; omega
       refine zzr (zzo ?_)
       refine zzd (sw_pubA (r := 3) (t := 3) [3] xz xk (by rfl) (by rfl) xk (fun b64 u65 e66 hb67 hv68 hh69 => ?_))
       refine sw_pubA (r := 4) (t := 4) [4] xz xk (by rfl) (by rfl) xk (fun b70 u71 e72 hb73 hv74 hh75 => ?_)
       refine zzf (sy_fun 62 [.pointer (some ⟨b64, 0, none⟩), .pointer (some ⟨b70, 0, none⟩)] ?_)
       refine zza 63 (zI k) (zzg 64 101 [.func (.func 178) #[] #[.pointer (some ⟨b64, 0, none⟩), .pointer (some ⟨b70, 0, none⟩)], .int .i64 k] ?_)
       intro w76 u76 e76 d76
       have k83 := k_irrCos (k := k) d76 ((e72.trans e76).cells hh69) (e76.cells hh75) hq0 xq xq xq (hG r xq xq xq) hg3 xq
       with_reducible refine zPm k83 ?_
       rintro _ u81 g82 ⟨r77, r79, rfl, h78, h80⟩
       refine zzi ⟨32, r77.cs ++ r79.cs⟩ ty32 ?_
       refine zzb (zzn (ret0 [.agg #[.bool r77.s, .slice r77.m.a r77.m.n r77.m.c, .slice r77.d.a r77.d.n r77.d.c, .bool r79.s, .slice r79.m.a r79.m.n r79.m.c, .slice r79.d.a r79.d.n r79.d.c]] ⟨zzq ty32 zze, trivial⟩ fun u84 e85 => ?_))
       have hc := Nt.cosA_g (r := r) (q := q) (b := k) (by have h9 := hb13; simp at h9; omega) (by have h9 := hb30; simp at h9; omega) (by have h9 := hb47; simp at h9; omega)
       refine ⟨r77, r79, rfl, RatN.more (K := 70) ?_ xq, RatN.more (K := 70) ?_ xq⟩
       ·rw [hc]; exact (h78.ext e85)
       ·rw [hc]; exact (h80.ext e85)
  ·replace hb12 : (decide ((q : Int) < (-(Int.tmod p (2 * (q : Int)))))) = false := hb12
   have qhb12 := of_decide_eq_false hb12
   refine zzr (zzo ?_)
   refine zzd (zzd ?_)
   have hfold : (-(Int.tmod p (2 * (q : Int)))) = ((Nt.fold p q : Nat) : Int) := by unfold Nt.fold; dsimp only; split <;> omega
   rw [hfold]
   have hfl := Nt.fold_le p q hq0
   obtain ⟨r, hr⟩ : ∃ r, Nt.fold p q = r := ⟨_, rfl⟩
   rw [hr] at hfl ⊢
   clear hfold
   rw [hr] at hA
   refine zzf (zzh 23 (zI r) ty3 zzk (zyn 24 (x := zI (IntKind.i64.wrap ((2 : Int) * (r : Int)))) (zI (2 * r : Nat)) (eqI xj) (zzh 25 (zI q) ty3 zzk (zza 26 (zB (decide ((q : Int) < ((2 * r : Nat) : Int)))) (zzb (zzt (b := decide ((q : Int) < ((2 * r : Nat) : Int))) xk (fun hb => ?_) (fun hb => ?_)))))))
   ·exact absurd hb (by rw [show (decide ((q : Int) < ((2 * r : Nat) : Int))) = false from decide_eq_false xq]; decide)
   ·clear hb
    refine zzr (zzo ?_)
    refine zzd (zzs (sq9 (zzh 41 (zI r) ty3 zzk (zza 42 (zB ((r : Int) == 0)) (zza 40 (zB ((r : Int) == 0)) (zzb (zzt (b := (r : Int) == 0) xk (fun hb86 => ?_) (fun hb86 => ?_))))))))
    ·replace hb86 : ((r : Int) == 0) = true := hb86
     have qhb86 : (r : Int) = 0 := by simpa using hb86
     refine sq9 (zzg 43 118 [.int .i64 1] ?_)
     intro w87 u87 e87 d87
     have k92 := k_ratOf d87 (z := 1) xq xq
     with_reducible refine zPm k92 ?_
     rintro _ u90 g91 ⟨r88, rfl, h89⟩
     refine zza 44 (zI k) (zzg 45 177 [r88.v, .int .i64 k] ?_)
     intro w93 u93 e93 d93
     have k100 := k_exactly (k := k) d93 (h89.ext e93) xq xq
     with_reducible refine zPm k100 ?_
     rintro _ u98 g99 ⟨r94, r96, rfl, h95, h97⟩
     refine zzi ⟨32, r94.cs ++ r96.cs⟩ ty32 ?_
     refine zzb (zzn (zyr (zzv (ret0 [.agg #[.bool r94.s, .slice r94.m.a r94.m.n r94.m.c, .slice r94.d.a r94.d.n r94.d.c, .bool r96.s, .slice r96.m.a r96.m.n r96.m.c, .slice r96.d.a r96.d.n r96.d.c]] ⟨zzq ty32 zze, trivial⟩ fun u101 e102 => ?_))))
     have hc := Nt.cosA_0 (r := r) (q := q) (b := k) (by have h9 := hb86; simp at h9; omega)
     refine ⟨r94, r96, rfl, RatN.more (K := 80) ?_ xq, RatN.more (K := 80) ?_ xq⟩
     ·rw [hc]; exact (h95.ext e102)
     ·rw [hc]; exact (h97.ext e102)
    ·replace hb86 : ((r : Int) == 0) = false := hb86
     have qhb86 : ¬ ((r : Int) = 0) := by simpa using hb86
     refine sq9 (zzh 47 (zI r) ty3 zzk (zyn 48 (x := zI (IntKind.i64.wrap ((2 : Int) * (r : Int)))) (zI (2 * r : Nat)) (eqI xj) (zzh 49 (zI q) ty3 zzk (zza 50 (zB (((2 * r : Nat) : Int) == (q : Int))) (zza 46 (zB (((2 * r : Nat) : Int) == (q : Int))) (zzb (zzt (b := ((2 * r : Nat) : Int) == (q : Int)) xk (fun hb103 => ?_) (fun hb103 => ?_))))))))
     ·replace hb103 : (((2 * r : Nat) : Int) == (q : Int)) = true := hb103
      refine sq9 (zzg 51 118 [.int .i64 0] ?_)
      intro w104 u104 e104 d104
      have k109 := k_ratOf d104 (z := 0) xq xq
      with_reducible refine zPm k109 ?_
      rintro _ u107 g108 ⟨r105, rfl, h106⟩
      refine zza 52 (zI k) (zzg 53 177 [r105.v, .int .i64 k] ?_)
      intro w110 u110 e110 d110
      have k117 := k_exactly (k := k) d110 (h106.ext e110) xq xq
      with_reducible refine zPm k117 ?_
      rintro _ u115 g116 ⟨r111, r113, rfl, h112, h114⟩
      refine zzi ⟨32, r111.cs ++ r113.cs⟩ ty32 ?_
      refine zzc 65 [(6, .adr 6 0)] [(6, ⟨32, r111.cs ++ r113.cs⟩)] (zzn (zyr (zzv (ret0 [.agg #[.bool r111.s, .slice r111.m.a r111.m.n r111.m.c, .slice r111.d.a r111.d.n r111.d.c, .bool r113.s, .slice r113.m.a r113.m.n r113.m.c, .slice r113.d.a r113.d.n r113.d.c]] ⟨zzq ty32 zze, trivial⟩ fun u118 e119 => ?_))))
      have hc := Nt.cosA_h (r := r) (q := q) (b := k) (by have h9 := hb86; simp at h9; omega) (by have h9 := hb103; simp at h9; omega)
      refine ⟨r111, r113, rfl, RatN.more (K := 80) ?_ xq, RatN.more (K := 80) ?_ xq⟩
      ·rw [hc]; exact (h112.ext e119)
      ·rw [hc]; exact (h114.ext e119)
     ·replace hb103 : (((2 * r : Nat) : Int) == (q : Int)) = false := hb103
      have q9hb103 : ¬ 2 * r = q := by have h9 := hb103; simp at h9; omega
      refine sq9 (zzh 55 (zI r) ty3 zzk (zyn 56 (x := zI (IntKind.i64.wrap ((3 : Int) * (r : Int)))) (zI (3 * r : Nat)) (eqI xj) (zzh 57 (zI q) ty3 zzk (zza 58 (zB (((3 * r : Nat) : Int) == (q : Int))) (zza 54 (zB (((3 * r : Nat) : Int) == (q : Int))) (zzc 65 [(2, zI k), (3, .adr 3 0), (4, .adr 4 0), (6, .adr 6 0), (54, zB (((3 * r : Nat) : Int) == (q : Int)))] [(3, ⟨3, [.int .i64 r]⟩), (4, ⟨3, [.int .i64 q]⟩), (6, ⟨32, [.bool false, .slice none 0 0, .slice none 0 0, .bool false, .slice none 0 0, .slice none 0 0]⟩)] (zzt (b := ((3 * r : Nat) : Int) == (q : Int)) xk (fun hb120 => ?_) (fun hb120 => ?_))))))))
      ·replace hb120 : (((3 * r : Nat) : Int) == (q : Int)) = true := hb120
       refine sq9 (zzg 59 127 [.int .i64 1, .int .i64 2] ?_)
       intro w121 u121 e121 d121
       have k126 := k_ratFrac d121 (a := 1) (b := 2) xq xq xq xq
       with_reducible refine zPm k126 ?_
       rintro _ u124 g125 ⟨r122, rfl, h123⟩
       refine zza 60 (zI k) (zzg 61 177 [r122.v, .int .i64 k] ?_)
       intro w127 u127 e127 d127
       have k134 := k_exactly (k := k) d127 (h123.ext e127) xq xq
       with_reducible refine zPm k134 ?_
       rintro _ u132 g133 ⟨r128, r130, rfl, h129, h131⟩
       refine zzi ⟨32, r128.cs ++ r130.cs⟩ ty32 ?_
       refine zzb (zzn (zyr (zzv (ret0 [.agg #[.bool r128.s, .slice r128.m.a r128.m.n r128.m.c, .slice r128.d.a r128.d.n r128.d.c, .bool r130.s, .slice r130.m.a r130.m.n r130.m.c, .slice r130.d.a r130.d.n r130.d.c]] ⟨zzq ty32 zze, trivial⟩ fun u135 e136 => ?_))))
       have hc := Nt.cosA_3 (r := r) (q := q) (b := k) (by have h9 := hb86; simp at h9; omega) (by have h9 := hb103; simp at h9; omega) (by have h9 := hb120; simp at h9; omega)
       refine ⟨r128, r130, rfl, RatN.more (K := 80) ?_ xq, RatN.more (K := 80) ?_ xq⟩
       ·rw [hc]; exact (h129.ext e136)
       ·rw [hc]; exact (h131.ext e136)
      ·replace hb120 : (((3 * r : Nat) : Int) == (q : Int)) = false := hb120
       have q9hb120 : ¬ 3 * r = q := by have h9 := hb120; simp at h9; omega
       refine zzr (zzo ?_)
       refine zzd (sw_pubA (r := 3) (t := 3) [3] xz xk (by rfl) (by rfl) xk (fun b137 u138 e139 hb140 hv141 hh142 => ?_))
       refine sw_pubA (r := 4) (t := 4) [4] xz xk (by rfl) (by rfl) xk (fun b143 u144 e145 hb146 hv147 hh148 => ?_)
       refine zzf (sy_fun 62 [.pointer (some ⟨b137, 0, none⟩), .pointer (some ⟨b143, 0, none⟩)] ?_)
       refine zza 63 (zI k) (zzg 64 101 [.func (.func 178) #[] #[.pointer (some ⟨b137, 0, none⟩), .pointer (some ⟨b143, 0, none⟩)], .int .i64 k] ?_)
       intro w149 u149 e149 d149
       have k156 := k_irrCos (k := k) d149 ((e145.trans e149).cells hh142) (e149.cells hh148) hq0 xq xq xq (hG r xq xq xq) hg3 xq
       with_reducible refine zPm k156 ?_
       rintro _ u154 g155 ⟨r150, r152, rfl, h151, h153⟩
       refine zzi ⟨32, r150.cs ++ r152.cs⟩ ty32 ?_
       refine zzb (zzn (ret0 [.agg #[.bool r150.s, .slice r150.m.a r150.m.n r150.m.c, .slice r150.d.a r150.d.n r150.d.c, .bool r152.s, .slice r152.m.a r152.m.n r152.m.c, .slice r152.d.a r152.d.n r152.d.c]] ⟨zzq ty32 zze, trivial⟩ fun u157 e158 => ?_))
       have hc := Nt.cosA_g (r := r) (q := q) (b := k) (by have h9 := hb86; simp at h9; omega) (by have h9 := hb103; simp at h9; omega) (by have h9 := hb120; simp at h9; omega)
       refine ⟨r150, r152, rfl, RatN.more (K := 70) ?_ xq, RatN.more (K := 70) ?_ xq⟩
       ·rw [hc]; exact (h151.ext e158)
       ·rw [hc]; exact (h153.ext e158)
 ·replace hb11 : (decide ((Int.tmod p (2 * (q : Int))) < 0)) = false := hb11
  have qhb11 := of_decide_eq_false hb11
  refine zzr (zzo ?_)
  refine zzd (sq9 (zzh 16 (zI (Int.tmod p (2 * (q : Int)))) ty3 zzk (zzh 17 (zI q) ty3 zzk (zza 18 (zB (decide ((q : Int) < (Int.tmod p (2 * (q : Int)))))) (zzb (zzt (b := decide ((q : Int) < (Int.tmod p (2 * (q : Int))))) xk (fun hb159 => ?_) (fun hb159 => ?_)))))))
  ·replace hb159 : (decide ((q : Int) < (Int.tmod p (2 * (q : Int))))) = true := hb159
   have qhb159 := of_decide_eq_true hb159
   refine zzf (zzh 19 (zI q) ty3 zzk (zyn 20 (x := zI (IntKind.i64.wrap ((2 : Int) * (q : Int)))) (zI (2 * q : Nat)) (eqI xj) (zzh 21 (zI (Int.tmod p (2 * (q : Int)))) ty3 zzk (zyn 22 (x := zI (IntKind.i64.wrap (((2 * q : Nat) : Int) - (Int.tmod p (2 * (q : Int)))))) (zI (((2 * q : Nat) : Int) - (Int.tmod p (2 * (q : Int))))) yv (zzi ⟨3, [.int .i64 (((2 * q : Nat) : Int) - (Int.tmod p (2 * (q : Int))))]⟩ ty3 ?_)))))
   refine zzb (zzd (zzd ?_))
   have hfold : (((2 * q : Nat) : Int) - (Int.tmod p (2 * (q : Int)))) = ((Nt.fold p q : Nat) : Int) := by unfold Nt.fold; dsimp only; split <;> omega
   rw [hfold]
   have hfl := Nt.fold_le p q hq0
   obtain ⟨r, hr⟩ : ∃ r, Nt.fold p q = r := ⟨_, rfl⟩
   rw [hr] at hfl ⊢
   clear hfold
   rw [hr] at hA
   refine zzf (zzh 23 (zI r) ty3 zzk (zyn 24 (x := zI (IntKind.i64.wrap ((2 : Int) * (r : Int)))) (zI (2 * r : Nat)) (eqI xj) (zzh 25 (zI q) ty3 zzk (zza 26 (zB (decide ((q : Int) < ((2 * r : Nat) : Int)))) (zzb (zzt (b := decide ((q : Int) < ((2 * r : Nat) : Int))) xk (fun hb => ?_) (fun hb => ?_)))))))
   ·exact absurd hb (by rw [show (decide ((q : Int) < ((2 * r : Nat) : Int))) = false from decide_eq_false xq]; decide)
   ·clear hb
    refine zzr (zzo ?_)
    refine zzd (zzs (sq9 (zzh 41 (zI r) ty3 zzk (zza 42 (zB ((r : Int) == 0)) (zza 40 (zB ((r : Int) == 0)) (zzb (zzt (b := (r : Int) == 0) xk (fun hb160 => ?_) (fun hb160 => ?_))))))))
    ·replace hb160 : ((r : Int) == 0) = true := hb160
     have qhb160 : (r : Int) = 0 := by simpa using hb160
     refine sq9 (zzg 43 118 [.int .i64 1] ?_)
     intro w161 u161 e161 d161
     have k166 := k_ratOf d161 (z := 1) xq xq
     with_reducible refine zPm k166 ?_
     rintro _ u164 g165 ⟨r162, rfl, h163⟩
     refine zza 44 (zI k) (zzg 45 177 [r162.v, .int .i64 k] ?_)
     intro w167 u167 e167 d167
     have k174 := k_exactly (k := k) d167 (h163.ext e167) xq xq
     with_reducible refine zPm k174 ?_
     rintro _ u172 g173 ⟨r168, r170, rfl, h169, h171⟩
     refine zzi ⟨32, r168.cs ++ r170.cs⟩ ty32 ?_
     refine zzb (zzn (zyr (zzv (ret0 [.agg #[.bool r168.s, .slice r168.m.a r168.m.n r168.m.c, .slice r168.d.a r168.d.n r168.d.c, .bool r170.s, .slice r170.m.a r170.m.n r170.m.c, .slice r170.d.a r170.d.n r170.d.c]] ⟨zzq ty32 zze, trivial⟩ fun u175 e176 => ?_))))
     have hc := Nt.cosA_0 (r := r) (q := q) (b := k) (by have h9 := hb160; simp at h9; omega)
     refine ⟨r168, r170, rfl, RatN.more (K := 80) ?_ xq, RatN.more (K := 80) ?_ xq⟩
     ·rw [hc]; exact (h169.ext e176)
     ·rw [hc]; exact (h171.ext e176)
    ·replace hb160 : ((r : Int) == 0) = false := hb160
     have qhb160 : ¬ ((r : Int) = 0) := by simpa using hb160
     refine sq9 (zzh 47 (zI r) ty3 zzk (zyn 48 (x := zI (IntKind.i64.wrap ((2 : Int) * (r : Int)))) (zI (2 * r : Nat)) (eqI xj) (zzh 49 (zI q) ty3 zzk (zza 50 (zB (((2 * r : Nat) : Int) == (q : Int))) (zza 46 (zB (((2 * r : Nat) : Int) == (q : Int))) (zzb (zzt (b := ((2 * r : Nat) : Int) == (q : Int)) xk (fun hb177 => ?_) (fun hb177 => ?_))))))))
     ·replace hb177 : (((2 * r : Nat) : Int) == (q : Int)) = true := hb177
      refine sq9 (zzg 51 118 [.int .i64 0] ?_)
      intro w178 u178 e178 d178
      have k183 := k_ratOf d178 (z := 0) xq xq
      with_reducible refine zPm k183 ?_
      rintro _ u181 g182 ⟨r179, rfl, h180⟩
      refine zza 52 (zI k) (zzg 53 177 [r179.v, .int .i64 k] ?_)
      intro w184 u184 e184 d184
      have k191 := k_exactly (k := k) d184 (h180.ext e184) xq xq
      with_reducible refine zPm k191 ?_
      rintro _ u189 g190 ⟨r185, r187, rfl, h186, h188⟩
      refine zzi ⟨32, r185.cs ++ r187.cs⟩ ty32 ?_
      refine zzc 65 [(6, .adr 6 0)] [(6, ⟨32, r185.cs ++ r187.cs⟩)] (zzn (zyr (zzv (ret0 [.agg #[.bool r185.s, .slice r185.m.a r185.m.n r185.m.c, .slice r185.d.a r185.d.n r185.d.c, .bool r187.s, .slice r187.m.a r187.m.n r187.m.c, .slice r187.d.a r187.d.n r187.d.c]] ⟨zzq ty32 zze, trivial⟩ fun u192 e193 => ?_))))
      have hc := Nt.cosA_h (r := r) (q := q) (b := k) (by have h9 := hb160; simp at h9; omega) (by have h9 := hb177; simp at h9; omega)
      refine ⟨r185, r187, rfl, RatN.more (K := 80) ?_ xq, RatN.more (K := 80) ?_ xq⟩
      ·rw [hc]; exact (h186.ext e193)
      ·rw [hc]; exact (h188.ext e193)
     ·replace hb177 : (((2 * r : Nat) : Int) == (q : Int)) = false := hb177
      have q9hb177 : ¬ 2 * r = q := by have h9 := hb177; simp at h9; omega
      refine sq9 (zzh 55 (zI r) ty3 zzk (zyn 56 (x := zI (IntKind.i64.wrap ((3 : Int) * (r : Int)))) (zI (3 * r : Nat)) (eqI xj) (zzh 57 (zI q) ty3 zzk (zza 58 (zB (((3 * r : Nat) : Int) == (q : Int))) (zza 54 (zB (((3 * r : Nat) : Int) == (q : Int))) (zzc 65 [(2, zI k), (3, .adr 3 0), (4, .adr 4 0), (6, .adr 6 0), (54, zB (((3 * r : Nat) : Int) == (q : Int)))] [(3, ⟨3, [.int .i64 r]⟩), (4, ⟨3, [.int .i64 q]⟩), (6, ⟨32, [.bool false, .slice none 0 0, .slice none 0 0, .bool false, .slice none 0 0, .slice none 0 0]⟩)] (zzt (b := ((3 * r : Nat) : Int) == (q : Int)) xk (fun hb194 => ?_) (fun hb194 => ?_))))))))
      ·replace hb194 : (((3 * r : Nat) : Int) == (q : Int)) = true := hb194
       refine sq9 (zzg 59 127 [.int .i64 1, .int .i64 2] ?_)
       intro w195 u195 e195 d195
       have k200 := k_ratFrac d195 (a := 1) (b := 2) xq xq xq xq
       with_reducible refine zPm k200 ?_
       rintro _ u198 g199 ⟨r196, rfl, h197⟩
       refine zza 60 (zI k) (zzg 61 177 [r196.v, .int .i64 k] ?_)
       intro w201 u201 e201 d201
       have k208 := k_exactly (k := k) d201 (h197.ext e201) xq xq
       with_reducible refine zPm k208 ?_
       rintro _ u206 g207 ⟨r202, r204, rfl, h203, h205⟩
       refine zzi ⟨32, r202.cs ++ r204.cs⟩ ty32 ?_
       refine zzb (zzn (zyr (zzv (ret0 [.agg #[.bool r202.s, .slice r202.m.a r202.m.n r202.m.c, .slice r202.d.a r202.d.n r202.d.c, .bool r204.s, .slice r204.m.a r204.m.n r204.m.c, .slice r204.d.a r204.d.n r204.d.c]] ⟨zzq ty32 zze, trivial⟩ fun u209 e210 => ?_))))
       have hc := Nt.cosA_3 (r := r) (q := q) (b := k) (by have h9 := hb160; simp at h9; omega) (by have h9 := hb177; simp at h9; omega) (by have h9 := hb194; simp at h9; omega)
       refine ⟨r202, r204, rfl, RatN.more (K := 80) ?_ xq, RatN.more (K := 80) ?_ xq⟩
       ·rw [hc]; exact (h203.ext e210)
       ·rw [hc]; exact (h205.ext e210)
      ·replace hb194 : (((3 * r : Nat) : Int) == (q : Int)) = false := hb194
       have q9hb194 : ¬ 3 * r = q := by have h9 := hb194; simp at h9; omega
       refine zzr (zzo ?_)
       refine zzd (sw_pubA (r := 3) (t := 3) [3] xz xk (by rfl) (by rfl) xk (fun b211 u212 e213 hb214 hv215 hh216 => ?_))
       refine sw_pubA (r := 4) (t := 4) [4] xz xk (by rfl) (by rfl) xk (fun b217 u218 e219 hb220 hv221 hh222 => ?_)
       refine zzf (sy_fun 62 [.pointer (some ⟨b211, 0, none⟩), .pointer (some ⟨b217, 0, none⟩)] ?_)
       refine zza 63 (zI k) (zzg 64 101 [.func (.func 178) #[] #[.pointer (some ⟨b211, 0, none⟩), .pointer (some ⟨b217, 0, none⟩)], .int .i64 k] ?_)
       intro w223 u223 e223 d223
       have k230 := k_irrCos (k := k) d223 ((e219.trans e223).cells hh216) (e223.cells hh222) hq0 xq xq xq (hG r xq xq xq) hg3 xq
       with_reducible refine zPm k230 ?_
       rintro _ u228 g229 ⟨r224, r226, rfl, h225, h227⟩
       refine zzi ⟨32, r224.cs ++ r226.cs⟩ ty32 ?_
       refine zzb (zzn (ret0 [.agg #[.bool r224.s, .slice r224.m.a r224.m.n r224.m.c, .slice r224.d.a r224.d.n r224.d.c, .bool r226.s, .slice r226.m.a r226.m.n r226.m.c, .slice r226.d.a r226.d.n r226.d.c]] ⟨zzq ty32 zze, trivial⟩ fun u231 e232 => ?_))
       have hc := Nt.cosA_g (r := r) (q := q) (b := k) (by have h9 := hb160; simp at h9; omega) (by have h9 := hb177; simp at h9; omega) (by have h9 := hb194; simp at h9; omega)
       refine ⟨r224, r226, rfl, RatN.more (K := 70) ?_ xq, RatN.more (K := 70) ?_ xq⟩
       ·rw [hc]; exact (h225.ext e232)
       ·rw [hc]; exact (h227.ext e232)
  ·replace hb159 : (decide ((q : Int) < (Int.tmod p (2 * (q : Int))))) = false := hb159
   have qhb159 := of_decide_eq_false hb159
   refine zzr (zzo ?_)
   refine zzd (zzd ?_)
   have hfold : (Int.tmod p (2 * (q : Int))) = ((Nt.fold p q : Nat) : Int) := by unfold Nt.fold; dsimp only; split <;> omega
   rw [hfold]
   have hfl := Nt.fold_le p q hq0
   obtain ⟨r, hr⟩ : ∃ r, Nt.fold p q = r := ⟨_, rfl⟩
   rw [hr] at hfl ⊢
   clear hfold
   rw [hr] at hA
   refine zzf (zzh 23 (zI r) ty3 zzk (zyn 24 (x := zI (IntKind.i64.wrap ((2 : Int) * (r : Int)))) (zI (2 * r : Nat)) (eqI xj) (zzh 25 (zI q) ty3 zzk (zza 26 (zB (decide ((q : Int) < ((2 * r : Nat) : Int)))) (zzb (zzt (b := decide ((q : Int) < ((2 * r : Nat) : Int))) xk (fun hb => ?_) (fun hb => ?_)))))))
   ·exact absurd hb (by rw [show (decide ((q : Int) < ((2 * r : Nat) : Int))) = false from decide_eq_false xq]; decide)
   ·clear hb
    refine zzr (zzo ?_)
    refine zzd (zzs (sq9 (zzh 41 (zI r) ty3 zzk (zza 42 (zB ((r : Int) == 0)) (zza 40 (zB ((r : Int) == 0)) (zzb (zzt (b := (r : Int) == 0) xk (fun hb233 => ?_) (fun hb233 => ?_))))))))
    ·replace hb233 : ((r : Int) == 0) = true := hb233
     have qhb233 : (r : Int) = 0 := by simpa using hb233
     refine sq9 (zzg 43 118 [.int .i64 1] ?_)
     intro w234 u234 e234 d234
     have k239 := k_ratOf d234 (z := 1) xq xq
     with_reducible refine zPm k239 ?_
     rintro _ u237 g238 ⟨r235, rfl, h236⟩
     refine zza 44 (zI k) (zzg 45 177 [r235.v, .int .i64 k] ?_)
     intro w240 u240 e240 d240
     have k247 := k_exactly (k := k) d240 (h236.ext e240) xq xq
     with_reducible refine zPm k247 ?_
     rintro _ u245 g246 ⟨r241, r243, rfl, h242, h244⟩
     refine zzi ⟨32, r241.cs ++ r243.cs⟩ ty32 ?_
     refine zzb (zzn (zyr (zzv (ret0 [.agg #[.bool r241.s, .slice r241.m.a r241.m.n r241.m.c, .slice r241.d.a r241.d.n r241.d.c, .bool r243.s, .slice r243.m.a r243.m.n r243.m.c, .slice r243.d.a r243.d.n r243.d.c]] ⟨zzq ty32 zze, trivial⟩ fun u248 e249 => ?_))))
     have hc := Nt.cosA_0 (r := r) (q := q) (b := k) (by have h9 := hb233; simp at h9; omega)
     refine ⟨r241, r243, rfl, RatN.more (K := 80) ?_ xq, RatN.more (K := 80) ?_ xq⟩
     ·rw [hc]; exact (h242.ext e249)
     ·rw [hc]; exact (h244.ext e249)
    ·replace hb233 : ((r : Int) == 0) = false := hb233
     have qhb233 : ¬ ((r : Int) = 0) := by simpa using hb233
     refine sq9 (zzh 47 (zI r) ty3 zzk (zyn 48 (x := zI (IntKind.i64.wrap ((2 : Int) * (r : Int)))) (zI (2 * r : Nat)) (eqI xj) (zzh 49 (zI q) ty3 zzk (zza 50 (zB (((2 * r : Nat) : Int) == (q : Int))) (zza 46 (zB (((2 * r : Nat) : Int) == (q : Int))) (zzb (zzt (b := ((2 * r : Nat) : Int) == (q : Int)) xk (fun hb250 => ?_) (fun hb250 => ?_))))))))
     ·replace hb250 : (((2 * r : Nat) : Int) == (q : Int)) = true := hb250
      refine sq9 (zzg 51 118 [.int .i64 0] ?_)
      intro w251 u251 e251 d251
      have k256 := k_ratOf d251 (z := 0) xq xq
      with_reducible refine zPm k256 ?_
      rintro _ u254 g255 ⟨r252, rfl, h253⟩
      refine zza 52 (zI k) (zzg 53 177 [r252.v, .int .i64 k] ?_)
      intro w257 u257 e257 d257
      have k264 := k_exactly (k := k) d257 (h253.ext e257) xq xq
      with_reducible refine zPm k264 ?_
      rintro _ u262 g263 ⟨r258, r260, rfl, h259, h261⟩
      refine zzi ⟨32, r258.cs ++ r260.cs⟩ ty32 ?_
      refine zzb (zzn (zyr (zzv (ret0 [.agg #[.bool r258.s, .slice r258.m.a r258.m.n r258.m.c, .slice r258.d.a r258.d.n r258.d.c, .bool r260.s, .slice r260.m.a r260.m.n r260.m.c, .slice r260.d.a r260.d.n r260.d.c]] ⟨zzq ty32 zze, trivial⟩ fun u265 e266 => ?_))))
      have hc := Nt.cosA_h (r := r) (q := q) (b := k) (by have h9 := hb233; simp at h9; omega) (by have h9 := hb250; simp at h9; omega)
      refine ⟨r258, r260, rfl, RatN.more (K := 80) ?_ xq, RatN.more (K := 80) ?_ xq⟩
      ·rw [hc]; exact (h259.ext e266)
      ·rw [hc]; exact (h261.ext e266)
     ·replace hb250 : (((2 * r : Nat) : Int) == (q : Int)) = false := hb250
      have q9hb250 : ¬ 2 * r = q := by have h9 := hb250; simp at h9; omega
      refine sq9 (zzh 55 (zI r) ty3 zzk (zyn 56 (x := zI (IntKind.i64.wrap ((3 : Int) * (r : Int)))) (zI (3 * r : Nat)) (eqI xj) (zzh 57 (zI q) ty3 zzk (zza 58 (zB (((3 * r : Nat) : Int) == (q : Int))) (zza 54 (zB (((3 * r : Nat) : Int) == (q : Int))) (zzb (zzt (b := ((3 * r : Nat) : Int) == (q : Int)) xk (fun hb267 => ?_) (fun hb267 => ?_))))))))
      ·replace hb267 : (((3 * r : Nat) : Int) == (q : Int)) = true := hb267
       refine sq9 (zzg 59 127 [.int .i64 1, .int .i64 2] ?_)
       intro w268 u268 e268 d268
       have k273 := k_ratFrac d268 (a := 1) (b := 2) xq xq xq xq
       with_reducible refine zPm k273 ?_
       rintro _ u271 g272 ⟨r269, rfl, h270⟩
       refine zza 60 (zI k) (zzg 61 177 [r269.v, .int .i64 k] ?_)
       intro w274 u274 e274 d274
       have k281 := k_exactly (k := k) d274 (h270.ext e274) xq xq
       with_reducible refine zPm k281 ?_
       rintro _ u279 g280 ⟨r275, r277, rfl, h276, h278⟩
       refine zzi ⟨32, r275.cs ++ r277.cs⟩ ty32 ?_
       refine zzc 65 [(6, .adr 6 0)] [(6, ⟨32, r275.cs ++ r277.cs⟩)] (zzn (zyr (zzv (ret0 [.agg #[.bool r275.s, .slice r275.m.a r275.m.n r275.m.c, .slice r275.d.a r275.d.n r275.d.c, .bool r277.s, .slice r277.m.a r277.m.n r277.m.c, .slice r277.d.a r277.d.n r277.d.c]] ⟨zzq ty32 zze, trivial⟩ fun u282 e283 => ?_))))
       have hc := Nt.cosA_3 (r := r) (q := q) (b := k) (by have h9 := hb233; simp at h9; omega) (by have h9 := hb250; simp at h9; omega) (by have h9 := hb267; simp at h9; omega)
       refine ⟨r275, r277, rfl, RatN.more (K := 80) ?_ xq, RatN.more (K := 80) ?_ xq⟩
       ·rw [hc]; exact (h276.ext e283)
       ·rw [hc]; exact (h278.ext e283)
      ·replace hb267 : (((3 * r : Nat) : Int) == (q : Int)) = false := hb267
       have q9hb267 : ¬ 3 * r = q := by have h9 := hb267; simp at h9; omega
       refine zzr (zzo ?_)
       refine zzd (sw_pubA (r := 3) (t := 3) [3] xz xk (by rfl) (by rfl) xk (fun b284 u285 e286 hb287 hv288 hh289 => ?_))
       refine sw_pubA (r := 4) (t := 4) [4] xz xk (by rfl) (by rfl) xk (fun b290 u291 e292 hb293 hv294 hh295 => ?_)
       refine zzf (sy_fun 62 [.pointer (some ⟨b284, 0, none⟩), .pointer (some ⟨b290, 0, none⟩)] ?_)
       refine zza 63 (zI k) (zzg 64 101 [.func (.func 178) #[] #[.pointer (some ⟨b284, 0, none⟩), .pointer (some ⟨b290, 0, none⟩)], .int .i64 k] ?_)
       intro w296 u296 e296 d296
       have k303 := k_irrCos (k := k) d296 ((e292.trans e296).cells hh289) (e296.cells hh295) hq0 xq xq xq (hG r xq xq xq) hg3 xq
       with_reducible refine zPm k303 ?_
       rintro _ u301 g302 ⟨r297, r299, rfl, h298, h300⟩
       refine zzi ⟨32, r297.cs ++ r299.cs⟩ ty32 ?_
       refine zzc 65 [(6, .adr 6 0)] [(6, ⟨32, r297.cs ++ r299.cs⟩)] (zzn (ret0 [.agg #[.bool r297.s, .slice r297.m.a r297.m.n r297.m.c, .slice r297.d.a r297.d.n r297.d.c, .bool r299.s, .slice r299.m.a r299.m.n r299.m.c, .slice r299.d.a r299.d.n r299.d.c]] ⟨zzq ty32 zze, trivial⟩ fun u304 e305 => ?_))
       have hc := Nt.cosA_g (r := r) (q := q) (b := k) (by have h9 := hb233; simp at h9; omega) (by have h9 := hb250; simp at h9; omega) (by have h9 := hb267; simp at h9; omega)
       refine ⟨r297, r299, rfl, RatN.more (K := 70) ?_ xq, RatN.more (K := 70) ?_ xq⟩
       ·rw [hc]; exact (h298.ext e305)
       ·rw [hc]; exact (h300.ext e305)
set_option maxHeartbeats 4000000 in
theorem k_cosine {u w : World} {p : Int} {q k : Nat} (d : Dat u w) (hq0 : 0 < q) (hq2 : q ≤ 10000) (hG0 : Nt.GapQ q k) (hp0 : -1000000000 ≤ p) (hp1 : p ≤ 1000000000) (hk : k ≤ 256)  : Calls Tryz.prog 100 #[.int .i64 p, .int .i64 (q : Int), .int .i64 (k : Int)] w (Post u w fun v u' => ∃ r1 r2 : RL, v = IV r1 r2 ∧ RatN u' r1 ((Nt.cosV p q k).1) 80 ∧ RatN u' r2 ((Nt.cosV p q k).2) 80) := by
 have htm := Nt.tmod_bd p hq0
 obtain ⟨g, hg3, hG⟩ := id hG0
 refine zzl (args := [.int .i64 p, .int .i64 q, .int .i64 k]) Tryz.func100 rfl Tryz.ntmps100 (rs := [.cell 6 32]) Tryz.results100 (le_b rfl) (le_b rfl) d ?_
 refine sq9 (zzj 3 ⟨3, [.int .i64 p]⟩ (zzj 4 ⟨3, [.int .i64 q]⟩ (zzj 6 ⟨32, [.bool false, .slice none 0 0, .slice none 0 0, .bool false, .slice none 0 0, .slice none 0 0]⟩ (zzb (sq9 (zzh 8 (zI p) ty3 zzk (zzh 9 (zI q) ty3 zzk (zyn 10 (x := zI (IntKind.i64.wrap ((2 : Int) * (q : Int)))) (zI (2 * q : Nat)) (eqI xj) (sy_rem 11 (m := ((2 * q : Nat) : Int)) (Int.tmod p (2 * (q : Int))) xq (by rw [Int.natCast_mul]; rfl) ?_)))))))))
 refine zzi ⟨3, [.int .i64 (Int.tmod p (2 * (q : Int)))]⟩ ty3 ?_
 refine zzb (zzd (sq9 (zzh 12 (zI (Int.tmod p (2 * (q : Int)))) ty3 zzk (zza 13 (zB (decide ((Int.tmod p (2 * (q : Int))) < 0))) (zzb (zzt (b := decide ((Int.tmod p (2 * (q : Int))) < 0)) xk (fun hb11 => ?_) (fun hb11 => ?_)))))))
 ·replace hb11 : (decide ((Int.tmod p (2 * (q : Int))) < 0)) = true := hb11
  have qhb11 := of_decide_eq_true hb11
  refine zzf (zzh 14 (zI (Int.tmod p (2 * (q : Int)))) ty3 zzk (zyn 15 (x := zI (IntKind.i64.wrap (0 - (Int.tmod p (2 * (q : Int)))))) (zI (-(Int.tmod p (2 * (q : Int))))) (eqI xj) (zzi ⟨3, [.int .i64 (-(Int.tmod p (2 * (q : Int))))]⟩ ty3 ?_)))
  refine zzb (zzd (sq9 (zzh 16 (zI (-(Int.tmod p (2 * (q : Int))))) ty3 zzk (zzh 17 (zI q) ty3 zzk (zza 18 (zB (decide ((q : Int) < (-(Int.tmod p (2 * (q : Int))))))) (zzb (zzt (b := decide ((q : Int) < (-(Int.tmod p (2 * (q : Int)))))) xk (fun hb12 => ?_) (fun hb12 => ?_))))))))
  ·replace hb12 : (decide ((q : Int) < (-(Int.tmod p (2 * (q : Int)))))) = true := hb12
   have qhb12 := of_decide_eq_true hb12
   refine zzf (zzh 19 (zI q) ty3 zzk (zyn 20 (x := zI (IntKind.i64.wrap ((2 : Int) * (q : Int)))) (zI (2 * q : Nat)) (eqI xj) (zzh 21 (zI (-(Int.tmod p (2 * (q : Int))))) ty3 zzk (zyn 22 (x := zI (IntKind.i64.wrap (((2 * q : Nat) : Int) - (-(Int.tmod p (2 * (q : Int))))))) (zI (((2 * q : Nat) : Int) - (-(Int.tmod p (2 * (q : Int)))))) yv (zzi ⟨3, [.int .i64 (((2 * q : Nat) : Int) - (-(Int.tmod p (2 * (q : Int)))))]⟩ ty3 ?_)))))
   refine zzb (zzd (zzd ?_))
   have hfold : (((2 * q : Nat) : Int) - (-(Int.tmod p (2 * (q : Int))))) = ((Nt.fold p q : Nat) : Int) := by unfold Nt.fold; dsimp only; split <;> omega
   rw [hfold]
   have hfl := Nt.fold_le p q hq0
   obtain ⟨r, hr⟩ : ∃ r, Nt.fold p q = r := ⟨_, rfl⟩
   rw [hr] at hfl ⊢
   clear hfold
   refine zzf (zzh 23 (zI r) ty3 zzk (zyn 24 (x := zI (IntKind.i64.wrap ((2 : Int) * (r : Int)))) (zI (2 * r : Nat)) (eqI xj) (zzh 25 (zI q) ty3 zzk (zza 26 (zB (decide ((q : Int) < ((2 * r : Nat) : Int)))) (zzb (zzt (b := decide ((q : Int) < ((2 * r : Nat) : Int))) xk (fun hb13 => ?_) (fun hb13 => ?_)))))))
   ·replace hb13 : (decide ((q : Int) < ((2 * r : Nat) : Int))) = true := hb13
    have qhb13 := of_decide_eq_true hb13
    have hb9 := hb13
    refine sq9 (zzh 27 (zI q) ty3 zzk (zzh 28 (zI r) ty3 zzk (zyn 29 (x := zI (IntKind.i64.wrap ((q : Int) - (r : Int)))) (zI (q - r : Nat)) (eqI xj) (zzh 30 (zI q) ty3 zzk (zza 31 (zI k) (zzg 32 100 [.int .i64 (q - r : Nat), .int .i64 q, .int .i64 k] ?_))))))
    intro w14 u14 e14 d14
    have k21 := (show Calls _ _ #[.int .i64 ((q - r : Nat) : Int), .int .i64 (q : Int), .int .i64 (k : Int)] _ _ from (by have h9 := k_cosA (p := ((q - r : Nat) : Int)) (q := q) (k := k) d14 hq0 hq2 hG0 xq xq hk (by rw [Nt.fold_id xq]; have h8 := of_decide_eq_true hb9; omega); rw [Nt.fold_id xq] at h9; exact h9))
    with_reducible refine zPm k21 ?_
    rintro _ u19 g20 ⟨r15, r17, rfl, h16, h18⟩
    refine zzj 7 ⟨32, [.bool false, .slice none 0 0, .slice none 0 0, .bool false, .slice none 0 0, .slice none 0 0]⟩ (zzi ⟨32, r15.cs ++ r17.cs⟩ ty32 ?_)
    refine zzc 65 [(6, .adr 6 0), (7, .adr 7 0)] [(6, ⟨32, [.bool false, .slice none 0 0, .slice none 0 0, .bool false, .slice none 0 0, .slice none 0 0]⟩), (7, ⟨32, r15.cs ++ r17.cs⟩)] (zzd (zzy [0, 1, 3, 0, 8, 31, 63, 127] [(0, []), (1, []), (3, []), (4, []), (2, []), (5, []), (6, []), (7, [])] xk xk (zza 33 (.adr 7 3) (zzh 34 (.v (r17.v)) ty26 zze (zza 36 (.adr 7 0) (zzh 37 (.v (r15.v)) ty26 zze (zzg 35 176 [r17.v] ?_)))))))
    intro w22 u22 e22 d22
    have k27 := k_ratNeg d22 (h18.ext e22).raw xq
    with_reducible refine zPm k27 ?_
    rintro _ u25 g26 ⟨r23, rfl, h24⟩
    refine zzg 38 176 [r15.v] ?_
    intro w28 u28 e28 d28
    have k33 := k_ratNeg d28 (h16.ext (e22.trans (g26.ext.trans e28))).raw xq
    with_reducible refine zPm k33 ?_
    rintro _ u31 g32 ⟨r29, rfl, h30⟩
    refine zza 39 (.v (.agg #[.bool r23.s, r23.m.v, r23.d.v, .bool r29.s, r29.m.v, r29.d.v])) (zzi ⟨32, r23.cs ++ r29.cs⟩ ty32 ?_)
    refine zzb (zzn (zzv (ret0 [.agg #[.bool r23.s, .slice r23.m.a r23.m.n r23.m.c, .slice r23.d.a r23.d.n r23.d.c, .bool r29.s, .slice r29.m.a r29.m.n r29.m.c, .slice r29.d.a r29.d.n r29.d.c]] ⟨zzq ty32 zze, trivial⟩ fun u34 e35 => ?_)))
    have hc := Nt.cosV_hi (b := k) hr (by have h9 := of_decide_eq_true hb13; omega)
    refine ⟨r23, r29, rfl, RatN.more (K := 80) ?_ xq, RatN.more (K := 80) ?_ xq⟩
    ·rw [hc]; exact (h24.ext (e28.trans (g32.ext.trans e35)))
    ·rw [hc]; exact (h30.ext e35)
   ·replace hb13 : (decide ((q : Int) < ((2 * r : Nat) : Int))) = false := hb13
    have qhb13 := of_decide_eq_false hb13
    refine zzr (zzo ?_)
    refine zzd (zzs (sq9 (zzh 41 (zI r) ty3 zzk (zza 42 (zB ((r : Int) == 0)) (zza 40 (zB ((r : Int) == 0)) (zzb (zzt (b := (r : Int) == 0) xk (fun hb36 => ?_) (fun hb36 => ?_))))))))
    ·replace hb36 : ((r : Int) == 0) = true := hb36
     have qhb36 : (r : Int) = 0 := by simpa using hb36
     refine sq9 (zzg 43 118 [.int .i64 1] ?_)
     intro w37 u37 e37 d37
     have k42 := k_ratOf d37 (z := 1) xq xq
     with_reducible refine zPm k42 ?_
     rintro _ u40 g41 ⟨r38, rfl, h39⟩
     refine zza 44 (zI k) (zzg 45 177 [r38.v, .int .i64 k] ?_)
     intro w43 u43 e43 d43
     have k50 := k_exactly (k := k) d43 (h39.ext e43) xq xq
     with_reducible refine zPm k50 ?_
     rintro _ u48 g49 ⟨r44, r46, rfl, h45, h47⟩
     refine zzi ⟨32, r44.cs ++ r46.cs⟩ ty32 ?_
     refine zzc 65 [(6, .adr 6 0)] [(6, ⟨32, r44.cs ++ r46.cs⟩)] (zzn (zyr (zzv (ret0 [.agg #[.bool r44.s, .slice r44.m.a r44.m.n r44.m.c, .slice r44.d.a r44.d.n r44.d.c, .bool r46.s, .slice r46.m.a r46.m.n r46.m.c, .slice r46.d.a r46.d.n r46.d.c]] ⟨zzq ty32 zze, trivial⟩ fun u51 e52 => ?_))))
     have hc := (Nt.cosV_lo (b := k) hr (by have h9 := of_decide_eq_false hb13; omega)).trans (Nt.cosA_0 (r := r) (q := q) (b := k) (by have h9 := hb36; simp at h9; omega))
     refine ⟨r44, r46, rfl, RatN.more (K := 80) ?_ xq, RatN.more (K := 80) ?_ xq⟩
     ·rw [hc]; exact (h45.ext e52)
     ·rw [hc]; exact (h47.ext e52)
    ·replace hb36 : ((r : Int) == 0) = false := hb36
     have qhb36 : ¬ ((r : Int) = 0) := by simpa using hb36
     refine sq9 (zzh 47 (zI r) ty3 zzk (zyn 48 (x := zI (IntKind.i64.wrap ((2 : Int) * (r : Int)))) (zI (2 * r : Nat)) (eqI xj) (zzh 49 (zI q) ty3 zzk (zza 50 (zB (((2 * r : Nat) : Int) == (q : Int))) (zza 46 (zB (((2 * r : Nat) : Int) == (q : Int))) (zzc 65 [(2, zI k), (3, .adr 3 0), (4, .adr 4 0), (6, .adr 6 0), (46, zB (((2 * r : Nat) : Int) == (q : Int)))] [(3, ⟨3, [.int .i64 r]⟩), (4, ⟨3, [.int .i64 q]⟩), (6, ⟨32, [.bool false, .slice none 0 0, .slice none 0 0, .bool false, .slice none 0 0, .slice none 0 0]⟩)] (zzt (b := ((2 * r : Nat) : Int) == (q : Int)) xk (fun hb53 => ?_) (fun hb53 => ?_))))))))
     ·replace hb53 : (((2 * r : Nat) : Int) == (q : Int)) = true := hb53
      refine sq9 (zzg 51 118 [.int .i64 0] ?_)
      intro w54 u54 e54 d54
      have k59 := k_ratOf d54 (z := 0) xq xq
      with_reducible refine zPm k59 ?_
      rintro _ u57 g58 ⟨r55, rfl, h56⟩
      refine zza 52 (zI k) (zzg 53 177 [r55.v, .int .i64 k] ?_)
      intro w60 u60 e60 d60
      have k67 := k_exactly (k := k) d60 (h56.ext e60) xq xq
      with_reducible refine zPm k67 ?_
      rintro _ u65 g66 ⟨r61, r63, rfl, h62, h64⟩
      refine zzi ⟨32, r61.cs ++ r63.cs⟩ ty32 ?_
      refine zzb (zzn (zyr (zzv (ret0 [.agg #[.bool r61.s, .slice r61.m.a r61.m.n r61.m.c, .slice r61.d.a r61.d.n r61.d.c, .bool r63.s, .slice r63.m.a r63.m.n r63.m.c, .slice r63.d.a r63.d.n r63.d.c]] ⟨zzq ty32 zze, trivial⟩ fun u68 e69 => ?_))))
      have hc := (Nt.cosV_lo (b := k) hr (by have h9 := of_decide_eq_false hb13; omega)).trans (Nt.cosA_h (r := r) (q := q) (b := k) (by have h9 := hb36; simp at h9; omega) (by have h9 := hb53; simp at h9; omega))
      refine ⟨r61, r63, rfl, RatN.more (K := 80) ?_ xq, RatN.more (K := 80) ?_ xq⟩
      ·rw [hc]; exact (h62.ext e69)
      ·rw [hc]; exact (h64.ext e69)
     ·replace hb53 : (((2 * r : Nat) : Int) == (q : Int)) = false := hb53
      have q9hb53 : ¬ 2 * r = q := by have h9 := hb53; simp at h9; omega
      refine sq9 (zzh 55 (zI r) ty3 zzk (zyn 56 (x := zI (IntKind.i64.wrap ((3 : Int) * (r : Int)))) (zI (3 * r : Nat)) (eqI xj) (zzh 57 (zI q) ty3 zzk (zza 58 (zB (((3 * r : Nat) : Int) == (q : Int))) (zza 54 (zB (((3 * r : Nat) : Int) == (q : Int))) (zzb (zzt (b := ((3 * r : Nat) : Int) == (q : Int)) xk (fun hb70 => ?_) (fun hb70 => ?_))))))))
      ·replace hb70 : (((3 * r : Nat) : Int) == (q : Int)) = true := hb70
       refine sq9 (zzg 59 127 [.int .i64 1, .int .i64 2] ?_)
       intro w71 u71 e71 d71
       have k76 := k_ratFrac d71 (a := 1) (b := 2) xq xq xq xq
       with_reducible refine zPm k76 ?_
       rintro _ u74 g75 ⟨r72, rfl, h73⟩
       refine zza 60 (zI k) (zzg 61 177 [r72.v, .int .i64 k] ?_)
       intro w77 u77 e77 d77
       have k84 := k_exactly (k := k) d77 (h73.ext e77) xq xq
       with_reducible refine zPm k84 ?_
       rintro _ u82 g83 ⟨r78, r80, rfl, h79, h81⟩
       refine zzi ⟨32, r78.cs ++ r80.cs⟩ ty32 ?_
       refine zzb (zzn (zyr (zzv (ret0 [.agg #[.bool r78.s, .slice r78.m.a r78.m.n r78.m.c, .slice r78.d.a r78.d.n r78.d.c, .bool r80.s, .slice r80.m.a r80.m.n r80.m.c, .slice r80.d.a r80.d.n r80.d.c]] ⟨zzq ty32 zze, trivial⟩ fun u85 e86 => ?_))))
       have hc := (Nt.cosV_lo (b := k) hr (by have h9 := of_decide_eq_false hb13; omega)).trans (Nt.cosA_3 (r := r) (q := q) (b := k) (by have h9 := hb36; simp at h9; omega) (by have h9 := hb53; simp at h9; omega) (by have h9 := hb70; simp at h9; omega))
       refine ⟨r78, r80, rfl, RatN.more (K := 80) ?_ xq, RatN.more (K := 80) ?_ xq⟩
       ·rw [hc]; exact (h79.ext e86)
       ·rw [hc]; exact (h81.ext e86)
      ·replace hb70 : (((3 * r : Nat) : Int) == (q : Int)) = false := hb70
       have q9hb70 : ¬ 3 * r = q := by have h9 := hb70; simp at h9; omega
       refine zzr (zzo ?_)
       refine zzd (sw_pubA (r := 3) (t := 3) [3] xz xk (by rfl) (by rfl) xk (fun b87 u88 e89 hb90 hv91 hh92 => ?_))
       refine sw_pubA (r := 4) (t := 4) [4] xz xk (by rfl) (by rfl) xk (fun b93 u94 e95 hb96 hv97 hh98 => ?_)
       refine zzf (sy_fun 62 [.pointer (some ⟨b87, 0, none⟩), .pointer (some ⟨b93, 0, none⟩)] ?_)
       refine zza 63 (zI k) (zzg 64 101 [.func (.func 178) #[] #[.pointer (some ⟨b87, 0, none⟩), .pointer (some ⟨b93, 0, none⟩)], .int .i64 k] ?_)
       intro w99 u99 e99 d99
       have k106 := k_irrCos (k := k) d99 ((e95.trans e99).cells hh92) (e99.cells hh98) hq0 xq xq xq (hG r xq xq xq) hg3 xq
       with_reducible refine zPm k106 ?_
       rintro _ u104 g105 ⟨r100, r102, rfl, h101, h103⟩
       refine zzi ⟨32, r100.cs ++ r102.cs⟩ ty32 ?_
       refine zzb (zzn (ret0 [.agg #[.bool r100.s, .slice r100.m.a r100.m.n r100.m.c, .slice r100.d.a r100.d.n r100.d.c, .bool r102.s, .slice r102.m.a r102.m.n r102.m.c, .slice r102.d.a r102.d.n r102.d.c]] ⟨zzq ty32 zze, trivial⟩ fun u107 e108 => ?_))
       have hc := (Nt.cosV_lo (b := k) hr (by have h9 := of_decide_eq_false hb13; omega)).trans (Nt.cosA_g (r := r) (q := q) (b := k) (by have h9 := hb36; simp at h9; omega) (by have h9 := hb53; simp at h9; omega) (by have h9 := hb70; simp at h9; omega))
       refine ⟨r100, r102, rfl, RatN.more (K := 70) ?_ xq, RatN.more (K := 70) ?_ xq⟩
       ·rw [hc]; exact (h101.ext e108)
       ·rw [hc]; exact (h103.ext e108)
  ·replace hb12 : (decide ((q : Int) < (-(Int.tmod p (2 * (q : Int)))))) = false := hb12
   have qhb12 := of_decide_eq_false hb12
   refine zzr (zzo ?_)
   refine zzd (zzd ?_)
   have hfold : (-(Int.tmod p (2 * (q : Int)))) = ((Nt.fold p q : Nat) : Int) := by unfold Nt.fold; dsimp only; split <;> omega
   rw [hfold]
   have hfl := Nt.fold_le p q hq0
   obtain ⟨r, hr⟩ : ∃ r, Nt.fold p q = r := ⟨_, rfl⟩
   rw [hr] at hfl ⊢
   clear hfold
   refine zzf (zzh 23 (zI r) ty3 zzk (zyn 24 (x := zI (IntKind.i64.wrap ((2 : Int) * (r : Int)))) (zI (2 * r : Nat)) (eqI xj) (zzh 25 (zI q) ty3 zzk (zza 26 (zB (decide ((q : Int) < ((2 * r : Nat) : Int)))) (zzb (zzt (b := decide ((q : Int) < ((2 * r : Nat) : Int))) xk (fun hb109 => ?_) (fun hb109 => ?_)))))))
   ·replace hb109 : (decide ((q : Int) < ((2 * r : Nat) : Int))) = true := hb109
    have qhb109 := of_decide_eq_true hb109
    have hb9 := hb109
    refine sq9 (zzh 27 (zI q) ty3 zzk (zzh 28 (zI r) ty3 zzk (zyn 29 (x := zI (IntKind.i64.wrap ((q : Int) - (r : Int)))) (zI (q - r : Nat)) (eqI xj) (zzh 30 (zI q) ty3 zzk (zza 31 (zI k) (zzg 32 100 [.int .i64 (q - r : Nat), .int .i64 q, .int .i64 k] ?_))))))
    intro w110 u110 e110 d110
    have k117 := (show Calls _ _ #[.int .i64 ((q - r : Nat) : Int), .int .i64 (q : Int), .int .i64 (k : Int)] _ _ from (by have h9 := k_cosA (p := ((q - r : Nat) : Int)) (q := q) (k := k) d110 hq0 hq2 hG0 xq xq hk (by rw [Nt.fold_id xq]; have h8 := of_decide_eq_true hb9; omega); rw [Nt.fold_id xq] at h9; exact h9))
    with_reducible refine zPm k117 ?_
    rintro _ u115 g116 ⟨r111, r113, rfl, h112, h114⟩
    refine zzj 7 ⟨32, [.bool false, .slice none 0 0, .slice none 0 0, .bool false, .slice none 0 0, .slice none 0 0]⟩ (zzi ⟨32, r111.cs ++ r113.cs⟩ ty32 ?_)
    refine zzb (zzd (zzy [0, 1, 3, 0, 8, 31, 63, 127] [(0, []), (1, []), (3, []), (4, []), (2, []), (5, []), (6, []), (7, [])] xk xk (zza 33 (.adr 7 3) (zzh 34 (.v (r113.v)) ty26 zze (zza 36 (.adr 7 0) (zzh 37 (.v (r111.v)) ty26 zze (zzg 35 176 [r113.v] ?_)))))))
    intro w118 u118 e118 d118
    have k123 := k_ratNeg d118 (h114.ext e118).raw xq
    with_reducible refine zPm k123 ?_
    rintro _ u121 g122 ⟨r119, rfl, h120⟩
    refine zzg 38 176 [r111.v] ?_
    intro w124 u124 e124 d124
    have k129 := k_ratNeg d124 (h112.ext (e118.trans (g122.ext.trans e124))).raw xq
    with_reducible refine zPm k129 ?_
    rintro _ u127 g128 ⟨r125, rfl, h126⟩
    refine zza 39 (.v (.agg #[.bool r119.s, r119.m.v, r119.d.v, .bool r125.s, r125.m.v, r125.d.v])) (zzi ⟨32, r119.cs ++ r125.cs⟩ ty32 ?_)
    refine zzc 65 [(6, .adr 6 0)] [(6, ⟨32, r119.cs ++ r125.cs⟩)] (zzn (zzv (ret0 [.agg #[.bool r119.s, .slice r119.m.a r119.m.n r119.m.c, .slice r119.d.a r119.d.n r119.d.c, .bool r125.s, .slice r125.m.a r125.m.n r125.m.c, .slice r125.d.a r125.d.n r125.d.c]] ⟨zzq ty32 zze, trivial⟩ fun u130 e131 => ?_)))
    have hc := Nt.cosV_hi (b := k) hr (by have h9 := of_decide_eq_true hb109; omega)
    refine ⟨r119, r125, rfl, RatN.more (K := 80) ?_ xq, RatN.more (K := 80) ?_ xq⟩
    ·rw [hc]; exact (h120.ext (e124.trans (g128.ext.trans e131)))
    ·rw [hc]; exact (h126.ext e131)
   ·replace hb109 : (decide ((q : Int) < ((2 * r : Nat) : Int))) = false := hb109
    have qhb109 := of_decide_eq_false hb109
    refine zzr (zzo ?_)
    refine zzd (zzs (sq9 (zzh 41 (zI r) ty3 zzk (zza 42 (zB ((r : Int) == 0)) (zza 40 (zB ((r : Int) == 0)) (zzb (zzt (b := (r : Int) == 0) xk (fun hb132 => ?_) (fun hb132 => ?_))))))))
    ·replace hb132 : ((r : Int) == 0) = true := hb132
     have qhb132 : (r : Int) = 0 := by simpa using hb132
     refine sq9 (zzg 43 118 [.int .i64 1] ?_)
     intro w133 u133 e133 d133
     have k138 := k_ratOf d133 (z := 1) xq xq
     with_reducible refine zPm k138 ?_
     rintro _ u136 g137 ⟨r134, rfl, h135⟩
     refine zza 44 (zI k) (zzg 45 177 [r134.v, .int .i64 k] ?_)
     intro w139 u139 e139 d139
     have k146 := k_exactly (k := k) d139 (h135.ext e139) xq xq
     with_reducible refine zPm k146 ?_
     rintro _ u144 g145 ⟨r140, r142, rfl, h141, h143⟩
     refine zzi ⟨32, r140.cs ++ r142.cs⟩ ty32 ?_
     refine zzb (zzn (zyr (zzv (ret0 [.agg #[.bool r140.s, .slice r140.m.a r140.m.n r140.m.c, .slice r140.d.a r140.d.n r140.d.c, .bool r142.s, .slice r142.m.a r142.m.n r142.m.c, .slice r142.d.a r142.d.n r142.d.c]] ⟨zzq ty32 zze, trivial⟩ fun u147 e148 => ?_))))
     have hc := (Nt.cosV_lo (b := k) hr (by have h9 := of_decide_eq_false hb109; omega)).trans (Nt.cosA_0 (r := r) (q := q) (b := k) (by have h9 := hb132; simp at h9; omega))
     refine ⟨r140, r142, rfl, RatN.more (K := 80) ?_ xq, RatN.more (K := 80) ?_ xq⟩
     ·rw [hc]; exact (h141.ext e148)
     ·rw [hc]; exact (h143.ext e148)
    ·replace hb132 : ((r : Int) == 0) = false := hb132
     have qhb132 : ¬ ((r : Int) = 0) := by simpa using hb132
     refine sq9 (zzh 47 (zI r) ty3 zzk (zyn 48 (x := zI (IntKind.i64.wrap ((2 : Int) * (r : Int)))) (zI (2 * r : Nat)) (eqI xj) (zzh 49 (zI q) ty3 zzk (zza 50 (zB (((2 * r : Nat) : Int) == (q : Int))) (zza 46 (zB (((2 * r : Nat) : Int) == (q : Int))) (zzb (zzt (b := ((2 * r : Nat) : Int) == (q : Int)) xk (fun hb149 => ?_) (fun hb149 => ?_))))))))
     ·replace hb149 : (((2 * r : Nat) : Int) == (q : Int)) = true := hb149
      refine sq9 (zzg 51 118 [.int .i64 0] ?_)
      intro w150 u150 e150 d150
      have k155 := k_ratOf d150 (z := 0) xq xq
      with_reducible refine zPm k155 ?_
      rintro _ u153 g154 ⟨r151, rfl, h152⟩
      refine zza 52 (zI k) (zzg 53 177 [r151.v, .int .i64 k] ?_)
      intro w156 u156 e156 d156
      have k163 := k_exactly (k := k) d156 (h152.ext e156) xq xq
      with_reducible refine zPm k163 ?_
      rintro _ u161 g162 ⟨r157, r159, rfl, h158, h160⟩
      refine zzi ⟨32, r157.cs ++ r159.cs⟩ ty32 ?_
      refine zzc 65 [(6, .adr 6 0)] [(6, ⟨32, r157.cs ++ r159.cs⟩)] (zzn (zyr (zzv (ret0 [.agg #[.bool r157.s, .slice r157.m.a r157.m.n r157.m.c, .slice r157.d.a r157.d.n r157.d.c, .bool r159.s, .slice r159.m.a r159.m.n r159.m.c, .slice r159.d.a r159.d.n r159.d.c]] ⟨zzq ty32 zze, trivial⟩ fun u164 e165 => ?_))))
      have hc := (Nt.cosV_lo (b := k) hr (by have h9 := of_decide_eq_false hb109; omega)).trans (Nt.cosA_h (r := r) (q := q) (b := k) (by have h9 := hb132; simp at h9; omega) (by have h9 := hb149; simp at h9; omega))
      refine ⟨r157, r159, rfl, RatN.more (K := 80) ?_ xq, RatN.more (K := 80) ?_ xq⟩
      ·rw [hc]; exact (h158.ext e165)
      ·rw [hc]; exact (h160.ext e165)
     ·replace hb149 : (((2 * r : Nat) : Int) == (q : Int)) = false := hb149
      have q9hb149 : ¬ 2 * r = q := by have h9 := hb149; simp at h9; omega
      refine sq9 (zzh 55 (zI r) ty3 zzk (zyn 56 (x := zI (IntKind.i64.wrap ((3 : Int) * (r : Int)))) (zI (3 * r : Nat)) (eqI xj) (zzh 57 (zI q) ty3 zzk (zza 58 (zB (((3 * r : Nat) : Int) == (q : Int))) (zza 54 (zB (((3 * r : Nat) : Int) == (q : Int))) (zzc 65 [(2, zI k), (3, .adr 3 0), (4, .adr 4 0), (6, .adr 6 0), (54, zB (((3 * r : Nat) : Int) == (q : Int)))] [(3, ⟨3, [.int .i64 r]⟩), (4, ⟨3, [.int .i64 q]⟩), (6, ⟨32, [.bool false, .slice none 0 0, .slice none 0 0, .bool false, .slice none 0 0, .slice none 0 0]⟩)] (zzt (b := ((3 * r : Nat) : Int) == (q : Int)) xk (fun hb166 => ?_) (fun hb166 => ?_))))))))
      ·replace hb166 : (((3 * r : Nat) : Int) == (q : Int)) = true := hb166
       refine sq9 (zzg 59 127 [.int .i64 1, .int .i64 2] ?_)
       intro w167 u167 e167 d167
       have k172 := k_ratFrac d167 (a := 1) (b := 2) xq xq xq xq
       with_reducible refine zPm k172 ?_
       rintro _ u170 g171 ⟨r168, rfl, h169⟩
       refine zza 60 (zI k) (zzg 61 177 [r168.v, .int .i64 k] ?_)
       intro w173 u173 e173 d173
       have k180 := k_exactly (k := k) d173 (h169.ext e173) xq xq
       with_reducible refine zPm k180 ?_
       rintro _ u178 g179 ⟨r174, r176, rfl, h175, h177⟩
       refine zzi ⟨32, r174.cs ++ r176.cs⟩ ty32 ?_
       refine zzb (zzn (zyr (zzv (ret0 [.agg #[.bool r174.s, .slice r174.m.a r174.m.n r174.m.c, .slice r174.d.a r174.d.n r174.d.c, .bool r176.s, .slice r176.m.a r176.m.n r176.m.c, .slice r176.d.a r176.d.n r176.d.c]] ⟨zzq ty32 zze, trivial⟩ fun u181 e182 => ?_))))
       have hc := (Nt.cosV_lo (b := k) hr (by have h9 := of_decide_eq_false hb109; omega)).trans (Nt.cosA_3 (r := r) (q := q) (b := k) (by have h9 := hb132; simp at h9; omega) (by have h9 := hb149; simp at h9; omega) (by have h9 := hb166; simp at h9; omega))
       refine ⟨r174, r176, rfl, RatN.more (K := 80) ?_ xq, RatN.more (K := 80) ?_ xq⟩
       ·rw [hc]; exact (h175.ext e182)
       ·rw [hc]; exact (h177.ext e182)
      ·replace hb166 : (((3 * r : Nat) : Int) == (q : Int)) = false := hb166
       have q9hb166 : ¬ 3 * r = q := by have h9 := hb166; simp at h9; omega
       refine zzr (zzo ?_)
       refine zzd (sw_pubA (r := 3) (t := 3) [3] xz xk (by rfl) (by rfl) xk (fun b183 u184 e185 hb186 hv187 hh188 => ?_))
       refine sw_pubA (r := 4) (t := 4) [4] xz xk (by rfl) (by rfl) xk (fun b189 u190 e191 hb192 hv193 hh194 => ?_)
       refine zzf (sy_fun 62 [.pointer (some ⟨b183, 0, none⟩), .pointer (some ⟨b189, 0, none⟩)] ?_)
       refine zza 63 (zI k) (zzg 64 101 [.func (.func 178) #[] #[.pointer (some ⟨b183, 0, none⟩), .pointer (some ⟨b189, 0, none⟩)], .int .i64 k] ?_)
       intro w195 u195 e195 d195
       have k202 := k_irrCos (k := k) d195 ((e191.trans e195).cells hh188) (e195.cells hh194) hq0 xq xq xq (hG r xq xq xq) hg3 xq
       with_reducible refine zPm k202 ?_
       rintro _ u200 g201 ⟨r196, r198, rfl, h197, h199⟩
       refine zzi ⟨32, r196.cs ++ r198.cs⟩ ty32 ?_
       refine zzb (zzn (ret0 [.agg #[.bool r196.s, .slice r196.m.a r196.m.n r196.m.c, .slice r196.d.a r196.d.n r196.d.c, .bool r198.s, .slice r198.m.a r198.m.n r198.m.c, .slice r198.d.a r198.d.n r198.d.c]] ⟨zzq ty32 zze, trivial⟩ fun u203 e204 => ?_))
       have hc := (Nt.cosV_lo (b := k) hr (by have h9 := of_decide_eq_false hb109; omega)).trans (Nt.cosA_g (r := r) (q := q) (b := k) (by have h9 := hb132; simp at h9; omega) (by have h9 := hb149; simp at h9; omega) (by have h9 := hb166; simp at h9; omega))
       refine ⟨r196, r198, rfl, RatN.more (K := 70) ?_ xq, RatN.more (K := 70) ?_ xq⟩
       ·rw [hc]; exact (h197.ext e204)
       ·rw [hc]; exact (h199.ext e204)
 ·replace hb11 : (decide ((Int.tmod p (2 * (q : Int))) < 0)) = false := hb11
  have qhb11 := of_decide_eq_false hb11
  refine zzr (zzo ?_)
  refine zzd (sq9 (zzh 16 (zI (Int.tmod p (2 * (q : Int)))) ty3 zzk (zzh 17 (zI q) ty3 zzk (zza 18 (zB (decide ((q : Int) < (Int.tmod p (2 * (q : Int)))))) (zzb (zzt (b := decide ((q : Int) < (Int.tmod p (2 * (q : Int))))) xk (fun hb205 => ?_) (fun hb205 => ?_)))))))
  ·replace hb205 : (decide ((q : Int) < (Int.tmod p (2 * (q : Int))))) = true := hb205
   have qhb205 := of_decide_eq_true hb205
   refine zzf (zzh 19 (zI q) ty3 zzk (zyn 20 (x := zI (IntKind.i64.wrap ((2 : Int) * (q : Int)))) (zI (2 * q : Nat)) (eqI xj) (zzh 21 (zI (Int.tmod p (2 * (q : Int)))) ty3 zzk (zyn 22 (x := zI (IntKind.i64.wrap (((2 * q : Nat) : Int) - (Int.tmod p (2 * (q : Int)))))) (zI (((2 * q : Nat) : Int) - (Int.tmod p (2 * (q : Int))))) yv (zzi ⟨3, [.int .i64 (((2 * q : Nat) : Int) - (Int.tmod p (2 * (q : Int))))]⟩ ty3 ?_)))))
   refine zzb (zzd (zzd ?_))
   have hfold : (((2 * q : Nat) : Int) - (Int.tmod p (2 * (q : Int)))) = ((Nt.fold p q : Nat) : Int) := by unfold Nt.fold; dsimp only; split <;> omega
   rw [hfold]
   have hfl := Nt.fold_le p q hq0
   obtain ⟨r, hr⟩ : ∃ r, Nt.fold p q = r := ⟨_, rfl⟩
   rw [hr] at hfl ⊢
   clear hfold
   refine zzf (zzh 23 (zI r) ty3 zzk (zyn 24 (x := zI (IntKind.i64.wrap ((2 : Int) * (r : Int)))) (zI (2 * r : Nat)) (eqI xj) (zzh 25 (zI q) ty3 zzk (zza 26 (zB (decide ((q : Int) < ((2 * r : Nat) : Int)))) (zzb (zzt (b := decide ((q : Int) < ((2 * r : Nat) : Int))) xk (fun hb206 => ?_) (fun hb206 => ?_)))))))
   ·replace hb206 : (decide ((q : Int) < ((2 * r : Nat) : Int))) = true := hb206
    have qhb206 := of_decide_eq_true hb206
    have hb9 := hb206
    refine sq9 (zzh 27 (zI q) ty3 zzk (zzh 28 (zI r) ty3 zzk (zyn 29 (x := zI (IntKind.i64.wrap ((q : Int) - (r : Int)))) (zI (q - r : Nat)) (eqI xj) (zzh 30 (zI q) ty3 zzk (zza 31 (zI k) (zzg 32 100 [.int .i64 (q - r : Nat), .int .i64 q, .int .i64 k] ?_))))))
    intro w207 u207 e207 d207
    have k214 := (show Calls _ _ #[.int .i64 ((q - r : Nat) : Int), .int .i64 (q : Int), .int .i64 (k : Int)] _ _ from (by have h9 := k_cosA (p := ((q - r : Nat) : Int)) (q := q) (k := k) d207 hq0 hq2 hG0 xq xq hk (by rw [Nt.fold_id xq]; have h8 := of_decide_eq_true hb9; omega); rw [Nt.fold_id xq] at h9; exact h9))
    with_reducible refine zPm k214 ?_
    rintro _ u212 g213 ⟨r208, r210, rfl, h209, h211⟩
    refine zzj 7 ⟨32, [.bool false, .slice none 0 0, .slice none 0 0, .bool false, .slice none 0 0, .slice none 0 0]⟩ (zzi ⟨32, r208.cs ++ r210.cs⟩ ty32 ?_)
    refine zzb (zzd (zzy [0, 1, 3, 0, 8, 31, 63, 127] [(0, []), (1, []), (3, []), (4, []), (2, []), (5, []), (6, []), (7, [])] xk xk (zza 33 (.adr 7 3) (zzh 34 (.v (r210.v)) ty26 zze (zza 36 (.adr 7 0) (zzh 37 (.v (r208.v)) ty26 zze (zzg 35 176 [r210.v] ?_)))))))
    intro w215 u215 e215 d215
    have k220 := k_ratNeg d215 (h211.ext e215).raw xq
    with_reducible refine zPm k220 ?_
    rintro _ u218 g219 ⟨r216, rfl, h217⟩
    refine zzg 38 176 [r208.v] ?_
    intro w221 u221 e221 d221
    have k226 := k_ratNeg d221 (h209.ext (e215.trans (g219.ext.trans e221))).raw xq
    with_reducible refine zPm k226 ?_
    rintro _ u224 g225 ⟨r222, rfl, h223⟩
    refine zza 39 (.v (.agg #[.bool r216.s, r216.m.v, r216.d.v, .bool r222.s, r222.m.v, r222.d.v])) (zzi ⟨32, r216.cs ++ r222.cs⟩ ty32 ?_)
    refine zzc 65 [(6, .adr 6 0)] [(6, ⟨32, r216.cs ++ r222.cs⟩)] (zzn (zzv (ret0 [.agg #[.bool r216.s, .slice r216.m.a r216.m.n r216.m.c, .slice r216.d.a r216.d.n r216.d.c, .bool r222.s, .slice r222.m.a r222.m.n r222.m.c, .slice r222.d.a r222.d.n r222.d.c]] ⟨zzq ty32 zze, trivial⟩ fun u227 e228 => ?_)))
    have hc := Nt.cosV_hi (b := k) hr (by have h9 := of_decide_eq_true hb206; omega)
    refine ⟨r216, r222, rfl, RatN.more (K := 80) ?_ xq, RatN.more (K := 80) ?_ xq⟩
    ·rw [hc]; exact (h217.ext (e221.trans (g225.ext.trans e228)))
    ·rw [hc]; exact (h223.ext e228)
   ·replace hb206 : (decide ((q : Int) < ((2 * r : Nat) : Int))) = false := hb206
    have qhb206 := of_decide_eq_false hb206
    refine zzr (zzo ?_)
    refine zzd (zzs (sq9 (zzh 41 (zI r) ty3 zzk (zza 42 (zB ((r : Int) == 0)) (zza 40 (zB ((r : Int) == 0)) (zzb (zzt (b := (r : Int) == 0) xk (fun hb229 => ?_) (fun hb229 => ?_))))))))
    ·replace hb229 : ((r : Int) == 0) = true := hb229
     have qhb229 : (r : Int) = 0 := by simpa using hb229
     refine sq9 (zzg 43 118 [.int .i64 1] ?_)
     intro w230 u230 e230 d230
     have k235 := k_ratOf d230 (z := 1) xq xq
     with_reducible refine zPm k235 ?_
     rintro _ u233 g234 ⟨r231, rfl, h232⟩
     refine zza 44 (zI k) (zzg 45 177 [r231.v, .int .i64 k] ?_)
     intro w236 u236 e236 d236
     have k243 := k_exactly (k := k) d236 (h232.ext e236) xq xq
     with_reducible refine zPm k243 ?_
     rintro _ u241 g242 ⟨r237, r239, rfl, h238, h240⟩
     refine zzi ⟨32, r237.cs ++ r239.cs⟩ ty32 ?_
     refine zzb (zzn (zyr (zzv (ret0 [.agg #[.bool r237.s, .slice r237.m.a r237.m.n r237.m.c, .slice r237.d.a r237.d.n r237.d.c, .bool r239.s, .slice r239.m.a r239.m.n r239.m.c, .slice r239.d.a r239.d.n r239.d.c]] ⟨zzq ty32 zze, trivial⟩ fun u244 e245 => ?_))))
     have hc := (Nt.cosV_lo (b := k) hr (by have h9 := of_decide_eq_false hb206; omega)).trans (Nt.cosA_0 (r := r) (q := q) (b := k) (by have h9 := hb229; simp at h9; omega))
     refine ⟨r237, r239, rfl, RatN.more (K := 80) ?_ xq, RatN.more (K := 80) ?_ xq⟩
     ·rw [hc]; exact (h238.ext e245)
     ·rw [hc]; exact (h240.ext e245)
    ·replace hb229 : ((r : Int) == 0) = false := hb229
     have qhb229 : ¬ ((r : Int) = 0) := by simpa using hb229
     refine sq9 (zzh 47 (zI r) ty3 zzk (zyn 48 (x := zI (IntKind.i64.wrap ((2 : Int) * (r : Int)))) (zI (2 * r : Nat)) (eqI xj) (zzh 49 (zI q) ty3 zzk (zza 50 (zB (((2 * r : Nat) : Int) == (q : Int))) (zza 46 (zB (((2 * r : Nat) : Int) == (q : Int))) (zzb (zzt (b := ((2 * r : Nat) : Int) == (q : Int)) xk (fun hb246 => ?_) (fun hb246 => ?_))))))))
     ·replace hb246 : (((2 * r : Nat) : Int) == (q : Int)) = true := hb246
      refine sq9 (zzg 51 118 [.int .i64 0] ?_)
      intro w247 u247 e247 d247
      have k252 := k_ratOf d247 (z := 0) xq xq
      with_reducible refine zPm k252 ?_
      rintro _ u250 g251 ⟨r248, rfl, h249⟩
      refine zza 52 (zI k) (zzg 53 177 [r248.v, .int .i64 k] ?_)
      intro w253 u253 e253 d253
      have k260 := k_exactly (k := k) d253 (h249.ext e253) xq xq
      with_reducible refine zPm k260 ?_
      rintro _ u258 g259 ⟨r254, r256, rfl, h255, h257⟩
      refine zzi ⟨32, r254.cs ++ r256.cs⟩ ty32 ?_
      refine zzc 65 [(6, .adr 6 0)] [(6, ⟨32, r254.cs ++ r256.cs⟩)] (zzn (zyr (zzv (ret0 [.agg #[.bool r254.s, .slice r254.m.a r254.m.n r254.m.c, .slice r254.d.a r254.d.n r254.d.c, .bool r256.s, .slice r256.m.a r256.m.n r256.m.c, .slice r256.d.a r256.d.n r256.d.c]] ⟨zzq ty32 zze, trivial⟩ fun u261 e262 => ?_))))
      have hc := (Nt.cosV_lo (b := k) hr (by have h9 := of_decide_eq_false hb206; omega)).trans (Nt.cosA_h (r := r) (q := q) (b := k) (by have h9 := hb229; simp at h9; omega) (by have h9 := hb246; simp at h9; omega))
      refine ⟨r254, r256, rfl, RatN.more (K := 80) ?_ xq, RatN.more (K := 80) ?_ xq⟩
      ·rw [hc]; exact (h255.ext e262)
      ·rw [hc]; exact (h257.ext e262)
     ·replace hb246 : (((2 * r : Nat) : Int) == (q : Int)) = false := hb246
      have q9hb246 : ¬ 2 * r = q := by have h9 := hb246; simp at h9; omega
      refine sq9 (zzh 55 (zI r) ty3 zzk (zyn 56 (x := zI (IntKind.i64.wrap ((3 : Int) * (r : Int)))) (zI (3 * r : Nat)) (eqI xj) (zzh 57 (zI q) ty3 zzk (zza 58 (zB (((3 * r : Nat) : Int) == (q : Int))) (zza 54 (zB (((3 * r : Nat) : Int) == (q : Int))) (zzc 65 [(2, zI k), (3, .adr 3 0), (4, .adr 4 0), (6, .adr 6 0), (54, zB (((3 * r : Nat) : Int) == (q : Int)))] [(3, ⟨3, [.int .i64 r]⟩), (4, ⟨3, [.int .i64 q]⟩), (6, ⟨32, [.bool false, .slice none 0 0, .slice none 0 0, .bool false, .slice none 0 0, .slice none 0 0]⟩)] (zzt (b := ((3 * r : Nat) : Int) == (q : Int)) xk (fun hb263 => ?_) (fun hb263 => ?_))))))))
      ·replace hb263 : (((3 * r : Nat) : Int) == (q : Int)) = true := hb263
       refine sq9 (zzg 59 127 [.int .i64 1, .int .i64 2] ?_)
       intro w264 u264 e264 d264
       have k269 := k_ratFrac d264 (a := 1) (b := 2) xq xq xq xq
       with_reducible refine zPm k269 ?_
       rintro _ u267 g268 ⟨r265, rfl, h266⟩
       refine zza 60 (zI k) (zzg 61 177 [r265.v, .int .i64 k] ?_)
       intro w270 u270 e270 d270
       have k277 := k_exactly (k := k) d270 (h266.ext e270) xq xq
       with_reducible refine zPm k277 ?_
       rintro _ u275 g276 ⟨r271, r273, rfl, h272, h274⟩
       refine zzi ⟨32, r271.cs ++ r273.cs⟩ ty32 ?_
       refine zzb (zzn (zyr (zzv (ret0 [.agg #[.bool r271.s, .slice r271.m.a r271.m.n r271.m.c, .slice r271.d.a r271.d.n r271.d.c, .bool r273.s, .slice r273.m.a r273.m.n r273.m.c, .slice r273.d.a r273.d.n r273.d.c]] ⟨zzq ty32 zze, trivial⟩ fun u278 e279 => ?_))))
       have hc := (Nt.cosV_lo (b := k) hr (by have h9 := of_decide_eq_false hb206; omega)).trans (Nt.cosA_3 (r := r) (q := q) (b := k) (by have h9 := hb229; simp at h9; omega) (by have h9 := hb246; simp at h9; omega) (by have h9 := hb263; simp at h9; omega))
       refine ⟨r271, r273, rfl, RatN.more (K := 80) ?_ xq, RatN.more (K := 80) ?_ xq⟩
       ·rw [hc]; exact (h272.ext e279)
       ·rw [hc]; exact (h274.ext e279)
      ·replace hb263 : (((3 * r : Nat) : Int) == (q : Int)) = false := hb263
       have q9hb263 : ¬ 3 * r = q := by have h9 := hb263; simp at h9; omega
       refine zzr (zzo ?_)
       refine zzd (sw_pubA (r := 3) (t := 3) [3] xz xk (by rfl) (by rfl) xk (fun b280 u281 e282 hb283 hv284 hh285 => ?_))
       refine sw_pubA (r := 4) (t := 4) [4] xz xk (by rfl) (by rfl) xk (fun b286 u287 e288 hb289 hv290 hh291 => ?_)
       refine zzf (sy_fun 62 [.pointer (some ⟨b280, 0, none⟩), .pointer (some ⟨b286, 0, none⟩)] ?_)
       refine zza 63 (zI k) (zzg 64 101 [.func (.func 178) #[] #[.pointer (some ⟨b280, 0, none⟩), .pointer (some ⟨b286, 0, none⟩)], .int .i64 k] ?_)
       intro w292 u292 e292 d292
       have k299 := k_irrCos (k := k) d292 ((e288.trans e292).cells hh285) (e292.cells hh291) hq0 xq xq xq (hG r xq xq xq) hg3 xq
       with_reducible refine zPm k299 ?_
       rintro _ u297 g298 ⟨r293, r295, rfl, h294, h296⟩
       refine zzi ⟨32, r293.cs ++ r295.cs⟩ ty32 ?_
       refine zzb (zzn (ret0 [.agg #[.bool r293.s, .slice r293.m.a r293.m.n r293.m.c, .slice r293.d.a r293.d.n r293.d.c, .bool r295.s, .slice r295.m.a r295.m.n r295.m.c, .slice r295.d.a r295.d.n r295.d.c]] ⟨zzq ty32 zze, trivial⟩ fun u300 e301 => ?_))
       have hc := (Nt.cosV_lo (b := k) hr (by have h9 := of_decide_eq_false hb206; omega)).trans (Nt.cosA_g (r := r) (q := q) (b := k) (by have h9 := hb229; simp at h9; omega) (by have h9 := hb246; simp at h9; omega) (by have h9 := hb263; simp at h9; omega))
       refine ⟨r293, r295, rfl, RatN.more (K := 70) ?_ xq, RatN.more (K := 70) ?_ xq⟩
       ·rw [hc]; exact (h294.ext e301)
       ·rw [hc]; exact (h296.ext e301)
  ·replace hb205 : (decide ((q : Int) < (Int.tmod p (2 * (q : Int))))) = false := hb205
   have qhb205 := of_decide_eq_false hb205
   refine zzr (zzo ?_)
   refine zzd (zzd ?_)
   have hfold : (Int.tmod p (2 * (q : Int))) = ((Nt.fold p q : Nat) : Int) := by unfold Nt.fold; dsimp only; split <;> omega
   rw [hfold]
   have hfl := Nt.fold_le p q hq0
   obtain ⟨r, hr⟩ : ∃ r, Nt.fold p q = r := ⟨_, rfl⟩
   rw [hr] at hfl ⊢
   clear hfold
   refine zzf (zzh 23 (zI r) ty3 zzk (zyn 24 (x := zI (IntKind.i64.wrap ((2 : Int) * (r : Int)))) (zI (2 * r : Nat)) (eqI xj) (zzh 25 (zI q) ty3 zzk (zza 26 (zB (decide ((q : Int) < ((2 * r : Nat) : Int)))) (zzb (zzt (b := decide ((q : Int) < ((2 * r : Nat) : Int))) xk (fun hb302 => ?_) (fun hb302 => ?_)))))))
   ·replace hb302 : (decide ((q : Int) < ((2 * r : Nat) : Int))) = true := hb302
    have qhb302 := of_decide_eq_true hb302
    have hb9 := hb302
    refine sq9 (zzh 27 (zI q) ty3 zzk (zzh 28 (zI r) ty3 zzk (zyn 29 (x := zI (IntKind.i64.wrap ((q : Int) - (r : Int)))) (zI (q - r : Nat)) (eqI xj) (zzh 30 (zI q) ty3 zzk (zza 31 (zI k) (zzg 32 100 [.int .i64 (q - r : Nat), .int .i64 q, .int .i64 k] ?_))))))
    intro w303 u303 e303 d303
    have k310 := (show Calls _ _ #[.int .i64 ((q - r : Nat) : Int), .int .i64 (q : Int), .int .i64 (k : Int)] _ _ from (by have h9 := k_cosA (p := ((q - r : Nat) : Int)) (q := q) (k := k) d303 hq0 hq2 hG0 xq xq hk (by rw [Nt.fold_id xq]; have h8 := of_decide_eq_true hb9; omega); rw [Nt.fold_id xq] at h9; exact h9))
    with_reducible refine zPm k310 ?_
    rintro _ u308 g309 ⟨r304, r306, rfl, h305, h307⟩
    refine zzj 7 ⟨32, [.bool false, .slice none 0 0, .slice none 0 0, .bool false, .slice none 0 0, .slice none 0 0]⟩ (zzi ⟨32, r304.cs ++ r306.cs⟩ ty32 ?_)
    refine zzb (zzd (zzy [0, 1, 3, 0, 8, 31, 63, 127] [(0, []), (1, []), (3, []), (4, []), (2, []), (5, []), (6, []), (7, [])] xk xk (zza 33 (.adr 7 3) (zzh 34 (.v (r306.v)) ty26 zze (zza 36 (.adr 7 0) (zzh 37 (.v (r304.v)) ty26 zze (zzg 35 176 [r306.v] ?_)))))))
    intro w311 u311 e311 d311
    have k316 := k_ratNeg d311 (h307.ext e311).raw xq
    with_reducible refine zPm k316 ?_
    rintro _ u314 g315 ⟨r312, rfl, h313⟩
    refine zzg 38 176 [r304.v] ?_
    intro w317 u317 e317 d317
    have k322 := k_ratNeg d317 (h305.ext (e311.trans (g315.ext.trans e317))).raw xq
    with_reducible refine zPm k322 ?_
    rintro _ u320 g321 ⟨r318, rfl, h319⟩
    refine zza 39 (.v (.agg #[.bool r312.s, r312.m.v, r312.d.v, .bool r318.s, r318.m.v, r318.d.v])) (zzi ⟨32, r312.cs ++ r318.cs⟩ ty32 ?_)
    refine zzc 65 [(6, .adr 6 0)] [(6, ⟨32, r312.cs ++ r318.cs⟩)] (zzn (zzv (ret0 [.agg #[.bool r312.s, .slice r312.m.a r312.m.n r312.m.c, .slice r312.d.a r312.d.n r312.d.c, .bool r318.s, .slice r318.m.a r318.m.n r318.m.c, .slice r318.d.a r318.d.n r318.d.c]] ⟨zzq ty32 zze, trivial⟩ fun u323 e324 => ?_)))
    have hc := Nt.cosV_hi (b := k) hr (by have h9 := of_decide_eq_true hb302; omega)
    refine ⟨r312, r318, rfl, RatN.more (K := 80) ?_ xq, RatN.more (K := 80) ?_ xq⟩
    ·rw [hc]; exact (h313.ext (e317.trans (g321.ext.trans e324)))
    ·rw [hc]; exact (h319.ext e324)
   ·replace hb302 : (decide ((q : Int) < ((2 * r : Nat) : Int))) = false := hb302
    have qhb302 := of_decide_eq_false hb302
    refine zzr (zzo ?_)
    refine zzd (zzs (sq9 (zzh 41 (zI r) ty3 zzk (zza 42 (zB ((r : Int) == 0)) (zza 40 (zB ((r : Int) == 0)) (zzb (zzt (b := (r : Int) == 0) xk (fun hb325 => ?_) (fun hb325 => ?_))))))))
    ·replace hb325 : ((r : Int) == 0) = true := hb325
     have qhb325 : (r : Int) = 0 := by simpa using hb325
     refine sq9 (zzg 43 118 [.int .i64 1] ?_)
     intro w326 u326 e326 d326
     have k331 := k_ratOf d326 (z := 1) xq xq
     with_reducible refine zPm k331 ?_
     rintro _ u329 g330 ⟨r327, rfl, h328⟩
     refine zza 44 (zI k) (zzg 45 177 [r327.v, .int .i64 k] ?_)
     intro w332 u332 e332 d332
     have k339 := k_exactly (k := k) d332 (h328.ext e332) xq xq
     with_reducible refine zPm k339 ?_
     rintro _ u337 g338 ⟨r333, r335, rfl, h334, h336⟩
     refine zzi ⟨32, r333.cs ++ r335.cs⟩ ty32 ?_
     refine zzb (zzn (zyr (zzv (ret0 [.agg #[.bool r333.s, .slice r333.m.a r333.m.n r333.m.c, .slice r333.d.a r333.d.n r333.d.c, .bool r335.s, .slice r335.m.a r335.m.n r335.m.c, .slice r335.d.a r335.d.n r335.d.c]] ⟨zzq ty32 zze, trivial⟩ fun u340 e341 => ?_))))
     have hc := (Nt.cosV_lo (b := k) hr (by have h9 := of_decide_eq_false hb302; omega)).trans (Nt.cosA_0 (r := r) (q := q) (b := k) (by have h9 := hb325; simp at h9; omega))
     refine ⟨r333, r335, rfl, RatN.more (K := 80) ?_ xq, RatN.more (K := 80) ?_ xq⟩
     ·rw [hc]; exact (h334.ext e341)
     ·rw [hc]; exact (h336.ext e341)
    ·replace hb325 : ((r : Int) == 0) = false := hb325
     have qhb325 : ¬ ((r : Int) = 0) := by simpa using hb325
     refine sq9 (zzh 47 (zI r) ty3 zzk (zyn 48 (x := zI (IntKind.i64.wrap ((2 : Int) * (r : Int)))) (zI (2 * r : Nat)) (eqI xj) (zzh 49 (zI q) ty3 zzk (zza 50 (zB (((2 * r : Nat) : Int) == (q : Int))) (zza 46 (zB (((2 * r : Nat) : Int) == (q : Int))) (zzb (zzt (b := ((2 * r : Nat) : Int) == (q : Int)) xk (fun hb342 => ?_) (fun hb342 => ?_))))))))
     ·replace hb342 : (((2 * r : Nat) : Int) == (q : Int)) = true := hb342
      refine sq9 (zzg 51 118 [.int .i64 0] ?_)
      intro w343 u343 e343 d343
      have k348 := k_ratOf d343 (z := 0) xq xq
      with_reducible refine zPm k348 ?_
      rintro _ u346 g347 ⟨r344, rfl, h345⟩
      refine zza 52 (zI k) (zzg 53 177 [r344.v, .int .i64 k] ?_)
      intro w349 u349 e349 d349
      have k356 := k_exactly (k := k) d349 (h345.ext e349) xq xq
      with_reducible refine zPm k356 ?_
      rintro _ u354 g355 ⟨r350, r352, rfl, h351, h353⟩
      refine zzi ⟨32, r350.cs ++ r352.cs⟩ ty32 ?_
      refine zzb (zzn (zyr (zzv (ret0 [.agg #[.bool r350.s, .slice r350.m.a r350.m.n r350.m.c, .slice r350.d.a r350.d.n r350.d.c, .bool r352.s, .slice r352.m.a r352.m.n r352.m.c, .slice r352.d.a r352.d.n r352.d.c]] ⟨zzq ty32 zze, trivial⟩ fun u357 e358 => ?_))))
      have hc := (Nt.cosV_lo (b := k) hr (by have h9 := of_decide_eq_false hb302; omega)).trans (Nt.cosA_h (r := r) (q := q) (b := k) (by have h9 := hb325; simp at h9; omega) (by have h9 := hb342; simp at h9; omega))
      refine ⟨r350, r352, rfl, RatN.more (K := 80) ?_ xq, RatN.more (K := 80) ?_ xq⟩
      ·rw [hc]; exact (h351.ext e358)
      ·rw [hc]; exact (h353.ext e358)
     ·replace hb342 : (((2 * r : Nat) : Int) == (q : Int)) = false := hb342
      have q9hb342 : ¬ 2 * r = q := by have h9 := hb342; simp at h9; omega
      refine sq9 (zzh 55 (zI r) ty3 zzk (zyn 56 (x := zI (IntKind.i64.wrap ((3 : Int) * (r : Int)))) (zI (3 * r : Nat)) (eqI xj) (zzh 57 (zI q) ty3 zzk (zza 58 (zB (((3 * r : Nat) : Int) == (q : Int))) (zza 54 (zB (((3 * r : Nat) : Int) == (q : Int))) (zzb (zzt (b := ((3 * r : Nat) : Int) == (q : Int)) xk (fun hb359 => ?_) (fun hb359 => ?_))))))))
      ·replace hb359 : (((3 * r : Nat) : Int) == (q : Int)) = true := hb359
       refine sq9 (zzg 59 127 [.int .i64 1, .int .i64 2] ?_)
       intro w360 u360 e360 d360
       have k365 := k_ratFrac d360 (a := 1) (b := 2) xq xq xq xq
       with_reducible refine zPm k365 ?_
       rintro _ u363 g364 ⟨r361, rfl, h362⟩
       refine zza 60 (zI k) (zzg 61 177 [r361.v, .int .i64 k] ?_)
       intro w366 u366 e366 d366
       have k373 := k_exactly (k := k) d366 (h362.ext e366) xq xq
       with_reducible refine zPm k373 ?_
       rintro _ u371 g372 ⟨r367, r369, rfl, h368, h370⟩
       refine zzi ⟨32, r367.cs ++ r369.cs⟩ ty32 ?_
       refine zzc 65 [(6, .adr 6 0)] [(6, ⟨32, r367.cs ++ r369.cs⟩)] (zzn (zyr (zzv (ret0 [.agg #[.bool r367.s, .slice r367.m.a r367.m.n r367.m.c, .slice r367.d.a r367.d.n r367.d.c, .bool r369.s, .slice r369.m.a r369.m.n r369.m.c, .slice r369.d.a r369.d.n r369.d.c]] ⟨zzq ty32 zze, trivial⟩ fun u374 e375 => ?_))))
       have hc := (Nt.cosV_lo (b := k) hr (by have h9 := of_decide_eq_false hb302; omega)).trans (Nt.cosA_3 (r := r) (q := q) (b := k) (by have h9 := hb325; simp at h9; omega) (by have h9 := hb342; simp at h9; omega) (by have h9 := hb359; simp at h9; omega))
       refine ⟨r367, r369, rfl, RatN.more (K := 80) ?_ xq, RatN.more (K := 80) ?_ xq⟩
       ·rw [hc]; exact (h368.ext e375)
       ·rw [hc]; exact (h370.ext e375)
      ·replace hb359 : (((3 * r : Nat) : Int) == (q : Int)) = false := hb359
       have q9hb359 : ¬ 3 * r = q := by have h9 := hb359; simp at h9; omega
       refine zzr (zzo ?_)
       refine zzd (sw_pubA (r := 3) (t := 3) [3] xz xk (by rfl) (by rfl) xk (fun b376 u377 e378 hb379 hv380 hh381 => ?_))
       refine sw_pubA (r := 4) (t := 4) [4] xz xk (by rfl) (by rfl) xk (fun b382 u383 e384 hb385 hv386 hh387 => ?_)
       refine zzf (sy_fun 62 [.pointer (some ⟨b376, 0, none⟩), .pointer (some ⟨b382, 0, none⟩)] ?_)
       refine zza 63 (zI k) (zzg 64 101 [.func (.func 178) #[] #[.pointer (some ⟨b376, 0, none⟩), .pointer (some ⟨b382, 0, none⟩)], .int .i64 k] ?_)
       intro w388 u388 e388 d388
       have k395 := k_irrCos (k := k) d388 ((e384.trans e388).cells hh381) (e388.cells hh387) hq0 xq xq xq (hG r xq xq xq) hg3 xq
       with_reducible refine zPm k395 ?_
       rintro _ u393 g394 ⟨r389, r391, rfl, h390, h392⟩
       refine zzi ⟨32, r389.cs ++ r391.cs⟩ ty32 ?_
       refine zzc 65 [(6, .adr 6 0)] [(6, ⟨32, r389.cs ++ r391.cs⟩)] (zzn (ret0 [.agg #[.bool r389.s, .slice r389.m.a r389.m.n r389.m.c, .slice r389.d.a r389.d.n r389.d.c, .bool r391.s, .slice r391.m.a r391.m.n r391.m.c, .slice r391.d.a r391.d.n r391.d.c]] ⟨zzq ty32 zze, trivial⟩ fun u396 e397 => ?_))
       have hc := (Nt.cosV_lo (b := k) hr (by have h9 := of_decide_eq_false hb302; omega)).trans (Nt.cosA_g (r := r) (q := q) (b := k) (by have h9 := hb325; simp at h9; omega) (by have h9 := hb342; simp at h9; omega) (by have h9 := hb359; simp at h9; omega))
       refine ⟨r389, r391, rfl, RatN.more (K := 70) ?_ xq, RatN.more (K := 70) ?_ xq⟩
       ·rw [hc]; exact (h390.ext e397)
       ·rw [hc]; exact (h392.ext e397)
theorem k_ePermitted {u w : World} {n : Int} (d : Dat u w) : Calls Tryz.prog 77 #[.int .i64 n] w (Post u w fun v _ => v = .bool (decide (0 ≤ n ∧ n ≤ 256))) := by
 refine zzl (args := [.int .i64 n]) Tryz.func77 rfl Tryz.ntmps77 (rs := [.tmp 2]) Tryz.results77 (le_b rfl) (le_b rfl) d ?_
 refine sq9 (zza 2 (zB false) (zzb (sq9 (zza 3 (zI n) (zza 4 (zB (decide ((0 : Int) ≤ n))) ?_)))))
 rcases Bool.eq_false_or_eq_true (decide ((0 : Int) ≤ n)) with hs11 | hs11
 ·refine zyn 5 (x := zB (decide ((0 : Int) ≤ n))) (zB true) (by rw [hs11]) ?_
  have qhs11 := of_decide_eq_true hs11
  refine zza 6 (zI n) ?_ (hw := w1 2 true 5)
  refine zza 7 (zB (decide (n ≤ 256))) ?_ (hw := w1 2 true 5)
  refine zza 8 (zB (decide (n ≤ 256))) (zza 2 (zB (decide (n ≤ 256))) (zzb (zzn (ret0 [.bool (decide (n ≤ 256))] ⟨zzp, trivial⟩ fun u12 e13 => ?_))))
  show Value.bool _ = Value.bool _
  congr 1
  symm
  have h9 := of_decide_eq_true hs11
  by_cases h8 : n ≤ 256
  ·rw [decide_eq_true h8]; exact decide_eq_true ⟨h9, h8⟩
  ·rw [decide_eq_false h8]; exact decide_eq_false (fun h => h8 h.2)
 ·refine zyn 5 (x := zB (decide ((0 : Int) ≤ n))) (zB false) (by rw [hs11]) ?_
  have qhs11 := of_decide_eq_false hs11
  refine zzm 6 (uw 2 true false 5) (zzm 7 (uw 2 true false 5) (zza 8 (zB false) (zza 2 (zB false) (zzb (zzn (ret0 [.bool false] ⟨zzp, trivial⟩ fun u14 e15 => ?_))))))
  show Value.bool _ = Value.bool _
  congr 1
  symm
  exact decide_eq_false (fun h => absurd h.1 (of_decide_eq_false hs11))
theorem k_PiG {u w : World} {k : Nat} (d : Dat u w) (hk : k ≤ 256) : Calls Tryz.prog 32 #[.int .i64 (k : Int)] w (Post u w fun v u' => ∃ r1 r2 : RL, v = .tuple #[IV r1 r2, .int .i64 0] ∧ RatN u' r1 (Nt.gr k (Nt.flo Nt.piN k)) 80 ∧ RatN u' r2 (Nt.gr k (Nt.flo Nt.piN k + 1)) 80) := by
 have hg := Nt.gap_pi.lower hk
 have hg3 : 260 ≤ 300 := by decide
 refine zzl (args := [.int .i64 k]) Tryz.func32 rfl Tryz.ntmps32 (rs := [.cell 2 32, .tmp 3]) Tryz.results32 (le_b rfl) (le_b rfl) d ?_
 refine sq9 (zzj 2 ⟨32, [.bool false, .slice none 0 0, .slice none 0 0, .bool false, .slice none 0 0, .slice none 0 0]⟩ (zza 3 (zI 0) (zzb (zzd (sq9 (zza 4 (zI k) (zzg 5 77 [.int .i64 k] ?_)))))))
 intro w11 u11 e11 d11
 have k14 := k_ePermitted (n := (k : Int)) d11
 with_reducible refine zPm k14 ?_
 rintro _ u12 g13 rfl
 refine zza 6 (zB (!(decide (0 ≤ (k : Int) ∧ (k : Int) ≤ 256)))) (zzb (zzt (b := !(decide (0 ≤ (k : Int) ∧ (k : Int) ≤ 256))) xk (fun hb => ?_) (fun hb => ?_)))
 ·exact absurd hb (by rw [show (!(decide (0 ≤ (k : Int) ∧ (k : Int) ≤ 256))) = false from (by rw [decide_eq_true xq]; rfl)]; decide)
 ·clear hb
  refine zzr (zzo ?_)
  refine sq9 (zza 8 (zI k) (zzg 9 101 [.func (.func 102) #[] #[], .int .i64 k] ?_))
  intro w15 u15 e15 d15
  have k22 := k_irrPi (k := k) d15  hg hg3 xq
  with_reducible refine zPm k22 ?_
  rintro _ u20 g21 ⟨r16, r18, rfl, h17, h19⟩
  refine zzi ⟨32, r16.cs ++ r18.cs⟩ ty32 ?_
  refine zza 3 (zI 0) (zzb (zzn (ret0 [.agg #[.bool r16.s, .slice r16.m.a r16.m.n r16.m.c, .slice r16.d.a r16.d.n r16.d.c, .bool r18.s, .slice r18.m.a r18.m.n r18.m.c, .slice r18.d.a r18.d.n r18.d.c], .int .i64 0] ⟨zzq ty32 zze, zzp, trivial⟩ fun u23 e24 => ?_)))
  exact ⟨r16, r18, rfl, RatN.more (h17.ext e24) xq, RatN.more (h19.ext e24) xq⟩
theorem k_PiB {u w : World} {n : Int} (d : Dat u w) (hbad : ¬ (0 ≤ n ∧ n ≤ 256)) : Calls Tryz.prog 32 #[.int .i64 n] w (Post u w fun v u' => v = .tuple #[.agg #[.bool false, .slice none 0 0, .slice none 0 0, .bool false, .slice none 0 0, .slice none 0 0], .int .i64 1]) := by
 refine zzl (args := [.int .i64 n]) Tryz.func32 rfl Tryz.ntmps32 (rs := [.cell 2 32, .tmp 3]) Tryz.results32 (le_b rfl) (le_b rfl) d ?_
 refine sq9 (zzj 2 ⟨32, [.bool false, .slice none 0 0, .slice none 0 0, .bool false, .slice none 0 0, .slice none 0 0]⟩ (zza 3 (zI 0) (zzb (zzd (sq9 (zza 4 (zI n) (zzg 5 77 [.int .i64 n] ?_)))))))
 intro w11 u11 e11 d11
 have k14 := k_ePermitted (n := n) d11
 with_reducible refine zPm k14 ?_
 rintro _ u12 g13 rfl
 refine zza 6 (zB (!(decide (0 ≤ n ∧ n ≤ 256)))) (zzb (zzt (b := !(decide (0 ≤ n ∧ n ≤ 256))) xk (fun hb => ?_) (fun hb => ?_)))
 ·clear hb
  refine sq9 (zza 7 (.v (.agg #[.bool false, .slice none 0 0, .slice none 0 0, .bool false, .slice none 0 0, .slice none 0 0])) (zzi ⟨32, [.bool false, .slice none 0 0, .slice none 0 0, .bool false, .slice none 0 0, .slice none 0 0]⟩ ty32 ?_))
  refine zza 3 (zI 1) (zzb (zzn (zzv (ret0 [.agg #[.bool false, .slice none 0 0, .slice none 0 0, .bool false, .slice none 0 0, .slice none 0 0], .int .i64 1] ⟨zzq ty32 zze, zzp, trivial⟩ fun u15 e16 => ?_))))
  rfl
 ·exact absurd hb (by rw [show (!(decide (0 ≤ n ∧ n ≤ 256))) = true from (by rw [decide_eq_false hbad]; rfl)]; decide)
theorem k_CosPiG {u w : World} {p : Int} {q k : Nat} (d : Dat u w) (hq1 : 1 ≤ q) (hq2 : q ≤ 1000) (hp0 : -1000000 ≤ p) (hp1 : p ≤ 1000000) (hk : k ≤ 256) (hG : Nt.GapQ q k) : Calls Tryz.prog 31 #[.int .i64 p, .int .i64 (q : Int), .int .i64 (k : Int)] w (Post u w fun v u' => ∃ r1 r2 : RL, v = .tuple #[IV r1 r2, .int .i64 0] ∧ RatN u' r1 ((Nt.cosV p q k).1) 80 ∧ RatN u' r2 ((Nt.cosV p q k).2) 80) := by
 refine zzl (args := [.int .i64 p, .int .i64 q, .int .i64 k]) Tryz.func31 rfl Tryz.ntmps31 (rs := [.cell 6 32, .tmp 7]) Tryz.results31 (le_b rfl) (le_b rfl) d ?_
 refine sq9 (zzj 6 ⟨32, [.bool false, .slice none 0 0, .slice none 0 0, .bool false, .slice none 0 0, .slice none 0 0]⟩ (zza 7 (zI 0) (zzb (zzd (sq9 (zza 8 (zI k) (zzg 9 77 [.int .i64 k] ?_)))))))
 intro w11 u11 e11 d11
 have k14 := k_ePermitted (n := (k : Int)) d11
 with_reducible refine zPm k14 ?_
 rintro _ u12 g13 rfl
 refine zza 10 (zB (!(decide (0 ≤ (k : Int) ∧ (k : Int) ≤ 256)))) (zyn 11 (x := zB (!(decide (0 ≤ (k : Int) ∧ (k : Int) ≤ 256)))) (zB false) (by rw [show (!(decide (0 ≤ (k : Int) ∧ (k : Int) ≤ 256))) = false from (by rw [decide_eq_true xq]; rfl)]) (zza 12 (zI q) ?_ (hw := w1 3 false 11)))
 refine zza 13 (zB (decide ((q : Int) < 1))) ?_ (hw := w1 3 false 11)
 refine zza 14 (zB (decide ((q : Int) < 1))) (zyn 15 (x := zB (decide ((q : Int) < 1))) (zB false) (by rw [show (decide ((q : Int) < 1)) = false from decide_eq_false xq]) (zza 16 (zI q) ?_ (hw := w1 7 false 15)))
 refine zza 17 (zB (decide ((1000 : Int) < (q : Int)))) ?_ (hw := w1 7 false 15)
 refine zza 18 (zB (decide ((1000 : Int) < (q : Int)))) (zyn 19 (x := zB (decide ((1000 : Int) < (q : Int)))) (zB false) (by rw [show (decide ((1000 : Int) < (q : Int))) = false from decide_eq_false xq]) (zza 20 (zI p) ?_ (hw := w1 11 false 19)))
 refine zza 21 (zB (decide (p < (-1000000)))) ?_ (hw := w1 11 false 19)
 refine zza 22 (zB (decide (p < (-1000000)))) (zyn 23 (x := zB (decide (p < (-1000000)))) (zB false) (by rw [show (decide (p < (-1000000))) = false from decide_eq_false xq]) (zza 24 (zI p) ?_ (hw := w1 15 false 23)))
 refine zza 25 (zB (decide ((1000000 : Int) < p))) ?_ (hw := w1 15 false 23)
 refine zza 26 (zB (decide ((1000000 : Int) < p))) (zzb (zzt (b := decide ((1000000 : Int) < p)) xk (fun hb => ?_) (fun hb => ?_)))
 ·exact absurd hb (by rw [show (decide ((1000000 : Int) < p)) = false from decide_eq_false xq]; decide)
 ·clear hb
  refine zzr (zzo ?_)
  refine sq9 (zza 28 (zI p) (zza 29 (zI q) (zza 30 (zI k) (zzg 31 100 [.int .i64 p, .int .i64 q, .int .i64 k] ?_))))
  intro w19 u19 e19 d19
  have k26 := k_cosine (p := p) (q := q) (k := k) d19 xq xq hG xq xq xq
  with_reducible refine zPm k26 ?_
  rintro _ u24 g25 ⟨r20, r22, rfl, h21, h23⟩
  refine zzi ⟨32, r20.cs ++ r22.cs⟩ ty32 ?_
  refine zza 7 (zI 0) (zzb (zzn (ret0 [.agg #[.bool r20.s, .slice r20.m.a r20.m.n r20.m.c, .slice r20.d.a r20.d.n r20.d.c, .bool r22.s, .slice r22.m.a r22.m.n r22.m.c, .slice r22.d.a r22.d.n r22.d.c], .int .i64 0] ⟨zzq ty32 zze, zzp, trivial⟩ fun u27 e28 => ?_)))
  exact ⟨r20, r22, rfl, RatN.more (h21.ext e28) xq, RatN.more (h23.ext e28) xq⟩
theorem k_SinPiG {u w : World} {p : Int} {q k : Nat} (d : Dat u w) (hq1 : 1 ≤ q) (hq2 : q ≤ 1000) (hp0 : -1000000 ≤ p) (hp1 : p ≤ 1000000) (hk : k ≤ 256) (hG : Nt.GapQ (2 * q) k) : Calls Tryz.prog 36 #[.int .i64 p, .int .i64 (q : Int), .int .i64 (k : Int)] w (Post u w fun v u' => ∃ r1 r2 : RL, v = .tuple #[IV r1 r2, .int .i64 0] ∧ RatN u' r1 ((Nt.cosV ((q : Int) - 2 * p) (2 * q) k).1) 80 ∧ RatN u' r2 ((Nt.cosV ((q : Int) - 2 * p) (2 * q) k).2) 80) := by
 refine zzl (args := [.int .i64 p, .int .i64 q, .int .i64 k]) Tryz.func36 rfl Tryz.ntmps36 (rs := [.cell 6 32, .tmp 7]) Tryz.results36 (le_b rfl) (le_b rfl) d ?_
 refine sq9 (zzj 6 ⟨32, [.bool false, .slice none 0 0, .slice none 0 0, .bool false, .slice none 0 0, .slice none 0 0]⟩ (zza 7 (zI 0) (zzb (zzd (sq9 (zza 8 (zI k) (zzg 9 77 [.int .i64 k] ?_)))))))
 intro w11 u11 e11 d11
 have k14 := k_ePermitted (n := (k : Int)) d11
 with_reducible refine zPm k14 ?_
 rintro _ u12 g13 rfl
 refine zza 10 (zB (!(decide (0 ≤ (k : Int) ∧ (k : Int) ≤ 256)))) (zyn 11 (x := zB (!(decide (0 ≤ (k : Int) ∧ (k : Int) ≤ 256)))) (zB false) (by rw [show (!(decide (0 ≤ (k : Int) ∧ (k : Int) ≤ 256))) = false from (by rw [decide_eq_true xq]; rfl)]) (zza 12 (zI q) ?_ (hw := w1 3 false 11)))
 refine zza 13 (zB (decide ((q : Int) < 1))) ?_ (hw := w1 3 false 11)
 refine zza 14 (zB (decide ((q : Int) < 1))) (zyn 15 (x := zB (decide ((q : Int) < 1))) (zB false) (by rw [show (decide ((q : Int) < 1)) = false from decide_eq_false xq]) (zza 16 (zI q) ?_ (hw := w1 7 false 15)))
 refine zza 17 (zB (decide ((1000 : Int) < (q : Int)))) ?_ (hw := w1 7 false 15)
 refine zza 18 (zB (decide ((1000 : Int) < (q : Int)))) (zyn 19 (x := zB (decide ((1000 : Int) < (q : Int)))) (zB false) (by rw [show (decide ((1000 : Int) < (q : Int))) = false from decide_eq_false xq]) (zza 20 (zI p) ?_ (hw := w1 11 false 19)))
 refine zza 21 (zB (decide (p < (-1000000)))) ?_ (hw := w1 11 false 19)
 refine zza 22 (zB (decide (p < (-1000000)))) (zyn 23 (x := zB (decide (p < (-1000000)))) (zB false) (by rw [show (decide (p < (-1000000))) = false from decide_eq_false xq]) (zza 24 (zI p) ?_ (hw := w1 15 false 23)))
 refine zza 25 (zB (decide ((1000000 : Int) < p))) ?_ (hw := w1 15 false 23)
 refine zza 26 (zB (decide ((1000000 : Int) < p))) (zzb (zzt (b := decide ((1000000 : Int) < p)) xk (fun hb => ?_) (fun hb => ?_)))
 ·exact absurd hb (by rw [show (decide ((1000000 : Int) < p)) = false from decide_eq_false xq]; decide)
 ·clear hb
  refine zzr (zzo ?_)
  refine sq9 (zza 28 (zI q) (zza 29 (zI p) (zyn 30 (x := zI (IntKind.i64.wrap ((2 : Int) * p))) (zI ((2 : Int) * p)) yv (zyn 31 (x := zI (IntKind.i64.wrap ((q : Int) - ((2 : Int) * p)))) (zI ((q : Int) - ((2 : Int) * p))) yv (zza 32 (zI q) (zyn 33 (x := zI (IntKind.i64.wrap ((2 : Int) * (q : Int)))) (zI (2 * q : Nat)) (eqI xj) (zza 34 (zI k) (zzg 35 100 [.int .i64 ((q : Int) - ((2 : Int) * p)), .int .i64 (2 * q : Nat), .int .i64 k] ?_))))))))
  intro w19 u19 e19 d19
  have k26 := k_cosine (p := (q : Int) - ((2 : Int) * p)) (q := 2 * q) (k := k) d19 xq xq hG xq xq xq
  with_reducible refine zPm k26 ?_
  rintro _ u24 g25 ⟨r20, r22, rfl, h21, h23⟩
  refine zzi ⟨32, r20.cs ++ r22.cs⟩ ty32 ?_
  refine zza 7 (zI 0) (zzc 36 [(6, .adr 6 0), (7, zI 0)] [(6, ⟨32, r20.cs ++ r22.cs⟩)] (zzn (ret0 [.agg #[.bool r20.s, .slice r20.m.a r20.m.n r20.m.c, .slice r20.d.a r20.d.n r20.d.c, .bool r22.s, .slice r22.m.a r22.m.n r22.m.c, .slice r22.d.a r22.d.n r22.d.c], .int .i64 0] ⟨zzq ty32 zze, zzp, trivial⟩ fun u27 e28 => ?_)))
  exact ⟨r20, r22, rfl, RatN.more (h21.ext e28) xq, RatN.more (h23.ext e28) xq⟩
theorem k_CosPiB {u w : World} {p q n : Int} (d : Dat u w) (hbad : ¬ (0 ≤ n ∧ n ≤ 256 ∧ 1 ≤ q ∧ q ≤ 1000 ∧ -1000000 ≤ p ∧ p ≤ 1000000)) : Calls Tryz.prog 31 #[.int .i64 p, .int .i64 q, .int .i64 n] w (Post u w fun v u' => v = .tuple #[.agg #[.bool false, .slice none 0 0, .slice none 0 0, .bool false, .slice none 0 0, .slice none 0 0], .int .i64 1]) := by
 refine zzl (args := [.int .i64 p, .int .i64 q, .int .i64 n]) Tryz.func31 rfl Tryz.ntmps31 (rs := [.cell 6 32, .tmp 7]) Tryz.results31 (le_b rfl) (le_b rfl) d ?_
 refine sq9 (zzj 6 ⟨32, [.bool false, .slice none 0 0, .slice none 0 0, .bool false, .slice none 0 0, .slice none 0 0]⟩ (zza 7 (zI 0) (zzb (zzd (sq9 (zza 8 (zI n) (zzg 9 77 [.int .i64 n] ?_)))))))
 intro w11 u11 e11 d11
 have k14 := k_ePermitted (n := n) d11
 with_reducible refine zPm k14 ?_
 rintro _ u12 g13 rfl
 refine zza 10 (zB (!(decide (0 ≤ n ∧ n ≤ 256)))) ?_
 rcases Bool.eq_false_or_eq_true (!(decide (0 ≤ n ∧ n ≤ 256))) with hs15 | hs15
 ·refine zyn 11 (x := zB (!(decide (0 ≤ n ∧ n ≤ 256)))) (zB true) (by rw [hs15]) (zzm 12 (uw 3 false true 11) (zzm 13 (uw 3 false true 11) (zza 14 (zB true) (zza 15 (zB true) (zzm 16 (uw 7 false true 15) (zzm 17 (uw 7 false true 15) (zza 18 (zB true) (zza 19 (zB true) (zzm 20 (uw 11 false true 19) (zzm 21 (uw 11 false true 19) (zza 22 (zB true) ?_)))))))))))
  refine zza 23 (zB true) (zzm 24 (uw 15 false true 23) (zzm 25 (uw 15 false true 23) (zza 26 (zB true) (zzb (zyo xk (sq9 (zza 27 (.v (.agg #[.bool false, .slice none 0 0, .slice none 0 0, .bool false, .slice none 0 0, .slice none 0 0])) (zzi ⟨32, [.bool false, .slice none 0 0, .slice none 0 0, .bool false, .slice none 0 0, .slice none 0 0]⟩ ty32 ?_))))))))
  refine zza 7 (zI 1) (zzb (zzn (zzv (ret0 [.agg #[.bool false, .slice none 0 0, .slice none 0 0, .bool false, .slice none 0 0, .slice none 0 0], .int .i64 1] ⟨zzq ty32 zze, zzp, trivial⟩ fun u16 e17 => ?_))))
  rfl
 ·refine zyn 11 (x := zB (!(decide (0 ≤ n ∧ n ≤ 256)))) (zB false) (by rw [hs15]) (zza 12 (zI q) ?_ (hw := w1 3 false 11))
  refine zza 13 (zB (decide (q < 1))) ?_ (hw := w1 3 false 11)
  refine zza 14 (zB (decide (q < 1))) ?_
  rcases Bool.eq_false_or_eq_true (decide (q < 1)) with hs18 | hs18
  ·refine zyn 15 (x := zB (decide (q < 1))) (zB true) (by rw [hs18]) ?_
   have qhs18 := of_decide_eq_true hs18
   refine zzm 16 (uw 7 false true 15) (zzm 17 (uw 7 false true 15) (zza 18 (zB true) (zza 19 (zB true) (zzm 20 (uw 11 false true 19) (zzm 21 (uw 11 false true 19) (zza 22 (zB true) (zza 23 (zB true) (zzm 24 (uw 15 false true 23) (zzm 25 (uw 15 false true 23) (zza 26 (zB true) (zzb ?_)))))))))))
   refine zyo xk (sq9 (zza 27 (.v (.agg #[.bool false, .slice none 0 0, .slice none 0 0, .bool false, .slice none 0 0, .slice none 0 0])) (zzi ⟨32, [.bool false, .slice none 0 0, .slice none 0 0, .bool false, .slice none 0 0, .slice none 0 0]⟩ ty32 ?_)))
   refine zza 7 (zI 1) (zzb (zzn (zzv (ret0 [.agg #[.bool false, .slice none 0 0, .slice none 0 0, .bool false, .slice none 0 0, .slice none 0 0], .int .i64 1] ⟨zzq ty32 zze, zzp, trivial⟩ fun u19 e20 => ?_))))
   rfl
  ·refine zyn 15 (x := zB (decide (q < 1))) (zB false) (by rw [hs18]) ?_
   have qhs18 := of_decide_eq_false hs18
   refine zza 16 (zI q) ?_ (hw := w1 7 false 15)
   refine zza 17 (zB (decide ((1000 : Int) < q))) ?_ (hw := w1 7 false 15)
   refine zza 18 (zB (decide ((1000 : Int) < q))) ?_
   rcases Bool.eq_false_or_eq_true (decide ((1000 : Int) < q)) with hs21 | hs21
   ·refine zyn 19 (x := zB (decide ((1000 : Int) < q))) (zB true) (by rw [hs21]) ?_
    have qhs21 := of_decide_eq_true hs21
    refine zzm 20 (uw 11 false true 19) (zzm 21 (uw 11 false true 19) (zza 22 (zB true) (zza 23 (zB true) (zzm 24 (uw 15 false true 23) (zzm 25 (uw 15 false true 23) (zza 26 (zB true) (zzb (zyo xk (sq9 (zza 27 (.v (.agg #[.bool false, .slice none 0 0, .slice none 0 0, .bool false, .slice none 0 0, .slice none 0 0])) (zzi ⟨32, [.bool false, .slice none 0 0, .slice none 0 0, .bool false, .slice none 0 0, .slice none 0 0]⟩ ty32 ?_)))))))))))
    refine zza 7 (zI 1) (zzb (zzn (zzv (ret0 [.agg #[.bool false, .slice none 0 0, .slice none 0 0, .bool false, .slice none 0 0, .slice none 0 0], .int .i64 1] ⟨zzq ty32 zze, zzp, trivial⟩ fun u22 e23 => ?_))))
    rfl
   ·refine zyn 19 (x := zB (decide ((1000 : Int) < q))) (zB false) (by rw [hs21]) ?_
    have qhs21 := of_decide_eq_false hs21
    refine zza 20 (zI p) ?_ (hw := w1 11 false 19)
    refine zza 21 (zB (decide (p < (-1000000)))) ?_ (hw := w1 11 false 19)
    refine zza 22 (zB (decide (p < (-1000000)))) ?_
    rcases Bool.eq_false_or_eq_true (decide (p < (-1000000))) with hs24 | hs24
    ·refine zyn 23 (x := zB (decide (p < (-1000000)))) (zB true) (by rw [hs24]) ?_
     have qhs24 := of_decide_eq_true hs24
     refine zzm 24 (uw 15 false true 23) (zzm 25 (uw 15 false true 23) (zza 26 (zB true) (zzb (zyo xk (sq9 (zza 27 (.v (.agg #[.bool false, .slice none 0 0, .slice none 0 0, .bool false, .slice none 0 0, .slice none 0 0])) (zzi ⟨32, [.bool false, .slice none 0 0, .slice none 0 0, .bool false, .slice none 0 0, .slice none 0 0]⟩ ty32 ?_)))))))
     refine zza 7 (zI 1) (zzb (zzn (zzv (ret0 [.agg #[.bool false, .slice none 0 0, .slice none 0 0, .bool false, .slice none 0 0, .slice none 0 0], .int .i64 1] ⟨zzq ty32 zze, zzp, trivial⟩ fun u25 e26 => ?_))))
     rfl
    ·refine zyn 23 (x := zB (decide (p < (-1000000)))) (zB false) (by rw [hs24]) ?_
     have qhs24 := of_decide_eq_false hs24
     refine zza 24 (zI p) ?_ (hw := w1 15 false 23)
     refine zza 25 (zB (decide ((1000000 : Int) < p))) ?_ (hw := w1 15 false 23)
     refine zza 26 (zB (decide ((1000000 : Int) < p))) (zzb (zzt (b := decide ((1000000 : Int) < p)) xk (fun hb27 => ?_) (fun hb27 => ?_)))
     ·replace hb27 : (decide ((1000000 : Int) < p)) = true := hb27
      have qhb27 := of_decide_eq_true hb27
      refine sq9 (zza 27 (.v (.agg #[.bool false, .slice none 0 0, .slice none 0 0, .bool false, .slice none 0 0, .slice none 0 0])) (zzi ⟨32, [.bool false, .slice none 0 0, .slice none 0 0, .bool false, .slice none 0 0, .slice none 0 0]⟩ ty32 ?_))
      refine zza 7 (zI 1) (zzb (zzn (zzv (ret0 [.agg #[.bool false, .slice none 0 0, .slice none 0 0, .bool false, .slice none 0 0, .slice none 0 0], .int .i64 1] ⟨zzq ty32 zze, zzp, trivial⟩ fun u28 e29 => ?_))))
      rfl
     ·replace hb27 : (decide ((1000000 : Int) < p)) = false := hb27
      have qhb27 := of_decide_eq_false hb27
      refine zzr (zzo ?_)
      refine zzd ?_
      exfalso; have h9hs15 := hs15; simp at h9hs15; have h9hs18 := hs18; simp at h9hs18; have h9hs21 := hs21; simp at h9hs21; have h9hs24 := hs24; simp at h9hs24; have h9hb27 := hb27; simp at h9hb27; omega
theorem k_SinPiB {u w : World} {p q n : Int} (d : Dat u w) (hbad : ¬ (0 ≤ n ∧ n ≤ 256 ∧ 1 ≤ q ∧ q ≤ 1000 ∧ -1000000 ≤ p ∧ p ≤ 1000000)) : Calls Tryz.prog 36 #[.int .i64 p, .int .i64 q, .int .i64 n] w (Post u w fun v u' => v = .tuple #[.agg #[.bool false, .slice none 0 0, .slice none 0 0, .bool false, .slice none 0 0, .slice none 0 0], .int .i64 1]) := by
 refine zzl (args := [.int .i64 p, .int .i64 q, .int .i64 n]) Tryz.func36 rfl Tryz.ntmps36 (rs := [.cell 6 32, .tmp 7]) Tryz.results36 (le_b rfl) (le_b rfl) d ?_
 refine sq9 (zzj 6 ⟨32, [.bool false, .slice none 0 0, .slice none 0 0, .bool false, .slice none 0 0, .slice none 0 0]⟩ (zza 7 (zI 0) (zzb (zzd (sq9 (zza 8 (zI n) (zzg 9 77 [.int .i64 n] ?_)))))))
 intro w11 u11 e11 d11
 have k14 := k_ePermitted (n := n) d11
 with_reducible refine zPm k14 ?_
 rintro _ u12 g13 rfl
 refine zza 10 (zB (!(decide (0 ≤ n ∧ n ≤ 256)))) ?_
 rcases Bool.eq_false_or_eq_true (!(decide (0 ≤ n ∧ n ≤ 256))) with hs15 | hs15
 ·refine zyn 11 (x := zB (!(decide (0 ≤ n ∧ n ≤ 256)))) (zB true) (by rw [hs15]) (zzm 12 (uw 3 false true 11) (zzm 13 (uw 3 false true 11) (zza 14 (zB true) (zza 15 (zB true) (zzm 16 (uw 7 false true 15) (zzm 17 (uw 7 false true 15) (zza 18 (zB true) (zza 19 (zB true) (zzm 20 (uw 11 false true 19) (zzm 21 (uw 11 false true 19) (zza 22 (zB true) ?_)))))))))))
  refine zza 23 (zB true) (zzm 24 (uw 15 false true 23) (zzm 25 (uw 15 false true 23) (zza 26 (zB true) (zzb (zyo xk (sq9 (zza 27 (.v (.agg #[.bool false, .slice none 0 0, .slice none 0 0, .bool false, .slice none 0 0, .slice none 0 0])) (zzi ⟨32, [.bool false, .slice none 0 0, .slice none 0 0, .bool false, .slice none 0 0, .slice none 0 0]⟩ ty32 ?_))))))))
  refine zza 7 (zI 1) (zzb (zzn (zzv (ret0 [.agg #[.bool false, .slice none 0 0, .slice none 0 0, .bool false, .slice none 0 0, .slice none 0 0], .int .i64 1] ⟨zzq ty32 zze, zzp, trivial⟩ fun u16 e17 => ?_))))
  rfl
 ·refine zyn 11 (x := zB (!(decide (0 ≤ n ∧ n ≤ 256)))) (zB false) (by rw [hs15]) (zza 12 (zI q) ?_ (hw := w1 3 false 11))
  refine zza 13 (zB (decide (q < 1))) ?_ (hw := w1 3 false 11)
  refine zza 14 (zB (decide (q < 1))) ?_
  rcases Bool.eq_false_or_eq_true (decide (q < 1)) with hs18 | hs18
  ·refine zyn 15 (x := zB (decide (q < 1))) (zB true) (by rw [hs18]) ?_
   have qhs18 := of_decide_eq_true hs18
   refine zzm 16 (uw 7 false true 15) (zzm 17 (uw 7 false true 15) (zza 18 (zB true) (zza 19 (zB true) (zzm 20 (uw 11 false true 19) (zzm 21 (uw 11 false true 19) (zza 22 (zB true) (zza 23 (zB true) (zzm 24 (uw 15 false true 23) (zzm 25 (uw 15 false true 23) (zza 26 (zB true) (zzb ?_)))))))))))
   refine zyo xk (sq9 (zza 27 (.v (.agg #[.bool false, .slice none 0 0, .slice none 0 0, .bool false, .slice none 0 0, .slice none 0 0])) (zzi ⟨32, [.bool false, .slice none 0 0, .slice none 0 0, .bool false, .slice none 0 0, .slice none 0 0]⟩ ty32 ?_)))
   refine zza 7 (zI 1) (zzb (zzn (zzv (ret0 [.agg #[.bool false, .slice none 0 0, .slice none 0 0, .bool false, .slice none 0 0, .slice none 0 0], .int .i64 1] ⟨zzq ty32 zze, zzp, trivial⟩ fun u19 e20 => ?_))))
   rfl
  ·refine zyn 15 (x := zB (decide (q < 1))) (zB false) (by rw [hs18]) ?_
   have qhs18 := of_decide_eq_false hs18
   refine zza 16 (zI q) ?_ (hw := w1 7 false 15)
   refine zza 17 (zB (decide ((1000 : Int) < q))) ?_ (hw := w1 7 false 15)
   refine zza 18 (zB (decide ((1000 : Int) < q))) ?_
   rcases Bool.eq_false_or_eq_true (decide ((1000 : Int) < q)) with hs21 | hs21
   ·refine zyn 19 (x := zB (decide ((1000 : Int) < q))) (zB true) (by rw [hs21]) ?_
    have qhs21 := of_decide_eq_true hs21
    refine zzm 20 (uw 11 false true 19) (zzm 21 (uw 11 false true 19) (zza 22 (zB true) (zza 23 (zB true) (zzm 24 (uw 15 false true 23) (zzm 25 (uw 15 false true 23) (zza 26 (zB true) (zzb (zyo xk (sq9 (zza 27 (.v (.agg #[.bool false, .slice none 0 0, .slice none 0 0, .bool false, .slice none 0 0, .slice none 0 0])) (zzi ⟨32, [.bool false, .slice none 0 0, .slice none 0 0, .bool false, .slice none 0 0, .slice none 0 0]⟩ ty32 ?_)))))))))))
    refine zza 7 (zI 1) (zzb (zzn (zzv (ret0 [.agg #[.bool false, .slice none 0 0, .slice none 0 0, .bool false, .slice none 0 0, .slice none 0 0], .int .i64 1] ⟨zzq ty32 zze, zzp, trivial⟩ fun u22 e23 => ?_))))
    rfl
   ·refine zyn 19 (x := zB (decide ((1000 : Int) < q))) (zB false) (by rw [hs21]) ?_
    have qhs21 := of_decide_eq_false hs21
    refine zza 20 (zI p) ?_ (hw := w1 11 false 19)
    refine zza 21 (zB (decide (p < (-1000000)))) ?_ (hw := w1 11 false 19)
    refine zza 22 (zB (decide (p < (-1000000)))) ?_
    rcases Bool.eq_false_or_eq_true (decide (p < (-1000000))) with hs24 | hs24
    ·refine zyn 23 (x := zB (decide (p < (-1000000)))) (zB true) (by rw [hs24]) ?_
     have qhs24 := of_decide_eq_true hs24
     refine zzm 24 (uw 15 false true 23) (zzm 25 (uw 15 false true 23) (zza 26 (zB true) (zzb (zyo xk (sq9 (zza 27 (.v (.agg #[.bool false, .slice none 0 0, .slice none 0 0, .bool false, .slice none 0 0, .slice none 0 0])) (zzi ⟨32, [.bool false, .slice none 0 0, .slice none 0 0, .bool false, .slice none 0 0, .slice none 0 0]⟩ ty32 ?_)))))))
     refine zza 7 (zI 1) (zzb (zzn (zzv (ret0 [.agg #[.bool false, .slice none 0 0, .slice none 0 0, .bool false, .slice none 0 0, .slice none 0 0], .int .i64 1] ⟨zzq ty32 zze, zzp, trivial⟩ fun u25 e26 => ?_))))
     rfl
    ·refine zyn 23 (x := zB (decide (p < (-1000000)))) (zB false) (by rw [hs24]) ?_
     have qhs24 := of_decide_eq_false hs24
     refine zza 24 (zI p) ?_ (hw := w1 15 false 23)
     refine zza 25 (zB (decide ((1000000 : Int) < p))) ?_ (hw := w1 15 false 23)
     refine zza 26 (zB (decide ((1000000 : Int) < p))) (zzb (zzt (b := decide ((1000000 : Int) < p)) xk (fun hb27 => ?_) (fun hb27 => ?_)))
     ·replace hb27 : (decide ((1000000 : Int) < p)) = true := hb27
      have qhb27 := of_decide_eq_true hb27
      refine sq9 (zza 27 (.v (.agg #[.bool false, .slice none 0 0, .slice none 0 0, .bool false, .slice none 0 0, .slice none 0 0])) (zzi ⟨32, [.bool false, .slice none 0 0, .slice none 0 0, .bool false, .slice none 0 0, .slice none 0 0]⟩ ty32 ?_))
      refine zza 7 (zI 1) (zzb (zzn (zzv (ret0 [.agg #[.bool false, .slice none 0 0, .slice none 0 0, .bool false, .slice none 0 0, .slice none 0 0], .int .i64 1] ⟨zzq ty32 zze, zzp, trivial⟩ fun u28 e29 => ?_))))
      rfl
     ·replace hb27 : (decide ((1000000 : Int) < p)) = false := hb27
      have qhb27 := of_decide_eq_false hb27
      refine zzr (zzo ?_)
      refine zzd ?_
      exfalso; have h9hs15 := hs15; simp at h9hs15; have h9hs18 := hs18; simp at h9hs18; have h9hs21 := hs21; simp at h9hs21; have h9hs24 := hs24; simp at h9hs24; have h9hb27 := hb27; simp at h9hb27; omega
end Go.Proofs.YtbolmkfphieogaaGreat
namespace Go.Proofs.YtbolmkfphieogaaGreat
set_option linter.unusedVariables false
namespace Nt
def irt (n : Nat) : Nat → Nat
 | 0 => 0
 | N + 1 => if (irt n N + 1) ^ n ≤ N + 1 then irt n N + 1 else irt n N
theorem irt_ok {n : Nat} (hn : 1 ≤ n) : ∀ N, irt n N ^ n ≤ N ∧ N < (irt n N + 1) ^ n
 | 0 => ⟨by show 0 ^ n ≤ 0; rw [Nat.zero_pow xq]; exact Nat.le_refl _, Nat.pow_pos xq⟩
 | N + 1 => by
  obtain ⟨h1, h2⟩ := irt_ok hn N
  have h3 := Nat.pow_lt_pow_left (show irt n N + 1 < irt n N + 1 + 1 by omega) (show n ≠ 0 by omega)
  unfold irt
  split
  ·exact ⟨by assumption, by omega⟩
  ·exact ⟨by omega, by omega⟩
theorem irt_uniq {n N r : Nat} (hn : 1 ≤ n) (h1 : r ^ n ≤ N) (h2 : N < (r + 1) ^ n) : r = irt n N := by
 obtain ⟨k1, k2⟩ := irt_ok hn N
 have a : r < irt n N + 1 := by
  rcases Nat.lt_or_ge r (irt n N + 1) with h | h
  ·exact h
  ·have := Nat.pow_le_pow_left h n; omega
 have b : irt n N < r + 1 := by
  rcases Nat.lt_or_ge (irt n N) (r + 1) with h | h
  ·exact h
  ·have := Nat.pow_le_pow_left h n; omega
 omega
theorem bern (r s : Int) (hr : 0 ≤ r) (hs : 0 ≤ s) : ∀ n : Nat, r ^ n * ((n + 1 : Nat) * s - n * r) ≤ s ^ (n + 1) := by
 intro n
 induction n with
 | zero => simp; rw [Int.pow_succ, Int.pow_zero, Int.one_mul]; exact Int.le_refl _
 | succ n ih =>
  have h1 := Int.mul_le_mul_of_nonneg_left ih hs
  have h2 : 0 ≤ (n + 1 : Int) * r ^ n * ((s - r) * (s - r)) := by
   refine Int.mul_nonneg (Int.mul_nonneg xq (Int.pow_nonneg hr)) ?_
   rcases Int.le_total 0 (s - r) with h | h
   ·exact Int.mul_nonneg h h
   ·exact Int.mul_nonneg_of_nonpos_of_nonpos h h
  have e1 : s ^ (n + 1 + 1) = s * s ^ (n + 1) := by rw [Int.pow_succ, Int.mul_comm]
  have e2 : r ^ (n + 1) = r ^ n * r := Int.pow_succ ..
  rw [e1, e2]
  refine Int.le_trans ?_ h1
  have e3 : s * (r ^ n * (((n + 1 : Nat) : Int) * s - (n : Int) * r)) - r ^ n * r * (((n + 1 + 1 : Nat) : Int) * s - ((n + 1 : Nat) : Int) * r) = (n + 1 : Int) * r ^ n * ((s - r) * (s - r)) := by
   rw [Int.natCast_add, Int.natCast_add, Int.natCast_add]
   generalize r ^ n = R at *
   grind
  omega
theorem newton_ge {n N r s : Nat} (hr : 0 < r) (hs : s ^ (n + 1) ≤ N) : s ≤ (n * r + N / r ^ n) / (n + 1) := by
 refine (Nat.le_div_iff_mul_le xq).2 ?_
 have hb := bern (r : Int) (s : Int) xq xq n
 rcases Nat.lt_or_ge (n * r) ((n + 1) * s) with h | h
 ·have h1 : (n + 1) * s - n * r ≤ N / r ^ n := by
   refine (Nat.le_div_iff_mul_le (Nat.pow_pos hr)).2 (Nat.le_trans ?_ hs)
   have h2 : ((((n + 1) * s - n * r) * r ^ n : Nat) : Int) ≤ ((s ^ (n + 1) : Nat) : Int) := by
    rw [Int.natCast_mul, Int.natCast_sub (Nat.le_of_lt h), Int.natCast_mul, Int.natCast_mul, Int.natCast_pow, Int.natCast_pow, Int.mul_comm]
    exact hb
   exact Int.ofNat_le.1 h2
  have e := Nat.mul_comm s (n + 1)
  rw [e]; omega
 ·have e := Nat.mul_comm s (n + 1)
  rw [e]
  exact Nat.le_trans h (Nat.le_add_right _ _)
theorem newton_end {n N r : Nat} (h : r ≤ (n * r + N / r ^ n) / (n + 1)) : r ^ (n + 1) ≤ N := by
 have h1 := (Nat.le_div_iff_mul_le xq).1 h
 rw [Nat.mul_add, Nat.mul_one, Nat.mul_comm r n] at h1
 have h2 : r ≤ N / r ^ n := by omega
 rcases Nat.eq_zero_or_pos r with h0 | h0
 ·rw [h0, Nat.zero_pow xq]; omega
 ·have := (Nat.le_div_iff_mul_le (Nat.pow_pos h0)).1 h2
  rw [Nat.pow_succ, Nat.mul_comm]; exact this
theorem newton_done {n N r : Nat} (hr : irt (n + 1) N ≤ r) (h : r ≤ (n * r + N / r ^ n) / (n + 1)) : r = irt (n + 1) N := by
 refine irt_uniq xq (newton_end h) ?_
 have := (irt_ok (n := n + 1) xq N).2
 exact Nat.lt_of_lt_of_le this (Nat.pow_le_pow_left xq _)
theorem newton_start {n N B : Nat} (hn : 1 ≤ n) (h : N < 2 ^ B) : irt n N ≤ 2 ^ ((B + n - 1) / n) := by
 rcases Nat.lt_or_ge (2 ^ ((B + n - 1) / n)) (irt n N) with h1 | h1
 ·exfalso
  have h2 := (irt_ok hn N).1
  have h3 := Nat.pow_le_pow_left (Nat.le_of_lt h1) n
  rw [← Nat.pow_mul] at h3
  have h4 : B ≤ (B + n - 1) / n * n := by
   have h5 := Nat.div_add_mod (B + n - 1) n
   have h6 := Nat.mod_lt (B + n - 1) (show 0 < n by omega)
   rw [Nat.mul_comm] at h5; omega
  have h7 := Nat.pow_le_pow_right (show 0 < 2 by decide) h4
  omega
 ·exact h1
theorem nw_ge {n N r : Nat} (hn : 1 ≤ n) (hr : 0 < r) : irt n N ≤ (r * (n - 1) + N / r ^ (n - 1)) / n := by
 obtain ⟨m, rfl⟩ : ∃ m, n = m + 1 := ⟨n - 1, by omega⟩
 have := newton_ge (n := m) hr (irt_ok (n := m + 1) xq N).1
 rw [Nat.mul_comm r]; exact this
theorem nw_done {n N r : Nat} (hn : 1 ≤ n) (h1 : irt n N ≤ r) (h : r ≤ (r * (n - 1) + N / r ^ (n - 1)) / n) : r = irt n N := by
 obtain ⟨m, rfl⟩ : ∃ m, n = m + 1 := ⟨n - 1, by omega⟩
 rw [Nat.mul_comm r] at h
 exact newton_done h1 h
theorem irt_pos {n N : Nat} (hn : 1 ≤ n) (h : 1 ≤ N) : 1 ≤ irt n N := by
 rcases Nat.eq_zero_or_pos (irt n N) with h0 | h0
 ·have := (irt_ok hn N).2
  rw [h0, Nat.zero_add, Nat.one_pow] at this
  omega
 ·exact h0
theorem cmp_geN (a b : Nat) : decide ((0 : Int) ≤ cmpS (a : Int) (b : Int)) = decide (b ≤ a) := by
 rw [decide_eq_decide]
 rcases cmp_range (a : Int) (b : Int) with ⟨e, h⟩ | ⟨e, h⟩ | ⟨e, h⟩ <;> rw [e] <;> omega
end Nt
end Go.Proofs.YtbolmkfphieogaaGreat
namespace Go.Proofs.YtbolmkfphieogaaGreat
open Go.RowKit
set_option linter.unusedVariables false
namespace Nt
theorem dl_pow (A : Nat) : ∀ n, dl (A ^ n) ≤ n * dl A + 1
 | 0 => by rw [Nat.pow_zero, dl_one]; omega
 | n + 1 => by
  have h1 := dl_pow A n
  have h2 := dl_mul (A ^ n) A
  rw [Nat.pow_succ, Nat.add_mul]; omega
theorem bitl_dl {N K : Nat} (h : dl N ≤ K) : bitl N ≤ 32 * K := by
 have h1 := dl_lt (x := N)
 rcases Nat.eq_zero_or_pos N with h0 | h0
 ·subst h0
  have : bitl 0 = 0 := rfl
  omega
 ·have h2 := bitl_le h0
  have h3 : pw (dl N) = ((2 ^ (32 * dl N) : Nat) : Int) := by
   generalize dl N = k
   induction k with
   | zero => rfl
   | succ k ih =>
    show 4294967296 * pw k = _
    rw [ih, show 32 * (k + 1) = 32 * k + 32 by omega, Nat.pow_add, Int.natCast_mul, Int.mul_comm]
    rfl
  rw [h3] at h1
  have h4 : N < 2 ^ (32 * dl N) := Int.ofNat_lt.1 h1
  have h5 : 2 ^ (bitl N - 1) < 2 ^ (32 * dl N) := by omega
  have h6 := (Nat.pow_lt_pow_iff_right (show 1 < 2 by decide)).1 h5
  omega
end Nt
section
variable {u u' w w' : World} {x y : Sl} {N M K L s : Nat}
theorem k_natCut (d : Dat u w) (h : NatV u x N K) (hK : K ≤ 500000000) : Calls Tryz.prog 149 #[x.v] w (Post u w fun v u' => ∃ y : Sl, v = y.v ∧ NatN u' y N K) := by
 have hs := h.size
 obtain ⟨a, a1, a2, a3, a4⟩ := h
 refine (zwa _ _ _ _ _ (a1.ext d.ext)).mono fun e w' ⟨he, hw⟩ => ?_
 subst hw
 have hst := Nt.zxl a2
 have e1 : (Nt.val a).toNat = N := by rw [a4]; exact Int.toNat_natCast N
 rw [e1] at hst
 have hle : (Nt.strip a).length ≤ x.n := by rw [← a1.1]; exact Nt.zyh a
 have hx := a1.upto (m := (Nt.strip a).length) hle
 rw [← Nt.strip_take, hst] at hx
 rw [hst] at he
 exact ⟨_, over u w, he, over_dat d (Below.refl _ _), Below.refl _ _, over_grow (by rw [d.size]; exact Nat.le_refl _), ⟨x.a, (Nt.digits N).length, x.c⟩, rfl, ⟨rfl, hx.ext (over_grow (by rw [d.size]; exact Nat.le_refl _)).ext, hs⟩⟩
theorem k_natRaise (d : Dat u w) (h1 : NatV u x N K) (hK : K ≤ 500000000) (hs : s ≤ 65536) : Calls Tryz.prog 151 #[x.v, .int .i64 (s : Int)] w (Post u w fun v u' => ∃ x : Sl, v = x.v ∧ NatN u' x (N * 2 ^ s) (K + s / 32 + 1)) := by
 have hs1 := h1.size
 obtain ⟨a, a1, a2, a3, a4⟩ := h1
 refine (raise_any _ _ _ _ _ _ (a1.ext d.ext) a2 xq hs).mono fun e w' ⟨A', n', c', h⟩ => ?_
 rw [a4] at h
 exact post_nat d (nat_fits h (by simp [Int.natCast_mul, Int.natCast_pow])) (Nt.dl_shift hs1)
theorem k_natBitLen (d : Dat u w) (h : NatV u x N K) (hK : K ≤ 500000000) : Calls Tryz.prog 150 #[x.v] w (Post u w fun v _ => v = .int .i64 ((Nt.bitl N : Nat) : Int)) := by
 obtain ⟨a, a1, a2, a3, a4⟩ := h
 refine (BitLen_any _ _ _ _ _ (a1.ext d.ext) a2 xq).mono fun e w' ⟨he, hw⟩ => ?_
 subst hw
 rw [a4, Int.toNat_natCast] at he
 exact post_below d he (Below.refl _ _)
theorem k_natDivide (d : Dat u w) (h1 : NatN u x N K) (h2 : NatN u y M L) (hM : 0 < M) (hK : K ≤ 500000000) (hL : L ≤ 500000000) : Calls Tryz.prog 153 #[x.v, y.v] w (Post u w fun v u' => ∃ x y : Sl, v = .tuple #[x.v, y.v] ∧ NatN u' x (N / M) K ∧ NatN u' y (N % M) L) := by
 have hp := h2.pos.2 hM
 obtain ⟨a1, a2, a3⟩ := h1
 obtain ⟨b1, b2, b3⟩ := h2
 refine (divide_any _ _ _ _ _ _ _ _ _ (a2.ext d.ext) (b2.ext d.ext) (Nt.zyj _) (Nt.zyj _) (Nt.zxg _) (Nt.zxg _) xq hp).mono fun e w' h => ?_
 rw [Nt.zyi, Nt.zyi] at h
 obtain ⟨A1, n1, c1, A2, n2, c2, rfl, f, g, hb⟩ := h
 rw [← Int.natCast_ediv, Int.toNat_natCast] at f
 rw [← Int.natCast_emod, Int.toNat_natCast] at g
 have hs : u.heap.size ≤ w'.heap.size := by rw [d.size]; exact hb.size
 exact ⟨_, over u w', rfl, over_dat d hb, hb, over_grow hs, ⟨A1, n1, c1⟩, ⟨A2, n2, c2⟩, rfl, over_nat f d.size hs (Nat.le_trans (Nt.dl_mono (Nat.div_le_self _ _)) a3), over_nat g d.size hs (Nat.le_trans (Nt.dl_mono (Nat.le_of_lt (Nat.mod_lt _ hM))) b3)⟩
end
theorem digit_data {u : World} {b D : Nat} (h : u.heap[b]? = some (.cells #[.int .u32 (D : Int)] 104 (0, 0))) (hD : D < 4294967296) : NatV u ⟨some ⟨b, 0, none⟩, 1, 1⟩ D 1 := by
 have hk : KBlk .u32 u b 104 [(D : Int)] := h
 exact ⟨[(D : Int)], hk.slr_all rfl (Nat.le_refl _) (show 1 ≤ maxLen by decide), Nt.Dig.cons xq Nt.Dig.nil, Nat.le_refl _, by simp [Nt.val]⟩
theorem digit_dataN {u : World} {b D : Nat} (h : u.heap[b]? = some (.cells #[.int .u32 (D : Int)] 104 (0, 0))) (hD : D < 4294967296) (h1 : 1 ≤ D) : NatN u ⟨some ⟨b, 0, none⟩, 1, 1⟩ D 1 := by
 have hk : KBlk .u32 u b 104 [(D : Int)] := h
 have e : Nt.digits D = [(D : Int)] := by
  have h1 : Nt.strip [(D : Int)] = [(D : Int)] := by simp [Nt.strip]; omega
  have h2 := Nt.zxl (l := [(D : Int)]) (Nt.Dig.cons xq Nt.Dig.nil)
  rw [h1] at h2
  have h3 : (Nt.val [(D : Int)]).toNat = D := by simp [Nt.val]
  rw [h3] at h2
  exact h2.symm
 have e2 : dl D = 1 := by unfold dl; rw [e]; rfl
 exact ⟨e2.symm, by rw [e]; exact hk.slr_all rfl (Nat.le_refl _) (show 1 ≤ maxLen by decide), by rw [e2]; exact Nat.le_refl _⟩
theorem NatN.fit {u : World} {x : Sl} {N K L : Nat} (h : NatN u x N K) (k : dl N ≤ L) : NatN u x N L := ⟨h.1, h.2.1, k⟩
namespace Nt
def PwI (A n m a r : Nat) : Prop := r * a ^ m = A ^ n ∧ (1 ≤ A → 1 ≤ a ∧ 1 ≤ r) ∧ (A = 0 → a = 0 ∧ r ≤ 1)
theorem PwI.start (A n : Nat) : PwI A n n A 1 := ⟨Nat.one_mul _, fun h => ⟨h, Nat.le_refl _⟩, fun h => ⟨h, Nat.le_refl _⟩⟩
theorem PwI.next {A n m a r a' r' : Nat} (h : PwI A n m a r) (hm : 1 ≤ m) (hr : m % 2 = 1 ∧ r' = r * a ∨ ¬ m % 2 = 1 ∧ r' = r) (ha : 1 ≤ m / 2 ∧ a' = a * a ∨ ¬ 1 ≤ m / 2 ∧ a' = a) : PwI A n (m / 2) a' r' := by
 obtain ⟨h1, h2, h3⟩ := h
 have hd := Nat.div_add_mod m 2
 refine ⟨?_, fun hA => ?_, fun hA => ?_⟩
 ·rw [← h1]
  have e : a' ^ (m / 2) = a ^ (2 * (m / 2)) := by
   rcases ha with ⟨_, rfl⟩ | ⟨h, rfl⟩
   ·rw [← Nat.pow_two, ← Nat.pow_mul]
   ·have : m / 2 = 0 := by omega
    rw [this]
  rw [e]
  rcases hr with ⟨ho, rfl⟩ | ⟨ho, rfl⟩
  ·have : m = 2 * (m / 2) + 1 := by omega
   conv => rhs; rw [this, Nat.pow_succ]
   rw [Nat.mul_assoc, Nat.mul_comm a]
  ·have : 2 * (m / 2) = m := by omega
   rw [this]
 ·obtain ⟨k1, k2⟩ := h2 hA
  have k3 := Nat.mul_le_mul k1 k1
  have k4 := Nat.mul_le_mul k2 k1
  rcases hr with ⟨_, rfl⟩ | ⟨_, rfl⟩ <;> rcases ha with ⟨_, rfl⟩ | ⟨_, rfl⟩ <;> omega
 ·obtain ⟨k1, k2⟩ := h3 hA
  subst k1
  rcases hr with ⟨_, rfl⟩ | ⟨_, rfl⟩ <;> rcases ha with ⟨_, rfl⟩ | ⟨_, rfl⟩ <;> simp <;> omega
theorem PwI.bd {A n m a r K : Nat} (h : PwI A n m a r) (hK : dl A ≤ K) : dl r ≤ n * K + 1 ∧ (1 ≤ m → dl a ≤ n * K + 1) := by
 obtain ⟨h1, h2, h3⟩ := h
 have hp := dl_pow A n
 have hk := Nat.mul_le_mul_left n hK
 rcases Nat.eq_zero_or_pos A with h0 | h0
 ·obtain ⟨k1, k2⟩ := h3 h0
  have := dl_mono k2
  rw [dl_one] at this
  subst k1
  rw [dl_zero]
  omega
 ·obtain ⟨k1, k2⟩ := h2 h0
  have e1 : r ≤ A ^ n := by
   rw [← h1]; exact Nat.le_mul_of_pos_right _ (Nat.pow_pos k1)
  have e2 : 1 ≤ m → a ≤ A ^ n := fun hm => by
   rw [← h1]
   refine Nat.le_trans ?_ (Nat.le_mul_of_pos_left _ k2)
   have := Nat.pow_le_pow_right k1 hm
   rwa [Nat.pow_one] at this
  have f1 := dl_mono e1
  exact ⟨by omega, fun hm => by have := dl_mono (e2 hm); omega⟩
theorem PwI.done {A n a r : Nat} (h : PwI A n 0 a r) : r = A ^ n := by have := h.1; rwa [Nat.pow_zero, Nat.mul_one] at this
end Nt
set_option maxHeartbeats 1000000 in
theorem k_natPower {u w : World} {x : Sl} {A n K : Nat} (d : Dat u w) (hx : NatN u x A K) (hn : n ≤ 64) (hK : K ≤ 1000000) : Calls Tryz.prog 154 #[x.v, .int .i64 (n : Int)] w (Post u w fun v u' => ∃ y : Sl, v = y.v ∧ NatN u' y (A ^ n) (n * K + K + 1)) := by
 have hA1 : dl A ≤ K := hx.2.2
 have hnK : n * K ≤ 64 * 1000000 := Nat.mul_le_mul hn hK
 refine zzl (args := [.slice x.a x.n x.c, .int .i64 n]) Tryz.func154 rfl Tryz.ntmps154 (rs := [.tmp 4]) Tryz.results154 (le_b rfl) (le_b rfl) d ?_
 refine sq9 (zza 4 (.v (.slice none 0 0)) (zzb (sq9 (zxp 6 ⟨104, [.int .u32 1]⟩ 1 (fun b11 u12 e13 h14 => ?_)))))
 refine zza 5 (.v (.slice (some ⟨b11, 0, none⟩) 1 1)) (zzb (zzd (zzs (zyl (I := fun m15 S' u' => ∃ (m : Nat) (x1 : Sl) (y1 : Sl) (a : Nat) (r : Nat), (m15 = m) ∧ (Nt.PwI A n m a r) ∧ (m ≤ n) ∧ (S' = St.of 23 [(0, .v (.slice x1.a x1.n x1.c)), (1, zI m), (5, .v (.slice y1.a y1.n y1.c))] []) ∧ (Ext u12 u') ∧ (NatN u' x1 a (n * K + K + 1)) ∧ (NatN u' y1 r (n * K + K + 1))) (fun m S u1 u2 e h => by obtain ⟨m, x1, y1, a, r, hm, p0, p1, hS, hE, f0, f1⟩ := h; exact ⟨m, x1, y1, a, r, hm, p0, p1, hS, hE.trans e, f0.ext e, f1.ext e⟩) _ yq ⟨n, x, (⟨some ⟨b11, 0, none⟩, 1, 1⟩ : Sl), A, 1, rfl, (Nt.PwI.start A n), xq, rfl, (Ext.refl _), (NatN.fit (hx.ext e13) xq), (NatN.more (one_data h14) xq)⟩ ?_))))
 rintro m15 _ u15 ⟨m, x1, y1, a, r, hm15, hI, hmn, rfl, e15, f0, f1⟩
 refine zzd (sq9 (zza 7 (zI m) (zza 8 (zB (decide ((0 : Int) < (m : Int)))) (zzb (zzt (b := decide ((0 : Int) < (m : Int))) xk (fun hb16 => ?_) (fun hb16 => ?_))))))
 ·replace hb16 : (decide ((0 : Int) < (m : Int))) = true := hb16
  have qhb16 := of_decide_eq_true hb16
  refine zzr (zzo ?_)
  refine zzs (zzd (sq9 (zza 9 (zI m) (zza 10 (zI (Int.tmod (m : Int) 2)) (zza 11 (zB ((Int.tmod (m : Int) 2) == 1)) (zzb (zzt (b := (Int.tmod (m : Int) 2) == 1) xk (fun hb17 => ?_) (fun hb17 => ?_))))))))
  ·replace hb17 : ((Int.tmod (m : Int) 2) == 1) = true := hb17
   have ehb17 : Int.tmod (m : Int) 2 = (m : Int) % 2 := Int.tmod_eq_emod_of_nonneg xq
   have q2hb17 :  m % 2 = 1 := by have h9 := hb17; rw [ehb17] at h9; simp at h9; omega
   refine zzf (zza 12 (.v y1.v) (zza 13 (.v x1.v) (zzg 14 156 [y1.v, x1.v] ?_)))
   intro w18 u18 e18 d18
   have k23 := k_natMul d18 (f1.ext e18).raw (f0.ext e18).raw xq xq
   with_reducible refine zPm k23 ?_
   rintro _ u21 g22 ⟨x19, rfl, h20⟩
   refine zza 5 (.v x19.v) (zzb (sq9 (zza 15 (zI m) (sy_quo 16 (n := (m : Int)) (m := 2) ((m / 2 : Nat) : Int) xw (by rw [Int.tdiv_eq_ediv_of_nonneg xq]; exact (IntWalk.i64_in _ xq).trans xq) ?_))))
   refine zza 1 (zI (m / 2 : Nat)) (zzb (sq9 (zza 17 (zI (m / 2 : Nat)) (zza 18 (zB (decide ((0 : Int) < ((m / 2 : Nat) : Int)))) (zzb (zzt (b := decide ((0 : Int) < ((m / 2 : Nat) : Int))) xk (fun hb24 => ?_) (fun hb24 => ?_)))))))
   ·replace hb24 : (decide ((0 : Int) < ((m / 2 : Nat) : Int))) = true := hb24
    have qhb24 := of_decide_eq_true hb24
    refine zzf (zza 19 (.v x1.v) (zza 20 (.v x1.v) (zzg 21 156 [x1.v, x1.v] ?_)))
    intro w25 u25 e25 d25
    have k30 := k_natMul d25 (f0.ext (e18.trans (g22.ext.trans e25))).raw (f0.ext (e18.trans (g22.ext.trans e25))).raw xq xq
    with_reducible refine zPm k30 ?_
    rintro _ u28 g29 ⟨x26, rfl, h27⟩
    refine zza 0 (.v x26.v) (zzw ?_)
    have hnx := hI.next xq (.inl ⟨q2hb17, rfl⟩) (.inl ⟨by have h9 := of_decide_eq_true hb24; omega, rfl⟩)
    have hbd := hnx.bd hA1
    have hbd1 := hbd.1
    refine ⟨_, ?_, _, by exact zzu _ _ _, m / 2, x26, x19, (a * a), (r * a), rfl, hnx, xq, rfl, (e15.trans (e18.trans (g22.ext.trans (e25.trans g29.ext)))), (NatN.fit h27 (by have h9 := hbd.2 (by have h9 := of_decide_eq_true hb24; omega); omega)), (NatN.fit (h20.ext (e25.trans g29.ext)) xq)⟩
    omega
   ·replace hb24 : (decide ((0 : Int) < ((m / 2 : Nat) : Int))) = false := hb24
    have qhb24 := of_decide_eq_false hb24
    refine zzr ?_
    have hnx := hI.next xq (.inl ⟨q2hb17, rfl⟩) (.inr ⟨by have h9 := of_decide_eq_false hb24; omega, rfl⟩)
    have hbd := hnx.bd hA1
    have hbd1 := hbd.1
    refine ⟨_, ?_, _, by exact zzu _ _ _, m / 2, x1, x19, a, (r * a), rfl, hnx, xq, rfl, (e15.trans (e18.trans g22.ext)), (f0.ext (e18.trans g22.ext)), (NatN.fit h20 xq)⟩
    omega
  ·replace hb17 : ((Int.tmod (m : Int) 2) == 1) = false := hb17
   have ehb17 : Int.tmod (m : Int) 2 = (m : Int) % 2 := Int.tmod_eq_emod_of_nonneg xq
   have q2hb17 : ¬ m % 2 = 1 := by have h9 := hb17; rw [ehb17] at h9; simp at h9; omega
   refine zzr (zzo ?_)
   refine sq9 (zza 15 (zI m) (sy_quo 16 (n := (m : Int)) (m := 2) ((m / 2 : Nat) : Int) xw (by rw [Int.tdiv_eq_ediv_of_nonneg xq]; exact (IntWalk.i64_in _ xq).trans xq) ?_))
   refine zza 1 (zI (m / 2 : Nat)) (zzb (sq9 (zza 17 (zI (m / 2 : Nat)) (zza 18 (zB (decide ((0 : Int) < ((m / 2 : Nat) : Int)))) (zzb (zzt (b := decide ((0 : Int) < ((m / 2 : Nat) : Int))) xk (fun hb31 => ?_) (fun hb31 => ?_)))))))
   ·replace hb31 : (decide ((0 : Int) < ((m / 2 : Nat) : Int))) = true := hb31
    have qhb31 := of_decide_eq_true hb31
    refine zzf (zza 19 (.v x1.v) (zza 20 (.v x1.v) (zzg 21 156 [x1.v, x1.v] ?_)))
    intro w32 u32 e32 d32
    have k37 := k_natMul d32 (f0.ext e32).raw (f0.ext e32).raw xq xq
    with_reducible refine zPm k37 ?_
    rintro _ u35 g36 ⟨x33, rfl, h34⟩
    refine zza 0 (.v x33.v) (zzw ?_)
    have hnx := hI.next xq (.inr ⟨q2hb17, rfl⟩) (.inl ⟨by have h9 := of_decide_eq_true hb31; omega, rfl⟩)
    have hbd := hnx.bd hA1
    have hbd1 := hbd.1
    refine ⟨_, ?_, _, by exact zzu _ _ _, m / 2, x33, y1, (a * a), r, rfl, hnx, xq, rfl, (e15.trans (e32.trans g36.ext)), (NatN.fit h34 (by have h9 := hbd.2 (by have h9 := of_decide_eq_true hb31; omega); omega)), (NatN.fit (f1.ext (e32.trans g36.ext)) xq)⟩
    omega
   ·replace hb31 : (decide ((0 : Int) < ((m / 2 : Nat) : Int))) = false := hb31
    have qhb31 := of_decide_eq_false hb31
    refine zzr ?_
    have hnx := hI.next xq (.inr ⟨q2hb17, rfl⟩) (.inr ⟨by have h9 := of_decide_eq_false hb31; omega, rfl⟩)
    have hbd := hnx.bd hA1
    have hbd1 := hbd.1
    refine ⟨_, ?_, _, by exact zzu _ _ _, m / 2, x1, y1, a, r, rfl, hnx, xq, rfl, e15, f0, (NatN.fit f1 xq)⟩
    omega
 ·replace hb16 : (decide ((0 : Int) < (m : Int))) = false := hb16
  have qhb16 := of_decide_eq_false hb16
  refine zyb (zzo (sq9 (zza 22 (.v y1.v) (zza 4 (.v y1.v) (zzb (zzn (ret0 [.slice y1.a y1.n y1.c] ⟨zzp, trivial⟩ fun u38 e39 => ?_)))))))
  have hm0 : m = 0 := by have h9 := of_decide_eq_false hb16; omega
  subst hm0
  have hd := hI.done
  subst hd
  exact ⟨y1, rfl, (f1.ext e39)⟩
set_option maxHeartbeats 2000000 in
theorem k_natRoot {u w : World} {x : Sl} {N n K : Nat} (d : Dat u w) (hx : NatV u x N K) (hn1 : 1 ≤ n) (hn : n ≤ 64) (hK : K ≤ 1000) : Calls Tryz.prog 81 #[x.v, .int .i64 (n : Int)] w (Post u w fun v u' => ∃ y : Sl, v = .tuple #[y.v, .int .i64 0] ∧ NatN u' y (Nt.irt n N) (K + 3)) := by
 have hB : Nt.bitl N ≤ 32 * K := Nt.bitl_dl hx.size
 have hdv := Nat.div_le_self (Nt.bitl N + n - 1) n
 obtain ⟨s, hs⟩ : ∃ s, (Nt.bitl N + n - 1) / n = s := ⟨_, rfl⟩
 rw [hs] at hdv
 have hnK : (n - 1) * (K + 3) ≤ 64 * 1003 := Nat.mul_le_mul xq xq
 refine zzl (args := [.slice x.a x.n x.c, .int .i64 n]) Tryz.func81 rfl Tryz.ntmps81 (rs := [.tmp 4, .tmp 5]) Tryz.results81 (le_b rfl) (le_b rfl) d ?_
 refine sq9 (zza 4 (.v (.slice none 0 0)) (zza 5 (zI 0) (zzb (zzd (sq9 (zza 12 (zI n) (zza 13 (zB (decide ((n : Int) < 1))) (zyn 14 (x := zB (decide ((n : Int) < 1))) (zB false) (by rw [show (decide ((n : Int) < 1)) = false from decide_eq_false xq]) (zza 15 (zI n) ?_ (hw := w1 2 false 14))))))))))
 refine zza 16 (zB (decide ((64 : Int) < (n : Int)))) ?_ (hw := w1 2 false 14)
 refine zza 17 (zB (decide ((64 : Int) < (n : Int)))) (zzb (zzt (b := decide ((64 : Int) < (n : Int))) xk (fun hb => ?_) (fun hb => ?_)))
 ·exact absurd hb (by rw [show (decide ((64 : Int) < (n : Int))) = false from decide_eq_false xq]; decide)
 ·clear hb
  refine zzr (zzo ?_)
  refine sq9 (zza 18 (.v x.v) (zzg 19 149 [x.v] ?_))
  intro w12 u12 e12 d12
  have k17 := k_natCut d12 (hx.ext e12) xq
  with_reducible refine zPm k17 ?_
  rintro _ u15 g16 ⟨x13, rfl, h14⟩
  refine zza 6 (.v x13.v) (zzb (zzd (sq9 (zza 20 (.v x13.v) (zza 21 (zI x13.n) (zza 22 (zB ((x13.n : Int) == 0)) (zzb (zzt (b := (x13.n : Int) == 0) xk (fun hb18 => ?_) (fun hb18 => ?_)))))))))
  ·replace hb18 : ((x13.n : Int) == 0) = true := hb18
   have qhb18 : (x13.n : Int) = 0 := by simpa using hb18
   have hz0 : N = 0 := by have h9 := hb18; simp at h9; have h8 := h14.pos; omega
   refine sq9 (zza 4 (.v (.slice none 0 0)) (zza 5 (zI 0) (zzb (zzn (zzv (ret0 [.slice none 0 0, .int .i64 0] ⟨zzp, zzp, trivial⟩ fun u19 e20 => ?_))))))
   subst hz0
   exact ⟨⟨none, 0, 0⟩, rfl, nat_nilN _ _⟩
  ·replace hb18 : ((x13.n : Int) == 0) = false := hb18
   have qhb18 : ¬ ((x13.n : Int) = 0) := by simpa using hb18
   have hNp : 1 ≤ N := by have h9 := hb18; simp at h9; have h8 := h14.pos; omega
   refine zzr (zzo ?_)
   refine sq9 (zxp 23 ⟨104, [.int .u32 1]⟩ 1 (fun b21 u22 e23 h24 => ?_))
   refine zza 24 (.v x13.v) (zzg 25 150 [x13.v] ?_)
   intro w25 u25 e25 d25
   have k28 := k_natBitLen d25 (h14.ext (e23.trans e25)).raw xq
   with_reducible refine zPm k28 ?_
   rintro _ u26 g27 rfl
   refine zza 26 (zI n) (zyn 27 (x := zI (IntKind.i64.wrap (((Nt.bitl N : Nat) : Int) + (n : Int)))) (zI (((Nt.bitl N) + n : Nat) : Int)) (eqI xj) (zyn 28 (x := zI (IntKind.i64.wrap ((((Nt.bitl N) + n : Nat) : Int) - 1))) (zI ((((Nt.bitl N) + n) - 1 : Nat) : Int)) (eqI xj) (zza 29 (zI n) (sy_quo 30 (n := ((Nt.bitl N + n - 1 : Nat) : Int)) (m := (n : Int)) ((s : Nat) : Int) xq (by rw [Int.tdiv_eq_ediv_of_nonneg xq, ← Int.natCast_ediv, hs]; exact IntWalk.i64_in _ xq) ?_))))
   refine zzg 31 151 [.slice (some ⟨b21, 0, none⟩) 1 1, .int .i64 s] ?_
   intro w29 u29 e29 d29
   have k34 := k_natRaise (s := s) d29 ((one_data h24).ext (e25.trans (g27.ext.trans e29))).raw xq xq
   with_reducible refine zPm k34 ?_
   rintro _ u32 g33 ⟨x30, rfl, h31⟩
   refine zza 7 (.v x30.v) (zzb (zzs (zyl (I := fun m35 S' u' => ∃ (r : Nat) (y1 : Sl), (m35 = r) ∧ (Nt.irt n N ≤ r) ∧ (1 ≤ r) ∧ (S' = St.of 62 [(1, zI n), (6, .v (.slice x13.a x13.n x13.c)), (7, .v (.slice y1.a y1.n y1.c))] []) ∧ (Ext u32 u') ∧ (NatN u' y1 r (K + 3))) (fun m S u1 u2 e h => by obtain ⟨r, y1, hm, p0, p1, hS, hE, f0⟩ := h; exact ⟨r, y1, hm, p0, p1, hS, hE.trans e, f0.ext e⟩) _ yq ⟨(1 * 2 ^ s), x30, rfl, (by rw [Nat.one_mul, ← hs]; exact Nt.newton_start hn1 (Nt.bitl_lt N)), (by rw [Nat.one_mul]; exact Nat.pow_pos xw), rfl, (Ext.refl _), (NatN.more h31 xq)⟩ ?_)))
   rintro m35 _ u35 ⟨r, y1, hm35, hI, h1, rfl, e35, f0⟩
   refine zzs (sq9 (zza 33 (.v x13.v) (zza 34 (.v y1.v) (zza 35 (zI n) (zyn 36 (x := zI (IntKind.i64.wrap ((n : Int) - 1))) (zI (n - 1 : Nat)) (eqI xj) (zzg 37 154 [y1.v, .int .i64 (n - 1 : Nat)] ?_))))))
   intro w36 u36 e36 d36
   have k41 := k_natPower (n := n - 1) d36 (f0.ext e36) xq xq
   with_reducible refine zPm k41 ?_
   rintro _ u39 g40 ⟨x37, rfl, h38⟩
   refine zzg 38 153 [x13.v, x37.v] ?_
   intro w42 u42 e42 d42
   have k49 := k_natDivide d42 (h14.ext (e23.trans (e25.trans (g27.ext.trans (e29.trans (g33.ext.trans (e35.trans (e36.trans (g40.ext.trans e42))))))))) (h38.ext e42) (Nat.pow_pos h1) xq xq
   with_reducible refine zPm k49 ?_
   rintro _ u47 g48 ⟨x43, x45, rfl, h44, h46⟩
   refine zza 32 (.v (.tuple #[x43.v, x45.v])) (zza 39 (.v x43.v) (zza 40 (.v x45.v) (zza 8 (.v x43.v) (zza 9 (.v x45.v) (zzc 62 [(1, zI n), (6, .v x13.v), (7, .v y1.v), (8, .v x43.v)] [] (sq9 (zza 42 (.v y1.v) (zza 43 (zI n) (zyn 44 (x := zI (IntKind.i64.wrap ((n : Int) - 1))) (zI (n - 1 : Nat)) (eqI xj) (sy_conv 45 ((n - 1 : Nat) : Int) (fun w => by kernel_rfl) (IntWalk.u32_in _ xq) ?_))))))))))
   refine zxp 46 ⟨104, [.int .u32 (n - 1 : Nat)]⟩ 1 (fun b50 u51 e52 h53 => ?_)
   refine zzg 47 156 [y1.v, .slice (some ⟨b50, 0, none⟩) 1 1] ?_
   intro w54 u54 e54 d54
   have k59 := k_natMul d54 (f0.ext (e36.trans (g40.ext.trans (e42.trans (g48.ext.trans (e52.trans e54)))))).raw ((digit_data (D := n - 1) h53 xq).ext e54) xq xq
   with_reducible refine zPm k59 ?_
   rintro _ u57 g58 ⟨x55, rfl, h56⟩
   refine zza 48 (.v x43.v) (zzg 49 155 [x55.v, x43.v] ?_)
   intro w60 u60 e60 d60
   have k65 := k_natAdd d60 (h56.ext e60).raw (h44.ext (e52.trans (e54.trans (g58.ext.trans e60)))).raw xq xq
   with_reducible refine zPm k65 ?_
   rintro _ u63 g64 ⟨x61, rfl, h62⟩
   refine zza 50 (zI n) (sy_conv 51 ((n : Nat) : Int) (fun w => by kernel_rfl) (IntWalk.u32_in _ xq) ?_)
   refine zxp 52 ⟨104, [.int .u32 (n : Nat)]⟩ 1 (fun b66 u67 e68 h69 => ?_)
   refine zzg 53 153 [x61.v, .slice (some ⟨b66, 0, none⟩) 1 1] ?_
   intro w70 u70 e70 d70
   have k77 := k_natDivide d70 (h62.ext (e68.trans e70)) ((digit_dataN (D := n) h69 xq xq).ext e70) xq xq xq
   with_reducible refine zPm k77 ?_
   rintro _ u75 g76 ⟨x71, x73, rfl, h72, h74⟩
   refine zza 41 (.v (.tuple #[x71.v, x73.v])) (zza 54 (.v x71.v) (zza 55 (.v x73.v) (zza 10 (.v x71.v) (zza 11 (.v x73.v) (zzb (zzd (sq9 (zza 56 (.v x71.v) (zza 57 (.v y1.v) (zzg 58 83 [x71.v, y1.v] ?_))))))))))
   intro w78 u78 e78 d78
   have k81 := k_natCompare d78 (h72.ext e78).raw (f0.ext (e36.trans (g40.ext.trans (e42.trans (g48.ext.trans (e52.trans (e54.trans (g58.ext.trans (e60.trans (g64.ext.trans (e68.trans (e70.trans (g76.ext.trans e78))))))))))))).raw
   with_reducible refine zPm k81 ?_
   rintro _ u79 g80 rfl
   refine zza 59 (zB (decide ((0 : Int) ≤ (Nt.cmpS (((((r * (n - 1)) + (N / (r ^ (n - 1)))) / n) : Nat) : Int) ((r : Nat) : Int))))) (zzb (zzt (b := decide ((0 : Int) ≤ (Nt.cmpS (((((r * (n - 1)) + (N / (r ^ (n - 1)))) / n) : Nat) : Int) ((r : Nat) : Int)))) xk (fun hb82 => ?_) (fun hb82 => ?_)))
   ·replace hb82 : (decide ((0 : Int) ≤ (Nt.cmpS (((((r * (n - 1)) + (N / (r ^ (n - 1)))) / n) : Nat) : Int) ((r : Nat) : Int)))) = true := hb82
    have qhb82 := of_decide_eq_true hb82
    have ehb82 := hb82
    rw [Nt.cmp_geN] at ehb82
    have qnhb82 := of_decide_eq_true ehb82
    refine sq9 (zza 60 (.v y1.v) (zza 4 (.v y1.v) (zza 5 (zI 0) (zzb (zzn (zzv (zyr (zyq (zyr (ret0 [.slice y1.a y1.n y1.c, .int .i64 0] ⟨zzp, zzp, trivial⟩ fun u83 e84 => ?_))))))))))
    have hd := Nt.nw_done hn1 hI qnhb82
    subst hd
    exact ⟨y1, rfl, (f0.ext (e36.trans (g40.ext.trans (e42.trans (g48.ext.trans (e52.trans (e54.trans (g58.ext.trans (e60.trans (g64.ext.trans (e68.trans (e70.trans (g76.ext.trans (e78.trans (g80.ext.trans e84)))))))))))))))⟩
   ·replace hb82 : (decide ((0 : Int) ≤ (Nt.cmpS (((((r * (n - 1)) + (N / (r ^ (n - 1)))) / n) : Nat) : Int) ((r : Nat) : Int)))) = false := hb82
    have qhb82 := of_decide_eq_false hb82
    have ehb82 := hb82
    rw [Nt.cmp_geN] at ehb82
    have qnhb82 := Nat.lt_of_not_le (of_decide_eq_false ehb82)
    refine zzr (zzo ?_)
    refine zzf (zza 61 (.v x71.v) (zza 7 (.v x71.v) (zzw ?_)))
    refine ⟨_, ?_, _, by exact zzu _ _ _, (((r * (n - 1)) + (N / (r ^ (n - 1)))) / n), x71, rfl, (Nt.nw_ge hn1 h1), (Nat.le_trans (Nt.irt_pos hn1 hNp) (Nt.nw_ge hn1 h1)), rfl, (e35.trans (e36.trans (g40.ext.trans (e42.trans (g48.ext.trans (e52.trans (e54.trans (g58.ext.trans (e60.trans (g64.ext.trans (e68.trans (e70.trans (g76.ext.trans (e78.trans g80.ext)))))))))))))), (NatN.fit (h72.ext (e78.trans g80.ext)) (Nat.le_trans (Nt.dl_mono (Nat.le_of_lt qnhb82)) f0.2.2))⟩
    omega
theorem k_natPow {u w : World} {x : Sl} {A n K : Nat} (d : Dat u w) (hx : NatN u x A K) (hn : n ≤ 64) (hK : K ≤ 1000000) : Calls Tryz.prog 82 #[x.v, .int .i64 (n : Int)] w (Post u w fun v u' => ∃ y : Sl, v = .tuple #[y.v, .int .i64 0] ∧ NatN u' y (A ^ n) (n * K + K + 1)) := by
 refine zzl (args := [.slice x.a x.n x.c, .int .i64 n]) Tryz.func82 rfl Tryz.ntmps82 (rs := [.tmp 4, .tmp 5]) Tryz.results82 (le_b rfl) (le_b rfl) d ?_
 refine sq9 (zza 4 (.v (.slice none 0 0)) (zza 5 (zI 0) (zzb (zzd (sq9 (zza 6 (zI n) (zza 7 (zB (decide ((n : Int) < 0))) (zyn 8 (x := zB (decide ((n : Int) < 0))) (zB false) (by rw [show (decide ((n : Int) < 0)) = false from decide_eq_false xq]) (zza 9 (zI n) ?_ (hw := w1 2 false 8))))))))))
 refine zza 10 (zB (decide ((64 : Int) < (n : Int)))) ?_ (hw := w1 2 false 8)
 refine zza 11 (zB (decide ((64 : Int) < (n : Int)))) (zzb (zzt (b := decide ((64 : Int) < (n : Int))) xk (fun hb => ?_) (fun hb => ?_)))
 ·exact absurd hb (by rw [show (decide ((64 : Int) < (n : Int))) = false from decide_eq_false xq]; decide)
 ·clear hb
  refine zzr (zzo ?_)
  refine sq9 (zza 12 (.v x.v) (zza 13 (zI n) (zzg 14 154 [x.v, .int .i64 n] ?_)))
  intro w12 u12 e12 d12
  have k17 := k_natPower (n := n) d12 (hx.ext e12) xq xq
  with_reducible refine zPm k17 ?_
  rintro _ u15 g16 ⟨x13, rfl, h14⟩
  refine zza 4 (.v x13.v) (zza 5 (zI 0) (zzb (zzn (ret0 [.slice x13.a x13.n x13.c, .int .i64 0] ⟨zzp, zzp, trivial⟩ fun u18 e19 => ?_))))
  exact ⟨x13, rfl, (h14.ext e19)⟩
set_option maxRecDepth 20000
namespace Nt
def rtD (q : Rat) (n b : Nat) : Nat := q.num.natAbs * 2 ^ (n * b) / q.den
def rtN (q : Rat) (n b : Nat) : Nat := irt n (rtD q n b)
def rtX (q : Rat) (n b : Nat) : Prop := q.num.natAbs * 2 ^ (n * b) % q.den = 0 ∧ rtN q n b ^ n = rtD q n b
instance (q : Rat) (n b : Nat) : Decidable (rtX q n b) := by unfold rtX; infer_instance
def rtH (q : Rat) (n b : Nat) : Int := if rtX q n b then (rtN q n b : Int) else (rtN q n b : Int) + 1
theorem sgQ_nn {q : Rat} (h : 0 ≤ q) : ¬ sgQ q < 0 := by
 intro h1
 have h2 := (sgQ_lt q).symm
 rw [decide_eq_true h1] at h2
 exact absurd (of_decide_eq_true h2) (Rat.not_lt.2 h)
theorem flo_of2 {X : Nat → Rat} {b w : Nat} {lo hi z : Int} (h : ∃ N : Nat, ∀ m, N ≤ m → Enc (u2 w) lo hi (X m)) (hb : b ≤ w) (h1 : lo / u2 (w - b) = z) (h2 : hi / u2 (w - b) = z) : flo X b = z := (FlO.of h hb h1 h2).flo
theorem flo_pi0 : flo piN 0 = 3 := flo_of2 (w := 128) ⟨110, pi_128⟩ xw (by decide +kernel) (by decide +kernel)
theorem flo_14 : flo (coN 1 4) 1 = 1 := flo_of2 (w := 128) (cs8_ok xw xw) xw (by decide +kernel) (by decide +kernel)
theorem cosV_13 : cosV 1 3 8 = (((1 : Int) : Rat) / ((2 : Int) : Rat), ((1 : Int) : Rat) / ((2 : Int) : Rat)) := by
 have h : fold 1 3 = 1 := by decide +kernel
 rw [cosV_lo h xw, cosA_3 xw xw xw]
 decide +kernel
theorem cosV_14 : cosV 1 4 1 = (((1 : Int) : Rat) / ((2 : Int) : Rat), ((1 : Int) : Rat)) := by
 have h : fold 1 4 = 1 := by decide +kernel
 rw [cosV_lo h xw, cosA_g xw xw xw, flo_14]
 decide +kernel
theorem pi_0 : gr 0 (flo piN 0) = ((3 : Int) : Rat) ∧ gr 0 (flo piN 0 + 1) = ((4 : Int) : Rat) := by rw [flo_pi0]; decide +kernel
theorem rt_22 : gr 2 (rtN ((2 : Int) : Rat) 2 2 : Int) = ((5 : Int) : Rat) / ((4 : Int) : Rat) ∧ gr 2 (rtH ((2 : Int) : Rat) 2 2) = ((3 : Int) : Rat) / ((2 : Int) : Rat) := by decide +kernel
end Nt
end Go.Proofs.YtbolmkfphieogaaGreat
namespace Go.Proofs.YtbolmkfphieogaaGreat
open Go.RowKit
set_option linter.unusedVariables false
theorem Nt.rtH_of {q : Rat} {n k : Nat} (h : q.num.natAbs * 2 ^ (n * k) % q.den = 0) : Nt.rtH q n k = if (Nt.cmpS ((Nt.rtN q n k ^ n : Nat) : Int) ((Nt.rtD q n k : Nat) : Int) == 0) = true then (Nt.rtN q n k : Int) else (Nt.rtN q n k : Int) + 1 := by
 unfold Nt.rtH
 by_cases h1 : Nt.rtN q n k ^ n = Nt.rtD q n k
 ·rw [if_pos ⟨h, h1⟩, if_pos (by rw [Nt.cmp_eq (congrArg _ h1)]; rfl)]
 ·rw [if_neg (fun h2 => h1 h2.2), if_neg ?_]
  intro h2
  rcases Nt.cmp_range ((Nt.rtN q n k ^ n : Nat) : Int) ((Nt.rtD q n k : Nat) : Int) with ⟨e, h3⟩ | ⟨e, h3⟩ | ⟨e, h3⟩
  ·rw [e] at h2; exact absurd h2 xw
  ·exact h1 (Int.ofNat_inj.1 h3)
  ·rw [e] at h2; exact absurd h2 xw
set_option maxHeartbeats 2000000 in
theorem k_RootG {u w : World} {r : RL} {q : Rat} {K n k : Nat} (d : Dat u w) (hr : RatV u r q K) (hq0 : 0 ≤ q) (hn1 : 1 ≤ n) (hn : n ≤ 64) (hk : k ≤ 256) (hK : K ≤ 100) : Calls Tryz.prog 20 #[r.v, .int .i64 (n : Int), .int .i64 (k : Int)] w (Post u w fun v u' => ∃ r1 r2 : RL, v = .tuple #[IV r1 r2, .int .i64 0] ∧ RatN u' r1 (Nt.gr k (Nt.rtN q n k : Int)) 1000 ∧ RatN u' r2 (Nt.gr k (Nt.rtH q n k)) 1000) := by
 have hnk : n * k ≤ 64 * 256 := Nat.mul_le_mul hn hk
 refine zzl (args := [r.v, .int .i64 n, .int .i64 k]) Tryz.func20 rfl Tryz.ntmps20 (rs := [.cell 6 32, .tmp 7]) Tryz.results20 (le_b rfl) (le_b rfl) d ?_
 refine sq9 (zzj 3 ⟨26, r.cs⟩ (zzj 6 ⟨32, [.bool false, .slice none 0 0, .slice none 0 0, .bool false, .slice none 0 0, .slice none 0 0]⟩ (zza 7 (zI 0) (zzb (zzd (sq9 (zzh 17 (.v (r.v)) ty26 zze (zzg 18 76 [r.v] ?_))))))))
 intro w11 u11 e11 d11
 have k14 := k_ratSign d11 (hr.ext e11)
 with_reducible refine zPm k14 ?_
 rintro _ u12 g13 rfl
 refine zza 19 (zB (decide ((Nt.sgQ q) < 0))) (zyn 20 (x := zB (decide ((Nt.sgQ q) < 0))) (zB false) (by rw [show (decide ((Nt.sgQ q) < 0)) = false from decide_eq_false (Nt.sgQ_nn hq0)]) (zza 21 (zI k) ?_ (hw := w1 3 false 20)))
 refine zzg 22 77 [.int .i64 k] ?_ (hw := w1 3 false 20)
 intro w16 u16 e16 d16
 have k19 := k_ePermitted (n := (k : Int)) d16
 with_reducible refine zPm k19 ?_
 rintro _ u17 g18 rfl
 refine zza 23 (zB (!(decide (0 ≤ (k : Int) ∧ (k : Int) ≤ 256)))) ?_ (hw := w1 3 false 20)
 refine zza 24 (zB (!(decide (0 ≤ (k : Int) ∧ (k : Int) ≤ 256)))) (zyn 25 (x := zB (!(decide (0 ≤ (k : Int) ∧ (k : Int) ≤ 256)))) (zB false) (by rw [show (!(decide (0 ≤ (k : Int) ∧ (k : Int) ≤ 256))) = false from (by rw [decide_eq_true xq]; rfl)]) (zza 26 (zI n) ?_ (hw := w1 8 false 25)))
 refine zza 27 (zB (decide ((n : Int) < 1))) ?_ (hw := w1 8 false 25)
 refine zza 28 (zB (decide ((n : Int) < 1))) (zyn 29 (x := zB (decide ((n : Int) < 1))) (zB false) (by rw [show (decide ((n : Int) < 1)) = false from decide_eq_false xq]) (zza 30 (zI n) ?_ (hw := w1 12 false 29)))
 refine zza 31 (zB (decide ((64 : Int) < (n : Int)))) ?_ (hw := w1 12 false 29)
 refine zza 32 (zB (decide ((64 : Int) < (n : Int)))) (zzb (zzt (b := decide ((64 : Int) < (n : Int))) xk (fun hb => ?_) (fun hb => ?_)))
 ·exact absurd hb (by rw [show (decide ((64 : Int) < (n : Int))) = false from decide_eq_false xq]; decide)
 ·clear hb
  refine zzr (zzo ?_)
  refine sq9 (zzh 34 (.v (r.v)) ty26 zze (zzg 35 78 [r.v] ?_))
  intro w22 u22 e22 d22
  have k27 := k_ratTrim d22 (hr.ext (e11.trans (g13.ext.trans (e16.trans (g18.ext.trans e22))))) xq
  with_reducible refine zPm k27 ?_
  rintro _ u25 g26 ⟨r23, rfl, h24⟩
  refine zzi ⟨26, r23.cs⟩ ty26 ?_
  refine zzb (sq9 (zza 36 (.adr 3 0) (zza 37 (.adr 3 1) (zzh 38 (.v r23.m.v) ty22 zzk (zza 39 (zI n) (zza 40 (zI k) (zyn 41 (x := zI (IntKind.i64.wrap ((n : Int) * (k : Int)))) (zI (n * k : Nat)) (eqI (by rw [← Int.natCast_mul]; exact IntWalk.i64_in _ xq)) (zzg 42 79 [r23.m.v, .int .i64 (n * k : Nat)] ?_))))))))
  intro w28 u28 e28 d28
  have k33 := k_natShift (s := n * k) d28 ((int_mag (RatN.num h24)).ext e28).raw xq xq
  with_reducible refine zPm k33 ?_
  rintro _ u31 g32 ⟨x29, rfl, h30⟩
  refine zza 8 (.v x29.v) (zzb (sq9 (zza 44 (.v x29.v) (zza 45 (.adr 3 2) (zzh 46 (.v r23.d.v) ty22 zzk (zzg 47 80 [x29.v, r23.d.v] ?_))))))
  intro w34 u34 e34 d34
  have k41 := k_natDivMod d34 (h30.ext e34).raw ((RatN.den h24).ext (e28.trans (g32.ext.trans e34))).raw q.den_pos xq xq
  with_reducible refine zPm k41 ?_
  rintro _ u39 g40 ⟨x35, x36, rfl, h37, h38⟩
  refine zza 43 (.v (.tuple #[x35.v, x36.v, .int .i64 0])) (zza 48 (.v x35.v) (zza 49 (.v x36.v) (zza 50 (zI 0) (zza 9 (.v x35.v) (zza 10 (.v x36.v) (zza 11 (zI 0) (zzc 77 [(1, zI n), (2, zI k), (6, .adr 6 0), (9, .v x35.v), (10, .v x36.v)] [(6, ⟨32, [.bool false, .slice none 0 0, .slice none 0 0, .bool false, .slice none 0 0, .slice none 0 0]⟩)] (sq9 (zza 52 (.v x35.v) (zza 53 (zI n) (zzg 54 81 [x35.v, .int .i64 n] ?_)))))))))))
  intro w42 u42 e42 d42
  have k47 := k_natRoot (n := n) d42 (h37.ext e42).raw xq xq xq
  with_reducible refine zPm k47 ?_
  rintro _ u45 g46 ⟨x43, rfl, h44⟩
  refine zza 51 (.v (.tuple #[x43.v, .int .i64 0])) (zza 55 (.v x43.v) (zza 56 (zI 0) (zza 12 (.v x43.v) (zza 13 (zI 0) (zzb (sq9 (zza 58 (.v x43.v) (zza 59 (zI n) (zzg 60 82 [x43.v, .int .i64 n] ?_)))))))))
  intro w48 u48 e48 d48
  have k53 := k_natPow (n := n) d48 (h44.ext e48) xq xq
  with_reducible refine zPm k53 ?_
  rintro _ u51 g52 ⟨x49, rfl, h50⟩
  refine zza 57 (.v (.tuple #[x49.v, .int .i64 0])) (zza 61 (.v x49.v) (zza 62 (zI 0) (zza 14 (.v x49.v) (zza 15 (zI 0) (zzb (sq9 (zza 63 (.v x36.v) (zza 64 (zI x36.n) (zza 65 (zB ((x36.n : Int) == 0)) ?_)))))))))
  rcases Bool.eq_false_or_eq_true ((x36.n : Int) == 0) with hs54 | hs54
  ·refine zyn 66 (x := zB ((x36.n : Int) == 0)) (zB true) (by rw [hs54]) ?_
   have qhs54 : (x36.n : Int) = 0 := by simpa using hs54
   refine zza 67 (.v x49.v) ?_ (hw := w1 3 true 66)
   refine zza 68 (.v x35.v) ?_ (hw := w1 3 true 66)
   refine zzg 69 83 [x49.v, x35.v] ?_ (hw := w1 3 true 66)
   intro w55 u55 e55 d55
   have k58 := k_natCompare d55 (h50.ext e55).raw (h37.ext (e42.trans (g46.ext.trans (e48.trans (g52.ext.trans e55))))).raw
   with_reducible refine zPm k58 ?_
   rintro _ u56 g57 rfl
   refine zza 70 (zB ((Nt.cmpS ((((Nt.irt n ((((q.num : Int).natAbs) * 2 ^ (n * k)) / q.den)) ^ n) : Nat) : Int) ((((((q.num : Int).natAbs) * 2 ^ (n * k)) / q.den) : Nat) : Int)) == 0)) ?_ (hw := w1 3 true 66)
   refine zza 71 (zB ((Nt.cmpS ((((Nt.irt n ((((q.num : Int).natAbs) * 2 ^ (n * k)) / q.den)) ^ n) : Nat) : Int) ((((((q.num : Int).natAbs) * 2 ^ (n * k)) / q.den) : Nat) : Int)) == 0)) (zza 16 (zB ((Nt.cmpS ((((Nt.irt n ((((q.num : Int).natAbs) * 2 ^ (n * k)) / q.den)) ^ n) : Nat) : Int) ((((((q.num : Int).natAbs) * 2 ^ (n * k)) / q.den) : Nat) : Int)) == 0)) (zzb (sq9 (zza 72 (.v x43.v) (zza 73 (.v (.agg #[.bool false, x43.v])) (zza 74 (zB ((Nt.cmpS ((((Nt.irt n ((((q.num : Int).natAbs) * 2 ^ (n * k)) / q.den)) ^ n) : Nat) : Int) ((((((q.num : Int).natAbs) * 2 ^ (n * k)) / q.den) : Nat) : Int)) == 0)) (zza 75 (zI k) (zzg 76 84 [.agg #[.bool false, x43.v], .bool ((Nt.cmpS ((((Nt.irt n ((((q.num : Int).natAbs) * 2 ^ (n * k)) / q.den)) ^ n) : Nat) : Int) ((((((q.num : Int).natAbs) * 2 ^ (n * k)) / q.den) : Nat) : Int)) == 0), .int .i64 k] ?_))))))))
   intro w59 u59 e59 d59
   have k66 := k_betweenB (k := k) (e := (Nt.cmpS ((((Nt.irt n ((((q.num : Int).natAbs) * 2 ^ (n * k)) / q.den)) ^ n) : Nat) : Int) ((((((q.num : Int).natAbs) * 2 ^ (n * k)) / q.den) : Nat) : Int)) == 0) d59 (nat_intN (h44.ext (e48.trans (g52.ext.trans (e55.trans (g57.ext.trans e59)))))) xq xq xq
   with_reducible refine zPm k66 ?_
   rintro _ u64 g65 ⟨r60, r62, rfl, h61, h63⟩
   refine zzi ⟨32, r60.cs ++ r62.cs⟩ ty32 ?_
   refine zza 7 (zI 0) (zzc 77 [(6, .adr 6 0), (7, zI 0)] [(6, ⟨32, r60.cs ++ r62.cs⟩)] (zzn (ret0 [.agg #[.bool r60.s, .slice r60.m.a r60.m.n r60.m.c, .slice r60.d.a r60.d.n r60.d.c, .bool r62.s, .slice r62.m.a r62.m.n r62.m.c, .slice r62.d.a r62.d.n r62.d.c], .int .i64 0] ⟨zzq ty32 zze, zzp, trivial⟩ fun u67 e68 => ?_)))
   have hps := h38.pos
   have hx0 : q.num.natAbs * 2 ^ (n * k) % q.den = 0 := by have h8 := hs54; simp at h8; omega
   have he := Nt.rtH_of hx0
   exact ⟨r60, r62, rfl, RatN.more (h61.ext e68) xq, by rw [he]; exact RatN.more (h63.ext e68) xq⟩
  ·refine zyn 66 (x := zB ((x36.n : Int) == 0)) (zB false) (by rw [hs54]) ?_
   have qhs54 : ¬ ((x36.n : Int) = 0) := by simpa using hs54
   refine zzm 67 (uw 3 true false 66) (zzm 68 (uw 3 true false 66) (zzm 69 (uw 3 true false 66) (zzm 70 (uw 3 true false 66) (zza 71 (zB false) (zza 16 (zB false) (zzb (sq9 (zza 72 (.v x43.v) (zza 73 (.v (.agg #[.bool false, x43.v])) (zza 74 (zB false) (zza 75 (zI k) ?_)))))))))))
   refine zzg 76 84 [.agg #[.bool false, x43.v], .bool false, .int .i64 k] ?_
   intro w69 u69 e69 d69
   have k76 := k_betweenN (k := k) d69 (nat_intN (h44.ext (e48.trans (g52.ext.trans e69)))) xq xq xq
   with_reducible refine zPm k76 ?_
   rintro _ u74 g75 ⟨r70, r72, rfl, h71, h73⟩
   refine zzi ⟨32, r70.cs ++ r72.cs⟩ ty32 ?_
   refine zza 7 (zI 0) (zzc 77 [(6, .adr 6 0), (7, zI 0)] [(6, ⟨32, r70.cs ++ r72.cs⟩)] (zzn (ret0 [.agg #[.bool r70.s, .slice r70.m.a r70.m.n r70.m.c, .slice r70.d.a r70.d.n r70.d.c, .bool r72.s, .slice r72.m.a r72.m.n r72.m.c, .slice r72.d.a r72.d.n r72.d.c], .int .i64 0] ⟨zzq ty32 zze, zzp, trivial⟩ fun u77 e78 => ?_)))
   have hps := h38.pos
   have hx : ¬ Nt.rtX q n k := fun h9 => by have h8 := hs54; simp at h8; have h7 := h9.1; omega
   have he : Nt.rtH q n k = _ := if_neg hx
   exact ⟨r70, r72, rfl, RatN.more (h71.ext e78) xq, by rw [he]; exact RatN.more (h73.ext e78) xq⟩
theorem k_SqrtG {u w : World} {r : RL} {q : Rat} {K k : Nat} (d : Dat u w) (hr : RatV u r q K) (hq0 : 0 ≤ q) (hk : k ≤ 256) (hK : K ≤ 100) : Calls Tryz.prog 18 #[r.v, .int .i64 (k : Int)] w (Post u w fun v u' => ∃ r1 r2 : RL, v = .tuple #[IV r1 r2, .int .i64 0] ∧ RatN u' r1 (Nt.gr k (Nt.rtN q 2 k : Int)) 1000 ∧ RatN u' r2 (Nt.gr k (Nt.rtH q 2 k)) 1000) := by
 refine zzl (args := [r.v, .int .i64 k]) Tryz.func18 rfl Tryz.ntmps18 (rs := [.cell 4 32, .tmp 5]) Tryz.results18 (le_b rfl) (le_b rfl) d ?_
 refine sq9 (zzj 2 ⟨26, r.cs⟩ (zzj 4 ⟨32, [.bool false, .slice none 0 0, .slice none 0 0, .bool false, .slice none 0 0, .slice none 0 0]⟩ (zza 5 (zI 0) (zzb (sq9 (zzh 6 (.v (r.v)) ty26 zze (zza 7 (zI k) (zzg 8 20 [r.v, .int .i64 2, .int .i64 k] ?_))))))))
 intro w11 u11 e11 d11
 have k18 := k_RootG (n := 2) (k := k) d11 (hr.ext e11) hq0 xq xq xq xq
 with_reducible refine zPm k18 ?_
 rintro _ u16 g17 ⟨r12, r14, rfl, h13, h15⟩
 refine zza 9 (.v (.agg #[.bool r12.s, r12.m.v, r12.d.v, .bool r14.s, r14.m.v, r14.d.v])) (zza 10 (zI 0) (zzi ⟨32, r12.cs ++ r14.cs⟩ ty32 ?_))
 refine zza 5 (zI 0) (zzb (zzn (ret0 [.agg #[.bool r12.s, .slice r12.m.a r12.m.n r12.m.c, .slice r12.d.a r12.d.n r12.d.c, .bool r14.s, .slice r14.m.a r14.m.n r14.m.c, .slice r14.d.a r14.d.n r14.d.c], .int .i64 0] ⟨zzq ty32 zze, zzp, trivial⟩ fun u19 e20 => ?_)))
 exact ⟨r12, r14, rfl, RatN.more (h13.ext e20) xq, RatN.more (h15.ext e20) xq⟩
set_option maxHeartbeats 1000000 in
theorem k_awake10 {u w : World} (d : Dat u w) : Calls Tryz.prog 16 #[] w (Post u w fun v _ => v = .bool true) := by
 refine zzl (args := []) Tryz.func16 rfl Tryz.ntmps16 (rs := [.tmp 0]) Tryz.results16 (le_b rfl) (le_b rfl) d ?_
 refine sq9 (zza 0 (zB false) (zzb (sq9 (zzg 10 30 [.int .i64 2] ?_))))
 intro w11 u11 e11 d11
 have k16 := k_rqOf d11 (z := 2) xq xq
 with_reducible refine zPm k16 ?_
 rintro _ u14 g15 ⟨r12, rfl, h13⟩
 refine zzg 11 18 [r12.v, .int .i64 2] ?_
 intro w17 u17 e17 d17
 have k24 := (Post.mono (k_SqrtG (k := 2) d17 (h13.ext e17).raw (by decide +kernel) xq xq) fun v u9 _ ⟨p, q, e1, e2, e3⟩ => (⟨p, q, e1, by rw [← Nt.rt_22.1]; exact e2, by rw [← Nt.rt_22.2]; exact e3⟩ : ∃ r1 r2 : RL, v = Value.tuple #[IV r1 r2, Value.int .i64 0] ∧ RatN u9 r1 (((5 : Int) : Rat) / ((4 : Int) : Rat)) 1000 ∧ RatN u9 r2 (((3 : Int) : Rat) / ((2 : Int) : Rat)) 1000))
 with_reducible refine zPm k24 ?_
 rintro _ u22 g23 ⟨r18, r20, rfl, h19, h21⟩
 refine zza 9 (.v (.tuple #[.agg #[.bool r18.s, r18.m.v, r18.d.v, .bool r20.s, r20.m.v, r20.d.v], .int .i64 0])) (zza 12 (.v (.agg #[.bool r18.s, r18.m.v, r18.d.v, .bool r20.s, r20.m.v, r20.d.v])) (zza 13 (zI 0) (zzj 1 ⟨32, [.bool false, .slice none 0 0, .slice none 0 0, .bool false, .slice none 0 0, .slice none 0 0]⟩ (zzi ⟨32, r18.cs ++ r20.cs⟩ ty32 ?_))))
 refine zza 2 (zI 0) (zzb (sq9 (zzg 15 32 [.int .i64 0] ?_)))
 intro w25 u25 e25 d25
 have k32 := (Post.mono (k_PiG (k := 0) d25 xq) fun v u9 _ ⟨p, q, e1, e2, e3⟩ => (⟨p, q, e1, by rw [← Nt.pi_0.1]; exact e2, by rw [← Nt.pi_0.2]; exact e3⟩ : ∃ r1 r2 : RL, v = Value.tuple #[IV r1 r2, Value.int .i64 0] ∧ RatN u9 r1 ((3 : Int) : Rat) 80 ∧ RatN u9 r2 ((4 : Int) : Rat) 80))
 with_reducible refine zPm k32 ?_
 rintro _ u30 g31 ⟨r26, r28, rfl, h27, h29⟩
 refine zza 14 (.v (.tuple #[.agg #[.bool r26.s, r26.m.v, r26.d.v, .bool r28.s, r28.m.v, r28.d.v], .int .i64 0])) (zza 16 (.v (.agg #[.bool r26.s, r26.m.v, r26.d.v, .bool r28.s, r28.m.v, r28.d.v])) (zza 17 (zI 0) (zzj 3 ⟨32, [.bool false, .slice none 0 0, .slice none 0 0, .bool false, .slice none 0 0, .slice none 0 0]⟩ (zzi ⟨32, r26.cs ++ r28.cs⟩ ty32 ?_))))
 refine zza 4 (zI 0) (zzb (sq9 (zzg 19 31 [.int .i64 1, .int .i64 3, .int .i64 8] ?_)))
 intro w33 u33 e33 d33
 have k40 := (Post.mono (k_CosPiG (p := 1) (q := 3) (k := 8) d33 xq xq xq xq xq (Nt.gapQ_80 xw xw xw)) fun v u9 _ ⟨p, q, e1, e2, e3⟩ => (⟨p, q, e1, by rw [Nt.cosV_13] at e2; exact e2, by rw [Nt.cosV_13] at e3; exact e3⟩ : ∃ r1 r2 : RL, v = Value.tuple #[IV r1 r2, Value.int .i64 0] ∧ RatN u9 r1 (((1 : Int) : Rat) / ((2 : Int) : Rat)) 80 ∧ RatN u9 r2 (((1 : Int) : Rat) / ((2 : Int) : Rat)) 80))
 with_reducible refine zPm k40 ?_
 rintro _ u38 g39 ⟨r34, r36, rfl, h35, h37⟩
 refine zza 18 (.v (.tuple #[.agg #[.bool r34.s, r34.m.v, r34.d.v, .bool r36.s, r36.m.v, r36.d.v], .int .i64 0])) (zza 20 (.v (.agg #[.bool r34.s, r34.m.v, r34.d.v, .bool r36.s, r36.m.v, r36.d.v])) (zza 21 (zI 0) (zzj 5 ⟨32, [.bool false, .slice none 0 0, .slice none 0 0, .bool false, .slice none 0 0, .slice none 0 0]⟩ (zzi ⟨32, r34.cs ++ r36.cs⟩ ty32 ?_))))
 refine zza 6 (zI 0) (zzb (sq9 (zzg 23 31 [.int .i64 1, .int .i64 4, .int .i64 1] ?_)))
 intro w41 u41 e41 d41
 have k48 := (Post.mono (k_CosPiG (p := 1) (q := 4) (k := 1) d41 xq xq xq xq xq (Nt.gapQ_80 xw xw xw)) fun v u9 _ ⟨p, q, e1, e2, e3⟩ => (⟨p, q, e1, by rw [Nt.cosV_14] at e2; exact e2, by rw [Nt.cosV_14] at e3; exact e3⟩ : ∃ r1 r2 : RL, v = Value.tuple #[IV r1 r2, Value.int .i64 0] ∧ RatN u9 r1 (((1 : Int) : Rat) / ((2 : Int) : Rat)) 80 ∧ RatN u9 r2 ((1 : Int) : Rat) 80))
 with_reducible refine zPm k48 ?_
 rintro _ u46 g47 ⟨r42, r44, rfl, h43, h45⟩
 refine zza 22 (.v (.tuple #[.agg #[.bool r42.s, r42.m.v, r42.d.v, .bool r44.s, r44.m.v, r44.d.v], .int .i64 0])) (zza 24 (.v (.agg #[.bool r42.s, r42.m.v, r42.d.v, .bool r44.s, r44.m.v, r44.d.v])) (zza 25 (zI 0) (zzj 7 ⟨32, [.bool false, .slice none 0 0, .slice none 0 0, .bool false, .slice none 0 0, .slice none 0 0]⟩ (zzi ⟨32, r42.cs ++ r44.cs⟩ ty32 ?_))))
 refine zza 8 (zI 0) (zzb (zzd (zzy [0, 1, 3, 7, 15, 31, 63, 127, 255, 511, 1023, 2047, 4095, 8191, 16383, 32767, 32767, 98303, 229375, 524287, 1048575, 2097151, 4194303, 4194303, 12582911, 29360127, 67108863, 134217727, 268435455, 536870911, 536870911, 1610612735, 3758096383, 8589934591, 17179869183, 34359738367, 68719476735, 68719476735, 206158430207, 481036337151, 1099511627775, 2199023255551, 4398046511103] [(0, []), (1, []), (2, []), (3, []), (4, []), (5, []), (6, []), (7, []), (8, []), (9, []), (10, []), (11, []), (12, []), (13, []), (14, []), (15, []), (16, []), (17, []), (18, []), (19, []), (20, []), (21, []), (22, []), (23, []), (24, []), (25, []), (26, []), (27, []), (28, []), (29, []), (30, []), (31, []), (32, []), (33, []), (34, []), (35, []), (36, []), (37, []), (38, []), (39, []), (40, []), (41, []), (42, [])] xk xk (zza 26 (zI 0) (zza 27 (zB true) (zza 28 (zB true) (zza 29 (zI 0) ?_ (hw := w1 2 true 28))))))))
 refine zza 30 (zB true) ?_ (hw := w1 2 true 28)
 refine zza 31 (zB true) (zza 32 (zB true) (zza 33 (zI 0) ?_ (hw := w1 6 true 32)))
 refine zza 34 (zB true) ?_ (hw := w1 6 true 32)
 refine zza 35 (zB true) (zza 36 (zB true) (zza 37 (zI 0) ?_ (hw := w1 10 true 36)))
 refine zza 38 (zB true) ?_ (hw := w1 10 true 36)
 refine zza 39 (zB true) (zza 40 (zB true) (zzh 41 (.v (.agg #[.bool r18.s, r18.m.v, r18.d.v, .bool r20.s, r20.m.v, r20.d.v])) ty32 zze ?_ (hw := w1 14 true 40)))
 refine zzg 42 75 [.int .i64 5, .int .i64 4] ?_ (hw := w1 14 true 40)
 intro w49 u49 e49 d49
 have k54 := k_rqFrac d49 (a := 5) (b := 4) xq xq xq xq
 with_reducible refine zPm k54 ?_
 rintro _ u52 g53 ⟨r50, rfl, h51⟩
 refine zzg 43 75 [.int .i64 3, .int .i64 2] ?_ (hw := w1 14 true 40)
 intro w55 u55 e55 d55
 have k60 := k_rqFrac d55 (a := 3) (b := 2) xq xq xq xq
 with_reducible refine zPm k60 ?_
 rintro _ u58 g59 ⟨r56, rfl, h57⟩
 refine zzg 44 38 [r50.v, r56.v] ?_ (hw := w1 14 true 40)
 intro w61 u61 e61 d61
 have k68 := k_r4Make d61 (h51.ext (e55.trans (g59.ext.trans e61))).raw (h57.ext e61).raw xq
 with_reducible refine zPm k68 ?_
 rintro _ u66 g67 ⟨r62, r64, rfl, h63, h65⟩
 refine zzg 45 22 [.agg #[.bool r18.s, r18.m.v, r18.d.v, .bool r20.s, r20.m.v, r20.d.v], .agg #[.bool r62.s, r62.m.v, r62.d.v, .bool r64.s, r64.m.v, r64.d.v]] ?_ (hw := w1 14 true 40)
 intro w69 u69 e69 d69
 have k72 := k_r4Same d69 (h19.ext (e25.trans (g31.ext.trans (e33.trans (g39.ext.trans (e41.trans (g47.ext.trans (e49.trans (g53.ext.trans (e55.trans (g59.ext.trans (e61.trans (g67.ext.trans e69))))))))))))) (h21.ext (e25.trans (g31.ext.trans (e33.trans (g39.ext.trans (e41.trans (g47.ext.trans (e49.trans (g53.ext.trans (e55.trans (g59.ext.trans (e61.trans (g67.ext.trans e69))))))))))))) (h63.ext e69) (h65.ext e69)
 with_reducible refine zPm k72 ?_
 rintro _ u70 g71 rfl
 refine zza 46 (zB (decide ((((5 : Int) : Rat) / ((4 : Int) : Rat)) = (Nt.lo (((5 : Int) : Rat) / ((4 : Int) : Rat)) (((3 : Int) : Rat) / ((2 : Int) : Rat)))) && decide ((((3 : Int) : Rat) / ((2 : Int) : Rat)) = (Nt.hi (((5 : Int) : Rat) / ((4 : Int) : Rat)) (((3 : Int) : Rat) / ((2 : Int) : Rat)))))) (zyn 47 (x := zB (decide ((((5 : Int) : Rat) / ((4 : Int) : Rat)) = (Nt.lo (((5 : Int) : Rat) / ((4 : Int) : Rat)) (((3 : Int) : Rat) / ((2 : Int) : Rat)))) && decide ((((3 : Int) : Rat) / ((2 : Int) : Rat)) = (Nt.hi (((5 : Int) : Rat) / ((4 : Int) : Rat)) (((3 : Int) : Rat) / ((2 : Int) : Rat)))))) (zB true) (by rw [show (decide ((((5 : Int) : Rat) / ((4 : Int) : Rat)) = (Nt.lo (((5 : Int) : Rat) / ((4 : Int) : Rat)) (((3 : Int) : Rat) / ((2 : Int) : Rat)))) && decide ((((3 : Int) : Rat) / ((2 : Int) : Rat)) = (Nt.hi (((5 : Int) : Rat) / ((4 : Int) : Rat)) (((3 : Int) : Rat) / ((2 : Int) : Rat))))) = true from (by decide +kernel)]) (zzh 48 (.v (.agg #[.bool r26.s, r26.m.v, r26.d.v, .bool r28.s, r28.m.v, r28.d.v])) ty32 zze ?_ (hw := w1 21 true 47)))
 refine zzg 49 30 [.int .i64 3] ?_ (hw := w1 21 true 47)
 intro w74 u74 e74 d74
 have k79 := k_rqOf d74 (z := 3) xq xq
 with_reducible refine zPm k79 ?_
 rintro _ u77 g78 ⟨r75, rfl, h76⟩
 refine zzg 50 30 [.int .i64 4] ?_ (hw := w1 21 true 47)
 intro w80 u80 e80 d80
 have k85 := k_rqOf d80 (z := 4) xq xq
 with_reducible refine zPm k85 ?_
 rintro _ u83 g84 ⟨r81, rfl, h82⟩
 refine zzg 51 38 [r75.v, r81.v] ?_ (hw := w1 21 true 47)
 intro w86 u86 e86 d86
 have k93 := k_r4Make d86 (h76.ext (e80.trans (g84.ext.trans e86))).raw (h82.ext e86).raw xq
 with_reducible refine zPm k93 ?_
 rintro _ u91 g92 ⟨r87, r89, rfl, h88, h90⟩
 refine zzg 52 22 [.agg #[.bool r26.s, r26.m.v, r26.d.v, .bool r28.s, r28.m.v, r28.d.v], .agg #[.bool r87.s, r87.m.v, r87.d.v, .bool r89.s, r89.m.v, r89.d.v]] ?_ (hw := w1 21 true 47)
 intro w94 u94 e94 d94
 have k97 := k_r4Same d94 (h27.ext (e33.trans (g39.ext.trans (e41.trans (g47.ext.trans (e49.trans (g53.ext.trans (e55.trans (g59.ext.trans (e61.trans (g67.ext.trans (e69.trans (g71.ext.trans (e74.trans (g78.ext.trans (e80.trans (g84.ext.trans (e86.trans (g92.ext.trans e94))))))))))))))))))) (h29.ext (e33.trans (g39.ext.trans (e41.trans (g47.ext.trans (e49.trans (g53.ext.trans (e55.trans (g59.ext.trans (e61.trans (g67.ext.trans (e69.trans (g71.ext.trans (e74.trans (g78.ext.trans (e80.trans (g84.ext.trans (e86.trans (g92.ext.trans e94))))))))))))))))))) (h88.ext e94) (h90.ext e94)
 with_reducible refine zPm k97 ?_
 rintro _ u95 g96 rfl
 refine zza 53 (zB (decide (((3 : Int) : Rat) = (Nt.lo ((3 : Int) : Rat) ((4 : Int) : Rat))) && decide (((4 : Int) : Rat) = (Nt.hi ((3 : Int) : Rat) ((4 : Int) : Rat))))) (zyn 54 (x := zB (decide (((3 : Int) : Rat) = (Nt.lo ((3 : Int) : Rat) ((4 : Int) : Rat))) && decide (((4 : Int) : Rat) = (Nt.hi ((3 : Int) : Rat) ((4 : Int) : Rat))))) (zB true) (by rw [show (decide (((3 : Int) : Rat) = (Nt.lo ((3 : Int) : Rat) ((4 : Int) : Rat))) && decide (((4 : Int) : Rat) = (Nt.hi ((3 : Int) : Rat) ((4 : Int) : Rat)))) = true from (by decide +kernel)]) (zzh 55 (.v (.agg #[.bool r34.s, r34.m.v, r34.d.v, .bool r36.s, r36.m.v, r36.d.v])) ty32 zze ?_ (hw := w1 28 true 54)))
 refine zzg 56 75 [.int .i64 1, .int .i64 2] ?_ (hw := w1 28 true 54)
 intro w99 u99 e99 d99
 have k104 := k_rqFrac d99 (a := 1) (b := 2) xq xq xq xq
 with_reducible refine zPm k104 ?_
 rintro _ u102 g103 ⟨r100, rfl, h101⟩
 refine zzg 57 75 [.int .i64 1, .int .i64 2] ?_ (hw := w1 28 true 54)
 intro w105 u105 e105 d105
 have k110 := k_rqFrac d105 (a := 1) (b := 2) xq xq xq xq
 with_reducible refine zPm k110 ?_
 rintro _ u108 g109 ⟨r106, rfl, h107⟩
 refine zzg 58 38 [r100.v, r106.v] ?_ (hw := w1 28 true 54)
 intro w111 u111 e111 d111
 have k118 := k_r4Make d111 (h101.ext (e105.trans (g109.ext.trans e111))).raw (h107.ext e111).raw xq
 with_reducible refine zPm k118 ?_
 rintro _ u116 g117 ⟨r112, r114, rfl, h113, h115⟩
 refine zzg 59 22 [.agg #[.bool r34.s, r34.m.v, r34.d.v, .bool r36.s, r36.m.v, r36.d.v], .agg #[.bool r112.s, r112.m.v, r112.d.v, .bool r114.s, r114.m.v, r114.d.v]] ?_ (hw := w1 28 true 54)
 intro w119 u119 e119 d119
 have k122 := k_r4Same d119 (h35.ext (e41.trans (g47.ext.trans (e49.trans (g53.ext.trans (e55.trans (g59.ext.trans (e61.trans (g67.ext.trans (e69.trans (g71.ext.trans (e74.trans (g78.ext.trans (e80.trans (g84.ext.trans (e86.trans (g92.ext.trans (e94.trans (g96.ext.trans (e99.trans (g103.ext.trans (e105.trans (g109.ext.trans (e111.trans (g117.ext.trans e119))))))))))))))))))))))))) (h37.ext (e41.trans (g47.ext.trans (e49.trans (g53.ext.trans (e55.trans (g59.ext.trans (e61.trans (g67.ext.trans (e69.trans (g71.ext.trans (e74.trans (g78.ext.trans (e80.trans (g84.ext.trans (e86.trans (g92.ext.trans (e94.trans (g96.ext.trans (e99.trans (g103.ext.trans (e105.trans (g109.ext.trans (e111.trans (g117.ext.trans e119))))))))))))))))))))))))) (h113.ext e119) (h115.ext e119)
 with_reducible refine zPm k122 ?_
 rintro _ u120 g121 rfl
 refine zza 60 (zB (decide ((((1 : Int) : Rat) / ((2 : Int) : Rat)) = (Nt.lo (((1 : Int) : Rat) / ((2 : Int) : Rat)) (((1 : Int) : Rat) / ((2 : Int) : Rat)))) && decide ((((1 : Int) : Rat) / ((2 : Int) : Rat)) = (Nt.hi (((1 : Int) : Rat) / ((2 : Int) : Rat)) (((1 : Int) : Rat) / ((2 : Int) : Rat)))))) (zyn 61 (x := zB (decide ((((1 : Int) : Rat) / ((2 : Int) : Rat)) = (Nt.lo (((1 : Int) : Rat) / ((2 : Int) : Rat)) (((1 : Int) : Rat) / ((2 : Int) : Rat)))) && decide ((((1 : Int) : Rat) / ((2 : Int) : Rat)) = (Nt.hi (((1 : Int) : Rat) / ((2 : Int) : Rat)) (((1 : Int) : Rat) / ((2 : Int) : Rat)))))) (zB true) (by rw [show (decide ((((1 : Int) : Rat) / ((2 : Int) : Rat)) = (Nt.lo (((1 : Int) : Rat) / ((2 : Int) : Rat)) (((1 : Int) : Rat) / ((2 : Int) : Rat)))) && decide ((((1 : Int) : Rat) / ((2 : Int) : Rat)) = (Nt.hi (((1 : Int) : Rat) / ((2 : Int) : Rat)) (((1 : Int) : Rat) / ((2 : Int) : Rat))))) = true from (by decide +kernel)]) (zzh 62 (.v (.agg #[.bool r42.s, r42.m.v, r42.d.v, .bool r44.s, r44.m.v, r44.d.v])) ty32 zze ?_ (hw := w1 35 true 61)))
 refine zzg 63 75 [.int .i64 1, .int .i64 2] ?_ (hw := w1 35 true 61)
 intro w124 u124 e124 d124
 have k129 := k_rqFrac d124 (a := 1) (b := 2) xq xq xq xq
 with_reducible refine zPm k129 ?_
 rintro _ u127 g128 ⟨r125, rfl, h126⟩
 refine zzg 64 30 [.int .i64 1] ?_ (hw := w1 35 true 61)
 intro w130 u130 e130 d130
 have k135 := k_rqOf d130 (z := 1) xq xq
 with_reducible refine zPm k135 ?_
 rintro _ u133 g134 ⟨r131, rfl, h132⟩
 refine zzg 65 38 [r125.v, r131.v] ?_ (hw := w1 35 true 61)
 intro w136 u136 e136 d136
 have k143 := k_r4Make d136 ((h126.ext (e130.trans (g134.ext.trans e136))).raw.more (Nat.le_max_left 3 2)) ((h132.ext e136).raw.more (Nat.le_max_right 3 2)) xq
 with_reducible refine zPm k143 ?_
 rintro _ u141 g142 ⟨r137, r139, rfl, h138, h140⟩
 refine zzg 66 22 [.agg #[.bool r42.s, r42.m.v, r42.d.v, .bool r44.s, r44.m.v, r44.d.v], .agg #[.bool r137.s, r137.m.v, r137.d.v, .bool r139.s, r139.m.v, r139.d.v]] ?_ (hw := w1 35 true 61)
 intro w144 u144 e144 d144
 have k147 := k_r4Same d144 (h43.ext (e49.trans (g53.ext.trans (e55.trans (g59.ext.trans (e61.trans (g67.ext.trans (e69.trans (g71.ext.trans (e74.trans (g78.ext.trans (e80.trans (g84.ext.trans (e86.trans (g92.ext.trans (e94.trans (g96.ext.trans (e99.trans (g103.ext.trans (e105.trans (g109.ext.trans (e111.trans (g117.ext.trans (e119.trans (g121.ext.trans (e124.trans (g128.ext.trans (e130.trans (g134.ext.trans (e136.trans (g142.ext.trans e144))))))))))))))))))))))))))))))) (h45.ext (e49.trans (g53.ext.trans (e55.trans (g59.ext.trans (e61.trans (g67.ext.trans (e69.trans (g71.ext.trans (e74.trans (g78.ext.trans (e80.trans (g84.ext.trans (e86.trans (g92.ext.trans (e94.trans (g96.ext.trans (e99.trans (g103.ext.trans (e105.trans (g109.ext.trans (e111.trans (g117.ext.trans (e119.trans (g121.ext.trans (e124.trans (g128.ext.trans (e130.trans (g134.ext.trans (e136.trans (g142.ext.trans e144))))))))))))))))))))))))))))))) (h138.ext e144) (h140.ext e144)
 with_reducible refine zPm k147 ?_
 rintro _ u145 g146 rfl
 refine zza 67 (zB (decide ((((1 : Int) : Rat) / ((2 : Int) : Rat)) = (Nt.lo (((1 : Int) : Rat) / ((2 : Int) : Rat)) ((1 : Int) : Rat))) && decide (((1 : Int) : Rat) = (Nt.hi (((1 : Int) : Rat) / ((2 : Int) : Rat)) ((1 : Int) : Rat))))) (zza 0 (zB (decide ((((1 : Int) : Rat) / ((2 : Int) : Rat)) = (Nt.lo (((1 : Int) : Rat) / ((2 : Int) : Rat)) ((1 : Int) : Rat))) && decide (((1 : Int) : Rat) = (Nt.hi (((1 : Int) : Rat) / ((2 : Int) : Rat)) ((1 : Int) : Rat))))) (zzc 68 [(0, zB (decide ((((1 : Int) : Rat) / ((2 : Int) : Rat)) = (Nt.lo (((1 : Int) : Rat) / ((2 : Int) : Rat)) ((1 : Int) : Rat))) && decide (((1 : Int) : Rat) = (Nt.hi (((1 : Int) : Rat) / ((2 : Int) : Rat)) ((1 : Int) : Rat)))))] [] (zzn (ret0 [.bool (decide ((((1 : Int) : Rat) / ((2 : Int) : Rat)) = (Nt.lo (((1 : Int) : Rat) / ((2 : Int) : Rat)) ((1 : Int) : Rat))) && decide (((1 : Int) : Rat) = (Nt.hi (((1 : Int) : Rat) / ((2 : Int) : Rat)) ((1 : Int) : Rat))))] ⟨zzp, trivial⟩ fun u148 e149 => ?_))))
 show Value.bool _ = Value.bool _
 rw [show (decide ((((1 : Int) : Rat) / ((2 : Int) : Rat)) = (Nt.lo (((1 : Int) : Rat) / ((2 : Int) : Rat)) ((1 : Int) : Rat))) && decide (((1 : Int) : Rat) = (Nt.hi (((1 : Int) : Rat) / ((2 : Int) : Rat)) ((1 : Int) : Rat)))) = true from by decide +kernel]
namespace Nt
theorem lo_self (x : Rat) : lo x x = x := (lo_of_le Rat.le_refl).1
theorem hi_self (x : Rat) : hi x x = x := (lo_of_le Rat.le_refl).2
def fr1 (d : Int) : Rat := ((1 : Int) : Rat) / (d : Rat)
theorem fr1_pos {d : Int} (h : 0 < d) : 0 < fr1 d := by
 unfold fr1
 rw [Rat.div_def]
 exact Rat.mul_pos (by decide +kernel) (Rat.inv_pos.2 (castI_pos h))
theorem gr_fr {k : Nat} {a d : Int} (h : 0 < d) : gr k a * fr1 d * (u2 k : Rat) = (a : Rat) / (d : Rat) := by
 have h1 := gr_mul k a
 unfold fr1
 have e : gr k a * (((1 : Int) : Rat) / (d : Rat)) * (u2 k : Rat) = gr k a * (u2 k : Rat) * (((1 : Int) : Rat) / (d : Rat)) := by grind
 rw [e, h1, Rat.div_def, Rat.div_def]
 show (a : Rat) * (1 * (d : Rat)⁻¹) = _
 rw [Rat.one_mul]
theorem fl_gr_fr {k : Nat} {a d : Int} (h : 0 < d) : flU k (gr k a * fr1 d) = a / d ∧ ceU k (gr k a * fr1 d) = cdiv a d := ⟨flU_eq h (gr_fr h), ceU_eq h (gr_fr h)⟩
theorem fl_fr {k : Nat} {d : Int} (h : 0 < d) : flU k (fr1 d) = u2 k / d ∧ ceU k (fr1 d) = cdiv (u2 k) d := by
 have e : fr1 d = gr k (u2 k) * fr1 d := by rw [gr_one, Rat.one_mul]
 rw [e]; exact fl_gr_fr h
theorem sum_fr {k : Nat} {c a d : Int} (h : 0 < d) : (gr k c + gr k a * fr1 d) * (u2 k : Rat) = ((c * d + a : Int) : Rat) / (d : Rat) := by
 rw [Rat.add_mul, gr_fr h, gr_mul, Rat.intCast_add, Rat.intCast_mul]
 have := castI_pos h
 have h' : (d : Rat) ≠ 0 := by grind
 generalize (d : Rat) = D at *
 grind
theorem fl_sum {k : Nat} {c a d : Int} (h : 0 < d) : flU k (gr k c + gr k a * fr1 d) = c + a / d ∧ ceU k (gr k c + gr k a * fr1 d) = c + cdiv a d := by
 rw [flU_eq h (sum_fr h), ceU_eq h (sum_fr h)]
 constructor
 ·rw [Int.add_comm, Int.add_mul_ediv_right _ _ xq, Int.add_comm]
 ·unfold cdiv
  rw [show -(c * d + a) = -a + (-c) * d by rw [Int.neg_mul]; omega, Int.add_mul_ediv_right _ _ xq]
  omega
theorem fl_dif {k : Nat} {c a d : Int} (h : 0 < d) : flU k (gr k c - gr k a * fr1 d) = c - cdiv a d ∧ ceU k (gr k c - gr k a * fr1 d) = c - a / d := by
 have e : gr k c - gr k a * fr1 d = gr k c + gr k (-a) * fr1 d := by rw [← gr_neg, Rat.neg_mul, Rat.sub_eq_add_neg]
 have h1 := fl_sum (k := k) (c := c) (a := -a) h
 rw [e, h1.1, h1.2]
 unfold cdiv
 rw [Int.neg_neg]
 omega
section
variable {k j : Nat} {a b c d D : Int}
theorem at_t (hab : a ≤ b) (hD : 0 < D) : lo4 (gr k a * lo (fr1 D) (fr1 D)) (gr k a * hi (fr1 D) (fr1 D)) (gr k b * lo (fr1 D) (fr1 D)) (gr k b * hi (fr1 D) (fr1 D)) = gr k a * fr1 D ∧ hi4 (gr k a * lo (fr1 D) (fr1 D)) (gr k a * hi (fr1 D) (fr1 D)) (gr k b * lo (fr1 D) (fr1 D)) (gr k b * hi (fr1 D) (fr1 D)) = gr k b * fr1 D := by
 rw [lo_self, hi_self]
 exact lo4_pt (gr_mono hab) (Rat.le_of_lt (fr1_pos hD))
theorem at_end (hD : 0 < D) : decide (cmpQ (gr k b * fr1 D) (gr k 1) ≤ 0) = decide (b ≤ D) := by
 rw [cmpQ_le, decide_eq_decide]
 have hU := castI_pos (u2_pos k)
 have hDr := castI_pos hD
 constructor
 ·intro h
  have h1 := Rat.mul_le_mul_of_nonneg_right h (Rat.le_of_lt hU)
  rw [gr_fr hD, gr_mul] at h1
  have h2 := Rat.mul_le_mul_of_nonneg_right h1 (Rat.le_of_lt hDr)
  rw [div_mul_c hDr, ← Rat.intCast_mul, Int.one_mul] at h2
  exact Rat.intCast_le_intCast.1 h2
 ·intro h
  refine Rat.le_of_mul_le_mul_right (c := (u2 k : Rat)) ?_ hU
  rw [gr_fr hD, gr_mul]
  refine dv_le hDr ?_
  rw [← Rat.intCast_mul, Int.one_mul]
  exact Rat.intCast_le_intCast.2 h
theorem at_o (hb : 0 ≤ b) (hcd : c ≤ d) (hD : 0 < D) : flU k (lo (gr k c) (gr k d) + lo (lo (-(gr k b * fr1 D)) (gr k b * fr1 D)) (hi (-(gr k b * fr1 D)) (gr k b * fr1 D))) = c - cdiv b D ∧ ceU k (hi (gr k c) (gr k d) + hi (lo (-(gr k b * fr1 D)) (gr k b * fr1 D)) (hi (-(gr k b * fr1 D)) (gr k b * fr1 D))) = d + cdiv b D := by
 have h0 : 0 ≤ gr k b * fr1 D := Rat.mul_nonneg (gr_nn hb) (Rat.le_of_lt (fr1_pos hD))
 have e1 := lo_of_le (gr_mono (w := k) hcd)
 have e2 := lo_of_le (show -(gr k b * fr1 D) ≤ gr k b * fr1 D by grind)
 rw [e1.1, e1.2, e2.1, e2.2, e2.1, e2.2, ← Rat.sub_eq_add_neg, (fl_dif hD).1, (fl_sum hD).2]
 exact ⟨rfl, rfl⟩
theorem at_a (hab : a ≤ b) (hcd : c ≤ d) (hD : 0 < D) : flU k (lo (gr k c) (gr k d) + lo (gr k a * fr1 D) (gr k b * fr1 D)) = c + a / D ∧ ceU k (hi (gr k c) (gr k d) + hi (gr k a * fr1 D) (gr k b * fr1 D)) = d + cdiv b D := by
 have e1 := lo_of_le (gr_mono (w := k) hcd)
 have e2 := lo_of_le (Rat.mul_le_mul_of_nonneg_right (gr_mono (w := k) hab) (Rat.le_of_lt (fr1_pos hD)))
 rw [e1.1, e1.2, e2.1, e2.2, (fl_sum hD).1, (fl_sum hD).2]
 exact ⟨rfl, rfl⟩
theorem at_s (hab : a ≤ b) (hcd : c ≤ d) (hD : 0 < D) : flU k (lo (gr k c) (gr k d) - hi (gr k a * fr1 D) (gr k b * fr1 D)) = c - cdiv b D ∧ ceU k (hi (gr k c) (gr k d) - lo (gr k a * fr1 D) (gr k b * fr1 D)) = d - a / D := by
 have e1 := lo_of_le (gr_mono (w := k) hcd)
 have e2 := lo_of_le (Rat.mul_le_mul_of_nonneg_right (gr_mono (w := k) hab) (Rat.le_of_lt (fr1_pos hD)))
 rw [e1.1, e1.2, e2.1, e2.2, (fl_dif hD).1, (fl_dif hD).2]
 exact ⟨rfl, rfl⟩
theorem at_x (hab : a ≤ b) (hD : 0 < D) : flU k (lo4 (gr k a * lo (fr1 D) (fr1 D)) (gr k a * hi (fr1 D) (fr1 D)) (gr k b * lo (fr1 D) (fr1 D)) (gr k b * hi (fr1 D) (fr1 D))) = a / D ∧ ceU k (hi4 (gr k a * lo (fr1 D) (fr1 D)) (gr k a * hi (fr1 D) (fr1 D)) (gr k b * lo (fr1 D) (fr1 D)) (gr k b * hi (fr1 D) (fr1 D))) = cdiv b D := by
 have h := at_t (k := k) hab hD
 rw [h.1, h.2, (fl_gr_fr hD).1, (fl_gr_fr hD).2]
 exact ⟨rfl, rfl⟩
theorem pi_m {m : Nat} (hab : a ≤ b) : lo4 (gr k a * lo ((m : Int) : Rat) ((m : Int) : Rat)) (gr k a * hi ((m : Int) : Rat) ((m : Int) : Rat)) (gr k b * lo ((m : Int) : Rat) ((m : Int) : Rat)) (gr k b * hi ((m : Int) : Rat) ((m : Int) : Rat)) = gr k (a * (m : Int)) ∧ hi4 (gr k a * lo ((m : Int) : Rat) ((m : Int) : Rat)) (gr k a * hi ((m : Int) : Rat) ((m : Int) : Rat)) (gr k b * lo ((m : Int) : Rat) ((m : Int) : Rat)) (gr k b * hi ((m : Int) : Rat) ((m : Int) : Rat)) = gr k (b * (m : Int)) := by
 have h0 : (0 : Rat) ≤ ((m : Int) : Rat) := Rat.intCast_le_intCast.2 (show (0 : Int) ≤ (m : Int) by omega)
 rw [lo_self, hi_self]
 have h := lo4_pt (gr_mono (w := k) hab) h0
 rw [h.1, h.2, Rat.mul_comm, gr_int, Rat.mul_comm, gr_int, Int.mul_comm, Int.mul_comm b]
 exact ⟨rfl, rfl⟩
end
theorem sq_of_nn {x y : Rat} (h0 : 0 ≤ x) (h : x ≤ y) (hy : 0 < y) : sql x y = x * x ∧ sqh x y = y * y := by
 have hm := mulm h h h0 h0
 have e := lo_of_le hm
 have e2 := lo_of_le h
 unfold sql sqh sgI
 rw [e.1, e.2, e2.1, e2.2]
 refine ⟨?_, rfl⟩
 by_cases hx : 0 < x
 ·rw [if_pos hx, if_neg xw]
 ·have : x = 0 := by grind
  subst this
  rw [if_neg hx, if_neg (Rat.not_lt.2 (Rat.le_of_lt hy)), if_pos rfl, Rat.zero_mul]
section
variable {k j : Nat} {tl th ql qh c d z : Int}
theorem cs_end : decide (cmpQ (gr k th) (gr k 1) ≤ 0) = decide (th ≤ 1) := by rw [cmpQ_le, decide_eq_decide]; exact gr_le
theorem cs_o (ht : 0 ≤ th) (hcd : c ≤ d) : lo (gr k c) (gr k d) + lo (lo (-gr k th) (gr k th)) (hi (-gr k th) (gr k th)) = gr k (c - th) ∧ hi (gr k c) (gr k d) + hi (lo (-gr k th) (gr k th)) (hi (-gr k th) (gr k th)) = gr k (d + th) := by
 have e1 := lo_of_le (gr_mono (w := k) hcd)
 have e2 := lo_of_le (show -gr k th ≤ gr k th by rw [gr_neg]; exact gr_mono xq)
 rw [e1.1, e1.2, e2.1, e2.2, e2.1, e2.2, ← Rat.sub_eq_add_neg, gr_sub, gr_add]
 exact ⟨rfl, rfl⟩
theorem cs_a (ht : tl ≤ th) (hcd : c ≤ d) : lo (gr k c) (gr k d) + lo (gr k tl) (gr k th) = gr k (c + tl) ∧ hi (gr k c) (gr k d) + hi (gr k tl) (gr k th) = gr k (d + th) := by
 have e1 := lo_of_le (gr_mono (w := k) hcd)
 have e2 := lo_of_le (gr_mono (w := k) ht)
 rw [e1.1, e1.2, e2.1, e2.2, gr_add, gr_add]
 exact ⟨rfl, rfl⟩
theorem cs_s (ht : tl ≤ th) (hcd : c ≤ d) : lo (gr k c) (gr k d) - hi (gr k tl) (gr k th) = gr k (c - th) ∧ hi (gr k c) (gr k d) - lo (gr k tl) (gr k th) = gr k (d - tl) := by
 have e1 := lo_of_le (gr_mono (w := k) hcd)
 have e2 := lo_of_le (gr_mono (w := k) ht)
 rw [e1.1, e1.2, e2.1, e2.2, gr_sub, gr_sub]
 exact ⟨rfl, rfl⟩
theorem grr_fr {x y D : Int} (hD : 0 < D) : gr k x * gr k y * fr1 D * (u2 k : Rat) = ((x * y : Int) : Rat) / ((u2 k * D : Int) : Rat) := by
 have a := castI_pos (u2_pos k)
 have b := castI_pos hD
 unfold gr fr1
 rw [Rat.intCast_mul, Rat.intCast_mul]
 have a' : (u2 k : Rat) ≠ 0 := by grind
 have b' : (D : Rat) ≠ 0 := by grind
 have e : ((1 : Int) : Rat) = 1 := rfl
 rw [e]
 generalize (u2 k : Rat) = p at *
 generalize (D : Rat) = q at *
 grind
theorem cs_t (h0 : 0 ≤ tl) (ht : tl ≤ th) (q0 : 0 ≤ ql) (hq : ql ≤ qh) {F : Rat} (hF : F = fr1 (coD j)) :
  flU k (lo4 (lo4 (gr k tl * gr k ql) (gr k tl * gr k qh) (gr k th * gr k ql) (gr k th * gr k qh) * lo F F) (lo4 (gr k tl * gr k ql) (gr k tl * gr k qh) (gr k th * gr k ql) (gr k th * gr k qh) * hi F F) (hi4 (gr k tl * gr k ql) (gr k tl * gr k qh) (gr k th * gr k ql) (gr k th * gr k qh) * lo F F) (hi4 (gr k tl * gr k ql) (gr k tl * gr k qh) (gr k th * gr k ql) (gr k th * gr k qh) * hi F F)) = csL k j tl ql ∧
  ceU k (hi4 (lo4 (gr k tl * gr k ql) (gr k tl * gr k qh) (gr k th * gr k ql) (gr k th * gr k qh) * lo F F) (lo4 (gr k tl * gr k ql) (gr k tl * gr k qh) (gr k th * gr k ql) (gr k th * gr k qh) * hi F F) (hi4 (gr k tl * gr k ql) (gr k tl * gr k qh) (gr k th * gr k ql) (gr k th * gr k qh) * lo F F) (hi4 (gr k tl * gr k ql) (gr k tl * gr k qh) (gr k th * gr k ql) (gr k th * gr k qh) * hi F F)) = csH k j th qh := by
 have hD := coD_pos j
 have hU := u2_pos k
 have e1 := lo4_nn (gr_mono (w := k) ht) (gr_mono (w := k) hq) (gr_nn h0) (gr_nn q0)
 have hm := mulm (gr_mono (w := k) ht) (gr_mono (w := k) hq) (gr_nn h0) (gr_nn q0)
 have hf := fr1_pos (d := coD j) xq
 rw [hF, lo_self, hi_self, e1.1, e1.2, (lo4_pt hm (Rat.le_of_lt hf)).1, (lo4_pt hm (Rat.le_of_lt hf)).2]
 have hUD : 0 < u2 k * coD j := Int.mul_pos hU xq
 rw [flU_eq hUD (grr_fr xq), ceU_eq hUD (grr_fr xq)]
 unfold csL csH
 rw [cdiv_cdiv hU xq, Int.ediv_ediv_of_nonneg xq]
 exact ⟨rfl, rfl⟩
theorem coD_mulR (h : j ≤ 1000) : IntKind.i64.wrap (((2 * j + 1 : Nat) : Int) * ((2 * j + 2 : Nat) : Int)) = coD j ∧ coD j ≤ 10000000 := by
 have h1 := coD_mul h
 have e : ((2 * j + 1 : Nat) : Int) * ((2 * j + 2 : Nat) : Int) = ((2 * j + 2 : Nat) : Int) * ((2 * j + 2 - 1 : Nat) : Int) := by
  rw [show 2 * j + 2 - 1 = 2 * j + 1 by omega, Int.mul_comm]
 rw [e]; exact h1
theorem tight_hi : (mkRat z 1 + ((1 : Int) : Rat)) / (((2 ^ k : Nat) : Int) : Rat) = gr k (z + 1) := by
 rw [mk_one, ← Rat.intCast_add]; rfl
theorem tight_lo : mkRat z 1 / (((2 ^ k : Nat) : Int) : Rat) = gr k z := by rw [mk_one]; rfl
end
theorem gr_rs {k : Nat} {z : Int} {L : Nat} (hz : dl z.natAbs ≤ L) (hk : k < 32 * L) : rs (gr k z) ≤ L := by
 have e : gr k z = mkRat z (2 ^ k) := by unfold gr; rw [Rat.mkRat_eq_div]; rfl
 rw [e]
 refine rs_mk hz ?_ xq
 have h := dl_u2 (z := u2 k) (L := L) (b := k) (by have := u2_pos k; omega) (Int.le_refl _) hk
 have e2 : (u2 k).natAbs = 2 ^ k := Int.natAbs_natCast _
 rwa [e2] at h
end Nt
theorem RatN.limG {u : World} {r : RL} {z : Int} {k K : Nat} (h : RatN u r (Nt.gr k z) K) (h0 : -(Nt.u2 1000) ≤ z) (h1 : z ≤ Nt.u2 1000) (hk : k ≤ 800) : RatN u r (Nt.gr k z) 40 := h.fit (Nt.gr_rs (Nt.dl_u2 h0 h1 xw) xq)
set_option maxHeartbeats 1000000 in
theorem k_wide {u w : World} {a1 a2 : RL} {x1 x2 : Rat} {K k : Nat} (d : Dat u w) (ha1 : RatV u a1 x1 K) (ha2 : RatV u a2 x2 K) (hk : k ≤ 800) (hK : K ≤ 100000) : Calls Tryz.prog 187 #[IV a1 a2, .int .i64 (k : Int)] w (Post u w fun v u' => ∃ r1 r2 : RL, v = IV r1 r2 ∧ RatN u' r1 (Nt.gr k (Nt.flU k x1)) (K + 70) ∧ RatN u' r2 (Nt.gr k (Nt.ceU k x2)) (K + 70)) := by
 refine zzl (args := [.agg #[.bool a1.s, .slice a1.m.a a1.m.n a1.m.c, .slice a1.d.a a1.d.n a1.d.c, .bool a2.s, .slice a2.m.a a2.m.n a2.m.c, .slice a2.d.a a2.d.n a2.d.c], .int .i64 k]) Tryz.func187 rfl Tryz.ntmps187 (rs := [.cell 4 32]) Tryz.results187 (le_b rfl) (le_b rfl) d ?_
 refine sq9 (zzj 2 ⟨32, a1.cs ++ a2.cs⟩ (zzj 4 ⟨32, [.bool false, .slice none 0 0, .slice none 0 0, .bool false, .slice none 0 0, .slice none 0 0]⟩ (zzb (sq9 (zza 8 (zI k) (zzg 9 27 [.int .i64 k] ?_))))))
 intro w11 u11 e11 d11
 have k16 := k_unit (k := k) d11 xq
 with_reducible refine zPm k16 ?_
 rintro _ u14 g15 ⟨r12, rfl, h13⟩
 refine zzj 5 ⟨26, [.bool false, .slice none 0 0, .slice none 0 0]⟩ (zzi ⟨26, r12.cs⟩ ty26 ?_)
 refine zzb (sq9 (zza 10 (.adr 2 0) (zzh 11 (.v (a1.v)) ty26 zze (zzh 12 (.v (r12.v)) ty26 zze (zzg 13 25 [a1.v, r12.v] ?_)))))
 intro w17 u17 e17 d17
 have k22 := k_rqMul d17 (ha1.ext (e11.trans (g15.ext.trans e17))) (h13.ext e17).raw xq xq
 with_reducible refine zPm k22 ?_
 rintro _ u20 g21 ⟨r18, rfl, h19⟩
 refine zzg 14 87 [r18.v] ?_
 intro w23 u23 e23 d23
 have k28 := k_floor d23 (h19.ext e23).raw xq
 with_reducible refine zPm k28 ?_
 rintro _ u26 g27 ⟨i24, rfl, h25⟩
 refine zxp 15 ⟨104, [.int .u32 1]⟩ 1 (fun b29 u30 e31 h32 => ?_)
 refine zza 16 (.v (.agg #[.bool i24.s, i24.m.v, .slice (some ⟨b29, 0, none⟩) 1 1])) (zzj 6 ⟨26, [.bool false, .slice none 0 0, .slice none 0 0]⟩ (zzi ⟨26, i24.cs ++ [.slice (some ⟨b29, 0, none⟩) 1 1]⟩ ty26 ?_))
 refine zzb (sq9 (zza 17 (.adr 2 3) (zzh 18 (.v (a2.v)) ty26 zze (zzh 19 (.v (r12.v)) ty26 zze (zzg 20 25 [a2.v, r12.v] ?_)))))
 intro w33 u33 e33 d33
 have k38 := k_rqMul d33 (ha2.ext (e11.trans (g15.ext.trans (e17.trans (g21.ext.trans (e23.trans (g27.ext.trans (e31.trans e33)))))))) (h13.ext (e17.trans (g21.ext.trans (e23.trans (g27.ext.trans (e31.trans e33)))))).raw xq xq
 with_reducible refine zPm k38 ?_
 rintro _ u36 g37 ⟨r34, rfl, h35⟩
 refine zzg 21 39 [r34.v] ?_
 intro w39 u39 e39 d39
 have k44 := k_rqNeg d39 (h35.ext e39).raw xq
 with_reducible refine zPm k44 ?_
 rintro _ u42 g43 ⟨r40, rfl, h41⟩
 refine zzg 22 87 [r40.v] ?_
 intro w45 u45 e45 d45
 have k50 := k_floor d45 (h41.ext e45).raw xq
 with_reducible refine zPm k50 ?_
 rintro _ u48 g49 ⟨i46, rfl, h47⟩
 refine zxp 23 ⟨104, [.int .u32 1]⟩ 1 (fun b51 u52 e53 h54 => ?_)
 refine zza 24 (.v (.agg #[.bool i46.s, i46.m.v, .slice (some ⟨b51, 0, none⟩) 1 1])) (zzg 25 39 [.agg #[.bool i46.s, i46.m.v, .slice (some ⟨b51, 0, none⟩) 1 1]] ?_)
 intro w55 u55 e55 d55
 have k60 := k_rqNeg d55 (rat_mk2 (s := i46.s) (h47.ext (e53.trans e55)).raw ((one_data h54).ext e55).raw) xq
 with_reducible refine zPm k60 ?_
 rintro _ u58 g59 ⟨r56, rfl, h57⟩
 refine zzj 7 ⟨26, [.bool false, .slice none 0 0, .slice none 0 0]⟩ (zzi ⟨26, r56.cs⟩ ty26 ?_)
 refine zzb (zzd (zzy [0, 0, 3, 0, 0, 31, 63, 127] [(0, []), (1, []), (3, []), (4, []), (2, []), (5, []), (6, []), (7, [])] xk xk (zzh 26 (.v (.agg #[.bool i24.s, i24.m.v, .slice (some ⟨b29, 0, none⟩) 1 1])) ty26 zze (zzh 27 (.v (r12.v)) ty26 zze (zzh 29 (.v (r56.v)) ty26 zze (zzh 30 (.v (r12.v)) ty26 zze (zzg 28 88 [.agg #[.bool i24.s, i24.m.v, .slice (some ⟨b29, 0, none⟩) 1 1], r12.v] ?_)))))))
 intro w61 u61 e61 d61
 have k66 := k_rqOver d61 (rat_mk2 (s := i24.s) (h25.ext (e31.trans (e33.trans (g37.ext.trans (e39.trans (g43.ext.trans (e45.trans (g49.ext.trans (e53.trans (e55.trans (g59.ext.trans e61))))))))))).raw ((one_data h32).ext (e33.trans (g37.ext.trans (e39.trans (g43.ext.trans (e45.trans (g49.ext.trans (e53.trans (e55.trans (g59.ext.trans e61)))))))))).raw) (h13.ext (e17.trans (g21.ext.trans (e23.trans (g27.ext.trans (e31.trans (e33.trans (g37.ext.trans (e39.trans (g43.ext.trans (e45.trans (g49.ext.trans (e53.trans (e55.trans (g59.ext.trans e61))))))))))))))).raw xq xq
 with_reducible refine zPm k66 ?_
 rintro _ u64 g65 ⟨r62, rfl, h63⟩
 refine zzg 31 88 [r56.v, r12.v] ?_
 intro w67 u67 e67 d67
 have k72 := k_rqOver d67 (h57.ext (e61.trans (g65.ext.trans e67))).raw (h13.ext (e17.trans (g21.ext.trans (e23.trans (g27.ext.trans (e31.trans (e33.trans (g37.ext.trans (e39.trans (g43.ext.trans (e45.trans (g49.ext.trans (e53.trans (e55.trans (g59.ext.trans (e61.trans (g65.ext.trans e67))))))))))))))))).raw xq xq
 with_reducible refine zPm k72 ?_
 rintro _ u70 g71 ⟨r68, rfl, h69⟩
 refine zza 32 (.v (.agg #[.bool r62.s, r62.m.v, r62.d.v, .bool r68.s, r68.m.v, r68.d.v])) (zzi ⟨32, r62.cs ++ r68.cs⟩ ty32 ?_)
 refine zzc 33 [(4, .adr 4 0)] [(4, ⟨32, r62.cs ++ r68.cs⟩)] (zzn (ret0 [.agg #[.bool r62.s, .slice r62.m.a r62.m.n r62.m.c, .slice r62.d.a r62.d.n r62.d.c, .bool r68.s, .slice r68.m.a r68.m.n r68.m.c, .slice r68.d.a r68.d.n r68.d.c]] ⟨zzq ty32 zze, trivial⟩ fun u73 e74 => ?_))
 refine ⟨r62, r68, rfl, RatN.more (K := ((max (max ((K + (k / 32 + 2) + 1) + 1) 1) 1) + (k / 32 + 2) + 2)) ?_ xq, RatN.more (K := ((max (max ((K + (k / 32 + 2) + 1) + 1) 1) 1) + (k / 32 + 2) + 2)) ?_ xq⟩
 ·have h9 := (h63.ext (e67.trans (g71.ext.trans e74)))
  rw [Nt.mk_one] at h9
  exact h9
 ·have h9 := (h69.ext e74)
  rw [Nt.mk_one, ← Rat.intCast_neg] at h9
  exact h9
set_option maxHeartbeats 4000000 in
theorem k_atan {u w : World} {n k : Nat} (d : Dat u w) (hn : 2 ≤ n) (hn2 : n ≤ 1000) (hk : k ≤ 800) : Calls Tryz.prog 185 #[.int .i64 (n : Int), .int .i64 (k : Int)] w (Post u w fun v u' => ∃ (r1 r2 : RL) (a b : Int), v = IV r1 r2 ∧ RatN u' r1 (Nt.gr k a) 40 ∧ RatN u' r2 (Nt.gr k b) 40 ∧ Nt.AtR n k a b) := by
 have hN2 : 4 ≤ n * n := Nat.mul_le_mul hn hn
 have hN3 : n * n ≤ 1000000 := Nat.mul_le_mul hn2 hn2
 have hbig := Nt.big hk
 have hu2 := Nt.u2_pos k
 refine zzl (args := [.int .i64 n, .int .i64 k]) Tryz.func185 rfl Tryz.ntmps185 (rs := [.cell 4 32]) Tryz.results185 (le_b rfl) (le_b rfl) d ?_
 refine sq9 (zzj 4 ⟨32, [.bool false, .slice none 0 0, .slice none 0 0, .bool false, .slice none 0 0, .slice none 0 0]⟩ (zzb (sq9 (zzg 11 30 [.int .i64 0] ?_))))
 intro w11 u11 e11 d11
 have k16 := k_rqOf d11 (z := 0) xq xq
 with_reducible refine zPm k16 ?_
 rintro _ u14 g15 ⟨r12, rfl, h13⟩
 refine zzg 12 30 [.int .i64 0] ?_
 intro w17 u17 e17 d17
 have k22 := k_rqOf d17 (z := 0) xq xq
 with_reducible refine zPm k22 ?_
 rintro _ u20 g21 ⟨r18, rfl, h19⟩
 refine zzg 13 38 [r12.v, r18.v] ?_
 intro w23 u23 e23 d23
 have k30 := k_r4Make d23 (h13.ext (e17.trans (g21.ext.trans e23))).raw (h19.ext e23).raw xq
 with_reducible refine zPm k30 ?_
 rintro _ u28 g29 ⟨r24, r26, rfl, h25, h27⟩
 refine zzj 5 ⟨32, [.bool false, .slice none 0 0, .slice none 0 0, .bool false, .slice none 0 0, .slice none 0 0]⟩ (zzi ⟨32, r24.cs ++ r26.cs⟩ ty32 ?_)
 refine zzb (sq9 (zza 14 (zI n) (zzg 15 75 [.int .i64 1, .int .i64 n] ?_)))
 intro w31 u31 e31 d31
 have k36 := k_rqFrac d31 (a := 1) (b := (n : Int)) xq xq xq xq
 with_reducible refine zPm k36 ?_
 rintro _ u34 g35 ⟨r32, rfl, h33⟩
 refine zza 16 (zI n) (zzg 17 75 [.int .i64 1, .int .i64 n] ?_)
 intro w37 u37 e37 d37
 have k42 := k_rqFrac d37 (a := 1) (b := (n : Int)) xq xq xq xq
 with_reducible refine zPm k42 ?_
 rintro _ u40 g41 ⟨r38, rfl, h39⟩
 refine zzg 18 38 [r32.v, r38.v] ?_
 intro w43 u43 e43 d43
 have k50 := k_r4Make d43 (h33.ext (e37.trans (g41.ext.trans e43))).raw (h39.ext e43).raw xq
 with_reducible refine zPm k50 ?_
 rintro _ u48 g49 ⟨r44, r46, rfl, h45, h47⟩
 refine zzj 6 ⟨32, [.bool false, .slice none 0 0, .slice none 0 0, .bool false, .slice none 0 0, .slice none 0 0]⟩ (zzi ⟨32, r44.cs ++ r46.cs⟩ ty32 ?_)
 refine zzb (sq9 (zzh 19 (.v (.agg #[.bool r44.s, r44.m.v, r44.d.v, .bool r46.s, r46.m.v, r46.d.v])) ty32 zze (zza 20 (zI k) (zzg 21 187 [.agg #[.bool r44.s, r44.m.v, r44.d.v, .bool r46.s, r46.m.v, r46.d.v], .int .i64 k] ?_))))
 intro w51 u51 e51 d51
 have k58 := k_wide (k := k) d51 (h45.ext e51).raw (h47.ext e51).raw xq xq
 with_reducible refine zPm k58 ?_
 rintro _ u56 g57 ⟨r52, r54, rfl, h53, h55⟩
 refine zzi ⟨32, r52.cs ++ r54.cs⟩ ty32 ?_
 refine zzb (sq9 (zza 22 (zI n) (zza 23 (zI n) (zyn 24 (x := zI (IntKind.i64.wrap ((n : Int) * (n : Int)))) (zI (n * n : Nat)) (eqI (by rw [← Int.natCast_mul]; exact IntWalk.i64_in _ xq)) (zzg 25 75 [.int .i64 1, .int .i64 (n * n : Nat)] ?_)))))
 intro w59 u59 e59 d59
 have k64 := k_rqFrac d59 (a := 1) (b := ((n * n : Nat) : Int)) xq xq xq xq
 with_reducible refine zPm k64 ?_
 rintro _ u62 g63 ⟨r60, rfl, h61⟩
 refine zza 26 (zI n) (zza 27 (zI n) (zyn 28 (x := zI (IntKind.i64.wrap ((n : Int) * (n : Int)))) (zI (n * n : Nat)) (eqI (by rw [← Int.natCast_mul]; exact IntWalk.i64_in _ xq)) (zzg 29 75 [.int .i64 1, .int .i64 (n * n : Nat)] ?_)))
 intro w65 u65 e65 d65
 have k70 := k_rqFrac d65 (a := 1) (b := ((n * n : Nat) : Int)) xq xq xq xq
 with_reducible refine zPm k70 ?_
 rintro _ u68 g69 ⟨r66, rfl, h67⟩
 refine zzg 30 38 [r60.v, r66.v] ?_
 intro w71 u71 e71 d71
 have k78 := k_r4Make d71 (h61.ext (e65.trans (g69.ext.trans e71))).raw (h67.ext e71).raw xq
 with_reducible refine zPm k78 ?_
 rintro _ u76 g77 ⟨r72, r74, rfl, h73, h75⟩
 refine zzj 7 ⟨32, [.bool false, .slice none 0 0, .slice none 0 0, .bool false, .slice none 0 0, .slice none 0 0]⟩ (zzi ⟨32, r72.cs ++ r74.cs⟩ ty32 ?_)
 refine zzb (sq9 (zzg 31 30 [.int .i64 1] ?_))
 intro w79 u79 e79 d79
 have k84 := k_rqOf d79 (z := 1) xq xq
 with_reducible refine zPm k84 ?_
 rintro _ u82 g83 ⟨r80, rfl, h81⟩
 refine zza 32 (zI k) (zzg 33 27 [.int .i64 k] ?_)
 intro w85 u85 e85 d85
 have k90 := k_unit (k := k) d85 xq
 with_reducible refine zPm k90 ?_
 rintro _ u88 g89 ⟨r86, rfl, h87⟩
 refine zzg 34 88 [r80.v, r86.v] ?_
 intro w91 u91 e91 d91
 have k96 := k_rqOver d91 (h81.ext (e85.trans (g89.ext.trans e91))).raw (h87.ext e91).raw xq xq
 with_reducible refine zPm k96 ?_
 rintro _ u94 g95 ⟨r92, rfl, h93⟩
 refine zzj 8 ⟨26, [.bool false, .slice none 0 0, .slice none 0 0]⟩ (zzi ⟨26, r92.cs⟩ ty26 ?_)
 refine zzc 80 [(1, zI k), (4, .adr 4 0), (5, .adr 5 0), (6, .adr 6 0), (7, .adr 7 0), (8, .adr 8 0)] [(4, ⟨32, [.bool false, .slice none 0 0, .slice none 0 0, .bool false, .slice none 0 0, .slice none 0 0]⟩), (5, ⟨32, r24.cs ++ r26.cs⟩), (6, ⟨32, r52.cs ++ r54.cs⟩), (7, ⟨32, r72.cs ++ r74.cs⟩), (8, ⟨26, r92.cs⟩)] (sq9 (zza 9 (zI 0) (zzb (zzs (zyl (I := fun m97 S' u' => ∃ (j : Nat) (x1 : RL) (x2 : RL) (y1 : RL) (y2 : RL) (a : Int) (b : Int) (cc : Int) (dd : Int), (m97 = b.toNat) ∧ (Nt.AtF n k j a b cc dd) ∧ (S' = St.of 80 [(1, zI k), (4, .adr 4 0), (5, .adr 5 0), (6, .adr 6 0), (7, .adr 7 0), (8, .adr 8 0), (9, zI j)] [(4, ⟨32, [.bool false, .slice none 0 0, .slice none 0 0, .bool false, .slice none 0 0, .slice none 0 0]⟩), (5, ⟨32, y1.cs ++ y2.cs⟩), (6, ⟨32, x1.cs ++ x2.cs⟩), (7, ⟨32, r72.cs ++ r74.cs⟩), (8, ⟨26, r92.cs⟩)]) ∧ (Ext u94 u') ∧ (RatN u' x1 (Nt.gr k a) 40) ∧ (RatN u' x2 (Nt.gr k b) 40) ∧ (RatN u' y1 (Nt.gr k cc) 40) ∧ (RatN u' y2 (Nt.gr k dd) 40)) (fun m S u1 u2 e h => by obtain ⟨j, x1, x2, y1, y2, a, b, cc, dd, hm, p0, hS, hE, f0, f1, f2, f3⟩ := h; exact ⟨j, x1, x2, y1, y2, a, b, cc, dd, hm, p0, hS, hE.trans e, f0.ext e, f1.ext e, f2.ext e, f3.ext e⟩) _ yq ⟨0, r52, r54, r24, r26, (Nt.u2 k / (n : Int)), (Nt.cdiv (Nt.u2 k) (n : Int)), 0, 0, rfl, (Nt.AtF.start xq), rfl, (Ext.refl _), (RatN.limG (by have h9 := (h53.ext (e59.trans (g63.ext.trans (e65.trans (g69.ext.trans (e71.trans (g77.ext.trans (e79.trans (g83.ext.trans (e85.trans (g89.ext.trans (e91.trans g95.ext)))))))))))); rw [Nt.lo_self, show (((1 : Int) : Rat) / ((n : Int) : Rat)) = Nt.fr1 (n : Int) from rfl, (Nt.fl_fr xq).1] at h9; exact h9) (by have h8 := (Nt.AtF.start (n := n) (w := k) xq).bd xq; have h7 := (Nt.AtF.start (n := n) (w := k) xq).ab; have h6 := (Nt.AtF.start (n := n) (w := k) xq).p0; omega) (by have h8 := (Nt.AtF.start (n := n) (w := k) xq).bd xq; have h7 := (Nt.AtF.start (n := n) (w := k) xq).ab; have h6 := (Nt.AtF.start (n := n) (w := k) xq).p0; omega) hk), (RatN.limG (by have h9 := (h55.ext (e59.trans (g63.ext.trans (e65.trans (g69.ext.trans (e71.trans (g77.ext.trans (e79.trans (g83.ext.trans (e85.trans (g89.ext.trans (e91.trans g95.ext)))))))))))); rw [Nt.hi_self, show (((1 : Int) : Rat) / ((n : Int) : Rat)) = Nt.fr1 (n : Int) from rfl, (Nt.fl_fr xq).2] at h9; exact h9) (by have h8 := (Nt.AtF.start (n := n) (w := k) xq).bd xq; have h7 := (Nt.AtF.start (n := n) (w := k) xq).ab; have h6 := (Nt.AtF.start (n := n) (w := k) xq).p0; omega) (by have h8 := (Nt.AtF.start (n := n) (w := k) xq).bd xq; have h7 := (Nt.AtF.start (n := n) (w := k) xq).ab; have h6 := (Nt.AtF.start (n := n) (w := k) xq).p0; omega) hk), (by have h9 := (h25.ext (e31.trans (g35.ext.trans (e37.trans (g41.ext.trans (e43.trans (g49.ext.trans (e51.trans (g57.ext.trans (e59.trans (g63.ext.trans (e65.trans (g69.ext.trans (e71.trans (g77.ext.trans (e79.trans (g83.ext.trans (e85.trans (g89.ext.trans (e91.trans g95.ext)))))))))))))))))))); rw [Nt.lo_self, show ((0 : Int) : Rat) = Nt.gr k 0 from (Nt.gr_zero k).symm] at h9; exact RatN.more h9 xq), (by have h9 := (h27.ext (e31.trans (g35.ext.trans (e37.trans (g41.ext.trans (e43.trans (g49.ext.trans (e51.trans (g57.ext.trans (e59.trans (g63.ext.trans (e65.trans (g69.ext.trans (e71.trans (g77.ext.trans (e79.trans (g83.ext.trans (e85.trans (g89.ext.trans (e91.trans g95.ext)))))))))))))))))))); rw [Nt.hi_self, show ((0 : Int) : Rat) = Nt.gr k 0 from (Nt.gr_zero k).symm] at h9; exact RatN.more h9 xq)⟩ ?_)))))
 rintro m97 _ u97 ⟨j, x1, x2, y1, y2, a, b, cc, dd, hm97, hI, rfl, e97, f0, f1, f2, f3⟩
 have hjw := hI.kw
 have hbd := hI.bd xq
 have hab := hI.ab
 have hcd := hI.cd
 have hp0 := hI.p0
 have hp1 := hI.p1
 refine zzd (zzs (zzd (zzy [0, 0, 2, 6, 14, 0, 32, 96, 254, 510, 1023, 0, 4095] [(0, []), (1, []), (2, []), (3, []), (5, []), (6, []), (7, []), (11, []), (4, []), (8, []), (9, []), (10, []), (12, [])] xk xk (zzh 37 (.v (.agg #[.bool x1.s, x1.m.v, x1.d.v, .bool x2.s, x2.m.v, x2.d.v])) ty32 zze (zza 38 (zI j) (zyn 39 (x := zI (IntKind.i64.wrap ((2 : Int) * (j : Int)))) (zI (2 * j : Nat)) (eqI xj) (zyn 40 (x := zI (IntKind.i64.wrap (((2 * j : Nat) : Int) + 1))) (zI (((2 * j) + 1 : Nat) : Int)) (eqI xj) (zza 42 (zI j) (zyn 43 (x := zI (IntKind.i64.wrap ((2 : Int) * (j : Int)))) (zI (2 * j : Nat)) (eqI xj) (zyn 44 (x := zI (IntKind.i64.wrap (((2 * j : Nat) : Int) + 1))) (zI (((2 * j) + 1 : Nat) : Int)) (eqI xj) (zzj 10 ⟨32, [.bool false, .slice none 0 0, .slice none 0 0, .bool false, .slice none 0 0, .slice none 0 0]⟩ ?_)))))))))))
 refine zzg 41 75 [.int .i64 1, .int .i64 (((2 * j) + 1 : Nat) : Int)] ?_
 intro w98 u98 e98 d98
 have k103 := k_rqFrac d98 (a := 1) (b := (((2 * j) + 1 : Nat) : Int)) xq xq xq xq
 with_reducible refine zPm k103 ?_
 rintro _ u101 g102 ⟨r99, rfl, h100⟩
 refine zzg 45 75 [.int .i64 1, .int .i64 (((2 * j) + 1 : Nat) : Int)] ?_
 intro w104 u104 e104 d104
 have k109 := k_rqFrac d104 (a := 1) (b := (((2 * j) + 1 : Nat) : Int)) xq xq xq xq
 with_reducible refine zPm k109 ?_
 rintro _ u107 g108 ⟨r105, rfl, h106⟩
 refine zzg 46 38 [r99.v, r105.v] ?_
 intro w110 u110 e110 d110
 have k117 := k_r4Make d110 (h100.ext (e104.trans (g108.ext.trans e110))).raw (h106.ext e110).raw xq
 with_reducible refine zPm k117 ?_
 rintro _ u115 g116 ⟨r111, r113, rfl, h112, h114⟩
 refine zzg 47 68 [.agg #[.bool x1.s, x1.m.v, x1.d.v, .bool x2.s, x2.m.v, x2.d.v], .agg #[.bool r111.s, r111.m.v, r111.d.v, .bool r113.s, r113.m.v, r113.d.v]] ?_
 intro w118 u118 e118 d118
 have k125 := k_r4Mul d118 (f0.ext (e98.trans (g102.ext.trans (e104.trans (g108.ext.trans (e110.trans (g116.ext.trans e118))))))).raw (f1.ext (e98.trans (g102.ext.trans (e104.trans (g108.ext.trans (e110.trans (g116.ext.trans e118))))))).raw (h112.ext e118).raw (h114.ext e118).raw xq xq
 with_reducible refine zPm k125 ?_
 rintro _ u123 g124 ⟨r119, r121, rfl, h120, h122⟩
 refine zzi ⟨32, r119.cs ++ r121.cs⟩ ty32 ?_
 refine zzb (zzd (zzd ?_))
 have hn126 : RatN u123 r119 (Nt.gr k a * (Nt.fr1 ((2 * j + 1 : Nat) : Int))) (40 + 3 + 1) := by have h9 := h120; rw [show (Nt.lo4 ((Nt.gr k a) * (Nt.lo (((1 : Int) : Rat) / (((((2 * j) + 1 : Nat) : Int) : Int) : Rat)) (((1 : Int) : Rat) / (((((2 * j) + 1 : Nat) : Int) : Int) : Rat)))) ((Nt.gr k a) * (Nt.hi (((1 : Int) : Rat) / (((((2 * j) + 1 : Nat) : Int) : Int) : Rat)) (((1 : Int) : Rat) / (((((2 * j) + 1 : Nat) : Int) : Int) : Rat)))) ((Nt.gr k b) * (Nt.lo (((1 : Int) : Rat) / (((((2 * j) + 1 : Nat) : Int) : Int) : Rat)) (((1 : Int) : Rat) / (((((2 * j) + 1 : Nat) : Int) : Int) : Rat)))) ((Nt.gr k b) * (Nt.hi (((1 : Int) : Rat) / (((((2 * j) + 1 : Nat) : Int) : Int) : Rat)) (((1 : Int) : Rat) / (((((2 * j) + 1 : Nat) : Int) : Int) : Rat))))) = (Nt.gr k a * (Nt.fr1 ((2 * j + 1 : Nat) : Int))) from (Nt.at_t hab xq).1] at h9; exact h9
 have hn127 : RatN u123 r121 (Nt.gr k b * (Nt.fr1 ((2 * j + 1 : Nat) : Int))) (40 + 3 + 1) := by have h9 := h122; rw [show (Nt.hi4 ((Nt.gr k a) * (Nt.lo (((1 : Int) : Rat) / (((((2 * j) + 1 : Nat) : Int) : Int) : Rat)) (((1 : Int) : Rat) / (((((2 * j) + 1 : Nat) : Int) : Int) : Rat)))) ((Nt.gr k a) * (Nt.hi (((1 : Int) : Rat) / (((((2 * j) + 1 : Nat) : Int) : Int) : Rat)) (((1 : Int) : Rat) / (((((2 * j) + 1 : Nat) : Int) : Int) : Rat)))) ((Nt.gr k b) * (Nt.lo (((1 : Int) : Rat) / (((((2 * j) + 1 : Nat) : Int) : Int) : Rat)) (((1 : Int) : Rat) / (((((2 * j) + 1 : Nat) : Int) : Int) : Rat)))) ((Nt.gr k b) * (Nt.hi (((1 : Int) : Rat) / (((((2 * j) + 1 : Nat) : Int) : Int) : Rat)) (((1 : Int) : Rat) / (((((2 * j) + 1 : Nat) : Int) : Int) : Rat))))) = (Nt.gr k b * (Nt.fr1 ((2 * j + 1 : Nat) : Int))) from (Nt.at_t hab xq).2] at h9; exact h9
 refine zzf (zza 48 (.adr 10 3) (zzh 49 (.v (r121.v)) ty26 zze (zzh 50 (.v (r92.v)) ty26 zze (zzg 51 28 [r121.v, r92.v] ?_))))
 intro w128 u128 e128 d128
 have k131 := k_rqCompare d128 (hn127.ext e128).raw (h93.ext (e97.trans (e98.trans (g102.ext.trans (e104.trans (g108.ext.trans (e110.trans (g116.ext.trans (e118.trans (g124.ext.trans e128)))))))))).raw xq xq
 with_reducible refine zPm k131 ?_
 rintro _ u129 g130 rfl
 refine zza 52 (zB (decide ((Nt.cmpQ (Nt.gr k b * (Nt.fr1 ((2 * j + 1 : Nat) : Int))) (((1 : Int) : Rat) / (((2 ^ k : Nat) : Int) : Rat))) ≤ 0))) (zzb (zzt (b := decide ((Nt.cmpQ (Nt.gr k b * (Nt.fr1 ((2 * j + 1 : Nat) : Int))) (((1 : Int) : Rat) / (((2 ^ k : Nat) : Int) : Rat))) ≤ 0)) xk (fun hb132 => ?_) (fun hb132 => ?_)))
 ·replace hb132 : (decide ((Nt.cmpQ (Nt.gr k b * (Nt.fr1 ((2 * j + 1 : Nat) : Int))) (((1 : Int) : Rat) / (((2 ^ k : Nat) : Int) : Rat))) ≤ 0)) = true := hb132
  have qhb132 := of_decide_eq_true hb132
  refine zzd (zzy [0, 0, 2, 6, 0, 16, 62, 127, 0, 511, 1023] [(0, []), (1, []), (2, []), (4, []), (5, []), (8, []), (3, []), (6, []), (7, []), (9, []), (10, [])] xk xk (zzh 53 (.v (.agg #[.bool y1.s, y1.m.v, y1.d.v, .bool y2.s, y2.m.v, y2.d.v])) ty32 zze (zza 54 (.adr 10 3) (zzh 55 (.v (r121.v)) ty26 zze (zza 57 (.adr 10 3) (zzh 58 (.v (r121.v)) ty26 zze (zza 61 (zI k) (zzg 56 39 [r121.v] ?_))))))))
  intro w133 u133 e133 d133
  have k138 := k_rqNeg d133 (hn127.ext (e128.trans (g130.ext.trans e133))).raw xq
  with_reducible refine zPm k138 ?_
  rintro _ u136 g137 ⟨r134, rfl, h135⟩
  refine zzg 59 38 [r134.v, r121.v] ?_
  intro w139 u139 e139 d139
  have k146 := k_r4Make d139 (h135.ext e139).raw (hn127.ext (e128.trans (g130.ext.trans (e133.trans (g137.ext.trans e139))))).raw xq
  with_reducible refine zPm k146 ?_
  rintro _ u144 g145 ⟨r140, r142, rfl, h141, h143⟩
  refine zzg 60 43 [.agg #[.bool y1.s, y1.m.v, y1.d.v, .bool y2.s, y2.m.v, y2.d.v], .agg #[.bool r140.s, r140.m.v, r140.d.v, .bool r142.s, r142.m.v, r142.d.v]] ?_
  intro w147 u147 e147 d147
  have k154 := k_r4Add d147 (f2.ext (e98.trans (g102.ext.trans (e104.trans (g108.ext.trans (e110.trans (g116.ext.trans (e118.trans (g124.ext.trans (e128.trans (g130.ext.trans (e133.trans (g137.ext.trans (e139.trans (g145.ext.trans e147))))))))))))))).raw (f3.ext (e98.trans (g102.ext.trans (e104.trans (g108.ext.trans (e110.trans (g116.ext.trans (e118.trans (g124.ext.trans (e128.trans (g130.ext.trans (e133.trans (g137.ext.trans (e139.trans (g145.ext.trans e147))))))))))))))).raw (h141.ext e147).raw (h143.ext e147).raw xq xq
  with_reducible refine zPm k154 ?_
  rintro _ u152 g153 ⟨r148, r150, rfl, h149, h151⟩
  refine zzg 62 187 [.agg #[.bool r148.s, r148.m.v, r148.d.v, .bool r150.s, r150.m.v, r150.d.v], .int .i64 k] ?_
  intro w155 u155 e155 d155
  have k162 := k_wide (k := k) d155 (h149.ext e155).raw (h151.ext e155).raw xq xq
  with_reducible refine zPm k162 ?_
  rintro _ u160 g161 ⟨r156, r158, rfl, h157, h159⟩
  refine zzi ⟨32, r156.cs ++ r158.cs⟩ ty32 ?_
  refine zzb (zzn (zzv (zyr (zzv (zyq (zyr (ret0 [.agg #[.bool r156.s, .slice r156.m.a r156.m.n r156.m.c, .slice r156.d.a r156.d.n r156.d.c, .bool r158.s, .slice r158.m.a r158.m.n r158.m.c, .slice r158.d.a r158.d.n r158.d.c]] ⟨zzq ty32 zze, trivial⟩ fun u163 e164 => ?_)))))))
  have hle : b ≤ ((2 * j + 1 : Nat) : Int) := by have h9 := hb132; rw [show (((1 : Int) : Rat) / (((2 ^ k : Nat) : Int) : Rat)) = Nt.gr k 1 from rfl, Nt.at_end xq] at h9; exact of_decide_eq_true h9
  have ho := hI.out xq hle
  have hob := Nt.atR_bd ho xq
  refine ⟨r156, r158, _, _, rfl, RatN.limG (z := (cc - Nt.cdiv b ((2 * j + 1 : Nat) : Int))) (K := ((40 + (40 + 3 + 1) + 2) + 70)) ?_ xq xq hk, RatN.limG (z := (dd + Nt.cdiv b ((2 * j + 1 : Nat) : Int))) (K := ((40 + (40 + 3 + 1) + 2) + 70)) ?_ xq xq hk, ho⟩
  ·have h9 := (h157.ext e164)
   rw [(Nt.at_o xq hcd xq).1] at h9
   exact h9
  ·have h9 := (h159.ext e164)
   rw [(Nt.at_o xq hcd xq).2] at h9
   exact h9
 ·replace hb132 : (decide ((Nt.cmpQ (Nt.gr k b * (Nt.fr1 ((2 * j + 1 : Nat) : Int))) (((1 : Int) : Rat) / (((2 ^ k : Nat) : Int) : Rat))) ≤ 0)) = false := hb132
  have qhb132 := of_decide_eq_false hb132
  refine zzr (zzo ?_)
  refine zzd (sq9 (zza 63 (zI j) (zza 64 (zI (Int.tmod (j : Int) 2)) (zza 65 (zB ((Int.tmod (j : Int) 2) == 0)) (zzb (zzt (b := (Int.tmod (j : Int) 2) == 0) xk (fun hb165 => ?_) (fun hb165 => ?_)))))))
  ·replace hb165 : ((Int.tmod (j : Int) 2) == 0) = true := hb165
   have ehb165 : Int.tmod (j : Int) 2 = (j : Int) % 2 := Int.tmod_eq_emod_of_nonneg xq
   have q2hb165 :  j % 2 = 0 := by have h9 := hb165; rw [ehb165] at h9; simp at h9; omega
   refine zzf (zzh 66 (.v (.agg #[.bool y1.s, y1.m.v, y1.d.v, .bool y2.s, y2.m.v, y2.d.v])) ty32 zze (zzh 67 (.v (.agg #[.bool r119.s, r119.m.v, r119.d.v, .bool r121.s, r121.m.v, r121.d.v])) ty32 zze (zzg 68 43 [.agg #[.bool y1.s, y1.m.v, y1.d.v, .bool y2.s, y2.m.v, y2.d.v], .agg #[.bool r119.s, r119.m.v, r119.d.v, .bool r121.s, r121.m.v, r121.d.v]] ?_)))
   intro w166 u166 e166 d166
   have k173 := k_r4Add d166 (f2.ext (e98.trans (g102.ext.trans (e104.trans (g108.ext.trans (e110.trans (g116.ext.trans (e118.trans (g124.ext.trans (e128.trans (g130.ext.trans e166))))))))))).raw (f3.ext (e98.trans (g102.ext.trans (e104.trans (g108.ext.trans (e110.trans (g116.ext.trans (e118.trans (g124.ext.trans (e128.trans (g130.ext.trans e166))))))))))).raw (hn126.ext (e128.trans (g130.ext.trans e166))).raw (hn127.ext (e128.trans (g130.ext.trans e166))).raw xq xq
   with_reducible refine zPm k173 ?_
   rintro _ u171 g172 ⟨r167, r169, rfl, h168, h170⟩
   refine zzi ⟨32, r167.cs ++ r169.cs⟩ ty32 ?_
   refine zzb (sq9 (zzh 72 (.v (.agg #[.bool r167.s, r167.m.v, r167.d.v, .bool r169.s, r169.m.v, r169.d.v])) ty32 zze (zza 73 (zI k) (zzg 74 187 [.agg #[.bool r167.s, r167.m.v, r167.d.v, .bool r169.s, r169.m.v, r169.d.v], .int .i64 k] ?_))))
   intro w174 u174 e174 d174
   have k181 := k_wide (k := k) d174 (h168.ext e174).raw (h170.ext e174).raw xq xq
   with_reducible refine zPm k181 ?_
   rintro _ u179 g180 ⟨r175, r177, rfl, h176, h178⟩
   refine zzi ⟨32, r175.cs ++ r177.cs⟩ ty32 ?_
   refine zzb ?_
   have hn182 : RatN u179 r175 (Nt.gr k (cc + a / ((2 * j + 1 : Nat) : Int))) ((40 + (40 + 3 + 1) + 2) + 70) := by have h9 := h176; rw [show (Nt.gr k (Nt.flU k (Nt.lo (Nt.gr k cc) (Nt.gr k dd) + Nt.lo (Nt.gr k a * (Nt.fr1 ((2 * j + 1 : Nat) : Int))) (Nt.gr k b * (Nt.fr1 ((2 * j + 1 : Nat) : Int)))))) = (Nt.gr k (cc + a / ((2 * j + 1 : Nat) : Int))) from (by rw [(Nt.at_a (D := ((2 * j + 1 : Nat) : Int)) hab hcd xq).1])] at h9; exact h9
   have hn183 : RatN u179 r177 (Nt.gr k (dd + Nt.cdiv b ((2 * j + 1 : Nat) : Int))) ((40 + (40 + 3 + 1) + 2) + 70) := by have h9 := h178; rw [show (Nt.gr k (Nt.ceU k (Nt.hi (Nt.gr k cc) (Nt.gr k dd) + Nt.hi (Nt.gr k a * (Nt.fr1 ((2 * j + 1 : Nat) : Int))) (Nt.gr k b * (Nt.fr1 ((2 * j + 1 : Nat) : Int)))))) = (Nt.gr k (dd + Nt.cdiv b ((2 * j + 1 : Nat) : Int))) from (by rw [(Nt.at_a (D := ((2 * j + 1 : Nat) : Int)) hab hcd xq).2])] at h9; exact h9
   refine zzf (zzh 75 (.v (.agg #[.bool x1.s, x1.m.v, x1.d.v, .bool x2.s, x2.m.v, x2.d.v])) ty32 zze (zzh 76 (.v (.agg #[.bool r72.s, r72.m.v, r72.d.v, .bool r74.s, r74.m.v, r74.d.v])) ty32 zze (zzg 77 68 [.agg #[.bool x1.s, x1.m.v, x1.d.v, .bool x2.s, x2.m.v, x2.d.v], .agg #[.bool r72.s, r72.m.v, r72.d.v, .bool r74.s, r74.m.v, r74.d.v]] ?_)))
   intro w184 u184 e184 d184
   have k191 := k_r4Mul d184 (f0.ext (e98.trans (g102.ext.trans (e104.trans (g108.ext.trans (e110.trans (g116.ext.trans (e118.trans (g124.ext.trans (e128.trans (g130.ext.trans (e166.trans (g172.ext.trans (e174.trans (g180.ext.trans e184))))))))))))))).raw (f1.ext (e98.trans (g102.ext.trans (e104.trans (g108.ext.trans (e110.trans (g116.ext.trans (e118.trans (g124.ext.trans (e128.trans (g130.ext.trans (e166.trans (g172.ext.trans (e174.trans (g180.ext.trans e184))))))))))))))).raw (h73.ext (e79.trans (g83.ext.trans (e85.trans (g89.ext.trans (e91.trans (g95.ext.trans (e97.trans (e98.trans (g102.ext.trans (e104.trans (g108.ext.trans (e110.trans (g116.ext.trans (e118.trans (g124.ext.trans (e128.trans (g130.ext.trans (e166.trans (g172.ext.trans (e174.trans (g180.ext.trans e184)))))))))))))))))))))).raw (h75.ext (e79.trans (g83.ext.trans (e85.trans (g89.ext.trans (e91.trans (g95.ext.trans (e97.trans (e98.trans (g102.ext.trans (e104.trans (g108.ext.trans (e110.trans (g116.ext.trans (e118.trans (g124.ext.trans (e128.trans (g130.ext.trans (e166.trans (g172.ext.trans (e174.trans (g180.ext.trans e184)))))))))))))))))))))).raw xq xq
   with_reducible refine zPm k191 ?_
   rintro _ u189 g190 ⟨r185, r187, rfl, h186, h188⟩
   refine zza 78 (zI k) (zzg 79 187 [.agg #[.bool r185.s, r185.m.v, r185.d.v, .bool r187.s, r187.m.v, r187.d.v], .int .i64 k] ?_)
   intro w192 u192 e192 d192
   have k199 := k_wide (k := k) d192 (h186.ext e192).raw (h188.ext e192).raw xq xq
   with_reducible refine zPm k199 ?_
   rintro _ u197 g198 ⟨r193, r195, rfl, h194, h196⟩
   refine zzi ⟨32, r193.cs ++ r195.cs⟩ ty32 ?_
   refine zzw ?_
   refine zzo (zzf (zza 35 (zI j) (zyn 36 (x := zI (IntKind.i64.wrap ((j : Int) + 1))) (zI (j + 1 : Nat)) (eqI xj) (zza 9 (zI (j + 1 : Nat)) (zzw ?_)))))
   have hlt : ((2 * j + 1 : Nat) : Int) < b := by have h9 := hb132; rw [show (((1 : Int) : Rat) / (((2 ^ k : Nat) : Int) : Rat)) = Nt.gr k 1 from rfl, Nt.at_end xq] at h9; have h8 := of_decide_eq_false h9; omega
   have hgo := hI.go hn hlt (.inl ⟨q2hb165, rfl, rfl⟩)
   have hb9 := hgo.1.bd xq
   have ha9 := hgo.1.ab
   have hc9 := hgo.1.cd
   have h09 := hgo.1.p0
   have hm9 := hgo.2
   refine ⟨_, ?_, _, by exact zzu _ _ _, j + 1, r193, r195, r175, r177, (a / ((n * n : Nat) : Int)), (Nt.cdiv b ((n * n : Nat) : Int)), (cc + a / ((2 * j + 1 : Nat) : Int)), (dd + Nt.cdiv b ((2 * j + 1 : Nat) : Int)), rfl, hgo.1, rfl, (e97.trans (e98.trans (g102.ext.trans (e104.trans (g108.ext.trans (e110.trans (g116.ext.trans (e118.trans (g124.ext.trans (e128.trans (g130.ext.trans (e166.trans (g172.ext.trans (e174.trans (g180.ext.trans (e184.trans (g190.ext.trans (e192.trans g198.ext)))))))))))))))))), (RatN.limG (by have h9 := h194; rw [show (((1 : Int) : Rat) / ((((n * n : Nat) : Int)) : Rat)) = Nt.fr1 ((n * n : Nat) : Int) from rfl, (Nt.at_x hab xq).1] at h9; exact h9) xq xq hk), (RatN.limG (by have h9 := h196; rw [show (((1 : Int) : Rat) / ((((n * n : Nat) : Int)) : Rat)) = Nt.fr1 ((n * n : Nat) : Int) from rfl, (Nt.at_x hab xq).2] at h9; exact h9) xq xq hk), (RatN.limG (hn182.ext (e184.trans (g190.ext.trans (e192.trans g198.ext)))) xq xq hk), (RatN.limG (hn183.ext (e184.trans (g190.ext.trans (e192.trans g198.ext)))) xq xq hk)⟩
   omega
  ·replace hb165 : ((Int.tmod (j : Int) 2) == 0) = false := hb165
   have ehb165 : Int.tmod (j : Int) 2 = (j : Int) % 2 := Int.tmod_eq_emod_of_nonneg xq
   have q2hb165 : ¬ j % 2 = 0 := by have h9 := hb165; rw [ehb165] at h9; simp at h9; omega
   refine zzf (zzh 69 (.v (.agg #[.bool y1.s, y1.m.v, y1.d.v, .bool y2.s, y2.m.v, y2.d.v])) ty32 zze (zzh 70 (.v (.agg #[.bool r119.s, r119.m.v, r119.d.v, .bool r121.s, r121.m.v, r121.d.v])) ty32 zze (zzg 71 145 [.agg #[.bool y1.s, y1.m.v, y1.d.v, .bool y2.s, y2.m.v, y2.d.v], .agg #[.bool r119.s, r119.m.v, r119.d.v, .bool r121.s, r121.m.v, r121.d.v]] ?_)))
   intro w200 u200 e200 d200
   have k207 := k_r4Sub d200 (f2.ext (e98.trans (g102.ext.trans (e104.trans (g108.ext.trans (e110.trans (g116.ext.trans (e118.trans (g124.ext.trans (e128.trans (g130.ext.trans e200))))))))))).raw (f3.ext (e98.trans (g102.ext.trans (e104.trans (g108.ext.trans (e110.trans (g116.ext.trans (e118.trans (g124.ext.trans (e128.trans (g130.ext.trans e200))))))))))).raw (hn126.ext (e128.trans (g130.ext.trans e200))).raw (hn127.ext (e128.trans (g130.ext.trans e200))).raw xq xq
   with_reducible refine zPm k207 ?_
   rintro _ u205 g206 ⟨r201, r203, rfl, h202, h204⟩
   refine zzi ⟨32, r201.cs ++ r203.cs⟩ ty32 ?_
   refine zzb (sq9 (zzh 72 (.v (.agg #[.bool r201.s, r201.m.v, r201.d.v, .bool r203.s, r203.m.v, r203.d.v])) ty32 zze (zza 73 (zI k) (zzg 74 187 [.agg #[.bool r201.s, r201.m.v, r201.d.v, .bool r203.s, r203.m.v, r203.d.v], .int .i64 k] ?_))))
   intro w208 u208 e208 d208
   have k215 := k_wide (k := k) d208 (h202.ext e208).raw (h204.ext e208).raw xq xq
   with_reducible refine zPm k215 ?_
   rintro _ u213 g214 ⟨r209, r211, rfl, h210, h212⟩
   refine zzi ⟨32, r209.cs ++ r211.cs⟩ ty32 ?_
   refine zzb ?_
   have hn216 : RatN u213 r209 (Nt.gr k (cc - Nt.cdiv b ((2 * j + 1 : Nat) : Int))) ((40 + (40 + 3 + 1) + 2) + 70) := by have h9 := h210; rw [show (Nt.gr k (Nt.flU k (Nt.lo (Nt.gr k cc) (Nt.gr k dd) - Nt.hi (Nt.gr k a * (Nt.fr1 ((2 * j + 1 : Nat) : Int))) (Nt.gr k b * (Nt.fr1 ((2 * j + 1 : Nat) : Int)))))) = (Nt.gr k (cc - Nt.cdiv b ((2 * j + 1 : Nat) : Int))) from (by rw [(Nt.at_s (D := ((2 * j + 1 : Nat) : Int)) hab hcd xq).1])] at h9; exact h9
   have hn217 : RatN u213 r211 (Nt.gr k (dd - a / ((2 * j + 1 : Nat) : Int))) ((40 + (40 + 3 + 1) + 2) + 70) := by have h9 := h212; rw [show (Nt.gr k (Nt.ceU k (Nt.hi (Nt.gr k cc) (Nt.gr k dd) - Nt.lo (Nt.gr k a * (Nt.fr1 ((2 * j + 1 : Nat) : Int))) (Nt.gr k b * (Nt.fr1 ((2 * j + 1 : Nat) : Int)))))) = (Nt.gr k (dd - a / ((2 * j + 1 : Nat) : Int))) from (by rw [(Nt.at_s (D := ((2 * j + 1 : Nat) : Int)) hab hcd xq).2])] at h9; exact h9
   refine zzf (zzh 75 (.v (.agg #[.bool x1.s, x1.m.v, x1.d.v, .bool x2.s, x2.m.v, x2.d.v])) ty32 zze (zzh 76 (.v (.agg #[.bool r72.s, r72.m.v, r72.d.v, .bool r74.s, r74.m.v, r74.d.v])) ty32 zze (zzg 77 68 [.agg #[.bool x1.s, x1.m.v, x1.d.v, .bool x2.s, x2.m.v, x2.d.v], .agg #[.bool r72.s, r72.m.v, r72.d.v, .bool r74.s, r74.m.v, r74.d.v]] ?_)))
   intro w218 u218 e218 d218
   have k225 := k_r4Mul d218 (f0.ext (e98.trans (g102.ext.trans (e104.trans (g108.ext.trans (e110.trans (g116.ext.trans (e118.trans (g124.ext.trans (e128.trans (g130.ext.trans (e200.trans (g206.ext.trans (e208.trans (g214.ext.trans e218))))))))))))))).raw (f1.ext (e98.trans (g102.ext.trans (e104.trans (g108.ext.trans (e110.trans (g116.ext.trans (e118.trans (g124.ext.trans (e128.trans (g130.ext.trans (e200.trans (g206.ext.trans (e208.trans (g214.ext.trans e218))))))))))))))).raw (h73.ext (e79.trans (g83.ext.trans (e85.trans (g89.ext.trans (e91.trans (g95.ext.trans (e97.trans (e98.trans (g102.ext.trans (e104.trans (g108.ext.trans (e110.trans (g116.ext.trans (e118.trans (g124.ext.trans (e128.trans (g130.ext.trans (e200.trans (g206.ext.trans (e208.trans (g214.ext.trans e218)))))))))))))))))))))).raw (h75.ext (e79.trans (g83.ext.trans (e85.trans (g89.ext.trans (e91.trans (g95.ext.trans (e97.trans (e98.trans (g102.ext.trans (e104.trans (g108.ext.trans (e110.trans (g116.ext.trans (e118.trans (g124.ext.trans (e128.trans (g130.ext.trans (e200.trans (g206.ext.trans (e208.trans (g214.ext.trans e218)))))))))))))))))))))).raw xq xq
   with_reducible refine zPm k225 ?_
   rintro _ u223 g224 ⟨r219, r221, rfl, h220, h222⟩
   refine zza 78 (zI k) (zzg 79 187 [.agg #[.bool r219.s, r219.m.v, r219.d.v, .bool r221.s, r221.m.v, r221.d.v], .int .i64 k] ?_)
   intro w226 u226 e226 d226
   have k233 := k_wide (k := k) d226 (h220.ext e226).raw (h222.ext e226).raw xq xq
   with_reducible refine zPm k233 ?_
   rintro _ u231 g232 ⟨r227, r229, rfl, h228, h230⟩
   refine zzi ⟨32, r227.cs ++ r229.cs⟩ ty32 ?_
   refine zzw ?_
   refine zzo (zzf (zza 35 (zI j) (zyn 36 (x := zI (IntKind.i64.wrap ((j : Int) + 1))) (zI (j + 1 : Nat)) (eqI xj) (zza 9 (zI (j + 1 : Nat)) (zzw ?_)))))
   have hlt : ((2 * j + 1 : Nat) : Int) < b := by have h9 := hb132; rw [show (((1 : Int) : Rat) / (((2 ^ k : Nat) : Int) : Rat)) = Nt.gr k 1 from rfl, Nt.at_end xq] at h9; have h8 := of_decide_eq_false h9; omega
   have hgo := hI.go hn hlt (.inr ⟨q2hb165, rfl, rfl⟩)
   have hb9 := hgo.1.bd xq
   have ha9 := hgo.1.ab
   have hc9 := hgo.1.cd
   have h09 := hgo.1.p0
   have hm9 := hgo.2
   refine ⟨_, ?_, _, by exact zzu _ _ _, j + 1, r227, r229, r209, r211, (a / ((n * n : Nat) : Int)), (Nt.cdiv b ((n * n : Nat) : Int)), (cc - Nt.cdiv b ((2 * j + 1 : Nat) : Int)), (dd - a / ((2 * j + 1 : Nat) : Int)), rfl, hgo.1, rfl, (e97.trans (e98.trans (g102.ext.trans (e104.trans (g108.ext.trans (e110.trans (g116.ext.trans (e118.trans (g124.ext.trans (e128.trans (g130.ext.trans (e200.trans (g206.ext.trans (e208.trans (g214.ext.trans (e218.trans (g224.ext.trans (e226.trans g232.ext)))))))))))))))))), (RatN.limG (by have h9 := h228; rw [show (((1 : Int) : Rat) / ((((n * n : Nat) : Int)) : Rat)) = Nt.fr1 ((n * n : Nat) : Int) from rfl, (Nt.at_x hab xq).1] at h9; exact h9) xq xq hk), (RatN.limG (by have h9 := h230; rw [show (((1 : Int) : Rat) / ((((n * n : Nat) : Int)) : Rat)) = Nt.fr1 ((n * n : Nat) : Int) from rfl, (Nt.at_x hab xq).2] at h9; exact h9) xq xq hk), (RatN.limG (hn216.ext (e218.trans (g224.ext.trans (e226.trans g232.ext)))) xq xq hk), (RatN.limG (hn217.ext (e218.trans (g224.ext.trans (e226.trans g232.ext)))) xq xq hk)⟩
   omega
end Go.Proofs.YtbolmkfphieogaaGreat
