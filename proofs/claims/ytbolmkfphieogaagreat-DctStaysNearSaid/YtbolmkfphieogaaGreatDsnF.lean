/- Parts of the proof: contracts of functions, each walked once, and plain laws. -/
import Derived.Test.YtbolmkfphieogaaGreatDsnE
namespace Go.Proofs.YtbolmkfphieogaaGreat
open Go.RowKit
set_option linter.unusedVariables false
theorem k_exactly {u w : World} {r : RL} {q : Rat} {K k : Nat} (d : Dat u w) (hr : RatN u r q K) (hk : k ≤ 256) (hK : K ≤ 10) : Calls Tryz.prog 177 #[r.v, .int .i64 (k : Int)] w (Post u w fun v u' => ∃ r1 r2 : RL, v = IV r1 r2 ∧ RatN u' r1 (Nt.dnQ q k) 80 ∧ RatN u' r2 (-Nt.dnQ (-q) k) 80) := by
 refine zzl (args := [r.v, .int .i64 k]) Tryz.func177 rfl Tryz.ntmps177 (rs := [.cell 4 32]) Tryz.results177 (le_b rfl) (le_b rfl) d ?_
 refine sq9 (zzj 2 ⟨26, r.cs⟩ (zzj 4 ⟨32, [.bool false, .slice none 0 0, .slice none 0 0, .bool false, .slice none 0 0, .slice none 0 0]⟩ (zzb (sq9 (zzh 8 (.v (r.v)) ty26 zze (zzh 9 (.v (r.v)) ty26 zze (zzg 10 144 [r.v, r.v] ?_)))))))
 intro w11 u11 e11 d11
 have k18 := k_ivMake d11 (hr.ext e11).raw (hr.ext e11).raw xq
 with_reducible refine zPm k18 ?_
 rintro _ u16 g17 ⟨r12, r14, rfl, h13, h15⟩
 refine zza 11 (zI k) (zzg 12 227 [.agg #[.bool r12.s, r12.m.v, r12.d.v, .bool r14.s, r14.m.v, r14.d.v], .int .i64 k] ?_)
 intro w19 u19 e19 d19
 have k25 := k_ivRoundG (k := k) xq d19 (h13.ext e19).raw (h15.ext e19).raw xq
 with_reducible refine zPm k25 ?_
 rintro _ u23 g24 ⟨r20, r21, rfl, h22⟩
 refine zza 7 (.v (.tuple #[.agg #[.bool r20.s, r20.m.v, r20.d.v, .bool r21.s, r21.m.v, r21.d.v], .int .i64 (Nt.rndE (k : Int))])) (zza 13 (.v (.agg #[.bool r20.s, r20.m.v, r20.d.v, .bool r21.s, r21.m.v, r21.d.v])) (zza 14 (zI (Nt.rndE (k : Int))) (zzj 5 ⟨32, [.bool false, .slice none 0 0, .slice none 0 0, .bool false, .slice none 0 0, .slice none 0 0]⟩ (zzi ⟨32, r20.cs ++ r21.cs⟩ ty32 ?_))))
 refine zza 6 (zI (Nt.rndE (k : Int))) (zzb (sq9 (zzh 15 (.v (.agg #[.bool r20.s, r20.m.v, r20.d.v, .bool r21.s, r21.m.v, r21.d.v])) ty32 zze (zzi ⟨32, r20.cs ++ r21.cs⟩ ty32 ?_))))
 refine zzb (zzn (ret0 [.agg #[.bool r20.s, .slice r20.m.a r20.m.n r20.m.c, .slice r20.d.a r20.d.n r20.d.c, .bool r21.s, .slice r21.m.a r21.m.n r21.m.c, .slice r21.d.a r21.d.n r21.d.c]] ⟨zzq ty32 zze, trivial⟩ fun u26 e27 => ?_))
 have h9 := (h22.ext e27)
 rw [Nt.rnd_pt hk] at h9
 exact ⟨r20, r21, rfl, RatN.more h9.1 xq, RatN.more h9.2 xq⟩
set_option maxHeartbeats 4000000 in
theorem k_cosA {u w : World} {p : Int} {q k : Nat} (d : Dat u w) (hq0 : 0 < q) (hq2 : q ≤ 10000) (hG0 : Nt.GapQ q k) (hp0 : -1000000000 ≤ p) (hp1 : p ≤ 1000000000) (hk : k ≤ 256) (hA : 2 * Nt.fold p q ≤ q) : Calls Tryz.prog 100 #[.int .i64 p, .int .i64 (q : Int), .int .i64 (k : Int)] w (Post u w fun v u' => ∃ r1 r2 : RL, v = IV r1 r2 ∧ RatN u' r1 ((Nt.cosA (Nt.fold p q) q k).1) 80 ∧ RatN u' r2 ((Nt.cosA (Nt.fold p q) q k).2) 80) := by
 have htm := Nt.tmod_bd p hq0
 obtain ⟨g, hg3, hG⟩ := id hG0
 refine zzl (args := [.int .i64 p, .int .i64 q, .int .i64 k]) Tryz.func100 rfl Tryz.ntmps100 (rs := [.cell 6 32]) Tryz.results100 (le_b rfl) (le_b rfl) d ?_
 refine sq9 (zzj 3 ⟨3, [.int .i64 p]⟩ (zzj 4 ⟨3, [.int .i64 q]⟩ (zzj 6 ⟨32, [.bool false, .slice none 0 0, .slice none 0 0, .bool false, .slice none 0 0, .slice none 0 0]⟩ (zzb (sq9 (zzh 8 (zI p) ty3 zzk (zzh 9 (zI q) ty3 zzk (zyp 10 (x := zI (IntKind.i64.wrap ((2 : Int) * (q : Int)))) (zI (2 * q : Nat)) (eqI xz) (sy_rem 11 (m := ((2 * q : Nat) : Int)) (Int.tmod p (2 * (q : Int))) xq (by rw [Int.natCast_mul]; rfl) ?_)))))))))
 refine zzi ⟨3, [.int .i64 (Int.tmod p (2 * (q : Int)))]⟩ ty3 ?_
 refine zzb (zzd (sq9 (zzh 12 (zI (Int.tmod p (2 * (q : Int)))) ty3 zzk (zza 13 (zB (decide ((Int.tmod p (2 * (q : Int))) < 0))) (zzb (zzt (b := decide ((Int.tmod p (2 * (q : Int))) < 0)) xj (fun hb11 => ?_) (fun hb11 => ?_)))))))
 ·replace hb11 : (decide ((Int.tmod p (2 * (q : Int))) < 0)) = true := hb11
  have qhb11 := of_decide_eq_true hb11
  refine zzf (zzh 14 (zI (Int.tmod p (2 * (q : Int)))) ty3 zzk (zyp 15 (x := zI (IntKind.i64.wrap (0 - (Int.tmod p (2 * (q : Int)))))) (zI (-(Int.tmod p (2 * (q : Int))))) (eqI xz) (zzi ⟨3, [.int .i64 (-(Int.tmod p (2 * (q : Int))))]⟩ ty3 ?_)))
  refine zzb (zzd (sq9 (zzh 16 (zI (-(Int.tmod p (2 * (q : Int))))) ty3 zzk (zzh 17 (zI q) ty3 zzk (zza 18 (zB (decide ((q : Int) < (-(Int.tmod p (2 * (q : Int))))))) (zzb (zzt (b := decide ((q : Int) < (-(Int.tmod p (2 * (q : Int)))))) xj (fun hb12 => ?_) (fun hb12 => ?_))))))))
  ·replace hb12 : (decide ((q : Int) < (-(Int.tmod p (2 * (q : Int)))))) = true := hb12
   have qhb12 := of_decide_eq_true hb12
   refine zzf (zzh 19 (zI q) ty3 zzk (zyp 20 (x := zI (IntKind.i64.wrap ((2 : Int) * (q : Int)))) (zI (2 * q : Nat)) (eqI xz) (zzh 21 (zI (-(Int.tmod p (2 * (q : Int))))) ty3 zzk (zyp 22 (x := zI (IntKind.i64.wrap (((2 * q : Nat) : Int) - (-(Int.tmod p (2 * (q : Int))))))) (zI (((2 * q : Nat) : Int) - (-(Int.tmod p (2 * (q : Int)))))) yq (zzi ⟨3, [.int .i64 (((2 * q : Nat) : Int) - (-(Int.tmod p (2 * (q : Int)))))]⟩ ty3 ?_)))))
   refine zzb (zzd (zzd ?_))
   have hfold : (((2 * q : Nat) : Int) - (-(Int.tmod p (2 * (q : Int))))) = ((Nt.fold p q : Nat) : Int) := by unfold Nt.fold; dsimp only; split <;> omega
   rw [hfold]
   have hfl := Nt.fold_le p q hq0
   obtain ⟨r, hr⟩ : ∃ r, Nt.fold p q = r := ⟨_, rfl⟩
   rw [hr] at hfl ⊢
   clear hfold
   rw [hr] at hA
   refine zzf (zzh 23 (zI r) ty3 zzk (zyp 24 (x := zI (IntKind.i64.wrap ((2 : Int) * (r : Int)))) (zI (2 * r : Nat)) (eqI xz) (zzh 25 (zI q) ty3 zzk (zza 26 (zB (decide ((q : Int) < ((2 * r : Nat) : Int)))) (zzb (zzt (b := decide ((q : Int) < ((2 * r : Nat) : Int))) xj (fun hb => ?_) (fun hb => ?_)))))))
   ·exact absurd hb (by rw [show (decide ((q : Int) < ((2 * r : Nat) : Int))) = false from decide_eq_false xq]; decide)
   ·clear hb
    refine zzr (zzo ?_)
    refine zzd (zzs (sq9 (zzh 41 (zI r) ty3 zzk (zza 42 (zB ((r : Int) == 0)) (zza 40 (zB ((r : Int) == 0)) (zzb (zzt (b := (r : Int) == 0) xj (fun hb13 => ?_) (fun hb13 => ?_))))))))
    ·replace hb13 : ((r : Int) == 0) = true := hb13
     have qhb13 : (r : Int) = 0 := by simpa using hb13
     refine sq9 (zzg 43 118 [.int .i64 1] ?_)
     intro w14 u14 e14 d14
     have k19 := k_ratOf d14 (z := 1) xq xq
     with_reducible refine zPm k19 ?_
     rintro _ u17 g18 ⟨r15, rfl, h16⟩
     refine zza 44 (zI k) (zzg 45 177 [r15.v, .int .i64 k] ?_)
     intro w20 u20 e20 d20
     have k27 := k_exactly (k := k) d20 (h16.ext e20) xq xq
     with_reducible refine zPm k27 ?_
     rintro _ u25 g26 ⟨r21, r23, rfl, h22, h24⟩
     refine zzi ⟨32, r21.cs ++ r23.cs⟩ ty32 ?_
     refine zzc 65 [(6, .adr 6 0)] [(6, ⟨32, r21.cs ++ r23.cs⟩)] (zzn (zyt (zzv (ret0 [.agg #[.bool r21.s, .slice r21.m.a r21.m.n r21.m.c, .slice r21.d.a r21.d.n r21.d.c, .bool r23.s, .slice r23.m.a r23.m.n r23.m.c, .slice r23.d.a r23.d.n r23.d.c]] ⟨zzq ty32 zze, trivial⟩ fun u28 e29 => ?_))))
     have hc := Nt.cosA_0 (r := r) (q := q) (b := k) (by have h9 := hb13; simp at h9; omega)
     refine ⟨r21, r23, rfl, RatN.more (K := 80) ?_ xq, RatN.more (K := 80) ?_ xq⟩
     ·rw [hc]; exact (h22.ext e29)
     ·rw [hc]; exact (h24.ext e29)
    ·replace hb13 : ((r : Int) == 0) = false := hb13
     have qhb13 : ¬ ((r : Int) = 0) := by simpa using hb13
     refine sq9 (zzh 47 (zI r) ty3 zzk (zyp 48 (x := zI (IntKind.i64.wrap ((2 : Int) * (r : Int)))) (zI (2 * r : Nat)) (eqI xz) (zzh 49 (zI q) ty3 zzk (zza 50 (zB (((2 * r : Nat) : Int) == (q : Int))) (zza 46 (zB (((2 * r : Nat) : Int) == (q : Int))) (zzc 65 [(2, zI k), (3, .adr 3 0), (4, .adr 4 0), (6, .adr 6 0), (46, zB (((2 * r : Nat) : Int) == (q : Int)))] [(3, ⟨3, [.int .i64 r]⟩), (4, ⟨3, [.int .i64 q]⟩), (6, ⟨32, [.bool false, .slice none 0 0, .slice none 0 0, .bool false, .slice none 0 0, .slice none 0 0]⟩)] (zzt (b := ((2 * r : Nat) : Int) == (q : Int)) xj (fun hb30 => ?_) (fun hb30 => ?_))))))))
     ·replace hb30 : (((2 * r : Nat) : Int) == (q : Int)) = true := hb30
      refine sq9 (zzg 51 118 [.int .i64 0] ?_)
      intro w31 u31 e31 d31
      have k36 := k_ratOf d31 (z := 0) xq xq
      with_reducible refine zPm k36 ?_
      rintro _ u34 g35 ⟨r32, rfl, h33⟩
      refine zza 52 (zI k) (zzg 53 177 [r32.v, .int .i64 k] ?_)
      intro w37 u37 e37 d37
      have k44 := k_exactly (k := k) d37 (h33.ext e37) xq xq
      with_reducible refine zPm k44 ?_
      rintro _ u42 g43 ⟨r38, r40, rfl, h39, h41⟩
      refine zzi ⟨32, r38.cs ++ r40.cs⟩ ty32 ?_
      refine zzb (zzn (zyt (zzv (ret0 [.agg #[.bool r38.s, .slice r38.m.a r38.m.n r38.m.c, .slice r38.d.a r38.d.n r38.d.c, .bool r40.s, .slice r40.m.a r40.m.n r40.m.c, .slice r40.d.a r40.d.n r40.d.c]] ⟨zzq ty32 zze, trivial⟩ fun u45 e46 => ?_))))
      have hc := Nt.cosA_h (r := r) (q := q) (b := k) (by have h9 := hb13; simp at h9; omega) (by have h9 := hb30; simp at h9; omega)
      refine ⟨r38, r40, rfl, RatN.more (K := 80) ?_ xq, RatN.more (K := 80) ?_ xq⟩
      ·rw [hc]; exact (h39.ext e46)
      ·rw [hc]; exact (h41.ext e46)
     ·replace hb30 : (((2 * r : Nat) : Int) == (q : Int)) = false := hb30
      have q9hb30 : ¬ 2 * r = q := by have h9 := hb30; simp at h9; omega
      refine sq9 (zzh 55 (zI r) ty3 zzk (zyp 56 (x := zI (IntKind.i64.wrap ((3 : Int) * (r : Int)))) (zI (3 * r : Nat)) (eqI xz) (zzh 57 (zI q) ty3 zzk (zza 58 (zB (((3 * r : Nat) : Int) == (q : Int))) (zza 54 (zB (((3 * r : Nat) : Int) == (q : Int))) (zzb (zzt (b := ((3 * r : Nat) : Int) == (q : Int)) xj (fun hb47 => ?_) (fun hb47 => ?_))))))))
      ·replace hb47 : (((3 * r : Nat) : Int) == (q : Int)) = true := hb47
       refine sq9 (zzg 59 127 [.int .i64 1, .int .i64 2] ?_)
       intro w48 u48 e48 d48
       have k53 := k_ratFrac d48 (a := 1) (b := 2) xq xq xq xq
       with_reducible refine zPm k53 ?_
       rintro _ u51 g52 ⟨r49, rfl, h50⟩
       refine zza 60 (zI k) (zzg 61 177 [r49.v, .int .i64 k] ?_)
       intro w54 u54 e54 d54
       have k61 := k_exactly (k := k) d54 (h50.ext e54) xq xq
       with_reducible refine zPm k61 ?_
       rintro _ u59 g60 ⟨r55, r57, rfl, h56, h58⟩
       refine zzi ⟨32, r55.cs ++ r57.cs⟩ ty32 ?_
       refine zzb (zzn (zyt (zzv (ret0 [.agg #[.bool r55.s, .slice r55.m.a r55.m.n r55.m.c, .slice r55.d.a r55.d.n r55.d.c, .bool r57.s, .slice r57.m.a r57.m.n r57.m.c, .slice r57.d.a r57.d.n r57.d.c]] ⟨zzq ty32 zze, trivial⟩ fun u62 e63 => ?_))))
       have hc := Nt.cosA_3 (r := r) (q := q) (b := k) (by have h9 := hb13; simp at h9; omega) (by have h9 := hb30; simp at h9; omega) (by have h9 := hb47; simp at h9; omega)
       refine ⟨r55, r57, rfl, RatN.more (K := 80) ?_ xq, RatN.more (K := 80) ?_ xq⟩
       ·rw [hc]; exact (h56.ext e63)
       ·rw [hc]; exact (h58.ext e63)
      ·replace hb47 : (((3 * r : Nat) : Int) == (q : Int)) = false := hb47
       have q9hb47 : ¬ 3 * r = q := by have h9 := hb47; simp at h9; omega
       refine zzr (zzo ?_)
       refine zzd (sw_pubA (r := 3) (t := 3) [3] xk xj (by rfl) (by rfl) xj (fun b64 u65 e66 hb67 hv68 hh69 => ?_))
       refine sw_pubA (r := 4) (t := 4) [4] xk xj (by rfl) (by rfl) xj (fun b70 u71 e72 hb73 hv74 hh75 => ?_)
       refine zzf (sy_fun 62 [.pointer (some ⟨b64, 0, none⟩), .pointer (some ⟨b70, 0, none⟩)] ?_)
       refine zza 63 (zI k) (zzg 64 101 [.func (.func 178) #[] #[.pointer (some ⟨b64, 0, none⟩), .pointer (some ⟨b70, 0, none⟩)], .int .i64 k] ?_)
       intro w76 u76 e76 d76
       have k83 := k_irrCos (k := k) d76 ((e72.trans e76).cells hh69) (e76.cells hh75) hq0 xq xq xq (hG r xq xq xq) hg3 xq
       with_reducible refine zPm k83 ?_
       rintro _ u81 g82 ⟨r77, r79, rfl, h78, h80⟩
       refine zzi ⟨32, r77.cs ++ r79.cs⟩ ty32 ?_
       refine zzb (zzn (ret0 [.agg #[.bool r77.s, .slice r77.m.a r77.m.n r77.m.c, .slice r77.d.a r77.d.n r77.d.c, .bool r79.s, .slice r79.m.a r79.m.n r79.m.c, .slice r79.d.a r79.d.n r79.d.c]] ⟨zzq ty32 zze, trivial⟩ fun u84 e85 => ?_))
       have hc := Nt.cosA_g (r := r) (q := q) (b := k) (by have h9 := hb13; simp at h9; omega) (by have h9 := hb30; simp at h9; omega) (by have h9 := hb47; simp at h9; omega)
       refine ⟨r77, r79, rfl, RatN.more (K := 70) ?_ xq, RatN.more (K := 70) ?_ xq⟩
       ·rw [hc]; exact (h78.ext e85)
       ·rw [hc]; exact (h80.ext e85)
  ·replace hb12 : (decide ((q : Int) < (-(Int.tmod p (2 * (q : Int)))))) = false := hb12
   have qhb12 := of_decide_eq_false hb12
   refine zzr (zzo ?_)
   refine zzd (zzd ?_)
   have hfold : (-(Int.tmod p (2 * (q : Int)))) = ((Nt.fold p q : Nat) : Int) := by unfold Nt.fold; dsimp only; split <;> omega
   rw [hfold]
   have hfl := Nt.fold_le p q hq0
   obtain ⟨r, hr⟩ : ∃ r, Nt.fold p q = r := ⟨_, rfl⟩
   rw [hr] at hfl ⊢
   clear hfold
   rw [hr] at hA
   refine zzf (zzh 23 (zI r) ty3 zzk (zyp 24 (x := zI (IntKind.i64.wrap ((2 : Int) * (r : Int)))) (zI (2 * r : Nat)) (eqI xz) (zzh 25 (zI q) ty3 zzk (zza 26 (zB (decide ((q : Int) < ((2 * r : Nat) : Int)))) (zzb (zzt (b := decide ((q : Int) < ((2 * r : Nat) : Int))) xj (fun hb => ?_) (fun hb => ?_)))))))
   ·exact absurd hb (by rw [show (decide ((q : Int) < ((2 * r : Nat) : Int))) = false from decide_eq_false xq]; decide)
   ·clear hb
    refine zzr (zzo ?_)
    refine zzd (zzs (sq9 (zzh 41 (zI r) ty3 zzk (zza 42 (zB ((r : Int) == 0)) (zza 40 (zB ((r : Int) == 0)) (zzb (zzt (b := (r : Int) == 0) xj (fun hb86 => ?_) (fun hb86 => ?_))))))))
    ·replace hb86 : ((r : Int) == 0) = true := hb86
     have qhb86 : (r : Int) = 0 := by simpa using hb86
     refine sq9 (zzg 43 118 [.int .i64 1] ?_)
     intro w87 u87 e87 d87
     have k92 := k_ratOf d87 (z := 1) xq xq
     with_reducible refine zPm k92 ?_
     rintro _ u90 g91 ⟨r88, rfl, h89⟩
     refine zza 44 (zI k) (zzg 45 177 [r88.v, .int .i64 k] ?_)
     intro w93 u93 e93 d93
     have k100 := k_exactly (k := k) d93 (h89.ext e93) xq xq
     with_reducible refine zPm k100 ?_
     rintro _ u98 g99 ⟨r94, r96, rfl, h95, h97⟩
     refine zzi ⟨32, r94.cs ++ r96.cs⟩ ty32 ?_
     refine zzb (zzn (zyt (zzv (ret0 [.agg #[.bool r94.s, .slice r94.m.a r94.m.n r94.m.c, .slice r94.d.a r94.d.n r94.d.c, .bool r96.s, .slice r96.m.a r96.m.n r96.m.c, .slice r96.d.a r96.d.n r96.d.c]] ⟨zzq ty32 zze, trivial⟩ fun u101 e102 => ?_))))
     have hc := Nt.cosA_0 (r := r) (q := q) (b := k) (by have h9 := hb86; simp at h9; omega)
     refine ⟨r94, r96, rfl, RatN.more (K := 80) ?_ xq, RatN.more (K := 80) ?_ xq⟩
     ·rw [hc]; exact (h95.ext e102)
     ·rw [hc]; exact (h97.ext e102)
    ·replace hb86 : ((r : Int) == 0) = false := hb86
     have qhb86 : ¬ ((r : Int) = 0) := by simpa using hb86
     refine sq9 (zzh 47 (zI r) ty3 zzk (zyp 48 (x := zI (IntKind.i64.wrap ((2 : Int) * (r : Int)))) (zI (2 * r : Nat)) (eqI xz) (zzh 49 (zI q) ty3 zzk (zza 50 (zB (((2 * r : Nat) : Int) == (q : Int))) (zza 46 (zB (((2 * r : Nat) : Int) == (q : Int))) (zzb (zzt (b := ((2 * r : Nat) : Int) == (q : Int)) xj (fun hb103 => ?_) (fun hb103 => ?_))))))))
     ·replace hb103 : (((2 * r : Nat) : Int) == (q : Int)) = true := hb103
      refine sq9 (zzg 51 118 [.int .i64 0] ?_)
      intro w104 u104 e104 d104
      have k109 := k_ratOf d104 (z := 0) xq xq
      with_reducible refine zPm k109 ?_
      rintro _ u107 g108 ⟨r105, rfl, h106⟩
      refine zza 52 (zI k) (zzg 53 177 [r105.v, .int .i64 k] ?_)
      intro w110 u110 e110 d110
      have k117 := k_exactly (k := k) d110 (h106.ext e110) xq xq
      with_reducible refine zPm k117 ?_
      rintro _ u115 g116 ⟨r111, r113, rfl, h112, h114⟩
      refine zzi ⟨32, r111.cs ++ r113.cs⟩ ty32 ?_
      refine zzc 65 [(6, .adr 6 0)] [(6, ⟨32, r111.cs ++ r113.cs⟩)] (zzn (zyt (zzv (ret0 [.agg #[.bool r111.s, .slice r111.m.a r111.m.n r111.m.c, .slice r111.d.a r111.d.n r111.d.c, .bool r113.s, .slice r113.m.a r113.m.n r113.m.c, .slice r113.d.a r113.d.n r113.d.c]] ⟨zzq ty32 zze, trivial⟩ fun u118 e119 => ?_))))
      have hc := Nt.cosA_h (r := r) (q := q) (b := k) (by have h9 := hb86; simp at h9; omega) (by have h9 := hb103; simp at h9; omega)
      refine ⟨r111, r113, rfl, RatN.more (K := 80) ?_ xq, RatN.more (K := 80) ?_ xq⟩
      ·rw [hc]; exact (h112.ext e119)
      ·rw [hc]; exact (h114.ext e119)
     ·replace hb103 : (((2 * r : Nat) : Int) == (q : Int)) = false := hb103
      have q9hb103 : ¬ 2 * r = q := by have h9 := hb103; simp at h9; omega
      refine sq9 (zzh 55 (zI r) ty3 zzk (zyp 56 (x := zI (IntKind.i64.wrap ((3 : Int) * (r : Int)))) (zI (3 * r : Nat)) (eqI xz) (zzh 57 (zI q) ty3 zzk (zza 58 (zB (((3 * r : Nat) : Int) == (q : Int))) (zza 54 (zB (((3 * r : Nat) : Int) == (q : Int))) (zzc 65 [(2, zI k), (3, .adr 3 0), (4, .adr 4 0), (6, .adr 6 0), (54, zB (((3 * r : Nat) : Int) == (q : Int)))] [(3, ⟨3, [.int .i64 r]⟩), (4, ⟨3, [.int .i64 q]⟩), (6, ⟨32, [.bool false, .slice none 0 0, .slice none 0 0, .bool false, .slice none 0 0, .slice none 0 0]⟩)] (zzt (b := ((3 * r : Nat) : Int) == (q : Int)) xj (fun hb120 => ?_) (fun hb120 => ?_))))))))
      ·replace hb120 : (((3 * r : Nat) : Int) == (q : Int)) = true := hb120
       refine sq9 (zzg 59 127 [.int .i64 1, .int .i64 2] ?_)
       intro w121 u121 e121 d121
       have k126 := k_ratFrac d121 (a := 1) (b := 2) xq xq xq xq
       with_reducible refine zPm k126 ?_
       rintro _ u124 g125 ⟨r122, rfl, h123⟩
       refine zza 60 (zI k) (zzg 61 177 [r122.v, .int .i64 k] ?_)
       intro w127 u127 e127 d127
       have k134 := k_exactly (k := k) d127 (h123.ext e127) xq xq
       with_reducible refine zPm k134 ?_
       rintro _ u132 g133 ⟨r128, r130, rfl, h129, h131⟩
       refine zzi ⟨32, r128.cs ++ r130.cs⟩ ty32 ?_
       refine zzb (zzn (zyt (zzv (ret0 [.agg #[.bool r128.s, .slice r128.m.a r128.m.n r128.m.c, .slice r128.d.a r128.d.n r128.d.c, .bool r130.s, .slice r130.m.a r130.m.n r130.m.c, .slice r130.d.a r130.d.n r130.d.c]] ⟨zzq ty32 zze, trivial⟩ fun u135 e136 => ?_))))
       have hc := Nt.cosA_3 (r := r) (q := q) (b := k) (by have h9 := hb86; simp at h9; omega) (by have h9 := hb103; simp at h9; omega) (by have h9 := hb120; simp at h9; omega)
       refine ⟨r128, r130, rfl, RatN.more (K := 80) ?_ xq, RatN.more (K := 80) ?_ xq⟩
       ·rw [hc]; exact (h129.ext e136)
       ·rw [hc]; exact (h131.ext e136)
      ·replace hb120 : (((3 * r : Nat) : Int) == (q : Int)) = false := hb120
       have q9hb120 : ¬ 3 * r = q := by have h9 := hb120; simp at h9; omega
       refine zzr (zzo ?_)
       refine zzd (sw_pubA (r := 3) (t := 3) [3] xk xj (by rfl) (by rfl) xj (fun b137 u138 e139 hb140 hv141 hh142 => ?_))
       refine sw_pubA (r := 4) (t := 4) [4] xk xj (by rfl) (by rfl) xj (fun b143 u144 e145 hb146 hv147 hh148 => ?_)
       refine zzf (sy_fun 62 [.pointer (some ⟨b137, 0, none⟩), .pointer (some ⟨b143, 0, none⟩)] ?_)
       refine zza 63 (zI k) (zzg 64 101 [.func (.func 178) #[] #[.pointer (some ⟨b137, 0, none⟩), .pointer (some ⟨b143, 0, none⟩)], .int .i64 k] ?_)
       intro w149 u149 e149 d149
       have k156 := k_irrCos (k := k) d149 ((e145.trans e149).cells hh142) (e149.cells hh148) hq0 xq xq xq (hG r xq xq xq) hg3 xq
       with_reducible refine zPm k156 ?_
       rintro _ u154 g155 ⟨r150, r152, rfl, h151, h153⟩
       refine zzi ⟨32, r150.cs ++ r152.cs⟩ ty32 ?_
       refine zzb (zzn (ret0 [.agg #[.bool r150.s, .slice r150.m.a r150.m.n r150.m.c, .slice r150.d.a r150.d.n r150.d.c, .bool r152.s, .slice r152.m.a r152.m.n r152.m.c, .slice r152.d.a r152.d.n r152.d.c]] ⟨zzq ty32 zze, trivial⟩ fun u157 e158 => ?_))
       have hc := Nt.cosA_g (r := r) (q := q) (b := k) (by have h9 := hb86; simp at h9; omega) (by have h9 := hb103; simp at h9; omega) (by have h9 := hb120; simp at h9; omega)
       refine ⟨r150, r152, rfl, RatN.more (K := 70) ?_ xq, RatN.more (K := 70) ?_ xq⟩
       ·rw [hc]; exact (h151.ext e158)
       ·rw [hc]; exact (h153.ext e158)
 ·replace hb11 : (decide ((Int.tmod p (2 * (q : Int))) < 0)) = false := hb11
  have qhb11 := of_decide_eq_false hb11
  refine zzr (zzo ?_)
  refine zzd (sq9 (zzh 16 (zI (Int.tmod p (2 * (q : Int)))) ty3 zzk (zzh 17 (zI q) ty3 zzk (zza 18 (zB (decide ((q : Int) < (Int.tmod p (2 * (q : Int)))))) (zzb (zzt (b := decide ((q : Int) < (Int.tmod p (2 * (q : Int))))) xj (fun hb159 => ?_) (fun hb159 => ?_)))))))
  ·replace hb159 : (decide ((q : Int) < (Int.tmod p (2 * (q : Int))))) = true := hb159
   have qhb159 := of_decide_eq_true hb159
   refine zzf (zzh 19 (zI q) ty3 zzk (zyp 20 (x := zI (IntKind.i64.wrap ((2 : Int) * (q : Int)))) (zI (2 * q : Nat)) (eqI xz) (zzh 21 (zI (Int.tmod p (2 * (q : Int)))) ty3 zzk (zyp 22 (x := zI (IntKind.i64.wrap (((2 * q : Nat) : Int) - (Int.tmod p (2 * (q : Int)))))) (zI (((2 * q : Nat) : Int) - (Int.tmod p (2 * (q : Int))))) yq (zzi ⟨3, [.int .i64 (((2 * q : Nat) : Int) - (Int.tmod p (2 * (q : Int))))]⟩ ty3 ?_)))))
   refine zzb (zzd (zzd ?_))
   have hfold : (((2 * q : Nat) : Int) - (Int.tmod p (2 * (q : Int)))) = ((Nt.fold p q : Nat) : Int) := by unfold Nt.fold; dsimp only; split <;> omega
   rw [hfold]
   have hfl := Nt.fold_le p q hq0
   obtain ⟨r, hr⟩ : ∃ r, Nt.fold p q = r := ⟨_, rfl⟩
   rw [hr] at hfl ⊢
   clear hfold
   rw [hr] at hA
   refine zzf (zzh 23 (zI r) ty3 zzk (zyp 24 (x := zI (IntKind.i64.wrap ((2 : Int) * (r : Int)))) (zI (2 * r : Nat)) (eqI xz) (zzh 25 (zI q) ty3 zzk (zza 26 (zB (decide ((q : Int) < ((2 * r : Nat) : Int)))) (zzb (zzt (b := decide ((q : Int) < ((2 * r : Nat) : Int))) xj (fun hb => ?_) (fun hb => ?_)))))))
   ·exact absurd hb (by rw [show (decide ((q : Int) < ((2 * r : Nat) : Int))) = false from decide_eq_false xq]; decide)
   ·clear hb
    refine zzr (zzo ?_)
    refine zzd (zzs (sq9 (zzh 41 (zI r) ty3 zzk (zza 42 (zB ((r : Int) == 0)) (zza 40 (zB ((r : Int) == 0)) (zzb (zzt (b := (r : Int) == 0) xj (fun hb160 => ?_) (fun hb160 => ?_))))))))
    ·replace hb160 : ((r : Int) == 0) = true := hb160
     have qhb160 : (r : Int) = 0 := by simpa using hb160
     refine sq9 (zzg 43 118 [.int .i64 1] ?_)
     intro w161 u161 e161 d161
     have k166 := k_ratOf d161 (z := 1) xq xq
     with_reducible refine zPm k166 ?_
     rintro _ u164 g165 ⟨r162, rfl, h163⟩
     refine zza 44 (zI k) (zzg 45 177 [r162.v, .int .i64 k] ?_)
     intro w167 u167 e167 d167
     have k174 := k_exactly (k := k) d167 (h163.ext e167) xq xq
     with_reducible refine zPm k174 ?_
     rintro _ u172 g173 ⟨r168, r170, rfl, h169, h171⟩
     refine zzi ⟨32, r168.cs ++ r170.cs⟩ ty32 ?_
     refine zzb (zzn (zyt (zzv (ret0 [.agg #[.bool r168.s, .slice r168.m.a r168.m.n r168.m.c, .slice r168.d.a r168.d.n r168.d.c, .bool r170.s, .slice r170.m.a r170.m.n r170.m.c, .slice r170.d.a r170.d.n r170.d.c]] ⟨zzq ty32 zze, trivial⟩ fun u175 e176 => ?_))))
     have hc := Nt.cosA_0 (r := r) (q := q) (b := k) (by have h9 := hb160; simp at h9; omega)
     refine ⟨r168, r170, rfl, RatN.more (K := 80) ?_ xq, RatN.more (K := 80) ?_ xq⟩
     ·rw [hc]; exact (h169.ext e176)
     ·rw [hc]; exact (h171.ext e176)
    ·replace hb160 : ((r : Int) == 0) = false := hb160
     have qhb160 : ¬ ((r : Int) = 0) := by simpa using hb160
     refine sq9 (zzh 47 (zI r) ty3 zzk (zyp 48 (x := zI (IntKind.i64.wrap ((2 : Int) * (r : Int)))) (zI (2 * r : Nat)) (eqI xz) (zzh 49 (zI q) ty3 zzk (zza 50 (zB (((2 * r : Nat) : Int) == (q : Int))) (zza 46 (zB (((2 * r : Nat) : Int) == (q : Int))) (zzb (zzt (b := ((2 * r : Nat) : Int) == (q : Int)) xj (fun hb177 => ?_) (fun hb177 => ?_))))))))
     ·replace hb177 : (((2 * r : Nat) : Int) == (q : Int)) = true := hb177
      refine sq9 (zzg 51 118 [.int .i64 0] ?_)
      intro w178 u178 e178 d178
      have k183 := k_ratOf d178 (z := 0) xq xq
      with_reducible refine zPm k183 ?_
      rintro _ u181 g182 ⟨r179, rfl, h180⟩
      refine zza 52 (zI k) (zzg 53 177 [r179.v, .int .i64 k] ?_)
      intro w184 u184 e184 d184
      have k191 := k_exactly (k := k) d184 (h180.ext e184) xq xq
      with_reducible refine zPm k191 ?_
      rintro _ u189 g190 ⟨r185, r187, rfl, h186, h188⟩
      refine zzi ⟨32, r185.cs ++ r187.cs⟩ ty32 ?_
      refine zzc 65 [(6, .adr 6 0)] [(6, ⟨32, r185.cs ++ r187.cs⟩)] (zzn (zyt (zzv (ret0 [.agg #[.bool r185.s, .slice r185.m.a r185.m.n r185.m.c, .slice r185.d.a r185.d.n r185.d.c, .bool r187.s, .slice r187.m.a r187.m.n r187.m.c, .slice r187.d.a r187.d.n r187.d.c]] ⟨zzq ty32 zze, trivial⟩ fun u192 e193 => ?_))))
      have hc := Nt.cosA_h (r := r) (q := q) (b := k) (by have h9 := hb160; simp at h9; omega) (by have h9 := hb177; simp at h9; omega)
      refine ⟨r185, r187, rfl, RatN.more (K := 80) ?_ xq, RatN.more (K := 80) ?_ xq⟩
      ·rw [hc]; exact (h186.ext e193)
      ·rw [hc]; exact (h188.ext e193)
     ·replace hb177 : (((2 * r : Nat) : Int) == (q : Int)) = false := hb177
      have q9hb177 : ¬ 2 * r = q := by have h9 := hb177; simp at h9; omega
      refine sq9 (zzh 55 (zI r) ty3 zzk (zyp 56 (x := zI (IntKind.i64.wrap ((3 : Int) * (r : Int)))) (zI (3 * r : Nat)) (eqI xz) (zzh 57 (zI q) ty3 zzk (zza 58 (zB (((3 * r : Nat) : Int) == (q : Int))) (zza 54 (zB (((3 * r : Nat) : Int) == (q : Int))) (zzc 65 [(2, zI k), (3, .adr 3 0), (4, .adr 4 0), (6, .adr 6 0), (54, zB (((3 * r : Nat) : Int) == (q : Int)))] [(3, ⟨3, [.int .i64 r]⟩), (4, ⟨3, [.int .i64 q]⟩), (6, ⟨32, [.bool false, .slice none 0 0, .slice none 0 0, .bool false, .slice none 0 0, .slice none 0 0]⟩)] (zzt (b := ((3 * r : Nat) : Int) == (q : Int)) xj (fun hb194 => ?_) (fun hb194 => ?_))))))))
      ·replace hb194 : (((3 * r : Nat) : Int) == (q : Int)) = true := hb194
       refine sq9 (zzg 59 127 [.int .i64 1, .int .i64 2] ?_)
       intro w195 u195 e195 d195
       have k200 := k_ratFrac d195 (a := 1) (b := 2) xq xq xq xq
       with_reducible refine zPm k200 ?_
       rintro _ u198 g199 ⟨r196, rfl, h197⟩
       refine zza 60 (zI k) (zzg 61 177 [r196.v, .int .i64 k] ?_)
       intro w201 u201 e201 d201
       have k208 := k_exactly (k := k) d201 (h197.ext e201) xq xq
       with_reducible refine zPm k208 ?_
       rintro _ u206 g207 ⟨r202, r204, rfl, h203, h205⟩
       refine zzi ⟨32, r202.cs ++ r204.cs⟩ ty32 ?_
       refine zzb (zzn (zyt (zzv (ret0 [.agg #[.bool r202.s, .slice r202.m.a r202.m.n r202.m.c, .slice r202.d.a r202.d.n r202.d.c, .bool r204.s, .slice r204.m.a r204.m.n r204.m.c, .slice r204.d.a r204.d.n r204.d.c]] ⟨zzq ty32 zze, trivial⟩ fun u209 e210 => ?_))))
       have hc := Nt.cosA_3 (r := r) (q := q) (b := k) (by have h9 := hb160; simp at h9; omega) (by have h9 := hb177; simp at h9; omega) (by have h9 := hb194; simp at h9; omega)
       refine ⟨r202, r204, rfl, RatN.more (K := 80) ?_ xq, RatN.more (K := 80) ?_ xq⟩
       ·rw [hc]; exact (h203.ext e210)
       ·rw [hc]; exact (h205.ext e210)
      ·replace hb194 : (((3 * r : Nat) : Int) == (q : Int)) = false := hb194
       have q9hb194 : ¬ 3 * r = q := by have h9 := hb194; simp at h9; omega
       refine zzr (zzo ?_)
       refine zzd (sw_pubA (r := 3) (t := 3) [3] xk xj (by rfl) (by rfl) xj (fun b211 u212 e213 hb214 hv215 hh216 => ?_))
       refine sw_pubA (r := 4) (t := 4) [4] xk xj (by rfl) (by rfl) xj (fun b217 u218 e219 hb220 hv221 hh222 => ?_)
       refine zzf (sy_fun 62 [.pointer (some ⟨b211, 0, none⟩), .pointer (some ⟨b217, 0, none⟩)] ?_)
       refine zza 63 (zI k) (zzg 64 101 [.func (.func 178) #[] #[.pointer (some ⟨b211, 0, none⟩), .pointer (some ⟨b217, 0, none⟩)], .int .i64 k] ?_)
       intro w223 u223 e223 d223
       have k230 := k_irrCos (k := k) d223 ((e219.trans e223).cells hh216) (e223.cells hh222) hq0 xq xq xq (hG r xq xq xq) hg3 xq
       with_reducible refine zPm k230 ?_
       rintro _ u228 g229 ⟨r224, r226, rfl, h225, h227⟩
       refine zzi ⟨32, r224.cs ++ r226.cs⟩ ty32 ?_
       refine zzb (zzn (ret0 [.agg #[.bool r224.s, .slice r224.m.a r224.m.n r224.m.c, .slice r224.d.a r224.d.n r224.d.c, .bool r226.s, .slice r226.m.a r226.m.n r226.m.c, .slice r226.d.a r226.d.n r226.d.c]] ⟨zzq ty32 zze, trivial⟩ fun u231 e232 => ?_))
       have hc := Nt.cosA_g (r := r) (q := q) (b := k) (by have h9 := hb160; simp at h9; omega) (by have h9 := hb177; simp at h9; omega) (by have h9 := hb194; simp at h9; omega)
       refine ⟨r224, r226, rfl, RatN.more (K := 70) ?_ xq, RatN.more (K := 70) ?_ xq⟩
       ·rw [hc]; exact (h225.ext e232)
       ·rw [hc]; exact (h227.ext e232)
  ·replace hb159 : (decide ((q : Int) < (Int.tmod p (2 * (q : Int))))) = false := hb159
   have qhb159 := of_decide_eq_false hb159
   refine zzr (zzo ?_)
   refine zzd (zzd ?_)
   have hfold : (Int.tmod p (2 * (q : Int))) = ((Nt.fold p q : Nat) : Int) := by unfold Nt.fold; dsimp only; split <;> omega
   rw [hfold]
   have hfl := Nt.fold_le p q hq0
   obtain ⟨r, hr⟩ : ∃ r, Nt.fold p q = r := ⟨_, rfl⟩
   rw [hr] at hfl ⊢
   clear hfold
   rw [hr] at hA
   refine zzf (zzh 23 (zI r) ty3 zzk (zyp 24 (x := zI (IntKind.i64.wrap ((2 : Int) * (r : Int)))) (zI (2 * r : Nat)) (eqI xz) (zzh 25 (zI q) ty3 zzk (zza 26 (zB (decide ((q : Int) < ((2 * r : Nat) : Int)))) (zzb (zzt (b := decide ((q : Int) < ((2 * r : Nat) : Int))) xj (fun hb => ?_) (fun hb => ?_)))))))
   ·exact absurd hb (by rw [show (decide ((q : Int) < ((2 * r : Nat) : Int))) = false from decide_eq_false xq]; decide)
   ·clear hb
    refine zzr (zzo ?_)
    refine zzd (zzs (sq9 (zzh 41 (zI r) ty3 zzk (zza 42 (zB ((r : Int) == 0)) (zza 40 (zB ((r : Int) == 0)) (zzb (zzt (b := (r : Int) == 0) xj (fun hb233 => ?_) (fun hb233 => ?_))))))))
    ·replace hb233 : ((r : Int) == 0) = true := hb233
     have qhb233 : (r : Int) = 0 := by simpa using hb233
     refine sq9 (zzg 43 118 [.int .i64 1] ?_)
     intro w234 u234 e234 d234
     have k239 := k_ratOf d234 (z := 1) xq xq
     with_reducible refine zPm k239 ?_
     rintro _ u237 g238 ⟨r235, rfl, h236⟩
     refine zza 44 (zI k) (zzg 45 177 [r235.v, .int .i64 k] ?_)
     intro w240 u240 e240 d240
     have k247 := k_exactly (k := k) d240 (h236.ext e240) xq xq
     with_reducible refine zPm k247 ?_
     rintro _ u245 g246 ⟨r241, r243, rfl, h242, h244⟩
     refine zzi ⟨32, r241.cs ++ r243.cs⟩ ty32 ?_
     refine zzb (zzn (zyt (zzv (ret0 [.agg #[.bool r241.s, .slice r241.m.a r241.m.n r241.m.c, .slice r241.d.a r241.d.n r241.d.c, .bool r243.s, .slice r243.m.a r243.m.n r243.m.c, .slice r243.d.a r243.d.n r243.d.c]] ⟨zzq ty32 zze, trivial⟩ fun u248 e249 => ?_))))
     have hc := Nt.cosA_0 (r := r) (q := q) (b := k) (by have h9 := hb233; simp at h9; omega)
     refine ⟨r241, r243, rfl, RatN.more (K := 80) ?_ xq, RatN.more (K := 80) ?_ xq⟩
     ·rw [hc]; exact (h242.ext e249)
     ·rw [hc]; exact (h244.ext e249)
    ·replace hb233 : ((r : Int) == 0) = false := hb233
     have qhb233 : ¬ ((r : Int) = 0) := by simpa using hb233
     refine sq9 (zzh 47 (zI r) ty3 zzk (zyp 48 (x := zI (IntKind.i64.wrap ((2 : Int) * (r : Int)))) (zI (2 * r : Nat)) (eqI xz) (zzh 49 (zI q) ty3 zzk (zza 50 (zB (((2 * r : Nat) : Int) == (q : Int))) (zza 46 (zB (((2 * r : Nat) : Int) == (q : Int))) (zzb (zzt (b := ((2 * r : Nat) : Int) == (q : Int)) xj (fun hb250 => ?_) (fun hb250 => ?_))))))))
     ·replace hb250 : (((2 * r : Nat) : Int) == (q : Int)) = true := hb250
      refine sq9 (zzg 51 118 [.int .i64 0] ?_)
      intro w251 u251 e251 d251
      have k256 := k_ratOf d251 (z := 0) xq xq
      with_reducible refine zPm k256 ?_
      rintro _ u254 g255 ⟨r252, rfl, h253⟩
      refine zza 52 (zI k) (zzg 53 177 [r252.v, .int .i64 k] ?_)
      intro w257 u257 e257 d257
      have k264 := k_exactly (k := k) d257 (h253.ext e257) xq xq
      with_reducible refine zPm k264 ?_
      rintro _ u262 g263 ⟨r258, r260, rfl, h259, h261⟩
      refine zzi ⟨32, r258.cs ++ r260.cs⟩ ty32 ?_
      refine zzb (zzn (zyt (zzv (ret0 [.agg #[.bool r258.s, .slice r258.m.a r258.m.n r258.m.c, .slice r258.d.a r258.d.n r258.d.c, .bool r260.s, .slice r260.m.a r260.m.n r260.m.c, .slice r260.d.a r260.d.n r260.d.c]] ⟨zzq ty32 zze, trivial⟩ fun u265 e266 => ?_))))
      have hc := Nt.cosA_h (r := r) (q := q) (b := k) (by have h9 := hb233; simp at h9; omega) (by have h9 := hb250; simp at h9; omega)
      refine ⟨r258, r260, rfl, RatN.more (K := 80) ?_ xq, RatN.more (K := 80) ?_ xq⟩
      ·rw [hc]; exact (h259.ext e266)
      ·rw [hc]; exact (h261.ext e266)
     ·replace hb250 : (((2 * r : Nat) : Int) == (q : Int)) = false := hb250
      have q9hb250 : ¬ 2 * r = q := by have h9 := hb250; simp at h9; omega
      refine sq9 (zzh 55 (zI r) ty3 zzk (zyp 56 (x := zI (IntKind.i64.wrap ((3 : Int) * (r : Int)))) (zI (3 * r : Nat)) (eqI xz) (zzh 57 (zI q) ty3 zzk (zza 58 (zB (((3 * r : Nat) : Int) == (q : Int))) (zza 54 (zB (((3 * r : Nat) : Int) == (q : Int))) (zzb (zzt (b := ((3 * r : Nat) : Int) == (q : Int)) xj (fun hb267 => ?_) (fun hb267 => ?_))))))))
      ·replace hb267 : (((3 * r : Nat) : Int) == (q : Int)) = true := hb267
       refine sq9 (zzg 59 127 [.int .i64 1, .int .i64 2] ?_)
       intro w268 u268 e268 d268
       have k273 := k_ratFrac d268 (a := 1) (b := 2) xq xq xq xq
       with_reducible refine zPm k273 ?_
       rintro _ u271 g272 ⟨r269, rfl, h270⟩
       refine zza 60 (zI k) (zzg 61 177 [r269.v, .int .i64 k] ?_)
       intro w274 u274 e274 d274
       have k281 := k_exactly (k := k) d274 (h270.ext e274) xq xq
       with_reducible refine zPm k281 ?_
       rintro _ u279 g280 ⟨r275, r277, rfl, h276, h278⟩
       refine zzi ⟨32, r275.cs ++ r277.cs⟩ ty32 ?_
       refine zzc 65 [(6, .adr 6 0)] [(6, ⟨32, r275.cs ++ r277.cs⟩)] (zzn (zyt (zzv (ret0 [.agg #[.bool r275.s, .slice r275.m.a r275.m.n r275.m.c, .slice r275.d.a r275.d.n r275.d.c, .bool r277.s, .slice r277.m.a r277.m.n r277.m.c, .slice r277.d.a r277.d.n r277.d.c]] ⟨zzq ty32 zze, trivial⟩ fun u282 e283 => ?_))))
       have hc := Nt.cosA_3 (r := r) (q := q) (b := k) (by have h9 := hb233; simp at h9; omega) (by have h9 := hb250; simp at h9; omega) (by have h9 := hb267; simp at h9; omega)
       refine ⟨r275, r277, rfl, RatN.more (K := 80) ?_ xq, RatN.more (K := 80) ?_ xq⟩
       ·rw [hc]; exact (h276.ext e283)
       ·rw [hc]; exact (h278.ext e283)
      ·replace hb267 : (((3 * r : Nat) : Int) == (q : Int)) = false := hb267
       have q9hb267 : ¬ 3 * r = q := by have h9 := hb267; simp at h9; omega
       refine zzr (zzo ?_)
       refine zzd (sw_pubA (r := 3) (t := 3) [3] xk xj (by rfl) (by rfl) xj (fun b284 u285 e286 hb287 hv288 hh289 => ?_))
       refine sw_pubA (r := 4) (t := 4) [4] xk xj (by rfl) (by rfl) xj (fun b290 u291 e292 hb293 hv294 hh295 => ?_)
       refine zzf (sy_fun 62 [.pointer (some ⟨b284, 0, none⟩), .pointer (some ⟨b290, 0, none⟩)] ?_)
       refine zza 63 (zI k) (zzg 64 101 [.func (.func 178) #[] #[.pointer (some ⟨b284, 0, none⟩), .pointer (some ⟨b290, 0, none⟩)], .int .i64 k] ?_)
       intro w296 u296 e296 d296
       have k303 := k_irrCos (k := k) d296 ((e292.trans e296).cells hh289) (e296.cells hh295) hq0 xq xq xq (hG r xq xq xq) hg3 xq
       with_reducible refine zPm k303 ?_
       rintro _ u301 g302 ⟨r297, r299, rfl, h298, h300⟩
       refine zzi ⟨32, r297.cs ++ r299.cs⟩ ty32 ?_
       refine zzc 65 [(6, .adr 6 0)] [(6, ⟨32, r297.cs ++ r299.cs⟩)] (zzn (ret0 [.agg #[.bool r297.s, .slice r297.m.a r297.m.n r297.m.c, .slice r297.d.a r297.d.n r297.d.c, .bool r299.s, .slice r299.m.a r299.m.n r299.m.c, .slice r299.d.a r299.d.n r299.d.c]] ⟨zzq ty32 zze, trivial⟩ fun u304 e305 => ?_))
       have hc := Nt.cosA_g (r := r) (q := q) (b := k) (by have h9 := hb233; simp at h9; omega) (by have h9 := hb250; simp at h9; omega) (by have h9 := hb267; simp at h9; omega)
       refine ⟨r297, r299, rfl, RatN.more (K := 70) ?_ xq, RatN.more (K := 70) ?_ xq⟩
       ·rw [hc]; exact (h298.ext e305)
       ·rw [hc]; exact (h300.ext e305)
set_option maxHeartbeats 4000000 in
theorem k_cosine {u w : World} {p : Int} {q k : Nat} (d : Dat u w) (hq0 : 0 < q) (hq2 : q ≤ 10000) (hG0 : Nt.GapQ q k) (hp0 : -1000000000 ≤ p) (hp1 : p ≤ 1000000000) (hk : k ≤ 256)  : Calls Tryz.prog 100 #[.int .i64 p, .int .i64 (q : Int), .int .i64 (k : Int)] w (Post u w fun v u' => ∃ r1 r2 : RL, v = IV r1 r2 ∧ RatN u' r1 ((Nt.cosV p q k).1) 80 ∧ RatN u' r2 ((Nt.cosV p q k).2) 80) := by
 have htm := Nt.tmod_bd p hq0
 obtain ⟨g, hg3, hG⟩ := id hG0
 refine zzl (args := [.int .i64 p, .int .i64 q, .int .i64 k]) Tryz.func100 rfl Tryz.ntmps100 (rs := [.cell 6 32]) Tryz.results100 (le_b rfl) (le_b rfl) d ?_
 refine sq9 (zzj 3 ⟨3, [.int .i64 p]⟩ (zzj 4 ⟨3, [.int .i64 q]⟩ (zzj 6 ⟨32, [.bool false, .slice none 0 0, .slice none 0 0, .bool false, .slice none 0 0, .slice none 0 0]⟩ (zzb (sq9 (zzh 8 (zI p) ty3 zzk (zzh 9 (zI q) ty3 zzk (zyp 10 (x := zI (IntKind.i64.wrap ((2 : Int) * (q : Int)))) (zI (2 * q : Nat)) (eqI xz) (sy_rem 11 (m := ((2 * q : Nat) : Int)) (Int.tmod p (2 * (q : Int))) xq (by rw [Int.natCast_mul]; rfl) ?_)))))))))
 refine zzi ⟨3, [.int .i64 (Int.tmod p (2 * (q : Int)))]⟩ ty3 ?_
 refine zzb (zzd (sq9 (zzh 12 (zI (Int.tmod p (2 * (q : Int)))) ty3 zzk (zza 13 (zB (decide ((Int.tmod p (2 * (q : Int))) < 0))) (zzb (zzt (b := decide ((Int.tmod p (2 * (q : Int))) < 0)) xj (fun hb11 => ?_) (fun hb11 => ?_)))))))
 ·replace hb11 : (decide ((Int.tmod p (2 * (q : Int))) < 0)) = true := hb11
  have qhb11 := of_decide_eq_true hb11
  refine zzf (zzh 14 (zI (Int.tmod p (2 * (q : Int)))) ty3 zzk (zyp 15 (x := zI (IntKind.i64.wrap (0 - (Int.tmod p (2 * (q : Int)))))) (zI (-(Int.tmod p (2 * (q : Int))))) (eqI xz) (zzi ⟨3, [.int .i64 (-(Int.tmod p (2 * (q : Int))))]⟩ ty3 ?_)))
  refine zzb (zzd (sq9 (zzh 16 (zI (-(Int.tmod p (2 * (q : Int))))) ty3 zzk (zzh 17 (zI q) ty3 zzk (zza 18 (zB (decide ((q : Int) < (-(Int.tmod p (2 * (q : Int))))))) (zzb (zzt (b := decide ((q : Int) < (-(Int.tmod p (2 * (q : Int)))))) xj (fun hb12 => ?_) (fun hb12 => ?_))))))))
  ·replace hb12 : (decide ((q : Int) < (-(Int.tmod p (2 * (q : Int)))))) = true := hb12
   have qhb12 := of_decide_eq_true hb12
   refine zzf (zzh 19 (zI q) ty3 zzk (zyp 20 (x := zI (IntKind.i64.wrap ((2 : Int) * (q : Int)))) (zI (2 * q : Nat)) (eqI xz) (zzh 21 (zI (-(Int.tmod p (2 * (q : Int))))) ty3 zzk (zyp 22 (x := zI (IntKind.i64.wrap (((2 * q : Nat) : Int) - (-(Int.tmod p (2 * (q : Int))))))) (zI (((2 * q : Nat) : Int) - (-(Int.tmod p (2 * (q : Int)))))) yq (zzi ⟨3, [.int .i64 (((2 * q : Nat) : Int) - (-(Int.tmod p (2 * (q : Int)))))]⟩ ty3 ?_)))))
   refine zzb (zzd (zzd ?_))
   have hfold : (((2 * q : Nat) : Int) - (-(Int.tmod p (2 * (q : Int))))) = ((Nt.fold p q : Nat) : Int) := by unfold Nt.fold; dsimp only; split <;> omega
   rw [hfold]
   have hfl := Nt.fold_le p q hq0
   obtain ⟨r, hr⟩ : ∃ r, Nt.fold p q = r := ⟨_, rfl⟩
   rw [hr] at hfl ⊢
   clear hfold
   refine zzf (zzh 23 (zI r) ty3 zzk (zyp 24 (x := zI (IntKind.i64.wrap ((2 : Int) * (r : Int)))) (zI (2 * r : Nat)) (eqI xz) (zzh 25 (zI q) ty3 zzk (zza 26 (zB (decide ((q : Int) < ((2 * r : Nat) : Int)))) (zzb (zzt (b := decide ((q : Int) < ((2 * r : Nat) : Int))) xj (fun hb13 => ?_) (fun hb13 => ?_)))))))
   ·replace hb13 : (decide ((q : Int) < ((2 * r : Nat) : Int))) = true := hb13
    have qhb13 := of_decide_eq_true hb13
    have hb9 := hb13
    refine sq9 (zzh 27 (zI q) ty3 zzk (zzh 28 (zI r) ty3 zzk (zyp 29 (x := zI (IntKind.i64.wrap ((q : Int) - (r : Int)))) (zI (q - r : Nat)) (eqI xz) (zzh 30 (zI q) ty3 zzk (zza 31 (zI k) (zzg 32 100 [.int .i64 (q - r : Nat), .int .i64 q, .int .i64 k] ?_))))))
    intro w14 u14 e14 d14
    have k21 := (show Calls _ _ #[.int .i64 ((q - r : Nat) : Int), .int .i64 (q : Int), .int .i64 (k : Int)] _ _ from (by have h9 := k_cosA (p := ((q - r : Nat) : Int)) (q := q) (k := k) d14 hq0 hq2 hG0 xq xq hk (by rw [Nt.fold_id xq]; have h8 := of_decide_eq_true hb9; omega); rw [Nt.fold_id xq] at h9; exact h9))
    with_reducible refine zPm k21 ?_
    rintro _ u19 g20 ⟨r15, r17, rfl, h16, h18⟩
    refine zzj 7 ⟨32, [.bool false, .slice none 0 0, .slice none 0 0, .bool false, .slice none 0 0, .slice none 0 0]⟩ (zzi ⟨32, r15.cs ++ r17.cs⟩ ty32 ?_)
    refine zzc 65 [(6, .adr 6 0), (7, .adr 7 0)] [(6, ⟨32, [.bool false, .slice none 0 0, .slice none 0 0, .bool false, .slice none 0 0, .slice none 0 0]⟩), (7, ⟨32, r15.cs ++ r17.cs⟩)] (zzd (zzy [0, 1, 3, 0, 8, 31, 63, 127] [(0, []), (1, []), (3, []), (4, []), (2, []), (5, []), (6, []), (7, [])] xj xj (zza 33 (.adr 7 3) (zzh 34 (.v (r17.v)) ty26 zze (zza 36 (.adr 7 0) (zzh 37 (.v (r15.v)) ty26 zze (zzg 35 176 [r17.v] ?_)))))))
    intro w22 u22 e22 d22
    have k27 := k_ratNeg d22 (h18.ext e22).raw xq
    with_reducible refine zPm k27 ?_
    rintro _ u25 g26 ⟨r23, rfl, h24⟩
    refine zzg 38 176 [r15.v] ?_
    intro w28 u28 e28 d28
    have k33 := k_ratNeg d28 (h16.ext (e22.trans (g26.ext.trans e28))).raw xq
    with_reducible refine zPm k33 ?_
    rintro _ u31 g32 ⟨r29, rfl, h30⟩
    refine zza 39 (.v (.agg #[.bool r23.s, r23.m.v, r23.d.v, .bool r29.s, r29.m.v, r29.d.v])) (zzi ⟨32, r23.cs ++ r29.cs⟩ ty32 ?_)
    refine zzb (zzn (zzv (ret0 [.agg #[.bool r23.s, .slice r23.m.a r23.m.n r23.m.c, .slice r23.d.a r23.d.n r23.d.c, .bool r29.s, .slice r29.m.a r29.m.n r29.m.c, .slice r29.d.a r29.d.n r29.d.c]] ⟨zzq ty32 zze, trivial⟩ fun u34 e35 => ?_)))
    have hc := Nt.cosV_hi (b := k) hr (by have h9 := of_decide_eq_true hb13; omega)
    refine ⟨r23, r29, rfl, RatN.more (K := 80) ?_ xq, RatN.more (K := 80) ?_ xq⟩
    ·rw [hc]; exact (h24.ext (e28.trans (g32.ext.trans e35)))
    ·rw [hc]; exact (h30.ext e35)
   ·replace hb13 : (decide ((q : Int) < ((2 * r : Nat) : Int))) = false := hb13
    have qhb13 := of_decide_eq_false hb13
    refine zzr (zzo ?_)
    refine zzd (zzs (sq9 (zzh 41 (zI r) ty3 zzk (zza 42 (zB ((r : Int) == 0)) (zza 40 (zB ((r : Int) == 0)) (zzb (zzt (b := (r : Int) == 0) xj (fun hb36 => ?_) (fun hb36 => ?_))))))))
    ·replace hb36 : ((r : Int) == 0) = true := hb36
     have qhb36 : (r : Int) = 0 := by simpa using hb36
     refine sq9 (zzg 43 118 [.int .i64 1] ?_)
     intro w37 u37 e37 d37
     have k42 := k_ratOf d37 (z := 1) xq xq
     with_reducible refine zPm k42 ?_
     rintro _ u40 g41 ⟨r38, rfl, h39⟩
     refine zza 44 (zI k) (zzg 45 177 [r38.v, .int .i64 k] ?_)
     intro w43 u43 e43 d43
     have k50 := k_exactly (k := k) d43 (h39.ext e43) xq xq
     with_reducible refine zPm k50 ?_
     rintro _ u48 g49 ⟨r44, r46, rfl, h45, h47⟩
     refine zzi ⟨32, r44.cs ++ r46.cs⟩ ty32 ?_
     refine zzc 65 [(6, .adr 6 0)] [(6, ⟨32, r44.cs ++ r46.cs⟩)] (zzn (zyt (zzv (ret0 [.agg #[.bool r44.s, .slice r44.m.a r44.m.n r44.m.c, .slice r44.d.a r44.d.n r44.d.c, .bool r46.s, .slice r46.m.a r46.m.n r46.m.c, .slice r46.d.a r46.d.n r46.d.c]] ⟨zzq ty32 zze, trivial⟩ fun u51 e52 => ?_))))
     have hc := (Nt.cosV_lo (b := k) hr (by have h9 := of_decide_eq_false hb13; omega)).trans (Nt.cosA_0 (r := r) (q := q) (b := k) (by have h9 := hb36; simp at h9; omega))
     refine ⟨r44, r46, rfl, RatN.more (K := 80) ?_ xq, RatN.more (K := 80) ?_ xq⟩
     ·rw [hc]; exact (h45.ext e52)
     ·rw [hc]; exact (h47.ext e52)
    ·replace hb36 : ((r : Int) == 0) = false := hb36
     have qhb36 : ¬ ((r : Int) = 0) := by simpa using hb36
     refine sq9 (zzh 47 (zI r) ty3 zzk (zyp 48 (x := zI (IntKind.i64.wrap ((2 : Int) * (r : Int)))) (zI (2 * r : Nat)) (eqI xz) (zzh 49 (zI q) ty3 zzk (zza 50 (zB (((2 * r : Nat) : Int) == (q : Int))) (zza 46 (zB (((2 * r : Nat) : Int) == (q : Int))) (zzc 65 [(2, zI k), (3, .adr 3 0), (4, .adr 4 0), (6, .adr 6 0), (46, zB (((2 * r : Nat) : Int) == (q : Int)))] [(3, ⟨3, [.int .i64 r]⟩), (4, ⟨3, [.int .i64 q]⟩), (6, ⟨32, [.bool false, .slice none 0 0, .slice none 0 0, .bool false, .slice none 0 0, .slice none 0 0]⟩)] (zzt (b := ((2 * r : Nat) : Int) == (q : Int)) xj (fun hb53 => ?_) (fun hb53 => ?_))))))))
     ·replace hb53 : (((2 * r : Nat) : Int) == (q : Int)) = true := hb53
      refine sq9 (zzg 51 118 [.int .i64 0] ?_)
      intro w54 u54 e54 d54
      have k59 := k_ratOf d54 (z := 0) xq xq
      with_reducible refine zPm k59 ?_
      rintro _ u57 g58 ⟨r55, rfl, h56⟩
      refine zza 52 (zI k) (zzg 53 177 [r55.v, .int .i64 k] ?_)
      intro w60 u60 e60 d60
      have k67 := k_exactly (k := k) d60 (h56.ext e60) xq xq
      with_reducible refine zPm k67 ?_
      rintro _ u65 g66 ⟨r61, r63, rfl, h62, h64⟩
      refine zzi ⟨32, r61.cs ++ r63.cs⟩ ty32 ?_
      refine zzb (zzn (zyt (zzv (ret0 [.agg #[.bool r61.s, .slice r61.m.a r61.m.n r61.m.c, .slice r61.d.a r61.d.n r61.d.c, .bool r63.s, .slice r63.m.a r63.m.n r63.m.c, .slice r63.d.a r63.d.n r63.d.c]] ⟨zzq ty32 zze, trivial⟩ fun u68 e69 => ?_))))
      have hc := (Nt.cosV_lo (b := k) hr (by have h9 := of_decide_eq_false hb13; omega)).trans (Nt.cosA_h (r := r) (q := q) (b := k) (by have h9 := hb36; simp at h9; omega) (by have h9 := hb53; simp at h9; omega))
      refine ⟨r61, r63, rfl, RatN.more (K := 80) ?_ xq, RatN.more (K := 80) ?_ xq⟩
      ·rw [hc]; exact (h62.ext e69)
      ·rw [hc]; exact (h64.ext e69)
     ·replace hb53 : (((2 * r : Nat) : Int) == (q : Int)) = false := hb53
      have q9hb53 : ¬ 2 * r = q := by have h9 := hb53; simp at h9; omega
      refine sq9 (zzh 55 (zI r) ty3 zzk (zyp 56 (x := zI (IntKind.i64.wrap ((3 : Int) * (r : Int)))) (zI (3 * r : Nat)) (eqI xz) (zzh 57 (zI q) ty3 zzk (zza 58 (zB (((3 * r : Nat) : Int) == (q : Int))) (zza 54 (zB (((3 * r : Nat) : Int) == (q : Int))) (zzb (zzt (b := ((3 * r : Nat) : Int) == (q : Int)) xj (fun hb70 => ?_) (fun hb70 => ?_))))))))
      ·replace hb70 : (((3 * r : Nat) : Int) == (q : Int)) = true := hb70
       refine sq9 (zzg 59 127 [.int .i64 1, .int .i64 2] ?_)
       intro w71 u71 e71 d71
       have k76 := k_ratFrac d71 (a := 1) (b := 2) xq xq xq xq
       with_reducible refine zPm k76 ?_
       rintro _ u74 g75 ⟨r72, rfl, h73⟩
       refine zza 60 (zI k) (zzg 61 177 [r72.v, .int .i64 k] ?_)
       intro w77 u77 e77 d77
       have k84 := k_exactly (k := k) d77 (h73.ext e77) xq xq
       with_reducible refine zPm k84 ?_
       rintro _ u82 g83 ⟨r78, r80, rfl, h79, h81⟩
       refine zzi ⟨32, r78.cs ++ r80.cs⟩ ty32 ?_
       refine zzb (zzn (zyt (zzv (ret0 [.agg #[.bool r78.s, .slice r78.m.a r78.m.n r78.m.c, .slice r78.d.a r78.d.n r78.d.c, .bool r80.s, .slice r80.m.a r80.m.n r80.m.c, .slice r80.d.a r80.d.n r80.d.c]] ⟨zzq ty32 zze, trivial⟩ fun u85 e86 => ?_))))
       have hc := (Nt.cosV_lo (b := k) hr (by have h9 := of_decide_eq_false hb13; omega)).trans (Nt.cosA_3 (r := r) (q := q) (b := k) (by have h9 := hb36; simp at h9; omega) (by have h9 := hb53; simp at h9; omega) (by have h9 := hb70; simp at h9; omega))
       refine ⟨r78, r80, rfl, RatN.more (K := 80) ?_ xq, RatN.more (K := 80) ?_ xq⟩
       ·rw [hc]; exact (h79.ext e86)
       ·rw [hc]; exact (h81.ext e86)
      ·replace hb70 : (((3 * r : Nat) : Int) == (q : Int)) = false := hb70
       have q9hb70 : ¬ 3 * r = q := by have h9 := hb70; simp at h9; omega
       refine zzr (zzo ?_)
       refine zzd (sw_pubA (r := 3) (t := 3) [3] xk xj (by rfl) (by rfl) xj (fun b87 u88 e89 hb90 hv91 hh92 => ?_))
       refine sw_pubA (r := 4) (t := 4) [4] xk xj (by rfl) (by rfl) xj (fun b93 u94 e95 hb96 hv97 hh98 => ?_)
       refine zzf (sy_fun 62 [.pointer (some ⟨b87, 0, none⟩), .pointer (some ⟨b93, 0, none⟩)] ?_)
       refine zza 63 (zI k) (zzg 64 101 [.func (.func 178) #[] #[.pointer (some ⟨b87, 0, none⟩), .pointer (some ⟨b93, 0, none⟩)], .int .i64 k] ?_)
       intro w99 u99 e99 d99
       have k106 := k_irrCos (k := k) d99 ((e95.trans e99).cells hh92) (e99.cells hh98) hq0 xq xq xq (hG r xq xq xq) hg3 xq
       with_reducible refine zPm k106 ?_
       rintro _ u104 g105 ⟨r100, r102, rfl, h101, h103⟩
       refine zzi ⟨32, r100.cs ++ r102.cs⟩ ty32 ?_
       refine zzb (zzn (ret0 [.agg #[.bool r100.s, .slice r100.m.a r100.m.n r100.m.c, .slice r100.d.a r100.d.n r100.d.c, .bool r102.s, .slice r102.m.a r102.m.n r102.m.c, .slice r102.d.a r102.d.n r102.d.c]] ⟨zzq ty32 zze, trivial⟩ fun u107 e108 => ?_))
       have hc := (Nt.cosV_lo (b := k) hr (by have h9 := of_decide_eq_false hb13; omega)).trans (Nt.cosA_g (r := r) (q := q) (b := k) (by have h9 := hb36; simp at h9; omega) (by have h9 := hb53; simp at h9; omega) (by have h9 := hb70; simp at h9; omega))
       refine ⟨r100, r102, rfl, RatN.more (K := 70) ?_ xq, RatN.more (K := 70) ?_ xq⟩
       ·rw [hc]; exact (h101.ext e108)
       ·rw [hc]; exact (h103.ext e108)
  ·replace hb12 : (decide ((q : Int) < (-(Int.tmod p (2 * (q : Int)))))) = false := hb12
   have qhb12 := of_decide_eq_false hb12
   refine zzr (zzo ?_)
   refine zzd (zzd ?_)
   have hfold : (-(Int.tmod p (2 * (q : Int)))) = ((Nt.fold p q : Nat) : Int) := by unfold Nt.fold; dsimp only; split <;> omega
   rw [hfold]
   have hfl := Nt.fold_le p q hq0
   obtain ⟨r, hr⟩ : ∃ r, Nt.fold p q = r := ⟨_, rfl⟩
   rw [hr] at hfl ⊢
   clear hfold
   refine zzf (zzh 23 (zI r) ty3 zzk (zyp 24 (x := zI (IntKind.i64.wrap ((2 : Int) * (r : Int)))) (zI (2 * r : Nat)) (eqI xz) (zzh 25 (zI q) ty3 zzk (zza 26 (zB (decide ((q : Int) < ((2 * r : Nat) : Int)))) (zzb (zzt (b := decide ((q : Int) < ((2 * r : Nat) : Int))) xj (fun hb109 => ?_) (fun hb109 => ?_)))))))
   ·replace hb109 : (decide ((q : Int) < ((2 * r : Nat) : Int))) = true := hb109
    have qhb109 := of_decide_eq_true hb109
    have hb9 := hb109
    refine sq9 (zzh 27 (zI q) ty3 zzk (zzh 28 (zI r) ty3 zzk (zyp 29 (x := zI (IntKind.i64.wrap ((q : Int) - (r : Int)))) (zI (q - r : Nat)) (eqI xz) (zzh 30 (zI q) ty3 zzk (zza 31 (zI k) (zzg 32 100 [.int .i64 (q - r : Nat), .int .i64 q, .int .i64 k] ?_))))))
    intro w110 u110 e110 d110
    have k117 := (show Calls _ _ #[.int .i64 ((q - r : Nat) : Int), .int .i64 (q : Int), .int .i64 (k : Int)] _ _ from (by have h9 := k_cosA (p := ((q - r : Nat) : Int)) (q := q) (k := k) d110 hq0 hq2 hG0 xq xq hk (by rw [Nt.fold_id xq]; have h8 := of_decide_eq_true hb9; omega); rw [Nt.fold_id xq] at h9; exact h9))
    with_reducible refine zPm k117 ?_
    rintro _ u115 g116 ⟨r111, r113, rfl, h112, h114⟩
    refine zzj 7 ⟨32, [.bool false, .slice none 0 0, .slice none 0 0, .bool false, .slice none 0 0, .slice none 0 0]⟩ (zzi ⟨32, r111.cs ++ r113.cs⟩ ty32 ?_)
    refine zzb (zzd (zzy [0, 1, 3, 0, 8, 31, 63, 127] [(0, []), (1, []), (3, []), (4, []), (2, []), (5, []), (6, []), (7, [])] xj xj (zza 33 (.adr 7 3) (zzh 34 (.v (r113.v)) ty26 zze (zza 36 (.adr 7 0) (zzh 37 (.v (r111.v)) ty26 zze (zzg 35 176 [r113.v] ?_)))))))
    intro w118 u118 e118 d118
    have k123 := k_ratNeg d118 (h114.ext e118).raw xq
    with_reducible refine zPm k123 ?_
    rintro _ u121 g122 ⟨r119, rfl, h120⟩
    refine zzg 38 176 [r111.v] ?_
    intro w124 u124 e124 d124
    have k129 := k_ratNeg d124 (h112.ext (e118.trans (g122.ext.trans e124))).raw xq
    with_reducible refine zPm k129 ?_
    rintro _ u127 g128 ⟨r125, rfl, h126⟩
    refine zza 39 (.v (.agg #[.bool r119.s, r119.m.v, r119.d.v, .bool r125.s, r125.m.v, r125.d.v])) (zzi ⟨32, r119.cs ++ r125.cs⟩ ty32 ?_)
    refine zzc 65 [(6, .adr 6 0)] [(6, ⟨32, r119.cs ++ r125.cs⟩)] (zzn (zzv (ret0 [.agg #[.bool r119.s, .slice r119.m.a r119.m.n r119.m.c, .slice r119.d.a r119.d.n r119.d.c, .bool r125.s, .slice r125.m.a r125.m.n r125.m.c, .slice r125.d.a r125.d.n r125.d.c]] ⟨zzq ty32 zze, trivial⟩ fun u130 e131 => ?_)))
    have hc := Nt.cosV_hi (b := k) hr (by have h9 := of_decide_eq_true hb109; omega)
    refine ⟨r119, r125, rfl, RatN.more (K := 80) ?_ xq, RatN.more (K := 80) ?_ xq⟩
    ·rw [hc]; exact (h120.ext (e124.trans (g128.ext.trans e131)))
    ·rw [hc]; exact (h126.ext e131)
   ·replace hb109 : (decide ((q : Int) < ((2 * r : Nat) : Int))) = false := hb109
    have qhb109 := of_decide_eq_false hb109
    refine zzr (zzo ?_)
    refine zzd (zzs (sq9 (zzh 41 (zI r) ty3 zzk (zza 42 (zB ((r : Int) == 0)) (zza 40 (zB ((r : Int) == 0)) (zzb (zzt (b := (r : Int) == 0) xj (fun hb132 => ?_) (fun hb132 => ?_))))))))
    ·replace hb132 : ((r : Int) == 0) = true := hb132
     have qhb132 : (r : Int) = 0 := by simpa using hb132
     refine sq9 (zzg 43 118 [.int .i64 1] ?_)
     intro w133 u133 e133 d133
     have k138 := k_ratOf d133 (z := 1) xq xq
     with_reducible refine zPm k138 ?_
     rintro _ u136 g137 ⟨r134, rfl, h135⟩
     refine zza 44 (zI k) (zzg 45 177 [r134.v, .int .i64 k] ?_)
     intro w139 u139 e139 d139
     have k146 := k_exactly (k := k) d139 (h135.ext e139) xq xq
     with_reducible refine zPm k146 ?_
     rintro _ u144 g145 ⟨r140, r142, rfl, h141, h143⟩
     refine zzi ⟨32, r140.cs ++ r142.cs⟩ ty32 ?_
     refine zzb (zzn (zyt (zzv (ret0 [.agg #[.bool r140.s, .slice r140.m.a r140.m.n r140.m.c, .slice r140.d.a r140.d.n r140.d.c, .bool r142.s, .slice r142.m.a r142.m.n r142.m.c, .slice r142.d.a r142.d.n r142.d.c]] ⟨zzq ty32 zze, trivial⟩ fun u147 e148 => ?_))))
     have hc := (Nt.cosV_lo (b := k) hr (by have h9 := of_decide_eq_false hb109; omega)).trans (Nt.cosA_0 (r := r) (q := q) (b := k) (by have h9 := hb132; simp at h9; omega))
     refine ⟨r140, r142, rfl, RatN.more (K := 80) ?_ xq, RatN.more (K := 80) ?_ xq⟩
     ·rw [hc]; exact (h141.ext e148)
     ·rw [hc]; exact (h143.ext e148)
    ·replace hb132 : ((r : Int) == 0) = false := hb132
     have qhb132 : ¬ ((r : Int) = 0) := by simpa using hb132
     refine sq9 (zzh 47 (zI r) ty3 zzk (zyp 48 (x := zI (IntKind.i64.wrap ((2 : Int) * (r : Int)))) (zI (2 * r : Nat)) (eqI xz) (zzh 49 (zI q) ty3 zzk (zza 50 (zB (((2 * r : Nat) : Int) == (q : Int))) (zza 46 (zB (((2 * r : Nat) : Int) == (q : Int))) (zzb (zzt (b := ((2 * r : Nat) : Int) == (q : Int)) xj (fun hb149 => ?_) (fun hb149 => ?_))))))))
     ·replace hb149 : (((2 * r : Nat) : Int) == (q : Int)) = true := hb149
      refine sq9 (zzg 51 118 [.int .i64 0] ?_)
      intro w150 u150 e150 d150
      have k155 := k_ratOf d150 (z := 0) xq xq
      with_reducible refine zPm k155 ?_
      rintro _ u153 g154 ⟨r151, rfl, h152⟩
      refine zza 52 (zI k) (zzg 53 177 [r151.v, .int .i64 k] ?_)
      intro w156 u156 e156 d156
      have k163 := k_exactly (k := k) d156 (h152.ext e156) xq xq
      with_reducible refine zPm k163 ?_
      rintro _ u161 g162 ⟨r157, r159, rfl, h158, h160⟩
      refine zzi ⟨32, r157.cs ++ r159.cs⟩ ty32 ?_
      refine zzc 65 [(6, .adr 6 0)] [(6, ⟨32, r157.cs ++ r159.cs⟩)] (zzn (zyt (zzv (ret0 [.agg #[.bool r157.s, .slice r157.m.a r157.m.n r157.m.c, .slice r157.d.a r157.d.n r157.d.c, .bool r159.s, .slice r159.m.a r159.m.n r159.m.c, .slice r159.d.a r159.d.n r159.d.c]] ⟨zzq ty32 zze, trivial⟩ fun u164 e165 => ?_))))
      have hc := (Nt.cosV_lo (b := k) hr (by have h9 := of_decide_eq_false hb109; omega)).trans (Nt.cosA_h (r := r) (q := q) (b := k) (by have h9 := hb132; simp at h9; omega) (by have h9 := hb149; simp at h9; omega))
      refine ⟨r157, r159, rfl, RatN.more (K := 80) ?_ xq, RatN.more (K := 80) ?_ xq⟩
      ·rw [hc]; exact (h158.ext e165)
      ·rw [hc]; exact (h160.ext e165)
     ·replace hb149 : (((2 * r : Nat) : Int) == (q : Int)) = false := hb149
      have q9hb149 : ¬ 2 * r = q := by have h9 := hb149; simp at h9; omega
      refine sq9 (zzh 55 (zI r) ty3 zzk (zyp 56 (x := zI (IntKind.i64.wrap ((3 : Int) * (r : Int)))) (zI (3 * r : Nat)) (eqI xz) (zzh 57 (zI q) ty3 zzk (zza 58 (zB (((3 * r : Nat) : Int) == (q : Int))) (zza 54 (zB (((3 * r : Nat) : Int) == (q : Int))) (zzc 65 [(2, zI k), (3, .adr 3 0), (4, .adr 4 0), (6, .adr 6 0), (54, zB (((3 * r : Nat) : Int) == (q : Int)))] [(3, ⟨3, [.int .i64 r]⟩), (4, ⟨3, [.int .i64 q]⟩), (6, ⟨32, [.bool false, .slice none 0 0, .slice none 0 0, .bool false, .slice none 0 0, .slice none 0 0]⟩)] (zzt (b := ((3 * r : Nat) : Int) == (q : Int)) xj (fun hb166 => ?_) (fun hb166 => ?_))))))))
      ·replace hb166 : (((3 * r : Nat) : Int) == (q : Int)) = true := hb166
       refine sq9 (zzg 59 127 [.int .i64 1, .int .i64 2] ?_)
       intro w167 u167 e167 d167
       have k172 := k_ratFrac d167 (a := 1) (b := 2) xq xq xq xq
       with_reducible refine zPm k172 ?_
       rintro _ u170 g171 ⟨r168, rfl, h169⟩
       refine zza 60 (zI k) (zzg 61 177 [r168.v, .int .i64 k] ?_)
       intro w173 u173 e173 d173
       have k180 := k_exactly (k := k) d173 (h169.ext e173) xq xq
       with_reducible refine zPm k180 ?_
       rintro _ u178 g179 ⟨r174, r176, rfl, h175, h177⟩
       refine zzi ⟨32, r174.cs ++ r176.cs⟩ ty32 ?_
       refine zzb (zzn (zyt (zzv (ret0 [.agg #[.bool r174.s, .slice r174.m.a r174.m.n r174.m.c, .slice r174.d.a r174.d.n r174.d.c, .bool r176.s, .slice r176.m.a r176.m.n r176.m.c, .slice r176.d.a r176.d.n r176.d.c]] ⟨zzq ty32 zze, trivial⟩ fun u181 e182 => ?_))))
       have hc := (Nt.cosV_lo (b := k) hr (by have h9 := of_decide_eq_false hb109; omega)).trans (Nt.cosA_3 (r := r) (q := q) (b := k) (by have h9 := hb132; simp at h9; omega) (by have h9 := hb149; simp at h9; omega) (by have h9 := hb166; simp at h9; omega))
       refine ⟨r174, r176, rfl, RatN.more (K := 80) ?_ xq, RatN.more (K := 80) ?_ xq⟩
       ·rw [hc]; exact (h175.ext e182)
       ·rw [hc]; exact (h177.ext e182)
      ·replace hb166 : (((3 * r : Nat) : Int) == (q : Int)) = false := hb166
       have q9hb166 : ¬ 3 * r = q := by have h9 := hb166; simp at h9; omega
       refine zzr (zzo ?_)
       refine zzd (sw_pubA (r := 3) (t := 3) [3] xk xj (by rfl) (by rfl) xj (fun b183 u184 e185 hb186 hv187 hh188 => ?_))
       refine sw_pubA (r := 4) (t := 4) [4] xk xj (by rfl) (by rfl) xj (fun b189 u190 e191 hb192 hv193 hh194 => ?_)
       refine zzf (sy_fun 62 [.pointer (some ⟨b183, 0, none⟩), .pointer (some ⟨b189, 0, none⟩)] ?_)
       refine zza 63 (zI k) (zzg 64 101 [.func (.func 178) #[] #[.pointer (some ⟨b183, 0, none⟩), .pointer (some ⟨b189, 0, none⟩)], .int .i64 k] ?_)
       intro w195 u195 e195 d195
       have k202 := k_irrCos (k := k) d195 ((e191.trans e195).cells hh188) (e195.cells hh194) hq0 xq xq xq (hG r xq xq xq) hg3 xq
       with_reducible refine zPm k202 ?_
       rintro _ u200 g201 ⟨r196, r198, rfl, h197, h199⟩
       refine zzi ⟨32, r196.cs ++ r198.cs⟩ ty32 ?_
       refine zzb (zzn (ret0 [.agg #[.bool r196.s, .slice r196.m.a r196.m.n r196.m.c, .slice r196.d.a r196.d.n r196.d.c, .bool r198.s, .slice r198.m.a r198.m.n r198.m.c, .slice r198.d.a r198.d.n r198.d.c]] ⟨zzq ty32 zze, trivial⟩ fun u203 e204 => ?_))
       have hc := (Nt.cosV_lo (b := k) hr (by have h9 := of_decide_eq_false hb109; omega)).trans (Nt.cosA_g (r := r) (q := q) (b := k) (by have h9 := hb132; simp at h9; omega) (by have h9 := hb149; simp at h9; omega) (by have h9 := hb166; simp at h9; omega))
       refine ⟨r196, r198, rfl, RatN.more (K := 70) ?_ xq, RatN.more (K := 70) ?_ xq⟩
       ·rw [hc]; exact (h197.ext e204)
       ·rw [hc]; exact (h199.ext e204)
 ·replace hb11 : (decide ((Int.tmod p (2 * (q : Int))) < 0)) = false := hb11
  have qhb11 := of_decide_eq_false hb11
  refine zzr (zzo ?_)
  refine zzd (sq9 (zzh 16 (zI (Int.tmod p (2 * (q : Int)))) ty3 zzk (zzh 17 (zI q) ty3 zzk (zza 18 (zB (decide ((q : Int) < (Int.tmod p (2 * (q : Int)))))) (zzb (zzt (b := decide ((q : Int) < (Int.tmod p (2 * (q : Int))))) xj (fun hb205 => ?_) (fun hb205 => ?_)))))))
  ·replace hb205 : (decide ((q : Int) < (Int.tmod p (2 * (q : Int))))) = true := hb205
   have qhb205 := of_decide_eq_true hb205
   refine zzf (zzh 19 (zI q) ty3 zzk (zyp 20 (x := zI (IntKind.i64.wrap ((2 : Int) * (q : Int)))) (zI (2 * q : Nat)) (eqI xz) (zzh 21 (zI (Int.tmod p (2 * (q : Int)))) ty3 zzk (zyp 22 (x := zI (IntKind.i64.wrap (((2 * q : Nat) : Int) - (Int.tmod p (2 * (q : Int)))))) (zI (((2 * q : Nat) : Int) - (Int.tmod p (2 * (q : Int))))) yq (zzi ⟨3, [.int .i64 (((2 * q : Nat) : Int) - (Int.tmod p (2 * (q : Int))))]⟩ ty3 ?_)))))
   refine zzb (zzd (zzd ?_))
   have hfold : (((2 * q : Nat) : Int) - (Int.tmod p (2 * (q : Int)))) = ((Nt.fold p q : Nat) : Int) := by unfold Nt.fold; dsimp only; split <;> omega
   rw [hfold]
   have hfl := Nt.fold_le p q hq0
   obtain ⟨r, hr⟩ : ∃ r, Nt.fold p q = r := ⟨_, rfl⟩
   rw [hr] at hfl ⊢
   clear hfold
   refine zzf (zzh 23 (zI r) ty3 zzk (zyp 24 (x := zI (IntKind.i64.wrap ((2 : Int) * (r : Int)))) (zI (2 * r : Nat)) (eqI xz) (zzh 25 (zI q) ty3 zzk (zza 26 (zB (decide ((q : Int) < ((2 * r : Nat) : Int)))) (zzb (zzt (b := decide ((q : Int) < ((2 * r : Nat) : Int))) xj (fun hb206 => ?_) (fun hb206 => ?_)))))))
   ·replace hb206 : (decide ((q : Int) < ((2 * r : Nat) : Int))) = true := hb206
    have qhb206 := of_decide_eq_true hb206
    have hb9 := hb206
    refine sq9 (zzh 27 (zI q) ty3 zzk (zzh 28 (zI r) ty3 zzk (zyp 29 (x := zI (IntKind.i64.wrap ((q : Int) - (r : Int)))) (zI (q - r : Nat)) (eqI xz) (zzh 30 (zI q) ty3 zzk (zza 31 (zI k) (zzg 32 100 [.int .i64 (q - r : Nat), .int .i64 q, .int .i64 k] ?_))))))
    intro w207 u207 e207 d207
    have k214 := (show Calls _ _ #[.int .i64 ((q - r : Nat) : Int), .int .i64 (q : Int), .int .i64 (k : Int)] _ _ from (by have h9 := k_cosA (p := ((q - r : Nat) : Int)) (q := q) (k := k) d207 hq0 hq2 hG0 xq xq hk (by rw [Nt.fold_id xq]; have h8 := of_decide_eq_true hb9; omega); rw [Nt.fold_id xq] at h9; exact h9))
    with_reducible refine zPm k214 ?_
    rintro _ u212 g213 ⟨r208, r210, rfl, h209, h211⟩
    refine zzj 7 ⟨32, [.bool false, .slice none 0 0, .slice none 0 0, .bool false, .slice none 0 0, .slice none 0 0]⟩ (zzi ⟨32, r208.cs ++ r210.cs⟩ ty32 ?_)
    refine zzb (zzd (zzy [0, 1, 3, 0, 8, 31, 63, 127] [(0, []), (1, []), (3, []), (4, []), (2, []), (5, []), (6, []), (7, [])] xj xj (zza 33 (.adr 7 3) (zzh 34 (.v (r210.v)) ty26 zze (zza 36 (.adr 7 0) (zzh 37 (.v (r208.v)) ty26 zze (zzg 35 176 [r210.v] ?_)))))))
    intro w215 u215 e215 d215
    have k220 := k_ratNeg d215 (h211.ext e215).raw xq
    with_reducible refine zPm k220 ?_
    rintro _ u218 g219 ⟨r216, rfl, h217⟩
    refine zzg 38 176 [r208.v] ?_
    intro w221 u221 e221 d221
    have k226 := k_ratNeg d221 (h209.ext (e215.trans (g219.ext.trans e221))).raw xq
    with_reducible refine zPm k226 ?_
    rintro _ u224 g225 ⟨r222, rfl, h223⟩
    refine zza 39 (.v (.agg #[.bool r216.s, r216.m.v, r216.d.v, .bool r222.s, r222.m.v, r222.d.v])) (zzi ⟨32, r216.cs ++ r222.cs⟩ ty32 ?_)
    refine zzc 65 [(6, .adr 6 0)] [(6, ⟨32, r216.cs ++ r222.cs⟩)] (zzn (zzv (ret0 [.agg #[.bool r216.s, .slice r216.m.a r216.m.n r216.m.c, .slice r216.d.a r216.d.n r216.d.c, .bool r222.s, .slice r222.m.a r222.m.n r222.m.c, .slice r222.d.a r222.d.n r222.d.c]] ⟨zzq ty32 zze, trivial⟩ fun u227 e228 => ?_)))
    have hc := Nt.cosV_hi (b := k) hr (by have h9 := of_decide_eq_true hb206; omega)
    refine ⟨r216, r222, rfl, RatN.more (K := 80) ?_ xq, RatN.more (K := 80) ?_ xq⟩
    ·rw [hc]; exact (h217.ext (e221.trans (g225.ext.trans e228)))
    ·rw [hc]; exact (h223.ext e228)
   ·replace hb206 : (decide ((q : Int) < ((2 * r : Nat) : Int))) = false := hb206
    have qhb206 := of_decide_eq_false hb206
    refine zzr (zzo ?_)
    refine zzd (zzs (sq9 (zzh 41 (zI r) ty3 zzk (zza 42 (zB ((r : Int) == 0)) (zza 40 (zB ((r : Int) == 0)) (zzb (zzt (b := (r : Int) == 0) xj (fun hb229 => ?_) (fun hb229 => ?_))))))))
    ·replace hb229 : ((r : Int) == 0) = true := hb229
     have qhb229 : (r : Int) = 0 := by simpa using hb229
     refine sq9 (zzg 43 118 [.int .i64 1] ?_)
     intro w230 u230 e230 d230
     have k235 := k_ratOf d230 (z := 1) xq xq
     with_reducible refine zPm k235 ?_
     rintro _ u233 g234 ⟨r231, rfl, h232⟩
     refine zza 44 (zI k) (zzg 45 177 [r231.v, .int .i64 k] ?_)
     intro w236 u236 e236 d236
     have k243 := k_exactly (k := k) d236 (h232.ext e236) xq xq
     with_reducible refine zPm k243 ?_
     rintro _ u241 g242 ⟨r237, r239, rfl, h238, h240⟩
     refine zzi ⟨32, r237.cs ++ r239.cs⟩ ty32 ?_
     refine zzb (zzn (zyt (zzv (ret0 [.agg #[.bool r237.s, .slice r237.m.a r237.m.n r237.m.c, .slice r237.d.a r237.d.n r237.d.c, .bool r239.s, .slice r239.m.a r239.m.n r239.m.c, .slice r239.d.a r239.d.n r239.d.c]] ⟨zzq ty32 zze, trivial⟩ fun u244 e245 => ?_))))
     have hc := (Nt.cosV_lo (b := k) hr (by have h9 := of_decide_eq_false hb206; omega)).trans (Nt.cosA_0 (r := r) (q := q) (b := k) (by have h9 := hb229; simp at h9; omega))
     refine ⟨r237, r239, rfl, RatN.more (K := 80) ?_ xq, RatN.more (K := 80) ?_ xq⟩
     ·rw [hc]; exact (h238.ext e245)
     ·rw [hc]; exact (h240.ext e245)
    ·replace hb229 : ((r : Int) == 0) = false := hb229
     have qhb229 : ¬ ((r : Int) = 0) := by simpa using hb229
     refine sq9 (zzh 47 (zI r) ty3 zzk (zyp 48 (x := zI (IntKind.i64.wrap ((2 : Int) * (r : Int)))) (zI (2 * r : Nat)) (eqI xz) (zzh 49 (zI q) ty3 zzk (zza 50 (zB (((2 * r : Nat) : Int) == (q : Int))) (zza 46 (zB (((2 * r : Nat) : Int) == (q : Int))) (zzb (zzt (b := ((2 * r : Nat) : Int) == (q : Int)) xj (fun hb246 => ?_) (fun hb246 => ?_))))))))
     ·replace hb246 : (((2 * r : Nat) : Int) == (q : Int)) = true := hb246
      refine sq9 (zzg 51 118 [.int .i64 0] ?_)
      intro w247 u247 e247 d247
      have k252 := k_ratOf d247 (z := 0) xq xq
      with_reducible refine zPm k252 ?_
      rintro _ u250 g251 ⟨r248, rfl, h249⟩
      refine zza 52 (zI k) (zzg 53 177 [r248.v, .int .i64 k] ?_)
      intro w253 u253 e253 d253
      have k260 := k_exactly (k := k) d253 (h249.ext e253) xq xq
      with_reducible refine zPm k260 ?_
      rintro _ u258 g259 ⟨r254, r256, rfl, h255, h257⟩
      refine zzi ⟨32, r254.cs ++ r256.cs⟩ ty32 ?_
      refine zzc 65 [(6, .adr 6 0)] [(6, ⟨32, r254.cs ++ r256.cs⟩)] (zzn (zyt (zzv (ret0 [.agg #[.bool r254.s, .slice r254.m.a r254.m.n r254.m.c, .slice r254.d.a r254.d.n r254.d.c, .bool r256.s, .slice r256.m.a r256.m.n r256.m.c, .slice r256.d.a r256.d.n r256.d.c]] ⟨zzq ty32 zze, trivial⟩ fun u261 e262 => ?_))))
      have hc := (Nt.cosV_lo (b := k) hr (by have h9 := of_decide_eq_false hb206; omega)).trans (Nt.cosA_h (r := r) (q := q) (b := k) (by have h9 := hb229; simp at h9; omega) (by have h9 := hb246; simp at h9; omega))
      refine ⟨r254, r256, rfl, RatN.more (K := 80) ?_ xq, RatN.more (K := 80) ?_ xq⟩
      ·rw [hc]; exact (h255.ext e262)
      ·rw [hc]; exact (h257.ext e262)
     ·replace hb246 : (((2 * r : Nat) : Int) == (q : Int)) = false := hb246
      have q9hb246 : ¬ 2 * r = q := by have h9 := hb246; simp at h9; omega
      refine sq9 (zzh 55 (zI r) ty3 zzk (zyp 56 (x := zI (IntKind.i64.wrap ((3 : Int) * (r : Int)))) (zI (3 * r : Nat)) (eqI xz) (zzh 57 (zI q) ty3 zzk (zza 58 (zB (((3 * r : Nat) : Int) == (q : Int))) (zza 54 (zB (((3 * r : Nat) : Int) == (q : Int))) (zzc 65 [(2, zI k), (3, .adr 3 0), (4, .adr 4 0), (6, .adr 6 0), (54, zB (((3 * r : Nat) : Int) == (q : Int)))] [(3, ⟨3, [.int .i64 r]⟩), (4, ⟨3, [.int .i64 q]⟩), (6, ⟨32, [.bool false, .slice none 0 0, .slice none 0 0, .bool false, .slice none 0 0, .slice none 0 0]⟩)] (zzt (b := ((3 * r : Nat) : Int) == (q : Int)) xj (fun hb263 => ?_) (fun hb263 => ?_))))))))
      ·replace hb263 : (((3 * r : Nat) : Int) == (q : Int)) = true := hb263
       refine sq9 (zzg 59 127 [.int .i64 1, .int .i64 2] ?_)
       intro w264 u264 e264 d264
       have k269 := k_ratFrac d264 (a := 1) (b := 2) xq xq xq xq
       with_reducible refine zPm k269 ?_
       rintro _ u267 g268 ⟨r265, rfl, h266⟩
       refine zza 60 (zI k) (zzg 61 177 [r265.v, .int .i64 k] ?_)
       intro w270 u270 e270 d270
       have k277 := k_exactly (k := k) d270 (h266.ext e270) xq xq
       with_reducible refine zPm k277 ?_
       rintro _ u275 g276 ⟨r271, r273, rfl, h272, h274⟩
       refine zzi ⟨32, r271.cs ++ r273.cs⟩ ty32 ?_
       refine zzb (zzn (zyt (zzv (ret0 [.agg #[.bool r271.s, .slice r271.m.a r271.m.n r271.m.c, .slice r271.d.a r271.d.n r271.d.c, .bool r273.s, .slice r273.m.a r273.m.n r273.m.c, .slice r273.d.a r273.d.n r273.d.c]] ⟨zzq ty32 zze, trivial⟩ fun u278 e279 => ?_))))
       have hc := (Nt.cosV_lo (b := k) hr (by have h9 := of_decide_eq_false hb206; omega)).trans (Nt.cosA_3 (r := r) (q := q) (b := k) (by have h9 := hb229; simp at h9; omega) (by have h9 := hb246; simp at h9; omega) (by have h9 := hb263; simp at h9; omega))
       refine ⟨r271, r273, rfl, RatN.more (K := 80) ?_ xq, RatN.more (K := 80) ?_ xq⟩
       ·rw [hc]; exact (h272.ext e279)
       ·rw [hc]; exact (h274.ext e279)
      ·replace hb263 : (((3 * r : Nat) : Int) == (q : Int)) = false := hb263
       have q9hb263 : ¬ 3 * r = q := by have h9 := hb263; simp at h9; omega
       refine zzr (zzo ?_)
       refine zzd (sw_pubA (r := 3) (t := 3) [3] xk xj (by rfl) (by rfl) xj (fun b280 u281 e282 hb283 hv284 hh285 => ?_))
       refine sw_pubA (r := 4) (t := 4) [4] xk xj (by rfl) (by rfl) xj (fun b286 u287 e288 hb289 hv290 hh291 => ?_)
       refine zzf (sy_fun 62 [.pointer (some ⟨b280, 0, none⟩), .pointer (some ⟨b286, 0, none⟩)] ?_)
       refine zza 63 (zI k) (zzg 64 101 [.func (.func 178) #[] #[.pointer (some ⟨b280, 0, none⟩), .pointer (some ⟨b286, 0, none⟩)], .int .i64 k] ?_)
       intro w292 u292 e292 d292
       have k299 := k_irrCos (k := k) d292 ((e288.trans e292).cells hh285) (e292.cells hh291) hq0 xq xq xq (hG r xq xq xq) hg3 xq
       with_reducible refine zPm k299 ?_
       rintro _ u297 g298 ⟨r293, r295, rfl, h294, h296⟩
       refine zzi ⟨32, r293.cs ++ r295.cs⟩ ty32 ?_
       refine zzb (zzn (ret0 [.agg #[.bool r293.s, .slice r293.m.a r293.m.n r293.m.c, .slice r293.d.a r293.d.n r293.d.c, .bool r295.s, .slice r295.m.a r295.m.n r295.m.c, .slice r295.d.a r295.d.n r295.d.c]] ⟨zzq ty32 zze, trivial⟩ fun u300 e301 => ?_))
       have hc := (Nt.cosV_lo (b := k) hr (by have h9 := of_decide_eq_false hb206; omega)).trans (Nt.cosA_g (r := r) (q := q) (b := k) (by have h9 := hb229; simp at h9; omega) (by have h9 := hb246; simp at h9; omega) (by have h9 := hb263; simp at h9; omega))
       refine ⟨r293, r295, rfl, RatN.more (K := 70) ?_ xq, RatN.more (K := 70) ?_ xq⟩
       ·rw [hc]; exact (h294.ext e301)
       ·rw [hc]; exact (h296.ext e301)
  ·replace hb205 : (decide ((q : Int) < (Int.tmod p (2 * (q : Int))))) = false := hb205
   have qhb205 := of_decide_eq_false hb205
   refine zzr (zzo ?_)
   refine zzd (zzd ?_)
   have hfold : (Int.tmod p (2 * (q : Int))) = ((Nt.fold p q : Nat) : Int) := by unfold Nt.fold; dsimp only; split <;> omega
   rw [hfold]
   have hfl := Nt.fold_le p q hq0
   obtain ⟨r, hr⟩ : ∃ r, Nt.fold p q = r := ⟨_, rfl⟩
   rw [hr] at hfl ⊢
   clear hfold
   refine zzf (zzh 23 (zI r) ty3 zzk (zyp 24 (x := zI (IntKind.i64.wrap ((2 : Int) * (r : Int)))) (zI (2 * r : Nat)) (eqI xz) (zzh 25 (zI q) ty3 zzk (zza 26 (zB (decide ((q : Int) < ((2 * r : Nat) : Int)))) (zzb (zzt (b := decide ((q : Int) < ((2 * r : Nat) : Int))) xj (fun hb302 => ?_) (fun hb302 => ?_)))))))
   ·replace hb302 : (decide ((q : Int) < ((2 * r : Nat) : Int))) = true := hb302
    have qhb302 := of_decide_eq_true hb302
    have hb9 := hb302
    refine sq9 (zzh 27 (zI q) ty3 zzk (zzh 28 (zI r) ty3 zzk (zyp 29 (x := zI (IntKind.i64.wrap ((q : Int) - (r : Int)))) (zI (q - r : Nat)) (eqI xz) (zzh 30 (zI q) ty3 zzk (zza 31 (zI k) (zzg 32 100 [.int .i64 (q - r : Nat), .int .i64 q, .int .i64 k] ?_))))))
    intro w303 u303 e303 d303
    have k310 := (show Calls _ _ #[.int .i64 ((q - r : Nat) : Int), .int .i64 (q : Int), .int .i64 (k : Int)] _ _ from (by have h9 := k_cosA (p := ((q - r : Nat) : Int)) (q := q) (k := k) d303 hq0 hq2 hG0 xq xq hk (by rw [Nt.fold_id xq]; have h8 := of_decide_eq_true hb9; omega); rw [Nt.fold_id xq] at h9; exact h9))
    with_reducible refine zPm k310 ?_
    rintro _ u308 g309 ⟨r304, r306, rfl, h305, h307⟩
    refine zzj 7 ⟨32, [.bool false, .slice none 0 0, .slice none 0 0, .bool false, .slice none 0 0, .slice none 0 0]⟩ (zzi ⟨32, r304.cs ++ r306.cs⟩ ty32 ?_)
    refine zzb (zzd (zzy [0, 1, 3, 0, 8, 31, 63, 127] [(0, []), (1, []), (3, []), (4, []), (2, []), (5, []), (6, []), (7, [])] xj xj (zza 33 (.adr 7 3) (zzh 34 (.v (r306.v)) ty26 zze (zza 36 (.adr 7 0) (zzh 37 (.v (r304.v)) ty26 zze (zzg 35 176 [r306.v] ?_)))))))
    intro w311 u311 e311 d311
    have k316 := k_ratNeg d311 (h307.ext e311).raw xq
    with_reducible refine zPm k316 ?_
    rintro _ u314 g315 ⟨r312, rfl, h313⟩
    refine zzg 38 176 [r304.v] ?_
    intro w317 u317 e317 d317
    have k322 := k_ratNeg d317 (h305.ext (e311.trans (g315.ext.trans e317))).raw xq
    with_reducible refine zPm k322 ?_
    rintro _ u320 g321 ⟨r318, rfl, h319⟩
    refine zza 39 (.v (.agg #[.bool r312.s, r312.m.v, r312.d.v, .bool r318.s, r318.m.v, r318.d.v])) (zzi ⟨32, r312.cs ++ r318.cs⟩ ty32 ?_)
    refine zzc 65 [(6, .adr 6 0)] [(6, ⟨32, r312.cs ++ r318.cs⟩)] (zzn (zzv (ret0 [.agg #[.bool r312.s, .slice r312.m.a r312.m.n r312.m.c, .slice r312.d.a r312.d.n r312.d.c, .bool r318.s, .slice r318.m.a r318.m.n r318.m.c, .slice r318.d.a r318.d.n r318.d.c]] ⟨zzq ty32 zze, trivial⟩ fun u323 e324 => ?_)))
    have hc := Nt.cosV_hi (b := k) hr (by have h9 := of_decide_eq_true hb302; omega)
    refine ⟨r312, r318, rfl, RatN.more (K := 80) ?_ xq, RatN.more (K := 80) ?_ xq⟩
    ·rw [hc]; exact (h313.ext (e317.trans (g321.ext.trans e324)))
    ·rw [hc]; exact (h319.ext e324)
   ·replace hb302 : (decide ((q : Int) < ((2 * r : Nat) : Int))) = false := hb302
    have qhb302 := of_decide_eq_false hb302
    refine zzr (zzo ?_)
    refine zzd (zzs (sq9 (zzh 41 (zI r) ty3 zzk (zza 42 (zB ((r : Int) == 0)) (zza 40 (zB ((r : Int) == 0)) (zzb (zzt (b := (r : Int) == 0) xj (fun hb325 => ?_) (fun hb325 => ?_))))))))
    ·replace hb325 : ((r : Int) == 0) = true := hb325
     have qhb325 : (r : Int) = 0 := by simpa using hb325
     refine sq9 (zzg 43 118 [.int .i64 1] ?_)
     intro w326 u326 e326 d326
     have k331 := k_ratOf d326 (z := 1) xq xq
     with_reducible refine zPm k331 ?_
     rintro _ u329 g330 ⟨r327, rfl, h328⟩
     refine zza 44 (zI k) (zzg 45 177 [r327.v, .int .i64 k] ?_)
     intro w332 u332 e332 d332
     have k339 := k_exactly (k := k) d332 (h328.ext e332) xq xq
     with_reducible refine zPm k339 ?_
     rintro _ u337 g338 ⟨r333, r335, rfl, h334, h336⟩
     refine zzi ⟨32, r333.cs ++ r335.cs⟩ ty32 ?_
     refine zzb (zzn (zyt (zzv (ret0 [.agg #[.bool r333.s, .slice r333.m.a r333.m.n r333.m.c, .slice r333.d.a r333.d.n r333.d.c, .bool r335.s, .slice r335.m.a r335.m.n r335.m.c, .slice r335.d.a r335.d.n r335.d.c]] ⟨zzq ty32 zze, trivial⟩ fun u340 e341 => ?_))))
     have hc := (Nt.cosV_lo (b := k) hr (by have h9 := of_decide_eq_false hb302; omega)).trans (Nt.cosA_0 (r := r) (q := q) (b := k) (by have h9 := hb325; simp at h9; omega))
     refine ⟨r333, r335, rfl, RatN.more (K := 80) ?_ xq, RatN.more (K := 80) ?_ xq⟩
     ·rw [hc]; exact (h334.ext e341)
     ·rw [hc]; exact (h336.ext e341)
    ·replace hb325 : ((r : Int) == 0) = false := hb325
     have qhb325 : ¬ ((r : Int) = 0) := by simpa using hb325
     refine sq9 (zzh 47 (zI r) ty3 zzk (zyp 48 (x := zI (IntKind.i64.wrap ((2 : Int) * (r : Int)))) (zI (2 * r : Nat)) (eqI xz) (zzh 49 (zI q) ty3 zzk (zza 50 (zB (((2 * r : Nat) : Int) == (q : Int))) (zza 46 (zB (((2 * r : Nat) : Int) == (q : Int))) (zzb (zzt (b := ((2 * r : Nat) : Int) == (q : Int)) xj (fun hb342 => ?_) (fun hb342 => ?_))))))))
     ·replace hb342 : (((2 * r : Nat) : Int) == (q : Int)) = true := hb342
      refine sq9 (zzg 51 118 [.int .i64 0] ?_)
      intro w343 u343 e343 d343
      have k348 := k_ratOf d343 (z := 0) xq xq
      with_reducible refine zPm k348 ?_
      rintro _ u346 g347 ⟨r344, rfl, h345⟩
      refine zza 52 (zI k) (zzg 53 177 [r344.v, .int .i64 k] ?_)
      intro w349 u349 e349 d349
      have k356 := k_exactly (k := k) d349 (h345.ext e349) xq xq
      with_reducible refine zPm k356 ?_
      rintro _ u354 g355 ⟨r350, r352, rfl, h351, h353⟩
      refine zzi ⟨32, r350.cs ++ r352.cs⟩ ty32 ?_
      refine zzb (zzn (zyt (zzv (ret0 [.agg #[.bool r350.s, .slice r350.m.a r350.m.n r350.m.c, .slice r350.d.a r350.d.n r350.d.c, .bool r352.s, .slice r352.m.a r352.m.n r352.m.c, .slice r352.d.a r352.d.n r352.d.c]] ⟨zzq ty32 zze, trivial⟩ fun u357 e358 => ?_))))
      have hc := (Nt.cosV_lo (b := k) hr (by have h9 := of_decide_eq_false hb302; omega)).trans (Nt.cosA_h (r := r) (q := q) (b := k) (by have h9 := hb325; simp at h9; omega) (by have h9 := hb342; simp at h9; omega))
      refine ⟨r350, r352, rfl, RatN.more (K := 80) ?_ xq, RatN.more (K := 80) ?_ xq⟩
      ·rw [hc]; exact (h351.ext e358)
      ·rw [hc]; exact (h353.ext e358)
     ·replace hb342 : (((2 * r : Nat) : Int) == (q : Int)) = false := hb342
      have q9hb342 : ¬ 2 * r = q := by have h9 := hb342; simp at h9; omega
      refine sq9 (zzh 55 (zI r) ty3 zzk (zyp 56 (x := zI (IntKind.i64.wrap ((3 : Int) * (r : Int)))) (zI (3 * r : Nat)) (eqI xz) (zzh 57 (zI q) ty3 zzk (zza 58 (zB (((3 * r : Nat) : Int) == (q : Int))) (zza 54 (zB (((3 * r : Nat) : Int) == (q : Int))) (zzb (zzt (b := ((3 * r : Nat) : Int) == (q : Int)) xj (fun hb359 => ?_) (fun hb359 => ?_))))))))
      ·replace hb359 : (((3 * r : Nat) : Int) == (q : Int)) = true := hb359
       refine sq9 (zzg 59 127 [.int .i64 1, .int .i64 2] ?_)
       intro w360 u360 e360 d360
       have k365 := k_ratFrac d360 (a := 1) (b := 2) xq xq xq xq
       with_reducible refine zPm k365 ?_
       rintro _ u363 g364 ⟨r361, rfl, h362⟩
       refine zza 60 (zI k) (zzg 61 177 [r361.v, .int .i64 k] ?_)
       intro w366 u366 e366 d366
       have k373 := k_exactly (k := k) d366 (h362.ext e366) xq xq
       with_reducible refine zPm k373 ?_
       rintro _ u371 g372 ⟨r367, r369, rfl, h368, h370⟩
       refine zzi ⟨32, r367.cs ++ r369.cs⟩ ty32 ?_
       refine zzc 65 [(6, .adr 6 0)] [(6, ⟨32, r367.cs ++ r369.cs⟩)] (zzn (zyt (zzv (ret0 [.agg #[.bool r367.s, .slice r367.m.a r367.m.n r367.m.c, .slice r367.d.a r367.d.n r367.d.c, .bool r369.s, .slice r369.m.a r369.m.n r369.m.c, .slice r369.d.a r369.d.n r369.d.c]] ⟨zzq ty32 zze, trivial⟩ fun u374 e375 => ?_))))
       have hc := (Nt.cosV_lo (b := k) hr (by have h9 := of_decide_eq_false hb302; omega)).trans (Nt.cosA_3 (r := r) (q := q) (b := k) (by have h9 := hb325; simp at h9; omega) (by have h9 := hb342; simp at h9; omega) (by have h9 := hb359; simp at h9; omega))
       refine ⟨r367, r369, rfl, RatN.more (K := 80) ?_ xq, RatN.more (K := 80) ?_ xq⟩
       ·rw [hc]; exact (h368.ext e375)
       ·rw [hc]; exact (h370.ext e375)
      ·replace hb359 : (((3 * r : Nat) : Int) == (q : Int)) = false := hb359
       have q9hb359 : ¬ 3 * r = q := by have h9 := hb359; simp at h9; omega
       refine zzr (zzo ?_)
       refine zzd (sw_pubA (r := 3) (t := 3) [3] xk xj (by rfl) (by rfl) xj (fun b376 u377 e378 hb379 hv380 hh381 => ?_))
       refine sw_pubA (r := 4) (t := 4) [4] xk xj (by rfl) (by rfl) xj (fun b382 u383 e384 hb385 hv386 hh387 => ?_)
       refine zzf (sy_fun 62 [.pointer (some ⟨b376, 0, none⟩), .pointer (some ⟨b382, 0, none⟩)] ?_)
       refine zza 63 (zI k) (zzg 64 101 [.func (.func 178) #[] #[.pointer (some ⟨b376, 0, none⟩), .pointer (some ⟨b382, 0, none⟩)], .int .i64 k] ?_)
       intro w388 u388 e388 d388
       have k395 := k_irrCos (k := k) d388 ((e384.trans e388).cells hh381) (e388.cells hh387) hq0 xq xq xq (hG r xq xq xq) hg3 xq
       with_reducible refine zPm k395 ?_
       rintro _ u393 g394 ⟨r389, r391, rfl, h390, h392⟩
       refine zzi ⟨32, r389.cs ++ r391.cs⟩ ty32 ?_
       refine zzc 65 [(6, .adr 6 0)] [(6, ⟨32, r389.cs ++ r391.cs⟩)] (zzn (ret0 [.agg #[.bool r389.s, .slice r389.m.a r389.m.n r389.m.c, .slice r389.d.a r389.d.n r389.d.c, .bool r391.s, .slice r391.m.a r391.m.n r391.m.c, .slice r391.d.a r391.d.n r391.d.c]] ⟨zzq ty32 zze, trivial⟩ fun u396 e397 => ?_))
       have hc := (Nt.cosV_lo (b := k) hr (by have h9 := of_decide_eq_false hb302; omega)).trans (Nt.cosA_g (r := r) (q := q) (b := k) (by have h9 := hb325; simp at h9; omega) (by have h9 := hb342; simp at h9; omega) (by have h9 := hb359; simp at h9; omega))
       refine ⟨r389, r391, rfl, RatN.more (K := 70) ?_ xq, RatN.more (K := 70) ?_ xq⟩
       ·rw [hc]; exact (h390.ext e397)
       ·rw [hc]; exact (h392.ext e397)
theorem k_ePermitted {u w : World} {n : Int} (d : Dat u w) : Calls Tryz.prog 77 #[.int .i64 n] w (Post u w fun v _ => v = .bool (decide (0 ≤ n ∧ n ≤ 256))) := by
 refine zzl (args := [.int .i64 n]) Tryz.func77 rfl Tryz.ntmps77 (rs := [.tmp 2]) Tryz.results77 (le_b rfl) (le_b rfl) d ?_
 refine sq9 (zza 2 (zB false) (zzb (sq9 (zza 3 (zI n) (zza 4 (zB (decide ((0 : Int) ≤ n))) ?_)))))
 rcases Bool.eq_false_or_eq_true (decide ((0 : Int) ≤ n)) with hs11 | hs11
 ·refine zyp 5 (x := zB (decide ((0 : Int) ≤ n))) (zB true) (by rw [hs11]) ?_
  have qhs11 := of_decide_eq_true hs11
  refine zza 6 (zI n) ?_ (hw := w1 2 true 5)
  refine zza 7 (zB (decide (n ≤ 256))) ?_ (hw := w1 2 true 5)
  refine zza 8 (zB (decide (n ≤ 256))) (zza 2 (zB (decide (n ≤ 256))) (zzb (zzn (ret0 [.bool (decide (n ≤ 256))] ⟨zzp, trivial⟩ fun u12 e13 => ?_))))
  show Value.bool _ = Value.bool _
  congr 1
  symm
  have h9 := of_decide_eq_true hs11
  by_cases h8 : n ≤ 256
  ·rw [decide_eq_true h8]; exact decide_eq_true ⟨h9, h8⟩
  ·rw [decide_eq_false h8]; exact decide_eq_false (fun h => h8 h.2)
 ·refine zyp 5 (x := zB (decide ((0 : Int) ≤ n))) (zB false) (by rw [hs11]) ?_
  have qhs11 := of_decide_eq_false hs11
  refine zzm 6 (uw 2 true false 5) (zzm 7 (uw 2 true false 5) (zza 8 (zB false) (zza 2 (zB false) (zzb (zzn (ret0 [.bool false] ⟨zzp, trivial⟩ fun u14 e15 => ?_))))))
  show Value.bool _ = Value.bool _
  congr 1
  symm
  exact decide_eq_false (fun h => absurd h.1 (of_decide_eq_false hs11))
theorem k_CosPiG {u w : World} {p : Int} {q k : Nat} (d : Dat u w) (hq1 : 1 ≤ q) (hq2 : q ≤ 1000) (hp0 : -1000000 ≤ p) (hp1 : p ≤ 1000000) (hk : k ≤ 256) (hG : Nt.GapQ q k) : Calls Tryz.prog 31 #[.int .i64 p, .int .i64 (q : Int), .int .i64 (k : Int)] w (Post u w fun v u' => ∃ r1 r2 : RL, v = .tuple #[IV r1 r2, .int .i64 0] ∧ RatN u' r1 ((Nt.cosV p q k).1) 80 ∧ RatN u' r2 ((Nt.cosV p q k).2) 80) := by
 refine zzl (args := [.int .i64 p, .int .i64 q, .int .i64 k]) Tryz.func31 rfl Tryz.ntmps31 (rs := [.cell 6 32, .tmp 7]) Tryz.results31 (le_b rfl) (le_b rfl) d ?_
 refine sq9 (zzj 6 ⟨32, [.bool false, .slice none 0 0, .slice none 0 0, .bool false, .slice none 0 0, .slice none 0 0]⟩ (zza 7 (zI 0) (zzb (zzd (sq9 (zza 8 (zI k) (zzg 9 77 [.int .i64 k] ?_)))))))
 intro w11 u11 e11 d11
 have k14 := k_ePermitted (n := (k : Int)) d11
 with_reducible refine zPm k14 ?_
 rintro _ u12 g13 rfl
 refine zza 10 (zB (!(decide (0 ≤ (k : Int) ∧ (k : Int) ≤ 256)))) (zyp 11 (x := zB (!(decide (0 ≤ (k : Int) ∧ (k : Int) ≤ 256)))) (zB false) (by rw [show (!(decide (0 ≤ (k : Int) ∧ (k : Int) ≤ 256))) = false from (by rw [decide_eq_true xq]; rfl)]) (zza 12 (zI q) ?_ (hw := w1 3 false 11)))
 refine zza 13 (zB (decide ((q : Int) < 1))) ?_ (hw := w1 3 false 11)
 refine zza 14 (zB (decide ((q : Int) < 1))) (zyp 15 (x := zB (decide ((q : Int) < 1))) (zB false) (by rw [show (decide ((q : Int) < 1)) = false from decide_eq_false xq]) (zza 16 (zI q) ?_ (hw := w1 7 false 15)))
 refine zza 17 (zB (decide ((1000 : Int) < (q : Int)))) ?_ (hw := w1 7 false 15)
 refine zza 18 (zB (decide ((1000 : Int) < (q : Int)))) (zyp 19 (x := zB (decide ((1000 : Int) < (q : Int)))) (zB false) (by rw [show (decide ((1000 : Int) < (q : Int))) = false from decide_eq_false xq]) (zza 20 (zI p) ?_ (hw := w1 11 false 19)))
 refine zza 21 (zB (decide (p < (-1000000)))) ?_ (hw := w1 11 false 19)
 refine zza 22 (zB (decide (p < (-1000000)))) (zyp 23 (x := zB (decide (p < (-1000000)))) (zB false) (by rw [show (decide (p < (-1000000))) = false from decide_eq_false xq]) (zza 24 (zI p) ?_ (hw := w1 15 false 23)))
 refine zza 25 (zB (decide ((1000000 : Int) < p))) ?_ (hw := w1 15 false 23)
 refine zza 26 (zB (decide ((1000000 : Int) < p))) (zzb (zzt (b := decide ((1000000 : Int) < p)) xj (fun hb => ?_) (fun hb => ?_)))
 ·exact absurd hb (by rw [show (decide ((1000000 : Int) < p)) = false from decide_eq_false xq]; decide)
 ·clear hb
  refine zzr (zzo ?_)
  refine sq9 (zza 28 (zI p) (zza 29 (zI q) (zza 30 (zI k) (zzg 31 100 [.int .i64 p, .int .i64 q, .int .i64 k] ?_))))
  intro w19 u19 e19 d19
  have k26 := k_cosine (p := p) (q := q) (k := k) d19 xq xq hG xq xq xq
  with_reducible refine zPm k26 ?_
  rintro _ u24 g25 ⟨r20, r22, rfl, h21, h23⟩
  refine zzi ⟨32, r20.cs ++ r22.cs⟩ ty32 ?_
  refine zza 7 (zI 0) (zzb (zzn (ret0 [.agg #[.bool r20.s, .slice r20.m.a r20.m.n r20.m.c, .slice r20.d.a r20.d.n r20.d.c, .bool r22.s, .slice r22.m.a r22.m.n r22.m.c, .slice r22.d.a r22.d.n r22.d.c], .int .i64 0] ⟨zzq ty32 zze, zzp, trivial⟩ fun u27 e28 => ?_)))
  exact ⟨r20, r22, rfl, RatN.more (h21.ext e28) xq, RatN.more (h23.ext e28) xq⟩
theorem k_SinPiG {u w : World} {p : Int} {q k : Nat} (d : Dat u w) (hq1 : 1 ≤ q) (hq2 : q ≤ 1000) (hp0 : -1000000 ≤ p) (hp1 : p ≤ 1000000) (hk : k ≤ 256) (hG : Nt.GapQ (2 * q) k) : Calls Tryz.prog 36 #[.int .i64 p, .int .i64 (q : Int), .int .i64 (k : Int)] w (Post u w fun v u' => ∃ r1 r2 : RL, v = .tuple #[IV r1 r2, .int .i64 0] ∧ RatN u' r1 ((Nt.cosV ((q : Int) - 2 * p) (2 * q) k).1) 80 ∧ RatN u' r2 ((Nt.cosV ((q : Int) - 2 * p) (2 * q) k).2) 80) := by
 refine zzl (args := [.int .i64 p, .int .i64 q, .int .i64 k]) Tryz.func36 rfl Tryz.ntmps36 (rs := [.cell 6 32, .tmp 7]) Tryz.results36 (le_b rfl) (le_b rfl) d ?_
 refine sq9 (zzj 6 ⟨32, [.bool false, .slice none 0 0, .slice none 0 0, .bool false, .slice none 0 0, .slice none 0 0]⟩ (zza 7 (zI 0) (zzb (zzd (sq9 (zza 8 (zI k) (zzg 9 77 [.int .i64 k] ?_)))))))
 intro w11 u11 e11 d11
 have k14 := k_ePermitted (n := (k : Int)) d11
 with_reducible refine zPm k14 ?_
 rintro _ u12 g13 rfl
 refine zza 10 (zB (!(decide (0 ≤ (k : Int) ∧ (k : Int) ≤ 256)))) (zyp 11 (x := zB (!(decide (0 ≤ (k : Int) ∧ (k : Int) ≤ 256)))) (zB false) (by rw [show (!(decide (0 ≤ (k : Int) ∧ (k : Int) ≤ 256))) = false from (by rw [decide_eq_true xq]; rfl)]) (zza 12 (zI q) ?_ (hw := w1 3 false 11)))
 refine zza 13 (zB (decide ((q : Int) < 1))) ?_ (hw := w1 3 false 11)
 refine zza 14 (zB (decide ((q : Int) < 1))) (zyp 15 (x := zB (decide ((q : Int) < 1))) (zB false) (by rw [show (decide ((q : Int) < 1)) = false from decide_eq_false xq]) (zza 16 (zI q) ?_ (hw := w1 7 false 15)))
 refine zza 17 (zB (decide ((1000 : Int) < (q : Int)))) ?_ (hw := w1 7 false 15)
 refine zza 18 (zB (decide ((1000 : Int) < (q : Int)))) (zyp 19 (x := zB (decide ((1000 : Int) < (q : Int)))) (zB false) (by rw [show (decide ((1000 : Int) < (q : Int))) = false from decide_eq_false xq]) (zza 20 (zI p) ?_ (hw := w1 11 false 19)))
 refine zza 21 (zB (decide (p < (-1000000)))) ?_ (hw := w1 11 false 19)
 refine zza 22 (zB (decide (p < (-1000000)))) (zyp 23 (x := zB (decide (p < (-1000000)))) (zB false) (by rw [show (decide (p < (-1000000))) = false from decide_eq_false xq]) (zza 24 (zI p) ?_ (hw := w1 15 false 23)))
 refine zza 25 (zB (decide ((1000000 : Int) < p))) ?_ (hw := w1 15 false 23)
 refine zza 26 (zB (decide ((1000000 : Int) < p))) (zzb (zzt (b := decide ((1000000 : Int) < p)) xj (fun hb => ?_) (fun hb => ?_)))
 ·exact absurd hb (by rw [show (decide ((1000000 : Int) < p)) = false from decide_eq_false xq]; decide)
 ·clear hb
  refine zzr (zzo ?_)
  refine sq9 (zza 28 (zI q) (zza 29 (zI p) (zyp 30 (x := zI (IntKind.i64.wrap ((2 : Int) * p))) (zI ((2 : Int) * p)) yq (zyp 31 (x := zI (IntKind.i64.wrap ((q : Int) - ((2 : Int) * p)))) (zI ((q : Int) - ((2 : Int) * p))) yq (zza 32 (zI q) (zyp 33 (x := zI (IntKind.i64.wrap ((2 : Int) * (q : Int)))) (zI (2 * q : Nat)) (eqI xz) (zza 34 (zI k) (zzg 35 100 [.int .i64 ((q : Int) - ((2 : Int) * p)), .int .i64 (2 * q : Nat), .int .i64 k] ?_))))))))
  intro w19 u19 e19 d19
  have k26 := k_cosine (p := (q : Int) - ((2 : Int) * p)) (q := 2 * q) (k := k) d19 xq xq hG xq xq xq
  with_reducible refine zPm k26 ?_
  rintro _ u24 g25 ⟨r20, r22, rfl, h21, h23⟩
  refine zzi ⟨32, r20.cs ++ r22.cs⟩ ty32 ?_
  refine zza 7 (zI 0) (zzc 36 [(6, .adr 6 0), (7, zI 0)] [(6, ⟨32, r20.cs ++ r22.cs⟩)] (zzn (ret0 [.agg #[.bool r20.s, .slice r20.m.a r20.m.n r20.m.c, .slice r20.d.a r20.d.n r20.d.c, .bool r22.s, .slice r22.m.a r22.m.n r22.m.c, .slice r22.d.a r22.d.n r22.d.c], .int .i64 0] ⟨zzq ty32 zze, zzp, trivial⟩ fun u27 e28 => ?_)))
  exact ⟨r20, r22, rfl, RatN.more (h21.ext e28) xq, RatN.more (h23.ext e28) xq⟩
namespace Nt
end Nt
section
variable {u u' w w' : World} {x y : Sl} {N M K L s : Nat}
end
namespace Nt
end Nt
set_option maxHeartbeats 1000000 in
theorem k_ratNearest {u w : World} {r : RL} {q : Rat} {K k : Nat} (hk : k ≤ 256) (d : Dat u w) (hr : RatV u r q K) (hK : K ≤ 1000000) : Calls Tryz.prog 203 #[r.v, .int .i64 (k : Int)] w (Post u w fun v u' => ∃ p : RL, v = .tuple #[p.v, .int .i64 0] ∧ RatN u' p (Nt.gr k (Nt.nrZ q k)) (K + 30)) := by
 refine zzl (args := [r.v, .int .i64 k]) Tryz.func203 rfl Tryz.ntmps203 (rs := [.cell 4 26, .tmp 5]) Tryz.results203 (le_b rfl) (le_b rfl) d ?_
 refine sq9 (zzj 2 ⟨26, r.cs⟩ (zzj 4 ⟨26, [.bool false, .slice none 0 0, .slice none 0 0]⟩ (zza 5 (zI 0) (zzb (zzd (sq9 (zza 8 (zI k) (zza 9 (zB (decide ((k : Int) < 0))) (zyp 10 (x := zB (decide ((k : Int) < 0))) (zB false) (by rw [show (decide ((k : Int) < 0)) = false from decide_eq_false xq]) (zza 11 (zI k) ?_ (hw := w1 2 false 10)))))))))))
 refine zza 12 (zB (decide ((256 : Int) < (k : Int)))) ?_ (hw := w1 2 false 10)
 refine zza 13 (zB (decide ((256 : Int) < (k : Int)))) (zzb (zzt (b := decide ((256 : Int) < (k : Int))) xj (fun hb => ?_) (fun hb => ?_)))
 ·exact absurd hb (by rw [show (decide ((256 : Int) < (k : Int))) = false from decide_eq_false xq]; decide)
 ·clear hb
  refine zzr (zzo ?_)
  refine sq9 (zzh 15 (.v (r.v)) ty26 zze (zzg 16 147 [r.v] ?_))
  intro w12 u12 e12 d12
  have k16 := k_read d12 (hr.ext e12)
  with_reducible refine zPm k16 ?_
  rintro _ u14 g15 ⟨r13, wh13, rfl, z13, D13, hi13, hd13, hp13, hq13, hw13, hk13⟩
  refine zzj 6 ⟨149, [.bool false, .slice none 0 0, .slice none 0 0, .bool false]⟩ (zzi ⟨149, r13.cs ++ [.bool wh13]⟩ ty149 ?_)
  refine zzb (zzd (zzy [0, 1, 3, 0, 8, 31, 0, 64, 192, 511, 1023, 0, 4095] [(0, []), (1, []), (2, []), (3, []), (4, []), (6, []), (7, []), (8, []), (11, []), (5, []), (9, []), (10, []), (12, [])] xj xj (zza 17 (.adr 6 0) (zza 18 (.adr 6 0) (zzh 19 (.v (.agg #[.bool r13.s, r13.m.v])) ty24 zze (zza 20 (zI k) (zyp 21 (x := zI (IntKind.i64.wrap ((k : Int) + 1))) (zI (k + 1 : Nat)) (eqI xz) (zza 23 (.adr 6 0) (zza 24 (.adr 6 2) (zzh 25 (.v r13.d.v) ty22 zzk (zzj 7 ⟨24, [.bool false, .slice none 0 0]⟩ ?_)))))))))))
  refine zzg 22 242 [.agg #[.bool r13.s, r13.m.v], .int .i64 (k + 1 : Nat)] ?_
  intro w17 u17 e17 d17
  have k22 := k_double (s := k + 1) d17 (hi13.ext e17) xq xq
  with_reducible refine zPm k22 ?_
  rintro _ u20 g21 ⟨y18, rfl, h19⟩
  refine zzg 26 195 [r13.d.v] ?_
  intro w23 u23 e23 d23
  have k26 := k_natural (x := r13.d) d23
  with_reducible refine zPm k26 ?_
  rintro _ u24 g25 rfl
  refine zzg 27 159 [.agg #[.bool r13.s, y18.v], .agg #[.bool false, r13.d.v]] ?_
  intro w27 u27 e27 d27
  have k32 := k_intAdd d27 (h19.ext (e23.trans (g25.ext.trans e27))) (nat_int (hd13.ext (e17.trans (g21.ext.trans (e23.trans (g25.ext.trans e27)))))) xq xq
  with_reducible refine zPm k32 ?_
  rintro _ u30 g31 ⟨i28, rfl, h29⟩
  refine zzi ⟨24, i28.cs⟩ ty24 ?_
  refine zzb (zzd (zzy [0, 0, 2, 6, 14, 0, 63, 127, 255] [(0, []), (1, []), (2, []), (3, []), (5, []), (4, []), (6, []), (7, []), (8, [])] xj xj (zzh 28 (.v (i28.v)) ty24 zze (zza 29 (.adr 6 0) (zza 30 (.adr 6 2) (zzh 31 (.v r13.d.v) ty22 zzk (zza 33 (zI k) (zzg 32 79 [r13.d.v, .int .i64 1] ?_))))))))
  intro w33 u33 e33 d33
  have k38 := k_natShift (s := 1) d33 (hd13.ext (e17.trans (g21.ext.trans (e23.trans (g25.ext.trans (e27.trans (g31.ext.trans e33))))))) xq xq
  with_reducible refine zPm k38 ?_
  rintro _ u36 g37 ⟨x34, rfl, h35⟩
  refine zzg 34 243 [i28.v, x34.v, .int .i64 k] ?_
  intro w39 u39 e39 d39
  have k44 := k_onGrid (s := k) d39 (h29.ext (e33.trans (g37.ext.trans e39))).raw (h35.ext e39).raw (Nat.mul_pos hp13 xw) xq xq xq
  with_reducible refine zPm k44 ?_
  rintro _ u42 g43 ⟨r40, rfl, h41⟩
  refine zzi ⟨26, r40.cs⟩ ty26 ?_
  refine zza 5 (zI 0) (zzc 35 [(4, .adr 4 0), (5, zI 0)] [(4, ⟨26, r40.cs⟩)] (zzn (ret0 [r40.v, .int .i64 0] ⟨zzq ty26 zze, zzp, trivial⟩ fun u45 e46 => ?_)))
  refine ⟨r40, rfl, RatN.more (K := ((max (K + (k + 1) / 32 + 1) K + 1) + k / 32 + 3)) ?_ xq⟩
  have h9 := (h41.ext e46)
  rw [hq13, ← Nt.nr_mk hp13]
  exact h9
theorem k_pfloor {u w : World} {r : RL} {q : Rat} {K : Nat} (d : Dat u w) (hr : RatV u r q K) (hK : K ≤ 1000000) : Calls Tryz.prog 245 #[r.v] w (Post u w fun v u' => ∃ i : IL, v = i.v ∧ IntN u' i (Nt.flr q) (K + 1)) := by
 refine zzl (args := [r.v]) Tryz.func245 rfl Tryz.ntmps245 (rs := [.cell 2 24]) Tryz.results245 (le_b rfl) (le_b rfl) d ?_
 refine sq9 (zzj 1 ⟨26, r.cs⟩ (zzj 2 ⟨24, [.bool false, .slice none 0 0]⟩ (zzb (sq9 (zzh 7 (.v (r.v)) ty26 zze (zzg 8 147 [r.v] ?_))))))
 intro w11 u11 e11 d11
 have k15 := k_read d11 (hr.ext e11)
 with_reducible refine zPm k15 ?_
 rintro _ u13 g14 ⟨r12, wh12, rfl, z12, D12, hi12, hd12, hp12, hq12, hw12, hk12⟩
 refine zzj 3 ⟨149, [.bool false, .slice none 0 0, .slice none 0 0, .bool false]⟩ (zzi ⟨149, r12.cs ++ [.bool wh12]⟩ ty149 ?_)
 refine zzb (zzd (zzy [0, 1, 3, 0, 8, 24, 56, 127, 255, 511, 511, 511, 0, 0, 13311, 30719, 65535] [(0, []), (1, []), (2, []), (3, []), (4, []), (5, []), (12, []), (13, []), (6, []), (7, []), (8, []), (9, []), (10, []), (11, []), (14, []), (15, []), (16, [])] xj xj (zza 10 (.adr 3 0) (zza 11 (.adr 3 0) (zzh 12 (.v (.agg #[.bool r12.s, r12.m.v])) ty24 zze (zza 13 (.adr 3 0) (zza 14 (.adr 3 2) (zzh 15 (.v r12.d.v) ty22 zzk (zzj 4 ⟨24, [.bool false, .slice none 0 0]⟩ (zzj 5 ⟨24, [.bool false, .slice none 0 0]⟩ (zzg 16 195 [r12.d.v] ?_)))))))))))
 intro w16 u16 e16 d16
 have k19 := k_natural (x := r12.d) d16
 with_reducible refine zPm k19 ?_
 rintro _ u17 g18 rfl
 refine zzg 17 180 [.agg #[.bool r12.s, r12.m.v], .agg #[.bool false, r12.d.v]] ?_
 intro w20 u20 e20 d20
 have k27 := k_intDivP d20 (hi12.ext (e16.trans (g18.ext.trans e20))) (hd12.ext (e16.trans (g18.ext.trans e20))) hp12 xq xq
 with_reducible refine zPm k27 ?_
 rintro _ u25 g26 ⟨i21, i23, rfl, h22, h24⟩
 refine zza 9 (.v (.tuple #[i21.v, i23.v, .int .i64 0])) (zza 18 (.v (i21.v)) (zza 19 (.v (i23.v)) (zza 20 (zI 0) (zzi ⟨24, i21.cs⟩ ty24 ?_))))
 refine zzi ⟨24, i23.cs⟩ ty24 ?_
 refine zza 6 (zI 0) (zzb (sq9 (zzh 21 (.v (i21.v)) ty24 zze (zzi ⟨24, i21.cs⟩ ty24 ?_))))
 refine zzb (zzn (ret0 [i21.v] ⟨zzq ty24 zze, trivial⟩ fun u28 e29 => ?_))
 refine ⟨i21, rfl, IntN.more (K := (K + 1)) ?_ xq⟩
 rw [hq12, Nt.flr_mk hp12]
 exact (h22.ext e29)
set_option maxHeartbeats 2000000 in
theorem k_fxNearest {u w : World} {r : RL} {W : WL} {z : Int} {K k : Nat} (d : Dat u w) (hW : WdOK W) (hr2 : W.r = 2) (hf : W.f = (k : Int)) (hr : RatV u r (Nt.gr k z) K) (hz0 : -Nt.p2i (W.b - 1) ≤ z) (hz1 : z < Nt.p2i (W.b - 1)) (hK : K ≤ 100000) : Calls Tryz.prog 205 #[W.v, r.v] w (Post u w fun v _ => v = .tuple #[.int .i64 z, .bool true]) := by
 obtain ⟨w1, w2, w3, w4, w5, w6, w7, w8⟩ := id hW
 have hp2 : Nt.p2i W.f = ((2 ^ k : Nat) : Int) := by rw [hf]; unfold Nt.p2i; simp
 have hp3 := Nt.p2i_24 (n := W.b - 1) xq
 have hp4 := Nt.p2i_24 (n := W.f) xq
 have hp5 := Nt.zxo W.f
 have hp6 := Nt.zxo (W.b - 1)
 refine zzl (args := [.agg #[.int .i64 W.b, .int .i64 W.f, .int .i64 W.r, .int .i64 W.o], r.v]) Tryz.func205 rfl Tryz.ntmps205 (rs := [.tmp 4, .tmp 5]) Tryz.results205 (le_b rfl) (le_b rfl) d ?_
 refine sq9 (zzj 2 ⟨183, W.cs⟩ (zzj 3 ⟨26, r.cs⟩ (zza 4 (zI 0) (zza 5 (zB false) (zzb (zzd (sq9 (zzh 9 (.v (W.v)) ty183 zze (zzg 10 244 [W.v] ?_)))))))))
 intro w11 u11 e11 d11
 have k14 := k_fxValid (W := W) d11 hW
 with_reducible refine zPm k14 ?_
 rintro _ u12 g13 rfl
 refine zza 11 (zB false) (zzb (zyr xj (zzr (zzo ?_))))
 refine zzd (zzy [0, 0, 2, 6, 14, 31, 0, 127] [(0, []), (1, []), (2, []), (3, []), (6, []), (4, []), (5, []), (7, [])] xj xj (zzh 12 (.v (r.v)) ty26 zze (zza 13 (.adr 2 1) (zzh 14 (zI W.f) ty3 zzk (sy_shl 15 (k := .i64) (s := W.f) (Nt.p2i W.f) xq yz (shl_one xq xq) ?_)))))
 refine zzj 6 ⟨26, [.bool false, .slice none 0 0, .slice none 0 0]⟩ (zzg 16 118 [.int .i64 (Nt.p2i W.f)] ?_)
 intro w15 u15 e15 d15
 have k20 := k_ratOf d15 (z := Nt.p2i W.f) xq xq
 with_reducible refine zPm k20 ?_
 rintro _ u18 g19 ⟨r16, rfl, h17⟩
 refine zzg 17 123 [r.v, r16.v] ?_
 intro w21 u21 e21 d21
 have k26 := k_ratMul d21 (hr.ext (e11.trans (g13.ext.trans (e15.trans (g19.ext.trans e21))))) (h17.ext e21).raw xq xq
 with_reducible refine zPm k26 ?_
 rintro _ u24 g25 ⟨r22, rfl, h23⟩
 refine zzi ⟨26, r22.cs⟩ ty26 ?_
 refine zzb (sq9 (zzj 7 ⟨24, [.bool false, .slice none 0 0]⟩ (zzb (zzd (sq9 (zza 18 (.adr 2 2) (zzh 19 (zI W.r) ty3 zzk (zzb (zzs (sq9 (zza 23 (zB (W.r == 2)) ?_)))))))))))
 refine zza 22 (zB (W.r == 2)) (zzb (zzt (b := W.r == 2) xj (fun hb => ?_) (fun hb => ?_)))
 ·clear hb
  refine zzy [0, 0, 3, 7, 15] [(0, []), (1, []), (2, []), (3, []), (4, [])] xj xj (zzh 24 (.v (r22.v)) ty26 zze (zzg 25 127 [.int .i64 1, .int .i64 2] ?_))
  intro w27 u27 e27 d27
  have k32 := k_ratFrac d27 (a := 1) (b := 2) xq xq xq xq
  with_reducible refine zPm k32 ?_
  rintro _ u30 g31 ⟨r28, rfl, h29⟩
  refine zzg 26 126 [r22.v, r28.v] ?_
  intro w33 u33 e33 d33
  have k38 := k_ratAdd d33 (h23.ext (e27.trans (g31.ext.trans e33))).raw (h29.ext e33).raw xq xq
  with_reducible refine zPm k38 ?_
  rintro _ u36 g37 ⟨r34, rfl, h35⟩
  refine zzg 27 245 [r34.v] ?_
  intro w39 u39 e39 d39
  have k44 := k_pfloor d39 (h35.ext e39).raw xq
  with_reducible refine zPm k44 ?_
  rintro _ u42 g43 ⟨i40, rfl, h41⟩
  refine zzi ⟨24, i40.cs⟩ ty24 ?_
  refine zzw ?_
  refine zzo (zzd (zzd ?_))
  have hZ : (Nt.flr (((Nt.gr k z) * ((Nt.p2i W.f : Int) : Rat)) + (((1 : Int) : Rat) / ((2 : Int) : Rat)))) = z := by rw [hp2]; exact Nt.nr_gr z k
  have hz45 := h41
  rw [hZ] at hz45
  have hlm := NatN.one_len (int_mag hz45) xq
  have hsz : i40.s = decide (z < 0) := hz45.1
  refine zzf (zza 37 (.adr 7 1) (zzh 38 (.v i40.m.v) ty22 zzk (zza 39 (zI i40.m.n) (zza 40 (zB (decide ((1 : Int) < (i40.m.n : Int)))) (zzb (zzt (b := decide ((1 : Int) < (i40.m.n : Int))) xj (fun hb => ?_) (fun hb => ?_)))))))
  ·exact absurd hb (by rw [show (decide ((1 : Int) < (i40.m.n : Int))) = false from decide_eq_false (by split at hlm <;> omega)]; decide)
  ·clear hb
   refine zzr (zzo ?_)
   refine sq9 (zza 8 (zI 0) (zzb (zzd (sq9 (zza 41 (.adr 7 1) (zzh 42 (.v i40.m.v) ty22 zzk (zza 43 (zI i40.m.n) (zza 44 (zB ((i40.m.n : Int) == 1)) (zzb (zzt (b := (i40.m.n : Int) == 1) xj (fun hb46 => ?_) (fun hb46 => ?_)))))))))))
   ·replace hb46 : ((i40.m.n : Int) == 1) = true := hb46
    have qhb46 : (i40.m.n : Int) = 1 := by simpa using hb46
    have hn9 : 0 < z.natAbs := by have h9 := hb46; simp at h9; split at hlm <;> omega
    refine zzf (zza 45 (.adr 7 1) (zzh 46 (.v i40.m.v) ty22 zzk ?_))
    obtain ⟨bz, oz, haz, hcz⟩ := NatN.one_cell (int_mag hz45) hn9 xq
    refine zzz 47 (oz + 0 * 1) (n := i40.m.n) (off := oz) (sz := 1) (i := 0) xq haz xq xq sl22 (zyk 48 (.int .u32 (z.natAbs : Nat)) hcz ty104 (sy_conv 49 ((z.natAbs : Nat) : Int) (fun w => by kernel_rfl) (IntWalk.i64_in _ xq) ?_))
    refine zza 8 (zI z.natAbs) (zzc 59 [(2, .adr 2 0), (7, .adr 7 0), (8, zI z.natAbs)] [(2, ⟨183, W.cs⟩), (7, ⟨24, i40.cs⟩)] (zzd (sq9 (zza 50 (.adr 7 0) (zzh 51 (zB i40.s) ty4 zzk (zzb (zzt (b := i40.s) xj (fun hb47 => ?_) (fun hb47 => ?_))))))))
    ·replace hb47 : i40.s = true := hb47
     have hs9 : z < 0 := by rw [hsz] at hb47; exact of_decide_eq_true hb47
     refine zzf (zza 52 (zI z.natAbs) (zyp 53 (x := zI (IntKind.i64.wrap (0 - (z.natAbs : Int)))) (zI (-(z.natAbs : Int))) (eqI xz) (zza 8 (zI (-(z.natAbs : Int))) (zzb (zzd (sq9 (zzh 54 (.v (W.v)) ty183 zze (zza 55 (zI (-(z.natAbs : Int))) (zzg 56 246 [W.v, .int .i64 (-(z.natAbs : Int))] ?_)))))))))
     intro w48 u48 e48 d48
     have k51 := k_fxFits (W := W) (z := -(z.natAbs : Int)) d48 hW xq xq
     with_reducible refine zPm k51 ?_
     rintro _ u49 g50 rfl
     refine zza 57 (zB false) (zzb (zyr xj (zzr (zzo ?_))))
     refine sq9 (zza 58 (zI (-(z.natAbs : Int))) (zza 4 (zI (-(z.natAbs : Int))) (zza 5 (zB true) (zzb (zzn (ret0 [.int .i64 (-(z.natAbs : Int)), .bool true] ⟨zzp, zzp, trivial⟩ fun u52 e53 => ?_))))))
     show Value.tuple #[.int .i64 (-(z.natAbs : Int)), .bool true] = Value.tuple #[.int .i64 z, .bool true]
     rw [show (-(z.natAbs : Int) : Int) = z by omega]
    ·replace hb47 : i40.s = false := hb47
     have hs9 : ¬ z < 0 := by rw [hsz] at hb47; exact of_decide_eq_false hb47
     refine zzr (zzo ?_)
     refine zzd (sq9 (zzh 54 (.v (W.v)) ty183 zze (zza 55 (zI z.natAbs) (zzg 56 246 [W.v, .int .i64 z.natAbs] ?_))))
     intro w54 u54 e54 d54
     have k57 := k_fxFits (W := W) (z := (z.natAbs : Int)) d54 hW xq xq
     with_reducible refine zPm k57 ?_
     rintro _ u55 g56 rfl
     refine zza 57 (zB false) (zzb (zyr xj (zzr (zzo ?_))))
     refine sq9 (zza 58 (zI z.natAbs) (zza 4 (zI z.natAbs) (zza 5 (zB true) (zzb (zzn (ret0 [.int .i64 z.natAbs, .bool true] ⟨zzp, zzp, trivial⟩ fun u58 e59 => ?_))))))
     show Value.tuple #[.int .i64 ((z.natAbs : Int)), .bool true] = Value.tuple #[.int .i64 z, .bool true]
     rw [show ((z.natAbs : Int) : Int) = z by omega]
   ·replace hb46 : ((i40.m.n : Int) == 1) = false := hb46
    have qhb46 : ¬ ((i40.m.n : Int) = 1) := by simpa using hb46
    have hn0 : z = 0 := by have h9 := hb46; simp at h9; split at hlm <;> omega
    refine zzr (zzo ?_)
    refine zzd (sq9 (zza 50 (.adr 7 0) (zzh 51 (zB i40.s) ty4 zzk (zzc 59 [(2, .adr 2 0), (8, zI 0), (51, zB i40.s)] [(2, ⟨183, W.cs⟩)] (zzt (b := i40.s) xj (fun hb60 => ?_) (fun hb60 => ?_))))))
    ·replace hb60 : i40.s = true := hb60
     have hs9 : z < 0 := by rw [hsz] at hb60; exact of_decide_eq_true hb60
     refine zzf (zza 52 (zI 0) (zza 53 (zI 0) (zza 8 (zI 0) (zzb (zzd (sq9 (zzh 54 (.v (W.v)) ty183 zze (zza 55 (zI 0) (zzg 56 246 [W.v, .int .i64 0] ?_)))))))))
     intro w61 u61 e61 d61
     have k64 := k_fxFits (W := W) (z := 0) d61 hW xq xq
     with_reducible refine zPm k64 ?_
     rintro _ u62 g63 rfl
     refine zza 57 (zB false) (zzb (zyr xj (zzr (zzo ?_))))
     refine sq9 (zza 58 (zI 0) (zza 4 (zI 0) (zza 5 (zB true) (zzb (zzn (ret0 [.int .i64 0, .bool true] ⟨zzp, zzp, trivial⟩ fun u65 e66 => ?_))))))
     show Value.tuple #[.int .i64 (0), .bool true] = Value.tuple #[.int .i64 z, .bool true]
     rw [show (0 : Int) = z by omega]
    ·replace hb60 : i40.s = false := hb60
     have hs9 : ¬ z < 0 := by rw [hsz] at hb60; exact of_decide_eq_false hb60
     refine zzr (zzo ?_)
     refine zzd (sq9 (zzh 54 (.v (W.v)) ty183 zze (zza 55 (zI 0) (zzg 56 246 [W.v, .int .i64 0] ?_))))
     intro w67 u67 e67 d67
     have k70 := k_fxFits (W := W) (z := 0) d67 hW xq xq
     with_reducible refine zPm k70 ?_
     rintro _ u68 g69 rfl
     refine zza 57 (zB false) (zzb (zyr xj (zzr (zzo ?_))))
     refine sq9 (zza 58 (zI 0) (zza 4 (zI 0) (zza 5 (zB true) (zzb (zzn (ret0 [.int .i64 0, .bool true] ⟨zzp, zzp, trivial⟩ fun u71 e72 => ?_))))))
     show Value.tuple #[.int .i64 (0), .bool true] = Value.tuple #[.int .i64 z, .bool true]
     rw [show (0 : Int) = z by omega]
 ·exact absurd hb (by rw [show (W.r == 2) = true from (by rw [hr2]; rfl)]; decide)
set_option maxHeartbeats 1000000 in
theorem k_dcoef {u w : World} {a1 a2 : RL} {x1 x2 : Rat} {K k : Nat} (d : Dat u w) (ha1 : RatV u a1 x1 K) (ha2 : RatV u a2 x2 K) (hk1 : 1 ≤ k) (hk2 : k ≤ 20) (hc0 : -2097152 ≤ Nt.coZ x1 x2 k) (hc1 : Nt.coZ x1 x2 k ≤ 2097152) (hK : K ≤ 10000) : Calls Tryz.prog 137 #[IV a1 a2, .int .i64 (k : Int)] w (Post u w fun v u' => v = .int .i64 (Nt.coZ x1 x2 k)) := by
 have hWk : WdOK (⟨24, (k : Int), 2, 1⟩ : WL) := ⟨(by show (4 : Int) ≤ 24; decide), (by show (24 : Int) ≤ 24; decide), Int.natCast_nonneg k, (by show (k : Int) < 24; omega), (by show (1 : Int) ≤ 2; decide), (by show (2 : Int) ≤ 3; decide), (by show (1 : Int) ≤ 1; decide), (by show (1 : Int) ≤ 2; decide)⟩
 have hp23 : Nt.p2i (24 - 1) = 8388608 := by decide
 unfold Nt.coZ at hc0 hc1
 refine zzl (args := [.agg #[.bool a1.s, .slice a1.m.a a1.m.n a1.m.c, .slice a1.d.a a1.d.n a1.d.c, .bool a2.s, .slice a2.m.a a2.m.n a2.m.c, .slice a2.d.a a2.d.n a2.d.c], .int .i64 k]) Tryz.func137 rfl Tryz.ntmps137 (rs := [.tmp 4]) Tryz.results137 (le_b rfl) (le_b rfl) d ?_
 refine sq9 (zzj 2 ⟨32, a1.cs ++ a2.cs⟩ (zza 4 (zI 0) (zzb (sq9 (zzh 11 (.v (.agg #[.bool a1.s, a1.m.v, a1.d.v, .bool a2.s, a2.m.v, a2.d.v])) ty32 zze (zzg 12 204 [.agg #[.bool a1.s, a1.m.v, a1.d.v, .bool a2.s, a2.m.v, a2.d.v]] ?_))))))
 intro w11 u11 e11 d11
 have k16 := k_ivMid d11 (ha1.ext e11) (ha2.ext e11) xq
 with_reducible refine zPm k16 ?_
 rintro _ u14 g15 ⟨r12, rfl, h13⟩
 refine zza 13 (zI k) (zzg 14 203 [r12.v, .int .i64 k] ?_)
 intro w17 u17 e17 d17
 have k22 := k_ratNearest (k := k) xq d17 (h13.ext e17).raw xq
 with_reducible refine zPm k22 ?_
 rintro _ u20 g21 ⟨r18, rfl, h19⟩
 refine zza 10 (.v (.tuple #[r18.v, .int .i64 0])) (zza 15 (.v (r18.v)) (zza 16 (zI 0) (zzj 5 ⟨26, [.bool false, .slice none 0 0, .slice none 0 0]⟩ (zzi ⟨26, r18.cs⟩ ty26 ?_))))
 refine zza 6 (zI 0) (zzb (zzd (sq9 (zza 17 (zI 0) (zza 18 (zB false) (zzb (zyr xj (zzr (zzo ?_)))))))))
 refine sq9 (zza 19 (zI k) (zza 20 (.v (.agg #[.int .i64 24, .int .i64 k, .int .i64 2, .int .i64 1])) (zzj 7 ⟨183, [.int .i64 0, .int .i64 0, .int .i64 0, .int .i64 0]⟩ (zzi ⟨183, [.int .i64 24, .int .i64 k, .int .i64 2, .int .i64 1]⟩ ty183 ?_))))
 refine zzb (sq9 (zzh 22 (.v (.agg #[.int .i64 24, .int .i64 k, .int .i64 2, .int .i64 1])) ty183 zze (zzh 23 (.v (r18.v)) ty26 zze (zzg 24 205 [.agg #[.int .i64 24, .int .i64 k, .int .i64 2, .int .i64 1], r18.v] ?_))))
 intro w23 u23 e23 d23
 have k26 := k_fxNearest (W := (⟨24, (k : Int), 2, 1⟩ : WL)) (z := (Nt.nrZ ((x1 + x2) * (((1 : Int) : Rat) / ((2 : Int) : Rat))) k)) (k := k) d23 hWk rfl rfl (h19.ext e23).raw (by show -Nt.p2i (24 - 1) ≤ _; omega) (by show _ < Nt.p2i (24 - 1); omega) xq
 with_reducible refine zPm k26 ?_
 rintro _ u24 g25 rfl
 refine zza 21 (.v (.tuple #[.int .i64 (Nt.nrZ ((x1 + x2) * (((1 : Int) : Rat) / ((2 : Int) : Rat))) k), .bool true])) (zza 25 (zI (Nt.nrZ ((x1 + x2) * (((1 : Int) : Rat) / ((2 : Int) : Rat))) k)) (zza 26 (zB true) (zza 8 (zI (Nt.nrZ ((x1 + x2) * (((1 : Int) : Rat) / ((2 : Int) : Rat))) k)) (zza 9 (zB true) (zzb (sq9 (zza 27 (zI (Nt.nrZ ((x1 + x2) * (((1 : Int) : Rat) / ((2 : Int) : Rat))) k)) (zza 4 (zI (Nt.nrZ ((x1 + x2) * (((1 : Int) : Rat) / ((2 : Int) : Rat))) k)) (zzb (zzn (ret0 [.int .i64 (Nt.nrZ ((x1 + x2) * (((1 : Int) : Rat) / ((2 : Int) : Rat))) k)] ⟨zzp, trivial⟩ fun u27 e28 => ?_)))))))))))
 rfl
set_option maxHeartbeats 2000000 in
theorem k_rotate {u w : World} {i j p q k : Nat} (d : Dat u w) (hi : i < 64) (hj : j < 64) (hij : i ≠ j) (hp : 0 < p) (hpq : 2 * p ≤ q) (hq : q ≤ 500) (hk1 : 1 ≤ k) (hk2 : k ≤ 20) (hO : Nt.RotOK p q k) : Calls Tryz.prog 69 #[.int .i64 (i : Int), .int .i64 (j : Int), .int .i64 (p : Int), .int .i64 (q : Int), .int .i64 (k : Int)] w (Post u w fun v u' => ∃ x : Sl, v = .tuple #[x.v, .int .i64 0] ∧ IrV 4 u' x (Nt.roL i j p q k)) := by
 have hT0 := hO.t0
 have hT1 := hO.t1
 have hS0 := hO.s0
 have hS1 := hO.s1
 unfold Nt.roT at hT0 hT1
 unfold Nt.roS at hS0 hS1
 refine zzl (args := [.int .i64 i, .int .i64 j, .int .i64 p, .int .i64 q, .int .i64 k]) Tryz.func69 rfl Tryz.ntmps69 (rs := [.tmp 10, .tmp 11]) Tryz.results69 (le_b rfl) (le_b rfl) d ?_
 refine sq9 (zza 10 (.v (.slice none 0 0)) (zza 11 (zI 0) (zzb (zzd (sq9 (zza 22 (zI i) (zza 23 (zB (decide ((i : Int) < 0))) (zyp 24 (x := zB (decide ((i : Int) < 0))) (zB false) (by rw [show (decide ((i : Int) < 0)) = false from decide_eq_false xq]) (zza 25 (zI i) ?_ (hw := w1 2 false 24))))))))))
 refine zza 26 (zB (decide ((64 : Int) ≤ (i : Int)))) ?_ (hw := w1 2 false 24)
 refine zza 27 (zB (decide ((64 : Int) ≤ (i : Int)))) (zyp 28 (x := zB (decide ((64 : Int) ≤ (i : Int)))) (zB false) (by rw [show (decide ((64 : Int) ≤ (i : Int))) = false from decide_eq_false xq]) (zza 29 (zI j) ?_ (hw := w1 6 false 28)))
 refine zza 30 (zB (decide ((j : Int) < 0))) ?_ (hw := w1 6 false 28)
 refine zza 31 (zB (decide ((j : Int) < 0))) (zyp 32 (x := zB (decide ((j : Int) < 0))) (zB false) (by rw [show (decide ((j : Int) < 0)) = false from decide_eq_false xq]) (zza 33 (zI j) ?_ (hw := w1 10 false 32)))
 refine zza 34 (zB (decide ((64 : Int) ≤ (j : Int)))) ?_ (hw := w1 10 false 32)
 refine zza 35 (zB (decide ((64 : Int) ≤ (j : Int)))) (zyp 36 (x := zB (decide ((64 : Int) ≤ (j : Int)))) (zB false) (by rw [show (decide ((64 : Int) ≤ (j : Int))) = false from decide_eq_false xq]) (zza 37 (zI i) ?_ (hw := w1 14 false 36)))
 refine zza 38 (zI j) ?_ (hw := w1 14 false 36)
 refine zza 39 (zB ((i : Int) == (j : Int))) ?_ (hw := w1 14 false 36)
 refine zza 40 (zB ((i : Int) == (j : Int))) (zzb (zzt (b := (i : Int) == (j : Int)) xj (fun hb => ?_) (fun hb => ?_)))
 ·exact absurd hb (by rw [show ((i : Int) == (j : Int)) = false from zq]; decide)
 ·clear hb
  refine zzr (zzo ?_)
  refine zzd (sq9 (zza 41 (zI q) (zza 42 (zB (decide ((500 : Int) < (q : Int)))) (zyp 43 (x := zB (decide ((500 : Int) < (q : Int)))) (zB false) (by rw [show (decide ((500 : Int) < (q : Int))) = false from decide_eq_false xq]) (zza 44 (zI p) ?_ (hw := w1 2 false 43))))))
  refine zza 45 (zB (decide ((p : Int) ≤ 0))) ?_ (hw := w1 2 false 43)
  refine zza 46 (zB (decide ((p : Int) ≤ 0))) (zyp 47 (x := zB (decide ((p : Int) ≤ 0))) (zB false) (by rw [show (decide ((p : Int) ≤ 0)) = false from decide_eq_false xq]) (zza 48 (zI p) ?_ (hw := w1 6 false 47)))
  refine zza 49 (zI q) ?_ (hw := w1 6 false 47)
  refine sy_quo 50 (n := (q : Int)) (m := 2) ((q / 2 : Nat) : Int) xw (by rw [Int.tdiv_eq_ediv_of_nonneg xq]; exact (IntWalk.i64_in _ xq).trans xq) ?_ (hw := w1 6 false 47)
  refine zza 51 (zB (decide (((q / 2 : Nat) : Int) < (p : Int)))) ?_ (hw := w1 6 false 47)
  refine zza 52 (zB (decide (((q / 2 : Nat) : Int) < (p : Int)))) (zyp 53 (x := zB (decide (((q / 2 : Nat) : Int) < (p : Int)))) (zB false) (by rw [show (decide (((q / 2 : Nat) : Int) < (p : Int))) = false from decide_eq_false xq]) (zza 54 (zI k) ?_ (hw := w1 12 false 53)))
  refine zza 55 (zB (decide ((k : Int) < 1))) ?_ (hw := w1 12 false 53)
  refine zza 56 (zB (decide ((k : Int) < 1))) (zyp 57 (x := zB (decide ((k : Int) < 1))) (zB false) (by rw [show (decide ((k : Int) < 1)) = false from decide_eq_false xq]) (zza 58 (zI k) ?_ (hw := w1 16 false 57)))
  refine zza 59 (zB (decide ((20 : Int) < (k : Int)))) ?_ (hw := w1 16 false 57)
  refine zza 60 (zB (decide ((20 : Int) < (k : Int)))) (zzc 127 [(0, zI i), (1, zI j), (2, zI p), (3, zI q), (4, zI k), (60, zB (decide ((20 : Int) < (k : Int))))] [] (zzt (b := decide ((20 : Int) < (k : Int))) xj (fun hb => ?_) (fun hb => ?_)))
  ·exact absurd hb (by rw [show (decide ((20 : Int) < (k : Int))) = false from decide_eq_false xq]; decide)
  ·clear hb
   refine zzr (zzo ?_)
   refine sq9 (zza 62 (zI p) (zza 63 (zI q) (zyp 64 (x := zI (IntKind.i64.wrap ((2 : Int) * (q : Int)))) (zI (2 * q : Nat)) (eqI xz) (zzg 65 36 [.int .i64 p, .int .i64 (2 * q : Nat), .int .i64 64] ?_))))
   intro w19 u19 e19 d19
   have k26 := k_SinPiG (p := (p : Int)) (q := 2 * q) (k := 64) d19 xq xq xq xq xq hO.g1
   with_reducible refine zPm k26 ?_
   rintro _ u24 g25 ⟨r20, r22, rfl, h21, h23⟩
   refine zza 61 (.v (.tuple #[.agg #[.bool r20.s, r20.m.v, r20.d.v, .bool r22.s, r22.m.v, r22.d.v], .int .i64 0])) (zza 66 (.v (.agg #[.bool r20.s, r20.m.v, r20.d.v, .bool r22.s, r22.m.v, r22.d.v])) (zza 67 (zI 0) (zzj 12 ⟨32, [.bool false, .slice none 0 0, .slice none 0 0, .bool false, .slice none 0 0, .slice none 0 0]⟩ (zzi ⟨32, r20.cs ++ r22.cs⟩ ty32 ?_))))
   refine zza 13 (zI 0) (zzb (sq9 (zza 69 (zI p) (zza 70 (zI q) (zyp 71 (x := zI (IntKind.i64.wrap ((2 : Int) * (q : Int)))) (zI (2 * q : Nat)) (eqI xz) (zzg 72 31 [.int .i64 p, .int .i64 (2 * q : Nat), .int .i64 64] ?_))))))
   intro w27 u27 e27 d27
   have k34 := k_CosPiG (p := (p : Int)) (q := 2 * q) (k := 64) d27 xq xq xq xq xq hO.g2
   with_reducible refine zPm k34 ?_
   rintro _ u32 g33 ⟨r28, r30, rfl, h29, h31⟩
   refine zza 68 (.v (.tuple #[.agg #[.bool r28.s, r28.m.v, r28.d.v, .bool r30.s, r30.m.v, r30.d.v], .int .i64 0])) (zza 73 (.v (.agg #[.bool r28.s, r28.m.v, r28.d.v, .bool r30.s, r30.m.v, r30.d.v])) (zza 74 (zI 0) (zzj 14 ⟨32, [.bool false, .slice none 0 0, .slice none 0 0, .bool false, .slice none 0 0, .slice none 0 0]⟩ (zzi ⟨32, r28.cs ++ r30.cs⟩ ty32 ?_))))
   refine zza 15 (zI 0) (zzb (sq9 (zza 76 (zI p) (zza 77 (zI q) (zzg 78 36 [.int .i64 p, .int .i64 q, .int .i64 64] ?_)))))
   intro w35 u35 e35 d35
   have k42 := k_SinPiG (p := (p : Int)) (q := q) (k := 64) d35 xq xq xq xq xq hO.g2
   with_reducible refine zPm k42 ?_
   rintro _ u40 g41 ⟨r36, r38, rfl, h37, h39⟩
   refine zza 75 (.v (.tuple #[.agg #[.bool r36.s, r36.m.v, r36.d.v, .bool r38.s, r38.m.v, r38.d.v], .int .i64 0])) (zza 79 (.v (.agg #[.bool r36.s, r36.m.v, r36.d.v, .bool r38.s, r38.m.v, r38.d.v])) (zza 80 (zI 0) (zzj 16 ⟨32, [.bool false, .slice none 0 0, .slice none 0 0, .bool false, .slice none 0 0, .slice none 0 0]⟩ (zzi ⟨32, r36.cs ++ r38.cs⟩ ty32 ?_))))
   refine zza 17 (zI 0) (zzb (sq9 (zzh 82 (.v (.agg #[.bool r20.s, r20.m.v, r20.d.v, .bool r22.s, r22.m.v, r22.d.v])) ty32 zze (zzh 83 (.v (.agg #[.bool r28.s, r28.m.v, r28.d.v, .bool r30.s, r30.m.v, r30.d.v])) ty32 zze (zzg 84 136 [.agg #[.bool r20.s, r20.m.v, r20.d.v, .bool r22.s, r22.m.v, r22.d.v], .agg #[.bool r28.s, r28.m.v, r28.d.v, .bool r30.s, r30.m.v, r30.d.v]] ?_)))))
   intro w43 u43 e43 d43
   have k49 := k_ivDivO d43 (h21.ext (e27.trans (g33.ext.trans (e35.trans (g41.ext.trans e43))))).raw (h23.ext (e27.trans (g33.ext.trans (e35.trans (g41.ext.trans e43))))).raw (h29.ext (e35.trans (g41.ext.trans e43))).raw (h31.ext (e35.trans (g41.ext.trans e43))).raw xq xq
   with_reducible refine zPm k49 ?_
   rintro _ u47 g48 ⟨r44, r45, rfl, h46⟩
   refine zza 81 (.v (.tuple #[.agg #[.bool r44.s, r44.m.v, r44.d.v, .bool r45.s, r45.m.v, r45.d.v], .int .i64 (Nt.divE (Nt.rCH p q).1 (Nt.rCH p q).2)])) (zza 85 (.v (.agg #[.bool r44.s, r44.m.v, r44.d.v, .bool r45.s, r45.m.v, r45.d.v])) (zza 86 (zI (Nt.divE (Nt.rCH p q).1 (Nt.rCH p q).2)) (zzj 18 ⟨32, [.bool false, .slice none 0 0, .slice none 0 0, .bool false, .slice none 0 0, .slice none 0 0]⟩ (zzi ⟨32, r44.cs ++ r45.cs⟩ ty32 ?_))))
   refine zza 19 (zI (Nt.divE (Nt.rCH p q).1 (Nt.rCH p q).2)) (zzc 127 [(0, zI i), (1, zI j), (4, zI k), (13, zI 0), (15, zI 0), (16, .adr 16 0), (17, zI 0), (18, .adr 18 0), (19, zI (Nt.divE (Nt.rCH p q).1 (Nt.rCH p q).2))] [(16, ⟨32, r36.cs ++ r38.cs⟩), (18, ⟨32, r44.cs ++ r45.cs⟩)] (zzd (sq9 (zza 87 (zI 0) (zza 88 (zB false) (zza 89 (zB false) (zza 90 (zI 0) ?_ (hw := w1 2 false 89))))))))
   refine zza 91 (zB false) ?_ (hw := w1 2 false 89)
   refine zza 92 (zB false) (zza 93 (zB false) (zza 94 (zI 0) ?_ (hw := w1 6 false 93)))
   refine zza 95 (zB false) ?_ (hw := w1 6 false 93)
   refine zza 96 (zB false) (zza 97 (zB false) (zza 98 (zI (Nt.divE (Nt.rCH p q).1 (Nt.rCH p q).2)) ?_ (hw := w1 10 false 97)))
   refine zza 99 (zB ((Nt.divE (Nt.rCH p q).1 (Nt.rCH p q).2) != 0)) ?_ (hw := w1 10 false 97)
   refine zza 100 (zB ((Nt.divE (Nt.rCH p q).1 (Nt.rCH p q).2) != 0)) (zzb (zzt (b := (Nt.divE (Nt.rCH p q).1 (Nt.rCH p q).2) != 0) xj (fun hb => ?_) (fun hb => ?_)))
   ·exact absurd hb (by rw [show ((Nt.divE (Nt.rCH p q).1 (Nt.rCH p q).2) != 0) = false from (by rw [hO.div.1]; rfl)]; decide)
   ·clear hb
    refine zzr (zzo ?_)
    refine zzd ?_
    have hD50 : OptI u47 r44 r45 (Nt.divO (Nt.rSH p q).1 (Nt.rSH p q).2 (Nt.rCH p q).1 (Nt.rCH p q).2) (80 + 80 + 20) := h46
    rw [hO.div.2] at hD50
    refine zzf (zzh 101 (.v (.agg #[.bool r44.s, r44.m.v, r44.d.v, .bool r45.s, r45.m.v, r45.d.v])) ty32 zze (zza 102 (zI k) (zzg 103 137 [.agg #[.bool r44.s, r44.m.v, r44.d.v, .bool r45.s, r45.m.v, r45.d.v], .int .i64 k] ?_)))
    intro w51 u51 e51 d51
    have k54 := k_dcoef (x1 := (Nt.rTA p q).1) (x2 := (Nt.rTA p q).2) (k := k) d51 (hD50.1.ext e51).raw (hD50.2.ext e51).raw xq xq hO.t0 hO.t1 xq
    with_reducible refine zPm k54 ?_
    rintro _ u52 g53 rfl
    refine zza 20 (zI (Nt.coZ ((Nt.rTA p q).1) ((Nt.rTA p q).2) k)) (zzb (sq9 (zzh 104 (.v (.agg #[.bool r36.s, r36.m.v, r36.d.v, .bool r38.s, r38.m.v, r38.d.v])) ty32 zze (zza 105 (zI k) (zzg 106 137 [.agg #[.bool r36.s, r36.m.v, r36.d.v, .bool r38.s, r38.m.v, r38.d.v], .int .i64 k] ?_)))))
    intro w55 u55 e55 d55
    have k58 := k_dcoef (x1 := (Nt.rSI p q).1) (x2 := (Nt.rSI p q).2) (k := k) d55 (h37.ext (e43.trans (g48.ext.trans (e51.trans (g53.ext.trans e55))))).raw (h39.ext (e43.trans (g48.ext.trans (e51.trans (g53.ext.trans e55))))).raw xq xq hO.s0 hO.s1 xq
    with_reducible refine zPm k58 ?_
    rintro _ u56 g57 rfl
    refine zza 21 (zI (Nt.coZ ((Nt.rSI p q).1) ((Nt.rSI p q).2) k)) (zzb (sq9 (zza 107 (zI i) (zza 108 (zI j) (zza 109 (zI (Nt.coZ ((Nt.rTA p q).1) ((Nt.rTA p q).2) k)) (zza 110 (zI k) (zza 111 (.v (.agg #[.int .i64 i, .int .i64 j, .int .i64 (Nt.coZ ((Nt.rTA p q).1) ((Nt.rTA p q).2) k), .int .i64 k])) (zza 112 (zI j) (zza 113 (zI i) (zza 114 (zI (Nt.coZ ((Nt.rSI p q).1) ((Nt.rSI p q).2) k)) (zyp 115 (x := zI (IntKind.i64.wrap (0 - (Nt.coZ ((Nt.rSI p q).1) ((Nt.rSI p q).2) k)))) (zI (-(Nt.coZ ((Nt.rSI p q).1) ((Nt.rSI p q).2) k))) (eqI xz) ?_)))))))))))
    refine zza 116 (zI k) (zza 117 (.v (.agg #[.int .i64 j, .int .i64 i, .int .i64 (-(Nt.coZ ((Nt.rSI p q).1) ((Nt.rSI p q).2) k)), .int .i64 k])) (zza 118 (zI i) (zza 119 (zI j) (zza 120 (zI (Nt.coZ ((Nt.rTA p q).1) ((Nt.rTA p q).2) k)) (zza 121 (zI k) (zza 122 (.v (.agg #[.int .i64 i, .int .i64 j, .int .i64 (Nt.coZ ((Nt.rTA p q).1) ((Nt.rTA p q).2) k), .int .i64 k])) (zza 123 (zI j) (zza 124 (zI j) (zza 125 (.v (.agg #[.int .i64 j, .int .i64 j, .int .i64 0, .int .i64 (-2)])) (zxw 126 ⟨90, [.int .i64 i, .int .i64 j, .int .i64 (Nt.coZ ((Nt.rTA p q).1) ((Nt.rTA p q).2) k), .int .i64 k, .int .i64 j, .int .i64 i, .int .i64 (-(Nt.coZ ((Nt.rSI p q).1) ((Nt.rSI p q).2) k)), .int .i64 k, .int .i64 i, .int .i64 j, .int .i64 (Nt.coZ ((Nt.rTA p q).1) ((Nt.rTA p q).2) k), .int .i64 k, .int .i64 j, .int .i64 j, .int .i64 0, .int .i64 (-2)]⟩ 4 (fun b59 u60 e61 h62 => ?_)))))))))))
    have hp63 : IrV 4 u60 (⟨some ⟨b59, 0, none⟩, 4, 4⟩ : Sl) [[(i : Int), (j : Int), (Nt.coZ ((Nt.rTA p q).1) ((Nt.rTA p q).2) k), (k : Int)], [(j : Int), (i : Int), -(Nt.coZ ((Nt.rSI p q).1) ((Nt.rSI p q).2) k), (k : Int)], [(i : Int), (j : Int), (Nt.coZ ((Nt.rTA p q).1) ((Nt.rTA p q).2) k), (k : Int)], [(j : Int), (j : Int), 0, (-2)]] := ir_data h62 (rows_cons rfl (rows_cons rfl (rows_cons rfl (rows_cons rfl rows_nil)))) rfl rfl rfl (Nat.le_refl _) yv
    refine zza 10 (.v (.slice (some ⟨b59, 0, none⟩) 4 4)) (zza 11 (zI 0) (zzc 127 [(10, .v (.slice (some ⟨b59, 0, none⟩) 4 4)), (11, zI 0)] [] (zzn (ret0 [.slice (some ⟨b59, 0, none⟩) 4 4, .int .i64 0] ⟨zzp, zzp, trivial⟩ fun u64 e65 => ?_))))
    exact ⟨(⟨some ⟨b59, 0, none⟩, 4, 4⟩ : Sl), rfl, (hp63.ext e65)⟩
theorem k_sameI {u w : World} {x y : Sl} {l : List Int} (d : Dat u w) (hx : SlR .i64 u x.a x.n x.c l) (hy : SlR .i64 u y.a y.n y.c l) (hb : ∀ z ∈ l, -9223372036854775808 ≤ z ∧ z ≤ 9223372036854775807) (h8 : l.length ≤ 1000000) : Calls Tryz.prog 52 #[x.v, y.v] w (Post u w fun v u' => v = .bool true) := by
 have hlx : l.length = x.n := hx.1
 have hly : l.length = y.n := hy.1
 refine zzl (args := [.slice x.a x.n x.c, .slice y.a y.n y.c]) Tryz.func52 rfl Tryz.ntmps52 (rs := [.tmp 4]) Tryz.results52 (le_b rfl) (le_b rfl) d ?_
 refine sq9 (zza 4 (zB false) (zzb (zzd (sq9 (zza 6 (.v x.v) (zza 7 (zI x.n) (zza 8 (.v y.v) (zza 9 (zI y.n) (zza 10 (zB ((x.n : Int) != (y.n : Int))) (zzb (zzt (b := (x.n : Int) != (y.n : Int)) xj (fun hb => ?_) (fun hb => ?_))))))))))))
 ·exact absurd hb (by rw [show ((x.n : Int) != (y.n : Int)) = false from (by rw [show y.n = x.n by omega]; simp)]; decide)
 ·clear hb
  refine zzr (zzo ?_)
  refine zzd (sq9 (zza 5 (zI 0) (zzb (zzs (zym (I := fun m11 S' u' => ∃ (i : Nat), (m11 = x.n - i) ∧ (i ≤ x.n) ∧ (S' = St.of 26 [(0, .v (.slice x.a x.n x.c)), (1, .v (.slice y.a y.n y.c)), (5, zI i)] []) ∧ (Ext u u')) (fun m S u1 u2 e h => by obtain ⟨i, hm, p0, hS, hE⟩ := h; exact ⟨i, hm, p0, hS, hE.trans e⟩) _ yw ⟨0, rfl, Nat.zero_le _, rfl, (Ext.refl _)⟩ ?_)))))
  rintro m11 _ u11 ⟨i, hm11, hi, rfl, e11⟩
  refine zzd (sq9 (zza 11 (zI i) (zza 12 (.v x.v) (zza 13 (zI x.n) (zza 14 (zB (decide ((i : Int) < (x.n : Int)))) (zzb (zzt (b := decide ((i : Int) < (x.n : Int))) xj (fun hb12 => ?_) (fun hb12 => ?_))))))))
  ·replace hb12 : (decide ((i : Int) < (x.n : Int))) = true := hb12
   have qhb12 := of_decide_eq_true hb12
   refine zzr (zzo ?_)
   refine zzd (zzs (zzd (zzy [0, 0, 3, 7, 0, 0, 48, 112, 255] [(0, []), (1, []), (2, []), (3, []), (4, []), (5, []), (6, []), (7, []), (8, [])] xj xj (zza 17 (.v x.v) (zza 18 (zI i) ?_)))))
   have hl13 := ((hx.ext e11)).1
   obtain ⟨b13, o13, hA13, hc13⟩ := ints_at (hx.ext e11) (i := i) xq
   have hz13 := ints_bd hb xq i
   refine zzz 19 (o13 + i * 1) (n := x.n) (off := o13) (sz := 1) (i := (i : Int)) xq hA13 xq xq sl30 (zyk 20 (.int .i64 (l.getD i 0)) hc13 ty3 (zza 21 (.v y.v) (zza 22 (zI i) ?_)))
   have hl14 := ((hy.ext e11)).1
   obtain ⟨b14, o14, hA14, hc14⟩ := ints_at (hy.ext e11) (i := i) xq
   have hz14 := ints_bd hb xq i
   refine zzz 23 (o14 + i * 1) (n := y.n) (off := o14) (sz := 1) (i := (i : Int)) xq hA14 xq xq sl30 (zyk 24 (.int .i64 (l.getD i 0)) hc14 ty3 (zza 25 (zB ((l.getD i 0) != (l.getD i 0))) (zzb (zzt (b := (l.getD i 0) != (l.getD i 0)) xj (fun hb => ?_) (fun hb => ?_)))))
   ·exact absurd hb (by rw [show ((l.getD i 0) != (l.getD i 0)) = false from (by simp)]; decide)
   ·clear hb
    refine zzr (zzo ?_)
    refine zzf (zza 15 (zI i) (zyp 16 (x := zI (IntKind.i64.wrap ((i : Int) + 1))) (zI (i + 1 : Nat)) (eqI xz) (zza 5 (zI (i + 1 : Nat)) (zzw ?_))))
    refine ⟨_, ?_, _, by exact zzu _ _ _, i + 1, rfl, by omega, rfl, e11⟩
    omega
  ·replace hb12 : (decide ((i : Int) < (x.n : Int))) = false := hb12
   have qhb12 := of_decide_eq_false hb12
   refine zyb (zzo (sq9 (zza 4 (zB true) (zzb (zzn (ret0 [.bool true] ⟨zzp, trivial⟩ fun u15 e16 => ?_))))))
   rfl
set_option maxHeartbeats 1000000 in
theorem k_known37 {u w : World} (d : Dat u w) : Calls Tryz.prog 51 #[] w (Post u w fun v _ => v = .bool true) := by
 refine zzl (args := []) Tryz.func51 rfl Tryz.ntmps51 (rs := [.tmp 0]) Tryz.results51 (le_b rfl) (le_b rfl) d ?_
 refine sq9 (zza 0 (zB false) (zzb (sq9 (zza 6 (.v (.agg #[.int .i64 0, .int .i64 1, .int .i64 1, .int .i64 1])) (zxw 7 ⟨90, [.int .i64 0, .int .i64 1, .int .i64 1, .int .i64 1]⟩ 1 (fun b11 u12 e13 h14 => ?_))))))
 have hp15 : IrV 4 u12 (⟨some ⟨b11, 0, none⟩, 1, 1⟩ : Sl) [[0, 1, 1, 1]] := ir_data h14 (rows_cons rfl rows_nil) rfl rfl rfl (Nat.le_refl _) yv
 refine zxw 8 ⟨3, [.int .i64 0, .int .i64 3]⟩ 2 (fun b16 u17 e18 h19 => ?_)
 have hp20 : SlR .i64 u17 ((⟨some ⟨b16, 0, none⟩, 2, 2⟩ : Sl)).a ((⟨some ⟨b16, 0, none⟩, 2, 2⟩ : Sl)).n ((⟨some ⟨b16, 0, none⟩, 2, 2⟩ : Sl)).c [0, 3] := ints_data h19 rfl rfl (Nat.le_refl _) (by show 2 ≤ maxLen; unfold maxLen; omega)
 refine zzg 9 49 [.slice (some ⟨b11, 0, none⟩) 1 1, .slice (some ⟨b16, 0, none⟩) 2 2] ?_
 intro w21 u21 e21 d21
 have k26 := k_dforward (x := (⟨some ⟨b11, 0, none⟩, 1, 1⟩ : Sl)) (y := (⟨some ⟨b16, 0, none⟩, 2, 2⟩ : Sl)) d21 (hp15.ext (e18.trans e21)) (by first | omega | decide) (hp20.ext e21) xw (by first | omega | decide)
 with_reducible refine zPm k26 ?_
 rintro _ u24 g25 ⟨z22, rfl, hz23⟩
 refine zza 5 (.v (.tuple #[z22.v, .int .i64 (Nt.chkE ([[0, 1, 1, 1]]) ([0, 3]))])) (zza 10 (.v z22.v) (zza 11 (zI (Nt.chkE ([[0, 1, 1, 1]]) ([0, 3]))) (zza 1 (.v z22.v) (zza 2 (zI (Nt.chkE ([[0, 1, 1, 1]]) ([0, 3]))) (zzb (sq9 (zzg 13 69 [.int .i64 0, .int .i64 1, .int .i64 1, .int .i64 4, .int .i64 4] ?_)))))))
 intro w27 u27 e27 d27
 have k32 := k_rotate (i := 0) (j := 1) (p := 1) (q := 4) (k := 4) d27 xq xq xw xq xq xq xq xq Nt.rotOK_14
 with_reducible refine zPm k32 ?_
 rintro _ u30 g31 ⟨x28, rfl, hx29⟩
 have hlx28 : x28.n = 4 := hx29.len
 refine zza 12 (.v (.tuple #[x28.v, .int .i64 0])) (zza 14 (.v x28.v) (zza 15 (zI 0) (zza 3 (.v x28.v) (zza 4 (zI 0) (zzb (sq9 (zza 16 (zI (Nt.chkE ([[0, 1, 1, 1]]) ([0, 3]))) (zza 17 (zB ((Nt.chkE ([[0, 1, 1, 1]]) ([0, 3])) == 0)) (zyp 18 (x := zB ((Nt.chkE ([[0, 1, 1, 1]]) ([0, 3])) == 0)) (zB true) (by rw [show ((Nt.chkE ([[0, 1, 1, 1]]) ([0, 3])) == 0) = true from xw]) (zza 19 (zI 0) ?_ (hw := w1 2 true 18)))))))))))
 refine zza 20 (zB true) ?_ (hw := w1 2 true 18)
 refine zza 21 (zB true) (zza 22 (zB true) (zza 23 (.v z22.v) ?_ (hw := w1 6 true 22)))
 refine zxw 24 ⟨3, [.int .i64 2, .int .i64 3]⟩ 2 (fun b34 u35 e36 h37 => ?_) (hw := w1 6 true 22)
 have hp38 : SlR .i64 u35 ((⟨some ⟨b34, 0, none⟩, 2, 2⟩ : Sl)).a ((⟨some ⟨b34, 0, none⟩, 2, 2⟩ : Sl)).n ((⟨some ⟨b34, 0, none⟩, 2, 2⟩ : Sl)).c [2, 3] := ints_data h37 rfl rfl (Nat.le_refl _) (by show 2 ≤ maxLen; unfold maxLen; omega)
 refine zzg 25 52 [z22.v, .slice (some ⟨b34, 0, none⟩) 2 2] ?_ (hw := w1 6 true 22)
 intro w39 u39 e39 d39
 have k42 := k_sameI (x := z22) (y := (⟨some ⟨b34, 0, none⟩, 2, 2⟩ : Sl)) (l := (Nt.fwdL ([[0, 1, 1, 1]]) ([0, 3]))) d39 (hz23.ext (e27.trans (g31.ext.trans (e36.trans e39)))) (by have h9 : (Nt.fwdL ([[0, 1, 1, 1]]) ([0, 3])) = [2, 3] := rfl; rw [h9]; exact (hp38.ext e39)) Nt.fwd_mem xw
 with_reducible refine zPm k42 ?_
 rintro _ u40 g41 rfl
 refine zza 26 (zB true) (zza 27 (zB true) (zza 28 (.v x28.v) ?_ (hw := w1 11 true 27)))
 refine zza 29 (zI x28.n) ?_ (hw := w1 11 true 27)
 refine zza 30 (zB ((x28.n : Int) == 4)) ?_ (hw := w1 11 true 27)
 refine zza 31 (zB ((x28.n : Int) == 4)) (zyp 32 (x := zB ((x28.n : Int) == 4)) (zB true) (by rw [show ((x28.n : Int) == 4) = true from zq]) (zza 33 (.v x28.v) ?_ (hw := w1 16 true 32)))
 have hl44 := ((hx29.ext (e36.trans (e39.trans g41.ext)))).len
 obtain ⟨b44, o44, hA44, hc44⟩ := ir_cell4 (hx29.ext (e36.trans (e39.trans g41.ext))) (i := 0) (by (show _ < 4; decide))
 refine zzz 34 (o44 + 0 * 4) (n := x28.n) (off := o44) (sz := 4) (i := 0) xq hA44 xq xq sl64 ?_ (hw := w1 16 true 32)
 refine zza 35 (.v (.pointer (some ⟨b44, o44 + 0 * 4 + 2, none⟩))) ?_ (hw := w1 16 true 32)
 refine zyk 36 (.int .i64 (gi (Nt.roL 0 1 1 4 4) 0 2)) (hc44 2 xw) ty3 ?_ (hw := w1 16 true 32)
 refine zza 37 (zB ((gi (Nt.roL 0 1 1 4 4) 0 2) == 7)) ?_ (hw := w1 16 true 32)
 refine zza 38 (zB ((gi (Nt.roL 0 1 1 4 4) 0 2) == 7)) (zyp 39 (x := zB ((gi (Nt.roL 0 1 1 4 4) 0 2) == 7)) (zB true) (by rw [show ((gi (Nt.roL 0 1 1 4 4) 0 2) == 7) = true from (show (Nt.roT 1 4 4 == 7) = true by rw [Nt.roT_14]; rfl)]) (zza 40 (.v x28.v) ?_ (hw := w1 23 true 39)))
 have hl46 := ((hx29.ext (e36.trans (e39.trans g41.ext)))).len
 obtain ⟨b46, o46, hA46, hc46⟩ := ir_cell4 (hx29.ext (e36.trans (e39.trans g41.ext))) (i := 1) (by (show _ < 4; decide))
 refine zzz 41 (o46 + 1 * 4) (n := x28.n) (off := o46) (sz := 4) (i := 1) xq hA46 xq xq sl64 ?_ (hw := w1 23 true 39)
 refine zza 42 (.v (.pointer (some ⟨b46, o46 + 1 * 4 + 2, none⟩))) ?_ (hw := w1 23 true 39)
 refine zyk 43 (.int .i64 (gi (Nt.roL 0 1 1 4 4) 1 2)) (hc46 2 xw) ty3 ?_ (hw := w1 23 true 39)
 refine zza 44 (zB ((gi (Nt.roL 0 1 1 4 4) 1 2) == (-11))) ?_ (hw := w1 23 true 39)
 refine zza 45 (zB ((gi (Nt.roL 0 1 1 4 4) 1 2) == (-11))) (zyp 46 (x := zB ((gi (Nt.roL 0 1 1 4 4) 1 2) == (-11))) (zB true) (by rw [show ((gi (Nt.roL 0 1 1 4 4) 1 2) == (-11)) = true from (show (-Nt.roS 1 4 4 == -11) = true by rw [Nt.roS_14]; rfl)]) (zza 47 (.v x28.v) ?_ (hw := w1 30 true 46)))
 have hl48 := ((hx29.ext (e36.trans (e39.trans g41.ext)))).len
 obtain ⟨b48, o48, hA48, hc48⟩ := ir_cell4 (hx29.ext (e36.trans (e39.trans g41.ext))) (i := 3) (by (show _ < 4; decide))
 refine zzz 48 (o48 + 3 * 4) (n := x28.n) (off := o48) (sz := 4) (i := 3) xq hA48 xq xq sl64 ?_ (hw := w1 30 true 46)
 refine zza 49 (.v (.pointer (some ⟨b48, o48 + 3 * 4 + 3, none⟩))) ?_ (hw := w1 30 true 46)
 refine zyk 50 (.int .i64 (gi (Nt.roL 0 1 1 4 4) 3 3)) (hc48 3 xw) ty3 ?_ (hw := w1 30 true 46)
 refine zza 51 (zB ((gi (Nt.roL 0 1 1 4 4) 3 3) == (-2))) ?_ (hw := w1 30 true 46)
 refine zza 52 (zB ((gi (Nt.roL 0 1 1 4 4) 3 3) == (-2))) (zza 0 (zB ((gi (Nt.roL 0 1 1 4 4) 3 3) == (-2))) (zzc 53 [(0, zB ((gi (Nt.roL 0 1 1 4 4) 3 3) == (-2)))] [] (zzn (ret0 [.bool ((gi (Nt.roL 0 1 1 4 4) 3 3) == (-2))] ⟨zzp, trivial⟩ fun u49 e50 => ?_))))
 show Value.bool _ = Value.bool true
 rw [show ((gi (Nt.roL 0 1 1 4 4) 3 3) == (-2)) = true from rfl]
set_option maxHeartbeats 4000000 in
theorem k_shears {u w : World} {x1 x2 x3 x4 : Sl} {l1 l2 l3 l4 : List Int} {n : Nat} {b : Int} (d : Dat u w) (hx1 : SlR .i64 u x1.a x1.n x1.c l1) (hb1 : ∀ z ∈ l1, -9223372036854775808 ≤ z ∧ z ≤ 9223372036854775807) (hx2 : SlR .i64 u x2.a x2.n x2.c l2) (hb2 : ∀ z ∈ l2, -9223372036854775808 ≤ z ∧ z ≤ 9223372036854775807) (hx3 : SlR .i64 u x3.a x3.n x3.c l3) (hb3 : ∀ z ∈ l3, -9223372036854775808 ≤ z ∧ z ≤ 9223372036854775807) (hx4 : SlR .i64 u x4.a x4.n x4.c l4) (hb4 : ∀ z ∈ l4, -9223372036854775808 ≤ z ∧ z ≤ 9223372036854775807) (hn1 : 2 ≤ n) (hn2 : n ≤ 64) (hb0 : 0 ≤ b) (hb9 : b ≤ 2097152) : Calls Tryz.prog 46 #[.agg #[x1.v, x2.v, x3.v, x4.v], .int .i64 (n : Int), .int .i64 b] w (Post u w fun v u' => ∃ (y : Sl) (L : List (List Int)), v = y.v ∧ IrV 4 u' y L ∧ L.length ≤ 12 ∧ ∀ p ∈ L, Nt.shC (n : Int) b p) := by
 have hl1 : l1.length = x1.n := hx1.1
 have hl2 : l2.length = x2.n := hx2.1
 have hl3 : l3.length = x3.n := hx3.1
 have hl4 : l4.length = x4.n := hx4.1
 refine zzl (args := [.agg #[.slice x1.a x1.n x1.c, .slice x2.a x2.n x2.c, .slice x3.a x3.n x3.c, .slice x4.a x4.n x4.c], .int .i64 n, .int .i64 b]) Tryz.func46 rfl Tryz.ntmps46 (rs := [.tmp 6]) Tryz.results46 (le_b rfl) (le_b rfl) d ?_
 refine sq9 (zzj 3 ⟨63, [x1.v, x2.v, x3.v, x4.v]⟩ (zza 6 (.v (.slice none 0 0)) (zzb (sq9 (zza 7 (.v (.slice none 0 0)) (zzb (zzd (sq9 (zza 8 (zI 0) (zzb (zzs ?_)))))))))))
 refine zym (I := fun m11 S' u' => (m11 = (min l1.length 12) ∧ S' = St.of 72 [(1, zI n), (2, zI b), (3, .adr 3 0), (7, .v (.slice none 0 0)), (8, zI 0)] [(3, ⟨63, [.slice x1.a x1.n x1.c, .slice x2.a x2.n x2.c, .slice x3.a x3.n x3.c, .slice x4.a x4.n x4.c]⟩)] ∧ Ext u u') ∨ (∃ (i : Nat) (L : List (List Int)) (cs : List Value) (cp : Nat), m11 = (min l1.length 12) - i ∧ i ≤ (min l1.length 12) ∧ 0 < i ∧ L.length = i ∧ cs.length = cp * 4 ∧ i ≤ cp ∧ cp ≤ maxLen ∧ cs.take (i * 4) = kcs L ∧ S' = St.of 72 [(1, zI n), (2, zI b), (3, .adr 3 0), (7, .slc 70 0 i cp), (8, zI i)] [(3, ⟨63, [.slice x1.a x1.n x1.c, .slice x2.a x2.n x2.c, .slice x3.a x3.n x3.c, .slice x4.a x4.n x4.c]⟩), (70, ⟨90, cs⟩)] ∧ Ext u u' ∧ (∀ p ∈ L, Nt.shC (n : Int) b p))) (fun m S u1 u2 e h => by rcases h with ⟨a, b, c⟩ | ⟨a1, a2, a3, a4, b1, b2, b3, b4, b5, b6, b7, b8, b9, b10, b11⟩; exact .inl ⟨a, b, c.trans e⟩; exact .inr ⟨a1, a2, a3, a4, b1, b2, b3, b4, b5, b6, b7, b8, b9, b10.trans e, b11⟩) _ yw (.inl ⟨rfl, rfl, Ext.refl _⟩) ?_
 rintro m11 _ u11 (⟨hm11, rfl, e11⟩ | ⟨i, L, cs, cp, hm11, hi, hp, hL, hc, hle, hmx, ht, rfl, e11, hP⟩)
 ·change SW _ _ _ _ (St.of 72 [(1, .v (.int .i64 (n : Int))), (2, .v (.int .i64 b)), (3, .adr 3 0), (7, .v (.slice none 0 0)), (8, .v (.int .i64 0))] [(3, ⟨63, [.slice x1.a x1.n x1.c, .slice x2.a x2.n x2.c, .slice x3.a x3.n x3.c, .slice x4.a x4.n x4.c]⟩)]) _ _
  refine zzd (sq9 (zza 11 (zI 0) (zza 12 (.adr 3 0) (zzh 13 (.v x1.v) ty30 zzk (zza 14 (zI x1.n) (zza 15 (zB (decide ((0 : Int) < (x1.n : Int)))) ?_))))))
  rcases Bool.eq_false_or_eq_true (decide ((0 : Int) < (x1.n : Int))) with hs12 | hs12
  ·refine zyp 16 (x := zB (decide ((0 : Int) < (x1.n : Int)))) (zB true) (by rw [hs12]) ?_
   have qhs12 := of_decide_eq_true hs12
   refine zza 17 (zI 0) ?_ (hw := w1 5 true 16)
   refine zza 18 (zB true) ?_ (hw := w1 5 true 16)
   refine zza 19 (zB true) (zzb (zyq xj (zzr (zzo ?_))))
   refine zzd (zzs (sq9 (zza 22 (.adr 3 0) (zzh 23 (.v x1.v) ty30 zzk (zza 24 (zI 0) ?_)))))
   have hl13 := ((hx1.ext e11)).1
   obtain ⟨b13, o13, hA13, hc13⟩ := ints_at (hx1.ext e11) (i := 0) xq
   have hz13 := ints_bd hb1 xq 0
   refine zzz 25 (o13 + 0 * 1) (n := x1.n) (off := o13) (sz := 1) (i := 0) xq hA13 xq xq sl30 (zyk 26 (.int .i64 (l1.getD 0 0)) hc13 ty3 (zza 27 (zI n) (zzg 28 45 [.int .i64 (l1.getD 0 0), .int .i64 n] ?_)))
   intro w14 u14 e14 d14
   have k19 := (show Calls _ _ #[.int .i64 (l1.getD 0 0), .int .i64 (n : Int)] _ _ from k_withinN (n := (l1.getD 0 0)) (m := (n : Int)) d14 xq xq xq xq)
   with_reducible refine zPm k19 ?_
   rintro _ u17 g18 ⟨z15, rfl, h16⟩
   refine zza 9 (zI z15) (zzb (zzd (zzy [0, 0, 2, 0, 8, 0, 56, 0, 128, 504, 1022, 0, 4094, 0, 8192, 0, 58360, 123896, 254968, 0, 0, 1048576, 0, 7595000, 15983608, 33285112, 66839544, 133948408, 268435455, 0, 1073741823] [(0, []), (1, []), (2, []), (3, []), (4, []), (5, []), (7, []), (8, []), (11, []), (13, []), (14, []), (15, []), (19, []), (20, []), (21, []), (22, []), (29, []), (6, []), (9, []), (10, []), (12, []), (16, []), (17, []), (18, []), (23, []), (24, []), (25, [53]), (26, []), (27, []), (28, []), (30, [])] xj xj (zza 29 (zI z15) (zza 30 (zI z15) (zyp 31 (x := zI (IntKind.i64.wrap ((z15 : Int) + 1))) (zI (z15 + 1 : Nat)) (eqI xz) (zza 32 (.adr 3 1) (zzh 33 (.v x2.v) ty30 zzk (zza 34 (zI 0) (zza 36 (zI n) (zyp 37 (x := zI (IntKind.i64.wrap ((n : Int) - 1))) (zI (n - 1 : Nat)) (eqI xz) ?_)))))))))))
   refine zza 40 (zI n) (zza 42 (.adr 3 3) (zzh 43 (.v x4.v) ty30 zzk (zza 44 (zI 0) (zza 48 (zI b) (zza 49 (.adr 3 2) (zzh 50 (.v x3.v) ty30 zzk (zza 51 (zI 0) (zzj 10 ⟨90, [.int .i64 0, .int .i64 0, .int .i64 0, .int .i64 0]⟩ (zzg 35 48 [x2.v, .int .i64 0] ?_)))))))))
   intro w20 u20 e20 d20
   have k23 := (show Calls _ _ #[_, .int .i64 0] _ _ from k_wat (x := x2) (i := 0) d20 (hx2.ext (e11.trans (e14.trans (g18.ext.trans e20)))) hb2 xq)
   with_reducible refine zPm k23 ?_
   rintro _ u21 g22 rfl
   have hz24 := ints_bd hb2 xq 0
   refine zzg 38 45 [.int .i64 (l2.getD 0 0), .int .i64 (n - 1 : Nat)] ?_
   intro w25 u25 e25 d25
   have k30 := (show Calls _ _ #[.int .i64 (l2.getD 0 0), .int .i64 ((n - 1 : Nat) : Int)] _ _ from k_withinN (n := (l2.getD 0 0)) (m := ((n - 1 : Nat) : Int)) d25 xq xq xq xq)
   with_reducible refine zPm k30 ?_
   rintro _ u28 g29 ⟨z26, rfl, h27⟩
   refine zyp 39 (x := zI (IntKind.i64.wrap (((z15 + 1 : Nat) : Int) + (z26 : Int)))) (zI (((z15 + 1) + z26 : Nat) : Int)) (eqI xz) ?_
   have hog31 := Nt.from_ok (n := n) (t := z15) (f := z26) xq xq
   obtain ⟨g31, hgg31⟩ : ∃ g, (z15 + 1 + z26) % n = g := ⟨_, rfl⟩
   rw [hgg31] at hog31
   refine sy_rem 41 (n := (((z15 + 1) + z26 : Nat) : Int)) (m := (n : Int)) ((g31 : Nat) : Int) xq (by rw [Int.tmod_eq_emod_of_nonneg xq, ← hgg31, Int.natCast_emod]) ?_
   refine zzg 45 48 [x4.v, .int .i64 0] ?_
   intro w32 u32 e32 d32
   have k35 := (show Calls _ _ #[_, .int .i64 0] _ _ from k_wat (x := x4) (i := 0) d32 (hx4.ext (e11.trans (e14.trans (g18.ext.trans (e20.trans (g22.ext.trans (e25.trans (g29.ext.trans e32)))))))) hb4 xq)
   with_reducible refine zPm k35 ?_
   rintro _ u33 g34 rfl
   have hz36 := ints_bd hb4 xq 0
   refine zzg 46 45 [.int .i64 (l4.getD 0 0), .int .i64 10] ?_
   intro w37 u37 e37 d37
   have k42 := (show Calls _ _ #[.int .i64 (l4.getD 0 0), .int .i64 10] _ _ from k_withinN (n := (l4.getD 0 0)) (m := 10) d37 xq xq xq xq)
   with_reducible refine zPm k42 ?_
   rintro _ u40 g41 ⟨z38, rfl, h39⟩
   refine zyp 47 (x := zI (IntKind.i64.wrap ((z38 : Int) - 2))) (zI ((z38 : Int) - 2)) yq (zzg 52 48 [x3.v, .int .i64 0] ?_)
   intro w43 u43 e43 d43
   have k46 := (show Calls _ _ #[_, .int .i64 0] _ _ from k_wat (x := x3) (i := 0) d43 (hx3.ext (e11.trans (e14.trans (g18.ext.trans (e20.trans (g22.ext.trans (e25.trans (g29.ext.trans (e32.trans (g34.ext.trans (e37.trans (g41.ext.trans e43)))))))))))) hb3 xq)
   with_reducible refine zPm k46 ?_
   rintro _ u44 g45 rfl
   have hz47 := ints_bd hb3 xq 0
   refine sy_lit 53 ⟨3, [.int .i64 (l3.getD 0 0)]⟩ 1 ?_
   refine zyn 54 55 [.v (.int .i64 b), .slc 53 0 1 1, zI 1] [53] (.inr rfl) (pub_mk xk) (k := ?_)
   intro B48 w48 u48 e48 d48 v48
   have h50 : u48.heap[B48 53]? = some (.cells #[.int .i64 (l3.getD 0 0)] 3 (0, 0)) := v48 53 (by simp) _ rfl
   obtain ⟨b49, hBb49⟩ : ∃ b, B48 53 = b := ⟨_, rfl⟩
   rw [hBb49] at h50
   have hp51 : SlR .i64 u48 ((⟨some ⟨b49, 0, none⟩, 1, 1⟩ : Sl)).a ((⟨some ⟨b49, 0, none⟩, 1, 1⟩ : Sl)).n ((⟨some ⟨b49, 0, none⟩, 1, 1⟩ : Sl)).c [(l3.getD 0 0)] := ints_data h50 rfl rfl (Nat.le_refl _) (by show 1 ≤ maxLen; unfold maxLen; omega)
   show Calls _ _ #[.int .i64 b, .slice (some ⟨B48 53, 0, none⟩) 1 1, .int .i64 1] _ _
   rw [hBb49]
   have k55 := (show Calls _ _ #[.int .i64 b, .slice (⟨some ⟨b49, 0, none⟩, 1, 1⟩ : Sl).a (⟨some ⟨b49, 0, none⟩, 1, 1⟩ : Sl).n (⟨some ⟨b49, 0, none⟩, 1, 1⟩ : Sl).c, .int .i64 1] _ _ from k_belowN (x := (⟨some ⟨b49, 0, none⟩, 1, 1⟩ : Sl)) (b := b) (n := 1) d48 hp51 (bd_one xq) xq xq xq)
   with_reducible refine zPm k55 ?_
   rintro _ u53 g54 ⟨y52, m52, rfl, hln52, hs52, hal52⟩
   have hly52 : m52.length = y52.n := hs52.1
   have hl56 := (hs52).1
   obtain ⟨b56, o56, hA56, hc56⟩ := ints_at hs52 (i := 0) xq
   have hz56 := ints_bd hal52 xq 0
   refine zzz 55 (o56 + 0 * 1) (n := y52.n) (off := o56) (sz := 1) (i := 0) xq hA56 xq xq sl30 (zyk 56 (.int .i64 (m52.getD 0 0)) hc56 ty3 (zza 57 (.v (.agg #[.int .i64 z15, .int .i64 g31, .int .i64 (m52.getD 0 0), .int .i64 ((z38 : Int) - 2)])) (zzi ⟨90, [.int .i64 z15, .int .i64 g31, .int .i64 (m52.getD 0 0), .int .i64 ((z38 : Int) - 2)]⟩ ty90 ?_)))
   refine zzc 72 [(1, zI n), (2, zI b), (3, .adr 3 0), (7, .v (.slice none 0 0)), (8, zI 0), (9, zI z15), (10, .adr 10 0)] [(3, ⟨63, [x1.v, x2.v, x3.v, x4.v]⟩), (10, ⟨90, [.int .i64 z15, .int .i64 g31, .int .i64 (m52.getD 0 0), .int .i64 ((z38 : Int) - 2)]⟩)] (zzd (zzd ?_))
   have hcf := ints_bd hal52 xq 0
   obtain ⟨cz, hcz⟩ : ∃ z, m52.getD 0 0 = z := ⟨_, rfl⟩
   rw [hcz] at hcf ⊢
   refine zzf (zza 58 (.adr 10 3) (zzh 59 (zI ((z38 : Int) - 2)) ty3 zzk (zza 60 (zB (decide (((z38 : Int) - 2) < 0))) (zzb (zzt (b := decide (((z38 : Int) - 2) < 0)) xj (fun hb57 => ?_) (fun hb57 => ?_))))))
   ·replace hb57 : (decide (((z38 : Int) - 2) < 0)) = true := hb57
    have qhb57 := of_decide_eq_true hb57
    refine zzf (zza 61 (.adr 10 2) (zzi ⟨90, [.int .i64 z15, .int .i64 g31, .int .i64 0, .int .i64 ((z38 : Int) - 2)]⟩ ty3 ?_))
    refine zzb (zzd (sq9 (zza 62 (.adr 10 3) (zzh 63 (zI ((z38 : Int) - 2)) ty3 zzk (zza 64 (zB (((z38 : Int) - 2) == (-2))) (zzb (zzt (b := ((z38 : Int) - 2) == (-2)) xj (fun hb58 => ?_) (fun hb58 => ?_))))))))
    ·replace hb58 : (((z38 : Int) - 2) == (-2)) = true := hb58
     have qhb58 : ((z38 : Int) - 2) = (-2) := by simpa using hb58
     refine zzf (zza 65 (zI z15) (zza 66 (.adr 10 1) (zzi ⟨90, [.int .i64 z15, .int .i64 z15, .int .i64 0, .int .i64 ((z38 : Int) - 2)]⟩ ty3 ?_)))
     refine zzb (zzf (zza 67 (.v (.slice none 0 0)) (zzh 68 (.v (.agg #[.int .i64 z15, .int .i64 z15, .int .i64 0, .int .i64 ((z38 : Int) - 2)])) ty90 zze (zxw 69 ⟨90, [.int .i64 z15, .int .i64 z15, .int .i64 0, .int .i64 ((z38 : Int) - 2)]⟩ 1 (fun b59 u60 e61 h62 => ?_)))))
     refine sy_app0 70 (T := 64) (E := 90) (z := .agg #[.int .i64 0, .int .i64 0, .int .i64 0, .int .i64 0]) (size := 4) (bytes := 32) (b := b59) (off := 0) (m := 1) [.int .i64 z15, .int .i64 z15, .int .i64 0, .int .i64 ((z38 : Int) - 2)] xj xj xj xw rfl (lit_news ((Ext.refl _).cells h62)) (ics_one (p := [(z15 : Int), (z15 : Int), 0, (z38 : Int) - 2])) xw xw xw ?_
     intro c63 cs63 ha63 hb63 hc63 hd63
     have hd63r : cs63.take (1 * 4) = kcs ([[(z15 : Int), (z15 : Int), 0, (z38 : Int) - 2]]) := hd63
     refine zza 7 (.slc 70 0 1 c63) (zzw ?_)
     refine zzo (zzf (zza 20 (zI 0) (zza 21 (zI 1) (zza 8 (zI 1) (zzw ?_)))))
     refine ⟨_, ?_, _, by exact zzu _ _ _, .inr ⟨1, [[(z15 : Int), (z15 : Int), 0, (z38 : Int) - 2]], cs63, c63, rfl, by omega, by omega, by simp, hc63, by omega, hb63, hd63r, rfl, (e11.trans (e14.trans (g18.ext.trans (e20.trans (g22.ext.trans (e25.trans (g29.ext.trans (e32.trans (g34.ext.trans (e37.trans (g41.ext.trans (e43.trans (g45.ext.trans (e48.trans (g54.ext.trans e61))))))))))))))), (Nt.shC_snoc (L := []) Nt.shC_nil (Nt.shC_mk xq xq xq xq xq xq xq))⟩⟩
     omega
    ·replace hb58 : (((z38 : Int) - 2) == (-2)) = false := hb58
     have qhb58 : ¬ ((z38 : Int) - 2) = (-2) := by simpa using hb58
     refine zzr (zzo ?_)
     refine zzf (zza 67 (.v (.slice none 0 0)) (zzh 68 (.v (.agg #[.int .i64 z15, .int .i64 g31, .int .i64 0, .int .i64 ((z38 : Int) - 2)])) ty90 zze (zxw 69 ⟨90, [.int .i64 z15, .int .i64 g31, .int .i64 0, .int .i64 ((z38 : Int) - 2)]⟩ 1 (fun b64 u65 e66 h67 => ?_))))
     refine sy_app0 70 (T := 64) (E := 90) (z := .agg #[.int .i64 0, .int .i64 0, .int .i64 0, .int .i64 0]) (size := 4) (bytes := 32) (b := b64) (off := 0) (m := 1) [.int .i64 z15, .int .i64 g31, .int .i64 0, .int .i64 ((z38 : Int) - 2)] xj xj xj xw rfl (lit_news ((Ext.refl _).cells h67)) (ics_one (p := [(z15 : Int), (g31 : Int), 0, (z38 : Int) - 2])) xw xw xw ?_
     intro c68 cs68 ha68 hb68 hc68 hd68
     have hd68r : cs68.take (1 * 4) = kcs ([[(z15 : Int), (g31 : Int), 0, (z38 : Int) - 2]]) := hd68
     refine zza 7 (.slc 70 0 1 c68) (zzw ?_)
     refine zzo (zzf (zza 20 (zI 0) (zza 21 (zI 1) (zza 8 (zI 1) (zzw ?_)))))
     refine ⟨_, ?_, _, by exact zzu _ _ _, .inr ⟨1, [[(z15 : Int), (g31 : Int), 0, (z38 : Int) - 2]], cs68, c68, rfl, by omega, by omega, by simp, hc68, by omega, hb68, hd68r, rfl, (e11.trans (e14.trans (g18.ext.trans (e20.trans (g22.ext.trans (e25.trans (g29.ext.trans (e32.trans (g34.ext.trans (e37.trans (g41.ext.trans (e43.trans (g45.ext.trans (e48.trans (g54.ext.trans e66))))))))))))))), (Nt.shC_snoc (L := []) Nt.shC_nil (Nt.shC_mk xq xq xq xq xq xq xq))⟩⟩
     omega
   ·replace hb57 : (decide (((z38 : Int) - 2) < 0)) = false := hb57
    have qhb57 := of_decide_eq_false hb57
    refine zzr (zzo ?_)
    refine zzd (sq9 (zza 62 (.adr 10 3) (zzh 63 (zI ((z38 : Int) - 2)) ty3 zzk (zza 64 (zB (((z38 : Int) - 2) == (-2))) (zzb (zzt (b := ((z38 : Int) - 2) == (-2)) xj (fun hb69 => ?_) (fun hb69 => ?_)))))))
    ·replace hb69 : (((z38 : Int) - 2) == (-2)) = true := hb69
     have qhb69 : ((z38 : Int) - 2) = (-2) := by simpa using hb69
     refine zzf (zza 65 (zI z15) (zza 66 (.adr 10 1) (zzi ⟨90, [.int .i64 z15, .int .i64 z15, .int .i64 cz, .int .i64 ((z38 : Int) - 2)]⟩ ty3 ?_)))
     refine zzb (zzf (zza 67 (.v (.slice none 0 0)) (zzh 68 (.v (.agg #[.int .i64 z15, .int .i64 z15, .int .i64 cz, .int .i64 ((z38 : Int) - 2)])) ty90 zze (zxw 69 ⟨90, [.int .i64 z15, .int .i64 z15, .int .i64 cz, .int .i64 ((z38 : Int) - 2)]⟩ 1 (fun b70 u71 e72 h73 => ?_)))))
     refine sy_app0 70 (T := 64) (E := 90) (z := .agg #[.int .i64 0, .int .i64 0, .int .i64 0, .int .i64 0]) (size := 4) (bytes := 32) (b := b70) (off := 0) (m := 1) [.int .i64 z15, .int .i64 z15, .int .i64 cz, .int .i64 ((z38 : Int) - 2)] xj xj xj xw rfl (lit_news ((Ext.refl _).cells h73)) (ics_one (p := [(z15 : Int), (z15 : Int), cz, (z38 : Int) - 2])) xw xw xw ?_
     intro c74 cs74 ha74 hb74 hc74 hd74
     have hd74r : cs74.take (1 * 4) = kcs ([[(z15 : Int), (z15 : Int), cz, (z38 : Int) - 2]]) := hd74
     refine zza 7 (.slc 70 0 1 c74) (zzw ?_)
     refine zzo (zzf (zza 20 (zI 0) (zza 21 (zI 1) (zza 8 (zI 1) (zzw ?_)))))
     refine ⟨_, ?_, _, by exact zzu _ _ _, .inr ⟨1, [[(z15 : Int), (z15 : Int), cz, (z38 : Int) - 2]], cs74, c74, rfl, by omega, by omega, by simp, hc74, by omega, hb74, hd74r, rfl, (e11.trans (e14.trans (g18.ext.trans (e20.trans (g22.ext.trans (e25.trans (g29.ext.trans (e32.trans (g34.ext.trans (e37.trans (g41.ext.trans (e43.trans (g45.ext.trans (e48.trans (g54.ext.trans e72))))))))))))))), (Nt.shC_snoc (L := []) Nt.shC_nil (Nt.shC_mk xq xq xq xq xq xq xq))⟩⟩
     omega
    ·replace hb69 : (((z38 : Int) - 2) == (-2)) = false := hb69
     have qhb69 : ¬ ((z38 : Int) - 2) = (-2) := by simpa using hb69
     refine zzr (zzo ?_)
     refine zzf (zza 67 (.v (.slice none 0 0)) (zzh 68 (.v (.agg #[.int .i64 z15, .int .i64 g31, .int .i64 cz, .int .i64 ((z38 : Int) - 2)])) ty90 zze (zxw 69 ⟨90, [.int .i64 z15, .int .i64 g31, .int .i64 cz, .int .i64 ((z38 : Int) - 2)]⟩ 1 (fun b75 u76 e77 h78 => ?_))))
     refine sy_app0 70 (T := 64) (E := 90) (z := .agg #[.int .i64 0, .int .i64 0, .int .i64 0, .int .i64 0]) (size := 4) (bytes := 32) (b := b75) (off := 0) (m := 1) [.int .i64 z15, .int .i64 g31, .int .i64 cz, .int .i64 ((z38 : Int) - 2)] xj xj xj xw rfl (lit_news ((Ext.refl _).cells h78)) (ics_one (p := [(z15 : Int), (g31 : Int), cz, (z38 : Int) - 2])) xw xw xw ?_
     intro c79 cs79 ha79 hb79 hc79 hd79
     have hd79r : cs79.take (1 * 4) = kcs ([[(z15 : Int), (g31 : Int), cz, (z38 : Int) - 2]]) := hd79
     refine zza 7 (.slc 70 0 1 c79) (zzw ?_)
     refine zzo (zzf (zza 20 (zI 0) (zza 21 (zI 1) (zza 8 (zI 1) (zzw ?_)))))
     refine ⟨_, ?_, _, by exact zzu _ _ _, .inr ⟨1, [[(z15 : Int), (g31 : Int), cz, (z38 : Int) - 2]], cs79, c79, rfl, by omega, by omega, by simp, hc79, by omega, hb79, hd79r, rfl, (e11.trans (e14.trans (g18.ext.trans (e20.trans (g22.ext.trans (e25.trans (g29.ext.trans (e32.trans (g34.ext.trans (e37.trans (g41.ext.trans (e43.trans (g45.ext.trans (e48.trans (g54.ext.trans e77))))))))))))))), (Nt.shC_snoc (L := []) Nt.shC_nil (Nt.shC_mk xq xq xq xq xq xq xq))⟩⟩
     omega
  ·refine zyp 16 (x := zB (decide ((0 : Int) < (x1.n : Int)))) (zB false) (by rw [hs12]) ?_
   have qhs12 := of_decide_eq_false hs12
   refine zzm 17 (uw 5 true false 16) (zzm 18 (uw 5 true false 16) (zza 19 (zB false) (zzb (zyr xj (zyb (zzo (zzd ?_)))))))
   have hp80 : IrV 4 u11 sl0 [] := ⟨rows_nil, rfl, Nat.le_refl _, Nat.zero_le _, fun h => absurd h (Nat.lt_irrefl 0)⟩
   refine zzf (zza 71 (.v (.slice none 0 0)) (zza 6 (.v (.slice none 0 0)) (zzb (zzn (ret0 [.slice none 0 0] ⟨zzp, trivial⟩ fun u81 e82 => ?_)))))
   exact ⟨⟨none, 0, 0⟩, [], rfl, (hp80.ext e82), by first | (show 0 ≤ 12; decide) | omega, Nt.shC_nil⟩
 ·change SW _ _ _ _ (St.of 72 [(1, .v (.int .i64 (n : Int))), (2, .v (.int .i64 b)), (3, .adr 3 0), (7, .slc 70 0 i cp), (8, .v (.int .i64 (i : Int)))] [(3, ⟨63, [.slice x1.a x1.n x1.c, .slice x2.a x2.n x2.c, .slice x3.a x3.n x3.c, .slice x4.a x4.n x4.c]⟩), (70, ⟨90, cs⟩)]) _ _
  refine zzd (sq9 (zza 11 (zI i) (zza 12 (.adr 3 0) (zzh 13 (.v x1.v) ty30 zzk (zza 14 (zI x1.n) (zza 15 (zB (decide ((i : Int) < (x1.n : Int)))) ?_))))))
  rcases Bool.eq_false_or_eq_true (decide ((i : Int) < (x1.n : Int))) with hs83 | hs83
  ·refine zyp 16 (x := zB (decide ((i : Int) < (x1.n : Int)))) (zB true) (by rw [hs83]) ?_
   have qhs83 := of_decide_eq_true hs83
   refine zza 17 (zI i) ?_ (hw := w1 5 true 16)
   refine zza 18 (zB (decide ((i : Int) < 12))) ?_ (hw := w1 5 true 16)
   refine zza 19 (zB (decide ((i : Int) < 12))) (zzb (zzt (b := decide ((i : Int) < 12)) xj (fun hb84 => ?_) (fun hb84 => ?_)))
   ·replace hb84 : (decide ((i : Int) < 12)) = true := hb84
    have qhb84 := of_decide_eq_true hb84
    refine zzr (zzo ?_)
    refine zzd (zzs (sq9 (zza 22 (.adr 3 0) (zzh 23 (.v x1.v) ty30 zzk (zza 24 (zI i) ?_)))))
    have hl85 := ((hx1.ext e11)).1
    obtain ⟨b85, o85, hA85, hc85⟩ := ints_at (hx1.ext e11) (i := i) xq
    have hz85 := ints_bd hb1 xq i
    refine zzz 25 (o85 + i * 1) (n := x1.n) (off := o85) (sz := 1) (i := (i : Int)) xq hA85 xq xq sl30 (zyk 26 (.int .i64 (l1.getD i 0)) hc85 ty3 (zza 27 (zI n) (zzg 28 45 [.int .i64 (l1.getD i 0), .int .i64 n] ?_)))
    intro w86 u86 e86 d86
    have k91 := (show Calls _ _ #[.int .i64 (l1.getD i 0), .int .i64 (n : Int)] _ _ from k_withinN (n := (l1.getD i 0)) (m := (n : Int)) d86 xq xq xq xq)
    with_reducible refine zPm k91 ?_
    rintro _ u89 g90 ⟨z87, rfl, h88⟩
    refine zza 9 (zI z87) (zzb (zzd (zzy [0, 0, 2, 0, 8, 0, 56, 0, 128, 504, 1022, 0, 4094, 0, 8192, 0, 58360, 123896, 254968, 0, 0, 1048576, 0, 7595000, 15983608, 33285112, 66839544, 133948408, 268435455, 0, 1073741823] [(0, []), (1, []), (2, []), (3, []), (4, []), (5, []), (7, []), (8, []), (11, []), (13, []), (14, []), (15, []), (19, []), (20, []), (21, []), (22, []), (29, []), (6, []), (9, []), (10, []), (12, []), (16, []), (17, []), (18, []), (23, []), (24, []), (25, [53]), (26, []), (27, []), (28, []), (30, [])] xj xj (zza 29 (zI z87) (zza 30 (zI z87) (zyp 31 (x := zI (IntKind.i64.wrap ((z87 : Int) + 1))) (zI (z87 + 1 : Nat)) (eqI xz) (zza 32 (.adr 3 1) (zzh 33 (.v x2.v) ty30 zzk (zza 34 (zI i) (zza 36 (zI n) (zyp 37 (x := zI (IntKind.i64.wrap ((n : Int) - 1))) (zI (n - 1 : Nat)) (eqI xz) ?_)))))))))))
    refine zza 40 (zI n) (zza 42 (.adr 3 3) (zzh 43 (.v x4.v) ty30 zzk (zza 44 (zI i) (zza 48 (zI b) (zza 49 (.adr 3 2) (zzh 50 (.v x3.v) ty30 zzk (zza 51 (zI i) (zzj 10 ⟨90, [.int .i64 0, .int .i64 0, .int .i64 0, .int .i64 0]⟩ (zzg 35 48 [x2.v, .int .i64 i] ?_)))))))))
    intro w92 u92 e92 d92
    have k95 := (show Calls _ _ #[_, .int .i64 (i : Int)] _ _ from k_wat (x := x2) (i := i) d92 (hx2.ext (e11.trans (e86.trans (g90.ext.trans e92)))) hb2 xq)
    with_reducible refine zPm k95 ?_
    rintro _ u93 g94 rfl
    have hz96 := ints_bd hb2 xq i
    refine zzg 38 45 [.int .i64 (l2.getD i 0), .int .i64 (n - 1 : Nat)] ?_
    intro w97 u97 e97 d97
    have k102 := (show Calls _ _ #[.int .i64 (l2.getD i 0), .int .i64 ((n - 1 : Nat) : Int)] _ _ from k_withinN (n := (l2.getD i 0)) (m := ((n - 1 : Nat) : Int)) d97 xq xq xq xq)
    with_reducible refine zPm k102 ?_
    rintro _ u100 g101 ⟨z98, rfl, h99⟩
    refine zyp 39 (x := zI (IntKind.i64.wrap (((z87 + 1 : Nat) : Int) + (z98 : Int)))) (zI (((z87 + 1) + z98 : Nat) : Int)) (eqI xz) ?_
    have hog103 := Nt.from_ok (n := n) (t := z87) (f := z98) xq xq
    obtain ⟨g103, hgg103⟩ : ∃ g, (z87 + 1 + z98) % n = g := ⟨_, rfl⟩
    rw [hgg103] at hog103
    refine sy_rem 41 (n := (((z87 + 1) + z98 : Nat) : Int)) (m := (n : Int)) ((g103 : Nat) : Int) xq (by rw [Int.tmod_eq_emod_of_nonneg xq, ← hgg103, Int.natCast_emod]) ?_
    refine zzg 45 48 [x4.v, .int .i64 i] ?_
    intro w104 u104 e104 d104
    have k107 := (show Calls _ _ #[_, .int .i64 (i : Int)] _ _ from k_wat (x := x4) (i := i) d104 (hx4.ext (e11.trans (e86.trans (g90.ext.trans (e92.trans (g94.ext.trans (e97.trans (g101.ext.trans e104)))))))) hb4 xq)
    with_reducible refine zPm k107 ?_
    rintro _ u105 g106 rfl
    have hz108 := ints_bd hb4 xq i
    refine zzg 46 45 [.int .i64 (l4.getD i 0), .int .i64 10] ?_
    intro w109 u109 e109 d109
    have k114 := (show Calls _ _ #[.int .i64 (l4.getD i 0), .int .i64 10] _ _ from k_withinN (n := (l4.getD i 0)) (m := 10) d109 xq xq xq xq)
    with_reducible refine zPm k114 ?_
    rintro _ u112 g113 ⟨z110, rfl, h111⟩
    refine zyp 47 (x := zI (IntKind.i64.wrap ((z110 : Int) - 2))) (zI ((z110 : Int) - 2)) yq (zzg 52 48 [x3.v, .int .i64 i] ?_)
    intro w115 u115 e115 d115
    have k118 := (show Calls _ _ #[_, .int .i64 (i : Int)] _ _ from k_wat (x := x3) (i := i) d115 (hx3.ext (e11.trans (e86.trans (g90.ext.trans (e92.trans (g94.ext.trans (e97.trans (g101.ext.trans (e104.trans (g106.ext.trans (e109.trans (g113.ext.trans e115)))))))))))) hb3 xq)
    with_reducible refine zPm k118 ?_
    rintro _ u116 g117 rfl
    have hz119 := ints_bd hb3 xq i
    refine sy_lit 53 ⟨3, [.int .i64 (l3.getD i 0)]⟩ 1 ?_
    refine zyn 54 55 [.v (.int .i64 b), .slc 53 0 1 1, zI 1] [53] (.inr rfl) (pub_mk xk) (k := ?_)
    intro B120 w120 u120 e120 d120 v120
    have h122 : u120.heap[B120 53]? = some (.cells #[.int .i64 (l3.getD i 0)] 3 (0, 0)) := v120 53 (by simp) _ rfl
    obtain ⟨b121, hBb121⟩ : ∃ b, B120 53 = b := ⟨_, rfl⟩
    rw [hBb121] at h122
    have hp123 : SlR .i64 u120 ((⟨some ⟨b121, 0, none⟩, 1, 1⟩ : Sl)).a ((⟨some ⟨b121, 0, none⟩, 1, 1⟩ : Sl)).n ((⟨some ⟨b121, 0, none⟩, 1, 1⟩ : Sl)).c [(l3.getD i 0)] := ints_data h122 rfl rfl (Nat.le_refl _) (by show 1 ≤ maxLen; unfold maxLen; omega)
    show Calls _ _ #[.int .i64 b, .slice (some ⟨B120 53, 0, none⟩) 1 1, .int .i64 1] _ _
    rw [hBb121]
    have k127 := (show Calls _ _ #[.int .i64 b, .slice (⟨some ⟨b121, 0, none⟩, 1, 1⟩ : Sl).a (⟨some ⟨b121, 0, none⟩, 1, 1⟩ : Sl).n (⟨some ⟨b121, 0, none⟩, 1, 1⟩ : Sl).c, .int .i64 1] _ _ from k_belowN (x := (⟨some ⟨b121, 0, none⟩, 1, 1⟩ : Sl)) (b := b) (n := 1) d120 hp123 (bd_one xq) xq xq xq)
    with_reducible refine zPm k127 ?_
    rintro _ u125 g126 ⟨y124, m124, rfl, hln124, hs124, hal124⟩
    have hly124 : m124.length = y124.n := hs124.1
    have hl128 := (hs124).1
    obtain ⟨b128, o128, hA128, hc128⟩ := ints_at hs124 (i := 0) xq
    have hz128 := ints_bd hal124 xq 0
    refine zzz 55 (o128 + 0 * 1) (n := y124.n) (off := o128) (sz := 1) (i := 0) xq hA128 xq xq sl30 (zyk 56 (.int .i64 (m124.getD 0 0)) hc128 ty3 (zza 57 (.v (.agg #[.int .i64 z87, .int .i64 g103, .int .i64 (m124.getD 0 0), .int .i64 ((z110 : Int) - 2)])) (zzi ⟨90, [.int .i64 z87, .int .i64 g103, .int .i64 (m124.getD 0 0), .int .i64 ((z110 : Int) - 2)]⟩ ty90 ?_)))
    refine zzc 72 [(1, zI n), (2, zI b), (3, .adr 3 0), (7, .slc 70 0 i cp), (8, zI i), (9, zI z87), (10, .adr 10 0)] [(3, ⟨63, [x1.v, x2.v, x3.v, x4.v]⟩), (10, ⟨90, [.int .i64 z87, .int .i64 g103, .int .i64 (m124.getD 0 0), .int .i64 ((z110 : Int) - 2)]⟩), (70, ⟨90, cs⟩)] (zzd (zzd ?_))
    have hcf := ints_bd hal124 xq 0
    obtain ⟨cz, hcz⟩ : ∃ z, m124.getD 0 0 = z := ⟨_, rfl⟩
    rw [hcz] at hcf ⊢
    refine zzf (zza 58 (.adr 10 3) (zzh 59 (zI ((z110 : Int) - 2)) ty3 zzk (zza 60 (zB (decide (((z110 : Int) - 2) < 0))) (zzb (zzt (b := decide (((z110 : Int) - 2) < 0)) xj (fun hb129 => ?_) (fun hb129 => ?_))))))
    ·replace hb129 : (decide (((z110 : Int) - 2) < 0)) = true := hb129
     have qhb129 := of_decide_eq_true hb129
     refine zzf (zza 61 (.adr 10 2) (zzi ⟨90, [.int .i64 z87, .int .i64 g103, .int .i64 0, .int .i64 ((z110 : Int) - 2)]⟩ ty3 ?_))
     refine zzb (zzd (sq9 (zza 62 (.adr 10 3) (zzh 63 (zI ((z110 : Int) - 2)) ty3 zzk (zza 64 (zB (((z110 : Int) - 2) == (-2))) (zzb (zzt (b := ((z110 : Int) - 2) == (-2)) xj (fun hb130 => ?_) (fun hb130 => ?_))))))))
     ·replace hb130 : (((z110 : Int) - 2) == (-2)) = true := hb130
      have qhb130 : ((z110 : Int) - 2) = (-2) := by simpa using hb130
      refine zzf (zza 65 (zI z87) (zza 66 (.adr 10 1) (zzi ⟨90, [.int .i64 z87, .int .i64 z87, .int .i64 0, .int .i64 ((z110 : Int) - 2)]⟩ ty3 ?_)))
      refine zzb (zzf (zza 67 (.slc 70 0 i cp) (zzh 68 (.v (.agg #[.int .i64 z87, .int .i64 z87, .int .i64 0, .int .i64 ((z110 : Int) - 2)])) ty90 zze (zxw 69 ⟨90, [.int .i64 z87, .int .i64 z87, .int .i64 0, .int .i64 ((z110 : Int) - 2)]⟩ 1 (fun b131 u132 e133 h134 => ?_)))))
      refine sy_app1 70 (T := 64) (E := 90) (z := .agg #[.int .i64 0, .int .i64 0, .int .i64 0, .int .i64 0]) (size := 4) (bytes := 32) (b := b131) (off := 0) (m := 1) (n := i) (cap := cp) (t := 70) (cs0 := cs) [7, 67, 70] [.int .i64 z87, .int .i64 z87, .int .i64 0, .int .i64 ((z110 : Int) - 2)] xj xj xj xw rfl (lit_news ((Ext.refl _).cells h134)) (ics_one (p := [(z87 : Int), (z87 : Int), 0, (z110 : Int) - 2])) xw yv xq xq xq xq xk ?_
      intro c135 cs135 ha135 hb135 hc135 hd135
      have hd135r : cs135.take ((i + 1) * 4) = kcs (L ++ [[(z87 : Int), (z87 : Int), 0, (z110 : Int) - 2]]) := by rw [hd135, ht, kcs_app]; rfl
      refine zza 7 (.slc 70 0 (i + 1) c135) (zzw ?_)
      refine zzo (zzf (zza 20 (zI i) (zyp 21 (x := zI (IntKind.i64.wrap ((i : Int) + 1))) (zI (i + 1 : Nat)) (eqI xz) (zza 8 (zI (i + 1 : Nat)) (zzw ?_)))))
      refine ⟨_, ?_, _, by exact zzu _ _ _, .inr ⟨i + 1, L ++ [[(z87 : Int), (z87 : Int), 0, (z110 : Int) - 2]], cs135, c135, rfl, by omega, by omega, by simp; omega, hc135, by omega, hb135, hd135r, rfl, (e11.trans (e86.trans (g90.ext.trans (e92.trans (g94.ext.trans (e97.trans (g101.ext.trans (e104.trans (g106.ext.trans (e109.trans (g113.ext.trans (e115.trans (g117.ext.trans (e120.trans (g126.ext.trans e133))))))))))))))), (Nt.shC_snoc (L := L) hP (Nt.shC_mk xq xq xq xq xq xq xq))⟩⟩
      omega
     ·replace hb130 : (((z110 : Int) - 2) == (-2)) = false := hb130
      have qhb130 : ¬ ((z110 : Int) - 2) = (-2) := by simpa using hb130
      refine zzr (zzo ?_)
      refine zzf (zza 67 (.slc 70 0 i cp) (zzh 68 (.v (.agg #[.int .i64 z87, .int .i64 g103, .int .i64 0, .int .i64 ((z110 : Int) - 2)])) ty90 zze (zxw 69 ⟨90, [.int .i64 z87, .int .i64 g103, .int .i64 0, .int .i64 ((z110 : Int) - 2)]⟩ 1 (fun b136 u137 e138 h139 => ?_))))
      refine sy_app1 70 (T := 64) (E := 90) (z := .agg #[.int .i64 0, .int .i64 0, .int .i64 0, .int .i64 0]) (size := 4) (bytes := 32) (b := b136) (off := 0) (m := 1) (n := i) (cap := cp) (t := 70) (cs0 := cs) [7, 67, 70] [.int .i64 z87, .int .i64 g103, .int .i64 0, .int .i64 ((z110 : Int) - 2)] xj xj xj xw rfl (lit_news ((Ext.refl _).cells h139)) (ics_one (p := [(z87 : Int), (g103 : Int), 0, (z110 : Int) - 2])) xw yv xq xq xq xq xk ?_
      intro c140 cs140 ha140 hb140 hc140 hd140
      have hd140r : cs140.take ((i + 1) * 4) = kcs (L ++ [[(z87 : Int), (g103 : Int), 0, (z110 : Int) - 2]]) := by rw [hd140, ht, kcs_app]; rfl
      refine zza 7 (.slc 70 0 (i + 1) c140) (zzw ?_)
      refine zzo (zzf (zza 20 (zI i) (zyp 21 (x := zI (IntKind.i64.wrap ((i : Int) + 1))) (zI (i + 1 : Nat)) (eqI xz) (zza 8 (zI (i + 1 : Nat)) (zzw ?_)))))
      refine ⟨_, ?_, _, by exact zzu _ _ _, .inr ⟨i + 1, L ++ [[(z87 : Int), (g103 : Int), 0, (z110 : Int) - 2]], cs140, c140, rfl, by omega, by omega, by simp; omega, hc140, by omega, hb140, hd140r, rfl, (e11.trans (e86.trans (g90.ext.trans (e92.trans (g94.ext.trans (e97.trans (g101.ext.trans (e104.trans (g106.ext.trans (e109.trans (g113.ext.trans (e115.trans (g117.ext.trans (e120.trans (g126.ext.trans e138))))))))))))))), (Nt.shC_snoc (L := L) hP (Nt.shC_mk xq xq xq xq xq xq xq))⟩⟩
      omega
    ·replace hb129 : (decide (((z110 : Int) - 2) < 0)) = false := hb129
     have qhb129 := of_decide_eq_false hb129
     refine zzr (zzo ?_)
     refine zzd (sq9 (zza 62 (.adr 10 3) (zzh 63 (zI ((z110 : Int) - 2)) ty3 zzk (zza 64 (zB (((z110 : Int) - 2) == (-2))) (zzb (zzt (b := ((z110 : Int) - 2) == (-2)) xj (fun hb141 => ?_) (fun hb141 => ?_)))))))
     ·replace hb141 : (((z110 : Int) - 2) == (-2)) = true := hb141
      have qhb141 : ((z110 : Int) - 2) = (-2) := by simpa using hb141
      refine zzf (zza 65 (zI z87) (zza 66 (.adr 10 1) (zzi ⟨90, [.int .i64 z87, .int .i64 z87, .int .i64 cz, .int .i64 ((z110 : Int) - 2)]⟩ ty3 ?_)))
      refine zzb (zzf (zza 67 (.slc 70 0 i cp) (zzh 68 (.v (.agg #[.int .i64 z87, .int .i64 z87, .int .i64 cz, .int .i64 ((z110 : Int) - 2)])) ty90 zze (zxw 69 ⟨90, [.int .i64 z87, .int .i64 z87, .int .i64 cz, .int .i64 ((z110 : Int) - 2)]⟩ 1 (fun b142 u143 e144 h145 => ?_)))))
      refine sy_app1 70 (T := 64) (E := 90) (z := .agg #[.int .i64 0, .int .i64 0, .int .i64 0, .int .i64 0]) (size := 4) (bytes := 32) (b := b142) (off := 0) (m := 1) (n := i) (cap := cp) (t := 70) (cs0 := cs) [7, 67, 70] [.int .i64 z87, .int .i64 z87, .int .i64 cz, .int .i64 ((z110 : Int) - 2)] xj xj xj xw rfl (lit_news ((Ext.refl _).cells h145)) (ics_one (p := [(z87 : Int), (z87 : Int), cz, (z110 : Int) - 2])) xw yv xq xq xq xq xk ?_
      intro c146 cs146 ha146 hb146 hc146 hd146
      have hd146r : cs146.take ((i + 1) * 4) = kcs (L ++ [[(z87 : Int), (z87 : Int), cz, (z110 : Int) - 2]]) := by rw [hd146, ht, kcs_app]; rfl
      refine zza 7 (.slc 70 0 (i + 1) c146) (zzw ?_)
      refine zzo (zzf (zza 20 (zI i) (zyp 21 (x := zI (IntKind.i64.wrap ((i : Int) + 1))) (zI (i + 1 : Nat)) (eqI xz) (zza 8 (zI (i + 1 : Nat)) (zzw ?_)))))
      refine ⟨_, ?_, _, by exact zzu _ _ _, .inr ⟨i + 1, L ++ [[(z87 : Int), (z87 : Int), cz, (z110 : Int) - 2]], cs146, c146, rfl, by omega, by omega, by simp; omega, hc146, by omega, hb146, hd146r, rfl, (e11.trans (e86.trans (g90.ext.trans (e92.trans (g94.ext.trans (e97.trans (g101.ext.trans (e104.trans (g106.ext.trans (e109.trans (g113.ext.trans (e115.trans (g117.ext.trans (e120.trans (g126.ext.trans e144))))))))))))))), (Nt.shC_snoc (L := L) hP (Nt.shC_mk xq xq xq xq xq xq xq))⟩⟩
      omega
     ·replace hb141 : (((z110 : Int) - 2) == (-2)) = false := hb141
      have qhb141 : ¬ ((z110 : Int) - 2) = (-2) := by simpa using hb141
      refine zzr (zzo ?_)
      refine zzf (zza 67 (.slc 70 0 i cp) (zzh 68 (.v (.agg #[.int .i64 z87, .int .i64 g103, .int .i64 cz, .int .i64 ((z110 : Int) - 2)])) ty90 zze (zxw 69 ⟨90, [.int .i64 z87, .int .i64 g103, .int .i64 cz, .int .i64 ((z110 : Int) - 2)]⟩ 1 (fun b147 u148 e149 h150 => ?_))))
      refine sy_app1 70 (T := 64) (E := 90) (z := .agg #[.int .i64 0, .int .i64 0, .int .i64 0, .int .i64 0]) (size := 4) (bytes := 32) (b := b147) (off := 0) (m := 1) (n := i) (cap := cp) (t := 70) (cs0 := cs) [7, 67, 70] [.int .i64 z87, .int .i64 g103, .int .i64 cz, .int .i64 ((z110 : Int) - 2)] xj xj xj xw rfl (lit_news ((Ext.refl _).cells h150)) (ics_one (p := [(z87 : Int), (g103 : Int), cz, (z110 : Int) - 2])) xw yv xq xq xq xq xk ?_
      intro c151 cs151 ha151 hb151 hc151 hd151
      have hd151r : cs151.take ((i + 1) * 4) = kcs (L ++ [[(z87 : Int), (g103 : Int), cz, (z110 : Int) - 2]]) := by rw [hd151, ht, kcs_app]; rfl
      refine zza 7 (.slc 70 0 (i + 1) c151) (zzw ?_)
      refine zzo (zzf (zza 20 (zI i) (zyp 21 (x := zI (IntKind.i64.wrap ((i : Int) + 1))) (zI (i + 1 : Nat)) (eqI xz) (zza 8 (zI (i + 1 : Nat)) (zzw ?_)))))
      refine ⟨_, ?_, _, by exact zzu _ _ _, .inr ⟨i + 1, L ++ [[(z87 : Int), (g103 : Int), cz, (z110 : Int) - 2]], cs151, c151, rfl, by omega, by omega, by simp; omega, hc151, by omega, hb151, hd151r, rfl, (e11.trans (e86.trans (g90.ext.trans (e92.trans (g94.ext.trans (e97.trans (g101.ext.trans (e104.trans (g106.ext.trans (e109.trans (g113.ext.trans (e115.trans (g117.ext.trans (e120.trans (g126.ext.trans e149))))))))))))))), (Nt.shC_snoc (L := L) hP (Nt.shC_mk xq xq xq xq xq xq xq))⟩⟩
      omega
   ·replace hb84 : (decide ((i : Int) < 12)) = false := hb84
    have qhb84 := of_decide_eq_false hb84
    refine zyb (zzo (zzd (zyo (r := 7) (t := 70) [7, 70] xk xj (by rfl) (by rfl) xj (fun b152 u153 e154 hb155 hh156 => ?_))))
    have hp157 : IrV 4 u153 ⟨some ⟨b152, 0, none⟩, i, cp⟩ L := ir_data hh156 (fun p hp => (hP p hp).1) ht xq hc hle hmx
    refine zzf (zza 71 (.v (.slice (some ⟨b152, 0, none⟩) i cp)) (zza 6 (.v (.slice (some ⟨b152, 0, none⟩) i cp)) (zzb (zzn (ret0 [.slice (some ⟨b152, 0, none⟩) i cp] ⟨zzp, trivial⟩ fun u158 e159 => ?_)))))
    exact ⟨(⟨some ⟨b152, 0, none⟩, i, cp⟩ : Sl), L, rfl, (hp157.ext e159), by first | (show 0 ≤ 12; decide) | omega, hP⟩
  ·refine zyp 16 (x := zB (decide ((i : Int) < (x1.n : Int)))) (zB false) (by rw [hs83]) ?_
   have qhs83 := of_decide_eq_false hs83
   refine zzm 17 (uw 5 true false 16) (zzm 18 (uw 5 true false 16) (zza 19 (zB false) (zzb (zyr xj (zyb (zzo (zzd (zyo (r := 7) (t := 70) [7, 70] xk xj (by rfl) (by rfl) xj (fun b160 u161 e162 hb163 hh164 => ?_)))))))))
   have hp165 : IrV 4 u161 ⟨some ⟨b160, 0, none⟩, i, cp⟩ L := ir_data hh164 (fun p hp => (hP p hp).1) ht xq hc hle hmx
   refine zzf (zza 71 (.v (.slice (some ⟨b160, 0, none⟩) i cp)) (zza 6 (.v (.slice (some ⟨b160, 0, none⟩) i cp)) (zzb (zzn (ret0 [.slice (some ⟨b160, 0, none⟩) i cp] ⟨zzp, trivial⟩ fun u166 e167 => ?_)))))
   exact ⟨(⟨some ⟨b160, 0, none⟩, i, cp⟩ : Sl), L, rfl, (hp165.ext e167), by first | (show 0 ≤ 12; decide) | omega, hP⟩
theorem k_factor {u w : World} {t f cf sh : Int} (d : Dat u w) (h0 : 0 ≤ sh) (h1 : sh ≤ 20) (hc0 : -2097152 ≤ cf) (hc1 : cf ≤ 2097152) : Calls Tryz.prog 125 #[.agg #[.int .i64 t, .int .i64 f, .int .i64 cf, .int .i64 sh]] w (Post u w fun v u' => ∃ r : RL, v = r.v ∧ RatN u' r (Nt.wq cf sh) 2) := by
 have hp1 := Nt.zxo sh
 have hp2 := Nt.p2i_24 (n := sh) xq
 refine zzl (args := [.agg #[.int .i64 t, .int .i64 f, .int .i64 cf, .int .i64 sh]]) Tryz.func125 rfl Tryz.ntmps125 (rs := [.cell 2 26]) Tryz.results125 (le_b rfl) (le_b rfl) d ?_
 refine sq9 (zzj 1 ⟨90, [.int .i64 t, .int .i64 f, .int .i64 cf, .int .i64 sh]⟩ (zzj 2 ⟨26, [.bool false, .slice none 0 0, .slice none 0 0]⟩ (zzb (zzd (zzy [0, 1, 0, 4, 12, 31, 63] [(0, []), (1, []), (2, []), (3, []), (4, []), (5, []), (6, [])] xj xj (zza 3 (.adr 1 2) (zzh 4 (zI cf) ty3 zzk (zza 5 (.adr 1 3) (zzh 6 (zI sh) ty3 zzk (sy_shl 7 (k := .i64) (s := sh) (Nt.p2i sh) xq yz (shl_one xq xq) ?_))))))))))
 refine zzg 8 127 [.int .i64 cf, .int .i64 (Nt.p2i sh)] ?_
 intro w11 u11 e11 d11
 have k16 := k_ratFrac d11 (a := cf) (b := Nt.p2i sh) xq xq xq xq
 with_reducible refine zPm k16 ?_
 rintro _ u14 g15 ⟨r12, rfl, h13⟩
 refine zzi ⟨26, r12.cs⟩ ty26 ?_
 refine zzb (zzn (ret0 [r12.v] ⟨zzq ty26 zze, trivial⟩ fun u17 e18 => ?_))
 exact ⟨r12, rfl, (h13.ext e18)⟩
set_option maxHeartbeats 4000000 in
theorem k_combine {u w v0 : World} {x : Sl} {Rs : List Sl} {Ls : List (List RL)} {M : List (List Rat)} {t f n : Nat} {cf sh : Int} (d : Dat u w) (hv : Ext v0 u) (hm : MatQ 1 54 26 v0.heap.size u x Rs Ls) (hN : MatN u Ls M 100) (hq : Nt.Sq n M) (hn9 : n ≤ 64) (hs : Nt.shOK (n : Int) [(t : Int), (f : Int), cf, sh]) (hR : ∀ i j, Nt.rs (Nt.ent (Nt.cmb [(t : Int), (f : Int), cf, sh] M) i j) ≤ 100) : Calls Tryz.prog 119 #[x.v, .agg #[.int .i64 (t : Int), .int .i64 (f : Int), .int .i64 cf, .int .i64 sh]] w (PostF (mqB x Rs) u w fun v u' => v = .tuple #[] ∧ ∃ (Rs' : List Sl) (Ls' : List (List RL)), MatQ 1 54 26 v0.heap.size u' x Rs' Ls' ∧ MatN u' Ls' (Nt.cmb [(t : Int), (f : Int), cf, sh] M) 100) := by
 obtain ⟨h1, h2, h3, h4, h5, h6, h7, h8⟩ := Nt.shOK_mk hs
 have hMl := hq.1
 have hLl : Ls.length = n := hN.1.trans hMl
 have hRsl := hm.len
 have hxn : x.n = n := hm.rows.trans hLl
 obtain ⟨yt, hyt⟩ : ∃ y, Rs.getD t sl0 = y := ⟨_, rfl⟩
 have hrowt := hm.row t xq
 rw [hyt] at hrowt
 have hnt : yt.n = n := by rw [MutQ.rown hrowt, MatN.rowlen hN (by rw [hMl]; omega)]; exact hq.2 t xq
 obtain ⟨yf, hyf⟩ : ∃ y, Rs.getD f sl0 = y := ⟨_, rfl⟩
 have hrowf := hm.row f xq
 rw [hyf] at hrowf
 have hnf : yf.n = n := by rw [MutQ.rown hrowf, MatN.rowlen hN (by rw [hMl]; omega)]; exact hq.2 f xq
 refine calls_symF (F := mqB x Rs) (args := [.slice x.a x.n x.c, .agg #[.int .i64 (t : Int), .int .i64 (f : Int), .int .i64 cf, .int .i64 sh]]) Tryz.func119 rfl Tryz.ntmps119 (rs := []) Tryz.results119 (le_b rfl) (le_b rfl) d ?_
 refine sq9 (zzj 3 ⟨90, [.int .i64 t, .int .i64 f, .int .i64 cf, .int .i64 sh]⟩ (zzb (sq9 (zza 9 (.adr 3 3) (zzh 10 (zI sh) ty3 zzk (zzb (zzs (sq9 (zza 45 (zB (sh == (-1))) (zza 44 (zB (sh == (-1))) (zzb ?_)))))))))))
 refine zzt (b := sh == (-1)) xj (fun hb11 => ?_) (fun hb11 => ?_)
 ·replace hb11 : (sh == (-1)) = true := hb11
  have qhb11 : sh = (-1) := by simpa using hb11
  refine sw_anyX xj 20 rfl ?_
  refine takeX 3 49 19 (.v (.slice x.a x.n x.c)) #[false, false, false, true, false, false, false, false, false, false, false, false, false, false, false, false, false, false, false, false] ?_
  refine takeXa 4 50 18 3 0 1 #[false, false, false, true, true, false, false, false, false, false, false, false, false, false, false, false, false, false, false, false] ?_
  refine restX [0, 0, 2, 0, 0, 16, 0, 0, 128, 448, 960, 0, 0, 4096, 14336, 30720, 65479, 131015, 262143, 524287] [(0, []), (1, []), (2, []), (6, []), (7, []), (8, []), (9, []), (10, []), (11, []), (12, []), (13, []), (14, []), (15, []), (16, [])] [(5, [])] (17, []) [(18, []), (19, [])] xj ?_
  refine zza 46 (.v x.v) (zza 47 (.adr 3 0) (zzh 48 (zI t) ty3 zzk (zza 52 (.v x.v) (zza 53 (.adr 3 1) (zzh 54 (zI f) ty3 zzk ?_)))))
  obtain ⟨b12, hA12, hc12⟩ := MatQ.cell (i := f) hm xq
  refine zzz 55 (0 + f * 1) (n := x.n) (off := 0) (sz := 1) (i := (f : Int)) xq hA12 xq xq sl71 ?_
  rw [hyf] at hc12
  refine zyk 56 yf.v hc12 ty54 (zza 57 (.v x.v) (zza 58 (.adr 3 0) (zzh 59 (zI t) ty3 zzk ?_)))
  obtain ⟨b13, hA13, hc13⟩ := MatQ.cell (i := t) hm xq
  refine zzz 60 (0 + t * 1) (n := x.n) (off := 0) (sz := 1) (i := (t : Int)) xq hA13 xq xq sl71 ?_
  rw [hyt] at hc13
  refine zyk 61 yt.v hc13 ty54 ?_
  obtain ⟨b14, hA14, hc14⟩ := MatQ.cell (i := t) hm xq
  refine zzz 62 (0 + t * 1) (n := x.n) (off := 0) (sz := 1) (i := (t : Int)) xq hA14 xq xq sl71 (zzw ?_)
  refine exitsK_both ?_ ?_
  ·skip
   have hq15 := hm
   refine sy_storeQ (v := .slice yf.a yf.n yf.c) (off := 0 + t * 1) (n := 1) x (MatQ.out hq15) (fun a ha => .inr (mqB_x ha)) hA14 ty54 (by rw [List.length_map, MatQ.len hq15]; omega) (nu_sls [yf]) (fun u15 hm15 eX15 => ?_)
   have hn15 : MutQ 1 54 v0.heap.size u15 x ((Rs.set t yf).map Sl.v) := by rw [← setL_map (y := yf) (i := t) (by rw [MatQ.len hq15]; omega)]; exact hm15
   have eX15r := ExtX.root eX15 (MutQ.mutL (MatQ.out hq15)) hv
   refine zzh 51 (zI f) ty3 zzk ?_
   obtain ⟨b16, hA16, _⟩ := MatQ.cell (i := f) hq15 xq
   refine zzz 63 (0 + f * 1) (n := x.n) (off := 0) (sz := 1) (i := (f : Int)) xq hA16 xq xq sl71 (sy_storeQ (v := .slice yt.a yt.n yt.c) (off := 0 + f * 1) (n := 1) x hn15 (fun a ha => .inr (mqB_x ha)) hA16 ty54 (by rw [List.length_map, List.length_set, MatQ.len hq15]; omega) (nu_sls [yt]) (fun u17 hm17 eX17 => ?_))
   have hn17 : MutQ 1 54 v0.heap.size u17 x (((Rs.set t yf).set f yt).map Sl.v) := by rw [← setL_map (y := yt) (i := f) (by rw [List.length_set, MatQ.len hq15]; omega)]; exact hm17
   have eX17r := ExtX.root eX17 (MutQ.mutL hn15) eX15r
   have hW17 := MatQ.swap (p := t) (t := f) xw hq15 xq xq (by rw [hyt, hyf]; exact hn17) (ExtX.trans eX15 eX17)
   have hV17 := MatN.keep (MatN.swap (t := t) (f := f) hN (by rw [hq.1]; omega) (by rw [hq.1]; omega)) (MatQ.out hq15) (ExtX.trans eX15 eX17)
   refine zzw ?_
   refine ⟨[], [], trivial, (fun t h => by cases h), fun B u1 e1 _ => ⟨rfl, ?_⟩⟩
   refine ⟨_, _, (hW17).ext e1, ?_⟩
   rw [Nt.cmb_x qhb11]
   exact (hV17).ext e1
  ·skip
   refine zzh 51 (zI f) ty3 zzk (zzw ?_)
   refine exitsK_last ?_
   have hq18 := hm
   refine sy_storeQ (v := .slice yf.a yf.n yf.c) (off := 0 + t * 1) (n := 1) x (MatQ.out hq18) (fun a ha => .inr (mqB_x ha)) hA14 ty54 (by rw [List.length_map, MatQ.len hq18]; omega) (nu_sls [yf]) (fun u18 hm18 eX18 => ?_)
   have hn18 : MutQ 1 54 v0.heap.size u18 x ((Rs.set t yf).map Sl.v) := by rw [← setL_map (y := yf) (i := t) (by rw [MatQ.len hq18]; omega)]; exact hm18
   have eX18r := ExtX.root eX18 (MutQ.mutL (MatQ.out hq18)) hv
   obtain ⟨b19, hA19, _⟩ := MatQ.cell (i := f) hq18 xq
   refine zzz 63 (0 + f * 1) (n := x.n) (off := 0) (sz := 1) (i := (f : Int)) xq hA19 xq xq sl71 (sy_storeQ (v := .slice yt.a yt.n yt.c) (off := 0 + f * 1) (n := 1) x hn18 (fun a ha => .inr (mqB_x ha)) hA19 ty54 (by rw [List.length_map, List.length_set, MatQ.len hq18]; omega) (nu_sls [yt]) (fun u20 hm20 eX20 => ?_))
   have hn20 : MutQ 1 54 v0.heap.size u20 x (((Rs.set t yf).set f yt).map Sl.v) := by rw [← setL_map (y := yt) (i := f) (by rw [List.length_set, MatQ.len hq18]; omega)]; exact hm20
   have eX20r := ExtX.root eX20 (MutQ.mutL hn18) eX18r
   have hW20 := MatQ.swap (p := t) (t := f) xw hq18 xq xq (by rw [hyt, hyf]; exact hn20) (ExtX.trans eX18 eX20)
   have hV20 := MatN.keep (MatN.swap (t := t) (f := f) hN (by rw [hq.1]; omega) (by rw [hq.1]; omega)) (MatQ.out hq18) (ExtX.trans eX18 eX20)
   refine zzw ?_
   refine ⟨[], [], trivial, (fun t h => by cases h), fun B u1 e1 _ => ⟨rfl, ?_⟩⟩
   refine ⟨_, _, (hW20).ext e1, ?_⟩
   rw [Nt.cmb_x qhb11]
   exact (hV20).ext e1
 ·replace hb11 : (sh == (-1)) = false := hb11
  have qhb11 : ¬ sh = (-1) := by simpa using hb11
  refine sq9 (zza 65 (zB (sh == (-2))) (zza 64 (zB (sh == (-2))) (zzb (zzt (b := sh == (-2)) xj (fun hb21 => ?_) (fun hb21 => ?_)))))
  ·replace hb21 : (sh == (-2)) = true := hb21
   have qhb21 : sh = (-2) := by simpa using hb21
   obtain ⟨R, hR0⟩ : ∃ R, Nt.negR (M.getD t []) = R := ⟨_, rfl⟩
   have hMt : t < M.length := by rw [hq.1]; omega
   have hrow := hq.2 t xq
   have hRl : R.length = n := by rw [← hR0, Nt.negR_len]; exact hrow
   have hRl2 : R.length = (M.getD t []).length := by omega
   have hcm : Nt.cmb [(t : Int), (f : Int), cf, sh] M = M.set t R := by rw [Nt.cmb_n qhb21, hR0]
   have hRa : ∀ j, j < n → -((M.getD t []).getD j 0) = R.getD j 0 := fun j hj => by rw [← hR0, Nt.negR_at xq]
   have hRs : ∀ j, Nt.rs (R.getD j 0) ≤ 100 := fun j => by have h9 := hR t j; rw [hcm, Nt.ent_set, if_pos ⟨rfl, hMt⟩] at h9; exact h9
   refine sq9 (zza 66 (.v x.v) (zza 67 (.adr 3 0) (zzh 68 (zI t) ty3 zzk ?_)))
   obtain ⟨b22, hA22, hc22⟩ := MatQ.cell (i := t) hm xq
   refine zzz 69 (0 + t * 1) (n := x.n) (off := 0) (sz := 1) (i := (t : Int)) xq hA22 xq xq sl71 ?_
   rw [hyt] at hc22
   refine zyk 70 yt.v hc22 ty54 (zza 71 (zI yt.n) (zza 72 (zI 0) (zzb (zzs (zym (I := fun m23 S' u' => ∃ (j : Nat) (Q : List (List RL)), (m23 = n - j) ∧ (j ≤ n) ∧ (Q.length = n) ∧ (S' = St.of 87 [(0, .v (.slice x.a x.n x.c)), (3, .adr 3 0), (70, .v (.slice yt.a yt.n yt.c)), (71, zI yt.n), (72, zI j)] [(3, ⟨90, [.int .i64 t, .int .i64 f, .int .i64 cf, .int .i64 sh]⟩)]) ∧ (Ext v0 u') ∧ (MatQ 1 54 26 v0.heap.size u' x Rs Q) ∧ (MatN u' Q (Nt.mixR M t R j) 100)) (fun m S u1 u2 e h => by obtain ⟨j, Q, hm, p0, p1, hS, hE, f0, f1⟩ := h; exact ⟨j, Q, hm, p0, p1, hS, hE.trans e, f0.ext e, f1.ext e⟩) _ yw ⟨0, Ls, rfl, by omega, hLl, rfl, hv, hm, (by rw [Nt.mixR_0]; exact hN)⟩ ?_)))))
   rintro m23 _ u23 ⟨j, Q, hm23, hj, hQl, rfl, e23, f0, f1⟩
   have hrt : MutQ (1 * 3) 26 v0.heap.size u23 yt (rcs (Q.getD t [])) := by have h9 := MatQ.row f0 t xq; rw [hyt] at h9; exact h9
   have hLt : (Q.getD t []).length = n := by rw [← MutQ.rown hrt]; exact hnt
   refine sq9 (zza 73 (zB (decide ((j : Int) < (yt.n : Int)))) (zzb (zzd (zzt (b := decide ((j : Int) < (yt.n : Int))) xj (fun hb24 => ?_) (fun hb24 => ?_)))))
   ·replace hb24 : (decide ((j : Int) < (yt.n : Int))) = true := hb24
    have qhb24 := of_decide_eq_true hb24
    refine zzr (zzo ?_)
    refine zzd (zzs (sq9 (zza 74 (zI j) ?_)))
    obtain ⟨b25, hA25, hc25⟩ := MutQ.el1 (j := j) hrt xq
    refine zzz 75 (0 + j * 3) (n := yt.n) (off := 0) (sz := 3) (i := (j : Int)) xq hA25 xq xq sl54 ?_
    obtain ⟨r26, hr27⟩ : ∃ r : RL, (Q.getD t []).getD j rl0 = r := ⟨_, rfl⟩
    rw [hr27] at hc25
    have hv28 := (by have h9 := MatN.at (i := t) (j := j) f1 (by rw [Nt.mixR_len]; omega) (by rw [Nt.mixR_row hMt hRl2 xq]; omega); rw [Nt.mixR_old hMt hRl2 xq] at h9; exact h9)
    rw [hr27] at hv28
    refine zyl 76 (r26.cs) hc25 ty26 (zzj 5 ⟨26, [.bool false, .slice none 0 0, .slice none 0 0]⟩ (zza 4 (zI j) (zzi ⟨26, r26.cs⟩ ty26 ?_)))
    refine zzb (sw_anyC [0, 0, 2, 7, 15, 0, 0, 64, 255, 511] [(0, []), (1, []), (2, []), (3, []), (4, []), (5, []), (6, []), (7, [])] [(8, []), (9, [])] xj xj xj ?_)
    refine zza 77 (.v x.v) (zza 78 (.adr 3 0) (zzh 79 (zI t) ty3 zzk ?_))
    obtain ⟨b29, hA29, hc29⟩ := MatQ.cell (i := t) f0 xq
    refine zzz 80 (0 + t * 1) (n := x.n) (off := 0) (sz := 1) (i := (t : Int)) xq hA29 xq xq sl71 ?_
    rw [hyt] at hc29
    refine zyk 81 yt.v hc29 ty54 (zza 82 (zI j) (zzh 83 (.v (r26.v)) ty26 zze (zzg 84 176 [r26.v] ?_)))
    intro w30 u30 e30 d30
    have k35 := k_ratNeg d30 (hv28.ext e30).raw xq
    with_reducible refine zPm k35 ?_
    rintro _ u33 g34 ⟨r31, rfl, h32⟩
    refine zzw ?_
    obtain ⟨b36, hA36, hc36⟩ := MutQ.el1 (j := j) (hrt.ext (e30.trans g34.ext)) xq
    refine zzz 85 (0 + j * 3) (n := yt.n) (off := 0) (sz := 3) (i := (j : Int)) xq hA36 xq xq sl54 ?_
    have hq37 := (hrt.ext (e30.trans g34.ext))
    refine sy_storeQ (v := r31.v) (off := 0 + j * 3) (n := 3) yt hq37 (fun a ha => .inr (mqB_row (i := t) xq (by rw [hyt]; exact ha))) hA36 ty26 (by rw [zyx]; have h9 : _ := xq; omega) (nu_rl r31) (fun u37 hm37 eX37 => ?_)
    have hn37 : MutQ (1 * 3) 26 v0.heap.size u37 yt (rcs ((Q.getD t []).set j r31)) := by rw [← zyw (off := 0 + j * 3) xq xq]; exact hm37
    have eX37r := ExtX.root eX37 (MutQ.mutL hq37) (e23.trans (e30.trans g34.ext))
    have hM38 := MatQ.storeRow xw (f0.ext (e30.trans g34.ext)) (i := t) xq (L := ((Q.getD t []).set j r31)) (by rw [hyt]; exact hn37) (by rw [hyt]; exact eX37)
    have hE38 : (-((M.getD t []).getD j 0)) = R.getD j 0 := hRa j xq
    have hN38 := MatN.el (i := t) (j := j) (MatN.keep (f1.ext (e30.trans g34.ext)) hq37 eX37) (by rw [Nt.mixR_len]; omega) (by rw [Nt.mixR_row hMt hRl2 xq]; omega) (RatN.fit (L := 100) (by rw [← hE38]; exact MutQ.keep hq37 eX37 h32) (hRs j))
    rw [Nt.mixR_s hMt hRl2 xq] at hN38
    obtain ⟨Q38, hQ38⟩ : ∃ Q9, Q.set t ((Q.getD t []).set j r31) = Q9 := ⟨_, rfl⟩
    have hQl38 : Q38.length = n := by rw [← hQ38, List.length_set]; exact hQl
    rw [hQ38] at hM38 hN38
    refine zzw ?_
    refine zzo (zzf (zyp 86 (x := zI (IntKind.i64.wrap ((j : Int) + 1))) (zI (j + 1 : Nat)) (eqI xz) (zza 72 (zI (j + 1 : Nat)) (zzw ?_))))
    refine ⟨_, ?_, _, by exact zzu _ _ _, j + 1, Q38, rfl, by omega, hQl38, rfl, eX37r, hM38, hN38⟩
    omega
   ·replace hb24 : (decide ((j : Int) < (yt.n : Int))) = false := hb24
    have qhb24 := of_decide_eq_false hb24
    refine zyb ?_
    refine ⟨[], [], trivial, (fun t h => by cases h), fun B u1 e1 _ => ⟨rfl, ?_⟩⟩
    refine ⟨_, _, (f0).ext e1, ?_⟩
    rw [hcm, ← Nt.mixR_n hRl2 (show j = R.length by omega)]
    exact (f1).ext e1
  ·replace hb21 : (sh == (-2)) = false := hb21
   have qhb21 : ¬ sh = (-2) := by simpa using hb21
   obtain ⟨R, hR0⟩ : ∃ R, Nt.rowA (M.getD t []) (M.getD f []) (Nt.wq cf sh) = R := ⟨_, rfl⟩
   have hMt : t < M.length := by rw [hq.1]; omega
   have hrow := hq.2 t xq
   have hRl : R.length = n := by rw [← hR0, Nt.rowA_len]; exact hrow
   have hRl2 : R.length = (M.getD t []).length := by omega
   have hcm : Nt.cmb [(t : Int), (f : Int), cf, sh] M = M.set t R := by rw [Nt.cmb_s qhb11 qhb21, hR0]
   have hRa : ∀ j, j < n → (M.getD t []).getD j 0 + Nt.wq cf sh * (M.getD f []).getD j 0 = R.getD j 0 := fun j hj => by rw [← hR0, Nt.rowA_at xq]
   have hne : t ≠ f := fun e => qhb21 (h7.1 (by rw [e]))
   have hRs : ∀ j, Nt.rs (R.getD j 0) ≤ 100 := fun j => by have h9 := hR t j; rw [hcm, Nt.ent_set, if_pos ⟨rfl, hMt⟩] at h9; exact h9
   refine sq9 (zzh 11 (.v (.agg #[.int .i64 t, .int .i64 f, .int .i64 cf, .int .i64 sh])) ty90 zze (zzg 12 125 [.agg #[.int .i64 t, .int .i64 f, .int .i64 cf, .int .i64 sh]] ?_))
   intro w39 u39 e39 d39
   have k44 := k_factor (t := (t : Int)) (f := (f : Int)) (cf := cf) (sh := sh) d39 xq xq xq xq
   with_reducible refine zPm k44 ?_
   rintro _ u42 g43 ⟨r40, rfl, h41⟩
   refine zzj 6 ⟨26, [.bool false, .slice none 0 0, .slice none 0 0]⟩ (zzi ⟨26, r40.cs⟩ ty26 ?_)
   refine zzb (sq9 (zza 13 (.v x.v) (zza 14 (.adr 3 0) (zzh 15 (zI t) ty3 zzk ?_))))
   obtain ⟨b45, hA45, hc45⟩ := MatQ.cell (i := t) (hm.ext (e39.trans g43.ext)) xq
   refine zzz 16 (0 + t * 1) (n := x.n) (off := 0) (sz := 1) (i := (t : Int)) xq hA45 xq xq sl71 ?_
   rw [hyt] at hc45
   refine zyk 17 yt.v hc45 ty54 (zza 18 (zI yt.n) (zza 19 (zI 0) (zzb (zzs (zym (I := fun m46 S' u' => ∃ (j : Nat) (Q : List (List RL)), (m46 = n - j) ∧ (j ≤ n) ∧ (Q.length = n) ∧ (S' = St.of 87 [(0, .v (.slice x.a x.n x.c)), (3, .adr 3 0), (6, .adr 6 0), (17, .v (.slice yt.a yt.n yt.c)), (18, zI yt.n), (19, zI j)] [(3, ⟨90, [.int .i64 t, .int .i64 f, .int .i64 cf, .int .i64 sh]⟩), (6, ⟨26, r40.cs⟩)]) ∧ (Ext v0 u') ∧ (MatQ 1 54 26 v0.heap.size u' x Rs Q) ∧ (MatN u' Q (Nt.mixR M t R j) 100) ∧ (RatN u' r40 (Nt.wq cf sh) 2)) (fun m S u1 u2 e h => by obtain ⟨j, Q, hm, p0, p1, hS, hE, f0, f1, f2⟩ := h; exact ⟨j, Q, hm, p0, p1, hS, hE.trans e, f0.ext e, f1.ext e, f2.ext e⟩) _ yw ⟨0, Ls, rfl, by omega, hLl, rfl, (hv.trans (e39.trans g43.ext)), (hm.ext (e39.trans g43.ext)), (by rw [Nt.mixR_0]; exact (hN.ext (e39.trans g43.ext))), h41⟩ ?_)))))
   rintro m46 _ u46 ⟨j, Q, hm46, hj, hQl, rfl, e46, f0, f1, f2⟩
   have hrt : MutQ (1 * 3) 26 v0.heap.size u46 yt (rcs (Q.getD t [])) := by have h9 := MatQ.row f0 t xq; rw [hyt] at h9; exact h9
   have hLt : (Q.getD t []).length = n := by rw [← MutQ.rown hrt]; exact hnt
   have hrf : MutQ (1 * 3) 26 v0.heap.size u46 yf (rcs (Q.getD f [])) := by have h9 := MatQ.row f0 f xq; rw [hyf] at h9; exact h9
   have hLf : (Q.getD f []).length = n := by rw [← MutQ.rown hrf]; exact hnf
   refine sq9 (zza 20 (zB (decide ((j : Int) < (yt.n : Int)))) (zzb (zzd (zzt (b := decide ((j : Int) < (yt.n : Int))) xj (fun hb47 => ?_) (fun hb47 => ?_)))))
   ·replace hb47 : (decide ((j : Int) < (yt.n : Int))) = true := hb47
    have qhb47 := of_decide_eq_true hb47
    refine zzr (zzo ?_)
    refine zzd (zzs (sq9 (zza 21 (zI j) ?_)))
    obtain ⟨b48, hA48, hc48⟩ := MutQ.el1 (j := j) hrt xq
    refine zzz 22 (0 + j * 3) (n := yt.n) (off := 0) (sz := 3) (i := (j : Int)) xq hA48 xq xq sl54 ?_
    obtain ⟨r49, hr50⟩ : ∃ r : RL, (Q.getD t []).getD j rl0 = r := ⟨_, rfl⟩
    rw [hr50] at hc48
    have hv51 := (by have h9 := MatN.at (i := t) (j := j) f1 (by rw [Nt.mixR_len]; omega) (by rw [Nt.mixR_row hMt hRl2 xq]; omega); rw [Nt.mixR_old hMt hRl2 xq] at h9; exact h9)
    rw [hr50] at hv51
    refine zyl 23 (r49.cs) hc48 ty26 (zzj 8 ⟨26, [.bool false, .slice none 0 0, .slice none 0 0]⟩ (zza 7 (zI j) (zzi ⟨26, r49.cs⟩ ty26 ?_)))
    refine zzb (sw_anyC [0, 0, 2, 7, 15, 0, 0, 0, 0, 0, 512, 1792, 3840, 0, 16128, 32512, 65408, 131008, 262143, 524287] [(0, []), (1, []), (2, []), (3, []), (4, []), (5, []), (6, []), (7, []), (8, []), (9, []), (10, []), (11, []), (12, []), (13, []), (14, []), (15, []), (16, []), (17, [])] [(18, []), (19, [])] xj xj xj ?_)
    refine zza 24 (.v x.v) (zza 25 (.adr 3 0) (zzh 26 (zI t) ty3 zzk ?_))
    obtain ⟨b52, hA52, hc52⟩ := MatQ.cell (i := t) f0 xq
    refine zzz 27 (0 + t * 1) (n := x.n) (off := 0) (sz := 1) (i := (t : Int)) xq hA52 xq xq sl71 ?_
    rw [hyt] at hc52
    refine zyk 28 yt.v hc52 ty54 (zza 29 (zI j) (zzh 30 (.v (r49.v)) ty26 zze (zzh 31 (.v (r40.v)) ty26 zze (zza 32 (.v x.v) (zza 33 (.adr 3 1) (zzh 34 (zI f) ty3 zzk ?_))))))
    obtain ⟨b53, hA53, hc53⟩ := MatQ.cell (i := f) f0 xq
    refine zzz 35 (0 + f * 1) (n := x.n) (off := 0) (sz := 1) (i := (f : Int)) xq hA53 xq xq sl71 ?_
    rw [hyf] at hc53
    refine zyk 36 yf.v hc53 ty54 (zza 37 (zI j) ?_)
    obtain ⟨b54, hA54, hc54⟩ := MutQ.el1 (j := j) hrf xq
    refine zzz 38 (0 + j * 3) (n := yf.n) (off := 0) (sz := 3) (i := (j : Int)) xq hA54 xq xq sl54 ?_
    obtain ⟨r55, hr56⟩ : ∃ r : RL, (Q.getD f []).getD j rl0 = r := ⟨_, rfl⟩
    rw [hr56] at hc54
    have hv57 := (by have h9 := MatN.at (i := f) (j := j) f1 (by rw [Nt.mixR_len]; omega) (by rw [Nt.mixR_other hne, hq.2 f xq]; omega); rw [Nt.mixR_other hne] at h9; exact h9)
    rw [hr56] at hv57
    refine zyl 39 (r55.cs) hc54 ty26 (zzg 40 123 [r40.v, r55.v] ?_)
    intro w58 u58 e58 d58
    have k63 := k_ratMul d58 (f2.ext e58).raw (hv57.ext e58).raw xq xq
    with_reducible refine zPm k63 ?_
    rintro _ u61 g62 ⟨r59, rfl, h60⟩
    refine zzg 41 126 [r49.v, r59.v] ?_
    intro w64 u64 e64 d64
    have k69 := k_ratAdd d64 (hv51.ext (e58.trans (g62.ext.trans e64))).raw (h60.ext e64).raw xq xq
    with_reducible refine zPm k69 ?_
    rintro _ u67 g68 ⟨r65, rfl, h66⟩
    refine zzw ?_
    obtain ⟨b70, hA70, hc70⟩ := MutQ.el1 (j := j) (hrt.ext (e58.trans (g62.ext.trans (e64.trans g68.ext)))) xq
    refine zzz 42 (0 + j * 3) (n := yt.n) (off := 0) (sz := 3) (i := (j : Int)) xq hA70 xq xq sl54 ?_
    have hq71 := (hrt.ext (e58.trans (g62.ext.trans (e64.trans g68.ext))))
    refine sy_storeQ (v := r65.v) (off := 0 + j * 3) (n := 3) yt hq71 (fun a ha => .inr (mqB_row (i := t) xq (by rw [hyt]; exact ha))) hA70 ty26 (by rw [zyx]; have h9 : _ := xq; omega) (nu_rl r65) (fun u71 hm71 eX71 => ?_)
    have hn71 : MutQ (1 * 3) 26 v0.heap.size u71 yt (rcs ((Q.getD t []).set j r65)) := by rw [← zyw (off := 0 + j * 3) xq xq]; exact hm71
    have eX71r := ExtX.root eX71 (MutQ.mutL hq71) (e46.trans (e58.trans (g62.ext.trans (e64.trans g68.ext))))
    have hM72 := MatQ.storeRow xw (f0.ext (e58.trans (g62.ext.trans (e64.trans g68.ext)))) (i := t) xq (L := ((Q.getD t []).set j r65)) (by rw [hyt]; exact hn71) (by rw [hyt]; exact eX71)
    have hE72 : (((M.getD t []).getD j 0) + ((Nt.wq cf sh) * ((M.getD f []).getD j 0))) = R.getD j 0 := hRa j xq
    have hN72 := MatN.el (i := t) (j := j) (MatN.keep (f1.ext (e58.trans (g62.ext.trans (e64.trans g68.ext)))) hq71 eX71) (by rw [Nt.mixR_len]; omega) (by rw [Nt.mixR_row hMt hRl2 xq]; omega) (RatN.fit (L := 100) (by rw [← hE72]; exact MutQ.keep hq71 eX71 h66) (hRs j))
    rw [Nt.mixR_s hMt hRl2 xq] at hN72
    obtain ⟨Q72, hQ72⟩ : ∃ Q9, Q.set t ((Q.getD t []).set j r65) = Q9 := ⟨_, rfl⟩
    have hQl72 : Q72.length = n := by rw [← hQ72, List.length_set]; exact hQl
    rw [hQ72] at hM72 hN72
    have hF72 := MutQ.keep hq71 eX71 (f2.ext (e58.trans (g62.ext.trans (e64.trans g68.ext))))
    refine zzw ?_
    refine zzo (zzf (zyp 43 (x := zI (IntKind.i64.wrap ((j : Int) + 1))) (zI (j + 1 : Nat)) (eqI xz) (zza 19 (zI (j + 1 : Nat)) (zzw ?_))))
    refine ⟨_, ?_, _, by exact zzu _ _ _, j + 1, Q72, rfl, by omega, hQl72, rfl, eX71r, hM72, hN72, hF72⟩
    omega
   ·replace hb47 : (decide ((j : Int) < (yt.n : Int))) = false := hb47
    have qhb47 := of_decide_eq_false hb47
    refine zyb ?_
    refine ⟨[], [], trivial, (fun t h => by cases h), fun B u1 e1 _ => ⟨rfl, ?_⟩⟩
    refine ⟨_, _, (f0).ext e1, ?_⟩
    rw [hcm, ← Nt.mixR_n hRl2 (show j = R.length by omega)]
    exact (f1).ext e1
theorem Nt.rep0_at {n j : Nat} : (List.replicate n (0 : Rat)).getD j 0 = 0 := by rw [List.getD_eq_getElem?_getD, List.getElem?_replicate]; split <;> rfl
theorem Nt.idRow_set {n i : Nat} (h : i < n) : (List.replicate n (0 : Rat)).set i 1 = Nt.idRow n i := by
 refine List.ext_getElem (by rw [List.length_set, List.length_replicate, Nt.idRow_len]) fun j h1 h2 => ?_
 have e1 := Nt.idRow_at (i := i) (show j < n by rw [← Nt.idRow_len (n := n) (i := i)]; exact h2)
 rw [List.getD_eq_getElem?_getD, List.getElem?_eq_getElem h2] at e1
 have e2 : (Nt.idRow n i)[j] = if i = j then 1 else 0 := e1
 rw [e2, List.getElem_set]
 split
 ·rfl
 ·exact List.getElem_replicate _
set_option maxHeartbeats 4000000 in
theorem k_dlinear {u w : World} {x : Sl} {S : List (List Int)} {n : Nat} (d : Dat u w) (hx : IrV 4 u x S) (hV : Nt.shV (n : Int) S) : Calls Tryz.prog 53 #[x.v, .int .i64 (n : Int)] w (Post u w fun v u' => ∃ (y : Sl) (Rs : List Sl) (Ls : List (List RL)), v = .tuple #[y.v, .int .i64 0] ∧ MatQ 1 54 26 u.heap.size u' y Rs Ls ∧ MatN u' Ls (Nt.linM n S) 100) := by
 have hlx : x.n = S.length := hx.len
 have hV1 := hV.1
 have hV2 := hV.2.1
 have hV3 := hV.2.2.1
 refine zzl (args := [.slice x.a x.n x.c, .int .i64 n]) Tryz.func53 rfl Tryz.ntmps53 (rs := [.tmp 4, .tmp 5]) Tryz.results53 (le_b rfl) (le_b rfl) d ?_
 refine sq9 (zza 4 (.v (.slice none 0 0)) (zza 5 (zI 0) (zzb (zzd (sq9 (zza 11 (.v x.v) (zza 12 (zI n) (zzg 13 64 [x.v, .int .i64 n] ?_))))))))
 intro w11 u11 e11 d11
 have k14 := k_dvalid (x := x) (n := (n : Int)) d11 (hx.ext e11) xq
 with_reducible refine zPm k14 ?_
 rintro _ u12 g13 rfl
 refine zza 14 (zB (!(decide (Nt.shV (n : Int) S)))) (zzb (zzt (b := !(decide (Nt.shV (n : Int) S))) xj (fun hb => ?_) (fun hb => ?_)))
 ·exact absurd hb (by rw [show (!(decide (Nt.shV (n : Int) S))) = false from (by rw [decide_eq_true hV]; rfl)]; decide)
 ·clear hb
  refine zzr (zzo ?_)
  refine sq9 (zza 15 (zI n) (sy_makeF 16 (T := 71) (E := 54) (z := .slice none 0 0) (size := 1) (bytes := 24) n ((List.replicate n sl0).map Sl.v) xj xj rfl rfl xq yv (made_sls _) (fun b15 u15 e15 h15 f15 g15 => ?_)))
  have hm16 : MutQ 1 54 u12.heap.size u15 (⟨some ⟨b15, 0, none⟩, n, n⟩ : Sl) ((List.replicate n sl0).map Sl.v) := MutQ.lit h15 (by rw [List.length_map, List.length_replicate, Nat.mul_one]) yv g15 (nu_sls _)
  refine zza 6 (.v (.slice (some ⟨b15, 0, none⟩) n n)) (zzb (zzd (sq9 (zza 17 (.v (.slice (some ⟨b15, 0, none⟩) n n)) (zza 18 (zI n) (zza 19 (zI 0) (zzb (zzs (zym (I := fun m17 S' u' => ∃ (i : Nat) (Rs : List Sl) (Ls : List (List RL)), (m17 = n - i) ∧ (i ≤ n) ∧ (Ls.length = n) ∧ (S' = St.of 62 [(0, .v (.slice x.a x.n x.c)), (1, zI n), (6, .v (.slice (some ⟨b15, 0, none⟩) n n)), (18, zI n), (19, zI i)] []) ∧ (Ext u12 u') ∧ (MatQ 1 54 26 u12.heap.size u' (⟨some ⟨b15, 0, none⟩, n, n⟩ : Sl) Rs Ls) ∧ (MatP u' Ls (Nt.idR n) i 100)) (fun m S u1 u2 e h => by obtain ⟨i, Rs, Ls, hm, p0, p1, hS, hE, f0, f1⟩ := h; exact ⟨i, Rs, Ls, hm, p0, p1, hS, hE.trans e, f0.ext e, f1.ext e⟩) _ yw ⟨0, (List.replicate n sl0), (List.replicate n []), rfl, by omega, by rw [List.length_replicate], rfl, e15, (MatQ.nil n hm16), (MatP.zero _ _ _ _)⟩ ?_)))))))))
  rintro m17 _ u17 ⟨i, Rs, Ls, hm17, hi, hLl, rfl, e17, mf0, mf1⟩
  refine sq9 (zza 20 (zB (decide ((i : Int) < (n : Int)))) (zzb (zzd (zzt (b := decide ((i : Int) < (n : Int))) xj (fun hb18 => ?_) (fun hb18 => ?_)))))
  ·replace hb18 : (decide ((i : Int) < (n : Int))) = true := hb18
   have qhb18 := of_decide_eq_true hb18
   refine zzr (zzo ?_)
   refine zzd (zzs (sq9 (zza 21 (zI i) (zza 7 (zI i) (zzb (sq9 (zza 22 (.v (.slice (some ⟨b15, 0, none⟩) n n)) (zza 23 (zI i) (zza 24 (zI n) (sy_makeF 25 (T := 54) (E := 26) (z := .agg #[.bool false, .slice none 0 0, .slice none 0 0]) (size := 3) (bytes := 56) n (rcs (List.replicate n rl0)) xj xj rfl rfl xq yv (made_rcs _) (fun b19 u19 e19 h19 f19 g19 => ?_)))))))))))
   have hm20 : MutQ (1 * 3) 26 u17.heap.size u19 (⟨some ⟨b19, 0, none⟩, n, n⟩ : Sl) (rcs (List.replicate n rl0)) := MutQ.lit h19 (by rw [zyx, List.length_replicate]) yv g19 (nu_rcs _)
   obtain ⟨b21, hA21, hc21⟩ := MatQ.cell (i := i) (mf0.ext e19) xq
   refine zzz 26 (0 + i * 1) (n := n) (off := 0) (sz := 1) (i := (i : Int)) xq hA21 xq xq sl71 ?_
   have hq22 := (mf0.ext e19)
   refine sy_storeQ (v := .slice (some ⟨b19, 0, none⟩) n n) (off := 0 + i * 1) (n := 1) (⟨some ⟨b15, 0, none⟩, n, n⟩ : Sl) (MatQ.out hq22) (fun a ha => by injection ha with ha; subst ha; exact .inl f15) hA21 ty54 (by rw [List.length_map, MatQ.len hq22]; have h9 : _ := xq; omega) (nu_sls [(⟨some ⟨b19, 0, none⟩, n, n⟩ : Sl)]) (fun u22 hm22 eX22 => ?_)
   have hn22 : MutQ 1 54 u12.heap.size u22 (⟨some ⟨b15, 0, none⟩, n, n⟩ : Sl) ((Rs.set i (⟨some ⟨b19, 0, none⟩, n, n⟩ : Sl)).map Sl.v) := by rw [← setL_map (y := (⟨some ⟨b19, 0, none⟩, n, n⟩ : Sl)) (i := i) (by rw [MatQ.len hq22]; omega)]; exact hm22
   have eX22r := ExtX.root eX22 (MutQ.mutL (MatQ.out hq22)) (e17.trans e19)
   have hM23 := MatQ.storeOut xw hq22 xq hn22 eX22 (MutQ.low hm20 (Ext.size e17)) (fun j hj _ => MatQ.fresh mf0 g19 j hj)
   obtain ⟨R23, hR23⟩ : ∃ R, Rs.set i (⟨some ⟨b19, 0, none⟩, n, n⟩ : Sl) = R := ⟨_, rfl⟩
   have hy23 : R23.getD i sl0 = (⟨some ⟨b19, 0, none⟩, n, n⟩ : Sl) := by rw [← hR23]; exact getD_set_same (by have h9 := MatQ.len hq22; omega)
   rw [hR23] at hM23
   have hP23 := MatP.keep (mf1.ext e19) (MatQ.out hq22) eX22
   replace hP23 := MatP.set (L := (List.replicate n rl0)) hP23 (Nat.le_refl i)
   obtain ⟨S23, hS23⟩ : ∃ S, Ls.set i ((List.replicate n rl0)) = S := ⟨_, rfl⟩
   have hSl23 : S23.length = n := by rw [← hS23, List.length_set]; exact hLl
   have hSi23 : S23.getD i [] = (List.replicate n rl0) := by rw [← hS23]; exact getD_set_same xq
   rw [hS23] at hM23 hP23
   refine zzb (zzd (sq9 (zza 27 (.v (.slice (some ⟨b15, 0, none⟩) n n)) (zza 28 (zI i) ?_))))
   obtain ⟨b24, hA24, hc24⟩ := MatQ.cell (i := i) hM23 xq
   refine zzz 29 (0 + i * 1) (n := n) (off := 0) (sz := 1) (i := (i : Int)) xq hA24 xq xq sl71 ?_
   rw [hy23] at hc24
   refine zyk 30 (.slice (some ⟨b19, 0, none⟩) n n) hc24 ty54 (zza 31 (zI n) (zza 32 (zI 0) (zzb (zzs (zym (I := fun m25 S' u' => ∃ (j : Nat) (Q : List (List RL)), (m25 = n - j) ∧ (j ≤ n) ∧ (Q.length = n) ∧ ((Q.getD i []).length = n) ∧ (S' = St.of 62 [(0, .v (.slice x.a x.n x.c)), (1, zI n), (6, .v (.slice (some ⟨b15, 0, none⟩) n n)), (7, zI i), (18, zI n), (19, zI i), (31, zI n), (32, zI j)] []) ∧ (Ext u12 u') ∧ (MatQ 1 54 26 u12.heap.size u' (⟨some ⟨b15, 0, none⟩, n, n⟩ : Sl) R23 Q) ∧ (MatP u' Q (Nt.idR n) i 100) ∧ (RatsP u' (Q.getD i []) (List.replicate n 0) j 100)) (fun m S u1 u2 e h => by obtain ⟨j, Q, hm, p0, p1, p2, hS, hE, f0, f1, f2⟩ := h; exact ⟨j, Q, hm, p0, p1, p2, hS, hE.trans e, f0.ext e, f1.ext e, f2.ext e⟩) _ yw ⟨0, S23, rfl, by omega, hSl23, by rw [hSi23, List.length_replicate], rfl, eX22r, hM23, hP23, (RatsP.zero _ _ _ _)⟩ ?_)))))
   rintro m25 _ u25 ⟨j, Q, hm25, hj, hQl, hQi, rfl, e25, f0, f1, f2⟩
   have hrw : MutQ (1 * 3) 26 u12.heap.size u25 (⟨some ⟨b19, 0, none⟩, n, n⟩ : Sl) (rcs (Q.getD i [])) := by have h9 := MatQ.row f0 i xq; rw [hy23] at h9; exact h9
   refine sq9 (zza 33 (zB (decide ((j : Int) < (n : Int)))) (zzb (zzd (zzt (b := decide ((j : Int) < (n : Int))) xj (fun hb26 => ?_) (fun hb26 => ?_)))))
   ·replace hb26 : (decide ((j : Int) < (n : Int))) = true := hb26
    have qhb26 := of_decide_eq_true hb26
    refine zzr (zzo ?_)
    refine zzd (zzs (sq9 (zza 34 (zI j) (zza 8 (zI j) (zzb (sw_anyC [0, 0, 3, 7, 0, 0, 63, 127] [(0, []), (1, []), (2, []), (3, []), (4, []), (5, [])] [(6, []), (7, [])] xj xj xj ?_))))))
    refine zza 35 (.v (.slice (some ⟨b15, 0, none⟩) n n)) (zza 36 (zI i) ?_)
    obtain ⟨b27, hA27, hc27⟩ := MatQ.cell (i := i) f0 xq
    refine zzz 37 (0 + i * 1) (n := n) (off := 0) (sz := 1) (i := (i : Int)) xq hA27 xq xq sl71 ?_
    rw [hy23] at hc27
    refine zyk 38 (.slice (some ⟨b19, 0, none⟩) n n) hc27 ty54 (zza 39 (zI j) (zzg 40 118 [.int .i64 0] ?_))
    intro w28 u28 e28 d28
    have k33 := k_ratOf d28 (z := 0) xq xq
    with_reducible refine zPm k33 ?_
    rintro _ u31 g32 ⟨r29, rfl, h30⟩
    refine zzw ?_
    obtain ⟨b34, hA34, hc34⟩ := MutQ.el1 (j := j) (hrw.ext (e28.trans g32.ext)) xq
    refine zzz 41 (0 + j * 3) (n := n) (off := 0) (sz := 3) (i := (j : Int)) xq hA34 xq xq sl54 ?_
    have hq35 := (hrw.ext (e28.trans g32.ext))
    refine sy_storeQ (v := r29.v) (off := 0 + j * 3) (n := 3) (⟨some ⟨b19, 0, none⟩, n, n⟩ : Sl) hq35 (fun a ha => by injection ha with ha; subst ha; exact .inl f19) hA34 ty26 (by rw [zyx]; have h9 : _ := xq; omega) (nu_rl r29) (fun u35 hm35 eX35 => ?_)
    have hn35 : MutQ (1 * 3) 26 u12.heap.size u35 (⟨some ⟨b19, 0, none⟩, n, n⟩ : Sl) (rcs ((Q.getD i []).set j r29)) := by rw [← zyw (off := 0 + j * 3) xq xq]; exact hm35
    have eX35r := ExtX.root eX35 (MutQ.mutL hq35) (e25.trans (e28.trans g32.ext))
    have hM36 := MatQ.storeRow xw (f0.ext (e28.trans g32.ext)) (i := i) xq (L := ((Q.getD i []).set j r29)) (by rw [hy23]; exact hn35) (by rw [hy23]; exact eX35)
    obtain ⟨Q36, hQ36⟩ : ∃ Q9, Q.set i ((Q.getD i []).set j r29) = Q9 := ⟨_, rfl⟩
    have hQl36 : Q36.length = n := by rw [← hQ36, List.length_set]; exact hQl
    have hQi36 : Q36.getD i [] = ((Q.getD i []).set j r29) := by rw [← hQ36]; exact getD_set_same xq
    have hP36 := MatP.set (L := ((Q.getD i []).set j r29)) (MatP.keep (f1.ext (e28.trans g32.ext)) hq35 eX35) (Nat.le_refl i)
    rw [hQ36] at hM36 hP36
    have hr36 := RatsP.one (RatsP.keep (f2.ext (e28.trans g32.ext)) hq35 eX35) xq (RatN.more (K := 2) (MutQ.keep hq35 eX35 h30) xq) (by rw [Nt.rep0_at]; rfl)
    rw [← hQi36] at hr36
    refine zzw ?_
    refine zzo (zzf (zyp 42 (x := zI (IntKind.i64.wrap ((j : Int) + 1))) (zI (j + 1 : Nat)) (eqI xz) (zza 32 (zI (j + 1 : Nat)) (zzw ?_))))
    refine ⟨_, ?_, _, by exact zzu _ _ _, j + 1, Q36, rfl, by omega, hQl36, by rw [hQi36, List.length_set]; exact hQi, rfl, eX35r, hM36, hP36, hr36⟩
    omega
   ·replace hb26 : (decide ((j : Int) < (n : Int))) = false := hb26
    have qhb26 := of_decide_eq_false hb26
    refine zyb (zzo (sw_anyC [0, 0, 3, 7, 0, 0, 63, 127] [(0, []), (1, []), (2, []), (3, []), (4, []), (5, [])] [(6, []), (7, [])] xj xj xj ?_))
    refine zza 43 (.v (.slice (some ⟨b15, 0, none⟩) n n)) (zza 44 (zI i) ?_)
    obtain ⟨b37, hA37, hc37⟩ := MatQ.cell (i := i) f0 xq
    refine zzz 45 (0 + i * 1) (n := n) (off := 0) (sz := 1) (i := (i : Int)) xq hA37 xq xq sl71 ?_
    rw [hy23] at hc37
    refine zyk 46 (.slice (some ⟨b19, 0, none⟩) n n) hc37 ty54 (zza 47 (zI i) (zzg 48 118 [.int .i64 1] ?_))
    intro w38 u38 e38 d38
    have k43 := k_ratOf d38 (z := 1) xq xq
    with_reducible refine zPm k43 ?_
    rintro _ u41 g42 ⟨r39, rfl, h40⟩
    refine zzw ?_
    obtain ⟨b44, hA44, hc44⟩ := MutQ.el1 (j := i) (hrw.ext (e38.trans g42.ext)) xq
    refine zzz 49 (0 + i * 3) (n := n) (off := 0) (sz := 3) (i := (i : Int)) xq hA44 xq xq sl54 ?_
    have hq45 := (hrw.ext (e38.trans g42.ext))
    refine sy_storeQ (v := r39.v) (off := 0 + i * 3) (n := 3) (⟨some ⟨b19, 0, none⟩, n, n⟩ : Sl) hq45 (fun a ha => by injection ha with ha; subst ha; exact .inl f19) hA44 ty26 (by rw [zyx]; have h9 : _ := xq; omega) (nu_rl r39) (fun u45 hm45 eX45 => ?_)
    have hn45 : MutQ (1 * 3) 26 u12.heap.size u45 (⟨some ⟨b19, 0, none⟩, n, n⟩ : Sl) (rcs ((Q.getD i []).set i r39)) := by rw [← zyw (off := 0 + i * 3) xq xq]; exact hm45
    have eX45r := ExtX.root eX45 (MutQ.mutL hq45) (e25.trans (e38.trans g42.ext))
    have hM46 := MatQ.storeRow xw (f0.ext (e38.trans g42.ext)) (i := i) xq (L := ((Q.getD i []).set i r39)) (by rw [hy23]; exact hn45) (by rw [hy23]; exact eX45)
    obtain ⟨Q46, hQ46⟩ : ∃ Q9, Q.set i ((Q.getD i []).set i r39) = Q9 := ⟨_, rfl⟩
    have hQl46 : Q46.length = n := by rw [← hQ46, List.length_set]; exact hQl
    have hQi46 : Q46.getD i [] = ((Q.getD i []).set i r39) := by rw [← hQ46]; exact getD_set_same xq
    have hP46 := MatP.set (L := ((Q.getD i []).set i r39)) (MatP.keep (f1.ext (e38.trans g42.ext)) hq45 eX45) (Nat.le_refl i)
    rw [hQ46] at hM46 hP46
    have hr46 := rats_set (j := i) (RatsP.full (RatsP.keep (f2.ext (e38.trans g42.ext)) hq45 eX45) xq (by rw [List.length_replicate]; omega)) (by rw [List.length_replicate]; omega) (RatN.more (K := 2) (MutQ.keep hq45 eX45 h40) xq)
    rw [← hQi46] at hr46
    refine zzw ?_
    refine zzo (zzf (zyp 50 (x := zI (IntKind.i64.wrap ((i : Int) + 1))) (zI (i + 1 : Nat)) (eqI xz) (zza 19 (zI (i + 1 : Nat)) (zzw ?_))))
    have hid := Nt.idRow_set (n := n) (i := i) xq
    have hrr := hr46
    rw [show (((1 : Int) : Rat)) = 1 from rfl, hid, ← Nt.idR_at (n := n) (i := i) xq] at hrr
    refine ⟨_, ?_, _, by exact zzu _ _ _, i + 1, R23, Q46, rfl, by omega, hQl46, rfl, eX45r, hM46, (MatP.next hP46 hrr)⟩
    omega
  ·replace hb18 : (decide ((i : Int) < (n : Int))) = false := hb18
   have qhb18 := of_decide_eq_false hb18
   refine zyb (zzo (zzd (sq9 (zza 51 (.v x.v) (zza 52 (zI x.n) (zza 53 (zI 0) (zzb (zzs (zym (I := fun m47 S' u' => ∃ (k : Nat) (Rz : List Sl) (Lz : List (List RL)), (m47 = S.length - k) ∧ (k ≤ S.length) ∧ (S' = St.of 62 [(6, .v (.slice (some ⟨b15, 0, none⟩) n n)), (51, .v (.slice x.a x.n x.c)), (52, zI x.n), (53, zI k)] []) ∧ (Ext u12 u') ∧ (MatQ 1 54 26 u12.heap.size u' (⟨some ⟨b15, 0, none⟩, n, n⟩ : Sl) Rz Lz) ∧ (MatN u' Lz (Nt.linM n (S.take k)) 100)) (fun m S u1 u2 e h => by obtain ⟨k, Rz, Lz, hm, p0, hS, hE, f0, f1⟩ := h; exact ⟨k, Rz, Lz, hm, p0, hS, hE.trans e, f0.ext e, f1.ext e⟩) _ yw ⟨0, Rs, Ls, rfl, by omega, rfl, e17, mf0, (by rw [List.take_zero, Nt.linM_nil]; exact MatP.full (m := n) (by have h9 := mf1; rw [show i = n by omega] at h9; exact h9) hLl Nt.idR_len)⟩ ?_)))))))))
   rintro m47 _ u47 ⟨k, Rz, Lz, hm47, hk, rfl, e47, lf0, lf1⟩
   refine sq9 (zza 54 (zB (decide ((k : Int) < (x.n : Int)))) (zzb (zzd (zzt (b := decide ((k : Int) < (x.n : Int))) xj (fun hb48 => ?_) (fun hb48 => ?_)))))
   ·replace hb48 : (decide ((k : Int) < (x.n : Int))) = true := hb48
    have qhb48 := of_decide_eq_true hb48
    refine zzr (zzo ?_)
    refine zzd (zzs (sq9 ?_))
    have hl49 := ((hx.ext (e11.trans (g13.ext.trans e47)))).len
    obtain ⟨b49, o49, hA49, hc49⟩ := ir_at4 (hx.ext (e11.trans (g13.ext.trans e47))) (i := k) xq
    refine zzz 55 (o49 + k * 4) (n := x.n) (off := o49) (sz := 4) (i := (k : Int)) xq hA49 xq xq sl64 (zyl 56 [.int .i64 (gi S k 0), .int .i64 (gi S k 1), .int .i64 (gi S k 2), .int .i64 (gi S k 3)] hc49 ty90 (zzj 10 ⟨90, [.int .i64 0, .int .i64 0, .int .i64 0, .int .i64 0]⟩ (zzi ⟨90, [.int .i64 (gi S k 0), .int .i64 (gi S k 1), .int .i64 (gi S k 2), .int .i64 (gi S k 3)]⟩ ty90 ?_)))
    refine zzb ?_
    have hsO := hV.2.2.2 k xq
    rw [row4 hx.rows xq] at hsO
    obtain ⟨tz, htz⟩ : ∃ t : Nat, gi S k 0 = (t : Int) := ⟨(gi S k 0).toNat, by have h9 : 0 ≤ gi S k 0 := hsO.1; omega⟩
    obtain ⟨fz, hfz⟩ : ∃ t : Nat, gi S k 1 = (t : Int) := ⟨(gi S k 1).toNat, by have h9 : 0 ≤ gi S k 1 := hsO.2.2.1; omega⟩
    rw [htz, hfz]
    rw [htz, hfz] at hsO
    refine zzf (zza 57 (.v (.slice (some ⟨b15, 0, none⟩) n n)) (zzh 58 (.v (.agg #[.int .i64 tz, .int .i64 fz, .int .i64 (gi S k 2), .int .i64 (gi S k 3)])) ty90 zze ?_))
    have hA50 := lf0
    have hB50 := lf1
    have hst : Nt.linM n (S.take (k + 1)) = Nt.cmb [(tz : Int), (fz : Int), gi S k 2, gi S k 3] (Nt.linM n (S.take k)) := by rw [Nt.linM_snoc k xq, row4 hx.rows xq, htz, hfz]
    refine zwk (mqB (⟨some ⟨b15, 0, none⟩, n, n⟩ : Sl) Rz) 59 119 [.slice (some ⟨b15, 0, none⟩) n n, .agg #[.int .i64 tz, .int .i64 fz, .int .i64 (gi S k 2), .int .i64 (gi S k 3)]] (MatQ.may hA50 (Ext.size (e11.trans g13.ext))) (fun w50 u50 e50 d50 => k_combine (v0 := u12) d50 (Ext.trans e47 e50) (hA50.ext e50) (hB50.ext e50) (Nt.linM_ok hV.2.2.2 hx.rows k xq).1 xq hsO (by rw [← hst]; exact Nt.linM_rs hV.2.2.2 hx.rows xq (k + 1) xq)) (fun v50 v250 hF50 hv50 => ?_)
    obtain ⟨rfl, P50, O50, hP50, hO50⟩ := hv50
    have eR50 := ExtF.rootQ hF50 hA50 e47
    refine zzw ?_
    refine zzo (zzf (zyp 60 (x := zI (IntKind.i64.wrap ((k : Int) + 1))) (zI (k + 1 : Nat)) (eqI xz) (zza 53 (zI (k + 1 : Nat)) (zzw ?_))))
    have hst : Nt.linM n (S.take (k + 1)) = Nt.cmb [(tz : Int), (fz : Int), gi S k 2, gi S k 3] (Nt.linM n (S.take k)) := by rw [Nt.linM_snoc k xq, row4 hx.rows xq, htz, hfz]
    refine ⟨_, ?_, _, by exact zzu _ _ _, k + 1, P50, O50, rfl, by omega, rfl, eR50, hP50, (by rw [hst]; exact hO50)⟩
    omega
   ·replace hb48 : (decide ((k : Int) < (x.n : Int))) = false := hb48
    have qhb48 := of_decide_eq_false hb48
    refine zyb (zzo (sq9 (zza 61 (.v (.slice (some ⟨b15, 0, none⟩) n n)) (zza 4 (.v (.slice (some ⟨b15, 0, none⟩) n n)) (zza 5 (zI 0) (zzb (zzn (ret0 [.slice (some ⟨b15, 0, none⟩) n n, .int .i64 0] ⟨zzp, zzp, trivial⟩ fun u51 e52 => ?_))))))))
    refine ⟨(⟨some ⟨b15, 0, none⟩, n, n⟩ : Sl), Rz, Lz, rfl, MatQ.low (lf0.ext e52) (Ext.size (e11.trans g13.ext)), by have h9 := (lf1.ext e52); rw [show k = S.length by omega, List.take_length] at h9; exact h9⟩
end Go.Proofs.YtbolmkfphieogaaGreat
