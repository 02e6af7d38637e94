/- Parts of the proof: contracts of functions, each walked once, and plain laws. -/
import Derived.Test.YtbolmkfphieogaaGreatDdoE
set_option linter.unusedVariables false
namespace Go.Proofs.YtbolmkfphieogaaGreat
open Go.RowKit
theorem k_exactly {u w : World} {r : RL} {q : Rat} {K k : Nat} (d : Dat u w) (hr : RatN u r q K) (hk : k ≤ 256) (hK : K ≤ 10) : Calls Tryz.prog 177 #[r.v, .int .i64 (k : Int)] w (Post u w fun v u' => ∃ r1 r2 : RL, v = IV r1 r2 ∧ RatN u' r1 (Nt.dnQ q k) 80 ∧ RatN u' r2 (-Nt.dnQ (-q) k) 80) := by
 refine zzl (args := [r.v, .int .i64 k]) Tryz.func177 rfl Tryz.ntmps177 (rs := [.cell 4 32]) Tryz.results177 (le_b rfl) (le_b rfl) d ?_
 refine sq9 (zzj 2 ⟨26, r.cs⟩ (zzj 4 ⟨32, zw6⟩ (zzb (sq9 (zzh 8 (.v (r.v)) ty26 zze (zzh 9 (.v (r.v)) ty26 zze (zzg 10 144 _ fun _ _ ad ai => Post.mono (k_ivMake ai (hr.ext ad).raw (hr.ext ad).raw xq) ?_)))))))
 rintro _ u16 g17 ⟨r12, r14, rfl, ae, ag⟩
 refine zza 11 (zI k) (zzg 12 227 _ fun _ _ ac aj => Post.mono (k_ivRoundG (k := k) xq aj (ae.ext ac).raw (ag.ext ac).raw xq) ?_)
 rintro _ u23 g24 ⟨ab, aa, rfl, af⟩
 refine zza 7 (.v (.tuple #[.agg #[.bool ab.s, ab.m.v, ab.d.v, .bool aa.s, aa.m.v, aa.d.v], .int .i64 (Nt.rndE (k : Int))])) (zza 13 (.v (.agg #[.bool ab.s, ab.m.v, ab.d.v, .bool aa.s, aa.m.v, aa.d.v])) (zza 14 (zI (Nt.rndE (k : Int))) (zzj 5 ⟨32, zw6⟩ (zzi ⟨32, ab.cs ++ aa.cs⟩ ty32 ?_))))
 refine zza 6 (zI (Nt.rndE (k : Int))) (zzb (sq9 (zzh 15 (.v (.agg #[.bool ab.s, ab.m.v, ab.d.v, .bool aa.s, aa.m.v, aa.d.v])) ty32 zze (zzi ⟨32, ab.cs ++ aa.cs⟩ ty32 ?_))))
 refine zzb (zzn (ret0 [.agg #[.bool ab.s, ab.m.v, ab.d.v, .bool aa.s, aa.m.v, aa.d.v]] ⟨zzq ty32 zze, trivial⟩ fun u26 ah => ?_))
 have h9 := (af.ext ah)
 rw [Nt.rnd_pt hk] at h9
 exact ⟨ab, aa, rfl, RatN.more h9.1 xq, RatN.more h9.2 xq⟩
set_option maxHeartbeats 4000000 in
theorem k_cosA {u w : World} {p : Int} {q k : Nat} (d : Dat u w) (hq0 : 0 < q) (hq2 : q ≤ 10000) (hG0 : Nt.GapQ q k) (hp0 : -1000000000 ≤ p) (hp1 : p ≤ 1000000000) (hk : k ≤ 256) (hA : 2 * Nt.fold p q ≤ q) : Calls Tryz.prog 100 #[.int .i64 p, .int .i64 (q : Int), .int .i64 (k : Int)] w (Post u w fun v u' => ∃ r1 r2 : RL, v = IV r1 r2 ∧ RatN u' r1 ((Nt.cosA (Nt.fold p q) q k).1) 80 ∧ RatN u' r2 ((Nt.cosA (Nt.fold p q) q k).2) 80) := by
 have htm := Nt.tmod_bd p hq0
 obtain ⟨g, bs, hG⟩ := id hG0
 refine zzl (args := [.int .i64 p, .int .i64 q, .int .i64 k]) Tryz.func100 rfl Tryz.ntmps100 (rs := [.cell 6 32]) Tryz.results100 (le_b rfl) (le_b rfl) d ?_
 refine sq9 (zzj 3 ⟨3, [.int .i64 p]⟩ (zzj 4 ⟨3, [.int .i64 q]⟩ (zzj 6 ⟨32, zw6⟩ (zzb (sq9 (zzh 8 (zI p) ty3 zzk (zzh 9 (zI q) ty3 zzk (zyp 10 (x := zI (IntKind.i64.wrap ((2 : Int) * (q : Int)))) (zI (2 * q : Nat)) (eqI xk) (sy_rem 11 (m := ((2 * q : Nat) : Int)) (Int.tmod p (2 * (q : Int))) xq (by rw [Int.natCast_mul]; rfl) ?_)))))))))
 refine zzi ⟨3, [.int .i64 (Int.tmod p (2 * (q : Int)))]⟩ ty3 ?_
 refine zzb (zzd (sq9 (zzh 12 (zI (Int.tmod p (2 * (q : Int)))) ty3 zzk (zza 13 (zB (decide ((Int.tmod p (2 * (q : Int))) < 0))) (zzb (zzt (b := decide ((Int.tmod p (2 * (q : Int))) < 0)) xj (fun aN => ?_) (fun aN => ?_)))))))
 ·have qhb11 := of_decide_eq_true aN
  refine zzf (zzh 14 (zI (Int.tmod p (2 * (q : Int)))) ty3 zzk (zyp 15 (x := zI (IntKind.i64.wrap (0 - (Int.tmod p (2 * (q : Int)))))) (zI (-(Int.tmod p (2 * (q : Int))))) (eqI xk) (zzi ⟨3, [.int .i64 (-(Int.tmod p (2 * (q : Int))))]⟩ ty3 ?_)))
  refine zzb (zzd (sq9 (zzh 16 (zI (-(Int.tmod p (2 * (q : Int))))) ty3 zzk (zzh 17 (zI q) ty3 zzk (zza 18 (zB (decide ((q : Int) < (-(Int.tmod p (2 * (q : Int))))))) (zzb (zzt (b := decide ((q : Int) < (-(Int.tmod p (2 * (q : Int)))))) xj (fun aO => ?_) (fun aO => ?_))))))))
  ·have qhb12 := of_decide_eq_true aO
   refine zzf (zzh 19 (zI q) ty3 zzk (zyp 20 (x := zI (IntKind.i64.wrap ((2 : Int) * (q : Int)))) (zI (2 * q : Nat)) (eqI xk) (zzh 21 (zI (-(Int.tmod p (2 * (q : Int))))) ty3 zzk (zyp 22 (x := zI (IntKind.i64.wrap (((2 * q : Nat) : Int) - (-(Int.tmod p (2 * (q : Int))))))) (zI (((2 * q : Nat) : Int) - (-(Int.tmod p (2 * (q : Int)))))) yq (zzi ⟨3, [.int .i64 (((2 * q : Nat) : Int) - (-(Int.tmod p (2 * (q : Int)))))]⟩ ty3 ?_)))))
   refine zzb (zzd (zzd ?_))
   have hfold : (((2 * q : Nat) : Int) - (-(Int.tmod p (2 * (q : Int))))) = ((Nt.fold p q : Nat) : Int) := by unfold Nt.fold; dsimp only; split <;> omega
   rw [hfold]
   have hfl := Nt.fold_le p q hq0
   obtain ⟨r, hr⟩ : ∃ r, Nt.fold p q = r := ⟨_, rfl⟩
   rw [hr] at hfl ⊢
   clear hfold
   rw [hr] at hA
   refine zzf (zzh 23 (zI r) ty3 zzk (zyp 24 (x := zI (IntKind.i64.wrap ((2 : Int) * (r : Int)))) (zI (2 * r : Nat)) (eqI xk) (zzh 25 (zI q) ty3 zzk (zza 26 (zB (decide ((q : Int) < ((2 * r : Nat) : Int)))) (zzb (zzt (b := decide ((q : Int) < ((2 * r : Nat) : Int))) xj (fun hb => ?_) (fun hb => ?_)))))))
   ·exact absurd hb (by rw [show (decide ((q : Int) < ((2 * r : Nat) : Int))) = false from decide_eq_false xq]; decide)
   clear hb
   refine zzr (zzo ?_)
   refine zzd (zzs (sq9 (zzh 41 (zI r) ty3 zzk (zza 42 (zB ((r : Int) == 0)) (zza 40 (zB ((r : Int) == 0)) (zzb (zzt (b := (r : Int) == 0) xj (fun af => ?_) (fun af => ?_))))))))
   ·have aX : (r : Int) = 0 := by simpa using af
    refine sq9 (zzg 43 118 _ fun _ _ _ eA => Post.mono (k_ratOf eA (z := 1) xq xq) ?_)
    rintro _ u17 g18 ⟨r15, rfl, dH⟩
    refine zza 44 (zI k) (zzg 45 177 _ fun _ _ er dF => Post.mono (k_exactly (k := k) dF (dH.ext er) xq xq) ?_)
    rintro _ u25 g26 ⟨aP, aQ, rfl, ex, cW⟩
    refine zzi ⟨32, aP.cs ++ aQ.cs⟩ ty32 ?_
    refine zzc 65 [(6, .adr 6 0)] [(6, ⟨32, aP.cs ++ aQ.cs⟩)] (zzn (zyt (zzv (ret0 [.agg #[.bool aP.s, aP.m.v, aP.d.v, .bool aQ.s, aQ.m.v, aQ.d.v]] ⟨zzq ty32 zze, trivial⟩ fun u28 cM => ?_))))
    have hc := Nt.cosA_0 (r := r) (q := q) (b := k) (by have h9 := af; simp at h9; omega)
    refine ⟨aP, aQ, rfl, RatN.more (K := 80) ?_ xq, RatN.more (K := 80) ?_ xq⟩
    ·rw [hc]; exact (ex.ext cM)
    rw [hc]; exact (cW.ext cM)
   have aX : ¬ ((r : Int) = 0) := by simpa using af
   refine sq9 (zzh 47 (zI r) ty3 zzk (zyp 48 (x := zI (IntKind.i64.wrap ((2 : Int) * (r : Int)))) (zI (2 * r : Nat)) (eqI xk) (zzh 49 (zI q) ty3 zzk (zza 50 (zB (((2 * r : Nat) : Int) == (q : Int))) (zza 46 (zB (((2 * r : Nat) : Int) == (q : Int))) (zzc 65 [(2, zI k), (3, .adr 3 0), (4, .adr 4 0), (6, .adr 6 0), (46, zB (((2 * r : Nat) : Int) == (q : Int)))] [(3, ⟨3, [.int .i64 r]⟩), (4, ⟨3, [.int .i64 q]⟩), (6, ⟨32, zw6⟩)] (zzt (b := ((2 * r : Nat) : Int) == (q : Int)) xj (fun aE => ?_) (fun aE => ?_))))))))
   ·refine sq9 (zzg 51 118 _ fun _ _ _ dw => Post.mono (k_ratOf dw (z := 0) xq xq) ?_)
    rintro _ u34 g35 ⟨r32, rfl, c2⟩
    refine zza 52 (zI k) (zzg 53 177 _ fun _ _ c3 em => Post.mono (k_exactly (k := k) em (c2.ext c3) xq xq) ?_)
    rintro _ u42 g43 ⟨a2, aV, rfl, de, d5⟩
    refine zzi ⟨32, a2.cs ++ aV.cs⟩ ty32 ?_
    refine zzb (zzn (zyt (zzv (ret0 [.agg #[.bool a2.s, a2.m.v, a2.d.v, .bool aV.s, aV.m.v, aV.d.v]] ⟨zzq ty32 zze, trivial⟩ fun u45 cR => ?_))))
    have hc := Nt.cosA_h (r := r) (q := q) (b := k) (by have h9 := af; simp at h9; omega) (by have h9 := aE; simp at h9; omega)
    refine ⟨a2, aV, rfl, RatN.more (K := 80) ?_ xq, RatN.more (K := 80) ?_ xq⟩
    ·rw [hc]; exact (de.ext cR)
    rw [hc]; exact (d5.ext cR)
   have b0 : ¬ 2 * r = q := by have h9 := aE; simp at h9; omega
   refine sq9 (zzh 55 (zI r) ty3 zzk (zyp 56 (x := zI (IntKind.i64.wrap ((3 : Int) * (r : Int)))) (zI (3 * r : Nat)) (eqI xk) (zzh 57 (zI q) ty3 zzk (zza 58 (zB (((3 * r : Nat) : Int) == (q : Int))) (zza 54 (zB (((3 * r : Nat) : Int) == (q : Int))) (zzb (zzt (b := ((3 * r : Nat) : Int) == (q : Int)) xj (fun aK => ?_) (fun aK => ?_))))))))
   ·refine sq9 (zzg 59 127 _ fun _ _ _ ea => Post.mono (k_ratFrac ea (a := 1) (b := 2) xq xq xq xq) ?_)
    rintro _ u51 g52 ⟨r49, rfl, eg⟩
    refine zza 60 (zI k) (zzg 61 177 _ fun _ _ ec ds => Post.mono (k_exactly (k := k) ds (eg.ext ec) xq xq) ?_)
    rintro _ u59 g60 ⟨a0, bi, rfl, d8, c5⟩
    refine zzi ⟨32, a0.cs ++ bi.cs⟩ ty32 ?_
    refine zzb (zzn (zyt (zzv (ret0 [.agg #[.bool a0.s, a0.m.v, a0.d.v, .bool bi.s, bi.m.v, bi.d.v]] ⟨zzq ty32 zze, trivial⟩ fun u62 cI => ?_))))
    have hc := Nt.cosA_3 (r := r) (q := q) (b := k) (by have h9 := af; simp at h9; omega) (by have h9 := aE; simp at h9; omega) (by have h9 := aK; simp at h9; omega)
    refine ⟨a0, bi, rfl, RatN.more (K := 80) ?_ xq, RatN.more (K := 80) ?_ xq⟩
    ·rw [hc]; exact (d8.ext cI)
    rw [hc]; exact (c5.ext cI)
   have cy : ¬ 3 * r = q := by have h9 := aK; simp at h9; omega
   refine zzr (zzo ?_)
   refine zzd (sw_pubA (r := 3) (t := 3) [3] xz xj (by rfl) (by rfl) xj (fun dE u65 e66 c6 dy b8 => ?_))
   refine sw_pubA (r := 4) (t := 4) [4] xz xj (by rfl) (by rfl) xj (fun dQ u71 d4 dK dN cw => ?_)
   refine zzf (sy_fun 62 [.pointer (some ⟨dE, 0, none⟩), .pointer (some ⟨dQ, 0, none⟩)] ?_)
   refine zza 63 (zI k) (zzg 64 101 _ fun _ _ cK dh => Post.mono (k_irrCos (k := k) dh ((d4.trans cK).cells b8) (cK.cells cw) hq0 xq xq xq (hG r xq xq xq) bs xq) ?_)
   rintro _ u81 g82 ⟨aW, bm, rfl, dR, dp⟩
   refine zzi ⟨32, aW.cs ++ bm.cs⟩ ty32 ?_
   refine zzb (zzn (ret0 [.agg #[.bool aW.s, aW.m.v, aW.d.v, .bool bm.s, bm.m.v, bm.d.v]] ⟨zzq ty32 zze, trivial⟩ fun u84 cP => ?_))
   have hc := Nt.cosA_g (r := r) (q := q) (b := k) (by have h9 := af; simp at h9; omega) (by have h9 := aE; simp at h9; omega) (by have h9 := aK; simp at h9; omega)
   refine ⟨aW, bm, rfl, RatN.more (K := 70) ?_ xq, RatN.more (K := 70) ?_ xq⟩
   ·rw [hc]; exact (dR.ext cP)
   rw [hc]; exact (dp.ext cP)
  have qhb12 := of_decide_eq_false aO
  refine zzr (zzo ?_)
  refine zzd (zzd ?_)
  have hfold : (-(Int.tmod p (2 * (q : Int)))) = ((Nt.fold p q : Nat) : Int) := by unfold Nt.fold; dsimp only; split <;> omega
  rw [hfold]
  have hfl := Nt.fold_le p q hq0
  obtain ⟨r, hr⟩ : ∃ r, Nt.fold p q = r := ⟨_, rfl⟩
  rw [hr] at hfl ⊢
  clear hfold
  rw [hr] at hA
  refine zzf (zzh 23 (zI r) ty3 zzk (zyp 24 (x := zI (IntKind.i64.wrap ((2 : Int) * (r : Int)))) (zI (2 * r : Nat)) (eqI xk) (zzh 25 (zI q) ty3 zzk (zza 26 (zB (decide ((q : Int) < ((2 * r : Nat) : Int)))) (zzb (zzt (b := decide ((q : Int) < ((2 * r : Nat) : Int))) xj (fun hb => ?_) (fun hb => ?_)))))))
  ·exact absurd hb (by rw [show (decide ((q : Int) < ((2 * r : Nat) : Int))) = false from decide_eq_false xq]; decide)
  clear hb
  refine zzr (zzo ?_)
  refine zzd (zzs (sq9 (zzh 41 (zI r) ty3 zzk (zza 42 (zB ((r : Int) == 0)) (zza 40 (zB ((r : Int) == 0)) (zzb (zzt (b := (r : Int) == 0) xj (fun ag => ?_) (fun ag => ?_))))))))
  ·have ba : (r : Int) = 0 := by simpa using ag
   refine sq9 (zzg 43 118 _ fun _ _ _ dO => Post.mono (k_ratOf dO (z := 1) xq xq) ?_)
   rintro _ u90 g91 ⟨r88, rfl, cX⟩
   refine zza 44 (zI k) (zzg 45 177 _ fun _ _ d3 eq => Post.mono (k_exactly (k := k) eq (cX.ext d3) xq xq) ?_)
   rintro _ u98 g99 ⟨a1, aU, rfl, eB, dt⟩
   refine zzi ⟨32, a1.cs ++ aU.cs⟩ ty32 ?_
   refine zzb (zzn (zyt (zzv (ret0 [.agg #[.bool a1.s, a1.m.v, a1.d.v, .bool aU.s, aU.m.v, aU.d.v]] ⟨zzq ty32 zze, trivial⟩ fun dW aT => ?_))))
   have hc := Nt.cosA_0 (r := r) (q := q) (b := k) (by have h9 := ag; simp at h9; omega)
   refine ⟨a1, aU, rfl, RatN.more (K := 80) ?_ xq, RatN.more (K := 80) ?_ xq⟩
   ·rw [hc]; exact (eB.ext aT)
   rw [hc]; exact (dt.ext aT)
  have ba : ¬ ((r : Int) = 0) := by simpa using ag
  refine sq9 (zzh 47 (zI r) ty3 zzk (zyp 48 (x := zI (IntKind.i64.wrap ((2 : Int) * (r : Int)))) (zI (2 * r : Nat)) (eqI xk) (zzh 49 (zI q) ty3 zzk (zza 50 (zB (((2 * r : Nat) : Int) == (q : Int))) (zza 46 (zB (((2 * r : Nat) : Int) == (q : Int))) (zzb (zzt (b := ((2 * r : Nat) : Int) == (q : Int)) xj (fun ac => ?_) (fun ac => ?_))))))))
  ·refine sq9 (zzg 51 118 _ fun _ _ _ ce => Post.mono (k_ratOf ce (z := 0) xq xq) ?_)
   rintro _ df dX ⟨eu, rfl, bE⟩
   refine zza 52 (zI k) (zzg 53 177 _ fun _ _ bV cf => Post.mono (k_exactly (k := k) cf (bE.ext bV) xq xq) ?_)
   rintro _ ed dB ⟨ao, an, rfl, bA, b4⟩
   refine zzi ⟨32, ao.cs ++ an.cs⟩ ty32 ?_
   refine zzc 65 [(6, .adr 6 0)] [(6, ⟨32, ao.cs ++ an.cs⟩)] (zzn (zyt (zzv (ret0 [.agg #[.bool ao.s, ao.m.v, ao.d.v, .bool an.s, an.m.v, an.d.v]] ⟨zzq ty32 zze, trivial⟩ fun eC a6 => ?_))))
   have hc := Nt.cosA_h (r := r) (q := q) (b := k) (by have h9 := ag; simp at h9; omega) (by have h9 := ac; simp at h9; omega)
   refine ⟨ao, an, rfl, RatN.more (K := 80) ?_ xq, RatN.more (K := 80) ?_ xq⟩
   ·rw [hc]; exact (bA.ext a6)
   rw [hc]; exact (b4.ext a6)
  have bp : ¬ 2 * r = q := by have h9 := ac; simp at h9; omega
  refine sq9 (zzh 55 (zI r) ty3 zzk (zyp 56 (x := zI (IntKind.i64.wrap ((3 : Int) * (r : Int)))) (zI (3 * r : Nat)) (eqI xk) (zzh 57 (zI q) ty3 zzk (zza 58 (zB (((3 * r : Nat) : Int) == (q : Int))) (zza 54 (zB (((3 * r : Nat) : Int) == (q : Int))) (zzc 65 [(2, zI k), (3, .adr 3 0), (4, .adr 4 0), (6, .adr 6 0), (54, zB (((3 * r : Nat) : Int) == (q : Int)))] [(3, ⟨3, [.int .i64 r]⟩), (4, ⟨3, [.int .i64 q]⟩), (6, ⟨32, zw6⟩)] (zzt (b := ((3 * r : Nat) : Int) == (q : Int)) xj (fun ah => ?_) (fun ah => ?_))))))))
  ·refine sq9 (zzg 59 127 _ fun _ _ _ b1 => Post.mono (k_ratFrac b1 (a := 1) (b := 2) xq xq xq xq) ?_)
   rintro _ dL ei ⟨d1, rfl, bK⟩
   refine zza 60 (zI k) (zzg 61 177 _ fun _ _ bI cv => Post.mono (k_exactly (k := k) cv (bK.ext bI) xq xq) ?_)
   rintro _ dJ dV ⟨aF, aH, rfl, bO, b9⟩
   refine zzi ⟨32, aF.cs ++ aH.cs⟩ ty32 ?_
   refine zzb (zzn (zyt (zzv (ret0 [.agg #[.bool aF.s, aF.m.v, aF.d.v, .bool aH.s, aH.m.v, aH.d.v]] ⟨zzq ty32 zze, trivial⟩ fun eE a9 => ?_))))
   have hc := Nt.cosA_3 (r := r) (q := q) (b := k) (by have h9 := ag; simp at h9; omega) (by have h9 := ac; simp at h9; omega) (by have h9 := ah; simp at h9; omega)
   refine ⟨aF, aH, rfl, RatN.more (K := 80) ?_ xq, RatN.more (K := 80) ?_ xq⟩
   ·rw [hc]; exact (bO.ext a9)
   rw [hc]; exact (b9.ext a9)
  have br : ¬ 3 * r = q := by have h9 := ah; simp at h9; omega
  refine zzr (zzo ?_)
  refine zzd (sw_pubA (r := 3) (t := 3) [3] xz xj (by rfl) (by rfl) xj (fun cB dk cZ cH cT bf => ?_))
  refine sw_pubA (r := 4) (t := 4) [4] xz xj (by rfl) (by rfl) xj (fun cx d2 cb cU cS a7 => ?_)
  refine zzf (sy_fun 62 [.pointer (some ⟨cB, 0, none⟩), .pointer (some ⟨cx, 0, none⟩)] ?_)
  refine zza 63 (zI k) (zzg 64 101 _ fun _ _ aZ bB => Post.mono (k_irrCos (k := k) bB ((cb.trans aZ).cells bf) (aZ.cells a7) hq0 xq xq xq (hG r xq xq xq) bs xq) ?_)
  rintro _ eb dS ⟨aC, aG, rfl, b2, cu⟩
  refine zzi ⟨32, aC.cs ++ aG.cs⟩ ty32 ?_
  refine zzb (zzn (ret0 [.agg #[.bool aC.s, aC.m.v, aC.d.v, .bool aG.s, aG.m.v, aG.d.v]] ⟨zzq ty32 zze, trivial⟩ fun dm aY => ?_))
  have hc := Nt.cosA_g (r := r) (q := q) (b := k) (by have h9 := ag; simp at h9; omega) (by have h9 := ac; simp at h9; omega) (by have h9 := ah; simp at h9; omega)
  refine ⟨aC, aG, rfl, RatN.more (K := 70) ?_ xq, RatN.more (K := 70) ?_ xq⟩
  ·rw [hc]; exact (b2.ext aY)
  rw [hc]; exact (cu.ext aY)
 have qhb11 := of_decide_eq_false aN
 refine zzr (zzo ?_)
 refine zzd (sq9 (zzh 16 (zI (Int.tmod p (2 * (q : Int)))) ty3 zzk (zzh 17 (zI q) ty3 zzk (zza 18 (zB (decide ((q : Int) < (Int.tmod p (2 * (q : Int)))))) (zzb (zzt (b := decide ((q : Int) < (Int.tmod p (2 * (q : Int))))) xj (fun aw => ?_) (fun aw => ?_)))))))
 ·have qhb159 := of_decide_eq_true aw
  refine zzf (zzh 19 (zI q) ty3 zzk (zyp 20 (x := zI (IntKind.i64.wrap ((2 : Int) * (q : Int)))) (zI (2 * q : Nat)) (eqI xk) (zzh 21 (zI (Int.tmod p (2 * (q : Int)))) ty3 zzk (zyp 22 (x := zI (IntKind.i64.wrap (((2 * q : Nat) : Int) - (Int.tmod p (2 * (q : Int)))))) (zI (((2 * q : Nat) : Int) - (Int.tmod p (2 * (q : Int))))) yq (zzi ⟨3, [.int .i64 (((2 * q : Nat) : Int) - (Int.tmod p (2 * (q : Int))))]⟩ ty3 ?_)))))
  refine zzb (zzd (zzd ?_))
  have hfold : (((2 * q : Nat) : Int) - (Int.tmod p (2 * (q : Int)))) = ((Nt.fold p q : Nat) : Int) := by unfold Nt.fold; dsimp only; split <;> omega
  rw [hfold]
  have hfl := Nt.fold_le p q hq0
  obtain ⟨r, hr⟩ : ∃ r, Nt.fold p q = r := ⟨_, rfl⟩
  rw [hr] at hfl ⊢
  clear hfold
  rw [hr] at hA
  refine zzf (zzh 23 (zI r) ty3 zzk (zyp 24 (x := zI (IntKind.i64.wrap ((2 : Int) * (r : Int)))) (zI (2 * r : Nat)) (eqI xk) (zzh 25 (zI q) ty3 zzk (zza 26 (zB (decide ((q : Int) < ((2 * r : Nat) : Int)))) (zzb (zzt (b := decide ((q : Int) < ((2 * r : Nat) : Int))) xj (fun hb => ?_) (fun hb => ?_)))))))
  ·exact absurd hb (by rw [show (decide ((q : Int) < ((2 * r : Nat) : Int))) = false from decide_eq_false xq]; decide)
  clear hb
  refine zzr (zzo ?_)
  refine zzd (zzs (sq9 (zzh 41 (zI r) ty3 zzk (zza 42 (zB ((r : Int) == 0)) (zza 40 (zB ((r : Int) == 0)) (zzb (zzt (b := (r : Int) == 0) xj (fun ab => ?_) (fun ab => ?_))))))))
  ·have aM : (r : Int) = 0 := by simpa using ab
   refine sq9 (zzg 43 118 _ fun _ _ _ bZ => Post.mono (k_ratOf bZ (z := 1) xq xq) ?_)
   rintro _ dr di ⟨ek, rfl, bJ⟩
   refine zza 44 (zI k) (zzg 45 177 _ fun _ _ cj cr => Post.mono (k_exactly (k := k) cr (bJ.ext cj) xq xq) ?_)
   rintro _ dv eo ⟨av, az, rfl, bN, ch⟩
   refine zzi ⟨32, av.cs ++ az.cs⟩ ty32 ?_
   refine zzb (zzn (zyt (zzv (ret0 [.agg #[.bool av.s, av.m.v, av.d.v, .bool az.s, az.m.v, az.d.v]] ⟨zzq ty32 zze, trivial⟩ fun dn be => ?_))))
   have hc := Nt.cosA_0 (r := r) (q := q) (b := k) (by have h9 := ab; simp at h9; omega)
   refine ⟨av, az, rfl, RatN.more (K := 80) ?_ xq, RatN.more (K := 80) ?_ xq⟩
   ·rw [hc]; exact (bN.ext be)
   rw [hc]; exact (ch.ext be)
  have aM : ¬ ((r : Int) = 0) := by simpa using ab
  refine sq9 (zzh 47 (zI r) ty3 zzk (zyp 48 (x := zI (IntKind.i64.wrap ((2 : Int) * (r : Int)))) (zI (2 * r : Nat)) (eqI xk) (zzh 49 (zI q) ty3 zzk (zza 50 (zB (((2 * r : Nat) : Int) == (q : Int))) (zza 46 (zB (((2 * r : Nat) : Int) == (q : Int))) (zzb (zzt (b := ((2 * r : Nat) : Int) == (q : Int)) xj (fun ad => ?_) (fun ad => ?_))))))))
  ·refine sq9 (zzg 51 118 _ fun _ _ _ bu => Post.mono (k_ratOf bu (z := 0) xq xq) ?_)
   rintro _ c1 dA ⟨dP, rfl, b6⟩
   refine zza 52 (zI k) (zzg 53 177 _ fun _ _ cC cz => Post.mono (k_exactly (k := k) cz (b6.ext cC) xq xq) ?_)
   rintro _ dY dM ⟨am, ak, rfl, cl, b7⟩
   refine zzi ⟨32, am.cs ++ ak.cs⟩ ty32 ?_
   refine zzc 65 [(6, .adr 6 0)] [(6, ⟨32, am.cs ++ ak.cs⟩)] (zzn (zyt (zzv (ret0 [.agg #[.bool am.s, am.m.v, am.d.v, .bool ak.s, ak.m.v, ak.d.v]] ⟨zzq ty32 zze, trivial⟩ fun ee bb => ?_))))
   have hc := Nt.cosA_h (r := r) (q := q) (b := k) (by have h9 := ab; simp at h9; omega) (by have h9 := ad; simp at h9; omega)
   refine ⟨am, ak, rfl, RatN.more (K := 80) ?_ xq, RatN.more (K := 80) ?_ xq⟩
   ·rw [hc]; exact (cl.ext bb)
   rw [hc]; exact (b7.ext bb)
  have bt : ¬ 2 * r = q := by have h9 := ad; simp at h9; omega
  refine sq9 (zzh 55 (zI r) ty3 zzk (zyp 56 (x := zI (IntKind.i64.wrap ((3 : Int) * (r : Int)))) (zI (3 * r : Nat)) (eqI xk) (zzh 57 (zI q) ty3 zzk (zza 58 (zB (((3 * r : Nat) : Int) == (q : Int))) (zza 54 (zB (((3 * r : Nat) : Int) == (q : Int))) (zzc 65 [(2, zI k), (3, .adr 3 0), (4, .adr 4 0), (6, .adr 6 0), (54, zB (((3 * r : Nat) : Int) == (q : Int)))] [(3, ⟨3, [.int .i64 r]⟩), (4, ⟨3, [.int .i64 q]⟩), (6, ⟨32, zw6⟩)] (zzt (b := ((3 * r : Nat) : Int) == (q : Int)) xj (fun ai => ?_) (fun ai => ?_))))))))
  ·refine sq9 (zzg 59 127 _ fun _ _ _ cg => Post.mono (k_ratFrac cg (a := 1) (b := 2) xq xq xq xq) ?_)
   rintro _ d6 db ⟨ez, rfl, bF⟩
   refine zza 60 (zI k) (zzg 61 177 _ fun _ _ cd ct => Post.mono (k_exactly (k := k) ct (bF.ext cd) xq xq) ?_)
   rintro _ dC et ⟨au, aD, rfl, ci, bP⟩
   refine zzi ⟨32, au.cs ++ aD.cs⟩ ty32 ?_
   refine zzb (zzn (zyt (zzv (ret0 [.agg #[.bool au.s, au.m.v, au.d.v, .bool aD.s, aD.m.v, aD.d.v]] ⟨zzq ty32 zze, trivial⟩ fun dd a8 => ?_))))
   have hc := Nt.cosA_3 (r := r) (q := q) (b := k) (by have h9 := ab; simp at h9; omega) (by have h9 := ad; simp at h9; omega) (by have h9 := ai; simp at h9; omega)
   refine ⟨au, aD, rfl, RatN.more (K := 80) ?_ xq, RatN.more (K := 80) ?_ xq⟩
   ·rw [hc]; exact (ci.ext a8)
   rw [hc]; exact (bP.ext a8)
  have bo : ¬ 3 * r = q := by have h9 := ai; simp at h9; omega
  refine zzr (zzo ?_)
  refine zzd (sw_pubA (r := 3) (t := 3) [3] xz xj (by rfl) (by rfl) xj (fun cn dG d7 cF cG a5 => ?_))
  refine sw_pubA (r := 4) (t := 4) [4] xz xj (by rfl) (by rfl) xj (fun bC cY b3 cN cV bh => ?_)
  refine zzf (sy_fun 62 [.pointer (some ⟨cn, 0, none⟩), .pointer (some ⟨bC, 0, none⟩)] ?_)
  refine zza 63 (zI k) (zzg 64 101 _ fun _ _ bl bv => Post.mono (k_irrCos (k := k) bv ((b3.trans bl).cells a5) (bl.cells bh) hq0 xq xq xq (hG r xq xq xq) bs xq) ?_)
  rintro _ c0 c7 ⟨aI, ax, rfl, bz, bY⟩
  refine zzi ⟨32, aI.cs ++ ax.cs⟩ ty32 ?_
  refine zzb (zzn (ret0 [.agg #[.bool aI.s, aI.m.v, aI.d.v, .bool ax.s, ax.m.v, ax.d.v]] ⟨zzq ty32 zze, trivial⟩ fun es a4 => ?_))
  have hc := Nt.cosA_g (r := r) (q := q) (b := k) (by have h9 := ab; simp at h9; omega) (by have h9 := ad; simp at h9; omega) (by have h9 := ai; simp at h9; omega)
  refine ⟨aI, ax, rfl, RatN.more (K := 70) ?_ xq, RatN.more (K := 70) ?_ xq⟩
  ·rw [hc]; exact (bz.ext a4)
  rw [hc]; exact (bY.ext a4)
 have qhb159 := of_decide_eq_false aw
 refine zzr (zzo ?_)
 refine zzd (zzd ?_)
 have hfold : (Int.tmod p (2 * (q : Int))) = ((Nt.fold p q : Nat) : Int) := by unfold Nt.fold; dsimp only; split <;> omega
 rw [hfold]
 have hfl := Nt.fold_le p q hq0
 obtain ⟨r, hr⟩ : ∃ r, Nt.fold p q = r := ⟨_, rfl⟩
 rw [hr] at hfl ⊢
 clear hfold
 rw [hr] at hA
 refine zzf (zzh 23 (zI r) ty3 zzk (zyp 24 (x := zI (IntKind.i64.wrap ((2 : Int) * (r : Int)))) (zI (2 * r : Nat)) (eqI xk) (zzh 25 (zI q) ty3 zzk (zza 26 (zB (decide ((q : Int) < ((2 * r : Nat) : Int)))) (zzb (zzt (b := decide ((q : Int) < ((2 * r : Nat) : Int))) xj (fun hb => ?_) (fun hb => ?_)))))))
 ·exact absurd hb (by rw [show (decide ((q : Int) < ((2 * r : Nat) : Int))) = false from decide_eq_false xq]; decide)
 clear hb
 refine zzr (zzo ?_)
 refine zzd (zzs (sq9 (zzh 41 (zI r) ty3 zzk (zza 42 (zB ((r : Int) == 0)) (zza 40 (zB ((r : Int) == 0)) (zzb (zzt (b := (r : Int) == 0) xj (fun aa => ?_) (fun aa => ?_))))))))
 ·have aL : (r : Int) = 0 := by simpa using aa
  refine sq9 (zzg 43 118 _ fun _ _ _ cA => Post.mono (k_ratOf cA (z := 1) xq xq) ?_)
  rintro _ dc dT ⟨du, rfl, cq⟩
  refine zza 44 (zI k) (zzg 45 177 _ fun _ _ bL bU => Post.mono (k_exactly (k := k) bU (cq.ext bL) xq xq) ?_)
  rintro _ eD c9 ⟨aB, aA, rfl, bT, bW⟩
  refine zzi ⟨32, aB.cs ++ aA.cs⟩ ty32 ?_
  refine zzb (zzn (zyt (zzv (ret0 [.agg #[.bool aB.s, aB.m.v, aB.d.v, .bool aA.s, aA.m.v, aA.d.v]] ⟨zzq ty32 zze, trivial⟩ fun eh a3 => ?_))))
  have hc := Nt.cosA_0 (r := r) (q := q) (b := k) (by have h9 := aa; simp at h9; omega)
  refine ⟨aB, aA, rfl, RatN.more (K := 80) ?_ xq, RatN.more (K := 80) ?_ xq⟩
  ·rw [hc]; exact (bT.ext a3)
  rw [hc]; exact (bW.ext a3)
 have aL : ¬ ((r : Int) = 0) := by simpa using aa
 refine sq9 (zzh 47 (zI r) ty3 zzk (zyp 48 (x := zI (IntKind.i64.wrap ((2 : Int) * (r : Int)))) (zI (2 * r : Nat)) (eqI xk) (zzh 49 (zI q) ty3 zzk (zza 50 (zB (((2 * r : Nat) : Int) == (q : Int))) (zza 46 (zB (((2 * r : Nat) : Int) == (q : Int))) (zzb (zzt (b := ((2 * r : Nat) : Int) == (q : Int)) xj (fun ae => ?_) (fun ae => ?_))))))))
 ·refine sq9 (zzg 51 118 _ fun _ _ _ ca => Post.mono (k_ratOf ca (z := 0) xq xq) ?_)
  rintro _ c8 dZ ⟨ej, rfl, ck⟩
  refine zza 52 (zI k) (zzg 53 177 _ fun _ _ bS bD => Post.mono (k_exactly (k := k) bD (ck.ext bS) xq xq) ?_)
  rintro _ ep ey ⟨aJ, ay, rfl, bR, cD⟩
  refine zzi ⟨32, aJ.cs ++ ay.cs⟩ ty32 ?_
  refine zzb (zzn (zyt (zzv (ret0 [.agg #[.bool aJ.s, aJ.m.v, aJ.d.v, .bool ay.s, ay.m.v, ay.d.v]] ⟨zzq ty32 zze, trivial⟩ fun d0 bj => ?_))))
  have hc := Nt.cosA_h (r := r) (q := q) (b := k) (by have h9 := aa; simp at h9; omega) (by have h9 := ae; simp at h9; omega)
  refine ⟨aJ, ay, rfl, RatN.more (K := 80) ?_ xq, RatN.more (K := 80) ?_ xq⟩
  ·rw [hc]; exact (bR.ext bj)
  rw [hc]; exact (cD.ext bj)
 have bn : ¬ 2 * r = q := by have h9 := ae; simp at h9; omega
 refine sq9 (zzh 55 (zI r) ty3 zzk (zyp 56 (x := zI (IntKind.i64.wrap ((3 : Int) * (r : Int)))) (zI (3 * r : Nat)) (eqI xk) (zzh 57 (zI q) ty3 zzk (zza 58 (zB (((3 * r : Nat) : Int) == (q : Int))) (zza 54 (zB (((3 * r : Nat) : Int) == (q : Int))) (zzb (zzt (b := ((3 * r : Nat) : Int) == (q : Int)) xj (fun aj => ?_) (fun aj => ?_))))))))
 ·refine sq9 (zzg 59 127 _ fun _ _ _ b5 => Post.mono (k_ratFrac b5 (a := 1) (b := 2) xq xq xq xq) ?_)
  rintro _ dD d9 ⟨en, rfl, bH⟩
  refine zza 60 (zI k) (zzg 61 177 _ fun _ _ bX bw => Post.mono (k_exactly (k := k) bw (bH.ext bX) xq xq) ?_)
  rintro _ dj da ⟨ap, aq, rfl, bx, bG⟩
  refine zzi ⟨32, ap.cs ++ aq.cs⟩ ty32 ?_
  refine zzc 65 [(6, .adr 6 0)] [(6, ⟨32, ap.cs ++ aq.cs⟩)] (zzn (zyt (zzv (ret0 [.agg #[.bool ap.s, ap.m.v, ap.d.v, .bool aq.s, aq.m.v, aq.d.v]] ⟨zzq ty32 zze, trivial⟩ fun dU aR => ?_))))
  have hc := Nt.cosA_3 (r := r) (q := q) (b := k) (by have h9 := aa; simp at h9; omega) (by have h9 := ae; simp at h9; omega) (by have h9 := aj; simp at h9; omega)
  refine ⟨ap, aq, rfl, RatN.more (K := 80) ?_ xq, RatN.more (K := 80) ?_ xq⟩
  ·rw [hc]; exact (bx.ext aR)
  rw [hc]; exact (bG.ext aR)
 have bq : ¬ 3 * r = q := by have h9 := aj; simp at h9; omega
 refine zzr (zzo ?_)
 refine zzd (sw_pubA (r := 3) (t := 3) [3] xz xj (by rfl) (by rfl) xj (fun cc c4 dx cQ cO bk => ?_))
 refine sw_pubA (r := 4) (t := 4) [4] xz xj (by rfl) (by rfl) xj (fun cp ew cE cL cJ bg => ?_)
 refine zzf (sy_fun 62 [.pointer (some ⟨cc, 0, none⟩), .pointer (some ⟨cp, 0, none⟩)] ?_)
 refine zza 63 (zI k) (zzg 64 101 _ fun _ _ aS bQ => Post.mono (k_irrCos (k := k) bQ ((cE.trans aS).cells bk) (aS.cells bg) hq0 xq xq xq (hG r xq xq xq) bs xq) ?_)
 rintro _ dI ef ⟨ar, al, rfl, bM, cm⟩
 refine zzi ⟨32, ar.cs ++ al.cs⟩ ty32 ?_
 refine zzc 65 [(6, .adr 6 0)] [(6, ⟨32, ar.cs ++ al.cs⟩)] (zzn (ret0 [.agg #[.bool ar.s, ar.m.v, ar.d.v, .bool al.s, al.m.v, al.d.v]] ⟨zzq ty32 zze, trivial⟩ fun dq bc => ?_))
 have hc := Nt.cosA_g (r := r) (q := q) (b := k) (by have h9 := aa; simp at h9; omega) (by have h9 := ae; simp at h9; omega) (by have h9 := aj; simp at h9; omega)
 refine ⟨ar, al, rfl, RatN.more (K := 70) ?_ xq, RatN.more (K := 70) ?_ xq⟩
 ·rw [hc]; exact (bM.ext bc)
 rw [hc]; exact (cm.ext bc)
set_option maxHeartbeats 4000000 in
theorem k_cosine {u w : World} {p : Int} {q k : Nat} (d : Dat u w) (hq0 : 0 < q) (hq2 : q ≤ 10000) (hG0 : Nt.GapQ q k) (hp0 : -1000000000 ≤ p) (hp1 : p ≤ 1000000000) (hk : k ≤ 256)  : Calls Tryz.prog 100 #[.int .i64 p, .int .i64 (q : Int), .int .i64 (k : Int)] w (Post u w fun v u' => ∃ r1 r2 : RL, v = IV r1 r2 ∧ RatN u' r1 ((Nt.cosV p q k).1) 80 ∧ RatN u' r2 ((Nt.cosV p q k).2) 80) := by
 have htm := Nt.tmod_bd p hq0
 obtain ⟨g, bS, hG⟩ := id hG0
 refine zzl (args := [.int .i64 p, .int .i64 q, .int .i64 k]) Tryz.func100 rfl Tryz.ntmps100 (rs := [.cell 6 32]) Tryz.results100 (le_b rfl) (le_b rfl) d ?_
 refine sq9 (zzj 3 ⟨3, [.int .i64 p]⟩ (zzj 4 ⟨3, [.int .i64 q]⟩ (zzj 6 ⟨32, zw6⟩ (zzb (sq9 (zzh 8 (zI p) ty3 zzk (zzh 9 (zI q) ty3 zzk (zyp 10 (x := zI (IntKind.i64.wrap ((2 : Int) * (q : Int)))) (zI (2 * q : Nat)) (eqI xk) (sy_rem 11 (m := ((2 * q : Nat) : Int)) (Int.tmod p (2 * (q : Int))) xq (by rw [Int.natCast_mul]; rfl) ?_)))))))))
 refine zzi ⟨3, [.int .i64 (Int.tmod p (2 * (q : Int)))]⟩ ty3 ?_
 refine zzb (zzd (sq9 (zzh 12 (zI (Int.tmod p (2 * (q : Int)))) ty3 zzk (zza 13 (zB (decide ((Int.tmod p (2 * (q : Int))) < 0))) (zzb (zzt (b := decide ((Int.tmod p (2 * (q : Int))) < 0)) xj (fun a1 => ?_) (fun a1 => ?_)))))))
 ·have qhb11 := of_decide_eq_true a1
  refine zzf (zzh 14 (zI (Int.tmod p (2 * (q : Int)))) ty3 zzk (zyp 15 (x := zI (IntKind.i64.wrap (0 - (Int.tmod p (2 * (q : Int)))))) (zI (-(Int.tmod p (2 * (q : Int))))) (eqI xk) (zzi ⟨3, [.int .i64 (-(Int.tmod p (2 * (q : Int))))]⟩ ty3 ?_)))
  refine zzb (zzd (sq9 (zzh 16 (zI (-(Int.tmod p (2 * (q : Int))))) ty3 zzk (zzh 17 (zI q) ty3 zzk (zza 18 (zB (decide ((q : Int) < (-(Int.tmod p (2 * (q : Int))))))) (zzb (zzt (b := decide ((q : Int) < (-(Int.tmod p (2 * (q : Int)))))) xj (fun a3 => ?_) (fun a3 => ?_))))))))
  ·have qhb12 := of_decide_eq_true a3
   refine zzf (zzh 19 (zI q) ty3 zzk (zyp 20 (x := zI (IntKind.i64.wrap ((2 : Int) * (q : Int)))) (zI (2 * q : Nat)) (eqI xk) (zzh 21 (zI (-(Int.tmod p (2 * (q : Int))))) ty3 zzk (zyp 22 (x := zI (IntKind.i64.wrap (((2 * q : Nat) : Int) - (-(Int.tmod p (2 * (q : Int))))))) (zI (((2 * q : Nat) : Int) - (-(Int.tmod p (2 * (q : Int)))))) yq (zzi ⟨3, [.int .i64 (((2 * q : Nat) : Int) - (-(Int.tmod p (2 * (q : Int)))))]⟩ ty3 ?_)))))
   refine zzb (zzd (zzd ?_))
   have hfold : (((2 * q : Nat) : Int) - (-(Int.tmod p (2 * (q : Int))))) = ((Nt.fold p q : Nat) : Int) := by unfold Nt.fold; dsimp only; split <;> omega
   rw [hfold]
   have hfl := Nt.fold_le p q hq0
   obtain ⟨r, hr⟩ : ∃ r, Nt.fold p q = r := ⟨_, rfl⟩
   rw [hr] at hfl ⊢
   clear hfold
   refine zzf (zzh 23 (zI r) ty3 zzk (zyp 24 (x := zI (IntKind.i64.wrap ((2 : Int) * (r : Int)))) (zI (2 * r : Nat)) (eqI xk) (zzh 25 (zI q) ty3 zzk (zza 26 (zB (decide ((q : Int) < ((2 * r : Nat) : Int)))) (zzb (zzt (b := decide ((q : Int) < ((2 * r : Nat) : Int))) xj (fun al => ?_) (fun al => ?_)))))))
   ·have qhb13 := of_decide_eq_true al
    have hb9 := al
    refine sq9 (zzh 27 (zI q) ty3 zzk (zzh 28 (zI r) ty3 zzk (zyp 29 (x := zI (IntKind.i64.wrap ((q : Int) - (r : Int)))) (zI (q - r : Nat)) (eqI xk) (zzh 30 (zI q) ty3 zzk (zza 31 (zI k) (zzg 32 100 _ fun _ _ _ fE => Post.mono ((show Calls _ _ #[.int .i64 (q - r : Nat), .int .i64 q, .int .i64 k] _ _ from (by have h9 := k_cosA (p := ((q - r : Nat) : Int)) (q := q) (k := k) fE hq0 hq2 hG0 xq xq hk (by rw [Nt.fold_id xq]; have h8 := of_decide_eq_true hb9; omega); rw [Nt.fold_id xq] at h9; exact h9))) ?_))))))
    rintro _ u19 g20 ⟨dn, dx, rfl, eT, fD⟩
    refine zzj 7 ⟨32, zw6⟩ (zzi ⟨32, dn.cs ++ dx.cs⟩ ty32 ?_)
    refine zzc 65 [(6, .adr 6 0), (7, .adr 7 0)] [(6, ⟨32, zw6⟩), (7, ⟨32, dn.cs ++ dx.cs⟩)] (zzd (zzy [0, 1, 3, 0, 8, 31, 63, 127] [(0, []), (1, []), (3, []), (4, []), (2, []), (5, []), (6, []), (7, [])] xj xj (zza 33 (.adr 7 3) (zzh 34 (.v (dx.v)) ty26 zze (zza 36 (.adr 7 0) (zzh 37 (.v (dn.v)) ty26 zze (zzg 35 176 _ fun _ _ d1 e0 => Post.mono (k_ratNeg e0 (fD.ext d1).raw xq) ?_)))))))
    rintro _ u25 eF ⟨a0, rfl, fF⟩
    refine zzg 38 176 _ fun _ _ dZ ec => Post.mono (k_ratNeg ec (eT.ext (d1.trans (eF.ext.trans dZ))).raw xq) ?_
    rintro _ u31 em ⟨aZ, rfl, f4⟩
    refine zza 39 (.v (.agg #[.bool a0.s, a0.m.v, a0.d.v, .bool aZ.s, aZ.m.v, aZ.d.v])) (zzi ⟨32, a0.cs ++ aZ.cs⟩ ty32 ?_)
    refine zzb (zzn (zzv (ret0 [.agg #[.bool a0.s, a0.m.v, a0.d.v, .bool aZ.s, aZ.m.v, aZ.d.v]] ⟨zzq ty32 zze, trivial⟩ fun u34 d2 => ?_)))
    have hc := Nt.cosV_hi (b := k) hr (by have h9 := of_decide_eq_true al; omega)
    refine ⟨a0, aZ, rfl, RatN.more (K := 80) ?_ xq, RatN.more (K := 80) ?_ xq⟩
    ·rw [hc]; exact (fF.ext (dZ.trans (em.ext.trans d2)))
    rw [hc]; exact (f4.ext d2)
   have qhb13 := of_decide_eq_false al
   refine zzr (zzo ?_)
   refine zzd (zzs (sq9 (zzh 41 (zI r) ty3 zzk (zza 42 (zB ((r : Int) == 0)) (zza 40 (zB ((r : Int) == 0)) (zzb (zzt (b := (r : Int) == 0) xj (fun aq => ?_) (fun aq => ?_))))))))
   ·have bJ : (r : Int) = 0 := by simpa using aq
    refine sq9 (zzg 43 118 _ fun _ _ _ e4 => Post.mono (k_ratOf e4 (z := 1) xq xq) ?_)
    rintro _ u40 g41 ⟨r38, rfl, eK⟩
    refine zza 44 (zI k) (zzg 45 177 _ fun _ _ f8 fr => Post.mono (k_exactly (k := k) fr (eK.ext f8) xq xq) ?_)
    rintro _ u48 g49 ⟨a6, a7, rfl, fk, eo⟩
    refine zzi ⟨32, a6.cs ++ a7.cs⟩ ty32 ?_
    refine zzc 65 [(6, .adr 6 0)] [(6, ⟨32, a6.cs ++ a7.cs⟩)] (zzn (zyt (zzv (ret0 [.agg #[.bool a6.s, a6.m.v, a6.d.v, .bool a7.s, a7.m.v, a7.d.v]] ⟨zzq ty32 zze, trivial⟩ fun u51 d0 => ?_))))
    have hc := (Nt.cosV_lo (b := k) hr (by have h9 := of_decide_eq_false al; omega)).trans (Nt.cosA_0 (r := r) (q := q) (b := k) (by have h9 := aq; simp at h9; omega))
    refine ⟨a6, a7, rfl, RatN.more (K := 80) ?_ xq, RatN.more (K := 80) ?_ xq⟩
    ·rw [hc]; exact (fk.ext d0)
    rw [hc]; exact (eo.ext d0)
   have bJ : ¬ ((r : Int) = 0) := by simpa using aq
   refine sq9 (zzh 47 (zI r) ty3 zzk (zyp 48 (x := zI (IntKind.i64.wrap ((2 : Int) * (r : Int)))) (zI (2 * r : Nat)) (eqI xk) (zzh 49 (zI q) ty3 zzk (zza 50 (zB (((2 * r : Nat) : Int) == (q : Int))) (zza 46 (zB (((2 * r : Nat) : Int) == (q : Int))) (zzc 65 [(2, zI k), (3, .adr 3 0), (4, .adr 4 0), (6, .adr 6 0), (46, zB (((2 * r : Nat) : Int) == (q : Int)))] [(3, ⟨3, [.int .i64 r]⟩), (4, ⟨3, [.int .i64 q]⟩), (6, ⟨32, zw6⟩)] (zzt (b := ((2 * r : Nat) : Int) == (q : Int)) xj (fun aN => ?_) (fun aN => ?_))))))))
   ·refine sq9 (zzg 51 118 _ fun _ _ _ fM => Post.mono (k_ratOf fM (z := 0) xq xq) ?_)
    rintro _ u57 g58 ⟨r55, rfl, f2⟩
    refine zza 52 (zI k) (zzg 53 177 _ fun _ _ fi fS => Post.mono (k_exactly (k := k) fS (f2.ext fi) xq xq) ?_)
    rintro _ u65 g66 ⟨bq, bL, rfl, en, fT⟩
    refine zzi ⟨32, bq.cs ++ bL.cs⟩ ty32 ?_
    refine zzb (zzn (zyt (zzv (ret0 [.agg #[.bool bq.s, bq.m.v, bq.d.v, .bool bL.s, bL.m.v, bL.d.v]] ⟨zzq ty32 zze, trivial⟩ fun u68 d3 => ?_))))
    have hc := (Nt.cosV_lo (b := k) hr (by have h9 := of_decide_eq_false al; omega)).trans (Nt.cosA_h (r := r) (q := q) (b := k) (by have h9 := aq; simp at h9; omega) (by have h9 := aN; simp at h9; omega))
    refine ⟨bq, bL, rfl, RatN.more (K := 80) ?_ xq, RatN.more (K := 80) ?_ xq⟩
    ·rw [hc]; exact (en.ext d3)
    rw [hc]; exact (fT.ext d3)
   have cq : ¬ 2 * r = q := by have h9 := aN; simp at h9; omega
   refine sq9 (zzh 55 (zI r) ty3 zzk (zyp 56 (x := zI (IntKind.i64.wrap ((3 : Int) * (r : Int)))) (zI (3 * r : Nat)) (eqI xk) (zzh 57 (zI q) ty3 zzk (zza 58 (zB (((3 * r : Nat) : Int) == (q : Int))) (zza 54 (zB (((3 * r : Nat) : Int) == (q : Int))) (zzb (zzt (b := ((3 * r : Nat) : Int) == (q : Int)) xj (fun aY => ?_) (fun aY => ?_))))))))
   ·refine sq9 (zzg 59 127 _ fun _ _ _ eJ => Post.mono (k_ratFrac eJ (a := 1) (b := 2) xq xq xq xq) ?_)
    rintro _ u74 g75 ⟨r72, rfl, fh⟩
    refine zza 60 (zI k) (zzg 61 177 _ fun _ _ ee ex => Post.mono (k_exactly (k := k) ex (fh.ext ee) xq xq) ?_)
    rintro _ u82 g83 ⟨bt, bM, rfl, ep, fK⟩
    refine zzi ⟨32, bt.cs ++ bM.cs⟩ ty32 ?_
    refine zzb (zzn (zyt (zzv (ret0 [.agg #[.bool bt.s, bt.m.v, bt.d.v, .bool bM.s, bM.m.v, bM.d.v]] ⟨zzq ty32 zze, trivial⟩ fun u85 dR => ?_))))
    have hc := (Nt.cosV_lo (b := k) hr (by have h9 := of_decide_eq_false al; omega)).trans (Nt.cosA_3 (r := r) (q := q) (b := k) (by have h9 := aq; simp at h9; omega) (by have h9 := aN; simp at h9; omega) (by have h9 := aY; simp at h9; omega))
    refine ⟨bt, bM, rfl, RatN.more (K := 80) ?_ xq, RatN.more (K := 80) ?_ xq⟩
    ·rw [hc]; exact (ep.ext dR)
    rw [hc]; exact (fK.ext dR)
   have cQ : ¬ 3 * r = q := by have h9 := aY; simp at h9; omega
   refine zzr (zzo ?_)
   refine zzd (sw_pubA (r := 3) (t := 3) [3] xz xj (by rfl) (by rfl) xj (fun fY u88 e89 eE fs c8 => ?_))
   refine sw_pubA (r := 4) (t := 4) [4] xz xj (by rfl) (by rfl) xj (fun fq u94 e7 eg eA dr => ?_)
   refine zzf (sy_fun 62 [.pointer (some ⟨fY, 0, none⟩), .pointer (some ⟨fq, 0, none⟩)] ?_)
   refine zza 63 (zI k) (zzg 64 101 _ fun _ _ d4 fn => Post.mono (k_irrCos (k := k) fn ((e7.trans d4).cells c8) (d4.cells dr) hq0 xq xq xq (hG r xq xq xq) bS xq) ?_)
   rintro _ e5 f1 ⟨aU, aW, rfl, cB, cd⟩
   refine zzi ⟨32, aU.cs ++ aW.cs⟩ ty32 ?_
   refine zzb (zzn (ret0 [.agg #[.bool aU.s, aU.m.v, aU.d.v, .bool aW.s, aW.m.v, aW.d.v]] ⟨zzq ty32 zze, trivial⟩ fun eL bx => ?_))
   have hc := (Nt.cosV_lo (b := k) hr (by have h9 := of_decide_eq_false al; omega)).trans (Nt.cosA_g (r := r) (q := q) (b := k) (by have h9 := aq; simp at h9; omega) (by have h9 := aN; simp at h9; omega) (by have h9 := aY; simp at h9; omega))
   refine ⟨aU, aW, rfl, RatN.more (K := 70) ?_ xq, RatN.more (K := 70) ?_ xq⟩
   ·rw [hc]; exact (cB.ext bx)
   rw [hc]; exact (cd.ext bx)
  have qhb12 := of_decide_eq_false a3
  refine zzr (zzo ?_)
  refine zzd (zzd ?_)
  have hfold : (-(Int.tmod p (2 * (q : Int)))) = ((Nt.fold p q : Nat) : Int) := by unfold Nt.fold; dsimp only; split <;> omega
  rw [hfold]
  have hfl := Nt.fold_le p q hq0
  obtain ⟨r, hr⟩ : ∃ r, Nt.fold p q = r := ⟨_, rfl⟩
  rw [hr] at hfl ⊢
  clear hfold
  refine zzf (zzh 23 (zI r) ty3 zzk (zyp 24 (x := zI (IntKind.i64.wrap ((2 : Int) * (r : Int)))) (zI (2 * r : Nat)) (eqI xk) (zzh 25 (zI q) ty3 zzk (zza 26 (zB (decide ((q : Int) < ((2 * r : Nat) : Int)))) (zzb (zzt (b := decide ((q : Int) < ((2 * r : Nat) : Int))) xj (fun ac => ?_) (fun ac => ?_)))))))
  ·have qhb109 := of_decide_eq_true ac
   have hb9 := ac
   refine sq9 (zzh 27 (zI q) ty3 zzk (zzh 28 (zI r) ty3 zzk (zyp 29 (x := zI (IntKind.i64.wrap ((q : Int) - (r : Int)))) (zI (q - r : Nat)) (eqI xk) (zzh 30 (zI q) ty3 zzk (zza 31 (zI k) (zzg 32 100 _ fun _ _ _ cL => Post.mono ((show Calls _ _ #[.int .i64 (q - r : Nat), .int .i64 q, .int .i64 k] _ _ from (by have h9 := k_cosA (p := ((q - r : Nat) : Int)) (q := q) (k := k) cL hq0 hq2 hG0 xq xq hk (by rw [Nt.fold_id xq]; have h8 := of_decide_eq_true hb9; omega); rw [Nt.fold_id xq] at h9; exact h9))) ?_))))))
   rintro _ eu fO ⟨a9, a8, rfl, cT, cE⟩
   refine zzj 7 ⟨32, zw6⟩ (zzi ⟨32, a9.cs ++ a8.cs⟩ ty32 ?_)
   refine zzb (zzd (zzy [0, 1, 3, 0, 8, 31, 63, 127] [(0, []), (1, []), (3, []), (4, []), (2, []), (5, []), (6, []), (7, [])] xj xj (zza 33 (.adr 7 3) (zzh 34 (.v (a8.v)) ty26 zze (zza 36 (.adr 7 0) (zzh 37 (.v (a9.v)) ty26 zze (zzg 35 176 _ fun _ _ bG dh => Post.mono (k_ratNeg dh (cE.ext bG).raw xq) ?_)))))))
   rintro _ eN c4 ⟨ag, rfl, dj⟩
   refine zzg 38 176 _ fun _ _ bb c5 => Post.mono (k_ratNeg c5 (cT.ext (bG.trans (c4.ext.trans bb))).raw xq) ?_
   rintro _ fG cb ⟨ak, rfl, df⟩
   refine zza 39 (.v (.agg #[.bool ag.s, ag.m.v, ag.d.v, .bool ak.s, ak.m.v, ak.d.v])) (zzi ⟨32, ag.cs ++ ak.cs⟩ ty32 ?_)
   refine zzc 65 [(6, .adr 6 0)] [(6, ⟨32, ag.cs ++ ak.cs⟩)] (zzn (zzv (ret0 [.agg #[.bool ag.s, ag.m.v, ag.d.v, .bool ak.s, ak.m.v, ak.d.v]] ⟨zzq ty32 zze, trivial⟩ fun e2 bf => ?_)))
   have hc := Nt.cosV_hi (b := k) hr (by have h9 := of_decide_eq_true ac; omega)
   refine ⟨ag, ak, rfl, RatN.more (K := 80) ?_ xq, RatN.more (K := 80) ?_ xq⟩
   ·rw [hc]; exact (dj.ext (bb.trans (cb.ext.trans bf)))
   rw [hc]; exact (df.ext bf)
  have qhb109 := of_decide_eq_false ac
  refine zzr (zzo ?_)
  refine zzd (zzs (sq9 (zzh 41 (zI r) ty3 zzk (zza 42 (zB ((r : Int) == 0)) (zza 40 (zB ((r : Int) == 0)) (zzb (zzt (b := (r : Int) == 0) xj (fun ad => ?_) (fun ad => ?_))))))))
  ·have a2 : (r : Int) = 0 := by simpa using ad
   refine sq9 (zzg 43 118 _ fun _ _ _ c7 => Post.mono (k_ratOf c7 (z := 1) xq xq) ?_)
   rintro _ eS e6 ⟨fI, rfl, de⟩
   refine zza 44 (zI k) (zzg 45 177 _ fun _ _ bX dD => Post.mono (k_exactly (k := k) dD (de.ext bX) xq xq) ?_)
   rintro _ eq fo ⟨aJ, aK, rfl, dC, cf⟩
   refine zzi ⟨32, aJ.cs ++ aK.cs⟩ ty32 ?_
   refine zzb (zzn (zyt (zzv (ret0 [.agg #[.bool aJ.s, aJ.m.v, aJ.d.v, .bool aK.s, aK.m.v, aK.d.v]] ⟨zzq ty32 zze, trivial⟩ fun d6 bn => ?_))))
   have hc := (Nt.cosV_lo (b := k) hr (by have h9 := of_decide_eq_false ac; omega)).trans (Nt.cosA_0 (r := r) (q := q) (b := k) (by have h9 := ad; simp at h9; omega))
   refine ⟨aJ, aK, rfl, RatN.more (K := 80) ?_ xq, RatN.more (K := 80) ?_ xq⟩
   ·rw [hc]; exact (dC.ext bn)
   rw [hc]; exact (cf.ext bn)
  have a2 : ¬ ((r : Int) = 0) := by simpa using ad
  refine sq9 (zzh 47 (zI r) ty3 zzk (zyp 48 (x := zI (IntKind.i64.wrap ((2 : Int) * (r : Int)))) (zI (2 * r : Nat)) (eqI xk) (zzh 49 (zI q) ty3 zzk (zza 50 (zB (((2 * r : Nat) : Int) == (q : Int))) (zza 46 (zB (((2 * r : Nat) : Int) == (q : Int))) (zzb (zzt (b := ((2 * r : Nat) : Int) == (q : Int)) xj (fun an => ?_) (fun an => ?_))))))))
  ·refine sq9 (zzg 51 118 _ fun _ _ _ cz => Post.mono (k_ratOf cz (z := 0) xq xq) ?_)
   rintro _ ez fx ⟨d7, rfl, cu⟩
   refine zza 52 (zI k) (zzg 53 177 _ fun _ _ ck ce => Post.mono (k_exactly (k := k) ce (cu.ext ck) xq xq) ?_)
   rintro _ f5 ei ⟨az, aw, rfl, dF, db⟩
   refine zzi ⟨32, az.cs ++ aw.cs⟩ ty32 ?_
   refine zzc 65 [(6, .adr 6 0)] [(6, ⟨32, az.cs ++ aw.cs⟩)] (zzn (zyt (zzv (ret0 [.agg #[.bool az.s, az.m.v, az.d.v, .bool aw.s, aw.m.v, aw.d.v]] ⟨zzq ty32 zze, trivial⟩ fun fL ba => ?_))))
   have hc := (Nt.cosV_lo (b := k) hr (by have h9 := of_decide_eq_false ac; omega)).trans (Nt.cosA_h (r := r) (q := q) (b := k) (by have h9 := ad; simp at h9; omega) (by have h9 := an; simp at h9; omega))
   refine ⟨az, aw, rfl, RatN.more (K := 80) ?_ xq, RatN.more (K := 80) ?_ xq⟩
   ·rw [hc]; exact (dF.ext ba)
   rw [hc]; exact (db.ext ba)
  have bV : ¬ 2 * r = q := by have h9 := an; simp at h9; omega
  refine sq9 (zzh 55 (zI r) ty3 zzk (zyp 56 (x := zI (IntKind.i64.wrap ((3 : Int) * (r : Int)))) (zI (3 * r : Nat)) (eqI xk) (zzh 57 (zI q) ty3 zzk (zza 58 (zB (((3 * r : Nat) : Int) == (q : Int))) (zza 54 (zB (((3 * r : Nat) : Int) == (q : Int))) (zzc 65 [(2, zI k), (3, .adr 3 0), (4, .adr 4 0), (6, .adr 6 0), (54, zB (((3 * r : Nat) : Int) == (q : Int)))] [(3, ⟨3, [.int .i64 r]⟩), (4, ⟨3, [.int .i64 q]⟩), (6, ⟨32, zw6⟩)] (zzt (b := ((3 * r : Nat) : Int) == (q : Int)) xj (fun au => ?_) (fun au => ?_))))))))
  ·refine sq9 (zzg 59 127 _ fun _ _ _ cl => Post.mono (k_ratFrac cl (a := 1) (b := 2) xq xq xq xq) ?_)
   rintro _ fw eI ⟨fc, rfl, b4⟩
   refine zza 60 (zI k) (zzg 61 177 _ fun _ _ dv dd => Post.mono (k_exactly (k := k) dd (b4.ext dv) xq xq) ?_)
   rintro _ fJ eY ⟨aL, aV, rfl, ct, cp⟩
   refine zzi ⟨32, aL.cs ++ aV.cs⟩ ty32 ?_
   refine zzb (zzn (zyt (zzv (ret0 [.agg #[.bool aL.s, aL.m.v, aL.d.v, .bool aV.s, aV.m.v, aV.d.v]] ⟨zzq ty32 zze, trivial⟩ fun e8 bv => ?_))))
   have hc := (Nt.cosV_lo (b := k) hr (by have h9 := of_decide_eq_false ac; omega)).trans (Nt.cosA_3 (r := r) (q := q) (b := k) (by have h9 := ad; simp at h9; omega) (by have h9 := an; simp at h9; omega) (by have h9 := au; simp at h9; omega))
   refine ⟨aL, aV, rfl, RatN.more (K := 80) ?_ xq, RatN.more (K := 80) ?_ xq⟩
   ·rw [hc]; exact (ct.ext bv)
   rw [hc]; exact (cp.ext bv)
  have bQ : ¬ 3 * r = q := by have h9 := au; simp at h9; omega
  refine zzr (zzo ?_)
  refine zzd (sw_pubA (r := 3) (t := 3) [3] xz xj (by rfl) (by rfl) xj (fun da ed eX dY dN bA => ?_))
  refine sw_pubA (r := 4) (t := 4) [4] xz xj (by rfl) (by rfl) xj (fun dB fy dt dP dV bz => ?_)
  refine zzf (sy_fun 62 [.pointer (some ⟨da, 0, none⟩), .pointer (some ⟨dB, 0, none⟩)] ?_)
  refine zza 63 (zI k) (zzg 64 101 _ fun _ _ bs cM => Post.mono (k_irrCos (k := k) cM ((dt.trans bs).cells bA) (bs.cells bz) hq0 xq xq xq (hG r xq xq xq) bS xq) ?_)
  rintro _ fZ fP ⟨aT, aS, rfl, cX, cA⟩
  refine zzi ⟨32, aT.cs ++ aS.cs⟩ ty32 ?_
  refine zzb (zzn (ret0 [.agg #[.bool aT.s, aT.m.v, aT.d.v, .bool aS.s, aS.m.v, aS.d.v]] ⟨zzq ty32 zze, trivial⟩ fun ey br => ?_))
  have hc := (Nt.cosV_lo (b := k) hr (by have h9 := of_decide_eq_false ac; omega)).trans (Nt.cosA_g (r := r) (q := q) (b := k) (by have h9 := ad; simp at h9; omega) (by have h9 := an; simp at h9; omega) (by have h9 := au; simp at h9; omega))
  refine ⟨aT, aS, rfl, RatN.more (K := 70) ?_ xq, RatN.more (K := 70) ?_ xq⟩
  ·rw [hc]; exact (cX.ext br)
  rw [hc]; exact (cA.ext br)
 have qhb11 := of_decide_eq_false a1
 refine zzr (zzo ?_)
 refine zzd (sq9 (zzh 16 (zI (Int.tmod p (2 * (q : Int)))) ty3 zzk (zzh 17 (zI q) ty3 zzk (zza 18 (zB (decide ((q : Int) < (Int.tmod p (2 * (q : Int)))))) (zzb (zzt (b := decide ((q : Int) < (Int.tmod p (2 * (q : Int))))) xj (fun aG => ?_) (fun aG => ?_)))))))
 ·have qhb205 := of_decide_eq_true aG
  refine zzf (zzh 19 (zI q) ty3 zzk (zyp 20 (x := zI (IntKind.i64.wrap ((2 : Int) * (q : Int)))) (zI (2 * q : Nat)) (eqI xk) (zzh 21 (zI (Int.tmod p (2 * (q : Int)))) ty3 zzk (zyp 22 (x := zI (IntKind.i64.wrap (((2 * q : Nat) : Int) - (Int.tmod p (2 * (q : Int)))))) (zI (((2 * q : Nat) : Int) - (Int.tmod p (2 * (q : Int))))) yq (zzi ⟨3, [.int .i64 (((2 * q : Nat) : Int) - (Int.tmod p (2 * (q : Int))))]⟩ ty3 ?_)))))
  refine zzb (zzd (zzd ?_))
  have hfold : (((2 * q : Nat) : Int) - (Int.tmod p (2 * (q : Int)))) = ((Nt.fold p q : Nat) : Int) := by unfold Nt.fold; dsimp only; split <;> omega
  rw [hfold]
  have hfl := Nt.fold_le p q hq0
  obtain ⟨r, hr⟩ : ∃ r, Nt.fold p q = r := ⟨_, rfl⟩
  rw [hr] at hfl ⊢
  clear hfold
  refine zzf (zzh 23 (zI r) ty3 zzk (zyp 24 (x := zI (IntKind.i64.wrap ((2 : Int) * (r : Int)))) (zI (2 * r : Nat)) (eqI xk) (zzh 25 (zI q) ty3 zzk (zza 26 (zB (decide ((q : Int) < ((2 * r : Nat) : Int)))) (zzb (zzt (b := decide ((q : Int) < ((2 * r : Nat) : Int))) xj (fun ab => ?_) (fun ab => ?_)))))))
  ·have qhb206 := of_decide_eq_true ab
   have hb9 := ab
   refine sq9 (zzh 27 (zI q) ty3 zzk (zzh 28 (zI r) ty3 zzk (zyp 29 (x := zI (IntKind.i64.wrap ((q : Int) - (r : Int)))) (zI (q - r : Nat)) (eqI xk) (zzh 30 (zI q) ty3 zzk (zza 31 (zI k) (zzg 32 100 _ fun _ _ _ cP => Post.mono ((show Calls _ _ #[.int .i64 (q - r : Nat), .int .i64 q, .int .i64 k] _ _ from (by have h9 := k_cosA (p := ((q - r : Nat) : Int)) (q := q) (k := k) cP hq0 hq2 hG0 xq xq hk (by rw [Nt.fold_id xq]; have h8 := of_decide_eq_true hb9; omega); rw [Nt.fold_id xq] at h9; exact h9))) ?_))))))
   rintro _ fm f7 ⟨bh, bl, rfl, cJ, cR⟩
   refine zzj 7 ⟨32, zw6⟩ (zzi ⟨32, bh.cs ++ bl.cs⟩ ty32 ?_)
   refine zzb (zzd (zzy [0, 1, 3, 0, 8, 31, 63, 127] [(0, []), (1, []), (3, []), (4, []), (2, []), (5, []), (6, []), (7, [])] xj xj (zza 33 (.adr 7 3) (zzh 34 (.v (bl.v)) ty26 zze (zza 36 (.adr 7 0) (zzh 37 (.v (bh.v)) ty26 zze (zzg 35 176 _ fun _ _ bK bZ => Post.mono (k_ratNeg bZ (cR.ext bK).raw xq) ?_)))))))
   rintro _ fH b6 ⟨aj, rfl, dG⟩
   refine zzg 38 176 _ fun _ _ bI b9 => Post.mono (k_ratNeg b9 (cJ.ext (bK.trans (b6.ext.trans bI))).raw xq) ?_
   rintro _ e1 cU ⟨am, rfl, c0⟩
   refine zza 39 (.v (.agg #[.bool aj.s, aj.m.v, aj.d.v, .bool am.s, am.m.v, am.d.v])) (zzi ⟨32, aj.cs ++ am.cs⟩ ty32 ?_)
   refine zzc 65 [(6, .adr 6 0)] [(6, ⟨32, aj.cs ++ am.cs⟩)] (zzn (zzv (ret0 [.agg #[.bool aj.s, aj.m.v, aj.d.v, .bool am.s, am.m.v, am.d.v]] ⟨zzq ty32 zze, trivial⟩ fun fd bB => ?_)))
   have hc := Nt.cosV_hi (b := k) hr (by have h9 := of_decide_eq_true ab; omega)
   refine ⟨aj, am, rfl, RatN.more (K := 80) ?_ xq, RatN.more (K := 80) ?_ xq⟩
   ·rw [hc]; exact (dG.ext (bI.trans (cU.ext.trans bB)))
   rw [hc]; exact (c0.ext bB)
  have qhb206 := of_decide_eq_false ab
  refine zzr (zzo ?_)
  refine zzd (zzs (sq9 (zzh 41 (zI r) ty3 zzk (zza 42 (zB ((r : Int) == 0)) (zza 40 (zB ((r : Int) == 0)) (zzb (zzt (b := (r : Int) == 0) xj (fun af => ?_) (fun af => ?_))))))))
  ·have a4 : (r : Int) = 0 := by simpa using af
   refine sq9 (zzg 43 118 _ fun _ _ _ b5 => Post.mono (k_ratOf b5 (z := 1) xq xq) ?_)
   rintro _ fv es ⟨fg, rfl, dJ⟩
   refine zza 44 (zI k) (zzg 45 177 _ fun _ _ dL cm => Post.mono (k_exactly (k := k) cm (dJ.ext dL) xq xq) ?_)
   rintro _ f3 er ⟨aQ, aH, rfl, dy, di⟩
   refine zzi ⟨32, aQ.cs ++ aH.cs⟩ ty32 ?_
   refine zzb (zzn (zyt (zzv (ret0 [.agg #[.bool aQ.s, aQ.m.v, aQ.d.v, .bool aH.s, aH.m.v, aH.d.v]] ⟨zzq ty32 zze, trivial⟩ fun fa bk => ?_))))
   have hc := (Nt.cosV_lo (b := k) hr (by have h9 := of_decide_eq_false ab; omega)).trans (Nt.cosA_0 (r := r) (q := q) (b := k) (by have h9 := af; simp at h9; omega))
   refine ⟨aQ, aH, rfl, RatN.more (K := 80) ?_ xq, RatN.more (K := 80) ?_ xq⟩
   ·rw [hc]; exact (dy.ext bk)
   rw [hc]; exact (di.ext bk)
  have a4 : ¬ ((r : Int) = 0) := by simpa using af
  refine sq9 (zzh 47 (zI r) ty3 zzk (zyp 48 (x := zI (IntKind.i64.wrap ((2 : Int) * (r : Int)))) (zI (2 * r : Nat)) (eqI xk) (zzh 49 (zI q) ty3 zzk (zza 50 (zB (((2 * r : Nat) : Int) == (q : Int))) (zza 46 (zB (((2 * r : Nat) : Int) == (q : Int))) (zzb (zzt (b := ((2 * r : Nat) : Int) == (q : Int)) xj (fun ao => ?_) (fun ao => ?_))))))))
  ·refine sq9 (zzg 51 118 _ fun _ _ _ c1 => Post.mono (k_ratOf c1 (z := 0) xq xq) ?_)
   rintro _ eP eQ ⟨fV, rfl, cK⟩
   refine zza 52 (zI k) (zzg 53 177 _ fun _ _ ca du => Post.mono (k_exactly (k := k) du (cK.ext ca) xq xq) ?_)
   rintro _ e9 ea ⟨aD, aB, rfl, c9, dc⟩
   refine zzi ⟨32, aD.cs ++ aB.cs⟩ ty32 ?_
   refine zzc 65 [(6, .adr 6 0)] [(6, ⟨32, aD.cs ++ aB.cs⟩)] (zzn (zyt (zzv (ret0 [.agg #[.bool aD.s, aD.m.v, aD.d.v, .bool aB.s, aB.m.v, aB.d.v]] ⟨zzq ty32 zze, trivial⟩ fun ef bD => ?_))))
   have hc := (Nt.cosV_lo (b := k) hr (by have h9 := of_decide_eq_false ab; omega)).trans (Nt.cosA_h (r := r) (q := q) (b := k) (by have h9 := af; simp at h9; omega) (by have h9 := ao; simp at h9; omega))
   refine ⟨aD, aB, rfl, RatN.more (K := 80) ?_ xq, RatN.more (K := 80) ?_ xq⟩
   ·rw [hc]; exact (c9.ext bD)
   rw [hc]; exact (dc.ext bD)
  have bR : ¬ 2 * r = q := by have h9 := ao; simp at h9; omega
  refine sq9 (zzh 55 (zI r) ty3 zzk (zyp 56 (x := zI (IntKind.i64.wrap ((3 : Int) * (r : Int)))) (zI (3 * r : Nat)) (eqI xk) (zzh 57 (zI q) ty3 zzk (zza 58 (zB (((3 * r : Nat) : Int) == (q : Int))) (zza 54 (zB (((3 * r : Nat) : Int) == (q : Int))) (zzc 65 [(2, zI k), (3, .adr 3 0), (4, .adr 4 0), (6, .adr 6 0), (54, zB (((3 * r : Nat) : Int) == (q : Int)))] [(3, ⟨3, [.int .i64 r]⟩), (4, ⟨3, [.int .i64 q]⟩), (6, ⟨32, zw6⟩)] (zzt (b := ((3 * r : Nat) : Int) == (q : Int)) xj (fun av => ?_) (fun av => ?_))))))))
  ·refine sq9 (zzg 59 127 _ fun _ _ _ cW => Post.mono (k_ratFrac cW (a := 1) (b := 2) xq xq xq xq) ?_)
   rintro _ d8 fN ⟨eU, rfl, dm⟩
   refine zza 60 (zI k) (zzg 61 177 _ fun _ _ dk cF => Post.mono (k_exactly (k := k) cF (dm.ext dk) xq xq) ?_)
   rintro _ eM ft ⟨aP, aF, rfl, cn, cC⟩
   refine zzi ⟨32, aP.cs ++ aF.cs⟩ ty32 ?_
   refine zzb (zzn (zyt (zzv (ret0 [.agg #[.bool aP.s, aP.m.v, aP.d.v, .bool aF.s, aF.m.v, aF.d.v]] ⟨zzq ty32 zze, trivial⟩ fun fR bi => ?_))))
   have hc := (Nt.cosV_lo (b := k) hr (by have h9 := of_decide_eq_false ab; omega)).trans (Nt.cosA_3 (r := r) (q := q) (b := k) (by have h9 := af; simp at h9; omega) (by have h9 := ao; simp at h9; omega) (by have h9 := av; simp at h9; omega))
   refine ⟨aP, aF, rfl, RatN.more (K := 80) ?_ xq, RatN.more (K := 80) ?_ xq⟩
   ·rw [hc]; exact (cn.ext bi)
   rw [hc]; exact (cC.ext bi)
  have bU : ¬ 3 * r = q := by have h9 := av; simp at h9; omega
  refine zzr (zzo ?_)
  refine zzd (sw_pubA (r := 3) (t := 3) [3] xz xj (by rfl) (by rfl) xj (fun cS fe d5 dO dQ bE => ?_))
  refine sw_pubA (r := 4) (t := 4) [4] xz xj (by rfl) (by rfl) xj (fun dK eW cH dS dX bw => ?_)
  refine zzf (sy_fun 62 [.pointer (some ⟨cS, 0, none⟩), .pointer (some ⟨dK, 0, none⟩)] ?_)
  refine zza 63 (zI k) (zzg 64 101 _ fun _ _ bg dw => Post.mono (k_irrCos (k := k) dw ((cH.trans bg).cells bE) (bg.cells bw) hq0 xq xq xq (hG r xq xq xq) bS xq) ?_)
  rintro _ d9 eD ⟨aX, aE, rfl, dp, cD⟩
  refine zzi ⟨32, aX.cs ++ aE.cs⟩ ty32 ?_
  refine zzb (zzn (ret0 [.agg #[.bool aX.s, aX.m.v, aX.d.v, .bool aE.s, aE.m.v, aE.d.v]] ⟨zzq ty32 zze, trivial⟩ fun et bC => ?_))
  have hc := (Nt.cosV_lo (b := k) hr (by have h9 := of_decide_eq_false ab; omega)).trans (Nt.cosA_g (r := r) (q := q) (b := k) (by have h9 := af; simp at h9; omega) (by have h9 := ao; simp at h9; omega) (by have h9 := av; simp at h9; omega))
  refine ⟨aX, aE, rfl, RatN.more (K := 70) ?_ xq, RatN.more (K := 70) ?_ xq⟩
  ·rw [hc]; exact (dp.ext bC)
  rw [hc]; exact (cD.ext bC)
 have qhb205 := of_decide_eq_false aG
 refine zzr (zzo ?_)
 refine zzd (zzd ?_)
 have hfold : (Int.tmod p (2 * (q : Int))) = ((Nt.fold p q : Nat) : Int) := by unfold Nt.fold; dsimp only; split <;> omega
 rw [hfold]
 have hfl := Nt.fold_le p q hq0
 obtain ⟨r, hr⟩ : ∃ r, Nt.fold p q = r := ⟨_, rfl⟩
 rw [hr] at hfl ⊢
 clear hfold
 refine zzf (zzh 23 (zI r) ty3 zzk (zyp 24 (x := zI (IntKind.i64.wrap ((2 : Int) * (r : Int)))) (zI (2 * r : Nat)) (eqI xk) (zzh 25 (zI q) ty3 zzk (zza 26 (zB (decide ((q : Int) < ((2 * r : Nat) : Int)))) (zzb (zzt (b := decide ((q : Int) < ((2 * r : Nat) : Int))) xj (fun aa => ?_) (fun aa => ?_)))))))
 ·have qhb302 := of_decide_eq_true aa
  have hb9 := aa
  refine sq9 (zzh 27 (zI q) ty3 zzk (zzh 28 (zI r) ty3 zzk (zyp 29 (x := zI (IntKind.i64.wrap ((q : Int) - (r : Int)))) (zI (q - r : Nat)) (eqI xk) (zzh 30 (zI q) ty3 zzk (zza 31 (zI k) (zzg 32 100 _ fun _ _ _ cw => Post.mono ((show Calls _ _ #[.int .i64 (q - r : Nat), .int .i64 q, .int .i64 k] _ _ from (by have h9 := k_cosA (p := ((q - r : Nat) : Int)) (q := q) (k := k) cw hq0 hq2 hG0 xq xq hk (by rw [Nt.fold_id xq]; have h8 := of_decide_eq_true hb9; omega); rw [Nt.fold_id xq] at h9; exact h9))) ?_))))))
  rintro _ f0 eV ⟨be, bO, rfl, cO, cg⟩
  refine zzj 7 ⟨32, zw6⟩ (zzi ⟨32, be.cs ++ bO.cs⟩ ty32 ?_)
  refine zzb (zzd (zzy [0, 1, 3, 0, 8, 31, 63, 127] [(0, []), (1, []), (3, []), (4, []), (2, []), (5, []), (6, []), (7, [])] xj xj (zza 33 (.adr 7 3) (zzh 34 (.v (bO.v)) ty26 zze (zza 36 (.adr 7 0) (zzh 37 (.v (be.v)) ty26 zze (zzg 35 176 _ fun _ _ bj cr => Post.mono (k_ratNeg cr (cg.ext bj).raw xq) ?_)))))))
  rintro _ ej dH ⟨ah, rfl, cI⟩
  refine zzg 38 176 _ fun _ _ bp ds => Post.mono (k_ratNeg ds (cO.ext (bj.trans (dH.ext.trans bp))).raw xq) ?_
  rintro _ e3 b7 ⟨ai, rfl, cZ⟩
  refine zza 39 (.v (.agg #[.bool ah.s, ah.m.v, ah.d.v, .bool ai.s, ai.m.v, ai.d.v])) (zzi ⟨32, ah.cs ++ ai.cs⟩ ty32 ?_)
  refine zzc 65 [(6, .adr 6 0)] [(6, ⟨32, ah.cs ++ ai.cs⟩)] (zzn (zzv (ret0 [.agg #[.bool ah.s, ah.m.v, ah.d.v, .bool ai.s, ai.m.v, ai.d.v]] ⟨zzq ty32 zze, trivial⟩ fun eZ bH => ?_)))
  have hc := Nt.cosV_hi (b := k) hr (by have h9 := of_decide_eq_true aa; omega)
  refine ⟨ah, ai, rfl, RatN.more (K := 80) ?_ xq, RatN.more (K := 80) ?_ xq⟩
  ·rw [hc]; exact (cI.ext (bp.trans (b7.ext.trans bH)))
  rw [hc]; exact (cZ.ext bH)
 have qhb302 := of_decide_eq_false aa
 refine zzr (zzo ?_)
 refine zzd (zzs (sq9 (zzh 41 (zI r) ty3 zzk (zza 42 (zB ((r : Int) == 0)) (zza 40 (zB ((r : Int) == 0)) (zzb (zzt (b := (r : Int) == 0) xj (fun ae => ?_) (fun ae => ?_))))))))
 ·have a5 : (r : Int) = 0 := by simpa using ae
  refine sq9 (zzg 43 118 _ fun _ _ _ b8 => Post.mono (k_ratOf b8 (z := 1) xq xq) ?_)
  rintro _ ew eO ⟨fB, rfl, c6⟩
  refine zza 44 (zI k) (zzg 45 177 _ fun _ _ c3 cN => Post.mono (k_exactly (k := k) cN (c6.ext c3) xq xq) ?_)
  rintro _ eH fu ⟨aM, aR, rfl, dE, b3⟩
  refine zzi ⟨32, aM.cs ++ aR.cs⟩ ty32 ?_
  refine zzb (zzn (zyt (zzv (ret0 [.agg #[.bool aM.s, aM.m.v, aM.d.v, .bool aR.s, aR.m.v, aR.d.v]] ⟨zzq ty32 zze, trivial⟩ fun fp bc => ?_))))
  have hc := (Nt.cosV_lo (b := k) hr (by have h9 := of_decide_eq_false aa; omega)).trans (Nt.cosA_0 (r := r) (q := q) (b := k) (by have h9 := ae; simp at h9; omega))
  refine ⟨aM, aR, rfl, RatN.more (K := 80) ?_ xq, RatN.more (K := 80) ?_ xq⟩
  ·rw [hc]; exact (dE.ext bc)
  rw [hc]; exact (b3.ext bc)
 have a5 : ¬ ((r : Int) = 0) := by simpa using ae
 refine sq9 (zzh 47 (zI r) ty3 zzk (zyp 48 (x := zI (IntKind.i64.wrap ((2 : Int) * (r : Int)))) (zI (2 * r : Nat)) (eqI xk) (zzh 49 (zI q) ty3 zzk (zza 50 (zB (((2 * r : Nat) : Int) == (q : Int))) (zza 46 (zB (((2 * r : Nat) : Int) == (q : Int))) (zzb (zzt (b := ((2 * r : Nat) : Int) == (q : Int)) xj (fun ap => ?_) (fun ap => ?_))))))))
 ·refine sq9 (zzg 51 118 _ fun _ _ _ bY => Post.mono (k_ratOf bY (z := 0) xq xq) ?_)
  rintro _ fC fQ ⟨eB, rfl, cy⟩
  refine zza 52 (zI k) (zzg 53 177 _ fun _ _ cc dA => Post.mono (k_exactly (k := k) dA (cy.ext cc) xq xq) ?_)
  rintro _ fj eG ⟨aI, aO, rfl, ci, c2⟩
  refine zzi ⟨32, aI.cs ++ aO.cs⟩ ty32 ?_
  refine zzb (zzn (zyt (zzv (ret0 [.agg #[.bool aI.s, aI.m.v, aI.d.v, .bool aO.s, aO.m.v, aO.d.v]] ⟨zzq ty32 zze, trivial⟩ fun f6 bm => ?_))))
  have hc := (Nt.cosV_lo (b := k) hr (by have h9 := of_decide_eq_false aa; omega)).trans (Nt.cosA_h (r := r) (q := q) (b := k) (by have h9 := ae; simp at h9; omega) (by have h9 := ap; simp at h9; omega))
  refine ⟨aI, aO, rfl, RatN.more (K := 80) ?_ xq, RatN.more (K := 80) ?_ xq⟩
  ·rw [hc]; exact (ci.ext bm)
  rw [hc]; exact (c2.ext bm)
 have bT : ¬ 2 * r = q := by have h9 := ap; simp at h9; omega
 refine sq9 (zzh 55 (zI r) ty3 zzk (zyp 56 (x := zI (IntKind.i64.wrap ((3 : Int) * (r : Int)))) (zI (3 * r : Nat)) (eqI xk) (zzh 57 (zI q) ty3 zzk (zza 58 (zB (((3 * r : Nat) : Int) == (q : Int))) (zza 54 (zB (((3 * r : Nat) : Int) == (q : Int))) (zzb (zzt (b := ((3 * r : Nat) : Int) == (q : Int)) xj (fun ar => ?_) (fun ar => ?_))))))))
 ·refine sq9 (zzg 59 127 _ fun _ _ _ dI => Post.mono (k_ratFrac dI (a := 1) (b := 2) xq xq xq xq) ?_)
  rintro _ eb fU ⟨eC, rfl, dq⟩
  refine zza 60 (zI k) (zzg 61 177 _ fun _ _ b1 ch => Post.mono (k_exactly (k := k) ch (dq.ext b1) xq xq) ?_)
  rintro _ eR ek ⟨ay, aA, rfl, b2, b0⟩
  refine zzi ⟨32, ay.cs ++ aA.cs⟩ ty32 ?_
  refine zzc 65 [(6, .adr 6 0)] [(6, ⟨32, ay.cs ++ aA.cs⟩)] (zzn (zyt (zzv (ret0 [.agg #[.bool ay.s, ay.m.v, ay.d.v, .bool aA.s, aA.m.v, aA.d.v]] ⟨zzq ty32 zze, trivial⟩ fun ff bo => ?_))))
  have hc := (Nt.cosV_lo (b := k) hr (by have h9 := of_decide_eq_false aa; omega)).trans (Nt.cosA_3 (r := r) (q := q) (b := k) (by have h9 := ae; simp at h9; omega) (by have h9 := ap; simp at h9; omega) (by have h9 := ar; simp at h9; omega))
  refine ⟨ay, aA, rfl, RatN.more (K := 80) ?_ xq, RatN.more (K := 80) ?_ xq⟩
  ·rw [hc]; exact (b2.ext bo)
  rw [hc]; exact (b0.ext bo)
 have bW : ¬ 3 * r = q := by have h9 := ar; simp at h9; omega
 refine zzr (zzo ?_)
 refine zzd (sw_pubA (r := 3) (t := 3) [3] xz xj (by rfl) (by rfl) xj (fun cv f9 fX dU dT bF => ?_))
 refine sw_pubA (r := 4) (t := 4) [4] xz xj (by rfl) (by rfl) xj (fun cG fb cY dW dM bP => ?_)
 refine zzf (sy_fun 62 [.pointer (some ⟨cv, 0, none⟩), .pointer (some ⟨cG, 0, none⟩)] ?_)
 refine zza 63 (zI k) (zzg 64 101 _ fun _ _ bN cV => Post.mono (k_irrCos (k := k) cV ((cY.trans bN).cells bF) (bN.cells bP) hq0 xq xq xq (hG r xq xq xq) bS xq) ?_)
 rintro _ fW fA ⟨ax, aC, rfl, cj, cx⟩
 refine zzi ⟨32, ax.cs ++ aC.cs⟩ ty32 ?_
 refine zzc 65 [(6, .adr 6 0)] [(6, ⟨32, ax.cs ++ aC.cs⟩)] (zzn (ret0 [.agg #[.bool ax.s, ax.m.v, ax.d.v, .bool aC.s, aC.m.v, aC.d.v]] ⟨zzq ty32 zze, trivial⟩ fun eh bu => ?_))
 have hc := (Nt.cosV_lo (b := k) hr (by have h9 := of_decide_eq_false aa; omega)).trans (Nt.cosA_g (r := r) (q := q) (b := k) (by have h9 := ae; simp at h9; omega) (by have h9 := ap; simp at h9; omega) (by have h9 := ar; simp at h9; omega))
 refine ⟨ax, aC, rfl, RatN.more (K := 70) ?_ xq, RatN.more (K := 70) ?_ xq⟩
 ·rw [hc]; exact (cj.ext bu)
 rw [hc]; exact (cx.ext bu)
theorem k_ePermitted {u w : World} {n : Int} (d : Dat u w) : Calls Tryz.prog 77 #[.int .i64 n] w (Post u w fun v _ => v = .bool (decide (0 ≤ n ∧ n ≤ 256))) := by
 refine zzl (args := [.int .i64 n]) Tryz.func77 rfl Tryz.ntmps77 (rs := [.tmp 2]) Tryz.results77 (le_b rfl) (le_b rfl) d ?_
 refine sq9 (zza 2 (zB false) (zzb (sq9 (zza 3 (zI n) (zza 4 (zB (decide ((0 : Int) ≤ n))) ?_)))))
 rcases Bool.eq_false_or_eq_true (decide ((0 : Int) ≤ n)) with hs11 | hs11
 ·refine zyp 5 (x := zB (decide ((0 : Int) ≤ n))) (zB true) (by rw [hs11]) ?_
  have qhs11 := of_decide_eq_true hs11
  refine zza 6 (zI n) ?_ (hw := w1 2 true 5)
  refine zza 7 (zB (decide (n ≤ 256))) ?_ (hw := w1 2 true 5)
  refine zza 8 (zB (decide (n ≤ 256))) (zza 2 (zB (decide (n ≤ 256))) (zzb (zzn (ret0 [.bool (decide (n ≤ 256))] ⟨zzp, trivial⟩ fun u12 e13 => ?_))))
  show Value.bool _ = Value.bool _
  congr 1
  symm
  have h9 := of_decide_eq_true hs11
  by_cases h8 : n ≤ 256
  ·rw [decide_eq_true h8]; exact decide_eq_true ⟨h9, h8⟩
  rw [decide_eq_false h8]; exact decide_eq_false (fun h => h8 h.2)
 refine zyp 5 (x := zB (decide ((0 : Int) ≤ n))) (zB false) (by rw [hs11]) ?_
 have qhs11 := of_decide_eq_false hs11
 refine zzm 6 (uw 2 true false 5) (zzm 7 (uw 2 true false 5) (zza 8 (zB false) (zza 2 (zB false) (zzb (zzn (ret0 [.bool false] ⟨zzp, trivial⟩ fun u14 e15 => ?_))))))
 show Value.bool _ = Value.bool _
 congr 1
 symm
 exact decide_eq_false (fun h => absurd h.1 (of_decide_eq_false hs11))
theorem k_CosPiG {u w : World} {p : Int} {q k : Nat} (d : Dat u w) (hq1 : 1 ≤ q) (hq2 : q ≤ 1000) (hp0 : -1000000 ≤ p) (hp1 : p ≤ 1000000) (hk : k ≤ 256) (hG : Nt.GapQ q k) : Calls Tryz.prog 31 #[.int .i64 p, .int .i64 (q : Int), .int .i64 (k : Int)] w (Post u w fun v u' => ∃ r1 r2 : RL, v = .tuple #[IV r1 r2, .int .i64 0] ∧ RatN u' r1 ((Nt.cosV p q k).1) 80 ∧ RatN u' r2 ((Nt.cosV p q k).2) 80) := by
 refine zzl (args := [.int .i64 p, .int .i64 q, .int .i64 k]) Tryz.func31 rfl Tryz.ntmps31 (rs := [.cell 6 32, .tmp 7]) Tryz.results31 (le_b rfl) (le_b rfl) d ?_
 refine sq9 (zzj 6 ⟨32, zw6⟩ (zza 7 (zI 0) (zzb (zzd (sq9 (zza 8 (zI k) (zzg 9 77 _ fun _ _ _ ae => Post.mono (k_ePermitted (n := (k : Int)) ae) ?_)))))))
 rintro _ u12 g13 rfl
 refine zza 10 (zB (!(decide (0 ≤ (k : Int) ∧ (k : Int) ≤ 256)))) (zqB 11 (show (!(decide (0 ≤ (k : Int) ∧ (k : Int) ≤ 256))) = false from (by rw [decide_eq_true xq]; rfl)) (zza 12 (zI q) ?_ (hw := w1 3 false 11)))
 refine zza 13 (zB (decide ((q : Int) < 1))) ?_ (hw := w1 3 false 11)
 refine zza 14 (zB (decide ((q : Int) < 1))) (zqB 15 (show (decide ((q : Int) < 1)) = false from decide_eq_false xq) (zza 16 (zI q) ?_ (hw := w1 7 false 15)))
 refine zza 17 (zB (decide ((1000 : Int) < (q : Int)))) ?_ (hw := w1 7 false 15)
 refine zza 18 (zB (decide ((1000 : Int) < (q : Int)))) (zqB 19 (show (decide ((1000 : Int) < (q : Int))) = false from decide_eq_false xq) (zza 20 (zI p) ?_ (hw := w1 11 false 19)))
 refine zza 21 (zB (decide (p < (-1000000)))) ?_ (hw := w1 11 false 19)
 refine zza 22 (zB (decide (p < (-1000000)))) (zqB 23 (show (decide (p < (-1000000))) = false from decide_eq_false xq) (zza 24 (zI p) ?_ (hw := w1 15 false 23)))
 refine zza 25 (zB (decide ((1000000 : Int) < p))) ?_ (hw := w1 15 false 23)
 refine zza 26 (zB (decide ((1000000 : Int) < p))) (zzb (zzt (b := decide ((1000000 : Int) < p)) xj (fun hb => ?_) (fun hb => ?_)))
 ·exact absurd hb (by rw [show (decide ((1000000 : Int) < p)) = false from decide_eq_false xq]; decide)
 clear hb
 refine zzr (zzo ?_)
 refine sq9 (zza 28 (zI p) (zza 29 (zI q) (zza 30 (zI k) (zzg 31 100 _ fun _ _ _ af => Post.mono (k_cosine (p := p) (q := q) (k := k) af xq xq hG xq xq xq) ?_))))
 rintro _ u24 g25 ⟨aa, ab, rfl, ad, ag⟩
 refine zzi ⟨32, aa.cs ++ ab.cs⟩ ty32 ?_
 refine zza 7 (zI 0) (zzb (zzn (ret0 [.agg #[.bool aa.s, aa.m.v, aa.d.v, .bool ab.s, ab.m.v, ab.d.v], .int .i64 0] ⟨zzq ty32 zze, zzp, trivial⟩ fun u27 ac => ?_)))
 exact ⟨aa, ab, rfl, RatN.more (ad.ext ac) xq, RatN.more (ag.ext ac) xq⟩
theorem k_SinPiG {u w : World} {p : Int} {q k : Nat} (d : Dat u w) (hq1 : 1 ≤ q) (hq2 : q ≤ 1000) (hp0 : -1000000 ≤ p) (hp1 : p ≤ 1000000) (hk : k ≤ 256) (hG : Nt.GapQ (2 * q) k) : Calls Tryz.prog 36 #[.int .i64 p, .int .i64 (q : Int), .int .i64 (k : Int)] w (Post u w fun v u' => ∃ r1 r2 : RL, v = .tuple #[IV r1 r2, .int .i64 0] ∧ RatN u' r1 ((Nt.cosV ((q : Int) - 2 * p) (2 * q) k).1) 80 ∧ RatN u' r2 ((Nt.cosV ((q : Int) - 2 * p) (2 * q) k).2) 80) := by
 refine zzl (args := [.int .i64 p, .int .i64 q, .int .i64 k]) Tryz.func36 rfl Tryz.ntmps36 (rs := [.cell 6 32, .tmp 7]) Tryz.results36 (le_b rfl) (le_b rfl) d ?_
 refine sq9 (zzj 6 ⟨32, zw6⟩ (zza 7 (zI 0) (zzb (zzd (sq9 (zza 8 (zI k) (zzg 9 77 _ fun _ _ _ ae => Post.mono (k_ePermitted (n := (k : Int)) ae) ?_)))))))
 rintro _ u12 g13 rfl
 refine zza 10 (zB (!(decide (0 ≤ (k : Int) ∧ (k : Int) ≤ 256)))) (zqB 11 (show (!(decide (0 ≤ (k : Int) ∧ (k : Int) ≤ 256))) = false from (by rw [decide_eq_true xq]; rfl)) (zza 12 (zI q) ?_ (hw := w1 3 false 11)))
 refine zza 13 (zB (decide ((q : Int) < 1))) ?_ (hw := w1 3 false 11)
 refine zza 14 (zB (decide ((q : Int) < 1))) (zqB 15 (show (decide ((q : Int) < 1)) = false from decide_eq_false xq) (zza 16 (zI q) ?_ (hw := w1 7 false 15)))
 refine zza 17 (zB (decide ((1000 : Int) < (q : Int)))) ?_ (hw := w1 7 false 15)
 refine zza 18 (zB (decide ((1000 : Int) < (q : Int)))) (zqB 19 (show (decide ((1000 : Int) < (q : Int))) = false from decide_eq_false xq) (zza 20 (zI p) ?_ (hw := w1 11 false 19)))
 refine zza 21 (zB (decide (p < (-1000000)))) ?_ (hw := w1 11 false 19)
 refine zza 22 (zB (decide (p < (-1000000)))) (zqB 23 (show (decide (p < (-1000000))) = false from decide_eq_false xq) (zza 24 (zI p) ?_ (hw := w1 15 false 23)))
 refine zza 25 (zB (decide ((1000000 : Int) < p))) ?_ (hw := w1 15 false 23)
 refine zza 26 (zB (decide ((1000000 : Int) < p))) (zzb (zzt (b := decide ((1000000 : Int) < p)) xj (fun hb => ?_) (fun hb => ?_)))
 ·exact absurd hb (by rw [show (decide ((1000000 : Int) < p)) = false from decide_eq_false xq]; decide)
 clear hb
 refine zzr (zzo ?_)
 refine sq9 (zza 28 (zI q) (zza 29 (zI p) (zyp 30 (x := zI (IntKind.i64.wrap ((2 : Int) * p))) (zI ((2 : Int) * p)) yq (zyp 31 (x := zI (IntKind.i64.wrap ((q : Int) - ((2 : Int) * p)))) (zI ((q : Int) - ((2 : Int) * p))) yq (zza 32 (zI q) (zyp 33 (x := zI (IntKind.i64.wrap ((2 : Int) * (q : Int)))) (zI (2 * q : Nat)) (eqI xk) (zza 34 (zI k) (zzg 35 100 _ fun _ _ _ af => Post.mono (k_cosine (p := (q : Int) - ((2 : Int) * p)) (q := 2 * q) (k := k) af xq xq hG xq xq xq) ?_))))))))
 rintro _ u24 g25 ⟨aa, ab, rfl, ad, ag⟩
 refine zzi ⟨32, aa.cs ++ ab.cs⟩ ty32 ?_
 refine zza 7 (zI 0) (zzc 36 [(6, .adr 6 0), (7, zI 0)] [(6, ⟨32, aa.cs ++ ab.cs⟩)] (zzn (ret0 [.agg #[.bool aa.s, aa.m.v, aa.d.v, .bool ab.s, ab.m.v, ab.d.v], .int .i64 0] ⟨zzq ty32 zze, zzp, trivial⟩ fun u27 ac => ?_)))
 exact ⟨aa, ab, rfl, RatN.more (ad.ext ac) xq, RatN.more (ag.ext ac) xq⟩
set_option maxHeartbeats 1000000 in
theorem k_ratNearest {u w : World} {r : RL} {q : Rat} {K k : Nat} (hk : k ≤ 256) (d : Dat u w) (hr : RatV u r q K) (hK : K ≤ 1000000) : Calls Tryz.prog 203 #[r.v, .int .i64 (k : Int)] w (Post u w fun v u' => ∃ p : RL, v = .tuple #[p.v, .int .i64 0] ∧ RatN u' p (Nt.gr k (Nt.nrZ q k)) (K + 30)) := by
 refine zzl (args := [r.v, .int .i64 k]) Tryz.func203 rfl Tryz.ntmps203 (rs := [.cell 4 26, .tmp 5]) Tryz.results203 (le_b rfl) (le_b rfl) d ?_
 refine sq9 (zzj 2 ⟨26, r.cs⟩ (zzj 4 ⟨26, zw3⟩ (zza 5 (zI 0) (zzb (zzd (sq9 (zza 8 (zI k) (zza 9 (zB (decide ((k : Int) < 0))) (zqB 10 (show (decide ((k : Int) < 0)) = false from decide_eq_false xq) (zza 11 (zI k) ?_ (hw := w1 2 false 10)))))))))))
 refine zza 12 (zB (decide ((256 : Int) < (k : Int)))) ?_ (hw := w1 2 false 10)
 refine zza 13 (zB (decide ((256 : Int) < (k : Int)))) (zzb (zzt (b := decide ((256 : Int) < (k : Int))) xj (fun hb => ?_) (fun hb => ?_)))
 ·exact absurd hb (by rw [show (decide ((256 : Int) < (k : Int))) = false from decide_eq_false xq]; decide)
 clear hb
 refine zzr (zzo ?_)
 refine sq9 (zzh 15 (.v (r.v)) ty26 zze (zzg 16 147 _ fun _ _ ar aD => Post.mono (k_read aD (hr.ext ar)) ?_))
 rintro _ u14 g15 ⟨aa, ak, rfl, z13, D13, ae, ab, ac, ai, aG, ap⟩
 refine zzj 6 ⟨149, [.bool false, .slice none 0 0, .slice none 0 0, .bool false]⟩ (zzi ⟨149, aa.cs ++ [.bool ak]⟩ ty149 ?_)
 refine zzb (zzd (zzy [0, 1, 3, 0, 8, 31, 0, 64, 192, 511, 1023, 0, 4095] [(0, []), (1, []), (2, []), (3, []), (4, []), (6, []), (7, []), (8, []), (11, []), (5, []), (9, []), (10, []), (12, [])] xj xj (zza 17 (.adr 6 0) (zza 18 (.adr 6 0) (zzh 19 (.v (.agg #[.bool aa.s, aa.m.v])) ty24 zze (zza 20 (zI k) (zyp 21 (x := zI (IntKind.i64.wrap ((k : Int) + 1))) (zI (k + 1 : Nat)) (eqI xk) (zza 23 (.adr 6 0) (zza 24 (.adr 6 2) (zzh 25 (.v (aa.d.v)) ty22 zzk (zzj 7 ⟨24, [.bool false, .slice none 0 0]⟩ ?_)))))))))))
 refine zzg 22 242 _ fun _ _ ag ay => Post.mono (k_double (s := k + 1) ay (ae.ext ag) xq xq) ?_
 rintro _ u20 ao ⟨y18, rfl, aA⟩
 refine zzg 26 195 _ fun _ _ af ax => Post.mono (k_natural (x := aa.d) ax) ?_
 rintro _ u24 ah rfl
 refine zzg 27 159 _ fun _ _ aj aC => Post.mono (k_intAdd aC (aA.ext (af.trans (ah.ext.trans aj))) (nat_int (ab.ext (ag.trans (ao.ext.trans (af.trans (ah.ext.trans aj)))))) xq xq) ?_
 rintro _ u30 aB ⟨al, rfl, aw⟩
 refine zzi ⟨24, al.cs⟩ ty24 ?_
 refine zzb (zzd (zzy [0, 0, 2, 6, 14, 0, 63, 127, 255] [(0, []), (1, []), (2, []), (3, []), (5, []), (4, []), (6, []), (7, []), (8, [])] xj xj (zzh 28 (.v (al.v)) ty24 zze (zza 29 (.adr 6 0) (zza 30 (.adr 6 2) (zzh 31 (.v (aa.d.v)) ty22 zzk (zza 33 (zI k) (zzg 32 79 _ fun _ _ am au => Post.mono (k_natShift (s := 1) au (ab.ext (ag.trans (ao.ext.trans (af.trans (ah.ext.trans (aj.trans (aB.ext.trans am))))))) xq xq) ?_))))))))
 rintro _ u36 aE ⟨x34, rfl, aF⟩
 refine zzg 34 243 _ fun _ _ an aq => Post.mono (k_onGrid (s := k) aq (aw.ext (am.trans (aE.ext.trans an))).raw (aF.ext an).raw (Nat.mul_pos ac xw) xq xq xq) ?_
 rintro _ u42 g43 ⟨ad, rfl, az⟩
 refine zzi ⟨26, ad.cs⟩ ty26 ?_
 refine zza 5 (zI 0) (zzc 35 [(4, .adr 4 0), (5, zI 0)] [(4, ⟨26, ad.cs⟩)] (zzn (ret0 [ad.v, .int .i64 0] ⟨zzq ty26 zze, zzp, trivial⟩ fun u45 av => ?_)))
 refine ⟨ad, rfl, RatN.more (K := ((max (K + (k + 1) / 32 + 1) K + 1) + k / 32 + 3)) ?_ xq⟩
 have h9 := (az.ext av)
 rw [ai, ← Nt.nr_mk ac]
 exact h9
theorem k_pfloor {u w : World} {r : RL} {q : Rat} {K : Nat} (d : Dat u w) (hr : RatV u r q K) (hK : K ≤ 1000000) : Calls Tryz.prog 245 #[r.v] w (Post u w fun v u' => ∃ i : IL, v = i.v ∧ IntN u' i (Nt.flr q) (K + 1)) := by
 refine zzl (args := [r.v]) Tryz.func245 rfl Tryz.ntmps245 (rs := [.cell 2 24]) Tryz.results245 (le_b rfl) (le_b rfl) d ?_
 refine sq9 (zzj 1 ⟨26, r.cs⟩ (zzj 2 ⟨24, [.bool false, .slice none 0 0]⟩ (zzb (sq9 (zzh 7 (.v (r.v)) ty26 zze (zzg 8 147 _ fun _ _ ar al => Post.mono (k_read al (hr.ext ar)) ?_))))))
 rintro _ u13 g14 ⟨ab, ag, rfl, z12, D12, ae, ad, ac, af, am, au⟩
 refine zzj 3 ⟨149, [.bool false, .slice none 0 0, .slice none 0 0, .bool false]⟩ (zzi ⟨149, ab.cs ++ [.bool ag]⟩ ty149 ?_)
 refine zzb (zzd (zzy [0, 1, 3, 0, 8, 24, 56, 127, 255, 511, 511, 511, 0, 0, 13311, 30719, 65535] [(0, []), (1, []), (2, []), (3, []), (4, []), (5, []), (12, []), (13, []), (6, []), (7, []), (8, []), (9, []), (10, []), (11, []), (14, []), (15, []), (16, [])] xj xj (zza 10 (.adr 3 0) (zza 11 (.adr 3 0) (zzh 12 (.v (.agg #[.bool ab.s, ab.m.v])) ty24 zze (zza 13 (.adr 3 0) (zza 14 (.adr 3 2) (zzh 15 (.v (ab.d.v)) ty22 zzk (zzj 4 ⟨24, [.bool false, .slice none 0 0]⟩ (zzj 5 ⟨24, [.bool false, .slice none 0 0]⟩ (zzg 16 195 _ fun _ _ ai ao => Post.mono (k_natural (x := ab.d) ao) ?_)))))))))))
 rintro _ u17 ak rfl
 refine zzg 17 180 _ fun _ _ aj ap => Post.mono (k_intDivP ap (ae.ext (ai.trans (ak.ext.trans aj))) (ad.ext (ai.trans (ak.ext.trans aj))) ac xq xq) ?_
 rintro _ u25 g26 ⟨aa, ah, rfl, aq, h24⟩
 refine zza 9 (.v (.tuple #[aa.v, ah.v, .int .i64 0])) (zza 18 (.v (aa.v)) (zza 19 (.v (ah.v)) (zza 20 (zI 0) (zzi ⟨24, aa.cs⟩ ty24 ?_))))
 refine zzi ⟨24, ah.cs⟩ ty24 ?_
 refine zza 6 (zI 0) (zzb (sq9 (zzh 21 (.v (aa.v)) ty24 zze (zzi ⟨24, aa.cs⟩ ty24 ?_))))
 refine zzb (zzn (ret0 [aa.v] ⟨zzq ty24 zze, trivial⟩ fun u28 an => ?_))
 refine ⟨aa, rfl, IntN.more (K := (K + 1)) ?_ xq⟩
 rw [af, Nt.flr_mk ac]
 exact (aq.ext an)
set_option maxHeartbeats 2000000 in
theorem k_fxNearest {u w : World} {r : RL} {W : WL} {z : Int} {K k : Nat} (d : Dat u w) (hW : WdOK W) (hr2 : W.r = 2) (hf : W.f = (k : Int)) (hr : RatV u r (Nt.gr k z) K) (hz0 : -Nt.p2i (W.b - 1) ≤ z) (hz1 : z < Nt.p2i (W.b - 1)) (hK : K ≤ 100000) : Calls Tryz.prog 205 #[W.v, r.v] w (Post u w fun v _ => v = .tuple #[.int .i64 z, .bool true]) := by
 obtain ⟨w1, w2, w3, w4, w5, w6, w7, w8⟩ := id hW
 have aC : Nt.p2i W.f = ((2 ^ k : Nat) : Int) := by rw [hf]; unfold Nt.p2i; simp
 have hp3 := Nt.p2i_24 (n := W.b - 1) xq
 have hp4 := Nt.p2i_24 (n := W.f) xq
 have hp5 := Nt.zxo W.f
 have hp6 := Nt.zxo (W.b - 1)
 refine zzl (args := [.agg #[.int .i64 W.b, .int .i64 W.f, .int .i64 W.r, .int .i64 W.o], r.v]) Tryz.func205 rfl Tryz.ntmps205 (rs := [.tmp 4, .tmp 5]) Tryz.results205 (le_b rfl) (le_b rfl) d ?_
 refine sq9 (zzj 2 ⟨183, W.cs⟩ (zzj 3 ⟨26, r.cs⟩ (zza 4 (zI 0) (zza 5 (zB false) (zzb (zzd (sq9 (zzh 9 (.v (W.v)) ty183 zze (zzg 10 244 _ fun _ _ aF am => Post.mono (k_fxValid (W := W) am hW) ?_)))))))))
 rintro _ u12 an rfl
 refine zza 11 (zB false) (zzb (zyr xj (zzr (zzo ?_))))
 refine zzd (zzy [0, 0, 2, 6, 14, 31, 0, 127] [(0, []), (1, []), (2, []), (3, []), (6, []), (4, []), (5, []), (7, [])] xj xj (zzh 12 (.v (r.v)) ty26 zze (zza 13 (.adr 2 1) (zzh 14 (zI W.f) ty3 zzk (sy_shl 15 (k := .i64) (s := W.f) (Nt.p2i W.f) xq yw (shl_one xq xq) ?_)))))
 refine zzj 6 ⟨26, zw3⟩ (zzg 16 118 _ fun _ _ aH aD => Post.mono (k_ratOf aD (z := Nt.p2i W.f) xq xq) ?_)
 rintro _ u18 au ⟨r16, rfl, aE⟩
 refine zzg 17 123 _ fun _ _ ai al => Post.mono (k_ratMul al (hr.ext (aF.trans (an.ext.trans (aH.trans (au.ext.trans ai))))) (aE.ext ai).raw xq xq) ?_
 rintro _ u24 g25 ⟨ah, rfl, aw⟩
 refine zzi ⟨26, ah.cs⟩ ty26 ?_
 refine zzb (sq9 (zzj 7 ⟨24, [.bool false, .slice none 0 0]⟩ (zzb (zzd (sq9 (zza 18 (.adr 2 2) (zzh 19 (zI W.r) ty3 zzk (zzb (zzs (sq9 (zza 23 (zB (W.r == 2)) ?_)))))))))))
 refine zza 22 (zB (W.r == 2)) (zzb (zzt (b := W.r == 2) xj (fun hb => ?_) (fun hb => ?_)))
 ·clear hb
  refine zzy [0, 0, 3, 7, 15] [(0, []), (1, []), (2, []), (3, []), (4, [])] xj xj (zzh 24 (.v (ah.v)) ty26 zze (zzg 25 127 _ fun _ _ ay aA => Post.mono (k_ratFrac aA (a := 1) (b := 2) xq xq xq xq) ?_))
  rintro _ u30 aB ⟨r28, rfl, av⟩
  refine zzg 26 126 _ fun _ _ ag ap => Post.mono (k_ratAdd ap (aw.ext (ay.trans (aB.ext.trans ag))).raw (av.ext ag).raw xq xq) ?_
  rintro _ u36 g37 ⟨r34, rfl, aG⟩
  refine zzg 27 245 _ fun _ _ ar aj => Post.mono (k_pfloor aj (aG.ext ar).raw xq) ?_
  rintro _ u42 g43 ⟨aa, rfl, az⟩
  refine zzi ⟨24, aa.cs⟩ ty24 ?_
  refine zzw ?_
  refine zzo (zzd (zzd ?_))
  have hZ : (Nt.flr (((Nt.gr k z) * ((Nt.p2i W.f : Int) : Rat)) + (((1 : Int) : Rat) / ((2 : Int) : Rat)))) = z := by rw [aC]; exact Nt.nr_gr z k
  have hz45 := az
  rw [hZ] at hz45
  have hlm := NatN.one_len (int_mag hz45) xq
  have hsz : aa.s = decide (z < 0) := hz45.1
  refine zzf (zza 37 (.adr 7 1) (zzh 38 (.v (aa.m.v)) ty22 zzk (zza 39 (zI aa.m.n) (zza 40 (zB (decide ((1 : Int) < (aa.m.n : Int)))) (zzb (zzt (b := decide ((1 : Int) < (aa.m.n : Int))) xj (fun hb => ?_) (fun hb => ?_)))))))
  ·exact absurd hb (by rw [show (decide ((1 : Int) < (aa.m.n : Int))) = false from decide_eq_false (by split at hlm <;> omega)]; decide)
  clear hb
  refine zzr (zzo ?_)
  refine sq9 (zza 8 (zI 0) (zzb (zzd (sq9 (zza 41 (.adr 7 1) (zzh 42 (.v (aa.m.v)) ty22 zzk (zza 43 (zI aa.m.n) (zza 44 (zB ((aa.m.n : Int) == 1)) (zzb (zzt (b := (aa.m.n : Int) == 1) xj (fun ad => ?_) (fun ad => ?_)))))))))))
  ·have ae : (aa.m.n : Int) = 1 := by simpa using ad
   have ax : 0 < z.natAbs := by have h9 := ad; simp at h9; split at hlm <;> omega
   refine zzf (zza 45 (.adr 7 1) (zzh 46 (.v (aa.m.v)) ty22 zzk ?_))
   obtain ⟨bz, oz, haz, hcz⟩ := NatN.one_cell (int_mag hz45) ax xq
   refine zzz 47 (oz + 0 * 1) (n := aa.m.n) (off := oz) (sz := 1) (i := 0) xq haz xq xq sl22 (zyk 48 (.int .u32 (z.natAbs : Nat)) hcz ty104 (sy_conv 49 ((z.natAbs : Nat) : Int) (fun w => by kernel_rfl) (IntWalk.i64_in _ xq) ?_))
   refine zza 8 (zI z.natAbs) (zzc 59 [(2, .adr 2 0), (7, .adr 7 0), (8, zI z.natAbs)] [(2, ⟨183, W.cs⟩), (7, ⟨24, aa.cs⟩)] (zzd (sq9 (zza 50 (.adr 7 0) (zzh 51 (zB aa.s) ty4 zzk (zzb (zzt (b := aa.s) xj (fun ac => ?_) (fun ac => ?_))))))))
   ·replace ac : aa.s = true := ac
    have af : z < 0 := by rw [hsz] at ac; exact of_decide_eq_true ac
    refine zzf (zza 52 (zI z.natAbs) (zyp 53 (x := zI (IntKind.i64.wrap (0 - (z.natAbs : Int)))) (zI (-(z.natAbs : Int))) (eqI xk) (zza 8 (zI (-(z.natAbs : Int))) (zzb (zzd (sq9 (zzh 54 (.v (W.v)) ty183 zze (zza 55 (zI (-(z.natAbs : Int))) (zzg 56 246 _ fun _ _ _ aI => Post.mono (k_fxFits (W := W) (z := -(z.natAbs : Int)) aI hW xq xq) ?_)))))))))
    rintro _ u49 g50 rfl
    refine zza 57 (zB false) (zzb (zyr xj (zzr (zzo ?_))))
    refine sq9 (zza 58 (zI (-(z.natAbs : Int))) (zza 4 (zI (-(z.natAbs : Int))) (zza 5 (zB true) (zzb (zzn (ret0 [.int .i64 (-(z.natAbs : Int)), .bool true] ⟨zzp, zzp, trivial⟩ fun u52 e53 => ?_))))))
    show Value.tuple #[.int .i64 (-(z.natAbs : Int)), .bool true] = Value.tuple #[.int .i64 z, .bool true]
    rw [show (-(z.natAbs : Int) : Int) = z by omega]
   replace ac : aa.s = false := ac
   have af : ¬ z < 0 := by rw [hsz] at ac; exact of_decide_eq_false ac
   refine zzr (zzo ?_)
   refine zzd (sq9 (zzh 54 (.v (W.v)) ty183 zze (zza 55 (zI z.natAbs) (zzg 56 246 _ fun _ _ _ ao => Post.mono (k_fxFits (W := W) (z := (z.natAbs : Int)) ao hW xq xq) ?_))))
   rintro _ u55 g56 rfl
   refine zza 57 (zB false) (zzb (zyr xj (zzr (zzo ?_))))
   refine sq9 (zza 58 (zI z.natAbs) (zza 4 (zI z.natAbs) (zza 5 (zB true) (zzb (zzn (ret0 [.int .i64 z.natAbs, .bool true] ⟨zzp, zzp, trivial⟩ fun u58 e59 => ?_))))))
   show Value.tuple #[.int .i64 ((z.natAbs : Int)), .bool true] = Value.tuple #[.int .i64 z, .bool true]
   rw [show ((z.natAbs : Int) : Int) = z by omega]
  have ae : ¬ ((aa.m.n : Int) = 1) := by simpa using ad
  have hn0 : z = 0 := by have h9 := ad; simp at h9; split at hlm <;> omega
  refine zzr (zzo ?_)
  refine zzd (sq9 (zza 50 (.adr 7 0) (zzh 51 (zB aa.s) ty4 zzk (zzc 59 [(2, .adr 2 0), (8, zI 0), (51, zB aa.s)] [(2, ⟨183, W.cs⟩)] (zzt (b := aa.s) xj (fun ab => ?_) (fun ab => ?_))))))
  ·replace ab : aa.s = true := ab
   have af : z < 0 := by rw [hsz] at ab; exact of_decide_eq_true ab
   refine zzf (zza 52 (zI 0) (zza 53 (zI 0) (zza 8 (zI 0) (zzb (zzd (sq9 (zzh 54 (.v (W.v)) ty183 zze (zza 55 (zI 0) (zzg 56 246 _ fun _ _ _ aq => Post.mono (k_fxFits (W := W) (z := 0) aq hW xq xq) ?_)))))))))
   rintro _ u62 g63 rfl
   refine zza 57 (zB false) (zzb (zyr xj (zzr (zzo ?_))))
   refine sq9 (zza 58 (zI 0) (zza 4 (zI 0) (zza 5 (zB true) (zzb (zzn (ret0 [.int .i64 0, .bool true] ⟨zzp, zzp, trivial⟩ fun u65 e66 => ?_))))))
   show Value.tuple #[.int .i64 (0), .bool true] = Value.tuple #[.int .i64 z, .bool true]
   rw [show (0 : Int) = z by omega]
  replace ab : aa.s = false := ab
  have af : ¬ z < 0 := by rw [hsz] at ab; exact of_decide_eq_false ab
  refine zzr (zzo ?_)
  refine zzd (sq9 (zzh 54 (.v (W.v)) ty183 zze (zza 55 (zI 0) (zzg 56 246 _ fun _ _ _ ak => Post.mono (k_fxFits (W := W) (z := 0) ak hW xq xq) ?_))))
  rintro _ u68 g69 rfl
  refine zza 57 (zB false) (zzb (zyr xj (zzr (zzo ?_))))
  refine sq9 (zza 58 (zI 0) (zza 4 (zI 0) (zza 5 (zB true) (zzb (zzn (ret0 [.int .i64 0, .bool true] ⟨zzp, zzp, trivial⟩ fun u71 e72 => ?_))))))
  show Value.tuple #[.int .i64 (0), .bool true] = Value.tuple #[.int .i64 z, .bool true]
  rw [show (0 : Int) = z by omega]
 exact absurd hb (by rw [show (W.r == 2) = true from (by rw [hr2]; rfl)]; decide)
set_option maxHeartbeats 1000000 in
theorem k_dcoef {u w : World} {a1 a2 : RL} {x1 x2 : Rat} {K k : Nat} (d : Dat u w) (ha1 : RatV u a1 x1 K) (ha2 : RatV u a2 x2 K) (hk1 : 1 ≤ k) (hk2 : k ≤ 20) (hc0 : -2097152 ≤ Nt.coZ x1 x2 k) (hc1 : Nt.coZ x1 x2 k ≤ 2097152) (hK : K ≤ 10000) : Calls Tryz.prog 137 #[IV a1 a2, .int .i64 (k : Int)] w (Post u w fun v u' => v = .int .i64 (Nt.coZ x1 x2 k)) := by
 have hWk : WdOK (⟨24, (k : Int), 2, 1⟩ : WL) := ⟨(by show (4 : Int) ≤ 24; decide), (by show (24 : Int) ≤ 24; decide), Int.natCast_nonneg k, (by show (k : Int) < 24; omega), (by show (1 : Int) ≤ 2; decide), (by show (2 : Int) ≤ 3; decide), (by show (1 : Int) ≤ 1; decide), (by show (1 : Int) ≤ 2; decide)⟩
 have ae : Nt.p2i (24 - 1) = 8388608 := by decide
 unfold Nt.coZ at hc0 hc1
 refine zzl (args := [.agg #[.bool a1.s, a1.m.v, a1.d.v, .bool a2.s, a2.m.v, a2.d.v], .int .i64 k]) Tryz.func137 rfl Tryz.ntmps137 (rs := [.tmp 4]) Tryz.results137 (le_b rfl) (le_b rfl) d ?_
 refine sq9 (zzj 2 ⟨32, a1.cs ++ a2.cs⟩ (zza 4 (zI 0) (zzb (sq9 (zzh 11 (.v (.agg #[.bool a1.s, a1.m.v, a1.d.v, .bool a2.s, a2.m.v, a2.d.v])) ty32 zze (zzg 12 204 _ fun _ _ ab ac => Post.mono (k_ivMid ac (ha1.ext ab) (ha2.ext ab) xq) ?_))))))
 rintro _ u14 g15 ⟨r12, rfl, af⟩
 refine zza 13 (zI k) (zzg 14 203 _ fun _ _ ag ai => Post.mono (k_ratNearest (k := k) xq ai (af.ext ag).raw xq) ?_)
 rintro _ u20 g21 ⟨aa, rfl, aj⟩
 refine zza 10 (.v (.tuple #[aa.v, .int .i64 0])) (zza 15 (.v (aa.v)) (zza 16 (zI 0) (zzj 5 ⟨26, zw3⟩ (zzi ⟨26, aa.cs⟩ ty26 ?_))))
 refine zza 6 (zI 0) (zzb (zzd (sq9 (zza 17 (zI 0) (zza 18 (zB false) (zzb (zyr xj (zzr (zzo ?_)))))))))
 refine sq9 (zza 19 (zI k) (zza 20 (.v (.agg #[.int .i64 24, .int .i64 k, .int .i64 2, .int .i64 1])) (zzj 7 ⟨183, [.int .i64 0, .int .i64 0, .int .i64 0, .int .i64 0]⟩ (zzi ⟨183, [.int .i64 24, .int .i64 k, .int .i64 2, .int .i64 1]⟩ ty183 ?_))))
 refine zzb (sq9 (zzh 22 (.v (.agg #[.int .i64 24, .int .i64 k, .int .i64 2, .int .i64 1])) ty183 zze (zzh 23 (.v (aa.v)) ty26 zze (zzg 24 205 _ fun _ _ ad ah => Post.mono (k_fxNearest (W := (⟨24, (k : Int), 2, 1⟩ : WL)) (z := (Nt.nrZ ((x1 + x2) * (((1 : Int) : Rat) / ((2 : Int) : Rat))) k)) (k := k) ah hWk rfl rfl (aj.ext ad).raw (by show -Nt.p2i (24 - 1) ≤ _; omega) (by show _ < Nt.p2i (24 - 1); omega) xq) ?_))))
 rintro _ u24 g25 rfl
 refine zza 21 (.v (.tuple #[.int .i64 (Nt.nrZ ((x1 + x2) * (((1 : Int) : Rat) / ((2 : Int) : Rat))) k), .bool true])) (zza 25 (zI (Nt.nrZ ((x1 + x2) * (((1 : Int) : Rat) / ((2 : Int) : Rat))) k)) (zza 26 (zB true) (zza 8 (zI (Nt.nrZ ((x1 + x2) * (((1 : Int) : Rat) / ((2 : Int) : Rat))) k)) (zza 9 (zB true) (zzb (sq9 (zza 27 (zI (Nt.nrZ ((x1 + x2) * (((1 : Int) : Rat) / ((2 : Int) : Rat))) k)) (zza 4 (zI (Nt.nrZ ((x1 + x2) * (((1 : Int) : Rat) / ((2 : Int) : Rat))) k)) (zzb (zzn (ret0 [.int .i64 (Nt.nrZ ((x1 + x2) * (((1 : Int) : Rat) / ((2 : Int) : Rat))) k)] ⟨zzp, trivial⟩ fun u27 e28 => ?_)))))))))))
 rfl
set_option maxHeartbeats 2000000 in
theorem k_rotate {u w : World} {i j p q k : Nat} (d : Dat u w) (hi : i < 64) (hj : j < 64) (hij : i ≠ j) (hp : 0 < p) (hpq : 2 * p ≤ q) (hq : q ≤ 500) (hk1 : 1 ≤ k) (hk2 : k ≤ 20) (hO : Nt.RotOK p q k) : Calls Tryz.prog 69 #[.int .i64 (i : Int), .int .i64 (j : Int), .int .i64 (p : Int), .int .i64 (q : Int), .int .i64 (k : Int)] w (Post u w fun v u' => ∃ x : Sl, v = .tuple #[x.v, .int .i64 0] ∧ IrV 4 u' x (Nt.roL i j p q k)) := by
 have hT0 := hO.t0
 have hT1 := hO.t1
 have hS0 := hO.s0
 have hS1 := hO.s1
 unfold Nt.roT at hT0 hT1
 unfold Nt.roS at hS0 hS1
 refine zzl (args := [.int .i64 i, .int .i64 j, .int .i64 p, .int .i64 q, .int .i64 k]) Tryz.func69 rfl Tryz.ntmps69 (rs := [.tmp 10, .tmp 11]) Tryz.results69 (le_b rfl) (le_b rfl) d ?_
 refine sq9 (zza 10 (.v (.slice none 0 0)) (zza 11 (zI 0) (zzb (zzd (sq9 (zza 22 (zI i) (zza 23 (zB (decide ((i : Int) < 0))) (zqB 24 (show (decide ((i : Int) < 0)) = false from decide_eq_false xq) (zza 25 (zI i) ?_ (hw := w1 2 false 24))))))))))
 refine zza 26 (zB (decide ((64 : Int) ≤ (i : Int)))) ?_ (hw := w1 2 false 24)
 refine zza 27 (zB (decide ((64 : Int) ≤ (i : Int)))) (zqB 28 (show (decide ((64 : Int) ≤ (i : Int))) = false from decide_eq_false xq) (zza 29 (zI j) ?_ (hw := w1 6 false 28)))
 refine zza 30 (zB (decide ((j : Int) < 0))) ?_ (hw := w1 6 false 28)
 refine zza 31 (zB (decide ((j : Int) < 0))) (zqB 32 (show (decide ((j : Int) < 0)) = false from decide_eq_false xq) (zza 33 (zI j) ?_ (hw := w1 10 false 32)))
 refine zza 34 (zB (decide ((64 : Int) ≤ (j : Int)))) ?_ (hw := w1 10 false 32)
 refine zza 35 (zB (decide ((64 : Int) ≤ (j : Int)))) (zqB 36 (show (decide ((64 : Int) ≤ (j : Int))) = false from decide_eq_false xq) (zza 37 (zI i) ?_ (hw := w1 14 false 36)))
 refine zza 38 (zI j) ?_ (hw := w1 14 false 36)
 refine zza 39 (zB ((i : Int) == (j : Int))) ?_ (hw := w1 14 false 36)
 refine zza 40 (zB ((i : Int) == (j : Int))) (zzb (zzt (b := (i : Int) == (j : Int)) xj (fun hb => ?_) (fun hb => ?_)))
 ·exact absurd hb (by rw [show ((i : Int) == (j : Int)) = false from zv]; decide)
 clear hb
 refine zzr (zzo ?_)
 refine zzd (sq9 (zza 41 (zI q) (zza 42 (zB (decide ((500 : Int) < (q : Int)))) (zqB 43 (show (decide ((500 : Int) < (q : Int))) = false from decide_eq_false xq) (zza 44 (zI p) ?_ (hw := w1 2 false 43))))))
 refine zza 45 (zB (decide ((p : Int) ≤ 0))) ?_ (hw := w1 2 false 43)
 refine zza 46 (zB (decide ((p : Int) ≤ 0))) (zqB 47 (show (decide ((p : Int) ≤ 0)) = false from decide_eq_false xq) (zza 48 (zI p) ?_ (hw := w1 6 false 47)))
 refine zza 49 (zI q) ?_ (hw := w1 6 false 47)
 refine sy_quo 50 (n := (q : Int)) (m := 2) ((q / 2 : Nat) : Int) xw (by rw [Int.tdiv_eq_ediv_of_nonneg xq]; exact (IntWalk.i64_in _ xq).trans xq) ?_ (hw := w1 6 false 47)
 refine zza 51 (zB (decide (((q / 2 : Nat) : Int) < (p : Int)))) ?_ (hw := w1 6 false 47)
 refine zza 52 (zB (decide (((q / 2 : Nat) : Int) < (p : Int)))) (zqB 53 (show (decide (((q / 2 : Nat) : Int) < (p : Int))) = false from decide_eq_false xq) (zza 54 (zI k) ?_ (hw := w1 12 false 53)))
 refine zza 55 (zB (decide ((k : Int) < 1))) ?_ (hw := w1 12 false 53)
 refine zza 56 (zB (decide ((k : Int) < 1))) (zqB 57 (show (decide ((k : Int) < 1)) = false from decide_eq_false xq) (zza 58 (zI k) ?_ (hw := w1 16 false 57)))
 refine zza 59 (zB (decide ((20 : Int) < (k : Int)))) ?_ (hw := w1 16 false 57)
 refine zza 60 (zB (decide ((20 : Int) < (k : Int)))) (zzc 127 [(0, zI i), (1, zI j), (2, zI p), (3, zI q), (4, zI k), (60, zB (decide ((20 : Int) < (k : Int))))] [] (zzt (b := decide ((20 : Int) < (k : Int))) xj (fun hb => ?_) (fun hb => ?_)))
 ·exact absurd hb (by rw [show (decide ((20 : Int) < (k : Int))) = false from decide_eq_false xq]; decide)
 clear hb
 refine zzr (zzo ?_)
 refine sq9 (zza 62 (zI p) (zza 63 (zI q) (zyp 64 (x := zI (IntKind.i64.wrap ((2 : Int) * (q : Int)))) (zI (2 * q : Nat)) (eqI xk) (zzg 65 36 _ fun _ _ _ aI => Post.mono (k_SinPiG (p := (p : Int)) (q := 2 * q) (k := 64) aI xq xq xq xq xq hO.g1) ?_))))
 rintro _ u24 g25 ⟨ah, ag, rfl, aG, aF⟩
 refine zza 61 (.v (.tuple #[.agg #[.bool ah.s, ah.m.v, ah.d.v, .bool ag.s, ag.m.v, ag.d.v], .int .i64 0])) (zza 66 (.v (.agg #[.bool ah.s, ah.m.v, ah.d.v, .bool ag.s, ag.m.v, ag.d.v])) (zza 67 (zI 0) (zzj 12 ⟨32, zw6⟩ (zzi ⟨32, ah.cs ++ ag.cs⟩ ty32 ?_))))
 refine zza 13 (zI 0) (zzb (sq9 (zza 69 (zI p) (zza 70 (zI q) (zyp 71 (x := zI (IntKind.i64.wrap ((2 : Int) * (q : Int)))) (zI (2 * q : Nat)) (eqI xk) (zzg 72 31 _ fun _ _ au aH => Post.mono (k_CosPiG (p := (p : Int)) (q := 2 * q) (k := 64) aH xq xq xq xq xq hO.g2) ?_))))))
 rintro _ u32 aq ⟨af, ae, rfl, aC, aK⟩
 refine zza 68 (.v (.tuple #[.agg #[.bool af.s, af.m.v, af.d.v, .bool ae.s, ae.m.v, ae.d.v], .int .i64 0])) (zza 73 (.v (.agg #[.bool af.s, af.m.v, af.d.v, .bool ae.s, ae.m.v, ae.d.v])) (zza 74 (zI 0) (zzj 14 ⟨32, zw6⟩ (zzi ⟨32, af.cs ++ ae.cs⟩ ty32 ?_))))
 refine zza 15 (zI 0) (zzb (sq9 (zza 76 (zI p) (zza 77 (zI q) (zzg 78 36 _ fun _ _ al aM => Post.mono (k_SinPiG (p := (p : Int)) (q := q) (k := 64) aM xq xq xq xq xq hO.g2) ?_)))))
 rintro _ u40 am ⟨ad, ac, rfl, aD, aJ⟩
 refine zza 75 (.v (.tuple #[.agg #[.bool ad.s, ad.m.v, ad.d.v, .bool ac.s, ac.m.v, ac.d.v], .int .i64 0])) (zza 79 (.v (.agg #[.bool ad.s, ad.m.v, ad.d.v, .bool ac.s, ac.m.v, ac.d.v])) (zza 80 (zI 0) (zzj 16 ⟨32, zw6⟩ (zzi ⟨32, ad.cs ++ ac.cs⟩ ty32 ?_))))
 refine zza 17 (zI 0) (zzb (sq9 (zzh 82 (.v (.agg #[.bool ah.s, ah.m.v, ah.d.v, .bool ag.s, ag.m.v, ag.d.v])) ty32 zze (zzh 83 (.v (.agg #[.bool af.s, af.m.v, af.d.v, .bool ae.s, ae.m.v, ae.d.v])) ty32 zze (zzg 84 136 _ fun _ _ aj aA => Post.mono (k_ivDivO aA (aG.ext (au.trans (aq.ext.trans (al.trans (am.ext.trans aj))))).raw (aF.ext (au.trans (aq.ext.trans (al.trans (am.ext.trans aj))))).raw (aC.ext (al.trans (am.ext.trans aj))).raw (aK.ext (al.trans (am.ext.trans aj))).raw xq xq) ?_)))))
 rintro _ az av ⟨ab, aa, rfl, ax⟩
 refine zza 81 (.v (.tuple #[.agg #[.bool ab.s, ab.m.v, ab.d.v, .bool aa.s, aa.m.v, aa.d.v], .int .i64 (Nt.divE (Nt.rCH p q).1 (Nt.rCH p q).2)])) (zza 85 (.v (.agg #[.bool ab.s, ab.m.v, ab.d.v, .bool aa.s, aa.m.v, aa.d.v])) (zza 86 (zI (Nt.divE (Nt.rCH p q).1 (Nt.rCH p q).2)) (zzj 18 ⟨32, zw6⟩ (zzi ⟨32, ab.cs ++ aa.cs⟩ ty32 ?_))))
 refine zza 19 (zI (Nt.divE (Nt.rCH p q).1 (Nt.rCH p q).2)) (zzc 127 [(0, zI i), (1, zI j), (4, zI k), (13, zI 0), (15, zI 0), (16, .adr 16 0), (17, zI 0), (18, .adr 18 0), (19, zI (Nt.divE (Nt.rCH p q).1 (Nt.rCH p q).2))] [(16, ⟨32, ad.cs ++ ac.cs⟩), (18, ⟨32, ab.cs ++ aa.cs⟩)] (zzd (sq9 (zza 87 (zI 0) (zza 88 (zB false) (zza 89 (zB false) (zza 90 (zI 0) ?_ (hw := w1 2 false 89))))))))
 refine zza 91 (zB false) ?_ (hw := w1 2 false 89)
 refine zza 92 (zB false) (zza 93 (zB false) (zza 94 (zI 0) ?_ (hw := w1 6 false 93)))
 refine zza 95 (zB false) ?_ (hw := w1 6 false 93)
 refine zza 96 (zB false) (zza 97 (zB false) (zza 98 (zI (Nt.divE (Nt.rCH p q).1 (Nt.rCH p q).2)) ?_ (hw := w1 10 false 97)))
 refine zza 99 (zB ((Nt.divE (Nt.rCH p q).1 (Nt.rCH p q).2) != 0)) ?_ (hw := w1 10 false 97)
 refine zza 100 (zB ((Nt.divE (Nt.rCH p q).1 (Nt.rCH p q).2) != 0)) (zzb (zzt (b := (Nt.divE (Nt.rCH p q).1 (Nt.rCH p q).2) != 0) xj (fun hb => ?_) (fun hb => ?_)))
 ·exact absurd hb (by rw [show ((Nt.divE (Nt.rCH p q).1 (Nt.rCH p q).2) != 0) = false from (by rw [hO.div.1]; rfl)]; decide)
 clear hb
 refine zzr (zzo ?_)
 refine zzd ?_
 have ai : OptI az ab aa (Nt.divO (Nt.rSH p q).1 (Nt.rSH p q).2 (Nt.rCH p q).1 (Nt.rCH p q).2) (80 + 80 + 20) := ax
 rw [hO.div.2] at ai
 refine zzf (zzh 101 (.v (.agg #[.bool ab.s, ab.m.v, ab.d.v, .bool aa.s, aa.m.v, aa.d.v])) ty32 zze (zza 102 (zI k) (zzg 103 137 _ fun _ _ an aE => Post.mono (k_dcoef (x1 := (Nt.rTA p q).1) (x2 := (Nt.rTA p q).2) (k := k) aE (ai.1.ext an).raw (ai.2.ext an).raw xq xq hO.t0 hO.t1 xq) ?_)))
 rintro _ u52 ar rfl
 refine zza 20 (zI (Nt.coZ ((Nt.rTA p q).1) ((Nt.rTA p q).2) k)) (zzb (sq9 (zzh 104 (.v (.agg #[.bool ad.s, ad.m.v, ad.d.v, .bool ac.s, ac.m.v, ac.d.v])) ty32 zze (zza 105 (zI k) (zzg 106 137 _ fun _ _ ap ay => Post.mono (k_dcoef (x1 := (Nt.rSI p q).1) (x2 := (Nt.rSI p q).2) (k := k) ay (aD.ext (aj.trans (av.ext.trans (an.trans (ar.ext.trans ap))))).raw (aJ.ext (aj.trans (av.ext.trans (an.trans (ar.ext.trans ap))))).raw xq xq hO.s0 hO.s1 xq) ?_)))))
 rintro _ u56 g57 rfl
 refine zza 21 (zI (Nt.coZ ((Nt.rSI p q).1) ((Nt.rSI p q).2) k)) (zzb (sq9 (zza 107 (zI i) (zza 108 (zI j) (zza 109 (zI (Nt.coZ ((Nt.rTA p q).1) ((Nt.rTA p q).2) k)) (zza 110 (zI k) (zza 111 (.v (.agg #[.int .i64 i, .int .i64 j, .int .i64 (Nt.coZ ((Nt.rTA p q).1) ((Nt.rTA p q).2) k), .int .i64 k])) (zza 112 (zI j) (zza 113 (zI i) (zza 114 (zI (Nt.coZ ((Nt.rSI p q).1) ((Nt.rSI p q).2) k)) (zyp 115 (x := zI (IntKind.i64.wrap (0 - (Nt.coZ ((Nt.rSI p q).1) ((Nt.rSI p q).2) k)))) (zI (-(Nt.coZ ((Nt.rSI p q).1) ((Nt.rSI p q).2) k))) (eqI xk) ?_)))))))))))
 refine zza 116 (zI k) (zza 117 (.v (.agg #[.int .i64 j, .int .i64 i, .int .i64 (-(Nt.coZ ((Nt.rSI p q).1) ((Nt.rSI p q).2) k)), .int .i64 k])) (zza 118 (zI i) (zza 119 (zI j) (zza 120 (zI (Nt.coZ ((Nt.rTA p q).1) ((Nt.rTA p q).2) k)) (zza 121 (zI k) (zza 122 (.v (.agg #[.int .i64 i, .int .i64 j, .int .i64 (Nt.coZ ((Nt.rTA p q).1) ((Nt.rTA p q).2) k), .int .i64 k])) (zza 123 (zI j) (zza 124 (zI j) (zza 125 (.v (.agg #[.int .i64 j, .int .i64 j, .int .i64 0, .int .i64 (-2)])) (zxw 126 ⟨90, [.int .i64 i, .int .i64 j, .int .i64 (Nt.coZ ((Nt.rTA p q).1) ((Nt.rTA p q).2) k), .int .i64 k, .int .i64 j, .int .i64 i, .int .i64 (-(Nt.coZ ((Nt.rSI p q).1) ((Nt.rSI p q).2) k)), .int .i64 k, .int .i64 i, .int .i64 j, .int .i64 (Nt.coZ ((Nt.rTA p q).1) ((Nt.rTA p q).2) k), .int .i64 k, .int .i64 j, .int .i64 j, .int .i64 0, .int .i64 (-2)]⟩ 4 (fun ak aw e61 aB => ?_)))))))))))
 have ao : IrV 4 aw (⟨some ⟨ak, 0, none⟩, 4, 4⟩ : Sl) [[(i : Int), (j : Int), (Nt.coZ ((Nt.rTA p q).1) ((Nt.rTA p q).2) k), (k : Int)], [(j : Int), (i : Int), -(Nt.coZ ((Nt.rSI p q).1) ((Nt.rSI p q).2) k), (k : Int)], [(i : Int), (j : Int), (Nt.coZ ((Nt.rTA p q).1) ((Nt.rTA p q).2) k), (k : Int)], [(j : Int), (j : Int), 0, (-2)]] := ir_data aB (rows_cons rfl (rows_cons rfl (rows_cons rfl (rows_cons rfl rows_nil)))) rfl rfl rfl (Nat.le_refl _) yv
 refine zza 10 (.v (.slice (some ⟨ak, 0, none⟩) 4 4)) (zza 11 (zI 0) (zzc 127 [(10, .v (.slice (some ⟨ak, 0, none⟩) 4 4)), (11, zI 0)] [] (zzn (ret0 [.slice (some ⟨ak, 0, none⟩) 4 4, .int .i64 0] ⟨zzp, zzp, trivial⟩ fun u64 aL => ?_))))
 exact ⟨(⟨some ⟨ak, 0, none⟩, 4, 4⟩ : Sl), rfl, (ao.ext aL)⟩
theorem k_sameI {u w : World} {x y : Sl} {l : List Int} (d : Dat u w) (hx : SlR .i64 u x.a x.n x.c l) (hy : SlR .i64 u y.a y.n y.c l) (hb : ∀ z ∈ l, -9223372036854775808 ≤ z ∧ z ≤ 9223372036854775807) (h8 : l.length ≤ 1000000) : Calls Tryz.prog 52 #[x.v, y.v] w (Post u w fun v u' => v = .bool true) := by
 have hlx : l.length = x.n := hx.1
 have hly : l.length = y.n := hy.1
 refine zzl (args := [x.v, y.v]) Tryz.func52 rfl Tryz.ntmps52 (rs := [.tmp 4]) Tryz.results52 (le_b rfl) (le_b rfl) d ?_
 refine sq9 (zza 4 (zB false) (zzb (zzd (sq9 (zza 6 (.v (x.v)) (zza 7 (zI x.n) (zza 8 (.v (y.v)) (zza 9 (zI y.n) (zza 10 (zB ((x.n : Int) != (y.n : Int))) (zzb (zzt (b := (x.n : Int) != (y.n : Int)) xj (fun hb => ?_) (fun hb => ?_))))))))))))
 ·exact absurd hb (by rw [show ((x.n : Int) != (y.n : Int)) = false from (by rw [show y.n = x.n by omega]; simp)]; decide)
 clear hb
 refine zzr (zzo ?_)
 refine zzd (sq9 (zza 5 (zI 0) (zzb (zzs (zym (I := fun ai S' u' => ∃ (i : Nat), (ai = x.n - i) ∧ (i ≤ x.n) ∧ (S' = St.of 26 [(0, .v (x.v)), (1, .v (y.v)), (5, zI i)] []) ∧ (Ext u u')) (fun m S u1 u2 e h => by obtain ⟨i, hm, p0, hS, hE⟩ := h; exact ⟨i, hm, p0, hS, hE.trans e⟩) _ yz ⟨0, rfl, Nat.zero_le _, rfl, (Ext.refl _)⟩ ?_)))))
 rintro ai _ u11 ⟨i, aj, hi, rfl, ab⟩
 refine zzd (sq9 (zza 11 (zI i) (zza 12 (.v (x.v)) (zza 13 (zI x.n) (zza 14 (zB (decide ((i : Int) < (x.n : Int)))) (zzb (zzt (b := decide ((i : Int) < (x.n : Int))) xj (fun aa => ?_) (fun aa => ?_))))))))
 ·have qhb12 := of_decide_eq_true aa
  refine zzr (zzo ?_)
  refine zzd (zzs (zzd (zzy [0, 0, 3, 7, 0, 0, 48, 112, 255] [(0, []), (1, []), (2, []), (3, []), (4, []), (5, []), (6, []), (7, []), (8, [])] xj xj (zza 17 (.v (x.v)) (zza 18 (zI i) ?_)))))
  have hl13 := ((hx.ext ab)).1
  obtain ⟨b13, ag, af, ac⟩ := ints_at (hx.ext ab) (i := i) xq
  have hz13 := ints_bd hb xq i
  refine zzz 19 (ag + i * 1) (n := x.n) (off := ag) (sz := 1) (i := (i : Int)) xq af xq xq sl30 (zyk 20 (.int .i64 (l.getD i 0)) ac ty3 (zza 21 (.v (y.v)) (zza 22 (zI i) ?_)))
  have hl14 := ((hy.ext ab)).1
  obtain ⟨b14, ah, ad, ae⟩ := ints_at (hy.ext ab) (i := i) xq
  have hz14 := ints_bd hb xq i
  refine zzz 23 (ah + i * 1) (n := y.n) (off := ah) (sz := 1) (i := (i : Int)) xq ad xq xq sl30 (zyk 24 (.int .i64 (l.getD i 0)) ae ty3 (zza 25 (zB ((l.getD i 0) != (l.getD i 0))) (zzb (zzt (b := (l.getD i 0) != (l.getD i 0)) xj (fun hb => ?_) (fun hb => ?_)))))
  ·exact absurd hb (by rw [show ((l.getD i 0) != (l.getD i 0)) = false from zk]; decide)
  clear hb
  refine zzr (zzo ?_)
  refine zzf (zza 15 (zI i) (zyp 16 (x := zI (IntKind.i64.wrap ((i : Int) + 1))) (zI (i + 1 : Nat)) (eqI xk) (zza 5 (zI (i + 1 : Nat)) (zzw ?_))))
  refine ⟨_, ?_, _, by exact zzu _ _ _, i + 1, rfl, by omega, rfl, ab⟩
  omega
 have qhb12 := of_decide_eq_false aa
 refine zyb (zzo (sq9 (zza 4 (zB true) (zzb (zzn (ret0 [.bool true] ⟨zzp, trivial⟩ fun u15 e16 => ?_))))))
 rfl
set_option maxHeartbeats 1000000 in
theorem k_known37 {u w : World} (d : Dat u w) : Calls Tryz.prog 51 #[] w (Post u w fun v _ => v = .bool true) := by
 refine zzl (args := []) Tryz.func51 rfl Tryz.ntmps51 (rs := [.tmp 0]) Tryz.results51 (le_b rfl) (le_b rfl) d ?_
 refine sq9 (zza 0 (zB false) (zzb (sq9 (zza 6 (.v (.agg #[.int .i64 0, .int .i64 1, .int .i64 1, .int .i64 1])) (zxw 7 ⟨90, [.int .i64 0, .int .i64 1, .int .i64 1, .int .i64 1]⟩ 1 (fun ax aE e13 aO => ?_))))))
 have am : IrV 4 aE (⟨some ⟨ax, 0, none⟩, 1, 1⟩ : Sl) [[0, 1, 1, 1]] := ir_data aO (rows_cons rfl rows_nil) rfl rfl rfl (Nat.le_refl _) yv
 refine zxw 8 ⟨3, [.int .i64 0, .int .i64 3]⟩ 2 (fun ag aC aB aI => ?_)
 have ai : SlR .i64 aC ((⟨some ⟨ag, 0, none⟩, 2, 2⟩ : Sl)).a ((⟨some ⟨ag, 0, none⟩, 2, 2⟩ : Sl)).n ((⟨some ⟨ag, 0, none⟩, 2, 2⟩ : Sl)).c [0, 3] := ints_data aI rfl rfl (Nat.le_refl _) (by show 2 ≤ maxLen; unfold maxLen; omega)
 refine zzg 9 49 _ fun _ _ ay aD => Post.mono (k_dforward (x := (⟨some ⟨ax, 0, none⟩, 1, 1⟩ : Sl)) (y := (⟨some ⟨ag, 0, none⟩, 2, 2⟩ : Sl)) aD (am.ext (aB.trans ay)) zq (ai.ext ay) xw zq) ?_
 rintro _ u24 g25 ⟨af, rfl, av⟩
 refine zza 5 (.v (.tuple #[af.v, .int .i64 (Nt.chkE ([[0, 1, 1, 1]]) ([0, 3]))])) (zza 10 (.v (af.v)) (zza 11 (zI (Nt.chkE ([[0, 1, 1, 1]]) ([0, 3]))) (zza 1 (.v (af.v)) (zza 2 (zI (Nt.chkE ([[0, 1, 1, 1]]) ([0, 3]))) (zzb (sq9 (zzg 13 69 _ fun _ _ aH aK => Post.mono (k_rotate (i := 0) (j := 1) (p := 1) (q := 4) (k := 4) aK xq xq xw xq xq xq xq xq Nt.rotOK_14) ?_)))))))
 rintro _ u30 aJ ⟨aa, rfl, ab⟩
 have az : aa.n = 4 := ab.len
 refine zza 12 (.v (.tuple #[aa.v, .int .i64 0])) (zza 14 (.v (aa.v)) (zza 15 (zI 0) (zza 3 (.v (aa.v)) (zza 4 (zI 0) (zzb (sq9 (zza 16 (zI (Nt.chkE ([[0, 1, 1, 1]]) ([0, 3]))) (zza 17 (zB ((Nt.chkE ([[0, 1, 1, 1]]) ([0, 3])) == 0)) (zqB 18 (show ((Nt.chkE ([[0, 1, 1, 1]]) ([0, 3])) == 0) = true from xw) (zza 19 (zI 0) ?_ (hw := w1 2 true 18)))))))))))
 refine zza 20 (zB true) ?_ (hw := w1 2 true 18)
 refine zza 21 (zB true) (zza 22 (zB true) (zza 23 (.v (af.v)) ?_ (hw := w1 6 true 22)))
 refine zxw 24 ⟨3, [.int .i64 2, .int .i64 3]⟩ 2 (fun ah aL ad aG => ?_) (hw := w1 6 true 22)
 have ao : SlR .i64 aL ((⟨some ⟨ah, 0, none⟩, 2, 2⟩ : Sl)).a ((⟨some ⟨ah, 0, none⟩, 2, 2⟩ : Sl)).n ((⟨some ⟨ah, 0, none⟩, 2, 2⟩ : Sl)).c [2, 3] := ints_data aG rfl rfl (Nat.le_refl _) (by show 2 ≤ maxLen; unfold maxLen; omega)
 refine zzg 25 52 _ (fun _ _ ac aA => Post.mono (k_sameI (x := af) (y := (⟨some ⟨ah, 0, none⟩, 2, 2⟩ : Sl)) (l := (Nt.fwdL ([[0, 1, 1, 1]]) ([0, 3]))) aA (av.ext (aH.trans (aJ.ext.trans (ad.trans ac)))) (by have h9 : (Nt.fwdL ([[0, 1, 1, 1]]) ([0, 3])) = [2, 3] := rfl; rw [h9]; exact (ao.ext ac)) Nt.fwd_mem xw) ?_) (hw := w1 6 true 22)
 rintro _ u40 ae rfl
 refine zza 26 (zB true) (zza 27 (zB true) (zza 28 (.v (aa.v)) ?_ (hw := w1 11 true 27)))
 refine zza 29 (zI aa.n) ?_ (hw := w1 11 true 27)
 refine zza 30 (zB ((aa.n : Int) == 4)) ?_ (hw := w1 11 true 27)
 refine zza 31 (zB ((aa.n : Int) == 4)) (zqB 32 (show ((aa.n : Int) == 4) = true from zv) (zza 33 (.v (aa.v)) ?_ (hw := w1 16 true 32)))
 have hl44 := ((ab.ext (ad.trans (ac.trans ae.ext)))).len
 obtain ⟨aN, aj, ak, an⟩ := ir_cell4 (ab.ext (ad.trans (ac.trans ae.ext))) (i := 0) (by (show _ < 4; decide))
 refine zzz 34 (aj + 0 * 4) (n := aa.n) (off := aj) (sz := 4) (i := 0) xq ak xq xq sl64 ?_ (hw := w1 16 true 32)
 refine zza 35 (.v (.pointer (some ⟨aN, aj + 0 * 4 + 2, none⟩))) ?_ (hw := w1 16 true 32)
 refine zyk 36 (.int .i64 (gi (Nt.roL 0 1 1 4 4) 0 2)) (an 2 xw) ty3 ?_ (hw := w1 16 true 32)
 refine zza 37 (zB ((gi (Nt.roL 0 1 1 4 4) 0 2) == 7)) ?_ (hw := w1 16 true 32)
 refine zza 38 (zB ((gi (Nt.roL 0 1 1 4 4) 0 2) == 7)) (zqB 39 (show ((gi (Nt.roL 0 1 1 4 4) 0 2) == 7) = true from (show (Nt.roT 1 4 4 == 7) = true by rw [Nt.roT_14]; rfl)) (zza 40 (.v (aa.v)) ?_ (hw := w1 23 true 39)))
 have hl46 := ((ab.ext (ad.trans (ac.trans ae.ext)))).len
 obtain ⟨aF, ap, al, aq⟩ := ir_cell4 (ab.ext (ad.trans (ac.trans ae.ext))) (i := 1) (by (show _ < 4; decide))
 refine zzz 41 (ap + 1 * 4) (n := aa.n) (off := ap) (sz := 4) (i := 1) xq al xq xq sl64 ?_ (hw := w1 23 true 39)
 refine zza 42 (.v (.pointer (some ⟨aF, ap + 1 * 4 + 2, none⟩))) ?_ (hw := w1 23 true 39)
 refine zyk 43 (.int .i64 (gi (Nt.roL 0 1 1 4 4) 1 2)) (aq 2 xw) ty3 ?_ (hw := w1 23 true 39)
 refine zza 44 (zB ((gi (Nt.roL 0 1 1 4 4) 1 2) == (-11))) ?_ (hw := w1 23 true 39)
 refine zza 45 (zB ((gi (Nt.roL 0 1 1 4 4) 1 2) == (-11))) (zqB 46 (show ((gi (Nt.roL 0 1 1 4 4) 1 2) == (-11)) = true from (show (-Nt.roS 1 4 4 == -11) = true by rw [Nt.roS_14]; rfl)) (zza 47 (.v (aa.v)) ?_ (hw := w1 30 true 46)))
 have hl48 := ((ab.ext (ad.trans (ac.trans ae.ext)))).len
 obtain ⟨aM, aw, au, ar⟩ := ir_cell4 (ab.ext (ad.trans (ac.trans ae.ext))) (i := 3) (by (show _ < 4; decide))
 refine zzz 48 (aw + 3 * 4) (n := aa.n) (off := aw) (sz := 4) (i := 3) xq au xq xq sl64 ?_ (hw := w1 30 true 46)
 refine zza 49 (.v (.pointer (some ⟨aM, aw + 3 * 4 + 3, none⟩))) ?_ (hw := w1 30 true 46)
 refine zyk 50 (.int .i64 (gi (Nt.roL 0 1 1 4 4) 3 3)) (ar 3 xw) ty3 ?_ (hw := w1 30 true 46)
 refine zza 51 (zB ((gi (Nt.roL 0 1 1 4 4) 3 3) == (-2))) ?_ (hw := w1 30 true 46)
 refine zza 52 (zB ((gi (Nt.roL 0 1 1 4 4) 3 3) == (-2))) (zza 0 (zB ((gi (Nt.roL 0 1 1 4 4) 3 3) == (-2))) (zzc 53 [(0, zB ((gi (Nt.roL 0 1 1 4 4) 3 3) == (-2)))] [] (zzn (ret0 [.bool ((gi (Nt.roL 0 1 1 4 4) 3 3) == (-2))] ⟨zzp, trivial⟩ fun u49 e50 => ?_))))
 show Value.bool _ = Value.bool true
 rw [show ((gi (Nt.roL 0 1 1 4 4) 3 3) == (-2)) = true from rfl]
theorem k_factor {u w : World} {t f cf sh : Int} (d : Dat u w) (h0 : 0 ≤ sh) (h1 : sh ≤ 20) (hc0 : -2097152 ≤ cf) (hc1 : cf ≤ 2097152) : Calls Tryz.prog 125 #[.agg #[.int .i64 t, .int .i64 f, .int .i64 cf, .int .i64 sh]] w (Post u w fun v u' => ∃ r : RL, v = r.v ∧ RatN u' r (Nt.wq cf sh) 2) := by
 have hp1 := Nt.zxo sh
 have hp2 := Nt.p2i_24 (n := sh) xq
 refine zzl (args := [.agg #[.int .i64 t, .int .i64 f, .int .i64 cf, .int .i64 sh]]) Tryz.func125 rfl Tryz.ntmps125 (rs := [.cell 2 26]) Tryz.results125 (le_b rfl) (le_b rfl) d ?_
 refine sq9 (zzj 1 ⟨90, [.int .i64 t, .int .i64 f, .int .i64 cf, .int .i64 sh]⟩ (zzj 2 ⟨26, zw3⟩ (zzb (zzd (zzy [0, 1, 0, 4, 12, 31, 63] [(0, []), (1, []), (2, []), (3, []), (4, []), (5, []), (6, [])] xj xj (zza 3 (.adr 1 2) (zzh 4 (zI cf) ty3 zzk (zza 5 (.adr 1 3) (zzh 6 (zI sh) ty3 zzk (sy_shl 7 (k := .i64) (s := sh) (Nt.p2i sh) xq yw (shl_one xq xq) ?_))))))))))
 refine zzg 8 127 _ fun _ _ _ ad => Post.mono (k_ratFrac ad (a := cf) (b := Nt.p2i sh) xq xq xq xq) ?_
 rintro _ u14 g15 ⟨aa, rfl, ab⟩
 refine zzi ⟨26, aa.cs⟩ ty26 ?_
 refine zzb (zzn (ret0 [aa.v] ⟨zzq ty26 zze, trivial⟩ fun u17 ac => ?_))
 exact ⟨aa, rfl, (ab.ext ac)⟩
set_option maxHeartbeats 4000000 in
theorem k_combine {u w v0 : World} {x : Sl} {Rs : List Sl} {Ls : List (List RL)} {M : List (List Rat)} {t f n : Nat} {cf sh : Int} (d : Dat u w) (hv : Ext v0 u) (hm : MatQ 1 54 26 v0.heap.size u x Rs Ls) (hN : MatN u Ls M 100) (hq : Nt.Sq n M) (hn9 : n ≤ 64) (hs : Nt.shOK (n : Int) [(t : Int), (f : Int), cf, sh]) (hR : ∀ i j, Nt.rs (Nt.ent (Nt.cmb [(t : Int), (f : Int), cf, sh] M) i j) ≤ 100) : Calls Tryz.prog 119 #[x.v, .agg #[.int .i64 (t : Int), .int .i64 (f : Int), .int .i64 cf, .int .i64 sh]] w (PostF (mqB x Rs) u w fun v u' => v = .tuple #[] ∧ ∃ (Rs' : List Sl) (Ls' : List (List RL)), MatQ 1 54 26 v0.heap.size u' x Rs' Ls' ∧ MatN u' Ls' (Nt.cmb [(t : Int), (f : Int), cf, sh] M) 100) := by
 obtain ⟨h1, h2, h3, h4, h5, h6, h7, h8⟩ := Nt.shOK_mk hs
 have hMl := hq.1
 have hLl : Ls.length = n := hN.1.trans hMl
 have hRsl := hm.len
 have hxn : x.n = n := hm.rows.trans hLl
 obtain ⟨yt, hyt⟩ : ∃ y, Rs.getD t sl0 = y := ⟨_, rfl⟩
 have hrowt := hm.row t xq
 rw [hyt] at hrowt
 have hnt : yt.n = n := by rw [MutQ.rown hrowt, MatN.rowlen hN (by rw [hMl]; omega)]; exact hq.2 t xq
 obtain ⟨yf, hyf⟩ : ∃ y, Rs.getD f sl0 = y := ⟨_, rfl⟩
 have hrowf := hm.row f xq
 rw [hyf] at hrowf
 have hnf : yf.n = n := by rw [MutQ.rown hrowf, MatN.rowlen hN (by rw [hMl]; omega)]; exact hq.2 f xq
 refine calls_symF (F := mqB x Rs) (args := [x.v, .agg #[.int .i64 (t : Int), .int .i64 (f : Int), .int .i64 cf, .int .i64 sh]]) Tryz.func119 rfl Tryz.ntmps119 (rs := []) Tryz.results119 (le_b rfl) (le_b rfl) d ?_
 refine sq9 (zzj 3 ⟨90, [.int .i64 t, .int .i64 f, .int .i64 cf, .int .i64 sh]⟩ (zzb (sq9 (zza 9 (.adr 3 3) (zzh 10 (zI sh) ty3 zzk (zzb (zzs (sq9 (zza 45 (zB (sh == (-1))) (zza 44 (zB (sh == (-1))) (zzb ?_)))))))))))
 refine zzt (b := sh == (-1)) xj (fun al => ?_) (fun al => ?_)
 ·have ab : sh = (-1) := by simpa using al
  refine sw_anyX xj 20 rfl ?_
  refine takeX 3 49 19 (.v (x.v)) #[false, false, false, true, false, false, false, false, false, false, false, false, false, false, false, false, false, false, false, false] ?_
  refine takeXa 4 50 18 3 0 1 #[false, false, false, true, true, false, false, false, false, false, false, false, false, false, false, false, false, false, false, false] ?_
  refine restX [0, 0, 2, 0, 0, 16, 0, 0, 128, 448, 960, 0, 0, 4096, 14336, 30720, 65479, 131015, 262143, 524287] [(0, []), (1, []), (2, []), (6, []), (7, []), (8, []), (9, []), (10, []), (11, []), (12, []), (13, []), (14, []), (15, []), (16, [])] [(5, [])] (17, []) [(18, []), (19, [])] xj ?_
  refine zza 46 (.v (x.v)) (zza 47 (.adr 3 0) (zzh 48 (zI t) ty3 zzk (zza 52 (.v (x.v)) (zza 53 (.adr 3 1) (zzh 54 (zI f) ty3 zzk ?_)))))
  obtain ⟨b12, a6, aT⟩ := MatQ.cell (i := f) hm xq
  refine zzz 55 (0 + f * 1) (n := x.n) (off := 0) (sz := 1) (i := (f : Int)) xq a6 xq xq sl71 ?_
  rw [hyf] at aT
  refine zyk 56 (yf.v) aT ty54 (zza 57 (.v (x.v)) (zza 58 (.adr 3 0) (zzh 59 (zI t) ty3 zzk ?_)))
  obtain ⟨b13, bb, ax⟩ := MatQ.cell (i := t) hm xq
  refine zzz 60 (0 + t * 1) (n := x.n) (off := 0) (sz := 1) (i := (t : Int)) xq bb xq xq sl71 ?_
  rw [hyt] at ax
  refine zyk 61 (yt.v) ax ty54 ?_
  obtain ⟨b14, ap, bz⟩ := MatQ.cell (i := t) hm xq
  refine zzz 62 (0 + t * 1) (n := x.n) (off := 0) (sz := 1) (i := (t : Int)) xq ap xq xq sl71 (zzw ?_)
  refine exitsK_both ?_ ?_
  ·skip
   have hq15 := hm
   refine sy_storeQ (v := yf.v) (off := 0 + t * 1) (n := 1) x (MatQ.out hq15) (fun a ha => .inr (mqB_x ha)) ap ty54 (by rw [List.length_map, MatQ.len hq15]; omega) (nu_sls [yf]) (fun bu bi ak => ?_)
   have aL : MutQ 1 54 v0.heap.size bu x ((Rs.set t yf).map Sl.v) := by rw [← setL_map (y := yf) (i := t) (by rw [MatQ.len hq15]; omega)]; exact bi
   have eX15r := ExtX.root ak (MutQ.mutL (MatQ.out hq15)) hv
   refine zzh 51 (zI f) ty3 zzk ?_
   obtain ⟨b16, aK, _⟩ := MatQ.cell (i := f) hq15 xq
   refine zzz 63 (0 + f * 1) (n := x.n) (off := 0) (sz := 1) (i := (f : Int)) xq aK xq xq sl71 (sy_storeQ (v := yt.v) (off := 0 + f * 1) (n := 1) x aL (fun a ha => .inr (mqB_x ha)) aK ty54 (by rw [List.length_map, List.length_set, MatQ.len hq15]; omega) (nu_sls [yt]) (fun bI a1 ar => ?_))
   have ba : MutQ 1 54 v0.heap.size bI x (((Rs.set t yf).set f yt).map Sl.v) := by rw [← setL_map (y := yt) (i := f) (by rw [List.length_set, MatQ.len hq15]; omega)]; exact a1
   have eX17r := ExtX.root ar (MutQ.mutL aL) eX15r
   have hW17 := MatQ.swap (p := t) (t := f) xw hq15 xq xq (by rw [hyt, hyf]; exact ba) (ExtX.trans ak ar)
   have hV17 := MatN.keep (MatN.swap (t := t) (f := f) hN (by rw [hq.1]; omega) (by rw [hq.1]; omega)) (MatQ.out hq15) (ExtX.trans ak ar)
   refine zzw ?_
   refine ⟨[], [], trivial, (fun t h => by cases h), fun B u1 e1 _ => ⟨rfl, ?_⟩⟩
   refine ⟨_, _, (hW17).ext e1, ?_⟩
   rw [Nt.cmb_x ab]
   exact (hV17).ext e1
  refine zzh 51 (zI f) ty3 zzk (zzw ?_)
  refine exitsK_last ?_
  have hq18 := hm
  refine sy_storeQ (v := yf.v) (off := 0 + t * 1) (n := 1) x (MatQ.out hq18) (fun a ha => .inr (mqB_x ha)) ap ty54 (by rw [List.length_map, MatQ.len hq18]; omega) (nu_sls [yf]) (fun bL a8 ah => ?_)
  have aC : MutQ 1 54 v0.heap.size bL x ((Rs.set t yf).map Sl.v) := by rw [← setL_map (y := yf) (i := t) (by rw [MatQ.len hq18]; omega)]; exact a8
  have eX18r := ExtX.root ah (MutQ.mutL (MatQ.out hq18)) hv
  obtain ⟨b19, aR, _⟩ := MatQ.cell (i := f) hq18 xq
  refine zzz 63 (0 + f * 1) (n := x.n) (off := 0) (sz := 1) (i := (f : Int)) xq aR xq xq sl71 (sy_storeQ (v := yt.v) (off := 0 + f * 1) (n := 1) x aC (fun a ha => .inr (mqB_x ha)) aR ty54 (by rw [List.length_map, List.length_set, MatQ.len hq18]; omega) (nu_sls [yt]) (fun bJ bn ao => ?_))
  have a4 : MutQ 1 54 v0.heap.size bJ x (((Rs.set t yf).set f yt).map Sl.v) := by rw [← setL_map (y := yt) (i := f) (by rw [List.length_set, MatQ.len hq18]; omega)]; exact bn
  have eX20r := ExtX.root ao (MutQ.mutL aC) eX18r
  have hW20 := MatQ.swap (p := t) (t := f) xw hq18 xq xq (by rw [hyt, hyf]; exact a4) (ExtX.trans ah ao)
  have hV20 := MatN.keep (MatN.swap (t := t) (f := f) hN (by rw [hq.1]; omega) (by rw [hq.1]; omega)) (MatQ.out hq18) (ExtX.trans ah ao)
  refine zzw ?_
  refine ⟨[], [], trivial, (fun t h => by cases h), fun B u1 e1 _ => ⟨rfl, ?_⟩⟩
  refine ⟨_, _, (hW20).ext e1, ?_⟩
  rw [Nt.cmb_x ab]
  exact (hV20).ext e1
 have ab : ¬ sh = (-1) := by simpa using al
 refine sq9 (zza 65 (zB (sh == (-2))) (zza 64 (zB (sh == (-2))) (zzb (zzt (b := sh == (-2)) xj (fun an => ?_) (fun an => ?_)))))
 ·have ac : sh = (-2) := by simpa using an
  obtain ⟨R, am⟩ : ∃ R, Nt.negR (M.getD t []) = R := ⟨_, rfl⟩
  have hMt : t < M.length := by rw [hq.1]; omega
  have hrow := hq.2 t xq
  have hRl : R.length = n := by rw [← am, Nt.negR_len]; exact hrow
  have aa : R.length = (M.getD t []).length := by omega
  have hcm : Nt.cmb [(t : Int), (f : Int), cf, sh] M = M.set t R := by rw [Nt.cmb_n ac, am]
  have hRa : ∀ j, j < n → -((M.getD t []).getD j 0) = R.getD j 0 := fun j hj => by rw [← am, Nt.negR_at xq]
  have hRs : ∀ j, Nt.rs (R.getD j 0) ≤ 100 := fun j => by have h9 := hR t j; rw [hcm, Nt.ent_set, if_pos ⟨rfl, hMt⟩] at h9; exact h9
  refine sq9 (zza 66 (.v (x.v)) (zza 67 (.adr 3 0) (zzh 68 (zI t) ty3 zzk ?_)))
  obtain ⟨b22, a0, aN⟩ := MatQ.cell (i := t) hm xq
  refine zzz 69 (0 + t * 1) (n := x.n) (off := 0) (sz := 1) (i := (t : Int)) xq a0 xq xq sl71 ?_
  rw [hyt] at aN
  refine zyk 70 (yt.v) aN ty54 (zza 71 (zI yt.n) (zza 72 (zI 0) (zzb (zzs (zym (I := fun bp S' u' => ∃ (j : Nat) (Q : List (List RL)), (bp = n - j) ∧ (j ≤ n) ∧ (Q.length = n) ∧ (S' = St.of 87 [(0, .v (x.v)), (3, .adr 3 0), (70, .v (yt.v)), (71, zI yt.n), (72, zI j)] [(3, ⟨90, [.int .i64 t, .int .i64 f, .int .i64 cf, .int .i64 sh]⟩)]) ∧ (Ext v0 u') ∧ (MatQ 1 54 26 v0.heap.size u' x Rs Q) ∧ (MatN u' Q (Nt.mixR M t R j) 100)) (fun m S u1 u2 e h => by obtain ⟨j, Q, hm, p0, p1, hS, hE, f0, f1⟩ := h; exact ⟨j, Q, hm, p0, p1, hS, hE.trans e, f0.ext e, f1.ext e⟩) _ yz ⟨0, Ls, rfl, by omega, hLl, rfl, hv, hm, (by rw [Nt.mixR_0]; exact hN)⟩ ?_)))))
  rintro bp _ bF ⟨j, Q, bv, hj, hQl, rfl, bB, f0, f1⟩
  have hrt : MutQ (1 * 3) 26 v0.heap.size bF yt (rcs (Q.getD t [])) := by have h9 := MatQ.row f0 t xq; rw [hyt] at h9; exact h9
  have hLt : (Q.getD t []).length = n := by rw [← MutQ.rown hrt]; exact hnt
  refine sq9 (zza 73 (zB (decide ((j : Int) < (yt.n : Int)))) (zzb (zzd (zzt (b := decide ((j : Int) < (yt.n : Int))) xj (fun ai => ?_) (fun ai => ?_)))))
  ·have qhb24 := of_decide_eq_true ai
   refine zzr (zzo ?_)
   refine zzd (zzs (sq9 (zza 74 (zI j) ?_)))
   obtain ⟨b25, a5, ay⟩ := MutQ.el1 (j := j) hrt xq
   refine zzz 75 (0 + j * 3) (n := yt.n) (off := 0) (sz := 3) (i := (j : Int)) xq a5 xq xq sl54 ?_
   obtain ⟨bg, aV⟩ : ∃ r : RL, (Q.getD t []).getD j rl0 = r := ⟨_, rfl⟩
   rw [aV] at ay
   have hv28 := (by have h9 := MatN.at (i := t) (j := j) f1 (by rw [Nt.mixR_len]; omega) (by rw [Nt.mixR_row hMt aa xq]; omega); rw [Nt.mixR_old hMt aa xq] at h9; exact h9)
   rw [aV] at hv28
   refine zyl 76 (bg.cs) ay ty26 (zzj 5 ⟨26, zw3⟩ (zza 4 (zI j) (zzi ⟨26, bg.cs⟩ ty26 ?_)))
   refine zzb (sw_anyC [0, 0, 2, 7, 15, 0, 0, 64, 255, 511] [(0, []), (1, []), (2, []), (3, []), (4, []), (5, []), (6, []), (7, [])] [(8, []), (9, [])] xj xj xj ?_)
   refine zza 77 (.v (x.v)) (zza 78 (.adr 3 0) (zzh 79 (zI t) ty3 zzk ?_))
   obtain ⟨b29, a7, aE⟩ := MatQ.cell (i := t) f0 xq
   refine zzz 80 (0 + t * 1) (n := x.n) (off := 0) (sz := 1) (i := (t : Int)) xq a7 xq xq sl71 ?_
   rw [hyt] at aE
   refine zyk 81 (yt.v) aE ty54 (zza 82 (zI j) (zzh 83 (.v (bg.v)) ty26 zze (zzg 84 176 _ fun _ _ av bH => Post.mono (k_ratNeg bH (hv28.ext av).raw xq) ?_)))
   rintro _ u33 aB ⟨aM, rfl, bw⟩
   refine zzw ?_
   obtain ⟨b36, aw, bG⟩ := MutQ.el1 (j := j) (hrt.ext (av.trans aB.ext)) xq
   refine zzz 85 (0 + j * 3) (n := yt.n) (off := 0) (sz := 3) (i := (j : Int)) xq aw xq xq sl54 ?_
   have hq37 := (hrt.ext (av.trans aB.ext))
   refine sy_storeQ (v := aM.v) (off := 0 + j * 3) (n := 3) yt hq37 (fun a ha => .inr (mqB_row (i := t) xq (by rw [hyt]; exact ha))) aw ty26 (by rw [zyx]; have h9 : _ := xq; omega) (nu_rl aM) (fun bM a9 ae => ?_)
   have bh : MutQ (1 * 3) 26 v0.heap.size bM yt (rcs ((Q.getD t []).set j aM)) := by rw [← zyw (off := 0 + j * 3) xq xq]; exact a9
   have eX37r := ExtX.root ae (MutQ.mutL hq37) (bB.trans (av.trans aB.ext))
   have hM38 := MatQ.storeRow xw (f0.ext (av.trans aB.ext)) (i := t) xq (L := ((Q.getD t []).set j aM)) (by rw [hyt]; exact bh) (by rw [hyt]; exact ae)
   have bk : (-((M.getD t []).getD j 0)) = R.getD j 0 := hRa j xq
   have hN38 := MatN.el (i := t) (j := j) (MatN.keep (f1.ext (av.trans aB.ext)) hq37 ae) (by rw [Nt.mixR_len]; omega) (by rw [Nt.mixR_row hMt aa xq]; omega) (RatN.fit (L := 100) (by rw [← bk]; exact MutQ.keep hq37 ae bw) (hRs j))
   rw [Nt.mixR_s hMt aa xq] at hN38
   obtain ⟨bs, az⟩ : ∃ Q9, Q.set t ((Q.getD t []).set j aM) = Q9 := ⟨_, rfl⟩
   have aQ : bs.length = n := by rw [← az, List.length_set]; exact hQl
   rw [az] at hM38 hN38
   refine zzw ?_
   refine zzo (zzf (zyp 86 (x := zI (IntKind.i64.wrap ((j : Int) + 1))) (zI (j + 1 : Nat)) (eqI xk) (zza 72 (zI (j + 1 : Nat)) (zzw ?_))))
   refine ⟨_, ?_, _, by exact zzu _ _ _, j + 1, bs, rfl, by omega, aQ, rfl, eX37r, hM38, hN38⟩
   omega
  have qhb24 := of_decide_eq_false ai
  refine zyb ?_
  refine ⟨[], [], trivial, (fun t h => by cases h), fun B u1 e1 _ => ⟨rfl, ?_⟩⟩
  refine ⟨_, _, (f0).ext e1, ?_⟩
  rw [hcm, ← Nt.mixR_n aa (show j = R.length by omega)]
  exact (f1).ext e1
 have ac : ¬ sh = (-2) := by simpa using an
 obtain ⟨R, am⟩ : ∃ R, Nt.rowA (M.getD t []) (M.getD f []) (Nt.wq cf sh) = R := ⟨_, rfl⟩
 have hMt : t < M.length := by rw [hq.1]; omega
 have hrow := hq.2 t xq
 have hRl : R.length = n := by rw [← am, Nt.rowA_len]; exact hrow
 have aa : R.length = (M.getD t []).length := by omega
 have hcm : Nt.cmb [(t : Int), (f : Int), cf, sh] M = M.set t R := by rw [Nt.cmb_s ab ac, am]
 have hRa : ∀ j, j < n → (M.getD t []).getD j 0 + Nt.wq cf sh * (M.getD f []).getD j 0 = R.getD j 0 := fun j hj => by rw [← am, Nt.rowA_at xq]
 have hne : t ≠ f := fun e => ac (h7.1 (by rw [e]))
 have hRs : ∀ j, Nt.rs (R.getD j 0) ≤ 100 := fun j => by have h9 := hR t j; rw [hcm, Nt.ent_set, if_pos ⟨rfl, hMt⟩] at h9; exact h9
 refine sq9 (zzh 11 (.v (.agg #[.int .i64 t, .int .i64 f, .int .i64 cf, .int .i64 sh])) ty90 zze (zzg 12 125 _ fun _ _ aX bt => Post.mono (k_factor (t := (t : Int)) (f := (f : Int)) (cf := cf) (sh := sh) bt xq xq xq xq) ?_))
 rintro _ u42 aY ⟨aW, rfl, bK⟩
 refine zzj 6 ⟨26, zw3⟩ (zzi ⟨26, aW.cs⟩ ty26 ?_)
 refine zzb (sq9 (zza 13 (.v (x.v)) (zza 14 (.adr 3 0) (zzh 15 (zI t) ty3 zzk ?_))))
 obtain ⟨b45, be, aP⟩ := MatQ.cell (i := t) (hm.ext (aX.trans aY.ext)) xq
 refine zzz 16 (0 + t * 1) (n := x.n) (off := 0) (sz := 1) (i := (t : Int)) xq be xq xq sl71 ?_
 rw [hyt] at aP
 refine zyk 17 (yt.v) aP ty54 (zza 18 (zI yt.n) (zza 19 (zI 0) (zzb (zzs (zym (I := fun bq S' u' => ∃ (j : Nat) (Q : List (List RL)), (bq = n - j) ∧ (j ≤ n) ∧ (Q.length = n) ∧ (S' = St.of 87 [(0, .v (x.v)), (3, .adr 3 0), (6, .adr 6 0), (17, .v (yt.v)), (18, zI yt.n), (19, zI j)] [(3, ⟨90, [.int .i64 t, .int .i64 f, .int .i64 cf, .int .i64 sh]⟩), (6, ⟨26, aW.cs⟩)]) ∧ (Ext v0 u') ∧ (MatQ 1 54 26 v0.heap.size u' x Rs Q) ∧ (MatN u' Q (Nt.mixR M t R j) 100) ∧ (RatN u' aW (Nt.wq cf sh) 2)) (fun m S u1 u2 e h => by obtain ⟨j, Q, hm, p0, p1, hS, hE, f0, f1, f2⟩ := h; exact ⟨j, Q, hm, p0, p1, hS, hE.trans e, f0.ext e, f1.ext e, f2.ext e⟩) _ yz ⟨0, Ls, rfl, by omega, hLl, rfl, (hv.trans (aX.trans aY.ext)), (hm.ext (aX.trans aY.ext)), (by rw [Nt.mixR_0]; exact (hN.ext (aX.trans aY.ext))), bK⟩ ?_)))))
 rintro bq _ br ⟨j, Q, bD, hj, hQl, rfl, bN, f0, f1, f2⟩
 have hrt : MutQ (1 * 3) 26 v0.heap.size br yt (rcs (Q.getD t [])) := by have h9 := MatQ.row f0 t xq; rw [hyt] at h9; exact h9
 have hLt : (Q.getD t []).length = n := by rw [← MutQ.rown hrt]; exact hnt
 have hrf : MutQ (1 * 3) 26 v0.heap.size br yf (rcs (Q.getD f [])) := by have h9 := MatQ.row f0 f xq; rw [hyf] at h9; exact h9
 have hLf : (Q.getD f []).length = n := by rw [← MutQ.rown hrf]; exact hnf
 refine sq9 (zza 20 (zB (decide ((j : Int) < (yt.n : Int)))) (zzb (zzd (zzt (b := decide ((j : Int) < (yt.n : Int))) xj (fun aq => ?_) (fun aq => ?_)))))
 ·have qhb47 := of_decide_eq_true aq
  refine zzr (zzo ?_)
  refine zzd (zzs (sq9 (zza 21 (zI j) ?_)))
  obtain ⟨b48, bm, aI⟩ := MutQ.el1 (j := j) hrt xq
  refine zzz 22 (0 + j * 3) (n := yt.n) (off := 0) (sz := 3) (i := (j : Int)) xq bm xq xq sl54 ?_
  obtain ⟨a2, aU⟩ : ∃ r : RL, (Q.getD t []).getD j rl0 = r := ⟨_, rfl⟩
  rw [aU] at aI
  have hv51 := (by have h9 := MatN.at (i := t) (j := j) f1 (by rw [Nt.mixR_len]; omega) (by rw [Nt.mixR_row hMt aa xq]; omega); rw [Nt.mixR_old hMt aa xq] at h9; exact h9)
  rw [aU] at hv51
  refine zyl 23 (a2.cs) aI ty26 (zzj 8 ⟨26, zw3⟩ (zza 7 (zI j) (zzi ⟨26, a2.cs⟩ ty26 ?_)))
  refine zzb (sw_anyC [0, 0, 2, 7, 15, 0, 0, 0, 0, 0, 512, 1792, 3840, 0, 16128, 32512, 65408, 131008, 262143, 524287] [(0, []), (1, []), (2, []), (3, []), (4, []), (5, []), (6, []), (7, []), (8, []), (9, []), (10, []), (11, []), (12, []), (13, []), (14, []), (15, []), (16, []), (17, [])] [(18, []), (19, [])] xj xj xj ?_)
  refine zza 24 (.v (x.v)) (zza 25 (.adr 3 0) (zzh 26 (zI t) ty3 zzk ?_))
  obtain ⟨b52, bc, aF⟩ := MatQ.cell (i := t) f0 xq
  refine zzz 27 (0 + t * 1) (n := x.n) (off := 0) (sz := 1) (i := (t : Int)) xq bc xq xq sl71 ?_
  rw [hyt] at aF
  refine zyk 28 (yt.v) aF ty54 (zza 29 (zI j) (zzh 30 (.v (a2.v)) ty26 zze (zzh 31 (.v (aW.v)) ty26 zze (zza 32 (.v (x.v)) (zza 33 (.adr 3 1) (zzh 34 (zI f) ty3 zzk ?_))))))
  obtain ⟨b53, bf, aD⟩ := MatQ.cell (i := f) f0 xq
  refine zzz 35 (0 + f * 1) (n := x.n) (off := 0) (sz := 1) (i := (f : Int)) xq bf xq xq sl71 ?_
  rw [hyf] at aD
  refine zyk 36 (yf.v) aD ty54 (zza 37 (zI j) ?_)
  obtain ⟨b54, aZ, aS⟩ := MutQ.el1 (j := j) hrf xq
  refine zzz 38 (0 + j * 3) (n := yf.n) (off := 0) (sz := 3) (i := (j : Int)) xq aZ xq xq sl54 ?_
  obtain ⟨bA, aA⟩ : ∃ r : RL, (Q.getD f []).getD j rl0 = r := ⟨_, rfl⟩
  rw [aA] at aS
  have hv57 := (by have h9 := MatN.at (i := f) (j := j) f1 (by rw [Nt.mixR_len]; omega) (by rw [Nt.mixR_other hne, hq.2 f xq]; omega); rw [Nt.mixR_other hne] at h9; exact h9)
  rw [aA] at hv57
  refine zyl 39 (bA.cs) aS ty26 (zzg 40 123 _ fun _ _ af bP => Post.mono (k_ratMul bP (f2.ext af).raw (hv57.ext af).raw xq xq) ?_)
  rintro _ u61 aj ⟨r59, rfl, bE⟩
  refine zzg 41 126 _ fun _ _ ag bx => Post.mono (k_ratAdd bx (hv51.ext (af.trans (aj.ext.trans ag))).raw (bE.ext ag).raw xq xq) ?_
  rintro _ u67 au ⟨aH, rfl, bO⟩
  refine zzw ?_
  obtain ⟨b70, aO, bC⟩ := MutQ.el1 (j := j) (hrt.ext (af.trans (aj.ext.trans (ag.trans au.ext)))) xq
  refine zzz 42 (0 + j * 3) (n := yt.n) (off := 0) (sz := 3) (i := (j : Int)) xq aO xq xq sl54 ?_
  have hq71 := (hrt.ext (af.trans (aj.ext.trans (ag.trans au.ext))))
  refine sy_storeQ (v := aH.v) (off := 0 + j * 3) (n := 3) yt hq71 (fun a ha => .inr (mqB_row (i := t) xq (by rw [hyt]; exact ha))) aO ty26 (by rw [zyx]; have h9 : _ := xq; omega) (nu_rl aH) (fun bQ a3 ad => ?_)
  have bj : MutQ (1 * 3) 26 v0.heap.size bQ yt (rcs ((Q.getD t []).set j aH)) := by rw [← zyw (off := 0 + j * 3) xq xq]; exact a3
  have eX71r := ExtX.root ad (MutQ.mutL hq71) (bN.trans (af.trans (aj.ext.trans (ag.trans au.ext))))
  have hM72 := MatQ.storeRow xw (f0.ext (af.trans (aj.ext.trans (ag.trans au.ext)))) (i := t) xq (L := ((Q.getD t []).set j aH)) (by rw [hyt]; exact bj) (by rw [hyt]; exact ad)
  have bl : (((M.getD t []).getD j 0) + ((Nt.wq cf sh) * ((M.getD f []).getD j 0))) = R.getD j 0 := hRa j xq
  have hN72 := MatN.el (i := t) (j := j) (MatN.keep (f1.ext (af.trans (aj.ext.trans (ag.trans au.ext)))) hq71 ad) (by rw [Nt.mixR_len]; omega) (by rw [Nt.mixR_row hMt aa xq]; omega) (RatN.fit (L := 100) (by rw [← bl]; exact MutQ.keep hq71 ad bO) (hRs j))
  rw [Nt.mixR_s hMt aa xq] at hN72
  obtain ⟨bo, aG⟩ : ∃ Q9, Q.set t ((Q.getD t []).set j aH) = Q9 := ⟨_, rfl⟩
  have aJ : bo.length = n := by rw [← aG, List.length_set]; exact hQl
  rw [aG] at hM72 hN72
  have hF72 := MutQ.keep hq71 ad (f2.ext (af.trans (aj.ext.trans (ag.trans au.ext))))
  refine zzw ?_
  refine zzo (zzf (zyp 43 (x := zI (IntKind.i64.wrap ((j : Int) + 1))) (zI (j + 1 : Nat)) (eqI xk) (zza 19 (zI (j + 1 : Nat)) (zzw ?_))))
  refine ⟨_, ?_, _, by exact zzu _ _ _, j + 1, bo, rfl, by omega, aJ, rfl, eX71r, hM72, hN72, hF72⟩
  omega
 have qhb47 := of_decide_eq_false aq
 refine zyb ?_
 refine ⟨[], [], trivial, (fun t h => by cases h), fun B u1 e1 _ => ⟨rfl, ?_⟩⟩
 refine ⟨_, _, (f0).ext e1, ?_⟩
 rw [hcm, ← Nt.mixR_n aa (show j = R.length by omega)]
 exact (f1).ext e1
theorem Nt.rep0_at {n j : Nat} : (List.replicate n (0 : Rat)).getD j 0 = 0 := by rw [List.getD_eq_getElem?_getD, List.getElem?_replicate]; split <;> rfl
theorem Nt.idRow_set {n i : Nat} (h : i < n) : (List.replicate n (0 : Rat)).set i 1 = Nt.idRow n i := by
 refine List.ext_getElem (by rw [List.length_set, List.length_replicate, Nt.idRow_len]) fun j h1 h2 => ?_
 have e1 := Nt.idRow_at (i := i) (show j < n by rw [← Nt.idRow_len (n := n) (i := i)]; exact h2)
 rw [List.getD_eq_getElem?_getD, List.getElem?_eq_getElem h2] at e1
 have e2 : (Nt.idRow n i)[j] = if i = j then 1 else 0 := e1
 rw [e2, List.getElem_set]
 split
 ·rfl
 exact List.getElem_replicate _
set_option maxHeartbeats 4000000 in
theorem k_dlinear {u w : World} {x : Sl} {S : List (List Int)} {n : Nat} (d : Dat u w) (hx : IrV 4 u x S) (hV : Nt.shV (n : Int) S) : Calls Tryz.prog 53 #[x.v, .int .i64 (n : Int)] w (Post u w fun v u' => ∃ (y : Sl) (Rs : List Sl) (Ls : List (List RL)), v = .tuple #[y.v, .int .i64 0] ∧ MatQ 1 54 26 u.heap.size u' y Rs Ls ∧ MatN u' Ls (Nt.linM n S) 100) := by
 have hlx : x.n = S.length := hx.len
 have hV1 := hV.1
 have hV2 := hV.2.1
 have hV3 := hV.2.2.1
 refine zzl (args := [x.v, .int .i64 n]) Tryz.func53 rfl Tryz.ntmps53 (rs := [.tmp 4, .tmp 5]) Tryz.results53 (le_b rfl) (le_b rfl) d ?_
 refine sq9 (zza 4 (.v (.slice none 0 0)) (zza 5 (zI 0) (zzb (zzd (sq9 (zza 11 (.v (x.v)) (zza 12 (zI n) (zzg 13 64 _ fun _ _ az bm => Post.mono (k_dvalid (x := x) (n := (n : Int)) bm (hx.ext az) xq) ?_))))))))
 rintro _ ad aJ rfl
 refine zza 14 (zB (!(decide (Nt.shV (n : Int) S)))) (zzb (zzt (b := !(decide (Nt.shV (n : Int) S))) xj (fun hb => ?_) (fun hb => ?_)))
 ·exact absurd hb (by rw [show (!(decide (Nt.shV (n : Int) S))) = false from (by rw [decide_eq_true hV]; rfl)]; decide)
 clear hb
 refine zzr (zzo ?_)
 refine sq9 (zza 15 (zI n) (sy_makeF 16 (T := 71) (E := 54) (z := .slice none 0 0) (size := 1) (bytes := 24) n ((List.replicate n sl0).map Sl.v) xj xj rfl rfl xq yv (made_sls _) (fun aa bq bv bz bN bL => ?_)))
 have aU : MutQ 1 54 ad.heap.size bq (⟨some ⟨aa, 0, none⟩, n, n⟩ : Sl) ((List.replicate n sl0).map Sl.v) := MutQ.lit bz (by rw [List.length_map, List.length_replicate, Nat.mul_one]) yv bL (nu_sls _)
 refine zza 6 (.v (.slice (some ⟨aa, 0, none⟩) n n)) (zzb (zzd (sq9 (zza 17 (.v (.slice (some ⟨aa, 0, none⟩) n n)) (zza 18 (zI n) (zza 19 (zI 0) (zzb (zzs (zym (I := fun bh S' u' => ∃ (i : Nat) (Rs : List Sl) (Ls : List (List RL)), (bh = n - i) ∧ (i ≤ n) ∧ (Ls.length = n) ∧ (S' = St.of 62 [(0, .v (x.v)), (1, zI n), (6, .v (.slice (some ⟨aa, 0, none⟩) n n)), (18, zI n), (19, zI i)] []) ∧ (Ext ad u') ∧ (MatQ 1 54 26 ad.heap.size u' (⟨some ⟨aa, 0, none⟩, n, n⟩ : Sl) Rs Ls) ∧ (MatP u' Ls (Nt.idR n) i 100)) (fun m S u1 u2 e h => by obtain ⟨i, Rs, Ls, hm, p0, p1, hS, hE, f0, f1⟩ := h; exact ⟨i, Rs, Ls, hm, p0, p1, hS, hE.trans e, f0.ext e, f1.ext e⟩) _ yz ⟨0, (List.replicate n sl0), (List.replicate n []), rfl, by omega, by rw [List.length_replicate], rfl, bv, (MatQ.nil n aU), (MatP.zero _ _ _ _)⟩ ?_)))))))))
 rintro bh _ bE ⟨i, Rs, Ls, bo, hi, hLl, rfl, aN, aL, bl⟩
 refine sq9 (zza 20 (zB (decide ((i : Int) < (n : Int)))) (zzb (zzd (zzt (b := decide ((i : Int) < (n : Int))) xj (fun ap => ?_) (fun ap => ?_)))))
 ·have qhb18 := of_decide_eq_true ap
  refine zzr (zzo ?_)
  refine zzd (zzs (sq9 (zza 21 (zI i) (zza 7 (zI i) (zzb (sq9 (zza 22 (.v (.slice (some ⟨aa, 0, none⟩) n n)) (zza 23 (zI i) (zza 24 (zI n) (sy_makeF 25 (T := 54) (E := 26) (z := .agg #[.bool false, .slice none 0 0, .slice none 0 0]) (size := 3) (bytes := 56) n (rcs (List.replicate n rl0)) xj xj rfl rfl xq yv (made_rcs _) (fun ac bw aM bC bj bc => ?_)))))))))))
  have a9 : MutQ (1 * 3) 26 bE.heap.size bw (⟨some ⟨ac, 0, none⟩, n, n⟩ : Sl) (rcs (List.replicate n rl0)) := MutQ.lit bC (by rw [zyx, List.length_replicate]) yv bc (nu_rcs _)
  obtain ⟨b21, aE, bH⟩ := MatQ.cell (i := i) (aL.ext aM) xq
  refine zzz 26 (0 + i * 1) (n := n) (off := 0) (sz := 1) (i := (i : Int)) xq aE xq xq sl71 ?_
  have hq22 := (aL.ext aM)
  refine sy_storeQ (v := .slice (some ⟨ac, 0, none⟩) n n) (off := 0 + i * 1) (n := 1) (⟨some ⟨aa, 0, none⟩, n, n⟩ : Sl) (MatQ.out hq22) (fun a ha => by injection ha with ha; subst ha; exact .inl bN) aE ty54 (by rw [List.length_map, MatQ.len hq22]; have h9 : _ := xq; omega) (nu_sls [(⟨some ⟨ac, 0, none⟩, n, n⟩ : Sl)]) (fun bx a1 ah => ?_)
  have aQ : MutQ 1 54 ad.heap.size bx (⟨some ⟨aa, 0, none⟩, n, n⟩ : Sl) ((Rs.set i (⟨some ⟨ac, 0, none⟩, n, n⟩ : Sl)).map Sl.v) := by rw [← setL_map (y := (⟨some ⟨ac, 0, none⟩, n, n⟩ : Sl)) (i := i) (by rw [MatQ.len hq22]; omega)]; exact a1
  have eX22r := ExtX.root ah (MutQ.mutL (MatQ.out hq22)) (aN.trans aM)
  have hM23 := MatQ.storeOut xw hq22 xq aQ ah (MutQ.low a9 (Ext.size aN)) (fun j hj _ => MatQ.fresh aL bc j hj)
  obtain ⟨aR, aF⟩ : ∃ R, Rs.set i (⟨some ⟨ac, 0, none⟩, n, n⟩ : Sl) = R := ⟨_, rfl⟩
  have ab : aR.getD i sl0 = (⟨some ⟨ac, 0, none⟩, n, n⟩ : Sl) := by rw [← aF]; exact getD_set_same (by have h9 := MatQ.len hq22; omega)
  rw [aF] at hM23
  have hP23 := MatP.keep (bl.ext aM) (MatQ.out hq22) ah
  replace hP23 := MatP.set (L := (List.replicate n rl0)) hP23 (Nat.le_refl i)
  obtain ⟨aP, am⟩ : ∃ S, Ls.set i ((List.replicate n rl0)) = S := ⟨_, rfl⟩
  have aI : aP.length = n := by rw [← am, List.length_set]; exact hLl
  have aA : aP.getD i [] = (List.replicate n rl0) := by rw [← am]; exact getD_set_same xq
  rw [am] at hM23 hP23
  refine zzb (zzd (sq9 (zza 27 (.v (.slice (some ⟨aa, 0, none⟩) n n)) (zza 28 (zI i) ?_))))
  obtain ⟨b24, aZ, ay⟩ := MatQ.cell (i := i) hM23 xq
  refine zzz 29 (0 + i * 1) (n := n) (off := 0) (sz := 1) (i := (i : Int)) xq aZ xq xq sl71 ?_
  rw [ab] at ay
  refine zyk 30 (.slice (some ⟨ac, 0, none⟩) n n) ay ty54 (zza 31 (zI n) (zza 32 (zI 0) (zzb (zzs (zym (I := fun bk S' u' => ∃ (j : Nat) (Q : List (List RL)), (bk = n - j) ∧ (j ≤ n) ∧ (Q.length = n) ∧ ((Q.getD i []).length = n) ∧ (S' = St.of 62 [(0, .v (x.v)), (1, zI n), (6, .v (.slice (some ⟨aa, 0, none⟩) n n)), (7, zI i), (18, zI n), (19, zI i), (31, zI n), (32, zI j)] []) ∧ (Ext ad u') ∧ (MatQ 1 54 26 ad.heap.size u' (⟨some ⟨aa, 0, none⟩, n, n⟩ : Sl) aR Q) ∧ (MatP u' Q (Nt.idR n) i 100) ∧ (RatsP u' (Q.getD i []) (List.replicate n 0) j 100)) (fun m S u1 u2 e h => by obtain ⟨j, Q, hm, p0, p1, p2, hS, hE, f0, f1, f2⟩ := h; exact ⟨j, Q, hm, p0, p1, p2, hS, hE.trans e, f0.ext e, f1.ext e, f2.ext e⟩) _ yz ⟨0, aP, rfl, by omega, aI, by rw [aA, List.length_replicate], rfl, eX22r, hM23, hP23, (RatsP.zero _ _ _ _)⟩ ?_)))))
  rintro bk _ bB ⟨j, Q, bM, hj, hQl, hQi, rfl, bg, f0, f1, f2⟩
  have hrw : MutQ (1 * 3) 26 ad.heap.size bB (⟨some ⟨ac, 0, none⟩, n, n⟩ : Sl) (rcs (Q.getD i [])) := by have h9 := MatQ.row f0 i xq; rw [ab] at h9; exact h9
  refine sq9 (zza 33 (zB (decide ((j : Int) < (n : Int)))) (zzb (zzd (zzt (b := decide ((j : Int) < (n : Int))) xj (fun an => ?_) (fun an => ?_)))))
  ·have qhb26 := of_decide_eq_true an
   refine zzr (zzo ?_)
   refine zzd (zzs (sq9 (zza 34 (zI j) (zza 8 (zI j) (zzb (sw_anyC [0, 0, 3, 7, 0, 0, 63, 127] [(0, []), (1, []), (2, []), (3, []), (4, []), (5, [])] [(6, []), (7, [])] xj xj xj ?_))))))
   refine zza 35 (.v (.slice (some ⟨aa, 0, none⟩) n n)) (zza 36 (zI i) ?_)
   obtain ⟨b27, aV, aC⟩ := MatQ.cell (i := i) f0 xq
   refine zzz 37 (0 + i * 1) (n := n) (off := 0) (sz := 1) (i := (i : Int)) xq aV xq xq sl71 ?_
   rw [ab] at aC
   refine zyk 38 (.slice (some ⟨ac, 0, none⟩) n n) aC ty54 (zza 39 (zI j) (zzg 40 118 _ fun _ _ av bs => Post.mono (k_ratOf bs (z := 0) xq xq) ?_))
   rintro _ u31 ar ⟨ao, rfl, bK⟩
   refine zzw ?_
   obtain ⟨b34, aw, bD⟩ := MutQ.el1 (j := j) (hrw.ext (av.trans ar.ext)) xq
   refine zzz 41 (0 + j * 3) (n := n) (off := 0) (sz := 3) (i := (j : Int)) xq aw xq xq sl54 ?_
   have hq35 := (hrw.ext (av.trans ar.ext))
   refine sy_storeQ (v := ao.v) (off := 0 + j * 3) (n := 3) (⟨some ⟨ac, 0, none⟩, n, n⟩ : Sl) hq35 (fun a ha => by injection ha with ha; subst ha; exact .inl bj) aw ty26 (by rw [zyx]; have h9 : _ := xq; omega) (nu_rl ao) (fun bt a3 af => ?_)
   have a6 : MutQ (1 * 3) 26 ad.heap.size bt (⟨some ⟨ac, 0, none⟩, n, n⟩ : Sl) (rcs ((Q.getD i []).set j ao)) := by rw [← zyw (off := 0 + j * 3) xq xq]; exact a3
   have eX35r := ExtX.root af (MutQ.mutL hq35) (bg.trans (av.trans ar.ext))
   have hM36 := MatQ.storeRow xw (f0.ext (av.trans ar.ext)) (i := i) xq (L := ((Q.getD i []).set j ao)) (by rw [ab]; exact a6) (by rw [ab]; exact af)
   obtain ⟨aO, ai⟩ : ∃ Q9, Q.set i ((Q.getD i []).set j ao) = Q9 := ⟨_, rfl⟩
   have aH : aO.length = n := by rw [← ai, List.length_set]; exact hQl
   have ag : aO.getD i [] = ((Q.getD i []).set j ao) := by rw [← ai]; exact getD_set_same xq
   have hP36 := MatP.set (L := ((Q.getD i []).set j ao)) (MatP.keep (f1.ext (av.trans ar.ext)) hq35 af) (Nat.le_refl i)
   rw [ai] at hM36 hP36
   have hr36 := RatsP.one (RatsP.keep (f2.ext (av.trans ar.ext)) hq35 af) xq (RatN.more (K := 2) (MutQ.keep hq35 af bK) xq) (by rw [Nt.rep0_at]; rfl)
   rw [← ag] at hr36
   refine zzw ?_
   refine zzo (zzf (zyp 42 (x := zI (IntKind.i64.wrap ((j : Int) + 1))) (zI (j + 1 : Nat)) (eqI xk) (zza 32 (zI (j + 1 : Nat)) (zzw ?_))))
   refine ⟨_, ?_, _, by exact zzu _ _ _, j + 1, aO, rfl, by omega, aH, by rw [ag, List.length_set]; exact hQi, rfl, eX35r, hM36, hP36, hr36⟩
   omega
  have qhb26 := of_decide_eq_false an
  refine zyb (zzo (sw_anyC [0, 0, 3, 7, 0, 0, 63, 127] [(0, []), (1, []), (2, []), (3, []), (4, []), (5, [])] [(6, []), (7, [])] xj xj xj ?_))
  refine zza 43 (.v (.slice (some ⟨aa, 0, none⟩) n n)) (zza 44 (zI i) ?_)
  obtain ⟨b37, aT, ax⟩ := MatQ.cell (i := i) f0 xq
  refine zzz 45 (0 + i * 1) (n := n) (off := 0) (sz := 1) (i := (i : Int)) xq aT xq xq sl71 ?_
  rw [ab] at ax
  refine zyk 46 (.slice (some ⟨ac, 0, none⟩) n n) ax ty54 (zza 47 (zI i) (zzg 48 118 _ fun _ _ aq br => Post.mono (k_ratOf br (z := 1) xq xq) ?_))
  rintro _ u41 au ⟨aj, rfl, bn⟩
  refine zzw ?_
  obtain ⟨b44, aG, bA⟩ := MutQ.el1 (j := i) (hrw.ext (aq.trans au.ext)) xq
  refine zzz 49 (0 + i * 3) (n := n) (off := 0) (sz := 3) (i := (i : Int)) xq aG xq xq sl54 ?_
  have hq45 := (hrw.ext (aq.trans au.ext))
  refine sy_storeQ (v := aj.v) (off := 0 + i * 3) (n := 3) (⟨some ⟨ac, 0, none⟩, n, n⟩ : Sl) hq45 (fun a ha => by injection ha with ha; subst ha; exact .inl bj) aG ty26 (by rw [zyx]; have h9 : _ := xq; omega) (nu_rl aj) (fun bJ aW ae => ?_)
  have aS : MutQ (1 * 3) 26 ad.heap.size bJ (⟨some ⟨ac, 0, none⟩, n, n⟩ : Sl) (rcs ((Q.getD i []).set i aj)) := by rw [← zyw (off := 0 + i * 3) xq xq]; exact aW
  have eX45r := ExtX.root ae (MutQ.mutL hq45) (bg.trans (aq.trans au.ext))
  have hM46 := MatQ.storeRow xw (f0.ext (aq.trans au.ext)) (i := i) xq (L := ((Q.getD i []).set i aj)) (by rw [ab]; exact aS) (by rw [ab]; exact ae)
  obtain ⟨a8, ak⟩ : ∃ Q9, Q.set i ((Q.getD i []).set i aj) = Q9 := ⟨_, rfl⟩
  have aD : a8.length = n := by rw [← ak, List.length_set]; exact hQl
  have aB : a8.getD i [] = ((Q.getD i []).set i aj) := by rw [← ak]; exact getD_set_same xq
  have hP46 := MatP.set (L := ((Q.getD i []).set i aj)) (MatP.keep (f1.ext (aq.trans au.ext)) hq45 ae) (Nat.le_refl i)
  rw [ak] at hM46 hP46
  have hr46 := rats_set (j := i) (RatsP.full (RatsP.keep (f2.ext (aq.trans au.ext)) hq45 ae) xq (by rw [List.length_replicate]; omega)) (by rw [List.length_replicate]; omega) (RatN.more (K := 2) (MutQ.keep hq45 ae bn) xq)
  rw [← aB] at hr46
  refine zzw ?_
  refine zzo (zzf (zyp 50 (x := zI (IntKind.i64.wrap ((i : Int) + 1))) (zI (i + 1 : Nat)) (eqI xk) (zza 19 (zI (i + 1 : Nat)) (zzw ?_))))
  have hid := Nt.idRow_set (n := n) (i := i) xq
  have hrr := hr46
  rw [show (((1 : Int) : Rat)) = 1 from rfl, hid, ← Nt.idR_at (n := n) (i := i) xq] at hrr
  refine ⟨_, ?_, _, by exact zzu _ _ _, i + 1, aR, a8, rfl, by omega, aD, rfl, eX45r, hM46, (MatP.next hP46 hrr)⟩
  omega
 have qhb18 := of_decide_eq_false ap
 refine zyb (zzo (zzd (sq9 (zza 51 (.v (x.v)) (zza 52 (zI x.n) (zza 53 (zI 0) (zzb (zzs (zym (I := fun be S' u' => ∃ (k : Nat) (Rz : List Sl) (Lz : List (List RL)), (be = S.length - k) ∧ (k ≤ S.length) ∧ (S' = St.of 62 [(6, .v (.slice (some ⟨aa, 0, none⟩) n n)), (51, .v (x.v)), (52, zI x.n), (53, zI k)] []) ∧ (Ext ad u') ∧ (MatQ 1 54 26 ad.heap.size u' (⟨some ⟨aa, 0, none⟩, n, n⟩ : Sl) Rz Lz) ∧ (MatN u' Lz (Nt.linM n (S.take k)) 100)) (fun m S u1 u2 e h => by obtain ⟨k, Rz, Lz, hm, p0, hS, hE, f0, f1⟩ := h; exact ⟨k, Rz, Lz, hm, p0, hS, hE.trans e, f0.ext e, f1.ext e⟩) _ yz ⟨0, Rs, Ls, rfl, by omega, rfl, aN, aL, (by rw [List.take_zero, Nt.linM_nil]; exact MatP.full (m := n) (by have h9 := bl; rw [show i = n by omega] at h9; exact h9) hLl Nt.idR_len)⟩ ?_)))))))))
 rintro be _ u47 ⟨k, Rz, Lz, bu, hk, rfl, aK, bf, bi⟩
 refine sq9 (zza 54 (zB (decide ((k : Int) < (x.n : Int)))) (zzb (zzd (zzt (b := decide ((k : Int) < (x.n : Int))) xj (fun al => ?_) (fun al => ?_)))))
 ·have qhb48 := of_decide_eq_true al
  refine zzr (zzo ?_)
  refine zzd (zzs (sq9 ?_))
  have hl49 := ((hx.ext (az.trans (aJ.ext.trans aK)))).len
  obtain ⟨b49, bb, aX, a4⟩ := ir_at4 (hx.ext (az.trans (aJ.ext.trans aK))) (i := k) xq
  refine zzz 55 (bb + k * 4) (n := x.n) (off := bb) (sz := 4) (i := (k : Int)) xq aX xq xq sl64 (zyl 56 [.int .i64 (gi S k 0), .int .i64 (gi S k 1), .int .i64 (gi S k 2), .int .i64 (gi S k 3)] a4 ty90 (zzj 10 ⟨90, [.int .i64 0, .int .i64 0, .int .i64 0, .int .i64 0]⟩ (zzi ⟨90, [.int .i64 (gi S k 0), .int .i64 (gi S k 1), .int .i64 (gi S k 2), .int .i64 (gi S k 3)]⟩ ty90 ?_)))
  refine zzb ?_
  have hsO := hV.2.2.2 k xq
  rw [row4 hx.rows xq] at hsO
  obtain ⟨tz, htz⟩ : ∃ t : Nat, gi S k 0 = (t : Int) := ⟨(gi S k 0).toNat, by have h9 : 0 ≤ gi S k 0 := hsO.1; omega⟩
  obtain ⟨fz, hfz⟩ : ∃ t : Nat, gi S k 1 = (t : Int) := ⟨(gi S k 1).toNat, by have h9 : 0 ≤ gi S k 1 := hsO.2.2.1; omega⟩
  rw [htz, hfz]
  rw [htz, hfz] at hsO
  refine zzf (zza 57 (.v (.slice (some ⟨aa, 0, none⟩) n n)) (zzh 58 (.v (.agg #[.int .i64 tz, .int .i64 fz, .int .i64 (gi S k 2), .int .i64 (gi S k 3)])) ty90 zze ?_))
  have hA50 := bf
  have hB50 := bi
  have hst : Nt.linM n (S.take (k + 1)) = Nt.cmb [(tz : Int), (fz : Int), gi S k 2, gi S k 3] (Nt.linM n (S.take k)) := by rw [Nt.linM_snoc k xq, row4 hx.rows xq, htz, hfz]
  refine zwk (mqB (⟨some ⟨aa, 0, none⟩, n, n⟩ : Sl) Rz) 59 119 [.slice (some ⟨aa, 0, none⟩) n n, .agg #[.int .i64 tz, .int .i64 fz, .int .i64 (gi S k 2), .int .i64 (gi S k 3)]] (MatQ.may hA50 (Ext.size (az.trans aJ.ext))) (fun w50 u50 a5 bF => k_combine (v0 := ad) bF (Ext.trans aK a5) (hA50.ext a5) (hB50.ext a5) (Nt.linM_ok hV.2.2.2 hx.rows k xq).1 xq hsO (by rw [← hst]; exact Nt.linM_rs hV.2.2.2 hx.rows xq (k + 1) xq)) (fun v50 bI a7 a2 => ?_)
  obtain ⟨rfl, bp, bG, a0, aY⟩ := a2
  have eR50 := ExtF.rootQ a7 hA50 aK
  refine zzw ?_
  refine zzo (zzf (zyp 60 (x := zI (IntKind.i64.wrap ((k : Int) + 1))) (zI (k + 1 : Nat)) (eqI xk) (zza 53 (zI (k + 1 : Nat)) (zzw ?_))))
  have hst : Nt.linM n (S.take (k + 1)) = Nt.cmb [(tz : Int), (fz : Int), gi S k 2, gi S k 3] (Nt.linM n (S.take k)) := by rw [Nt.linM_snoc k xq, row4 hx.rows xq, htz, hfz]
  refine ⟨_, ?_, _, by exact zzu _ _ _, k + 1, bp, bG, rfl, by omega, rfl, eR50, a0, (by rw [hst]; exact aY)⟩
  omega
 have qhb48 := of_decide_eq_false al
 refine zyb (zzo (sq9 (zza 61 (.v (.slice (some ⟨aa, 0, none⟩) n n)) (zza 4 (.v (.slice (some ⟨aa, 0, none⟩) n n)) (zza 5 (zI 0) (zzb (zzn (ret0 [.slice (some ⟨aa, 0, none⟩) n n, .int .i64 0] ⟨zzp, zzp, trivial⟩ fun u51 ba => ?_))))))))
 refine ⟨(⟨some ⟨aa, 0, none⟩, n, n⟩ : Sl), Rz, Lz, rfl, MatQ.low (bf.ext ba) (Ext.size (az.trans aJ.ext)), by have h9 := (bi.ext ba); rw [show k = S.length by omega, List.take_length] at h9; exact h9⟩
theorem k_dlinearB {u w : World} {x : Sl} {S : List (List Int)} {n : Int} (d : Dat u w) (hx : IrV 4 u x S) (h9 : S.length ≤ 1000000) (hV : ¬ Nt.shV n S) : Calls Tryz.prog 53 #[x.v, .int .i64 n] w (Post u w fun v _ => v = .tuple #[.slice none 0 0, .int .i64 2]) := by
 refine zzl (args := [x.v, .int .i64 n]) Tryz.func53 rfl Tryz.ntmps53 (rs := [.tmp 4, .tmp 5]) Tryz.results53 (le_b rfl) (le_b rfl) d ?_
 refine sq9 (zza 4 (.v (.slice none 0 0)) (zza 5 (zI 0) (zzb (zzd (sq9 (zza 11 (.v (x.v)) (zza 12 (zI n) (zzg 13 64 _ fun _ _ aa ab => Post.mono (k_dvalid (x := x) (n := n) ab (hx.ext aa) xq) ?_))))))))
 rintro _ u12 g13 rfl
 refine zza 14 (zB (!(decide (Nt.shV n S)))) (zzb (zzt (b := !(decide (Nt.shV n S))) xj (fun hb => ?_) (fun hb => ?_)))
 ·clear hb
  refine sq9 (zza 4 (.v (.slice none 0 0)) (zza 5 (zI 2) (zzb (zzn (zzv (ret0 [.slice none 0 0, .int .i64 2] ⟨zzp, zzp, trivial⟩ fun u15 e16 => ?_))))))
  rfl
 exact absurd hb (by rw [show (!(decide (Nt.shV n S))) = true from (by rw [decide_eq_false hV]; rfl)]; decide)
namespace Nt
def spG (cf sh : Int) (x : Rat) : Rat := absQ (wq cf sh) * x + (if cf.tmod (p2i sh) = 0 then 0 else 1 / 2)
def spF (s : List Int) (b : List Rat) : List Rat :=
 if s.getD 3 0 = -1 then swL b (s.getD 0 0).toNat (s.getD 1 0).toNat 0
 else if s.getD 3 0 = -2 then b
 else b.set (s.getD 0 0).toNat (b.getD (s.getD 0 0).toNat 0 + spG (s.getD 2 0) (s.getD 3 0) (b.getD (s.getD 1 0).toNat 0))
def spL (n : Nat) (S : List (List Int)) : List Rat := S.foldl (fun b s => spF s b) (List.replicate n 0)
def mxL (l : List Rat) : Rat := l.foldl (fun m x => if m < x then x else m) 0
section
variable {M : List (List Rat)} {b l : List Rat} {s : List Int} {S : List (List Int)} {n t f i j D A : Nat} {cf sh v : Int} {q x y : Rat}
theorem spF_x (h : sh = -1) : spF [(t : Int), (f : Int), cf, sh] b = swL b t f 0 := by subst h; rfl
theorem spF_n (h : sh = -2) : spF [(t : Int), (f : Int), cf, sh] b = b := by subst h; rfl
theorem spF_s (h1 : ¬ sh = -1) (h2 : ¬ sh = -2) : spF [(t : Int), (f : Int), cf, sh] b = b.set t (b.getD t 0 + spG cf sh (b.getD f 0)) := by
 unfold spF
 rw [if_neg (show ¬ [(t : Int), (f : Int), cf, sh].getD 3 0 = -1 from h1), if_neg (show ¬ [(t : Int), (f : Int), cf, sh].getD 3 0 = -2 from h2)]
 rfl
theorem spF_len : (spF s b).length = b.length := by
 unfold spF; split
 ·exact swL_len
 split
 ·rfl
 rw [List.length_set]
theorem spL_nil : spL n [] = List.replicate n 0 := rfl
theorem spL_snoc (i : Nat) (hi : i < S.length) : spL n (S.take (i + 1)) = spF (S.getD i []) (spL n (S.take i)) := by
 unfold spL
 rw [List.take_succ_eq_append_getElem hi, List.foldl_append, List.getD_eq_getElem?_getD, List.getElem?_eq_getElem hi]
 rfl
theorem spL_len : (spL n S).length = n := by
 unfold spL
 have key : ∀ (S : List (List Int)) (b : List Rat), (S.foldl (fun b s => spF s b) b).length = b.length := by
  intro S
  induction S with
  | nil => intro b; rfl
  | cons s S ih => intro b; rw [List.foldl_cons, ih, spF_len]
 rw [key, List.length_replicate]
theorem mxL_snoc (i : Nat) (hi : i < l.length) : mxL (l.take (i + 1)) = if mxL (l.take i) < l.getD i 0 then l.getD i 0 else mxL (l.take i) := by
 unfold mxL
 rw [List.take_succ_eq_append_getElem hi, List.foldl_append, List.getD_eq_getElem?_getD, List.getElem?_eq_getElem hi]
 rfl
theorem mxL_nil : mxL [] = 0 := rfl
def Bw (b : List Rat) (D A : Nat) : Prop := 0 < D ∧ D % 2 = 0 ∧ ∀ i, Wh (b.getD i 0 * ((D : Int) : Rat)) A
theorem getD_setQ : (b.set t x).getD i 0 = if t = i ∧ t < b.length then x else b.getD i 0 := by
 by_cases h : t = i
 ·subst h
  by_cases h2 : t < b.length
  ·rw [if_pos ⟨rfl, h2⟩]; simp [List.getD_eq_getElem?_getD, h2]
  rw [if_neg (fun h => h2 h.2), List.set_eq_of_length_le xq]
 rw [if_neg (fun h9 => h h9.1)]; simp [List.getD_eq_getElem?_getD, h]
theorem absQ_wq (h : 0 ≤ sh) : absQ (wq cf sh) = wq (cf.natAbs : Int) sh := by
 unfold wq absQ
 have hp : (0 : Rat) < ((p2i sh : Int) : Rat) := castI_pos (zxo sh)
 have hi : (0 : Rat) < ((p2i sh : Int) : Rat)⁻¹ := Rat.inv_pos.2 hp
 rw [Rat.div_def, Rat.div_def]
 by_cases h1 : cf < 0
 ·have h2 : ((cf : Int) : Rat) < 0 := Rat.intCast_lt_intCast.2 h1
  have h3 : ((cf : Int) : Rat) * ((p2i sh : Int) : Rat)⁻¹ < 0 := by
   have := Rat.mul_pos (show 0 < -((cf : Int) : Rat) by grind) hi
   grind
  rw [if_pos h3, show (cf.natAbs : Int) = -cf by omega, Rat.intCast_neg, Rat.neg_mul]
 have h2 : (0 : Rat) ≤ ((cf : Int) : Rat) := Rat.intCast_le_intCast.2 (show (0 : Int) ≤ cf by omega)
 have h3 : ¬ ((cf : Int) : Rat) * ((p2i sh : Int) : Rat)⁻¹ < 0 := Rat.not_lt.2 (Rat.mul_nonneg h2 (Rat.le_of_lt hi))
 rw [if_neg h3, show (cf.natAbs : Int) = cf by omega]
theorem Wh.half (h0 : 0 < D) (hD : D % 2 = 0) (hb : D ≤ 2 ^ A) : Wh ((1 / 2 : Rat) * ((D : Int) : Rat)) A := by
 refine ⟨((D / 2 : Nat) : Int), ?_, by rw [Int.natAbs_natCast]; omega⟩
 obtain ⟨e, rfl⟩ : ∃ e, D = 2 * e := ⟨D / 2, by omega⟩
 rw [Nat.mul_div_cancel_left e xw]
 have : (((2 * e : Nat) : Int) : Rat) = 2 * ((e : Int) : Rat) := by rw [show ((2 * e : Nat) : Int) = 2 * (e : Int) from Int.natCast_mul 2 e, Rat.intCast_mul]; rfl
 rw [this]; grind
theorem Bw.spF (h : Bw b D A) (hD : D ≤ 2 ^ A) (ht : t < b.length) (hf : f < b.length) (h1 : -2 ≤ sh) (h2 : sh ≤ 20) (h3 : -2097152 ≤ cf ∧ cf ≤ 2097152) : Bw (spF [(t : Int), (f : Int), cf, sh] b) (D * 2 ^ 20) (A + 43) := by
 have hd2 : D * 2 ^ 20 % 2 = 0 := by rw [show D * 2 ^ 20 = 2 * (D * 2 ^ 19) by omega]; exact Nat.mul_mod_right 2 _
 refine ⟨Nat.mul_pos h.1 xw, hd2, fun i => ?_⟩
 by_cases g1 : sh = -1
 ·rw [spF_x g1, swL_at ht hf]
  split
  ·exact (h.2.2 f).scale.more xq
  split
  ·exact (h.2.2 t).scale.more xq
  exact (h.2.2 i).scale.more xq
 by_cases g2 : sh = -2
 ·rw [spF_n g2]; exact (h.2.2 i).scale.more xq
 rw [spF_s g1 g2, getD_setQ]
 split
 ·unfold spG
  rw [absQ_wq xq]
  have k1 := (h.2.2 t).scale
  have k2 := (h.2.2 f).shear (sh := sh) (cf := (cf.natAbs : Int)) xq h2 xq
  have k3 : Wh ((if cf.tmod (p2i sh) = 0 then (0 : Rat) else 1 / 2) * (((D * 2 ^ 20 : Nat) : Int) : Rat)) (A + 41) := by
   split
   ·exact Wh.zero' (Rat.zero_mul _) _
   refine Wh.half (Nat.mul_pos h.1 xw) hd2 ?_
   rw [Nat.pow_add]
   exact Nat.mul_le_mul hD (Nat.pow_le_pow_right xw xw)
  have e : (b.getD t 0 + (wq (cf.natAbs : Int) sh * b.getD f 0 + if cf.tmod (p2i sh) = 0 then (0 : Rat) else 1 / 2)) * (((D * 2 ^ 20 : Nat) : Int) : Rat) = b.getD t 0 * (((D * 2 ^ 20 : Nat) : Int) : Rat) + (wq (cf.natAbs : Int) sh * b.getD f 0 * (((D * 2 ^ 20 : Nat) : Int) : Rat) + (if cf.tmod (p2i sh) = 0 then (0 : Rat) else 1 / 2) * (((D * 2 ^ 20 : Nat) : Int) : Rat)) := by
   rw [Rat.add_mul, Rat.add_mul]
  rw [e]
  exact (k1.more xq).add (k2.add k3)
 exact (h.2.2 i).scale.more xq
theorem spL_ok (hV : ∀ i, i < S.length → shOK (n : Int) (S.getD i [])) (h4 : Rows 4 S) : ∀ i, i ≤ S.length → Bw (spL n (S.take i)) (2 ^ (20 * i + 1)) (43 * i + 1) := by
 intro i
 induction i with
 | zero =>
  intro _
  rw [List.take_zero, spL_nil]
  exact ⟨by decide, by decide, fun i => Wh.zero' (by
   have : (List.replicate n (0 : Rat)).getD i 0 = 0 := by rw [List.getD_eq_getElem?_getD, List.getElem?_replicate]; split <;> rfl
   rw [this, Rat.zero_mul]) _⟩
 | succ i ih =>
  intro hi
  obtain ⟨t, f, cf, sh, e, k1, k2, k3, k4, k5, k6, _⟩ := shOK_four (hV i xq) (h4.get xq)
  rw [spL_snoc i xq, e]
  have h9 := (ih xq).spF (Nat.pow_le_pow_right xw xq) (by rw [spL_len]; exact k1) (by rw [spL_len]; exact k2) k3 k4 ⟨k5, k6⟩
  rw [← Nat.pow_add] at h9
  rwa [show 20 * (i + 1) + 1 = 20 * i + 1 + 20 by omega, show 43 * (i + 1) + 1 = 43 * i + 1 + 43 by omega]
theorem spL_rs (hV : ∀ i, i < S.length → shOK (n : Int) (S.getD i [])) (h4 : Rows 4 S) (h64 : S.length ≤ 64) (k : Nat) (hk : k ≤ S.length) : ∀ i, rs ((spL n (S.take k)).getD i 0) ≤ 100 := fun i => by
 have h8 := spL_ok hV h4 k hk
 have h9 := wh_rs h8.1 (h8.2.2 i) (Nat.pow_le_pow_right xw xq)
 have : dg (43 * k + 1) ≤ 100 := by unfold dg; omega
 omega
end
end Nt
theorem rats_swap {u : World} {L : List RL} {T : List Rat} {t f K : Nat} {r1 r2 : RL} (h : RatsN u L T K) (ht : t < T.length) (hf : f < T.length) (h1 : RatN u r1 (T.getD f 0) K) (h2 : RatN u r2 (T.getD t 0) K) : RatsN u ((L.set t r1).set f r2) (Nt.swL T t f 0) K :=
 rats_set (rats_set h ht h1) (by rw [List.length_set]; exact hf) h2
theorem k_greater {u w : World} {r s : RL} {x y : Rat} {K : Nat} (d : Dat u w) (hr : RatN u r x K) (hs : RatN u s y K) (hK : K ≤ 1000000) : Calls Tryz.prog 128 #[r.v, s.v] w (Post u w fun v u' => ∃ q : RL, v = q.v ∧ RatN u' q (if x < y then y else x) K) := by
 refine zzl (args := [r.v, s.v]) Tryz.func128 rfl Tryz.ntmps128 (rs := [.cell 4 26]) Tryz.results128 (le_b rfl) (le_b rfl) d ?_
 refine sq9 (zzj 2 ⟨26, r.cs⟩ (zzj 3 ⟨26, s.cs⟩ (zzj 4 ⟨26, zw3⟩ (zzb (zzd (sq9 (zzh 5 (.v (r.v)) ty26 zze (zzh 6 (.v (s.v)) ty26 zze (zzg 7 197 _ fun _ _ ab ae => Post.mono (k_ratCompare ae (hr.ext ab).raw (hs.ext ab).raw xq xq) ?_)))))))))
 rintro _ u12 ac rfl
 refine zza 8 (zB (decide ((Nt.cmpQ x y) < 0))) (zzb (zzt (b := decide ((Nt.cmpQ x y) < 0)) xj (fun aa => ?_) (fun aa => ?_)))
 ·have qhb15 := of_decide_eq_true aa
  refine sq9 (zzh 9 (.v (s.v)) ty26 zze (zzi ⟨26, s.cs⟩ ty26 ?_))
  refine zzb (zzn (zzv (ret0 [s.v] ⟨zzq ty26 zze, trivial⟩ fun u16 ad => ?_)))
  have h8 := aa
  rw [Nt.cmpQ_lt] at h8
  have h7 := of_decide_eq_true h8
  refine ⟨s, rfl, ?_⟩
  rw [if_pos h7]
  exact (hs.ext (ab.trans (ac.ext.trans ad)))
 have qhb15 := of_decide_eq_false aa
 refine zzr (zzo ?_)
 refine sq9 (zzh 10 (.v (r.v)) ty26 zze (zzi ⟨26, r.cs⟩ ty26 ?_))
 refine zzb (zzn (ret0 [r.v] ⟨zzq ty26 zze, trivial⟩ fun u18 af => ?_))
 have h8 := aa
 rw [Nt.cmpQ_lt] at h8
 have h7 := of_decide_eq_false h8
 refine ⟨r, rfl, ?_⟩
 rw [if_neg h7]
 exact (hr.ext (ab.trans (ac.ext.trans af)))
set_option maxHeartbeats 4000000 in
theorem k_dspread {u w : World} {x : Sl} {S : List (List Int)} {n : Nat} (d : Dat u w) (hx : IrV 4 u x S) (hV : Nt.shV (n : Int) S) : Calls Tryz.prog 56 #[x.v, .int .i64 (n : Int)] w (Post u w fun v u' => ∃ r : RL, v = .tuple #[r.v, .int .i64 0] ∧ RatN u' r (Nt.mxL (Nt.spL n S)) 100) := by
 have hlx : x.n = S.length := hx.len
 have hV1 := hV.1
 have hV2 := hV.2.1
 have hV3 := hV.2.2.1
 refine zzl (args := [x.v, .int .i64 n]) Tryz.func56 rfl Tryz.ntmps56 (rs := [.cell 4 26, .tmp 5]) Tryz.results56 (le_b rfl) (le_b rfl) d ?_
 refine sq9 (zzj 4 ⟨26, zw3⟩ (zza 5 (zI 0) (zzb (zzd (sq9 (zza 14 (.v (x.v)) (zza 15 (zI n) (zzg 16 64 _ fun _ _ aJ a7 => Post.mono (k_dvalid (x := x) (n := (n : Int)) a7 (hx.ext aJ) xq) ?_))))))))
 rintro _ a8 aT rfl
 refine zza 17 (zB (!(decide (Nt.shV (n : Int) S)))) (zzb (zzt (b := !(decide (Nt.shV (n : Int) S))) xj (fun hb => ?_) (fun hb => ?_)))
 ·exact absurd hb (by rw [show (!(decide (Nt.shV (n : Int) S))) = false from (by rw [decide_eq_true hV]; rfl)]; decide)
 clear hb
 refine zzr (zzo ?_)
 refine sq9 (zza 19 (zI n) (sy_make 20 (T := 54) (E := 26) (z := .agg #[.bool false, .slice none 0 0, .slice none 0 0]) (size := 3) (bytes := 56) n (rcs (List.replicate n rl0)) xj xj rfl rfl xq yv (made_rcs _) ?_))
 refine zza 6 (.slc 20 0 n n) (zzc 104 [(0, .v (x.v)), (4, .adr 4 0), (6, .slc 20 0 n n)] [(4, ⟨26, zw3⟩), (20, ⟨26, rcs (List.replicate n rl0)⟩)] (zzd (sq9 (zza 21 (.slc 20 0 n n) (zza 22 (zI n) (zza 23 (zI 0) (zzc 104 [(0, .v (x.v)), (4, .adr 4 0), (6, .slc 20 0 n n), (22, zI n), (23, zI 0)] [(4, ⟨26, zw3⟩), (20, ⟨26, rcs (List.replicate n rl0)⟩)] (zzs (zym (I := fun a5 S' u' => ∃ (i0 : Nat) (L0 : List RL), (a5 = n - i0) ∧ (i0 ≤ n) ∧ (L0.length = n) ∧ (S' = St.of 104 [(0, .v (x.v)), (4, .adr 4 0), (6, .slc 20 0 n n), (22, zI n), (23, zI i0)] [(4, ⟨26, zw3⟩), (20, ⟨26, rcs L0⟩)]) ∧ (Ext a8 u') ∧ (RatsN u' (L0.take i0) ((List.replicate n (0 : Rat)).take i0) 100)) (fun m S u1 u2 e h => by obtain ⟨i0, L0, hm, p0, p1, hS, hE, f0⟩ := h; exact ⟨i0, L0, hm, p0, p1, hS, hE.trans e, f0.ext e⟩) _ yz ⟨0, List.replicate n rl0, rfl, by omega, by simp, rfl, (Ext.refl _), RatsN.tnil _ _ _ _⟩ ?_)))))))))
 rintro a5 _ bb ⟨i0, L0, bA, hi0, bx, rfl, aK, aU⟩
 refine sq9 (zza 24 (zB (decide ((i0 : Int) < (n : Int)))) (zzb (zzd (zzt (b := decide ((i0 : Int) < (n : Int))) xj (fun ar => ?_) (fun ar => ?_)))))
 ·have qhb16 := of_decide_eq_true ar
  refine zzr (zzo ?_)
  refine zzd (zzs (sq9 (zza 25 (zI i0) (zza 7 (zI i0) (zzb (zzf (zza 26 (.slc 20 0 n n) (zza 27 (zI i0) (zzg 28 118 _ fun _ _ aR bn => Post.mono (k_ratOf bn (z := 0) xq xq) ?_)))))))))
  rintro _ u20 aX ⟨aM, rfl, bo⟩
  refine zyv 29 (off' := i0 * 3) (n := n) (off := 0) (sz := 3) (i := (i0 : Int)) sl54 xq xq xq ?_
  refine zyu (V := ⟨26, rcs L0⟩) (off := i0 * 3) (rcs ((L0).set i0 aM)) ty26 (by rw [zyx]; first|omega|(simp;omega)) (zyw (r := aM) (i := i0) yy rfl) ?_
  refine zzw ?_
  refine zzo (zzf (zyp 30 (x := zI (IntKind.i64.wrap ((i0 : Int) + 1))) (zI (i0 + 1 : Nat)) (eqI xk) (zza 23 (zI (i0 + 1 : Nat)) (zzw ?_))))
  have aL : i0 < (List.replicate n (0 : Rat)).length := by rw [List.length_replicate]; omega
  refine ⟨_, ?_, _, by exact zzu _ _ _, i0 + 1, (L0).set i0 aM, rfl, by omega, by simpa using bx, rfl, (aK.trans (aR.trans aX.ext)), RatsN.tstep (aU.ext (aR.trans aX.ext)) xq aL (RatN.more (K := 2) bo xq) (by rw [Nt.rep0_at]; rfl)⟩
  omega
 have qhb16 := of_decide_eq_false ar
 refine zyb (zzo (zzd (sq9 (zza 31 (.v (x.v)) (zza 32 (zI x.n) (zza 33 (zI 0) (zzb (zzs (zym (I := fun a1 S' u' => ∃ (k : Nat) (L : List RL), (a1 = S.length - k) ∧ (k ≤ S.length) ∧ (L.length = n) ∧ (S' = St.of 104 [(4, .adr 4 0), (6, .slc 20 0 n n), (31, .v (x.v)), (32, zI x.n), (33, zI k)] [(4, ⟨26, zw3⟩), (20, ⟨26, rcs L⟩)]) ∧ (Ext bb u') ∧ (RatsN u' L (Nt.spL n (S.take k)) 100)) (fun m S u1 u2 e h => by obtain ⟨k, L, hm, p0, p1, hS, hE, f0⟩ := h; exact ⟨k, L, hm, p0, p1, hS, hE.trans e, f0.ext e⟩) _ yz ⟨0, L0, rfl, by omega, by omega, rfl, (Ext.refl _), (by rw [List.take_zero, Nt.spL_nil]; exact (RatsN.tdone aU xq (by rw [List.length_replicate]; omega)))⟩ ?_)))))))))
 rintro a1 _ u24 ⟨k, L, bz, hk, hLl, rfl, aw, f0⟩
 have hEl : (Nt.spL n (S.take k)).length = n := Nt.spL_len
 refine sq9 (zza 34 (zB (decide ((k : Int) < (x.n : Int)))) (zzb (zzd (zzt (b := decide ((k : Int) < (x.n : Int))) xj (fun ak => ?_) (fun ak => ?_)))))
 ·have qhb25 := of_decide_eq_true ak
  refine zzr (zzo ?_)
  refine zzd (zzs (sq9 ?_))
  have hl26 := ((hx.ext (aJ.trans (aT.ext.trans (aK.trans aw))))).len
  obtain ⟨b26, a2, aG, aH⟩ := ir_at4 (hx.ext (aJ.trans (aT.ext.trans (aK.trans aw)))) (i := k) xq
  refine zzz 35 (a2 + k * 4) (n := x.n) (off := a2) (sz := 4) (i := (k : Int)) xq aG xq xq sl64 (zyl 36 [.int .i64 (gi S k 0), .int .i64 (gi S k 1), .int .i64 (gi S k 2), .int .i64 (gi S k 3)] aH ty90 (zzj 9 ⟨90, [.int .i64 0, .int .i64 0, .int .i64 0, .int .i64 0]⟩ (zzi ⟨90, [.int .i64 (gi S k 0), .int .i64 (gi S k 1), .int .i64 (gi S k 2), .int .i64 (gi S k 3)]⟩ ty90 ?_)))
  refine zzb (zzd ?_)
  have hsO := hV.2.2.2 k xq
  rw [row4 hx.rows xq] at hsO
  obtain ⟨tz, htz⟩ : ∃ t : Nat, gi S k 0 = (t : Int) := ⟨(gi S k 0).toNat, by have h9 : 0 ≤ gi S k 0 := hsO.1; omega⟩
  obtain ⟨fz, hfz⟩ : ∃ t : Nat, gi S k 1 = (t : Int) := ⟨(gi S k 1).toNat, by have h9 : 0 ≤ gi S k 1 := hsO.2.2.1; omega⟩
  rw [htz, hfz]
  rw [htz, hfz] at hsO
  obtain ⟨hs1, hs2, hs3, hs4, hs5, hs6, hs7, hs8⟩ := Nt.shOK_mk hsO
  refine zzf (zza 37 (.adr 9 3) (zzh 38 (zI (gi S k 3)) ty3 zzk (zzb (zzs (sq9 (zza 70 (zB ((gi S k 3) == (-2))) (zza 69 (zB ((gi S k 3) == (-2))) (zzb (zzt (b := (gi S k 3) == (-2)) xj (fun ao => ?_) (fun ao => ?_))))))))))
  ·have aa : (gi S k 3) = (-2) := by simpa using ao
   refine zzr (zzo ?_)
   refine zzf (zyp 91 (x := zI (IntKind.i64.wrap ((k : Int) + 1))) (zI (k + 1 : Nat)) (eqI xk) (zza 33 (zI (k + 1 : Nat)) (zzw ?_)))
   have hst : Nt.spL n (S.take (k + 1)) = Nt.spF [(tz : Int), (fz : Int), gi S k 2, gi S k 3] (Nt.spL n (S.take k)) := by rw [Nt.spL_snoc k xq, row4 hx.rows xq, htz, hfz]
   rw [Nt.spF_n aa] at hst
   refine ⟨_, ?_, _, by exact zzu _ _ _, k + 1, L, rfl, by omega, hLl, rfl, aw, (by rw [hst]; exact f0)⟩
   omega
  have aa : ¬ (gi S k 3) = (-2) := by simpa using ao
  refine sq9 (zza 72 (zB ((gi S k 3) == (-1))) (zza 71 (zB ((gi S k 3) == (-1))) (zzb (zzt (b := (gi S k 3) == (-1)) xj (fun an => ?_) (fun an => ?_)))))
  ·have ab : (gi S k 3) = (-1) := by simpa using an
   refine zzy [0, 0, 2, 0, 0, 16, 0, 0, 128, 448, 960, 0, 0, 4096, 14336, 30720, 65479, 131015, 262143, 524287] [(0, []), (1, []), (2, []), (3, []), (4, []), (5, []), (6, []), (7, []), (8, []), (9, []), (10, []), (11, []), (12, []), (13, []), (14, []), (15, []), (16, []), (17, [77]), (18, []), (19, [])] xj xj (zza 73 (.slc 20 0 n n) (zza 74 (.adr 9 0) (zzh 75 (zI tz) ty3 zzk (zza 76 (.slc 20 0 n n) (zza 77 (.adr 9 1) (zzh 78 (zI fz) ty3 zzk (zza 79 (.slc 20 0 n n) (zza 80 (.adr 9 1) (zzh 81 (zI fz) ty3 zzk (zyv 82 (off' := fz * 3) (n := n) (off := 0) (sz := 3) (i := (fz : Int)) sl54 xq xq xq ?_))))))))))
   obtain ⟨ax, ac⟩ : ∃ r : RL, (L).getD fz rl0 = r := ⟨_, rfl⟩
   refine zzh 83 (V := ⟨26, rcs L⟩) (off := fz * 3) (.v ax.v) ty26 (by have h9 := part_rcs (L := L) (i := fz) (off := fz * 3) yy rfl; rw [ac] at h9; exact h9) ?_
   have h30 := f0.2 fz yy
   rw [ac] at h30
   refine zza 84 (.slc 20 0 n n) (zza 85 (.adr 9 0) (zzh 86 (zI tz) ty3 zzk (zyv 87 (off' := tz * 3) (n := n) (off := 0) (sz := 3) (i := (tz : Int)) sl54 xq xq xq ?_)))
   obtain ⟨aA, ag⟩ : ∃ r : RL, (L).getD tz rl0 = r := ⟨_, rfl⟩
   refine zzh 88 (V := ⟨26, rcs L⟩) (off := tz * 3) (.v aA.v) ty26 (by have h9 := part_rcs (L := L) (i := tz) (off := tz * 3) yy rfl; rw [ag] at h9; exact h9) ?_
   have h32 := f0.2 tz yy
   rw [ag] at h32
   refine zyv 89 (off' := tz * 3) (n := n) (off := 0) (sz := 3) (i := (tz : Int)) sl54 xq xq xq ?_
   refine zyu (V := ⟨26, rcs L⟩) (off := tz * 3) (rcs ((L).set tz ax)) ty26 (by rw [zyx]; first|omega|(simp;omega)) (zyw (r := ax) (i := tz) yy rfl) ?_
   refine zyv 90 (off' := fz * 3) (n := n) (off := 0) (sz := 3) (i := (fz : Int)) sl54 xq xq xq ?_
   refine zyu (V := ⟨26, rcs ((L).set tz ax)⟩) (off := fz * 3) (rcs (((L).set tz ax).set fz aA)) ty26 (by rw [zyx]; first|omega|(simp;omega)) (zyw (r := aA) (i := fz) yy rfl) ?_
   refine zzw ?_
   refine zzo (zzf (zyp 91 (x := zI (IntKind.i64.wrap ((k : Int) + 1))) (zI (k + 1 : Nat)) (eqI xk) (zza 33 (zI (k + 1 : Nat)) (zzw ?_))))
   have hst : Nt.spL n (S.take (k + 1)) = Nt.spF [(tz : Int), (fz : Int), gi S k 2, gi S k 3] (Nt.spL n (S.take k)) := by rw [Nt.spL_snoc k xq, row4 hx.rows xq, htz, hfz]
   rw [Nt.spF_x ab] at hst
   refine ⟨_, ?_, _, by exact zzu _ _ _, k + 1, (((L).set tz ax).set fz aA), rfl, by omega, by rw [List.length_set, List.length_set]; exact hLl, rfl, aw, (by rw [hst]; exact rats_swap f0 xq xq h30 h32)⟩
   omega
  have ab : ¬ (gi S k 3) = (-1) := by simpa using an
  refine zzd (zzy [0, 1, 3, 0, 0, 16, 56, 120, 255, 0, 1023] [(0, []), (3, []), (4, []), (5, []), (6, []), (7, []), (9, []), (1, []), (2, []), (8, []), (10, [])] xj xj (zzh 39 (.v (.agg #[.int .i64 tz, .int .i64 fz, .int .i64 (gi S k 2), .int .i64 (gi S k 3)])) ty90 zze (zza 42 (.slc 20 0 n n) (zza 43 (.adr 9 1) (zzh 44 (zI fz) ty3 zzk (zyv 45 (off' := fz * 3) (n := n) (off := 0) (sz := 3) (i := (fz : Int)) sl54 xq xq xq ?_))))))
  obtain ⟨bu, ah⟩ : ∃ r : RL, (L).getD fz rl0 = r := ⟨_, rfl⟩
  refine zzh 46 (V := ⟨26, rcs L⟩) (off := fz * 3) (.v bu.v) ty26 (by have h9 := part_rcs (L := L) (i := fz) (off := fz * 3) yy rfl; rw [ah] at h9; exact h9) ?_
  have h34 := f0.2 fz yy
  rw [ah] at h34
  refine zzj 10 ⟨26, zw3⟩ (zzg 40 125 _ fun _ _ am bi => Post.mono (k_factor (t := (tz : Int)) (f := (fz : Int)) (cf := gi S k 2) (sh := gi S k 3) bi xq xq xq xq) ?_)
  rintro _ u38 ap ⟨r36, rfl, be⟩
  refine zzg 41 124 _ fun _ _ ad ba => Post.mono (k_ratAbs ba (be.ext ad).raw xq) ?_
  rintro _ u44 aq ⟨r42, rfl, bB⟩
  refine zzg 47 123 _ fun _ _ ae bE => Post.mono (k_ratMul bE (bB.ext ae).raw (h34.ext (am.trans (ap.ext.trans (ad.trans (aq.ext.trans ae))))).raw xq xq) ?_
  rintro _ u50 av ⟨aF, rfl, aY⟩
  refine zzi ⟨26, aF.cs⟩ ty26 ?_
  refine zzc 104 [(4, .adr 4 0), (6, .slc 20 0 n n), (9, .adr 9 0), (10, .adr 10 0), (31, .v (x.v)), (32, zI x.n), (33, zI k)] [(4, ⟨26, zw3⟩), (9, ⟨90, [.int .i64 tz, .int .i64 fz, .int .i64 (gi S k 2), .int .i64 (gi S k 3)]⟩), (10, ⟨26, aF.cs⟩), (20, ⟨26, rcs L⟩)] (zzd (zzd (zzy [0, 1, 0, 4, 12, 31, 63] [(0, []), (1, []), (2, []), (3, []), (4, []), (5, []), (6, [])] xj xj (zza 48 (.adr 9 2) (zzh 49 (zI (gi S k 2)) ty3 zzk (zza 50 (.adr 9 3) (zzh 51 (zI (gi S k 3)) ty3 zzk (sy_shl 52 (k := .i64) (s := gi S k 3) (Nt.p2i (gi S k 3)) xq yw (shl_one xq xq) ?_))))))))
  refine sy_rem 53 (n := gi S k 2) (m := Nt.p2i (gi S k 3)) ((gi S k 2).tmod (Nt.p2i (gi S k 3))) (by have h9 := Nt.zxo (gi S k 3); omega) rfl ?_
  refine zza 54 (zB (((gi S k 2).tmod (Nt.p2i (gi S k 3))) != 0)) (zzb (zzt (b := ((gi S k 2).tmod (Nt.p2i (gi S k 3))) != 0) xj (fun au => ?_) (fun au => ?_)))
  ·refine zzy [0, 0, 3, 7] [(0, []), (1, []), (2, []), (3, [])] xj xj (zzh 55 (.v (aF.v)) ty26 zze (zzg 56 127 _ fun _ _ aD bm => Post.mono (k_ratFrac bm (a := 1) (b := 2) xq xq xq xq) ?_))
   rintro _ u57 aB ⟨r55, rfl, bv⟩
   refine zzg 57 126 _ fun _ _ ay bp => Post.mono (k_ratAdd bp (aY.ext (aD.trans (aB.ext.trans ay))).raw (bv.ext ay).raw xq xq) ?_
   rintro _ u63 aO ⟨a0, rfl, bs⟩
   refine zzi ⟨26, a0.cs⟩ ty26 ?_
   refine zzb (zzy [0, 0, 2, 0, 0, 16, 56, 120, 0, 504, 1023, 2047] [(0, []), (1, []), (2, []), (3, []), (4, []), (5, []), (6, []), (7, []), (8, []), (9, []), (10, []), (11, [])] xj xj (zza 58 (.slc 20 0 n n) (zza 59 (.adr 9 0) (zzh 60 (zI tz) ty3 zzk (zza 61 (.slc 20 0 n n) (zza 62 (.adr 9 0) (zzh 63 (zI tz) ty3 zzk (zyv 64 (off' := tz * 3) (n := n) (off := 0) (sz := 3) (i := (tz : Int)) sl54 xq xq xq ?_))))))))
   obtain ⟨bD, af⟩ : ∃ r : RL, (L).getD tz rl0 = r := ⟨_, rfl⟩
   refine zzh 65 (V := ⟨26, rcs L⟩) (off := tz * 3) (.v bD.v) ty26 (by have h9 := part_rcs (L := L) (i := tz) (off := tz * 3) yy rfl; rw [af] at h9; exact h9) ?_
   have h67 := (f0.ext (am.trans (ap.ext.trans (ad.trans (aq.ext.trans (ae.trans (av.ext.trans (aD.trans (aB.ext.trans (ay.trans aO.ext)))))))))).2 tz yy
   rw [af] at h67
   refine zzh 66 (.v (a0.v)) ty26 zze (zzg 67 126 _ fun _ _ aC bg => Post.mono (k_ratAdd bg (h67.ext aC).raw (bs.ext aC).raw xq xq) ?_)
   rintro _ u71 aZ ⟨aN, rfl, bk⟩
   refine zyv 68 (off' := tz * 3) (n := n) (off := 0) (sz := 3) (i := (tz : Int)) sl54 xq xq xq ?_
   refine zyu (V := ⟨26, rcs L⟩) (off := tz * 3) (rcs ((L).set tz aN)) ty26 (by rw [zyx]; first|omega|(simp;omega)) (zyw (r := aN) (i := tz) yy rfl) ?_
   refine zzw ?_
   refine zzo (zzf (zyp 91 (x := zI (IntKind.i64.wrap ((k : Int) + 1))) (zI (k + 1 : Nat)) (eqI xk) (zza 33 (zI (k + 1 : Nat)) (zzw ?_))))
   have hst : Nt.spL n (S.take (k + 1)) = Nt.spF [(tz : Int), (fz : Int), gi S k 2, gi S k 3] (Nt.spL n (S.take k)) := by rw [Nt.spL_snoc k xq, row4 hx.rows xq, htz, hfz]
   rw [Nt.spF_s ab aa] at hst
   have hrm : ¬ (gi S k 2).tmod (Nt.p2i (gi S k 3)) = 0 := by have h9 := au; simpa using h9
   have hval : (((Nt.spL n (S.take k)).getD tz 0) + (((Nt.absQ (Nt.wq (gi S k 2) (gi S k 3))) * ((Nt.spL n (S.take k)).getD fz 0)) + (((1 : Int) : Rat) / ((2 : Int) : Rat)))) = (Nt.spL n (S.take k)).getD tz 0 + Nt.spG (gi S k 2) (gi S k 3) ((Nt.spL n (S.take k)).getD fz 0) := by unfold Nt.spG; rw [if_neg hrm]; first | (show _ = _; grind) | (rw [show (((1 : Int) : Rat) / ((2 : Int) : Rat)) = 1 / 2 from rfl])
   have hr9 := RatN.fit (L := 100) (q := (Nt.spL n (S.take k)).getD tz 0 + Nt.spG (gi S k 2) (gi S k 3) ((Nt.spL n (S.take k)).getD fz 0)) (by rw [← hval]; exact bk) (by have h9 := Nt.spL_rs hV.2.2.2 hx.rows xq (k + 1) xq tz; rw [hst, Nt.getD_setQ, if_pos ⟨rfl, by omega⟩] at h9; exact h9)
   refine ⟨_, ?_, _, by exact zzu _ _ _, k + 1, ((L).set tz aN), rfl, by omega, by rw [List.length_set]; exact hLl, rfl, (aw.trans (am.trans (ap.ext.trans (ad.trans (aq.ext.trans (ae.trans (av.ext.trans (aD.trans (aB.ext.trans (ay.trans (aO.ext.trans (aC.trans aZ.ext)))))))))))), (by rw [hst]; exact rats_set (f0.ext (am.trans (ap.ext.trans (ad.trans (aq.ext.trans (ae.trans (av.ext.trans (aD.trans (aB.ext.trans (ay.trans (aO.ext.trans (aC.trans aZ.ext)))))))))))) xq hr9)⟩
   omega
  refine zzr (zzo ?_)
  refine zzy [0, 0, 2, 0, 0, 16, 56, 120, 0, 504, 1023, 2047] [(0, []), (1, []), (2, []), (3, []), (4, []), (5, []), (6, []), (7, []), (8, []), (9, []), (10, []), (11, [])] xj xj (zza 58 (.slc 20 0 n n) (zza 59 (.adr 9 0) (zzh 60 (zI tz) ty3 zzk (zza 61 (.slc 20 0 n n) (zza 62 (.adr 9 0) (zzh 63 (zI tz) ty3 zzk (zyv 64 (off' := tz * 3) (n := n) (off := 0) (sz := 3) (i := (tz : Int)) sl54 xq xq xq ?_)))))))
  obtain ⟨bw, aj⟩ : ∃ r : RL, (L).getD tz rl0 = r := ⟨_, rfl⟩
  refine zzh 65 (V := ⟨26, rcs L⟩) (off := tz * 3) (.v bw.v) ty26 (by have h9 := part_rcs (L := L) (i := tz) (off := tz * 3) yy rfl; rw [aj] at h9; exact h9) ?_
  have h75 := (f0.ext (am.trans (ap.ext.trans (ad.trans (aq.ext.trans (ae.trans av.ext)))))).2 tz yy
  rw [aj] at h75
  refine zzh 66 (.v (aF.v)) ty26 zze (zzg 67 126 _ fun _ _ az bh => Post.mono (k_ratAdd bh (h75.ext az).raw (aY.ext az).raw xq xq) ?_)
  rintro _ u79 a4 ⟨aI, rfl, bq⟩
  refine zyv 68 (off' := tz * 3) (n := n) (off := 0) (sz := 3) (i := (tz : Int)) sl54 xq xq xq ?_
  refine zyu (V := ⟨26, rcs L⟩) (off := tz * 3) (rcs ((L).set tz aI)) ty26 (by rw [zyx]; first|omega|(simp;omega)) (zyw (r := aI) (i := tz) yy rfl) ?_
  refine zzw ?_
  refine zzo (zzf (zyp 91 (x := zI (IntKind.i64.wrap ((k : Int) + 1))) (zI (k + 1 : Nat)) (eqI xk) (zza 33 (zI (k + 1 : Nat)) (zzw ?_))))
  have hst : Nt.spL n (S.take (k + 1)) = Nt.spF [(tz : Int), (fz : Int), gi S k 2, gi S k 3] (Nt.spL n (S.take k)) := by rw [Nt.spL_snoc k xq, row4 hx.rows xq, htz, hfz]
  rw [Nt.spF_s ab aa] at hst
  have hrm : (gi S k 2).tmod (Nt.p2i (gi S k 3)) = 0 := by have h9 := au; simpa using h9
  have hval : (((Nt.spL n (S.take k)).getD tz 0) + ((Nt.absQ (Nt.wq (gi S k 2) (gi S k 3))) * ((Nt.spL n (S.take k)).getD fz 0))) = (Nt.spL n (S.take k)).getD tz 0 + Nt.spG (gi S k 2) (gi S k 3) ((Nt.spL n (S.take k)).getD fz 0) := by unfold Nt.spG; rw [if_pos hrm]; first | (show _ = _; grind) | (rw [show (((1 : Int) : Rat) / ((2 : Int) : Rat)) = 1 / 2 from rfl])
  have hr9 := RatN.fit (L := 100) (q := (Nt.spL n (S.take k)).getD tz 0 + Nt.spG (gi S k 2) (gi S k 3) ((Nt.spL n (S.take k)).getD fz 0)) (by rw [← hval]; exact bq) (by have h9 := Nt.spL_rs hV.2.2.2 hx.rows xq (k + 1) xq tz; rw [hst, Nt.getD_setQ, if_pos ⟨rfl, by omega⟩] at h9; exact h9)
  refine ⟨_, ?_, _, by exact zzu _ _ _, k + 1, ((L).set tz aI), rfl, by omega, by rw [List.length_set]; exact hLl, rfl, (aw.trans (am.trans (ap.ext.trans (ad.trans (aq.ext.trans (ae.trans (av.ext.trans (az.trans a4.ext)))))))), (by rw [hst]; exact rats_set (f0.ext (am.trans (ap.ext.trans (ad.trans (aq.ext.trans (ae.trans (av.ext.trans (az.trans a4.ext)))))))) xq hr9)⟩
  omega
 have qhb25 := of_decide_eq_false ak
 refine zyb (zzo (sq9 (zzg 92 118 _ fun _ _ bC a9 => Post.mono (k_ratOf a9 (z := 0) xq xq) ?_)))
 rintro _ aV br ⟨aP, rfl, bc⟩
 refine zzj 11 ⟨26, zw3⟩ (zzi ⟨26, aP.cs⟩ ty26 ?_)
 refine zzb (zzd (zzd ?_))
 obtain ⟨E, hE⟩ : ∃ E, Nt.spL n S = E := ⟨_, rfl⟩
 have hEn : E.length = n := by rw [← hE]; exact Nt.spL_len
 have hO : RatsN aV L E 100 := by have h9 := (f0.ext (bC.trans br.ext)); rw [show k = S.length by omega, List.take_length, hE] at h9; exact h9
 refine zzf (zza 93 (.slc 20 0 n n) (zza 94 (zI n) (zza 95 (zI 0) (zzc 104 [(4, .adr 4 0), (11, .adr 11 0), (93, .slc 20 0 n n), (94, zI n), (95, zI 0)] [(4, ⟨26, zw3⟩), (11, ⟨26, aP.cs⟩), (20, ⟨26, rcs L⟩)] (zzs (zym (I := fun aS S' u' => ∃ (i : Nat) (rm : RL), (aS = n - i) ∧ (i ≤ n) ∧ (S' = St.of 104 [(4, .adr 4 0), (11, .adr 11 0), (93, .slc 20 0 n n), (94, zI n), (95, zI i)] [(4, ⟨26, zw3⟩), (11, ⟨26, rm.cs⟩), (20, ⟨26, rcs L⟩)]) ∧ (Ext aV u') ∧ (RatN u' rm (Nt.mxL (E.take i)) 100)) (fun m S u1 u2 e h => by obtain ⟨i, rm, hm, p0, hS, hE, f0⟩ := h; exact ⟨i, rm, hm, p0, hS, hE.trans e, f0.ext e⟩) _ yz ⟨0, aP, rfl, by omega, rfl, (Ext.refl _), (by rw [List.take_zero, Nt.mxL_nil]; exact RatN.more (K := 2) (by exact bc) xq)⟩ ?_))))))
 rintro aS _ u88 ⟨i, rm, bj, hi, rfl, aW, g0⟩
 refine sq9 (zza 96 (zB (decide ((i : Int) < (n : Int)))) (zzb (zzd (zzt (b := decide ((i : Int) < (n : Int))) xj (fun al => ?_) (fun al => ?_)))))
 ·have qhb89 := of_decide_eq_true al
  refine zzr (zzo ?_)
  refine zzd (zzs (sq9 (zyv 97 (off' := i * 3) (n := n) (off := 0) (sz := 3) (i := (i : Int)) sl54 xq xq xq ?_)))
  obtain ⟨aE, ai⟩ : ∃ r : RL, (L).getD i rl0 = r := ⟨_, rfl⟩
  refine zzh 98 (V := ⟨26, rcs L⟩) (off := i * 3) (.v aE.v) ty26 (by have h9 := part_rcs (L := L) (i := i) (off := i * 3) yy rfl; rw [ai] at h9; exact h9) ?_
  have h91 := (hO.ext aW).2 i yy
  rw [ai] at h91
  refine zzj 13 ⟨26, zw3⟩ (zzi ⟨26, aE.cs⟩ ty26 ?_)
  refine zzc 104 [(4, .adr 4 0), (11, .adr 11 0), (13, .adr 13 0), (93, .slc 20 0 n n), (94, zI n), (95, zI i)] [(4, ⟨26, zw3⟩), (11, ⟨26, rm.cs⟩), (13, ⟨26, aE.cs⟩), (20, ⟨26, rcs L⟩)] (zzf (zzh 99 (.v (rm.v)) ty26 zze (zzh 100 (.v (aE.v)) ty26 zze (zzg 101 128 _ fun _ _ aQ bf => Post.mono (k_greater (K := 100) bf (g0.ext aQ) (h91.ext aQ) xq) ?_))))
  rintro _ u95 a6 ⟨a3, rfl, bl⟩
  refine zzi ⟨26, a3.cs⟩ ty26 ?_
  refine zzw ?_
  refine zzo (zzf (zyp 102 (x := zI (IntKind.i64.wrap ((i : Int) + 1))) (zI (i + 1 : Nat)) (eqI xk) (zza 95 (zI (i + 1 : Nat)) (zzw ?_))))
  refine ⟨_, ?_, _, by exact zzu _ _ _, i + 1, a3, rfl, by omega, rfl, (aW.trans (aQ.trans a6.ext)), (by rw [Nt.mxL_snoc i xq]; exact bl)⟩
  omega
 have qhb89 := of_decide_eq_false al
 refine zyb (zzo (sq9 (zzh 103 (.v (rm.v)) ty26 zze (zzi ⟨26, rm.cs⟩ ty26 ?_))))
 refine zza 5 (zI 0) (zzc 104 [(4, .adr 4 0), (5, zI 0)] [(4, ⟨26, rm.cs⟩)] (zzn (ret0 [rm.v, .int .i64 0] ⟨zzq ty26 zze, zzp, trivial⟩ fun u98 bt => ?_)))
 refine ⟨rm, rfl, ?_⟩
 rw [hE]
 have h9 := (g0.ext bt)
 rw [show i = E.length by omega, List.take_length] at h9
 exact h9
theorem k_dspreadB {u w : World} {x : Sl} {S : List (List Int)} {n : Int} (d : Dat u w) (hx : IrV 4 u x S) (h9 : S.length ≤ 1000000) (hV : ¬ Nt.shV n S) : Calls Tryz.prog 56 #[x.v, .int .i64 n] w (Post u w fun v u' => v = .tuple #[.agg #[.bool false, .slice none 0 0, .slice none 0 0], .int .i64 2]) := by
 refine zzl (args := [x.v, .int .i64 n]) Tryz.func56 rfl Tryz.ntmps56 (rs := [.cell 4 26, .tmp 5]) Tryz.results56 (le_b rfl) (le_b rfl) d ?_
 refine sq9 (zzj 4 ⟨26, zw3⟩ (zza 5 (zI 0) (zzb (zzd (sq9 (zza 14 (.v (x.v)) (zza 15 (zI n) (zzg 16 64 _ fun _ _ aa ab => Post.mono (k_dvalid (x := x) (n := n) ab (hx.ext aa) xq) ?_))))))))
 rintro _ u12 g13 rfl
 refine zza 17 (zB (!(decide (Nt.shV n S)))) (zzb (zzt (b := !(decide (Nt.shV n S))) xj (fun hb => ?_) (fun hb => ?_)))
 ·clear hb
  refine sq9 (zza 18 (.v (.agg #[.bool false, .slice none 0 0, .slice none 0 0])) (zzi ⟨26, zw3⟩ ty26 ?_))
  refine zza 5 (zI 2) (zzb (zzn (zzv (ret0 [.agg #[.bool false, .slice none 0 0, .slice none 0 0], .int .i64 2] ⟨zzq ty26 zze, zzp, trivial⟩ fun u15 e16 => ?_))))
  rfl
 exact absurd hb (by rw [show (!(decide (Nt.shV n S))) = true from (by rw [decide_eq_false hV]; rfl)]; decide)
end Go.Proofs.YtbolmkfphieogaaGreat
