/- Parts of the proof: contracts of functions, each walked once, and plain laws. -/
import Derived.Test.YtbolmkfphieogaaGreatDioE
import Derived.RangeFuncFrom
import Derived.RangeFuncLeaves
import Derived.RangeFuncCalls
import Derived.WalkKit
import Derived.OwnWalkIn
import Derived.TacticsInMore
import Derived.LoopNIn
import Derived.LoopIn
import Derived.RangeFuncNested
set_option linter.unusedVariables false
namespace Go.Proofs.YtbolmkfphieogaaGreat
open Go.RowKit
theorem k_exactly {u w : World} {r : RL} {q : Rat} {K k : Nat} (d : Dat u w) (hr : RatN u r q K) (hk : k ≤ 256) (hK : K ≤ 10) : Calls Tryz.prog 177 #[r.v, .int .i64 (k : Int)] w (Post u w fun v u' => ∃ r1 r2 : RL, v = IV r1 r2 ∧ RatN u' r1 (Nt.dnQ q k) 80 ∧ RatN u' r2 (-Nt.dnQ (-q) k) 80) := by
 refine zzl (args := [r.v, .int .i64 k]) Tryz.func177 rfl Tryz.ntmps177 (rs := [.cell 4 32]) Tryz.results177 (le_b rfl) (le_b rfl) d ?_
 refine sq9 (zzj 2 ⟨26, r.cs⟩ (zzj 4 ⟨32, zw6⟩ (zzb (sq9 (zzh 8 (.v (r.v)) ty26 zze (zzh 9 (.v (r.v)) ty26 zze (zzg 10 144 _ fun _ _ ac ag => Post.mono (k_ivMake ag (hr.ext ac).raw (hr.ext ac).raw xq) ?_)))))))
 rintro _ u16 g17 ⟨r12, r14, rfl, aj, af⟩
 refine zza 11 (zI k) (zzg 12 227 _ fun _ _ ad ae => Post.mono (k_ivRoundG (k := k) xq ae (aj.ext ad).raw (af.ext ad).raw xq) ?_)
 rintro _ u23 g24 ⟨aa, ab, rfl, ah⟩
 refine zza 7 (.v (.tuple #[.agg #[.bool aa.s, aa.m.v, aa.d.v, .bool ab.s, ab.m.v, ab.d.v], .int .i64 (Nt.rndE (k : Int))])) (zza 13 (.v (.agg #[.bool aa.s, aa.m.v, aa.d.v, .bool ab.s, ab.m.v, ab.d.v])) (zza 14 (zI (Nt.rndE (k : Int))) (zzj 5 ⟨32, zw6⟩ (zzi ⟨32, aa.cs ++ ab.cs⟩ ty32 ?_))))
 refine zza 6 (zI (Nt.rndE (k : Int))) (zzb (sq9 (zzh 15 (.v (.agg #[.bool aa.s, aa.m.v, aa.d.v, .bool ab.s, ab.m.v, ab.d.v])) ty32 zze (zzi ⟨32, aa.cs ++ ab.cs⟩ ty32 ?_))))
 refine zzb (zzn (ret0 [.agg #[.bool aa.s, aa.m.v, aa.d.v, .bool ab.s, ab.m.v, ab.d.v]] ⟨zzq ty32 zze, trivial⟩ fun u26 ai => ?_))
 have h9 := (ah.ext ai)
 rw [Nt.rnd_pt hk] at h9
 exact ⟨aa, ab, rfl, RatN.more h9.1 xq, RatN.more h9.2 xq⟩
set_option maxHeartbeats 4000000 in
theorem k_cosA {u w : World} {p : Int} {q k : Nat} (d : Dat u w) (hq0 : 0 < q) (hq2 : q ≤ 10000) (hG0 : Nt.GapQ q k) (hp0 : -1000000000 ≤ p) (hp1 : p ≤ 1000000000) (hk : k ≤ 256) (hA : 2 * Nt.fold p q ≤ q) : Calls Tryz.prog 100 #[.int .i64 p, .int .i64 (q : Int), .int .i64 (k : Int)] w (Post u w fun v u' => ∃ r1 r2 : RL, v = IV r1 r2 ∧ RatN u' r1 ((Nt.cosA (Nt.fold p q) q k).1) 80 ∧ RatN u' r2 ((Nt.cosA (Nt.fold p q) q k).2) 80) := by
 have htm := Nt.tmod_bd p hq0
 obtain ⟨g, bs, hG⟩ := id hG0
 refine zzl (args := [.int .i64 p, .int .i64 q, .int .i64 k]) Tryz.func100 rfl Tryz.ntmps100 (rs := [.cell 6 32]) Tryz.results100 (le_b rfl) (le_b rfl) d ?_
 refine sq9 (zzj 3 ⟨3, [.int .i64 p]⟩ (zzj 4 ⟨3, [.int .i64 q]⟩ (zzj 6 ⟨32, zw6⟩ (zzb (sq9 (zzh 8 (zI p) ty3 zzk (zzh 9 (zI q) ty3 zzk (zyp 10 (x := zI (IntKind.i64.wrap ((2 : Int) * (q : Int)))) (zI (2 * q : Nat)) (eqI xk) (sy_rem 11 (m := ((2 * q : Nat) : Int)) (Int.tmod p (2 * (q : Int))) xq (by rw [Int.natCast_mul]; rfl) ?_)))))))))
 refine zzi ⟨3, [.int .i64 (Int.tmod p (2 * (q : Int)))]⟩ ty3 ?_
 refine zzb (zzd (sq9 (zzh 12 (zI (Int.tmod p (2 * (q : Int)))) ty3 zzk (zza 13 (zB (decide ((Int.tmod p (2 * (q : Int))) < 0))) (zzb (zzt (b := decide ((Int.tmod p (2 * (q : Int))) < 0)) xj (fun aN => ?_) (fun aN => ?_)))))))
 ·have qhb11 := of_decide_eq_true aN
  refine zzf (zzh 14 (zI (Int.tmod p (2 * (q : Int)))) ty3 zzk (zyp 15 (x := zI (IntKind.i64.wrap (0 - (Int.tmod p (2 * (q : Int)))))) (zI (-(Int.tmod p (2 * (q : Int))))) (eqI xk) (zzi ⟨3, [.int .i64 (-(Int.tmod p (2 * (q : Int))))]⟩ ty3 ?_)))
  refine zzb (zzd (sq9 (zzh 16 (zI (-(Int.tmod p (2 * (q : Int))))) ty3 zzk (zzh 17 (zI q) ty3 zzk (zza 18 (zB (decide ((q : Int) < (-(Int.tmod p (2 * (q : Int))))))) (zzb (zzt (b := decide ((q : Int) < (-(Int.tmod p (2 * (q : Int)))))) xj (fun aL => ?_) (fun aL => ?_))))))))
  ·have qhb12 := of_decide_eq_true aL
   refine zzf (zzh 19 (zI q) ty3 zzk (zyp 20 (x := zI (IntKind.i64.wrap ((2 : Int) * (q : Int)))) (zI (2 * q : Nat)) (eqI xk) (zzh 21 (zI (-(Int.tmod p (2 * (q : Int))))) ty3 zzk (zyp 22 (x := zI (IntKind.i64.wrap (((2 * q : Nat) : Int) - (-(Int.tmod p (2 * (q : Int))))))) (zI (((2 * q : Nat) : Int) - (-(Int.tmod p (2 * (q : Int)))))) yv (zzi ⟨3, [.int .i64 (((2 * q : Nat) : Int) - (-(Int.tmod p (2 * (q : Int)))))]⟩ ty3 ?_)))))
   refine zzb (zzd (zzd ?_))
   have hfold : (((2 * q : Nat) : Int) - (-(Int.tmod p (2 * (q : Int))))) = ((Nt.fold p q : Nat) : Int) := by unfold Nt.fold; dsimp only; split <;> omega
   rw [hfold]
   have hfl := Nt.fold_le p q hq0
   obtain ⟨r, hr⟩ : ∃ r, Nt.fold p q = r := ⟨_, rfl⟩
   rw [hr] at hfl ⊢
   clear hfold
   rw [hr] at hA
   refine zzf (zzh 23 (zI r) ty3 zzk (zyp 24 (x := zI (IntKind.i64.wrap ((2 : Int) * (r : Int)))) (zI (2 * r : Nat)) (eqI xk) (zzh 25 (zI q) ty3 zzk (zza 26 (zB (decide ((q : Int) < ((2 * r : Nat) : Int)))) (zzb (zzt (b := decide ((q : Int) < ((2 * r : Nat) : Int))) xj (fun hb => ?_) (fun hb => ?_)))))))
   ·exact absurd hb (by rw [show (decide ((q : Int) < ((2 * r : Nat) : Int))) = false from decide_eq_false xq]; decide)
   clear hb
   refine zzr (zzo ?_)
   refine zzd (zzs (sq9 (zzh 41 (zI r) ty3 zzk (zza 42 (zB ((r : Int) == 0)) (zza 40 (zB ((r : Int) == 0)) (zzb (zzt (b := (r : Int) == 0) xj (fun ag => ?_) (fun ag => ?_))))))))
   ·have aR : (r : Int) = 0 := by simpa using ag
    refine sq9 (zzg 43 118 _ fun _ _ _ d0 => Post.mono (k_ratOf d0 (z := 1) xq xq) ?_)
    rintro _ u17 g18 ⟨r15, rfl, dI⟩
    refine zza 44 (zI k) (zzg 45 177 _ fun _ _ c0 ed => Post.mono (k_exactly (k := k) ed (dI.ext c0) xq xq) ?_)
    rintro _ u25 g26 ⟨aP, aQ, rfl, dd, ef⟩
    refine zzi ⟨32, aP.cs ++ aQ.cs⟩ ty32 ?_
    refine zzc 65 [(6, .adr 6 0)] [(6, ⟨32, aP.cs ++ aQ.cs⟩)] (zzn (zyt (zzv (ret0 [.agg #[.bool aP.s, aP.m.v, aP.d.v, .bool aQ.s, aQ.m.v, aQ.d.v]] ⟨zzq ty32 zze, trivial⟩ fun u28 cS => ?_))))
    have hc := Nt.cosA_0 (r := r) (q := q) (b := k) (by have h9 := ag; simp at h9; omega)
    refine ⟨aP, aQ, rfl, RatN.more (K := 80) ?_ xq, RatN.more (K := 80) ?_ xq⟩
    ·rw [hc]; exact (dd.ext cS)
    rw [hc]; exact (ef.ext cS)
   have aR : ¬ ((r : Int) = 0) := by simpa using ag
   refine sq9 (zzh 47 (zI r) ty3 zzk (zyp 48 (x := zI (IntKind.i64.wrap ((2 : Int) * (r : Int)))) (zI (2 * r : Nat)) (eqI xk) (zzh 49 (zI q) ty3 zzk (zza 50 (zB (((2 * r : Nat) : Int) == (q : Int))) (zza 46 (zB (((2 * r : Nat) : Int) == (q : Int))) (zzc 65 [(2, zI k), (3, .adr 3 0), (4, .adr 4 0), (6, .adr 6 0), (46, zB (((2 * r : Nat) : Int) == (q : Int)))] [(3, ⟨3, [.int .i64 r]⟩), (4, ⟨3, [.int .i64 q]⟩), (6, ⟨32, zw6⟩)] (zzt (b := ((2 * r : Nat) : Int) == (q : Int)) xj (fun aI => ?_) (fun aI => ?_))))))))
   ·refine sq9 (zzg 51 118 _ fun _ _ _ dZ => Post.mono (k_ratOf dZ (z := 0) xq xq) ?_)
    rintro _ u34 g35 ⟨r32, rfl, c3⟩
    refine zza 52 (zI k) (zzg 53 177 _ fun _ _ ep eB => Post.mono (k_exactly (k := k) eB (c3.ext ep) xq xq) ?_)
    rintro _ u42 g43 ⟨bj, a6, rfl, dB, dU⟩
    refine zzi ⟨32, bj.cs ++ a6.cs⟩ ty32 ?_
    refine zzb (zzn (zyt (zzv (ret0 [.agg #[.bool bj.s, bj.m.v, bj.d.v, .bool a6.s, a6.m.v, a6.d.v]] ⟨zzq ty32 zze, trivial⟩ fun u45 cJ => ?_))))
    have hc := Nt.cosA_h (r := r) (q := q) (b := k) (by have h9 := ag; simp at h9; omega) (by have h9 := aI; simp at h9; omega)
    refine ⟨bj, a6, rfl, RatN.more (K := 80) ?_ xq, RatN.more (K := 80) ?_ xq⟩
    ·rw [hc]; exact (dB.ext cJ)
    rw [hc]; exact (dU.ext cJ)
   have ce : ¬ 2 * r = q := by have h9 := aI; simp at h9; omega
   refine sq9 (zzh 55 (zI r) ty3 zzk (zyp 56 (x := zI (IntKind.i64.wrap ((3 : Int) * (r : Int)))) (zI (3 * r : Nat)) (eqI xk) (zzh 57 (zI q) ty3 zzk (zza 58 (zB (((3 * r : Nat) : Int) == (q : Int))) (zza 54 (zB (((3 * r : Nat) : Int) == (q : Int))) (zzb (zzt (b := ((3 * r : Nat) : Int) == (q : Int)) xj (fun aK => ?_) (fun aK => ?_))))))))
   ·refine sq9 (zzg 59 127 _ fun _ _ _ dC => Post.mono (k_ratFrac dC (a := 1) (b := 2) xq xq xq xq) ?_)
    rintro _ u51 g52 ⟨r49, rfl, es⟩
    refine zza 60 (zI k) (zzg 61 177 _ fun _ _ dJ dD => Post.mono (k_exactly (k := k) dD (es.ext dJ) xq xq) ?_)
    rintro _ u59 g60 ⟨bi, bf, rfl, et, ez⟩
    refine zzi ⟨32, bi.cs ++ bf.cs⟩ ty32 ?_
    refine zzb (zzn (zyt (zzv (ret0 [.agg #[.bool bi.s, bi.m.v, bi.d.v, .bool bf.s, bf.m.v, bf.d.v]] ⟨zzq ty32 zze, trivial⟩ fun u62 cT => ?_))))
    have hc := Nt.cosA_3 (r := r) (q := q) (b := k) (by have h9 := ag; simp at h9; omega) (by have h9 := aI; simp at h9; omega) (by have h9 := aK; simp at h9; omega)
    refine ⟨bi, bf, rfl, RatN.more (K := 80) ?_ xq, RatN.more (K := 80) ?_ xq⟩
    ·rw [hc]; exact (et.ext cT)
    rw [hc]; exact (ez.ext cT)
   have b6 : ¬ 3 * r = q := by have h9 := aK; simp at h9; omega
   refine zzr (zzo ?_)
   refine zzd (sw_pubA (r := 3) (t := 3) [3] xz xj (by rfl) (by rfl) xj (fun ei u65 e66 dV dw b1 => ?_))
   refine sw_pubA (r := 4) (t := 4) [4] xz xj (by rfl) (by rfl) xj (fun dN u71 d4 d5 dp bz => ?_)
   refine zzf (sy_fun 62 [.pointer (some ⟨ei, 0, none⟩), .pointer (some ⟨dN, 0, none⟩)] ?_)
   refine zza 63 (zI k) (zzg 64 101 _ fun _ _ cF c6 => Post.mono (k_irrCos (k := k) c6 ((d4.trans cF).cells b1) (cF.cells bz) hq0 xq xq xq (hG r xq xq xq) bs xq) ?_)
   rintro _ u81 g82 ⟨bc, bl, rfl, dH, dS⟩
   refine zzi ⟨32, bc.cs ++ bl.cs⟩ ty32 ?_
   refine zzb (zzn (ret0 [.agg #[.bool bc.s, bc.m.v, bc.d.v, .bool bl.s, bl.m.v, bl.d.v]] ⟨zzq ty32 zze, trivial⟩ fun u84 cM => ?_))
   have hc := Nt.cosA_g (r := r) (q := q) (b := k) (by have h9 := ag; simp at h9; omega) (by have h9 := aI; simp at h9; omega) (by have h9 := aK; simp at h9; omega)
   refine ⟨bc, bl, rfl, RatN.more (K := 70) ?_ xq, RatN.more (K := 70) ?_ xq⟩
   ·rw [hc]; exact (dH.ext cM)
   rw [hc]; exact (dS.ext cM)
  have qhb12 := of_decide_eq_false aL
  refine zzr (zzo ?_)
  refine zzd (zzd ?_)
  have hfold : (-(Int.tmod p (2 * (q : Int)))) = ((Nt.fold p q : Nat) : Int) := by unfold Nt.fold; dsimp only; split <;> omega
  rw [hfold]
  have hfl := Nt.fold_le p q hq0
  obtain ⟨r, hr⟩ : ∃ r, Nt.fold p q = r := ⟨_, rfl⟩
  rw [hr] at hfl ⊢
  clear hfold
  rw [hr] at hA
  refine zzf (zzh 23 (zI r) ty3 zzk (zyp 24 (x := zI (IntKind.i64.wrap ((2 : Int) * (r : Int)))) (zI (2 * r : Nat)) (eqI xk) (zzh 25 (zI q) ty3 zzk (zza 26 (zB (decide ((q : Int) < ((2 * r : Nat) : Int)))) (zzb (zzt (b := decide ((q : Int) < ((2 * r : Nat) : Int))) xj (fun hb => ?_) (fun hb => ?_)))))))
  ·exact absurd hb (by rw [show (decide ((q : Int) < ((2 * r : Nat) : Int))) = false from decide_eq_false xq]; decide)
  clear hb
  refine zzr (zzo ?_)
  refine zzd (zzs (sq9 (zzh 41 (zI r) ty3 zzk (zza 42 (zB ((r : Int) == 0)) (zza 40 (zB ((r : Int) == 0)) (zzb (zzt (b := (r : Int) == 0) xj (fun af => ?_) (fun af => ?_))))))))
  ·have a3 : (r : Int) = 0 := by simpa using af
   refine sq9 (zzg 43 118 _ fun _ _ _ eC => Post.mono (k_ratOf eC (z := 1) xq xq) ?_)
   rintro _ u90 g91 ⟨r88, rfl, dt⟩
   refine zza 44 (zI k) (zzg 45 177 _ fun _ _ dE df => Post.mono (k_exactly (k := k) df (dt.ext dE) xq xq) ?_)
   rintro _ u98 g99 ⟨a0, aS, rfl, dX, db⟩
   refine zzi ⟨32, a0.cs ++ aS.cs⟩ ty32 ?_
   refine zzb (zzn (zyt (zzv (ret0 [.agg #[.bool a0.s, a0.m.v, a0.d.v, .bool aS.s, aS.m.v, aS.d.v]] ⟨zzq ty32 zze, trivial⟩ fun dF a4 => ?_))))
   have hc := Nt.cosA_0 (r := r) (q := q) (b := k) (by have h9 := af; simp at h9; omega)
   refine ⟨a0, aS, rfl, RatN.more (K := 80) ?_ xq, RatN.more (K := 80) ?_ xq⟩
   ·rw [hc]; exact (dX.ext a4)
   rw [hc]; exact (db.ext a4)
  have a3 : ¬ ((r : Int) = 0) := by simpa using af
  refine sq9 (zzh 47 (zI r) ty3 zzk (zyp 48 (x := zI (IntKind.i64.wrap ((2 : Int) * (r : Int)))) (zI (2 * r : Nat)) (eqI xk) (zzh 49 (zI q) ty3 zzk (zza 50 (zB (((2 * r : Nat) : Int) == (q : Int))) (zza 46 (zB (((2 * r : Nat) : Int) == (q : Int))) (zzb (zzt (b := ((2 * r : Nat) : Int) == (q : Int)) xj (fun ad => ?_) (fun ad => ?_))))))))
  ·refine sq9 (zzg 51 118 _ fun _ _ _ bF => Post.mono (k_ratOf bF (z := 0) xq xq) ?_)
   rintro _ c1 eh ⟨dk, rfl, bI⟩
   refine zza 52 (zI k) (zzg 53 177 _ fun _ _ bJ bU => Post.mono (k_exactly (k := k) bU (bI.ext bJ) xq xq) ?_)
   rintro _ ec dr ⟨an, ao, rfl, bT, ca⟩
   refine zzi ⟨32, an.cs ++ ao.cs⟩ ty32 ?_
   refine zzc 65 [(6, .adr 6 0)] [(6, ⟨32, an.cs ++ ao.cs⟩)] (zzn (zyt (zzv (ret0 [.agg #[.bool an.s, an.m.v, an.d.v, .bool ao.s, ao.m.v, ao.d.v]] ⟨zzq ty32 zze, trivial⟩ fun c5 a2 => ?_))))
   have hc := Nt.cosA_h (r := r) (q := q) (b := k) (by have h9 := af; simp at h9; omega) (by have h9 := ad; simp at h9; omega)
   refine ⟨an, ao, rfl, RatN.more (K := 80) ?_ xq, RatN.more (K := 80) ?_ xq⟩
   ·rw [hc]; exact (bT.ext a2)
   rw [hc]; exact (ca.ext a2)
  have bq : ¬ 2 * r = q := by have h9 := ad; simp at h9; omega
  refine sq9 (zzh 55 (zI r) ty3 zzk (zyp 56 (x := zI (IntKind.i64.wrap ((3 : Int) * (r : Int)))) (zI (3 * r : Nat)) (eqI xk) (zzh 57 (zI q) ty3 zzk (zza 58 (zB (((3 * r : Nat) : Int) == (q : Int))) (zza 54 (zB (((3 * r : Nat) : Int) == (q : Int))) (zzc 65 [(2, zI k), (3, .adr 3 0), (4, .adr 4 0), (6, .adr 6 0), (54, zB (((3 * r : Nat) : Int) == (q : Int)))] [(3, ⟨3, [.int .i64 r]⟩), (4, ⟨3, [.int .i64 q]⟩), (6, ⟨32, zw6⟩)] (zzt (b := ((3 * r : Nat) : Int) == (q : Int)) xj (fun aj => ?_) (fun aj => ?_))))))))
  ·refine sq9 (zzg 59 127 _ fun _ _ _ cy => Post.mono (k_ratFrac cy (a := 1) (b := 2) xq xq xq xq) ?_)
   rintro _ dq du ⟨de, rfl, bN⟩
   refine zza 60 (zI k) (zzg 61 177 _ fun _ _ b4 ch => Post.mono (k_exactly (k := k) ch (bN.ext b4) xq xq) ?_)
   rintro _ ew d6 ⟨ax, ay, rfl, bH, ck⟩
   refine zzi ⟨32, ax.cs ++ ay.cs⟩ ty32 ?_
   refine zzb (zzn (zyt (zzv (ret0 [.agg #[.bool ax.s, ax.m.v, ax.d.v, .bool ay.s, ay.m.v, ay.d.v]] ⟨zzq ty32 zze, trivial⟩ fun d9 a7 => ?_))))
   have hc := Nt.cosA_3 (r := r) (q := q) (b := k) (by have h9 := af; simp at h9; omega) (by have h9 := ad; simp at h9; omega) (by have h9 := aj; simp at h9; omega)
   refine ⟨ax, ay, rfl, RatN.more (K := 80) ?_ xq, RatN.more (K := 80) ?_ xq⟩
   ·rw [hc]; exact (bH.ext a7)
   rw [hc]; exact (ck.ext a7)
  have bt : ¬ 3 * r = q := by have h9 := aj; simp at h9; omega
  refine zzr (zzo ?_)
  refine zzd (sw_pubA (r := 3) (t := 3) [3] xz xj (by rfl) (by rfl) xj (fun cx dz d3 cR cN bh => ?_))
  refine sw_pubA (r := 4) (t := 4) [4] xz xj (by rfl) (by rfl) xj (fun bG d2 cA cI cH be => ?_)
  refine zzf (sy_fun 62 [.pointer (some ⟨cx, 0, none⟩), .pointer (some ⟨bG, 0, none⟩)] ?_)
  refine zza 63 (zI k) (zzg 64 101 _ fun _ _ bg bB => Post.mono (k_irrCos (k := k) bB ((cA.trans bg).cells bh) (bg.cells be) hq0 xq xq xq (hG r xq xq xq) bs xq) ?_)
  rintro _ dv dY ⟨aA, av, rfl, cE, bR⟩
  refine zzi ⟨32, aA.cs ++ av.cs⟩ ty32 ?_
  refine zzb (zzn (ret0 [.agg #[.bool aA.s, aA.m.v, aA.d.v, .bool av.s, av.m.v, av.d.v]] ⟨zzq ty32 zze, trivial⟩ fun eg aW => ?_))
  have hc := Nt.cosA_g (r := r) (q := q) (b := k) (by have h9 := af; simp at h9; omega) (by have h9 := ad; simp at h9; omega) (by have h9 := aj; simp at h9; omega)
  refine ⟨aA, av, rfl, RatN.more (K := 70) ?_ xq, RatN.more (K := 70) ?_ xq⟩
  ·rw [hc]; exact (cE.ext aW)
  rw [hc]; exact (bR.ext aW)
 have qhb11 := of_decide_eq_false aN
 refine zzr (zzo ?_)
 refine zzd (sq9 (zzh 16 (zI (Int.tmod p (2 * (q : Int)))) ty3 zzk (zzh 17 (zI q) ty3 zzk (zza 18 (zB (decide ((q : Int) < (Int.tmod p (2 * (q : Int)))))) (zzb (zzt (b := decide ((q : Int) < (Int.tmod p (2 * (q : Int))))) xj (fun aH => ?_) (fun aH => ?_)))))))
 ·have qhb159 := of_decide_eq_true aH
  refine zzf (zzh 19 (zI q) ty3 zzk (zyp 20 (x := zI (IntKind.i64.wrap ((2 : Int) * (q : Int)))) (zI (2 * q : Nat)) (eqI xk) (zzh 21 (zI (Int.tmod p (2 * (q : Int)))) ty3 zzk (zyp 22 (x := zI (IntKind.i64.wrap (((2 * q : Nat) : Int) - (Int.tmod p (2 * (q : Int)))))) (zI (((2 * q : Nat) : Int) - (Int.tmod p (2 * (q : Int))))) yv (zzi ⟨3, [.int .i64 (((2 * q : Nat) : Int) - (Int.tmod p (2 * (q : Int))))]⟩ ty3 ?_)))))
  refine zzb (zzd (zzd ?_))
  have hfold : (((2 * q : Nat) : Int) - (Int.tmod p (2 * (q : Int)))) = ((Nt.fold p q : Nat) : Int) := by unfold Nt.fold; dsimp only; split <;> omega
  rw [hfold]
  have hfl := Nt.fold_le p q hq0
  obtain ⟨r, hr⟩ : ∃ r, Nt.fold p q = r := ⟨_, rfl⟩
  rw [hr] at hfl ⊢
  clear hfold
  rw [hr] at hA
  refine zzf (zzh 23 (zI r) ty3 zzk (zyp 24 (x := zI (IntKind.i64.wrap ((2 : Int) * (r : Int)))) (zI (2 * r : Nat)) (eqI xk) (zzh 25 (zI q) ty3 zzk (zza 26 (zB (decide ((q : Int) < ((2 * r : Nat) : Int)))) (zzb (zzt (b := decide ((q : Int) < ((2 * r : Nat) : Int))) xj (fun hb => ?_) (fun hb => ?_)))))))
  ·exact absurd hb (by rw [show (decide ((q : Int) < ((2 * r : Nat) : Int))) = false from decide_eq_false xq]; decide)
  clear hb
  refine zzr (zzo ?_)
  refine zzd (zzs (sq9 (zzh 41 (zI r) ty3 zzk (zza 42 (zB ((r : Int) == 0)) (zza 40 (zB ((r : Int) == 0)) (zzb (zzt (b := (r : Int) == 0) xj (fun ab => ?_) (fun ab => ?_))))))))
  ·have aM : (r : Int) = 0 := by simpa using ab
   refine sq9 (zzg 43 118 _ fun _ _ _ b7 => Post.mono (k_ratOf b7 (z := 1) xq xq) ?_)
   rintro _ eo ek ⟨ej, rfl, bP⟩
   refine zza 44 (zI k) (zzg 45 177 _ fun _ _ bC cc => Post.mono (k_exactly (k := k) cc (bP.ext bC) xq xq) ?_)
   rintro _ dM cZ ⟨aD, aC, rfl, ci, cj⟩
   refine zzi ⟨32, aD.cs ++ aC.cs⟩ ty32 ?_
   refine zzb (zzn (zyt (zzv (ret0 [.agg #[.bool aD.s, aD.m.v, aD.d.v, .bool aC.s, aC.m.v, aC.d.v]] ⟨zzq ty32 zze, trivial⟩ fun dW a9 => ?_))))
   have hc := Nt.cosA_0 (r := r) (q := q) (b := k) (by have h9 := ab; simp at h9; omega)
   refine ⟨aD, aC, rfl, RatN.more (K := 80) ?_ xq, RatN.more (K := 80) ?_ xq⟩
   ·rw [hc]; exact (ci.ext a9)
   rw [hc]; exact (cj.ext a9)
  have aM : ¬ ((r : Int) = 0) := by simpa using ab
  refine sq9 (zzh 47 (zI r) ty3 zzk (zyp 48 (x := zI (IntKind.i64.wrap ((2 : Int) * (r : Int)))) (zI (2 * r : Nat)) (eqI xk) (zzh 49 (zI q) ty3 zzk (zza 50 (zB (((2 * r : Nat) : Int) == (q : Int))) (zza 46 (zB (((2 * r : Nat) : Int) == (q : Int))) (zzb (zzt (b := ((2 * r : Nat) : Int) == (q : Int)) xj (fun ae => ?_) (fun ae => ?_))))))))
  ·refine sq9 (zzg 51 118 _ fun _ _ _ bv => Post.mono (k_ratOf bv (z := 0) xq xq) ?_)
   rintro _ em dL ⟨eu, rfl, cw⟩
   refine zza 52 (zI k) (zzg 53 177 _ fun _ _ cz cu => Post.mono (k_exactly (k := k) cu (cw.ext cz) xq xq) ?_)
   rintro _ dn dc ⟨al, ap, rfl, bA, bW⟩
   refine zzi ⟨32, al.cs ++ ap.cs⟩ ty32 ?_
   refine zzc 65 [(6, .adr 6 0)] [(6, ⟨32, al.cs ++ ap.cs⟩)] (zzn (zyt (zzv (ret0 [.agg #[.bool al.s, al.m.v, al.d.v, .bool ap.s, ap.m.v, ap.d.v]] ⟨zzq ty32 zze, trivial⟩ fun cX bb => ?_))))
   have hc := Nt.cosA_h (r := r) (q := q) (b := k) (by have h9 := ab; simp at h9; omega) (by have h9 := ae; simp at h9; omega)
   refine ⟨al, ap, rfl, RatN.more (K := 80) ?_ xq, RatN.more (K := 80) ?_ xq⟩
   ·rw [hc]; exact (bA.ext bb)
   rw [hc]; exact (bW.ext bb)
  have bp : ¬ 2 * r = q := by have h9 := ae; simp at h9; omega
  refine sq9 (zzh 55 (zI r) ty3 zzk (zyp 56 (x := zI (IntKind.i64.wrap ((3 : Int) * (r : Int)))) (zI (3 * r : Nat)) (eqI xk) (zzh 57 (zI q) ty3 zzk (zza 58 (zB (((3 * r : Nat) : Int) == (q : Int))) (zza 54 (zB (((3 * r : Nat) : Int) == (q : Int))) (zzc 65 [(2, zI k), (3, .adr 3 0), (4, .adr 4 0), (6, .adr 6 0), (54, zB (((3 * r : Nat) : Int) == (q : Int)))] [(3, ⟨3, [.int .i64 r]⟩), (4, ⟨3, [.int .i64 q]⟩), (6, ⟨32, zw6⟩)] (zzt (b := ((3 * r : Nat) : Int) == (q : Int)) xj (fun ah => ?_) (fun ah => ?_))))))))
  ·refine sq9 (zzg 59 127 _ fun _ _ _ bV => Post.mono (k_ratFrac bV (a := 1) (b := 2) xq xq xq xq) ?_)
   rintro _ dO dK ⟨ea, rfl, cD⟩
   refine zza 60 (zI k) (zzg 61 177 _ fun _ _ bX cp => Post.mono (k_exactly (k := k) cp (cD.ext bX) xq xq) ?_)
   rintro _ cW c4 ⟨aw, aE, rfl, cr, bD⟩
   refine zzi ⟨32, aw.cs ++ aE.cs⟩ ty32 ?_
   refine zzb (zzn (zyt (zzv (ret0 [.agg #[.bool aw.s, aw.m.v, aw.d.v, .bool aE.s, aE.m.v, aE.d.v]] ⟨zzq ty32 zze, trivial⟩ fun dG a5 => ?_))))
   have hc := Nt.cosA_3 (r := r) (q := q) (b := k) (by have h9 := ab; simp at h9; omega) (by have h9 := ae; simp at h9; omega) (by have h9 := ah; simp at h9; omega)
   refine ⟨aw, aE, rfl, RatN.more (K := 80) ?_ xq, RatN.more (K := 80) ?_ xq⟩
   ·rw [hc]; exact (cr.ext a5)
   rw [hc]; exact (bD.ext a5)
  have bo : ¬ 3 * r = q := by have h9 := ah; simp at h9; omega
  refine zzr (zzo ?_)
  refine zzd (sw_pubA (r := 3) (t := 3) [3] xz xj (by rfl) (by rfl) xj (fun cB dx ds cV cO aY => ?_))
  refine sw_pubA (r := 4) (t := 4) [4] xz xj (by rfl) (by rfl) xj (fun cq c8 cd cQ cK aT => ?_)
  refine zzf (sy_fun 62 [.pointer (some ⟨cB, 0, none⟩), .pointer (some ⟨cq, 0, none⟩)] ?_)
  refine zza 63 (zI k) (zzg 64 101 _ fun _ _ aX bK => Post.mono (k_irrCos (k := k) bK ((cd.trans aX).cells aY) (aX.cells aT) hq0 xq xq xq (hG r xq xq xq) bs xq) ?_)
  rintro _ dQ ee ⟨aB, az, rfl, bZ, bY⟩
  refine zzi ⟨32, aB.cs ++ az.cs⟩ ty32 ?_
  refine zzb (zzn (ret0 [.agg #[.bool aB.s, aB.m.v, aB.d.v, .bool az.s, az.m.v, az.d.v]] ⟨zzq ty32 zze, trivial⟩ fun c9 a8 => ?_))
  have hc := Nt.cosA_g (r := r) (q := q) (b := k) (by have h9 := ab; simp at h9; omega) (by have h9 := ae; simp at h9; omega) (by have h9 := ah; simp at h9; omega)
  refine ⟨aB, az, rfl, RatN.more (K := 70) ?_ xq, RatN.more (K := 70) ?_ xq⟩
  ·rw [hc]; exact (bZ.ext a8)
  rw [hc]; exact (bY.ext a8)
 have qhb159 := of_decide_eq_false aH
 refine zzr (zzo ?_)
 refine zzd (zzd ?_)
 have hfold : (Int.tmod p (2 * (q : Int))) = ((Nt.fold p q : Nat) : Int) := by unfold Nt.fold; dsimp only; split <;> omega
 rw [hfold]
 have hfl := Nt.fold_le p q hq0
 obtain ⟨r, hr⟩ : ∃ r, Nt.fold p q = r := ⟨_, rfl⟩
 rw [hr] at hfl ⊢
 clear hfold
 rw [hr] at hA
 refine zzf (zzh 23 (zI r) ty3 zzk (zyp 24 (x := zI (IntKind.i64.wrap ((2 : Int) * (r : Int)))) (zI (2 * r : Nat)) (eqI xk) (zzh 25 (zI q) ty3 zzk (zza 26 (zB (decide ((q : Int) < ((2 * r : Nat) : Int)))) (zzb (zzt (b := decide ((q : Int) < ((2 * r : Nat) : Int))) xj (fun hb => ?_) (fun hb => ?_)))))))
 ·exact absurd hb (by rw [show (decide ((q : Int) < ((2 * r : Nat) : Int))) = false from decide_eq_false xq]; decide)
 clear hb
 refine zzr (zzo ?_)
 refine zzd (zzs (sq9 (zzh 41 (zI r) ty3 zzk (zza 42 (zB ((r : Int) == 0)) (zza 40 (zB ((r : Int) == 0)) (zzb (zzt (b := (r : Int) == 0) xj (fun aa => ?_) (fun aa => ?_))))))))
 ·have aO : (r : Int) = 0 := by simpa using aa
  refine sq9 (zzg 43 118 _ fun _ _ _ ct => Post.mono (k_ratOf ct (z := 1) xq xq) ?_)
  rintro _ ey dy ⟨dj, rfl, bM⟩
  refine zza 44 (zI k) (zzg 45 177 _ fun _ _ bO b3 => Post.mono (k_exactly (k := k) b3 (bM.ext bO) xq xq) ?_)
  rintro _ da eq ⟨aG, au, rfl, cf, cm⟩
  refine zzi ⟨32, aG.cs ++ au.cs⟩ ty32 ?_
  refine zzb (zzn (zyt (zzv (ret0 [.agg #[.bool aG.s, aG.m.v, aG.d.v, .bool au.s, au.m.v, au.d.v]] ⟨zzq ty32 zze, trivial⟩ fun dR aZ => ?_))))
  have hc := Nt.cosA_0 (r := r) (q := q) (b := k) (by have h9 := aa; simp at h9; omega)
  refine ⟨aG, au, rfl, RatN.more (K := 80) ?_ xq, RatN.more (K := 80) ?_ xq⟩
  ·rw [hc]; exact (cf.ext aZ)
  rw [hc]; exact (cm.ext aZ)
 have aO : ¬ ((r : Int) = 0) := by simpa using aa
 refine sq9 (zzh 47 (zI r) ty3 zzk (zyp 48 (x := zI (IntKind.i64.wrap ((2 : Int) * (r : Int)))) (zI (2 * r : Nat)) (eqI xk) (zzh 49 (zI q) ty3 zzk (zza 50 (zB (((2 * r : Nat) : Int) == (q : Int))) (zza 46 (zB (((2 * r : Nat) : Int) == (q : Int))) (zzb (zzt (b := ((2 * r : Nat) : Int) == (q : Int)) xj (fun ac => ?_) (fun ac => ?_))))))))
 ·refine sq9 (zzg 51 118 _ fun _ _ _ bu => Post.mono (k_ratOf bu (z := 0) xq xq) ?_)
  rintro _ d1 ex ⟨dA, rfl, bw⟩
  refine zza 52 (zI k) (zzg 53 177 _ fun _ _ cC b5 => Post.mono (k_exactly (k := k) b5 (bw.ext cC) xq xq) ?_)
  rintro _ dP dm ⟨aF, aJ, rfl, cn, cl⟩
  refine zzi ⟨32, aF.cs ++ aJ.cs⟩ ty32 ?_
  refine zzb (zzn (zyt (zzv (ret0 [.agg #[.bool aF.s, aF.m.v, aF.d.v, .bool aJ.s, aJ.m.v, aJ.d.v]] ⟨zzq ty32 zze, trivial⟩ fun cY ba => ?_))))
  have hc := Nt.cosA_h (r := r) (q := q) (b := k) (by have h9 := aa; simp at h9; omega) (by have h9 := ac; simp at h9; omega)
  refine ⟨aF, aJ, rfl, RatN.more (K := 80) ?_ xq, RatN.more (K := 80) ?_ xq⟩
  ·rw [hc]; exact (cn.ext ba)
  rw [hc]; exact (cl.ext ba)
 have bn : ¬ 2 * r = q := by have h9 := ac; simp at h9; omega
 refine sq9 (zzh 55 (zI r) ty3 zzk (zyp 56 (x := zI (IntKind.i64.wrap ((3 : Int) * (r : Int)))) (zI (3 * r : Nat)) (eqI xk) (zzh 57 (zI q) ty3 zzk (zza 58 (zB (((3 * r : Nat) : Int) == (q : Int))) (zza 54 (zB (((3 * r : Nat) : Int) == (q : Int))) (zzb (zzt (b := ((3 * r : Nat) : Int) == (q : Int)) xj (fun ai => ?_) (fun ai => ?_))))))))
 ·refine sq9 (zzg 59 127 _ fun _ _ _ b9 => Post.mono (k_ratFrac b9 (a := 1) (b := 2) xq xq xq xq) ?_)
  rintro _ d7 eb ⟨di, rfl, bx⟩
  refine zza 60 (zI k) (zzg 61 177 _ fun _ _ cv b0 => Post.mono (k_exactly (k := k) b0 (bx.ext cv) xq xq) ?_)
  rintro _ dh er ⟨aq, am, rfl, bE, b8⟩
  refine zzi ⟨32, aq.cs ++ am.cs⟩ ty32 ?_
  refine zzc 65 [(6, .adr 6 0)] [(6, ⟨32, aq.cs ++ am.cs⟩)] (zzn (zyt (zzv (ret0 [.agg #[.bool aq.s, aq.m.v, aq.d.v, .bool am.s, am.m.v, am.d.v]] ⟨zzq ty32 zze, trivial⟩ fun eA aV => ?_))))
  have hc := Nt.cosA_3 (r := r) (q := q) (b := k) (by have h9 := aa; simp at h9; omega) (by have h9 := ac; simp at h9; omega) (by have h9 := ai; simp at h9; omega)
  refine ⟨aq, am, rfl, RatN.more (K := 80) ?_ xq, RatN.more (K := 80) ?_ xq⟩
  ·rw [hc]; exact (bE.ext aV)
  rw [hc]; exact (b8.ext aV)
 have br : ¬ 3 * r = q := by have h9 := ai; simp at h9; omega
 refine zzr (zzo ?_)
 refine zzd (sw_pubA (r := 3) (t := 3) [3] xz xj (by rfl) (by rfl) xj (fun bS c2 dT cP cL aU => ?_))
 refine sw_pubA (r := 4) (t := 4) [4] xz xj (by rfl) (by rfl) xj (fun bL en b2 cU cG a1 => ?_)
 refine zzf (sy_fun 62 [.pointer (some ⟨bS, 0, none⟩), .pointer (some ⟨bL, 0, none⟩)] ?_)
 refine zza 63 (zI k) (zzg 64 101 _ fun _ _ bm bQ => Post.mono (k_irrCos (k := k) bQ ((b2.trans bm).cells aU) (bm.cells a1) hq0 xq xq xq (hG r xq xq xq) bs xq) ?_)
 rintro _ c7 dg ⟨ar, ak, rfl, cg, cb⟩
 refine zzi ⟨32, ar.cs ++ ak.cs⟩ ty32 ?_
 refine zzc 65 [(6, .adr 6 0)] [(6, ⟨32, ar.cs ++ ak.cs⟩)] (zzn (ret0 [.agg #[.bool ar.s, ar.m.v, ar.d.v, .bool ak.s, ak.m.v, ak.d.v]] ⟨zzq ty32 zze, trivial⟩ fun d8 bk => ?_))
 have hc := Nt.cosA_g (r := r) (q := q) (b := k) (by have h9 := aa; simp at h9; omega) (by have h9 := ac; simp at h9; omega) (by have h9 := ai; simp at h9; omega)
 refine ⟨ar, ak, rfl, RatN.more (K := 70) ?_ xq, RatN.more (K := 70) ?_ xq⟩
 ·rw [hc]; exact (cg.ext bk)
 rw [hc]; exact (cb.ext bk)
set_option maxHeartbeats 4000000 in
theorem k_cosine {u w : World} {p : Int} {q k : Nat} (d : Dat u w) (hq0 : 0 < q) (hq2 : q ≤ 10000) (hG0 : Nt.GapQ q k) (hp0 : -1000000000 ≤ p) (hp1 : p ≤ 1000000000) (hk : k ≤ 256)  : Calls Tryz.prog 100 #[.int .i64 p, .int .i64 (q : Int), .int .i64 (k : Int)] w (Post u w fun v u' => ∃ r1 r2 : RL, v = IV r1 r2 ∧ RatN u' r1 ((Nt.cosV p q k).1) 80 ∧ RatN u' r2 ((Nt.cosV p q k).2) 80) := by
 have htm := Nt.tmod_bd p hq0
 obtain ⟨g, bS, hG⟩ := id hG0
 refine zzl (args := [.int .i64 p, .int .i64 q, .int .i64 k]) Tryz.func100 rfl Tryz.ntmps100 (rs := [.cell 6 32]) Tryz.results100 (le_b rfl) (le_b rfl) d ?_
 refine sq9 (zzj 3 ⟨3, [.int .i64 p]⟩ (zzj 4 ⟨3, [.int .i64 q]⟩ (zzj 6 ⟨32, zw6⟩ (zzb (sq9 (zzh 8 (zI p) ty3 zzk (zzh 9 (zI q) ty3 zzk (zyp 10 (x := zI (IntKind.i64.wrap ((2 : Int) * (q : Int)))) (zI (2 * q : Nat)) (eqI xk) (sy_rem 11 (m := ((2 * q : Nat) : Int)) (Int.tmod p (2 * (q : Int))) xq (by rw [Int.natCast_mul]; rfl) ?_)))))))))
 refine zzi ⟨3, [.int .i64 (Int.tmod p (2 * (q : Int)))]⟩ ty3 ?_
 refine zzb (zzd (sq9 (zzh 12 (zI (Int.tmod p (2 * (q : Int)))) ty3 zzk (zza 13 (zB (decide ((Int.tmod p (2 * (q : Int))) < 0))) (zzb (zzt (b := decide ((Int.tmod p (2 * (q : Int))) < 0)) xj (fun a3 => ?_) (fun a3 => ?_)))))))
 ·have qhb11 := of_decide_eq_true a3
  refine zzf (zzh 14 (zI (Int.tmod p (2 * (q : Int)))) ty3 zzk (zyp 15 (x := zI (IntKind.i64.wrap (0 - (Int.tmod p (2 * (q : Int)))))) (zI (-(Int.tmod p (2 * (q : Int))))) (eqI xk) (zzi ⟨3, [.int .i64 (-(Int.tmod p (2 * (q : Int))))]⟩ ty3 ?_)))
  refine zzb (zzd (sq9 (zzh 16 (zI (-(Int.tmod p (2 * (q : Int))))) ty3 zzk (zzh 17 (zI q) ty3 zzk (zza 18 (zB (decide ((q : Int) < (-(Int.tmod p (2 * (q : Int))))))) (zzb (zzt (b := decide ((q : Int) < (-(Int.tmod p (2 * (q : Int)))))) xj (fun a1 => ?_) (fun a1 => ?_))))))))
  ·have qhb12 := of_decide_eq_true a1
   refine zzf (zzh 19 (zI q) ty3 zzk (zyp 20 (x := zI (IntKind.i64.wrap ((2 : Int) * (q : Int)))) (zI (2 * q : Nat)) (eqI xk) (zzh 21 (zI (-(Int.tmod p (2 * (q : Int))))) ty3 zzk (zyp 22 (x := zI (IntKind.i64.wrap (((2 * q : Nat) : Int) - (-(Int.tmod p (2 * (q : Int))))))) (zI (((2 * q : Nat) : Int) - (-(Int.tmod p (2 * (q : Int)))))) yv (zzi ⟨3, [.int .i64 (((2 * q : Nat) : Int) - (-(Int.tmod p (2 * (q : Int)))))]⟩ ty3 ?_)))))
   refine zzb (zzd (zzd ?_))
   have hfold : (((2 * q : Nat) : Int) - (-(Int.tmod p (2 * (q : Int))))) = ((Nt.fold p q : Nat) : Int) := by unfold Nt.fold; dsimp only; split <;> omega
   rw [hfold]
   have hfl := Nt.fold_le p q hq0
   obtain ⟨r, hr⟩ : ∃ r, Nt.fold p q = r := ⟨_, rfl⟩
   rw [hr] at hfl ⊢
   clear hfold
   refine zzf (zzh 23 (zI r) ty3 zzk (zyp 24 (x := zI (IntKind.i64.wrap ((2 : Int) * (r : Int)))) (zI (2 * r : Nat)) (eqI xk) (zzh 25 (zI q) ty3 zzk (zza 26 (zB (decide ((q : Int) < ((2 * r : Nat) : Int)))) (zzb (zzt (b := decide ((q : Int) < ((2 * r : Nat) : Int))) xj (fun al => ?_) (fun al => ?_)))))))
   ·have qhb13 := of_decide_eq_true al
    have hb9 := al
    refine sq9 (zzh 27 (zI q) ty3 zzk (zzh 28 (zI r) ty3 zzk (zyp 29 (x := zI (IntKind.i64.wrap ((q : Int) - (r : Int)))) (zI (q - r : Nat)) (eqI xk) (zzh 30 (zI q) ty3 zzk (zza 31 (zI k) (zzg 32 100 _ fun _ _ _ fY => Post.mono ((show Calls _ _ #[.int .i64 (q - r : Nat), .int .i64 q, .int .i64 k] _ _ from (by have h9 := k_cosA (p := ((q - r : Nat) : Int)) (q := q) (k := k) fY hq0 hq2 hG0 xq xq hk (by rw [Nt.fold_id xq]; have h8 := of_decide_eq_true hb9; omega); rw [Nt.fold_id xq] at h9; exact h9))) ?_))))))
    rintro _ u19 g20 ⟨dB, b0, rfl, fR, d5⟩
    refine zzj 7 ⟨32, zw6⟩ (zzi ⟨32, dB.cs ++ b0.cs⟩ ty32 ?_)
    refine zzc 65 [(6, .adr 6 0), (7, .adr 7 0)] [(6, ⟨32, zw6⟩), (7, ⟨32, dB.cs ++ b0.cs⟩)] (zzd (zzy [0, 1, 3, 0, 8, 31, 63, 127] [(0, []), (1, []), (3, []), (4, []), (2, []), (5, []), (6, []), (7, [])] xj xj (zza 33 (.adr 7 3) (zzh 34 (.v (b0.v)) ty26 zze (zza 36 (.adr 7 0) (zzh 37 (.v (dB.v)) ty26 zze (zzg 35 176 _ fun _ _ dT ez => Post.mono (k_ratNeg ez (d5.ext dT).raw xq) ?_)))))))
    rintro _ u25 fy ⟨a0, rfl, eW⟩
    refine zzg 38 176 _ fun _ _ dV fH => Post.mono (k_ratNeg fH (fR.ext (dT.t (fy.t dV))).raw xq) ?_
    rintro _ u31 e3 ⟨aZ, rfl, eo⟩
    refine zza 39 (.v (.agg #[.bool a0.s, a0.m.v, a0.d.v, .bool aZ.s, aZ.m.v, aZ.d.v])) (zzi ⟨32, a0.cs ++ aZ.cs⟩ ty32 ?_)
    refine zzb (zzn (zzv (ret0 [.agg #[.bool a0.s, a0.m.v, a0.d.v, .bool aZ.s, aZ.m.v, aZ.d.v]] ⟨zzq ty32 zze, trivial⟩ fun u34 dW => ?_)))
    have hc := Nt.cosV_hi (b := k) hr (by have h9 := of_decide_eq_true al; omega)
    refine ⟨a0, aZ, rfl, RatN.more (K := 80) ?_ xq, RatN.more (K := 80) ?_ xq⟩
    ·rw [hc]; exact (eW.ext (dV.t (e3.t dW)))
    rw [hc]; exact (eo.ext dW)
   have qhb13 := of_decide_eq_false al
   refine zzr (zzo ?_)
   refine zzd (zzs (sq9 (zzh 41 (zI r) ty3 zzk (zza 42 (zB ((r : Int) == 0)) (zza 40 (zB ((r : Int) == 0)) (zzb (zzt (b := (r : Int) == 0) xj (fun aq => ?_) (fun aq => ?_))))))))
   ·have bE : (r : Int) = 0 := by simpa using aq
    refine sq9 (zzg 43 118 _ fun _ _ _ fu => Post.mono (k_ratOf fu (z := 1) xq xq) ?_)
    rintro _ u40 g41 ⟨r38, rfl, d9⟩
    refine zza 44 (zI k) (zzg 45 177 _ fun _ _ e5 fP => Post.mono (k_exactly (k := k) fP (d9.ext e5) xq xq) ?_)
    rintro _ u48 g49 ⟨a7, a6, rfl, fr, er⟩
    refine zzi ⟨32, a7.cs ++ a6.cs⟩ ty32 ?_
    refine zzc 65 [(6, .adr 6 0)] [(6, ⟨32, a7.cs ++ a6.cs⟩)] (zzn (zyt (zzv (ret0 [.agg #[.bool a7.s, a7.m.v, a7.d.v, .bool a6.s, a6.m.v, a6.d.v]] ⟨zzq ty32 zze, trivial⟩ fun u51 dN => ?_))))
    have hc := (Nt.cosV_lo (b := k) hr (by have h9 := of_decide_eq_false al; omega)).trans (Nt.cosA_0 (r := r) (q := q) (b := k) (by have h9 := aq; simp at h9; omega))
    refine ⟨a7, a6, rfl, RatN.more (K := 80) ?_ xq, RatN.more (K := 80) ?_ xq⟩
    ·rw [hc]; exact (fr.ext dN)
    rw [hc]; exact (er.ext dN)
   have bE : ¬ ((r : Int) = 0) := by simpa using aq
   refine sq9 (zzh 47 (zI r) ty3 zzk (zyp 48 (x := zI (IntKind.i64.wrap ((2 : Int) * (r : Int)))) (zI (2 * r : Nat)) (eqI xk) (zzh 49 (zI q) ty3 zzk (zza 50 (zB (((2 * r : Nat) : Int) == (q : Int))) (zza 46 (zB (((2 * r : Nat) : Int) == (q : Int))) (zzc 65 [(2, zI k), (3, .adr 3 0), (4, .adr 4 0), (6, .adr 6 0), (46, zB (((2 * r : Nat) : Int) == (q : Int)))] [(3, ⟨3, [.int .i64 r]⟩), (4, ⟨3, [.int .i64 q]⟩), (6, ⟨32, zw6⟩)] (zzt (b := ((2 * r : Nat) : Int) == (q : Int)) xj (fun aF => ?_) (fun aF => ?_))))))))
   ·refine sq9 (zzg 51 118 _ fun _ _ _ fe => Post.mono (k_ratOf fe (z := 0) xq xq) ?_)
    rintro _ u57 g58 ⟨r55, rfl, f7⟩
    refine zza 52 (zI k) (zzg 53 177 _ fun _ _ fC fq => Post.mono (k_exactly (k := k) fq (f7.ext fC) xq xq) ?_)
    rintro _ u65 g66 ⟨bH, bv, rfl, e0, e9⟩
    refine zzi ⟨32, bH.cs ++ bv.cs⟩ ty32 ?_
    refine zzb (zzn (zyt (zzv (ret0 [.agg #[.bool bH.s, bH.m.v, bH.d.v, .bool bv.s, bv.m.v, bv.d.v]] ⟨zzq ty32 zze, trivial⟩ fun u68 dU => ?_))))
    have hc := (Nt.cosV_lo (b := k) hr (by have h9 := of_decide_eq_false al; omega)).trans (Nt.cosA_h (r := r) (q := q) (b := k) (by have h9 := aq; simp at h9; omega) (by have h9 := aF; simp at h9; omega))
    refine ⟨bH, bv, rfl, RatN.more (K := 80) ?_ xq, RatN.more (K := 80) ?_ xq⟩
    ·rw [hc]; exact (e0.ext dU)
    rw [hc]; exact (e9.ext dU)
   have dC : ¬ 2 * r = q := by have h9 := aF; simp at h9; omega
   refine sq9 (zzh 55 (zI r) ty3 zzk (zyp 56 (x := zI (IntKind.i64.wrap ((3 : Int) * (r : Int)))) (zI (3 * r : Nat)) (eqI xk) (zzh 57 (zI q) ty3 zzk (zza 58 (zB (((3 * r : Nat) : Int) == (q : Int))) (zza 54 (zB (((3 * r : Nat) : Int) == (q : Int))) (zzb (zzt (b := ((3 * r : Nat) : Int) == (q : Int)) xj (fun aY => ?_) (fun aY => ?_))))))))
   ·refine sq9 (zzg 59 127 _ fun _ _ _ e7 => Post.mono (k_ratFrac e7 (a := 1) (b := 2) xq xq xq xq) ?_)
    rintro _ u74 g75 ⟨r72, rfl, f8⟩
    refine zza 60 (zI k) (zzg 61 177 _ fun _ _ fS fG => Post.mono (k_exactly (k := k) fG (f8.ext fS) xq xq) ?_)
    rintro _ u82 g83 ⟨bq, bu, rfl, e2, d4⟩
    refine zzi ⟨32, bq.cs ++ bu.cs⟩ ty32 ?_
    refine zzb (zzn (zyt (zzv (ret0 [.agg #[.bool bq.s, bq.m.v, bq.d.v, .bool bu.s, bu.m.v, bu.d.v]] ⟨zzq ty32 zze, trivial⟩ fun u85 dO => ?_))))
    have hc := (Nt.cosV_lo (b := k) hr (by have h9 := of_decide_eq_false al; omega)).trans (Nt.cosA_3 (r := r) (q := q) (b := k) (by have h9 := aq; simp at h9; omega) (by have h9 := aF; simp at h9; omega) (by have h9 := aY; simp at h9; omega))
    refine ⟨bq, bu, rfl, RatN.more (K := 80) ?_ xq, RatN.more (K := 80) ?_ xq⟩
    ·rw [hc]; exact (e2.ext dO)
    rw [hc]; exact (d4.ext dO)
   have dh : ¬ 3 * r = q := by have h9 := aY; simp at h9; omega
   refine zzr (zzo ?_)
   refine zzd (sw_pubA (r := 3) (t := 3) [3] xz xj (by rfl) (by rfl) xj (fun eH u88 e89 fb fa cI => ?_))
   refine sw_pubA (r := 4) (t := 4) [4] xz xj (by rfl) (by rfl) xj (fun fL u94 eB fw fF b5 => ?_)
   refine zzf (sy_fun 62 [.pointer (some ⟨eH, 0, none⟩), .pointer (some ⟨fL, 0, none⟩)] ?_)
   refine zza 63 (zI k) (zzg 64 101 _ fun _ _ dX fp => Post.mono (k_irrCos (k := k) fp ((eB.trans dX).cells cI) (dX.cells b5) hq0 xq xq xq (hG r xq xq xq) bS xq) ?_)
   rintro _ d8 eE ⟨aG, aP, rfl, c1, dA⟩
   refine zzi ⟨32, aG.cs ++ aP.cs⟩ ty32 ?_
   refine zzb (zzn (ret0 [.agg #[.bool aG.s, aG.m.v, aG.d.v, .bool aP.s, aP.m.v, aP.d.v]] ⟨zzq ty32 zze, trivial⟩ fun eA bc => ?_))
   have hc := (Nt.cosV_lo (b := k) hr (by have h9 := of_decide_eq_false al; omega)).trans (Nt.cosA_g (r := r) (q := q) (b := k) (by have h9 := aq; simp at h9; omega) (by have h9 := aF; simp at h9; omega) (by have h9 := aY; simp at h9; omega))
   refine ⟨aG, aP, rfl, RatN.more (K := 70) ?_ xq, RatN.more (K := 70) ?_ xq⟩
   ·rw [hc]; exact (c1.ext bc)
   rw [hc]; exact (dA.ext bc)
  have qhb12 := of_decide_eq_false a1
  refine zzr (zzo ?_)
  refine zzd (zzd ?_)
  have hfold : (-(Int.tmod p (2 * (q : Int)))) = ((Nt.fold p q : Nat) : Int) := by unfold Nt.fold; dsimp only; split <;> omega
  rw [hfold]
  have hfl := Nt.fold_le p q hq0
  obtain ⟨r, hr⟩ : ∃ r, Nt.fold p q = r := ⟨_, rfl⟩
  rw [hr] at hfl ⊢
  clear hfold
  refine zzf (zzh 23 (zI r) ty3 zzk (zyp 24 (x := zI (IntKind.i64.wrap ((2 : Int) * (r : Int)))) (zI (2 * r : Nat)) (eqI xk) (zzh 25 (zI q) ty3 zzk (zza 26 (zB (decide ((q : Int) < ((2 * r : Nat) : Int)))) (zzb (zzt (b := decide ((q : Int) < ((2 * r : Nat) : Int))) xj (fun ac => ?_) (fun ac => ?_)))))))
  ·have qhb109 := of_decide_eq_true ac
   have hb9 := ac
   refine sq9 (zzh 27 (zI q) ty3 zzk (zzh 28 (zI r) ty3 zzk (zyp 29 (x := zI (IntKind.i64.wrap ((q : Int) - (r : Int)))) (zI (q - r : Nat)) (eqI xk) (zzh 30 (zI q) ty3 zzk (zza 31 (zI k) (zzg 32 100 _ fun _ _ _ cC => Post.mono ((show Calls _ _ #[.int .i64 (q - r : Nat), .int .i64 q, .int .i64 k] _ _ from (by have h9 := k_cosA (p := ((q - r : Nat) : Int)) (q := q) (k := k) cC hq0 hq2 hG0 xq xq hk (by rw [Nt.fold_id xq]; have h8 := of_decide_eq_true hb9; omega); rw [Nt.fold_id xq] at h9; exact h9))) ?_))))))
   rintro _ eT d6 ⟨bl, bJ, rfl, dw, cJ⟩
   refine zzj 7 ⟨32, zw6⟩ (zzi ⟨32, bl.cs ++ bJ.cs⟩ ty32 ?_)
   refine zzb (zzd (zzy [0, 1, 3, 0, 8, 31, 63, 127] [(0, []), (1, []), (3, []), (4, []), (2, []), (5, []), (6, []), (7, [])] xj xj (zza 33 (.adr 7 3) (zzh 34 (.v (bJ.v)) ty26 zze (zza 36 (.adr 7 0) (zzh 37 (.v (bl.v)) ty26 zze (zzg 35 176 _ fun _ _ be cQ => Post.mono (k_ratNeg cQ (cJ.ext be).raw xq) ?_)))))))
   rintro _ ft cW ⟨ai, rfl, de⟩
   refine zzg 38 176 _ fun _ _ ba ce => Post.mono (k_ratNeg ce (dw.ext (be.t (cW.t ba))).raw xq) ?_
   rintro _ eX cl ⟨ag, rfl, cO⟩
   refine zza 39 (.v (.agg #[.bool ai.s, ai.m.v, ai.d.v, .bool ag.s, ag.m.v, ag.d.v])) (zzi ⟨32, ai.cs ++ ag.cs⟩ ty32 ?_)
   refine zzc 65 [(6, .adr 6 0)] [(6, ⟨32, ai.cs ++ ag.cs⟩)] (zzn (zzv (ret0 [.agg #[.bool ai.s, ai.m.v, ai.d.v, .bool ag.s, ag.m.v, ag.d.v]] ⟨zzq ty32 zze, trivial⟩ fun f0 bI => ?_)))
   have hc := Nt.cosV_hi (b := k) hr (by have h9 := of_decide_eq_true ac; omega)
   refine ⟨ai, ag, rfl, RatN.more (K := 80) ?_ xq, RatN.more (K := 80) ?_ xq⟩
   ·rw [hc]; exact (de.ext (ba.t (cl.t bI)))
   rw [hc]; exact (cO.ext bI)
  have qhb109 := of_decide_eq_false ac
  refine zzr (zzo ?_)
  refine zzd (zzs (sq9 (zzh 41 (zI r) ty3 zzk (zza 42 (zB ((r : Int) == 0)) (zza 40 (zB ((r : Int) == 0)) (zzb (zzt (b := (r : Int) == 0) xj (fun ad => ?_) (fun ad => ?_))))))))
  ·have a2 : (r : Int) = 0 := by simpa using ad
   refine sq9 (zzg 43 118 _ fun _ _ _ cU => Post.mono (k_ratOf cU (z := 1) xq xq) ?_)
   rintro _ fx fn ⟨e8, rfl, ci⟩
   refine zza 44 (zI k) (zzg 45 177 _ fun _ _ cP cZ => Post.mono (k_exactly (k := k) cZ (ci.ext cP) xq xq) ?_)
   rintro _ eP eh ⟨aV, aR, rfl, ct, cy⟩
   refine zzi ⟨32, aV.cs ++ aR.cs⟩ ty32 ?_
   refine zzb (zzn (zyt (zzv (ret0 [.agg #[.bool aV.s, aV.m.v, aV.d.v, .bool aR.s, aR.m.v, aR.d.v]] ⟨zzq ty32 zze, trivial⟩ fun em a9 => ?_))))
   have hc := (Nt.cosV_lo (b := k) hr (by have h9 := of_decide_eq_false ac; omega)).trans (Nt.cosA_0 (r := r) (q := q) (b := k) (by have h9 := ad; simp at h9; omega))
   refine ⟨aV, aR, rfl, RatN.more (K := 80) ?_ xq, RatN.more (K := 80) ?_ xq⟩
   ·rw [hc]; exact (ct.ext a9)
   rw [hc]; exact (cy.ext a9)
  have a2 : ¬ ((r : Int) = 0) := by simpa using ad
  refine sq9 (zzh 47 (zI r) ty3 zzk (zyp 48 (x := zI (IntKind.i64.wrap ((2 : Int) * (r : Int)))) (zI (2 * r : Nat)) (eqI xk) (zzh 49 (zI q) ty3 zzk (zza 50 (zB (((2 * r : Nat) : Int) == (q : Int))) (zza 46 (zB (((2 * r : Nat) : Int) == (q : Int))) (zzb (zzt (b := ((2 * r : Nat) : Int) == (q : Int)) xj (fun an => ?_) (fun an => ?_))))))))
  ·refine sq9 (zzg 51 118 _ fun _ _ _ dH => Post.mono (k_ratOf dH (z := 0) xq xq) ?_)
   rintro _ eQ fI ⟨fj, rfl, c7⟩
   refine zza 52 (zI k) (zzg 53 177 _ fun _ _ cf dn => Post.mono (k_exactly (k := k) dn (c7.ext cf) xq xq) ?_)
   rintro _ eK ed ⟨aC, az, rfl, cY, dE⟩
   refine zzi ⟨32, aC.cs ++ az.cs⟩ ty32 ?_
   refine zzc 65 [(6, .adr 6 0)] [(6, ⟨32, aC.cs ++ az.cs⟩)] (zzn (zyt (zzv (ret0 [.agg #[.bool aC.s, aC.m.v, aC.d.v, .bool az.s, az.m.v, az.d.v]] ⟨zzq ty32 zze, trivial⟩ fun en bi => ?_))))
   have hc := (Nt.cosV_lo (b := k) hr (by have h9 := of_decide_eq_false ac; omega)).trans (Nt.cosA_h (r := r) (q := q) (b := k) (by have h9 := ad; simp at h9; omega) (by have h9 := an; simp at h9; omega))
   refine ⟨aC, az, rfl, RatN.more (K := 80) ?_ xq, RatN.more (K := 80) ?_ xq⟩
   ·rw [hc]; exact (cY.ext bi)
   rw [hc]; exact (dE.ext bi)
  have bW : ¬ 2 * r = q := by have h9 := an; simp at h9; omega
  refine sq9 (zzh 55 (zI r) ty3 zzk (zyp 56 (x := zI (IntKind.i64.wrap ((3 : Int) * (r : Int)))) (zI (3 * r : Nat)) (eqI xk) (zzh 57 (zI q) ty3 zzk (zza 58 (zB (((3 * r : Nat) : Int) == (q : Int))) (zza 54 (zB (((3 * r : Nat) : Int) == (q : Int))) (zzc 65 [(2, zI k), (3, .adr 3 0), (4, .adr 4 0), (6, .adr 6 0), (54, zB (((3 * r : Nat) : Int) == (q : Int)))] [(3, ⟨3, [.int .i64 r]⟩), (4, ⟨3, [.int .i64 q]⟩), (6, ⟨32, zw6⟩)] (zzt (b := ((3 * r : Nat) : Int) == (q : Int)) xj (fun au => ?_) (fun au => ?_))))))))
  ·refine sq9 (zzg 59 127 _ fun _ _ _ cM => Post.mono (k_ratFrac cM (a := 1) (b := 2) xq xq xq xq) ?_)
   rintro _ eg fV ⟨fh, rfl, cm⟩
   refine zza 60 (zI k) (zzg 61 177 _ fun _ _ b9 cR => Post.mono (k_exactly (k := k) cR (cm.ext b9) xq xq) ?_)
   rintro _ eI fc ⟨aT, aK, rfl, cT, c9⟩
   refine zzi ⟨32, aT.cs ++ aK.cs⟩ ty32 ?_
   refine zzb (zzn (zyt (zzv (ret0 [.agg #[.bool aT.s, aT.m.v, aT.d.v, .bool aK.s, aK.m.v, aK.d.v]] ⟨zzq ty32 zze, trivial⟩ fun f6 bg => ?_))))
   have hc := (Nt.cosV_lo (b := k) hr (by have h9 := of_decide_eq_false ac; omega)).trans (Nt.cosA_3 (r := r) (q := q) (b := k) (by have h9 := ad; simp at h9; omega) (by have h9 := an; simp at h9; omega) (by have h9 := au; simp at h9; omega))
   refine ⟨aT, aK, rfl, RatN.more (K := 80) ?_ xq, RatN.more (K := 80) ?_ xq⟩
   ·rw [hc]; exact (cT.ext bg)
   rw [hc]; exact (c9.ext bg)
  have bQ : ¬ 3 * r = q := by have h9 := au; simp at h9; omega
  refine zzr (zzo ?_)
  refine zzd (sw_pubA (r := 3) (t := 3) [3] xz xj (by rfl) (by rfl) xj (fun bZ fB e1 dL dY bD => ?_))
  refine sw_pubA (r := 4) (t := 4) [4] xz xj (by rfl) (by rfl) xj (fun dJ ek dG d1 d2 bz => ?_)
  refine zzf (sy_fun 62 [.pointer (some ⟨bZ, 0, none⟩), .pointer (some ⟨dJ, 0, none⟩)] ?_)
  refine zza 63 (zI k) (zzg 64 101 _ fun _ _ bA cD => Post.mono (k_irrCos (k := k) cD ((dG.trans bA).cells bD) (bA.cells bz) hq0 xq xq xq (hG r xq xq xq) bS xq) ?_)
  rintro _ fk f1 ⟨aL, aX, rfl, cV, db⟩
  refine zzi ⟨32, aL.cs ++ aX.cs⟩ ty32 ?_
  refine zzb (zzn (ret0 [.agg #[.bool aL.s, aL.m.v, aL.d.v, .bool aX.s, aX.m.v, aX.d.v]] ⟨zzq ty32 zze, trivial⟩ fun e4 bo => ?_))
  have hc := (Nt.cosV_lo (b := k) hr (by have h9 := of_decide_eq_false ac; omega)).trans (Nt.cosA_g (r := r) (q := q) (b := k) (by have h9 := ad; simp at h9; omega) (by have h9 := an; simp at h9; omega) (by have h9 := au; simp at h9; omega))
  refine ⟨aL, aX, rfl, RatN.more (K := 70) ?_ xq, RatN.more (K := 70) ?_ xq⟩
  ·rw [hc]; exact (cV.ext bo)
  rw [hc]; exact (db.ext bo)
 have qhb11 := of_decide_eq_false a3
 refine zzr (zzo ?_)
 refine zzd (sq9 (zzh 16 (zI (Int.tmod p (2 * (q : Int)))) ty3 zzk (zzh 17 (zI q) ty3 zzk (zza 18 (zB (decide ((q : Int) < (Int.tmod p (2 * (q : Int)))))) (zzb (zzt (b := decide ((q : Int) < (Int.tmod p (2 * (q : Int))))) xj (fun aU => ?_) (fun aU => ?_)))))))
 ·have qhb205 := of_decide_eq_true aU
  refine zzf (zzh 19 (zI q) ty3 zzk (zyp 20 (x := zI (IntKind.i64.wrap ((2 : Int) * (q : Int)))) (zI (2 * q : Nat)) (eqI xk) (zzh 21 (zI (Int.tmod p (2 * (q : Int)))) ty3 zzk (zyp 22 (x := zI (IntKind.i64.wrap (((2 * q : Nat) : Int) - (Int.tmod p (2 * (q : Int)))))) (zI (((2 * q : Nat) : Int) - (Int.tmod p (2 * (q : Int))))) yv (zzi ⟨3, [.int .i64 (((2 * q : Nat) : Int) - (Int.tmod p (2 * (q : Int))))]⟩ ty3 ?_)))))
  refine zzb (zzd (zzd ?_))
  have hfold : (((2 * q : Nat) : Int) - (Int.tmod p (2 * (q : Int)))) = ((Nt.fold p q : Nat) : Int) := by unfold Nt.fold; dsimp only; split <;> omega
  rw [hfold]
  have hfl := Nt.fold_le p q hq0
  obtain ⟨r, hr⟩ : ∃ r, Nt.fold p q = r := ⟨_, rfl⟩
  rw [hr] at hfl ⊢
  clear hfold
  refine zzf (zzh 23 (zI r) ty3 zzk (zyp 24 (x := zI (IntKind.i64.wrap ((2 : Int) * (r : Int)))) (zI (2 * r : Nat)) (eqI xk) (zzh 25 (zI q) ty3 zzk (zza 26 (zB (decide ((q : Int) < ((2 * r : Nat) : Int)))) (zzb (zzt (b := decide ((q : Int) < ((2 * r : Nat) : Int))) xj (fun aa => ?_) (fun aa => ?_)))))))
  ·have qhb206 := of_decide_eq_true aa
   have hb9 := aa
   refine sq9 (zzh 27 (zI q) ty3 zzk (zzh 28 (zI r) ty3 zzk (zyp 29 (x := zI (IntKind.i64.wrap ((q : Int) - (r : Int)))) (zI (q - r : Nat)) (eqI xk) (zzh 30 (zI q) ty3 zzk (zza 31 (zI k) (zzg 32 100 _ fun _ _ _ b7 => Post.mono ((show Calls _ _ #[.int .i64 (q - r : Nat), .int .i64 q, .int .i64 k] _ _ from (by have h9 := k_cosA (p := ((q - r : Nat) : Int)) (q := q) (k := k) b7 hq0 hq2 hG0 xq xq hk (by rw [Nt.fold_id xq]; have h8 := of_decide_eq_true hb9; omega); rw [Nt.fold_id xq] at h9; exact h9))) ?_))))))
   rintro _ fN eq ⟨bN, bb, rfl, dr, cu⟩
   refine zzj 7 ⟨32, zw6⟩ (zzi ⟨32, bN.cs ++ bb.cs⟩ ty32 ?_)
   refine zzb (zzd (zzy [0, 1, 3, 0, 8, 31, 63, 127] [(0, []), (1, []), (3, []), (4, []), (2, []), (5, []), (6, []), (7, [])] xj xj (zza 33 (.adr 7 3) (zzh 34 (.v (bb.v)) ty26 zze (zza 36 (.adr 7 0) (zzh 37 (.v (bN.v)) ty26 zze (zzg 35 176 _ fun _ _ bO cL => Post.mono (k_ratNeg cL (cu.ext bO).raw xq) ?_)))))))
   rintro _ e6 c0 ⟨ak, rfl, dk⟩
   refine zzg 38 176 _ fun _ _ a8 dg => Post.mono (k_ratNeg dg (dr.ext (bO.t (c0.t a8))).raw xq) ?_
   rintro _ f2 cN ⟨am, rfl, dv⟩
   refine zza 39 (.v (.agg #[.bool ak.s, ak.m.v, ak.d.v, .bool am.s, am.m.v, am.d.v])) (zzi ⟨32, ak.cs ++ am.cs⟩ ty32 ?_)
   refine zzc 65 [(6, .adr 6 0)] [(6, ⟨32, ak.cs ++ am.cs⟩)] (zzn (zzv (ret0 [.agg #[.bool ak.s, ak.m.v, ak.d.v, .bool am.s, am.m.v, am.d.v]] ⟨zzq ty32 zze, trivial⟩ fun eG bL => ?_)))
   have hc := Nt.cosV_hi (b := k) hr (by have h9 := of_decide_eq_true aa; omega)
   refine ⟨ak, am, rfl, RatN.more (K := 80) ?_ xq, RatN.more (K := 80) ?_ xq⟩
   ·rw [hc]; exact (dk.ext (a8.t (cN.t bL)))
   rw [hc]; exact (dv.ext bL)
  have qhb206 := of_decide_eq_false aa
  refine zzr (zzo ?_)
  refine zzd (zzs (sq9 (zzh 41 (zI r) ty3 zzk (zza 42 (zB ((r : Int) == 0)) (zza 40 (zB ((r : Int) == 0)) (zzb (zzt (b := (r : Int) == 0) xj (fun ae => ?_) (fun ae => ?_))))))))
  ·have a5 : (r : Int) = 0 := by simpa using ae
   refine sq9 (zzg 43 118 _ fun _ _ _ c4 => Post.mono (k_ratOf c4 (z := 1) xq xq) ?_)
   rintro _ eU eM ⟨ff, rfl, du⟩
   refine zza 44 (zI k) (zzg 45 177 _ fun _ _ c6 cX => Post.mono (k_exactly (k := k) cX (du.ext c6) xq xq) ?_)
   rintro _ ee ep ⟨aH, aW, rfl, dq, cS⟩
   refine zzi ⟨32, aH.cs ++ aW.cs⟩ ty32 ?_
   refine zzb (zzn (zyt (zzv (ret0 [.agg #[.bool aH.s, aH.m.v, aH.d.v, .bool aW.s, aW.m.v, aW.d.v]] ⟨zzq ty32 zze, trivial⟩ fun f3 bw => ?_))))
   have hc := (Nt.cosV_lo (b := k) hr (by have h9 := of_decide_eq_false aa; omega)).trans (Nt.cosA_0 (r := r) (q := q) (b := k) (by have h9 := ae; simp at h9; omega))
   refine ⟨aH, aW, rfl, RatN.more (K := 80) ?_ xq, RatN.more (K := 80) ?_ xq⟩
   ·rw [hc]; exact (dq.ext bw)
   rw [hc]; exact (cS.ext bw)
  have a5 : ¬ ((r : Int) = 0) := by simpa using ae
  refine sq9 (zzh 47 (zI r) ty3 zzk (zyp 48 (x := zI (IntKind.i64.wrap ((2 : Int) * (r : Int)))) (zI (2 * r : Nat)) (eqI xk) (zzh 49 (zI q) ty3 zzk (zza 50 (zB (((2 * r : Nat) : Int) == (q : Int))) (zza 46 (zB (((2 * r : Nat) : Int) == (q : Int))) (zzb (zzt (b := ((2 * r : Nat) : Int) == (q : Int)) xj (fun ap => ?_) (fun ap => ?_))))))))
  ·refine sq9 (zzg 51 118 _ fun _ _ _ dt => Post.mono (k_ratOf dt (z := 0) xq xq) ?_)
   rintro _ fv fK ⟨eD, rfl, dy⟩
   refine zza 52 (zI k) (zzg 53 177 _ fun _ _ cq ck => Post.mono (k_exactly (k := k) ck (dy.ext cq) xq xq) ?_)
   rintro _ eb ex ⟨aB, ax, rfl, cw, cc⟩
   refine zzi ⟨32, aB.cs ++ ax.cs⟩ ty32 ?_
   refine zzc 65 [(6, .adr 6 0)] [(6, ⟨32, aB.cs ++ ax.cs⟩)] (zzn (zyt (zzv (ret0 [.agg #[.bool aB.s, aB.m.v, aB.d.v, .bool ax.s, ax.m.v, ax.d.v]] ⟨zzq ty32 zze, trivial⟩ fun et bC => ?_))))
   have hc := (Nt.cosV_lo (b := k) hr (by have h9 := of_decide_eq_false aa; omega)).trans (Nt.cosA_h (r := r) (q := q) (b := k) (by have h9 := ae; simp at h9; omega) (by have h9 := ap; simp at h9; omega))
   refine ⟨aB, ax, rfl, RatN.more (K := 80) ?_ xq, RatN.more (K := 80) ?_ xq⟩
   ·rw [hc]; exact (cw.ext bC)
   rw [hc]; exact (cc.ext bC)
  have bT : ¬ 2 * r = q := by have h9 := ap; simp at h9; omega
  refine sq9 (zzh 55 (zI r) ty3 zzk (zyp 56 (x := zI (IntKind.i64.wrap ((3 : Int) * (r : Int)))) (zI (3 * r : Nat)) (eqI xk) (zzh 57 (zI q) ty3 zzk (zza 58 (zB (((3 * r : Nat) : Int) == (q : Int))) (zza 54 (zB (((3 * r : Nat) : Int) == (q : Int))) (zzc 65 [(2, zI k), (3, .adr 3 0), (4, .adr 4 0), (6, .adr 6 0), (54, zB (((3 * r : Nat) : Int) == (q : Int)))] [(3, ⟨3, [.int .i64 r]⟩), (4, ⟨3, [.int .i64 q]⟩), (6, ⟨32, zw6⟩)] (zzt (b := ((3 * r : Nat) : Int) == (q : Int)) xj (fun ar => ?_) (fun ar => ?_))))))))
  ·refine sq9 (zzg 59 127 _ fun _ _ _ ch => Post.mono (k_ratFrac ch (a := 1) (b := 2) xq xq xq xq) ?_)
   rintro _ ea eF ⟨fJ, rfl, dc⟩
   refine zza 60 (zI k) (zzg 61 177 _ fun _ _ cj c5 => Post.mono (k_exactly (k := k) c5 (dc.ext cj) xq xq) ?_)
   rintro _ ei f9 ⟨aI, aN, rfl, c2, dx⟩
   refine zzi ⟨32, aI.cs ++ aN.cs⟩ ty32 ?_
   refine zzb (zzn (zyt (zzv (ret0 [.agg #[.bool aI.s, aI.m.v, aI.d.v, .bool aN.s, aN.m.v, aN.d.v]] ⟨zzq ty32 zze, trivial⟩ fun ey bm => ?_))))
   have hc := (Nt.cosV_lo (b := k) hr (by have h9 := of_decide_eq_false aa; omega)).trans (Nt.cosA_3 (r := r) (q := q) (b := k) (by have h9 := ae; simp at h9; omega) (by have h9 := ap; simp at h9; omega) (by have h9 := ar; simp at h9; omega))
   refine ⟨aI, aN, rfl, RatN.more (K := 80) ?_ xq, RatN.more (K := 80) ?_ xq⟩
   ·rw [hc]; exact (c2.ext bm)
   rw [hc]; exact (dx.ext bm)
  have bU : ¬ 3 * r = q := by have h9 := ar; simp at h9; omega
  refine zzr (zzo ?_)
  refine zzd (sw_pubA (r := 3) (t := 3) [3] xz xj (by rfl) (by rfl) xj (fun cF eS fO d0 dR bk => ?_))
  refine sw_pubA (r := 4) (t := 4) [4] xz xj (by rfl) (by rfl) xj (fun dz eu da dM dK bt => ?_)
  refine zzf (sy_fun 62 [.pointer (some ⟨cF, 0, none⟩), .pointer (some ⟨dz, 0, none⟩)] ?_)
  refine zza 63 (zI k) (zzg 64 101 _ fun _ _ bx dj => Post.mono (k_irrCos (k := k) dj ((da.trans bx).cells bk) (bx.cells bt) hq0 xq xq xq (hG r xq xq xq) bS xq) ?_)
  rintro _ fs fW ⟨aS, aM, rfl, dp, cx⟩
  refine zzi ⟨32, aS.cs ++ aM.cs⟩ ty32 ?_
  refine zzb (zzn (ret0 [.agg #[.bool aS.s, aS.m.v, aS.d.v, .bool aM.s, aM.m.v, aM.d.v]] ⟨zzq ty32 zze, trivial⟩ fun fD bM => ?_))
  have hc := (Nt.cosV_lo (b := k) hr (by have h9 := of_decide_eq_false aa; omega)).trans (Nt.cosA_g (r := r) (q := q) (b := k) (by have h9 := ae; simp at h9; omega) (by have h9 := ap; simp at h9; omega) (by have h9 := ar; simp at h9; omega))
  refine ⟨aS, aM, rfl, RatN.more (K := 70) ?_ xq, RatN.more (K := 70) ?_ xq⟩
  ·rw [hc]; exact (dp.ext bM)
  rw [hc]; exact (cx.ext bM)
 have qhb205 := of_decide_eq_false aU
 refine zzr (zzo ?_)
 refine zzd (zzd ?_)
 have hfold : (Int.tmod p (2 * (q : Int))) = ((Nt.fold p q : Nat) : Int) := by unfold Nt.fold; dsimp only; split <;> omega
 rw [hfold]
 have hfl := Nt.fold_le p q hq0
 obtain ⟨r, hr⟩ : ∃ r, Nt.fold p q = r := ⟨_, rfl⟩
 rw [hr] at hfl ⊢
 clear hfold
 refine zzf (zzh 23 (zI r) ty3 zzk (zyp 24 (x := zI (IntKind.i64.wrap ((2 : Int) * (r : Int)))) (zI (2 * r : Nat)) (eqI xk) (zzh 25 (zI q) ty3 zzk (zza 26 (zB (decide ((q : Int) < ((2 * r : Nat) : Int)))) (zzb (zzt (b := decide ((q : Int) < ((2 * r : Nat) : Int))) xj (fun ab => ?_) (fun ab => ?_)))))))
 ·have qhb302 := of_decide_eq_true ab
  have hb9 := ab
  refine sq9 (zzh 27 (zI q) ty3 zzk (zzh 28 (zI r) ty3 zzk (zyp 29 (x := zI (IntKind.i64.wrap ((q : Int) - (r : Int)))) (zI (q - r : Nat)) (eqI xk) (zzh 30 (zI q) ty3 zzk (zza 31 (zI k) (zzg 32 100 _ fun _ _ _ dD => Post.mono ((show Calls _ _ #[.int .i64 (q - r : Nat), .int .i64 q, .int .i64 k] _ _ from (by have h9 := k_cosA (p := ((q - r : Nat) : Int)) (q := q) (k := k) dD hq0 hq2 hG0 xq xq hk (by rw [Nt.fold_id xq]; have h8 := of_decide_eq_true hb9; omega); rw [Nt.fold_id xq] at h9; exact h9))) ?_))))))
  rintro _ eL fg ⟨bs, bp, rfl, b3, cb⟩
  refine zzj 7 ⟨32, zw6⟩ (zzi ⟨32, bs.cs ++ bp.cs⟩ ty32 ?_)
  refine zzb (zzd (zzy [0, 1, 3, 0, 8, 31, 63, 127] [(0, []), (1, []), (3, []), (4, []), (2, []), (5, []), (6, []), (7, [])] xj xj (zza 33 (.adr 7 3) (zzh 34 (.v (bp.v)) ty26 zze (zza 36 (.adr 7 0) (zzh 37 (.v (bs.v)) ty26 zze (zzg 35 176 _ fun _ _ bn cH => Post.mono (k_ratNeg cH (cb.ext bn).raw xq) ?_)))))))
  rintro _ f4 b1 ⟨aj, rfl, cB⟩
  refine zzg 38 176 _ fun _ _ bj dm => Post.mono (k_ratNeg dm (b3.ext (bn.t (b1.t bj))).raw xq) ?_
  rintro _ es b2 ⟨ah, rfl, cp⟩
  refine zza 39 (.v (.agg #[.bool aj.s, aj.m.v, aj.d.v, .bool ah.s, ah.m.v, ah.d.v])) (zzi ⟨32, aj.cs ++ ah.cs⟩ ty32 ?_)
  refine zzc 65 [(6, .adr 6 0)] [(6, ⟨32, aj.cs ++ ah.cs⟩)] (zzn (zzv (ret0 [.agg #[.bool aj.s, aj.m.v, aj.d.v, .bool ah.s, ah.m.v, ah.d.v]] ⟨zzq ty32 zze, trivial⟩ fun fT bf => ?_)))
  have hc := Nt.cosV_hi (b := k) hr (by have h9 := of_decide_eq_true ab; omega)
  refine ⟨aj, ah, rfl, RatN.more (K := 80) ?_ xq, RatN.more (K := 80) ?_ xq⟩
  ·rw [hc]; exact (cB.ext (bj.t (b2.t bf)))
  rw [hc]; exact (cp.ext bf)
 have qhb302 := of_decide_eq_false ab
 refine zzr (zzo ?_)
 refine zzd (zzs (sq9 (zzh 41 (zI r) ty3 zzk (zza 42 (zB ((r : Int) == 0)) (zza 40 (zB ((r : Int) == 0)) (zzb (zzt (b := (r : Int) == 0) xj (fun af => ?_) (fun af => ?_))))))))
 ·have a4 : (r : Int) = 0 := by simpa using af
  refine sq9 (zzg 43 118 _ fun _ _ _ dI => Post.mono (k_ratOf dI (z := 1) xq xq) ?_)
  rintro _ fi eC ⟨eN, rfl, df⟩
  refine zza 44 (zI k) (zzg 45 177 _ fun _ _ c8 di => Post.mono (k_exactly (k := k) di (df.ext c8) xq xq) ?_)
  rintro _ fU eR ⟨aJ, aE, rfl, cE, cd⟩
  refine zzi ⟨32, aJ.cs ++ aE.cs⟩ ty32 ?_
  refine zzb (zzn (zyt (zzv (ret0 [.agg #[.bool aJ.s, aJ.m.v, aJ.d.v, .bool aE.s, aE.m.v, aE.d.v]] ⟨zzq ty32 zze, trivial⟩ fun fd bB => ?_))))
  have hc := (Nt.cosV_lo (b := k) hr (by have h9 := of_decide_eq_false ab; omega)).trans (Nt.cosA_0 (r := r) (q := q) (b := k) (by have h9 := af; simp at h9; omega))
  refine ⟨aJ, aE, rfl, RatN.more (K := 80) ?_ xq, RatN.more (K := 80) ?_ xq⟩
  ·rw [hc]; exact (cE.ext bB)
  rw [hc]; exact (cd.ext bB)
 have a4 : ¬ ((r : Int) = 0) := by simpa using af
 refine sq9 (zzh 47 (zI r) ty3 zzk (zyp 48 (x := zI (IntKind.i64.wrap ((2 : Int) * (r : Int)))) (zI (2 * r : Nat)) (eqI xk) (zzh 49 (zI q) ty3 zzk (zza 50 (zB (((2 * r : Nat) : Int) == (q : Int))) (zza 46 (zB (((2 * r : Nat) : Int) == (q : Int))) (zzb (zzt (b := ((2 * r : Nat) : Int) == (q : Int)) xj (fun ao => ?_) (fun ao => ?_))))))))
 ·refine sq9 (zzg 51 118 _ fun _ _ _ cz => Post.mono (k_ratOf cz (z := 0) xq xq) ?_)
  rintro _ ej fo ⟨ef, rfl, cv⟩
  refine zza 52 (zI k) (zzg 53 177 _ fun _ _ cK dF => Post.mono (k_exactly (k := k) dF (cv.ext cK) xq xq) ?_)
  rintro _ d7 ec ⟨aO, aQ, rfl, cr, c3⟩
  refine zzi ⟨32, aO.cs ++ aQ.cs⟩ ty32 ?_
  refine zzb (zzn (zyt (zzv (ret0 [.agg #[.bool aO.s, aO.m.v, aO.d.v, .bool aQ.s, aQ.m.v, aQ.d.v]] ⟨zzq ty32 zze, trivial⟩ fun fZ bP => ?_))))
  have hc := (Nt.cosV_lo (b := k) hr (by have h9 := of_decide_eq_false ab; omega)).trans (Nt.cosA_h (r := r) (q := q) (b := k) (by have h9 := af; simp at h9; omega) (by have h9 := ao; simp at h9; omega))
  refine ⟨aO, aQ, rfl, RatN.more (K := 80) ?_ xq, RatN.more (K := 80) ?_ xq⟩
  ·rw [hc]; exact (cr.ext bP)
  rw [hc]; exact (c3.ext bP)
 have bR : ¬ 2 * r = q := by have h9 := ao; simp at h9; omega
 refine sq9 (zzh 55 (zI r) ty3 zzk (zyp 56 (x := zI (IntKind.i64.wrap ((3 : Int) * (r : Int)))) (zI (3 * r : Nat)) (eqI xk) (zzh 57 (zI q) ty3 zzk (zza 58 (zB (((3 * r : Nat) : Int) == (q : Int))) (zza 54 (zB (((3 * r : Nat) : Int) == (q : Int))) (zzb (zzt (b := ((3 * r : Nat) : Int) == (q : Int)) xj (fun av => ?_) (fun av => ?_))))))))
 ·refine sq9 (zzg 59 127 _ fun _ _ _ cn => Post.mono (k_ratFrac cn (a := 1) (b := 2) xq xq xq xq) ?_)
  rintro _ eY fQ ⟨fA, rfl, cg⟩
  refine zza 60 (zI k) (zzg 61 177 _ fun _ _ b8 bX => Post.mono (k_exactly (k := k) bX (cg.ext b8) xq xq) ?_)
  rintro _ eZ d3 ⟨aD, ay, rfl, dd, cA⟩
  refine zzi ⟨32, aD.cs ++ ay.cs⟩ ty32 ?_
  refine zzc 65 [(6, .adr 6 0)] [(6, ⟨32, aD.cs ++ ay.cs⟩)] (zzn (zyt (zzv (ret0 [.agg #[.bool aD.s, aD.m.v, aD.d.v, .bool ay.s, ay.m.v, ay.d.v]] ⟨zzq ty32 zze, trivial⟩ fun fX br => ?_))))
  have hc := (Nt.cosV_lo (b := k) hr (by have h9 := of_decide_eq_false ab; omega)).trans (Nt.cosA_3 (r := r) (q := q) (b := k) (by have h9 := af; simp at h9; omega) (by have h9 := ao; simp at h9; omega) (by have h9 := av; simp at h9; omega))
  refine ⟨aD, ay, rfl, RatN.more (K := 80) ?_ xq, RatN.more (K := 80) ?_ xq⟩
  ·rw [hc]; exact (dd.ext br)
  rw [hc]; exact (cA.ext br)
 have bV : ¬ 3 * r = q := by have h9 := av; simp at h9; omega
 refine zzr (zzo ?_)
 refine zzd (sw_pubA (r := 3) (t := 3) [3] xz xj (by rfl) (by rfl) xj (fun bY eJ fm dP dZ bF => ?_))
 refine sw_pubA (r := 4) (t := 4) [4] xz xj (by rfl) (by rfl) xj (fun ca ew b6 dQ dS bG => ?_)
 refine zzf (sy_fun 62 [.pointer (some ⟨bY, 0, none⟩), .pointer (some ⟨ca, 0, none⟩)] ?_)
 refine zza 63 (zI k) (zzg 64 101 _ fun _ _ bK ds => Post.mono (k_irrCos (k := k) ds ((b6.trans bK).cells bF) (bK.cells bG) hq0 xq xq xq (hG r xq xq xq) bS xq) ?_)
 rintro _ eV eO ⟨aA, aw, rfl, cG, b4⟩
 refine zzi ⟨32, aA.cs ++ aw.cs⟩ ty32 ?_
 refine zzc 65 [(6, .adr 6 0)] [(6, ⟨32, aA.cs ++ aw.cs⟩)] (zzn (ret0 [.agg #[.bool aA.s, aA.m.v, aA.d.v, .bool aw.s, aw.m.v, aw.d.v]] ⟨zzq ty32 zze, trivial⟩ fun f5 bh => ?_))
 have hc := (Nt.cosV_lo (b := k) hr (by have h9 := of_decide_eq_false ab; omega)).trans (Nt.cosA_g (r := r) (q := q) (b := k) (by have h9 := af; simp at h9; omega) (by have h9 := ao; simp at h9; omega) (by have h9 := av; simp at h9; omega))
 refine ⟨aA, aw, rfl, RatN.more (K := 70) ?_ xq, RatN.more (K := 70) ?_ xq⟩
 ·rw [hc]; exact (cG.ext bh)
 rw [hc]; exact (b4.ext bh)
theorem k_ePermitted {u w : World} {n : Int} (d : Dat u w) : Calls Tryz.prog 77 #[.int .i64 n] w (Post u w fun v _ => v = .bool (decide (0 ≤ n ∧ n ≤ 256))) := by
 refine zzl (args := [.int .i64 n]) Tryz.func77 rfl Tryz.ntmps77 (rs := [.tmp 2]) Tryz.results77 (le_b rfl) (le_b rfl) d ?_
 refine sq9 (zza 2 (zB false) (zzb (sq9 (zza 3 (zI n) (zza 4 (zB (decide ((0 : Int) ≤ n))) ?_)))))
 rcases Bool.eq_false_or_eq_true (decide ((0 : Int) ≤ n)) with hs11 | hs11
 ·refine zyp 5 (x := zB (decide ((0 : Int) ≤ n))) (zB true) (by rw [hs11]) ?_
  have qhs11 := of_decide_eq_true hs11
  refine zza 6 (zI n) ?_ (hw := w1 2 true 5)
  refine zza 7 (zB (decide (n ≤ 256))) ?_ (hw := w1 2 true 5)
  refine zza 8 (zB (decide (n ≤ 256))) (zza 2 (zB (decide (n ≤ 256))) (zzb (zzn (ret0 [.bool (decide (n ≤ 256))] ⟨zzp, trivial⟩ fun u12 e13 => ?_))))
  show Value.bool _ = Value.bool _
  congr 1
  symm
  have h9 := of_decide_eq_true hs11
  by_cases h8 : n ≤ 256
  ·rw [decide_eq_true h8]; exact decide_eq_true ⟨h9, h8⟩
  rw [decide_eq_false h8]; exact decide_eq_false (fun h => h8 h.2)
 refine zyp 5 (x := zB (decide ((0 : Int) ≤ n))) (zB false) (by rw [hs11]) ?_
 have qhs11 := of_decide_eq_false hs11
 refine zzm 6 (uw 2 true false 5) (zzm 7 (uw 2 true false 5) (zza 8 (zB false) (zza 2 (zB false) (zzb (zzn (ret0 [.bool false] ⟨zzp, trivial⟩ fun u14 e15 => ?_))))))
 show Value.bool _ = Value.bool _
 congr 1
 symm
 exact decide_eq_false (fun h => absurd h.1 (of_decide_eq_false hs11))
theorem k_CosPiG {u w : World} {p : Int} {q k : Nat} (d : Dat u w) (hq1 : 1 ≤ q) (hq2 : q ≤ 1000) (hp0 : -1000000 ≤ p) (hp1 : p ≤ 1000000) (hk : k ≤ 256) (hG : Nt.GapQ q k) : Calls Tryz.prog 31 #[.int .i64 p, .int .i64 (q : Int), .int .i64 (k : Int)] w (Post u w fun v u' => ∃ r1 r2 : RL, v = .tuple #[IV r1 r2, .int .i64 0] ∧ RatN u' r1 ((Nt.cosV p q k).1) 80 ∧ RatN u' r2 ((Nt.cosV p q k).2) 80) := by
 refine zzl (args := [.int .i64 p, .int .i64 q, .int .i64 k]) Tryz.func31 rfl Tryz.ntmps31 (rs := [.cell 6 32, .tmp 7]) Tryz.results31 (le_b rfl) (le_b rfl) d ?_
 refine sq9 (zzj 6 ⟨32, zw6⟩ (zza 7 (zI 0) (zzb (zzd (sq9 (zza 8 (zI k) (zzg 9 77 _ fun _ _ _ ag => Post.mono (k_ePermitted (n := (k : Int)) ag) ?_)))))))
 rintro _ u12 g13 rfl
 refine zza 10 (zB (!(decide (0 ≤ (k : Int) ∧ (k : Int) ≤ 256)))) (zqB 11 (show (!(decide (0 ≤ (k : Int) ∧ (k : Int) ≤ 256))) = false from (by rw [decide_eq_true xq]; rfl)) (zza 12 (zI q) ?_ (hw := w1 3 false 11)))
 refine zza 13 (zB (decide ((q : Int) < 1))) ?_ (hw := w1 3 false 11)
 refine zza 14 (zB (decide ((q : Int) < 1))) (zqB 15 (show (decide ((q : Int) < 1)) = false from decide_eq_false xq) (zza 16 (zI q) ?_ (hw := w1 7 false 15)))
 refine zza 17 (zB (decide ((1000 : Int) < (q : Int)))) ?_ (hw := w1 7 false 15)
 refine zza 18 (zB (decide ((1000 : Int) < (q : Int)))) (zqB 19 (show (decide ((1000 : Int) < (q : Int))) = false from decide_eq_false xq) (zza 20 (zI p) ?_ (hw := w1 11 false 19)))
 refine zza 21 (zB (decide (p < (-1000000)))) ?_ (hw := w1 11 false 19)
 refine zza 22 (zB (decide (p < (-1000000)))) (zqB 23 (show (decide (p < (-1000000))) = false from decide_eq_false xq) (zza 24 (zI p) ?_ (hw := w1 15 false 23)))
 refine zza 25 (zB (decide ((1000000 : Int) < p))) ?_ (hw := w1 15 false 23)
 refine zza 26 (zB (decide ((1000000 : Int) < p))) (zzb (zzt (b := decide ((1000000 : Int) < p)) xj (fun hb => ?_) (fun hb => ?_)))
 ·exact absurd hb (by rw [show (decide ((1000000 : Int) < p)) = false from decide_eq_false xq]; decide)
 clear hb
 refine zzr (zzo ?_)
 refine sq9 (zza 28 (zI p) (zza 29 (zI q) (zza 30 (zI k) (zzg 31 100 _ fun _ _ _ af => Post.mono (k_cosine (p := p) (q := q) (k := k) af xq xq hG xq xq xq) ?_))))
 rintro _ u24 g25 ⟨aa, ab, rfl, ad, ae⟩
 refine zzi ⟨32, aa.cs ++ ab.cs⟩ ty32 ?_
 refine zza 7 (zI 0) (zzb (zzn (ret0 [.agg #[.bool aa.s, aa.m.v, aa.d.v, .bool ab.s, ab.m.v, ab.d.v], .int .i64 0] ⟨zzq ty32 zze, zzp, trivial⟩ fun u27 ac => ?_)))
 exact ⟨aa, ab, rfl, RatN.more (ad.ext ac) xq, RatN.more (ae.ext ac) xq⟩
theorem k_SinPiG {u w : World} {p : Int} {q k : Nat} (d : Dat u w) (hq1 : 1 ≤ q) (hq2 : q ≤ 1000) (hp0 : -1000000 ≤ p) (hp1 : p ≤ 1000000) (hk : k ≤ 256) (hG : Nt.GapQ (2 * q) k) : Calls Tryz.prog 36 #[.int .i64 p, .int .i64 (q : Int), .int .i64 (k : Int)] w (Post u w fun v u' => ∃ r1 r2 : RL, v = .tuple #[IV r1 r2, .int .i64 0] ∧ RatN u' r1 ((Nt.cosV ((q : Int) - 2 * p) (2 * q) k).1) 80 ∧ RatN u' r2 ((Nt.cosV ((q : Int) - 2 * p) (2 * q) k).2) 80) := by
 refine zzl (args := [.int .i64 p, .int .i64 q, .int .i64 k]) Tryz.func36 rfl Tryz.ntmps36 (rs := [.cell 6 32, .tmp 7]) Tryz.results36 (le_b rfl) (le_b rfl) d ?_
 refine sq9 (zzj 6 ⟨32, zw6⟩ (zza 7 (zI 0) (zzb (zzd (sq9 (zza 8 (zI k) (zzg 9 77 _ fun _ _ _ ag => Post.mono (k_ePermitted (n := (k : Int)) ag) ?_)))))))
 rintro _ u12 g13 rfl
 refine zza 10 (zB (!(decide (0 ≤ (k : Int) ∧ (k : Int) ≤ 256)))) (zqB 11 (show (!(decide (0 ≤ (k : Int) ∧ (k : Int) ≤ 256))) = false from (by rw [decide_eq_true xq]; rfl)) (zza 12 (zI q) ?_ (hw := w1 3 false 11)))
 refine zza 13 (zB (decide ((q : Int) < 1))) ?_ (hw := w1 3 false 11)
 refine zza 14 (zB (decide ((q : Int) < 1))) (zqB 15 (show (decide ((q : Int) < 1)) = false from decide_eq_false xq) (zza 16 (zI q) ?_ (hw := w1 7 false 15)))
 refine zza 17 (zB (decide ((1000 : Int) < (q : Int)))) ?_ (hw := w1 7 false 15)
 refine zza 18 (zB (decide ((1000 : Int) < (q : Int)))) (zqB 19 (show (decide ((1000 : Int) < (q : Int))) = false from decide_eq_false xq) (zza 20 (zI p) ?_ (hw := w1 11 false 19)))
 refine zza 21 (zB (decide (p < (-1000000)))) ?_ (hw := w1 11 false 19)
 refine zza 22 (zB (decide (p < (-1000000)))) (zqB 23 (show (decide (p < (-1000000))) = false from decide_eq_false xq) (zza 24 (zI p) ?_ (hw := w1 15 false 23)))
 refine zza 25 (zB (decide ((1000000 : Int) < p))) ?_ (hw := w1 15 false 23)
 refine zza 26 (zB (decide ((1000000 : Int) < p))) (zzb (zzt (b := decide ((1000000 : Int) < p)) xj (fun hb => ?_) (fun hb => ?_)))
 ·exact absurd hb (by rw [show (decide ((1000000 : Int) < p)) = false from decide_eq_false xq]; decide)
 clear hb
 refine zzr (zzo ?_)
 refine sq9 (zza 28 (zI q) (zza 29 (zI p) (zyp 30 (x := zI (IntKind.i64.wrap ((2 : Int) * p))) (zI ((2 : Int) * p)) yv (zyp 31 (x := zI (IntKind.i64.wrap ((q : Int) - ((2 : Int) * p)))) (zI ((q : Int) - ((2 : Int) * p))) yv (zza 32 (zI q) (zyp 33 (x := zI (IntKind.i64.wrap ((2 : Int) * (q : Int)))) (zI (2 * q : Nat)) (eqI xk) (zza 34 (zI k) (zzg 35 100 _ fun _ _ _ af => Post.mono (k_cosine (p := (q : Int) - ((2 : Int) * p)) (q := 2 * q) (k := k) af xq xq hG xq xq xq) ?_))))))))
 rintro _ u24 g25 ⟨aa, ab, rfl, ad, ae⟩
 refine zzi ⟨32, aa.cs ++ ab.cs⟩ ty32 ?_
 refine zza 7 (zI 0) (zzc 36 [(6, .adr 6 0), (7, zI 0)] [(6, ⟨32, aa.cs ++ ab.cs⟩)] (zzn (ret0 [.agg #[.bool aa.s, aa.m.v, aa.d.v, .bool ab.s, ab.m.v, ab.d.v], .int .i64 0] ⟨zzq ty32 zze, zzp, trivial⟩ fun u27 ac => ?_)))
 exact ⟨aa, ab, rfl, RatN.more (ad.ext ac) xq, RatN.more (ae.ext ac) xq⟩
namespace Nt
theorem dl_pow (A : Nat) : ∀ n, dl (A ^ n) ≤ n * dl A + 1
 | 0 => by rw [Nat.pow_zero, dl_one]; omega
 | n + 1 => by
  have h1 := dl_pow A n
  have h2 := dl_mul (A ^ n) A
  rw [Nat.pow_succ, Nat.add_mul]; omega
theorem bitl_dl {N K : Nat} (h : dl N ≤ K) : bitl N ≤ 32 * K := by
 have h1 := dl_lt (x := N)
 rcases Nat.eq_zero_or_pos N with h0 | h0
 ·subst h0
  have : bitl 0 = 0 := rfl
  omega
 have h2 := bitl_le h0
 have h3 : pw (dl N) = ((2 ^ (32 * dl N) : Nat) : Int) := by
  generalize dl N = k
  induction k with
  | zero => rfl
  | succ k ih =>
   show 4294967296 * pw k = _
   rw [ih, show 32 * (k + 1) = 32 * k + 32 by omega, Nat.pow_add, Int.natCast_mul, Int.mul_comm]
   rfl
 rw [h3] at h1
 have h4 : N < 2 ^ (32 * dl N) := Int.ofNat_lt.1 h1
 have h5 : 2 ^ (bitl N - 1) < 2 ^ (32 * dl N) := by omega
 have h6 := (Nat.pow_lt_pow_iff_right (show 1 < 2 by decide)).1 h5
 omega
end Nt
section
variable {u u' w w' : World} {x y : Sl} {N M K L s : Nat}
theorem k_natCut (d : Dat u w) (h : NatV u x N K) (hK : K ≤ 500000000) : Calls Tryz.prog 149 #[x.v] w (Post u w fun v u' => ∃ y : Sl, v = y.v ∧ NatN u' y N K) := by
 have hs := h.size
 obtain ⟨a, a1, a2, a3, a4⟩ := h
 refine (zwj _ _ _ _ _ (a1.ext d.ext)).mono fun e w' ⟨he, hw⟩ => ?_
 subst hw
 have hst := Nt.zxs a2
 have e1 : (Nt.val a).toNat = N := by rw [a4]; exact Int.toNat_natCast N
 rw [e1] at hst
 have hle : (Nt.strip a).length ≤ x.n := by rw [← a1.1]; exact Nt.zyh a
 have hx := a1.upto (m := (Nt.strip a).length) hle
 rw [← Nt.strip_take, hst] at hx
 rw [hst] at he
 exact ⟨_, over u w, he, over_dat d (Below.refl _ _), Below.refl _ _, over_grow (by rw [d.size]; exact Nat.le_refl _), ⟨x.a, (Nt.digits N).length, x.c⟩, rfl, ⟨rfl, hx.ext (over_grow (by rw [d.size]; exact Nat.le_refl _)).ext, hs⟩⟩
theorem k_natRaise (d : Dat u w) (h1 : NatV u x N K) (hK : K ≤ 500000000) (hs : s ≤ 65536) : Calls Tryz.prog 151 #[x.v, .int .i64 (s : Int)] w (Post u w fun v u' => ∃ x : Sl, v = x.v ∧ NatN u' x (N * 2 ^ s) (K + s / 32 + 1)) := by
 have hs1 := h1.size
 obtain ⟨a, a1, a2, a3, a4⟩ := h1
 refine (raise_any _ _ _ _ _ _ (a1.ext d.ext) a2 xq hs).mono fun e w' ⟨A', n', c', h⟩ => ?_
 rw [a4] at h
 exact post_nat d (nat_fits h (by simp [Int.natCast_mul, Int.natCast_pow])) (Nt.dl_shift hs1)
theorem k_natBitLen (d : Dat u w) (h : NatV u x N K) (hK : K ≤ 500000000) : Calls Tryz.prog 150 #[x.v] w (Post u w fun v _ => v = .int .i64 ((Nt.bitl N : Nat) : Int)) := by
 obtain ⟨a, a1, a2, a3, a4⟩ := h
 refine (BitLen_any _ _ _ _ _ (a1.ext d.ext) a2 xq).mono fun e w' ⟨he, hw⟩ => ?_
 subst hw
 rw [a4, Int.toNat_natCast] at he
 exact post_below d he (Below.refl _ _)
theorem k_natDivide (d : Dat u w) (h1 : NatN u x N K) (h2 : NatN u y M L) (hM : 0 < M) (hK : K ≤ 500000000) (hL : L ≤ 500000000) : Calls Tryz.prog 153 #[x.v, y.v] w (Post u w fun v u' => ∃ x y : Sl, v = .tuple #[x.v, y.v] ∧ NatN u' x (N / M) K ∧ NatN u' y (N % M) L) := by
 have hp := h2.pos.2 hM
 obtain ⟨a1, a2, a3⟩ := h1
 obtain ⟨b1, b2, b3⟩ := h2
 refine (divide_any _ _ _ _ _ _ _ _ _ (a2.ext d.ext) (b2.ext d.ext) (Nt.zyj _) (Nt.zyj _) (Nt.zxm _) (Nt.zxm _) xq hp).mono fun e w' h => ?_
 rw [Nt.zyi, Nt.zyi] at h
 obtain ⟨A1, n1, c1, A2, n2, c2, rfl, f, g, hb⟩ := h
 rw [← Int.natCast_ediv, Int.toNat_natCast] at f
 rw [← Int.natCast_emod, Int.toNat_natCast] at g
 have hs : u.heap.size ≤ w'.heap.size := by rw [d.size]; exact hb.size
 exact ⟨_, over u w', rfl, over_dat d hb, hb, over_grow hs, ⟨A1, n1, c1⟩, ⟨A2, n2, c2⟩, rfl, over_nat f d.size hs (Nat.le_trans (Nt.dl_mono (Nat.div_le_self _ _)) a3), over_nat g d.size hs (Nat.le_trans (Nt.dl_mono (Nat.le_of_lt (Nat.mod_lt _ hM))) b3)⟩
end
theorem digit_data {u : World} {b D : Nat} (h : u.heap[b]? = some (.cells #[.int .u32 (D : Int)] 104 (0, 0))) (hD : D < 4294967296) : NatV u ⟨some ⟨b, 0, none⟩, 1, 1⟩ D 1 := by
 have hk : KBlk .u32 u b 104 [(D : Int)] := h
 exact ⟨[(D : Int)], hk.slr_all rfl (Nat.le_refl _) (show 1 ≤ maxLen by decide), Nt.Dig.cons xq Nt.Dig.nil, Nat.le_refl _, by simp [Nt.val]⟩
theorem digit_dataN {u : World} {b D : Nat} (h : u.heap[b]? = some (.cells #[.int .u32 (D : Int)] 104 (0, 0))) (hD : D < 4294967296) (h1 : 1 ≤ D) : NatN u ⟨some ⟨b, 0, none⟩, 1, 1⟩ D 1 := by
 have hk : KBlk .u32 u b 104 [(D : Int)] := h
 have e : Nt.digits D = [(D : Int)] := by
  have h1 : Nt.strip [(D : Int)] = [(D : Int)] := by simp [Nt.strip]; omega
  have h2 := Nt.zxs (l := [(D : Int)]) (Nt.Dig.cons xq Nt.Dig.nil)
  rw [h1] at h2
  have h3 : (Nt.val [(D : Int)]).toNat = D := by simp [Nt.val]
  rw [h3] at h2
  exact h2.symm
 have e2 : dl D = 1 := by unfold dl; rw [e]; rfl
 exact ⟨e2.symm, by rw [e]; exact hk.slr_all rfl (Nat.le_refl _) (show 1 ≤ maxLen by decide), by rw [e2]; exact Nat.le_refl _⟩
theorem NatN.fit {u : World} {x : Sl} {N K L : Nat} (h : NatN u x N K) (k : dl N ≤ L) : NatN u x N L := ⟨h.1, h.2.1, k⟩
namespace Nt
def PwI (A n m a r : Nat) : Prop := r * a ^ m = A ^ n ∧ (1 ≤ A → 1 ≤ a ∧ 1 ≤ r) ∧ (A = 0 → a = 0 ∧ r ≤ 1)
theorem PwI.start (A n : Nat) : PwI A n n A 1 := ⟨Nat.one_mul _, fun h => ⟨h, Nat.le_refl _⟩, fun h => ⟨h, Nat.le_refl _⟩⟩
theorem PwI.next {A n m a r a' r' : Nat} (h : PwI A n m a r) (hm : 1 ≤ m) (hr : m % 2 = 1 ∧ r' = r * a ∨ ¬ m % 2 = 1 ∧ r' = r) (ha : 1 ≤ m / 2 ∧ a' = a * a ∨ ¬ 1 ≤ m / 2 ∧ a' = a) : PwI A n (m / 2) a' r' := by
 obtain ⟨h1, h2, h3⟩ := h
 have hd := Nat.div_add_mod m 2
 refine ⟨?_, fun hA => ?_, fun hA => ?_⟩
 ·rw [← h1]
  have e : a' ^ (m / 2) = a ^ (2 * (m / 2)) := by
   rcases ha with ⟨_, rfl⟩ | ⟨h, rfl⟩
   ·rw [← Nat.pow_two, ← Nat.pow_mul]
   have : m / 2 = 0 := by omega
   rw [this]
  rw [e]
  rcases hr with ⟨ho, rfl⟩ | ⟨ho, rfl⟩
  ·have : m = 2 * (m / 2) + 1 := by omega
   conv => rhs; rw [this, Nat.pow_succ]
   rw [Nat.mul_assoc, Nat.mul_comm a]
  have : 2 * (m / 2) = m := by omega
  rw [this]
 ·obtain ⟨k1, k2⟩ := h2 hA
  have k3 := Nat.mul_le_mul k1 k1
  have k4 := Nat.mul_le_mul k2 k1
  rcases hr with ⟨_, rfl⟩ | ⟨_, rfl⟩ <;> rcases ha with ⟨_, rfl⟩ | ⟨_, rfl⟩ <;> omega
 obtain ⟨k1, k2⟩ := h3 hA
 subst k1
 rcases hr with ⟨_, rfl⟩ | ⟨_, rfl⟩ <;> rcases ha with ⟨_, rfl⟩ | ⟨_, rfl⟩ <;> simp <;> omega
theorem PwI.bd {A n m a r K : Nat} (h : PwI A n m a r) (hK : dl A ≤ K) : dl r ≤ n * K + 1 ∧ (1 ≤ m → dl a ≤ n * K + 1) := by
 obtain ⟨h1, h2, h3⟩ := h
 have hp := dl_pow A n
 have hk := Nat.mul_le_mul_left n hK
 rcases Nat.eq_zero_or_pos A with h0 | h0
 ·obtain ⟨k1, k2⟩ := h3 h0
  have := dl_mono k2
  rw [dl_one] at this
  subst k1
  rw [dl_zero]
  omega
 obtain ⟨k1, k2⟩ := h2 h0
 have e1 : r ≤ A ^ n := by
  rw [← h1]; exact Nat.le_mul_of_pos_right _ (Nat.pow_pos k1)
 have e2 : 1 ≤ m → a ≤ A ^ n := fun hm => by
  rw [← h1]
  refine Nat.le_trans ?_ (Nat.le_mul_of_pos_left _ k2)
  have := Nat.pow_le_pow_right k1 hm
  rwa [Nat.pow_one] at this
 have f1 := dl_mono e1
 exact ⟨by omega, fun hm => by have := dl_mono (e2 hm); omega⟩
theorem PwI.done {A n a r : Nat} (h : PwI A n 0 a r) : r = A ^ n := by have := h.1; rwa [Nat.pow_zero, Nat.mul_one] at this
end Nt
set_option maxHeartbeats 1000000 in
theorem k_natPower {u w : World} {x : Sl} {A n K : Nat} (d : Dat u w) (hx : NatN u x A K) (hn : n ≤ 64) (hK : K ≤ 1000000) : Calls Tryz.prog 154 #[x.v, .int .i64 (n : Int)] w (Post u w fun v u' => ∃ y : Sl, v = y.v ∧ NatN u' y (A ^ n) (n * K + K + 1)) := by
 have al : dl A ≤ K := hx.2.2
 have hnK : n * K ≤ 64 * 1000000 := Nat.mul_le_mul hn hK
 refine zzl (args := [x.v, .int .i64 n]) Tryz.func154 rfl Tryz.ntmps154 (rs := [.tmp 4]) Tryz.results154 (le_b rfl) (le_b rfl) d ?_
 refine sq9 (zza 4 (.v (.slice none 0 0)) (zzb (sq9 (zxw 6 ⟨104, [.int .u32 1]⟩ 1 (fun au aF aD aG => ?_)))))
 refine zza 5 (.v (.slice (some ⟨au, 0, none⟩) 1 1)) (zzb (zzd (zzs (zym (I := fun an S' u' => ∃ (m : Nat) (x1 : Sl) (y1 : Sl) (a : Nat) (r : Nat), (an = m) ∧ (Nt.PwI A n m a r) ∧ (m ≤ n) ∧ (S' = St.of 23 [(0, .v (x1.v)), (1, zI m), (5, .v (y1.v))] []) ∧ (Ext aF u') ∧ (NatN u' x1 a (n * K + K + 1)) ∧ (NatN u' y1 r (n * K + K + 1))) (fun m S u1 u2 e h => by obtain ⟨m, x1, y1, a, r, hm, p0, p1, hS, hE, f0, f1⟩ := h; exact ⟨m, x1, y1, a, r, hm, p0, p1, hS, hE.trans e, f0.ext e, f1.ext e⟩) _ yz ⟨n, x, (⟨some ⟨au, 0, none⟩, 1, 1⟩ : Sl), A, 1, rfl, (Nt.PwI.start A n), xq, rfl, (Ext.refl _), (NatN.fit (hx.ext aD) xq), (NatN.more (one_data aG) xq)⟩ ?_))))
 rintro an _ u15 ⟨m, x1, y1, a, r, aC, hI, hmn, rfl, ak, f0, f1⟩
 refine zzd (sq9 (zza 7 (zI m) (zza 8 (zB (decide ((0 : Int) < (m : Int)))) (zzb (zzt (b := decide ((0 : Int) < (m : Int))) xj (fun ae => ?_) (fun ae => ?_))))))
 ·have qhb16 := of_decide_eq_true ae
  refine zzr (zzo ?_)
  refine zzs (zzd (sq9 (zza 9 (zI m) (zza 10 (zI (Int.tmod (m : Int) 2)) (zza 11 (zB ((Int.tmod (m : Int) 2) == 1)) (zzb (zzt (b := (Int.tmod (m : Int) 2) == 1) xj (fun ag => ?_) (fun ag => ?_))))))))
  ·have ad : Int.tmod (m : Int) 2 = (m : Int) % 2 := Int.tmod_eq_emod_of_nonneg xq
   have aa :  m % 2 = 1 := by have h9 := ag; rw [ad] at h9; simp at h9; omega
   refine zzf (zza 12 (.v (y1.v)) (zza 13 (.v (x1.v)) (zzg 14 156 _ fun _ _ af aE => Post.mono (k_natMul aE (f1.ext af).raw (f0.ext af).raw xq xq) ?_)))
   rintro _ u21 ah ⟨am, rfl, ao⟩
   refine zza 5 (.v (am.v)) (zzb (sq9 (zza 15 (zI m) (sy_quo 16 (n := (m : Int)) (m := 2) ((m / 2 : Nat) : Int) xw (by rw [Int.tdiv_eq_ediv_of_nonneg xq]; exact (IntWalk.i64_in _ xq).trans xq) ?_))))
   refine zza 1 (zI (m / 2 : Nat)) (zzb (sq9 (zza 17 (zI (m / 2 : Nat)) (zza 18 (zB (decide ((0 : Int) < ((m / 2 : Nat) : Int)))) (zzb (zzt (b := decide ((0 : Int) < ((m / 2 : Nat) : Int))) xj (fun ab => ?_) (fun ab => ?_)))))))
   ·have qhb24 := of_decide_eq_true ab
    refine zzf (zza 19 (.v (x1.v)) (zza 20 (.v (x1.v)) (zzg 21 156 _ fun _ _ ai aB => Post.mono (k_natMul aB (f0.ext (af.t (ah.t ai))).raw (f0.ext (af.t (ah.t ai))).raw xq xq) ?_)))
    rintro _ u28 ap ⟨av, rfl, aA⟩
    refine zza 0 (.v (av.v)) (zzw ?_)
    have hnx := hI.next xq (.inl ⟨aa, rfl⟩) (.inl ⟨by have h9 := of_decide_eq_true ab; omega, rfl⟩)
    have hbd := hnx.bd al
    have hbd1 := hbd.1
    refine ⟨_, ?_, _, by exact zzu _ _ _, m / 2, av, am, (a * a), (r * a), rfl, hnx, xq, rfl, (ak.t (af.t (ah.t (ai.t ap.ext)))), (NatN.fit aA (by have h9 := hbd.2 (by have h9 := of_decide_eq_true ab; omega); omega)), (NatN.fit (ao.ext (ai.t ap.ext)) xq)⟩
    omega
   have qhb24 := of_decide_eq_false ab
   refine zzr ?_
   have hnx := hI.next xq (.inl ⟨aa, rfl⟩) (.inr ⟨by have h9 := of_decide_eq_false ab; omega, rfl⟩)
   have hbd := hnx.bd al
   have hbd1 := hbd.1
   refine ⟨_, ?_, _, by exact zzu _ _ _, m / 2, x1, am, a, (r * a), rfl, hnx, xq, rfl, (ak.t (af.t ah.ext)), (f0.ext (af.t ah.ext)), (NatN.fit ao xq)⟩
   omega
  have ad : Int.tmod (m : Int) 2 = (m : Int) % 2 := Int.tmod_eq_emod_of_nonneg xq
  have aa : ¬ m % 2 = 1 := by have h9 := ag; rw [ad] at h9; simp at h9; omega
  refine zzr (zzo ?_)
  refine sq9 (zza 15 (zI m) (sy_quo 16 (n := (m : Int)) (m := 2) ((m / 2 : Nat) : Int) xw (by rw [Int.tdiv_eq_ediv_of_nonneg xq]; exact (IntWalk.i64_in _ xq).trans xq) ?_))
  refine zza 1 (zI (m / 2 : Nat)) (zzb (sq9 (zza 17 (zI (m / 2 : Nat)) (zza 18 (zB (decide ((0 : Int) < ((m / 2 : Nat) : Int)))) (zzb (zzt (b := decide ((0 : Int) < ((m / 2 : Nat) : Int))) xj (fun ac => ?_) (fun ac => ?_)))))))
  ·have qhb31 := of_decide_eq_true ac
   refine zzf (zza 19 (.v (x1.v)) (zza 20 (.v (x1.v)) (zzg 21 156 _ fun _ _ aj ay => Post.mono (k_natMul ay (f0.ext aj).raw (f0.ext aj).raw xq xq) ?_)))
   rintro _ u35 ar ⟨aq, rfl, ax⟩
   refine zza 0 (.v (aq.v)) (zzw ?_)
   have hnx := hI.next xq (.inr ⟨aa, rfl⟩) (.inl ⟨by have h9 := of_decide_eq_true ac; omega, rfl⟩)
   have hbd := hnx.bd al
   have hbd1 := hbd.1
   refine ⟨_, ?_, _, by exact zzu _ _ _, m / 2, aq, y1, (a * a), r, rfl, hnx, xq, rfl, (ak.t (aj.t ar.ext)), (NatN.fit ax (by have h9 := hbd.2 (by have h9 := of_decide_eq_true ac; omega); omega)), (NatN.fit (f1.ext (aj.t ar.ext)) xq)⟩
   omega
  have qhb31 := of_decide_eq_false ac
  refine zzr ?_
  have hnx := hI.next xq (.inr ⟨aa, rfl⟩) (.inr ⟨by have h9 := of_decide_eq_false ac; omega, rfl⟩)
  have hbd := hnx.bd al
  have hbd1 := hbd.1
  refine ⟨_, ?_, _, by exact zzu _ _ _, m / 2, x1, y1, a, r, rfl, hnx, xq, rfl, ak, f0, (NatN.fit f1 xq)⟩
  omega
 have qhb16 := of_decide_eq_false ae
 refine zyb (zzo (sq9 (zza 22 (.v (y1.v)) (zza 4 (.v (y1.v)) (zzb (zzn (ret0 [y1.v] ⟨zzp, trivial⟩ fun u38 aw => ?_)))))))
 have az : m = 0 := by have h9 := of_decide_eq_false ae; omega
 subst az
 have hd := hI.done
 subst hd
 exact ⟨y1, rfl, (f1.ext aw)⟩
set_option maxHeartbeats 2000000 in
theorem k_natRoot {u w : World} {x : Sl} {N n K : Nat} (d : Dat u w) (hx : NatV u x N K) (hn1 : 1 ≤ n) (hn : n ≤ 64) (hK : K ≤ 1000) : Calls Tryz.prog 81 #[x.v, .int .i64 (n : Int)] w (Post u w fun v u' => ∃ y : Sl, v = .tuple #[y.v, .int .i64 0] ∧ NatN u' y (Nt.irt n N) (K + 3)) := by
 have hB : Nt.bitl N ≤ 32 * K := Nt.bitl_dl hx.size
 have hdv := Nat.div_le_self (Nt.bitl N + n - 1) n
 obtain ⟨s, hs⟩ : ∃ s, (Nt.bitl N + n - 1) / n = s := ⟨_, rfl⟩
 rw [hs] at hdv
 have hnK : (n - 1) * (K + 3) ≤ 64 * 1003 := Nat.mul_le_mul xq xq
 refine zzl (args := [x.v, .int .i64 n]) Tryz.func81 rfl Tryz.ntmps81 (rs := [.tmp 4, .tmp 5]) Tryz.results81 (le_b rfl) (le_b rfl) d ?_
 refine sq9 (zza 4 (.v (.slice none 0 0)) (zza 5 (zI 0) (zzb (zzd (sq9 (zza 12 (zI n) (zza 13 (zB (decide ((n : Int) < 1))) (zqB 14 (show (decide ((n : Int) < 1)) = false from decide_eq_false xq) (zza 15 (zI n) ?_ (hw := w1 2 false 14))))))))))
 refine zza 16 (zB (decide ((64 : Int) < (n : Int)))) ?_ (hw := w1 2 false 14)
 refine zza 17 (zB (decide ((64 : Int) < (n : Int)))) (zzb (zzt (b := decide ((64 : Int) < (n : Int))) xj (fun hb => ?_) (fun hb => ?_)))
 ·exact absurd hb (by rw [show (decide ((64 : Int) < (n : Int))) = false from decide_eq_false xq]; decide)
 clear hb
 refine zzr (zzo ?_)
 refine sq9 (zza 18 (.v (x.v)) (zzg 19 149 _ fun _ _ aY aN => Post.mono (k_natCut aN (hx.ext aY) xq) ?_))
 rintro _ u15 g16 ⟨ac, rfl, ar⟩
 refine zza 6 (.v (ac.v)) (zzb (zzd (sq9 (zza 20 (.v (ac.v)) (zza 21 (zI ac.n) (zza 22 (zB ((ac.n : Int) == 0)) (zzb (zzt (b := (ac.n : Int) == 0) xj (fun aa => ?_) (fun aa => ?_)))))))))
 ·have am : (ac.n : Int) = 0 := by simpa using aa
  have a2 : N = 0 := by have h9 := aa; simp at h9; have h8 := ar.pos; omega
  refine sq9 (zza 4 (.v (.slice none 0 0)) (zza 5 (zI 0) (zzb (zzn (zzv (ret0 [.slice none 0 0, .int .i64 0] ⟨zzp, zzp, trivial⟩ fun u19 e20 => ?_))))))
  subst a2
  exact ⟨⟨none, 0, 0⟩, rfl, nat_nilN _ _⟩
 have am : ¬ ((ac.n : Int) = 0) := by simpa using aa
 have hNp : 1 ≤ N := by have h9 := aa; simp at h9; have h8 := ar.pos; omega
 refine zzr (zzo ?_)
 refine sq9 (zxw 23 ⟨104, [.int .u32 1]⟩ 1 (fun b21 u22 aD aX => ?_))
 refine zza 24 (.v (ac.v)) (zzg 25 150 _ fun _ _ ay aV => Post.mono (k_natBitLen aV (ar.ext (aD.trans ay)).raw xq) ?_)
 rintro _ u26 aC rfl
 refine zza 26 (zI n) (zyp 27 (x := zI (IntKind.i64.wrap (((Nt.bitl N : Nat) : Int) + (n : Int)))) (zI (((Nt.bitl N) + n : Nat) : Int)) (eqI xk) (zyp 28 (x := zI (IntKind.i64.wrap ((((Nt.bitl N) + n : Nat) : Int) - 1))) (zI ((((Nt.bitl N) + n) - 1 : Nat) : Int)) (eqI xk) (zza 29 (zI n) (sy_quo 30 (n := ((Nt.bitl N + n - 1 : Nat) : Int)) (m := (n : Int)) ((s : Nat) : Int) xq (by rw [Int.tdiv_eq_ediv_of_nonneg xq, ← Int.natCast_ediv, hs]; exact IntWalk.i64_in _ xq) ?_))))
 refine zzg 31 151 _ fun _ _ aH aQ => Post.mono (k_natRaise (s := s) aQ ((one_data aX).ext (ay.t (aC.t aH))).raw xq xq) ?_
 rintro _ au aS ⟨aB, rfl, a1⟩
 refine zza 7 (.v (aB.v)) (zzb (zzs (zym (I := fun aG S' u' => ∃ (r : Nat) (y1 : Sl), (aG = r) ∧ (Nt.irt n N ≤ r) ∧ (1 ≤ r) ∧ (S' = St.of 62 [(1, zI n), (6, .v (ac.v)), (7, .v (y1.v))] []) ∧ (Ext au u') ∧ (NatN u' y1 r (K + 3))) (fun m S u1 u2 e h => by obtain ⟨r, y1, hm, p0, p1, hS, hE, f0⟩ := h; exact ⟨r, y1, hm, p0, p1, hS, hE.trans e, f0.ext e⟩) _ yz ⟨(1 * 2 ^ s), aB, rfl, (by rw [Nat.one_mul, ← hs]; exact Nt.newton_start hn1 (Nt.bitl_lt N)), (by rw [Nat.one_mul]; exact Nat.pow_pos xw), rfl, (Ext.refl _), (NatN.more a1 xq)⟩ ?_)))
 rintro aG _ u35 ⟨r, y1, aJ, hI, h1, rfl, aE, f0⟩
 refine zzs (sq9 (zza 33 (.v (ac.v)) (zza 34 (.v (y1.v)) (zza 35 (zI n) (zyp 36 (x := zI (IntKind.i64.wrap ((n : Int) - 1))) (zI (n - 1 : Nat)) (eqI xk) (zzg 37 154 _ fun _ _ af aW => Post.mono (k_natPower (n := n - 1) aW (f0.ext af) xq xq) ?_))))))
 rintro _ u39 ak ⟨x37, rfl, aR⟩
 refine zzg 38 153 _ fun _ _ ae aM => Post.mono (k_natDivide aM (ar.ext (aD.t (ay.t (aC.t (aH.t (aS.t (aE.t (af.t (ak.t ae))))))))) (aR.ext ae) (Nat.pow_pos h1) xq xq) ?_
 rintro _ u47 ap ⟨al, ax, rfl, aO, h46⟩
 refine zza 32 (.v (.tuple #[al.v, ax.v])) (zza 39 (.v (al.v)) (zza 40 (.v (ax.v)) (zza 8 (.v (al.v)) (zza 9 (.v (ax.v)) (zzc 62 [(1, zI n), (6, .v (ac.v)), (7, .v (y1.v)), (8, .v (al.v))] [] (sq9 (zza 42 (.v (y1.v)) (zza 43 (zI n) (zyp 44 (x := zI (IntKind.i64.wrap ((n : Int) - 1))) (zI (n - 1 : Nat)) (eqI xk) (sy_conv 45 ((n - 1 : Nat) : Int) (fun w => by kernel_rfl) (IntWalk.u32_in _ xq) ?_))))))))))
 refine zxw 46 ⟨104, [.int .u32 (n - 1 : Nat)]⟩ 1 (fun b50 u51 an aK => ?_)
 refine zzg 47 156 _ fun _ _ ag aT => Post.mono (k_natMul aT (f0.ext (af.t (ak.t (ae.t (ap.t (an.trans ag)))))).raw ((digit_data (D := n - 1) aK xq).ext ag) xq xq) ?_
 rintro _ u57 aq ⟨x55, rfl, a0⟩
 refine zza 48 (.v (al.v)) (zzg 49 155 _ fun _ _ ai aZ => Post.mono (k_natAdd aZ (a0.ext ai).raw (aO.ext (an.t (ag.t (aq.t ai)))).raw xq xq) ?_)
 rintro _ u63 az ⟨x61, rfl, a3⟩
 refine zza 50 (zI n) (sy_conv 51 ((n : Nat) : Int) (fun w => by kernel_rfl) (IntWalk.u32_in _ xq) ?_)
 refine zxw 52 ⟨104, [.int .u32 (n : Nat)]⟩ 1 (fun b66 u67 ao aP => ?_)
 refine zzg 53 153 _ fun _ _ ah aI => Post.mono (k_natDivide aI (a3.ext (ao.trans ah)) ((digit_dataN (D := n) aP xq xq).ext ah) xq xq xq) ?_
 rintro _ u75 aA ⟨ad, aw, rfl, aF, h74⟩
 refine zza 41 (.v (.tuple #[ad.v, aw.v])) (zza 54 (.v (ad.v)) (zza 55 (.v (aw.v)) (zza 10 (.v (ad.v)) (zza 11 (.v (aw.v)) (zzb (zzd (sq9 (zza 56 (.v (ad.v)) (zza 57 (.v (y1.v)) (zzg 58 83 _ fun _ _ aj aL => Post.mono (k_natCompare aL (aF.ext aj).raw (f0.ext (af.t (ak.t (ae.t (ap.t (an.t (ag.t (aq.t (ai.t (az.t (ao.t (ah.t (aA.t aj))))))))))))).raw) ?_))))))))))
 rintro _ u79 av rfl
 refine zza 59 (zB (decide ((0 : Int) ≤ (Nt.cmpS (((((r * (n - 1)) + (N / (r ^ (n - 1)))) / n) : Nat) : Int) ((r : Nat) : Int))))) (zzb (zzt (b := decide ((0 : Int) ≤ (Nt.cmpS (((((r * (n - 1)) + (N / (r ^ (n - 1)))) / n) : Nat) : Int) ((r : Nat) : Int)))) xj (fun ab => ?_) (fun ab => ?_)))
 ·have qhb82 := of_decide_eq_true ab
  have ehb82 := ab
  rw [Nt.cmp_geN] at ehb82
  have qnhb82 := of_decide_eq_true ehb82
  refine sq9 (zza 60 (.v (y1.v)) (zza 4 (.v (y1.v)) (zza 5 (zI 0) (zzb (zzn (zzv (zyt (zys (zyt (ret0 [y1.v, .int .i64 0] ⟨zzp, zzp, trivial⟩ fun u83 aU => ?_))))))))))
  have hd := Nt.nw_done hn1 hI qnhb82
  subst hd
  exact ⟨y1, rfl, (f0.ext (af.t (ak.t (ae.t (ap.t (an.t (ag.t (aq.t (ai.t (az.t (ao.t (ah.t (aA.t (aj.t (av.t aU)))))))))))))))⟩
 have qhb82 := of_decide_eq_false ab
 have ehb82 := ab
 rw [Nt.cmp_geN] at ehb82
 have qnhb82 := Nat.lt_of_not_le (of_decide_eq_false ehb82)
 refine zzr (zzo ?_)
 refine zzf (zza 61 (.v (ad.v)) (zza 7 (.v (ad.v)) (zzw ?_)))
 refine ⟨_, ?_, _, by exact zzu _ _ _, (((r * (n - 1)) + (N / (r ^ (n - 1)))) / n), ad, rfl, (Nt.nw_ge hn1 h1), (Nat.le_trans (Nt.irt_pos hn1 hNp) (Nt.nw_ge hn1 h1)), rfl, (aE.t (af.t (ak.t (ae.t (ap.t (an.t (ag.t (aq.t (ai.t (az.t (ao.t (ah.t (aA.t (aj.t av.ext)))))))))))))), (NatN.fit (aF.ext (aj.t av.ext)) (Nat.le_trans (Nt.dl_mono (Nat.le_of_lt qnhb82)) f0.2.2))⟩
 omega
theorem k_natPow {u w : World} {x : Sl} {A n K : Nat} (d : Dat u w) (hx : NatN u x A K) (hn : n ≤ 64) (hK : K ≤ 1000000) : Calls Tryz.prog 82 #[x.v, .int .i64 (n : Int)] w (Post u w fun v u' => ∃ y : Sl, v = .tuple #[y.v, .int .i64 0] ∧ NatN u' y (A ^ n) (n * K + K + 1)) := by
 refine zzl (args := [x.v, .int .i64 n]) Tryz.func82 rfl Tryz.ntmps82 (rs := [.tmp 4, .tmp 5]) Tryz.results82 (le_b rfl) (le_b rfl) d ?_
 refine sq9 (zza 4 (.v (.slice none 0 0)) (zza 5 (zI 0) (zzb (zzd (sq9 (zza 6 (zI n) (zza 7 (zB (decide ((n : Int) < 0))) (zqB 8 (show (decide ((n : Int) < 0)) = false from decide_eq_false xq) (zza 9 (zI n) ?_ (hw := w1 2 false 8))))))))))
 refine zza 10 (zB (decide ((64 : Int) < (n : Int)))) ?_ (hw := w1 2 false 8)
 refine zza 11 (zB (decide ((64 : Int) < (n : Int)))) (zzb (zzt (b := decide ((64 : Int) < (n : Int))) xj (fun hb => ?_) (fun hb => ?_)))
 ·exact absurd hb (by rw [show (decide ((64 : Int) < (n : Int))) = false from decide_eq_false xq]; decide)
 clear hb
 refine zzr (zzo ?_)
 refine sq9 (zza 12 (.v (x.v)) (zza 13 (zI n) (zzg 14 154 _ fun _ _ ae ad => Post.mono (k_natPower (n := n) ad (hx.ext ae) xq xq) ?_)))
 rintro _ u15 g16 ⟨aa, rfl, ab⟩
 refine zza 4 (.v (aa.v)) (zza 5 (zI 0) (zzb (zzn (ret0 [aa.v, .int .i64 0] ⟨zzp, zzp, trivial⟩ fun u18 ac => ?_))))
 exact ⟨aa, rfl, (ab.ext ac)⟩
theorem Nt.rtH_of {q : Rat} {n k : Nat} (h : q.num.natAbs * 2 ^ (n * k) % q.den = 0) : Nt.rtH q n k = if (Nt.cmpS ((Nt.rtN q n k ^ n : Nat) : Int) ((Nt.rtD q n k : Nat) : Int) == 0) = true then (Nt.rtN q n k : Int) else (Nt.rtN q n k : Int) + 1 := by
 unfold Nt.rtH
 by_cases h1 : Nt.rtN q n k ^ n = Nt.rtD q n k
 ·rw [if_pos ⟨h, h1⟩, if_pos (by rw [Nt.cmp_eq (congrArg _ h1)]; rfl)]
 rw [if_neg (fun h2 => h1 h2.2), if_neg ?_]
 intro h2
 rcases Nt.cmp_range ((Nt.rtN q n k ^ n : Nat) : Int) ((Nt.rtD q n k : Nat) : Int) with ⟨e, h3⟩ | ⟨e, h3⟩ | ⟨e, h3⟩
 ·rw [e] at h2; exact absurd h2 xw
 ·exact h1 (Int.ofNat_inj.1 h3)
 rw [e] at h2; exact absurd h2 xw
set_option maxHeartbeats 2000000 in
theorem k_RootG {u w : World} {r : RL} {q : Rat} {K n k : Nat} (d : Dat u w) (hr : RatV u r q K) (hq0 : 0 ≤ q) (hn1 : 1 ≤ n) (hn : n ≤ 64) (hk : k ≤ 256) (hK : K ≤ 100) : Calls Tryz.prog 20 #[r.v, .int .i64 (n : Int), .int .i64 (k : Int)] w (Post u w fun v u' => ∃ r1 r2 : RL, v = .tuple #[IV r1 r2, .int .i64 0] ∧ RatN u' r1 (Nt.gr k (Nt.rtN q n k : Int)) 1000 ∧ RatN u' r2 (Nt.gr k (Nt.rtH q n k)) 1000) := by
 have hnk : n * k ≤ 64 * 256 := Nat.mul_le_mul hn hk
 refine zzl (args := [r.v, .int .i64 n, .int .i64 k]) Tryz.func20 rfl Tryz.ntmps20 (rs := [.cell 6 32, .tmp 7]) Tryz.results20 (le_b rfl) (le_b rfl) d ?_
 refine sq9 (zzj 3 ⟨26, r.cs⟩ (zzj 6 ⟨32, zw6⟩ (zza 7 (zI 0) (zzb (zzd (sq9 (zzh 17 (.v (r.v)) ty26 zze (zzg 18 76 _ fun _ _ az aZ => Post.mono (k_ratSign aZ (hr.ext az)) ?_))))))))
 rintro _ u12 aK rfl
 refine zza 19 (zB (decide ((Nt.sgQ q) < 0))) (zqB 20 (show (decide ((Nt.sgQ q) < 0)) = false from decide_eq_false (Nt.sgQ_nn hq0)) (zza 21 (zI k) ?_ (hw := w1 3 false 20)))
 refine zzg 22 77 _ (fun _ _ aJ aS => Post.mono (k_ePermitted (n := (k : Int)) aS) ?_) (hw := w1 3 false 20)
 rintro _ u17 aU rfl
 refine zza 23 (zB (!(decide (0 ≤ (k : Int) ∧ (k : Int) ≤ 256)))) ?_ (hw := w1 3 false 20)
 refine zza 24 (zB (!(decide (0 ≤ (k : Int) ∧ (k : Int) ≤ 256)))) (zqB 25 (show (!(decide (0 ≤ (k : Int) ∧ (k : Int) ≤ 256))) = false from (by rw [decide_eq_true xq]; rfl)) (zza 26 (zI n) ?_ (hw := w1 8 false 25)))
 refine zza 27 (zB (decide ((n : Int) < 1))) ?_ (hw := w1 8 false 25)
 refine zza 28 (zB (decide ((n : Int) < 1))) (zqB 29 (show (decide ((n : Int) < 1)) = false from decide_eq_false xq) (zza 30 (zI n) ?_ (hw := w1 12 false 29)))
 refine zza 31 (zB (decide ((64 : Int) < (n : Int)))) ?_ (hw := w1 12 false 29)
 refine zza 32 (zB (decide ((64 : Int) < (n : Int)))) (zzb (zzt (b := decide ((64 : Int) < (n : Int))) xj (fun hb => ?_) (fun hb => ?_)))
 ·exact absurd hb (by rw [show (decide ((64 : Int) < (n : Int))) = false from decide_eq_false xq]; decide)
 clear hb
 refine zzr (zzo ?_)
 refine sq9 (zzh 34 (.v (r.v)) ty26 zze (zzg 35 78 _ fun _ _ aD aE => Post.mono (k_ratTrim aE (hr.ext (az.t (aK.t (aJ.t (aU.t aD))))) xq) ?_))
 rintro _ u25 g26 ⟨al, rfl, av⟩
 refine zzi ⟨26, al.cs⟩ ty26 ?_
 refine zzb (sq9 (zza 36 (.adr 3 0) (zza 37 (.adr 3 1) (zzh 38 (.v (al.m.v)) ty22 zzk (zza 39 (zI n) (zza 40 (zI k) (zyp 41 (x := zI (IntKind.i64.wrap ((n : Int) * (k : Int)))) (zI (n * k : Nat)) (eqI (by rw [← Int.natCast_mul]; exact IntWalk.i64_in _ xq)) (zzg 42 79 _ fun _ _ aq aG => Post.mono (k_natShift (s := n * k) aG ((int_mag (RatN.num av)).ext aq).raw xq xq) ?_))))))))
 rintro _ u31 aF ⟨au, rfl, aR⟩
 refine zza 8 (.v (au.v)) (zzb (sq9 (zza 44 (.v (au.v)) (zza 45 (.adr 3 2) (zzh 46 (.v (al.d.v)) ty22 zzk (zzg 47 80 _ fun _ _ ax aY => Post.mono (k_natDivMod aY (aR.ext ax).raw ((RatN.den av).ext (aq.t (aF.t ax))).raw q.den_pos xq xq) ?_))))))
 rintro _ u39 g40 ⟨ag, aa, rfl, aw, ay⟩
 refine zza 43 (.v (.tuple #[ag.v, aa.v, .int .i64 0])) (zza 48 (.v (ag.v)) (zza 49 (.v (aa.v)) (zza 50 (zI 0) (zza 9 (.v (ag.v)) (zza 10 (.v (aa.v)) (zza 11 (zI 0) (zzc 77 [(1, zI n), (2, zI k), (6, .adr 6 0), (9, .v (ag.v)), (10, .v (aa.v))] [(6, ⟨32, zw6⟩)] (sq9 (zza 52 (.v (ag.v)) (zza 53 (zI n) (zzg 54 81 _ fun _ _ ap aV => Post.mono (k_natRoot (n := n) aV (aw.ext ap).raw xq xq xq) ?_)))))))))))
 rintro _ u45 aL ⟨ab, rfl, ak⟩
 refine zza 51 (.v (.tuple #[ab.v, .int .i64 0])) (zza 55 (.v (ab.v)) (zza 56 (zI 0) (zza 12 (.v (ab.v)) (zza 13 (zI 0) (zzb (sq9 (zza 58 (.v (ab.v)) (zza 59 (zI n) (zzg 60 82 _ fun _ _ aj aA => Post.mono (k_natPow (n := n) aA (ak.ext aj) xq xq) ?_)))))))))
 rintro _ u51 an ⟨ai, rfl, aP⟩
 refine zza 57 (.v (.tuple #[ai.v, .int .i64 0])) (zza 61 (.v (ai.v)) (zza 62 (zI 0) (zza 14 (.v (ai.v)) (zza 15 (zI 0) (zzb (sq9 (zza 63 (.v (aa.v)) (zza 64 (zI aa.n) (zza 65 (zB ((aa.n : Int) == 0)) ?_)))))))))
 rcases Bool.eq_false_or_eq_true ((aa.n : Int) == 0) with hs54 | hs54
 ·refine zyp 66 (x := zB ((aa.n : Int) == 0)) (zB true) (by rw [hs54]) ?_
  have ah : (aa.n : Int) = 0 := by simpa using hs54
  refine zza 67 (.v (ai.v)) ?_ (hw := w1 3 true 66)
  refine zza 68 (.v (ag.v)) ?_ (hw := w1 3 true 66)
  refine zzg 69 83 _ (fun _ _ am aX => Post.mono (k_natCompare aX (aP.ext am).raw (aw.ext (ap.t (aL.t (aj.t (an.t am))))).raw) ?_) (hw := w1 3 true 66)
  rintro _ u56 aW rfl
  refine zza 70 (zB ((Nt.cmpS ((((Nt.irt n ((((q.num : Int).natAbs) * 2 ^ (n * k)) / q.den)) ^ n) : Nat) : Int) ((((((q.num : Int).natAbs) * 2 ^ (n * k)) / q.den) : Nat) : Int)) == 0)) ?_ (hw := w1 3 true 66)
  refine zza 71 (zB ((Nt.cmpS ((((Nt.irt n ((((q.num : Int).natAbs) * 2 ^ (n * k)) / q.den)) ^ n) : Nat) : Int) ((((((q.num : Int).natAbs) * 2 ^ (n * k)) / q.den) : Nat) : Int)) == 0)) (zza 16 (zB ((Nt.cmpS ((((Nt.irt n ((((q.num : Int).natAbs) * 2 ^ (n * k)) / q.den)) ^ n) : Nat) : Int) ((((((q.num : Int).natAbs) * 2 ^ (n * k)) / q.den) : Nat) : Int)) == 0)) (zzb (sq9 (zza 72 (.v (ab.v)) (zza 73 (.v (.agg #[.bool false, ab.v])) (zza 74 (zB ((Nt.cmpS ((((Nt.irt n ((((q.num : Int).natAbs) * 2 ^ (n * k)) / q.den)) ^ n) : Nat) : Int) ((((((q.num : Int).natAbs) * 2 ^ (n * k)) / q.den) : Nat) : Int)) == 0)) (zza 75 (zI k) (zzg 76 84 _ fun _ _ aC aH => Post.mono (k_betweenB (k := k) (e := (Nt.cmpS ((((Nt.irt n ((((q.num : Int).natAbs) * 2 ^ (n * k)) / q.den)) ^ n) : Nat) : Int) ((((((q.num : Int).natAbs) * 2 ^ (n * k)) / q.den) : Nat) : Int)) == 0) aH (nat_intN (ak.ext (aj.t (an.t (am.t (aW.t aC)))))) xq xq xq) ?_))))))))
  rintro _ u64 g65 ⟨af, ae, rfl, aM, aN⟩
  refine zzi ⟨32, af.cs ++ ae.cs⟩ ty32 ?_
  refine zza 7 (zI 0) (zzc 77 [(6, .adr 6 0), (7, zI 0)] [(6, ⟨32, af.cs ++ ae.cs⟩)] (zzn (ret0 [.agg #[.bool af.s, af.m.v, af.d.v, .bool ae.s, ae.m.v, ae.d.v], .int .i64 0] ⟨zzq ty32 zze, zzp, trivial⟩ fun u67 ao => ?_)))
  have hps := ay.pos
  have aI : q.num.natAbs * 2 ^ (n * k) % q.den = 0 := by have h8 := hs54; simp at h8; omega
  have he := Nt.rtH_of aI
  exact ⟨af, ae, rfl, RatN.more (aM.ext ao) xq, by rw [he]; exact RatN.more (aN.ext ao) xq⟩
 refine zyp 66 (x := zB ((aa.n : Int) == 0)) (zB false) (by rw [hs54]) ?_
 have ah : ¬ ((aa.n : Int) = 0) := by simpa using hs54
 refine zzm 67 (uw 3 true false 66) (zzm 68 (uw 3 true false 66) (zzm 69 (uw 3 true false 66) (zzm 70 (uw 3 true false 66) (zza 71 (zB false) (zza 16 (zB false) (zzb (sq9 (zza 72 (.v (ab.v)) (zza 73 (.v (.agg #[.bool false, ab.v])) (zza 74 (zB false) (zza 75 (zI k) ?_)))))))))))
 refine zzg 76 84 _ fun _ _ aB aQ => Post.mono (k_betweenN (k := k) aQ (nat_intN (ak.ext (aj.t (an.t aB)))) xq xq xq) ?_
 rintro _ u74 g75 ⟨ac, ad, rfl, aO, aT⟩
 refine zzi ⟨32, ac.cs ++ ad.cs⟩ ty32 ?_
 refine zza 7 (zI 0) (zzc 77 [(6, .adr 6 0), (7, zI 0)] [(6, ⟨32, ac.cs ++ ad.cs⟩)] (zzn (ret0 [.agg #[.bool ac.s, ac.m.v, ac.d.v, .bool ad.s, ad.m.v, ad.d.v], .int .i64 0] ⟨zzq ty32 zze, zzp, trivial⟩ fun u77 ar => ?_)))
 have hps := ay.pos
 have hx : ¬ Nt.rtX q n k := fun h9 => by have h8 := hs54; simp at h8; have h7 := h9.1; omega
 have he : Nt.rtH q n k = _ := if_neg hx
 exact ⟨ac, ad, rfl, RatN.more (aO.ext ar) xq, by rw [he]; exact RatN.more (aT.ext ar) xq⟩
theorem k_SqrtG {u w : World} {r : RL} {q : Rat} {K k : Nat} (d : Dat u w) (hr : RatV u r q K) (hq0 : 0 ≤ q) (hk : k ≤ 256) (hK : K ≤ 100) : Calls Tryz.prog 18 #[r.v, .int .i64 (k : Int)] w (Post u w fun v u' => ∃ r1 r2 : RL, v = .tuple #[IV r1 r2, .int .i64 0] ∧ RatN u' r1 (Nt.gr k (Nt.rtN q 2 k : Int)) 1000 ∧ RatN u' r2 (Nt.gr k (Nt.rtH q 2 k)) 1000) := by
 refine zzl (args := [r.v, .int .i64 k]) Tryz.func18 rfl Tryz.ntmps18 (rs := [.cell 4 32, .tmp 5]) Tryz.results18 (le_b rfl) (le_b rfl) d ?_
 refine sq9 (zzj 2 ⟨26, r.cs⟩ (zzj 4 ⟨32, zw6⟩ (zza 5 (zI 0) (zzb (sq9 (zzh 6 (.v (r.v)) ty26 zze (zza 7 (zI k) (zzg 8 20 _ fun _ _ ae ag => Post.mono (k_RootG (n := 2) (k := k) ag (hr.ext ae) hq0 xq xq xq xq) ?_))))))))
 rintro _ u16 g17 ⟨aa, ab, rfl, ad, af⟩
 refine zza 9 (.v (.agg #[.bool aa.s, aa.m.v, aa.d.v, .bool ab.s, ab.m.v, ab.d.v])) (zza 10 (zI 0) (zzi ⟨32, aa.cs ++ ab.cs⟩ ty32 ?_))
 refine zza 5 (zI 0) (zzb (zzn (ret0 [.agg #[.bool aa.s, aa.m.v, aa.d.v, .bool ab.s, ab.m.v, ab.d.v], .int .i64 0] ⟨zzq ty32 zze, zzp, trivial⟩ fun u19 ac => ?_)))
 exact ⟨aa, ab, rfl, RatN.more (ad.ext ac) xq, RatN.more (af.ext ac) xq⟩
set_option maxHeartbeats 1000000 in
theorem k_ratNearest {u w : World} {r : RL} {q : Rat} {K k : Nat} (hk : k ≤ 256) (d : Dat u w) (hr : RatV u r q K) (hK : K ≤ 1000000) : Calls Tryz.prog 203 #[r.v, .int .i64 (k : Int)] w (Post u w fun v u' => ∃ p : RL, v = .tuple #[p.v, .int .i64 0] ∧ RatN u' p (Nt.gr k (Nt.nrZ q k)) (K + 30)) := by
 refine zzl (args := [r.v, .int .i64 k]) Tryz.func203 rfl Tryz.ntmps203 (rs := [.cell 4 26, .tmp 5]) Tryz.results203 (le_b rfl) (le_b rfl) d ?_
 refine sq9 (zzj 2 ⟨26, r.cs⟩ (zzj 4 ⟨26, zw3⟩ (zza 5 (zI 0) (zzb (zzd (sq9 (zza 8 (zI k) (zza 9 (zB (decide ((k : Int) < 0))) (zqB 10 (show (decide ((k : Int) < 0)) = false from decide_eq_false xq) (zza 11 (zI k) ?_ (hw := w1 2 false 10)))))))))))
 refine zza 12 (zB (decide ((256 : Int) < (k : Int)))) ?_ (hw := w1 2 false 10)
 refine zza 13 (zB (decide ((256 : Int) < (k : Int)))) (zzb (zzt (b := decide ((256 : Int) < (k : Int))) xj (fun hb => ?_) (fun hb => ?_)))
 ·exact absurd hb (by rw [show (decide ((256 : Int) < (k : Int))) = false from decide_eq_false xq]; decide)
 clear hb
 refine zzr (zzo ?_)
 refine sq9 (zzh 15 (.v (r.v)) ty26 zze (zzg 16 147 _ fun _ _ ay au => Post.mono (k_read au (hr.ext ay)) ?_))
 rintro _ u14 g15 ⟨aa, ak, rfl, z13, D13, aj, ab, ac, ah, az, aq⟩
 refine zzj 6 ⟨149, [.bool false, .slice none 0 0, .slice none 0 0, .bool false]⟩ (zzi ⟨149, aa.cs ++ [.bool ak]⟩ ty149 ?_)
 refine zzb (zzd (zzy [0, 1, 3, 0, 8, 31, 0, 64, 192, 511, 1023, 0, 4095] [(0, []), (1, []), (2, []), (3, []), (4, []), (6, []), (7, []), (8, []), (11, []), (5, []), (9, []), (10, []), (12, [])] xj xj (zza 17 (.adr 6 0) (zza 18 (.adr 6 0) (zzh 19 (.v (.agg #[.bool aa.s, aa.m.v])) ty24 zze (zza 20 (zI k) (zyp 21 (x := zI (IntKind.i64.wrap ((k : Int) + 1))) (zI (k + 1 : Nat)) (eqI xk) (zza 23 (.adr 6 0) (zza 24 (.adr 6 2) (zzh 25 (.v (aa.d.v)) ty22 zzk (zzj 7 ⟨24, [.bool false, .slice none 0 0]⟩ ?_)))))))))))
 refine zzg 22 242 _ fun _ _ af aF => Post.mono (k_double (s := k + 1) aF (aj.ext af) xq xq) ?_
 rintro _ u20 an ⟨y18, rfl, aA⟩
 refine zzg 26 195 _ fun _ _ ag aw => Post.mono (k_natural (x := aa.d) aw) ?_
 rintro _ u24 ai rfl
 refine zzg 27 159 _ fun _ _ ae aB => Post.mono (k_intAdd aB (aA.ext (ag.t (ai.t ae))) (nat_int (ab.ext (af.t (an.t (ag.t (ai.t ae)))))) xq xq) ?_
 rintro _ u30 aE ⟨ao, rfl, ar⟩
 refine zzi ⟨24, ao.cs⟩ ty24 ?_
 refine zzb (zzd (zzy [0, 0, 2, 6, 14, 0, 63, 127, 255] [(0, []), (1, []), (2, []), (3, []), (5, []), (4, []), (6, []), (7, []), (8, [])] xj xj (zzh 28 (.v (ao.v)) ty24 zze (zza 29 (.adr 6 0) (zza 30 (.adr 6 2) (zzh 31 (.v (aa.d.v)) ty22 zzk (zza 33 (zI k) (zzg 32 79 _ fun _ _ am ap => Post.mono (k_natShift (s := 1) ap (ab.ext (af.t (an.t (ag.t (ai.t (ae.t (aE.t am))))))) xq xq) ?_))))))))
 rintro _ u36 aG ⟨x34, rfl, av⟩
 refine zzg 34 243 _ fun _ _ al aD => Post.mono (k_onGrid (s := k) aD (ar.ext (am.t (aG.t al))).raw (av.ext al).raw (Nat.mul_pos ac xw) xq xq xq) ?_
 rintro _ u42 g43 ⟨ad, rfl, aC⟩
 refine zzi ⟨26, ad.cs⟩ ty26 ?_
 refine zza 5 (zI 0) (zzc 35 [(4, .adr 4 0), (5, zI 0)] [(4, ⟨26, ad.cs⟩)] (zzn (ret0 [ad.v, .int .i64 0] ⟨zzq ty26 zze, zzp, trivial⟩ fun u45 ax => ?_)))
 refine ⟨ad, rfl, RatN.more (K := ((max (K + (k + 1) / 32 + 1) K + 1) + k / 32 + 3)) ?_ xq⟩
 have h9 := (aC.ext ax)
 rw [ah, ← Nt.nr_mk ac]
 exact h9
theorem k_pfloor {u w : World} {r : RL} {q : Rat} {K : Nat} (d : Dat u w) (hr : RatV u r q K) (hK : K ≤ 1000000) : Calls Tryz.prog 245 #[r.v] w (Post u w fun v u' => ∃ i : IL, v = i.v ∧ IntN u' i (Nt.flr q) (K + 1)) := by
 refine zzl (args := [r.v]) Tryz.func245 rfl Tryz.ntmps245 (rs := [.cell 2 24]) Tryz.results245 (le_b rfl) (le_b rfl) d ?_
 refine sq9 (zzj 1 ⟨26, r.cs⟩ (zzj 2 ⟨24, [.bool false, .slice none 0 0]⟩ (zzb (sq9 (zzh 7 (.v (r.v)) ty26 zze (zzg 8 147 _ fun _ _ ap au => Post.mono (k_read au (hr.ext ap)) ?_))))))
 rintro _ u13 g14 ⟨ab, af, rfl, z12, D12, ah, ag, ac, ad, ao, aq⟩
 refine zzj 3 ⟨149, [.bool false, .slice none 0 0, .slice none 0 0, .bool false]⟩ (zzi ⟨149, ab.cs ++ [.bool af]⟩ ty149 ?_)
 refine zzb (zzd (zzy [0, 1, 3, 0, 8, 24, 56, 127, 255, 511, 511, 511, 0, 0, 13311, 30719, 65535] [(0, []), (1, []), (2, []), (3, []), (4, []), (5, []), (12, []), (13, []), (6, []), (7, []), (8, []), (9, []), (10, []), (11, []), (14, []), (15, []), (16, [])] xj xj (zza 10 (.adr 3 0) (zza 11 (.adr 3 0) (zzh 12 (.v (.agg #[.bool ab.s, ab.m.v])) ty24 zze (zza 13 (.adr 3 0) (zza 14 (.adr 3 2) (zzh 15 (.v (ab.d.v)) ty22 zzk (zzj 4 ⟨24, [.bool false, .slice none 0 0]⟩ (zzj 5 ⟨24, [.bool false, .slice none 0 0]⟩ (zzg 16 195 _ fun _ _ aj an => Post.mono (k_natural (x := ab.d) an) ?_)))))))))))
 rintro _ u17 ak rfl
 refine zzg 17 180 _ fun _ _ ai al => Post.mono (k_intDivP al (ah.ext (aj.t (ak.t ai))) (ag.ext (aj.t (ak.t ai))) ac xq xq) ?_
 rintro _ u25 g26 ⟨aa, ae, rfl, ar, h24⟩
 refine zza 9 (.v (.tuple #[aa.v, ae.v, .int .i64 0])) (zza 18 (.v (aa.v)) (zza 19 (.v (ae.v)) (zza 20 (zI 0) (zzi ⟨24, aa.cs⟩ ty24 ?_))))
 refine zzi ⟨24, ae.cs⟩ ty24 ?_
 refine zza 6 (zI 0) (zzb (sq9 (zzh 21 (.v (aa.v)) ty24 zze (zzi ⟨24, aa.cs⟩ ty24 ?_))))
 refine zzb (zzn (ret0 [aa.v] ⟨zzq ty24 zze, trivial⟩ fun u28 am => ?_))
 refine ⟨aa, rfl, IntN.more (K := (K + 1)) ?_ xq⟩
 rw [ad, Nt.flr_mk ac]
 exact (ar.ext am)
set_option maxHeartbeats 2000000 in
theorem k_fxNearest {u w : World} {r : RL} {W : WL} {z : Int} {K k : Nat} (d : Dat u w) (hW : WdOK W) (hr2 : W.r = 2) (hf : W.f = (k : Int)) (hr : RatV u r (Nt.gr k z) K) (hz0 : -Nt.p2i (W.b - 1) ≤ z) (hz1 : z < Nt.p2i (W.b - 1)) (hK : K ≤ 100000) : Calls Tryz.prog 205 #[W.v, r.v] w (Post u w fun v _ => v = .tuple #[.int .i64 z, .bool true]) := by
 obtain ⟨w1, w2, w3, w4, w5, w6, w7, w8⟩ := id hW
 have aq : Nt.p2i W.f = ((2 ^ k : Nat) : Int) := by rw [hf]; unfold Nt.p2i; simp
 have hp3 := Nt.p2i_24 (n := W.b - 1) xq
 have hp4 := Nt.p2i_24 (n := W.f) xq
 have hp5 := Nt.zxo W.f
 have hp6 := Nt.zxo (W.b - 1)
 refine zzl (args := [.agg #[.int .i64 W.b, .int .i64 W.f, .int .i64 W.r, .int .i64 W.o], r.v]) Tryz.func205 rfl Tryz.ntmps205 (rs := [.tmp 4, .tmp 5]) Tryz.results205 (le_b rfl) (le_b rfl) d ?_
 refine sq9 (zzj 2 ⟨183, W.cs⟩ (zzj 3 ⟨26, r.cs⟩ (zza 4 (zI 0) (zza 5 (zB false) (zzb (zzd (sq9 (zzh 9 (.v (W.v)) ty183 zze (zzg 10 244 _ fun _ _ aH aD => Post.mono (k_fxValid (W := W) aD hW) ?_)))))))))
 rintro _ u12 az rfl
 refine zza 11 (zB false) (zzb (zyr xj (zzr (zzo ?_))))
 refine zzd (zzy [0, 0, 2, 6, 14, 31, 0, 127] [(0, []), (1, []), (2, []), (3, []), (6, []), (4, []), (5, []), (7, [])] xj xj (zzh 12 (.v (r.v)) ty26 zze (zza 13 (.adr 2 1) (zzh 14 (zI W.f) ty3 zzk (sy_shl 15 (k := .i64) (s := W.f) (Nt.p2i W.f) xq (by show _ ≤ (64 : Int); omega) (shl_one xq xq) ?_)))))
 refine zzj 6 ⟨26, zw3⟩ (zzg 16 118 _ fun _ _ aC am => Post.mono (k_ratOf am (z := Nt.p2i W.f) xq xq) ?_)
 rintro _ u18 au ⟨r16, rfl, ao⟩
 refine zzg 17 123 _ fun _ _ ai av => Post.mono (k_ratMul av (hr.ext (aH.t (az.t (aC.t (au.t ai))))) (ao.ext ai).raw xq xq) ?_
 rintro _ u24 g25 ⟨ah, rfl, ay⟩
 refine zzi ⟨26, ah.cs⟩ ty26 ?_
 refine zzb (sq9 (zzj 7 ⟨24, [.bool false, .slice none 0 0]⟩ (zzb (zzd (sq9 (zza 18 (.adr 2 2) (zzh 19 (zI W.r) ty3 zzk (zzb (zzs (sq9 (zza 23 (zB (W.r == 2)) ?_)))))))))))
 refine zza 22 (zB (W.r == 2)) (zzb (zzt (b := W.r == 2) xj (fun hb => ?_) (fun hb => ?_)))
 ·clear hb
  refine zzy [0, 0, 3, 7, 15] [(0, []), (1, []), (2, []), (3, []), (4, [])] xj xj (zzh 24 (.v (ah.v)) ty26 zze (zzg 25 127 _ fun _ _ ar aB => Post.mono (k_ratFrac aB (a := 1) (b := 2) xq xq xq xq) ?_))
  rintro _ u30 aG ⟨r28, rfl, ap⟩
  refine zzg 26 126 _ fun _ _ ag ak => Post.mono (k_ratAdd ak (ay.ext (ar.t (aG.t ag))).raw (ap.ext ag).raw xq xq) ?_
  rintro _ u36 g37 ⟨r34, rfl, ax⟩
  refine zzg 27 245 _ fun _ _ aj aF => Post.mono (k_pfloor aF (ax.ext aj).raw xq) ?_
  rintro _ u42 g43 ⟨aa, rfl, aE⟩
  refine zzi ⟨24, aa.cs⟩ ty24 ?_
  refine zzw ?_
  refine zzo (zzd (zzd ?_))
  have hZ : (Nt.flr (((Nt.gr k z) * ((Nt.p2i W.f : Int) : Rat)) + (((1 : Int) : Rat) / ((2 : Int) : Rat)))) = z := by rw [aq]; exact Nt.nr_gr z k
  have hz45 := aE
  rw [hZ] at hz45
  have hlm := NatN.one_len (int_mag hz45) xq
  have hsz : aa.s = decide (z < 0) := hz45.1
  refine zzf (zza 37 (.adr 7 1) (zzh 38 (.v (aa.m.v)) ty22 zzk (zza 39 (zI aa.m.n) (zza 40 (zB (decide ((1 : Int) < (aa.m.n : Int)))) (zzb (zzt (b := decide ((1 : Int) < (aa.m.n : Int))) xj (fun hb => ?_) (fun hb => ?_)))))))
  ·exact absurd hb (by rw [show (decide ((1 : Int) < (aa.m.n : Int))) = false from decide_eq_false (by split at hlm <;> omega)]; decide)
  clear hb
  refine zzr (zzo ?_)
  refine sq9 (zza 8 (zI 0) (zzb (zzd (sq9 (zza 41 (.adr 7 1) (zzh 42 (.v (aa.m.v)) ty22 zzk (zza 43 (zI aa.m.n) (zza 44 (zB ((aa.m.n : Int) == 1)) (zzb (zzt (b := (aa.m.n : Int) == 1) xj (fun ad => ?_) (fun ad => ?_)))))))))))
  ·have ae : (aa.m.n : Int) = 1 := by simpa using ad
   have aI : 0 < z.natAbs := by have h9 := ad; simp at h9; split at hlm <;> omega
   refine zzf (zza 45 (.adr 7 1) (zzh 46 (.v (aa.m.v)) ty22 zzk ?_))
   obtain ⟨bz, oz, haz, hcz⟩ := NatN.one_cell (int_mag hz45) aI xq
   refine zzz 47 (oz + 0 * 1) (n := aa.m.n) (off := oz) (sz := 1) (i := 0) xq haz xq xq sl22 (zyk 48 (.int .u32 (z.natAbs : Nat)) hcz ty104 (sy_conv 49 ((z.natAbs : Nat) : Int) (fun w => by kernel_rfl) (IntWalk.i64_in _ xq) ?_))
   refine zza 8 (zI z.natAbs) (zzc 59 [(2, .adr 2 0), (7, .adr 7 0), (8, zI z.natAbs)] [(2, ⟨183, W.cs⟩), (7, ⟨24, aa.cs⟩)] (zzd (sq9 (zza 50 (.adr 7 0) (zzh 51 (zB aa.s) ty4 zzk (zzb (zzt (b := aa.s) xj (fun ab => ?_) (fun ab => ?_))))))))
   ·replace ab : aa.s = true := ab
    have af : z < 0 := by rw [hsz] at ab; exact of_decide_eq_true ab
    refine zzf (zza 52 (zI z.natAbs) (zyp 53 (x := zI (IntKind.i64.wrap (0 - (z.natAbs : Int)))) (zI (-(z.natAbs : Int))) (eqI xk) (zza 8 (zI (-(z.natAbs : Int))) (zzb (zzd (sq9 (zzh 54 (.v (W.v)) ty183 zze (zza 55 (zI (-(z.natAbs : Int))) (zzg 56 246 _ fun _ _ _ al => Post.mono (k_fxFits (W := W) (z := -(z.natAbs : Int)) al hW xq xq) ?_)))))))))
    rintro _ u49 g50 rfl
    refine zza 57 (zB false) (zzb (zyr xj (zzr (zzo ?_))))
    refine sq9 (zza 58 (zI (-(z.natAbs : Int))) (zza 4 (zI (-(z.natAbs : Int))) (zza 5 (zB true) (zzb (zzn (ret0 [.int .i64 (-(z.natAbs : Int)), .bool true] ⟨zzp, zzp, trivial⟩ fun u52 e53 => ?_))))))
    show Value.tuple #[.int .i64 (-(z.natAbs : Int)), .bool true] = Value.tuple #[.int .i64 z, .bool true]
    rw [show (-(z.natAbs : Int) : Int) = z by omega]
   replace ab : aa.s = false := ab
   have af : ¬ z < 0 := by rw [hsz] at ab; exact of_decide_eq_false ab
   refine zzr (zzo ?_)
   refine zzd (sq9 (zzh 54 (.v (W.v)) ty183 zze (zza 55 (zI z.natAbs) (zzg 56 246 _ fun _ _ _ an => Post.mono (k_fxFits (W := W) (z := (z.natAbs : Int)) an hW xq xq) ?_))))
   rintro _ u55 g56 rfl
   refine zza 57 (zB false) (zzb (zyr xj (zzr (zzo ?_))))
   refine sq9 (zza 58 (zI z.natAbs) (zza 4 (zI z.natAbs) (zza 5 (zB true) (zzb (zzn (ret0 [.int .i64 z.natAbs, .bool true] ⟨zzp, zzp, trivial⟩ fun u58 e59 => ?_))))))
   show Value.tuple #[.int .i64 ((z.natAbs : Int)), .bool true] = Value.tuple #[.int .i64 z, .bool true]
   rw [show ((z.natAbs : Int) : Int) = z by omega]
  have ae : ¬ ((aa.m.n : Int) = 1) := by simpa using ad
  have hn0 : z = 0 := by have h9 := ad; simp at h9; split at hlm <;> omega
  refine zzr (zzo ?_)
  refine zzd (sq9 (zza 50 (.adr 7 0) (zzh 51 (zB aa.s) ty4 zzk (zzc 59 [(2, .adr 2 0), (8, zI 0), (51, zB aa.s)] [(2, ⟨183, W.cs⟩)] (zzt (b := aa.s) xj (fun ac => ?_) (fun ac => ?_))))))
  ·replace ac : aa.s = true := ac
   have af : z < 0 := by rw [hsz] at ac; exact of_decide_eq_true ac
   refine zzf (zza 52 (zI 0) (zza 53 (zI 0) (zza 8 (zI 0) (zzb (zzd (sq9 (zzh 54 (.v (W.v)) ty183 zze (zza 55 (zI 0) (zzg 56 246 _ fun _ _ _ aA => Post.mono (k_fxFits (W := W) (z := 0) aA hW xq xq) ?_)))))))))
   rintro _ u62 g63 rfl
   refine zza 57 (zB false) (zzb (zyr xj (zzr (zzo ?_))))
   refine sq9 (zza 58 (zI 0) (zza 4 (zI 0) (zza 5 (zB true) (zzb (zzn (ret0 [.int .i64 0, .bool true] ⟨zzp, zzp, trivial⟩ fun u65 e66 => ?_))))))
   show Value.tuple #[.int .i64 (0), .bool true] = Value.tuple #[.int .i64 z, .bool true]
   rw [show (0 : Int) = z by omega]
  replace ac : aa.s = false := ac
  have af : ¬ z < 0 := by rw [hsz] at ac; exact of_decide_eq_false ac
  refine zzr (zzo ?_)
  refine zzd (sq9 (zzh 54 (.v (W.v)) ty183 zze (zza 55 (zI 0) (zzg 56 246 _ fun _ _ _ aw => Post.mono (k_fxFits (W := W) (z := 0) aw hW xq xq) ?_))))
  rintro _ u68 g69 rfl
  refine zza 57 (zB false) (zzb (zyr xj (zzr (zzo ?_))))
  refine sq9 (zza 58 (zI 0) (zza 4 (zI 0) (zza 5 (zB true) (zzb (zzn (ret0 [.int .i64 0, .bool true] ⟨zzp, zzp, trivial⟩ fun u71 e72 => ?_))))))
  show Value.tuple #[.int .i64 (0), .bool true] = Value.tuple #[.int .i64 z, .bool true]
  rw [show (0 : Int) = z by omega]
 exact absurd hb (by rw [show (W.r == 2) = true from (by rw [hr2]; rfl)]; decide)
set_option maxHeartbeats 1000000 in
theorem k_dcoef {u w : World} {a1 a2 : RL} {x1 x2 : Rat} {K k : Nat} (d : Dat u w) (ha1 : RatV u a1 x1 K) (ha2 : RatV u a2 x2 K) (hk1 : 1 ≤ k) (hk2 : k ≤ 20) (hc0 : -2097152 ≤ Nt.coZ x1 x2 k) (hc1 : Nt.coZ x1 x2 k ≤ 2097152) (hK : K ≤ 10000) : Calls Tryz.prog 137 #[IV a1 a2, .int .i64 (k : Int)] w (Post u w fun v u' => v = .int .i64 (Nt.coZ x1 x2 k)) := by
 have hWk : WdOK (⟨24, (k : Int), 2, 1⟩ : WL) := ⟨(by show (4 : Int) ≤ 24; decide), (by show (24 : Int) ≤ 24; decide), Int.natCast_nonneg k, (by show (k : Int) < 24; omega), (by show (1 : Int) ≤ 2; decide), (by show (2 : Int) ≤ 3; decide), (by show (1 : Int) ≤ 1; decide), (by show (1 : Int) ≤ 2; decide)⟩
 have ai : Nt.p2i (24 - 1) = 8388608 := by decide
 unfold Nt.coZ at hc0 hc1
 refine zzl (args := [.agg #[.bool a1.s, a1.m.v, a1.d.v, .bool a2.s, a2.m.v, a2.d.v], .int .i64 k]) Tryz.func137 rfl Tryz.ntmps137 (rs := [.tmp 4]) Tryz.results137 (le_b rfl) (le_b rfl) d ?_
 refine sq9 (zzj 2 ⟨32, a1.cs ++ a2.cs⟩ (zza 4 (zI 0) (zzb (sq9 (zzh 11 (.v (.agg #[.bool a1.s, a1.m.v, a1.d.v, .bool a2.s, a2.m.v, a2.d.v])) ty32 zze (zzg 12 204 _ fun _ _ ab aj => Post.mono (k_ivMid aj (ha1.ext ab) (ha2.ext ab) xq) ?_))))))
 rintro _ u14 g15 ⟨r12, rfl, ag⟩
 refine zza 13 (zI k) (zzg 14 203 _ fun _ _ ad ah => Post.mono (k_ratNearest (k := k) xq ah (ag.ext ad).raw xq) ?_)
 rintro _ u20 g21 ⟨aa, rfl, ae⟩
 refine zza 10 (.v (.tuple #[aa.v, .int .i64 0])) (zza 15 (.v (aa.v)) (zza 16 (zI 0) (zzj 5 ⟨26, zw3⟩ (zzi ⟨26, aa.cs⟩ ty26 ?_))))
 refine zza 6 (zI 0) (zzb (zzd (sq9 (zza 17 (zI 0) (zza 18 (zB false) (zzb (zyr xj (zzr (zzo ?_)))))))))
 refine sq9 (zza 19 (zI k) (zza 20 (.v (.agg #[.int .i64 24, .int .i64 k, .int .i64 2, .int .i64 1])) (zzj 7 ⟨183, [.int .i64 0, .int .i64 0, .int .i64 0, .int .i64 0]⟩ (zzi ⟨183, [.int .i64 24, .int .i64 k, .int .i64 2, .int .i64 1]⟩ ty183 ?_))))
 refine zzb (sq9 (zzh 22 (.v (.agg #[.int .i64 24, .int .i64 k, .int .i64 2, .int .i64 1])) ty183 zze (zzh 23 (.v (aa.v)) ty26 zze (zzg 24 205 _ fun _ _ af ac => Post.mono (k_fxNearest (W := (⟨24, (k : Int), 2, 1⟩ : WL)) (z := (Nt.nrZ ((x1 + x2) * (((1 : Int) : Rat) / ((2 : Int) : Rat))) k)) (k := k) ac hWk rfl rfl (ae.ext af).raw (by show -Nt.p2i (24 - 1) ≤ _; omega) (by show _ < Nt.p2i (24 - 1); omega) xq) ?_))))
 rintro _ u24 g25 rfl
 refine zza 21 (.v (.tuple #[.int .i64 (Nt.nrZ ((x1 + x2) * (((1 : Int) : Rat) / ((2 : Int) : Rat))) k), .bool true])) (zza 25 (zI (Nt.nrZ ((x1 + x2) * (((1 : Int) : Rat) / ((2 : Int) : Rat))) k)) (zza 26 (zB true) (zza 8 (zI (Nt.nrZ ((x1 + x2) * (((1 : Int) : Rat) / ((2 : Int) : Rat))) k)) (zza 9 (zB true) (zzb (sq9 (zza 27 (zI (Nt.nrZ ((x1 + x2) * (((1 : Int) : Rat) / ((2 : Int) : Rat))) k)) (zza 4 (zI (Nt.nrZ ((x1 + x2) * (((1 : Int) : Rat) / ((2 : Int) : Rat))) k)) (zzb (zzn (ret0 [.int .i64 (Nt.nrZ ((x1 + x2) * (((1 : Int) : Rat) / ((2 : Int) : Rat))) k)] ⟨zzp, trivial⟩ fun u27 e28 => ?_)))))))))))
 rfl
set_option maxHeartbeats 2000000 in
theorem k_rotate {u w : World} {i j p q k : Nat} (d : Dat u w) (hi : i < 64) (hj : j < 64) (hij : i ≠ j) (hp : 0 < p) (hpq : 2 * p ≤ q) (hq : q ≤ 500) (hk1 : 1 ≤ k) (hk2 : k ≤ 20) (hO : Nt.RotOK p q k) : Calls Tryz.prog 69 #[.int .i64 (i : Int), .int .i64 (j : Int), .int .i64 (p : Int), .int .i64 (q : Int), .int .i64 (k : Int)] w (Post u w fun v u' => ∃ x : Sl, v = .tuple #[x.v, .int .i64 0] ∧ IrV 4 u' x (Nt.roL i j p q k)) := by
 have hT0 := hO.t0
 have hT1 := hO.t1
 have hS0 := hO.s0
 have hS1 := hO.s1
 unfold Nt.roT at hT0 hT1
 unfold Nt.roS at hS0 hS1
 refine zzl (args := [.int .i64 i, .int .i64 j, .int .i64 p, .int .i64 q, .int .i64 k]) Tryz.func69 rfl Tryz.ntmps69 (rs := [.tmp 10, .tmp 11]) Tryz.results69 (le_b rfl) (le_b rfl) d ?_
 refine sq9 (zza 10 (.v (.slice none 0 0)) (zza 11 (zI 0) (zzb (zzd (sq9 (zza 22 (zI i) (zza 23 (zB (decide ((i : Int) < 0))) (zqB 24 (show (decide ((i : Int) < 0)) = false from decide_eq_false xq) (zza 25 (zI i) ?_ (hw := w1 2 false 24))))))))))
 refine zza 26 (zB (decide ((64 : Int) ≤ (i : Int)))) ?_ (hw := w1 2 false 24)
 refine zza 27 (zB (decide ((64 : Int) ≤ (i : Int)))) (zqB 28 (show (decide ((64 : Int) ≤ (i : Int))) = false from decide_eq_false xq) (zza 29 (zI j) ?_ (hw := w1 6 false 28)))
 refine zza 30 (zB (decide ((j : Int) < 0))) ?_ (hw := w1 6 false 28)
 refine zza 31 (zB (decide ((j : Int) < 0))) (zqB 32 (show (decide ((j : Int) < 0)) = false from decide_eq_false xq) (zza 33 (zI j) ?_ (hw := w1 10 false 32)))
 refine zza 34 (zB (decide ((64 : Int) ≤ (j : Int)))) ?_ (hw := w1 10 false 32)
 refine zza 35 (zB (decide ((64 : Int) ≤ (j : Int)))) (zqB 36 (show (decide ((64 : Int) ≤ (j : Int))) = false from decide_eq_false xq) (zza 37 (zI i) ?_ (hw := w1 14 false 36)))
 refine zza 38 (zI j) ?_ (hw := w1 14 false 36)
 refine zza 39 (zB ((i : Int) == (j : Int))) ?_ (hw := w1 14 false 36)
 refine zza 40 (zB ((i : Int) == (j : Int))) (zzb (zzt (b := (i : Int) == (j : Int)) xj (fun hb => ?_) (fun hb => ?_)))
 ·exact absurd hb (by rw [show ((i : Int) == (j : Int)) = false from zq]; decide)
 clear hb
 refine zzr (zzo ?_)
 refine zzd (sq9 (zza 41 (zI q) (zza 42 (zB (decide ((500 : Int) < (q : Int)))) (zqB 43 (show (decide ((500 : Int) < (q : Int))) = false from decide_eq_false xq) (zza 44 (zI p) ?_ (hw := w1 2 false 43))))))
 refine zza 45 (zB (decide ((p : Int) ≤ 0))) ?_ (hw := w1 2 false 43)
 refine zza 46 (zB (decide ((p : Int) ≤ 0))) (zqB 47 (show (decide ((p : Int) ≤ 0)) = false from decide_eq_false xq) (zza 48 (zI p) ?_ (hw := w1 6 false 47)))
 refine zza 49 (zI q) ?_ (hw := w1 6 false 47)
 refine sy_quo 50 (n := (q : Int)) (m := 2) ((q / 2 : Nat) : Int) xw (by rw [Int.tdiv_eq_ediv_of_nonneg xq]; exact (IntWalk.i64_in _ xq).trans xq) ?_ (hw := w1 6 false 47)
 refine zza 51 (zB (decide (((q / 2 : Nat) : Int) < (p : Int)))) ?_ (hw := w1 6 false 47)
 refine zza 52 (zB (decide (((q / 2 : Nat) : Int) < (p : Int)))) (zqB 53 (show (decide (((q / 2 : Nat) : Int) < (p : Int))) = false from decide_eq_false xq) (zza 54 (zI k) ?_ (hw := w1 12 false 53)))
 refine zza 55 (zB (decide ((k : Int) < 1))) ?_ (hw := w1 12 false 53)
 refine zza 56 (zB (decide ((k : Int) < 1))) (zqB 57 (show (decide ((k : Int) < 1)) = false from decide_eq_false xq) (zza 58 (zI k) ?_ (hw := w1 16 false 57)))
 refine zza 59 (zB (decide ((20 : Int) < (k : Int)))) ?_ (hw := w1 16 false 57)
 refine zza 60 (zB (decide ((20 : Int) < (k : Int)))) (zzc 127 [(0, zI i), (1, zI j), (2, zI p), (3, zI q), (4, zI k), (60, zB (decide ((20 : Int) < (k : Int))))] [] (zzt (b := decide ((20 : Int) < (k : Int))) xj (fun hb => ?_) (fun hb => ?_)))
 ·exact absurd hb (by rw [show (decide ((20 : Int) < (k : Int))) = false from decide_eq_false xq]; decide)
 clear hb
 refine zzr (zzo ?_)
 refine sq9 (zza 62 (zI p) (zza 63 (zI q) (zyp 64 (x := zI (IntKind.i64.wrap ((2 : Int) * (q : Int)))) (zI (2 * q : Nat)) (eqI xk) (zzg 65 36 _ fun _ _ _ aF => Post.mono (k_SinPiG (p := (p : Int)) (q := 2 * q) (k := 64) aF xq xq xq xq xq hO.g1) ?_))))
 rintro _ u24 g25 ⟨af, ag, rfl, aB, aC⟩
 refine zza 61 (.v (.tuple #[.agg #[.bool af.s, af.m.v, af.d.v, .bool ag.s, ag.m.v, ag.d.v], .int .i64 0])) (zza 66 (.v (.agg #[.bool af.s, af.m.v, af.d.v, .bool ag.s, ag.m.v, ag.d.v])) (zza 67 (zI 0) (zzj 12 ⟨32, zw6⟩ (zzi ⟨32, af.cs ++ ag.cs⟩ ty32 ?_))))
 refine zza 13 (zI 0) (zzb (sq9 (zza 69 (zI p) (zza 70 (zI q) (zyp 71 (x := zI (IntKind.i64.wrap ((2 : Int) * (q : Int)))) (zI (2 * q : Nat)) (eqI xk) (zzg 72 31 _ fun _ _ ar aE => Post.mono (k_CosPiG (p := (p : Int)) (q := 2 * q) (k := 64) aE xq xq xq xq xq hO.g2) ?_))))))
 rintro _ u32 ap ⟨ae, ah, rfl, aA, aH⟩
 refine zza 68 (.v (.tuple #[.agg #[.bool ae.s, ae.m.v, ae.d.v, .bool ah.s, ah.m.v, ah.d.v], .int .i64 0])) (zza 73 (.v (.agg #[.bool ae.s, ae.m.v, ae.d.v, .bool ah.s, ah.m.v, ah.d.v])) (zza 74 (zI 0) (zzj 14 ⟨32, zw6⟩ (zzi ⟨32, ae.cs ++ ah.cs⟩ ty32 ?_))))
 refine zza 15 (zI 0) (zzb (sq9 (zza 76 (zI p) (zza 77 (zI q) (zzg 78 36 _ fun _ _ an ay => Post.mono (k_SinPiG (p := (p : Int)) (q := q) (k := 64) ay xq xq xq xq xq hO.g2) ?_)))))
 rintro _ u40 al ⟨ad, ac, rfl, aD, aw⟩
 refine zza 75 (.v (.tuple #[.agg #[.bool ad.s, ad.m.v, ad.d.v, .bool ac.s, ac.m.v, ac.d.v], .int .i64 0])) (zza 79 (.v (.agg #[.bool ad.s, ad.m.v, ad.d.v, .bool ac.s, ac.m.v, ac.d.v])) (zza 80 (zI 0) (zzj 16 ⟨32, zw6⟩ (zzi ⟨32, ad.cs ++ ac.cs⟩ ty32 ?_))))
 refine zza 17 (zI 0) (zzb (sq9 (zzh 82 (.v (.agg #[.bool af.s, af.m.v, af.d.v, .bool ag.s, ag.m.v, ag.d.v])) ty32 zze (zzh 83 (.v (.agg #[.bool ae.s, ae.m.v, ae.d.v, .bool ah.s, ah.m.v, ah.d.v])) ty32 zze (zzg 84 136 _ fun _ _ aj aK => Post.mono (k_ivDivO aK (aB.ext (ar.t (ap.t (an.t (al.t aj))))).raw (aC.ext (ar.t (ap.t (an.t (al.t aj))))).raw (aA.ext (an.t (al.t aj))).raw (aH.ext (an.t (al.t aj))).raw xq xq) ?_)))))
 rintro _ ax aq ⟨aa, ab, rfl, aG⟩
 refine zza 81 (.v (.tuple #[.agg #[.bool aa.s, aa.m.v, aa.d.v, .bool ab.s, ab.m.v, ab.d.v], .int .i64 (Nt.divE (Nt.rCH p q).1 (Nt.rCH p q).2)])) (zza 85 (.v (.agg #[.bool aa.s, aa.m.v, aa.d.v, .bool ab.s, ab.m.v, ab.d.v])) (zza 86 (zI (Nt.divE (Nt.rCH p q).1 (Nt.rCH p q).2)) (zzj 18 ⟨32, zw6⟩ (zzi ⟨32, aa.cs ++ ab.cs⟩ ty32 ?_))))
 refine zza 19 (zI (Nt.divE (Nt.rCH p q).1 (Nt.rCH p q).2)) (zzc 127 [(0, zI i), (1, zI j), (4, zI k), (13, zI 0), (15, zI 0), (16, .adr 16 0), (17, zI 0), (18, .adr 18 0), (19, zI (Nt.divE (Nt.rCH p q).1 (Nt.rCH p q).2))] [(16, ⟨32, ad.cs ++ ac.cs⟩), (18, ⟨32, aa.cs ++ ab.cs⟩)] (zzd (sq9 (zza 87 (zI 0) (zza 88 (zB false) (zza 89 (zB false) (zza 90 (zI 0) ?_ (hw := w1 2 false 89))))))))
 refine zza 91 (zB false) ?_ (hw := w1 2 false 89)
 refine zza 92 (zB false) (zza 93 (zB false) (zza 94 (zI 0) ?_ (hw := w1 6 false 93)))
 refine zza 95 (zB false) ?_ (hw := w1 6 false 93)
 refine zza 96 (zB false) (zza 97 (zB false) (zza 98 (zI (Nt.divE (Nt.rCH p q).1 (Nt.rCH p q).2)) ?_ (hw := w1 10 false 97)))
 refine zza 99 (zB ((Nt.divE (Nt.rCH p q).1 (Nt.rCH p q).2) != 0)) ?_ (hw := w1 10 false 97)
 refine zza 100 (zB ((Nt.divE (Nt.rCH p q).1 (Nt.rCH p q).2) != 0)) (zzb (zzt (b := (Nt.divE (Nt.rCH p q).1 (Nt.rCH p q).2) != 0) xj (fun hb => ?_) (fun hb => ?_)))
 ·exact absurd hb (by rw [show ((Nt.divE (Nt.rCH p q).1 (Nt.rCH p q).2) != 0) = false from (by rw [hO.div.1]; rfl)]; decide)
 clear hb
 refine zzr (zzo ?_)
 refine zzd ?_
 have ai : OptI ax aa ab (Nt.divO (Nt.rSH p q).1 (Nt.rSH p q).2 (Nt.rCH p q).1 (Nt.rCH p q).2) (80 + 80 + 20) := aG
 rw [hO.div.2] at ai
 refine zzf (zzh 101 (.v (.agg #[.bool aa.s, aa.m.v, aa.d.v, .bool ab.s, ab.m.v, ab.d.v])) ty32 zze (zza 102 (zI k) (zzg 103 137 _ fun _ _ am aJ => Post.mono (k_dcoef (x1 := (Nt.rTA p q).1) (x2 := (Nt.rTA p q).2) (k := k) aJ (ai.1.ext am).raw (ai.2.ext am).raw xq xq hO.t0 hO.t1 xq) ?_)))
 rintro _ u52 au rfl
 refine zza 20 (zI (Nt.coZ ((Nt.rTA p q).1) ((Nt.rTA p q).2) k)) (zzb (sq9 (zzh 104 (.v (.agg #[.bool ad.s, ad.m.v, ad.d.v, .bool ac.s, ac.m.v, ac.d.v])) ty32 zze (zza 105 (zI k) (zzg 106 137 _ fun _ _ av aM => Post.mono (k_dcoef (x1 := (Nt.rSI p q).1) (x2 := (Nt.rSI p q).2) (k := k) aM (aD.ext (aj.t (aq.t (am.t (au.t av))))).raw (aw.ext (aj.t (aq.t (am.t (au.t av))))).raw xq xq hO.s0 hO.s1 xq) ?_)))))
 rintro _ u56 g57 rfl
 refine zza 21 (zI (Nt.coZ ((Nt.rSI p q).1) ((Nt.rSI p q).2) k)) (zzb (sq9 (zza 107 (zI i) (zza 108 (zI j) (zza 109 (zI (Nt.coZ ((Nt.rTA p q).1) ((Nt.rTA p q).2) k)) (zza 110 (zI k) (zza 111 (.v (.agg #[.int .i64 i, .int .i64 j, .int .i64 (Nt.coZ ((Nt.rTA p q).1) ((Nt.rTA p q).2) k), .int .i64 k])) (zza 112 (zI j) (zza 113 (zI i) (zza 114 (zI (Nt.coZ ((Nt.rSI p q).1) ((Nt.rSI p q).2) k)) (zyp 115 (x := zI (IntKind.i64.wrap (0 - (Nt.coZ ((Nt.rSI p q).1) ((Nt.rSI p q).2) k)))) (zI (-(Nt.coZ ((Nt.rSI p q).1) ((Nt.rSI p q).2) k))) (eqI xk) ?_)))))))))))
 refine zza 116 (zI k) (zza 117 (.v (.agg #[.int .i64 j, .int .i64 i, .int .i64 (-(Nt.coZ ((Nt.rSI p q).1) ((Nt.rSI p q).2) k)), .int .i64 k])) (zza 118 (zI i) (zza 119 (zI j) (zza 120 (zI (Nt.coZ ((Nt.rTA p q).1) ((Nt.rTA p q).2) k)) (zza 121 (zI k) (zza 122 (.v (.agg #[.int .i64 i, .int .i64 j, .int .i64 (Nt.coZ ((Nt.rTA p q).1) ((Nt.rTA p q).2) k), .int .i64 k])) (zza 123 (zI j) (zza 124 (zI j) (zza 125 (.v (.agg #[.int .i64 j, .int .i64 j, .int .i64 0, .int .i64 (-2)])) (zxw 126 ⟨90, [.int .i64 i, .int .i64 j, .int .i64 (Nt.coZ ((Nt.rTA p q).1) ((Nt.rTA p q).2) k), .int .i64 k, .int .i64 j, .int .i64 i, .int .i64 (-(Nt.coZ ((Nt.rSI p q).1) ((Nt.rSI p q).2) k)), .int .i64 k, .int .i64 i, .int .i64 j, .int .i64 (Nt.coZ ((Nt.rTA p q).1) ((Nt.rTA p q).2) k), .int .i64 k, .int .i64 j, .int .i64 j, .int .i64 0, .int .i64 (-2)]⟩ 4 (fun ak az e61 aL => ?_)))))))))))
 have ao : IrV 4 az (⟨some ⟨ak, 0, none⟩, 4, 4⟩ : Sl) [[(i : Int), (j : Int), (Nt.coZ ((Nt.rTA p q).1) ((Nt.rTA p q).2) k), (k : Int)], [(j : Int), (i : Int), -(Nt.coZ ((Nt.rSI p q).1) ((Nt.rSI p q).2) k), (k : Int)], [(i : Int), (j : Int), (Nt.coZ ((Nt.rTA p q).1) ((Nt.rTA p q).2) k), (k : Int)], [(j : Int), (j : Int), 0, (-2)]] := ir_data aL (rows_cons rfl (rows_cons rfl (rows_cons rfl (rows_cons rfl rows_nil)))) rfl rfl rfl (Nat.le_refl _) yq
 refine zza 10 (.v (.slice (some ⟨ak, 0, none⟩) 4 4)) (zza 11 (zI 0) (zzc 127 [(10, .v (.slice (some ⟨ak, 0, none⟩) 4 4)), (11, zI 0)] [] (zzn (ret0 [.slice (some ⟨ak, 0, none⟩) 4 4, .int .i64 0] ⟨zzp, zzp, trivial⟩ fun u64 aI => ?_))))
 exact ⟨(⟨some ⟨ak, 0, none⟩, 4, 4⟩ : Sl), rfl, (ao.ext aI)⟩
theorem k_sameI {u w : World} {x y : Sl} {l : List Int} (d : Dat u w) (hx : SlR .i64 u x.a x.n x.c l) (hy : SlR .i64 u y.a y.n y.c l) (hb : ∀ z ∈ l, -9223372036854775808 ≤ z ∧ z ≤ 9223372036854775807) (h8 : l.length ≤ 1000000) : Calls Tryz.prog 52 #[x.v, y.v] w (Post u w fun v u' => v = .bool true) := by
 have hlx : l.length = x.n := hx.1
 have hly : l.length = y.n := hy.1
 refine zzl (args := [x.v, y.v]) Tryz.func52 rfl Tryz.ntmps52 (rs := [.tmp 4]) Tryz.results52 (le_b rfl) (le_b rfl) d ?_
 refine sq9 (zza 4 (zB false) (zzb (zzd (sq9 (zza 6 (.v (x.v)) (zza 7 (zI x.n) (zza 8 (.v (y.v)) (zza 9 (zI y.n) (zza 10 (zB ((x.n : Int) != (y.n : Int))) (zzb (zzt (b := (x.n : Int) != (y.n : Int)) xj (fun hb => ?_) (fun hb => ?_))))))))))))
 ·exact absurd hb (by rw [show ((x.n : Int) != (y.n : Int)) = false from (by rw [show y.n = x.n by omega]; simp)]; decide)
 clear hb
 refine zzr (zzo ?_)
 refine zzd (sq9 (zza 5 (zI 0) (zzb (zzs (zym (I := fun ah S' u' => ∃ (i : Nat), (ah = x.n - i) ∧ (i ≤ x.n) ∧ (S' = St.of 26 [(0, .v (x.v)), (1, .v (y.v)), (5, zI i)] []) ∧ (Ext u u')) (fun m S u1 u2 e h => by obtain ⟨i, hm, p0, hS, hE⟩ := h; exact ⟨i, hm, p0, hS, hE.trans e⟩) _ yz ⟨0, rfl, Nat.zero_le _, rfl, (Ext.refl _)⟩ ?_)))))
 rintro ah _ u11 ⟨i, aj, hi, rfl, ab⟩
 refine zzd (sq9 (zza 11 (zI i) (zza 12 (.v (x.v)) (zza 13 (zI x.n) (zza 14 (zB (decide ((i : Int) < (x.n : Int)))) (zzb (zzt (b := decide ((i : Int) < (x.n : Int))) xj (fun aa => ?_) (fun aa => ?_))))))))
 ·have qhb12 := of_decide_eq_true aa
  refine zzr (zzo ?_)
  refine zzd (zzs (zzd (zzy [0, 0, 3, 7, 0, 0, 48, 112, 255] [(0, []), (1, []), (2, []), (3, []), (4, []), (5, []), (6, []), (7, []), (8, [])] xj xj (zza 17 (.v (x.v)) (zza 18 (zI i) ?_)))))
  have hl13 := ((hx.ext ab)).1
  obtain ⟨b13, ai, ad, af⟩ := ints_at (hx.ext ab) (i := i) xq
  have hz13 := ints_bd hb xq i
  refine zzz 19 (ai + i * 1) (n := x.n) (off := ai) (sz := 1) (i := (i : Int)) xq ad xq xq sl30 (zyk 20 (.int .i64 (l.getD i 0)) af ty3 (zza 21 (.v (y.v)) (zza 22 (zI i) ?_)))
  have hl14 := ((hy.ext ab)).1
  obtain ⟨b14, ag, ae, ac⟩ := ints_at (hy.ext ab) (i := i) xq
  have hz14 := ints_bd hb xq i
  refine zzz 23 (ag + i * 1) (n := y.n) (off := ag) (sz := 1) (i := (i : Int)) xq ae xq xq sl30 (zyk 24 (.int .i64 (l.getD i 0)) ac ty3 (zza 25 (zB ((l.getD i 0) != (l.getD i 0))) (zzb (zzt (b := (l.getD i 0) != (l.getD i 0)) xj (fun hb => ?_) (fun hb => ?_)))))
  ·exact absurd hb (by rw [show ((l.getD i 0) != (l.getD i 0)) = false from (by simp)]; decide)
  clear hb
  refine zzr (zzo ?_)
  refine zzf (zza 15 (zI i) (zyp 16 (x := zI (IntKind.i64.wrap ((i : Int) + 1))) (zI (i + 1 : Nat)) (eqI xk) (zza 5 (zI (i + 1 : Nat)) (zzw ?_))))
  refine ⟨_, ?_, _, by exact zzu _ _ _, i + 1, rfl, by omega, rfl, ab⟩
  omega
 have qhb12 := of_decide_eq_false aa
 refine zyb (zzo (sq9 (zza 4 (zB true) (zzb (zzn (ret0 [.bool true] ⟨zzp, trivial⟩ fun u15 e16 => ?_))))))
 rfl
set_option maxHeartbeats 1000000 in
theorem k_known37 {u w : World} (d : Dat u w) : Calls Tryz.prog 51 #[] w (Post u w fun v _ => v = .bool true) := by
 refine zzl (args := []) Tryz.func51 rfl Tryz.ntmps51 (rs := [.tmp 0]) Tryz.results51 (le_b rfl) (le_b rfl) d ?_
 refine sq9 (zza 0 (zB false) (zzb (sq9 (zza 6 (.v (.agg #[.int .i64 0, .int .i64 1, .int .i64 1, .int .i64 1])) (zxw 7 ⟨90, [.int .i64 0, .int .i64 1, .int .i64 1, .int .i64 1]⟩ 1 (fun az aK e13 aM => ?_))))))
 have aq : IrV 4 aK (⟨some ⟨az, 0, none⟩, 1, 1⟩ : Sl) [[0, 1, 1, 1]] := ir_data aM (rows_cons rfl rows_nil) rfl rfl rfl (Nat.le_refl _) yq
 refine zxw 8 ⟨3, [.int .i64 0, .int .i64 3]⟩ 2 (fun ah aI aH aE => ?_)
 have ar : SlR .i64 aI ((⟨some ⟨ah, 0, none⟩, 2, 2⟩ : Sl)).a ((⟨some ⟨ah, 0, none⟩, 2, 2⟩ : Sl)).n ((⟨some ⟨ah, 0, none⟩, 2, 2⟩ : Sl)).c [0, 3] := ints_data aE rfl rfl (Nat.le_refl _) (by show 2 ≤ maxLen; unfold maxLen; omega)
 refine zzg 9 49 _ fun _ _ ax aC => Post.mono (k_dforward (x := (⟨some ⟨az, 0, none⟩, 1, 1⟩ : Sl)) (y := (⟨some ⟨ah, 0, none⟩, 2, 2⟩ : Sl)) aC (aq.ext (aH.trans ax)) (by first | omega | decide) (ar.ext ax) xw (by first | omega | decide)) ?_
 rintro _ u24 g25 ⟨af, rfl, aw⟩
 refine zza 5 (.v (.tuple #[af.v, .int .i64 (Nt.chkE ([[0, 1, 1, 1]]) ([0, 3]))])) (zza 10 (.v (af.v)) (zza 11 (zI (Nt.chkE ([[0, 1, 1, 1]]) ([0, 3]))) (zza 1 (.v (af.v)) (zza 2 (zI (Nt.chkE ([[0, 1, 1, 1]]) ([0, 3]))) (zzb (sq9 (zzg 13 69 _ fun _ _ aB aG => Post.mono (k_rotate (i := 0) (j := 1) (p := 1) (q := 4) (k := 4) aG xq xq xw xq xq xq xq xq Nt.rotOK_14) ?_)))))))
 rintro _ u30 aJ ⟨aa, rfl, ab⟩
 have ay : aa.n = 4 := ab.len
 refine zza 12 (.v (.tuple #[aa.v, .int .i64 0])) (zza 14 (.v (aa.v)) (zza 15 (zI 0) (zza 3 (.v (aa.v)) (zza 4 (zI 0) (zzb (sq9 (zza 16 (zI (Nt.chkE ([[0, 1, 1, 1]]) ([0, 3]))) (zza 17 (zB ((Nt.chkE ([[0, 1, 1, 1]]) ([0, 3])) == 0)) (zqB 18 (show ((Nt.chkE ([[0, 1, 1, 1]]) ([0, 3])) == 0) = true from xw) (zza 19 (zI 0) ?_ (hw := w1 2 true 18)))))))))))
 refine zza 20 (zB true) ?_ (hw := w1 2 true 18)
 refine zza 21 (zB true) (zza 22 (zB true) (zza 23 (.v (af.v)) ?_ (hw := w1 6 true 22)))
 refine zxw 24 ⟨3, [.int .i64 2, .int .i64 3]⟩ 2 (fun ag aO ad aF => ?_) (hw := w1 6 true 22)
 have av : SlR .i64 aO ((⟨some ⟨ag, 0, none⟩, 2, 2⟩ : Sl)).a ((⟨some ⟨ag, 0, none⟩, 2, 2⟩ : Sl)).n ((⟨some ⟨ag, 0, none⟩, 2, 2⟩ : Sl)).c [2, 3] := ints_data aF rfl rfl (Nat.le_refl _) (by show 2 ≤ maxLen; unfold maxLen; omega)
 refine zzg 25 52 _ (fun _ _ ac aL => Post.mono (k_sameI (x := af) (y := (⟨some ⟨ag, 0, none⟩, 2, 2⟩ : Sl)) (l := (Nt.fwdL ([[0, 1, 1, 1]]) ([0, 3]))) aL (aw.ext (aB.t (aJ.t (ad.trans ac)))) (by have h9 : (Nt.fwdL ([[0, 1, 1, 1]]) ([0, 3])) = [2, 3] := rfl; rw [h9]; exact (av.ext ac)) Nt.fwd_mem xw) ?_) (hw := w1 6 true 22)
 rintro _ u40 ae rfl
 refine zza 26 (zB true) (zza 27 (zB true) (zza 28 (.v (aa.v)) ?_ (hw := w1 11 true 27)))
 refine zza 29 (zI aa.n) ?_ (hw := w1 11 true 27)
 refine zza 30 (zB ((aa.n : Int) == 4)) ?_ (hw := w1 11 true 27)
 refine zza 31 (zB ((aa.n : Int) == 4)) (zqB 32 (show ((aa.n : Int) == 4) = true from zq) (zza 33 (.v (aa.v)) ?_ (hw := w1 16 true 32)))
 have hl44 := ((ab.ext (ad.t (ac.t ae.ext)))).len
 obtain ⟨aA, aj, ai, ao⟩ := ir_cell4 (ab.ext (ad.t (ac.t ae.ext))) (i := 0) (by (show _ < 4; decide))
 refine zzz 34 (aj + 0 * 4) (n := aa.n) (off := aj) (sz := 4) (i := 0) xq ai xq xq sl64 ?_ (hw := w1 16 true 32)
 refine zza 35 (.v (.pointer (some ⟨aA, aj + 0 * 4 + 2, none⟩))) ?_ (hw := w1 16 true 32)
 refine zyk 36 (.int .i64 (gi (Nt.roL 0 1 1 4 4) 0 2)) (ao 2 xw) ty3 ?_ (hw := w1 16 true 32)
 refine zza 37 (zB ((gi (Nt.roL 0 1 1 4 4) 0 2) == 7)) ?_ (hw := w1 16 true 32)
 refine zza 38 (zB ((gi (Nt.roL 0 1 1 4 4) 0 2) == 7)) (zqB 39 (show ((gi (Nt.roL 0 1 1 4 4) 0 2) == 7) = true from (show (Nt.roT 1 4 4 == 7) = true by rw [Nt.roT_14]; rfl)) (zza 40 (.v (aa.v)) ?_ (hw := w1 23 true 39)))
 have hl46 := ((ab.ext (ad.t (ac.t ae.ext)))).len
 obtain ⟨aD, am, al, an⟩ := ir_cell4 (ab.ext (ad.t (ac.t ae.ext))) (i := 1) (by (show _ < 4; decide))
 refine zzz 41 (am + 1 * 4) (n := aa.n) (off := am) (sz := 4) (i := 1) xq al xq xq sl64 ?_ (hw := w1 23 true 39)
 refine zza 42 (.v (.pointer (some ⟨aD, am + 1 * 4 + 2, none⟩))) ?_ (hw := w1 23 true 39)
 refine zyk 43 (.int .i64 (gi (Nt.roL 0 1 1 4 4) 1 2)) (an 2 xw) ty3 ?_ (hw := w1 23 true 39)
 refine zza 44 (zB ((gi (Nt.roL 0 1 1 4 4) 1 2) == (-11))) ?_ (hw := w1 23 true 39)
 refine zza 45 (zB ((gi (Nt.roL 0 1 1 4 4) 1 2) == (-11))) (zqB 46 (show ((gi (Nt.roL 0 1 1 4 4) 1 2) == (-11)) = true from (show (-Nt.roS 1 4 4 == -11) = true by rw [Nt.roS_14]; rfl)) (zza 47 (.v (aa.v)) ?_ (hw := w1 30 true 46)))
 have hl48 := ((ab.ext (ad.t (ac.t ae.ext)))).len
 obtain ⟨aN, ak, ap, au⟩ := ir_cell4 (ab.ext (ad.t (ac.t ae.ext))) (i := 3) (by (show _ < 4; decide))
 refine zzz 48 (ak + 3 * 4) (n := aa.n) (off := ak) (sz := 4) (i := 3) xq ap xq xq sl64 ?_ (hw := w1 30 true 46)
 refine zza 49 (.v (.pointer (some ⟨aN, ak + 3 * 4 + 3, none⟩))) ?_ (hw := w1 30 true 46)
 refine zyk 50 (.int .i64 (gi (Nt.roL 0 1 1 4 4) 3 3)) (au 3 xw) ty3 ?_ (hw := w1 30 true 46)
 refine zza 51 (zB ((gi (Nt.roL 0 1 1 4 4) 3 3) == (-2))) ?_ (hw := w1 30 true 46)
 refine zza 52 (zB ((gi (Nt.roL 0 1 1 4 4) 3 3) == (-2))) (zza 0 (zB ((gi (Nt.roL 0 1 1 4 4) 3 3) == (-2))) (zzc 53 [(0, zB ((gi (Nt.roL 0 1 1 4 4) 3 3) == (-2)))] [] (zzn (ret0 [.bool ((gi (Nt.roL 0 1 1 4 4) 3 3) == (-2))] ⟨zzp, trivial⟩ fun u49 e50 => ?_))))
 show Value.bool _ = Value.bool true
 rw [show ((gi (Nt.roL 0 1 1 4 4) 3 3) == (-2)) = true from rfl]
@[irreducible]
def Nt.lftV (v : Value) : Nat := match v with | .int _ i => (i + 1).toNat | _ => 0
namespace Nt
def prs (f : Nat → Rat × Rat) : Nat → List Rat
 | 0 => []
 | n + 1 => prs f n ++ [(f n).1, (f n).2]
section
variable {f g : Nat → Rat × Rat} {n j : Nat}
theorem prs_len : (prs f n).length = 2 * n := by
 induction n with
 | zero => rfl
 | succ n ih => unfold prs; rw [List.length_append, ih]; rfl
theorem prs_at (h : j < n) : (prs f n).getD (2 * j) 0 = (f j).1 ∧ (prs f n).getD (2 * j + 1) 0 = (f j).2 := by
 induction n with
 | zero => omega
 | succ n ih =>
  unfold prs
  by_cases e : j < n
  ·obtain ⟨h1, h2⟩ := ih e
   have hl := prs_len (f := f) (n := n)
   rw [List.getD_eq_getElem?_getD, List.getD_eq_getElem?_getD, List.getElem?_append_left xq, List.getElem?_append_left xq, ← List.getD_eq_getElem?_getD, ← List.getD_eq_getElem?_getD]
   exact ⟨h1, h2⟩
  have e2 : j = n := by omega
  subst e2
  have hl := prs_len (f := f) (n := j)
  rw [List.getD_eq_getElem?_getD, List.getD_eq_getElem?_getD, List.getElem?_append_right xq, List.getElem?_append_right xq, hl, Nat.sub_self, show 2 * j + 1 - 2 * j = 1 by omega]
  exact ⟨rfl, rfl⟩
end
def dmS (n b k : Nat) : Rat × Rat := if k = 0 then (gr b (rtN (((1 : Int) : Rat) / ((n : Int) : Rat)) 2 b : Int), gr b (rtH (((1 : Int) : Rat) / ((n : Int) : Rat)) 2 b)) else (gr b (rtN (((2 : Int) : Rat) / ((n : Int) : Rat)) 2 b : Int), gr b (rtH (((2 : Int) : Rat) / ((n : Int) : Rat)) 2 b))
noncomputable section
def dmC (n b p : Nat) : Rat × Rat := cosV (p : Int) (2 * n) b
def dmE (n b k j : Nat) : Rat × Rat := (lo4 ((dmS n b k).1 * (dmC n b ((2 * j + 1) * k)).1) ((dmS n b k).1 * (dmC n b ((2 * j + 1) * k)).2) ((dmS n b k).2 * (dmC n b ((2 * j + 1) * k)).1) ((dmS n b k).2 * (dmC n b ((2 * j + 1) * k)).2), hi4 ((dmS n b k).1 * (dmC n b ((2 * j + 1) * k)).1) ((dmS n b k).1 * (dmC n b ((2 * j + 1) * k)).2) ((dmS n b k).2 * (dmC n b ((2 * j + 1) * k)).1) ((dmS n b k).2 * (dmC n b ((2 * j + 1) * k)).2))
def dmRow (n b k : Nat) : List Rat := prs (dmE n b k) n
def dmM (n b : Nat) : List (List Rat) := (List.range n).map (dmRow n b)
def dmT (n b : Nat) : List Rat := prs (dmC n b) (4 * n)
theorem dmM_len (n b : Nat) : (dmM n b).length = n := by simp [dmM]
theorem dmM_at {n b k : Nat} (h : k < n) : (dmM n b).getD k [] = dmRow n b k := by
 unfold dmM
 rw [List.getD_eq_getElem?_getD, List.getElem?_map, List.getElem?_range h]; rfl
theorem dmRow_len (n b k : Nat) : (dmRow n b k).length = 2 * n := prs_len
theorem dmC_mod {n b p : Nat} (hn : 0 < n) : dmC n b (p % (4 * n)) = dmC n b p := by
 unfold dmC
 have h := Nat.div_add_mod p (4 * n)
 have e : (p : Int) = ((p % (4 * n) : Nat) : Int) + 2 * ((2 * n : Nat) : Int) * ((p / (4 * n) : Nat) : Int) := by
  have : (p : Int) = (((4 * n) * (p / (4 * n)) + p % (4 * n) : Nat) : Int) := by rw [h]
  rw [this, Int.natCast_add, Int.natCast_mul, Int.natCast_mul, Int.natCast_mul]
  grind
 rw [e, cosV_turn xq]
end
end Nt
end Go.Proofs.YtbolmkfphieogaaGreat
namespace Go.Proofs.YtbolmkfphieogaaGreat
open Go.RowKit
theorem Nt.dmT_len (n k : Nat) : (Nt.dmT n k).length = 2 * (4 * n) := Nt.prs_len
theorem Nt.dmT_at {n b j : Nat} (h : j < 4 * n) : (Nt.dmT n b).getD (2 * j) 0 = (Nt.dmC n b j).1 ∧ (Nt.dmT n b).getD (2 * j + 1) 0 = (Nt.dmC n b j).2 := Nt.prs_at h
set_option maxHeartbeats 4000000 in
theorem k_dmatrix {u w : World} {n k : Nat} (d : Dat u w) (hn1 : 1 ≤ n) (hn2 : n ≤ 64) (hk : k ≤ 256) (hG : Nt.GapQ (2 * n) k) : Calls Tryz.prog 66 #[.int .i64 (n : Int), .int .i64 (k : Int)] w (Post u w fun v u' => ∃ (x : Sl) (Rs : List Sl) (Ls : List (List RL)), v = .tuple #[x.v, .int .i64 0] ∧ MatQ 2 84 32 u.heap.size u' x Rs Ls ∧ MatN u' Ls (Nt.dmM n k) (1000 + 80)) := by
 refine zzl (args := [.int .i64 n, .int .i64 k]) Tryz.func66 rfl Tryz.ntmps66 (rs := [.tmp 4, .tmp 5]) Tryz.results66 (le_b rfl) (le_b rfl) d ?_
 refine sq9 (zza 4 (.v (.slice none 0 0)) (zza 5 (zI 0) (zzb (zzd (sq9 (zza 18 (zI n) (zza 19 (zB (decide ((n : Int) < 1))) (zqB 20 (show (decide ((n : Int) < 1)) = false from decide_eq_false xq) (zza 21 (zI n) ?_ (hw := w1 2 false 20))))))))))
 refine zza 22 (zB (decide ((64 : Int) < (n : Int)))) ?_ (hw := w1 2 false 20)
 refine zza 23 (zB (decide ((64 : Int) < (n : Int)))) (zqB 24 (show (decide ((64 : Int) < (n : Int))) = false from decide_eq_false xq) (zza 25 (zI k) ?_ (hw := w1 6 false 24)))
 refine zza 26 (zB (decide ((k : Int) < 0))) ?_ (hw := w1 6 false 24)
 refine zza 27 (zB (decide ((k : Int) < 0))) (zqB 28 (show (decide ((k : Int) < 0)) = false from decide_eq_false xq) (zza 29 (zI k) ?_ (hw := w1 10 false 28)))
 refine zza 30 (zB (decide ((256 : Int) < (k : Int)))) ?_ (hw := w1 10 false 28)
 refine zza 31 (zB (decide ((256 : Int) < (k : Int)))) (zzb (zzt (b := decide ((256 : Int) < (k : Int))) xj (fun hb => ?_) (fun hb => ?_)))
 ·exact absurd hb (by rw [show (decide ((256 : Int) < (k : Int))) = false from decide_eq_false xq]; decide)
 clear hb
 refine zzr (zzo ?_)
 refine sq9 (zza 33 (zI n) (zzg 34 127 _ fun _ _ cR cG => Post.mono (k_ratFrac cG (a := 1) (b := (n : Int)) xq xq xq xq) ?_))
 rintro _ u17 cy ⟨r15, rfl, cB⟩
 refine zza 35 (zI k) (zzg 36 18 _ fun _ _ bW cO => Post.mono (k_SqrtG (k := k) cO (cB.ext bW).raw (Nt.div_nn (Rat.intCast_le_intCast.2 xw) (Nt.castI_pos xq)) xq xq) ?_)
 rintro _ u25 cc ⟨ad, ae, rfl, cp, cQ⟩
 refine zza 32 (.v (.tuple #[.agg #[.bool ad.s, ad.m.v, ad.d.v, .bool ae.s, ae.m.v, ae.d.v], .int .i64 0])) (zza 37 (.v (.agg #[.bool ad.s, ad.m.v, ad.d.v, .bool ae.s, ae.m.v, ae.d.v])) (zza 38 (zI 0) (zzj 6 ⟨32, zw6⟩ (zzi ⟨32, ad.cs ++ ae.cs⟩ ty32 ?_))))
 refine zza 7 (zI 0) (zzb (sq9 (zza 40 (zI n) (zzg 41 127 _ fun _ _ bp cu => Post.mono (k_ratFrac cu (a := 2) (b := (n : Int)) xq xq xq xq) ?_))))
 rintro _ u31 bs ⟨r29, rfl, cZ⟩
 refine zza 42 (zI k) (zzg 43 18 _ fun _ _ bm cz => Post.mono (k_SqrtG (k := k) cz (cZ.ext bm).raw (Nt.div_nn (Rat.intCast_le_intCast.2 xw) (Nt.castI_pos xq)) xq xq) ?_)
 rintro _ bo bD ⟨ab, ac, rfl, ci, cx⟩
 refine zza 39 (.v (.tuple #[.agg #[.bool ab.s, ab.m.v, ab.d.v, .bool ac.s, ac.m.v, ac.d.v], .int .i64 0])) (zza 44 (.v (.agg #[.bool ab.s, ab.m.v, ab.d.v, .bool ac.s, ac.m.v, ac.d.v])) (zza 45 (zI 0) (zzj 8 ⟨32, zw6⟩ (zzi ⟨32, ab.cs ++ ac.cs⟩ ty32 ?_))))
 refine zza 9 (zI 0) (zzc 121 [(0, zI n), (1, zI k), (6, .adr 6 0), (7, zI 0), (8, .adr 8 0), (9, zI 0)] [(6, ⟨32, ad.cs ++ ae.cs⟩), (8, ⟨32, ab.cs ++ ac.cs⟩)] (zzd (sq9 (zza 46 (zI 0) (zza 47 (zB false) (zza 48 (zB false) (zza 49 (zI 0) ?_ (hw := w1 2 false 48))))))))
 refine zza 50 (zB false) ?_ (hw := w1 2 false 48)
 refine zza 51 (zB false) (zzb (zyr xj (zzr (zzo ?_))))
 refine sq9 (zza 52 (zI n) (zyp 53 (x := zI (IntKind.i64.wrap ((4 : Int) * (n : Int)))) (zI (4 * n : Nat)) (eqI xk) (sy_makeF 54 (T := 84) (E := 32) (z := .agg #[.bool false, .slice none 0 0, .slice none 0 0, .bool false, .slice none 0 0, .slice none 0 0]) (size := 6) (bytes := 112) (4 * n) (rcs (List.replicate (2 * (4 * n)) rl0)) xj xj rfl rfl xq yq (made_rcs2 _) (fun al cM cA ch cb c1 => ?_))))
 have bL : MutQ (2 * 3) 32 bo.heap.size cM (⟨some ⟨al, 0, none⟩, 4 * n, 4 * n⟩ : Sl) (rcs (List.replicate (2 * (4 * n)) rl0)) := MutQ.lit ch (by rw [zyx, List.length_replicate]; omega) yq c1 (nu_rcs _)
 refine zza 10 (.v (.slice (some ⟨al, 0, none⟩) (4 * n) (4 * n))) (zzb (zzd (sq9 (zza 55 (.v (.slice (some ⟨al, 0, none⟩) (4 * n) (4 * n))) (zza 56 (zI (4 * n : Nat)) (zza 57 (zI 0) (zzb (zzs (zym (I := fun b2 S' u' => ∃ (i : Nat) (L : List RL), (b2 = 4 * n - i) ∧ (i ≤ 4 * n) ∧ (L.length = 2 * (4 * n)) ∧ (S' = St.of 121 [(0, zI n), (1, zI k), (6, .adr 6 0), (8, .adr 8 0), (10, .v (.slice (some ⟨al, 0, none⟩) (4 * n) (4 * n))), (56, zI (4 * n : Nat)), (57, zI i)] [(6, ⟨32, ad.cs ++ ae.cs⟩), (8, ⟨32, ab.cs ++ ac.cs⟩)]) ∧ (Ext bo u') ∧ (MutQ (2 * 3) 32 bo.heap.size u' (⟨some ⟨al, 0, none⟩, 4 * n, 4 * n⟩ : Sl) (rcs L)) ∧ (RatsP u' L (Nt.dmT n k) (2 * i) 80)) (fun m S u1 u2 e h => by obtain ⟨i, L, hm, p0, p1, hS, hE, f0, f1⟩ := h; exact ⟨i, L, hm, p0, p1, hS, hE.trans e, f0.ext e, f1.ext e⟩) _ yz ⟨0, (List.replicate (2 * (4 * n)) rl0), rfl, by omega, by rw [List.length_replicate], rfl, cA, bL, RatsP.zero _ _ _ _⟩ ?_)))))))))
 rintro b2 _ am ⟨i, L, cU, hi, hL, rfl, aU, bi, b4⟩
 refine sq9 (zza 58 (zB (decide ((i : Int) < ((4 * n : Nat) : Int)))) (zzb (zzd (zzt (b := decide ((i : Int) < ((4 * n : Nat) : Int))) xj (fun aM => ?_) (fun aM => ?_)))))
 ·have qhb45 := of_decide_eq_true aM
  refine zzr (zzo ?_)
  refine zzd (zzs (sq9 (zza 59 (zI i) (zza 11 (zI i) (zzb (sq9 (zza 61 (zI i) (zza 62 (zI n) (zyp 63 (x := zI (IntKind.i64.wrap ((2 : Int) * (n : Int)))) (zI (2 * n : Nat)) (eqI xk) (zza 64 (zI k) (zzg 65 31 _ fun _ _ bj cI => Post.mono (k_CosPiG (p := (i : Int)) (q := 2 * n) (k := k) cI xq xq xq xq xq hG) ?_)))))))))))
  rintro _ u51 bk ⟨ak, aj, rfl, ce, cX⟩
  refine zza 60 (.v (.tuple #[.agg #[.bool ak.s, ak.m.v, ak.d.v, .bool aj.s, aj.m.v, aj.d.v], .int .i64 0])) (zza 66 (.v (.agg #[.bool ak.s, ak.m.v, ak.d.v, .bool aj.s, aj.m.v, aj.d.v])) (zza 67 (zI 0) (zzj 12 ⟨32, zw6⟩ (zzi ⟨32, ak.cs ++ aj.cs⟩ ty32 ?_))))
  refine zza 13 (zI 0) (zzb (zzd (sq9 (zza 68 (zI 0) (zza 69 (zB false) (zzb (zyr xj (zzr (zzo ?_)))))))))
  refine zzf (zza 70 (.v (.slice (some ⟨al, 0, none⟩) (4 * n) (4 * n))) (zza 71 (zI i) (zzh 72 (.v (.agg #[.bool ak.s, ak.m.v, ak.d.v, .bool aj.s, aj.m.v, aj.d.v])) ty32 zze ?_)))
  obtain ⟨b54, be, cw⟩ := MutQ.el2 (j := i) (bi.ext (bj.t bk.ext)) xq
  refine zzz 73 (0 + i * 6) (n := 4 * n) (off := 0) (sz := 6) (i := (i : Int)) xq be xq xq sl84 ?_
  have hq55 := (bi.ext (bj.t bk.ext))
  refine sy_storeQ (v := .agg #[.bool ak.s, ak.m.v, ak.d.v, .bool aj.s, aj.m.v, aj.d.v]) (off := 0 + i * 6) (n := 6) (⟨some ⟨al, 0, none⟩, 4 * n, 4 * n⟩ : Sl) hq55 (fun a ha => by injection ha with ha; subst ha; exact .inl cb) be ty32 (by rw [zyx]; have h9 : _ := xq; omega) (nu_app (nu_rl ak) (nu_rl aj)) (fun cW bM aA => ?_)
  have bF : MutQ (2 * 3) 32 bo.heap.size cW (⟨some ⟨al, 0, none⟩, 4 * n, 4 * n⟩ : Sl) (rcs ((L.set (2 * i) ak).set (2 * i + 1) aj)) := by rw [← setL_two xq]; exact bM
  have eX55r := ExtX.root aA (MutQ.mutL hq55) (aU.t (bj.t bk.ext))
  refine zzw ?_
  refine zzo (zzf (zyp 74 (x := zI (IntKind.i64.wrap ((i : Int) + 1))) (zI (i + 1 : Nat)) (eqI xk) (zza 57 (zI (i + 1 : Nat)) (zzw ?_))))
  refine ⟨_, ?_, _, by exact zzu _ _ _, i + 1, ((L.set (2 * i) ak).set (2 * i + 1) aj), rfl, by omega, by rw [List.length_set, List.length_set]; exact hL, rfl, eX55r, bF, ((RatsP.two (RatsP.keep (b4.ext (bj.t bk.ext)) hq55 aA) xq (MutQ.keep hq55 aA ce) (MutQ.keep hq55 aA cX) (Nt.prs_at (f := Nt.dmC n k) (n := 4 * n) (j := i) xq).1.symm (Nt.prs_at (f := Nt.dmC n k) (n := 4 * n) (j := i) xq).2.symm).ext (Ext.refl _))⟩
  omega
 have qhb45 := of_decide_eq_false aM
 refine zyb (zzo (zzd ?_))
 have hcN := RatsP.full b4 xq (by rw [Nt.dmT_len]; omega : (Nt.dmT n k).length = 2 * i)
 refine zzf (zza 75 (zI n) (sy_makeF 76 (T := 81) (E := 84) (z := .slice none 0 0) (size := 1) (bytes := 24) n ((List.replicate n sl0).map Sl.v) xj xj rfl rfl xq yq (made_sls _) (fun aa cT cd cY bX cl => ?_)))
 have bv : MutQ 1 84 am.heap.size cT (⟨some ⟨aa, 0, none⟩, n, n⟩ : Sl) ((List.replicate n sl0).map Sl.v) := MutQ.lit cY (by rw [List.length_map, List.length_replicate, Nat.mul_one]) yq cl (nu_sls _)
 refine zza 14 (.v (.slice (some ⟨aa, 0, none⟩) n n)) (zzb (zzd (sq9 (zza 77 (.v (.slice (some ⟨aa, 0, none⟩) n n)) (zza 78 (zI n) (zza 79 (zI 0) (zzb (zzs (zym (I := fun bY S' u' => ∃ (i : Nat) (Rs : List Sl) (Ls : List (List RL)), (bY = n - i) ∧ (i ≤ n) ∧ (Ls.length = n) ∧ (S' = St.of 121 [(0, zI n), (6, .adr 6 0), (8, .adr 8 0), (10, .v (.slice (some ⟨al, 0, none⟩) (4 * n) (4 * n))), (14, .v (.slice (some ⟨aa, 0, none⟩) n n)), (78, zI n), (79, zI i)] [(6, ⟨32, ad.cs ++ ae.cs⟩), (8, ⟨32, ab.cs ++ ac.cs⟩)]) ∧ (Ext am u') ∧ (MatQ 2 84 32 am.heap.size u' (⟨some ⟨aa, 0, none⟩, n, n⟩ : Sl) Rs Ls) ∧ (MatP u' Ls (Nt.dmM n k) i (1000 + 80))) (fun m S u1 u2 e h => by obtain ⟨i, Rs, Ls, hm, p0, p1, hS, hE, f0, f1⟩ := h; exact ⟨i, Rs, Ls, hm, p0, p1, hS, hE.trans e, f0.ext e, f1.ext e⟩) _ yz ⟨0, (List.replicate n sl0), (List.replicate n []), rfl, by omega, by rw [List.length_replicate], rfl, cd, (MatQ.nil n bv), (MatP.zero _ _ _ _)⟩ ?_)))))))))
 rintro bY _ b5 ⟨i, Rs, Ls, cF, hi, hLl, rfl, bh, aF, bO⟩
 refine sq9 (zza 80 (zB (decide ((i : Int) < (n : Int)))) (zzb (zzd (zzt (b := decide ((i : Int) < (n : Int))) xj (fun aS => ?_) (fun aS => ?_)))))
 ·have qhb59 := of_decide_eq_true aS
  refine zzr (zzo ?_)
  refine zzd (zzs (sq9 (zza 81 (zI i) (zza 15 (zI i) (zzb (sq9 (zzh 82 (.v (.agg #[.bool ab.s, ab.m.v, ab.d.v, .bool ac.s, ac.m.v, ac.d.v])) ty32 zze (zzj 16 ⟨32, zw6⟩ (zzi ⟨32, ab.cs ++ ac.cs⟩ ty32 ?_)))))))))
  refine zzb (zzd (sq9 (zza 83 (zI i) (zza 84 (zB ((i : Int) == 0)) (zzb (zzt (b := (i : Int) == 0) xj (fun ar => ?_) (fun ar => ?_)))))))
  ·have bg : (i : Int) = 0 := by simpa using ar
   have az : i = 0 := by have h9 := ar; simp at h9; omega
   refine zzf (zzh 85 (.v (.agg #[.bool ad.s, ad.m.v, ad.d.v, .bool ae.s, ae.m.v, ae.d.v])) ty32 zze (zzi ⟨32, ad.cs ++ ae.cs⟩ ty32 ?_))
   refine zzb (sq9 (zza 86 (.v (.slice (some ⟨aa, 0, none⟩) n n)) (zza 87 (zI i) (zza 88 (zI n) (sy_makeF 89 (T := 84) (E := 32) (z := .agg #[.bool false, .slice none 0 0, .slice none 0 0, .bool false, .slice none 0 0, .slice none 0 0]) (size := 6) (bytes := 112) n (rcs (List.replicate (2 * n) rl0)) xj xj rfl rfl xq yq (made_rcs2 _) (fun aq cP bl cg b8 b0 => ?_))))))
   have bK : MutQ (2 * 3) 32 b5.heap.size cP (⟨some ⟨aq, 0, none⟩, n, n⟩ : Sl) (rcs (List.replicate (2 * n) rl0)) := MutQ.lit cg (by rw [zyx, List.length_replicate]; omega) yq b0 (nu_rcs _)
   obtain ⟨b63, a9, ca⟩ := MatQ.cell (i := i) (aF.ext bl) xq
   refine zzz 90 (0 + i * 1) (n := n) (off := 0) (sz := 1) (i := (i : Int)) xq a9 xq xq sl81 ?_
   have hq64 := (aF.ext bl)
   refine sy_storeQ (v := .slice (some ⟨aq, 0, none⟩) n n) (off := 0 + i * 1) (n := 1) (⟨some ⟨aa, 0, none⟩, n, n⟩ : Sl) (MatQ.out hq64) (fun a ha => by injection ha with ha; subst ha; exact .inl bX) a9 ty84 (by rw [List.length_map, MatQ.len hq64]; have h9 : _ := xq; omega) (nu_sls [(⟨some ⟨aq, 0, none⟩, n, n⟩ : Sl)]) (fun c0 bG aP => ?_)
   have bC : MutQ 1 84 am.heap.size c0 (⟨some ⟨aa, 0, none⟩, n, n⟩ : Sl) ((Rs.set i (⟨some ⟨aq, 0, none⟩, n, n⟩ : Sl)).map Sl.v) := by rw [← setL_map (y := (⟨some ⟨aq, 0, none⟩, n, n⟩ : Sl)) (i := i) (by rw [MatQ.len hq64]; omega)]; exact bG
   have eX64r := ExtX.root aP (MutQ.mutL (MatQ.out hq64)) (bh.trans bl)
   have hM65 := MatQ.storeOut xw hq64 xq bC aP (MutQ.low bK (Ext.size bh)) (fun j hj _ => MatQ.fresh aF b0 j hj)
   obtain ⟨bI, aY⟩ : ∃ R, Rs.set i (⟨some ⟨aq, 0, none⟩, n, n⟩ : Sl) = R := ⟨_, rfl⟩
   have aw : bI.getD i sl0 = (⟨some ⟨aq, 0, none⟩, n, n⟩ : Sl) := by rw [← aY]; exact getD_set_same (by have h9 := MatQ.len hq64; omega)
   rw [aY] at hM65
   have hP65 := MatP.keep (bO.ext bl) (MatQ.out hq64) aP
   replace hP65 := MatP.set (L := (List.replicate (2 * n) rl0)) hP65 (Nat.le_refl i)
   obtain ⟨bJ, aE⟩ : ∃ S, Ls.set i ((List.replicate (2 * n) rl0)) = S := ⟨_, rfl⟩
   have bb : bJ.length = n := by rw [← aE, List.length_set]; exact hLl
   have a6 : bJ.getD i [] = (List.replicate (2 * n) rl0) := by rw [← aE]; exact getD_set_same xq
   rw [aE] at hM65 hP65
   refine zzc 121 [(0, zI n), (6, .adr 6 0), (8, .adr 8 0), (10, .v (.slice (some ⟨al, 0, none⟩) (4 * n) (4 * n))), (14, .v (.slice (some ⟨aa, 0, none⟩) n n)), (15, zI i), (16, .adr 16 0), (78, zI n), (79, zI i)] [(6, ⟨32, ad.cs ++ ae.cs⟩), (8, ⟨32, ab.cs ++ ac.cs⟩), (16, ⟨32, ad.cs ++ ae.cs⟩)] (sq9 (zza 91 (.v (.slice (some ⟨aa, 0, none⟩) n n)) (zza 92 (zI i) ?_)))
   obtain ⟨b66, bz, a1⟩ := MatQ.cell (i := i) hM65 xq
   refine zzz 93 (0 + i * 1) (n := n) (off := 0) (sz := 1) (i := (i : Int)) xq bz xq xq sl81 ?_
   rw [aw] at a1
   refine zyk 94 (.slice (some ⟨aq, 0, none⟩) n n) a1 ty84 (zza 95 (zI n) (zza 96 (zI 0) (zzb (zzs (zym (I := fun b3 S' u' => ∃ (j : Nat) (Q : List (List RL)), (b3 = n - j) ∧ (j ≤ n) ∧ (Q.length = n) ∧ ((Q.getD i []).length = 2 * n) ∧ (S' = St.of 121 [(0, zI n), (6, .adr 6 0), (8, .adr 8 0), (10, .v (.slice (some ⟨al, 0, none⟩) (4 * n) (4 * n))), (14, .v (.slice (some ⟨aa, 0, none⟩) n n)), (15, zI i), (16, .adr 16 0), (78, zI n), (79, zI i), (95, zI n), (96, zI j)] [(6, ⟨32, ad.cs ++ ae.cs⟩), (8, ⟨32, ab.cs ++ ac.cs⟩), (16, ⟨32, ad.cs ++ ae.cs⟩)]) ∧ (Ext am u') ∧ (MatQ 2 84 32 am.heap.size u' (⟨some ⟨aa, 0, none⟩, n, n⟩ : Sl) bI Q) ∧ (MatP u' Q (Nt.dmM n k) i (1000 + 80)) ∧ (RatsP u' (Q.getD i []) ((Nt.dmM n k).getD i []) (2 * j) (1000 + 80))) (fun m S u1 u2 e h => by obtain ⟨j, Q, hm, p0, p1, p2, hS, hE, f0, f1, f2⟩ := h; exact ⟨j, Q, hm, p0, p1, p2, hS, hE.trans e, f0.ext e, f1.ext e, f2.ext e⟩) _ yz ⟨0, bJ, rfl, by omega, bb, by rw [a6, List.length_replicate], rfl, eX64r, hM65, hP65, (RatsP.zero _ _ _ _)⟩ ?_)))))
   rintro b3 _ cq ⟨j, Q, cV, hj, hQl, hQi, rfl, aI, f0, f1, f2⟩
   have hrw : MutQ (2 * 3) 32 am.heap.size cq (⟨some ⟨aq, 0, none⟩, n, n⟩ : Sl) (rcs (Q.getD i [])) := by have h9 := MatQ.row f0 i xq; rw [aw] at h9; exact h9
   refine sq9 (zza 97 (zB (decide ((j : Int) < (n : Int)))) (zzb (zzd (zzt (b := decide ((j : Int) < (n : Int))) xj (fun aG => ?_) (fun aG => ?_)))))
   ·have qhb68 := of_decide_eq_true aG
    refine zzr (zzo ?_)
    refine zzd (zzs (sq9 (zza 98 (zI j) (zza 17 (zI j) (zzb ?_)))))
    have hpb : (2 * j + 1) * i ≤ 127 * 63 := Nat.mul_le_mul xq xq
    obtain ⟨g, hg⟩ : ∃ g, (2 * j + 1) * i % (4 * n) = g := ⟨_, rfl⟩
    have hgl : g < 4 * n := by rw [← hg]; exact Nat.mod_lt _ xq
    obtain ⟨pz, hpz⟩ : ∃ p, (2 * j + 1) * i = p := ⟨_, rfl⟩
    rw [hpz] at hpb
    refine sw_anyC [0, 0, 3, 7, 0, 0, 0, 0, 128, 384, 0, 1920, 0, 4096, 16256, 32704, 65472, 131040, 262143, 524287] [(0, []), (1, []), (2, []), (3, []), (4, []), (5, []), (6, []), (7, []), (8, []), (9, []), (10, []), (11, []), (12, []), (13, []), (14, []), (15, []), (16, []), (17, [])] [(18, []), (19, [])] xj xj xj ?_
    refine zza 99 (.v (.slice (some ⟨aa, 0, none⟩) n n)) (zza 100 (zI i) ?_)
    obtain ⟨b69, bE, a4⟩ := MatQ.cell (i := i) f0 xq
    refine zzz 101 (0 + i * 1) (n := n) (off := 0) (sz := 1) (i := (i : Int)) xq bE xq xq sl81 ?_
    rw [aw] at a4
    refine zyk 102 (.slice (some ⟨aq, 0, none⟩) n n) a4 ty84 (zza 103 (zI j) (zzh 104 (.v (.agg #[.bool ad.s, ad.m.v, ad.d.v, .bool ae.s, ae.m.v, ae.d.v])) ty32 zze (zza 105 (.v (.slice (some ⟨al, 0, none⟩) (4 * n) (4 * n))) (zza 106 (zI j) (zyp 107 (x := zI (IntKind.i64.wrap ((2 : Int) * (j : Int)))) (zI (2 * j : Nat)) (eqI xk) (zyp 108 (x := zI (IntKind.i64.wrap (((2 * j : Nat) : Int) + 1))) (zI (((2 * j) + 1 : Nat) : Int)) (eqI xk) (zza 109 (zI i) (zyp 110 (x := zI (IntKind.i64.wrap ((((2 * j) + 1 : Nat) : Int) * (i : Int)))) (zI (pz : Nat)) (eqI (by rw [← hpz, ← Int.natCast_mul]; exact IntWalk.i64_in _ (by rw [hpz]; omega))) (zza 111 (zI n) (zyp 112 (x := zI (IntKind.i64.wrap ((4 : Int) * (n : Int)))) (zI (4 * n : Nat)) (eqI xk) (sy_rem 113 (n := ((pz : Nat) : Int)) (m := ((4 * n : Nat) : Int)) ((g : Nat) : Int) xq (by rw [Int.tmod_eq_emod_of_nonneg xq, ← hg, ← hpz, Int.natCast_emod]) ?_)))))))))))
    obtain ⟨b70, bw, aR⟩ := MutQ.el2 (j := g) (bi.ext aI) xq
    refine zzz 114 (0 + g * 6) (n := 4 * n) (off := 0) (sz := 6) (i := (g : Int)) xq bw xq xq sl84 ?_
    obtain ⟨cN, aV⟩ : ∃ r : RL, L.getD (2 * g) rl0 = r := ⟨_, rfl⟩
    rw [aV] at aR
    obtain ⟨cC, bf⟩ : ∃ r : RL, L.getD (2 * g + 1) rl0 = r := ⟨_, rfl⟩
    rw [bf] at aR
    have hv75 := (by have h9 := (hcN.ext aI).2 (2 * g) (by rw [Nt.dmT_len]; omega); rw [(Nt.dmT_at (n := n) (b := k) (j := g) xq).1] at h9; exact h9)
    rw [aV] at hv75
    have hv76 := (by have h9 := (hcN.ext aI).2 (2 * g + 1) (by rw [Nt.dmT_len]; omega); rw [(Nt.dmT_at (n := n) (b := k) (j := g) xq).2] at h9; exact h9)
    rw [bf] at hv76
    refine zyl 115 (cN.cs ++ cC.cs) aR ty32 (zzg 116 133 _ fun _ _ ax cr => Post.mono (k_ivMul cr (cp.ext (bp.t (bs.t (bm.t (bD.t (aU.trans (aI.trans ax))))))).raw (cQ.ext (bp.t (bs.t (bm.t (bD.t (aU.trans (aI.trans ax))))))).raw (hv75.ext ax).raw (hv76.ext ax).raw xq xq) ?_)
    rintro _ u82 aT ⟨aB, ay, rfl, b7, ct⟩
    refine zzw ?_
    obtain ⟨b85, a5, cJ⟩ := MutQ.el2 (j := j) (hrw.ext (ax.t aT.ext)) xq
    refine zzz 117 (0 + j * 6) (n := n) (off := 0) (sz := 6) (i := (j : Int)) xq a5 xq xq sl84 ?_
    have hq86 := (hrw.ext (ax.t aT.ext))
    refine sy_storeQ (v := .agg #[.bool aB.s, aB.m.v, aB.d.v, .bool ay.s, ay.m.v, ay.d.v]) (off := 0 + j * 6) (n := 6) (⟨some ⟨aq, 0, none⟩, n, n⟩ : Sl) hq86 (fun a ha => by injection ha with ha; subst ha; exact .inl b8) a5 ty32 (by rw [zyx]; have h9 : _ := xq; omega) (nu_app (nu_rl aB) (nu_rl ay)) (fun cH bQ an => ?_)
    have bt : MutQ (2 * 3) 32 am.heap.size cH (⟨some ⟨aq, 0, none⟩, n, n⟩ : Sl) (rcs (((Q.getD i []).set (2 * j) aB).set (2 * j + 1) ay)) := by rw [← setL_two xq]; exact bQ
    have eX86r := ExtX.root an (MutQ.mutL hq86) (aI.t (ax.t aT.ext))
    refine zzw ?_
    refine zzo (zzf (zyp 118 (x := zI (IntKind.i64.wrap ((j : Int) + 1))) (zI (j + 1 : Nat)) (eqI xk) (zza 96 (zI (j + 1 : Nat)) (zzw ?_))))
    have hM9 := MatQ.storeRow xw (f0.ext (ax.t aT.ext)) (i := i) xq (L := (((Q.getD i []).set (2 * j) aB).set (2 * j + 1) ay)) (by rw [aw]; exact bt) (by rw [aw]; exact an)
    obtain ⟨Q9, aJ⟩ : ∃ Q9, Q.set i (((Q.getD i []).set (2 * j) aB).set (2 * j + 1) ay) = Q9 := ⟨_, rfl⟩
    have aO : Q9.length = n := by rw [← aJ, List.length_set]; exact hQl
    have av : Q9.getD i [] = (((Q.getD i []).set (2 * j) aB).set (2 * j + 1) ay) := by rw [← aJ]; exact getD_set_same xq
    have hP9 := MatP.set (L := (((Q.getD i []).set (2 * j) aB).set (2 * j + 1) ay)) (MatP.keep (f1.ext (ax.t aT.ext)) hq86 an) (Nat.le_refl i)
    rw [aJ] at hM9 hP9
    have bU : (Nt.lo4 ((Nt.gr k (Nt.rtN (((1 : Int) : Rat) / (((n : Int) : Int) : Rat)) 2 k : Int)) * (Nt.dmC n k g).1) ((Nt.gr k (Nt.rtN (((1 : Int) : Rat) / (((n : Int) : Int) : Rat)) 2 k : Int)) * (Nt.dmC n k g).2) ((Nt.gr k (Nt.rtH (((1 : Int) : Rat) / (((n : Int) : Int) : Rat)) 2 k)) * (Nt.dmC n k g).1) ((Nt.gr k (Nt.rtH (((1 : Int) : Rat) / (((n : Int) : Int) : Rat)) 2 k)) * (Nt.dmC n k g).2)) = (Nt.dmE n k i j).1 := by have e9 := Nt.dmC_mod (n := n) (b := k) (p := (2 * j + 1) * i) xq; rw [hg] at e9; unfold Nt.dmE; rw [← e9]; unfold Nt.dmS; (first | rw [if_pos az] | rw [if_neg az])
    have bS : (Nt.hi4 ((Nt.gr k (Nt.rtN (((1 : Int) : Rat) / (((n : Int) : Int) : Rat)) 2 k : Int)) * (Nt.dmC n k g).1) ((Nt.gr k (Nt.rtN (((1 : Int) : Rat) / (((n : Int) : Int) : Rat)) 2 k : Int)) * (Nt.dmC n k g).2) ((Nt.gr k (Nt.rtH (((1 : Int) : Rat) / (((n : Int) : Int) : Rat)) 2 k)) * (Nt.dmC n k g).1) ((Nt.gr k (Nt.rtH (((1 : Int) : Rat) / (((n : Int) : Int) : Rat)) 2 k)) * (Nt.dmC n k g).2)) = (Nt.dmE n k i j).2 := by have e9 := Nt.dmC_mod (n := n) (b := k) (p := (2 * j + 1) * i) xq; rw [hg] at e9; unfold Nt.dmE; rw [← e9]; unfold Nt.dmS; (first | rw [if_pos az] | rw [if_neg az])
    have hrow9 := Nt.dmM_at (n := n) (b := k) (k := i) xq
    have hpr9 := Nt.prs_at (f := Nt.dmE n k i) (n := n) (j := j) xq
    have hR9 := RatsP.two (RatsP.keep (f2.ext (ax.t aT.ext)) hq86 an) xq (MutQ.keep hq86 an b7) (MutQ.keep hq86 an ct) (by rw [hrow9]; exact (bU).trans hpr9.1.symm) (by rw [hrow9]; exact (bS).trans hpr9.2.symm)
    rw [← av] at hR9
    refine ⟨_, ?_, _, by exact zzu _ _ _, j + 1, Q9, rfl, by omega, aO, by rw [av, List.length_set, List.length_set]; exact hQi, rfl, eX86r, (hM9.ext (Ext.refl _)), (hP9.ext (Ext.refl _)), (hR9.ext (Ext.refl _))⟩
    omega
   have qhb68 := of_decide_eq_false aG
   refine zyb (zzo (zzf (zyp 119 (x := zI (IntKind.i64.wrap ((i : Int) + 1))) (zI (i + 1 : Nat)) (eqI xk) (zza 79 (zI (i + 1 : Nat)) (zzw ?_)))))
   have hrow8 := Nt.dmM_at (n := n) (b := k) (k := i) xq
   have hfull := RatsP.full f2 xq (by rw [hrow8, Nt.dmRow_len]; omega : ((Nt.dmM n k).getD i []).length = 2 * j)
   refine ⟨_, ?_, _, by exact zzu _ _ _, i + 1, bI, Q, rfl, by omega, hQl, rfl, aI, f0, (MatP.next f1 hfull)⟩
   omega
  have bg : ¬ ((i : Int) = 0) := by simpa using ar
  have az : ¬ i = 0 := by have h9 := ar; simp at h9; omega
  refine zzr (zzo ?_)
  refine sq9 (zza 86 (.v (.slice (some ⟨aa, 0, none⟩) n n)) (zza 87 (zI i) (zza 88 (zI n) (sy_makeF 89 (T := 84) (E := 32) (z := .agg #[.bool false, .slice none 0 0, .slice none 0 0, .bool false, .slice none 0 0, .slice none 0 0]) (size := 6) (bytes := 112) n (rcs (List.replicate (2 * n) rl0)) xj xj rfl rfl xq yq (made_rcs2 _) (fun ap cD bn cn cj b6 => ?_)))))
  have bx : MutQ (2 * 3) 32 b5.heap.size cD (⟨some ⟨ap, 0, none⟩, n, n⟩ : Sl) (rcs (List.replicate (2 * n) rl0)) := MutQ.lit cn (by rw [zyx, List.length_replicate]; omega) yq b6 (nu_rcs _)
  obtain ⟨b89, a0, cm⟩ := MatQ.cell (i := i) (aF.ext bn) xq
  refine zzz 90 (0 + i * 1) (n := n) (off := 0) (sz := 1) (i := (i : Int)) xq a0 xq xq sl81 ?_
  have hq90 := (aF.ext bn)
  refine sy_storeQ (v := .slice (some ⟨ap, 0, none⟩) n n) (off := 0 + i * 1) (n := 1) (⟨some ⟨aa, 0, none⟩, n, n⟩ : Sl) (MatQ.out hq90) (fun a ha => by injection ha with ha; subst ha; exact .inl bX) a0 ty84 (by rw [List.length_map, MatQ.len hq90]; have h9 : _ := xq; omega) (nu_sls [(⟨some ⟨ap, 0, none⟩, n, n⟩ : Sl)]) (fun cE bT aH => ?_)
  have bA : MutQ 1 84 am.heap.size cE (⟨some ⟨aa, 0, none⟩, n, n⟩ : Sl) ((Rs.set i (⟨some ⟨ap, 0, none⟩, n, n⟩ : Sl)).map Sl.v) := by rw [← setL_map (y := (⟨some ⟨ap, 0, none⟩, n, n⟩ : Sl)) (i := i) (by rw [MatQ.len hq90]; omega)]; exact bT
  have eX90r := ExtX.root aH (MutQ.mutL (MatQ.out hq90)) (bh.trans bn)
  have hM91 := MatQ.storeOut xw hq90 xq bA aH (MutQ.low bx (Ext.size bh)) (fun j hj _ => MatQ.fresh aF b6 j hj)
  obtain ⟨bN, a3⟩ : ∃ R, Rs.set i (⟨some ⟨ap, 0, none⟩, n, n⟩ : Sl) = R := ⟨_, rfl⟩
  have au : bN.getD i sl0 = (⟨some ⟨ap, 0, none⟩, n, n⟩ : Sl) := by rw [← a3]; exact getD_set_same (by have h9 := MatQ.len hq90; omega)
  rw [a3] at hM91
  have hP91 := MatP.keep (bO.ext bn) (MatQ.out hq90) aH
  replace hP91 := MatP.set (L := (List.replicate (2 * n) rl0)) hP91 (Nat.le_refl i)
  obtain ⟨bu, aQ⟩ : ∃ S, Ls.set i ((List.replicate (2 * n) rl0)) = S := ⟨_, rfl⟩
  have aZ : bu.length = n := by rw [← aQ, List.length_set]; exact hLl
  have bc : bu.getD i [] = (List.replicate (2 * n) rl0) := by rw [← aQ]; exact getD_set_same xq
  rw [aQ] at hM91 hP91
  refine zzc 121 [(0, zI n), (6, .adr 6 0), (8, .adr 8 0), (10, .v (.slice (some ⟨al, 0, none⟩) (4 * n) (4 * n))), (14, .v (.slice (some ⟨aa, 0, none⟩) n n)), (15, zI i), (16, .adr 16 0), (78, zI n), (79, zI i)] [(6, ⟨32, ad.cs ++ ae.cs⟩), (8, ⟨32, ab.cs ++ ac.cs⟩), (16, ⟨32, ab.cs ++ ac.cs⟩)] (sq9 (zza 91 (.v (.slice (some ⟨aa, 0, none⟩) n n)) (zza 92 (zI i) ?_)))
  obtain ⟨b92, bR, a8⟩ := MatQ.cell (i := i) hM91 xq
  refine zzz 93 (0 + i * 1) (n := n) (off := 0) (sz := 1) (i := (i : Int)) xq bR xq xq sl81 ?_
  rw [au] at a8
  refine zyk 94 (.slice (some ⟨ap, 0, none⟩) n n) a8 ty84 (zza 95 (zI n) (zza 96 (zI 0) (zzb (zzs (zym (I := fun b1 S' u' => ∃ (j : Nat) (Q : List (List RL)), (b1 = n - j) ∧ (j ≤ n) ∧ (Q.length = n) ∧ ((Q.getD i []).length = 2 * n) ∧ (S' = St.of 121 [(0, zI n), (6, .adr 6 0), (8, .adr 8 0), (10, .v (.slice (some ⟨al, 0, none⟩) (4 * n) (4 * n))), (14, .v (.slice (some ⟨aa, 0, none⟩) n n)), (15, zI i), (16, .adr 16 0), (78, zI n), (79, zI i), (95, zI n), (96, zI j)] [(6, ⟨32, ad.cs ++ ae.cs⟩), (8, ⟨32, ab.cs ++ ac.cs⟩), (16, ⟨32, ab.cs ++ ac.cs⟩)]) ∧ (Ext am u') ∧ (MatQ 2 84 32 am.heap.size u' (⟨some ⟨aa, 0, none⟩, n, n⟩ : Sl) bN Q) ∧ (MatP u' Q (Nt.dmM n k) i (1000 + 80)) ∧ (RatsP u' (Q.getD i []) ((Nt.dmM n k).getD i []) (2 * j) (1000 + 80))) (fun m S u1 u2 e h => by obtain ⟨j, Q, hm, p0, p1, p2, hS, hE, f0, f1, f2⟩ := h; exact ⟨j, Q, hm, p0, p1, p2, hS, hE.trans e, f0.ext e, f1.ext e, f2.ext e⟩) _ yz ⟨0, bu, rfl, by omega, aZ, by rw [bc, List.length_replicate], rfl, eX90r, hM91, hP91, (RatsP.zero _ _ _ _)⟩ ?_)))))
  rintro b1 _ cf ⟨j, Q, b9, hj, hQl, hQi, rfl, aL, f0, f1, f2⟩
  have hrw : MutQ (2 * 3) 32 am.heap.size cf (⟨some ⟨ap, 0, none⟩, n, n⟩ : Sl) (rcs (Q.getD i [])) := by have h9 := MatQ.row f0 i xq; rw [au] at h9; exact h9
  refine sq9 (zza 97 (zB (decide ((j : Int) < (n : Int)))) (zzb (zzd (zzt (b := decide ((j : Int) < (n : Int))) xj (fun aN => ?_) (fun aN => ?_)))))
  ·have qhb94 := of_decide_eq_true aN
   refine zzr (zzo ?_)
   refine zzd (zzs (sq9 (zza 98 (zI j) (zza 17 (zI j) (zzb ?_)))))
   have hpb : (2 * j + 1) * i ≤ 127 * 63 := Nat.mul_le_mul xq xq
   obtain ⟨g, hg⟩ : ∃ g, (2 * j + 1) * i % (4 * n) = g := ⟨_, rfl⟩
   have hgl : g < 4 * n := by rw [← hg]; exact Nat.mod_lt _ xq
   obtain ⟨pz, hpz⟩ : ∃ p, (2 * j + 1) * i = p := ⟨_, rfl⟩
   rw [hpz] at hpb
   refine sw_anyC [0, 0, 3, 7, 0, 0, 0, 0, 128, 384, 0, 1920, 0, 4096, 16256, 32704, 65472, 131040, 262143, 524287] [(0, []), (1, []), (2, []), (3, []), (4, []), (5, []), (6, []), (7, []), (8, []), (9, []), (10, []), (11, []), (12, []), (13, []), (14, []), (15, []), (16, []), (17, [])] [(18, []), (19, [])] xj xj xj ?_
   refine zza 99 (.v (.slice (some ⟨aa, 0, none⟩) n n)) (zza 100 (zI i) ?_)
   obtain ⟨b95, br, aX⟩ := MatQ.cell (i := i) f0 xq
   refine zzz 101 (0 + i * 1) (n := n) (off := 0) (sz := 1) (i := (i : Int)) xq br xq xq sl81 ?_
   rw [au] at aX
   refine zyk 102 (.slice (some ⟨ap, 0, none⟩) n n) aX ty84 (zza 103 (zI j) (zzh 104 (.v (.agg #[.bool ab.s, ab.m.v, ab.d.v, .bool ac.s, ac.m.v, ac.d.v])) ty32 zze (zza 105 (.v (.slice (some ⟨al, 0, none⟩) (4 * n) (4 * n))) (zza 106 (zI j) (zyp 107 (x := zI (IntKind.i64.wrap ((2 : Int) * (j : Int)))) (zI (2 * j : Nat)) (eqI xk) (zyp 108 (x := zI (IntKind.i64.wrap (((2 * j : Nat) : Int) + 1))) (zI (((2 * j) + 1 : Nat) : Int)) (eqI xk) (zza 109 (zI i) (zyp 110 (x := zI (IntKind.i64.wrap ((((2 * j) + 1 : Nat) : Int) * (i : Int)))) (zI (pz : Nat)) (eqI (by rw [← hpz, ← Int.natCast_mul]; exact IntWalk.i64_in _ (by rw [hpz]; omega))) (zza 111 (zI n) (zyp 112 (x := zI (IntKind.i64.wrap ((4 : Int) * (n : Int)))) (zI (4 * n : Nat)) (eqI xk) (sy_rem 113 (n := ((pz : Nat) : Int)) (m := ((4 * n : Nat) : Int)) ((g : Nat) : Int) xq (by rw [Int.tmod_eq_emod_of_nonneg xq, ← hg, ← hpz, Int.natCast_emod]) ?_)))))))))))
   obtain ⟨b96, bH, aK⟩ := MutQ.el2 (j := g) (bi.ext aL) xq
   refine zzz 114 (0 + g * 6) (n := 4 * n) (off := 0) (sz := 6) (i := (g : Int)) xq bH xq xq sl84 ?_
   obtain ⟨cL, a2⟩ : ∃ r : RL, L.getD (2 * g) rl0 = r := ⟨_, rfl⟩
   rw [a2] at aK
   obtain ⟨cS, aC⟩ : ∃ r : RL, L.getD (2 * g + 1) rl0 = r := ⟨_, rfl⟩
   rw [aC] at aK
   have hv101 := (by have h9 := (hcN.ext aL).2 (2 * g) (by rw [Nt.dmT_len]; omega); rw [(Nt.dmT_at (n := n) (b := k) (j := g) xq).1] at h9; exact h9)
   rw [a2] at hv101
   have hv102 := (by have h9 := (hcN.ext aL).2 (2 * g + 1) (by rw [Nt.dmT_len]; omega); rw [(Nt.dmT_at (n := n) (b := k) (j := g) xq).2] at h9; exact h9)
   rw [aC] at hv102
   refine zyl 115 (cL.cs ++ cS.cs) aK ty32 (zzg 116 133 _ fun _ _ af bP => Post.mono (k_ivMul bP (ci.ext (aU.trans (aL.trans af))).raw (cx.ext (aU.trans (aL.trans af))).raw (hv101.ext af).raw (hv102.ext af).raw xq xq) ?_)
   rintro _ cv ao ⟨ah, ai, rfl, bV, bB⟩
   refine zzw ?_
   obtain ⟨ck, aD, bZ⟩ := MutQ.el2 (j := j) (hrw.ext (af.t ao.ext)) xq
   refine zzz 117 (0 + j * 6) (n := n) (off := 0) (sz := 6) (i := (j : Int)) xq aD xq xq sl84 ?_
   have hq112 := (hrw.ext (af.t ao.ext))
   refine sy_storeQ (v := .agg #[.bool ah.s, ah.m.v, ah.d.v, .bool ai.s, ai.m.v, ai.d.v]) (off := 0 + j * 6) (n := 6) (⟨some ⟨ap, 0, none⟩, n, n⟩ : Sl) hq112 (fun a ha => by injection ha with ha; subst ha; exact .inl cj) aD ty32 (by rw [zyx]; have h9 : _ := xq; omega) (nu_app (nu_rl ah) (nu_rl ai)) (fun bq aW ag => ?_)
   have a7 : MutQ (2 * 3) 32 am.heap.size bq (⟨some ⟨ap, 0, none⟩, n, n⟩ : Sl) (rcs (((Q.getD i []).set (2 * j) ah).set (2 * j + 1) ai)) := by rw [← setL_two xq]; exact aW
   have eX112r := ExtX.root ag (MutQ.mutL hq112) (aL.t (af.t ao.ext))
   refine zzw ?_
   refine zzo (zzf (zyp 118 (x := zI (IntKind.i64.wrap ((j : Int) + 1))) (zI (j + 1 : Nat)) (eqI xk) (zza 96 (zI (j + 1 : Nat)) (zzw ?_))))
   have hM9 := MatQ.storeRow xw (f0.ext (af.t ao.ext)) (i := i) xq (L := (((Q.getD i []).set (2 * j) ah).set (2 * j + 1) ai)) (by rw [au]; exact a7) (by rw [au]; exact ag)
   obtain ⟨Q9, aJ⟩ : ∃ Q9, Q.set i (((Q.getD i []).set (2 * j) ah).set (2 * j + 1) ai) = Q9 := ⟨_, rfl⟩
   have aO : Q9.length = n := by rw [← aJ, List.length_set]; exact hQl
   have av : Q9.getD i [] = (((Q.getD i []).set (2 * j) ah).set (2 * j + 1) ai) := by rw [← aJ]; exact getD_set_same xq
   have hP9 := MatP.set (L := (((Q.getD i []).set (2 * j) ah).set (2 * j + 1) ai)) (MatP.keep (f1.ext (af.t ao.ext)) hq112 ag) (Nat.le_refl i)
   rw [aJ] at hM9 hP9
   have bU : (Nt.lo4 ((Nt.gr k (Nt.rtN (((2 : Int) : Rat) / (((n : Int) : Int) : Rat)) 2 k : Int)) * (Nt.dmC n k g).1) ((Nt.gr k (Nt.rtN (((2 : Int) : Rat) / (((n : Int) : Int) : Rat)) 2 k : Int)) * (Nt.dmC n k g).2) ((Nt.gr k (Nt.rtH (((2 : Int) : Rat) / (((n : Int) : Int) : Rat)) 2 k)) * (Nt.dmC n k g).1) ((Nt.gr k (Nt.rtH (((2 : Int) : Rat) / (((n : Int) : Int) : Rat)) 2 k)) * (Nt.dmC n k g).2)) = (Nt.dmE n k i j).1 := by have e9 := Nt.dmC_mod (n := n) (b := k) (p := (2 * j + 1) * i) xq; rw [hg] at e9; unfold Nt.dmE; rw [← e9]; unfold Nt.dmS; (first | rw [if_pos az] | rw [if_neg az])
   have bS : (Nt.hi4 ((Nt.gr k (Nt.rtN (((2 : Int) : Rat) / (((n : Int) : Int) : Rat)) 2 k : Int)) * (Nt.dmC n k g).1) ((Nt.gr k (Nt.rtN (((2 : Int) : Rat) / (((n : Int) : Int) : Rat)) 2 k : Int)) * (Nt.dmC n k g).2) ((Nt.gr k (Nt.rtH (((2 : Int) : Rat) / (((n : Int) : Int) : Rat)) 2 k)) * (Nt.dmC n k g).1) ((Nt.gr k (Nt.rtH (((2 : Int) : Rat) / (((n : Int) : Int) : Rat)) 2 k)) * (Nt.dmC n k g).2)) = (Nt.dmE n k i j).2 := by have e9 := Nt.dmC_mod (n := n) (b := k) (p := (2 * j + 1) * i) xq; rw [hg] at e9; unfold Nt.dmE; rw [← e9]; unfold Nt.dmS; (first | rw [if_pos az] | rw [if_neg az])
   have hrow9 := Nt.dmM_at (n := n) (b := k) (k := i) xq
   have hpr9 := Nt.prs_at (f := Nt.dmE n k i) (n := n) (j := j) xq
   have hR9 := RatsP.two (RatsP.keep (f2.ext (af.t ao.ext)) hq112 ag) xq (MutQ.keep hq112 ag bV) (MutQ.keep hq112 ag bB) (by rw [hrow9]; exact (bU).trans hpr9.1.symm) (by rw [hrow9]; exact (bS).trans hpr9.2.symm)
   rw [← av] at hR9
   refine ⟨_, ?_, _, by exact zzu _ _ _, j + 1, Q9, rfl, by omega, aO, by rw [av, List.length_set, List.length_set]; exact hQi, rfl, eX112r, (hM9.ext (Ext.refl _)), (hP9.ext (Ext.refl _)), (hR9.ext (Ext.refl _))⟩
   omega
  have qhb94 := of_decide_eq_false aN
  refine zyb (zzo (zzf (zyp 119 (x := zI (IntKind.i64.wrap ((i : Int) + 1))) (zI (i + 1 : Nat)) (eqI xk) (zza 79 (zI (i + 1 : Nat)) (zzw ?_)))))
  have hrow8 := Nt.dmM_at (n := n) (b := k) (k := i) xq
  have hfull := RatsP.full f2 xq (by rw [hrow8, Nt.dmRow_len]; omega : ((Nt.dmM n k).getD i []).length = 2 * j)
  refine ⟨_, ?_, _, by exact zzu _ _ _, i + 1, bN, Q, rfl, by omega, hQl, rfl, aL, f0, (MatP.next f1 hfull)⟩
  omega
 have qhb59 := of_decide_eq_false aS
 refine zyb (zzo (sq9 (zza 120 (.v (.slice (some ⟨aa, 0, none⟩) n n)) (zza 4 (.v (.slice (some ⟨aa, 0, none⟩) n n)) (zza 5 (zI 0) (zzb (zzn (ret0 [.slice (some ⟨aa, 0, none⟩) n n, .int .i64 0] ⟨zzp, zzp, trivial⟩ fun cK ba => ?_))))))))
 refine ⟨(⟨some ⟨aa, 0, none⟩, n, n⟩ : Sl), Rs, Ls, rfl, MatQ.low (aF.ext ba) (Ext.size (cR.t (cy.t (bW.t (cc.t (bp.t (bs.t (bm.t (bD.t aU))))))))), MatP.full (m := n) (by have h9 := (bO.ext ba); rw [show i = n by omega] at h9; exact h9) hLl (Nt.dmM_len n k)⟩
end Go.Proofs.YtbolmkfphieogaaGreat
