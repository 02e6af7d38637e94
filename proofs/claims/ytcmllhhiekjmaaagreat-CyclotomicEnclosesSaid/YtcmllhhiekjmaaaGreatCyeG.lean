/- Parts of the proof: contracts of functions, each walked once, and plain laws. -/
import Derived.Test.YtcmllhhiekjmaaaGreatCyeF
import Derived.ScopeJumps
import Derived.ArgAppend
set_option linter.unusedVariables false
set_option maxHeartbeats 8000000
namespace Go.Proofs.YtcmllhhiekjmaaaGreat
open Nt
open Go.RowKit
theorem k_ePi {u w : World} {k : Nat} (d : Dat u w) (hk0 : 16 ≤ k) (hk : k ≤ 800) : qyc 330 #[.int .i64 (k : Int)] w (Post u w fun v u' => ∃ (i j : IL) (a b : Int), v = SP i j ∧ IntN u' i a 42 ∧ IntN u' j b 42 ∧ Nt.PiR k a b) := by
 have hbig := Nt.big hk
 have hu2 := Nt.u2_pos k
 refine zzl (args := [.int .i64 k]) Tryz.func330 rfl Tryz.ntmps330 (rs := [.cell 2 271]) Tryz.results330 (le_b rfl) (le_b rfl) d ?_
 refine sq9 (zzj 2 ⟨271, [.bool false, qyn, .bool false, qyn]⟩ (zzb (sq9 (zza 3 (zI k) (zzg 4 366 _ fun _ _ _ aA => qym (k_arctan aA (n := 5) (k := k) xq xq xq) ?_)))))
 rintro _ u13 g14 ⟨aJ, aB, au, aw, rfl, ai, ag, ah⟩
 refine zzg 5 331 _ fun _ _ ao aG => qym (k_eTimes aG (ai.ext ao) (ag.ext ao) (n9 := 16) xq xq) ?_
 rintro _ u21 g22 ⟨i17, i19, rfl, ay, ax⟩
 refine zza 6 (zI k) (zzg 7 366 _ fun _ _ ak ap => qym (k_arctan ap (n := 239) (k := k) xq xq xq) ?_)
 rintro _ u26 al ⟨az, aq, aC, aD, rfl, aj, af, ae⟩
 refine zzg 8 331 _ fun _ _ aa aH => qym (k_eTimes aH (aj.ext aa) (af.ext aa) (n9 := 4) xq xq) ?_
 rintro _ u34 an ⟨i30, i32, rfl, aE, ar⟩
 refine zzg 9 334 _ fun _ _ ab aI => qym (k_eSub aI (ay.ext (ak.t (al.t (aa.t (an.t ab))))) (ax.ext (ak.t (al.t (aa.t (an.t ab))))) (aE.ext ab) (ar.ext ab) xq xq) ?_
 rintro _ u42 g43 ⟨ac, ad, rfl, av, aF⟩
 refine zzi ⟨271, ac.cs ++ ad.cs⟩ ty271 ?_
 refine zzb (zzn (ret0 [.agg #[.bool ac.s, ac.m.v, .bool ad.s, ad.m.v]] ⟨zzq ty271 zze, trivial⟩ fun u45 am => ?_))
 have hP := Nt.PiR.of ah ae
 have hb9 := hP.bd hk0
 exact ⟨ac, ad, _, _, rfl, IntN.lim2 (av.ext am) xq xq, IntN.lim2 (aF.ext am) xq xq, hP⟩
theorem k_cosineOf {u w : World} {p q k : Nat} (d : Dat u w) (hq0 : 0 < q) (hq : q ≤ 100000) (hp : 2 * p ≤ q) (hp1 : 1 ≤ p) (hk0 : 16 ≤ k) (hk : k ≤ 800) : qyc 269 #[.int .i64 (p : Int), .int .i64 (q : Int), .int .i64 (k : Int)] w (Post u w fun v u' => ∃ (i j : IL) (a b : Int), v = SP i j ∧ IntN u' i a 42 ∧ IntN u' j b 42 ∧ Nt.CsR p q k a b) := by
 have hbig := Nt.big hk
 have hu2 := Nt.u2_pos k
 refine zzl (args := [.int .i64 p, .int .i64 q, .int .i64 k]) Tryz.func269 rfl Tryz.ntmps269 (rs := [.cell 6 271]) Tryz.results269 (le_b rfl) (le_b rfl) d ?_
 refine sq9 (zzj 6 ⟨271, [.bool false, qyn, .bool false, qyn]⟩ (zzb (sq9 (zza 12 (zI k) (zzg 13 330 _ fun _ _ _ bF => qym (k_ePi bF (k := k) xq xq) ?_)))))
 rintro _ u13 g14 ⟨bs, bp, aq, ar, rfl, aZ, aY, a2⟩
 refine zza 14 (zI p) (zzg 15 331 _ fun _ _ be bI => qym (k_eTimes bI (aZ.ext be) (aY.ext be) (n9 := p) xq xq) ?_)
 rintro _ u21 g22 ⟨i17, i19, rfl, bm, bC⟩
 refine zza 16 (zI q) (zzg 17 158 _ fun _ _ a7 bj => qym (k_intOf bj (z := (q : Int)) xq xq) ?_)
 rintro _ u27 bb ⟨i25, rfl, bB⟩
 refine zzg 18 332 _ fun _ _ aW bu => qym (k_eOver bu (bm.ext (a7.t (bb.t aW))) (bC.ext (a7.t (bb.t aW))) (bB.ext aW) xq xq xq) ?_
 rintro _ u35 g36 ⟨aM, aP, rfl, ba, bf⟩
 refine zzj 7 ⟨271, [.bool false, qyn, .bool false, qyn]⟩ (zzi ⟨271, aM.cs ++ aP.cs⟩ ty271 ?_)
 refine zzb (zzd ?_)
 have hY : Nt.CsY p q k ((aq * ((p : Nat) : Int)) / (q : Int)) (Nt.cdiv (ar * ((p : Nat) : Int)) (q : Int)) := Nt.CsY.of a2 hk0 hq0 hp hp1
 refine zzf (zzh 19 (.v (.agg #[.bool aM.s, aM.m.v, .bool aP.s, aP.m.v])) ty271 zze (zzh 20 (.v (.agg #[.bool aM.s, aM.m.v, .bool aP.s, aP.m.v])) ty271 zze (zza 21 (zI k) (zzg 22 333 _ fun _ _ aS bE => qym (k_eProd (p := k) bE (ba.ext aS) (bf.ext aS) (ba.ext aS) (bf.ext aS) xq xq xq) ?_))))
 rintro _ u43 g44 ⟨aO, aL, rfl, bJ, bM⟩
 refine zzj 8 ⟨271, [.bool false, qyn, .bool false, qyn]⟩ (zzi ⟨271, aO.cs ++ aL.cs⟩ ty271 ?_)
 refine zzb (zzd ?_)
 have hQ : Nt.CsQ p q k (((aq * ((p : Nat) : Int)) / (q : Int)) * ((aq * ((p : Nat) : Int)) / (q : Int)) / Nt.u2 k) (Nt.cdiv ((Nt.cdiv (ar * ((p : Nat) : Int)) (q : Int)) * (Nt.cdiv (ar * ((p : Nat) : Int)) (q : Int))) (Nt.u2 k)) := Nt.CsQ.of hY
 obtain ⟨_, bc, bA, bl, bg, bn⟩ := id hQ
 obtain ⟨ql, hql⟩ : ∃ z : Int, (((aq * ((p : Nat) : Int)) / (q : Int)) * ((aq * ((p : Nat) : Int)) / (q : Int)) / Nt.u2 k) = z := ⟨_, rfl⟩
 obtain ⟨qh, hqh⟩ : ∃ z : Int, (Nt.cdiv ((Nt.cdiv (ar * ((p : Nat) : Int)) (q : Int)) * (Nt.cdiv (ar * ((p : Nat) : Int)) (q : Int))) (Nt.u2 k)) = z := ⟨_, rfl⟩
 have hs46 := bJ
 have hs47 := bM
 rw [hql] at hQ bc bA bg hs46
 rw [hqh] at hQ bc bl bg bn hs47
 have hs48 := IntN.lim2 hs46 xq xq
 have hs49 := IntN.lim2 hs47 xq xq
 refine zzf (zza 23 (zI k) (zzg 24 305 _ fun _ _ a8 bO => qym (k_eUnit (k := k) bO xq) ?_))
 rintro _ bt a9 ⟨ak, rfl, aU⟩
 refine zzj 9 ⟨271, [.bool false, qyn, .bool false, qyn]⟩ (zzi ⟨271, ak.cs ++ ak.cs⟩ ty271 ?_)
 refine zzb (sq9 (zzh 25 (.v (.agg #[.bool ak.s, ak.m.v, .bool ak.s, ak.m.v])) ty271 zze (zzj 10 ⟨271, [.bool false, qyn, .bool false, qyn]⟩ (zzi ⟨271, ak.cs ++ ak.cs⟩ ty271 ?_))))
 refine zzb (sq9 (zza 11 (zI 2) (zzb (zzs (zyl (I := fun bi S' u' => ∃ (j : Nat) (x1 : IL) (x2 : IL) (y1 : IL) (y2 : IL) (tl : Int) (th : Int) (sl : Int) (sh : Int), (bi = Nt.csM k j th) ∧ (Nt.CsI p q k j tl th sl sh) ∧ (S' = St.of 55 [(2, zI k), (6, .adr 6 0), (8, .adr 8 0), (9, .adr 9 0), (10, .adr 10 0), (11, zI (2 * j + 2 : Nat))] [(6, ⟨271, [.bool false, qyn, .bool false, qyn]⟩), (8, ⟨271, aO.cs ++ aL.cs⟩), (9, ⟨271, x1.cs ++ x2.cs⟩), (10, ⟨271, y1.cs ++ y2.cs⟩)]) ∧ (Ext bt u') ∧ (IntN u' x1 tl 42) ∧ (IntN u' x2 th 42) ∧ (IntN u' y1 sl 42) ∧ (IntN u' y2 sh 42)) (fun m S u1 u2 e h => by obtain ⟨j, x1, x2, y1, y2, tl, th, sl, sh, hm, p0, hS, hE, f0, f1, f2, f3⟩ := h; exact ⟨j, x1, x2, y1, y2, tl, th, sl, sh, hm, p0, hS, hE.trans e, f0.ext e, f1.ext e, f2.ext e, f3.ext e⟩) _ yv ⟨0, ak, ak, ak, ak, (Nt.u2 k), (Nt.u2 k), (Nt.u2 k), (Nt.u2 k), rfl, Nt.CsI.start, rfl, (Ext.refl _), (IntN.lim2 aU xq xq), (IntN.lim2 aU xq xq), (IntN.lim2 aU xq xq), (IntN.lim2 aU xq xq)⟩ ?_)))))
 rintro bi _ u56 ⟨j, x1, x2, y1, y2, tl, th, sl, sh, bT, hI, rfl, aI, f0, f1, f2, f3⟩
 have hjw := hI.c.jw
 have hD1 := Nt.coD_pos j
 have hD2 := Nt.coD_mul (j := j) xq
 refine zzd (zzs (sq9 (zzh 28 (.v (.agg #[.bool x1.s, x1.m.v, .bool x2.s, x2.m.v])) ty271 zze (zzh 29 (.v (.agg #[.bool aO.s, aO.m.v, .bool aL.s, aL.m.v])) ty271 zze (zza 30 (zI k) (zzg 31 333 _ fun _ _ aj bR => qym (k_eProd (p := k) bR (f0.ext aj) (f1.ext aj) (hs48.ext (a8.t (a9.t (aI.trans aj)))) (hs49.ext (a8.t (a9.t (aI.trans aj)))) xq xq xq) ?_))))))
 rintro _ u62 aB ⟨i58, i60, rfl, bD, bv⟩
 refine zza 32 (zI (2 * j + 2 : Nat)) (zza 33 (zI (2 * j + 2 : Nat)) (zyn 34 (x := zI (IntKind.i64.wrap (((2 * j + 2 : Nat) : Int) - 1))) (zI (((2 * j + 2) - 1 : Nat) : Int)) (eqI xk) (zyn 35 (x := zI (IntKind.i64.wrap (((2 * j + 2 : Nat) : Int) * ((2 * j + 2 - 1 : Nat) : Int)))) (zI (Nt.coD j)) (by rw [show (IntKind.i64.wrap (((2 * j + 2 : Nat) : Int) * ((2 * j + 2 - 1 : Nat) : Int))) = (Nt.coD j) from hD2.1]) (zzg 36 158 _ fun _ _ av bK => qym (k_intOf bK (z := (Nt.coD j)) xq xq) ?_))))
 rintro _ u68 au ⟨i66, rfl, bx⟩
 refine zzg 37 332 _ fun _ _ an bk => qym (k_eOver bk (bD.ext (av.t (au.t an))) (bv.ext (av.t (au.t an))) (bx.ext an) xq xq xq) ?_
 rintro _ u76 aD ⟨ah, ag, rfl, aC, az⟩
 refine zzi ⟨271, ah.cs ++ ag.cs⟩ ty271 ?_
 refine zzc 55 [(2, zI k), (6, .adr 6 0), (8, .adr 8 0), (9, .adr 9 0), (10, .adr 10 0), (11, zI (2 * j + 2 : Nat))] [(6, ⟨271, [.bool false, qyn, .bool false, qyn]⟩), (8, ⟨271, aO.cs ++ aL.cs⟩), (9, ⟨271, ah.cs ++ ag.cs⟩), (10, ⟨271, y1.cs ++ y2.cs⟩)] (zzd (sq9 (zza 38 (zI (2 * j + 2 : Nat)) (zza 39 (zI (Int.tmod ((2 * j + 2 : Nat) : Int) 4)) (zza 40 (zB ((Int.tmod ((2 * j + 2 : Nat) : Int) 4) == 2)) (zzb (zzt (b := (Int.tmod ((2 * j + 2 : Nat) : Int) 4) == 2) xj (fun aE => ?_) (fun aE => ?_))))))))
 ·have am : Int.tmod ((2 * j + 2 : Nat) : Int) 4 = ((2 * j + 2 : Nat) : Int) % 4 := Int.tmod_eq_emod_of_nonneg xq
  have aa :  j % 2 = 0 := by have h9 := aE; rw [am] at h9; simp at h9; omega
  refine zzf (zzh 41 (.v (.agg #[.bool y1.s, y1.m.v, .bool y2.s, y2.m.v])) ty271 zze (zzh 42 (.v (.agg #[.bool ah.s, ah.m.v, .bool ag.s, ag.m.v])) ty271 zze (zzg 43 334 _ fun _ _ ai bN => qym (k_eSub bN (f2.ext (aj.t (aB.t (av.t (au.t (an.t (aD.t ai))))))) (f3.ext (aj.t (aB.t (av.t (au.t (an.t (aD.t ai))))))) (aC.ext ai) (az.ext ai) xq xq) ?_)))
  rintro _ u85 aA ⟨aR, aQ, rfl, a6, aX⟩
  refine zzi ⟨271, aR.cs ++ aQ.cs⟩ ty271 ?_
  refine zzb (sq9 (zza 47 (zI (2 * j + 2 : Nat)) (zza 48 (zB (decide ((4 : Int) ≤ ((2 * j + 2 : Nat) : Int)))) ?_)))
  rcases Bool.eq_false_or_eq_true (decide ((4 : Int) ≤ ((2 * j + 2 : Nat) : Int))) with hs88 | hs88
  ·refine zyn 49 (x := zB (decide ((4 : Int) ≤ ((2 * j + 2 : Nat) : Int)))) (zB true) (by rw [hs88]) ?_
   have qhs88 := qyt hs88
   refine zzh 50 (.v (.agg #[.bool ah.s, ah.m.v, .bool ag.s, ag.m.v])) ty271 zze ?_ (hw := w1 2 true 49)
   refine zzg 51 336 _ (fun _ _ ay bP => qym (k_eTiny bP (aC.ext (ai.t (aA.t ay))) (az.ext (ai.t (aA.t ay))) xq) ?_) (hw := w1 2 true 49)
   rintro _ u90 aG rfl
   refine zza 52 (zB (decide ((Nt.cdiv (Nt.cdiv (th * qh) (Nt.u2 k)) (Nt.coD j)) ≤ 1))) (zzb (zzt (b := decide ((Nt.cdiv (Nt.cdiv (th * qh) (Nt.u2 k)) (Nt.coD j)) ≤ 1)) xj (fun ao => ?_) (fun ao => ?_)))
   ·have qhb93 := qyt ao
    refine sq9 (zzh 53 (.v (.agg #[.bool aR.s, aR.m.v, .bool aQ.s, aQ.m.v])) ty271 zze (zzg 54 337 _ fun _ _ bh bH => qym (k_eWider bH (a6.ext (ay.t (aG.t bh))) (aX.ext (ay.t (aG.t bh))) xq) ?_))
    rintro _ u99 bw ⟨aT, aV, rfl, bQ, bz⟩
    refine zzi ⟨271, aT.cs ++ aV.cs⟩ ty271 ?_
    refine zzb (zzn (zyr (zzv (zyq (zyr (ret0 [.agg #[.bool aT.s, aT.m.v, .bool aV.s, aV.m.v]] ⟨zzq ty271 zze, trivial⟩ fun bS aN => ?_))))))
    have ho := hI.out hQ hq0 hp (by have h9 := qyt hs88; omega) (qyt ao) (sl' := (sl - (Nt.cdiv (Nt.cdiv (th * qh) (Nt.u2 k)) (Nt.coD j)))) (sh' := (sh - ((tl * ql / Nt.u2 k) / (Nt.coD j)))) (.inl ⟨aa, rfl, rfl⟩)
    have hob := Nt.csR_bd ho hq0 hp hk
    exact ⟨aT, aV, _, _, rfl, IntN.lim2 (bQ.ext aN) xq xq, IntN.lim2 (bz.ext aN) xq xq, ho⟩
   have qhb93 := qyf ao
   refine zzr (zzo ?_)
   refine zzf (zza 26 (zI (2 * j + 2 : Nat)) (zyn 27 (x := zI (IntKind.i64.wrap (((2 * j + 2 : Nat) : Int) + 2))) (zI (((2 * j + 2) + 2 : Nat) : Int)) (eqI xk) (zza 11 (zI (((2 * j + 2) + 2 : Nat) : Int)) (zzw ?_))))
   have hgo := hI.go hQ (.inr (by have h9 : ¬ Nt.csH k j th qh ≤ 1 := qyf ao; omega)) (sl' := (sl - (Nt.cdiv (Nt.cdiv (th * qh) (Nt.u2 k)) (Nt.coD j)))) (sh' := (sh - ((tl * ql / Nt.u2 k) / (Nt.coD j)))) (.inl ⟨aa, rfl, rfl⟩)
   have hb9 := hgo.1.bd hq0 hp
   have hw9 := Nt.csW_le hk
   have ht0 := hgo.1.c.t0
   have ht1 := hgo.1.c.t1
   have htt := hgo.1.c.tt
   have ht2 := hgo.1.c.t2
   have hmm := hgo.2
   simp only [Nt.csL, Nt.csH] at ht0 ht1 htt ht2 hmm
   refine ⟨_, ?_, _, by exact zzu _ _ _, j + 1, ah, ag, aR, aQ, ((tl * ql / Nt.u2 k) / (Nt.coD j)), (Nt.cdiv (Nt.cdiv (th * qh) (Nt.u2 k)) (Nt.coD j)), (sl - (Nt.cdiv (Nt.cdiv (th * qh) (Nt.u2 k)) (Nt.coD j))), (sh - ((tl * ql / Nt.u2 k) / (Nt.coD j))), rfl, hgo.1, rfl, (aI.t (aj.t (aB.t (av.t (au.t (an.t (aD.t (ai.t (aA.t (ay.t aG.ext)))))))))), (IntN.lim2 (aC.ext (ai.t (aA.t (ay.t aG.ext)))) xq xq), (IntN.lim2 (az.ext (ai.t (aA.t (ay.t aG.ext)))) xq xq), (IntN.lim2 (a6.ext (ay.t aG.ext)) xq xq), (IntN.lim2 (aX.ext (ay.t aG.ext)) xq xq)⟩
   omega
  refine zyn 49 (x := zB (decide ((4 : Int) ≤ ((2 * j + 2 : Nat) : Int)))) (zB false) (by rw [hs88]) ?_
  have qhs88 := qyf hs88
  refine zzm 50 (uw 2 true false 49) (zzm 51 (uw 2 true false 49) (zza 52 (zB false) (zzb (zyp xj (zzr (zzo ?_))))))
  refine zzf (zza 26 (zI (2 * j + 2 : Nat)) (zyn 27 (x := zI (IntKind.i64.wrap (((2 * j + 2 : Nat) : Int) + 2))) (zI (((2 * j + 2) + 2 : Nat) : Int)) (eqI xk) (zza 11 (zI (((2 * j + 2) + 2 : Nat) : Int)) (zzw ?_))))
  have hgo := hI.go hQ (.inl (by have h9 := qyf hs88; omega)) (sl' := (sl - (Nt.cdiv (Nt.cdiv (th * qh) (Nt.u2 k)) (Nt.coD j)))) (sh' := (sh - ((tl * ql / Nt.u2 k) / (Nt.coD j)))) (.inl ⟨aa, rfl, rfl⟩)
  have hb9 := hgo.1.bd hq0 hp
  have hw9 := Nt.csW_le hk
  have ht0 := hgo.1.c.t0
  have ht1 := hgo.1.c.t1
  have htt := hgo.1.c.tt
  have ht2 := hgo.1.c.t2
  have hmm := hgo.2
  simp only [Nt.csL, Nt.csH] at ht0 ht1 htt ht2 hmm
  refine ⟨_, ?_, _, by exact zzu _ _ _, j + 1, ah, ag, aR, aQ, ((tl * ql / Nt.u2 k) / (Nt.coD j)), (Nt.cdiv (Nt.cdiv (th * qh) (Nt.u2 k)) (Nt.coD j)), (sl - (Nt.cdiv (Nt.cdiv (th * qh) (Nt.u2 k)) (Nt.coD j))), (sh - ((tl * ql / Nt.u2 k) / (Nt.coD j))), rfl, hgo.1, rfl, (aI.t (aj.t (aB.t (av.t (au.t (an.t (aD.t (ai.t aA.ext)))))))), (IntN.lim2 (aC.ext (ai.t aA.ext)) xq xq), (IntN.lim2 (az.ext (ai.t aA.ext)) xq xq), (IntN.lim2 a6 xq xq), (IntN.lim2 aX xq xq)⟩
  omega
 have am : Int.tmod ((2 * j + 2 : Nat) : Int) 4 = ((2 * j + 2 : Nat) : Int) % 4 := Int.tmod_eq_emod_of_nonneg xq
 have aa : ¬ j % 2 = 0 := by have h9 := aE; rw [am] at h9; simp at h9; omega
 refine zzf (zzh 44 (.v (.agg #[.bool y1.s, y1.m.v, .bool y2.s, y2.m.v])) ty271 zze (zzh 45 (.v (.agg #[.bool ah.s, ah.m.v, .bool ag.s, ag.m.v])) ty271 zze (zzg 46 335 _ fun _ _ ab a4 => qym (k_eAdd a4 (f2.ext (aj.t (aB.t (av.t (au.t (an.t (aD.t ab))))))) (f3.ext (aj.t (aB.t (av.t (au.t (an.t (aD.t ab))))))) (aC.ext ab) (az.ext ab) xq xq) ?_)))
 rintro _ bG ae ⟨al, ap, rfl, aF, aH⟩
 refine zzi ⟨271, al.cs ++ ap.cs⟩ ty271 ?_
 refine zzb (sq9 (zza 47 (zI (2 * j + 2 : Nat)) (zza 48 (zB (decide ((4 : Int) ≤ ((2 * j + 2 : Nat) : Int)))) ?_)))
 rcases Bool.eq_false_or_eq_true (decide ((4 : Int) ≤ ((2 * j + 2 : Nat) : Int))) with hs112 | hs112
 ·refine zyn 49 (x := zB (decide ((4 : Int) ≤ ((2 * j + 2 : Nat) : Int)))) (zB true) (by rw [hs112]) ?_
  have qhs112 := qyt hs112
  refine zzh 50 (.v (.agg #[.bool ah.s, ah.m.v, .bool ag.s, ag.m.v])) ty271 zze ?_ (hw := w1 2 true 49)
  refine zzg 51 336 _ (fun _ _ ac a1 => qym (k_eTiny a1 (aC.ext (ab.t (ae.t ac))) (az.ext (ab.t (ae.t ac))) xq) ?_) (hw := w1 2 true 49)
  rintro _ bL af rfl
  refine zza 52 (zB (decide ((Nt.cdiv (Nt.cdiv (th * qh) (Nt.u2 k)) (Nt.coD j)) ≤ 1))) (zzb (zzt (b := decide ((Nt.cdiv (Nt.cdiv (th * qh) (Nt.u2 k)) (Nt.coD j)) ≤ 1)) xj (fun ad => ?_) (fun ad => ?_)))
  ·have qhb117 := qyt ad
   refine sq9 (zzh 53 (.v (.agg #[.bool al.s, al.m.v, .bool ap.s, ap.m.v])) ty271 zze (zzg 54 337 _ fun _ _ aJ a5 => qym (k_eWider a5 (aF.ext (ac.t (af.t aJ))) (aH.ext (ac.t (af.t aJ))) xq) ?_))
   rintro _ bq br ⟨ax, aw, rfl, a0, a3⟩
   refine zzi ⟨271, ax.cs ++ aw.cs⟩ ty271 ?_
   refine zzb (zzn (zyr (zzv (zyq (zyr (ret0 [.agg #[.bool ax.s, ax.m.v, .bool aw.s, aw.m.v]] ⟨zzq ty271 zze, trivial⟩ fun bo aK => ?_))))))
   have ho := hI.out hQ hq0 hp (by have h9 := qyt hs112; omega) (qyt ad) (sl' := (sl + ((tl * ql / Nt.u2 k) / (Nt.coD j)))) (sh' := (sh + (Nt.cdiv (Nt.cdiv (th * qh) (Nt.u2 k)) (Nt.coD j)))) (.inr ⟨aa, rfl, rfl⟩)
   have hob := Nt.csR_bd ho hq0 hp hk
   exact ⟨ax, aw, _, _, rfl, IntN.lim2 (a0.ext aK) xq xq, IntN.lim2 (a3.ext aK) xq xq, ho⟩
  have qhb117 := qyf ad
  refine zzr (zzo ?_)
  refine zzf (zza 26 (zI (2 * j + 2 : Nat)) (zyn 27 (x := zI (IntKind.i64.wrap (((2 * j + 2 : Nat) : Int) + 2))) (zI (((2 * j + 2) + 2 : Nat) : Int)) (eqI xk) (zza 11 (zI (((2 * j + 2) + 2 : Nat) : Int)) (zzw ?_))))
  have hgo := hI.go hQ (.inr (by have h9 : ¬ Nt.csH k j th qh ≤ 1 := qyf ad; omega)) (sl' := (sl + ((tl * ql / Nt.u2 k) / (Nt.coD j)))) (sh' := (sh + (Nt.cdiv (Nt.cdiv (th * qh) (Nt.u2 k)) (Nt.coD j)))) (.inr ⟨aa, rfl, rfl⟩)
  have hb9 := hgo.1.bd hq0 hp
  have hw9 := Nt.csW_le hk
  have ht0 := hgo.1.c.t0
  have ht1 := hgo.1.c.t1
  have htt := hgo.1.c.tt
  have ht2 := hgo.1.c.t2
  have hmm := hgo.2
  simp only [Nt.csL, Nt.csH] at ht0 ht1 htt ht2 hmm
  refine ⟨_, ?_, _, by exact zzu _ _ _, j + 1, ah, ag, al, ap, ((tl * ql / Nt.u2 k) / (Nt.coD j)), (Nt.cdiv (Nt.cdiv (th * qh) (Nt.u2 k)) (Nt.coD j)), (sl + ((tl * ql / Nt.u2 k) / (Nt.coD j))), (sh + (Nt.cdiv (Nt.cdiv (th * qh) (Nt.u2 k)) (Nt.coD j))), rfl, hgo.1, rfl, (aI.t (aj.t (aB.t (av.t (au.t (an.t (aD.t (ab.t (ae.t (ac.t af.ext)))))))))), (IntN.lim2 (aC.ext (ab.t (ae.t (ac.t af.ext)))) xq xq), (IntN.lim2 (az.ext (ab.t (ae.t (ac.t af.ext)))) xq xq), (IntN.lim2 (aF.ext (ac.t af.ext)) xq xq), (IntN.lim2 (aH.ext (ac.t af.ext)) xq xq)⟩
  omega
 refine zyn 49 (x := zB (decide ((4 : Int) ≤ ((2 * j + 2 : Nat) : Int)))) (zB false) (by rw [hs112]) ?_
 have qhs112 := qyf hs112
 refine zzm 50 (uw 2 true false 49) (zzm 51 (uw 2 true false 49) (zza 52 (zB false) (zzb (zyp xj (zzr (zzo ?_))))))
 refine zzf (zza 26 (zI (2 * j + 2 : Nat)) (zyn 27 (x := zI (IntKind.i64.wrap (((2 * j + 2 : Nat) : Int) + 2))) (zI (((2 * j + 2) + 2 : Nat) : Int)) (eqI xk) (zza 11 (zI (((2 * j + 2) + 2 : Nat) : Int)) (zzw ?_))))
 have hgo := hI.go hQ (.inl (by have h9 := qyf hs112; omega)) (sl' := (sl + ((tl * ql / Nt.u2 k) / (Nt.coD j)))) (sh' := (sh + (Nt.cdiv (Nt.cdiv (th * qh) (Nt.u2 k)) (Nt.coD j)))) (.inr ⟨aa, rfl, rfl⟩)
 have hb9 := hgo.1.bd hq0 hp
 have hw9 := Nt.csW_le hk
 have ht0 := hgo.1.c.t0
 have ht1 := hgo.1.c.t1
 have htt := hgo.1.c.tt
 have ht2 := hgo.1.c.t2
 have hmm := hgo.2
 simp only [Nt.csL, Nt.csH] at ht0 ht1 htt ht2 hmm
 refine ⟨_, ?_, _, by exact zzu _ _ _, j + 1, ah, ag, al, ap, ((tl * ql / Nt.u2 k) / (Nt.coD j)), (Nt.cdiv (Nt.cdiv (th * qh) (Nt.u2 k)) (Nt.coD j)), (sl + ((tl * ql / Nt.u2 k) / (Nt.coD j))), (sh + (Nt.cdiv (Nt.cdiv (th * qh) (Nt.u2 k)) (Nt.coD j))), rfl, hgo.1, rfl, (aI.t (aj.t (aB.t (av.t (au.t (an.t (aD.t (ab.t ae.ext)))))))), (IntN.lim2 (aC.ext (ab.t ae.ext)) xq xq), (IntN.lim2 (az.ext (ab.t ae.ext)) xq xq), (IntN.lim2 aF xq xq), (IntN.lim2 aH xq xq)⟩
 omega
section
variable (P : Program) (w0 : Base) (u0 : World)
def MP.into (I : Nat → St → World → Prop) (Q : MP) (hI : ∀ m, Mono (I m)) : MP where
 f e S u := match e with | .normal => ∃ m T, Weak S T ∧ I m T u | .goto _ => False | e => Q.f e S u
 mono e := by
  cases e <;> first | exact Q.mono _ | skip
  ·rintro S u u' he ⟨m, T, h1, h2⟩
   exact ⟨m, T, h1, hI m T u u' he h2⟩
  exact fun S u u' he h => h
def MP.jump (l : Nat) (I : Nat → St → World → Prop) (n : Nat) (Q : MP) (hI : ∀ m, Mono (I m)) : MP where
 f e S u := match e with | .goto l' => l' = l ∧ ∃ m, m < n ∧ ∃ T, Weak S T ∧ I m T u | e => Q.f e S u
 mono e := by
  cases e <;> first | exact Q.mono _ | skip
  rintro S u u' he ⟨hl, m, hm, T, h1, h2⟩
  exact ⟨hl, m, hm, T, h1, hI m T u u' he h2⟩
end
section
variable {P : Program} {w0 : Base} {u0 : World} {S T : St} {B : Tmp → Nat} {a : Act} {w u u' : World} {Q : MP} {c d A R : Code}
theorem sw_goto {l : Nat} (h : Q.f (.goto l) S u) : SW P w0 u0 (.goto l) S u Q := fun B a w u' e hr => wp_goto ⟨S, B, u', hr, Q.mono _ _ _ _ e h⟩
theorem mpg_seq {l : Nat} {c : Code} {Q : MP} (h : Q.f (.goto l) S u) : (MP.seq P w0 u0 c Q).f (.goto l) S u := h
theorem mpg_jump {l n m : Nat} {I : Nat → St → World → Prop} {Q : MP} {hI : ∀ m, Mono (I m)} (hm : m < n) (hw : Weak S T) (h : I m T u) : (MP.jump l I n Q hI).f (.goto l) S u := ⟨rfl, m, hm, T, hw, h⟩
theorem mpr_jump {l n : Nat} {I : Nat → St → World → Prop} {Q : MP} {hI : ∀ m, Mono (I m)} (h : Q.f .ret S u) : (MP.jump l I n Q hI).f .ret S u := h
theorem mpi_into {m : Nat} {I : Nat → St → World → Prop} {Q : MP} {hI : ∀ m, Mono (I m)} (hw : Weak S T) (h : I m T u) : (MP.into I Q hI).f .normal S u := ⟨m, T, hw, h⟩
theorem sw_scope {l : Nat} {I : Nat → St → World → Prop} (hI : ∀ m, Mono (I m)) (hf : findLabel (.seq A (.seq (.label l) R)) l = some (.seq .skip R)) (hA : SW P w0 u0 A S u (MP.into I Q hI)) (h : ∀ n S u, I n S u → SW P w0 u0 R S u (MP.jump l I n Q hI)) : SW P w0 u0 (.scope (.seq A (.seq (.label l) R))) S u Q := by
 intro B a w u' e hr
 let J : Nat → Act → World → Prop := fun n a w => ∃ S B u'', Rep w0 u0 S B a w u'' ∧ I n S u''
 let μ : Act → World → Nat := fun a w => Classical.epsilon fun m => J m a w ∧ ∀ k, J k a w → m ≤ k
 have hμ : ∀ a w n, J n a w → J (μ a w) a w ∧ μ a w ≤ n := fun a w n hn => by
  have := Classical.epsilon_spec (p := fun m => J m a w ∧ ∀ k, J k a w → m ≤ k) (least n hn)
  exact ⟨this.1, this.2 n hn⟩
 refine wp_scope_jumps l (fun a w => ∃ n, J n a w) μ hf ?_ ?_
 ·refine wp_seq (wp_mono (hA B a w u' e hr) fun ex a' w' ⟨S', B', u'', k1, k3⟩ => ?_)
  cases ex with
  | normal =>
   obtain ⟨m, T', t1, t2⟩ := k3
   refine wp_seq (wp_label ?_)
   refine wp_mono (h m T' u'' t2 B' a' w' u'' (Ext.refl _) (k1.weak t1)) fun ex a' w' ⟨S', B', u'', k1, k3⟩ => ?_
   cases ex with
   | goto l' =>
    obtain ⟨rfl, m, hm, T', t1, t2⟩ := k3
    exact ⟨rfl, m, T', B', u'', k1.weak t1, t2⟩
   | _ => exact ⟨S', B', u'', k1, k3⟩
  | goto l' => exact k3.elim
  | _ => exact ⟨S', B', u'', k1, k3⟩
 rintro a w ⟨n, hn⟩
 obtain ⟨S1, B1, u1, r1, i1⟩ := (hμ a w n hn).1
 refine wp_seq (wp_skip ?_)
 refine wp_mono (h _ S1 u1 i1 B1 a w u1 (Ext.refl _) r1) fun ex a' w' ⟨S', B', u'', k1, k3⟩ => ?_
 cases ex with
 | goto l' =>
  obtain ⟨rfl, m, hm, T', t1, t2⟩ := k3
  have hJ : J m a' w' := ⟨T', B', u'', k1.weak t1, t2⟩
  exact ⟨rfl, ⟨m, hJ⟩, Nat.lt_of_le_of_lt (hμ a' w' m hJ).2 hm⟩
 | _ => exact ⟨S', B', u'', k1, k3⟩
end
theorem sw_joinP {P : Program} {w0 : Base} {u0 u : World} {S : St} {r c : Code} {Q : MP} (I : St → World → Prop) (h1 : ∀ S' u1, Ext u u1 → I S' u1 → SW P w0 u0 c S' u1 Q) (h2 : (∀ S' u1, Ext u u1 → I S' u1 → SW P w0 u0 c S' u1 Q) → SW P w0 u0 r S u (MP.seq P w0 u0 c Q)) : SW P w0 u0 r S u (MP.seq P w0 u0 c Q) := h2 h1
section
variable {P : Program} {ops : Array Oper} {w0 : Base} {u0 : World} {S T : St} {B : Tmp → Nat} {a : Act} {w w' u u' : World} {o : Oper} {p : List Tmp} {seq : Bool} {rest : List (Oper × List Tmp)} {K : St → World → Prop}
theorem Rep.pubA (h : Rep w0 u0 S B a w u) {r t : Tmp} {V : Vr} {pubs : List Tmp} (hno : NoAt S pubs) (ht : t ∈ pubs) (hall : ∀ s ∈ pubs, ∀ V', S.var s = some V' → s = t) (hr : S.reg r = some (.adr t 0)) (hv : S.var t = some V) (htn : t < S.n) :
  Rep w0 u0 ((S.unpub pubs).set r (.v (.pointer (some ⟨B t, 0, none⟩)))) B a w (pubW u w [B t]) := by
 refine ⟨⟨fun s x hx => ?_, h.regs.size⟩, ⟨fun s x t' hx ht' => ?_⟩, h.defers, fun s V' hV => ?_, fun s s' V1 V2 h1 h2 e => ?_, pubW_dat h.dat, h.base, pubW_grow h.grow (fun b hb => ?_), h.bel⟩
 ·by_cases e : s = r
  ·subst e
   simp only [St.set, zyv] at hx
   injection hx with hx
   subst hx
   exact h.regs.reg s (.adr t 0) hr
  simp only [St.set, upd_ne _ _ e] at hx
  exact h.regs.reg s x (zxw hx).1
 ·by_cases e : s = r
  ·subst e
   simp only [St.set, zyv] at hx
   injection hx with hx
   subst hx; cases ht'
  simp only [St.set, upd_ne _ _ e] at hx
  obtain ⟨k1, k2⟩ := zxw hx
  obtain ⟨V', hV'⟩ := h.wf.reg s x t' k1 ht'
  exact ⟨V', by show (S.unpub pubs).var t' = _; rw [unpub_var (fun hm => k2 (hno s x t' k1 ht' hm))]; exact hV'⟩
 ·obtain ⟨k1, k2⟩ := zxh hV
  obtain ⟨g1, g2, g3⟩ := h.var s V' k1
  refine ⟨g1, ?_, g3⟩
  rw [pubW_out]
  ·exact g2
  intro hm
  simp at hm
  exact k2 (h.inj s t V' V k1 hv hm ▸ ht)
 ·exact h.inj s s' V1 V2 (zxh h1).1 (zxh h2).1 e
 simp at hb; subst hb; exact (h.var t V hv).2.2.1 htn
theorem sw_pubA {c0 : Code} {Q : MP} {r t : Tmp} {V : Vr} (pubs : List Tmp) (hno : NoAt S pubs) (hall : (pubs.all fun s => Nat.beq s t || (S.var s).isNone) = true) (hr : S.reg r = some (.adr t 0)) (hv : S.var t = some V) (ht : pubs.contains t = true)
  (k : ∀ b u1, Ext u u1 → u0.heap.size ≤ b → (∀ ob, u.heap[b]? = some ob → ob = hidO) → u1.heap[b]? = some (.cells V.cs.toArray V.ty (0, 0)) → SW P w0 u0 c0 ((S.unpub pubs).set r (.v (.pointer (some ⟨b, 0, none⟩)))) u1 Q) (hlt : Nat.blt t S.n = true := by kernel_rfl) : SW P w0 u0 c0 S u Q := by
 intro B a w u' e hrep
 have hm := List.contains_iff_mem.1 ht
 obtain ⟨g1, g2, g3⟩ := hrep.var t V hv
 have hx : Ext u' (pubW u' w [B t]) := pubW_ext hrep.dat
 have hrep2 := hrep.pubA hno hm (fun s hs V' hV' => by
  have := List.all_eq_true.1 hall s hs
  simp only [Bool.or_eq_true, Option.isNone_iff_eq_none] at this
  rcases this with h | h
  ·exact Nat.eq_of_beq_eq_true h
  rw [hV'] at h; cases h) hr hv (Nat.le_of_ble_eq_true hlt)
 refine k (B t) (pubW u' w [B t]) (e.trans hx) (g3.1 (Nat.le_of_ble_eq_true hlt)) (fun ob hob => ?_) (by rw [pubW_in (by simp) (zyt g2) hrep.dat.size]; exact g1) B a w _ (Ext.refl _) hrep2
 by_cases hh : ob = hidO
 ·exact hh
 have := e.vis _ ob hob hh
 rw [g2] at this; injection this with this; exact this.symm
theorem sy_fun (d : Tmp) {f : FuncId} {cs : List Operand} (vs : List Value) (k : sym P ops w0 u0 true rest (S.set d (.v (.func (.func f) #[] vs.toArray))) u K) (hw : Wants ops o S := by exact zxx xj) (hd : o.dst = some d := by kernel_rfl) (hop : o.op = .makeFunc (.func f) #[] cs.toArray := by rfl) (hf : freeB S d = true := by kernel_rfl)
  (hev : cs.map (evO S) = vs.map (fun v => some (.v v)) := by rfl) : sym P ops w0 u0 true ((o, p) :: rest) S u K := by
 refine .inr (.inr (.inl ⟨.inl rfl, fun B a w u' he hrep => ⟨hw B a hrep.regs, ?_⟩⟩))
 have hcs : cs.map a.eval = vs := by
  clear hop k
  induction cs generalizing vs with
  | nil => cases vs with
   | nil => rfl
   | cons v vs => cases hev
  | cons c cs ih => cases vs with
   | nil => cases hev
   | cons v vs =>
    simp only [List.map_cons, List.cons.injEq] at hev ⊢
    refine ⟨?_, ih vs hev.2⟩
    rw [ev_of hrep.regs hev.1]; rfl
 have hrun : (execOp a.eval o).run P w = .ok (.value (.func (.func f) #[] vs.toArray)) w := by
  unfold execOp
  simp only [hop]
  simp [Instr.makeFunc, Sem.run_pure, ← hcs]
 unfold Oper.wp
 rw [hrun]
 have hr2 := hrep.set (d := o.dst) (x := some (.v (.func (.func f) #[] vs.toArray))) (v := .func (.func f) #[] vs.toArray) (fun s hs => (zxq hd hf s hs).1) (fun z e => by injection e with e; rw [← e]; rfl) (fun z t e ht => by injection e with e; rw [← e] at ht; cases ht)
 show ∃ S' B' u'' u2, Rep w0 u0 S' B' (a.put o.dst _) w u'' ∧ _
 refine ⟨_, B, u', u, hr2, fun _ => Ext.refl _, fun _ => Ext.refl _, he, ?_⟩
 rw [hd]; exact k
def SL (P : Program) (w0 : Base) (u0 : World) (ops : Array Oper) (l : List Oper) (S : St) (u : World) (Q : MP) : Prop :=
 ∀ B a w u', Ext u u' → Rep w0 u0 S B a w u' → wpList P ops (fun e a' w' => ∃ S' B' u'', Rep w0 u0 S' B' a' w' u'' ∧ Q.f e S' u'') l a w
end
section
variable {u u' u1 : World} {L : List RL} {r : RL} {l : List Rat} {q : Rat} {K n b b6 : Nat} {cs : List Value} {t t6 : TypeId}
theorem var_cell1 {v : Value} (h : u.heap[b]? = some (.cells [v].toArray t (0, 0))) : u.cell? ⟨b, 0, none⟩ = some v := by rw [cells_at h]; rfl
end
theorem k_ratMake {u w : World} {i j : IL} {z D : Int} {K L : Nat} (d : Dat u w) (hi : IntN u i z K) (hj : IntN u j D L) (hD : 0 < D) (hK : K ≤ 1000000) (hL : L ≤ 1000000) : qyc 306 #[i.v, j.v] w (Post u w fun v u' => ∃ r : RL, v = .tuple #[r.v, .int .i64 0] ∧ RatN u' r ((z : Rat) / (D : Rat)) (K + L + 1)) := by
 refine zzl (args := [i.v, j.v]) Tryz.func306 rfl Tryz.ntmps306 (rs := [.cell 4 32, .tmp 5]) Tryz.results306 (le_b rfl) (le_b rfl) d ?_
 refine sq9 (zzj 2 ⟨30, i.cs⟩ (zzj 3 ⟨30, j.cs⟩ (zzj 4 ⟨32, zw3⟩ (zza 5 (zI 0) (zzb (zzd (sq9 (zzh 6 (.v (j.v)) ty30 zze (zzg 7 201 _ fun _ _ aa ah => qym (k_intSign ah (hj.ext aa).raw) ?_)))))))))
 rintro _ u12 ad rfl
 refine zza 8 (zB ((Nt.cmpS D 0) == 0)) (zzb (zzt (b := (Nt.cmpS D 0) == 0) xj (fun hb => ?_) (fun hb => ?_)))
 ·exact absurd hb (by rw [show ((Nt.cmpS D 0) == 0) = false from (by rw [Nt.cmp_gt hD]; rfl)]; decide)
 clear hb
 refine zzr (zzo ?_)
 refine sq9 (zzh 10 (.v (i.v)) ty30 zze (zzh 11 (.v (j.v)) ty30 zze (zzg 12 204 _ fun _ _ ac aj => qym (k_quotient (i := i) (j := j) aj) ?_)))
 rintro _ u16 ab rfl
 refine zzg 13 205 _ fun _ _ af ak => qym (k_lowest ak ((quot_int (hi.ext (aa.t (ad.t (ac.t ab.ext)))) (hj.ext (aa.t (ad.t (ac.t ab.ext))))).ext af) ((int_mag (hj.ext (aa.t (ad.t (ac.t ab.ext))))).ext af).raw (show 0 < (D : Int).natAbs by omega) xq xq) ?_
 rintro _ u22 g23 ⟨ae, rfl, ai⟩
 refine zzi ⟨32, ae.cs⟩ ty32 ?_
 refine zza 5 (zI 0) (zzb (zzn (ret0 [ae.v, .int .i64 0] ⟨zzq ty32 zze, zzp, trivial⟩ fun u25 ag => ?_)))
 refine ⟨ae, rfl, RatN.more (K := (max K L)) ?_ xq⟩
 rw [← Nt.div_mk2 xq]
 exact (ai.ext ag)
theorem k_betweenN {u w : World} {i : IL} {z : Int} {k K : Nat} (d : Dat u w) (hi : IntN u i z K) (hk : k ≤ 256) (hK0 : 1 ≤ K) (hK : K ≤ 900000) : qyc 214 #[i.v, .bool false, .int .i64 (k : Int)] w (Post u w fun v u' => ∃ r1 r2 : RL, v = IV r1 r2 ∧ RatN u' r1 (Nt.gr k z) (K + 20) ∧ RatN u' r2 (Nt.gr k (z + 1)) (K + 20)) := by
 refine zzl (args := [i.v, .bool false, .int .i64 k]) Tryz.func214 rfl Tryz.ntmps214 (rs := [.cell 6 34]) Tryz.results214 (le_b rfl) (le_b rfl) d ?_
 refine sq9 (zzj 3 ⟨30, i.cs⟩ (zzj 6 ⟨34, zw6⟩ (zzb (sq9 (zzh 13 (.v (i.v)) ty30 zze (zzj 7 ⟨30, [.bool false, qyn]⟩ (zzi ⟨30, i.cs⟩ ty30 ?_)))))))
 refine zzb (zzd (sq9 (zza 14 (zB false) (zza 15 (zB true) (zzb (zyo xj (zzy [0, 0, 3, 7] [(0, []), (1, []), (2, []), (3, [])] xj xj (zzh 16 (.v (i.v)) ty30 zze (zzg 17 158 _ fun _ _ ah au => qym (k_intOf au (z := 1) xq xq) ?_)))))))))
 rintro _ u14 ak ⟨i12, rfl, aq⟩
 refine zzg 18 206 _ fun _ _ ae av => qym (k_intAdd av (hi.ext (ah.t (ak.t ae))).raw (aq.ext ae).raw xq xq) ?_
 rintro _ u20 ay ⟨am, rfl, az⟩
 refine zzi ⟨30, am.cs⟩ ty30 ?_
 refine zzb (sq9 (zza 19 (zI k) (zzg 20 305 _ fun _ _ al ax => qym (k_eUnit (k := k) ax xq) ?_)))
 rintro _ u26 ag ⟨ac, rfl, ai⟩
 refine zza 21 (.v (ac.v)) (zzj 8 ⟨30, [.bool false, qyn]⟩ (zzi ⟨30, ac.cs⟩ ty30 ?_))
 refine zzb (sq9 (zzh 23 (.v (i.v)) ty30 zze (zzh 24 (.v (ac.v)) ty30 zze (zzg 25 306 _ fun _ _ ad aA => qym (k_ratMake aA (hi.ext (ah.t (ak.t (ae.t (ay.t (al.t (ag.t ad))))))) (ai.ext ad) (Nt.u2_pos _) xq xq) ?_))))
 rintro _ u32 aj ⟨ab, rfl, aw⟩
 refine zza 22 (.v (.tuple #[ab.v, .int .i64 0])) (zza 26 (.v (ab.v)) (zza 27 (zI 0) (zzj 9 ⟨32, zw3⟩ (zzi ⟨32, ab.cs⟩ ty32 ?_))))
 refine zza 10 (zI 0) (zzb (sq9 (zzh 29 (.v (am.v)) ty30 zze (zzh 30 (.v (ac.v)) ty30 zze (zzg 31 306 _ fun _ _ af ar => qym (k_ratMake ar (az.ext (al.t (ag.t (ad.t (aj.t af))))) (ai.ext (ad.t (aj.t af))) (Nt.u2_pos _) xq xq) ?_)))))
 rintro _ u38 ap ⟨aa, rfl, ao⟩
 refine zza 28 (.v (.tuple #[aa.v, .int .i64 0])) (zza 32 (.v (aa.v)) (zza 33 (zI 0) (zzj 11 ⟨32, zw3⟩ (zzi ⟨32, aa.cs⟩ ty32 ?_))))
 refine zza 12 (zI 0) (zzc 37 [(6, .adr 6 0), (9, .adr 9 0), (11, .adr 11 0)] [(6, ⟨34, zw6⟩), (9, ⟨32, ab.cs⟩), (11, ⟨32, aa.cs⟩)] (sq9 (zzh 34 (.v (ab.v)) ty32 zze (zzh 35 (.v (aa.v)) ty32 zze (zza 36 (.v (.agg #[.bool ab.s, ab.m.v, ab.d.v, .bool aa.s, aa.m.v, aa.d.v])) (zzi ⟨34, ab.cs ++ aa.cs⟩ ty34 ?_))))))
 refine zzb (zzn (ret0 [.agg #[.bool ab.s, ab.m.v, ab.d.v, .bool aa.s, aa.m.v, aa.d.v]] ⟨zzq ty34 zze, trivial⟩ fun u41 an => ?_))
 refine ⟨ab, aa, rfl, RatN.more (K := (K + (k / 32 + 2) + 1)) ?_ xq, RatN.more (K := ((max K 2 + 1) + (k / 32 + 2) + 1)) ?_ xq⟩
 ·exact (aw.ext (af.t (ap.t an)))
 exact (ao.ext an)
theorem k_cos1 {u w : World} {p q k bp bq : Nat} (d : Dat u w) (hbp : u.heap[bp]? = some (.cells [Value.int .i64 (p : Int)].toArray 3 (0, 0))) (hbq : u.heap[bq]? = some (.cells [Value.int .i64 (q : Int)].toArray 3 (0, 0))) (hq0 : 0 < q) (hq : q ≤ 100000) (hp : 2 * p ≤ q) (hp1 : 1 ≤ p) (hk0 : 16 ≤ k) (hk : k ≤ 800) : qyc 268 #[.int .i64 (k : Int), .pointer (some ⟨bp, 0, none⟩), .pointer (some ⟨bq, 0, none⟩)] w (Post u w fun v u' => ∃ (i j : IL) (a b : Int), v = SP i j ∧ IntN u' i a 42 ∧ IntN u' j b 42 ∧ Nt.CsR p q k a b) := by
 refine zzl (args := [.int .i64 k, .pointer (some ⟨bp, 0, none⟩), .pointer (some ⟨bq, 0, none⟩)]) Tryz.func268 rfl Tryz.ntmps268 (rs := [.cell 4 271]) Tryz.results268 (le_b rfl) (le_b rfl) d ?_
 refine sq9 (zzj 4 ⟨271, [.bool false, qyn, .bool false, qyn]⟩ (zzb (sq9 (zyk 5 (.int .i64 p) (var_cell1 hbp) ty3 (zyk 6 (.int .i64 q) (var_cell1 hbq) ty3 (zza 7 (zI k) (zzg 8 269 _ fun _ _ _ ah => qym (k_cosineOf ah (p := p) (q := q) (k := k) hq0 hq hp hp1 xq xq) ?_)))))))
 rintro _ u13 g14 ⟨ab, aa, ai, ag, rfl, ac, ad, ae⟩
 refine zzi ⟨271, ab.cs ++ aa.cs⟩ ty271 ?_
 refine zzb (zzn (ret0 [.agg #[.bool ab.s, ab.m.v, .bool aa.s, aa.m.v]] ⟨zzq ty271 zze, trivial⟩ fun u16 af => ?_))
 exact ⟨ab, aa, _, _, rfl, (ac.ext af), (ad.ext af), ae⟩
theorem k_irrCos {u w : World} {p q bp bq : Nat} {k g : Nat} (d : Dat u w) (hbp : u.heap[bp]? = some (.cells [Value.int .i64 (p : Int)].toArray 3 (0, 0))) (hbq : u.heap[bq]? = some (.cells [Value.int .i64 (q : Int)].toArray 3 (0, 0))) (hq0 : 0 < q) (hq : q ≤ 100000) (hp : 2 * p ≤ q) (hp1 : 1 ≤ p) (hg : Nt.Gap (Nt.coN p q) k g) (hg3 : g ≤ 300) (hk : k ≤ 256) : qyc 267 #[.func (.func 268) #[] #[.pointer (some ⟨bp, 0, none⟩), .pointer (some ⟨bq, 0, none⟩)], .int .i64 (k : Int)] w (Post u w fun v u' => ∃ r1 r2 : RL, v = IV r1 r2 ∧ RatN u' r1 (Nt.gr k (Nt.flo (Nt.coN p q) k)) 70 ∧ RatN u' r2 (Nt.gr k (Nt.flo (Nt.coN p q) k + 1)) 70) := by
 refine zzl (args := [.func (.func 268) #[] #[.pointer (some ⟨bp, 0, none⟩), .pointer (some ⟨bq, 0, none⟩)], .int .i64 k]) Tryz.func267 rfl Tryz.ntmps267 (rs := [.cell 4 34]) Tryz.results267 (le_b rfl) (le_b rfl) d ?_
 refine sq9 (zzj 4 ⟨34, zw6⟩ (zzb (sw_scope (I := fun aD S' u' => ∃ (wk : Nat), (aD = 1000 - wk) ∧ (k + 32 ≤ wk) ∧ (wk ≤ 674 ∨ wk = k + 32) ∧ (S' = St.of 49 [(0, .v (.func (.func 268) #[] #[.pointer (some ⟨bp, 0, none⟩), .pointer (some ⟨bq, 0, none⟩)])), (1, zI k), (4, .adr 4 0), (5, zI wk)] [(4, ⟨34, zw6⟩)]) ∧ (Ext u u')) (fun m S u1 u2 e h => by obtain ⟨wk, hm, p0, p1, hS, hE⟩ := h; exact ⟨wk, hm, p0, p1, hS, hE.trans e⟩) xj ?_ ?_)))
 ·skip
  refine zzf (zza 14 (zI k) (zyn 15 (x := zI (IntKind.i64.wrap ((k : Int) + 32))) (zI (k + 32 : Nat)) (eqI xk) (zza 5 (zI (k + 32 : Nat)) (zzw ?_))))
  exact mpi_into (T := St.of 49 [(0, .v (.func (.func 268) #[] #[.pointer (some ⟨bp, 0, none⟩), .pointer (some ⟨bq, 0, none⟩)])), (1, .v (.int .i64 (k : Int))), (4, .adr 4 0), (5, .v (.int .i64 ((k + 32 : Nat) : Int)))] [(4, ⟨34, zw6⟩)]) yv ⟨k + 32, rfl, by omega, .inr rfl, rfl, (Ext.refl _)⟩
 rintro aD _ u11 ⟨wk, aK, hw0, hw1, rfl, au⟩
 refine sq9 (zza 16 (.v (.func (.func 268) #[] #[.pointer (some ⟨bp, 0, none⟩), .pointer (some ⟨bq, 0, none⟩)])) (zza 17 (zI wk) (zzg 18 268 _ fun _ _ aq aH => qym (k_cos1 aH (k := wk) ((au.trans aq).cells hbp) ((au.trans aq).cells hbq) hq0 hq hp hp1 xq xq) ?_)))
 rintro _ u14 aN ⟨af, ah, aj, ad, rfl, ax, aw, aa⟩
 refine zzj 6 ⟨271, [.bool false, qyn, .bool false, qyn]⟩ (zzi ⟨271, af.cs ++ ah.cs⟩ ty271 ?_)
 refine zzb (sq9 (zza 19 (zI wk) (zza 20 (zI k) (zyn 21 (x := zI (IntKind.i64.wrap ((wk : Int) - (k : Int)))) (zI (wk - k : Nat)) (eqI xk) (zzg 22 305 _ fun _ _ ap aL => qym (k_eUnit (k := wk - k) aL xq) ?_)))))
 rintro _ u20 az ⟨an, rfl, aC⟩
 refine zza 23 (.v (an.v)) (zzj 7 ⟨30, [.bool false, qyn]⟩ (zzi ⟨30, an.cs⟩ ty30 ?_))
 refine zzb (sq9 (zza 25 (.adr 6 0) (zzh 26 (.v (af.v)) ty30 zze (zzh 27 (.v (an.v)) ty30 zze (zzg 28 253 _ fun _ _ ak aM => qym (k_intDivI aM (ax.ext (ap.t (az.t ak))).raw (aC.ext ak) (Nt.u2_pos _) xq xq) ?_)))))
 rintro _ u28 av ⟨ac, ao, rfl, aA, h27⟩
 refine zza 24 (.v (.tuple #[ac.v, ao.v, .int .i64 0])) (zza 29 (.v (ac.v)) (zza 30 (.v (ao.v)) (zza 31 (zI 0) (zzj 8 ⟨30, [.bool false, qyn]⟩ (zzj 9 ⟨30, [.bool false, qyn]⟩ (zzi ⟨30, ac.cs⟩ ty30 ?_))))))
 refine zzi ⟨30, ao.cs⟩ ty30 ?_
 refine zza 10 (zI 0) (zzb (sq9 (zza 33 (.adr 6 2) (zzh 34 (.v (ah.v)) ty30 zze (zzh 35 (.v (an.v)) ty30 zze (zzg 36 253 _ fun _ _ al aQ => qym (k_intDivI aQ (aw.ext (ap.t (az.t (ak.t (av.t al))))).raw (aC.ext (ak.t (av.t al))) (Nt.u2_pos _) xq xq) ?_))))))
 rintro _ u36 ay ⟨ae, ar, rfl, aG, h35⟩
 refine zza 32 (.v (.tuple #[ae.v, ar.v, .int .i64 0])) (zza 37 (.v (ae.v)) (zza 38 (.v (ar.v)) (zza 39 (zI 0) (zzj 11 ⟨30, [.bool false, qyn]⟩ (zzj 12 ⟨30, [.bool false, qyn]⟩ (zzi ⟨30, ae.cs⟩ ty30 ?_))))))
 refine zzi ⟨30, ar.cs⟩ ty30 ?_
 refine zza 13 (zI 0) (zzc 49 [(0, .v (.func (.func 268) #[] #[.pointer (some ⟨bp, 0, none⟩), .pointer (some ⟨bq, 0, none⟩)])), (1, zI k), (4, .adr 4 0), (5, zI wk), (8, .adr 8 0), (11, .adr 11 0)] [(4, ⟨34, zw6⟩), (8, ⟨30, ac.cs⟩), (11, ⟨30, ae.cs⟩)] (zzd (sq9 (zzh 40 (.v (ac.v)) ty30 zze (zzh 41 (.v (ae.v)) ty30 zze (zzg 42 245 _ fun _ _ am aO => qym (k_intCompare aO (aA.ext (al.t (ay.t am))).raw (aG.ext am).raw) ?_))))))
 rintro _ u40 aE rfl
 refine zza 43 (zB ((Nt.cmpS (aj / (Nt.u2 (wk - k))) (ad / (Nt.u2 (wk - k)))) != 0)) (zzb (zzt (b := (Nt.cmpS (aj / (Nt.u2 (wk - k))) (ad / (Nt.u2 (wk - k)))) != 0) xj (fun ab => ?_) (fun ab => ?_)))
 ·refine sq9 (zza 44 (zI wk) (zyn 45 (x := zI (IntKind.i64.wrap ((wk : Int) * 2))) (zI (wk * 2 : Nat)) (eqI xk) (zza 5 (zI (wk * 2 : Nat)) (zzb ?_))))
  have hny := Nt.not_yet hg aa.1 ((Nt.csR_bd aa hq0 hp xq).2.2.2.2.2) ab
  refine sw_goto (mpg_seq (mpg_jump (m := _) (T := St.of 49 [(0, .v (.func (.func 268) #[] #[.pointer (some ⟨bp, 0, none⟩), .pointer (some ⟨bq, 0, none⟩)])), (1, zI k), (4, .adr 4 0), (5, zI (wk * 2 : Nat))] [(4, ⟨34, zw6⟩)]) ?_ yv ⟨wk * 2, rfl, by omega, by omega, rfl, (au.t (aq.t (aN.t (ap.t (az.t (ak.t (av.t (al.t (ay.t (am.t aE.ext))))))))))⟩))
  omega
 refine zzr (zzo ?_)
 refine sq9 (zzh 46 (.v (ac.v)) ty30 zze (zza 47 (zI k) (zzg 48 214 _ fun _ _ aF aI => qym (k_betweenN (k := k) aI (aA.ext (al.t (ay.t (am.t (aE.t aF))))) xq xq xq) ?_)))
 rintro _ u49 g50 ⟨ai, ag, rfl, aP, aJ⟩
 refine zzi ⟨34, ai.cs ++ ag.cs⟩ ty34 ?_
 refine zzb (zzn (mpr_jump (ret0 [.agg #[.bool ai.s, ai.m.v, ai.d.v, .bool ag.s, ag.m.v, ag.d.v]] ⟨zzq ty34 zze, trivial⟩ fun u52 aB => ?_)))
 have hfl := Nt.flo_of aa.1 xq ab
 refine ⟨ai, ag, rfl, RatN.more (K := ((42 + 1) + 20)) ?_ xq, RatN.more (K := ((42 + 1) + 20)) ?_ xq⟩
 ·rw [← hfl]; exact (aP.ext aB)
 rw [← hfl]; exact (aJ.ext aB)
theorem k_exactly {u w : World} {r : RL} {q : Rat} {K k : Nat} (d : Dat u w) (hr : RatN u r q K) (hk : k ≤ 256) (hK : K ≤ 10) : qyc 266 #[r.v, .int .i64 (k : Int)] w (Post u w fun v u' => ∃ r1 r2 : RL, v = IV r1 r2 ∧ RatN u' r1 (Nt.dnQ q k) 80 ∧ RatN u' r2 (-Nt.dnQ (-q) k) 80) := by
 refine zzl (args := [r.v, .int .i64 k]) Tryz.func266 rfl Tryz.ntmps266 (rs := [.cell 4 34]) Tryz.results266 (le_b rfl) (le_b rfl) d ?_
 refine sq9 (zzj 2 ⟨32, r.cs⟩ (zzj 4 ⟨34, zw6⟩ (zzb (sq9 (zzh 8 (.v (r.v)) ty32 zze (zzh 9 (.v (r.v)) ty32 zze (zzg 10 52 _ fun _ _ ad af => qym (k_ivMake af (hr.ext ad).raw (hr.ext ad).raw xq) ?_)))))))
 rintro _ u16 g17 ⟨r12, r14, rfl, ag, ah⟩
 refine zza 11 (zI k) (zzg 12 329 _ fun _ _ ac aj => qym (k_ivRoundG (k := k) xq aj (ag.ext ac).raw (ah.ext ac).raw xq) ?_)
 rintro _ u23 g24 ⟨aa, ab, rfl, ai⟩
 refine zza 7 (.v (.tuple #[.agg #[.bool aa.s, aa.m.v, aa.d.v, .bool ab.s, ab.m.v, ab.d.v], .int .i64 (Nt.rndE (k : Int))])) (zza 13 (.v (.agg #[.bool aa.s, aa.m.v, aa.d.v, .bool ab.s, ab.m.v, ab.d.v])) (zza 14 (zI (Nt.rndE (k : Int))) (zzj 5 ⟨34, zw6⟩ (zzi ⟨34, aa.cs ++ ab.cs⟩ ty34 ?_))))
 refine zza 6 (zI (Nt.rndE (k : Int))) (zzb (sq9 (zzh 15 (.v (.agg #[.bool aa.s, aa.m.v, aa.d.v, .bool ab.s, ab.m.v, ab.d.v])) ty34 zze (zzi ⟨34, aa.cs ++ ab.cs⟩ ty34 ?_))))
 refine zzb (zzn (ret0 [.agg #[.bool aa.s, aa.m.v, aa.d.v, .bool ab.s, ab.m.v, ab.d.v]] ⟨zzq ty34 zze, trivial⟩ fun u26 ae => ?_))
 have h9 := (ai.ext ae)
 rw [Nt.rnd_pt hk] at h9
 exact ⟨aa, ab, rfl, RatN.more h9.1 xq, RatN.more h9.2 xq⟩
theorem k_cosA {u w : World} {p : Int} {q k : Nat} (d : Dat u w) (hq0 : 0 < q) (hq2 : q ≤ 10000) (hG0 : Nt.GapQ q k) (hp0 : -1000000000 ≤ p) (hp1 : p ≤ 1000000000) (hk : k ≤ 256) (hA : 2 * Nt.fold p q ≤ q) : qyc 160 #[.int .i64 p, .int .i64 (q : Int), .int .i64 (k : Int)] w (Post u w fun v u' => ∃ r1 r2 : RL, v = IV r1 r2 ∧ RatN u' r1 ((Nt.cosA (Nt.fold p q) q k).1) 80 ∧ RatN u' r2 ((Nt.cosA (Nt.fold p q) q k).2) 80) := by
 have htm := Nt.tmod_bd p hq0
 obtain ⟨g, bq, hG⟩ := id hG0
 refine zzl (args := [.int .i64 p, .int .i64 q, .int .i64 k]) Tryz.func160 rfl Tryz.ntmps160 (rs := [.cell 6 34]) Tryz.results160 (le_b rfl) (le_b rfl) d ?_
 refine sq9 (zzj 3 ⟨3, [.int .i64 p]⟩ (zzj 4 ⟨3, [.int .i64 q]⟩ (zzj 6 ⟨34, zw6⟩ (zzb (sq9 (zzh 8 (zI p) ty3 zzk (zzh 9 (zI q) ty3 zzk (zyn 10 (x := zI (IntKind.i64.wrap ((2 : Int) * (q : Int)))) (zI (2 * q : Nat)) (eqI xk) (sy_rem 11 (m := ((2 * q : Nat) : Int)) (Int.tmod p (2 * (q : Int))) xq (by rw [Int.natCast_mul]; rfl) ?_)))))))))
 refine zzi ⟨3, [.int .i64 (Int.tmod p (2 * (q : Int)))]⟩ ty3 ?_
 refine zzb (zzd (sq9 (zzh 12 (zI (Int.tmod p (2 * (q : Int)))) ty3 zzk (zza 13 (zB (decide ((Int.tmod p (2 * (q : Int))) < 0))) (zzb (zzt (b := decide ((Int.tmod p (2 * (q : Int))) < 0)) xj (fun aN => ?_) (fun aN => ?_)))))))
 ·have qhb11 := qyt aN
  refine zzf (zzh 14 (zI (Int.tmod p (2 * (q : Int)))) ty3 zzk (zyn 15 (x := zI (IntKind.i64.wrap (0 - (Int.tmod p (2 * (q : Int)))))) (zI (-(Int.tmod p (2 * (q : Int))))) (eqI xk) (zzi ⟨3, [.int .i64 (-(Int.tmod p (2 * (q : Int))))]⟩ ty3 ?_)))
  refine zzb (zzd (sq9 (zzh 16 (zI (-(Int.tmod p (2 * (q : Int))))) ty3 zzk (zzh 17 (zI q) ty3 zzk (zza 18 (zB (decide ((q : Int) < (-(Int.tmod p (2 * (q : Int))))))) (zzb (zzt (b := decide ((q : Int) < (-(Int.tmod p (2 * (q : Int)))))) xj (fun aM => ?_) (fun aM => ?_))))))))
  ·have qhb12 := qyt aM
   refine zzf (zzh 19 (zI q) ty3 zzk (zyn 20 (x := zI (IntKind.i64.wrap ((2 : Int) * (q : Int)))) (zI (2 * q : Nat)) (eqI xk) (zzh 21 (zI (-(Int.tmod p (2 * (q : Int))))) ty3 zzk (zyn 22 (x := zI (IntKind.i64.wrap (((2 * q : Nat) : Int) - (-(Int.tmod p (2 * (q : Int))))))) (zI (((2 * q : Nat) : Int) - (-(Int.tmod p (2 * (q : Int)))))) yk (zzi ⟨3, [.int .i64 (((2 * q : Nat) : Int) - (-(Int.tmod p (2 * (q : Int)))))]⟩ ty3 ?_)))))
   refine zzb (zzd (zzd ?_))
   have hfold : (((2 * q : Nat) : Int) - (-(Int.tmod p (2 * (q : Int))))) = ((Nt.fold p q : Nat) : Int) := by unfold Nt.fold; dsimp only; split <;> omega
   rw [hfold]
   have hfl := Nt.fold_le p q hq0
   obtain ⟨r, hr⟩ : ∃ r, Nt.fold p q = r := ⟨_, rfl⟩
   rw [hr] at hfl ⊢
   clear hfold
   rw [hr] at hA
   refine zzf (zzh 23 (zI r) ty3 zzk (zyn 24 (x := zI (IntKind.i64.wrap ((2 : Int) * (r : Int)))) (zI (2 * r : Nat)) (eqI xk) (zzh 25 (zI q) ty3 zzk (zza 26 (zB (decide ((q : Int) < ((2 * r : Nat) : Int)))) (zzb (zzt (b := decide ((q : Int) < ((2 * r : Nat) : Int))) xj (fun hb => ?_) (fun hb => ?_)))))))
   ·exact absurd hb (by rw [show (decide ((q : Int) < ((2 * r : Nat) : Int))) = false from decide_eq_false xq]; decide)
   clear hb
   refine zzr (zzo ?_)
   refine zzd (zzs (sq9 (zzh 41 (zI r) ty3 zzk (zza 42 (zB ((r : Int) == 0)) (zza 40 (zB ((r : Int) == 0)) (zzb (zzt (b := (r : Int) == 0) xj (fun af => ?_) (fun af => ?_))))))))
   ·have ba : (r : Int) = 0 := by simpa using af
    refine sq9 (zzg 43 53 _ fun _ _ _ dz => qym (k_ratOf dz (z := 1) xq xq) ?_)
    rintro _ u17 g18 ⟨r15, rfl, dq⟩
    refine zza 44 (zI k) (zzg 45 266 _ fun _ _ dC er => qym (k_exactly (k := k) er (dq.ext dC) xq xq) ?_)
    rintro _ u25 g26 ⟨aP, aQ, rfl, dA, ez⟩
    refine zzi ⟨34, aP.cs ++ aQ.cs⟩ ty34 ?_
    refine zzc 65 [(6, .adr 6 0)] [(6, ⟨34, aP.cs ++ aQ.cs⟩)] (zzn (zyr (zzv (ret0 [.agg #[.bool aP.s, aP.m.v, aP.d.v, .bool aQ.s, aQ.m.v, aQ.d.v]] ⟨zzq ty34 zze, trivial⟩ fun u28 cI => ?_))))
    have hc := Nt.cosA_0 (r := r) (q := q) (b := k) (by have h9 := af; simp at h9; omega)
    refine ⟨aP, aQ, rfl, RatN.more (K := 80) ?_ xq, RatN.more (K := 80) ?_ xq⟩
    ·rw [hc]; exact (dA.ext cI)
    rw [hc]; exact (ez.ext cI)
   have ba : ¬ ((r : Int) = 0) := by simpa using af
   refine sq9 (zzh 47 (zI r) ty3 zzk (zyn 48 (x := zI (IntKind.i64.wrap ((2 : Int) * (r : Int)))) (zI (2 * r : Nat)) (eqI xk) (zzh 49 (zI q) ty3 zzk (zza 50 (zB (((2 * r : Nat) : Int) == (q : Int))) (zza 46 (zB (((2 * r : Nat) : Int) == (q : Int))) (zzc 65 [(2, zI k), (3, .adr 3 0), (4, .adr 4 0), (6, .adr 6 0), (46, zB (((2 * r : Nat) : Int) == (q : Int)))] [(3, ⟨3, [.int .i64 r]⟩), (4, ⟨3, [.int .i64 q]⟩), (6, ⟨34, zw6⟩)] (zzt (b := ((2 * r : Nat) : Int) == (q : Int)) xj (fun au => ?_) (fun au => ?_))))))))
   ·refine sq9 (zzg 51 53 _ fun _ _ _ dL => qym (k_ratOf dL (z := 0) xq xq) ?_)
    rintro _ u34 g35 ⟨r32, rfl, dN⟩
    refine zza 52 (zI k) (zzg 53 266 _ fun _ _ ek eA => qym (k_exactly (k := k) eA (dN.ext ek) xq xq) ?_)
    rintro _ u42 g43 ⟨aU, a3, rfl, dS, dH⟩
    refine zzi ⟨34, aU.cs ++ a3.cs⟩ ty34 ?_
    refine zzb (zzn (zyr (zzv (ret0 [.agg #[.bool aU.s, aU.m.v, aU.d.v, .bool a3.s, a3.m.v, a3.d.v]] ⟨zzq ty34 zze, trivial⟩ fun u45 cW => ?_))))
    have hc := Nt.cosA_h (r := r) (q := q) (b := k) (by have h9 := af; simp at h9; omega) (by have h9 := au; simp at h9; omega)
    refine ⟨aU, a3, rfl, RatN.more (K := 80) ?_ xq, RatN.more (K := 80) ?_ xq⟩
    ·rw [hc]; exact (dS.ext cW)
    rw [hc]; exact (dH.ext cW)
   have bP : ¬ 2 * r = q := by have h9 := au; simp at h9; omega
   refine sq9 (zzh 55 (zI r) ty3 zzk (zyn 56 (x := zI (IntKind.i64.wrap ((3 : Int) * (r : Int)))) (zI (3 * r : Nat)) (eqI xk) (zzh 57 (zI q) ty3 zzk (zza 58 (zB (((3 * r : Nat) : Int) == (q : Int))) (zza 54 (zB (((3 * r : Nat) : Int) == (q : Int))) (zzb (zzt (b := ((3 * r : Nat) : Int) == (q : Int)) xj (fun aK => ?_) (fun aK => ?_))))))))
   ·refine sq9 (zzg 59 130 _ fun _ _ _ d0 => qym (k_ratFrac d0 (a := 1) (b := 2) xq xq xq xq) ?_)
    rintro _ u51 g52 ⟨r49, rfl, c8⟩
    refine zza 60 (zI k) (zzg 61 266 _ fun _ _ c9 d2 => qym (k_exactly (k := k) d2 (c8.ext c9) xq xq) ?_)
    rintro _ u59 g60 ⟨a7, bi, rfl, ds, d6⟩
    refine zzi ⟨34, a7.cs ++ bi.cs⟩ ty34 ?_
    refine zzb (zzn (zyr (zzv (ret0 [.agg #[.bool a7.s, a7.m.v, a7.d.v, .bool bi.s, bi.m.v, bi.d.v]] ⟨zzq ty34 zze, trivial⟩ fun u62 cT => ?_))))
    have hc := Nt.cosA_3 (r := r) (q := q) (b := k) (by have h9 := af; simp at h9; omega) (by have h9 := au; simp at h9; omega) (by have h9 := aK; simp at h9; omega)
    refine ⟨a7, bi, rfl, RatN.more (K := 80) ?_ xq, RatN.more (K := 80) ?_ xq⟩
    ·rw [hc]; exact (ds.ext cT)
    rw [hc]; exact (d6.ext cT)
   have bV : ¬ 3 * r = q := by have h9 := aK; simp at h9; omega
   refine zzr (zzo ?_)
   refine zzd (sw_pubA (r := 3) (t := 3) [3] xz xj (by rfl) (by rfl) xj (fun dK u65 e66 c5 en cq => ?_))
   refine sw_pubA (r := 4) (t := 4) [4] xz xj (by rfl) (by rfl) xj (fun d7 u71 dQ db dj cA => ?_)
   refine zzf (sy_fun 62 [.pointer (some ⟨dK, 0, none⟩), .pointer (some ⟨d7, 0, none⟩)] ?_)
   refine zza 63 (zI k) (zzg 64 267 _ fun _ _ cQ eq => qym (k_irrCos (k := k) eq ((dQ.trans cQ).cells cq) (cQ.cells cA) hq0 xq xq xq (hG r xq xq xq) bq xq) ?_)
   rintro _ u81 g82 ⟨a1, bh, rfl, c4, dD⟩
   refine zzi ⟨34, a1.cs ++ bh.cs⟩ ty34 ?_
   refine zzb (zzn (ret0 [.agg #[.bool a1.s, a1.m.v, a1.d.v, .bool bh.s, bh.m.v, bh.d.v]] ⟨zzq ty34 zze, trivial⟩ fun u84 cO => ?_))
   have hc := Nt.cosA_g (r := r) (q := q) (b := k) (by have h9 := af; simp at h9; omega) (by have h9 := au; simp at h9; omega) (by have h9 := aK; simp at h9; omega)
   refine ⟨a1, bh, rfl, RatN.more (K := 70) ?_ xq, RatN.more (K := 70) ?_ xq⟩
   ·rw [hc]; exact (c4.ext cO)
   rw [hc]; exact (dD.ext cO)
  have qhb12 := qyf aM
  refine zzr (zzo ?_)
  refine zzd (zzd ?_)
  have hfold : (-(Int.tmod p (2 * (q : Int)))) = ((Nt.fold p q : Nat) : Int) := by unfold Nt.fold; dsimp only; split <;> omega
  rw [hfold]
  have hfl := Nt.fold_le p q hq0
  obtain ⟨r, hr⟩ : ∃ r, Nt.fold p q = r := ⟨_, rfl⟩
  rw [hr] at hfl ⊢
  clear hfold
  rw [hr] at hA
  refine zzf (zzh 23 (zI r) ty3 zzk (zyn 24 (x := zI (IntKind.i64.wrap ((2 : Int) * (r : Int)))) (zI (2 * r : Nat)) (eqI xk) (zzh 25 (zI q) ty3 zzk (zza 26 (zB (decide ((q : Int) < ((2 * r : Nat) : Int)))) (zzb (zzt (b := decide ((q : Int) < ((2 * r : Nat) : Int))) xj (fun hb => ?_) (fun hb => ?_)))))))
  ·exact absurd hb (by rw [show (decide ((q : Int) < ((2 * r : Nat) : Int))) = false from decide_eq_false xq]; decide)
  clear hb
  refine zzr (zzo ?_)
  refine zzd (zzs (sq9 (zzh 41 (zI r) ty3 zzk (zza 42 (zB ((r : Int) == 0)) (zza 40 (zB ((r : Int) == 0)) (zzb (zzt (b := (r : Int) == 0) xj (fun ag => ?_) (fun ag => ?_))))))))
  ·have bk : (r : Int) = 0 := by simpa using ag
   refine sq9 (zzg 43 53 _ fun _ _ _ d3 => qym (k_ratOf d3 (z := 1) xq xq) ?_)
   rintro _ u90 g91 ⟨r88, rfl, de⟩
   refine zza 44 (zI k) (zzg 45 266 _ fun _ _ eg dU => qym (k_exactly (k := k) dU (de.ext eg) xq xq) ?_)
   rintro _ u98 g99 ⟨a0, aT, rfl, em, cX⟩
   refine zzi ⟨34, a0.cs ++ aT.cs⟩ ty34 ?_
   refine zzb (zzn (zyr (zzv (ret0 [.agg #[.bool a0.s, a0.m.v, a0.d.v, .bool aT.s, aT.m.v, aT.d.v]] ⟨zzq ty34 zze, trivial⟩ fun cY a5 => ?_))))
   have hc := Nt.cosA_0 (r := r) (q := q) (b := k) (by have h9 := ag; simp at h9; omega)
   refine ⟨a0, aT, rfl, RatN.more (K := 80) ?_ xq, RatN.more (K := 80) ?_ xq⟩
   ·rw [hc]; exact (em.ext a5)
   rw [hc]; exact (cX.ext a5)
  have bk : ¬ ((r : Int) = 0) := by simpa using ag
  refine sq9 (zzh 47 (zI r) ty3 zzk (zyn 48 (x := zI (IntKind.i64.wrap ((2 : Int) * (r : Int)))) (zI (2 * r : Nat)) (eqI xk) (zzh 49 (zI q) ty3 zzk (zza 50 (zB (((2 * r : Nat) : Int) == (q : Int))) (zza 46 (zB (((2 * r : Nat) : Int) == (q : Int))) (zzb (zzt (b := ((2 * r : Nat) : Int) == (q : Int)) xj (fun ac => ?_) (fun ac => ?_))))))))
  ·refine sq9 (zzg 51 53 _ fun _ _ _ ch => qym (k_ratOf ch (z := 0) xq xq) ?_)
   rintro _ dP ed ⟨du, rfl, bx⟩
   refine zza 52 (zI k) (zzg 53 266 _ fun _ _ bK b4 => qym (k_exactly (k := k) b4 (bx.ext bK) xq xq) ?_)
   rintro _ dh dB ⟨ao, am, rfl, cF, bM⟩
   refine zzi ⟨34, ao.cs ++ am.cs⟩ ty34 ?_
   refine zzc 65 [(6, .adr 6 0)] [(6, ⟨34, ao.cs ++ am.cs⟩)] (zzn (zyr (zzv (ret0 [.agg #[.bool ao.s, ao.m.v, ao.d.v, .bool am.s, am.m.v, am.d.v]] ⟨zzq ty34 zze, trivial⟩ fun c7 aX => ?_))))
   have hc := Nt.cosA_h (r := r) (q := q) (b := k) (by have h9 := ag; simp at h9; omega) (by have h9 := ac; simp at h9; omega)
   refine ⟨ao, am, rfl, RatN.more (K := 80) ?_ xq, RatN.more (K := 80) ?_ xq⟩
   ·rw [hc]; exact (cF.ext aX)
   rw [hc]; exact (bM.ext aX)
  have bn : ¬ 2 * r = q := by have h9 := ac; simp at h9; omega
  refine sq9 (zzh 55 (zI r) ty3 zzk (zyn 56 (x := zI (IntKind.i64.wrap ((3 : Int) * (r : Int)))) (zI (3 * r : Nat)) (eqI xk) (zzh 57 (zI q) ty3 zzk (zza 58 (zB (((3 * r : Nat) : Int) == (q : Int))) (zza 54 (zB (((3 * r : Nat) : Int) == (q : Int))) (zzc 65 [(2, zI k), (3, .adr 3 0), (4, .adr 4 0), (6, .adr 6 0), (54, zB (((3 * r : Nat) : Int) == (q : Int)))] [(3, ⟨3, [.int .i64 r]⟩), (4, ⟨3, [.int .i64 q]⟩), (6, ⟨34, zw6⟩)] (zzt (b := ((3 * r : Nat) : Int) == (q : Int)) xj (fun aj => ?_) (fun aj => ?_))))))))
  ·refine sq9 (zzg 59 130 _ fun _ _ _ cl => qym (k_ratFrac cl (a := 1) (b := 2) xq xq xq xq) ?_)
   rintro _ dp cZ ⟨c6, rfl, b7⟩
   refine zza 60 (zI k) (zzg 61 266 _ fun _ _ bv bB => qym (k_exactly (k := k) bB (b7.ext bv) xq xq) ?_)
   rintro _ eC ex ⟨ax, av, rfl, ci, b0⟩
   refine zzi ⟨34, ax.cs ++ av.cs⟩ ty34 ?_
   refine zzb (zzn (zyr (zzv (ret0 [.agg #[.bool ax.s, ax.m.v, ax.d.v, .bool av.s, av.m.v, av.d.v]] ⟨zzq ty34 zze, trivial⟩ fun dc aZ => ?_))))
   have hc := Nt.cosA_3 (r := r) (q := q) (b := k) (by have h9 := ag; simp at h9; omega) (by have h9 := ac; simp at h9; omega) (by have h9 := aj; simp at h9; omega)
   refine ⟨ax, av, rfl, RatN.more (K := 80) ?_ xq, RatN.more (K := 80) ?_ xq⟩
   ·rw [hc]; exact (ci.ext aZ)
   rw [hc]; exact (b0.ext aZ)
  have bp : ¬ 3 * r = q := by have h9 := aj; simp at h9; omega
  refine zzr (zzo ?_)
  refine zzd (sw_pubA (r := 3) (t := 3) [3] xz xj (by rfl) (by rfl) xj (fun bD dO c1 cG cJ bl => ?_))
  refine sw_pubA (r := 4) (t := 4) [4] xz xj (by rfl) (by rfl) xj (fun bH ea bZ cS cH bm => ?_)
  refine zzf (sy_fun 62 [.pointer (some ⟨bD, 0, none⟩), .pointer (some ⟨bH, 0, none⟩)] ?_)
  refine zza 63 (zI k) (zzg 64 267 _ fun _ _ aV bG => qym (k_irrCos (k := k) bG ((bZ.trans aV).cells bl) (aV.cells bm) hq0 xq xq xq (hG r xq xq xq) bq xq) ?_)
  rintro _ dy ep ⟨aE, aI, rfl, bC, bE⟩
  refine zzi ⟨34, aE.cs ++ aI.cs⟩ ty34 ?_
  refine zzb (zzn (ret0 [.agg #[.bool aE.s, aE.m.v, aE.d.v, .bool aI.s, aI.m.v, aI.d.v]] ⟨zzq ty34 zze, trivial⟩ fun ei aY => ?_))
  have hc := Nt.cosA_g (r := r) (q := q) (b := k) (by have h9 := ag; simp at h9; omega) (by have h9 := ac; simp at h9; omega) (by have h9 := aj; simp at h9; omega)
  refine ⟨aE, aI, rfl, RatN.more (K := 70) ?_ xq, RatN.more (K := 70) ?_ xq⟩
  ·rw [hc]; exact (bC.ext aY)
  rw [hc]; exact (bE.ext aY)
 have qhb11 := qyf aN
 refine zzr (zzo ?_)
 refine zzd (sq9 (zzh 16 (zI (Int.tmod p (2 * (q : Int)))) ty3 zzk (zzh 17 (zI q) ty3 zzk (zza 18 (zB (decide ((q : Int) < (Int.tmod p (2 * (q : Int)))))) (zzb (zzt (b := decide ((q : Int) < (Int.tmod p (2 * (q : Int))))) xj (fun aA => ?_) (fun aA => ?_)))))))
 ·have qhb159 := qyt aA
  refine zzf (zzh 19 (zI q) ty3 zzk (zyn 20 (x := zI (IntKind.i64.wrap ((2 : Int) * (q : Int)))) (zI (2 * q : Nat)) (eqI xk) (zzh 21 (zI (Int.tmod p (2 * (q : Int)))) ty3 zzk (zyn 22 (x := zI (IntKind.i64.wrap (((2 * q : Nat) : Int) - (Int.tmod p (2 * (q : Int)))))) (zI (((2 * q : Nat) : Int) - (Int.tmod p (2 * (q : Int))))) yk (zzi ⟨3, [.int .i64 (((2 * q : Nat) : Int) - (Int.tmod p (2 * (q : Int))))]⟩ ty3 ?_)))))
  refine zzb (zzd (zzd ?_))
  have hfold : (((2 * q : Nat) : Int) - (Int.tmod p (2 * (q : Int)))) = ((Nt.fold p q : Nat) : Int) := by unfold Nt.fold; dsimp only; split <;> omega
  rw [hfold]
  have hfl := Nt.fold_le p q hq0
  obtain ⟨r, hr⟩ : ∃ r, Nt.fold p q = r := ⟨_, rfl⟩
  rw [hr] at hfl ⊢
  clear hfold
  rw [hr] at hA
  refine zzf (zzh 23 (zI r) ty3 zzk (zyn 24 (x := zI (IntKind.i64.wrap ((2 : Int) * (r : Int)))) (zI (2 * r : Nat)) (eqI xk) (zzh 25 (zI q) ty3 zzk (zza 26 (zB (decide ((q : Int) < ((2 * r : Nat) : Int)))) (zzb (zzt (b := decide ((q : Int) < ((2 * r : Nat) : Int))) xj (fun hb => ?_) (fun hb => ?_)))))))
  ·exact absurd hb (by rw [show (decide ((q : Int) < ((2 * r : Nat) : Int))) = false from decide_eq_false xq]; decide)
  clear hb
  refine zzr (zzo ?_)
  refine zzd (zzs (sq9 (zzh 41 (zI r) ty3 zzk (zza 42 (zB ((r : Int) == 0)) (zza 40 (zB ((r : Int) == 0)) (zzb (zzt (b := (r : Int) == 0) xj (fun ab => ?_) (fun ab => ?_))))))))
  ·have aL : (r : Int) = 0 := by simpa using ab
   refine sq9 (zzg 43 53 _ fun _ _ _ bO => qym (k_ratOf bO (z := 1) xq xq) ?_)
   rintro _ dv dI ⟨eo, rfl, cu⟩
   refine zza 44 (zI k) (zzg 45 266 _ fun _ _ b9 bF => qym (k_exactly (k := k) bF (cu.ext b9) xq xq) ?_)
   rintro _ dk dg ⟨aJ, aF, rfl, cE, b1⟩
   refine zzi ⟨34, aJ.cs ++ aF.cs⟩ ty34 ?_
   refine zzb (zzn (zyr (zzv (ret0 [.agg #[.bool aJ.s, aJ.m.v, aJ.d.v, .bool aF.s, aF.m.v, aF.d.v]] ⟨zzq ty34 zze, trivial⟩ fun es bg => ?_))))
   have hc := Nt.cosA_0 (r := r) (q := q) (b := k) (by have h9 := ab; simp at h9; omega)
   refine ⟨aJ, aF, rfl, RatN.more (K := 80) ?_ xq, RatN.more (K := 80) ?_ xq⟩
   ·rw [hc]; exact (cE.ext bg)
   rw [hc]; exact (b1.ext bg)
  have aL : ¬ ((r : Int) = 0) := by simpa using ab
  refine sq9 (zzh 47 (zI r) ty3 zzk (zyn 48 (x := zI (IntKind.i64.wrap ((2 : Int) * (r : Int)))) (zI (2 * r : Nat)) (eqI xk) (zzh 49 (zI q) ty3 zzk (zza 50 (zB (((2 * r : Nat) : Int) == (q : Int))) (zza 46 (zB (((2 * r : Nat) : Int) == (q : Int))) (zzb (zzt (b := ((2 * r : Nat) : Int) == (q : Int)) xj (fun ad => ?_) (fun ad => ?_))))))))
  ·refine sq9 (zzg 51 53 _ fun _ _ _ cD => qym (k_ratOf cD (z := 0) xq xq) ?_)
   rintro _ dr eh ⟨dY, rfl, bQ⟩
   refine zza 52 (zI k) (zzg 53 266 _ fun _ _ ct bS => qym (k_exactly (k := k) bS (bQ.ext ct) xq xq) ?_)
   rintro _ eu d1 ⟨an, ak, rfl, b3, bz⟩
   refine zzi ⟨34, an.cs ++ ak.cs⟩ ty34 ?_
   refine zzc 65 [(6, .adr 6 0)] [(6, ⟨34, an.cs ++ ak.cs⟩)] (zzn (zyr (zzv (ret0 [.agg #[.bool an.s, an.m.v, an.d.v, .bool ak.s, ak.m.v, ak.d.v]] ⟨zzq ty34 zze, trivial⟩ fun el bj => ?_))))
   have hc := Nt.cosA_h (r := r) (q := q) (b := k) (by have h9 := ab; simp at h9; omega) (by have h9 := ad; simp at h9; omega)
   refine ⟨an, ak, rfl, RatN.more (K := 80) ?_ xq, RatN.more (K := 80) ?_ xq⟩
   ·rw [hc]; exact (b3.ext bj)
   rw [hc]; exact (bz.ext bj)
  have bs : ¬ 2 * r = q := by have h9 := ad; simp at h9; omega
  refine sq9 (zzh 55 (zI r) ty3 zzk (zyn 56 (x := zI (IntKind.i64.wrap ((3 : Int) * (r : Int)))) (zI (3 * r : Nat)) (eqI xk) (zzh 57 (zI q) ty3 zzk (zza 58 (zB (((3 * r : Nat) : Int) == (q : Int))) (zza 54 (zB (((3 * r : Nat) : Int) == (q : Int))) (zzc 65 [(2, zI k), (3, .adr 3 0), (4, .adr 4 0), (6, .adr 6 0), (54, zB (((3 * r : Nat) : Int) == (q : Int)))] [(3, ⟨3, [.int .i64 r]⟩), (4, ⟨3, [.int .i64 q]⟩), (6, ⟨34, zw6⟩)] (zzt (b := ((3 * r : Nat) : Int) == (q : Int)) xj (fun ai => ?_) (fun ai => ?_))))))))
  ·refine sq9 (zzg 59 130 _ fun _ _ _ bT => qym (k_ratFrac bT (a := 1) (b := 2) xq xq xq xq) ?_)
   rintro _ eb di ⟨d4, rfl, bJ⟩
   refine zza 60 (zI k) (zzg 61 266 _ fun _ _ cc cj => qym (k_exactly (k := k) cj (bJ.ext cc) xq xq) ?_)
   rintro _ dR dZ ⟨aD, aw, rfl, ck, b5⟩
   refine zzi ⟨34, aD.cs ++ aw.cs⟩ ty34 ?_
   refine zzb (zzn (zyr (zzv (ret0 [.agg #[.bool aD.s, aD.m.v, aD.d.v, .bool aw.s, aw.m.v, aw.d.v]] ⟨zzq ty34 zze, trivial⟩ fun ej aW => ?_))))
   have hc := Nt.cosA_3 (r := r) (q := q) (b := k) (by have h9 := ab; simp at h9; omega) (by have h9 := ad; simp at h9; omega) (by have h9 := ai; simp at h9; omega)
   refine ⟨aD, aw, rfl, RatN.more (K := 80) ?_ xq, RatN.more (K := 80) ?_ xq⟩
   ·rw [hc]; exact (ck.ext aW)
   rw [hc]; exact (b5.ext aW)
  have bt : ¬ 3 * r = q := by have h9 := ai; simp at h9; omega
  refine zzr (zzo ?_)
  refine zzd (sw_pubA (r := 3) (t := 3) [3] xz xj (by rfl) (by rfl) xj (fun bW da ee cV cK aS => ?_))
  refine sw_pubA (r := 4) (t := 4) [4] xz xj (by rfl) (by rfl) xj (fun cx dm cb cR cM bb => ?_)
  refine zzf (sy_fun 62 [.pointer (some ⟨bW, 0, none⟩), .pointer (some ⟨cx, 0, none⟩)] ?_)
  refine zza 63 (zI k) (zzg 64 267 _ fun _ _ a9 cz => qym (k_irrCos (k := k) cz ((cb.trans a9).cells aS) (a9.cells bb) hq0 xq xq xq (hG r xq xq xq) bq xq) ?_)
  rintro _ ew d8 ⟨aG, ay, rfl, b2, bX⟩
  refine zzi ⟨34, aG.cs ++ ay.cs⟩ ty34 ?_
  refine zzb (zzn (ret0 [.agg #[.bool aG.s, aG.m.v, aG.d.v, .bool ay.s, ay.m.v, ay.d.v]] ⟨zzq ty34 zze, trivial⟩ fun ec bf => ?_))
  have hc := Nt.cosA_g (r := r) (q := q) (b := k) (by have h9 := ab; simp at h9; omega) (by have h9 := ad; simp at h9; omega) (by have h9 := ai; simp at h9; omega)
  refine ⟨aG, ay, rfl, RatN.more (K := 70) ?_ xq, RatN.more (K := 70) ?_ xq⟩
  ·rw [hc]; exact (b2.ext bf)
  rw [hc]; exact (bX.ext bf)
 have qhb159 := qyf aA
 refine zzr (zzo ?_)
 refine zzd (zzd ?_)
 have hfold : (Int.tmod p (2 * (q : Int))) = ((Nt.fold p q : Nat) : Int) := by unfold Nt.fold; dsimp only; split <;> omega
 rw [hfold]
 have hfl := Nt.fold_le p q hq0
 obtain ⟨r, hr⟩ : ∃ r, Nt.fold p q = r := ⟨_, rfl⟩
 rw [hr] at hfl ⊢
 clear hfold
 rw [hr] at hA
 refine zzf (zzh 23 (zI r) ty3 zzk (zyn 24 (x := zI (IntKind.i64.wrap ((2 : Int) * (r : Int)))) (zI (2 * r : Nat)) (eqI xk) (zzh 25 (zI q) ty3 zzk (zza 26 (zB (decide ((q : Int) < ((2 * r : Nat) : Int)))) (zzb (zzt (b := decide ((q : Int) < ((2 * r : Nat) : Int))) xj (fun hb => ?_) (fun hb => ?_)))))))
 ·exact absurd hb (by rw [show (decide ((q : Int) < ((2 * r : Nat) : Int))) = false from decide_eq_false xq]; decide)
 clear hb
 refine zzr (zzo ?_)
 refine zzd (zzs (sq9 (zzh 41 (zI r) ty3 zzk (zza 42 (zB ((r : Int) == 0)) (zza 40 (zB ((r : Int) == 0)) (zzb (zzt (b := (r : Int) == 0) xj (fun aa => ?_) (fun aa => ?_))))))))
 ·have aO : (r : Int) = 0 := by simpa using aa
  refine sq9 (zzg 43 53 _ fun _ _ _ bY => qym (k_ratOf bY (z := 1) xq xq) ?_)
  rintro _ dW dG ⟨et, rfl, cp⟩
  refine zza 44 (zI k) (zzg 45 266 _ fun _ _ cf bw => qym (k_exactly (k := k) bw (cp.ext cf) xq xq) ?_)
  rintro _ dw dV ⟨aB, az, rfl, cy, b8⟩
  refine zzi ⟨34, aB.cs ++ az.cs⟩ ty34 ?_
  refine zzb (zzn (zyr (zzv (ret0 [.agg #[.bool aB.s, aB.m.v, aB.d.v, .bool az.s, az.m.v, az.d.v]] ⟨zzq ty34 zze, trivial⟩ fun dF a6 => ?_))))
  have hc := Nt.cosA_0 (r := r) (q := q) (b := k) (by have h9 := aa; simp at h9; omega)
  refine ⟨aB, az, rfl, RatN.more (K := 80) ?_ xq, RatN.more (K := 80) ?_ xq⟩
  ·rw [hc]; exact (cy.ext a6)
  rw [hc]; exact (b8.ext a6)
 have aO : ¬ ((r : Int) = 0) := by simpa using aa
 refine sq9 (zzh 47 (zI r) ty3 zzk (zyn 48 (x := zI (IntKind.i64.wrap ((2 : Int) * (r : Int)))) (zI (2 * r : Nat)) (eqI xk) (zzh 49 (zI q) ty3 zzk (zza 50 (zB (((2 * r : Nat) : Int) == (q : Int))) (zza 46 (zB (((2 * r : Nat) : Int) == (q : Int))) (zzb (zzt (b := ((2 * r : Nat) : Int) == (q : Int)) xj (fun ae => ?_) (fun ae => ?_))))))))
 ·refine sq9 (zzg 51 53 _ fun _ _ _ cr => qym (k_ratOf cr (z := 0) xq xq) ?_)
  rintro _ dT d9 ⟨ey, rfl, cv⟩
  refine zza 52 (zI k) (zzg 53 266 _ fun _ _ bI cg => qym (k_exactly (k := k) cg (cv.ext bI) xq xq) ?_)
  rintro _ d5 ef ⟨aH, aC, rfl, bL, bU⟩
  refine zzi ⟨34, aH.cs ++ aC.cs⟩ ty34 ?_
  refine zzb (zzn (zyr (zzv (ret0 [.agg #[.bool aH.s, aH.m.v, aH.d.v, .bool aC.s, aC.m.v, aC.d.v]] ⟨zzq ty34 zze, trivial⟩ fun dJ aR => ?_))))
  have hc := Nt.cosA_h (r := r) (q := q) (b := k) (by have h9 := aa; simp at h9; omega) (by have h9 := ae; simp at h9; omega)
  refine ⟨aH, aC, rfl, RatN.more (K := 80) ?_ xq, RatN.more (K := 80) ?_ xq⟩
  ·rw [hc]; exact (bL.ext aR)
  rw [hc]; exact (bU.ext aR)
 have br : ¬ 2 * r = q := by have h9 := ae; simp at h9; omega
 refine sq9 (zzh 55 (zI r) ty3 zzk (zyn 56 (x := zI (IntKind.i64.wrap ((3 : Int) * (r : Int)))) (zI (3 * r : Nat)) (eqI xk) (zzh 57 (zI q) ty3 zzk (zza 58 (zB (((3 * r : Nat) : Int) == (q : Int))) (zza 54 (zB (((3 * r : Nat) : Int) == (q : Int))) (zzb (zzt (b := ((3 * r : Nat) : Int) == (q : Int)) xj (fun ah => ?_) (fun ah => ?_))))))))
 ·refine sq9 (zzg 59 130 _ fun _ _ _ cd => qym (k_ratFrac cd (a := 1) (b := 2) xq xq xq xq) ?_)
  rintro _ dx dt ⟨dM, rfl, bN⟩
  refine zza 60 (zI k) (zzg 61 266 _ fun _ _ bu cB => qym (k_exactly (k := k) cB (bN.ext bu) xq xq) ?_)
  rintro _ c2 dn ⟨aq, al, rfl, cC, ca⟩
  refine zzi ⟨34, aq.cs ++ al.cs⟩ ty34 ?_
  refine zzc 65 [(6, .adr 6 0)] [(6, ⟨34, aq.cs ++ al.cs⟩)] (zzn (zyr (zzv (ret0 [.agg #[.bool aq.s, aq.m.v, aq.d.v, .bool al.s, al.m.v, al.d.v]] ⟨zzq ty34 zze, trivial⟩ fun df be => ?_))))
  have hc := Nt.cosA_3 (r := r) (q := q) (b := k) (by have h9 := aa; simp at h9; omega) (by have h9 := ae; simp at h9; omega) (by have h9 := ah; simp at h9; omega)
  refine ⟨aq, al, rfl, RatN.more (K := 80) ?_ xq, RatN.more (K := 80) ?_ xq⟩
  ·rw [hc]; exact (cC.ext be)
  rw [hc]; exact (ca.ext be)
 have bo : ¬ 3 * r = q := by have h9 := ah; simp at h9; omega
 refine zzr (zzo ?_)
 refine zzd (sw_pubA (r := 3) (t := 3) [3] xz xj (by rfl) (by rfl) xj (fun ce dX dE cL cN a4 => ?_))
 refine sw_pubA (r := 4) (t := 4) [4] xz xj (by rfl) (by rfl) xj (fun cm eB cw cP cU a2 => ?_)
 refine zzf (sy_fun 62 [.pointer (some ⟨ce, 0, none⟩), .pointer (some ⟨cm, 0, none⟩)] ?_)
 refine zza 63 (zI k) (zzg 64 267 _ fun _ _ a8 bA => qym (k_irrCos (k := k) bA ((cw.trans a8).cells a4) (a8.cells a2) hq0 xq xq xq (hG r xq xq xq) bq xq) ?_)
 rintro _ c0 c3 ⟨ap, ar, rfl, b6, bR⟩
 refine zzi ⟨34, ap.cs ++ ar.cs⟩ ty34 ?_
 refine zzc 65 [(6, .adr 6 0)] [(6, ⟨34, ap.cs ++ ar.cs⟩)] (zzn (ret0 [.agg #[.bool ap.s, ap.m.v, ap.d.v, .bool ar.s, ar.m.v, ar.d.v]] ⟨zzq ty34 zze, trivial⟩ fun dd bc => ?_))
 have hc := Nt.cosA_g (r := r) (q := q) (b := k) (by have h9 := aa; simp at h9; omega) (by have h9 := ae; simp at h9; omega) (by have h9 := ah; simp at h9; omega)
 refine ⟨ap, ar, rfl, RatN.more (K := 70) ?_ xq, RatN.more (K := 70) ?_ xq⟩
 ·rw [hc]; exact (b6.ext bc)
 rw [hc]; exact (bR.ext bc)
theorem k_cosine {u w : World} {p : Int} {q k : Nat} (d : Dat u w) (hq0 : 0 < q) (hq2 : q ≤ 10000) (hG0 : Nt.GapQ q k) (hp0 : -1000000000 ≤ p) (hp1 : p ≤ 1000000000) (hk : k ≤ 256)  : qyc 160 #[.int .i64 p, .int .i64 (q : Int), .int .i64 (k : Int)] w (Post u w fun v u' => ∃ r1 r2 : RL, v = IV r1 r2 ∧ RatN u' r1 ((Nt.cosV p q k).1) 80 ∧ RatN u' r2 ((Nt.cosV p q k).2) 80) := by
 have htm := Nt.tmod_bd p hq0
 obtain ⟨g, bQ, hG⟩ := id hG0
 refine zzl (args := [.int .i64 p, .int .i64 q, .int .i64 k]) Tryz.func160 rfl Tryz.ntmps160 (rs := [.cell 6 34]) Tryz.results160 (le_b rfl) (le_b rfl) d ?_
 refine sq9 (zzj 3 ⟨3, [.int .i64 p]⟩ (zzj 4 ⟨3, [.int .i64 q]⟩ (zzj 6 ⟨34, zw6⟩ (zzb (sq9 (zzh 8 (zI p) ty3 zzk (zzh 9 (zI q) ty3 zzk (zyn 10 (x := zI (IntKind.i64.wrap ((2 : Int) * (q : Int)))) (zI (2 * q : Nat)) (eqI xk) (sy_rem 11 (m := ((2 * q : Nat) : Int)) (Int.tmod p (2 * (q : Int))) xq (by rw [Int.natCast_mul]; rfl) ?_)))))))))
 refine zzi ⟨3, [.int .i64 (Int.tmod p (2 * (q : Int)))]⟩ ty3 ?_
 refine zzb (zzd (sq9 (zzh 12 (zI (Int.tmod p (2 * (q : Int)))) ty3 zzk (zza 13 (zB (decide ((Int.tmod p (2 * (q : Int))) < 0))) (zzb (zzt (b := decide ((Int.tmod p (2 * (q : Int))) < 0)) xj (fun a2 => ?_) (fun a2 => ?_)))))))
 ·have qhb11 := qyt a2
  refine zzf (zzh 14 (zI (Int.tmod p (2 * (q : Int)))) ty3 zzk (zyn 15 (x := zI (IntKind.i64.wrap (0 - (Int.tmod p (2 * (q : Int)))))) (zI (-(Int.tmod p (2 * (q : Int))))) (eqI xk) (zzi ⟨3, [.int .i64 (-(Int.tmod p (2 * (q : Int))))]⟩ ty3 ?_)))
  refine zzb (zzd (sq9 (zzh 16 (zI (-(Int.tmod p (2 * (q : Int))))) ty3 zzk (zzh 17 (zI q) ty3 zzk (zza 18 (zB (decide ((q : Int) < (-(Int.tmod p (2 * (q : Int))))))) (zzb (zzt (b := decide ((q : Int) < (-(Int.tmod p (2 * (q : Int)))))) xj (fun a1 => ?_) (fun a1 => ?_))))))))
  ·have qhb12 := qyt a1
   refine zzf (zzh 19 (zI q) ty3 zzk (zyn 20 (x := zI (IntKind.i64.wrap ((2 : Int) * (q : Int)))) (zI (2 * q : Nat)) (eqI xk) (zzh 21 (zI (-(Int.tmod p (2 * (q : Int))))) ty3 zzk (zyn 22 (x := zI (IntKind.i64.wrap (((2 * q : Nat) : Int) - (-(Int.tmod p (2 * (q : Int))))))) (zI (((2 * q : Nat) : Int) - (-(Int.tmod p (2 * (q : Int)))))) yk (zzi ⟨3, [.int .i64 (((2 * q : Nat) : Int) - (-(Int.tmod p (2 * (q : Int)))))]⟩ ty3 ?_)))))
   refine zzb (zzd (zzd ?_))
   have hfold : (((2 * q : Nat) : Int) - (-(Int.tmod p (2 * (q : Int))))) = ((Nt.fold p q : Nat) : Int) := by unfold Nt.fold; dsimp only; split <;> omega
   rw [hfold]
   have hfl := Nt.fold_le p q hq0
   obtain ⟨r, hr⟩ : ∃ r, Nt.fold p q = r := ⟨_, rfl⟩
   rw [hr] at hfl ⊢
   clear hfold
   refine zzf (zzh 23 (zI r) ty3 zzk (zyn 24 (x := zI (IntKind.i64.wrap ((2 : Int) * (r : Int)))) (zI (2 * r : Nat)) (eqI xk) (zzh 25 (zI q) ty3 zzk (zza 26 (zB (decide ((q : Int) < ((2 * r : Nat) : Int)))) (zzb (zzt (b := decide ((q : Int) < ((2 * r : Nat) : Int))) xj (fun ah => ?_) (fun ah => ?_)))))))
   ·have qhb13 := qyt ah
    have hb9 := ah
    refine sq9 (zzh 27 (zI q) ty3 zzk (zzh 28 (zI r) ty3 zzk (zyn 29 (x := zI (IntKind.i64.wrap ((q : Int) - (r : Int)))) (zI (q - r : Nat)) (eqI xk) (zzh 30 (zI q) ty3 zzk (zza 31 (zI k) (zzg 32 160 _ fun _ _ _ ef => qym ((show Calls _ _ #[.int .i64 (q - r : Nat), .int .i64 q, .int .i64 k] _ _ from (by have h9 := k_cosA (p := ((q - r : Nat) : Int)) (q := q) (k := k) ef hq0 hq2 hG0 xq xq hk (by rw [Nt.fold_id xq]; have h8 := qyt hb9; omega); rw [Nt.fold_id xq] at h9; exact h9))) ?_))))))
    rintro _ u19 g20 ⟨c9, de, rfl, ea, ex⟩
    refine zzj 7 ⟨34, zw6⟩ (zzi ⟨34, c9.cs ++ de.cs⟩ ty34 ?_)
    refine zzc 65 [(6, .adr 6 0), (7, .adr 7 0)] [(6, ⟨34, zw6⟩), (7, ⟨34, c9.cs ++ de.cs⟩)] (zzd (zzy [0, 1, 3, 0, 8, 31, 63, 127] [(0, []), (1, []), (3, []), (4, []), (2, []), (5, []), (6, []), (7, [])] xj xj (zza 33 (.adr 7 3) (zzh 34 (.v (de.v)) ty32 zze (zza 36 (.adr 7 0) (zzh 37 (.v (c9.v)) ty32 zze (zzg 35 250 _ fun _ _ dS eS => qym (k_ratNeg eS (ex.ext dS).raw xq) ?_)))))))
    rintro _ u25 eG ⟨aZ, rfl, eT⟩
    refine zzg 38 250 _ fun _ _ d3 e4 => qym (k_ratNeg e4 (ea.ext (dS.t (eG.t d3))).raw xq) ?_
    rintro _ u31 e2 ⟨a0, rfl, eL⟩
    refine zza 39 (.v (.agg #[.bool aZ.s, aZ.m.v, aZ.d.v, .bool a0.s, a0.m.v, a0.d.v])) (zzi ⟨34, aZ.cs ++ a0.cs⟩ ty34 ?_)
    refine zzb (zzn (zzv (ret0 [.agg #[.bool aZ.s, aZ.m.v, aZ.d.v, .bool a0.s, a0.m.v, a0.d.v]] ⟨zzq ty34 zze, trivial⟩ fun u34 dM => ?_)))
    have hc := Nt.cosV_hi (b := k) hr (by have h9 := qyt ah; omega)
    refine ⟨aZ, a0, rfl, RatN.more (K := 80) ?_ xq, RatN.more (K := 80) ?_ xq⟩
    ·rw [hc]; exact (eT.ext (d3.t (e2.t dM)))
    rw [hc]; exact (eL.ext dM)
   have qhb13 := qyf ah
   refine zzr (zzo ?_)
   refine zzd (zzs (sq9 (zzh 41 (zI r) ty3 zzk (zza 42 (zB ((r : Int) == 0)) (zza 40 (zB ((r : Int) == 0)) (zzb (zzt (b := (r : Int) == 0) xj (fun aq => ?_) (fun aq => ?_))))))))
   ·have bI : (r : Int) = 0 := by simpa using aq
    refine sq9 (zzg 43 53 _ fun _ _ _ eq => qym (k_ratOf eq (z := 1) xq xq) ?_)
    rintro _ u40 g41 ⟨r38, rfl, eF⟩
    refine zza 44 (zI k) (zzg 45 266 _ fun _ _ eJ fb => qym (k_exactly (k := k) fb (eF.ext eJ) xq xq) ?_)
    rintro _ u48 g49 ⟨a6, a7, rfl, fO, fL⟩
    refine zzi ⟨34, a6.cs ++ a7.cs⟩ ty34 ?_
    refine zzc 65 [(6, .adr 6 0)] [(6, ⟨34, a6.cs ++ a7.cs⟩)] (zzn (zyr (zzv (ret0 [.agg #[.bool a6.s, a6.m.v, a6.d.v, .bool a7.s, a7.m.v, a7.d.v]] ⟨zzq ty34 zze, trivial⟩ fun u51 dQ => ?_))))
    have hc := (Nt.cosV_lo (b := k) hr (by have h9 := qyf ah; omega)).trans (Nt.cosA_0 (r := r) (q := q) (b := k) (by have h9 := aq; simp at h9; omega))
    refine ⟨a6, a7, rfl, RatN.more (K := 80) ?_ xq, RatN.more (K := 80) ?_ xq⟩
    ·rw [hc]; exact (fO.ext dQ)
    rw [hc]; exact (fL.ext dQ)
   have bI : ¬ ((r : Int) = 0) := by simpa using aq
   refine sq9 (zzh 47 (zI r) ty3 zzk (zyn 48 (x := zI (IntKind.i64.wrap ((2 : Int) * (r : Int)))) (zI (2 * r : Nat)) (eqI xk) (zzh 49 (zI q) ty3 zzk (zza 50 (zB (((2 * r : Nat) : Int) == (q : Int))) (zza 46 (zB (((2 * r : Nat) : Int) == (q : Int))) (zzc 65 [(2, zI k), (3, .adr 3 0), (4, .adr 4 0), (6, .adr 6 0), (46, zB (((2 * r : Nat) : Int) == (q : Int)))] [(3, ⟨3, [.int .i64 r]⟩), (4, ⟨3, [.int .i64 q]⟩), (6, ⟨34, zw6⟩)] (zzt (b := ((2 * r : Nat) : Int) == (q : Int)) xj (fun aW => ?_) (fun aW => ?_))))))))
   ·refine sq9 (zzg 51 53 _ fun _ _ _ fg => qym (k_ratOf fg (z := 0) xq xq) ?_)
    rintro _ u57 g58 ⟨r55, rfl, eb⟩
    refine zza 52 (zI k) (zzg 53 266 _ fun _ _ eX fw => qym (k_exactly (k := k) fw (eb.ext eX) xq xq) ?_)
    rintro _ u65 g66 ⟨bu, bf, rfl, eP, eB⟩
    refine zzi ⟨34, bu.cs ++ bf.cs⟩ ty34 ?_
    refine zzb (zzn (zyr (zzv (ret0 [.agg #[.bool bu.s, bu.m.v, bu.d.v, .bool bf.s, bf.m.v, bf.d.v]] ⟨zzq ty34 zze, trivial⟩ fun u68 dO => ?_))))
    have hc := (Nt.cosV_lo (b := k) hr (by have h9 := qyf ah; omega)).trans (Nt.cosA_h (r := r) (q := q) (b := k) (by have h9 := aq; simp at h9; omega) (by have h9 := aW; simp at h9; omega))
    refine ⟨bu, bf, rfl, RatN.more (K := 80) ?_ xq, RatN.more (K := 80) ?_ xq⟩
    ·rw [hc]; exact (eP.ext dO)
    rw [hc]; exact (eB.ext dO)
   have dt : ¬ 2 * r = q := by have h9 := aW; simp at h9; omega
   refine sq9 (zzh 55 (zI r) ty3 zzk (zyn 56 (x := zI (IntKind.i64.wrap ((3 : Int) * (r : Int)))) (zI (3 * r : Nat)) (eqI xk) (zzh 57 (zI q) ty3 zzk (zza 58 (zB (((3 * r : Nat) : Int) == (q : Int))) (zza 54 (zB (((3 * r : Nat) : Int) == (q : Int))) (zzb (zzt (b := ((3 * r : Nat) : Int) == (q : Int)) xj (fun aY => ?_) (fun aY => ?_))))))))
   ·refine sq9 (zzg 59 130 _ fun _ _ _ d4 => qym (k_ratFrac d4 (a := 1) (b := 2) xq xq xq xq) ?_)
    rintro _ u74 g75 ⟨r72, rfl, eH⟩
    refine zza 60 (zI k) (zzg 61 266 _ fun _ _ f3 e7 => qym (k_exactly (k := k) e7 (eH.ext f3) xq xq) ?_)
    rintro _ u82 g83 ⟨bq, bJ, rfl, fp, eu⟩
    refine zzi ⟨34, bq.cs ++ bJ.cs⟩ ty34 ?_
    refine zzb (zzn (zyr (zzv (ret0 [.agg #[.bool bq.s, bq.m.v, bq.d.v, .bool bJ.s, bJ.m.v, bJ.d.v]] ⟨zzq ty34 zze, trivial⟩ fun u85 dV => ?_))))
    have hc := (Nt.cosV_lo (b := k) hr (by have h9 := qyf ah; omega)).trans (Nt.cosA_3 (r := r) (q := q) (b := k) (by have h9 := aq; simp at h9; omega) (by have h9 := aW; simp at h9; omega) (by have h9 := aY; simp at h9; omega))
    refine ⟨bq, bJ, rfl, RatN.more (K := 80) ?_ xq, RatN.more (K := 80) ?_ xq⟩
    ·rw [hc]; exact (fp.ext dV)
    rw [hc]; exact (eu.ext dV)
   have cd : ¬ 3 * r = q := by have h9 := aY; simp at h9; omega
   refine zzr (zzo ?_)
   refine zzd (sw_pubA (r := 3) (t := 3) [3] xz xj (by rfl) (by rfl) xj (fun fY u88 e89 el d5 b1 => ?_))
   refine sw_pubA (r := 4) (t := 4) [4] xz xj (by rfl) (by rfl) xj (fun eK u94 f4 ej fN dE => ?_)
   refine zzf (sy_fun 62 [.pointer (some ⟨fY, 0, none⟩), .pointer (some ⟨eK, 0, none⟩)] ?_)
   refine zza 63 (zI k) (zzg 64 267 _ fun _ _ dY eW => qym (k_irrCos (k := k) eW ((f4.trans dY).cells b1) (dY.cells dE) hq0 xq xq xq (hG r xq xq xq) bQ xq) ?_)
   rintro _ eM fQ ⟨aT, aK, rfl, cH, cX⟩
   refine zzi ⟨34, aT.cs ++ aK.cs⟩ ty34 ?_
   refine zzb (zzn (ret0 [.agg #[.bool aT.s, aT.m.v, aT.d.v, .bool aK.s, aK.m.v, aK.d.v]] ⟨zzq ty34 zze, trivial⟩ fun fc bz => ?_))
   have hc := (Nt.cosV_lo (b := k) hr (by have h9 := qyf ah; omega)).trans (Nt.cosA_g (r := r) (q := q) (b := k) (by have h9 := aq; simp at h9; omega) (by have h9 := aW; simp at h9; omega) (by have h9 := aY; simp at h9; omega))
   refine ⟨aT, aK, rfl, RatN.more (K := 70) ?_ xq, RatN.more (K := 70) ?_ xq⟩
   ·rw [hc]; exact (cH.ext bz)
   rw [hc]; exact (cX.ext bz)
  have qhb12 := qyf a1
  refine zzr (zzo ?_)
  refine zzd (zzd ?_)
  have hfold : (-(Int.tmod p (2 * (q : Int)))) = ((Nt.fold p q : Nat) : Int) := by unfold Nt.fold; dsimp only; split <;> omega
  rw [hfold]
  have hfl := Nt.fold_le p q hq0
  obtain ⟨r, hr⟩ : ∃ r, Nt.fold p q = r := ⟨_, rfl⟩
  rw [hr] at hfl ⊢
  clear hfold
  refine zzf (zzh 23 (zI r) ty3 zzk (zyn 24 (x := zI (IntKind.i64.wrap ((2 : Int) * (r : Int)))) (zI (2 * r : Nat)) (eqI xk) (zzh 25 (zI q) ty3 zzk (zza 26 (zB (decide ((q : Int) < ((2 * r : Nat) : Int)))) (zzb (zzt (b := decide ((q : Int) < ((2 * r : Nat) : Int))) xj (fun ac => ?_) (fun ac => ?_)))))))
  ·have qhb109 := qyt ac
   have hb9 := ac
   refine sq9 (zzh 27 (zI q) ty3 zzk (zzh 28 (zI r) ty3 zzk (zyn 29 (x := zI (IntKind.i64.wrap ((q : Int) - (r : Int)))) (zI (q - r : Nat)) (eqI xk) (zzh 30 (zI q) ty3 zzk (zza 31 (zI k) (zzg 32 160 _ fun _ _ _ dz => qym ((show Calls _ _ #[.int .i64 (q - r : Nat), .int .i64 q, .int .i64 k] _ _ from (by have h9 := k_cosA (p := ((q - r : Nat) : Int)) (q := q) (k := k) dz hq0 hq2 hG0 xq xq hk (by rw [Nt.fold_id xq]; have h8 := qyt hb9; omega); rw [Nt.fold_id xq] at h9; exact h9))) ?_))))))
   rintro _ fA fa ⟨bc, bv, rfl, cY, cZ⟩
   refine zzj 7 ⟨34, zw6⟩ (zzi ⟨34, bc.cs ++ bv.cs⟩ ty34 ?_)
   refine zzb (zzd (zzy [0, 1, 3, 0, 8, 31, 63, 127] [(0, []), (1, []), (3, []), (4, []), (2, []), (5, []), (6, []), (7, [])] xj xj (zza 33 (.adr 7 3) (zzh 34 (.v (bv.v)) ty32 zze (zza 36 (.adr 7 0) (zzh 37 (.v (bc.v)) ty32 zze (zzg 35 250 _ fun _ _ bi df => qym (k_ratNeg df (cZ.ext bi).raw xq) ?_)))))))
   rintro _ ee dc ⟨ai, rfl, cD⟩
   refine zzg 38 250 _ fun _ _ bn c3 => qym (k_ratNeg c3 (cY.ext (bi.t (dc.t bn))).raw xq) ?_
   rintro _ f0 b7 ⟨ag, rfl, dI⟩
   refine zza 39 (.v (.agg #[.bool ai.s, ai.m.v, ai.d.v, .bool ag.s, ag.m.v, ag.d.v])) (zzi ⟨34, ai.cs ++ ag.cs⟩ ty34 ?_)
   refine zzc 65 [(6, .adr 6 0)] [(6, ⟨34, ai.cs ++ ag.cs⟩)] (zzn (zzv (ret0 [.agg #[.bool ai.s, ai.m.v, ai.d.v, .bool ag.s, ag.m.v, ag.d.v]] ⟨zzq ty34 zze, trivial⟩ fun eU bx => ?_)))
   have hc := Nt.cosV_hi (b := k) hr (by have h9 := qyt ac; omega)
   refine ⟨ai, ag, rfl, RatN.more (K := 80) ?_ xq, RatN.more (K := 80) ?_ xq⟩
   ·rw [hc]; exact (cD.ext (bn.t (b7.t bx)))
   rw [hc]; exact (dI.ext bx)
  have qhb109 := qyf ac
  refine zzr (zzo ?_)
  refine zzd (zzs (sq9 (zzh 41 (zI r) ty3 zzk (zza 42 (zB ((r : Int) == 0)) (zza 40 (zB ((r : Int) == 0)) (zzb (zzt (b := (r : Int) == 0) xj (fun af => ?_) (fun af => ?_))))))))
  ·have a3 : (r : Int) = 0 := by simpa using af
   refine sq9 (zzg 43 53 _ fun _ _ _ cA => qym (k_ratOf cA (z := 1) xq xq) ?_)
   rintro _ fd fI ⟨fj, rfl, cP⟩
   refine zza 44 (zI k) (zzg 45 266 _ fun _ _ bX cc => qym (k_exactly (k := k) cc (cP.ext bX) xq xq) ?_)
   rintro _ em fK ⟨aP, aH, rfl, cW, ca⟩
   refine zzi ⟨34, aP.cs ++ aH.cs⟩ ty34 ?_
   refine zzb (zzn (zyr (zzv (ret0 [.agg #[.bool aP.s, aP.m.v, aP.d.v, .bool aH.s, aH.m.v, aH.d.v]] ⟨zzq ty34 zze, trivial⟩ fun fZ bw => ?_))))
   have hc := (Nt.cosV_lo (b := k) hr (by have h9 := qyf ac; omega)).trans (Nt.cosA_0 (r := r) (q := q) (b := k) (by have h9 := af; simp at h9; omega))
   refine ⟨aP, aH, rfl, RatN.more (K := 80) ?_ xq, RatN.more (K := 80) ?_ xq⟩
   ·rw [hc]; exact (cW.ext bw)
   rw [hc]; exact (ca.ext bw)
  have a3 : ¬ ((r : Int) = 0) := by simpa using af
  refine sq9 (zzh 47 (zI r) ty3 zzk (zyn 48 (x := zI (IntKind.i64.wrap ((2 : Int) * (r : Int)))) (zI (2 * r : Nat)) (eqI xk) (zzh 49 (zI q) ty3 zzk (zza 50 (zB (((2 * r : Nat) : Int) == (q : Int))) (zza 46 (zB (((2 * r : Nat) : Int) == (q : Int))) (zzb (zzt (b := ((2 * r : Nat) : Int) == (q : Int)) xj (fun ap => ?_) (fun ap => ?_))))))))
  ·refine sq9 (zzg 51 53 _ fun _ _ _ dm => qym (k_ratOf dm (z := 0) xq xq) ?_)
   rintro _ d7 fy ⟨fv, rfl, cS⟩
   refine zza 52 (zI k) (zzg 53 266 _ fun _ _ cQ dD => qym (k_exactly (k := k) dD (cS.ext cQ) xq xq) ?_)
   rintro _ ez eI ⟨aw, aD, rfl, bZ, da⟩
   refine zzi ⟨34, aw.cs ++ aD.cs⟩ ty34 ?_
   refine zzc 65 [(6, .adr 6 0)] [(6, ⟨34, aw.cs ++ aD.cs⟩)] (zzn (zyr (zzv (ret0 [.agg #[.bool aw.s, aw.m.v, aw.d.v, .bool aD.s, aD.m.v, aD.d.v]] ⟨zzq ty34 zze, trivial⟩ fun e9 bM => ?_))))
   have hc := (Nt.cosV_lo (b := k) hr (by have h9 := qyf ac; omega)).trans (Nt.cosA_h (r := r) (q := q) (b := k) (by have h9 := af; simp at h9; omega) (by have h9 := ap; simp at h9; omega))
   refine ⟨aw, aD, rfl, RatN.more (K := 80) ?_ xq, RatN.more (K := 80) ?_ xq⟩
   ·rw [hc]; exact (bZ.ext bM)
   rw [hc]; exact (da.ext bM)
  have bW : ¬ 2 * r = q := by have h9 := ap; simp at h9; omega
  refine sq9 (zzh 55 (zI r) ty3 zzk (zyn 56 (x := zI (IntKind.i64.wrap ((3 : Int) * (r : Int)))) (zI (3 * r : Nat)) (eqI xk) (zzh 57 (zI q) ty3 zzk (zza 58 (zB (((3 * r : Nat) : Int) == (q : Int))) (zza 54 (zB (((3 * r : Nat) : Int) == (q : Int))) (zzc 65 [(2, zI k), (3, .adr 3 0), (4, .adr 4 0), (6, .adr 6 0), (54, zB (((3 * r : Nat) : Int) == (q : Int)))] [(3, ⟨3, [.int .i64 r]⟩), (4, ⟨3, [.int .i64 q]⟩), (6, ⟨34, zw6⟩)] (zzt (b := ((3 * r : Nat) : Int) == (q : Int)) xj (fun au => ?_) (fun au => ?_))))))))
  ·refine sq9 (zzg 59 130 _ fun _ _ _ cy => qym (k_ratFrac cy (a := 1) (b := 2) xq xq xq xq) ?_)
   rintro _ fT ff ⟨eQ, rfl, cq⟩
   refine zza 60 (zI k) (zzg 61 266 _ fun _ _ c6 cv => qym (k_exactly (k := k) cv (cq.ext c6) xq xq) ?_)
   rintro _ d8 ed ⟨aR, aO, rfl, di, b6⟩
   refine zzi ⟨34, aR.cs ++ aO.cs⟩ ty34 ?_
   refine zzb (zzn (zyr (zzv (ret0 [.agg #[.bool aR.s, aR.m.v, aR.d.v, .bool aO.s, aO.m.v, aO.d.v]] ⟨zzq ty34 zze, trivial⟩ fun fF br => ?_))))
   have hc := (Nt.cosV_lo (b := k) hr (by have h9 := qyf ac; omega)).trans (Nt.cosA_3 (r := r) (q := q) (b := k) (by have h9 := af; simp at h9; omega) (by have h9 := ap; simp at h9; omega) (by have h9 := au; simp at h9; omega))
   refine ⟨aR, aO, rfl, RatN.more (K := 80) ?_ xq, RatN.more (K := 80) ?_ xq⟩
   ·rw [hc]; exact (di.ext br)
   rw [hc]; exact (b6.ext br)
  have bU : ¬ 3 * r = q := by have h9 := au; simp at h9; omega
  refine zzr (zzo ?_)
  refine zzd (sw_pubA (r := 3) (t := 3) [3] xz xj (by rfl) (by rfl) xj (fun db ec e0 dN dP bP => ?_))
  refine sw_pubA (r := 4) (t := 4) [4] xz xj (by rfl) (by rfl) xj (fun cB fm dv dZ dX bb => ?_)
  refine zzf (sy_fun 62 [.pointer (some ⟨db, 0, none⟩), .pointer (some ⟨cB, 0, none⟩)] ?_)
  refine zza 63 (zI k) (zzg 64 267 _ fun _ _ bh cF => qym (k_irrCos (k := k) cF ((dv.trans bh).cells bP) (bh.cells bb) hq0 xq xq xq (hG r xq xq xq) bQ xq) ?_)
  rintro _ fJ fX ⟨aQ, aN, rfl, b2, ct⟩
  refine zzi ⟨34, aQ.cs ++ aN.cs⟩ ty34 ?_
  refine zzb (zzn (ret0 [.agg #[.bool aQ.s, aQ.m.v, aQ.d.v, .bool aN.s, aN.m.v, aN.d.v]] ⟨zzq ty34 zze, trivial⟩ fun fS bC => ?_))
  have hc := (Nt.cosV_lo (b := k) hr (by have h9 := qyf ac; omega)).trans (Nt.cosA_g (r := r) (q := q) (b := k) (by have h9 := af; simp at h9; omega) (by have h9 := ap; simp at h9; omega) (by have h9 := au; simp at h9; omega))
  refine ⟨aQ, aN, rfl, RatN.more (K := 70) ?_ xq, RatN.more (K := 70) ?_ xq⟩
  ·rw [hc]; exact (b2.ext bC)
  rw [hc]; exact (ct.ext bC)
 have qhb11 := qyf a2
 refine zzr (zzo ?_)
 refine zzd (sq9 (zzh 16 (zI (Int.tmod p (2 * (q : Int)))) ty3 zzk (zzh 17 (zI q) ty3 zzk (zza 18 (zB (decide ((q : Int) < (Int.tmod p (2 * (q : Int)))))) (zzb (zzt (b := decide ((q : Int) < (Int.tmod p (2 * (q : Int))))) xj (fun aG => ?_) (fun aG => ?_)))))))
 ·have qhb205 := qyt aG
  refine zzf (zzh 19 (zI q) ty3 zzk (zyn 20 (x := zI (IntKind.i64.wrap ((2 : Int) * (q : Int)))) (zI (2 * q : Nat)) (eqI xk) (zzh 21 (zI (Int.tmod p (2 * (q : Int)))) ty3 zzk (zyn 22 (x := zI (IntKind.i64.wrap (((2 * q : Nat) : Int) - (Int.tmod p (2 * (q : Int)))))) (zI (((2 * q : Nat) : Int) - (Int.tmod p (2 * (q : Int))))) yk (zzi ⟨3, [.int .i64 (((2 * q : Nat) : Int) - (Int.tmod p (2 * (q : Int))))]⟩ ty3 ?_)))))
  refine zzb (zzd (zzd ?_))
  have hfold : (((2 * q : Nat) : Int) - (Int.tmod p (2 * (q : Int)))) = ((Nt.fold p q : Nat) : Int) := by unfold Nt.fold; dsimp only; split <;> omega
  rw [hfold]
  have hfl := Nt.fold_le p q hq0
  obtain ⟨r, hr⟩ : ∃ r, Nt.fold p q = r := ⟨_, rfl⟩
  rw [hr] at hfl ⊢
  clear hfold
  refine zzf (zzh 23 (zI r) ty3 zzk (zyn 24 (x := zI (IntKind.i64.wrap ((2 : Int) * (r : Int)))) (zI (2 * r : Nat)) (eqI xk) (zzh 25 (zI q) ty3 zzk (zza 26 (zB (decide ((q : Int) < ((2 * r : Nat) : Int)))) (zzb (zzt (b := decide ((q : Int) < ((2 * r : Nat) : Int))) xj (fun ab => ?_) (fun ab => ?_)))))))
  ·have qhb206 := qyt ab
   have hb9 := ab
   refine sq9 (zzh 27 (zI q) ty3 zzk (zzh 28 (zI r) ty3 zzk (zyn 29 (x := zI (IntKind.i64.wrap ((q : Int) - (r : Int)))) (zI (q - r : Nat)) (eqI xk) (zzh 30 (zI q) ty3 zzk (zza 31 (zI k) (zzg 32 160 _ fun _ _ _ cw => qym ((show Calls _ _ #[.int .i64 (q - r : Nat), .int .i64 q, .int .i64 k] _ _ from (by have h9 := k_cosA (p := ((q - r : Nat) : Int)) (q := q) (k := k) cw hq0 hq2 hG0 xq xq hk (by rw [Nt.fold_id xq]; have h8 := qyt hb9; omega); rw [Nt.fold_id xq] at h9; exact h9))) ?_))))))
   rintro _ ew f1 ⟨bm, bE, rfl, bY, cg⟩
   refine zzj 7 ⟨34, zw6⟩ (zzi ⟨34, bm.cs ++ bE.cs⟩ ty34 ?_)
   refine zzb (zzd (zzy [0, 1, 3, 0, 8, 31, 63, 127] [(0, []), (1, []), (3, []), (4, []), (2, []), (5, []), (6, []), (7, [])] xj xj (zza 33 (.adr 7 3) (zzh 34 (.v (bE.v)) ty32 zze (zza 36 (.adr 7 0) (zzh 37 (.v (bm.v)) ty32 zze (zzg 35 250 _ fun _ _ ba ce => qym (k_ratNeg ce (cg.ext ba).raw xq) ?_)))))))
   rintro _ e6 dg ⟨am, rfl, dw⟩
   refine zzg 38 250 _ fun _ _ bL c2 => qym (k_ratNeg c2 (bY.ext (ba.t (dg.t bL))).raw xq) ?_
   rintro _ fz dB ⟨ak, rfl, cz⟩
   refine zza 39 (.v (.agg #[.bool am.s, am.m.v, am.d.v, .bool ak.s, ak.m.v, ak.d.v])) (zzi ⟨34, am.cs ++ ak.cs⟩ ty34 ?_)
   refine zzc 65 [(6, .adr 6 0)] [(6, ⟨34, am.cs ++ ak.cs⟩)] (zzn (zzv (ret0 [.agg #[.bool am.s, am.m.v, am.d.v, .bool ak.s, ak.m.v, ak.d.v]] ⟨zzq ty34 zze, trivial⟩ fun fn bj => ?_)))
   have hc := Nt.cosV_hi (b := k) hr (by have h9 := qyt ab; omega)
   refine ⟨am, ak, rfl, RatN.more (K := 80) ?_ xq, RatN.more (K := 80) ?_ xq⟩
   ·rw [hc]; exact (dw.ext (bL.t (dB.t bj)))
   rw [hc]; exact (cz.ext bj)
  have qhb206 := qyf ab
  refine zzr (zzo ?_)
  refine zzd (zzs (sq9 (zzh 41 (zI r) ty3 zzk (zza 42 (zB ((r : Int) == 0)) (zza 40 (zB ((r : Int) == 0)) (zzb (zzt (b := (r : Int) == 0) xj (fun ad => ?_) (fun ad => ?_))))))))
  ·have a5 : (r : Int) = 0 := by simpa using ad
   refine sq9 (zzg 43 53 _ fun _ _ _ dC => qym (k_ratOf dC (z := 1) xq xq) ?_)
   rintro _ eE fM ⟨eC, rfl, cO⟩
   refine zza 44 (zI k) (zzg 45 266 _ fun _ _ b3 cG => qym (k_exactly (k := k) cG (cO.ext b3) xq xq) ?_)
   rintro _ en fh ⟨aE, aF, rfl, c5, cl⟩
   refine zzi ⟨34, aE.cs ++ aF.cs⟩ ty34 ?_
   refine zzb (zzn (zyr (zzv (ret0 [.agg #[.bool aE.s, aE.m.v, aE.d.v, .bool aF.s, aF.m.v, aF.d.v]] ⟨zzq ty34 zze, trivial⟩ fun eo bG => ?_))))
   have hc := (Nt.cosV_lo (b := k) hr (by have h9 := qyf ab; omega)).trans (Nt.cosA_0 (r := r) (q := q) (b := k) (by have h9 := ad; simp at h9; omega))
   refine ⟨aE, aF, rfl, RatN.more (K := 80) ?_ xq, RatN.more (K := 80) ?_ xq⟩
   ·rw [hc]; exact (c5.ext bG)
   rw [hc]; exact (cl.ext bG)
  have a5 : ¬ ((r : Int) = 0) := by simpa using ad
  refine sq9 (zzh 47 (zI r) ty3 zzk (zyn 48 (x := zI (IntKind.i64.wrap ((2 : Int) * (r : Int)))) (zI (2 * r : Nat)) (eqI xk) (zzh 49 (zI q) ty3 zzk (zza 50 (zB (((2 * r : Nat) : Int) == (q : Int))) (zza 46 (zB (((2 * r : Nat) : Int) == (q : Int))) (zzb (zzt (b := ((2 * r : Nat) : Int) == (q : Int)) xj (fun ao => ?_) (fun ao => ?_))))))))
  ·refine sq9 (zzg 51 53 _ fun _ _ _ dH => qym (k_ratOf dH (z := 0) xq xq) ?_)
   rintro _ fe et ⟨ep, rfl, dJ⟩
   refine zza 52 (zI k) (zzg 53 266 _ fun _ _ cx b8 => qym (k_exactly (k := k) b8 (dJ.ext cx) xq xq) ?_)
   rintro _ ek fq ⟨az, aC, rfl, dy, dd⟩
   refine zzi ⟨34, az.cs ++ aC.cs⟩ ty34 ?_
   refine zzc 65 [(6, .adr 6 0)] [(6, ⟨34, az.cs ++ aC.cs⟩)] (zzn (zyr (zzv (ret0 [.agg #[.bool az.s, az.m.v, az.d.v, .bool aC.s, aC.m.v, aC.d.v]] ⟨zzq ty34 zze, trivial⟩ fun eA bD => ?_))))
   have hc := (Nt.cosV_lo (b := k) hr (by have h9 := qyf ab; omega)).trans (Nt.cosA_h (r := r) (q := q) (b := k) (by have h9 := ad; simp at h9; omega) (by have h9 := ao; simp at h9; omega))
   refine ⟨az, aC, rfl, RatN.more (K := 80) ?_ xq, RatN.more (K := 80) ?_ xq⟩
   ·rw [hc]; exact (dy.ext bD)
   rw [hc]; exact (dd.ext bD)
  have bR : ¬ 2 * r = q := by have h9 := ao; simp at h9; omega
  refine sq9 (zzh 55 (zI r) ty3 zzk (zyn 56 (x := zI (IntKind.i64.wrap ((3 : Int) * (r : Int)))) (zI (3 * r : Nat)) (eqI xk) (zzh 57 (zI q) ty3 zzk (zza 58 (zB (((3 * r : Nat) : Int) == (q : Int))) (zza 54 (zB (((3 * r : Nat) : Int) == (q : Int))) (zzc 65 [(2, zI k), (3, .adr 3 0), (4, .adr 4 0), (6, .adr 6 0), (54, zB (((3 * r : Nat) : Int) == (q : Int)))] [(3, ⟨3, [.int .i64 r]⟩), (4, ⟨3, [.int .i64 q]⟩), (6, ⟨34, zw6⟩)] (zzt (b := ((3 * r : Nat) : Int) == (q : Int)) xj (fun av => ?_) (fun av => ?_))))))))
  ·refine sq9 (zzg 59 130 _ fun _ _ _ du => qym (k_ratFrac du (a := 1) (b := 2) xq xq xq xq) ?_)
   rintro _ fk er ⟨eZ, rfl, cC⟩
   refine zza 60 (zI k) (zzg 61 266 _ fun _ _ cu dr => qym (k_exactly (k := k) dr (cC.ext cu) xq xq) ?_)
   rintro _ e3 ey ⟨aI, aS, rfl, cm, cU⟩
   refine zzi ⟨34, aI.cs ++ aS.cs⟩ ty34 ?_
   refine zzb (zzn (zyr (zzv (ret0 [.agg #[.bool aI.s, aI.m.v, aI.d.v, .bool aS.s, aS.m.v, aS.d.v]] ⟨zzq ty34 zze, trivial⟩ fun fE be => ?_))))
   have hc := (Nt.cosV_lo (b := k) hr (by have h9 := qyf ab; omega)).trans (Nt.cosA_3 (r := r) (q := q) (b := k) (by have h9 := ad; simp at h9; omega) (by have h9 := ao; simp at h9; omega) (by have h9 := av; simp at h9; omega))
   refine ⟨aI, aS, rfl, RatN.more (K := 80) ?_ xq, RatN.more (K := 80) ?_ xq⟩
   ·rw [hc]; exact (cm.ext be)
   rw [hc]; exact (cU.ext be)
  have bT : ¬ 3 * r = q := by have h9 := av; simp at h9; omega
  refine zzr (zzo ?_)
  refine zzd (sw_pubA (r := 3) (t := 3) [3] xz xj (by rfl) (by rfl) xj (fun cR fi eR dT dL bK => ?_))
  refine sw_pubA (r := 4) (t := 4) [4] xz xj (by rfl) (by rfl) xj (fun dn es dj d0 d1 bo => ?_)
  refine zzf (sy_fun 62 [.pointer (some ⟨cR, 0, none⟩), .pointer (some ⟨dn, 0, none⟩)] ?_)
  refine zza 63 (zI k) (zzg 64 267 _ fun _ _ bg cJ => qym (k_irrCos (k := k) cJ ((dj.trans bg).cells bK) (bg.cells bo) hq0 xq xq xq (hG r xq xq xq) bQ xq) ?_)
  rintro _ f5 f2 ⟨aV, aU, rfl, dq, cV⟩
  refine zzi ⟨34, aV.cs ++ aU.cs⟩ ty34 ?_
  refine zzb (zzn (ret0 [.agg #[.bool aV.s, aV.m.v, aV.d.v, .bool aU.s, aU.m.v, aU.d.v]] ⟨zzq ty34 zze, trivial⟩ fun eg bN => ?_))
  have hc := (Nt.cosV_lo (b := k) hr (by have h9 := qyf ab; omega)).trans (Nt.cosA_g (r := r) (q := q) (b := k) (by have h9 := ad; simp at h9; omega) (by have h9 := ao; simp at h9; omega) (by have h9 := av; simp at h9; omega))
  refine ⟨aV, aU, rfl, RatN.more (K := 70) ?_ xq, RatN.more (K := 70) ?_ xq⟩
  ·rw [hc]; exact (dq.ext bN)
  rw [hc]; exact (cV.ext bN)
 have qhb205 := qyf aG
 refine zzr (zzo ?_)
 refine zzd (zzd ?_)
 have hfold : (Int.tmod p (2 * (q : Int))) = ((Nt.fold p q : Nat) : Int) := by unfold Nt.fold; dsimp only; split <;> omega
 rw [hfold]
 have hfl := Nt.fold_le p q hq0
 obtain ⟨r, hr⟩ : ∃ r, Nt.fold p q = r := ⟨_, rfl⟩
 rw [hr] at hfl ⊢
 clear hfold
 refine zzf (zzh 23 (zI r) ty3 zzk (zyn 24 (x := zI (IntKind.i64.wrap ((2 : Int) * (r : Int)))) (zI (2 * r : Nat)) (eqI xk) (zzh 25 (zI q) ty3 zzk (zza 26 (zB (decide ((q : Int) < ((2 * r : Nat) : Int)))) (zzb (zzt (b := decide ((q : Int) < ((2 * r : Nat) : Int))) xj (fun aa => ?_) (fun aa => ?_)))))))
 ·have qhb302 := qyt aa
  have hb9 := aa
  refine sq9 (zzh 27 (zI q) ty3 zzk (zzh 28 (zI r) ty3 zzk (zyn 29 (x := zI (IntKind.i64.wrap ((q : Int) - (r : Int)))) (zI (q - r : Nat)) (eqI xk) (zzh 30 (zI q) ty3 zzk (zza 31 (zI k) (zzg 32 160 _ fun _ _ _ cE => qym ((show Calls _ _ #[.int .i64 (q - r : Nat), .int .i64 q, .int .i64 k] _ _ from (by have h9 := k_cosA (p := ((q - r : Nat) : Int)) (q := q) (k := k) cE hq0 hq2 hG0 xq xq hk (by rw [Nt.fold_id xq]; have h8 := qyt hb9; omega); rw [Nt.fold_id xq] at h9; exact h9))) ?_))))))
  rintro _ eV eh ⟨bk, bF, rfl, cK, c7⟩
  refine zzj 7 ⟨34, zw6⟩ (zzi ⟨34, bk.cs ++ bF.cs⟩ ty34 ?_)
  refine zzb (zzd (zzy [0, 1, 3, 0, 8, 31, 63, 127] [(0, []), (1, []), (3, []), (4, []), (2, []), (5, []), (6, []), (7, [])] xj xj (zza 33 (.adr 7 3) (zzh 34 (.v (bF.v)) ty32 zze (zza 36 (.adr 7 0) (zzh 37 (.v (bk.v)) ty32 zze (zzg 35 250 _ fun _ _ a9 cp => qym (k_ratNeg cp (c7.ext a9).raw xq) ?_)))))))
  rintro _ fP dx ⟨al, rfl, cM⟩
  refine zzg 38 250 _ fun _ _ bt dA => qym (k_ratNeg dA (cK.ext (a9.t (dx.t bt))).raw xq) ?_
  rintro _ d6 cr ⟨aj, rfl, dK⟩
  refine zza 39 (.v (.agg #[.bool al.s, al.m.v, al.d.v, .bool aj.s, aj.m.v, aj.d.v])) (zzi ⟨34, al.cs ++ aj.cs⟩ ty34 ?_)
  refine zzc 65 [(6, .adr 6 0)] [(6, ⟨34, al.cs ++ aj.cs⟩)] (zzn (zzv (ret0 [.agg #[.bool al.s, al.m.v, al.d.v, .bool aj.s, aj.m.v, aj.d.v]] ⟨zzq ty34 zze, trivial⟩ fun eN bs => ?_)))
  have hc := Nt.cosV_hi (b := k) hr (by have h9 := qyt aa; omega)
  refine ⟨al, aj, rfl, RatN.more (K := 80) ?_ xq, RatN.more (K := 80) ?_ xq⟩
  ·rw [hc]; exact (cM.ext (bt.t (cr.t bs)))
  rw [hc]; exact (dK.ext bs)
 have qhb302 := qyf aa
 refine zzr (zzo ?_)
 refine zzd (zzs (sq9 (zzh 41 (zI r) ty3 zzk (zza 42 (zB ((r : Int) == 0)) (zza 40 (zB ((r : Int) == 0)) (zzb (zzt (b := (r : Int) == 0) xj (fun ae => ?_) (fun ae => ?_))))))))
 ·have a4 : (r : Int) = 0 := by simpa using ae
  refine sq9 (zzg 43 53 _ fun _ _ _ dp => qym (k_ratOf dp (z := 1) xq xq) ?_)
  rintro _ fV e8 ⟨fu, rfl, b9⟩
  refine zza 44 (zI k) (zzg 45 266 _ fun _ _ ds dG => qym (k_exactly (k := k) dG (b9.ext ds) xq xq) ?_)
  rintro _ fR f6 ⟨aL, aM, rfl, b4, cb⟩
  refine zzi ⟨34, aL.cs ++ aM.cs⟩ ty34 ?_
  refine zzb (zzn (zyr (zzv (ret0 [.agg #[.bool aL.s, aL.m.v, aL.d.v, .bool aM.s, aM.m.v, aM.d.v]] ⟨zzq ty34 zze, trivial⟩ fun fG bH => ?_))))
  have hc := (Nt.cosV_lo (b := k) hr (by have h9 := qyf aa; omega)).trans (Nt.cosA_0 (r := r) (q := q) (b := k) (by have h9 := ae; simp at h9; omega))
  refine ⟨aL, aM, rfl, RatN.more (K := 80) ?_ xq, RatN.more (K := 80) ?_ xq⟩
  ·rw [hc]; exact (b4.ext bH)
  rw [hc]; exact (cb.ext bH)
 have a4 : ¬ ((r : Int) = 0) := by simpa using ae
 refine sq9 (zzh 47 (zI r) ty3 zzk (zyn 48 (x := zI (IntKind.i64.wrap ((2 : Int) * (r : Int)))) (zI (2 * r : Nat)) (eqI xk) (zzh 49 (zI q) ty3 zzk (zza 50 (zB (((2 * r : Nat) : Int) == (q : Int))) (zza 46 (zB (((2 * r : Nat) : Int) == (q : Int))) (zzb (zzt (b := ((2 * r : Nat) : Int) == (q : Int)) xj (fun an => ?_) (fun an => ?_))))))))
 ·refine sq9 (zzg 51 53 _ fun _ _ _ c1 => qym (k_ratOf c1 (z := 0) xq xq) ?_)
  rintro _ ft fU ⟨d9, rfl, cj⟩
  refine zza 52 (zI k) (zzg 53 266 _ fun _ _ dh cT => qym (k_exactly (k := k) cT (cj.ext dh) xq xq) ?_)
  rintro _ fC fx ⟨aX, aJ, rfl, cf, ci⟩
  refine zzi ⟨34, aX.cs ++ aJ.cs⟩ ty34 ?_
  refine zzb (zzn (zyr (zzv (ret0 [.agg #[.bool aX.s, aX.m.v, aX.d.v, .bool aJ.s, aJ.m.v, aJ.d.v]] ⟨zzq ty34 zze, trivial⟩ fun fs a8 => ?_))))
  have hc := (Nt.cosV_lo (b := k) hr (by have h9 := qyf aa; omega)).trans (Nt.cosA_h (r := r) (q := q) (b := k) (by have h9 := ae; simp at h9; omega) (by have h9 := an; simp at h9; omega))
  refine ⟨aX, aJ, rfl, RatN.more (K := 80) ?_ xq, RatN.more (K := 80) ?_ xq⟩
  ·rw [hc]; exact (cf.ext a8)
  rw [hc]; exact (ci.ext a8)
 have bS : ¬ 2 * r = q := by have h9 := an; simp at h9; omega
 refine sq9 (zzh 55 (zI r) ty3 zzk (zyn 56 (x := zI (IntKind.i64.wrap ((3 : Int) * (r : Int)))) (zI (3 * r : Nat)) (eqI xk) (zzh 57 (zI q) ty3 zzk (zza 58 (zB (((3 * r : Nat) : Int) == (q : Int))) (zza 54 (zB (((3 * r : Nat) : Int) == (q : Int))) (zzb (zzt (b := ((3 * r : Nat) : Int) == (q : Int)) xj (fun ar => ?_) (fun ar => ?_))))))))
 ·refine sq9 (zzg 59 130 _ fun _ _ _ ch => qym (k_ratFrac ch (a := 1) (b := 2) xq xq xq xq) ?_)
  rintro _ fB eD ⟨eO, rfl, ck⟩
  refine zza 60 (zI k) (zzg 61 266 _ fun _ _ dF dk => qym (k_exactly (k := k) dk (ck.ext dF) xq xq) ?_)
  rintro _ fW fH ⟨ax, aA, rfl, c4, c8⟩
  refine zzi ⟨34, ax.cs ++ aA.cs⟩ ty34 ?_
  refine zzc 65 [(6, .adr 6 0)] [(6, ⟨34, ax.cs ++ aA.cs⟩)] (zzn (zyr (zzv (ret0 [.agg #[.bool ax.s, ax.m.v, ax.d.v, .bool aA.s, aA.m.v, aA.d.v]] ⟨zzq ty34 zze, trivial⟩ fun eY bA => ?_))))
  have hc := (Nt.cosV_lo (b := k) hr (by have h9 := qyf aa; omega)).trans (Nt.cosA_3 (r := r) (q := q) (b := k) (by have h9 := ae; simp at h9; omega) (by have h9 := an; simp at h9; omega) (by have h9 := ar; simp at h9; omega))
  refine ⟨ax, aA, rfl, RatN.more (K := 80) ?_ xq, RatN.more (K := 80) ?_ xq⟩
  ·rw [hc]; exact (c4.ext bA)
  rw [hc]; exact (c8.ext bA)
 have bV : ¬ 3 * r = q := by have h9 := ar; simp at h9; omega
 refine zzr (zzo ?_)
 refine zzd (sw_pubA (r := 3) (t := 3) [3] xz xj (by rfl) (by rfl) xj (fun c0 fo e1 dW d2 bl => ?_))
 refine sw_pubA (r := 4) (t := 4) [4] xz xj (by rfl) (by rfl) xj (fun cN fD b0 dR dU bO => ?_)
 refine zzf (sy_fun 62 [.pointer (some ⟨c0, 0, none⟩), .pointer (some ⟨cN, 0, none⟩)] ?_)
 refine zza 63 (zI k) (zzg 64 267 _ fun _ _ bB b5 => qym (k_irrCos (k := k) b5 ((b0.trans bB).cells bl) (bB.cells bO) hq0 xq xq xq (hG r xq xq xq) bQ xq) ?_)
 rintro _ ei e5 ⟨ay, aB, rfl, cI, cL⟩
 refine zzi ⟨34, ay.cs ++ aB.cs⟩ ty34 ?_
 refine zzc 65 [(6, .adr 6 0)] [(6, ⟨34, ay.cs ++ aB.cs⟩)] (zzn (ret0 [.agg #[.bool ay.s, ay.m.v, ay.d.v, .bool aB.s, aB.m.v, aB.d.v]] ⟨zzq ty34 zze, trivial⟩ fun fr bp => ?_))
 have hc := (Nt.cosV_lo (b := k) hr (by have h9 := qyf aa; omega)).trans (Nt.cosA_g (r := r) (q := q) (b := k) (by have h9 := ae; simp at h9; omega) (by have h9 := an; simp at h9; omega) (by have h9 := ar; simp at h9; omega))
 refine ⟨ay, aB, rfl, RatN.more (K := 70) ?_ xq, RatN.more (K := 70) ?_ xq⟩
 ·rw [hc]; exact (cI.ext bp)
 rw [hc]; exact (cL.ext bp)
theorem k_ePermitted {u w : World} {n : Int} (d : Dat u w) : qyc 159 #[.int .i64 n] w (Post u w fun v _ => v = .bool (decide (0 ≤ n ∧ n ≤ 256))) := by
 refine zzl (args := [.int .i64 n]) Tryz.func159 rfl Tryz.ntmps159 (rs := [.tmp 2]) Tryz.results159 (le_b rfl) (le_b rfl) d ?_
 refine sq9 (zza 2 (zB false) (zzb (sq9 (zza 3 (zI n) (zza 4 (zB (decide ((0 : Int) ≤ n))) ?_)))))
 rcases Bool.eq_false_or_eq_true (decide ((0 : Int) ≤ n)) with hs11 | hs11
 ·refine zyn 5 (x := zB (decide ((0 : Int) ≤ n))) (zB true) (by rw [hs11]) ?_
  have qhs11 := qyt hs11
  refine zza 6 (zI n) ?_ (hw := w1 2 true 5)
  refine zza 7 (zB (decide (n ≤ 256))) ?_ (hw := w1 2 true 5)
  refine zza 8 (zB (decide (n ≤ 256))) (zza 2 (zB (decide (n ≤ 256))) (zzb (zzn (ret0 [.bool (decide (n ≤ 256))] ⟨zzp, trivial⟩ fun u12 e13 => ?_))))
  show Value.bool _ = Value.bool _
  congr 1
  symm
  have h9 := qyt hs11
  by_cases h8 : n ≤ 256
  ·rw [decide_eq_true h8]; exact decide_eq_true ⟨h9, h8⟩
  rw [decide_eq_false h8]; exact decide_eq_false (fun h => h8 h.2)
 refine zyn 5 (x := zB (decide ((0 : Int) ≤ n))) (zB false) (by rw [hs11]) ?_
 have qhs11 := qyf hs11
 refine zzm 6 (uw 2 true false 5) (zzm 7 (uw 2 true false 5) (zza 8 (zB false) (zza 2 (zB false) (zzb (zzn (ret0 [.bool false] ⟨zzp, trivial⟩ fun u14 e15 => ?_))))))
 show Value.bool _ = Value.bool _
 congr 1
 symm
 exact decide_eq_false (fun h => absurd h.1 (qyf hs11))
theorem k_CosPiG {u w : World} {p : Int} {q k : Nat} (d : Dat u w) (hq1 : 1 ≤ q) (hq2 : q ≤ 1000) (hp0 : -1000000 ≤ p) (hp1 : p ≤ 1000000) (hk : k ≤ 256) (hG : Nt.GapQ q k) : qyc 54 #[.int .i64 p, .int .i64 (q : Int), .int .i64 (k : Int)] w (Post u w fun v u' => ∃ r1 r2 : RL, v = .tuple #[IV r1 r2, .int .i64 0] ∧ RatN u' r1 ((Nt.cosV p q k).1) 80 ∧ RatN u' r2 ((Nt.cosV p q k).2) 80) := by
 refine zzl (args := [.int .i64 p, .int .i64 q, .int .i64 k]) Tryz.func54 rfl Tryz.ntmps54 (rs := [.cell 6 34, .tmp 7]) Tryz.results54 (le_b rfl) (le_b rfl) d ?_
 refine sq9 (zzj 6 ⟨34, zw6⟩ (zza 7 (zI 0) (zzb (zzd (sq9 (zza 8 (zI k) (zzg 9 159 _ fun _ _ _ ad => qym (k_ePermitted (n := (k : Int)) ad) ?_)))))))
 rintro _ u12 g13 rfl
 refine zza 10 (zB (!(decide (0 ≤ (k : Int) ∧ (k : Int) ≤ 256)))) (zyn 11 (x := zB (!(decide (0 ≤ (k : Int) ∧ (k : Int) ≤ 256)))) (zB false) (by rw [show (!(decide (0 ≤ (k : Int) ∧ (k : Int) ≤ 256))) = false from (by rw [decide_eq_true xq]; rfl)]) (zza 12 (zI q) ?_ (hw := w1 3 false 11)))
 refine zza 13 (zB (decide ((q : Int) < 1))) ?_ (hw := w1 3 false 11)
 refine zza 14 (zB (decide ((q : Int) < 1))) (zyn 15 (x := zB (decide ((q : Int) < 1))) (zB false) (by rw [show (decide ((q : Int) < 1)) = false from decide_eq_false xq]) (zza 16 (zI q) ?_ (hw := w1 7 false 15)))
 refine zza 17 (zB (decide ((1000 : Int) < (q : Int)))) ?_ (hw := w1 7 false 15)
 refine zza 18 (zB (decide ((1000 : Int) < (q : Int)))) (zyn 19 (x := zB (decide ((1000 : Int) < (q : Int)))) (zB false) (by rw [show (decide ((1000 : Int) < (q : Int))) = false from decide_eq_false xq]) (zza 20 (zI p) ?_ (hw := w1 11 false 19)))
 refine zza 21 (zB (decide (p < (-1000000)))) ?_ (hw := w1 11 false 19)
 refine zza 22 (zB (decide (p < (-1000000)))) (zyn 23 (x := zB (decide (p < (-1000000)))) (zB false) (by rw [show (decide (p < (-1000000))) = false from decide_eq_false xq]) (zza 24 (zI p) ?_ (hw := w1 15 false 23)))
 refine zza 25 (zB (decide ((1000000 : Int) < p))) ?_ (hw := w1 15 false 23)
 refine zza 26 (zB (decide ((1000000 : Int) < p))) (zzb (zzt (b := decide ((1000000 : Int) < p)) xj (fun hb => ?_) (fun hb => ?_)))
 ·exact absurd hb (by rw [show (decide ((1000000 : Int) < p)) = false from decide_eq_false xq]; decide)
 clear hb
 refine zzr (zzo ?_)
 refine sq9 (zza 28 (zI p) (zza 29 (zI q) (zza 30 (zI k) (zzg 31 160 _ fun _ _ _ ag => qym (k_cosine (p := p) (q := q) (k := k) ag xq xq hG xq xq xq) ?_))))
 rintro _ u24 g25 ⟨ab, aa, rfl, ae, af⟩
 refine zzi ⟨34, ab.cs ++ aa.cs⟩ ty34 ?_
 refine zza 7 (zI 0) (zzb (zzn (ret0 [.agg #[.bool ab.s, ab.m.v, ab.d.v, .bool aa.s, aa.m.v, aa.d.v], .int .i64 0] ⟨zzq ty34 zze, zzp, trivial⟩ fun u27 ac => ?_)))
 exact ⟨ab, aa, rfl, RatN.more (ae.ext ac) xq, RatN.more (af.ext ac) xq⟩
namespace Nt
theorem lo_self (x : Rat) : lo x x = x := (lo_of_le Rat.le_refl).1
theorem hi_self (x : Rat) : hi x x = x := (lo_of_le Rat.le_refl).2
def fr1 (d : Int) : Rat := ((1 : Int) : Rat) / (d : Rat)
theorem fr1_pos {d : Int} (h : 0 < d) : 0 < fr1 d := by
 unfold fr1
 rw [Rat.div_def]
 exact Rat.mul_pos (by decide +kernel) (Rat.inv_pos.2 (castI_pos h))
theorem gr_fr {k : Nat} {a d : Int} (h : 0 < d) : gr k a * fr1 d * (u2 k : Rat) = (a : Rat) / (d : Rat) := by
 have h1 := gr_mul k a
 unfold fr1
 have e : gr k a * (((1 : Int) : Rat) / (d : Rat)) * (u2 k : Rat) = gr k a * (u2 k : Rat) * (((1 : Int) : Rat) / (d : Rat)) := by grind
 rw [e, h1, Rat.div_def, Rat.div_def]
 show (a : Rat) * (1 * (d : Rat)⁻¹) = _
 rw [Rat.one_mul]
theorem fl_gr_fr {k : Nat} {a d : Int} (h : 0 < d) : flU k (gr k a * fr1 d) = a / d ∧ ceU k (gr k a * fr1 d) = cdiv a d := ⟨flU_eq h (gr_fr h), ceU_eq h (gr_fr h)⟩
theorem fl_fr {k : Nat} {d : Int} (h : 0 < d) : flU k (fr1 d) = u2 k / d ∧ ceU k (fr1 d) = cdiv (u2 k) d := by
 have e : fr1 d = gr k (u2 k) * fr1 d := by rw [gr_one, Rat.one_mul]
 rw [e]; exact fl_gr_fr h
theorem sum_fr {k : Nat} {c a d : Int} (h : 0 < d) : (gr k c + gr k a * fr1 d) * (u2 k : Rat) = ((c * d + a : Int) : Rat) / (d : Rat) := by
 rw [Rat.add_mul, gr_fr h, gr_mul, Rat.intCast_add, Rat.intCast_mul]
 have := castI_pos h
 have h' : (d : Rat) ≠ 0 := by grind
 generalize (d : Rat) = D at *
 grind
theorem fl_sum {k : Nat} {c a d : Int} (h : 0 < d) : flU k (gr k c + gr k a * fr1 d) = c + a / d ∧ ceU k (gr k c + gr k a * fr1 d) = c + cdiv a d := by
 rw [flU_eq h (sum_fr h), ceU_eq h (sum_fr h)]
 constructor
 ·rw [Int.add_comm, Int.add_mul_ediv_right _ _ xq, Int.add_comm]
 unfold cdiv
 rw [show -(c * d + a) = -a + (-c) * d by rw [Int.neg_mul]; omega, Int.add_mul_ediv_right _ _ xq]
 omega
theorem fl_dif {k : Nat} {c a d : Int} (h : 0 < d) : flU k (gr k c - gr k a * fr1 d) = c - cdiv a d ∧ ceU k (gr k c - gr k a * fr1 d) = c - a / d := by
 have e : gr k c - gr k a * fr1 d = gr k c + gr k (-a) * fr1 d := by rw [← gr_neg, Rat.neg_mul, Rat.sub_eq_add_neg]
 have h1 := fl_sum (k := k) (c := c) (a := -a) h
 rw [e, h1.1, h1.2]
 unfold cdiv
 rw [Int.neg_neg]
 omega
section
variable {k j : Nat} {a b c d D : Int}
theorem at_t (hab : a ≤ b) (hD : 0 < D) : lo4 (gr k a * lo (fr1 D) (fr1 D)) (gr k a * hi (fr1 D) (fr1 D)) (gr k b * lo (fr1 D) (fr1 D)) (gr k b * hi (fr1 D) (fr1 D)) = gr k a * fr1 D ∧ hi4 (gr k a * lo (fr1 D) (fr1 D)) (gr k a * hi (fr1 D) (fr1 D)) (gr k b * lo (fr1 D) (fr1 D)) (gr k b * hi (fr1 D) (fr1 D)) = gr k b * fr1 D := by
 rw [lo_self, hi_self]
 exact lo4_pt (gr_mono hab) (Rat.le_of_lt (fr1_pos hD))
theorem at_end (hD : 0 < D) : decide (cmpQ (gr k b * fr1 D) (gr k 1) ≤ 0) = decide (b ≤ D) := by
 rw [cmpQ_le, decide_eq_decide]
 have hU := castI_pos (u2_pos k)
 have hDr := castI_pos hD
 constructor
 ·intro h
  have h1 := Rat.mul_le_mul_of_nonneg_right h (Rat.le_of_lt hU)
  rw [gr_fr hD, gr_mul] at h1
  have h2 := Rat.mul_le_mul_of_nonneg_right h1 (Rat.le_of_lt hDr)
  rw [div_mul_c hDr, ← Rat.intCast_mul, Int.one_mul] at h2
  exact Rat.intCast_le_intCast.1 h2
 intro h
 refine Rat.le_of_mul_le_mul_right (c := (u2 k : Rat)) ?_ hU
 rw [gr_fr hD, gr_mul]
 refine dv_le hDr ?_
 rw [← Rat.intCast_mul, Int.one_mul]
 exact Rat.intCast_le_intCast.2 h
theorem at_o (hb : 0 ≤ b) (hcd : c ≤ d) (hD : 0 < D) : flU k (lo (gr k c) (gr k d) + lo (lo (-(gr k b * fr1 D)) (gr k b * fr1 D)) (hi (-(gr k b * fr1 D)) (gr k b * fr1 D))) = c - cdiv b D ∧ ceU k (hi (gr k c) (gr k d) + hi (lo (-(gr k b * fr1 D)) (gr k b * fr1 D)) (hi (-(gr k b * fr1 D)) (gr k b * fr1 D))) = d + cdiv b D := by
 have h0 : 0 ≤ gr k b * fr1 D := Rat.mul_nonneg (gr_nn hb) (Rat.le_of_lt (fr1_pos hD))
 have e1 := lo_of_le (gr_mono (w := k) hcd)
 have e2 := lo_of_le (show -(gr k b * fr1 D) ≤ gr k b * fr1 D by grind)
 rw [e1.1, e1.2, e2.1, e2.2, e2.1, e2.2, ← Rat.sub_eq_add_neg, (fl_dif hD).1, (fl_sum hD).2]
 exact ⟨rfl, rfl⟩
theorem at_a (hab : a ≤ b) (hcd : c ≤ d) (hD : 0 < D) : flU k (lo (gr k c) (gr k d) + lo (gr k a * fr1 D) (gr k b * fr1 D)) = c + a / D ∧ ceU k (hi (gr k c) (gr k d) + hi (gr k a * fr1 D) (gr k b * fr1 D)) = d + cdiv b D := by
 have e1 := lo_of_le (gr_mono (w := k) hcd)
 have e2 := lo_of_le (Rat.mul_le_mul_of_nonneg_right (gr_mono (w := k) hab) (Rat.le_of_lt (fr1_pos hD)))
 rw [e1.1, e1.2, e2.1, e2.2, (fl_sum hD).1, (fl_sum hD).2]
 exact ⟨rfl, rfl⟩
theorem at_s (hab : a ≤ b) (hcd : c ≤ d) (hD : 0 < D) : flU k (lo (gr k c) (gr k d) - hi (gr k a * fr1 D) (gr k b * fr1 D)) = c - cdiv b D ∧ ceU k (hi (gr k c) (gr k d) - lo (gr k a * fr1 D) (gr k b * fr1 D)) = d - a / D := by
 have e1 := lo_of_le (gr_mono (w := k) hcd)
 have e2 := lo_of_le (Rat.mul_le_mul_of_nonneg_right (gr_mono (w := k) hab) (Rat.le_of_lt (fr1_pos hD)))
 rw [e1.1, e1.2, e2.1, e2.2, (fl_dif hD).1, (fl_dif hD).2]
 exact ⟨rfl, rfl⟩
theorem at_x (hab : a ≤ b) (hD : 0 < D) : flU k (lo4 (gr k a * lo (fr1 D) (fr1 D)) (gr k a * hi (fr1 D) (fr1 D)) (gr k b * lo (fr1 D) (fr1 D)) (gr k b * hi (fr1 D) (fr1 D))) = a / D ∧ ceU k (hi4 (gr k a * lo (fr1 D) (fr1 D)) (gr k a * hi (fr1 D) (fr1 D)) (gr k b * lo (fr1 D) (fr1 D)) (gr k b * hi (fr1 D) (fr1 D))) = cdiv b D := by
 have h := at_t (k := k) hab hD
 rw [h.1, h.2, (fl_gr_fr hD).1, (fl_gr_fr hD).2]
 exact ⟨rfl, rfl⟩
theorem pi_m {m : Nat} (hab : a ≤ b) : lo4 (gr k a * lo ((m : Int) : Rat) ((m : Int) : Rat)) (gr k a * hi ((m : Int) : Rat) ((m : Int) : Rat)) (gr k b * lo ((m : Int) : Rat) ((m : Int) : Rat)) (gr k b * hi ((m : Int) : Rat) ((m : Int) : Rat)) = gr k (a * (m : Int)) ∧ hi4 (gr k a * lo ((m : Int) : Rat) ((m : Int) : Rat)) (gr k a * hi ((m : Int) : Rat) ((m : Int) : Rat)) (gr k b * lo ((m : Int) : Rat) ((m : Int) : Rat)) (gr k b * hi ((m : Int) : Rat) ((m : Int) : Rat)) = gr k (b * (m : Int)) := by
 have h0 : (0 : Rat) ≤ ((m : Int) : Rat) := Rat.intCast_le_intCast.2 (show (0 : Int) ≤ (m : Int) by omega)
 rw [lo_self, hi_self]
 have h := lo4_pt (gr_mono (w := k) hab) h0
 rw [h.1, h.2, Rat.mul_comm, gr_int, Rat.mul_comm, gr_int, Int.mul_comm, Int.mul_comm b]
 exact ⟨rfl, rfl⟩
end
theorem sq_of_nn {x y : Rat} (h0 : 0 ≤ x) (h : x ≤ y) (hy : 0 < y) : sql x y = x * x ∧ sqh x y = y * y := by
 have hm := mulm h h h0 h0
 have e := lo_of_le hm
 have e2 := lo_of_le h
 unfold sql sqh sgI
 rw [e.1, e.2, e2.1, e2.2]
 refine ⟨?_, rfl⟩
 by_cases hx : 0 < x
 ·rw [if_pos hx, if_neg yq]
 have : x = 0 := by grind
 subst this
 rw [if_neg hx, if_neg (Rat.not_lt.2 (Rat.le_of_lt hy)), if_pos rfl, Rat.zero_mul]
section
variable {k j : Nat} {tl th ql qh c d z : Int}
theorem cs_end : decide (cmpQ (gr k th) (gr k 1) ≤ 0) = decide (th ≤ 1) := by rw [cmpQ_le, decide_eq_decide]; exact gr_le
theorem cs_o (ht : 0 ≤ th) (hcd : c ≤ d) : lo (gr k c) (gr k d) + lo (lo (-gr k th) (gr k th)) (hi (-gr k th) (gr k th)) = gr k (c - th) ∧ hi (gr k c) (gr k d) + hi (lo (-gr k th) (gr k th)) (hi (-gr k th) (gr k th)) = gr k (d + th) := by
 have e1 := lo_of_le (gr_mono (w := k) hcd)
 have e2 := lo_of_le (show -gr k th ≤ gr k th by rw [gr_neg]; exact gr_mono xq)
 rw [e1.1, e1.2, e2.1, e2.2, e2.1, e2.2, ← Rat.sub_eq_add_neg, gr_sub, gr_add]
 exact ⟨rfl, rfl⟩
theorem cs_a (ht : tl ≤ th) (hcd : c ≤ d) : lo (gr k c) (gr k d) + lo (gr k tl) (gr k th) = gr k (c + tl) ∧ hi (gr k c) (gr k d) + hi (gr k tl) (gr k th) = gr k (d + th) := by
 have e1 := lo_of_le (gr_mono (w := k) hcd)
 have e2 := lo_of_le (gr_mono (w := k) ht)
 rw [e1.1, e1.2, e2.1, e2.2, gr_add, gr_add]
 exact ⟨rfl, rfl⟩
theorem cs_s (ht : tl ≤ th) (hcd : c ≤ d) : lo (gr k c) (gr k d) - hi (gr k tl) (gr k th) = gr k (c - th) ∧ hi (gr k c) (gr k d) - lo (gr k tl) (gr k th) = gr k (d - tl) := by
 have e1 := lo_of_le (gr_mono (w := k) hcd)
 have e2 := lo_of_le (gr_mono (w := k) ht)
 rw [e1.1, e1.2, e2.1, e2.2, gr_sub, gr_sub]
 exact ⟨rfl, rfl⟩
theorem grr_fr {x y D : Int} (hD : 0 < D) : gr k x * gr k y * fr1 D * (u2 k : Rat) = ((x * y : Int) : Rat) / ((u2 k * D : Int) : Rat) := by
 have a := castI_pos (u2_pos k)
 have b := castI_pos hD
 unfold gr fr1
 rw [Rat.intCast_mul, Rat.intCast_mul]
 have a' : (u2 k : Rat) ≠ 0 := by grind
 have b' : (D : Rat) ≠ 0 := by grind
 have e : ((1 : Int) : Rat) = 1 := rfl
 rw [e]
 generalize (u2 k : Rat) = p at *
 generalize (D : Rat) = q at *
 grind
theorem cs_t (h0 : 0 ≤ tl) (ht : tl ≤ th) (q0 : 0 ≤ ql) (hq : ql ≤ qh) {F : Rat} (hF : F = fr1 (coD j)) :
  flU k (lo4 (lo4 (gr k tl * gr k ql) (gr k tl * gr k qh) (gr k th * gr k ql) (gr k th * gr k qh) * lo F F) (lo4 (gr k tl * gr k ql) (gr k tl * gr k qh) (gr k th * gr k ql) (gr k th * gr k qh) * hi F F) (hi4 (gr k tl * gr k ql) (gr k tl * gr k qh) (gr k th * gr k ql) (gr k th * gr k qh) * lo F F) (hi4 (gr k tl * gr k ql) (gr k tl * gr k qh) (gr k th * gr k ql) (gr k th * gr k qh) * hi F F)) = csL k j tl ql ∧
  ceU k (hi4 (lo4 (gr k tl * gr k ql) (gr k tl * gr k qh) (gr k th * gr k ql) (gr k th * gr k qh) * lo F F) (lo4 (gr k tl * gr k ql) (gr k tl * gr k qh) (gr k th * gr k ql) (gr k th * gr k qh) * hi F F) (hi4 (gr k tl * gr k ql) (gr k tl * gr k qh) (gr k th * gr k ql) (gr k th * gr k qh) * lo F F) (hi4 (gr k tl * gr k ql) (gr k tl * gr k qh) (gr k th * gr k ql) (gr k th * gr k qh) * hi F F)) = csH k j th qh := by
 have hD := coD_pos j
 have hU := u2_pos k
 have e1 := lo4_nn (gr_mono (w := k) ht) (gr_mono (w := k) hq) (gr_nn h0) (gr_nn q0)
 have hm := mulm (gr_mono (w := k) ht) (gr_mono (w := k) hq) (gr_nn h0) (gr_nn q0)
 have hf := fr1_pos (d := coD j) xq
 rw [hF, lo_self, hi_self, e1.1, e1.2, (lo4_pt hm (Rat.le_of_lt hf)).1, (lo4_pt hm (Rat.le_of_lt hf)).2]
 have hUD : 0 < u2 k * coD j := Int.mul_pos hU xq
 rw [flU_eq hUD (grr_fr xq), ceU_eq hUD (grr_fr xq)]
 unfold csL csH
 rw [cdiv_cdiv hU xq, Int.ediv_ediv_of_nonneg xq]
 exact ⟨rfl, rfl⟩
theorem coD_mulR (h : j ≤ 1000) : IntKind.i64.wrap (((2 * j + 1 : Nat) : Int) * ((2 * j + 2 : Nat) : Int)) = coD j ∧ coD j ≤ 10000000 := by
 have h1 := coD_mul h
 have e : ((2 * j + 1 : Nat) : Int) * ((2 * j + 2 : Nat) : Int) = ((2 * j + 2 : Nat) : Int) * ((2 * j + 2 - 1 : Nat) : Int) := by
  rw [show 2 * j + 2 - 1 = 2 * j + 1 by omega, Int.mul_comm]
 rw [e]; exact h1
theorem tight_hi : (mkRat z 1 + ((1 : Int) : Rat)) / (((2 ^ k : Nat) : Int) : Rat) = gr k (z + 1) := by
 rw [mk_one, ← Rat.intCast_add]; rfl
theorem tight_lo : mkRat z 1 / (((2 ^ k : Nat) : Int) : Rat) = gr k z := by rw [mk_one]; rfl
end
theorem gr_rs {k : Nat} {z : Int} {L : Nat} (hz : dl z.natAbs ≤ L) (hk : k < 32 * L) : rs (gr k z) ≤ L := by
 have e : gr k z = mkRat z (2 ^ k) := by unfold gr; rw [Rat.mkRat_eq_div]; rfl
 rw [e]
 refine rs_mk hz ?_ xq
 have h := dl_u2 (z := u2 k) (L := L) (b := k) (by have := u2_pos k; omega) (Int.le_refl _) hk
 have e2 : (u2 k).natAbs = 2 ^ k := Int.natAbs_natCast _
 rwa [e2] at h
end Nt
theorem RatN.limG {u : World} {r : RL} {z : Int} {k K : Nat} (h : RatN u r (Nt.gr k z) K) (h0 : -(Nt.u2 1000) ≤ z) (h1 : z ≤ Nt.u2 1000) (hk : k ≤ 800) : RatN u r (Nt.gr k z) 40 := h.fit (Nt.gr_rs (Nt.dl_u2 h0 h1 yq) xq)
end Go.Proofs.YtcmllhhiekjmaaaGreat
