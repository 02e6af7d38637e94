/- Parts of the proof: contracts of functions, each walked once, and plain laws. -/
import Derived.Test.YtcmllhhiekjmaaaGreatCyeH
set_option linter.unusedVariables false
set_option maxHeartbeats 8000000
namespace Go.Proofs.YtcmllhhiekjmaaaGreat
open Nt
open Go.RowKit
theorem Nt.cs_x {k : Nat} {a b : Int} {F : Rat} (h : a ≤ b) (hF : 0 ≤ F) : Nt.lo4 (Nt.gr k a * Nt.lo F F) (Nt.gr k a * Nt.hi F F) (Nt.gr k b * Nt.lo F F) (Nt.gr k b * Nt.hi F F) = Nt.gr k a * F ∧ Nt.hi4 (Nt.gr k a * Nt.lo F F) (Nt.gr k a * Nt.hi F F) (Nt.gr k b * Nt.lo F F) (Nt.gr k b * Nt.hi F F) = Nt.gr k b * F := by
 rw [Nt.lo_self, Nt.hi_self]
 exact Nt.lo4_pt (Nt.gr_mono h) hF
theorem Nt.fr_nn {s q : Nat} (h : 0 < q) : (0 : Rat) ≤ (((s : Int) : Rat) / ((q : Int) : Rat)) := Nt.div_nn (Rat.intCast_le_intCast.2 (show (0 : Int) ≤ (s : Int) by omega)) (Nt.castI_pos (show (0 : Int) < (q : Int) by omega))
theorem k_r10CosPiG {u w : World} {p : Int} {q k : Nat} (d : Dat u w) (hq1 : 1 ≤ q) (hq2 : q ≤ 1000) (hp0 : -1000000 ≤ p) (hp1 : p ≤ 1000000) (hk : k ≤ 256) (hG0 : Nt.GapQ q k) : qyc 60 #[.int .i64 p, .int .i64 (q : Int), .int .i64 (k : Int)] w (Post u w fun v u' => ∃ r1 r2 : RL, v = .tuple #[IV r1 r2, .int .i64 0] ∧ RatN u' r1 ((Nt.cosV p q k).1) 200 ∧ RatN u' r2 ((Nt.cosV p q k).2) 200) := by
 have aD : 0 < q := by omega
 have htm := Nt.tmod_bd p aD
 obtain ⟨g, hg3, hG⟩ := id hG0
 refine zzl (args := [.int .i64 p, .int .i64 q, .int .i64 k]) Tryz.func60 rfl Tryz.ntmps60 (rs := [.cell 6 34, .tmp 7]) Tryz.results60 (le_b rfl) (le_b rfl) d ?_
 refine sq9 (zzj 6 ⟨34, zw6⟩ (zza 7 (zI 0) (zzb (zzd (sq9 (zza 13 (zI k) (zzg 14 163 _ fun _ _ _ eg => qym (k_r10bad (n := (k : Int)) eg) ?_)))))))
 rintro _ u12 g13 rfl
 refine zyn 15 (x := zB (decide ((k : Int) < 0 ∨ 256 < (k : Int)))) (zB false) (by rw [show (decide ((k : Int) < 0 ∨ 256 < (k : Int))) = false from decide_eq_false xq]) (zza 16 (zI q) ?_ (hw := w1 2 false 15))
 refine zza 17 (zB (decide ((q : Int) < 1))) ?_ (hw := w1 2 false 15)
 refine zza 18 (zB (decide ((q : Int) < 1))) (zyn 19 (x := zB (decide ((q : Int) < 1))) (zB false) (by rw [show (decide ((q : Int) < 1)) = false from decide_eq_false xq]) (zza 20 (zI q) ?_ (hw := w1 6 false 19)))
 refine zza 21 (zB (decide ((1000 : Int) < (q : Int)))) ?_ (hw := w1 6 false 19)
 refine zza 22 (zB (decide ((1000 : Int) < (q : Int)))) (zyn 23 (x := zB (decide ((1000 : Int) < (q : Int)))) (zB false) (by rw [show (decide ((1000 : Int) < (q : Int))) = false from decide_eq_false xq]) (zza 24 (zI p) ?_ (hw := w1 10 false 23)))
 refine zza 25 (zB (decide (p < (-1000000)))) ?_ (hw := w1 10 false 23)
 refine zza 26 (zB (decide (p < (-1000000)))) (zyn 27 (x := zB (decide (p < (-1000000)))) (zB false) (by rw [show (decide (p < (-1000000))) = false from decide_eq_false xq]) (zza 28 (zI p) ?_ (hw := w1 14 false 27)))
 refine zza 29 (zB (decide ((1000000 : Int) < p))) ?_ (hw := w1 14 false 27)
 refine zza 30 (zB (decide ((1000000 : Int) < p))) (zzb (zzt (b := decide ((1000000 : Int) < p)) xj (fun hb => ?_) (fun hb => ?_)))
 ·exact absurd hb (by rw [show (decide ((1000000 : Int) < p)) = false from decide_eq_false xq]; decide)
 clear hb
 refine zzr (zzo ?_)
 refine sq9 (zza 32 (zI p) (zza 33 (zI q) (zyn 34 (x := zI (IntKind.i64.wrap ((2 : Int) * (q : Int)))) (zI (2 * q : Nat)) (eqI xk) (sy_rem 35 (m := ((2 * q : Nat) : Int)) (Int.tmod p (2 * (q : Int))) xq (by rw [Int.natCast_mul]; rfl) ?_))))
 refine zza 0 (zI (Int.tmod p (2 * (q : Int)))) (zzb (zzd (sq9 (zza 36 (zI (Int.tmod p (2 * (q : Int)))) (zza 37 (zB (decide ((Int.tmod p (2 * (q : Int))) < 0))) (zzb (zzt (b := decide ((Int.tmod p (2 * (q : Int))) < 0)) xj (fun bf => ?_) (fun bf => ?_))))))))
 ·have qhb19 := qyt bf
  refine zzf (zza 38 (zI (Int.tmod p (2 * (q : Int)))) (zza 39 (zI q) (zyn 40 (x := zI (IntKind.i64.wrap ((2 : Int) * (q : Int)))) (zI (2 * q : Nat)) (eqI xk) (zyn 41 (x := zI (IntKind.i64.wrap ((Int.tmod p (2 * (q : Int))) + ((2 * q : Nat) : Int)))) (zI ((Int.tmod p (2 * (q : Int))) + ((2 * q : Nat) : Int))) yk (zza 0 (zI ((Int.tmod p (2 * (q : Int))) + ((2 * q : Nat) : Int))) (zzc 113 [(0, zI ((Int.tmod p (2 * (q : Int))) + ((2 * q : Nat) : Int))), (1, zI q), (2, zI k), (6, .adr 6 0)] [(6, ⟨34, zw6⟩)] (zzd (sw_joinP (I := fun S' u' => ∃ (r : Nat), (Nt.fold p q = r) ∧ (r ≤ q) ∧ (S' = St.of 113 [(0, zI r), (1, zI q), (2, zI k), (6, .adr 6 0)] [(6, ⟨34, zw6⟩)])) ?_ (fun aO => ?_)))))))))
  ·rintro _ dT dY ⟨r, hr, hfl, rfl⟩
   refine sq9 (zza 49 (zI r) (zyn 50 (x := zI (IntKind.i64.wrap ((2 : Int) * (r : Int)))) (zI (2 * r : Nat)) (eqI xk) (zza 51 (zI q) (zza 52 (zB (decide ((q : Int) < ((2 * r : Nat) : Int)))) (zza 8 (zB (decide ((q : Int) < ((2 * r : Nat) : Int)))) (zzb (zzd (sw_joinP (I := fun S' u' => ∃ (s : Nat) (ng : Bool), ((ng = true ∧ q < 2 * r ∧ s = q - r) ∨ (ng = false ∧ ¬ q < 2 * r ∧ s = r)) ∧ (2 * s ≤ q) ∧ (S' = St.of 113 [(0, zI s), (1, zI q), (2, zI k), (6, .adr 6 0), (8, zB ng)] [(6, ⟨34, zw6⟩)])) ?_ (fun aR => ?_)))))))))
   ·rintro _ d1 en ⟨s, ng, hs, hsq, rfl⟩
    refine sq9 (zza 57 (.v (.agg #[.bool false, qyn, qyn, .bool false, qyn, qyn])) (zzj 9 ⟨34, zw6⟩ (zzi ⟨34, zw6⟩ ty34 ?_)))
    refine zzb (zzd (sw_joinP (I := fun S' u' => ∃ (x1 : RL) (x2 : RL), (S' = St.of 113 [(6, .adr 6 0), (8, zB ng), (9, .adr 9 0)] [(6, ⟨34, zw6⟩), (9, ⟨34, x1.cs ++ x2.cs⟩)]) ∧ (RatN u' x1 (Nt.cosA s q k).1 200) ∧ (RatN u' x2 (Nt.cosA s q k).2 200)) ?_ (fun ar => ?_)))
    ·rintro _ dr ez ⟨x1, x2, rfl, bI, bF⟩
     refine zzd (sq9 (zza 104 (zB ng) (zzb (zzt (b := ng) xj (fun ax => ?_) (fun ax => ?_)))))
     ·replace ax : ng = true := ax
      refine zzy [0, 1, 3, 0, 8, 31, 63, 127] [(0, []), (1, []), (3, []), (4, []), (2, []), (5, []), (6, []), (7, [])] xj xj (zza 105 (.adr 9 3) (zzh 106 (.v (x2.v)) ty32 zze (zza 108 (.adr 9 0) (zzh 109 (.v (x1.v)) ty32 zze (zzg 107 123 _ fun _ _ cY dp => qym (k_rqNeg dp (bF.ext cY).raw xq) ?_)))))
      rintro _ u27 eb ⟨aI, rfl, d9⟩
      refine zzg 110 123 _ fun _ _ c3 dI => qym (k_rqNeg dI (bI.ext (cY.t (eb.t c3))).raw xq) ?_
      rintro _ u33 ep ⟨aH, rfl, dZ⟩
      refine zza 111 (.v (.agg #[.bool aI.s, aI.m.v, aI.d.v, .bool aH.s, aH.m.v, aH.d.v])) (zzi ⟨34, aI.cs ++ aH.cs⟩ ty34 ?_)
      refine zzb (sq9 (zzh 112 (.v (.agg #[.bool aI.s, aI.m.v, aI.d.v, .bool aH.s, aH.m.v, aH.d.v])) ty34 zze (zzi ⟨34, aI.cs ++ aH.cs⟩ ty34 ?_)))
      refine zza 7 (zI 0) (zzb (zzn (ret0 [.agg #[.bool aI.s, aI.m.v, aI.d.v, .bool aH.s, aH.m.v, aH.d.v], .int .i64 0] ⟨zzq ty34 zze, zzp, trivial⟩ fun u36 dj => ?_)))
      have hs9 := hs.resolve_right (fun h => by rw [ax] at h; exact absurd h.1 yq)
      have hc := Nt.cosV_hi (b := k) hr hs9.2.1
      rw [← hs9.2.2] at hc
      refine ⟨aI, aH, rfl, RatN.more (K := 200) ?_ xq, RatN.more (K := 200) ?_ xq⟩
      ·rw [hc]; exact (d9.ext (c3.t (ep.t dj)))
      rw [hc]; exact (dZ.ext dj)
     replace ax : ng = false := ax
     refine zzr (zzo ?_)
     refine sq9 (zzh 112 (.v (.agg #[.bool x1.s, x1.m.v, x1.d.v, .bool x2.s, x2.m.v, x2.d.v])) ty34 zze (zzi ⟨34, x1.cs ++ x2.cs⟩ ty34 ?_))
     refine zza 7 (zI 0) (zzb (zzn (ret0 [.agg #[.bool x1.s, x1.m.v, x1.d.v, .bool x2.s, x2.m.v, x2.d.v], .int .i64 0] ⟨zzq ty34 zze, zzp, trivial⟩ fun u38 c1 => ?_)))
     have hs9 := hs.resolve_left (fun h => by rw [ax] at h; exact absurd h.1 yq)
     have hc := Nt.cosV_lo (b := k) hr hs9.2.1
     rw [← hs9.2.2] at hc
     refine ⟨x1, x2, rfl, RatN.more (K := 200) ?_ xq, RatN.more (K := 200) ?_ xq⟩
     ·rw [hc]; exact (bI.ext c1)
     rw [hc]; exact (bF.ext c1)
    refine zzs (sq9 (zza 83 (zI s) (zza 84 (zB ((s : Int) == 0)) (zza 82 (zB ((s : Int) == 0)) (zzb (zzt (b := (s : Int) == 0) xj (fun aN => ?_) (fun aN => ?_)))))))
    ·have bL : (s : Int) = 0 := by simpa using aN
     have an : s = 0 := by have h9 := aN; simp at h9; omega
     refine zzf (zzg 85 23 _ fun _ _ dK d3 => qym (k_rqOf d3 (z := 1) xq xq) ?_)
     rintro _ u44 eq ⟨r42, rfl, ed⟩
     refine zza 86 (zI k) (zzg 87 164 _ fun _ _ c4 ee => qym (k_r10point (k := k) ee (ed.ext c4) xq xq) ?_)
     rintro _ u52 d4 ⟨bY, cm, rfl, dE, ek⟩
     refine zzi ⟨34, bY.cs ++ cm.cs⟩ ty34 ?_
     refine zzw ?_
     refine zzo ?_
     have hcA := Nt.cosA_0 (r := s) (q := q) (b := k) an
     refine sw_weak (T := St.of 113 [(6, .adr 6 0), (8, zB ng), (9, .adr 9 0)] [(6, ⟨34, zw6⟩), (9, ⟨34, bY.cs ++ cm.cs⟩)]) yv ?_
     exact ar _ _ (dK.t (eq.t (c4.t d4.ext))) ⟨bY, cm, rfl, (by rw [hcA]; exact RatN.more dE xq), (by rw [hcA]; exact RatN.more ek xq)⟩
    have bL : ¬ ((s : Int) = 0) := by simpa using aN
    have an : ¬ s = 0 := by have h9 := aN; simp at h9; omega
    refine sq9 (zza 89 (zI s) (zyn 90 (x := zI (IntKind.i64.wrap ((2 : Int) * (s : Int)))) (zI (2 * s : Nat)) (eqI xk) (zza 91 (zI q) (zza 92 (zB (((2 * s : Nat) : Int) == (q : Int))) (zza 88 (zB (((2 * s : Nat) : Int) == (q : Int))) (zzb (zzt (b := ((2 * s : Nat) : Int) == (q : Int)) xj (fun a2 => ?_) (fun a2 => ?_))))))))
    ·have av : 2 * s = q := by have h9 := a2; simp at h9; omega
     refine zzf (zzg 93 23 _ fun _ _ dH dx => qym (k_rqOf dx (z := 0) xq xq) ?_)
     rintro _ u59 ej ⟨r57, rfl, el⟩
     refine zza 94 (zI k) (zzg 95 164 _ fun _ _ dh dy => qym (k_r10point (k := k) dy (el.ext dh) xq xq) ?_)
     rintro _ u67 ex ⟨cC, cg, rfl, d2, ef⟩
     refine zzi ⟨34, cC.cs ++ cg.cs⟩ ty34 ?_
     refine zzw ?_
     refine zzo ?_
     have hcA := Nt.cosA_h (r := s) (q := q) (b := k) an av
     refine sw_weak (T := St.of 113 [(6, .adr 6 0), (8, zB ng), (9, .adr 9 0)] [(6, ⟨34, zw6⟩), (9, ⟨34, cC.cs ++ cg.cs⟩)]) yv ?_
     exact ar _ _ (dH.t (ej.t (dh.t ex.ext))) ⟨cC, cg, rfl, (by rw [hcA]; exact RatN.more d2 xq), (by rw [hcA]; exact RatN.more ef xq)⟩
    have av : ¬ 2 * s = q := by have h9 := a2; simp at h9; omega
    refine sq9 (zza 97 (zI s) (zyn 98 (x := zI (IntKind.i64.wrap ((3 : Int) * (s : Int)))) (zI (3 * s : Nat)) (eqI xk) (zza 99 (zI q) (zza 100 (zB (((3 * s : Nat) : Int) == (q : Int))) (zza 96 (zB (((3 * s : Nat) : Int) == (q : Int))) (zzb (zzt (b := ((3 * s : Nat) : Int) == (q : Int)) xj (fun a5 => ?_) (fun a5 => ?_))))))))
    ·have ay : 3 * s = q := by have h9 := a5; simp at h9; omega
     refine zzf (zzg 101 24 _ fun _ _ dL dq => qym (k_rqFrac dq (a := 1) (b := 2) xq xq xq xq) ?_)
     rintro _ u74 eF ⟨r72, rfl, ea⟩
     refine zza 102 (zI k) (zzg 103 164 _ fun _ _ dk dG => qym (k_r10point (k := k) dG (ea.ext dk) xq xq) ?_)
     rintro _ u82 du ⟨cw, ce, rfl, eA, ds⟩
     refine zzi ⟨34, cw.cs ++ ce.cs⟩ ty34 ?_
     refine zzw ?_
     refine zzo ?_
     have hcA := Nt.cosA_3 (r := s) (q := q) (b := k) an av ay
     refine sw_weak (T := St.of 113 [(6, .adr 6 0), (8, zB ng), (9, .adr 9 0)] [(6, ⟨34, zw6⟩), (9, ⟨34, cw.cs ++ ce.cs⟩)]) yv ?_
     exact ar _ _ (dL.t (eF.t (dk.t du.ext))) ⟨cw, ce, rfl, (by rw [hcA]; exact RatN.more eA xq), (by rw [hcA]; exact RatN.more ds xq)⟩
    have ay : ¬ 3 * s = q := by have h9 := a5; simp at h9; omega
    refine sq9 (zza 10 (zB false) (zzb (sq9 (zza 58 (zI s) (zza 59 (zI q) (zzg 60 24 _ fun _ _ dJ d0 => qym (k_rqFrac d0 (a := (s : Int)) (b := (q : Int)) xq xq xq xq) ?_))))))
    rintro _ u88 dW ⟨r86, rfl, dz⟩
    refine zza 61 (zI s) (zza 62 (zI q) (zzg 63 24 _ fun _ _ c8 ey => qym (k_rqFrac ey (a := (s : Int)) (b := (q : Int)) xq xq xq xq) ?_))
    rintro _ u94 cZ ⟨r92, rfl, d6⟩
    refine zzg 64 59 _ fun _ _ bP dQ => qym (k_r4Make dQ (dz.ext (c8.t (cZ.t bP))).raw (d6.ext bP).raw xq) ?_
    rintro _ cS bW ⟨bi, aE, rfl, eh, cc⟩
    refine zzj 11 ⟨34, zw6⟩ (zzi ⟨34, bi.cs ++ aE.cs⟩ ty34 ?_)
    refine zzb (sq9 (zza 65 (zI k) (zyn 66 (x := zI (IntKind.i64.wrap ((k : Int) + 16))) (zI (k + 16 : Nat)) (eqI xk) (zza 12 (zI (k + 16 : Nat)) (zzb (zzs (zyl (I := fun bG S' u' => ∃ (t : Nat) (wk : Nat) (ok : Bool) (x1 : RL) (x2 : RL), (bG = t) ∧ (k + 16 ≤ wk) ∧ (wk ≤ 1400) ∧ (ok = true ∨ (t = 2001 - wk ∧ (wk ≤ 674 ∨ wk = k + 16))) ∧ (S' = St.of 113 [(2, zI k), (6, .adr 6 0), (8, zB ng), (9, .adr 9 0), (10, zB ok), (11, .adr 11 0), (12, zI wk)] [(6, ⟨34, zw6⟩), (9, ⟨34, x1.cs ++ x2.cs⟩), (11, ⟨34, bi.cs ++ aE.cs⟩)]) ∧ (Ext cS u') ∧ (IfI u' ok x1 x2 (Nt.gr k (Nt.flo (Nt.coN s q) k)) (Nt.gr k (Nt.flo (Nt.coN s q) k + 1)))) (fun m S u1 u2 e h => by obtain ⟨t, wk, ok, x1, x2, hm, p0, p1, p2, hS, hE, f0⟩ := h; exact ⟨t, wk, ok, x1, x2, hm, p0, p1, p2, hS, hE.trans e, f0.ext e⟩) _ yv ⟨(2001 - (k + 16)), (k + 16), false, (⟨false, ⟨none, 0, 0⟩, ⟨none, 0, 0⟩⟩ : RL), (⟨false, ⟨none, 0, 0⟩, ⟨none, 0, 0⟩⟩ : RL), rfl, by omega, by omega, .inr ⟨rfl, .inr rfl⟩, rfl, (Ext.refl _), (fun h => absurd h yq)⟩ ?_)))))))
    rintro bG _ eC ⟨t, wk, ok, x1, x2, df, dX, eE, bS, rfl, aX, f0⟩
    refine zzd (sq9 (zza 67 (zB ok) (zza 68 (zB (!ok)) (zzc 113 [(2, zI k), (6, .adr 6 0), (8, zB ng), (9, .adr 9 0), (11, .adr 11 0), (12, zI wk), (68, zB (!ok))] [(6, ⟨34, zw6⟩), (9, ⟨34, x1.cs ++ x2.cs⟩), (11, ⟨34, bi.cs ++ aE.cs⟩)] (zzt (b := !ok) xj (fun az => ?_) (fun az => ?_))))))
    ·have hok := Nt.not_t az
     have dC : t = 2001 - wk ∧ (wk ≤ 674 ∨ wk = k + 16) := bS.resolve_left (by rw [hok]; decide)
     have hg := hG s xq xq xq
     refine zzr (zzo ?_)
     refine zzd (zzs (zzy [0, 1, 0, 7, 0, 31, 0, 127, 255, 511, 511, 1023, 4095] [(0, []), (2, []), (4, []), (6, []), (1, []), (3, []), (5, []), (7, []), (8, []), (9, []), (10, []), (11, []), (12, [])] xj xj (zza 72 (zI wk) (zzh 74 (.v (.agg #[.bool bi.s, bi.m.v, bi.d.v, .bool aE.s, aE.m.v, aE.d.v])) ty34 zze (zza 76 (zI wk) (zza 78 (zI k) (zzg 73 167 _ fun _ _ aY cR => qym (k_r10pi cR (k := wk) xq xq) ?_)))))))
     rintro _ ei bc ⟨c7, c9, bv, bx, rfl, bu, bj, aQ⟩
     refine zzg 75 62 _ fun _ _ aK b8 => qym (k_r4Mul b8 (bu.ext aK).raw (bj.ext aK).raw (eh.ext (aX.t (aY.t (bc.t aK)))).raw (cc.ext (aX.t (aY.t (bc.t aK)))).raw xq xq) ?_
     rintro _ dS b0 ⟨dM, dD, rfl, cW, cP⟩
     refine zzg 77 166 _ fun _ _ a0 cv => qym (k_r10cos (p := s) (q := q) (k := wk) (a := bv) (b := bx) (K := 1000) cv aQ aD xq xq xq xq (by have h9 := (cW.ext a0); rw [(Nt.cs_x (aQ.bd xq).2.2.1 (Nt.fr_nn aD)).1] at h9; exact RatN.more (L := 1000) h9 xq) (by have h9 := (cP.ext a0); rw [(Nt.cs_x (aQ.bd xq).2.2.1 (Nt.fr_nn aD)).2] at h9; exact RatN.more (L := 1000) h9 xq) xq) ?_
     rintro _ et cO ⟨di, dn, aq, al, rfl, br, bH, aP⟩
     refine zzg 79 165 _ fun _ _ a3 cL => qym (k_r10tight (k := k) (m := wk) (a := aq) (b := al) cL (br.ext a3) (bH.ext a3) xq xq xq) ?_
     rintro _ es ch ⟨ad, ag, rfl, bJ⟩
     refine zza 71 (.v (.tuple #[.agg #[.bool ad.s, ad.m.v, ad.d.v, .bool ag.s, ag.m.v, ag.d.v], .bool (!(Nt.cmpS (aq / Nt.u2 (wk - k)) (al / Nt.u2 (wk - k)) != 0))])) (zza 80 (.v (.agg #[.bool ad.s, ad.m.v, ad.d.v, .bool ag.s, ag.m.v, ag.d.v])) (zza 81 (zB (!(Nt.cmpS (aq / Nt.u2 (wk - k)) (al / Nt.u2 (wk - k)) != 0))) (zzi ⟨34, ad.cs ++ ag.cs⟩ ty34 ?_)))
     refine zza 10 (zB (!(Nt.cmpS (aq / Nt.u2 (wk - k)) (al / Nt.u2 (wk - k)) != 0))) (zzw ?_)
     refine zzo (zzf (zza 69 (zI wk) (zyn 70 (x := zI (IntKind.i64.wrap ((wk : Int) * 2))) (zI (wk * 2 : Nat)) (eqI xk) (zza 12 (zI (wk * 2 : Nat)) (zzw ?_)))))
     obtain ⟨t1, cE, hlt⟩ : ∃ t1 : Nat, ((!(Nt.cmpS (aq / Nt.u2 (wk - k)) (al / Nt.u2 (wk - k)) != 0)) = true ∨ (t1 = 2001 - wk * 2 ∧ (wk * 2 ≤ 674 ∨ wk * 2 = k + 16))) ∧ t1 < t := by (cases hcc : (Nt.cmpS (aq / Nt.u2 (wk - k)) (al / Nt.u2 (wk - k)) != 0) with | false => exact ⟨0, .inl rfl, by omega⟩ | true => (have hny := Nt.not_yet hg aP.1 (Nt.csR_bd aP aD xq xq).2.2.2.2.2 hcc; exact ⟨2001 - wk * 2, .inr ⟨rfl, .inl xq⟩, by omega⟩))
     refine ⟨_, ?_, _, by exact zzu _ _ _, t1, wk * 2, (!(Nt.cmpS (aq / Nt.u2 (wk - k)) (al / Nt.u2 (wk - k)) != 0)), ad, ag, rfl, by omega, by omega, cE, rfl, (aX.t (aY.t (bc.t (aK.t (b0.t (a0.t (cO.t (a3.t ch.ext)))))))), (fun h => by have h8 := Nt.not_t h; have h9 := bJ h8; rw [Nt.flo_of aP.1 xq h8] at h9; exact ⟨h9.1, h9.2⟩)⟩
     omega
    refine zyb (zzo ?_)
    have hcA := Nt.cosA_g (r := s) (q := q) (b := k) an av ay
    refine sw_weak (T := St.of 113 [(6, .adr 6 0), (8, zB ng), (9, .adr 9 0)] [(6, ⟨34, zw6⟩), (9, ⟨34, x1.cs ++ x2.cs⟩)]) yv ?_
    exact ar _ _ (dJ.t (dW.t (c8.t (cZ.t (bP.t (bW.t aX)))))) ⟨x1, x2, rfl, (by rw [hcA]; exact RatN.more (f0 (Nt.not_f az)).1 xq), (by rw [hcA]; exact RatN.more (f0 (Nt.not_f az)).2 xq)⟩
   refine sq9 (zza 53 (zB (decide ((q : Int) < ((2 * r : Nat) : Int)))) (zzb (zzt (b := decide ((q : Int) < ((2 * r : Nat) : Int))) xj (fun aa => ?_) (fun aa => ?_))))
   ·have qhb130 := qyt aa
    refine zzf (zza 54 (zI q) (zza 55 (zI r) (zyn 56 (x := zI (IntKind.i64.wrap ((q : Int) - (r : Int)))) (zI (q - r : Nat)) (eqI xk) (zza 0 (zI (q - r : Nat)) (zzc 113 [(0, zI (q - r : Nat)), (1, zI q), (2, zI k), (6, .adr 6 0), (8, zB (decide ((q : Int) < ((2 * r : Nat) : Int))))] [(6, ⟨34, zw6⟩)] ?_)))))
    exact aR _ _ (Ext.refl _) ⟨q - r, (decide ((q : Int) < ((2 * r : Nat) : Int))), (.inl ⟨aa, by have h9 := qyt aa; omega, rfl⟩), (by have h9 := qyt aa; omega), rfl⟩
   have qhb130 := qyf aa
   refine zzr (zzo ?_)
   refine sw_weak (T := St.of 113 [(0, zI r), (1, zI q), (2, zI k), (6, .adr 6 0), (8, zB (decide ((q : Int) < ((2 * r : Nat) : Int))))] [(6, ⟨34, zw6⟩)]) yv ?_
   exact aR _ _ (Ext.refl _) ⟨r, (decide ((q : Int) < ((2 * r : Nat) : Int))), (.inr ⟨aa, by have h9 := qyf aa; omega, rfl⟩), (by have h9 := qyf aa; omega), rfl⟩
  refine sq9 (zza 42 (zI ((Int.tmod p (2 * (q : Int))) + ((2 * q : Nat) : Int))) (zza 43 (zI q) (zza 44 (zB (decide ((q : Int) < ((Int.tmod p (2 * (q : Int))) + ((2 * q : Nat) : Int))))) (zzb (zzt (b := decide ((q : Int) < ((Int.tmod p (2 * (q : Int))) + ((2 * q : Nat) : Int)))) xj (fun aL => ?_) (fun aL => ?_))))))
  ·have qhb131 := qyt aL
   refine zzf (zza 45 (zI q) (zyn 46 (x := zI (IntKind.i64.wrap ((2 : Int) * (q : Int)))) (zI (2 * q : Nat)) (eqI xk) (zza 47 (zI ((Int.tmod p (2 * (q : Int))) + ((2 * q : Nat) : Int))) (zyn 48 (x := zI (IntKind.i64.wrap (((2 * q : Nat) : Int) - ((Int.tmod p (2 * (q : Int))) + ((2 * q : Nat) : Int))))) (zI (((2 * q : Nat) : Int) - ((Int.tmod p (2 * (q : Int))) + ((2 * q : Nat) : Int)))) yk (zza 0 (zI (((2 * q : Nat) : Int) - ((Int.tmod p (2 * (q : Int))) + ((2 * q : Nat) : Int)))) ?_)))))
   have hfold : (((2 * q : Nat) : Int) - ((Int.tmod p (2 * (q : Int))) + ((2 * q : Nat) : Int))) = ((Nt.fold p q : Nat) : Int) := by unfold Nt.fold; dsimp only; split <;> omega
   rw [hfold]
   refine zzc 113 [(0, zI (((Nt.fold p q) : Nat) : Int)), (1, zI q), (2, zI k), (6, .adr 6 0)] [(6, ⟨34, zw6⟩)] ?_
   exact aO _ _ (Ext.refl _) ⟨(Nt.fold p q), rfl, (Nt.fold_le p q aD), rfl⟩
  have qhb131 := qyf aL
  refine zzr (zzo ?_)
  have hfold : ((Int.tmod p (2 * (q : Int))) + ((2 * q : Nat) : Int)) = ((Nt.fold p q : Nat) : Int) := by unfold Nt.fold; dsimp only; split <;> omega
  rw [hfold]
  refine sw_weak (T := St.of 113 [(0, zI (((Nt.fold p q) : Nat) : Int)), (1, zI q), (2, zI k), (6, .adr 6 0)] [(6, ⟨34, zw6⟩)]) yv ?_
  exact aO _ _ (Ext.refl _) ⟨(Nt.fold p q), rfl, (Nt.fold_le p q aD), rfl⟩
 have qhb19 := qyf bf
 refine zzr (zzo ?_)
 refine zzd (sw_joinP (I := fun S' u' => ∃ (r : Nat), (Nt.fold p q = r) ∧ (r ≤ q) ∧ (S' = St.of 113 [(0, zI r), (1, zI q), (2, zI k), (6, .adr 6 0)] [(6, ⟨34, zw6⟩)])) ?_ (fun aB => ?_))
 ·rintro _ c6 dg ⟨r, hr, hfl, rfl⟩
  refine sq9 (zza 49 (zI r) (zyn 50 (x := zI (IntKind.i64.wrap ((2 : Int) * (r : Int)))) (zI (2 * r : Nat)) (eqI xk) (zza 51 (zI q) (zza 52 (zB (decide ((q : Int) < ((2 * r : Nat) : Int)))) (zza 8 (zB (decide ((q : Int) < ((2 * r : Nat) : Int)))) (zzb (zzd (sw_joinP (I := fun S' u' => ∃ (s : Nat) (ng : Bool), ((ng = true ∧ q < 2 * r ∧ s = q - r) ∨ (ng = false ∧ ¬ q < 2 * r ∧ s = r)) ∧ (2 * s ≤ q) ∧ (S' = St.of 113 [(0, zI s), (1, zI q), (2, zI k), (6, .adr 6 0), (8, zB ng)] [(6, ⟨34, zw6⟩)])) ?_ (fun aA => ?_)))))))))
  ·rintro _ dd db ⟨s, ng, hs, hsq, rfl⟩
   refine sq9 (zza 57 (.v (.agg #[.bool false, qyn, qyn, .bool false, qyn, qyn])) (zzj 9 ⟨34, zw6⟩ (zzi ⟨34, zw6⟩ ty34 ?_)))
   refine zzb (zzd (sw_joinP (I := fun S' u' => ∃ (x1 : RL) (x2 : RL), (S' = St.of 113 [(6, .adr 6 0), (8, zB ng), (9, .adr 9 0)] [(6, ⟨34, zw6⟩), (9, ⟨34, x1.cs ++ x2.cs⟩)]) ∧ (RatN u' x1 (Nt.cosA s q k).1 200) ∧ (RatN u' x2 (Nt.cosA s q k).2 200)) ?_ (fun aj => ?_)))
   ·rintro _ c0 c2 ⟨x1, x2, rfl, bI, bF⟩
    refine zzd (sq9 (zza 104 (zB ng) (zzb (zzt (b := ng) xj (fun am => ?_) (fun am => ?_)))))
    ·replace am : ng = true := am
     refine zzy [0, 1, 3, 0, 8, 31, 63, 127] [(0, []), (1, []), (3, []), (4, []), (2, []), (5, []), (6, []), (7, [])] xj xj (zza 105 (.adr 9 3) (zzh 106 (.v (x2.v)) ty32 zze (zza 108 (.adr 9 0) (zzh 109 (.v (x1.v)) ty32 zze (zzg 107 123 _ fun _ _ bn cx => qym (k_rqNeg cx (bF.ext bn).raw xq) ?_)))))
     rintro _ dN bR ⟨ai, rfl, cT⟩
     refine zzg 110 123 _ fun _ _ bm bX => qym (k_rqNeg bX (bI.ext (bn.t (bR.t bm))).raw xq) ?_
     rintro _ eB bZ ⟨ah, rfl, bT⟩
     refine zza 111 (.v (.agg #[.bool ai.s, ai.m.v, ai.d.v, .bool ah.s, ah.m.v, ah.d.v])) (zzi ⟨34, ai.cs ++ ah.cs⟩ ty34 ?_)
     refine zzb (sq9 (zzh 112 (.v (.agg #[.bool ai.s, ai.m.v, ai.d.v, .bool ah.s, ah.m.v, ah.d.v])) ty34 zze (zzi ⟨34, ai.cs ++ ah.cs⟩ ty34 ?_)))
     refine zza 7 (zI 0) (zzb (zzn (ret0 [.agg #[.bool ai.s, ai.m.v, ai.d.v, .bool ah.s, ah.m.v, ah.d.v], .int .i64 0] ⟨zzq ty34 zze, zzp, trivial⟩ fun er bl => ?_)))
     have hs9 := hs.resolve_right (fun h => by rw [am] at h; exact absurd h.1 yq)
     have hc := Nt.cosV_hi (b := k) hr hs9.2.1
     rw [← hs9.2.2] at hc
     refine ⟨ai, ah, rfl, RatN.more (K := 200) ?_ xq, RatN.more (K := 200) ?_ xq⟩
     ·rw [hc]; exact (cT.ext (bm.t (bZ.t bl)))
     rw [hc]; exact (bT.ext bl)
    replace am : ng = false := am
    refine zzr (zzo ?_)
    refine sq9 (zzh 112 (.v (.agg #[.bool x1.s, x1.m.v, x1.d.v, .bool x2.s, x2.m.v, x2.d.v])) ty34 zze (zzi ⟨34, x1.cs ++ x2.cs⟩ ty34 ?_))
    refine zza 7 (zI 0) (zzb (zzn (ret0 [.agg #[.bool x1.s, x1.m.v, x1.d.v, .bool x2.s, x2.m.v, x2.d.v], .int .i64 0] ⟨zzq ty34 zze, zzp, trivial⟩ fun dt bK => ?_)))
    have hs9 := hs.resolve_left (fun h => by rw [am] at h; exact absurd h.1 yq)
    have hc := Nt.cosV_lo (b := k) hr hs9.2.1
    rw [← hs9.2.2] at hc
    refine ⟨x1, x2, rfl, RatN.more (K := 200) ?_ xq, RatN.more (K := 200) ?_ xq⟩
    ·rw [hc]; exact (bI.ext bK)
    rw [hc]; exact (bF.ext bK)
   refine zzs (sq9 (zza 83 (zI s) (zza 84 (zB ((s : Int) == 0)) (zza 82 (zB ((s : Int) == 0)) (zzb (zzt (b := (s : Int) == 0) xj (fun aw => ?_) (fun aw => ?_)))))))
   ·have a7 : (s : Int) = 0 := by simpa using aw
    have ac : s = 0 := by have h9 := aw; simp at h9; omega
    refine zzf (zzg 85 23 _ fun _ _ cy cz => qym (k_rqOf cz (z := 1) xq xq) ?_)
    rintro _ eD cM ⟨ew, rfl, cA⟩
    refine zza 86 (zI k) (zzg 87 164 _ fun _ _ bp bQ => qym (k_r10point (k := k) bQ (cA.ext bp) xq xq) ?_)
    rintro _ dP ci ⟨a6, bg, rfl, cQ, cK⟩
    refine zzi ⟨34, a6.cs ++ bg.cs⟩ ty34 ?_
    refine zzw ?_
    refine zzo ?_
    have hcA := Nt.cosA_0 (r := s) (q := q) (b := k) ac
    refine sw_weak (T := St.of 113 [(6, .adr 6 0), (8, zB ng), (9, .adr 9 0)] [(6, ⟨34, zw6⟩), (9, ⟨34, a6.cs ++ bg.cs⟩)]) yv ?_
    exact aj _ _ (cy.t (cM.t (bp.t ci.ext))) ⟨a6, bg, rfl, (by rw [hcA]; exact RatN.more cQ xq), (by rw [hcA]; exact RatN.more cK xq)⟩
   have a7 : ¬ ((s : Int) = 0) := by simpa using aw
   have ac : ¬ s = 0 := by have h9 := aw; simp at h9; omega
   refine sq9 (zza 89 (zI s) (zyn 90 (x := zI (IntKind.i64.wrap ((2 : Int) * (s : Int)))) (zI (2 * s : Nat)) (eqI xk) (zza 91 (zI q) (zza 92 (zB (((2 * s : Nat) : Int) == (q : Int))) (zza 88 (zB (((2 * s : Nat) : Int) == (q : Int))) (zzb (zzt (b := ((2 * s : Nat) : Int) == (q : Int)) xj (fun aS => ?_) (fun aS => ?_))))))))
   ·have ak : 2 * s = q := by have h9 := aS; simp at h9; omega
    refine zzf (zzg 93 23 _ fun _ _ bM cb => qym (k_rqOf cb (z := 0) xq xq) ?_)
    rintro _ d8 b6 ⟨ec, rfl, bN⟩
    refine zza 94 (zI k) (zzg 95 164 _ fun _ _ bz cI => qym (k_r10point (k := k) cI (bN.ext bz) xq xq) ?_)
    rintro _ dO ca ⟨bh, bb, rfl, cq, ck⟩
    refine zzi ⟨34, bh.cs ++ bb.cs⟩ ty34 ?_
    refine zzw ?_
    refine zzo ?_
    have hcA := Nt.cosA_h (r := s) (q := q) (b := k) ac ak
    refine sw_weak (T := St.of 113 [(6, .adr 6 0), (8, zB ng), (9, .adr 9 0)] [(6, ⟨34, zw6⟩), (9, ⟨34, bh.cs ++ bb.cs⟩)]) yv ?_
    exact aj _ _ (bM.t (b6.t (bz.t ca.ext))) ⟨bh, bb, rfl, (by rw [hcA]; exact RatN.more cq xq), (by rw [hcA]; exact RatN.more ck xq)⟩
   have ak : ¬ 2 * s = q := by have h9 := aS; simp at h9; omega
   refine sq9 (zza 97 (zI s) (zyn 98 (x := zI (IntKind.i64.wrap ((3 : Int) * (s : Int)))) (zI (3 * s : Nat)) (eqI xk) (zza 99 (zI q) (zza 100 (zB (((3 * s : Nat) : Int) == (q : Int))) (zza 96 (zB (((3 * s : Nat) : Int) == (q : Int))) (zzb (zzt (b := ((3 * s : Nat) : Int) == (q : Int)) xj (fun aJ => ?_) (fun aJ => ?_))))))))
   ·have au : 3 * s = q := by have h9 := aJ; simp at h9; omega
    refine zzf (zzg 101 24 _ fun _ _ ct b4 => qym (k_rqFrac b4 (a := 1) (b := 2) xq xq xq xq) ?_)
    rintro _ dF bV ⟨eo, rfl, b7⟩
    refine zza 102 (zI k) (zzg 103 164 _ fun _ _ bo b2 => qym (k_r10point (k := k) b2 (b7.ext bo) xq xq) ?_)
    rintro _ d5 cB ⟨be, a4, rfl, cd, cX⟩
    refine zzi ⟨34, be.cs ++ a4.cs⟩ ty34 ?_
    refine zzw ?_
    refine zzo ?_
    have hcA := Nt.cosA_3 (r := s) (q := q) (b := k) ac ak au
    refine sw_weak (T := St.of 113 [(6, .adr 6 0), (8, zB ng), (9, .adr 9 0)] [(6, ⟨34, zw6⟩), (9, ⟨34, be.cs ++ a4.cs⟩)]) yv ?_
    exact aj _ _ (ct.t (bV.t (bo.t cB.ext))) ⟨be, a4, rfl, (by rw [hcA]; exact RatN.more cd xq), (by rw [hcA]; exact RatN.more cX xq)⟩
   have au : ¬ 3 * s = q := by have h9 := aJ; simp at h9; omega
   refine sq9 (zza 10 (zB false) (zzb (sq9 (zza 58 (zI s) (zza 59 (zI q) (zzg 60 24 _ fun _ _ cj cu => qym (k_rqFrac cu (a := (s : Int)) (b := (q : Int)) xq xq xq xq) ?_))))))
   rintro _ dR cH ⟨dw, rfl, cV⟩
   refine zza 61 (zI s) (zza 62 (zI q) (zzg 63 24 _ fun _ _ bk b9 => qym (k_rqFrac b9 (a := (s : Int)) (b := (q : Int)) xq xq xq xq) ?_))
   rintro _ d7 bB ⟨dv, rfl, cr⟩
   refine zzg 64 59 _ fun _ _ aZ cf => qym (k_r4Make cf (cV.ext (bk.t (bB.t aZ))).raw (cr.ext aZ).raw xq) ?_
   rintro _ cp b3 ⟨aG, aF, rfl, cJ, cl⟩
   refine zzj 11 ⟨34, zw6⟩ (zzi ⟨34, aG.cs ++ aF.cs⟩ ty34 ?_)
   refine zzb (sq9 (zza 65 (zI k) (zyn 66 (x := zI (IntKind.i64.wrap ((k : Int) + 16))) (zI (k + 16 : Nat)) (eqI xk) (zza 12 (zI (k + 16 : Nat)) (zzb (zzs (zyl (I := fun bq S' u' => ∃ (t : Nat) (wk : Nat) (ok : Bool) (x1 : RL) (x2 : RL), (bq = t) ∧ (k + 16 ≤ wk) ∧ (wk ≤ 1400) ∧ (ok = true ∨ (t = 2001 - wk ∧ (wk ≤ 674 ∨ wk = k + 16))) ∧ (S' = St.of 113 [(2, zI k), (6, .adr 6 0), (8, zB ng), (9, .adr 9 0), (10, zB ok), (11, .adr 11 0), (12, zI wk)] [(6, ⟨34, zw6⟩), (9, ⟨34, x1.cs ++ x2.cs⟩), (11, ⟨34, aG.cs ++ aF.cs⟩)]) ∧ (Ext cp u') ∧ (IfI u' ok x1 x2 (Nt.gr k (Nt.flo (Nt.coN s q) k)) (Nt.gr k (Nt.flo (Nt.coN s q) k + 1)))) (fun m S u1 u2 e h => by obtain ⟨t, wk, ok, x1, x2, hm, p0, p1, p2, hS, hE, f0⟩ := h; exact ⟨t, wk, ok, x1, x2, hm, p0, p1, p2, hS, hE.trans e, f0.ext e⟩) _ yv ⟨(2001 - (k + 16)), (k + 16), false, (⟨false, ⟨none, 0, 0⟩, ⟨none, 0, 0⟩⟩ : RL), (⟨false, ⟨none, 0, 0⟩, ⟨none, 0, 0⟩⟩ : RL), rfl, by omega, by omega, .inr ⟨rfl, .inr rfl⟩, rfl, (Ext.refl _), (fun h => absurd h yq)⟩ ?_)))))))
   rintro bq _ eu ⟨t, wk, ok, x1, x2, dm, dX, eE, bS, rfl, aW, f0⟩
   refine zzd (sq9 (zza 67 (zB ok) (zza 68 (zB (!ok)) (zzc 113 [(2, zI k), (6, .adr 6 0), (8, zB ng), (9, .adr 9 0), (11, .adr 11 0), (12, zI wk), (68, zB (!ok))] [(6, ⟨34, zw6⟩), (9, ⟨34, x1.cs ++ x2.cs⟩), (11, ⟨34, aG.cs ++ aF.cs⟩)] (zzt (b := !ok) xj (fun aC => ?_) (fun aC => ?_))))))
   ·have hok := Nt.not_t aC
    have dC : t = 2001 - wk ∧ (wk ≤ 674 ∨ wk = k + 16) := bS.resolve_left (by rw [hok]; decide)
    have hg := hG s xq xq xq
    refine zzr (zzo ?_)
    refine zzd (zzs (zzy [0, 1, 0, 7, 0, 31, 0, 127, 255, 511, 511, 1023, 4095] [(0, []), (2, []), (4, []), (6, []), (1, []), (3, []), (5, []), (7, []), (8, []), (9, []), (10, []), (11, []), (12, [])] xj xj (zza 72 (zI wk) (zzh 74 (.v (.agg #[.bool aG.s, aG.m.v, aG.d.v, .bool aF.s, aF.m.v, aF.d.v])) ty34 zze (zza 76 (zI wk) (zza 78 (zI k) (zzg 73 167 _ fun _ _ a8 cD => qym (k_r10pi cD (k := wk) xq xq) ?_)))))))
    rintro _ dA a1 ⟨da, dc, bD, bC, rfl, bA, bw, aT⟩
    refine zzg 75 62 _ fun _ _ aV b5 => qym (k_r4Mul b5 (bA.ext aV).raw (bw.ext aV).raw (cJ.ext (aW.t (a8.t (a1.t aV)))).raw (cl.ext (aW.t (a8.t (a1.t aV)))).raw xq xq) ?_
    rintro _ dB bO ⟨dU, dV, rfl, cU, bU⟩
    refine zzg 77 166 _ fun _ _ ba cG => qym (k_r10cos (p := s) (q := q) (k := wk) (a := bD) (b := bC) (K := 1000) cG aT aD xq xq xq xq (by have h9 := (cU.ext ba); rw [(Nt.cs_x (aT.bd xq).2.2.1 (Nt.fr_nn aD)).1] at h9; exact RatN.more (L := 1000) h9 xq) (by have h9 := (bU.ext ba); rw [(Nt.cs_x (aT.bd xq).2.2.1 (Nt.fr_nn aD)).2] at h9; exact RatN.more (L := 1000) h9 xq) xq) ?_
    rintro _ eG cN ⟨c5, de, ap, ao, rfl, bt, bs, aU⟩
    refine zzg 79 165 _ fun _ _ a9 cF => qym (k_r10tight (k := k) (m := wk) (a := ap) (b := ao) cF (bt.ext a9) (bs.ext a9) xq xq xq) ?_
    rintro _ em b1 ⟨ae, af, rfl, bE⟩
    refine zza 71 (.v (.tuple #[.agg #[.bool ae.s, ae.m.v, ae.d.v, .bool af.s, af.m.v, af.d.v], .bool (!(Nt.cmpS (ap / Nt.u2 (wk - k)) (ao / Nt.u2 (wk - k)) != 0))])) (zza 80 (.v (.agg #[.bool ae.s, ae.m.v, ae.d.v, .bool af.s, af.m.v, af.d.v])) (zza 81 (zB (!(Nt.cmpS (ap / Nt.u2 (wk - k)) (ao / Nt.u2 (wk - k)) != 0))) (zzi ⟨34, ae.cs ++ af.cs⟩ ty34 ?_)))
    refine zza 10 (zB (!(Nt.cmpS (ap / Nt.u2 (wk - k)) (ao / Nt.u2 (wk - k)) != 0))) (zzw ?_)
    refine zzo (zzf (zza 69 (zI wk) (zyn 70 (x := zI (IntKind.i64.wrap ((wk : Int) * 2))) (zI (wk * 2 : Nat)) (eqI xk) (zza 12 (zI (wk * 2 : Nat)) (zzw ?_)))))
    obtain ⟨t1, cE, hlt⟩ : ∃ t1 : Nat, ((!(Nt.cmpS (ap / Nt.u2 (wk - k)) (ao / Nt.u2 (wk - k)) != 0)) = true ∨ (t1 = 2001 - wk * 2 ∧ (wk * 2 ≤ 674 ∨ wk * 2 = k + 16))) ∧ t1 < t := by (cases hcc : (Nt.cmpS (ap / Nt.u2 (wk - k)) (ao / Nt.u2 (wk - k)) != 0) with | false => exact ⟨0, .inl rfl, by omega⟩ | true => (have hny := Nt.not_yet hg aU.1 (Nt.csR_bd aU aD xq xq).2.2.2.2.2 hcc; exact ⟨2001 - wk * 2, .inr ⟨rfl, .inl xq⟩, by omega⟩))
    refine ⟨_, ?_, _, by exact zzu _ _ _, t1, wk * 2, (!(Nt.cmpS (ap / Nt.u2 (wk - k)) (ao / Nt.u2 (wk - k)) != 0)), ae, af, rfl, by omega, by omega, cE, rfl, (aW.t (a8.t (a1.t (aV.t (bO.t (ba.t (cN.t (a9.t b1.ext)))))))), (fun h => by have h8 := Nt.not_t h; have h9 := bE h8; rw [Nt.flo_of aU.1 xq h8] at h9; exact ⟨h9.1, h9.2⟩)⟩
    omega
   refine zyb (zzo ?_)
   have hcA := Nt.cosA_g (r := s) (q := q) (b := k) ac ak au
   refine sw_weak (T := St.of 113 [(6, .adr 6 0), (8, zB ng), (9, .adr 9 0)] [(6, ⟨34, zw6⟩), (9, ⟨34, x1.cs ++ x2.cs⟩)]) yv ?_
   exact aj _ _ (cj.t (cH.t (bk.t (bB.t (aZ.t (b3.t aW)))))) ⟨x1, x2, rfl, (by rw [hcA]; exact RatN.more (f0 (Nt.not_f aC)).1 xq), (by rw [hcA]; exact RatN.more (f0 (Nt.not_f aC)).2 xq)⟩
  refine sq9 (zza 53 (zB (decide ((q : Int) < ((2 * r : Nat) : Int)))) (zzb (zzt (b := decide ((q : Int) < ((2 * r : Nat) : Int))) xj (fun ab => ?_) (fun ab => ?_))))
  ·have qhb242 := qyt ab
   refine zzf (zza 54 (zI q) (zza 55 (zI r) (zyn 56 (x := zI (IntKind.i64.wrap ((q : Int) - (r : Int)))) (zI (q - r : Nat)) (eqI xk) (zza 0 (zI (q - r : Nat)) (zzc 113 [(0, zI (q - r : Nat)), (1, zI q), (2, zI k), (6, .adr 6 0), (8, zB (decide ((q : Int) < ((2 * r : Nat) : Int))))] [(6, ⟨34, zw6⟩)] ?_)))))
   exact aA _ _ (Ext.refl _) ⟨q - r, (decide ((q : Int) < ((2 * r : Nat) : Int))), (.inl ⟨ab, by have h9 := qyt ab; omega, rfl⟩), (by have h9 := qyt ab; omega), rfl⟩
  have qhb242 := qyf ab
  refine zzr (zzo ?_)
  refine sw_weak (T := St.of 113 [(0, zI r), (1, zI q), (2, zI k), (6, .adr 6 0), (8, zB (decide ((q : Int) < ((2 * r : Nat) : Int))))] [(6, ⟨34, zw6⟩)]) yv ?_
  exact aA _ _ (Ext.refl _) ⟨r, (decide ((q : Int) < ((2 * r : Nat) : Int))), (.inr ⟨ab, by have h9 := qyf ab; omega, rfl⟩), (by have h9 := qyf ab; omega), rfl⟩
 refine sq9 (zza 42 (zI (Int.tmod p (2 * (q : Int)))) (zza 43 (zI q) (zza 44 (zB (decide ((q : Int) < (Int.tmod p (2 * (q : Int)))))) (zzb (zzt (b := decide ((q : Int) < (Int.tmod p (2 * (q : Int))))) xj (fun aM => ?_) (fun aM => ?_))))))
 ·have qhb243 := qyt aM
  refine zzf (zza 45 (zI q) (zyn 46 (x := zI (IntKind.i64.wrap ((2 : Int) * (q : Int)))) (zI (2 * q : Nat)) (eqI xk) (zza 47 (zI (Int.tmod p (2 * (q : Int)))) (zyn 48 (x := zI (IntKind.i64.wrap (((2 * q : Nat) : Int) - (Int.tmod p (2 * (q : Int)))))) (zI (((2 * q : Nat) : Int) - (Int.tmod p (2 * (q : Int))))) yk (zza 0 (zI (((2 * q : Nat) : Int) - (Int.tmod p (2 * (q : Int))))) ?_)))))
  have hfold : (((2 * q : Nat) : Int) - (Int.tmod p (2 * (q : Int)))) = ((Nt.fold p q : Nat) : Int) := by unfold Nt.fold; dsimp only; split <;> omega
  rw [hfold]
  refine zzc 113 [(0, zI (((Nt.fold p q) : Nat) : Int)), (1, zI q), (2, zI k), (6, .adr 6 0)] [(6, ⟨34, zw6⟩)] ?_
  exact aB _ _ (Ext.refl _) ⟨(Nt.fold p q), rfl, (Nt.fold_le p q aD), rfl⟩
 have qhb243 := qyf aM
 refine zzr (zzo ?_)
 have hfold : (Int.tmod p (2 * (q : Int))) = ((Nt.fold p q : Nat) : Int) := by unfold Nt.fold; dsimp only; split <;> omega
 rw [hfold]
 refine sw_weak (T := St.of 113 [(0, zI (((Nt.fold p q) : Nat) : Int)), (1, zI q), (2, zI k), (6, .adr 6 0)] [(6, ⟨34, zw6⟩)]) yv ?_
 exact aB _ _ (Ext.refl _) ⟨(Nt.fold p q), rfl, (Nt.fold_le p q aD), rfl⟩
end Go.Proofs.YtcmllhhiekjmaaaGreat
namespace Go.Proofs.YtcmllhhiekjmaaaGreat
open Go.RowKit
structure PL where
 o : Int
 g : Int
 h : Int
def PL.cs (p : PL) : List Value := [.int .i64 p.o, .int .i64 p.g, .int .i64 p.h]
@[reducible] def PL.v (p : PL) : Value := .agg #[.int .i64 p.o, .int .i64 p.g, .int .i64 p.h]
end Go.Proofs.YtcmllhhiekjmaaaGreat
namespace Go.Proofs.YtcmllhhiekjmaaaGreat
open Go.RowKit
structure WL where
 b : Int
 f : Int
 r : Int
 o : Int
@[reducible] def WL.v (w : WL) : Value := .agg #[.int .i64 w.b, .int .i64 w.f, .int .i64 w.r, .int .i64 w.o]
def WL.cs (w : WL) : List Value := [.int .i64 w.b, .int .i64 w.f, .int .i64 w.r, .int .i64 w.o]
theorem mod_pos9 (m : Int) (hm : 1 ≤ m) (n : Int) (h : decide (Int.tmod n m < 0) = false) : Int.tmod n m = n % m := by
 have h := qyf h
 rcases Int.lt_or_le n 0 with hn | hn
 ·have e := Int.tmod_add_mul_tdiv n m
  have h2 : -m < Int.tmod n m := Int.lt_tmod_of_pos n xq
  have h3 : Int.tmod n m ≤ 0 := by
   have h8 := Int.neg_tmod n m
   have h9 : Int.tmod (-n) m = (-n) % m := Int.tmod_eq_emod_of_nonneg xq
   have h10 := Int.emod_nonneg (-n) (show m ≠ 0 by omega)
   omega
  have h4 : Int.tmod n m = 0 := by omega
  rw [h4] at e ⊢
  have : m ∣ n := ⟨n.tdiv m, by omega⟩
  exact (Int.emod_eq_zero_of_dvd this).symm
 exact Int.tmod_eq_emod_of_nonneg hn
theorem mod_neg9 (m : Int) (hm : 1 ≤ m) (n : Int) (h : decide (Int.tmod n m < 0) = true) : Int.tmod n m + m = n % m := by
 have h := qyt h
 have e := Int.tmod_add_mul_tdiv n m
 have h2 : -m < Int.tmod n m := Int.lt_tmod_of_pos n xq
 have h5 : n = m * (n.tdiv m - 1) + (Int.tmod n m + m) := by rw [Int.mul_sub, Int.mul_one]; omega
 have := (Nt.ediv_uniq (z := n) (y := m) (q := n.tdiv m - 1) (r := Int.tmod n m + m) xq h5 xq xq).2
 exact this.symm
end Go.Proofs.YtcmllhhiekjmaaaGreat
namespace Go.Proofs.YtcmllhhiekjmaaaGreat.Nt
open Go.RowKit
open Pol
def lin (r : Rat) : Pol := mk' [-r, ((1 : Int) : Rat)]
end Go.Proofs.YtcmllhhiekjmaaaGreat.Nt
namespace Go.Proofs.YtcmllhhiekjmaaaGreat.Nt
open Go.RowKit
open Pol
section
variable {l m W : List Rat} {x q : Rat} {i A B C : Nat}
def hp (q : Rat) (i : Nat) : Rat := (((q.den ^ (i - 1) : Nat) : Int) : Rat)
def hs (W : List Rat) (q : Rat) (i : Nat) : Rat := hp q i * evL (W.drop (W.length - i)) q
end
end Go.Proofs.YtcmllhhiekjmaaaGreat.Nt
namespace Go.Proofs.YtcmllhhiekjmaaaGreat
open Go.RowKit
theorem k_within {u w : World} {n m : Int} (d : Dat u w) (hm : 1 ≤ m) (hm2 : m ≤ 4611686018427387904) (hn0 : -9223372036854775808 ≤ n) (hn1 : n ≤ 9223372036854775807) : qyc 7 #[.int .i64 n, .int .i64 m] w (Post u w fun v _ => v = .int .i64 (n % m)) := by
 refine zzl (args := [.int .i64 n, .int .i64 m]) Tryz.func7 rfl Tryz.ntmps7 (rs := [.tmp 4]) Tryz.results7 (le_b rfl) (le_b rfl) d ?_
 refine sq9 (zza 4 (zI 0) (zzb (zzd (sq9 (zza 5 (zI m) (zyn 6 (x := zB (decide (m < 1))) (zB false) (by rw [show (decide (m < 1)) = false from yz]) (zzb (zyp xj (zzr (zzo ?_))))))))))
 refine sq9 (zza 7 (zI n) (zza 8 (zI m) (sy_rem 9 (Int.tmod n m) xq rfl ?_)))
 refine zza 0 (zI (Int.tmod n m)) (zzb (zzd (sq9 (zza 10 (zI (Int.tmod n m)) (zza 11 (zB (decide ((Int.tmod n m) < 0))) (zzb (zzt (b := decide ((Int.tmod n m) < 0)) xj (fun aa => ?_) (fun aa => ?_))))))))
 ·have qhb11 := qyt aa
  refine zzf (zza 12 (zI (Int.tmod n m)) (zza 13 (zI m) (zyn 14 (x := zI (IntKind.i64.wrap (Int.tmod n m + m))) (zI (Int.tmod n m + m)) (by rw [show (IntKind.i64.wrap (Int.tmod n m + m)) = (Int.tmod n m + m) from (IntWalk.i64_in _ (by have h2 := Int.lt_tmod_of_pos n (show 0 < m by omega); have h3 := Int.tmod_lt_of_pos n (show 0 < m by omega); omega))]) (zza 0 (zI (Int.tmod n m + m)) (zzb (sq9 (zza 15 (zI (Int.tmod n m + m)) (zza 4 (zI (Int.tmod n m + m)) (zzb (zzn (ret0 [.int .i64 (Int.tmod n m + m)] ⟨zzp, trivial⟩ fun u12 e13 => ?_)))))))))))
  show Value.int _ _ = Value.int _ _
  rw [mod_neg9 m hm n aa]
 have qhb11 := qyf aa
 refine zzr (zzo ?_)
 refine sq9 (zza 15 (zI (Int.tmod n m)) (zza 4 (zI (Int.tmod n m)) (zzb (zzn (ret0 [.int .i64 (Int.tmod n m)] ⟨zzp, trivial⟩ fun u14 e15 => ?_)))))
 show Value.int _ _ = Value.int _ _
 rw [mod_pos9 m hm n aa]
end Go.Proofs.YtcmllhhiekjmaaaGreat
namespace Go.Proofs.YtcmllhhiekjmaaaGreat
open Go.RowKit
section
variable {P : Program} {ops : Array Oper} {w0 : Base} {u0 : World} {S T : St} {B : Tmp → Nat} {a : Act} {w w' u u' u'' v : World} {o : Oper} {p : List Tmp} {seq : Bool} {rest : List (Oper × List Tmp)} {K : St → World → Prop} {F : List Nat} {b : Nat} {ob : Obj}
theorem sy_dataF (d : Tmp) (V : Vr) (n : Nat) (k : ∀ b u1, Ext u u1 → u1.heap[b]? = some (.cells V.cs.toArray V.ty (0, 0)) → u0.heap.size ≤ b → u.heap.size ≤ b → sym P ops w0 u0 true rest (S.set d (.v (.slice (some ⟨b, 0, none⟩) n n))) u1 K)
  (hw : Wants ops o S := by exact zxx xj) (hd : o.dst = some d := by kernel_rfl) (hk : opK o.op ≠ 2 := by decide) (hf : (freeB S d && knownB S o) = true := by kernel_rfl)
  (hrun : ∀ B w, (execOp (rho S B) o).run P w = .ok (.value (.slice (some ⟨w.heap.size, 0, none⟩) n n)) (w.alloc (.cells V.cs.toArray V.ty)) := by intro _ _; kernel_rfl) : sym P ops w0 u0 true ((o, p) :: rest) S u K := by
 simp only [Bool.and_eq_true] at hf
 refine .inr (.inr (.inl ⟨.inl rfl, fun B a w u' he hrep => ⟨hw B a hrep.regs, ?_⟩⟩))
 unfold Oper.wp
 rw [exec_rho hrep.regs hf.2 hk, hrun B w]
 have hs : u'.heap.size = w.heap.size := hrep.dat.size
 refine ⟨S.set d (.v (.slice (some ⟨w.heap.size, 0, none⟩) n n)), B, u'.alloc (.cells V.cs.toArray V.ty), u'.alloc (.cells V.cs.toArray V.ty), ?_, (fun e => by cases e), (fun e => by cases e), Ext.refl _, k _ _ (he.trans (zxm _ _).ext) (by rw [← hs]; exact zxj _ _) (by rw [← hs]; exact hrep.grow.size) (by rw [← hs]; exact he.size)⟩
 rw [hd]
 exact (hrep.vis _).set (d := some d) (x := some (.v (.slice (some ⟨w.heap.size, 0, none⟩) n n))) (fun t e => by injection e with e; subst e; exact (zxq hd hf.1 d hd).1) (fun z e => by injection e with e; rw [← e]; rfl) (fun z t e ht => by injection e with e; rw [← e] at ht; cases ht)
end
namespace Nt
section
variable {n b k : Nat} {l : List Int}
theorem lo_same (v : Rat) : lo v v = v := by unfold lo; split <;> rfl
theorem hi_same (v : Rat) : hi v v = v := by unfold hi; split <;> rfl
theorem reL_le (n b : Nat) (l : List Int) : ∀ k : Nat, (reL n b l k).1 ≤ (reL n b l k).2
 | 0 => Rat.le_refl
 | k + 1 => by rw [reL]; exact add_leR (reL_le n b l k) (lo_le_hi _ _)
theorem reL_0 : reL n b l 0 = (lo ((0 : Int) : Rat) ((0 : Int) : Rat), hi ((0 : Int) : Rat) ((0 : Int) : Rat)) := by rw [lo_same, hi_same]; rfl
theorem reL_zero (h : l.getD k 0 = 0) : reL n b l (k + 1) = reL n b l k := by
 have e : reL n b l (k + 1) = ((reL n b l k).1 + lo (((l.getD k 0 : Int) : Rat) * (cosV (2 * ((k % n : Nat) : Int)) n b).1) (((l.getD k 0 : Int) : Rat) * (cosV (2 * ((k % n : Nat) : Int)) n b).2), (reL n b l k).2 + hi (((l.getD k 0 : Int) : Rat) * (cosV (2 * ((k % n : Nat) : Int)) n b).1) (((l.getD k 0 : Int) : Rat) * (cosV (2 * ((k % n : Nat) : Int)) n b).2)) := by rw [reL]
 rw [e, h, show ((0 : Int) : Rat) = 0 from rfl, Rat.zero_mul, Rat.zero_mul, lo_same, hi_same, Rat.add_zero, Rat.add_zero]
theorem lo4_same (p q : Rat) : lo4 p q p q = lo p q ∧ hi4 p q p q = hi p q := by unfold lo4 hi4 lo hi; constructor <;> grind
theorem reL_s : reL n b l (k + 1) = (lo (reL n b l k).1 (reL n b l k).2 + lo (lo4 (lo ((l.getD k 0 : Int) : Rat) ((l.getD k 0 : Int) : Rat) * (cosV (2 * ((k % n : Nat) : Int)) n b).1) (lo ((l.getD k 0 : Int) : Rat) ((l.getD k 0 : Int) : Rat) * (cosV (2 * ((k % n : Nat) : Int)) n b).2) (hi ((l.getD k 0 : Int) : Rat) ((l.getD k 0 : Int) : Rat) * (cosV (2 * ((k % n : Nat) : Int)) n b).1) (hi ((l.getD k 0 : Int) : Rat) ((l.getD k 0 : Int) : Rat) * (cosV (2 * ((k % n : Nat) : Int)) n b).2)) (hi4 (lo ((l.getD k 0 : Int) : Rat) ((l.getD k 0 : Int) : Rat) * (cosV (2 * ((k % n : Nat) : Int)) n b).1) (lo ((l.getD k 0 : Int) : Rat) ((l.getD k 0 : Int) : Rat) * (cosV (2 * ((k % n : Nat) : Int)) n b).2) (hi ((l.getD k 0 : Int) : Rat) ((l.getD k 0 : Int) : Rat) * (cosV (2 * ((k % n : Nat) : Int)) n b).1) (hi ((l.getD k 0 : Int) : Rat) ((l.getD k 0 : Int) : Rat) * (cosV (2 * ((k % n : Nat) : Int)) n b).2)), hi (reL n b l k).1 (reL n b l k).2 + hi (lo4 (lo ((l.getD k 0 : Int) : Rat) ((l.getD k 0 : Int) : Rat) * (cosV (2 * ((k % n : Nat) : Int)) n b).1) (lo ((l.getD k 0 : Int) : Rat) ((l.getD k 0 : Int) : Rat) * (cosV (2 * ((k % n : Nat) : Int)) n b).2) (hi ((l.getD k 0 : Int) : Rat) ((l.getD k 0 : Int) : Rat) * (cosV (2 * ((k % n : Nat) : Int)) n b).1) (hi ((l.getD k 0 : Int) : Rat) ((l.getD k 0 : Int) : Rat) * (cosV (2 * ((k % n : Nat) : Int)) n b).2)) (hi4 (lo ((l.getD k 0 : Int) : Rat) ((l.getD k 0 : Int) : Rat) * (cosV (2 * ((k % n : Nat) : Int)) n b).1) (lo ((l.getD k 0 : Int) : Rat) ((l.getD k 0 : Int) : Rat) * (cosV (2 * ((k % n : Nat) : Int)) n b).2) (hi ((l.getD k 0 : Int) : Rat) ((l.getD k 0 : Int) : Rat) * (cosV (2 * ((k % n : Nat) : Int)) n b).1) (hi ((l.getD k 0 : Int) : Rat) ((l.getD k 0 : Int) : Rat) * (cosV (2 * ((k % n : Nat) : Int)) n b).2))) := by
 have h1 := lo_of_le (reL_le n b l k)
 rw [h1.1, h1.2]
 simp only [lo_same, hi_same, (lo4_same _ _).1, (lo4_same _ _).2]
 have h3 := lo_of_le (lo_le_hi (((l.getD k 0 : Int) : Rat) * (cosV (2 * ((k % n : Nat) : Int)) n b).1) (((l.getD k 0 : Int) : Rat) * (cosV (2 * ((k % n : Nat) : Int)) n b).2))
 rw [h3.1, h3.2, reL]
theorem cosV_mod (hn : 0 < n) : cosV (2 * (k : Int)) n b = cosV (2 * ((k % n : Nat) : Int)) n b := by
 have e : (2 * (k : Int)) = 2 * ((k % n : Nat) : Int) + 2 * (n : Int) * ((k / n : Nat) : Int) := by
  have := Nat.mod_add_div k n
  have h2 : (k : Int) = ((k % n : Nat) : Int) + (n : Int) * ((k / n : Nat) : Int) := by rw [← Int.natCast_mul, ← Int.natCast_add, this]
  rw [h2]
  have : ((((k % n : Nat) : Int) + (n : Int) * ((k / n : Nat) : Int))) = ((k : Nat) : Int) := h2.symm
  rw [Int.mul_add, Int.mul_assoc]
 rw [e, cosV_turn hn]
end
end Nt
theorem k_cyIn {u w : World} {z a b : Int} (d : Dat u w) (h1 : a ≤ z) (h2 : z ≤ b) : qyc 57 #[.int .i64 z, .int .i64 a, .int .i64 b] w (Post u w fun v _ => v = .bool true) := by
 refine zzl (args := [.int .i64 z, .int .i64 a, .int .i64 b]) Tryz.func57 rfl Tryz.ntmps57 (rs := [.tmp 6]) Tryz.results57 (le_b rfl) (le_b rfl) d ?_
 refine sq9 (zza 6 (zB false) (zzb (sq9 (zza 7 (zI z) (zza 8 (zI a) (zza 9 (zB (decide (a ≤ z))) (zyn 10 (x := zB (decide (a ≤ z))) (zB true) (by rw [show (decide (a ≤ z)) = true from (decide_eq_true xq)]) (zza 11 (zI z) ?_ (hw := w1 3 true 10)))))))))
 refine zza 12 (zI b) ?_ (hw := w1 3 true 10)
 refine zza 13 (zB (decide (z ≤ b))) ?_ (hw := w1 3 true 10)
 refine zza 14 (zB (decide (z ≤ b))) (zza 6 (zB (decide (z ≤ b))) (zzb (zzn (ret0 [.bool (decide (z ≤ b))] ⟨zzp, trivial⟩ fun u12 e13 => ?_))))
 show Value.bool _ = Value.bool true
 rw [decide_eq_true h2]
theorem k_r10CosPiM {u w : World} {p : Int} {q k j : Nat} (d : Dat u w) (hq1 : 1 ≤ q) (hq2 : q ≤ 1000) (hp0 : -1000000 ≤ p) (hp1 : p ≤ 1000000) (hk : k ≤ 256) (hG0 : Nt.GapQ q k) (hp : p = 2 * (j : Int)) : qyc 60 #[.int .i64 p, .int .i64 (q : Int), .int .i64 (k : Int)] w (Post u w fun v u' => ∃ r1 r2 : RL, v = .tuple #[IV r1 r2, .int .i64 0] ∧ RatN u' r1 (Nt.cosV (2 * ((j % q : Nat) : Int)) q k).1 200 ∧ RatN u' r2 (Nt.cosV (2 * ((j % q : Nat) : Int)) q k).2 200) := by
 have h := k_r10CosPiG d hq1 hq2 hp0 hp1 hk hG0
 rw [hp, Nt.cosV_mod xq] at h
 rw [hp]; exact h
theorem k_cyReal {u w : World} {x : Sl} {l : List Int} {n b : Nat} (d : Dat u w) (hx : SlR .i64 u x.a x.n x.c l) (hb9 : ∀ z ∈ l, -16777216 ≤ z ∧ z ≤ 16777216) (hl9 : l.length ≤ 128) (h1 : 1 ≤ n) (h2 : n ≤ 64) (hb : b ≤ 59) : qyc 10 #[x.v, .int .i64 (n : Int), .int .i64 (b : Int)] w (Post u w fun v u' => ∃ r1 r2 : RL, v = .tuple #[IV r1 r2, .int .i64 0] ∧ RatN u' r1 (Nt.reL n b l l.length).1 40000 ∧ RatN u' r2 (Nt.reL n b l l.length).2 40000) := by
 have hln : l.length = x.n := hx.1
 have hv := valid_of hl9 hb9
 refine zzl (args := [x.v, .int .i64 n, .int .i64 b]) Tryz.func10 rfl Tryz.ntmps10 (rs := [.cell 6 34, .tmp 7]) Tryz.results10 (le_b rfl) (le_b rfl) d ?_
 refine sq9 (zzj 6 ⟨34, zw6⟩ (zza 7 (zI 0) (zzb (zzd (sq9 (zza 15 (zI n) (zzg 16 48 _ fun _ _ aA bb => qym (k_cyPermitted (n := n) bb xq xq) ?_)))))))
 rintro _ u12 au rfl
 refine zza 17 (zB false) (zza 18 (zB false) (zza 19 (zI b) ?_ (hw := w1 3 false 18)))
 refine zza 20 (zB (decide ((b : Int) < 0))) ?_ (hw := w1 3 false 18)
 refine zza 21 (zB (decide ((b : Int) < 0))) (zyn 22 (x := zB (decide ((b : Int) < 0))) (zB false) (by rw [show (decide ((b : Int) < 0)) = false from (decide_eq_false xq)]) (zza 23 (zI b) ?_ (hw := w1 7 false 22)))
 refine zza 24 (zB (decide ((256 : Int) < (b : Int)))) ?_ (hw := w1 7 false 22)
 refine zza 25 (zB (decide ((256 : Int) < (b : Int)))) (zzb (zzt (b := decide ((256 : Int) < (b : Int))) xj (fun hb => ?_) (fun hb => ?_)))
 ·exact absurd hb (by rw [show (decide ((256 : Int) < (b : Int))) = false from (decide_eq_false xq)]; decide)
 clear hb
 refine zzr (zzo ?_)
 refine zzd (sq9 (zza 27 (.v (x.v)) (sy_dataF 28 ⟨22, [x.v]⟩ 1 (fun aS u16 ax aZ f16 g16 => ?_))))
 refine zzg 29 49 _ fun _ _ ao aU => qym (k_cyCheck (x := x) aU (Ext.cells ao aZ) (hx.ext (aA.t (au.t (ax.trans ao)))) hv) ?_
 rintro _ u18 aD rfl
 refine zza 8 (zI 0) (zzb (sq9 (zza 30 (zI 0) (zza 31 (zB false) (zzb (zyp xj (zzr (zzo ?_))))))))
 refine sq9 (zzg 34 53 _ fun _ _ aI a1 => qym (k_ratOf a1 (z := 0) xq xq) ?_)
 rintro _ u24 aK ⟨r22, rfl, bc⟩
 refine zzg 35 53 _ fun _ _ aB bj => qym (k_ratOf bj (z := 0) xq xq) ?_
 rintro _ u30 az ⟨r28, rfl, bg⟩
 refine zzg 36 52 _ fun _ _ ap be => qym (k_ivMake be (bc.ext (aB.t (az.t ap))).raw (bg.ext ap).raw xq) ?_
 rintro _ a8 aJ ⟨aH, aN, rfl, a9, aX⟩
 refine zzj 9 ⟨34, zw6⟩ (zzi ⟨34, aH.cs ++ aN.cs⟩ ty34 ?_)
 refine zzb (zzd (sq9 (zza 37 (.v (x.v)) (zza 38 (zI x.n) (zza 39 (zI 0) (zzb (zzs (zyl (I := fun aG S' u' => ∃ (k : Nat) (ra : RL) (rb : RL), (aG = x.n - k) ∧ (k ≤ x.n) ∧ (S' = St.of 72 [(1, zI n), (2, zI b), (6, .adr 6 0), (9, .adr 9 0), (37, .v (x.v)), (38, zI x.n), (39, zI k)] [(6, ⟨34, zw6⟩), (9, ⟨34, ra.cs ++ rb.cs⟩)]) ∧ (Ext a8 u') ∧ (RatN u' ra (Nt.reL n b l k).1 (300 * k + 10)) ∧ (RatN u' rb (Nt.reL n b l k).2 (300 * k + 10))) (fun m S u1 u2 e h => by obtain ⟨k, ra, rb, hm, p0, hS, hE, f0, f1⟩ := h; exact ⟨k, ra, rb, hm, p0, hS, hE.trans e, f0.ext e, f1.ext e⟩) _ yv ⟨0, aH, aN, rfl, by omega, rfl, (Ext.refl _), (by rw [Nt.reL_0]; exact RatN.more (K := 2) a9 xq), (by rw [Nt.reL_0]; exact RatN.more (K := 2) aX xq)⟩ ?_))))))))
 rintro aG _ u41 ⟨k, ra, rb, ba, hk, rfl, am, fa, fb⟩
 refine sq9 (zza 40 (zB (decide ((k : Int) < (x.n : Int)))) (zzb (zzd (zzt (b := decide ((k : Int) < (x.n : Int))) xj (fun ac => ?_) (fun ac => ?_)))))
 ·have qhb42 := qyt ac
  refine zzr (zzo ?_)
  refine zzd (zzs (sq9 (zza 41 (zI k) ?_)))
  have hl43 := ((hx.ext (aA.t (au.t (ax.t (ao.t (aD.t (aI.t (aK.t (aB.t (az.t (ap.t (aJ.t am))))))))))))).1
  obtain ⟨b43, aO, aC, ay⟩ := ints_at (hx.ext (aA.t (au.t (ax.t (ao.t (aD.t (aI.t (aK.t (aB.t (az.t (ap.t (aJ.t am)))))))))))) (i := k) xq
  have hz43 := ints_bd hb9 xq k
  refine zzz 42 (aO + k * 1) (n := x.n) (off := aO) (sz := 1) (i := (k : Int)) xq aC xq xq sl22 (zyk 43 (.int .i64 (l.getD k 0)) ay ty3 (zza 10 (zI k) (zza 11 (zI (l.getD k 0)) (zzc 72 [(1, zI n), (2, zI b), (6, .adr 6 0), (9, .adr 9 0), (10, zI k), (11, zI (l.getD k 0)), (37, .v (x.v)), (38, zI x.n), (39, zI k)] [(6, ⟨34, zw6⟩), (9, ⟨34, ra.cs ++ rb.cs⟩)] (zzd (sq9 (zza 44 (zI (l.getD k 0)) (zza 45 (zB ((l.getD k 0) == 0)) (zzb (zzt (b := (l.getD k 0) == 0) xj (fun al => ?_) (fun al => ?_)))))))))))
  ·refine zyb (zzo (zzf (zyn 70 (x := zI (IntKind.i64.wrap ((k : Int) + 1))) (zI (k + 1 : Nat)) (eqI xk) (zza 39 (zI (k + 1 : Nat)) (zzw ?_)))))
   have aF : l.getD k 0 = 0 := by have h9 := al; simpa using h9
   refine ⟨_, ?_, _, by exact zzu _ _ _, k + 1, ra, rb, rfl, by omega, rfl, am, (by rw [Nt.reL_zero aF]; exact RatN.more (K := (300 * k + 10)) fa xq), (by rw [Nt.reL_zero aF]; exact RatN.more (K := (300 * k + 10)) fb xq)⟩
   omega
  refine zzr (zzo ?_)
  refine zzd ?_
  have hkn := Nat.mod_lt k (show 0 < n by omega)
  refine zzf (zza 47 (zI k) (zza 48 (zI n) (sy_rem 49 ((k % n : Nat) : Int) xq (Int.ofNat_tmod k n).symm ?_)))
  refine zyn 50 (x := zI (IntKind.i64.wrap ((2 : Int) * ((k % n : Nat) : Int)))) (zI (2 * ((k % n : Nat) : Int))) yk (zza 51 (zI n) (zza 52 (zI b) (zzg 53 54 _ fun _ _ av a7 => qym (k_CosPiG (p := 2 * ((k % n : Nat) : Int)) (q := n) (k := b) a7 xq xq xq xq xq (Nt.gapQ_80 xq xq hb)) ?_)))
  rintro _ u50 aw ⟨ab, aa, rfl, a3, aW⟩
  refine zza 46 (.v (.tuple #[.agg #[.bool ab.s, ab.m.v, ab.d.v, .bool aa.s, aa.m.v, aa.d.v], .int .i64 0])) (zza 54 (.v (.agg #[.bool ab.s, ab.m.v, ab.d.v, .bool aa.s, aa.m.v, aa.d.v])) (zza 55 (zI 0) (zzj 12 ⟨34, zw6⟩ (zzi ⟨34, ab.cs ++ aa.cs⟩ ty34 ?_))))
  refine zza 13 (zI 0) (zzb (zzd (sq9 (zza 56 (zI 0) (zza 57 (zB false) (zzb (zyp xj (zzr (zzo ?_)))))))))
  refine sq9 (zza 60 (zI (l.getD k 0)) (zzg 61 53 _ fun _ _ ak a5 => qym (k_ratOf a5 (z := (l.getD k 0)) xq xq) ?_))
  rintro _ u56 ai ⟨r54, rfl, aQ⟩
  refine zza 62 (zI (l.getD k 0)) (zzg 63 53 _ fun _ _ af aT => qym (k_ratOf aT (z := (l.getD k 0)) xq xq) ?_)
  rintro _ u62 ag ⟨r60, rfl, a2⟩
  refine zzg 64 52 _ fun _ _ ad bf => qym (k_ivMake bf (aQ.ext (af.t (ag.t ad))).raw (a2.ext ad).raw xq) ?_
  rintro _ u70 ah ⟨aq, an, rfl, a4, bh⟩
  refine zzj 14 ⟨34, zw6⟩ (zzi ⟨34, aq.cs ++ an.cs⟩ ty34 ?_)
  refine zzb (zzy [0, 0, 0, 6, 15, 31] [(0, []), (1, []), (2, []), (3, []), (4, []), (5, [])] xj xj (zzh 65 (.v (.agg #[.bool ra.s, ra.m.v, ra.d.v, .bool rb.s, rb.m.v, rb.d.v])) ty34 zze (zzh 66 (.v (.agg #[.bool aq.s, aq.m.v, aq.d.v, .bool an.s, an.m.v, an.d.v])) ty34 zze (zzh 67 (.v (.agg #[.bool ab.s, ab.m.v, ab.d.v, .bool aa.s, aa.m.v, aa.d.v])) ty34 zze (zzg 68 56 _ fun _ _ ae a0 => qym (k_ivMul a0 (a4.ext ae).raw (bh.ext ae).raw (a3.ext (ak.t (ai.t (af.t (ag.t (ad.t (ah.t ae))))))).raw (aW.ext (ak.t (ai.t (af.t (ag.t (ad.t (ah.t ae))))))).raw xq xq) ?_)))))
  rintro _ u78 ar ⟨r74, r76, rfl, aP, a6⟩
  refine zzg 69 55 _ fun _ _ aj bi => qym (k_ivAdd bi (fa.ext (av.t (aw.t (ak.t (ai.t (af.t (ag.t (ad.t (ah.t (ae.t (ar.t aj))))))))))).raw (fb.ext (av.t (aw.t (ak.t (ai.t (af.t (ag.t (ad.t (ah.t (ae.t (ar.t aj))))))))))).raw (aP.ext aj).raw (a6.ext aj).raw xq xq) ?_
  rintro _ u86 aR ⟨aL, aE, rfl, aY, aV⟩
  refine zzi ⟨34, aL.cs ++ aE.cs⟩ ty34 ?_
  refine zzw ?_
  refine zzo (zzf (zyn 70 (x := zI (IntKind.i64.wrap ((k : Int) + 1))) (zI (k + 1 : Nat)) (eqI xk) (zza 39 (zI (k + 1 : Nat)) (zzw ?_))))
  refine ⟨_, ?_, _, by exact zzu _ _ _, k + 1, aL, aE, rfl, by omega, rfl, (am.t (av.t (aw.t (ak.t (ai.t (af.t (ag.t (ad.t (ah.t (ae.t (ar.t (aj.t aR.ext)))))))))))), (by rw [Nt.reL_s]; exact RatN.more (K := ((300 * k + 10) + (2 + 80) + 1)) aY xq), (by rw [Nt.reL_s]; exact RatN.more (K := ((300 * k + 10) + (2 + 80) + 1)) aV xq)⟩
  omega
 have qhb42 := qyf ac
 refine zyb (zzo (sq9 (zzh 71 (.v (.agg #[.bool ra.s, ra.m.v, ra.d.v, .bool rb.s, rb.m.v, rb.d.v])) ty34 zze (zzi ⟨34, ra.cs ++ rb.cs⟩ ty34 ?_))))
 refine zza 7 (zI 0) (zzc 72 [(6, .adr 6 0), (7, zI 0)] [(6, ⟨34, ra.cs ++ rb.cs⟩)] (zzn (ret0 [.agg #[.bool ra.s, ra.m.v, ra.d.v, .bool rb.s, rb.m.v, rb.d.v], .int .i64 0] ⟨zzq ty34 zze, zzp, trivial⟩ fun u89 aM => ?_)))
 obtain rfl : k = x.n := by omega
 exact ⟨ra, rb, rfl, (by have h9 := (fa.ext aM); rw [← hln] at h9; exact RatN.more (K := (300 * l.length + 10)) h9 xq), (by have h9 := (fb.ext aM); rw [← hln] at h9; exact RatN.more (K := (300 * l.length + 10)) h9 xq)⟩
theorem k_rcyReal {u w : World} {x : Sl} {l : List Int} {n b : Nat} (d : Dat u w) (hx : SlR .i64 u x.a x.n x.c l) (hb9 : ∀ z ∈ l, -16777216 ≤ z ∧ z ≤ 16777216) (hl9 : l.length ≤ 128) (h1 : 1 ≤ n) (h2 : n ≤ 64) (hb : b ≤ 59) : qyc 11 #[x.v, .int .i64 (n : Int), .int .i64 (b : Int)] w (Post u w fun v u' => ∃ r1 r2 : RL, v = .tuple #[IV r1 r2, .int .i64 0] ∧ RatN u' r1 (Nt.reL n b l l.length).1 40000 ∧ RatN u' r2 (Nt.reL n b l l.length).2 40000) := by
 have hln : l.length = x.n := hx.1
 have hv := valid_of hl9 hb9
 refine zzl (args := [x.v, .int .i64 n, .int .i64 b]) Tryz.func11 rfl Tryz.ntmps11 (rs := [.cell 6 34, .tmp 7]) Tryz.results11 (le_b rfl) (le_b rfl) d ?_
 refine sq9 (zzj 6 ⟨34, zw6⟩ (zza 7 (zI 0) (zzb (zzd (sq9 (zza 13 (zI n) (zzg 14 57 _ fun _ _ ay bb => qym (k_cyIn bb (z := (n : Int)) (a := 1) (b := 64) xq xq) ?_)))))))
 rintro _ u12 au rfl
 refine zza 15 (zB false) (zza 16 (zB false) (zza 17 (zI b) ?_ (hw := w1 3 false 16)))
 refine zzg 18 57 _ (fun _ _ aq a5 => qym (k_cyIn a5 (z := (b : Int)) (a := 0) (b := 256) xq xq) ?_) (hw := w1 3 false 16)
 rintro _ u16 av rfl
 refine zza 19 (zB false) ?_ (hw := w1 3 false 16)
 refine zza 20 (zB false) (zzb (zyp xj (zzr (zzo ?_))))
 refine zzd (sq9 (zza 22 (zI n) (zza 23 (.v (x.v)) (sy_dataF 24 ⟨22, [x.v]⟩ 1 (fun ba u19 ar a4 f19 g19 => ?_)))))
 refine zzg 25 58 _ fun _ _ aj bk => qym (k_rcyCheck (x := x) (n := n) bk (Ext.cells aj a4) (hx.ext (ay.t (au.t (aq.t (av.t (ar.trans aj)))))) hv xq xq) ?_
 rintro _ u21 aB rfl
 refine zza 8 (zI 0) (zzb (sq9 (zza 26 (zI 0) (zza 27 (zB false) (zzb (zyp xj (zzr (zzo ?_))))))))
 refine sq9 (zzg 30 23 _ fun _ _ az aQ => qym (k_rqOf aQ (z := 0) xq xq) ?_)
 rintro _ u27 aC ⟨r25, rfl, a8⟩
 refine zzg 31 23 _ fun _ _ al aZ => qym (k_rqOf aZ (z := 0) xq xq) ?_
 rintro _ u33 ax ⟨r31, rfl, a2⟩
 refine zzg 32 59 _ fun _ _ ai bf => qym (k_r4Make bf (a8.ext (al.t (ax.t ai))).raw (a2.ext ai).raw xq) ?_
 rintro _ a7 aA ⟨aJ, aN, rfl, aV, be⟩
 refine zzj 9 ⟨34, zw6⟩ (zzi ⟨34, aJ.cs ++ aN.cs⟩ ty34 ?_)
 refine zzb (zzd (sq9 (zza 10 (zI 0) (zzb (zzs (zyl (I := fun aP S' u' => ∃ (k : Nat) (ra : RL) (rb : RL), (aP = x.n - k) ∧ (k ≤ x.n) ∧ (S' = St.of 63 [(0, .v (x.v)), (1, zI n), (2, zI b), (6, .adr 6 0), (9, .adr 9 0), (10, zI k)] [(6, ⟨34, zw6⟩), (9, ⟨34, ra.cs ++ rb.cs⟩)]) ∧ (Ext a7 u') ∧ (RatN u' ra (Nt.reL n b l k).1 (300 * k + 10)) ∧ (RatN u' rb (Nt.reL n b l k).2 (300 * k + 10))) (fun m S u1 u2 e h => by obtain ⟨k, ra, rb, hm, p0, hS, hE, f0, f1⟩ := h; exact ⟨k, ra, rb, hm, p0, hS, hE.trans e, f0.ext e, f1.ext e⟩) _ yv ⟨0, aJ, aN, rfl, by omega, rfl, (Ext.refl _), (by rw [Nt.reL_0]; exact RatN.more (K := 2) aV xq), (by rw [Nt.reL_0]; exact RatN.more (K := 2) be xq)⟩ ?_))))))
 rintro aP _ u44 ⟨k, ra, rb, bg, hk, rfl, an, fa, fb⟩
 refine zzd (sq9 (zza 33 (zI k) (zza 34 (.v (x.v)) (zza 35 (zI x.n) (zza 36 (zB (decide ((k : Int) < (x.n : Int)))) (zzb (zzt (b := decide ((k : Int) < (x.n : Int))) xj (fun ad => ?_) (fun ad => ?_))))))))
 ·have qhb45 := qyt ad
  refine zzr (zzo ?_)
  refine zzd (zzs (sq9 (zza 40 (zI k) (zyn 41 (x := zI (IntKind.i64.wrap ((2 : Int) * (k : Int)))) (zI (2 * (k : Int))) yk (zza 42 (zI n) (zza 43 (zI b) (zzg 44 60 _ fun _ _ af aS => qym (k_r10CosPiM (p := 2 * (k : Int)) (q := n) (k := b) aS xq xq xq xq xq (Nt.gapQ_80 xq xq hb) (j := k) rfl) ?_)))))))
  rintro _ u51 ae ⟨aa, ab, rfl, aX, aT⟩
  refine zza 39 (.v (.tuple #[.agg #[.bool aa.s, aa.m.v, aa.d.v, .bool ab.s, ab.m.v, ab.d.v], .int .i64 0])) (zza 45 (.v (.agg #[.bool aa.s, aa.m.v, aa.d.v, .bool ab.s, ab.m.v, ab.d.v])) (zza 46 (zI 0) (zzj 11 ⟨34, zw6⟩ (zzi ⟨34, aa.cs ++ ab.cs⟩ ty34 ?_))))
  refine zza 12 (zI 0) (zzc 63 [(0, .v (x.v)), (1, zI n), (2, zI b), (6, .adr 6 0), (9, .adr 9 0), (10, zI k), (11, .adr 11 0)] [(6, ⟨34, zw6⟩), (9, ⟨34, ra.cs ++ rb.cs⟩), (11, ⟨34, aa.cs ++ ab.cs⟩)] (zzy [0, 0, 0, 6, 14, 30, 0, 0, 192, 448, 1022, 2046, 0, 8190, 16383, 32767] [(0, []), (1, []), (2, []), (3, []), (4, []), (6, []), (7, []), (8, []), (9, []), (12, []), (5, []), (10, []), (11, []), (13, []), (14, []), (15, [])] xj xj (zzh 47 (.v (.agg #[.bool ra.s, ra.m.v, ra.d.v, .bool rb.s, rb.m.v, rb.d.v])) ty34 zze (zza 48 (.v (x.v)) (zza 49 (zI k) ?_)))))
  have hl54 := ((hx.ext (ay.t (au.t (aq.t (av.t (ar.t (aj.t (aB.t (az.t (aC.t (al.t (ax.t (ai.t (aA.t (an.t (af.t ae.ext))))))))))))))))).1
  obtain ⟨b54, aL, aG, aE⟩ := ints_at (hx.ext (ay.t (au.t (aq.t (av.t (ar.t (aj.t (aB.t (az.t (aC.t (al.t (ax.t (ai.t (aA.t (an.t (af.t ae.ext)))))))))))))))) (i := k) xq
  have hz54 := ints_bd hb9 xq k
  refine zzz 50 (aL + k * 1) (n := x.n) (off := aL) (sz := 1) (i := (k : Int)) xq aG xq xq sl22 (zyk 51 (.int .i64 (l.getD k 0)) aE ty3 (zza 53 (.v (x.v)) (zza 54 (zI k) ?_)))
  have hl55 := ((hx.ext (ay.t (au.t (aq.t (av.t (ar.t (aj.t (aB.t (az.t (aC.t (al.t (ax.t (ai.t (aA.t (an.t (af.t ae.ext))))))))))))))))).1
  obtain ⟨b55, aK, aH, aF⟩ := ints_at (hx.ext (ay.t (au.t (aq.t (av.t (ar.t (aj.t (aB.t (az.t (aC.t (al.t (ax.t (ai.t (aA.t (an.t (af.t ae.ext)))))))))))))))) (i := k) xq
  have hz55 := ints_bd hb9 xq k
  refine zzz 55 (aK + k * 1) (n := x.n) (off := aK) (sz := 1) (i := (k : Int)) xq aH xq xq sl22 (zyk 56 (.int .i64 (l.getD k 0)) aF ty3 (zzh 59 (.v (.agg #[.bool aa.s, aa.m.v, aa.d.v, .bool ab.s, ab.m.v, ab.d.v])) ty34 zze (zzg 52 23 _ fun _ _ ap bl => qym (k_rqOf bl (z := (l.getD k 0)) xq xq) ?_)))
  rintro _ u59 aw ⟨r57, rfl, bc⟩
  refine zzg 57 23 _ fun _ _ ak aY => qym (k_rqOf aY (z := (l.getD k 0)) xq xq) ?_
  rintro _ u65 ah ⟨r63, rfl, a3⟩
  refine zzg 58 59 _ fun _ _ ag a9 => qym (k_r4Make a9 (bc.ext (ak.t (ah.t ag))).raw (a3.ext ag).raw xq) ?_
  rintro _ u73 am ⟨r69, r71, rfl, a6, aW⟩
  refine zzg 60 62 _ fun _ _ ac bj => qym (k_r4Mul bj (a6.ext ac).raw (aW.ext ac).raw (aX.ext (ap.t (aw.t (ak.t (ah.t (ag.t (am.t ac))))))).raw (aT.ext (ap.t (aw.t (ak.t (ah.t (ag.t (am.t ac))))))).raw xq xq) ?_
  rintro _ u81 aD ⟨r77, r79, rfl, aR, a1⟩
  refine zzg 61 61 _ fun _ _ ao aU => qym (k_r4Add aU (fa.ext (af.t (ae.t (ap.t (aw.t (ak.t (ah.t (ag.t (am.t (ac.t (aD.t ao))))))))))).raw (fb.ext (af.t (ae.t (ap.t (aw.t (ak.t (ah.t (ag.t (am.t (ac.t (aD.t ao))))))))))).raw (aR.ext ao).raw (a1.ext ao).raw xq xq) ?_
  rintro _ u89 a0 ⟨aM, aI, rfl, bi, bh⟩
  refine zzi ⟨34, aM.cs ++ aI.cs⟩ ty34 ?_
  refine zzw ?_
  refine zzo (zzf (zza 37 (zI k) (zyn 38 (x := zI (IntKind.i64.wrap ((k : Int) + 1))) (zI (k + 1 : Nat)) (eqI xk) (zza 10 (zI (k + 1 : Nat)) (zzw ?_)))))
  refine ⟨_, ?_, _, by exact zzu _ _ _, k + 1, aM, aI, rfl, by omega, rfl, (an.t (af.t (ae.t (ap.t (aw.t (ak.t (ah.t (ag.t (am.t (ac.t (aD.t (ao.t a0.ext)))))))))))), (by rw [Nt.reL_s]; exact RatN.more (K := ((300 * k + 10) + (2 + 200 + 1) + 2)) bi xq), (by rw [Nt.reL_s]; exact RatN.more (K := ((300 * k + 10) + (2 + 200 + 1) + 2)) bh xq)⟩
  omega
 have qhb45 := qyf ad
 refine zyb (zzo (sq9 (zzh 62 (.v (.agg #[.bool ra.s, ra.m.v, ra.d.v, .bool rb.s, rb.m.v, rb.d.v])) ty34 zze (zzi ⟨34, ra.cs ++ rb.cs⟩ ty34 ?_))))
 refine zza 7 (zI 0) (zzb (zzn (ret0 [.agg #[.bool ra.s, ra.m.v, ra.d.v, .bool rb.s, rb.m.v, rb.d.v], .int .i64 0] ⟨zzq ty34 zze, zzp, trivial⟩ fun u92 aO => ?_)))
 obtain rfl : k = x.n := by omega
 exact ⟨ra, rb, rfl, (by have h9 := (fa.ext aO); rw [← hln] at h9; exact RatN.more (K := (300 * l.length + 10)) h9 xq), (by have h9 := (fb.ext aO); rw [← hln] at h9; exact RatN.more (K := (300 * l.length + 10)) h9 xq)⟩
theorem k_cyMeet {u w : World} {a1 a2 b1 b2 : RL} {x1 x2 y1 y2 : Rat} {K L : Nat} (d : Dat u w) (ha1 : RatV u a1 x1 K) (ha2 : RatV u a2 x2 K) (hb1 : RatV u b1 y1 L) (hb2 : RatV u b2 y2 L) (hK : K ≤ 40000) (hL : L ≤ 40000) (hx : x1 ≤ x2) (hy : y1 ≤ y2) (h1 : x1 ≤ y2) (h2 : y1 ≤ x2) : qyc 12 #[IV a1 a2, IV b1 b2] w (Post u w fun v u' => ∃ p q : RL, v = .tuple #[IV p q, .bool true]) := by
 refine qym (k_r4Meet d ha1 ha2 hb1 hb2 xq xq) ?_
 rintro v u' _ ⟨p, q, rfl, _⟩
 refine ⟨p, q, ?_⟩
 rw [decide_eq_true]
 have e1 := Nt.lo_of_le hx
 have e2 := Nt.lo_of_le hy
 rw [e1.1, e1.2, e2.1, e2.2]
 unfold Nt.lo Nt.hi
 grind
theorem Nt.spec_bd {n : Nat} {m : List Int} (h1 : 1 ≤ n) (h2 : n ≤ 64) (hl : m.length ≤ 40) (hb : ∀ z ∈ m, -200 ≤ z ∧ z ≤ 200) : ∀ z ∈ Cyc.specL n (Cyc.linS n m 1), -8000 ≤ z ∧ z ≤ 8000 := fun z hz => by
 obtain ⟨i, _, rfl⟩ := List.mem_map.1 hz
 have := Cyc.linS_bd h1 h2 (a := m) (b := 200) (l := 40) (fun j => by
  rcases Nat.lt_or_ge j m.length with hi | hi
  ·rw [List.getElem?_eq_getElem hi]; exact hb _ (List.getElem_mem hi)
  rw [List.getElem?_eq_none hi]; exact ⟨by decide, by decide⟩) hl 1 i
 omega
theorem Nt.getD_bd {m : List Int} (hb : ∀ z ∈ m, -200 ≤ z ∧ z ≤ 200) (j : Nat) : -200 ≤ m.getD j 0 ∧ m.getD j 0 ≤ 200 := by
 rw [qyg]
 rcases Nat.lt_or_ge j m.length with hi | hi
 ·rw [List.getElem?_eq_getElem hi]; exact hb _ (List.getElem_mem hi)
 rw [List.getElem?_eq_none hi]; exact ⟨by decide, by decide⟩
theorem w_cycEncloses {u w : World} {x : Sl} {l : List Int} {nz bz : Int} (d : Dat u w) (hx : SlR .i64 u x.a x.n x.c l) (hb9 : ∀ z ∈ l, -9223372036854775808 ≤ z ∧ z ≤ 9223372036854775807) (hn0 : -9223372036854775808 ≤ nz) (hn1 : nz ≤ 9223372036854775807) (hb0 : -9223372036854775808 ≤ bz) (hb1 : bz ≤ 9223372036854775807) : qyc 3 #[x.v, .int .i64 nz, .int .i64 bz] w (Post u w fun v _ => v = .bool true) := by
 refine zzl (args := [x.v, .int .i64 nz, .int .i64 bz]) Tryz.func3 rfl Tryz.ntmps3 (rs := [.tmp 6]) Tryz.results3 (le_b rfl) (le_b rfl) d ?_
 refine sq9 (zza 6 (zB false) (zzb (sq9 (zza 18 (zI nz) (zzg 19 7 _ fun _ _ aM aP => qym (k_within aP (n := nz) (m := 64) xq xq xq xq) ?_)))))
 rintro _ u12 aL rfl
 refine zyn 20 (x := zI (IntKind.i64.wrap ((1 : Int) + (nz % 64)))) (zI ((1 : Int) + (nz % 64))) yk (zza 21 (zI bz) (zzg 22 7 _ fun _ _ aH aU => qym (k_within aU (n := bz) (m := 30) xq xq xq xq) ?_))
 rintro _ u16 aO rfl
 refine zza 1 (zI ((1 : Int) + (nz % 64))) (zza 2 (zI (bz % 30)) (zzb (zzd ?_)))
 obtain ⟨N, hnN⟩ : ∃ n : Nat, (1 : Int) + (nz % 64) = (n : Int) := ⟨((1 : Int) + (nz % 64)).toNat, by omega⟩
 rw [hnN]
 have hbN : 1 ≤ N ∧ N ≤ 64 := by omega
 obtain ⟨B, hnB⟩ : ∃ n : Nat, bz % 30 = (n : Int) := ⟨(bz % 30).toNat, by omega⟩
 rw [hnB]
 have hbB : B ≤ 29 := by omega
 have ah : 1 ≤ N := by omega
 have aj : N ≤ 64 := by omega
 refine zzf (zza 23 (.v (x.v)) (zzg 24 8 _ fun _ _ aI aS => qym (k_cySmall aS (hx.ext (aM.t (aL.t (aH.t (aO.t aI))))) hb9) ?_))
 rintro _ u20 g21 ⟨ys, m9, rfl, ar, hsl, hsb⟩
 refine zza 7 (.v (ys.v)) (zzb (sq9 (zza 26 (.v (ys.v)) (zza 27 (zI N) (zzg 28 9 _ fun _ _ av aR => qym (k_cyReduce (n := N) aR (ar.ext av) (valid_of xq (fun z hz => by have h9 := hsb z hz; omega)) ah aj) ?_)))))
 rintro _ u24 ay ⟨yr, rfl, aC⟩
 have hrb := Nt.spec_bd ah aj hsl hsb
 have hrl : (Cyc.specL N (Cyc.linS N m9 1)).length = Cyc.deg N := Cyc.specL_length _
 have hdg := Cyc.deg_le N ah aj
 refine zza 25 (.v (.tuple #[yr.v, .int .i64 0])) (zza 29 (.v (yr.v)) (zza 30 (zI 0) (zza 8 (.v (yr.v)) (zza 9 (zI 0) (zzb (sq9 (zza 32 (.v (ys.v)) (zza 33 (zI N) (zza 34 (zI B) (zzg 35 10 _ fun _ _ au aW => qym (k_cyReal (x := ys) (n := N) (b := B) aW (ar.ext (av.t (ay.t au))) (fun z hz => by have h9 := hsb z hz; omega) xq ah aj xq) ?_))))))))))
 rintro _ u32 az ⟨ab, aa, rfl, ax, aA⟩
 refine zza 31 (.v (.tuple #[.agg #[.bool ab.s, ab.m.v, ab.d.v, .bool aa.s, aa.m.v, aa.d.v], .int .i64 0])) (zza 36 (.v (.agg #[.bool ab.s, ab.m.v, ab.d.v, .bool aa.s, aa.m.v, aa.d.v])) (zza 37 (zI 0) (zzj 10 ⟨34, zw6⟩ (zzi ⟨34, ab.cs ++ aa.cs⟩ ty34 ?_))))
 refine zza 11 (zI 0) (zzb (sq9 (zza 39 (.v (ys.v)) (zza 40 (zI N) (zza 41 (zI B) (zzg 42 11 _ fun _ _ ak aJ => qym (k_rcyReal (x := ys) (n := N) (b := B) aJ (ar.ext (av.t (ay.t (au.t (az.t ak))))) (fun z hz => by have h9 := hsb z hz; omega) xq ah aj xq) ?_))))))
 rintro _ u40 am ⟨ae, af, rfl, aD, aG⟩
 refine zza 38 (.v (.tuple #[.agg #[.bool ae.s, ae.m.v, ae.d.v, .bool af.s, af.m.v, af.d.v], .int .i64 0])) (zza 43 (.v (.agg #[.bool ae.s, ae.m.v, ae.d.v, .bool af.s, af.m.v, af.d.v])) (zza 44 (zI 0) (zzj 12 ⟨34, zw6⟩ (zzi ⟨34, ae.cs ++ af.cs⟩ ty34 ?_))))
 refine zza 13 (zI 0) (zzc 94 [(1, zI N), (2, zI B), (8, .v (yr.v)), (9, zI 0), (10, .adr 10 0), (11, zI 0), (12, .adr 12 0), (13, zI 0)] [(10, ⟨34, ab.cs ++ aa.cs⟩), (12, ⟨34, ae.cs ++ af.cs⟩)] (sq9 (zza 46 (.v (yr.v)) (zza 47 (zI N) (zza 48 (zI B) (zzg 49 10 _ fun _ _ ai aV => qym (k_cyReal (x := yr) (n := N) (b := B) aV (aC.ext (au.t (az.t (ak.t (am.t ai))))) (fun z hz => by have h9 := hrb z hz; omega) xq ah aj xq) ?_))))))
 rintro _ u48 al ⟨ad, ac, rfl, aT, aN⟩
 refine zza 45 (.v (.tuple #[.agg #[.bool ad.s, ad.m.v, ad.d.v, .bool ac.s, ac.m.v, ac.d.v], .int .i64 0])) (zza 50 (.v (.agg #[.bool ad.s, ad.m.v, ad.d.v, .bool ac.s, ac.m.v, ac.d.v])) (zza 51 (zI 0) (zzj 14 ⟨34, zw6⟩ (zzi ⟨34, ad.cs ++ ac.cs⟩ ty34 ?_))))
 refine zza 15 (zI 0) (zzb (zzd ?_))
 have hmt := Nt.real_meet (b := B) ah aj xq hsl (Nt.getD_bd hsb)
 rw [← hrl] at hmt
 refine zzf (zzh 53 (.v (.agg #[.bool ab.s, ab.m.v, ab.d.v, .bool aa.s, aa.m.v, aa.d.v])) ty34 zze (zzh 54 (.v (.agg #[.bool ad.s, ad.m.v, ad.d.v, .bool ac.s, ac.m.v, ac.d.v])) ty34 zze (zzg 55 12 _ fun _ _ ag aF => qym (k_cyMeet (K := 40000) (L := 40000) aF (ax.ext (ak.t (am.t (ai.t (al.t ag))))).raw (aA.ext (ak.t (am.t (ai.t (al.t ag))))).raw (aT.ext ag).raw (aN.ext ag).raw yq yq (Nt.reL_le _ _ _ _) (Nt.reL_le _ _ _ _) hmt.1 hmt.2) ?_)))
 rintro _ u52 aq ⟨pm, qm, rfl⟩
 refine zza 52 (.v (.tuple #[.agg #[.bool pm.s, pm.m.v, pm.d.v, .bool qm.s, qm.m.v, qm.d.v], .bool true])) (zza 56 (.v (.agg #[.bool pm.s, pm.m.v, pm.d.v, .bool qm.s, qm.m.v, qm.d.v])) (zza 57 (zB true) (zzj 16 ⟨34, zw6⟩ (zzi ⟨34, pm.cs ++ qm.cs⟩ ty34 ?_))))
 refine zza 17 (zB true) (zzb (sq9 (zzg 58 13 _ fun _ _ an aK => qym (k_cyKnown aK) ?_)))
 rintro _ u56 ao rfl
 refine zza 59 (zB true) (zza 60 (zI 0) ?_ (hw := w1 1 true 59))
 refine zza 61 (zB true) ?_ (hw := w1 1 true 59)
 refine zza 62 (zB true) (zza 63 (zB true) (zza 64 (zI 0) ?_ (hw := w1 5 true 63)))
 refine zza 65 (zB true) ?_ (hw := w1 5 true 63)
 refine zza 66 (zB true) (zza 67 (zB true) (zza 68 (zI 0) ?_ (hw := w1 9 true 67)))
 refine zza 69 (zB true) ?_ (hw := w1 9 true 67)
 refine zza 70 (zB true) (zza 71 (zB true) (zza 72 (zI 0) ?_ (hw := w1 13 true 71)))
 refine zza 73 (zB true) ?_ (hw := w1 13 true 71)
 refine zza 74 (zB true) (zza 75 (zB true) (zza 76 (zB true) ?_ (hw := w1 17 true 75)))
 refine zza 77 (zB true) (zza 78 (zB true) (zza 79 (.adr 10 0) ?_ (hw := w1 20 true 78)))
 refine zzh 80 (.v (ab.v)) ty32 zze ?_ (hw := w1 20 true 78)
 refine zza 81 (.adr 12 0) ?_ (hw := w1 20 true 78)
 refine zzh 82 (.v (ae.v)) ty32 zze ?_ (hw := w1 20 true 78)
 refine zzg 83 14 _ (fun _ _ ap aQ => qym (k_rqCompare aQ (ax.ext (ak.t (am.t (ai.t (al.t (ag.t (aq.t (an.t (ao.t ap))))))))).raw (aD.ext (ai.t (al.t (ag.t (aq.t (an.t (ao.t ap))))))).raw xq xq) ?_) (hw := w1 20 true 78)
 rintro _ u60 aw rfl
 refine zza 84 (zB ((Nt.cmpQ ((Nt.reL N B m9 m9.length).1) ((Nt.reL N B m9 m9.length).1)) == 0)) ?_ (hw := w1 20 true 78)
 refine zza 85 (zB ((Nt.cmpQ ((Nt.reL N B m9 m9.length).1) ((Nt.reL N B m9 m9.length).1)) == 0)) (zyn 86 (x := zB ((Nt.cmpQ ((Nt.reL N B m9 m9.length).1) ((Nt.reL N B m9 m9.length).1)) == 0)) (zB true) (by rw [show ((Nt.cmpQ ((Nt.reL N B m9 m9.length).1) ((Nt.reL N B m9 m9.length).1)) == 0) = true from (by rw [Nt.cmpQ_eq]; exact decide_eq_true rfl)]) (zza 87 (.adr 10 3) ?_ (hw := w1 28 true 86)))
 refine zzh 88 (.v (aa.v)) ty32 zze ?_ (hw := w1 28 true 86)
 refine zza 89 (.adr 12 3) ?_ (hw := w1 28 true 86)
 refine zzh 90 (.v (af.v)) ty32 zze ?_ (hw := w1 28 true 86)
 refine zzg 91 14 _ (fun _ _ aB aE => qym (k_rqCompare aE (aA.ext (ak.t (am.t (ai.t (al.t (ag.t (aq.t (an.t (ao.t (ap.t (aw.t aB))))))))))).raw (aG.ext (ai.t (al.t (ag.t (aq.t (an.t (ao.t (ap.t (aw.t aB))))))))).raw xq xq) ?_) (hw := w1 28 true 86)
 rintro _ u65 g66 rfl
 refine zza 92 (zB ((Nt.cmpQ ((Nt.reL N B m9 m9.length).2) ((Nt.reL N B m9 m9.length).2)) == 0)) ?_ (hw := w1 28 true 86)
 refine zza 93 (zB ((Nt.cmpQ ((Nt.reL N B m9 m9.length).2) ((Nt.reL N B m9 m9.length).2)) == 0)) (zza 6 (zB ((Nt.cmpQ ((Nt.reL N B m9 m9.length).2) ((Nt.reL N B m9 m9.length).2)) == 0)) (zzc 94 [(6, zB ((Nt.cmpQ ((Nt.reL N B m9 m9.length).2) ((Nt.reL N B m9 m9.length).2)) == 0))] [] (zzn (ret0 [.bool ((Nt.cmpQ ((Nt.reL N B m9 m9.length).2) ((Nt.reL N B m9 m9.length).2)) == 0)] ⟨zzp, trivial⟩ fun u68 e69 => ?_))))
 show Value.bool _ = Value.bool true
 rw [show ((Nt.cmpQ ((Nt.reL N B m9 m9.length).2) ((Nt.reL N B m9 m9.length).2)) == 0) = true from (by rw [Nt.cmpQ_eq]; exact decide_eq_true rfl)]
end Go.Proofs.YtcmllhhiekjmaaaGreat
