/- Parts of the proof: contracts of functions, each walked once, and plain laws. -/
import Derived.Test.YtgmkhhfbckjaeaaGreatXleG
import Derived.Laws.CopyRow
set_option linter.unusedVariables false
set_option maxHeartbeats 8000000
namespace Go.Proofs.YtgmkhhfbckjaeaaGreat
open Nt
open Go.RowKit
theorem k_intDivP {u w : World} {i1 : IL} {y : Sl} {zN : Int} {M K L : Nat} (d : Dat u w) (hi : IntV u i1 zN K) (hy : NatV u y M L) (hM : 0 < M) (hK : K ≤ 100000000) (hL : L ≤ 100000000) : qyc 141 #[i1.v, .agg #[.bool false, y.v]] w (Post u w fun v u' => ∃ i j : IL, v = .tuple #[i.v, j.v, .int .i64 0] ∧ IntN u' i (zN / (M : Int)) (K + 1) ∧ IntN u' j (zN % (M : Int)) L) := by
 have hL1 : 1 ≤ L := by have h2 := hy.size; have h3 := Nt.dl_mono (x := M) (y := 1) xq; rw [Nt.dl_one] at h3; omega
 obtain ⟨N, hN, hzN⟩ := hi
 refine zzm (args := [i1.v, .agg #[.bool false, y.v]]) Tryz.func141 rfl Tryz.ntmps141 (rs := [.cell 4 30, .cell 5 30, .tmp 6]) Tryz.results141 (le_b rfl) (le_b rfl) d ?_
 refine sq9 (zzk 2 ⟨30, i1.cs⟩ (zzk 3 ⟨30, [.bool false, y.v]⟩ (zzk 4 ⟨30, [.bool false, qyn]⟩ (zzk 5 ⟨30, [.bool false, qyn]⟩ (zza 6 (zI 0) (zzb (sq9 (zza 11 (.adr 2 1) (zzi 12 (.v (i1.m.v)) ty28 zzl (zza 13 (.adr 3 1) (zzi 14 (.v (y.v)) ty28 zzl ?_)))))))))))
 refine zzg 15 195 _ fun _ _ am aO => qym (k_natDivMod aO (hN.ext am) (hy.ext am) hM xq xq) ?_
 rintro _ u16 aH ⟨ae, aa, rfl, ar, ad⟩
 refine zza 10 (.v (.tuple #[ae.v, aa.v, .int .i64 0])) (zza 16 (.v (ae.v)) (zza 17 (.v (aa.v)) (zza 18 (zI 0) (zza 7 (.v (ae.v)) (zza 8 (.v (aa.v)) (zza 9 (zI 0) (zzb (zzd (sq9 (zza 19 (zI 0) (zza 20 (zB false) ?_)))))))))))
 refine zzb (zys xj (zzs (zzp ?_)))
 refine zzd (sq9 (zza 24 (.adr 2 0) (zzi 25 (zB i1.s) ty4 zzl ?_)))
 rcases Bool.eq_false_or_eq_true i1.s with hs19 | hs19
 ·refine zyq 26 (x := zB i1.s) (zB true) (by rw [hs19]) (zza 27 (.v (aa.v)) ?_ (hw := w1 2 true 26))
  refine zza 28 (zI aa.n) ?_ (hw := w1 2 true 26)
  refine zza 29 (zB (decide ((0 : Int) < (aa.n : Int)))) ?_ (hw := w1 2 true 26)
  refine zza 30 (zB (decide ((0 : Int) < (aa.n : Int)))) (zzb (zzu (b := decide ((0 : Int) < (aa.n : Int))) xj (fun ac => ?_) (fun ac => ?_)))
  ·have qhb20 := qyt ac
   refine sq9 (zza 31 (.v (ae.v)) (zxx 32 ⟨133, [.int .u32 1]⟩ 1 (fun b21 u22 al aF => ?_)))
   refine zzg 33 196 _ fun _ _ ag aE => qym (k_natAdd aE (ar.ext (al.trans ag)).raw ((one_data aF).ext ag).raw xq xq) ?_
   rintro _ u28 az ⟨ao, rfl, aU⟩
   refine zza 7 (.v (ao.v)) (zzb (zzf (zza 34 (.adr 3 1) (zzi 35 (.v (y.v)) ty28 zzl (zza 36 (.v (aa.v)) (zzg 37 197 _ fun _ _ an a1 => qym (k_natSub a1 (hy.ext (am.t (aH.t (al.t (ag.t (az.t an)))))) (ad.ext (al.t (ag.t (az.t an)))).raw xq xq) ?_))))))
   rintro _ u34 aT ⟨aq, rfl, aI⟩
   refine zza 8 (.v (aq.v)) (zzc 47 [(2, .adr 2 0), (3, .adr 3 0), (4, .adr 4 0), (5, .adr 5 0), (7, .v (ao.v)), (8, .v (aq.v))] [(2, ⟨30, i1.cs⟩), (3, ⟨30, [.bool false, y.v]⟩), (4, ⟨30, [.bool false, qyn]⟩), (5, ⟨30, [.bool false, qyn]⟩)] (sq9 (zza 38 (.adr 2 0) (zzi 39 (zB i1.s) ty4 zzl (zza 40 (.adr 3 0) (zzi 41 (zB false) ty4 zzl (zza 42 (zB (!(i1.s == false))) (zza 43 (.v (ao.v)) (zzg 44 193 _ fun _ _ av aM => qym (k_signed aM (s := !(i1.s == false)) (aU.ext (an.t (aT.t av)))) ?_)))))))))
   rintro _ u40 a3 ⟨ap, rfl, aK⟩
   refine zza 45 (.v (aq.v)) (zzg 46 193 _ fun _ _ aw a2 => qym (k_signed a2 (s := false) (aI.ext (av.t (a3.t aw)))) ?_)
   rintro _ u46 aS ⟨ak, rfl, aR⟩
   refine zzj ⟨30, ap.cs⟩ ty30 ?_
   refine zzj ⟨30, ak.cs⟩ ty30 ?_
   refine zza 6 (zI 0) (zzb (zzo (ret0 [ap.v, ak.v, .int .i64 0] ⟨zzr ty30 zze, zzr ty30 zze, zzq, trivial⟩ fun u49 aB => ?_)))
   have hrp := ad.pos
   have e9 := hs19
   have key := Nt.rdiv1 (N := N) hM xq
   have g1 := (aK.ext (aw.t (aS.t aB)))
   have g2 := (aR.ext aB)
   rw [e9] at g1
   rw [e9] at hzN
   have hK1 : 1 ≤ K := by have h2 := hN.size; have h3 := (Nt.dl_pos (x := N)).2 (by rcases Nat.eq_zero_or_pos N with e | e; (rw [e, Nat.zero_mod] at hrp; omega); exact e); omega
   rw [hzN]
   refine ⟨ap, ak, rfl, IntN.more (K := (max K 1 + 1)) ?_ xq, IntN.more (K := L) ?_ xq⟩
   ·rw [key.1]; exact g1
   rw [key.2]; exact g2
  have qhb20 := qyf ac
  refine zzs (zzp ?_)
  refine sq9 (zza 38 (.adr 2 0) (zzi 39 (zB i1.s) ty4 zzl (zza 40 (.adr 3 0) (zzi 41 (zB false) ty4 zzl (zza 42 (zB (!(i1.s == false))) (zza 43 (.v (ae.v)) (zzg 44 193 _ fun _ _ au aP => qym (k_signed aP (s := !(i1.s == false)) (ar.ext au)) ?_)))))))
  rintro _ u54 aL ⟨ai, rfl, aG⟩
  refine zza 45 (.v (aa.v)) (zzg 46 193 _ fun _ _ aA aW => qym (k_signed aW (s := false) (ad.ext (au.t (aL.t aA)))) ?_)
  rintro _ u60 aY ⟨ah, rfl, aN⟩
  refine zzj ⟨30, ai.cs⟩ ty30 ?_
  refine zzj ⟨30, ah.cs⟩ ty30 ?_
  refine zza 6 (zI 0) (zzc 47 [(4, .adr 4 0), (5, .adr 5 0), (6, zI 0)] [(4, ⟨30, ai.cs⟩), (5, ⟨30, ah.cs⟩)] (zzo (ret0 [ai.v, ah.v, .int .i64 0] ⟨zzr ty30 zze, zzr ty30 zze, zzq, trivial⟩ fun u63 ay => ?_)))
  have hrp := ad.pos
  have key := Nt.rdiv0 (s := i1.s) (N := N) hM (by rintro ⟨k1, k2⟩; omega)
  have g1 := (aG.ext (aA.t (aY.t ay)))
  have g2 := (aN.ext ay)
  rw [hzN]
  refine ⟨ai, ah, rfl, IntN.more (K := K) ?_ xq, IntN.more (K := L) ?_ xq⟩
  ·rw [key.1]; exact g1
  rw [key.2]; exact g2
 refine zyq 26 (x := zB i1.s) (zB false) (by rw [hs19]) (zzn 27 (uw 2 true false 26) (zzn 28 (uw 2 true false 26) (zzn 29 (uw 2 true false 26) (zza 30 (zB false) (zzb (zys xj (zzs (zzp ?_))))))))
 refine sq9 (zza 38 (.adr 2 0) (zzi 39 (zB i1.s) ty4 zzl (zza 40 (.adr 3 0) (zzi 41 (zB false) ty4 zzl (zza 42 (zB (!(i1.s == false))) (zza 43 (.v (ae.v)) (zzg 44 193 _ fun _ _ ax aZ => qym (k_signed aZ (s := !(i1.s == false)) (ar.ext ax)) ?_)))))))
 rintro _ u68 a0 ⟨af, rfl, aX⟩
 refine zza 45 (.v (aa.v)) (zzg 46 193 _ fun _ _ aC aQ => qym (k_signed aQ (s := false) (ad.ext (ax.t (a0.t aC)))) ?_)
 rintro _ u74 aJ ⟨aj, rfl, aV⟩
 refine zzj ⟨30, af.cs⟩ ty30 ?_
 refine zzj ⟨30, aj.cs⟩ ty30 ?_
 refine zza 6 (zI 0) (zzc 47 [(4, .adr 4 0), (5, .adr 5 0), (6, zI 0)] [(4, ⟨30, af.cs⟩), (5, ⟨30, aj.cs⟩)] (zzo (ret0 [af.v, aj.v, .int .i64 0] ⟨zzr ty30 zze, zzr ty30 zze, zzq, trivial⟩ fun u77 aD => ?_)))
 have hrp := ad.pos
 have key := Nt.rdiv0 (s := i1.s) (N := N) hM (by rintro ⟨k1, k2⟩; rw [k1] at hs19; exact absurd hs19 yv)
 have g1 := (aX.ext (aC.t (aJ.t aD)))
 have g2 := (aV.ext aD)
 rw [hzN]
 refine ⟨af, aj, rfl, IntN.more (K := K) ?_ xq, IntN.more (K := L) ?_ xq⟩
 ·rw [key.1]; exact g1
 rw [key.2]; exact g2
theorem k_intSub {u w : World} {i1 : IL} {zN : Int} {K : Nat} {i2 : IL} {zM : Int} {L : Nat} (d : Dat u w) (hi1 : IntV u i1 zN K) (hi2 : IntV u i2 zM L) (hK : K ≤ 400000000) (hL : L ≤ 400000000) : qyc 199 #[i1.v, i2.v] w (Post u w fun v u' => ∃ i : IL, v = i.v ∧ IntN u' i (zN - zM) (max K L + 1)) := by
 obtain ⟨N, hN, hzN⟩ := hi1
 obtain ⟨M, hM, hzM⟩ := hi2
 refine zzm (args := [i1.v, i2.v]) Tryz.func199 rfl Tryz.ntmps199 (rs := [.cell 4 30]) Tryz.results199 (le_b rfl) (le_b rfl) d ?_
 refine sq9 (zzk 2 ⟨30, i1.cs⟩ (zzk 3 ⟨30, i2.cs⟩ (zzk 4 ⟨30, [.bool false, qyn]⟩ (zzb (sq9 (zzi 5 (.v (i1.v)) ty30 zze (zza 6 (.adr 3 0) (zzi 7 (zB i2.s) ty4 zzl (zza 8 (zB (!i2.s)) (zza 9 (.adr 3 1) (zzi 10 (.v (i2.m.v)) ty28 zzl ?_)))))))))))
 refine zza 11 (.v (.agg #[.bool (!i2.s), i2.m.v])) (zzg 12 165 _ fun _ _ ac af => qym (k_intAdd af (IntV.same (s := i1.s) (hN.ext ac)) (IntV.same (s := !i2.s) (hM.ext ac)) xq xq) ?_)
 rintro _ u14 g15 ⟨aa, rfl, ad⟩
 refine zzj ⟨30, aa.cs⟩ ty30 ?_
 refine zzb (zzo (ret0 [aa.v] ⟨zzr ty30 zze, trivial⟩ fun u17 ae => ?_))
 refine ⟨aa, rfl, IntN.more (K := (max K L + 1)) ?_ xq⟩
 have e9 : zN - zM = Nt.sg i1.s N + Nt.sg (!i2.s) M := by rw [hzN, hzM]; unfold Nt.sg; cases i1.s <;> cases i2.s <;> simp <;> omega
 rw [e9]
 exact (ad.ext ae)
theorem k_intGcd {u w : World} {i1 i2 : IL} {N M K L : Nat} (d : Dat u w) (h1 : NatV u i1.m N K) (h2 : NatV u i2.m M L) (hK : K ≤ 100000000) (hL : L ≤ 100000000) : qyc 142 #[i1.v, i2.v] w (Post u w fun v u' => ∃ i : IL, v = i.v ∧ IntN u' i (Nat.gcd N M : Nat) (max K L)) := by
 refine zzm (args := [i1.v, i2.v]) Tryz.func142 rfl Tryz.ntmps142 (rs := [.cell 4 30]) Tryz.results142 (le_b rfl) (le_b rfl) d ?_
 refine sq9 (zzk 2 ⟨30, i1.cs⟩ (zzk 3 ⟨30, i2.cs⟩ (zzk 4 ⟨30, [.bool false, qyn]⟩ (zzb (sq9 (zza 5 (.adr 2 1) (zzi 6 (.v (i1.m.v)) ty28 zzl (zza 7 (.adr 3 1) (zzi 8 (.v (i2.m.v)) ty28 zzl (zzg 9 198 _ fun _ _ ac ah => qym (k_natGcd ah (h1.ext ac) (h2.ext ac) xq xq) ?_))))))))))
 rintro _ u14 g15 ⟨x12, rfl, ag⟩
 refine zzg 10 193 _ fun _ _ af ai => qym (k_signed ai (s := false) (ag.ext af)) ?_
 rintro _ u20 g21 ⟨aa, rfl, ad⟩
 refine zzj ⟨30, aa.cs⟩ ty30 ?_
 refine zzb (zzo (ret0 [aa.v] ⟨zzr ty30 zze, trivial⟩ fun u23 ae => ?_))
 refine ⟨aa, rfl, ?_⟩
 have h9 := (ad.ext ae)
 unfold Nt.sg at h9
 exact h9
theorem k_intDivI {u w : World} {i1 i2 : IL} {z D : Int} {K L : Nat} (d : Dat u w) (h1 : IntV u i1 z K) (h2 : IntN u i2 D L) (hD : 0 < D) (hK : K ≤ 100000000) (hL : L ≤ 100000000) : qyc 141 #[i1.v, i2.v] w (Post u w fun v u' => ∃ i j : IL, v = .tuple #[i.v, j.v, .int .i64 0] ∧ IntN u' i (z / D) (K + 1) ∧ IntN u' j (z % D) L) := by
 obtain ⟨s, y⟩ := i2
 have hs : s = false := by have h3 := h2.1; rw [decide_eq_false xq] at h3; exact h3
 subst hs
 have hd : ((D.natAbs : Nat) : Int) = D := by omega
 have := k_intDivP d h1 (y := y) (M := D.natAbs) h2.2.raw xq hK hL
 rw [hd] at this
 exact this
theorem Nt.num_den9 (x : Rat) : x * ((x.den : Int) : Rat) = (x.num : Rat) := by
 have h0 : ((x.den : Int) : Rat) ≠ 0 := fun e => by
  have := Rat.intCast_inj.1 (show ((x.den : Int) : Rat) = ((0 : Int) : Rat) from e); have := x.den_pos; omega
 have h1 : x = (x.num : Rat) / ((x.den : Int) : Rat) := by rw [Nt.mk_div, Rat.mkRat_self]
 have h2 : (x.num : Rat) / ((x.den : Int) : Rat) * ((x.den : Int) : Rat) = (x.num : Rat) := Rat.div_mul_cancel h0
 rw [← h1] at h2; exact h2
theorem Nt.miss_step {n1 n2 w : Int} {x c : Rat} {p : List Rat} {k : Nat} (h : (n1 : Rat) * ((x.den : Int) : Rat) = (n2 : Rat) * (c * Nt.Pol.evL (p.drop k) x)) (hk : 1 ≤ k) (hp : k ≤ p.length) (hw : (w : Rat) = p.getD (k - 1) 0 * c) : ((n1 * x.num + w * n2 : Int) : Rat) * ((x.den : Int) : Rat) = ((n2 * (x.den : Int) : Int) : Rat) * (c * Nt.Pol.evL (p.drop (k - 1)) x) := by
 have hd : p.drop (k - 1) = p.getD (k - 1) 0 :: p.drop k := by
  rw [List.drop_eq_getElem_cons (show k - 1 < p.length by omega), show k - 1 + 1 = k by omega, qyg, List.getElem?_eq_getElem (show k - 1 < p.length by omega)]; rfl
 have hx := Nt.num_den9 x
 rw [hd, Rat.intCast_add, Rat.intCast_mul, Rat.intCast_mul, Rat.intCast_mul, hw]
 show _ = _ * (c * (p.getD (k - 1) 0 + x * Nt.Pol.evL (p.drop k) x))
 rw [← hx]
 grind
theorem Nt.miss_end {n1 n2 c : Int} {x y w : Rat} {p : List Rat} (h : (n1 : Rat) * ((x.den : Int) : Rat) = (n2 : Rat) * ((c : Rat) * Nt.Pol.evL p x)) (h2 : 0 < n2) (hc : 0 < c) : 0 < (n2 * c * (y.den : Int) * (w.den : Int)).natAbs ∧ w * (y - Nt.Pol.evL p x) = mkRat ((y.num * (n2 * c) - n1 * (x.den : Int) * (y.den : Int)) * w.num) (n2 * c * (y.den : Int) * (w.den : Int)).natAbs := by
 have h9 : 0 < n2 * c * (y.den : Int) * (w.den : Int) := Int.mul_pos (Int.mul_pos (Int.mul_pos h2 hc) (by have := y.den_pos; omega)) (by have := w.den_pos; omega)
 refine ⟨by omega, ?_⟩
 have hy : (y.num : Rat) = y * ((y.den : Int) : Rat) := (Nt.num_den9 y).symm
 have hw : (w.num : Rat) = w * ((w.den : Int) : Rat) := (Nt.num_den9 w).symm
 have e : (((n2 * c * (y.den : Int) * (w.den : Int)).natAbs : Int)) = n2 * c * (y.den : Int) * (w.den : Int) := by omega
 have hne : ((n2 * c * (y.den : Int) * (w.den : Int) : Int) : Rat) ≠ 0 := fun e => by
  have := Rat.intCast_inj.1 (show ((n2 * c * (y.den : Int) * (w.den : Int) : Int) : Rat) = ((0 : Int) : Rat) from e); omega
 rw [← Nt.mk_div, e, eq_comm, Nt.div_eq_of hne]
 rw [Rat.intCast_mul, Rat.intCast_sub, Rat.intCast_mul, Rat.intCast_mul, Rat.intCast_mul, Rat.intCast_mul, Rat.intCast_mul, Rat.intCast_mul, Rat.intCast_mul, hy, hw, h]
 grind
theorem k_missAt {u w : World} {r0 r1 r2 : RL} {x y g : Rat} {s : Sl} {W : List Int} {ic : IL} {C : Int} {p : List Rat} {Kw Kc : Nat} (d : Dat u w) (hr0 : RatN u r0 x 1) (hr1 : RatN u r1 y 1) (hr2 : RatN u r2 g 1) (hS : ItsN u s W Kw) (hC : IntN u ic C Kc) (hC0 : 0 < C) (hl : W.length = p.length) (hW : ∀ j, j < p.length → ((W.getD j 0 : Int) : Rat) = p.getD j 0 * (C : Rat)) (hp : p.length ≤ 60) (hKw : Kw ≤ 20000000) (hKc : Kc ≤ 20000000) : qyc 144 #[.agg #[.bool r0.s, .slice r0.m.a r0.m.n r0.m.c, .slice r0.d.a r0.d.n r0.d.c, .bool r1.s, .slice r1.m.a r1.m.n r1.m.c, .slice r1.d.a r1.d.n r1.d.c, .bool r2.s, .slice r2.m.a r2.m.n r2.m.c, .slice r2.d.a r2.d.n r2.d.c], s.v, ic.v] w (Post u w fun v u' => ∃ r : RL, v = r.v ∧ RatP u' r (g * (y - Nt.Pol.evL p x)) (Kw + Kc + 2 * p.length + 10)) := by
 have hsn := hS.len
 refine zzm (args := [.agg #[.bool r0.s, r0.m.v, r0.d.v, .bool r1.s, r1.m.v, r1.d.v, .bool r2.s, r2.m.v, r2.d.v], s.v, ic.v]) Tryz.func144 rfl Tryz.ntmps144 (rs := [.cell 6 32]) Tryz.results144 (le_b rfl) (le_b rfl) d ?_
 refine sq9 (zzk 3 ⟨56, r0.cs ++ r1.cs ++ r2.cs⟩ (zzk 5 ⟨30, ic.cs⟩ (zzk 6 ⟨32, zw3⟩ (zzb (zzd (zzz [0, 1, 3, 0, 8, 31, 0, 64, 255, 0, 0, 0, 4095, 8191, 16383] [(0, []), (1, []), (3, []), (4, []), (6, []), (7, []), (9, []), (10, []), (11, []), (2, []), (5, []), (8, []), (12, []), (13, []), (14, [])] xj xj (zza 15 (.adr 3 0) (zzi 16 (.v (r0.v)) ty32 zze (zza 18 (.adr 3 3) (zzi 19 (.v (r1.v)) ty32 zze (zza 21 (.adr 3 6) ?_)))))))))))
 refine zzi 22 (.v (r2.v)) ty32 zze (zzk 7 ⟨32, zw3⟩ (zzk 8 ⟨32, zw3⟩ (zzk 9 ⟨32, zw3⟩ (zzg 17 68 _ fun _ _ aC bB => qym (k_ratTrim bB (hr0.ext aC).raw xq) ?_))))
 rintro _ u14 aL ⟨af, rfl, aZ⟩
 refine zzg 20 68 _ fun _ _ ap bF => qym (k_ratTrim bF (hr1.ext (aC.t (aL.t ap))).raw xq) ?_
 rintro _ u20 au ⟨aj, rfl, aV⟩
 refine zzg 23 68 _ fun _ _ ak bz => qym (k_ratTrim bz (hr2.ext (aC.t (aL.t (ap.t (au.t ak))))).raw xq) ?_
 rintro _ u26 an ⟨aw, rfl, a7⟩
 refine zzj ⟨32, af.cs⟩ ty32 ?_
 refine zzj ⟨32, aj.cs⟩ ty32 ?_
 refine zzj ⟨32, aw.cs⟩ ty32 ?_
 refine zzb (sq9 (zza 24 (.adr 7 2) (zzi 25 (.v (af.d.v)) ty28 zzl (zza 26 (.v (.agg #[.bool false, af.d.v])) (zzk 10 ⟨30, [.bool false, qyn]⟩ (zzj ⟨30, [.bool false, af.d.v]⟩ ty30 ?_))))))
 refine zzb (sq9 (zzg 27 140 _ fun _ _ ai bH => qym (k_intOf bH (z := 0) xq xq) ?_))
 rintro _ u32 ah ⟨aS, rfl, bu⟩
 refine zzg 28 140 _ fun _ _ ae bp => qym (k_intOf bp (z := 1) xq xq) ?_
 rintro _ bi ad ⟨a4, rfl, bj⟩
 refine zzk 11 ⟨30, [.bool false, qyn]⟩ (zzk 12 ⟨30, [.bool false, qyn]⟩ (zzj ⟨30, aS.cs⟩ ty30 ?_))
 refine zzj ⟨30, a4.cs⟩ ty30 ?_
 refine zzb (zzd (sq9 (zza 29 (.v (s.v)) (zza 30 (zI s.n) (zyq 31 (x := zI (IntKind.i64.wrap (((s.n : Nat) : Int) - 1))) (zI (((s.n : Nat) : Int) - 1)) (eqI (by rw [IntWalk.i64_in _ xq] <;> omega)) (zza 13 (zI (((s.n : Nat) : Int) - 1)) (zzc 83 [(1, .v (s.v)), (5, .adr 5 0), (6, .adr 6 0), (7, .adr 7 0), (8, .adr 8 0), (9, .adr 9 0), (10, .adr 10 0), (11, .adr 11 0), (12, .adr 12 0), (13, zI (((s.n : Nat) : Int) - 1))] [(5, ⟨30, ic.cs⟩), (6, ⟨32, zw3⟩), (7, ⟨32, af.cs⟩), (8, ⟨32, aj.cs⟩), (9, ⟨32, aw.cs⟩), (10, ⟨30, [.bool false, af.d.v]⟩), (11, ⟨30, aS.cs⟩), (12, ⟨30, a4.cs⟩)] (zzt (zyn (I := fun ba S' u' => ∃ (k : Nat) (j1 : IL) (j2 : IL) (n1 : Int) (n2 : Int), (ba = k) ∧ (k ≤ p.length) ∧ (0 < n2) ∧ ((n1 : Rat) * ((x.den : Int) : Rat) = (n2 : Rat) * ((C : Rat) * Nt.Pol.evL (p.drop k) x)) ∧ (S' = St.of 83 [(1, .v (s.v)), (5, .adr 5 0), (6, .adr 6 0), (7, .adr 7 0), (8, .adr 8 0), (9, .adr 9 0), (10, .adr 10 0), (11, .adr 11 0), (12, .adr 12 0), (13, zI ((k : Int) - 1))] [(5, ⟨30, ic.cs⟩), (6, ⟨32, zw3⟩), (7, ⟨32, af.cs⟩), (8, ⟨32, aj.cs⟩), (9, ⟨32, aw.cs⟩), (10, ⟨30, [.bool false, af.d.v]⟩), (11, ⟨30, j1.cs⟩), (12, ⟨30, j2.cs⟩)]) ∧ (Ext bi u') ∧ (IntN u' j1 n1 (Kw + 2 * (p.length - k) + 2)) ∧ (IntN u' j2 n2 (p.length - k + 2))) (fun m S u1 u2 e h => by obtain ⟨k, j1, j2, n1, n2, hm, p0, p1, p2, hS, hE, f0, f1⟩ := h; exact ⟨k, j1, j2, n1, n2, hm, p0, p1, p2, hS, hE.trans e, f0.ext e, f1.ext e⟩) _ yz ⟨s.n, aS, a4, 0, 1, rfl, by omega, yv, (by rw [List.drop_of_length_le xq]; show _ = _ * (_ * 0); rw [Rat.mul_zero, Rat.mul_zero]; exact Rat.zero_mul _), rfl, (Ext.refl _), (IntN.more (K := 2) (bu.ext (ae.t ad.ext)) xq), (IntN.more (K := 2) bj xq)⟩ ?_)))))))))
 rintro ba _ u41 ⟨k, j1, j2, n1, n2, bG, hk, a8, hv, rfl, ag, f1, f2⟩
 refine zzd (sq9 (zza 32 (zI ((k : Int) - 1)) (zza 33 (zB (decide ((0 : Int) ≤ ((k : Int) - 1)))) (zzb (zzu (b := decide ((0 : Int) ≤ ((k : Int) - 1))) xj (fun av => ?_) (fun av => ?_))))))
 ·have qhb42 := qyt av
  refine zzs (zzp ?_)
  refine zzd (zzt (zzd (zzz [0, 0, 2, 7, 0, 0, 48, 112, 0, 511, 1023, 2047] [(0, []), (1, []), (2, []), (4, []), (5, []), (6, []), (7, []), (8, []), (3, []), (9, []), (10, []), (11, [])] xj xj (zzi 36 (.v (j1.v)) ty30 zze (zza 37 (.adr 7 0) (zzi 38 (.v (.agg #[.bool af.s, af.m.v])) ty30 zze (zza 40 (.v (s.v)) (zyq 41 (x := zI ((k : Int) - 1)) (zI (((k - 1 : Nat) : Int))) (eqI xq) ?_))))))))
  have hl43 := ItsN.len (hS.ext (aC.t (aL.t (ap.t (au.t (ak.t (an.t (ai.t (ah.t (ae.t (ad.t ag)))))))))))
  obtain ⟨bs, b43, a5, aX, a0, a2⟩ := its_at (hS.ext (aC.t (aL.t (ap.t (au.t (ak.t (an.t (ai.t (ah.t (ae.t (ad.t ag))))))))))) (i := (k - 1)) xq
  refine zya 42 (a5 + (k - 1) * 2) (n := s.n) (off := a5) (sz := 2) (i := ((k - 1 : Nat) : Int)) xq aX xq xq sl191 (zym 43 bs.cs a0 ty30 (zzi 44 (.v (j2.v)) ty30 zze (zzg 39 143 _ fun _ _ ar bA => qym (k_intMul bA (f1.ext ar).raw ((RatN.num aZ).ext (ap.t (au.t (ak.t (an.t (ai.t (ah.t (ae.t (ad.t (ag.trans ar)))))))))).raw xq xq) ?_)))
  rintro _ u47 aH ⟨i45, rfl, br⟩
  refine zzg 45 143 _ fun _ _ aF bE => qym (k_intMul bE (a2.ext (ar.t (aH.t aF))).raw (f2.ext (ar.t (aH.t aF))).raw xq xq) ?_
  rintro _ u53 aN ⟨i51, rfl, bx⟩
  refine zzg 46 165 _ fun _ _ aG bn => qym (k_intAdd bn (br.ext (aF.t (aN.t aG))).raw (bx.ext aG).raw xq xq) ?_
  rintro _ u59 a3 ⟨a9, rfl, bL⟩
  refine zzj ⟨30, a9.cs⟩ ty30 ?_
  refine zzb (zzf (zzi 47 (.v (j2.v)) ty30 zze (zzi 48 (.v (.agg #[.bool false, af.d.v])) ty30 zze (zzg 49 143 _ fun _ _ aO bD => qym (k_intMul bD (f2.ext (ar.t (aH.t (aF.t (aN.t (aG.t (a3.t aO))))))).raw (nat_int ((RatN.den aZ).ext (ap.t (au.t (ak.t (an.t (ai.t (ah.t (ae.t (ad.t (ag.t (ar.t (aH.t (aF.t (aN.t (aG.t (a3.t aO)))))))))))))))).raw) xq xq) ?_))))
  rintro _ u65 bd ⟨bf, rfl, bw⟩
  refine zzj ⟨30, bf.cs⟩ ty30 ?_
  refine zzx ?_
  refine zzp (zzf (zza 34 (zI ((k : Int) - 1)) (zyq 35 (x := zI (IntKind.i64.wrap ((k : Int) - 1 - 1))) (zI (((k - 1 : Nat) : Int) - 1)) (eqI (by rw [IntWalk.i64_in _ xq] <;> omega)) (zza 13 (zI (((k - 1 : Nat) : Int) - 1)) (zzx ?_)))))
  refine ⟨_, ?_, _, by exact zzv _ _ _, k - 1, a9, bf, ((n1 * x.num) + ((W.getD (k - 1) 0) * n2)), (n2 * (x.den : Int)), rfl, by omega, (Int.mul_pos a8 (by have h9 := x.den_pos; omega)), (Nt.miss_step hv xq hk (hW (k - 1) xq)), rfl, (ag.t (ar.t (aH.t (aF.t (aN.t (aG.t (a3.t (aO.t bd.ext)))))))), (IntN.more (K := (max ((Kw + 2 * (p.length - k) + 2) + 1) (Kw + (p.length - k + 2)) + 1)) (bL.ext (aO.t bd.ext)) xq), (IntN.more (K := ((p.length - k + 2) + 1)) bw xq)⟩
  omega
 have qhb42 := qyf av
 refine zyc (zzp (zzd (zzz [0, 0, 3, 0, 0, 31, 63, 127] [(0, []), (1, []), (3, []), (4, []), (2, []), (5, []), (6, []), (7, [])] xj xj (zzi 50 (.v (j1.v)) ty30 zze (zzi 51 (.v (.agg #[.bool false, af.d.v])) ty30 zze (zzi 53 (.v (j2.v)) ty30 zze (zzi 54 (.v (ic.v)) ty30 zze (zzg 52 143 _ fun _ _ am bg => qym (k_intMul bg (f1.ext am).raw (nat_int ((RatN.den aZ).ext (ap.t (au.t (ak.t (an.t (ai.t (ah.t (ae.t (ad.t (ag.trans am)))))))))).raw) xq xq) ?_))))))))
 rintro _ u71 ax ⟨bc, rfl, bM⟩
 refine zzg 55 143 _ fun _ _ aq bm => qym (k_intMul bm (f2.ext (am.t (ax.t aq))).raw (hC.ext (aC.t (aL.t (ap.t (au.t (ak.t (an.t (ai.t (ah.t (ae.t (ad.t (ag.t (am.t (ax.t aq)))))))))))))).raw xq xq) ?_
 rintro _ u77 aE ⟨a1, rfl, a6⟩
 refine zzj ⟨30, bc.cs⟩ ty30 ?_
 refine zzj ⟨30, a1.cs⟩ ty30 ?_
 refine zzb (sq9 (zza 56 (.adr 8 2) (zzi 57 (.v (aj.d.v)) ty28 zzl (zza 58 (.v (.agg #[.bool false, aj.d.v])) (zzk 14 ⟨30, [.bool false, qyn]⟩ (zzj ⟨30, [.bool false, aj.d.v]⟩ ty30 ?_))))))
 refine zzb (zzd (zzz [0, 1, 0, 7, 0, 0, 63, 127, 255] [(0, []), (1, []), (2, []), (4, []), (5, []), (3, []), (6, []), (7, []), (8, [])] xj xj (zza 59 (.adr 8 0) (zzi 60 (.v (.agg #[.bool aj.s, aj.m.v])) ty30 zze (zzi 61 (.v (a1.v)) ty30 zze (zzi 63 (.v (bc.v)) ty30 zze (zzi 64 (.v (.agg #[.bool false, aj.d.v])) ty30 zze (zzg 62 143 _ fun _ _ ao bt => qym (k_intMul bt ((RatN.num aV).ext (ak.t (an.t (ai.t (ah.t (ae.t (ad.t (ag.t (am.t (ax.t (aq.t (aE.t ao)))))))))))).raw (a6.ext ao).raw xq xq) ?_))))))))
 rintro _ u83 aB ⟨i81, rfl, bq⟩
 refine zzg 65 143 _ fun _ _ ay bk => qym (k_intMul bk (bM.ext (aq.t (aE.t (ao.t (aB.t ay))))).raw (nat_int ((RatN.den aV).ext (ak.t (an.t (ai.t (ah.t (ae.t (ad.t (ag.t (am.t (ax.t (aq.t (aE.t (ao.t (aB.t ay)))))))))))))).raw) xq xq) ?_
 rintro _ u89 aJ ⟨i87, rfl, bv⟩
 refine zzg 66 199 _ fun _ _ aD bl => qym (k_intSub bl (bq.ext (ay.t (aJ.t aD))).raw (bv.ext aD).raw xq xq) ?_
 rintro _ u95 aP ⟨be, rfl, bh⟩
 refine zzj ⟨30, be.cs⟩ ty30 ?_
 refine zzb (sq9 (zzi 67 (.v (a1.v)) ty30 zze (zzi 68 (.v (.agg #[.bool false, aj.d.v])) ty30 zze (zzg 69 143 _ fun _ _ aK bI => qym (k_intMul bI (a6.ext (ao.t (aB.t (ay.t (aJ.t (aD.t (aP.t aK))))))).raw (nat_int ((RatN.den aV).ext (ak.t (an.t (ai.t (ah.t (ae.t (ad.t (ag.t (am.t (ax.t (aq.t (aE.t (ao.t (aB.t (ay.t (aJ.t (aD.t (aP.t aK)))))))))))))))))).raw) xq xq) ?_))))
 rintro _ bo aA ⟨bb, rfl, aY⟩
 refine zzj ⟨30, bb.cs⟩ ty30 ?_
 refine zzb (zzd (zzz [0, 0, 2, 7, 0, 0, 32, 96, 255, 511, 1023] [(0, []), (1, []), (2, []), (4, []), (5, []), (6, []), (7, []), (3, []), (8, []), (9, []), (10, [])] xj xj (zzi 70 (.v (be.v)) ty30 zze (zza 71 (.adr 9 0) (zzi 72 (.v (.agg #[.bool aw.s, aw.m.v])) ty30 zze (zzi 74 (.v (bb.v)) ty30 zze (zza 75 (.adr 9 2) (zzi 76 (.v (aw.d.v)) ty28 zzl (zza 77 (.v (.agg #[.bool false, aw.d.v])) (zzg 73 143 _ fun _ _ al aU => qym (k_intMul aU (bh.ext (aK.t (aA.t al))).raw ((RatN.num a7).ext (ai.t (ah.t (ae.t (ad.t (ag.t (am.t (ax.t (aq.t (aE.t (ao.t (aB.t (ay.t (aJ.t (aD.t (aP.t (aK.t (aA.t al)))))))))))))))))).raw xq xq) ?_))))))))))
 rintro _ bN aM ⟨aa, rfl, aT⟩
 refine zzg 78 143 _ fun _ _ az aW => qym (k_intMul aW (aY.ext (al.t (aM.t az))).raw (nat_int ((RatN.den a7).ext (ai.t (ah.t (ae.t (ad.t (ag.t (am.t (ax.t (aq.t (aE.t (ao.t (aB.t (ay.t (aJ.t (aD.t (aP.t (aK.t (aA.t (al.t (aM.t az)))))))))))))))))))).raw) xq xq) ?_
 rintro _ bJ aQ ⟨ac, rfl, aR⟩
 refine zzj ⟨30, aa.cs⟩ ty30 ?_
 refine zzj ⟨30, ac.cs⟩ ty30 ?_
 refine zzc 83 [(6, .adr 6 0), (11, .adr 11 0), (12, .adr 12 0)] [(6, ⟨32, zw3⟩), (11, ⟨30, aa.cs⟩), (12, ⟨30, ac.cs⟩)] (sq9 (zzi 79 (.v (aa.v)) ty30 zze (zza 80 (.adr 12 1) (zzi 81 (.v (ac.m.v)) ty28 zzl (zza 82 (.v (.agg #[.bool aa.s, aa.m.v, ac.m.v])) (zzj ⟨32, aa.cs ++ [ac.m.v]⟩ ty32 ?_))))))
 refine zzb (zzo (ret0 [.agg #[.bool aa.s, aa.m.v, ac.m.v]] ⟨zzr ty32 zze, trivial⟩ fun bC aI => ?_))
 have bK : k = 0 := by omega
 have hv9 := hv
 rw [bK, List.drop_zero] at hv9
 have hend := Nt.miss_end (y := y) (w := g) hv9 a8 hC0
 refine ⟨(⟨aa.s, aa.m, ac.m⟩ : RL), rfl, ⟨(((y.num * (n2 * C)) - ((n1 * (x.den : Int)) * (y.den : Int))) * g.num), _, hend.1, IntV.more (K := ((max (1 + ((p.length - k + 2) + Kc)) (((Kw + 2 * (p.length - k) + 2) + 1) + 1) + 1) + 1)) (aT.ext (az.t (aQ.t aI))).raw xq, NatV.more (K := ((((p.length - k + 2) + Kc) + 1) + 1)) ((int_mag aR).ext aI).raw xq, hend.2⟩, by omega⟩
theorem Nt.den_step {C : Int} {p : List Rat} {i : Nat} (hC : 0 < C) (hD : ∀ j, j < i → ∃ t : Int, ((p.getD j 0).den : Int) * t = C) : 0 < C * (((p.getD i 0).den : Int) / ((Nat.gcd (p.getD i 0).den C.natAbs : Nat) : Int)) ∧ ∀ j, j < i + 1 → ∃ t : Int, ((p.getD j 0).den : Int) * t = C * (((p.getD i 0).den : Int) / ((Nat.gcd (p.getD i 0).den C.natAbs : Nat) : Int)) := by
 have hd0 := (p.getD i 0).den_pos
 obtain ⟨d, hd⟩ : ∃ d, (p.getD i 0).den = d := ⟨_, rfl⟩
 rw [hd] at hd0 ⊢
 have hg0 : 0 < Nat.gcd d C.natAbs := Nat.gcd_pos_of_pos_left _ hd0
 obtain ⟨a, ha⟩ := Nat.gcd_dvd_left d C.natAbs
 obtain ⟨b, hb⟩ := Nat.gcd_dvd_right d C.natAbs
 obtain ⟨g, hg⟩ : ∃ g, Nat.gcd d C.natAbs = g := ⟨_, rfl⟩
 rw [hg] at ha hb hg0 ⊢
 have hC' : C = (g : Int) * (b : Int) := by rw [← Int.natCast_mul, ← hb]; omega
 have hq : (d : Int) / (g : Int) = (a : Int) := by rw [ha, Int.natCast_mul]; exact Int.mul_ediv_cancel_left _ xq
 have ha0 : 0 < a := Nat.pos_of_ne_zero (fun e => by rw [e, Nat.mul_zero] at ha; omega)
 rw [hq]
 refine ⟨Int.mul_pos hC xq, fun j hj => ?_⟩
 by_cases e : j = i
 ·rw [e, hd]
  exact ⟨(b : Int), by rw [hC', ha, Int.natCast_mul]; grind⟩
 obtain ⟨t, ht⟩ := hD j xq
 exact ⟨t * (a : Int), by rw [← ht]; grind⟩
def Nt.whL (p : List Rat) (C : Int) : List Int := p.map fun q => q.num * (C / (q.den : Int))
theorem Nt.whL_len {p : List Rat} {C : Int} : (Nt.whL p C).length = p.length := List.length_map ..
theorem Nt.whL_at {p : List Rat} {C : Int} {j : Nat} (h : j < p.length) : (Nt.whL p C).getD j 0 = (p.getD j 0).num * (C / ((p.getD j 0).den : Int)) := by
 unfold Nt.whL
 rw [qyg, List.getElem?_map, qyg, List.getElem?_eq_getElem h]; rfl
theorem Nt.whL_ok {p : List Rat} {C : Int} (hD : ∀ j, j < p.length → ∃ t : Int, ((p.getD j 0).den : Int) * t = C) : ∀ j, j < p.length → (((Nt.whL p C).getD j 0 : Int) : Rat) = p.getD j 0 * (C : Rat) := fun j hj => by
 obtain ⟨t, ht⟩ := hD j hj
 have hd0 := (p.getD j 0).den_pos
 rw [Nt.whL_at hj, ← ht, Int.mul_ediv_cancel_left _ xq, Rat.intCast_mul, Rat.intCast_mul, ← Nt.num_den9]
 grind
theorem k_errorsOf {u w : World} {y : Sl} {l : List Rat} {K M : Nat} {x : Sl} {N : Nat} {V : List Rat} (d : Dat u w) (hg : GrN u x N V 1) (ho : Nt.GrOK V N) (hy : PolV u y l K) (hl : l.length ≤ 60) (hB : 2 * (l.length * (K + 1) + 2) + K + 2 * l.length + 11 ≤ M) (hM : M ≤ 20000000) : qyc 62 #[x.v, y.v] w (Post u w fun v u' => ∃ z : Sl, v = z.v ∧ PolP u' z (Nt.erL V l N) M) := by
 have hxn : x.n = N := hg.len
 have hN12 := ho.n12
 have hN1 := ho.n1
 have hyl := hy.len
 refine zzm (args := [x.v, y.v]) Tryz.func62 rfl Tryz.ntmps62 (rs := [.tmp 4]) Tryz.results62 (le_b rfl) (le_b rfl) d ?_
 refine sq9 (zza 4 (.v (qyn)) (zzb (sq9 (zza 21 (.v (y.v)) (zzg 22 117 _ fun _ _ aM bx => qym (k_poTrim bx (hy.ext aM) xq xz) ?_)))))
 rintro _ u14 a8 ⟨aa, rfl, a7⟩
 have hly12 := a7.len
 refine zza 1 (.v (aa.v)) (zzb (zzd ?_))
 obtain ⟨p, hpe⟩ : ∃ p, Nt.trimQ l = p := ⟨_, rfl⟩
 have hP := a7
 rw [hpe] at hP
 have hpn := hP.len
 have hpl : p.length ≤ l.length := by rw [← hpe]; exact zzh l
 have hpK : p.length * (K + 1) ≤ l.length * (K + 1) := Nat.mul_le_mul_right _ hpl
 refine zzf (zzg 23 140 _ fun _ _ ao bA => qym (k_intOf bA (z := 1) xq xq) ?_)
 rintro _ bt an ⟨a1, rfl, bm⟩
 refine zzk 5 ⟨30, [.bool false, qyn]⟩ (zzj ⟨30, a1.cs⟩ ty30 ?_)
 refine zzb (zzd (sq9 (zza 24 (.v (aa.v)) (zza 25 (zI aa.n) (zza 26 (zI 0) (zzb (zzt (zyn (I := fun a2 S' u' => ∃ (i : Nat) (ic : IL) (C : Int), (a2 = p.length - i) ∧ (i ≤ p.length) ∧ (0 < C) ∧ (∀ j, j < i → ∃ t : Int, ((p.getD j 0).den : Int) * t = C) ∧ (S' = St.of 92 [(0, .v (x.v)), (1, .v (aa.v)), (5, .adr 5 0), (24, .v (aa.v)), (25, zI aa.n), (26, zI i)] [(5, ⟨30, ic.cs⟩)]) ∧ (Ext bt u') ∧ (IntN u' ic C (i * (K + 1) + 2))) (fun m S u1 u2 e h => by obtain ⟨i, ic, C, hm, p0, p1, p2, hS, hE, f0⟩ := h; exact ⟨i, ic, C, hm, p0, p1, p2, hS, hE.trans e, f0.ext e⟩) _ yz ⟨0, a1, 1, rfl, by omega, yv, (fun j hj => absurd hj (Nat.not_lt_zero j)), rfl, (Ext.refl _), (IntN.more (K := 2) bm xq)⟩ ?_))))))))
 rintro a2 _ a6 ⟨i, ic, C, bs, hi, hC, hD, rfl, al, f0⟩
 have hiK : i * (K + 1) ≤ p.length * (K + 1) := Nat.mul_le_mul_right _ hi
 refine sq9 (zza 27 (zB (decide ((i : Int) < (aa.n : Int)))) (zzb (zzd (zzu (b := decide ((i : Int) < (aa.n : Int))) xj (fun aj => ?_) (fun aj => ?_)))))
 ·have qhb24 := qyt aj
  refine zzs (zzp ?_)
  refine zzd (zzt (sq9 ?_))
  have hl25 := (hP.ext (ao.t (an.t al))).len
  obtain ⟨af, b25, bf, aO, aP, aq⟩ := pol_atN (hP.ext (ao.t (an.t al))) (i := i) xq
  refine zya 28 (bf + i * 3) (n := aa.n) (off := bf) (sz := 3) (i := (i : Int)) xq aO xq xq sl27 (zym 29 af.cs aP ty32 (zzk 7 ⟨32, zw3⟩ (zzj ⟨32, af.cs⟩ ty32 ?_)))
  refine zzb (sq9 (zza 30 (.adr 7 2) (zzi 31 (.v (af.d.v)) ty28 zzl (zza 32 (.v (.agg #[.bool false, af.d.v])) (zzk 8 ⟨30, [.bool false, qyn]⟩ (zzj ⟨30, [.bool false, af.d.v]⟩ ty30 ?_))))))
  refine zzb (zzd (zzz [0, 0, 0, 6, 15, 31, 63, 63, 63, 0, 0, 1663, 3839, 8191] [(0, []), (1, []), (2, []), (9, []), (10, []), (3, []), (4, []), (5, []), (6, []), (7, []), (8, []), (11, []), (12, []), (13, [])] xj xj (zzi 34 (.v (.agg #[.bool false, af.d.v])) ty30 zze (zzi 35 (.v (.agg #[.bool false, af.d.v])) ty30 zze (zzi 36 (.v (ic.v)) ty30 zze (zzk 9 ⟨30, [.bool false, qyn]⟩ (zzk 10 ⟨30, [.bool false, qyn]⟩ (zzg 37 142 _ fun _ _ ar bw => qym (k_intGcd (i1 := (⟨false, af.d⟩ : IL)) (i2 := ic) bw ((RatN.den aq).ext ar).raw ((int_mag f0).ext ar).raw xq xq) ?_))))))))
  rintro _ u29 aW ⟨bG, rfl, bI⟩
  refine zzg 38 141 _ fun _ _ aE bu => qym (k_intDivI (i1 := (⟨false, af.d⟩ : IL)) (i2 := bG) bu (nat_int ((RatN.den aq).ext (ar.t (aW.t aE))).raw) (bI.ext aE) (Int.ofNat_lt.2 (Nat.gcd_pos_of_pos_left _ (Rat.den_pos (p.getD i 0)))) xq xq) ?_
  rintro _ u37 a9 ⟨au, aT, rfl, bB, h36⟩
  refine zza 33 (.v (.tuple #[au.v, aT.v, .int .i64 0])) (zza 39 (.v (au.v)) (zza 40 (.v (aT.v)) (zza 41 (zI 0) (zzj ⟨30, au.cs⟩ ty30 ?_))))
  refine zzj ⟨30, aT.cs⟩ ty30 ?_
  refine zza 11 (zI 0) (zzc 92 [(0, .v (x.v)), (1, .v (aa.v)), (5, .adr 5 0), (9, .adr 9 0), (24, .v (aa.v)), (25, zI aa.n), (26, zI i)] [(5, ⟨30, ic.cs⟩), (9, ⟨30, au.cs⟩)] (zzf (zzi 42 (.v (ic.v)) ty30 zze (zzi 43 (.v (au.v)) ty30 zze (zzg 44 143 _ fun _ _ aV bH => qym (k_intMul bH (f0.ext (ar.t (aW.t (aE.t (a9.t aV))))).raw (bB.ext aV).raw xq xq) ?_)))))
  rintro _ u43 bz ⟨bb, rfl, bp⟩
  refine zzj ⟨30, bb.cs⟩ ty30 ?_
  refine zzx ?_
  refine zzp (zzf (zyq 45 (x := zI (IntKind.i64.wrap ((i : Int) + 1))) (zI (i + 1 : Nat)) (eqI xk) (zza 26 (zI (i + 1 : Nat)) (zzx ?_))))
  have hst := Nt.den_step (i := i) hC hD
  refine ⟨_, ?_, _, by exact zzv _ _ _, i + 1, bb, (C * (((p.getD i 0).den : Int) / ((Nat.gcd ((p.getD i 0).den) ((C : Int).natAbs) : Nat) : Int))), rfl, by omega, hst.1, hst.2, rfl, (al.t (ar.t (aW.t (aE.t (a9.t (aV.t bz.ext)))))), (IntN.more (K := ((i * (K + 1) + 2) + (K + 1))) bp (by rw [Nat.succ_mul]; omega))⟩
  omega
 have qhb24 := qyf aj
 refine zyc (zzp (zzd ?_))
 obtain rfl : i = p.length := by omega
 have hWo := Nt.whL_ok hD
 have bg : IntN a6 ic C (p.length * (K + 1) + 2) := f0
 refine zzf (zza 46 (.v (aa.v)) (zza 47 (zI aa.n) (sy_make 48 (T := 191) (E := 30) (z := .agg #[.bool false, qyn]) (size := 2) (bytes := 32) aa.n (ils (List.replicate aa.n il0)) xj xj rfl rfl xq yk (made_ils _) ?_)))
 refine zza 12 (.slc 48 0 aa.n aa.n) (zzc 92 [(0, .v (x.v)), (1, .v (aa.v)), (5, .adr 5 0), (12, .slc 48 0 aa.n aa.n)] [(5, ⟨30, ic.cs⟩), (48, ⟨30, ils (List.replicate aa.n il0)⟩)] (zzd (sq9 (zza 49 (.v (aa.v)) (zza 50 (zI aa.n) (zza 51 (zI 0) (zzb (zzt (zyn (I := fun ba S' u' => ∃ (k : Nat) (L : List IL), (ba = p.length - k) ∧ (k ≤ p.length) ∧ (L.length = p.length) ∧ (S' = St.of 92 [(0, .v (x.v)), (5, .adr 5 0), (12, .slc 48 0 aa.n aa.n), (49, .v (aa.v)), (50, zI aa.n), (51, zI k)] [(5, ⟨30, ic.cs⟩), (48, ⟨30, ils L⟩)]) ∧ (Ext a6 u') ∧ (IlsN u' (L.take k) ((Nt.whL p C).take k) (K + (p.length * (K + 1) + 2 + 1)))) (fun m S u1 u2 e h => by obtain ⟨k, L, hm, p0, p1, hS, hE, f0⟩ := h; exact ⟨k, L, hm, p0, p1, hS, hE.trans e, f0.ext e⟩) _ yz ⟨0, List.replicate aa.n il0, rfl, by omega, yw, rfl, (Ext.refl _), IlsN.tnil _ _ _ _⟩ ?_)))))))))
 rintro ba _ u46 ⟨k, L, bh, hk, hL, rfl, ai, g0⟩
 refine sq9 (zza 52 (zB (decide ((k : Int) < (aa.n : Int)))) (zzb (zzd (zzu (b := decide ((k : Int) < (aa.n : Int))) xj (fun ag => ?_) (fun ag => ?_)))))
 ·have qhb47 := qyt ag
  refine zzs (zzp ?_)
  refine zzd (zzt (sq9 (zza 53 (zI k) ?_)))
  have hl48 := (hP.ext (ao.t (an.t (al.trans ai)))).len
  obtain ⟨am, b48, a3, aJ, aR, aD⟩ := pol_atN (hP.ext (ao.t (an.t (al.trans ai)))) (i := k) xq
  refine zya 54 (a3 + k * 3) (n := aa.n) (off := a3) (sz := 3) (i := (k : Int)) xq aJ xq xq sl27 (zym 55 am.cs aR ty32 (zzk 14 ⟨32, zw3⟩ (zza 13 (zI k) (zzj ⟨32, am.cs⟩ ty32 ?_))))
  refine zzb (sq9 (zzi 57 (.v (ic.v)) ty30 zze (zza 58 (.adr 14 2) (zzi 59 (.v (am.d.v)) ty28 zzl (zza 60 (.v (.agg #[.bool false, am.d.v])) (zzg 61 141 _ fun _ _ aC bj => qym (k_intDivI (i1 := ic) (i2 := (⟨false, am.d⟩ : IL)) bj (bg.ext (ai.trans aC)).raw (nat_intN ((RatN.den aD).ext aC)) (Int.ofNat_lt.2 (Rat.den_pos (p.getD k 0))) xq xq) ?_))))))
  rintro _ u54 aY ⟨aG, aX, rfl, br, h53⟩
  refine zza 56 (.v (.tuple #[aG.v, aX.v, .int .i64 0])) (zza 62 (.v (aG.v)) (zza 63 (.v (aX.v)) (zza 64 (zI 0) (zzk 15 ⟨30, [.bool false, qyn]⟩ (zzk 16 ⟨30, [.bool false, qyn]⟩ (zzj ⟨30, aG.cs⟩ ty30 ?_))))))
  refine zzj ⟨30, aX.cs⟩ ty30 ?_
  refine zza 17 (zI 0) (zzb (zzf (zza 65 (.slc 48 0 aa.n aa.n) (zza 66 (zI k) (zza 67 (.adr 14 0) (zzi 68 (.v (.agg #[.bool am.s, am.m.v])) ty30 zze (zzi 69 (.v (aG.v)) ty30 zze (zzg 70 143 _ fun _ _ aH bl => qym (k_intMul bl ((RatN.num aD).ext (aC.t (aY.t aH))).raw (br.ext aH).raw xq xq) ?_))))))))
  rintro _ u60 bc ⟨aU, rfl, bk⟩
  refine zyw 71 (off' := k * 2) (n := aa.n) (off := 0) (sz := 2) (i := (k : Int)) sl191 xq xq xq ?_
  refine zyv (V := ⟨30, ils L⟩) (off := k * 2) (ils (L.set k aU)) ty30 (by rw [ils_len]; omega) (setL_ils (r := aU) (i := k) xq rfl) ?_
  refine zzx ?_
  refine zzp (zzf (zyq 72 (x := zI (IntKind.i64.wrap ((k : Int) + 1))) (zI (k + 1 : Nat)) (eqI xk) (zza 51 (zI (k + 1 : Nat)) (zzx ?_))))
  refine ⟨_, ?_, _, by exact zzv _ _ _, k + 1, (L.set k aU), rfl, by omega, (by rw [List.length_set]; exact hL), rfl, (ai.t (aC.t (aY.t (aH.t bc.ext)))), (IlsN.tstep (g0.ext (aC.t (aY.t (aH.t bc.ext)))) xq (by rw [Nt.whL_len]; omega) (IntN.more (K := (K + ((p.length * (K + 1) + 2) + 1))) bk xq) (Nt.whL_at xq).symm)⟩
  omega
 have qhb47 := qyf ag
 refine zyc (zzp (zzd (zyp (r := 12) (t := 48) [12, 48] xw xj (by rfl) (by rfl) xj (fun aI bd aF bi aQ => ?_))))
 have hLw := IlsN.tdone (g0.ext aF) xq (by rw [Nt.whL_len]; omega)
 have a0 : ItsN bd ⟨some ⟨aI, 0, none⟩, aa.n, aa.n⟩ (Nt.whL p C) (K + (p.length * (K + 1) + 2 + 1)) := its_data1 aQ yk hLw xq
 refine zzf (zza 73 (.v (x.v)) (zza 74 (zI x.n) (sy_make 75 (T := 26) (E := 32) (z := .agg #[.bool false, qyn, qyn]) (size := 3) (bytes := 56) x.n (rcs (List.replicate x.n rl0)) xj xj rfl rfl xq yk (made_rcs _) ?_)))
 refine zza 18 (.slc 75 0 x.n x.n) (zzc 92 [(0, .v (x.v)), (5, .adr 5 0), (12, .v (.slice (some ⟨aI, 0, none⟩) aa.n aa.n)), (18, .slc 75 0 x.n x.n)] [(5, ⟨30, ic.cs⟩), (75, ⟨32, rcs (List.replicate x.n rl0)⟩)] (zzd (sq9 (zza 76 (.v (x.v)) (zza 77 (zI x.n) (zza 78 (zI 0) (zzb (zzt (zyn (I := fun a4 S' u' => ∃ (j : Nat) (L : List RL), (a4 = N - j) ∧ (j ≤ N) ∧ (L.length = N) ∧ (S' = St.of 92 [(5, .adr 5 0), (12, .v (.slice (some ⟨aI, 0, none⟩) aa.n aa.n)), (18, .slc 75 0 x.n x.n), (76, .v (x.v)), (77, zI x.n), (78, zI j)] [(5, ⟨30, ic.cs⟩), (75, ⟨32, rcs L⟩)]) ∧ (Ext bd u') ∧ (RtsP u' (L.take j) ((Nt.erL V l N).take j) M)) (fun m S u1 u2 e h => by obtain ⟨j, L, hm, p0, p1, hS, hE, f0⟩ := h; exact ⟨j, L, hm, p0, p1, hS, hE.trans e, f0.ext e⟩) _ yz ⟨0, List.replicate x.n rl0, rfl, by omega, yw, rfl, (Ext.refl _), RtsP.tnil _ _ _ _⟩ ?_)))))))))
 rintro a4 _ u69 ⟨j, L, bq, hj, bC, rfl, ay, e0⟩
 refine sq9 (zza 79 (zB (decide ((j : Int) < (x.n : Int)))) (zzb (zzd (zzu (b := decide ((j : Int) < (x.n : Int))) xj (fun ak => ?_) (fun ak => ?_)))))
 ·have qhb70 := qyt ak
  refine zzs (zzp ?_)
  refine zzd (zzt (sq9 (zza 80 (zI j) ?_)))
  have bv : x.n = N := GrN.len (hg.ext (aM.t (a8.t (ao.t (an.t (al.trans (ai.trans (aF.trans ay))))))))
  obtain ⟨ac, ad, ae, b71, be, aL, ap, ax, aw, az, aB, av⟩ := gr_at (hg.ext (aM.t (a8.t (ao.t (an.t (al.trans (ai.trans (aF.trans ay)))))))) (i := j) xq
  refine zya 81 (be + j * 9) (n := x.n) (off := be) (sz := 9) (i := (j : Int)) xq aL xq (by first | omega | (have h9 : j < N := xq; omega)) sl23 (zym 82 (ac.cs ++ ad.cs ++ ae.cs) (gr_pt ap ax aw) ty56 (zzk 20 ⟨56, [.bool false, qyn, qyn, .bool false, qyn, qyn, .bool false, qyn, qyn]⟩ (zza 19 (zI j) (zzj ⟨56, ac.cs ++ ad.cs ++ ae.cs⟩ ty56 ?_))))
  refine zzb (zzf (zza 83 (.slc 75 0 x.n x.n) (zza 84 (zI j) (zzi 85 (.v (.agg #[.bool ac.s, ac.m.v, ac.d.v, .bool ad.s, ad.m.v, ad.d.v, .bool ae.s, ae.m.v, ae.d.v])) ty56 zze (zza 86 (.v (.slice (some ⟨aI, 0, none⟩) aa.n aa.n)) (zzi 87 (.v (ic.v)) ty30 zze (zzg 88 144 _ fun _ _ ah bF => qym (k_missAt (r0 := ac) (r1 := ad) (r2 := ae) (p := p) bF (az.ext ah) (aB.ext ah) (av.ext ah) (a0.ext (ay.trans ah)) (bg.ext (ai.trans (aF.trans (ay.trans ah)))) hC Nt.whL_len hWo xq xq xq) ?_)))))))
  rintro _ u75 a5 ⟨aK, rfl, aN⟩
  refine zyw 89 (off' := j * 3) (n := x.n) (off := 0) (sz := 3) (i := (j : Int)) sl26 xq xq xq ?_
  refine zyv (V := ⟨32, rcs L⟩) (off := j * 3) (rcs ((L).set j aK)) ty32 zq (zyx (r := aK) (i := j) zk rfl) ?_
  refine zzx ?_
  refine zzp (zzf (zyq 90 (x := zI (IntKind.i64.wrap ((j : Int) + 1))) (zI (j + 1 : Nat)) (eqI xk) (zza 78 (zI (j + 1 : Nat)) (zzx ?_))))
  refine ⟨_, ?_, _, by exact zzv _ _ _, j + 1, (L).set j aK, rfl, by omega, (by rw [List.length_set]; exact bC), rfl, (ay.t (ah.t a5.ext)), (RtsP.tstep (e0.ext (ah.t a5.ext)) xq (by rw [Nt.erL_len]; omega) (RatP.more (K := ((K + (p.length * (K + 1) + 2 + 1)) + (p.length * (K + 1) + 2) + 2 * p.length + 10)) aN xq) (by rw [Nt.erL_at xq]; unfold Nt.gE; rw [← hpe, Nt.evL_trim]))⟩
  omega
 have qhb70 := qyf ak
 refine zyc (zzp (zzd (zyp (r := 18) (t := 75) [18, 75] xw xj (by rfl) (by rfl) xj (fun aA bD bo bn aZ => ?_))))
 have hLp := RtsP.tdone (e0.ext bo) xq (by rw [Nt.erL_len]; omega)
 have aS : PolP bD ⟨some ⟨aA, 0, none⟩, x.n, x.n⟩ (Nt.erL V l N) M := polp_data1 aZ yk hLp xq
 refine zzf (zza 91 (.v (.slice (some ⟨aA, 0, none⟩) x.n x.n)) (zza 4 (.v (.slice (some ⟨aA, 0, none⟩) x.n x.n)) (zzb (zzo (ret0 [.slice (some ⟨aA, 0, none⟩) x.n x.n] ⟨zzq, trivial⟩ fun u84 bE => ?_)))))
 exact ⟨(⟨some ⟨aA, 0, none⟩, x.n, x.n⟩ : Sl), rfl, (aS.ext bE)⟩
section
variable {k lo lo' n c i j : Nat} {ty : TypeId} {u u' v : World} {w0 : Base} {u0 : World} {x y : Sl} {cs : List Value} {l : List Int} {z : Int} {a : Addr}
theorem nu_ics : ∀ v ∈ ics l, NU v := fun v hv => by
 obtain ⟨x, _, rfl⟩ := List.mem_map.1 hv
 exact nu_i64 x
theorem MutQ.elI (m : MutQ 1 ty lo u y (ics l)) (hj : j < l.length) : ∃ b, y.a = some ⟨b, 0, none⟩ ∧ u.cell? ⟨b, 0 + j * 1, none⟩ = some (.int .i64 (l.getD j 0)) := by
 obtain ⟨b, h1, h2⟩ := m.mutL.cell (j := j) (by rw [zwi]; exact hj)
 exact ⟨b, h1, by rw [Nat.mul_one, h2, ics_at hj]⟩
theorem setL_icsQ (h : j < l.length) : setL (ics l) (0 + j * 1) (Value.int .i64 z).cells.toList = ics (l.set j z) := by
 have := setL_cons (cs := ics l) (off := j) (v := .int .i64 z) (vs := []) (by rw [zwi]; exact h)
 rw [setL_nil] at this
 rw [Nat.zero_add, Nat.mul_one, ← ics_set]
 exact this.symm
theorem MutQ.slr (m : MutQ 1 ty lo u y (ics l)) : SlR .i64 u y.a y.n y.c l := by
 obtain ⟨h1, h2, h3, h4⟩ := id m
 rw [zwi, Nat.mul_one] at h1
 refine ⟨h1, h2, h3, fun h0 => ?_⟩
 rcases h4 with h4 | ⟨b, all, g1, g2, g3, g4, _, _⟩
 ·rw [h4] at h0; exact absurd h0 (Nat.lt_irrefl 0)
 refine ⟨b, 0, g1, zxa g2, fun i hi => ?_⟩
 obtain ⟨b2, e1, e2⟩ := m.elI (j := i) xq
 rw [g1] at e1
 injection e1 with e1; injection e1 with e1 _ _
 subst e1
 rw [Nat.mul_one] at e2
 rw [e2, qyg]
theorem MutQ.blkF (m : MutQ k ty lo u y cs) {b : Nat} (hb : b ∈ mqB y []) : lo ≤ b ∧ ∃ ob, u.heap[b]? = some ob ∧ ob ≠ hidO := by
 obtain ⟨s, hs, e⟩ := List.mem_filterMap.1 hb
 rw [List.mem_singleton.1 hs] at e
 rcases m.2.2.2 with h1 | ⟨b', all, h1, h2, _, _, h5, _⟩
 ·rw [h1] at e; cases e
 rw [h1] at e; injection e with e; subst e
 exact ⟨h5, _, h2, cells_not_hid⟩
theorem MutQ.mayF (m : MutQ k ty lo u y cs) (hl : u0.heap.size ≤ lo) : ∀ b ∈ mqB y [], MayB w0 u0 b ∧ ∃ ob, u.heap[b]? = some ob ∧ ob ≠ hidO := fun b hb => ⟨.inl (Nat.le_trans hl (m.blkF hb).1), (m.blkF hb).2⟩
theorem ExtF.rootL (e : ExtF (mqB y []) u u') (m : MutQ k ty v.heap.size u y cs) (r : Ext v u) : Ext v u' :=
 ⟨Nat.le_trans r.size e.size, fun q o hq hh => e.vis q o (fun hm => by have h1 := (m.blkF hm).1; have h2 := zxa hq; omega) (r.vis q o hq hh) hh⟩
end
section
variable {P : Program} {ops : Array Oper} {w0 : Base} {u0 : World} {S : St} {u : World} {o : Oper} {p : List Tmp} {rest : List (Oper × List Tmp)} {K : St → World → Prop}
theorem sy_tailD {seq : Bool} (d : Tmp) {T : TypeId} {x g : Operand} {b off n c : Nat} {k : IntKind} {i : Int} (lo : Nat) {sz : Nat} (hT : SlIs P T sz) (hi : i = lo) (h1 : lo ≤ n) (h2 : n ≤ c) (h3 : c ≠ lo)
  (kk : sym P ops w0 u0 seq rest (S.set d (.v (.slice (some ⟨b, off + lo * sz, none⟩) (n - lo) (c - lo)))) u K) (hw : Wants ops o S := by exact zwf xj) (hd : o.dst = some d := by kernel_rfl) (hop : o.op = .slice T x (some g) none none := by rfl) (hf : freeB S d = true := by kernel_rfl)
  (hx : evO S x = some (.v (.slice (some ⟨b, off, none⟩) n c)) := by rfl) (hg : evO S g = some (.v (.int k i)) := by rfl) : sym P ops w0 u0 seq ((o, p) :: rest) S u K := by
 subst hi
 obtain ⟨E, agg, hu, hE⟩ := hT
 refine .inl ⟨by rw [hop]; exact (by decide : (0 : Nat) ≠ 2), .set (.v (.slice (some ⟨b, off + lo * sz, none⟩) (n - lo) (c - lo))), ⟨zxy hd hf, .inl ⟨(fun t ht => by cases ht), fun B a w u' hr he hdt => ⟨hw B a hr, ?_⟩⟩⟩, ?_⟩
 ·have e1 : (execOp a.eval o).run P w = (do pure (Next.value (← Instr.sliceAt T (a.eval x) (some (a.eval g)) none none)) : Sem Next).run P w := by unfold execOp; rw [hop]; rfl
  rw [e1, ev_eval hr hx, ev_eval hr hg]
  refine run_val ?_
  show (Instr.sliceAt T (.slice (some ⟨b, off, none⟩) n c) (some (.int k lo)) none none).run P w = .ok (.slice (some ⟨b, off + lo * sz, none⟩) (n - lo) (c - lo)) w
  have hs := (hE w).2
  simp [Instr.sliceAt, Instr.slice, Instr.sliceBounds, Instr.sliceBound, asIntOf, run_underlying hu, go_sem, hs, h1, h3, Addr.add]
 show sym P ops w0 u0 seq rest (S.put o.dst (some _)) u K
 rw [hd]; exact kk
theorem sy_copyD (d : Tmp) {T E : TypeId} {dx sx : Operand} {b off dn dc b2 off2 sn sc : Nat} {cs news : List Value} {ty : TypeId} (hub : u.heap[b]? = some (.cells cs.toArray ty (0, 0))) (hb : MayB w0 u0 b) (hT : P.underlying T = some (.slice E)) (hE : (P.info? E).map (·.size) = some 1)
  (hn : news.length = Nat.min sn dn) (hsrc : ∀ j v, news[j]? = some v → u.cell? ((⟨b2, off2, none⟩ : Addr).add j) = some v) (hl : off + news.length ≤ cs.length) (hone : ∀ v ∈ news, v.oneCell' = true)
  (k : ∀ u1, u1.heap[b]? = some (.cells (setL cs off news).toArray ty (0, 0)) → ExtB b u u1 → sym P ops w0 u0 true rest (S.set d (.v (goInt news.length))) u1 K)
  (hw : Wants ops o S := by exact zwf xj) (hd : o.dst = some d := by kernel_rfl) (hop : o.op = .call { callee := .builtin .copy, args := #[dx, sx], argTypes := #[T, T] } := by rfl) (hf : freeB S d = true := by kernel_rfl)
  (hx : evO S dx = some (.v (.slice (some ⟨b, off, none⟩) dn dc)) := by rfl) (hz : evO S sx = some (.v (.slice (some ⟨b2, off2, none⟩) sn sc)) := by rfl) : sym P ops w0 u0 true ((o, p) :: rest) S u K := by
 refine .inr (.inr (.inl ⟨.inl rfl, fun B a w u' he hrep => ⟨hw B a hrep.regs, ?_⟩⟩))
 have hub' := he.cells hub
 have hwb := hrep.dat.ext.cells hub'
 obtain ⟨w', k1, k2, k3⟩ := run_storeCells (P := P) (b := b) (ty := ty) (base := off) news 0 w cs hwb xq hone
 have hld := run_loadCells_list (P := P) (w := w) ⟨b2, off2, none⟩ news (fun j v hv => hrep.dat.ext.cell (he.cell (hsrc j v hv)))
 have hrun : (Builtin.copy_ #[T, T] o.type #[.slice (some ⟨b, off, none⟩) dn dc, .slice (some ⟨b2, off2, none⟩) sn sc]).run P w = .ok (goInt news.length) w' := by
  cases hq : P.info? E with
  | none => simp [hq] at hE
  | some i =>
   have hi : i.size = 1 := by simpa [hq] using hE
   simp [Builtin.copy_, run_underlying hT, Builtin.lenOf, Builtin.firstCells, sizeOf, typeInfo, hq, hi, ← hn, hld, k1]
 unfold Oper.wp execOp
 simp only [hop, resolve, invoke, builtin, Sem.run_bind, Sem.run_pure, Result.andThen_ok, List.map_toArray, List.map_cons, List.map_nil, ev_eval hrep.regs hx, ev_eval hrep.regs hz, SV.conc, hrun]
 simp only [Nat.add_zero] at k2
 have hlt := zxa hub'
 have hdat : Dat (setW u' b (.cells (setL cs off news).toArray ty (0, 0))) w' := setW_dat (cs := #[]) (ty := 0) hrep.dat k2 k3
 have hr2 := hrep.mut (F := [b]) (fun b' hm => by simp at hm; subst hm; exact ⟨hb, _, hub', by unfold hidO; intro e; cases e⟩) hdat (onlyB_bel k3) setW_growF
 have hr3 := hr2.set (d := some d) (x := some (.v (goInt news.length))) (v := goInt news.length) (fun s hs => (zxy hd hf s (by rw [hd]; exact hs)).1) (fun z e => by injection e with e; rw [← e]; rfl) (fun z t e ht => by injection e with e; rw [← e] at ht; cases ht)
 show ∃ S' B' u'' u2, Rep w0 u0 S' B' (a.put o.dst _) w' u'' ∧ _
 rw [hd]
 exact ⟨_, B, _, _, hr3, (fun e => by cases e), (fun e => by cases e), Ext.refl _, k _ (setW_eq hlt) (ExtF.toB (.pre he setW_growF.extF))⟩
theorem sy_copyJ (d : Tmp) {T E : TypeId} {dx sx : Operand} {b off dn dc off2 sn sc lo i j m : Nat} {l : List Int} {ty : TypeId} (y : Sl) (hm : MutQ 1 ty lo u y (ics l)) (hmay : ∀ a, y.a = some a → MayB w0 u0 a.block) (hb : y.a = some ⟨b, 0, none⟩) (hT : P.underlying T = some (.slice E)) (hE : (P.info? E).map (·.size) = some 1)
  (ho : off = 0 + j * 1) (ho2 : off2 = 0 + i * 1) (hn : m = Nat.min sn dn) (hi : i + m ≤ l.length) (hj : j + m ≤ l.length)
  (k : ∀ u1, MutQ 1 ty lo u1 y (ics (l.take j ++ (l.drop i).take m ++ l.drop (j + m))) → ExtX y u u1 → sym P ops w0 u0 true rest (S.set d (.v (goInt m))) u1 K)
  (hw : Wants ops o S := by exact zwf xj) (hd : o.dst = some d := by kernel_rfl) (hop : o.op = .call { callee := .builtin .copy, args := #[dx, sx], argTypes := #[T, T] } := by rfl) (hf : freeB S d = true := by kernel_rfl)
  (hx : evO S dx = some (.v (.slice (some ⟨b, off, none⟩) dn dc)) := by rfl) (hz : evO S sx = some (.v (.slice (some ⟨b, off2, none⟩) sn sc)) := by rfl) : sym P ops w0 u0 true ((o, p) :: rest) S u K := by
 obtain ⟨q1, q2, q3, q4⟩ := id hm
 have hlm : ((l.drop i).take m).length = m := by rw [List.length_take, List.length_drop]; omega
 rcases q4 with q4 | ⟨b', all, g1, g2, g3, g4, g5, g6⟩
 ·subst q4; cases hb
 have hmb := hmay _ g1
 rw [hb] at g1; injection g1 with g1; injection g1 with g1 _ _; subst g1
 rw [zwi] at q1
 have hnk : y.n * 1 ≤ all.length := by rw [g3]; exact Nat.mul_le_mul_right _ q2
 have hlen : (ics ((l.drop i).take m)).length = m := by rw [zwi, hlm]
 have e2 : ics (l.take j ++ (l.drop i).take m ++ l.drop (j + m)) = setL (ics l) (j * 1) (ics ((l.drop i).take m)) := by
  unfold setL
  rw [hlen]
  unfold ics
  rw [List.map_append, List.map_append, List.map_take, List.map_drop, Nat.mul_one]
 have hsrc : ∀ q v, (ics ((l.drop i).take m))[q]? = some v → u.cell? ((⟨b, off2, none⟩ : Addr).add q) = some v := fun q v hv => by
  have hq : q < m := by have := (List.getElem?_eq_some_iff.1 hv).1; omega
  obtain ⟨b2, z1, z2⟩ := hm.elI (j := i + q) xq
  rw [hb] at z1; injection z1 with z1; injection z1 with z1 _ _; subst z1
  have e3 : (⟨b, off2, none⟩ : Addr).add q = ⟨b, 0 + (i + q) * 1, none⟩ := by
   unfold Addr.add; rw [ho2]; simp <;> omega
  rw [e3, z2, ← hv]
  unfold ics
  rw [List.getElem?_map, List.getElem?_take_of_lt hq, List.getElem?_drop, qyg, List.getElem?_eq_getElem (show i + q < l.length by omega)]
  rfl
 refine sy_copyD (cs := all) (news := ics ((l.drop i).take m)) d g2 hmb hT hE (by rw [hlen]; exact hn) hsrc xq ics_one (fun u1 k1 k2 => ?_) hw hd hop hf hx hz
 rw [hlen]
 refine k u1 ?_ (k2.toX hb)
 rw [e2]
 have hjo : j * 1 = off := by omega
 rw [hjo]
 refine ⟨?_, q2, q3, .inr ⟨b, _, hb, k1, ?_, ?_, g5, nu_setL g6 nu_ics⟩⟩
 ·rw [setL_length (by rw [hlen, zwi]; omega), zwi]; exact q1
 ·rw [setL_length xq]; exact g3
 rw [setL_take xq hnk, g4]
end
namespace Nt
theorem cp_left {l : List Int} {a : Int} {n : Nat} (h : l.length = n + 1) : (l.take 1 ++ (l.drop 0).take n ++ l.drop (1 + n)).set 0 a = a :: l.take n := by
 match l, h with
 | x :: l, h =>
  have : l.length = n := by simpa using h
  have h2 : (x :: l).drop (1 + n) = [] := List.drop_of_length_le yw
  rw [h2, List.append_nil, List.drop_zero]
  simp
theorem cp_right {l : List Int} {a : Int} {n : Nat} (h : l.length = n + 1) : (l.take 0 ++ (l.drop 1).take n ++ l.drop (0 + n)).set n a = l.drop 1 ++ [a] := by
 have h1 : (l.drop 1).length = n := by rw [List.length_drop]; omega
 rw [List.take_zero, List.nil_append, List.take_of_length_le xq, Nat.zero_add]
 obtain ⟨x, hx⟩ : ∃ x, l.drop n = [x] := by
  match hd : l.drop n, (show (l.drop n).length = 1 by rw [List.length_drop]; omega) with
  | [x], _ => exact ⟨x, rfl⟩
 rw [hx, List.set_append_right _ _ xq, h1, Nat.sub_self]; rfl
end Nt
theorem k_exError {u w : World} {y : Sl} {l : List Rat} {K M : Nat} {x : Sl} {N : Nat} {V : List Rat} (d : Dat u w) (hg : GrN u x N V 1) (ho : Nt.GrOK V N) (hy : PolV u y l K) (hl : l.length ≤ 60) (hB : 2 * (l.length * (K + 1) + 2) + K + 2 * l.length + 11 ≤ M) (hM : M ≤ 20000000) : qyc 34 #[x.v, y.v] w (Post u w fun v u' => ∃ (r : RL) (a : Nat), v = .tuple #[r.v, .int .i64 (a : Int), .int .i64 0] ∧ RatN u' r (Nt.absQ (Nt.gE (Nt.gX V) (Nt.gW V) (Nt.gY V) l a)) M ∧ Nt.Gst (Nt.erL V l N) N a) := by
 have hxn : x.n = N := hg.len
 have hN12 := ho.n12
 have hN1 := ho.n1
 refine zzm (args := [x.v, y.v]) Tryz.func34 rfl Tryz.ntmps34 (rs := [.cell 4 32, .tmp 5, .tmp 6]) Tryz.results34 (le_b rfl) (le_b rfl) d ?_
 refine sq9 (zzk 4 ⟨32, zw3⟩ (zza 5 (zI 0) (zza 6 (zI 0) (zzb (zzd (sq9 (zza 9 (.v (x.v)) (zzg 10 89 _ fun _ _ ag ao => qym (k_lsqValid ao (hg.ext ag) ho) ?_))))))))
 rintro _ u12 aj rfl
 refine zza 11 (zB false) (zzb (zys xj (zzs (zzp ?_))))
 refine sq9 (zza 14 (.v (x.v)) (zza 15 (.v (y.v)) (zzg 16 62 _ fun _ _ ai al => qym (k_errorsOf (M := M) al (hg.ext (ag.t (aj.t ai))) ho (hy.ext (ag.t (aj.t ai))) hl hB hM) ?_)))
 rintro _ u18 g19 ⟨z16, rfl, ah⟩
 refine zzg 17 63 _ fun _ _ ak aq => qym (k_greatest (n := N) aq (ah.ext ak) Nt.erL_len xq xq xq) ?_
 rintro _ u23 g24 ⟨ad, ac, rfl, af, aa⟩
 have hgl22 := Nt.Gst.lt aa
 refine zza 13 (.v (.tuple #[ad.v, .int .i64 ac])) (zza 18 (.v (ad.v)) (zza 19 (zI ac) (zzk 7 ⟨32, zw3⟩ (zzj ⟨32, ad.cs⟩ ty32 ?_))))
 refine zza 8 (zI ac) (zzb (sq9 (zzi 20 (.v (ad.v)) ty32 zze (zzg 21 68 _ fun _ _ ar am => qym (k_ratTrim am ((RatP.raw af).ext ar) xq) ?_))))
 rintro _ u29 g30 ⟨ae, rfl, ap⟩
 refine zza 22 (zI ac) (zzj ⟨32, ae.cs⟩ ty32 ?_)
 refine zza 5 (zI ac) (zza 6 (zI 0) (zzb (zzo (ret0 [ae.v, .int .i64 ac, .int .i64 0] ⟨zzr ty32 zze, zzq, zzq, trivial⟩ fun u32 an => ?_))))
 have hrr := (ap.ext an)
 rw [Nt.erL_at (Nt.Gst.lt aa)] at hrr
 exact ⟨ae, ac, rfl, hrr, aa⟩
namespace Nt
theorem up_no {N : Int} {L : List Int} {i : Nat} {z : Int} (hi : i < L.length) (hz : z = -1 ∧ i = 0 ∨ 0 < i ∧ z = L.getD (i - 1) 0) (h : L.getD i 0 ≤ z ∨ N ≤ L.getD i 0) : ¬ Up N L := fun hu => by
 have h1 := hu.1 i hi
 rcases h with h | h
 ·rcases hz with ⟨h2, h3⟩ | ⟨h2, h3⟩
  ·omega
  have := hu.2 (i - 1) i xq hi; omega
 omega
structure UpI (N : Int) (L : List Int) (i : Nat) : Prop where
 bd : ∀ j, j < i → 0 ≤ L.getD j 0 ∧ L.getD j 0 < N
 asc : ∀ a b, a < b → b < i → L.getD a 0 < L.getD b 0
theorem upI_0 (N : Int) (L : List Int) : UpI N L 0 := ⟨fun j hj => absurd hj (Nat.not_lt_zero j), fun a b _ hb => absurd hb (Nat.not_lt_zero b)⟩
theorem UpI.step {N : Int} {L : List Int} {i : Nat} {z : Int} (h : UpI N L i) (hz : z = -1 ∧ i = 0 ∨ 0 < i ∧ z = L.getD (i - 1) 0) (h1 : z < L.getD i 0) (h2 : L.getD i 0 < N) : UpI N L (i + 1) := by
 have hz1 : -1 ≤ z := by
  rcases hz with hz | hz
  ·omega
  have := h.bd (i - 1) xq; omega
 refine ⟨fun j hj => ?_, fun a b hab hb => ?_⟩
 ·by_cases e : j = i
  ·rw [e]; omega
  exact h.bd j xq
 by_cases e : b = i
 ·rw [e]
  rcases hz with hz | hz
  ·omega
  by_cases e2 : a = i - 1
  ·rw [e2]; omega
  have := h.asc a (i - 1) xq xq; omega
 exact h.asc a b hab xq
theorem UpI.done {N : Int} {L : List Int} (h : UpI N L L.length) : Up N L := ⟨h.bd, h.asc⟩
theorem up_no1 {N : Int} {L : List Int} {i : Nat} (hi : i < L.length) (h : L.getD i 0 < 0 ∨ N ≤ L.getD i 0 ∨ 0 < i ∧ L.getD i 0 ≤ L.getD (i - 1) 0) : ¬ Up N L := fun hu => by
 have h1 := hu.1 i hi
 rcases h with h | h | ⟨h, h2⟩
 ·omega
 ·omega
 have := hu.2 (i - 1) i xq hi; omega
theorem UpI.step1 {N : Int} {L : List Int} {i : Nat} (h : UpI N L i) (h0 : 0 ≤ L.getD i 0) (h2 : L.getD i 0 < N) (h1 : 0 < i → L.getD (i - 1) 0 < L.getD i 0) : UpI N L (i + 1) := by
 by_cases e : i = 0
 ·subst e; exact h.step (z := -1) (.inl ⟨rfl, rfl⟩) xq h2
 exact h.step (z := L.getD (i - 1) 0) (.inr ⟨by omega, rfl⟩) (h1 xq) h2
end Nt
theorem k_ascending {u w : World} {z : Sl} {L : List Int} (d : Dat u w) (hz : SlR .i64 u z.a z.n z.c L) (hb : ∀ x ∈ L, -9223372036854775808 ≤ x ∧ x ≤ 9223372036854775807) {N : Int} : qyc 77 #[z.v, .int .i64 N] w (Post u w fun v _ => ∃ b : Bool, v = .bool b ∧ (b = true ↔ Nt.Up N L)) := by
 have hzn : L.length = z.n := hz.1
 have hzm : z.n ≤ maxLen := Nat.le_trans hz.2.1 hz.2.2.1
 unfold maxLen at hzm
 refine zzm (args := [z.v, .int .i64 N]) Tryz.func77 rfl Tryz.ntmps77 (rs := [.tmp 4]) Tryz.results77 (le_b rfl) (le_b rfl) d ?_
 refine sq9 (zza 4 (zB false) (zzb (sq9 (zza 5 (zI (-1)) (zzb (zzd (sq9 (zza 8 (.v (z.v)) (zza 9 (zI z.n) (zza 10 (zI 0) (zzb ?_)))))))))))
 refine zzt (zyn (I := fun ah S' u' => ∃ (i : Nat) (zz : Int), (ah = L.length - i) ∧ (i ≤ L.length) ∧ (Nt.UpI N L i) ∧ (zz = -1 ∧ i = 0 ∨ 0 < i ∧ zz = L.getD (i - 1) 0) ∧ (-9223372036854775808 ≤ zz) ∧ (zz ≤ 9223372036854775807) ∧ (S' = St.of 24 [(1, zI N), (5, zI zz), (8, .v (z.v)), (9, zI z.n), (10, zI i)] []) ∧ (Ext u u')) (fun m S u1 u2 e h => by obtain ⟨i, zz, hm, p0, p1, p2, p3, p4, hS, hE⟩ := h; exact ⟨i, zz, hm, p0, p1, p2, p3, p4, hS, hE.trans e⟩) _ yz ⟨0, (-1), rfl, by omega, (Nt.upI_0 _ _), (.inl ⟨rfl, rfl⟩), by omega, by omega, rfl, (Ext.refl _)⟩ ?_)
 rintro ah _ u11 ⟨i, zz, ai, hi, hU, hzz, hb0, hb1, rfl, ae⟩
 refine sq9 (zza 11 (zB (decide ((i : Int) < (z.n : Int)))) (zzb (zzd (zzu (b := decide ((i : Int) < (z.n : Int))) xj (fun aa => ?_) (fun aa => ?_)))))
 ·have qhb12 := qyt aa
  refine zzs (zzp ?_)
  refine zzd (zzt (sq9 ?_))
  have hl13 := ((hz.ext ae)).1
  obtain ⟨b13, ag, ad, af⟩ := ints_at (hz.ext ae) (i := i) xq
  have hz13 := ints_bd hb xq i
  refine zya 12 (ag + i * 1) (n := z.n) (off := ag) (sz := 1) (i := (i : Int)) xq ad xq xq sl22 (zyl 13 (.int .i64 (L.getD i 0)) af ty3 (zza 7 (zI (L.getD i 0)) (zzb (zzd (sq9 (zza 14 (zI (L.getD i 0)) (zza 15 (zI zz) (zza 16 (zB (decide ((L.getD i 0) ≤ zz))) ?_))))))))
  rcases Bool.eq_false_or_eq_true (decide ((L.getD i 0) ≤ zz)) with hs14 | hs14
  ·refine zyq 17 (x := zB (decide ((L.getD i 0) ≤ zz))) (zB true) (by rw [hs14]) ?_
   have qhs14 := qyt hs14
   refine zzn 18 (uw 3 false true 17) (zzn 19 (uw 3 false true 17) (zzn 20 (uw 3 false true 17) (zza 21 (zB true) (zzb (zyr xj (sq9 (zza 4 (zB false) (zzb (zzo (zzw (zyu (zzw (zyt (zyu (zzw (ret0 [.bool false] ⟨zzq, trivial⟩ fun u15 e16 => ?_))))))))))))))))
   simp only [decide_eq_true_eq] at aa
   simp only [decide_eq_true_eq] at hs14
   exact ⟨false, rfl, ⟨fun h => absurd h yv, fun h => absurd h (Nt.up_no xq hzz xq)⟩⟩
  refine zyq 17 (x := zB (decide ((L.getD i 0) ≤ zz))) (zB false) (by rw [hs14]) ?_
  have qhs14 := qyf hs14
  refine zza 18 (zI (L.getD i 0)) ?_ (hw := w1 3 false 17)
  refine zza 19 (zI N) ?_ (hw := w1 3 false 17)
  refine zza 20 (zB (decide (N ≤ (L.getD i 0)))) ?_ (hw := w1 3 false 17)
  refine zza 21 (zB (decide (N ≤ (L.getD i 0)))) (zzb (zzu (b := decide (N ≤ (L.getD i 0))) xj (fun ac => ?_) (fun ac => ?_)))
  ·have qhb17 := qyt ac
   refine sq9 (zza 4 (zB false) (zzb (zzo (zzw (zyu (zzw (zyt (zyu (zzw (ret0 [.bool false] ⟨zzq, trivial⟩ fun u18 e19 => ?_))))))))))
   simp only [decide_eq_true_eq] at aa
   simp only [decide_eq_false_iff_not] at hs14
   simp only [decide_eq_true_eq] at ac
   exact ⟨false, rfl, ⟨fun h => absurd h yv, fun h => absurd h (Nt.up_no xq hzz xq)⟩⟩
  have qhb17 := qyf ac
  refine zzs (zzp ?_)
  refine zzf (zza 22 (zI (L.getD i 0)) (zza 5 (zI (L.getD i 0)) (zzx ?_)))
  refine zzp (zzf (zyq 23 (x := zI (IntKind.i64.wrap ((i : Int) + 1))) (zI (i + 1 : Nat)) (eqI xk) (zza 10 (zI (i + 1 : Nat)) (zzx ?_))))
  simp only [decide_eq_true_eq] at aa
  simp only [decide_eq_false_iff_not] at hs14
  simp only [decide_eq_false_iff_not] at ac
  refine ⟨_, ?_, _, by exact zzv _ _ _, i + 1, (L.getD i 0), rfl, by omega, (hU.step hzz xq xq), (.inr ⟨by omega, by rw [Nat.add_sub_cancel]⟩), (ints_bd hb xq i).1, (ints_bd hb xq i).2, rfl, ae⟩
  omega
 have qhb12 := qyf aa
 refine zyc (zzp (sq9 (zza 4 (zB true) (zzb (zzo (ret0 [.bool true] ⟨zzq, trivial⟩ fun u20 e21 => ?_))))))
 have hie : i = L.length := by omega
 rw [hie] at hU
 exact ⟨true, rfl, ⟨fun _ => hU.done, fun _ => rfl⟩⟩
theorem k_ascends {u w : World} {z : Sl} {L : List Int} (d : Dat u w) (hz : SlR .i64 u z.a z.n z.c L) (hb : ∀ x ∈ L, -9223372036854775808 ≤ x ∧ x ≤ 9223372036854775807) {N : Int} : qyc 87 #[z.v, .int .i64 N] w (Post u w fun v _ => ∃ b : Bool, v = .bool b ∧ (b = true ↔ Nt.Up N L)) := by
 have hzn : L.length = z.n := hz.1
 have hzm : z.n ≤ maxLen := Nat.le_trans hz.2.1 hz.2.2.1
 unfold maxLen at hzm
 refine zzm (args := [z.v, .int .i64 N]) Tryz.func87 rfl Tryz.ntmps87 (rs := [.tmp 4]) Tryz.results87 (le_b rfl) (le_b rfl) d ?_
 refine sq9 (zza 4 (zB false) (zzb (zzd (sq9 (zza 7 (.v (z.v)) (zza 8 (zI z.n) (zza 9 (zI 0) (zzb (zzt (zyn (I := fun aj S' u' => ∃ (i : Nat), (aj = L.length - i) ∧ (i ≤ L.length) ∧ (Nt.UpI N L i) ∧ (S' = St.of 35 [(0, .v (z.v)), (1, zI N), (7, .v (z.v)), (8, zI z.n), (9, zI i)] []) ∧ (Ext u u')) (fun m S u1 u2 e h => by obtain ⟨i, hm, p0, p1, hS, hE⟩ := h; exact ⟨i, hm, p0, p1, hS, hE.trans e⟩) _ yz ⟨0, rfl, by omega, (Nt.upI_0 _ _), rfl, (Ext.refl _)⟩ ?_))))))))))
 rintro aj _ u11 ⟨i, al, hi, hU, rfl, ad⟩
 refine sq9 (zza 10 (zB (decide ((i : Int) < (z.n : Int)))) (zzb (zzd (zzu (b := decide ((i : Int) < (z.n : Int))) xj (fun aa => ?_) (fun aa => ?_)))))
 ·have qhb12 := qyt aa
  refine zzs (zzp ?_)
  refine zzd (zzt (sq9 (zza 11 (zI i) ?_)))
  have hl13 := ((hz.ext ad)).1
  obtain ⟨b13, ai, ae, ag⟩ := ints_at (hz.ext ad) (i := i) xq
  have hz13 := ints_bd hb xq i
  refine zya 12 (ai + i * 1) (n := z.n) (off := ai) (sz := 1) (i := (i : Int)) xq ae xq xq sl22 (zyl 13 (.int .i64 (L.getD i 0)) ag ty3 (zza 5 (zI i) (zza 6 (zI (L.getD i 0)) (zzb (sq9 (zza 14 (zI (L.getD i 0)) (zza 15 (zB (decide ((L.getD i 0) < 0))) ?_)))))))
  rcases Bool.eq_false_or_eq_true (decide ((L.getD i 0) < 0)) with hs14 | hs14
  ·refine zyq 16 (x := zB (decide ((L.getD i 0) < 0))) (zB true) (by rw [hs14]) ?_
   have qhs14 := qyt hs14
   refine zzn 17 (uw 2 false true 16) (zzn 18 (uw 2 false true 16) (zzn 19 (uw 2 false true 16) (zza 20 (zB true) (zza 21 (zB true) (zzn 22 (uw 7 false true 21) (zzn 23 (uw 7 false true 21) (zzn 24 (uw 7 false true 21) (zzn 25 (unwantedU (g := 10) (b := true) (t := 24) xj xj xj) (zzn 26 (unwantedU (g := 10) (b := true) (t := 24) xj xj xj) (zzn 27 (unwantedU (g := 10) (b := true) (t := 24) xj xj xj) (zzn 28 (unwantedU (g := 10) (b := true) (t := 24) xj xj xj) ?_)))))))))))
   refine zzn 29 (unwantedU (g := 10) (b := true) (t := 24) xj xj xj) (zzn 30 (unwantedU (g := 10) (b := true) (t := 24) xj xj xj) (zzn 31 (unwantedU (g := 10) (b := true) (t := 24) xj xj xj) (zzn 32 (uw 7 false true 21) (zza 33 (zB true) (zzb (zyr xj (sq9 (zza 4 (zB false) (zzc 35 [(4, zB false)] [] (zzo (zyu (zzw (zyt (zyu (zzw (ret0 [.bool false] ⟨zzq, trivial⟩ fun u15 e16 => ?_))))))))))))))))
   simp only [decide_eq_true_eq] at aa
   simp only [decide_eq_true_eq] at hs14
   exact ⟨false, rfl, ⟨fun h => absurd h yv, fun h => absurd h (Nt.up_no1 (i := i) xq xq)⟩⟩
  refine zyq 16 (x := zB (decide ((L.getD i 0) < 0))) (zB false) (by rw [hs14]) ?_
  have qhs14 := qyf hs14
  refine zza 17 (zI (L.getD i 0)) ?_ (hw := w1 2 false 16)
  refine zza 18 (zI N) ?_ (hw := w1 2 false 16)
  refine zza 19 (zB (decide (N ≤ (L.getD i 0)))) ?_ (hw := w1 2 false 16)
  refine zza 20 (zB (decide (N ≤ (L.getD i 0)))) ?_
  rcases Bool.eq_false_or_eq_true (decide (N ≤ (L.getD i 0))) with hs17 | hs17
  ·refine zyq 21 (x := zB (decide (N ≤ (L.getD i 0)))) (zB true) (by rw [hs17]) ?_
   have qhs17 := qyt hs17
   refine zzn 22 (uw 7 false true 21) (zzn 23 (uw 7 false true 21) (zzn 24 (uw 7 false true 21) (zzn 25 (unwantedU (g := 10) (b := true) (t := 24) xj xj xj) (zzn 26 (unwantedU (g := 10) (b := true) (t := 24) xj xj xj) (zzn 27 (unwantedU (g := 10) (b := true) (t := 24) xj xj xj) (zzn 28 (unwantedU (g := 10) (b := true) (t := 24) xj xj xj) (zzn 29 (unwantedU (g := 10) (b := true) (t := 24) xj xj xj) (zzn 30 (unwantedU (g := 10) (b := true) (t := 24) xj xj xj) (zzn 31 (unwantedU (g := 10) (b := true) (t := 24) xj xj xj) (zzn 32 (uw 7 false true 21) (zza 33 (zB true) ?_)))))))))))
   refine zzb (zyr xj (sq9 (zza 4 (zB false) (zzc 35 [(4, zB false)] [] (zzo (zyu (zzw (zyt (zyu (zzw (ret0 [.bool false] ⟨zzq, trivial⟩ fun u18 e19 => ?_)))))))))))
   simp only [decide_eq_true_eq] at aa
   simp only [decide_eq_false_iff_not] at hs14
   simp only [decide_eq_true_eq] at hs17
   exact ⟨false, rfl, ⟨fun h => absurd h yv, fun h => absurd h (Nt.up_no1 (i := i) xq xq)⟩⟩
  refine zyq 21 (x := zB (decide (N ≤ (L.getD i 0)))) (zB false) (by rw [hs17]) ?_
  have qhs17 := qyf hs17
  refine zza 22 (zI i) ?_ (hw := w1 7 false 21)
  refine zza 23 (zB (decide ((0 : Int) < (i : Int)))) ?_ (hw := w1 7 false 21)
  rcases Bool.eq_false_or_eq_true (decide ((0 : Int) < (i : Int))) with hs20 | hs20
  ·refine zyq 24 (x := zB (decide ((0 : Int) < (i : Int)))) (zB true) (by rw [hs20]) ?_ (hw := w1 7 false 21)
   have qhs20 := qyt hs20
   refine zza 25 (.v (z.v)) ?_ (hw := w1 10 true 24)
   refine zza 26 (zI i) ?_ (hw := w1 10 true 24)
   refine zyq 27 (x := zI (IntKind.i64.wrap ((i : Int) - 1))) (zI (i - 1 : Nat)) (eqI xk) ?_ (hw := w1 10 true 24)
   have hl21 := ((hz.ext ad)).1
   obtain ⟨b21, ak, af, ah⟩ := ints_at (hz.ext ad) (i := i - 1) xq
   have hz21 := ints_bd hb xq (i - 1)
   refine zya 28 (ak + (i - 1) * 1) (n := z.n) (off := ak) (sz := 1) (i := ((i - 1 : Nat) : Int)) xq af xq xq sl22 ?_ (hw := w1 10 true 24)
   refine zyl 29 (.int .i64 (L.getD (i - 1) 0)) ah ty3 ?_ (hw := w1 10 true 24)
   refine zza 30 (zI (L.getD i 0)) ?_ (hw := w1 10 true 24)
   refine zza 31 (zB (decide ((L.getD i 0) ≤ (L.getD (i - 1) 0)))) ?_ (hw := w1 10 true 24)
   refine zza 32 (zB (decide ((L.getD i 0) ≤ (L.getD (i - 1) 0)))) ?_ (hw := w1 7 false 21)
   refine zza 33 (zB (decide ((L.getD i 0) ≤ (L.getD (i - 1) 0)))) (zzb (zzu (b := decide ((L.getD i 0) ≤ (L.getD (i - 1) 0))) xj (fun ac => ?_) (fun ac => ?_)))
   ·have qhb22 := qyt ac
    refine sq9 (zza 4 (zB false) (zzc 35 [(4, zB false)] [] (zzo (zyu (zzw (zyt (zyu (zzw (ret0 [.bool false] ⟨zzq, trivial⟩ fun u23 e24 => ?_)))))))))
    simp only [decide_eq_true_eq] at aa
    simp only [decide_eq_false_iff_not] at hs14
    simp only [decide_eq_false_iff_not] at hs17
    simp only [decide_eq_true_eq] at hs20
    simp only [decide_eq_true_eq] at ac
    exact ⟨false, rfl, ⟨fun h => absurd h yv, fun h => absurd h (Nt.up_no1 (i := i) xq xq)⟩⟩
   have qhb22 := qyf ac
   refine zzs (zzp ?_)
   refine zzf (zyq 34 (x := zI (IntKind.i64.wrap ((i : Int) + 1))) (zI (i + 1 : Nat)) (eqI xk) (zza 9 (zI (i + 1 : Nat)) (zzx ?_)))
   simp only [decide_eq_true_eq] at aa
   simp only [decide_eq_false_iff_not] at hs14
   simp only [decide_eq_false_iff_not] at hs17
   simp only [decide_eq_true_eq] at hs20
   simp only [decide_eq_false_iff_not] at ac
   refine ⟨_, ?_, _, by exact zzv _ _ _, i + 1, rfl, by omega, (hU.step1 xq xq xq), rfl, ad⟩
   omega
  refine zyq 24 (x := zB (decide ((0 : Int) < (i : Int)))) (zB false) (by rw [hs20]) ?_ (hw := w1 7 false 21)
  have qhs20 := qyf hs20
  refine zzn 25 (uw 10 true false 24) (zzn 26 (uw 10 true false 24) (zzn 27 (uw 10 true false 24) (zzn 28 (uw 10 true false 24) (zzn 29 (uw 10 true false 24) (zzn 30 (uw 10 true false 24) (zzn 31 (uw 10 true false 24) (zza 32 (zB false) ?_ (hw := w1 7 false 21))))))))
  refine zza 33 (zB false) (zzb (zys xj (zzs (zzp ?_))))
  refine zzf (zyq 34 (x := zI (IntKind.i64.wrap ((i : Int) + 1))) (zI (i + 1 : Nat)) (eqI xk) (zza 9 (zI (i + 1 : Nat)) (zzx ?_)))
  simp only [decide_eq_true_eq] at aa
  simp only [decide_eq_false_iff_not] at hs14
  simp only [decide_eq_false_iff_not] at hs17
  simp only [decide_eq_false_iff_not] at hs20
  refine ⟨_, ?_, _, by exact zzv _ _ _, i + 1, rfl, by omega, (hU.step1 xq xq xq), rfl, ad⟩
  omega
 have qhb12 := qyf aa
 refine zyc (zzp (sq9 (zza 4 (zB true) (zzb (zzo (ret0 [.bool true] ⟨zzq, trivial⟩ fun u25 e26 => ?_))))))
 have hie : i = L.length := by omega
 rw [hie] at hU
 exact ⟨true, rfl, ⟨fun _ => hU.done, fun _ => rfl⟩⟩
theorem k_spread {u w : World} {N k : Nat} (d : Dat u w) (hk2 : 2 ≤ k) (hkN : k ≤ N) (hN12 : N ≤ 12) : qyc 60 #[.int .i64 (N : Int), .int .i64 (k : Int)] w (Post u w fun v u' => ∃ (b : Nat) (l : List Nat), v = .slice (some ⟨b, 0, none⟩) k k ∧ u.heap.size ≤ b ∧ u'.heap[b]? = some (.cells (ics (Nt.inl l)).toArray 3 (0, 0)) ∧ Nt.Rf N l (k - 1)) := by
 refine zzm (args := [.int .i64 N, .int .i64 k]) Tryz.func60 rfl Tryz.ntmps60 (rs := [.tmp 4]) Tryz.results60 (le_b rfl) (le_b rfl) d ?_
 refine sq9 (zza 4 (.v (qyn)) (zzb (sq9 (zza 9 (zI k) (sy_make 10 (T := 22) (E := 3) (z := .int .i64 0) (size := 1) (bytes := 8) k (ics (List.replicate k 0) ++ []) xj xj rfl rfl xq yk (by rw [List.append_nil]; exact made_ints _) ?_)))))
 refine zza 5 (.slc 10 0 k k) (zzc 54 [(0, zI N), (1, zI k), (5, .slc 10 0 k k)] [(10, ⟨3, ics (List.replicate k (0 : Int)) ++ []⟩)] (sq9 (zza 11 (zI k) (zyq 12 (x := zI (IntKind.i64.wrap ((k : Int) - 1))) (zI (k - 1 : Nat)) (eqI xk) (zza 6 (zI (k - 1 : Nat)) (zzb (zzd (sq9 (zza 7 (zI 1) (zzb (zzt ?_)))))))))))
 refine zyn (I := fun av S' u' => ∃ (i : Nat) (L : List Int), (av = k - i) ∧ (i ≤ k) ∧ (1 ≤ i) ∧ (Nt.SpI N k i L) ∧ (S' = St.of 54 [(0, zI N), (1, zI k), (5, .slc 10 0 k k), (6, zI (k - 1 : Nat)), (7, zI i)] [(10, ⟨3, ics L ++ []⟩)]) ∧ (Ext u u')) (fun m S u1 u2 e h => by obtain ⟨i, L, hm, p0, p1, p2, hS, hE⟩ := h; exact ⟨i, L, hm, p0, p1, p2, hS, hE.trans e⟩) _ yz ⟨1, (List.replicate k (0 : Int)), rfl, by omega, by omega, (Nt.spI_0 xq hkN), rfl, (Ext.refl _)⟩ ?_
 rintro av _ u11 ⟨i, L, aD, hi, aE, hS, rfl, aC⟩
 have hSb := hS.bd (i - 1) xq
 have hSl := hS.len
 refine zzd (sq9 (zza 13 (zI i) (zza 14 (zI k) (zza 15 (zB (decide ((i : Int) < (k : Int)))) (zzb (zzu (b := decide ((i : Int) < (k : Int))) xj (fun ac => ?_) (fun ac => ?_)))))))
 ·have qhb12 := qyt ac
  refine zzs (zzp ?_)
  refine zzd (zzt (sq9 (zza 18 (zI N) (zyq 19 (x := zI (IntKind.i64.wrap ((N : Int) - 1))) (zI (N - 1 : Nat)) (eqI xk) (zza 20 (zI i) ?_)))))
  obtain ⟨ag, an⟩ : ∃ m : Nat, (N - 1) * i = m := ⟨_, rfl⟩
  have aA : ag ≤ 121 := by rw [← an]; exact Nat.le_trans (Nat.mul_le_mul (show N - 1 ≤ 11 by omega) (show i ≤ 11 by omega)) yv
  have am : ((N - 1 : Nat) : Int) * ((i : Nat) : Int) = (ag : Int) := by rw [← an, Int.natCast_mul]
  refine zyq 21 (x := zI (IntKind.i64.wrap (((N - 1 : Nat) : Int) * ((i : Nat) : Int)))) (zI ag) (eqI (by rw [am, IntWalk.i64_in _ xq])) (zza 22 (zI i) ?_)
  obtain ⟨ae, al⟩ : ∃ m : Nat, ag * i = m := ⟨_, rfl⟩
  have ax : ae ≤ 1331 := by rw [← al]; exact Nat.le_trans (Nat.mul_le_mul (show ag ≤ 121 by omega) (show i ≤ 11 by omega)) yv
  have ao : ((ag : Nat) : Int) * ((i : Nat) : Int) = (ae : Int) := by rw [← al, Int.natCast_mul]
  refine zyq 23 (x := zI (IntKind.i64.wrap (((ag : Nat) : Int) * ((i : Nat) : Int)))) (zI ae) (eqI (by rw [ao, IntWalk.i64_in _ xq])) (zza 24 (zI (k - 1 : Nat)) (zyq 25 (x := zI (IntKind.i64.wrap ((3 : Int) * ((k - 1 : Nat) : Int)))) (zI ((3 * (k - 1) : Nat) : Int)) (eqI xk) (zza 26 (zI i) (zyq 27 (x := zI (IntKind.i64.wrap ((2 : Int) * (i : Int)))) (zI (2 * i : Nat)) (eqI xk) (zyq 28 (x := zI (IntKind.i64.wrap (((3 * (k - 1) : Nat) : Int) - ((2 * i : Nat) : Int)))) (zI (((3 * (k - 1)) - (2 * i) : Nat) : Int)) (eqI xk) ?_)))))
  obtain ⟨m29, aj⟩ : ∃ m : Nat, ae * ((3 * (k - 1)) - (2 * i)) = m := ⟨_, rfl⟩
  have az : m29 ≤ 43923 := by rw [← aj]; exact Nat.le_trans (Nat.mul_le_mul (show ae ≤ 1331 by omega) (show (3 * (k - 1)) - (2 * i) ≤ 33 by omega)) yv
  have ak : ((ae : Nat) : Int) * (((3 * (k - 1)) - (2 * i) : Nat) : Int) = (m29 : Int) := by rw [← aj, Int.natCast_mul]
  refine zyq 29 (x := zI (IntKind.i64.wrap (((ae : Nat) : Int) * (((3 * (k - 1)) - (2 * i) : Nat) : Int)))) (zI m29) (eqI (by rw [ak, IntWalk.i64_in _ xq])) (zza 30 (zI (k - 1 : Nat)) (zza 31 (zI (k - 1 : Nat)) ?_))
  obtain ⟨af, ad⟩ : ∃ m : Nat, (k - 1) * (k - 1) = m := ⟨_, rfl⟩
  have aw : af ≤ 121 := by rw [← ad]; exact Nat.le_trans (Nat.mul_le_mul (show k - 1 ≤ 11 by omega) (show k - 1 ≤ 11 by omega)) yv
  have ai : ((k - 1 : Nat) : Int) * ((k - 1 : Nat) : Int) = (af : Int) := by rw [← ad, Int.natCast_mul]
  refine zyq 32 (x := zI (IntKind.i64.wrap (((k - 1 : Nat) : Int) * ((k - 1 : Nat) : Int)))) (zI af) (eqI (by rw [ai, IntWalk.i64_in _ xq])) (zza 33 (zI (k - 1 : Nat)) ?_)
  obtain ⟨ah, aa⟩ : ∃ m : Nat, af * (k - 1) = m := ⟨_, rfl⟩
  have ay : ah ≤ 1331 := by rw [← aa]; exact Nat.le_trans (Nat.mul_le_mul (show af ≤ 121 by omega) (show k - 1 ≤ 11 by omega)) yv
  have ap : ((af : Nat) : Int) * ((k - 1 : Nat) : Int) = (ah : Int) := by rw [← aa, Int.natCast_mul]
  refine zyq 34 (x := zI (IntKind.i64.wrap (((af : Nat) : Int) * ((k - 1 : Nat) : Int)))) (zI ah) (eqI (by rw [ap, IntWalk.i64_in _ xq])) ?_
  have hq0 : ah ≠ 0 := fun e => by rw [e] at aa; have h9 := Nat.mul_pos (Nat.mul_pos (show 0 < k - 1 by omega) (show 0 < k - 1 by omega)) (show 0 < k - 1 by omega); rw [ad, aa] at h9; omega
  obtain ⟨pl, hpl⟩ : ∃ z : Int, (m29 : Int).tdiv (ah : Int) = z := ⟨_, rfl⟩
  have hplb : pl.natAbs ≤ m29 := by rw [← hpl, Int.natAbs_tdiv]; exact Nat.div_le_self _ _
  refine sy_quo 35 (n := (m29 : Int)) (m := (ah : Int)) pl xq (by rw [hpl]; exact IntWalk.i64_in _ xq) ?_
  refine zza 8 (zI pl) (zzb (zzf (zza 36 (.slc 10 0 k k) (zza 37 (zI i) (zza 38 (zI pl) (zza 39 (.slc 10 0 k k) (zza 40 (zI i) (zyq 41 (x := zI (IntKind.i64.wrap ((i : Int) - 1))) (zI (i - 1 : Nat)) (eqI xk) (zyw 42 (off' := (i - 1) * 1) (n := k) (off := 0) (sz := 1) (i := ((i - 1 : Nat) : Int)) sl22 xq xq xq ?_)))))))))
  refine zzi 43 (V := ⟨3, ics L ++ []⟩) (off := (i - 1) * 1) (zI (L.getD (i - 1) 0)) ty3 (part_intsX (l := L) (i := i - 1) (by rw [hS.len]; omega) rfl) (zyq 44 (x := zI (IntKind.i64.wrap ((L.getD (i - 1) 0) + 1))) (zI ((L.getD (i - 1) 0) + 1)) (by rw [IntWalk.i64_in _ xq]) (sy_maxN 45 (n := pl) (m := (L.getD (i - 1) 0) + 1) (v := max pl ((L.getD (i - 1) 0) + 1)) (by rw [Int.max_def]; split <;> split <;> omega) ?_))
  refine zza 46 (zI N) (zza 47 (zI k) (zyq 48 (x := zI (IntKind.i64.wrap ((N : Int) - (k : Int)))) (zI (N - k : Nat)) (eqI xk) (zza 49 (zI i) (zyq 50 (x := zI (IntKind.i64.wrap (((N - k : Nat) : Int) + (i : Int)))) (zI (((N - k) + i : Nat) : Int)) (eqI xk) (sy_minN 51 (n := max pl ((L.getD (i - 1) 0) + 1)) (m := (((N - k) + i : Nat) : Int)) (v := min (max pl ((L.getD (i - 1) 0) + 1)) ((N : Int) - k + i)) (by rw [Int.min_def]; split <;> split <;> omega) ?_)))))
  refine zyw 52 (off' := i * 1) (n := k) (off := 0) (sz := 1) (i := (i : Int)) sl22 xq xq xq ?_
  refine zyv (V := ⟨3, ics L ++ []⟩) (off := i * 1) (ics (L.set i (min (max pl ((L.getD (i - 1) 0) + 1)) ((N : Int) - k + i))) ++ []) ty3 (by rw [List.length_append, zwi, hS.len]; omega) (setL_intsX (z := min (max pl ((L.getD (i - 1) 0) + 1)) ((N : Int) - k + i)) (i := i) (by rw [hS.len]; omega) rfl) ?_
  refine zzx ?_
  refine zzp (zzf (zza 16 (zI i) (zyq 17 (x := zI (IntKind.i64.wrap ((i : Int) + 1))) (zI (i + 1 : Nat)) (eqI xk) (zza 7 (zI (i + 1 : Nat)) (zzx ?_)))))
  refine ⟨_, ?_, _, by exact zzv _ _ _, i + 1, (L.set i (min (max pl ((L.getD (i - 1) 0) + 1)) ((N : Int) - k + i))), rfl, by omega, by omega, (hS.step xq aE hkN), rfl, aC⟩
  omega
 have qhb12 := qyf ac
 refine zyc (zzp (zzd (zyp (r := 5) (t := 10) [5, 10] xw xj (by rfl) (by rfl) xj (fun aq u14 e15 au ar => ?_))))
 refine zzf (zza 53 (.v (.slice (some ⟨aq, 0, none⟩) k k)) (zza 4 (.v (.slice (some ⟨aq, 0, none⟩) k k)) (zzb (zzo (ret0 [.slice (some ⟨aq, 0, none⟩) k k] ⟨zzq, trivial⟩ fun u18 aB => ?_)))))
 obtain rfl : i = k := by omega
 obtain ⟨l, hl, hR⟩ := Nt.up_inl (n := i - 1) (hS.up hkN) (by rw [hS.len]; omega)
 have h9 := aB.cells ar
 rw [List.append_nil, hl] at h9
 exact ⟨aq, l, rfl, au, h9, hR⟩
namespace Nt
theorem tm2 (p : Nat) : (Int.tmod (p : Int) 2 == 1) = decide (p % 2 = 1) := by
 rw [show Int.tmod (p : Int) 2 = ((p % 2 : Nat) : Int) from (Int.ofNat_tmod p 2).symm]
 by_cases h : p % 2 = 1
 ·rw [h]; rfl
 rw [decide_eq_false h, beq_eq_false_iff_ne]; omega
theorem inl_app (l m : List Nat) : inl (l ++ m) = inl l ++ inl m := List.map_append
theorem inl_take (l : List Nat) (n : Nat) : inl (l.take n) = (inl l).take n := List.map_take
theorem inl_drop (l : List Nat) (n : Nat) : inl (l.drop n) = (inl l).drop n := List.map_drop
theorem exL_a {l : List Nat} {a pl : Nat} {like : Bool} (h0 : 0 < l.length) (h : ((pl : Int) == 0) = true) (hl : like = true) : (inl l).set 0 (a : Int) = inl (exL l a like pl) := by
 have h1 : pl = 0 := by simpa using h
 unfold exL
 rw [if_pos h1, hl, if_pos rfl]
 match l, h0 with
 | x :: l, _ => rfl
theorem exL_b {l : List Nat} {a pl k : Nat} {like : Bool} (h0 : l.length = k) (hk : 1 ≤ k) (h : ((pl : Int) == 0) = true) (hl : like = false) : ((inl l).take 1 ++ ((inl l).drop 0).take (k - 1) ++ (inl l).drop (1 + (k - 1))).set 0 (a : Int) = inl (exL l a like pl) := by
 have h1 : pl = 0 := by simpa using h
 unfold exL
 rw [if_pos h1, hl, if_neg yv, cp_left (by rw [inl_len]; omega), ← inl_take, h0]; rfl
theorem exL_c {l : List Nat} {a pl : Nat} {like : Bool} (h : ((pl : Int) == 0) = false) (hl : ((Int.tmod (pl : Int) 2 == 1) == like) = true) : (inl l).set (pl - 1) (a : Int) = inl (exL l a like pl) := by
 have h1 : pl ≠ 0 := by simpa using h
 unfold exL
 rw [tm2, beq_iff_eq] at hl
 rw [if_neg h1, if_pos hl, inl_set]
theorem exL_d {l : List Nat} {a pl : Nat} {like : Bool} (h : ((pl : Int) == 0) = false) (hl : ((Int.tmod (pl : Int) 2 == 1) == like) = false) (h2 : pl < l.length) : (inl l).set pl (a : Int) = inl (exL l a like pl) := by
 have h1 : pl ≠ 0 := by simpa using h
 unfold exL
 rw [tm2, beq_eq_false_iff_ne] at hl
 rw [if_neg h1, if_neg hl, if_pos h2, inl_set]
theorem exL_e {l : List Nat} {a pl k : Nat} {like : Bool} (h0 : l.length = k) (hk : 1 ≤ k) (h : ((pl : Int) == 0) = false) (hl : ((Int.tmod (pl : Int) 2 == 1) == like) = false) (h2 : ¬ pl < l.length) : ((inl l).take 0 ++ ((inl l).drop 1).take (k - 1) ++ (inl l).drop (0 + (k - 1))).set (k - 1) (a : Int) = inl (exL l a like pl) := by
 have h1 : pl ≠ 0 := by simpa using h
 unfold exL
 rw [tm2, beq_eq_false_iff_ne] at hl
 rw [if_neg h1, if_neg hl, if_neg h2, cp_right (by rw [inl_len]; omega), inl_app, inl_drop]; rfl
theorem cp_len {l : List Int} {i j m : Nat} (hi : i + m ≤ l.length) (hj : j + m ≤ l.length) : (l.take j ++ (l.drop i).take m ++ l.drop (j + m)).length = l.length := by
 simp only [List.length_append, List.length_take, List.length_drop]; omega
end Nt
theorem k_exchange {u w v0 : World} {b k a : Nat} {l : List Nat} {like : Bool} (d : Dat u w) (hv : Ext v0 u) (hy : MutQ 1 3 v0.heap.size u (⟨some ⟨b, 0, none⟩, k, k⟩ : Sl) (ics (Nt.inl l))) (hl : l.length = k) (hk2 : 2 ≤ k) (hk9 : k ≤ 60) (ha : a ≤ 1000) : qyc 67 #[.slice (some ⟨b, 0, none⟩) k k, .int .i64 (a : Int), .bool like] w (PostF (mqB (⟨some ⟨b, 0, none⟩, k, k⟩ : Sl) []) u w fun v u' => v = .tuple #[] ∧ ∃ pl, pl ≤ k ∧ (∀ i, i < pl → (Nt.inl l).getD i 0 < (a : Int)) ∧ (pl < k → (a : Int) ≤ (Nt.inl l).getD pl 0) ∧ MutQ 1 3 v0.heap.size u' (⟨some ⟨b, 0, none⟩, k, k⟩ : Sl) (ics (Nt.inl (Nt.exL l a like pl)))) := by
 have hlI : (Nt.inl l).length = k := (Nt.inl_len l).trans hl
 refine calls_symF (F := mqB (⟨some ⟨b, 0, none⟩, k, k⟩ : Sl) []) (args := [.slice (some ⟨b, 0, none⟩) k k, .int .i64 (a : Int), .bool like]) Tryz.func67 rfl Tryz.ntmps67 (rs := []) Tryz.results67 (le_b rfl) (le_b rfl) d ?_
 refine sq9 (zza 8 (.v (.slice (some ⟨b, 0, none⟩) k k)) (zza 9 (zI k) (zza 6 (zI k) (zzb (sq9 (zza 7 (zI 0) (zzb (zzd (sw_joinP (I := fun S' u' => ∃ (pl : Nat), (pl ≤ k) ∧ (∀ i, i < pl → (Nt.inl l).getD i 0 < (a : Int)) ∧ (pl < k → (a : Int) ≤ (Nt.inl l).getD pl 0) ∧ (S' = St.of 73 [(0, .v (.slice (some ⟨b, 0, none⟩) k k)), (1, zI a), (2, zB like), (6, zI k), (7, zI pl)] []) ∧ (MutQ 1 3 v0.heap.size u' (⟨some ⟨b, 0, none⟩, k, k⟩ : Sl) (ics (Nt.inl l)))) ?_ (fun ah => ?_))))))))))
 ·rintro _ aY ac ⟨pl, hpl, hpb, hpe, rfl, hyJ⟩
  refine zzt (sq9 (zza 33 (zI pl) (zza 34 (zB ((pl : Int) == 0)) ?_)))
  rcases Bool.eq_false_or_eq_true ((pl : Int) == 0) with hs12 | hs12
  ·refine zyq 35 (x := zB ((pl : Int) == 0)) (zB true) (by rw [hs12]) ?_
   have ao : (pl : Int) = 0 := by simpa using hs12
   refine zza 36 (zB like) ?_ (hw := w1 2 true 35)
   refine zza 37 (zB like) (zza 32 (zB like) (zzb (zzu (b := like) xj (fun aa => ?_) (fun aa => ?_))))
   ·replace aa : like = true := aa
    refine zzf (zza 38 (.v (.slice (some ⟨b, 0, none⟩) k k)) (zza 39 (zI a) ?_))
    obtain ⟨b14, aw, a5⟩ := MutQ.elI (j := 0) hyJ (by rw [hlI]; omega)
    refine zya 40 (0 + 0 * 1) (n := k) (off := 0) (sz := 1) (i := 0) xq aw xq xq sl22 ?_
    have hq15 := hyJ
    refine sy_storeQ (v := .int .i64 a) (off := 0 + 0 * 1) (n := 1) (⟨some ⟨b, 0, none⟩, k, k⟩ : Sl) hq15 (fun a ha => .inr (mqB_x ha)) aw ty3 (by rw [zwi, hlI]; omega) (nu_ics (l := [(a : Int)])) (fun a8 aB aJ => ?_)
    have aK : MutQ 1 3 v0.heap.size a8 (⟨some ⟨b, 0, none⟩, k, k⟩ : Sl) (ics ((Nt.inl l).set 0 (a : Int))) := by rw [← setL_icsQ (by rw [hlI]; omega)]; exact aB
    have eX15r := ExtX.root aJ (MutQ.mutL hq15) (hv.trans ac)
    refine zzx ?_
    refine ⟨[], [], trivial, (fun t h => by cases h), fun B u1 e1 _ => ⟨rfl, pl, hpl, hpb, hpe, ?_⟩⟩
    rw [← (Nt.exL_a xq hs12 aa)]
    exact (aK).ext e1
   replace aa : like = false := aa
   refine sq9 (zza 42 (zI pl) (zza 43 (zB ((pl : Int) == 0)) (zza 41 (zB ((pl : Int) == 0)) (zzb (zzu (b := (pl : Int) == 0) xj (fun hb => ?_) (fun hb => ?_))))))
   ·clear hb
    refine zzd (sw_anyX xj 7 rfl ?_)
    refine takeX 0 44 6 (.v (.slice (some ⟨b, 0, none⟩) k k)) #[true, false, false, false, false, false, false] ?_
    refine takeX 2 46 5 (.v (.slice (some ⟨b, 0, none⟩) k k)) #[true, false, true, false, false, false, false] ?_
    refine takeX 3 47 4 (.v (.int .i64 (k : Int))) #[true, false, true, true, false, false, false] ?_
    refine takeXe 4 48 3 (x := .v (.int .i64 (IntKind.i64.wrap ((k : Int) - 1)))) (.v (.int .i64 ((k - 1 : Nat) : Int))) (eqI xk) #[true, false, true, true, true, false, false] ?_
    refine ready2 1 5 qz8 #[true, false, true, true, true, true, false] ?_ ?_
    ·skip
     refine sy_tailD 45 (i := 1) (n := k) (c := k) 1 sl22 rfl xq xq xq ?_
     refine zzx ?_
     refine ready1 5 qz5 ?_
     refine sy_front 49 (i := ((k - 1 : Nat) : Int)) (n := k) (c := k) (k - 1) sl22 rfl xq ?_
     refine zzx ?_
     refine ready1 6 qz6 ?_
     have hq16 := hyJ
     refine sy_copyJ 50 (E := 3) (i := 0) (j := 1) (off := 0 + 1 * 1) (dn := k - 1) (dc := k - 1) (off2 := 0) (sn := k - 1) (sc := k) (m := k - 1) (l := (Nt.inl l)) (⟨some ⟨b, 0, none⟩, k, k⟩ : Sl) hq16 (fun a ha => .inr (mqB_x ha)) rfl xj xj xq xq (by show _ = min _ _; omega) zx zx (fun u16 ap aS => ?_)
     have eX16r := ExtX.root aS (MutQ.mutL hq16) (hv.trans ac)
     have ad : ((Nt.inl l).take 1 ++ ((Nt.inl l).drop 0).take (k - 1) ++ (Nt.inl l).drop (1 + (k - 1))).length = k := (Nt.cp_len zx zx).trans ((Nt.inl_len l).trans hl)
     refine zzx ?_
     refine doneX ?_
     refine zzb (zzf (zza 51 (.v (.slice (some ⟨b, 0, none⟩) k k)) (zza 52 (zI a) ?_)))
     obtain ⟨b17, av, aX⟩ := MutQ.elI (j := 0) ap (by rw [ad]; omega)
     refine zya 53 (0 + 0 * 1) (n := k) (off := 0) (sz := 1) (i := 0) xq av xq xq sl22 ?_
     have hq18 := ap
     refine sy_storeQ (v := .int .i64 a) (off := 0 + 0 * 1) (n := 1) (⟨some ⟨b, 0, none⟩, k, k⟩ : Sl) hq18 (fun a ha => .inr (mqB_x ha)) av ty3 (by rw [zwi, ad]; omega) (nu_ics (l := [(a : Int)])) (fun a6 ay aQ => ?_)
     have ax : MutQ 1 3 v0.heap.size a6 (⟨some ⟨b, 0, none⟩, k, k⟩ : Sl) (ics (((Nt.inl l).take 1 ++ ((Nt.inl l).drop 0).take (k - 1) ++ (Nt.inl l).drop (1 + (k - 1))).set 0 (a : Int))) := by rw [← setL_icsQ (by rw [ad]; omega)]; exact ay
     have eX18r := ExtX.root aQ (MutQ.mutL hq18) eX16r
     refine zzx ?_
     refine ⟨[], [], trivial, (fun t h => by cases h), fun B u1 e1 _ => ⟨rfl, pl, hpl, hpb, hpe, ?_⟩⟩
     rw [← (Nt.exL_b hl xq hs12 aa)]
     exact (ax).ext e1
    refine sy_front 49 (i := ((k - 1 : Nat) : Int)) (n := k) (c := k) (k - 1) sl22 rfl xq ?_
    refine zzx ?_
    refine ready1 1 qz5 ?_
    refine sy_tailD 45 (i := 1) (n := k) (c := k) 1 sl22 rfl xq xq xq ?_
    refine zzx ?_
    refine ready1 6 qz6 ?_
    have hq19 := hyJ
    refine sy_copyJ 50 (E := 3) (i := 0) (j := 1) (off := 0 + 1 * 1) (dn := k - 1) (dc := k - 1) (off2 := 0) (sn := k - 1) (sc := k) (m := k - 1) (l := (Nt.inl l)) (⟨some ⟨b, 0, none⟩, k, k⟩ : Sl) hq19 (fun a ha => .inr (mqB_x ha)) rfl xj xj xq xq (by show _ = min _ _; omega) zx zx (fun u19 ar aT => ?_)
    have eX19r := ExtX.root aT (MutQ.mutL hq19) (hv.trans ac)
    have ag : ((Nt.inl l).take 1 ++ ((Nt.inl l).drop 0).take (k - 1) ++ (Nt.inl l).drop (1 + (k - 1))).length = k := (Nt.cp_len zx zx).trans ((Nt.inl_len l).trans hl)
    refine zzx ?_
    refine doneX ?_
    refine zzb (zzf (zza 51 (.v (.slice (some ⟨b, 0, none⟩) k k)) (zza 52 (zI a) ?_)))
    obtain ⟨b20, aq, aV⟩ := MutQ.elI (j := 0) ar (by rw [ag]; omega)
    refine zya 53 (0 + 0 * 1) (n := k) (off := 0) (sz := 1) (i := 0) xq aq xq xq sl22 ?_
    have hq21 := ar
    refine sy_storeQ (v := .int .i64 a) (off := 0 + 0 * 1) (n := 1) (⟨some ⟨b, 0, none⟩, k, k⟩ : Sl) hq21 (fun a ha => .inr (mqB_x ha)) aq ty3 (by rw [zwi, ag]; omega) (nu_ics (l := [(a : Int)])) (fun a7 aH aE => ?_)
    have aL : MutQ 1 3 v0.heap.size a7 (⟨some ⟨b, 0, none⟩, k, k⟩ : Sl) (ics (((Nt.inl l).take 1 ++ ((Nt.inl l).drop 0).take (k - 1) ++ (Nt.inl l).drop (1 + (k - 1))).set 0 (a : Int))) := by rw [← setL_icsQ (by rw [ag]; omega)]; exact aH
    have eX21r := ExtX.root aE (MutQ.mutL hq21) eX19r
    refine zzx ?_
    refine ⟨[], [], trivial, (fun t h => by cases h), fun B u1 e1 _ => ⟨rfl, pl, hpl, hpb, hpe, ?_⟩⟩
    rw [← (Nt.exL_b hl xq hs12 aa)]
    exact (aL).ext e1
   exact absurd hb (by rw [show ((pl : Int) == 0) = true from hs12]; decide)
  refine zyq 35 (x := zB ((pl : Int) == 0)) (zB false) (by rw [hs12]) ?_
  have ao : ¬ ((pl : Int) = 0) := by simpa using hs12
  refine zzn 36 (uw 2 true false 35) (zza 37 (zB false) (zza 32 (zB false) (zzb (zys xj (sq9 (zza 42 (zI pl) (zza 43 (zB ((pl : Int) == 0)) (zza 41 (zB ((pl : Int) == 0)) (zzb (zzu (b := (pl : Int) == 0) xj (fun hb => ?_) (fun hb => ?_)))))))))))
  ·exact absurd hb (by rw [show ((pl : Int) == 0) = false from hs12]; decide)
  clear hb
  refine sq9 (zza 55 (zI pl) (zza 56 (zI (Int.tmod (pl : Int) 2)) (zza 57 (zB ((Int.tmod (pl : Int) 2) == 1)) (zza 58 (zB like) (zza 59 (zB (((Int.tmod (pl : Int) 2) == 1) == like)) (zza 54 (zB (((Int.tmod (pl : Int) 2) == 1) == like)) (zzb (zzu (b := ((Int.tmod (pl : Int) 2) == 1) == like) xj (fun aj => ?_) (fun aj => ?_)))))))))
  ·refine zzf (zza 60 (.v (.slice (some ⟨b, 0, none⟩) k k)) (zza 61 (zI pl) (zyq 62 (x := zI (IntKind.i64.wrap ((pl : Int) - 1))) (zI (pl - 1 : Nat)) (eqI xk) (zza 63 (zI a) ?_))))
   obtain ⟨b23, au, a3⟩ := MutQ.elI (j := (pl - 1)) hyJ (by rw [hlI]; omega)
   refine zya 64 (0 + (pl - 1) * 1) (n := k) (off := 0) (sz := 1) (i := ((pl - 1 : Nat) : Int)) xq au xq xq sl22 ?_
   have hq24 := hyJ
   refine sy_storeQ (v := .int .i64 a) (off := 0 + (pl - 1) * 1) (n := 1) (⟨some ⟨b, 0, none⟩, k, k⟩ : Sl) hq24 (fun a ha => .inr (mqB_x ha)) au ty3 (by rw [zwi, hlI]; omega) (nu_ics (l := [(a : Int)])) (fun a0 aP aR => ?_)
   have aC : MutQ 1 3 v0.heap.size a0 (⟨some ⟨b, 0, none⟩, k, k⟩ : Sl) (ics ((Nt.inl l).set (pl - 1) (a : Int))) := by rw [← setL_icsQ (by rw [hlI]; omega)]; exact aP
   have eX24r := ExtX.root aR (MutQ.mutL hq24) (hv.trans ac)
   refine zzx ?_
   refine ⟨[], [], trivial, (fun t h => by cases h), fun B u1 e1 _ => ⟨rfl, pl, hpl, hpb, hpe, ?_⟩⟩
   rw [← (Nt.exL_c hs12 aj)]
   exact (aC).ext e1
  refine sq9 (zza 66 (zI pl) (zza 67 (zI k) (zza 68 (zB (decide ((pl : Int) < (k : Int)))) (zza 65 (zB (decide ((pl : Int) < (k : Int)))) (zzb (zzu (b := decide ((pl : Int) < (k : Int))) xj (fun af => ?_) (fun af => ?_)))))))
  ·have qhb25 := qyt af
   refine zzf (zza 69 (.v (.slice (some ⟨b, 0, none⟩) k k)) (zza 70 (zI pl) (zza 71 (zI a) ?_)))
   obtain ⟨b26, an, a1⟩ := MutQ.elI (j := pl) hyJ (by rw [hlI]; omega)
   refine zya 72 (0 + pl * 1) (n := k) (off := 0) (sz := 1) (i := (pl : Int)) xq an xq xq sl22 ?_
   have hq27 := hyJ
   refine sy_storeQ (v := .int .i64 a) (off := 0 + pl * 1) (n := 1) (⟨some ⟨b, 0, none⟩, k, k⟩ : Sl) hq27 (fun a ha => .inr (mqB_x ha)) an ty3 (by rw [zwi, hlI]; omega) (nu_ics (l := [(a : Int)])) (fun a4 aO aA => ?_)
   have az : MutQ 1 3 v0.heap.size a4 (⟨some ⟨b, 0, none⟩, k, k⟩ : Sl) (ics ((Nt.inl l).set pl (a : Int))) := by rw [← setL_icsQ (by rw [hlI]; omega)]; exact aO
   have eX27r := ExtX.root aA (MutQ.mutL hq27) (hv.trans ac)
   refine zzx ?_
   refine ⟨[], [], trivial, (fun t h => by cases h), fun B u1 e1 _ => ⟨rfl, pl, hpl, hpb, hpe, ?_⟩⟩
   rw [← (Nt.exL_d hs12 aj (by have h9 := qyt af; omega))]
   exact (az).ext e1
  have qhb25 := qyf af
  refine sq9 (zza 23 (.v (.slice (some ⟨b, 0, none⟩) k k)) (zza 24 (.v (.slice (some ⟨b, 0, none⟩) k k)) (sy_tailD 25 (i := 1) (n := k) (c := k) 1 sl22 rfl xq xq xq ?_)))
  have hq28 := hyJ
  refine sy_copyJ 26 (E := 3) (i := 1) (j := 0) (off := 0) (dn := k) (dc := k) (off2 := 0 + 1 * 1) (sn := k - 1) (sc := k - 1) (m := k - 1) (l := (Nt.inl l)) (⟨some ⟨b, 0, none⟩, k, k⟩ : Sl) hq28 (fun a ha => .inr (mqB_x ha)) rfl xj xj xq xq (by show _ = min _ _; omega) zx zx (fun u28 al aF => ?_)
  have eX28r := ExtX.root aF (MutQ.mutL hq28) (hv.trans ac)
  have ai : ((Nt.inl l).take 0 ++ ((Nt.inl l).drop 1).take (k - 1) ++ (Nt.inl l).drop (0 + (k - 1))).length = k := (Nt.cp_len zx zx).trans ((Nt.inl_len l).trans hl)
  refine zzb (zzf (zza 27 (.v (.slice (some ⟨b, 0, none⟩) k k)) (zza 28 (zI k) (zyq 29 (x := zI (IntKind.i64.wrap ((k : Int) - 1))) (zI (k - 1 : Nat)) (eqI xk) (zza 30 (zI a) ?_)))))
  obtain ⟨b29, am, a2⟩ := MutQ.elI (j := (k - 1)) al (by rw [ai]; omega)
  refine zya 31 (0 + (k - 1) * 1) (n := k) (off := 0) (sz := 1) (i := ((k - 1 : Nat) : Int)) xq am xq xq sl22 ?_
  have hq30 := al
  refine sy_storeQ (v := .int .i64 a) (off := 0 + (k - 1) * 1) (n := 1) (⟨some ⟨b, 0, none⟩, k, k⟩ : Sl) hq30 (fun a ha => .inr (mqB_x ha)) am ty3 (by rw [zwi, ai]; omega) (nu_ics (l := [(a : Int)])) (fun aZ aG aI => ?_)
  have aM : MutQ 1 3 v0.heap.size aZ (⟨some ⟨b, 0, none⟩, k, k⟩ : Sl) (ics (((Nt.inl l).take 0 ++ ((Nt.inl l).drop 1).take (k - 1) ++ (Nt.inl l).drop (0 + (k - 1))).set (k - 1) (a : Int))) := by rw [← setL_icsQ (by rw [ai]; omega)]; exact aG
  have eX30r := ExtX.root aI (MutQ.mutL hq30) eX28r
  refine zzx ?_
  refine ⟨[], [], trivial, (fun t h => by cases h), fun B u1 e1 _ => ⟨rfl, pl, hpl, hpb, hpe, ?_⟩⟩
  rw [← (Nt.exL_e hl xq hs12 aj (by have h9 := qyf af; omega))]
  exact (aM).ext e1
 refine zzt (zyn (I := fun aU S' u' => ∃ (pl : Nat), (aU = k - pl) ∧ (pl ≤ k) ∧ (∀ i, i < pl → (Nt.inl l).getD i 0 < (a : Int)) ∧ (S' = St.of 73 [(0, .v (.slice (some ⟨b, 0, none⟩) k k)), (1, zI a), (2, zB like), (6, zI k), (7, zI pl)] []) ∧ (Ext u u')) (fun m S u1 u2 e h => by obtain ⟨pl, hm, p0, p1, hS, hE⟩ := h; exact ⟨pl, hm, p0, p1, hS, hE.trans e⟩) _ yz ⟨0, rfl, by omega, (fun i hi => absurd hi (Nat.not_lt_zero i)), rfl, (Ext.refl _)⟩ ?_)
 rintro aU _ u31 ⟨pl, aW, hpl, hpb, rfl, ak⟩
 refine zzd (sq9 (zza 10 (zI pl) (zza 11 (zI k) (zza 12 (zB (decide ((pl : Int) < (k : Int)))) ?_))))
 rcases Bool.eq_false_or_eq_true (decide ((pl : Int) < (k : Int))) with hs32 | hs32
 ·refine zyq 13 (x := zB (decide ((pl : Int) < (k : Int)))) (zB true) (by rw [hs32]) ?_
  have qhs32 := qyt hs32
  refine zza 14 (.v (.slice (some ⟨b, 0, none⟩) k k)) ?_ (hw := w1 3 true 13)
  refine zza 15 (zI pl) ?_ (hw := w1 3 true 13)
  obtain ⟨b33, aN, aD⟩ := MutQ.elI (j := pl) (hy.ext ak) (by rw [hlI]; omega)
  refine zya 16 (0 + pl * 1) (n := k) (off := 0) (sz := 1) (i := (pl : Int)) xq aN xq xq sl22 ?_ (hw := w1 3 true 13)
  refine zyl 17 (.int .i64 ((Nt.inl l).getD pl 0)) aD ty3 ?_ (hw := w1 3 true 13)
  refine zza 18 (zI a) ?_ (hw := w1 3 true 13)
  refine zza 19 (zB (decide (((Nt.inl l).getD pl 0) < (a : Int)))) ?_ (hw := w1 3 true 13)
  refine zza 20 (zB (decide (((Nt.inl l).getD pl 0) < (a : Int)))) (zzb (zzu (b := decide (((Nt.inl l).getD pl 0) < (a : Int))) xj (fun ae => ?_) (fun ae => ?_)))
  ·have qhb34 := qyt ae
   refine zzs (zzp ?_)
   refine zzt (zzf (zza 21 (zI pl) (zyq 22 (x := zI (IntKind.i64.wrap ((pl : Int) + 1))) (zI (pl + 1 : Nat)) (eqI xk) (zza 7 (zI (pl + 1 : Nat)) (zzx ?_)))))
   simp only [decide_eq_true_eq] at hs32
   simp only [decide_eq_true_eq] at ae
   have hqx : (Nt.inl l).getD pl 0 < (a : Int) := by omega
   refine ⟨_, ?_, _, by exact zzv _ _ _, pl + 1, rfl, by omega, (fun i hi => by by_cases e : i = pl; (rw [e]; exact hqx); exact hpb i xq), rfl, ak⟩
   omega
  have qhb34 := qyf ae
  refine zyc (zzp ?_)
  simp only [decide_eq_true_eq] at hs32
  simp only [decide_eq_false_iff_not] at ae
  refine sw_weak (T := St.of 73 [(0, .v (.slice (some ⟨b, 0, none⟩) k k)), (1, zI a), (2, zB like), (6, zI k), (7, zI pl)] []) yz ?_
  exact ah _ _ ak ⟨pl, hpl, hpb, (by intro h; omega), rfl, (hy.ext ak)⟩
 refine zyq 13 (x := zB (decide ((pl : Int) < (k : Int)))) (zB false) (by rw [hs32]) ?_
 have qhs32 := qyf hs32
 refine zzn 14 (uw 3 true false 13) (zzn 15 (uw 3 true false 13) (zzn 16 (uw 3 true false 13) (zzn 17 (uw 3 true false 13) (zzn 18 (uw 3 true false 13) (zzn 19 (uw 3 true false 13) (zza 20 (zB false) (zzb (zys xj (zyc (zzp ?_))))))))))
 simp only [decide_eq_false_iff_not] at hs32
 refine sw_weak (T := St.of 73 [(0, .v (.slice (some ⟨b, 0, none⟩) k k)), (1, zI a), (2, zB like), (6, zI k), (7, zI pl)] []) yz ?_
 exact ah _ _ ak ⟨pl, hpl, hpb, (by intro h; omega), rfl, (hy.ext ak)⟩
namespace Nt
open Pol
def Bt (q : Rat) (B : Nat) : Prop := ∃ (z : Int) (D : Nat), 0 < D ∧ D ≤ 2 ^ B ∧ z.natAbs ≤ 2 ^ B ∧ q = mkRat z D
section
variable {p q : Rat} {A B : Nat}
theorem Bt.more (h : Bt q A) (k : A ≤ B) : Bt q B := by
 obtain ⟨z, D, h1, h2, h3, h4⟩ := h
 have := Nat.pow_le_pow_right (show 0 < 2 by omega) k
 exact ⟨z, D, h1, Nat.le_trans h2 this, Nat.le_trans h3 this, h4⟩
theorem Bt.rs (h : Bt q A) : Nt.rs q ≤ dg A := by
 obtain ⟨z, D, h1, h2, h3, h4⟩ := h
 rw [h4]
 exact rs_mk (dl_dg h3) (dl_dg h2) (by unfold dg; omega)
theorem Bt.mul (h : Bt p A) (k : Bt q B) : Bt (p * q) (A + B) := by
 obtain ⟨z, D, h1, h2, h3, h4⟩ := h
 obtain ⟨y, E, k1, k2, k3, k4⟩ := k
 refine ⟨z * y, D * E, Nat.mul_pos h1 k1, ?_, ?_, ?_⟩
 ·rw [Nat.pow_add]; exact Nat.mul_le_mul h2 k2
 ·rw [Int.natAbs_mul, Nat.pow_add]; exact Nat.mul_le_mul h3 k3
 rw [h4, k4, Rat.mkRat_mul_mkRat]
theorem Bt.neg (h : Bt q A) : Bt (-q) A := by
 obtain ⟨z, D, h1, h2, h3, h4⟩ := h
 exact ⟨-z, D, h1, h2, by rw [Int.natAbs_neg]; exact h3, by rw [h4, Rat.neg_mkRat]⟩
theorem Bt.add (h : Bt p A) (k : Bt q B) : Bt (p + q) (A + B + 1) := by
 obtain ⟨z, D, h1, h2, h3, h4⟩ := h
 obtain ⟨y, E, k1, k2, k3, k4⟩ := k
 refine ⟨z * E + y * D, D * E, Nat.mul_pos h1 k1, ?_, ?_, ?_⟩
 ·refine Nat.le_trans (Nat.mul_le_mul h2 k2) ?_
  rw [← Nat.pow_add]; exact Nat.pow_le_pow_right xq xq
 ·have e1 : (z * E).natAbs ≤ 2 ^ (A + B) := by rw [Int.natAbs_mul, Nat.pow_add]; exact Nat.mul_le_mul h3 k2
  have e2 : (y * D).natAbs ≤ 2 ^ (A + B) := by rw [Int.natAbs_mul, Nat.pow_add, Nat.mul_comm]; exact Nat.mul_le_mul h2 k3
  rw [Nat.pow_succ]
  omega
 rw [h4, k4, Rat.mkRat_add_mkRat _ _ xq xq]
theorem Bt.sub (h : Bt p A) (k : Bt q B) : Bt (p - q) (A + B + 1) := by rw [Rat.sub_eq_add_neg]; exact h.add k.neg
theorem Bt.zero (A : Nat) : Bt 0 A := ⟨0, 1, by omega, Nat.one_le_two_pow, by simp, by rw [Rat.zero_mkRat]⟩
theorem Bt.inv (h : Bt q A) : Bt q⁻¹ A := by
 obtain ⟨z, D, h1, h2, h3, h4⟩ := h
 by_cases hz : z = 0
 ·rw [h4, hz, Rat.zero_mkRat, Rat.inv_zero]; exact Bt.zero A
 have hD : ((D : Int) : Rat) ≠ 0 := dz h1
 have hzr : (z : Rat) ≠ 0 := fun e => hz (Rat.intCast_inj.1 (show (z : Rat) = ((0 : Int) : Rat) from e))
 refine ⟨z.sign * D, z.natAbs, Int.natAbs_pos.2 hz, h3, ?_, ?_⟩
 ·rw [Int.natAbs_mul, Int.natAbs_sign_of_ne_zero hz, Nat.one_mul]; exact h2
 rw [h4, ← mk_div, ← mk_div]
 rcases Int.lt_or_gt_of_ne hz with c | c
 ·have e1 : (z.natAbs : Int) = -z := by omega
  rw [Int.sign_eq_neg_one_of_neg c, e1, Rat.intCast_mul, Rat.intCast_neg, Rat.intCast_neg]
  rw [Rat.div_def, Rat.div_def, Rat.inv_mul_rev, Rat.inv_inv]
  have : (-(z : Rat))⁻¹ = -((z : Rat)⁻¹) := by
   have h1 : (-(z : Rat)) * (-((z : Rat)⁻¹)) = 1 := by have := Rat.mul_inv_cancel _ hzr; grind
   have h2 : (-(z : Rat)) ≠ 0 := by grind
   have h3 := Rat.mul_inv_cancel _ h2
   grind
  rw [this, show ((1 : Int) : Rat) = 1 from rfl]; grind
 have e1 : (z.natAbs : Int) = z := by omega
 rw [Int.sign_eq_one_of_pos c, e1, Int.one_mul, Rat.div_def, Rat.div_def, Rat.inv_mul_rev, Rat.inv_inv]
theorem Bt.div (h : Bt p A) (k : Bt q B) : Bt (p / q) (A + B) := by rw [Rat.div_def]; exact h.mul k.inv
theorem Bt.ofWh {D : Nat} (h0 : 0 < D) (h : Wh (q * ((D : Int) : Rat)) A) (hD : D ≤ 2 ^ A) : Bt q A := by
 obtain ⟨z, hz, hb⟩ := h
 exact ⟨z, D, h0, hD, hb, by rw [← mk_div, ← hz]; have := dz h0; grind⟩
end
def bZ : Nat → Nat
 | 0 => 14
 | o + 1 => 2 * bZ o + 7
theorem bZ_le : ∀ o n, o ≤ n → bZ o ≤ bZ n := fun o n h => by
 induction n with
 | zero => rw [show o = 0 by omega]; exact Nat.le_refl _
 | succ n ih =>
  by_cases e : o = n + 1
  ·rw [e]; exact Nat.le_refl _
  have := ih xq
  show _ ≤ 2 * bZ n + 7
  omega
theorem dd_Bt {x y : Nat → Rat} {n : Nat} (hx : ∀ i j, i ≤ n → j ≤ n → Bt (x i - x j) 6) (hy : ∀ i, i ≤ n → Bt (y i) 14) : ∀ o a, a + o ≤ n → Bt (dd x y o a) (bZ o)
 | 0, a, h => hy a h
 | o + 1, a, h => by
  have h1 := dd_Bt hx hy o (a + 1) xq
  have h2 := dd_Bt hx hy o a xq
  exact ((h1.sub h2).div (hx (a + o + 1) a xq xq)).more (by show _ ≤ 2 * bZ o + 7; omega)
theorem bt_common {c : Nat → Rat} {B : Nat} : ∀ n, (∀ i, i < n → Bt (c i) B) → ∃ D : Nat, 0 < D ∧ D ≤ 2 ^ (B * n) ∧ ∀ i, i < n → Wh (c i * ((D : Int) : Rat)) (B * n)
 | 0, _ => ⟨1, by omega, Nat.one_le_two_pow, fun i hi => absurd hi (Nat.not_lt_zero i)⟩
 | n + 1, h => by
  obtain ⟨D, h1, h2, h3⟩ := bt_common n (fun i hi => h i xq)
  obtain ⟨z, E, k1, k2, k3, k4⟩ := h n xq
  have e : B * (n + 1) = B * n + B := by rw [Nat.mul_succ]
  refine ⟨D * E, Nat.mul_pos h1 k1, by rw [e, Nat.pow_add]; exact Nat.mul_le_mul h2 k2, fun i hi => ?_⟩
  by_cases c : i = n
  ·subst c
   refine ⟨z * D, ?_, ?_⟩
   ·have := dz k1
    rw [k4, ← mk_div, Int.natCast_mul, Rat.intCast_mul, Rat.intCast_mul, Rat.div_def]
    have h9 := Rat.mul_inv_cancel _ this
    grind
   rw [Int.natAbs_mul, e, Nat.pow_add, Nat.mul_comm]; exact Nat.mul_le_mul h2 k3
  obtain ⟨y, g1, g2⟩ := h3 i xq
  refine ⟨y * E, ?_, ?_⟩
  ·rw [Int.natCast_mul, Rat.intCast_mul, Rat.intCast_mul, ← g1]; grind
  rw [Int.natAbs_mul, e, Nat.pow_add]; exact Nat.mul_le_mul g2 k2
theorem mul_lin_co (p : List Rat) (b : Rat) (k : Nat) : co (mulQ p [b, ((1 : Int) : Rat)]) k = b * co p k + sh (co p) k := by
 rw [mulQ_consR]
 congr 1
 have h : ∀ k, co (mulQ p [((1 : Int) : Rat)]) k = co p k := fun k => by
  rw [mulQ_consR]
  have h0 : ∀ k, co (mulQ p []) k = 0 := fun k => by rw [mulQ_comm, mulQ_nil] <;> exact co_nil k
  have : sh (co (mulQ p [])) k = 0 := by unfold sh; split <;> first | rfl | exact h0 _
  rw [this, show ((1 : Int) : Rat) = 1 from rfl]; grind
 unfold sh
 split
 ·rfl
 exact h _
theorem nwL_Wh {x c : Nat → Rat} {n D M : Nat} (hx : ∀ i, i < n → ∃ a : Int, x i * 12 = (a : Rat) ∧ a.natAbs ≤ 36) (hc : ∀ i, i < n → Wh (c i * ((D : Int) : Rat)) M) : ∀ j, j ≤ n → ∀ i, Wh (co (nwL x c n j) i * (((D * 12 ^ j : Nat) : Int) : Rat)) (M + 8 * j)
 | 0, _ => fun i => by
  show Wh (co [] i * _) _
  rw [co_nil, Rat.zero_mul]; exact Wh.zero _
 | j + 1, hj => fun i => by
  have ih := nwL_Wh hx hc j xq
  obtain ⟨a, ha, hb⟩ := hx (n - (j + 1)) xq
  have hcj := hc (n - (j + 1)) xq
  show Wh (co (trimQ (addQ (trimQ (mulQ (nwL x c n j) [-x (n - (j + 1)), ((1 : Int) : Rat)])) [c (n - (j + 1))])) i * _) _
  rw [trim_co, addQ_co, trim_co, mul_lin_co]
  have e : (((D * 12 ^ (j + 1) : Nat) : Int) : Rat) = (((D * 12 ^ j : Nat) : Int) : Rat) * 12 := by
   rw [Nat.pow_succ, ← Nat.mul_assoc, Int.natCast_mul (D * 12 ^ j), Rat.intCast_mul]; rfl
  have w1 : Wh (-x (n - (j + 1)) * co (nwL x c n j) i * (((D * 12 ^ (j + 1) : Nat) : Int) : Rat)) (M + 8 * j + 6) := by
   have : Wh (((-a : Int) : Rat) * (co (nwL x c n j) i * (((D * 12 ^ j : Nat) : Int) : Rat))) (6 + (M + 8 * j)) := Wh.mul ⟨-a, rfl, by rw [Int.natAbs_neg]; exact Nat.le_trans hb yv⟩ (ih i)
   rw [Rat.intCast_neg, ← ha] at this
   rw [e]
   have e2 : -x (n - (j + 1)) * co (nwL x c n j) i * ((((D * 12 ^ j : Nat) : Int) : Rat) * 12) = -(x (n - (j + 1)) * 12) * (co (nwL x c n j) i * (((D * 12 ^ j : Nat) : Int) : Rat)) := by grind
   rw [e2]; exact this.more xq
  have w2 : Wh (sh (co (nwL x c n j)) i * (((D * 12 ^ (j + 1) : Nat) : Int) : Rat)) (M + 8 * j + 6) := by
   unfold sh
   split
   ·rw [Rat.zero_mul]; exact Wh.zero _
   have : Wh (((12 : Int) : Rat) * (co (nwL x c n j) (i - 1) * (((D * 12 ^ j : Nat) : Int) : Rat))) (6 + (M + 8 * j)) := Wh.mul ⟨12, rfl, by decide⟩ (ih (i - 1))
   rw [e]
   have e2 : co (nwL x c n j) (i - 1) * ((((D * 12 ^ j : Nat) : Int) : Rat) * 12) = ((12 : Int) : Rat) * (co (nwL x c n j) (i - 1) * (((D * 12 ^ j : Nat) : Int) : Rat)) := by rw [show ((12 : Int) : Rat) = 12 from rfl]; grind
   rw [e2]; exact this.more xq
  have w3 : Wh (co [c (n - (j + 1))] i * (((D * 12 ^ (j + 1) : Nat) : Int) : Rat)) (M + 8 * j + 7) := by
   match i with
   | 0 =>
    show Wh (c (n - (j + 1)) * _) _
    have h12 : (12 : Nat) ^ (j + 1) ≤ 2 ^ (4 * (j + 1)) := by rw [Nat.pow_mul]; exact Nat.pow_le_pow_left xq _
    have : Wh ((c (n - (j + 1)) * ((D : Int) : Rat)) * (((12 ^ (j + 1) : Nat) : Int) : Rat)) (M + 4 * (j + 1)) := Wh.mul hcj ⟨((12 ^ (j + 1) : Nat) : Int), rfl, by rw [Int.natAbs_natCast]; exact h12⟩
    rw [Int.natCast_mul D, Rat.intCast_mul, ← Rat.mul_assoc]
    exact this.more xq
   | k + 1 =>
    show Wh (co [] k * _) _
    rw [co_nil, Rat.zero_mul]; exact Wh.zero _
  rw [Rat.add_mul, Rat.add_mul]
  exact ((w1.add w2).add w3).more xq
def xs (V : List Rat) (l : List Nat) (i : Nat) : Rat := gX V (l.getD i 0)
def ys (V : List Rat) (l : List Nat) (i : Nat) : Rat := gY V (l.getD i 0)
def ws (V : List Rat) (l : List Nat) (i : Nat) : Rat := gW V (l.getD i 0)
def sgw (V : List Rat) (l : List Nat) (i : Nat) : Rat := sg1 i / ws V l i
def eL (V : List Rat) (l : List Nat) : Rat := rE (gX V) (gW V) (gY V) l
def cL (V : List Rat) (l : List Nat) (i : Nat) : Rat := dT (xs V l) (ys V l) (l.length - 1) i - eL V l * dT (xs V l) (sgw V l) (l.length - 1) i
def pL (V : List Rat) (l : List Nat) : List Rat := nwL (xs V l) (cL V l) (l.length - 1) (l.length - 1)
section
variable {V : List Rat} {N n : Nat} {l : List Nat}
theorem GrOK.xB (h : GrOK V N) {a b : Nat} (ha : a < N) (hb : b < N) : Bt (gX V a - gX V b) 6 := by
 obtain ⟨z, e, h1, h2⟩ := h.x a ha
 obtain ⟨y, f, k1, k2⟩ := h.x b hb
 refine Bt.ofWh (D := 12) xq ⟨z - y, ?_, ?_⟩ yv
 ·rw [Rat.intCast_sub, ← e, ← f, show (((12 : Nat) : Int) : Rat) = 12 from rfl]; grind
 show _ ≤ 64; omega
theorem GrOK.yB (h : GrOK V N) {a : Nat} (ha : a < N) : Bt (gY V a) 14 := Bt.ofWh xq (h.y a ha) yv
theorem GrOK.wne (h : GrOK V N) {a : Nat} (ha : a < N) : gW V a ≠ 0 := by have := h.gr.pos a ha; grind
theorem GrOK.wB (h : GrOK V N) {a : Nat} (ha : a < N) (i : Nat) : Bt (sg1 i / gW V a) 14 := by
 obtain ⟨p, q, e, h1, h2, h3, h4⟩ := h.w a ha
 have hw : Bt (gW V a) 3 := by
  refine ⟨(p : Int), q, by omega, by show _ ≤ 8; omega, by show _ ≤ 8; omega, ?_⟩
  rw [← mk_div, ← show ((p : Nat) : Rat) = ((p : Int) : Rat) from rfl, ← e]
  have : ((q : Int) : Rat) ≠ 0 := dz xq
  have e2 : ((q : Nat) : Rat) = ((q : Int) : Rat) := rfl
  rw [e2]; grind
 have hs : Bt (sg1 i) 3 := by
  unfold sg1
  split
  ·exact ⟨1, 1, by omega, by decide, by decide, rfl⟩
  exact ⟨-1, 1, by omega, by decide, by decide, by decide +kernel⟩
 exact (hs.div hw).more xq
theorem Rf.n11 (h : Rf N l n) (hN : N ≤ 12) : n ≤ 11 := by
 have : ∀ i, i ≤ n → i ≤ l.getD i 0 := fun i => by
  induction i with
  | zero => intro _; omega
  | succ i ih => intro hi; have := ih xq; have := h.asc i (i + 1) xq hi; omega
 have := this n qyl; have := h.lt n qyl; omega
theorem eL_n (h : Rf N l n) : eL V l = lvE (xs V l) (ws V l) (ys V l) n := by
 unfold eL rE; rw [h.len, Nat.add_sub_cancel]; rfl
theorem lvl_c (g : GrOK V N) (h : Rf N l n) {i : Nat} (hi : i < n) : Bt (cL V l i) 172005 := by
 have hn := h.n11 g.n12
 have hb : bZ n ≤ 43001 := Nat.le_trans (bZ_le n 11 hn) yv
 have hx : ∀ i j, i ≤ n → j ≤ n → Bt (xs V l i - xs V l j) 6 := fun i j hi hj => g.xB (h.lt i hi) (h.lt j hj)
 have hy : ∀ i, i ≤ n → Bt (ys V l i) 14 := fun i hi => g.yB (h.lt i hi)
 have hs : ∀ i, i ≤ n → Bt (sgw V l i) 14 := fun i hi => g.wB (h.lt i hi) i
 have d1 := dd_Bt hx hy i 0 xq
 have d2 := dd_Bt hx hs i 0 xq
 have d3 := dd_Bt hx hy n 0 xq
 have d4 := dd_Bt hx hs n 0 xq
 have hbi := bZ_le i n xq
 have e : eL V l = dd (xs V l) (ys V l) n 0 / dd (xs V l) (sgw V l) n 0 := by rw [eL_n h]; rfl
 unfold cL
 rw [h.len, Nat.add_sub_cancel, dT_end xq, dT_end xq, e]
 exact (d1.sub ((d3.div d4).mul d2)).more xq
theorem eL_B (g : GrOK V N) (h : Rf N l n) : Nt.rs (eL V l) ≤ 2700 := by
 have hn := h.n11 g.n12
 have hb : bZ n ≤ 43001 := Nat.le_trans (bZ_le n 11 hn) yv
 have hx : ∀ i j, i ≤ n → j ≤ n → Bt (xs V l i - xs V l j) 6 := fun i j hi hj => g.xB (h.lt i hi) (h.lt j hj)
 have hy : ∀ i, i ≤ n → Bt (ys V l i) 14 := fun i hi => g.yB (h.lt i hi)
 have hs : ∀ i, i ≤ n → Bt (sgw V l i) 14 := fun i hi => g.wB (h.lt i hi) i
 have d3 := dd_Bt hx hy n 0 xq
 have d4 := dd_Bt hx hs n 0 xq
 have e : eL V l = dd (xs V l) (ys V l) n 0 / dd (xs V l) (sgw V l) n 0 := by rw [eL_n h]; rfl
 rw [e]
 exact Nat.le_trans (((d3.div d4).more (show _ ≤ 86002 by omega)).rs) yv
theorem lvl_rs (g : GrOK V N) (h : Rf N l n) {j : Nat} (hj : j ≤ n) (i : Nat) : Nt.rs (co (nwL (xs V l) (cL V l) n j) i) ≤ 60000 := by
 have hn := h.n11 g.n12
 obtain ⟨D, h1, h2, h3⟩ := bt_common n (fun i hi => lvl_c g h hi)
 have hw := nwL_Wh (x := xs V l) (c := cL V l) (n := n) (D := D) (M := 172005 * n) (fun i hi => by
  obtain ⟨z, e, k1, k2⟩ := g.x _ (h.lt i xq)
  exact ⟨z, e, by omega⟩) h3 j hj i
 have h12 : (12 : Nat) ^ j ≤ 2 ^ (4 * j) := by rw [Nat.pow_mul]; exact Nat.pow_le_pow_left xq _
 have hD : D * 12 ^ j ≤ 2 ^ (172005 * n + 8 * j) := by
  refine Nat.le_trans (Nat.mul_le_mul h2 h12) ?_
  rw [← Nat.pow_add]; exact Nat.pow_le_pow_right xq xq
 refine Nat.le_trans (wh_rs (Nat.mul_pos h1 (Nat.pow_pos xq)) hw hD) ?_
 unfold dg; omega
theorem lvl_len (h : Rf N l n) : (pL V l).length ≤ n := by unfold pL; rw [h.len, Nat.add_sub_cancel]; exact nwL_len n
theorem lvl_pL (h : Rf N l n) : pL V l = nwL (xs V l) (cL V l) n n := by unfold pL; rw [h.len, Nat.add_sub_cancel]
theorem lvl_at (g : GrOK V N) (h : Rf N l n) (h1 : 1 ≤ n) {m : Nat} (hm : m ≤ n) : gE (gX V) (gW V) (gY V) (pL V l) (l.getD m 0) = sg1 m * eL V l := by
 have hx := h.ascX g.gr
 have hw : ∀ i, i ≤ n → 0 < ws V l i := fun i hi => g.gr.pos _ (h.lt i hi)
 have := lvl_ok (x := xs V l) (w := ws V l) (y := ys V l) (c := cL V l) hx hw h1 (fun i hi => by
  unfold cL
  rw [h.len, Nat.add_sub_cancel, dT_end xq, dT_end xq, eL_n h]; rfl) hm
 rw [eL_n h, lvl_pL h]
 exact this
def sZ : Nat → Nat
 | 0 => 3
 | o + 1 => 2 * sZ o + 4
theorem sZ_le : ∀ o n, o ≤ n → sZ o ≤ sZ n := fun o n h => by
 induction n with
 | zero => rw [show o = 0 by omega]; exact Nat.le_refl _
 | succ n ih =>
  by_cases e : o = n + 1
  ·rw [e]; exact Nat.le_refl _
  have := ih xq
  show _ ≤ 2 * sZ n + 4
  omega
theorem sZ_bd {o : Nat} (h : o ≤ 11) : sZ o ≤ 14332 := Nat.le_trans (sZ_le o 11 h) yv
def fM (x y : Nat → Rat) (o i j : Nat) : Rat := if i < j then dT x y (o + 1) j else dT x y o j
def kM (o i j : Nat) : Nat := if i < j then sZ (o + 1) else sZ o
theorem GrOK.gap (g : GrOK V N) (h : Rf N l n) {i j : Nat} (hij : i < j) (hj : j ≤ n) : gX V (l.getD j 0) - gX V (l.getD i 0) ≠ 0 := by
 have := h.ascX g.gr i j hij hj
 have h9 : gX V (l.getD i 0) < gX V (l.getD j 0) := this
 grind
theorem GrOK.lvne (g : GrOK V N) (h : Rf N l n) : dT (xs V l) (sgw V l) n n ≠ 0 := by
 rw [dT_end (Nat.le_refl n)]
 exact lvS_ne (h.ascX g.gr) (fun i hi => g.gr.pos _ (h.lt i hi))
theorem lvl_e (h : Rf N l n) : dT (xs V l) (ys V l) n n / dT (xs V l) (sgw V l) n n = eL V l := by
 rw [dT_end (Nat.le_refl n), dT_end (Nat.le_refl n), eL_n h]; rfl
end
end Nt
section
variable {u u' : World} {L : List RL} {r : RL} {q : Rat} {m m' i k : Nat} {f f' : Nat → Rat} {K K' : Nat → Nat}
def RatG (u : World) (L : List RL) (f : Nat → Rat) (K : Nat → Nat) (m : Nat) : Prop := ∀ j, j < m → RatN u (L.getD j rl0) (f j) (K j)
theorem RatG.ext (h : RatG u L f K m) (e : Ext u u') : RatG u' L f K m := fun j hj => (h j hj).ext e
theorem RatG.nil : RatG u L f K 0 := fun j hj => absurd hj (Nat.not_lt_zero j)
theorem RatG.set (h : RatG u L f K m) (hi : i < L.length) (hr : RatN u r q k) (hn : ∀ j, j < m' → (j = i ∧ f' j = q ∧ k ≤ K' j) ∨ (j ≠ i ∧ j < m ∧ f' j = f j ∧ K j ≤ K' j)) : RatG u (L.set i r) f' K' m' := fun j hj => by
 rcases hn j hj with ⟨h1, h2, h3⟩ | ⟨h1, h2, h3, h4⟩
 ·subst h1
  rw [h2, qyg, List.getElem?_set_self hi]; exact hr.more h3
 rw [h3, qyg, List.getElem?_set_ne (Ne.symm h1), ← qyg]; exact (h j h2).more h4
theorem RatG.turn (h : RatG u L f K m) (e : ∀ j, j < m → f' j = f j ∧ K j ≤ K' j) : RatG u L f' K' m := fun j hj => by rw [(e j hj).1]; exact (h j hj).more (e j hj).2
end
end Go.Proofs.YtgmkhhfbckjaeaaGreat
