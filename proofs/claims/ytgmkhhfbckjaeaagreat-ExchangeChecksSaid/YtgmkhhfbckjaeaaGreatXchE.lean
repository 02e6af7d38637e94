/- Contracts of rational. Printed by wip/sym/g_rat.py. Contracts of interval. Printed by wip/sym/g_itv.py. Contracts of the reference of interval, of small functions. Printed by wip/sym/g_r4.py. Contracts of poly. Printed by wip/sym/g_pol.py. -/
import Derived.Test.YtgmkhhfbckjaeaaGreatXchD
set_option linter.unusedVariables false
set_option maxHeartbeats 8000000
namespace Go.Proofs.YtgmkhhfbckjaeaaGreat
open Nt
open Go.RowKit
theorem k_natural {u w : World} {x : Sl} (d : Dat u w) : qyc 152 #[x.v] w (Post u w fun v _ => v = .agg #[.bool false, x.v]) := by
 refine zzm Tryz.func152 rfl Tryz.ntmps152 Tryz.results152 d ?_
 refine sq9 (zzk 2 ⟨30, [.bool false, qyn]⟩ (zzb (sq9 (zza 3 (.v (x.v)) (zza 4 (.v (.agg #[.bool false, x.v])) (zzj ⟨30, [.bool false, x.v]⟩ ty30 ?_))))))
 refine zzb (zzo (ret0 [.agg #[.bool false, x.v]] ⟨zzr ty30 zze, trivial⟩ fun u11 e12 => ?_))
 exact rfl
theorem k_whole {u w : World} {i : IL} (d : Dat u w) : qyc 164 #[i.v] w (Post u w fun v u' => ∃ y : Sl, v = .agg #[.bool i.s, i.m.v, y.v] ∧ NatN u' y 1 1) := by
 refine zzm Tryz.func164 rfl Tryz.ntmps164 Tryz.results164 d ?_
 refine sq9 (zzk 1 ⟨30, i.cs⟩ (zzk 2 ⟨32, zw3⟩ (zzb (sq9 (zzi 3 (.v (i.v)) ty30 zze (zxx 4 ⟨133, [.int .u32 1]⟩ 1 (fun aa u12 e13 ac => ?_)))))))
 refine zza 5 (.v (.agg #[.bool i.s, i.m.v, .slice (some ⟨aa, 0, none⟩) 1 1])) (zzj ⟨32, i.cs ++ [.slice (some ⟨aa, 0, none⟩) 1 1]⟩ ty32 ?_)
 refine zzb (zzo (ret0 [.agg #[.bool i.s, i.m.v, .slice (some ⟨aa, 0, none⟩) 1 1]] ⟨zzr ty32 zze, trivial⟩ fun u15 ad => ?_))
 exact ⟨_, rfl, ((one_data ac).ext ad)⟩
theorem k_quotient {u w : World} {i j : IL} (d : Dat u w) : qyc 168 #[i.v, j.v] w (Post u w fun v _ => v = .agg #[.bool (!(i.s == j.s)), i.m.v, j.m.v]) := by
 refine zzm Tryz.func168 rfl Tryz.ntmps168 Tryz.results168 d ?_
 refine sq9 (zzk 2 ⟨30, i.cs⟩ (zzk 3 ⟨30, j.cs⟩ (zzk 4 ⟨195, zw3⟩ (zzb (sq9 (zza 5 (.adr 2 0) (zzi 6 (zB i.s) ty4 zzl (zza 7 (.adr 3 0) (zzi 8 (zB j.s) ty4 zzl (zza 9 (zB (!(i.s == j.s))) (zza 10 (.adr 2 1) ?_)))))))))))
 refine zzi 11 (.v (i.m.v)) ty28 zzl (zza 12 (.v (.agg #[.bool (!(i.s == j.s)), i.m.v])) (zza 13 (.adr 3 1) (zzi 14 (.v (j.m.v)) ty28 zzl (zza 15 (.v (.agg #[.bool (!(i.s == j.s)), i.m.v, j.m.v])) (zzj ⟨195, [.bool (!(i.s == j.s)), i.m.v, j.m.v]⟩ ty195 ?_)))))
 refine zzb (zzo (ret0 [.agg #[.bool (!(i.s == j.s)), i.m.v, j.m.v]] ⟨zzr ty195 zze, trivial⟩ fun u11 e12 => ?_))
 exact rfl
theorem k_flip {u w : World} {r : RL} (d : Dat u w) : qyc 153 #[r.v] w (Post u w fun v _ => v = .agg #[.bool (!r.s), r.m.v, r.d.v]) := by
 refine zzm Tryz.func153 rfl Tryz.ntmps153 Tryz.results153 d ?_
 refine sq9 (zzk 1 ⟨32, r.cs⟩ (zzk 2 ⟨32, zw3⟩ (zzb (sq9 (zza 3 (.adr 1 0) (zza 4 (.adr 1 0) (zzi 5 (zB r.s) ty4 zzl (zza 6 (zB (!r.s)) (zza 7 (.adr 1 0) (zza 8 (.adr 1 1) (zzi 9 (.v (r.m.v)) ty28 zzl ?_)))))))))))
 refine zza 10 (.v (.agg #[.bool (!r.s), r.m.v])) (zza 11 (.adr 1 2) (zzi 12 (.v (r.d.v)) ty28 zzl (zza 13 (.v (.agg #[.bool (!r.s), r.m.v, r.d.v])) (zzj ⟨32, [.bool (!r.s), r.m.v, r.d.v]⟩ ty32 ?_))))
 refine zzb (zzo (ret0 [.agg #[.bool (!r.s), r.m.v, r.d.v]] ⟨zzr ty32 zze, trivial⟩ fun u11 e12 => ?_))
 exact rfl
theorem k_read {u w : World} {r : RL} {q : Rat} {K : Nat} (d : Dat u w) (h : RatV u r q K) : qyc 148 #[r.v] w (Post u w fun v u' => ∃ (r' : RL) (wh : Bool), v = .agg #[.bool r'.s, r'.m.v, r'.d.v, .bool wh] ∧ NumV u' r' wh q K) := by
 obtain ⟨⟨z, D, hi, hd, hq⟩, hK⟩ := h
 change IntV u ⟨r.s, r.m⟩ z K at hi
 change NatV u r.d D K at hd
 by_cases hn : r.d.n = 1
 ·obtain ⟨b, o, ha, hc⟩ := nat_digit hd hn
  by_cases hD : D = 1
  ·refine zzm Tryz.func148 rfl Tryz.ntmps148 Tryz.results148 d ?_
   refine sq9 (zzk 1 ⟨32, r.cs⟩ (zzk 2 ⟨197, [.bool false, qyn, qyn, .bool false]⟩ (zzb (zzd (sq9 (zza 3 (.adr 1 2) (zzi 4 (.v (r.d.v)) ty28 zzl (zza 5 (zI r.d.n) (zyq 6 (x := zB ((r.d.n : Int) == 1)) (zB true) (by rw [show ((r.d.n : Int) == 1) = true from (by simp [hn])]) (zza 7 (zB true) (zza 8 (.adr 1 2) ?_ (hw := w1 4 true 7))))))))))))
   refine zzi 9 (.v (r.d.v)) ty28 zzl ?_ (hw := w1 4 true 7)
   refine zya 10 o (i := 0) (n := r.d.n) zv ha xq (by rw [hn]; decide) sl28 ?_ (hw := w1 4 true 7)
   refine zyl 11 (.int .u32 D) ((Ext.refl _).cell hc) ty133 ?_ (hw := w1 4 true 7)
   refine zyq 12 (x := zB ((D : Int) == 1)) (zB true) (by rw [show ((D : Int) == 1) = true from (by simp [hD])]) ?_ (hw := w1 4 true 7)
   refine zza 13 (zB true) (zzb (zyr xj (sq9 (zza 14 (.adr 1 0) (zzi 15 (.v (.agg #[.bool r.s, r.m.v])) ty30 zze (zza 16 (.adr 1 2) (zzi 17 (.v (r.d.v)) ty28 zzl (zza 18 (.v (r.v)) (zza 19 (.v (.agg #[.bool r.s, r.m.v, r.d.v, .bool true])) (zzj ⟨197, r.cs ++ [.bool true]⟩ ty197 ?_))))))))))
   refine zzb (zzo (zzw (ret0 [.agg #[.bool r.s, r.m.v, r.d.v, .bool true]] ⟨zzr ty197 zze, trivial⟩ fun ap ak => ?_)))
   exact ⟨r, true, rfl, z, D, hi.ext ak, hd.ext ak, by omega, hq, fun _ => hD, hK⟩
  refine zzm Tryz.func148 rfl Tryz.ntmps148 Tryz.results148 d ?_
  refine sq9 (zzk 1 ⟨32, r.cs⟩ (zzk 2 ⟨197, [.bool false, qyn, qyn, .bool false]⟩ (zzb (zzd (sq9 (zza 3 (.adr 1 2) (zzi 4 (.v (r.d.v)) ty28 zzl (zza 5 (zI r.d.n) (zyq 6 (x := zB ((r.d.n : Int) == 1)) (zB true) (by rw [show ((r.d.n : Int) == 1) = true from (by simp [hn])]) (zza 7 (zB true) (zza 8 (.adr 1 2) ?_ (hw := w1 4 true 7))))))))))))
  refine zzi 9 (.v (r.d.v)) ty28 zzl ?_ (hw := w1 4 true 7)
  refine zya 10 o (i := 0) (n := r.d.n) zv ha xq (by rw [hn]; decide) sl28 ?_ (hw := w1 4 true 7)
  refine zyl 11 (.int .u32 D) ((Ext.refl _).cell hc) ty133 ?_ (hw := w1 4 true 7)
  refine zyq 12 (x := zB ((D : Int) == 1)) (zB false) (by rw [show ((D : Int) == 1) = false from yw]) ?_ (hw := w1 4 true 7)
  refine zza 13 (zB false) (zzb (zys xj (zzs (zzp ?_))))
  refine zzd (sq9 (zza 20 (.adr 1 2) (zzi 21 (.v (r.d.v)) ty28 zzl (zzg 22 166 [r.d.v, qyn] ?_))))
  intro w11 ap ae ah
  have k14 := k_natCompare ah (hd.ext ae) (nat_nil _ 1)
  with_reducible refine zPm k14 ?_
  rintro _ aq ag rfl
  refine zza 23 (zB ((Nt.cmpS D 0) == 0)) (zzb (zzu (b := (Nt.cmpS D 0) == 0) xj (fun aa => ?_) (fun aa => ?_)))
  ·refine sq9 (zza 24 (.v (.agg #[.bool false, qyn])) (zxx 25 ⟨133, [.int .u32 1]⟩ 1 (fun ac ao al ai => ?_)))
   refine zza 26 (.v (.agg #[.bool false, qyn, .slice (some ⟨ac, 0, none⟩) 1 1])) (zza 27 (.v (.agg #[.bool false, qyn, .slice (some ⟨ac, 0, none⟩) 1 1, .bool true])) (zzj ⟨197, [.bool false, qyn, .slice (some ⟨ac, 0, none⟩) 1 1, .bool true]⟩ ty197 ?_))
   refine zzb (zzo (zzw (ret0 [.agg #[.bool false, qyn, .slice (some ⟨ac, 0, none⟩) 1 1, .bool true]] ⟨zzr ty197 zze, trivial⟩ fun am aj => ?_)))
   have ad : D = 0 := (Nt.cmp_nat0 aa).1 rfl
   refine ⟨⟨false, ⟨none, 0, 0⟩, (⟨some ⟨ac, 0, none⟩, 1, 1⟩ : Sl)⟩, true, rfl, 0, 1, (⟨0, nat_nil _ K, rfl⟩ : IntV _ ⟨false, ⟨none, 0, 0⟩⟩ 0 K), ((one_data ai).ext aj).raw.more hK, by omega, ?_, fun _ => rfl, hK⟩
   rw [hq, ad]; simp
  refine zzs (zzp ?_)
  refine sq9 (zza 28 (.adr 1 0) (zzi 29 (.v (.agg #[.bool r.s, r.m.v])) ty30 zze (zza 30 (.adr 1 2) (zzi 31 (.v (r.d.v)) ty28 zzl (zza 32 (.v (r.v)) (zza 33 (.v (.agg #[.bool r.s, r.m.v, r.d.v, .bool false])) (zzj ⟨197, r.cs ++ [.bool false]⟩ ty197 ?_)))))))
  refine zzb (zzo (ret0 [.agg #[.bool r.s, r.m.v, r.d.v, .bool false]] ⟨zzr ty197 zze, trivial⟩ fun an af => ?_))
  have ad : 0 < D := (Nt.cmp_nat0 aa).2 rfl
  exact ⟨r, false, rfl, z, D, hi.ext (ae.t (ag.t af)), hd.ext (ae.t (ag.t af)), ad, hq, (fun k => by cases k), hK⟩
 refine zzm Tryz.func148 rfl Tryz.ntmps148 Tryz.results148 d ?_
 refine sq9 (zzk 1 ⟨32, r.cs⟩ (zzk 2 ⟨197, [.bool false, qyn, qyn, .bool false]⟩ (zzb (zzd (sq9 (zza 3 (.adr 1 2) (zzi 4 (.v (r.d.v)) ty28 zzl (zza 5 (zI r.d.n) (zyq 6 (x := zB ((r.d.n : Int) == 1)) (zB false) (by rw [show ((r.d.n : Int) == 1) = false from yw]) (zza 7 (zB false) (zzn 8 (uw 4 true false 7) ?_)))))))))))
 refine zzn 9 (uw 4 true false 7) (zzn 10 (uw 4 true false 7) (zzn 11 (uw 4 true false 7) (zzn 12 (uw 4 true false 7) (zza 13 (zB false) (zzb (zys xj (zzs (zzp ?_))))))))
 refine zzd (sq9 (zza 20 (.adr 1 2) (zzi 21 (.v (r.d.v)) ty28 zzl (zzg 22 166 _ fun _ _ ae ah => qym (k_natCompare ah (hd.ext ae) (nat_nil _ 1)) ?_))))
 rintro _ aq ag rfl
 refine zza 23 (zB ((Nt.cmpS D 0) == 0)) (zzb (zzu (b := (Nt.cmpS D 0) == 0) xj (fun aa => ?_) (fun aa => ?_)))
 ·refine sq9 (zza 24 (.v (.agg #[.bool false, qyn])) (zxx 25 ⟨133, [.int .u32 1]⟩ 1 (fun ac ao al ai => ?_)))
  refine zza 26 (.v (.agg #[.bool false, qyn, .slice (some ⟨ac, 0, none⟩) 1 1])) (zza 27 (.v (.agg #[.bool false, qyn, .slice (some ⟨ac, 0, none⟩) 1 1, .bool true])) (zzj ⟨197, [.bool false, qyn, .slice (some ⟨ac, 0, none⟩) 1 1, .bool true]⟩ ty197 ?_))
  refine zzb (zzo (zzw (ret0 [.agg #[.bool false, qyn, .slice (some ⟨ac, 0, none⟩) 1 1, .bool true]] ⟨zzr ty197 zze, trivial⟩ fun am aj => ?_)))
  have ad : D = 0 := (Nt.cmp_nat0 aa).1 rfl
  refine ⟨⟨false, ⟨none, 0, 0⟩, (⟨some ⟨ac, 0, none⟩, 1, 1⟩ : Sl)⟩, true, rfl, 0, 1, (⟨0, nat_nil _ K, rfl⟩ : IntV _ ⟨false, ⟨none, 0, 0⟩⟩ 0 K), ((one_data ai).ext aj).raw.more hK, by omega, ?_, fun _ => rfl, hK⟩
  rw [hq, ad]; simp
 refine zzs (zzp ?_)
 refine sq9 (zza 28 (.adr 1 0) (zzi 29 (.v (.agg #[.bool r.s, r.m.v])) ty30 zze (zza 30 (.adr 1 2) (zzi 31 (.v (r.d.v)) ty28 zzl (zza 32 (.v (r.v)) (zza 33 (.v (.agg #[.bool r.s, r.m.v, r.d.v, .bool false])) (zzj ⟨197, r.cs ++ [.bool false]⟩ ty197 ?_)))))))
 refine zzb (zzo (ret0 [.agg #[.bool r.s, r.m.v, r.d.v, .bool false]] ⟨zzr ty197 zze, trivial⟩ fun an af => ?_))
 have ad : 0 < D := (Nt.cmp_nat0 aa).2 rfl
 exact ⟨r, false, rfl, z, D, hi.ext (ae.t (ag.t af)), hd.ext (ae.t (ag.t af)), ad, hq, (fun k => by cases k), hK⟩
theorem k_isOne {u w : World} {x : Sl} {N K : Nat} (d : Dat u w) (h : NatN u x N K) : qyc 201 #[x.v] w (Post u w fun v _ => v = .bool (decide (N = 1))) := by
 by_cases hn : x.n = 1
 ·obtain ⟨b, o, ha, hc⟩ := nat_digit h.raw hn
  refine zzm Tryz.func201 rfl Tryz.ntmps201 Tryz.results201 d ?_
  refine sq9 (zza 2 (zB false) (zzb (sq9 (zza 3 (.v (x.v)) (zza 4 (zI x.n) (zyq 5 (x := zB ((x.n : Int) == 1)) (zB true) (by rw [show ((x.n : Int) == 1) = true from (by simp [hn])]) (zza 6 (zB true) (zza 7 (.v (x.v)) ?_ (hw := w1 3 true 6)))))))))
  refine zya 8 o (i := 0) (n := x.n) zv ha xq (by rw [hn]; decide) sl28 ?_ (hw := w1 3 true 6)
  refine zyl 9 (.int .u32 N) ((Ext.refl _).cell hc) ty133 ?_ (hw := w1 3 true 6)
  refine zza 10 (zB ((N : Int) == 1)) ?_ (hw := w1 3 true 6)
  refine zza 11 (zB ((N : Int) == 1)) (zza 2 (zB ((N : Int) == 1)) (zzb (zzo (ret0 [.bool ((N : Int) == 1)] ⟨zzq, trivial⟩ fun ac aa => ?_))))
  show Value.bool _ = Value.bool _
  congr 1
  rw [Bool.eq_iff_iff]
  simp <;> omega
 have hN : N ≠ 1 := fun e => hn (by rw [h.1, e, Nt.dl_one])
 refine zzm Tryz.func201 rfl Tryz.ntmps201 Tryz.results201 d ?_
 refine sq9 (zza 2 (zB false) (zzb (sq9 (zza 3 (.v (x.v)) (zza 4 (zI x.n) (zyq 5 (x := zB ((x.n : Int) == 1)) (zB false) (by rw [show ((x.n : Int) == 1) = false from yw]) (zza 6 (zB false) (zzn 7 (uw 3 true false 6) (zzn 8 (uw 3 true false 6) (zzn 9 (uw 3 true false 6) (zzn 10 (uw 3 true false 6) ?_)))))))))))
 refine zza 11 (zB false) (zza 2 (zB false) (zzb (zzo (ret0 [.bool false] ⟨zzq, trivial⟩ fun ac aa => ?_))))
 show _ = _
 simp [tupV]
 exact hN
theorem k_lowest {u w : World} {i : IL} {z : Int} {y : Sl} {D K L : Nat} (d : Dat u w) (h1 : IntV u i z K) (hD : NatV u y D L) (hp : 0 < D) (hK : K ≤ 500000000) (hL : L ≤ 500000000) : qyc 149 #[.agg #[.bool i.s, i.m.v, y.v]] w (Post u w fun v u' => ∃ r : RL, v = r.v ∧ RatN u' r (mkRat z D) (max K L)) := by
 obtain ⟨N, hN, hz⟩ := h1
 have hL1 : 1 ≤ L := by have h2 := hD.size; have h3 := Nt.dl_mono (x := D) (y := 1) xq; rw [Nt.dl_one] at h3; omega
 refine zzm Tryz.func149 rfl Tryz.ntmps149 Tryz.results149 d ?_
 refine sq9 (zzk 1 ⟨195, i.cs ++ [y.v]⟩ (zzk 2 ⟨32, zw3⟩ (zzb (sq9 (zza 14 (.adr 1 0) (zza 15 (.adr 1 1) (zzi 16 (.v (i.m.v)) ty28 zzl (zza 17 (.adr 1 2) (zzi 18 (.v (y.v)) ty28 zzl (zzg 19 195 _ fun _ _ aj aH => qym (k_natDivMod aH (hN.ext aj) (hD.ext aj) hp xq xq) ?_))))))))))
 rintro _ u16 ao ⟨ap, ae, rfl, aZ, az⟩
 refine zza 13 (.v (.tuple #[ap.v, ae.v, .int .i64 0])) (zza 20 (.v (ap.v)) (zza 21 (.v (ae.v)) (zza 22 (zI 0) (zza 3 (.v (ap.v)) (zza 4 (.v (ae.v)) (zza 5 (zI 0) (zzb (zzd (sq9 (zza 23 (.v (ae.v)) (zza 24 (zI ae.n) ?_)))))))))))
 refine zza 25 (zB ((ae.n : Int) == 0)) (zzb (zzu (b := (ae.n : Int) == 0) xj (fun ac => ?_) (fun ac => ?_)))
 ·have aq : (ae.n : Int) = 0 := by simpa using ac
  have hr : N % D = 0 := by have h7 := (az).pos; simp at ac; omega
  refine sq9 (zza 26 (.adr 1 0) (zza 27 (.adr 1 0) (zzi 28 (zB i.s) ty4 zzl (zza 29 (.v (ap.v)) (zza 30 (.v (.agg #[.bool i.s, ap.v])) (zzg 31 200 _ fun _ _ aU aX => qym (k_intTrim aX (IntV.same (s := i.s) (aZ.ext aU).raw) xq) ?_))))))
  rintro _ u23 g24 ⟨am, rfl, aQ⟩
  refine zzg 32 164 _ fun _ _ aJ aM => qym (k_whole (i := am) aM) ?_
  rintro _ u29 aV ⟨aw, rfl, aP⟩
  refine zzj ⟨32, am.cs ++ [aw.v]⟩ ty32 ?_
  refine zzb (zzo (zzw (ret0 [.agg #[.bool am.s, am.m.v, aw.v]] ⟨zzr ty32 zze, trivial⟩ fun u32 a1 => ?_)))
  refine ⟨(⟨am.s, am.m, aw⟩ : RL), rfl, RatN.more (K := (max K 1)) ?_ xq⟩
  rw [hz, ← low1 hp hr]
  exact ((whole_rat (aQ.ext (aJ.t aV.ext)) aP).ext a1)
 have aq : ¬ ((ae.n : Int) = 0) := by simpa using ac
 have hr : N % D ≠ 0 := by have h7 := (az).pos; simp at ac; omega
 refine zzs (zzp ?_)
 refine sq9 (zza 33 (.adr 1 2) (zzi 34 (.v (y.v)) ty28 zzl (zza 35 (.v (ae.v)) (zzg 36 198 _ fun _ _ ak aS => qym (k_natGcd aS (hD.ext (aj.t (ao.t ak))) (az.ext ak).raw xq xq) ?_))))
 rintro _ u37 au ⟨an, rfl, ax⟩
 refine zza 6 (.v (an.v)) (zzb (zzd (sq9 (zza 37 (.v (an.v)) (zzg 38 201 _ fun _ _ ah aN => qym (k_isOne aN (ax.ext ah)) ?_)))))
 rintro _ u41 al rfl
 refine zzb (zzu (b := decide ((Nat.gcd D (N % D)) = 1)) xj (fun ad => ?_) (fun ad => ?_))
 ·have qhb44 := qyt ad
  have hg : Nat.gcd D (N % D) = 1 := by simpa using ad
  have hgp : 0 < Nat.gcd D (N % D) := Nat.gcd_pos_of_pos_left _ hp
  refine zzd (zzz [0, 1, 3, 0, 8, 31, 63, 127] [(0, []), (1, []), (3, []), (4, []), (2, []), (5, []), (6, []), (7, [])] xj xj (zza 39 (.adr 1 0) (zzi 40 (.v (i.v)) ty30 zze (zza 42 (.adr 1 2) (zzi 43 (.v (y.v)) ty28 zzl (zzg 41 200 _ fun _ _ aD aG => qym (k_intTrim aG (IntV.same (s := i.s) (hN.ext (aj.t (ao.t (ak.t (au.t (ah.t (al.t aD)))))))) xq) ?_))))))
  rintro _ u48 aL ⟨ag, rfl, aI⟩
  refine zzg 44 194 _ fun _ _ aE aT => qym (k_natTrim aT (hD.ext (aj.t (ao.t (ak.t (au.t (ah.t (al.t (aD.t (aL.t aE))))))))) xq) ?_
  rintro _ u54 aO ⟨ai, rfl, aW⟩
  refine zza 45 (.v (.agg #[.bool ag.s, ag.m.v, ai.v])) (zzj ⟨32, ag.cs ++ [ai.v]⟩ ty32 ?_)
  refine zzc 70 [(2, .adr 2 0)] [(2, ⟨32, ag.cs ++ [ai.v]⟩)] (zzo (zzw (ret0 [.agg #[.bool ag.s, .slice ag.m.a ag.m.n ag.m.c, .slice ai.a ai.n ai.c]] ⟨zzr ty32 zze, trivial⟩ fun u57 aF => ?_)))
  refine ⟨(⟨ag.s, ag.m, ai⟩ : RL), rfl, ?_⟩
  rw [hz]
  exact low2 hp hg (aI.ext (aE.t (aO.t aF))) (aW.ext aF)
 have qhb44 := qyf ad
 have hg : ¬ Nat.gcd D (N % D) = 1 := by simpa using ad
 have hgp : 0 < Nat.gcd D (N % D) := Nat.gcd_pos_of_pos_left _ hp
 refine zzs (zzp ?_)
 refine sq9 (zza 47 (.adr 1 0) (zza 48 (.adr 1 1) (zzi 49 (.v (i.m.v)) ty28 zzl (zza 50 (.v (an.v)) (zzg 51 195 _ fun _ _ ar aY => qym (k_natDivMod aY (hN.ext (aj.t (ao.t (ak.t (au.t (ah.t (al.t ar))))))) (ax.ext (ah.t (al.t ar))).raw hgp xq xq) ?_)))))
 rintro _ u64 aC ⟨aa, ay, rfl, a0, h63⟩
 refine zza 46 (.v (.tuple #[aa.v, ay.v, .int .i64 0])) (zza 52 (.v (aa.v)) (zza 53 (.v (ay.v)) (zza 54 (zI 0) (zza 7 (.v (aa.v)) (zza 8 (.v (ay.v)) (zza 9 (zI 0) (zzc 70 [(1, .adr 1 0), (2, .adr 2 0), (6, .v (an.v)), (7, .v (aa.v))] [(1, ⟨195, i.cs ++ [y.v]⟩), (2, ⟨32, zw3⟩)] (sq9 (zza 56 (.adr 1 2) (zzi 57 (.v (y.v)) ty28 zzl (zza 58 (.v (an.v)) ?_)))))))))))
 refine zzg 59 195 _ fun _ _ av aK => qym (k_natDivMod aK (hD.ext (aj.t (ao.t (ak.t (au.t (ah.t (al.t (ar.t (aC.t av))))))))) (ax.ext (ah.t (al.t (ar.t (aC.t av))))).raw hgp xq xq) ?_
 rintro _ u72 a2 ⟨af, aA, rfl, aR, h71⟩
 refine zza 55 (.v (.tuple #[af.v, aA.v, .int .i64 0])) (zza 60 (.v (af.v)) (zza 61 (.v (aA.v)) (zza 62 (zI 0) (zza 10 (.v (af.v)) (zza 11 (.v (aA.v)) (zza 12 (zI 0) (zzb (sq9 (zza 63 (.adr 1 0) (zza 64 (.adr 1 0) (zzi 65 (zB i.s) ty4 zzl ?_)))))))))))
 refine zza 66 (.v (aa.v)) (zza 67 (.v (.agg #[.bool i.s, aa.v])) (zza 68 (.v (af.v)) (zza 69 (.v (.agg #[.bool i.s, aa.v, af.v])) (zzj ⟨32, [.bool i.s, aa.v, af.v]⟩ ty32 ?_))))
 refine zzb (zzo (ret0 [.agg #[.bool i.s, .slice aa.a aa.n aa.c, .slice af.a af.n af.c]] ⟨zzr ty32 zze, trivial⟩ fun u75 aB => ?_))
 refine ⟨(⟨i.s, aa, af⟩ : RL), rfl, RatN.more (K := max K L) ?_ xq⟩
 rw [hz]
 exact low3 hp hr (a0.ext (av.t (a2.t aB))) (aR.ext aB)
theorem k_ratTrim {u w : World} {r1 : RL} {x : Rat} {K : Nat} (d : Dat u w) (hr1 : RatV u r1 x K) (hK : K ≤ 200000000) : qyc 68 #[r1.v] w (Post u w fun v u' => ∃ r : RL, v = r.v ∧ RatN u' r x K) := by
 refine zzm Tryz.func68 rfl Tryz.ntmps68 Tryz.results68 d ?_
 refine sq9 (zzk 1 ⟨32, r1.cs⟩ (zzk 2 ⟨32, zw3⟩ (zzb (sq9 (zzi 3 (.v (r1.v)) ty32 zze (zzg 4 148 _ fun _ _ ap ai => qym (k_read ai (hr1.ext ap)) ?_))))))
 rintro _ u13 g14 ⟨an, al, rfl, z12, D12, ac, ae, af, ad, ah, aj⟩
 refine zza 5 (.v (an.v)) (zzg 6 149 _ fun _ _ ag am => qym (k_lowest am (ac.ext ag) (ae.ext ag) af xq xq) ?_)
 rintro _ u19 g20 ⟨aa, rfl, ao⟩
 refine zzj ⟨32, aa.cs⟩ ty32 ?_
 refine zzb (zzo (ret0 [aa.v] ⟨zzr ty32 zze, trivial⟩ fun u22 ak => ?_))
 refine ⟨aa, rfl, RatN.more (K := (max K K)) ?_ xq⟩
 rw [ad]; exact (ao.ext ak)
theorem k_ratOf {u w : World} {z : Int} (d : Dat u w) (h0 : -9223372036854775808 ≤ z) (h1 : z ≤ 9223372036854775807) : qyc 109 #[.int .i64 z] w (Post u w fun v u' => ∃ r : RL, v = r.v ∧ RatN u' r (z : Rat) 2) := by
 refine zzm Tryz.func109 rfl Tryz.ntmps109 Tryz.results109 d ?_
 refine sq9 (zzk 2 ⟨32, zw3⟩ (zzb (sq9 (zza 3 (zI z) (zzg 4 140 _ fun _ _ _ af => qym (k_intOf af (z := z) xq xq) ?_)))))
 rintro _ u14 g15 ⟨aa, rfl, ah⟩
 refine zzg 5 164 _ fun _ _ ag ad => qym (k_whole (i := aa) ad) ?_
 rintro _ u20 ae ⟨ac, rfl, ai⟩
 refine zzj ⟨32, aa.cs ++ [ac.v]⟩ ty32 ?_
 refine zzb (zzo (ret0 [.agg #[.bool aa.s, aa.m.v, ac.v]] ⟨zzr ty32 zze, trivial⟩ fun u23 aj => ?_))
 refine ⟨(⟨aa.s, aa.m, ac⟩ : RL), rfl, RatN.more (K := (max 2 1)) ?_ xq⟩
 exact ((whole_rat (ah.ext (ag.t ae.ext)) ai).ext aj)
theorem k_ratSign {u w : World} {r1 : RL} {x : Rat} {K : Nat} (d : Dat u w) (hr1 : RatV u r1 x K)  : qyc 66 #[r1.v] w (Post u w fun v u' => v = .int .i64 (Nt.sgQ x)) := by
 refine zzm Tryz.func66 rfl Tryz.ntmps66 Tryz.results66 d ?_
 refine sq9 (zzk 1 ⟨32, r1.cs⟩ (zza 2 (zI 0) (zzb (sq9 (zzi 3 (.v (r1.v)) ty32 zze (zzg 4 148 _ fun _ _ an ah => qym (k_read ah (hr1.ext an)) ?_))))))
 rintro _ u13 g14 ⟨ad, aj, rfl, af, D12, aa, am, ae, ac, ag, ai⟩
 refine zza 5 (.v (ad.v)) (zza 6 (.v (.agg #[.bool ad.s, ad.m.v])) (zzg 7 147 _ fun _ _ al ak => qym (k_intSign ak (aa.ext al)) ?_))
 rintro _ u17 g18 rfl
 refine zza 2 (zI (Nt.cmpS af 0)) (zzb (zzo (ret0 [.int .i64 (Nt.cmpS af 0)] ⟨zzq, trivial⟩ fun u20 e21 => ?_)))
 show _ = _
 rw [ac, ← Nt.sg_mk ae]
 rfl
theorem k_ratCompare {u w : World} {r1 : RL} {x : Rat} {K : Nat} {r2 : RL} {y : Rat} {L : Nat} (d : Dat u w) (hr1 : RatV u r1 x K) (hr2 : RatV u r2 y L) (hK : K ≤ 200000000) (hL : L ≤ 200000000) : qyc 78 #[r1.v, r2.v] w (Post u w fun v u' => v = .int .i64 (Nt.cmpQ x y)) := by
 refine zzm Tryz.func78 rfl Tryz.ntmps78 Tryz.results78 d ?_
 refine sq9 (zzk 2 ⟨32, r1.cs⟩ (zzk 3 ⟨32, r2.cs⟩ (zza 4 (zI 0) (zzb (zzd (zzz [0, 1, 0, 7, 0, 0, 63, 127] [(0, []), (2, []), (4, []), (5, []), (1, []), (3, []), (6, []), (7, [])] xj xj (zzi 7 (.v (r1.v)) ty32 zze (zzi 9 (.v (r2.v)) ty32 zze (zzk 5 ⟨197, [.bool false, qyn, qyn, .bool false]⟩ (zzk 6 ⟨197, [.bool false, qyn, qyn, .bool false]⟩ (zzg 8 148 _ fun _ _ aK a2 => qym (k_read a2 (hr1.ext aK)) ?_)))))))))))
 rintro _ u13 a8 ⟨ad, ac, rfl, ag, aq, ai, av, ak, am, aI, a4⟩
 refine zzg 10 148 _ fun _ _ ao aY => qym (k_read aY (hr2.ext (aK.t (a8.t ao)))) ?_
 rintro _ u18 au ⟨af, aa, rfl, ah, ap, aj, ar, al, an, aH, a5⟩
 refine zzj ⟨197, ad.cs ++ [.bool ac]⟩ ty197 ?_
 refine zzj ⟨197, af.cs ++ [.bool aa]⟩ ty197 ?_
 refine zzb (zzd (sq9 (zza 11 (.adr 5 3) (zzi 12 (zB ac) ty4 zzl ?_))))
 rcases Bool.eq_false_or_eq_true ac with hs21 | hs21
 ·refine qbi 13 hs21 (zza 14 (.adr 6 3) ?_ (hw := w1 2 true 13))
  refine zzi 15 (zB aa) ty4 zzl ?_ (hw := w1 2 true 13)
  refine zza 16 (zB aa) (zzb (zzu (b := aa) xj (fun ae => ?_) (fun ae => ?_)))
  ·replace ae : aa = true := ae
   refine sq9 (zza 17 (.adr 5 0) (zza 18 (.adr 5 0) (zzi 19 (.v (.agg #[.bool ad.s, ad.m.v])) ty30 zze (zza 20 (.adr 6 0) (zza 21 (.adr 6 0) (zzi 22 (.v (.agg #[.bool af.s, af.m.v])) ty30 zze (zzg 23 146 _ fun _ _ aN aW => qym (k_intCompare aW (ai.ext (ao.t (au.t aN))) (aj.ext aN)) ?_)))))))
   rintro _ u24 g25 rfl
   refine zza 4 (zI (Nt.cmpS ag ah)) (zzb (zzo (zzw (ret0 [.int .i64 (Nt.cmpS ag ah)] ⟨zzq, trivial⟩ fun u27 e28 => ?_))))
   show _ = _
   rw [am, an, ← Nt.cmp_mk ak al]
   rw [aI (by assumption), aH (by assumption)]
   simp [tupV]
  replace ae : aa = false := ae
  refine zzs (zzp ?_)
  refine zzd (zzz [0, 1, 3, 0, 8, 24, 56, 127, 0, 256, 768, 0, 2048, 6144, 14591, 32767, 65535, 131071] [(0, []), (1, []), (2, []), (3, []), (4, []), (5, []), (8, []), (9, []), (10, []), (11, []), (12, []), (13, []), (6, []), (7, []), (14, []), (15, []), (16, []), (17, [])] xj xj (zza 24 (.adr 5 0) (zza 25 (.adr 5 0) (zzi 26 (.v (.agg #[.bool ad.s, ad.m.v])) ty30 zze (zza 27 (.adr 6 0) (zza 28 (.adr 6 2) (zzi 29 (.v (af.d.v)) ty28 zzl (zza 32 (.adr 6 0) (zza 33 (.adr 6 0) (zzi 34 (.v (.agg #[.bool af.s, af.m.v])) ty30 zze (zza 35 (.adr 5 0) ?_)))))))))))
  refine zza 36 (.adr 5 2) (zzi 37 (.v (ad.d.v)) ty28 zzl (zzg 30 152 _ fun _ _ ax a0 => qym (k_natural (x := af.d) a0) ?_))
  rintro _ u30 az rfl
  refine zzg 31 143 _ fun _ _ aB aQ => qym (k_intMul aQ (ai.ext (ao.t (au.t (ax.t (az.t aB))))) (nat_int (ar.ext (ax.t (az.t aB)))) xq xq) ?_
  rintro _ u36 aO ⟨i34, rfl, aZ⟩
  refine zzg 38 152 _ fun _ _ aC bb => qym (k_natural (x := ad.d) bb) ?_
  rintro _ u40 aG rfl
  refine zzg 39 143 _ fun _ _ aD a6 => qym (k_intMul a6 (aj.ext (ax.t (az.t (aB.t (aO.t (aC.t (aG.t aD))))))) (nat_int (av.ext (ao.t (au.t (ax.t (az.t (aB.t (aO.t (aC.t (aG.t aD)))))))))) xq xq) ?_
  rintro _ u46 ba ⟨i44, rfl, aU⟩
  refine zzg 40 146 _ fun _ _ aL aR => qym (k_intCompare aR (aZ.ext (aC.t (aG.t (aD.t (ba.t aL))))).raw (aU.ext aL).raw) ?_
  rintro _ u50 g51 rfl
  refine zza 4 (zI (Nt.cmpS (ag * (ap : Int)) (ah * (aq : Int)))) (zzc 41 [(4, zI (Nt.cmpS (ag * (ap : Int)) (ah * (aq : Int))))] [] (zzo (ret0 [.int .i64 (Nt.cmpS (ag * (ap : Int)) (ah * (aq : Int)))] ⟨zzq, trivial⟩ fun u53 e54 => ?_)))
  show _ = _
  rw [am, an, ← Nt.cmp_mk ak al]
  rfl
 refine qbi 13 hs21 (zzn 14 (uw 2 true false 13) (zzn 15 (uw 2 true false 13) (zza 16 (zB false) (zzb (zys xj (zzs (zzp ?_)))))))
 refine zzd (zzz [0, 1, 3, 0, 8, 24, 56, 127, 0, 256, 768, 0, 2048, 6144, 14591, 32767, 65535, 131071] [(0, []), (1, []), (2, []), (3, []), (4, []), (5, []), (8, []), (9, []), (10, []), (11, []), (12, []), (13, []), (6, []), (7, []), (14, []), (15, []), (16, []), (17, [])] xj xj (zza 24 (.adr 5 0) (zza 25 (.adr 5 0) (zzi 26 (.v (.agg #[.bool ad.s, ad.m.v])) ty30 zze (zza 27 (.adr 6 0) (zza 28 (.adr 6 2) (zzi 29 (.v (af.d.v)) ty28 zzl (zza 32 (.adr 6 0) (zza 33 (.adr 6 0) (zzi 34 (.v (.agg #[.bool af.s, af.m.v])) ty30 zze (zza 35 (.adr 5 0) ?_)))))))))))
 refine zza 36 (.adr 5 2) (zzi 37 (.v (ad.d.v)) ty28 zzl (zzg 30 152 _ fun _ _ aw a1 => qym (k_natural (x := af.d) a1) ?_))
 rintro _ u56 ay rfl
 refine zzg 31 143 _ fun _ _ aA a9 => qym (k_intMul a9 (ai.ext (ao.t (au.t (aw.t (ay.t aA))))) (nat_int (ar.ext (aw.t (ay.t aA)))) xq xq) ?_
 rintro _ u62 aP ⟨i60, rfl, aX⟩
 refine zzg 38 152 _ fun _ _ aF aS => qym (k_natural (x := ad.d) aS) ?_
 rintro _ u66 aJ rfl
 refine zzg 39 143 _ fun _ _ aE a7 => qym (k_intMul a7 (aj.ext (aw.t (ay.t (aA.t (aP.t (aF.t (aJ.t aE))))))) (nat_int (av.ext (ao.t (au.t (aw.t (ay.t (aA.t (aP.t (aF.t (aJ.t aE)))))))))) xq xq) ?_
 rintro _ u72 aV ⟨i70, rfl, aT⟩
 refine zzg 40 146 _ fun _ _ aM a3 => qym (k_intCompare a3 (aX.ext (aF.t (aJ.t (aE.t (aV.t aM))))).raw (aT.ext aM).raw) ?_
 rintro _ u76 g77 rfl
 refine zza 4 (zI (Nt.cmpS (ag * (ap : Int)) (ah * (aq : Int)))) (zzc 41 [(4, zI (Nt.cmpS (ag * (ap : Int)) (ah * (aq : Int))))] [] (zzo (ret0 [.int .i64 (Nt.cmpS (ag * (ap : Int)) (ah * (aq : Int)))] ⟨zzq, trivial⟩ fun u79 e80 => ?_)))
 show _ = _
 rw [am, an, ← Nt.cmp_mk ak al]
 rfl
theorem k_ratNeg {u w : World} {r1 : RL} {x : Rat} {K : Nat} (d : Dat u w) (hr1 : RatV u r1 x K) (hK : K ≤ 200000000) : qyc 79 #[r1.v] w (Post u w fun v u' => ∃ r : RL, v = r.v ∧ RatN u' r (-x) K) := by
 refine zzm Tryz.func79 rfl Tryz.ntmps79 Tryz.results79 d ?_
 refine sq9 (zzk 1 ⟨32, r1.cs⟩ (zzk 2 ⟨32, zw3⟩ (zzb (sq9 (zzi 3 (.v (r1.v)) ty32 zze (zzg 4 153 _ fun _ _ ag ae => qym (k_flip (r := r1) ae) ?_))))))
 rintro _ u12 af rfl
 refine zzg 5 68 _ fun _ _ ad ah => qym (k_ratTrim ah ((flip_rat (hr1.ext (ag.t af.ext))).ext ad) xq) ?_
 rintro _ u18 g19 ⟨aa, rfl, ac⟩
 refine zzj ⟨32, aa.cs⟩ ty32 ?_
 refine zzb (zzo (ret0 [aa.v] ⟨zzr ty32 zze, trivial⟩ fun u21 ai => ?_))
 refine ⟨aa, rfl, RatN.more (K := K) ?_ xq⟩
 exact (ac.ext ai)
theorem k_ratAbs {u w : World} {r1 : RL} {x : Rat} {K : Nat} (d : Dat u w) (hr1 : RatV u r1 x K) (hK : K ≤ 200000000) : qyc 65 #[r1.v] w (Post u w fun v u' => ∃ r : RL, v = r.v ∧ RatN u' r (Nt.absQ x) K) := by
 refine zzm Tryz.func65 rfl Tryz.ntmps65 Tryz.results65 d ?_
 refine sq9 (zzk 1 ⟨32, r1.cs⟩ (zzk 2 ⟨32, zw3⟩ (zzb (sq9 (zza 3 (.adr 1 0) (zza 4 (.adr 1 1) (zzi 5 (.v (r1.m.v)) ty28 zzl (zza 6 (.v (.agg #[.bool false, r1.m.v])) (zza 7 (.adr 1 2) (zzi 8 (.v (r1.d.v)) ty28 zzl (zza 9 (.v (.agg #[.bool false, r1.m.v, r1.d.v])) ?_)))))))))))
 refine zzg 10 68 _ fun _ _ af ac => qym (k_ratTrim ac ((abs_rat hr1).ext af) xq) ?_
 rintro _ u14 g15 ⟨aa, rfl, ad⟩
 refine zzj ⟨32, aa.cs⟩ ty32 ?_
 refine zzb (zzo (ret0 [aa.v] ⟨zzr ty32 zze, trivial⟩ fun u17 ae => ?_))
 refine ⟨aa, rfl, RatN.more (K := K) ?_ xq⟩
 exact (ad.ext ae)
theorem k_ratAdd {u w : World} {r1 : RL} {x : Rat} {K : Nat} {r2 : RL} {y : Rat} {L : Nat} (d : Dat u w) (hr1 : RatV u r1 x K) (hr2 : RatV u r2 y L) (hK : K ≤ 200000000) (hL : L ≤ 200000000) : qyc 112 #[r1.v, r2.v] w (Post u w fun v u' => ∃ r : RL, v = r.v ∧ RatN u' r (x + y) (K + L + 1)) := by
 refine zzm Tryz.func112 rfl Tryz.ntmps112 Tryz.results112 d ?_
 refine sq9 (zzk 2 ⟨32, r1.cs⟩ (zzk 3 ⟨32, r2.cs⟩ (zzk 4 ⟨32, zw3⟩ (zzb (zzd (zzz [0, 1, 0, 7, 0, 0, 63, 127] [(0, []), (2, []), (4, []), (5, []), (1, []), (3, []), (6, []), (7, [])] xj xj (zzi 8 (.v (r1.v)) ty32 zze (zzi 10 (.v (r2.v)) ty32 zze (zzk 5 ⟨197, [.bool false, qyn, qyn, .bool false]⟩ (zzk 6 ⟨197, [.bool false, qyn, qyn, .bool false]⟩ (zzg 9 148 _ fun _ _ bu bW => qym (k_read bW (hr1.ext bu)) ?_)))))))))))
 rintro _ u13 ca ⟨aa, ag, rfl, z12, aP, ao, af, ae, aw, bn, b0⟩
 refine zzg 11 148 _ fun _ _ ah bR => qym (k_read bR (hr2.ext (bu.t (ca.t ah)))) ?_
 rintro _ u18 am ⟨ac, ad, rfl, z17, D17, aq, ak, aC, az, bk, b3⟩
 refine zzj ⟨197, aa.cs ++ [.bool ag]⟩ ty197 ?_
 refine zzj ⟨197, ac.cs ++ [.bool ad]⟩ ty197 ?_
 refine zzb (zzd (sq9 (zza 12 (.adr 5 3) (zzi 13 (zB ag) ty4 zzl ?_))))
 rcases Bool.eq_false_or_eq_true ag with hs21 | hs21
 ·refine qbi 14 hs21 (zza 15 (.adr 6 3) ?_ (hw := w1 2 true 14))
  refine zzi 16 (zB ad) ty4 zzl ?_ (hw := w1 2 true 14)
  refine zza 17 (zB ad) (zzb (zzu (b := ad) xj (fun au => ?_) (fun au => ?_)))
  ·replace au : ad = true := au
   refine sq9 (zza 18 (.adr 5 0) (zza 19 (.adr 5 0) (zzi 20 (.v (.agg #[.bool aa.s, aa.m.v])) ty30 zze (zza 21 (.adr 6 0) (zza 22 (.adr 6 0) (zzi 23 (.v (.agg #[.bool ac.s, ac.m.v])) ty30 zze (zzg 24 165 _ fun _ _ bz bG => qym (k_intAdd bG (ao.ext (ah.t (am.t bz))) (aq.ext bz) xq xq) ?_)))))))
   rintro _ u26 g27 ⟨aL, rfl, cq⟩
   refine zzg 25 164 _ fun _ _ b2 bS => qym (k_whole (i := aL) bS) ?_
   rintro _ u32 bC ⟨bf, rfl, cf⟩
   refine zzj ⟨32, aL.cs ++ [bf.v]⟩ ty32 ?_
   refine zzb (zzo (zzw (ret0 [.agg #[.bool aL.s, aL.m.v, bf.v]] ⟨zzr ty32 zze, trivial⟩ fun u35 ck => ?_)))
   refine ⟨(⟨aL.s, aL.m, bf⟩ : RL), rfl, RatN.more (K := (max (max K L + 1) 1)) ?_ xq⟩
   rw [aw, az, bn (by assumption), bk (by assumption), Nt.mk_one, Nt.mk_one, ← Rat.intCast_add]
   exact ((whole_rat (cq.ext (b2.t bC.ext)) cf).ext ck)
  replace au : ad = false := au
  refine zzs (zzp ?_)
  refine zzd (sq9 (zza 26 (.adr 5 0) (zza 27 (.adr 5 2) (zzi 28 (.v (aa.d.v)) ty28 zzl (zza 29 (.adr 6 0) (zza 30 (.adr 6 2) (zzi 31 (.v (ac.d.v)) ty28 zzl (zzg 32 166 _ fun _ _ ap bQ => qym (k_natCompare bQ (af.ext (ah.t (am.t ap))) (ak.ext ap)) ?_))))))))
  rintro _ u38 aE rfl
  refine zza 33 (zB ((Nt.cmpS aP D17) == 0)) (zzb (zzu (b := (Nt.cmpS aP D17) == 0) xj (fun aX => ?_) (fun aX => ?_)))
  ·refine zzd (zzz [0, 1, 3, 0, 8, 24, 63, 0, 128, 384, 1023, 2047, 4095] [(0, []), (1, []), (2, []), (3, []), (4, []), (5, []), (7, []), (8, []), (9, []), (6, []), (10, []), (11, []), (12, [])] xj xj (zza 34 (.adr 5 0) (zza 35 (.adr 5 0) (zzi 36 (.v (.agg #[.bool aa.s, aa.m.v])) ty30 zze (zza 37 (.adr 6 0) (zza 38 (.adr 6 0) (zzi 39 (.v (.agg #[.bool ac.s, ac.m.v])) ty30 zze (zza 41 (.adr 5 0) (zza 42 (.adr 5 2) (zzi 43 (.v (aa.d.v)) ty28 zzl (zzg 40 165 _ fun _ _ a9 b9 => qym (k_intAdd b9 (ao.ext (ah.t (am.t (ap.t (aE.t a9))))) (aq.ext (ap.t (aE.t a9))) xq xq) ?_)))))))))))
   rintro _ u45 bY ⟨bv, rfl, bF⟩
   refine zza 44 (.v (.agg #[.bool bv.s, bv.m.v, aa.d.v])) (zzg 45 149 _ fun _ _ bx ci => qym (k_lowest ci (bF.ext bx).raw (af.ext (ah.t (am.t (ap.t (aE.t (a9.t (bY.t bx))))))) ae xq xq) ?_)
   rintro _ u51 g52 ⟨aZ, rfl, bK⟩
   refine zzj ⟨32, aZ.cs⟩ ty32 ?_
   refine zzc 73 [(4, .adr 4 0)] [(4, ⟨32, aZ.cs⟩)] (zzo (zzw (ret0 [aZ.v] ⟨zzr ty32 zze, trivial⟩ fun u54 bD => ?_)))
   refine ⟨aZ, rfl, RatN.more (K := (max (max K L + 1) K)) ?_ xq⟩
   have hD : aP = D17 := Nt.cmp_natE aX
   rw [aw, az, ← hD, ← Nt.add_same ae]
   exact (bK.ext bD)
  refine zzs (zzp ?_)
  refine zzd (zzz [0, 1, 3, 0, 8, 24, 56, 127, 0, 256, 768, 0, 2048, 6144, 14591, 32767, 65535, 0, 262143] [(0, []), (1, []), (2, []), (3, []), (4, []), (5, []), (8, []), (9, []), (10, []), (11, []), (12, []), (13, []), (17, []), (6, []), (7, []), (14, []), (15, []), (16, []), (18, [])] xj xj (zza 46 (.adr 5 0) (zza 47 (.adr 5 0) (zzi 48 (.v (.agg #[.bool aa.s, aa.m.v])) ty30 zze (zza 49 (.adr 6 0) (zza 50 (.adr 6 2) (zzi 51 (.v (ac.d.v)) ty28 zzl (zza 54 (.adr 6 0) (zza 55 (.adr 6 0) (zzi 56 (.v (.agg #[.bool ac.s, ac.m.v])) ty30 zze (zza 57 (.adr 5 0) ?_)))))))))))
  refine zza 58 (.adr 5 2) (zzi 59 (.v (aa.d.v)) ty28 zzl (zzk 7 ⟨30, [.bool false, qyn]⟩ (zzg 52 152 _ fun _ _ aN b4 => qym (k_natural (x := ac.d) b4) ?_)))
  rintro _ u57 aM rfl
  refine zzg 53 143 _ fun _ _ aO cj => qym (k_intMul cj (ao.ext (ah.t (am.t (ap.t (aE.t (aN.t (aM.t aO))))))) (nat_int (ak.ext (ap.t (aE.t (aN.t (aM.t aO)))))) xq xq) ?_
  rintro _ u63 a0 ⟨i61, rfl, cp⟩
  refine zzg 60 152 _ fun _ _ aR cg => qym (k_natural (x := aa.d) cg) ?_
  rintro _ u67 aU rfl
  refine zzg 61 143 _ fun _ _ aS bO => qym (k_intMul bO (aq.ext (ap.t (aE.t (aN.t (aM.t (aO.t (a0.t (aR.t (aU.t aS))))))))) (nat_int (af.ext (ah.t (am.t (ap.t (aE.t (aN.t (aM.t (aO.t (a0.t (aR.t (aU.t aS)))))))))))) xq xq) ?_
  rintro _ u73 a8 ⟨i71, rfl, bU⟩
  refine zzg 62 165 _ fun _ _ a1 bX => qym (k_intAdd bX (cp.ext (aR.t (aU.t (aS.t (a8.t a1))))).raw (bU.ext a1).raw xq xq) ?_
  rintro _ u79 bw ⟨aV, rfl, bB⟩
  refine zzj ⟨30, aV.cs⟩ ty30 ?_
  refine zzc 73 [(4, .adr 4 0), (5, .adr 5 0), (6, .adr 6 0), (7, .adr 7 0)] [(4, ⟨32, zw3⟩), (5, ⟨197, aa.cs ++ [.bool ag]⟩), (6, ⟨197, ac.cs ++ [.bool ad]⟩), (7, ⟨30, aV.cs⟩)] (zzd (zzz [0, 0, 2, 6, 0, 16, 48, 126, 255, 511, 1023] [(0, []), (1, []), (2, []), (3, []), (4, []), (5, []), (6, []), (7, []), (8, []), (9, []), (10, [])] xj xj (zzi 63 (.v (aV.v)) ty30 zze (zza 64 (.adr 5 0) (zza 65 (.adr 5 2) (zzi 66 (.v (aa.d.v)) ty28 zzl (zza 67 (.adr 6 0) (zza 68 (.adr 6 2) (zzi 69 (.v (ac.d.v)) ty28 zzl (zzg 70 167 _ fun _ _ bj bE => qym (k_natMul bE (af.ext (ah.t (am.t (ap.t (aE.t (aN.t (aM.t (aO.t (a0.t (aR.t (aU.t (aS.t (a8.t (a1.t (bw.t bj))))))))))))))) (ak.ext (ap.t (aE.t (aN.t (aM.t (aO.t (a0.t (aR.t (aU.t (aS.t (a8.t (a1.t (bw.t bj))))))))))))) xq xq) ?_))))))))))
  rintro _ u85 cd ⟨bI, rfl, ce⟩
  refine zza 71 (.v (.agg #[.bool aV.s, aV.m.v, bI.v])) (zzg 72 149 _ fun _ _ bA cb => qym (k_lowest cb (bB.ext (bj.t (cd.t bA))).raw (ce.ext bA).raw (Nat.mul_pos ae aC) xq xq) ?_)
  rintro _ u91 g92 ⟨bc, rfl, cc⟩
  refine zzj ⟨32, bc.cs⟩ ty32 ?_
  refine zzb (zzo (ret0 [bc.v] ⟨zzr ty32 zze, trivial⟩ fun u94 b5 => ?_))
  refine ⟨bc, rfl, RatN.more (K := (max (max (K + L) (L + K) + 1) (K + L))) ?_ xq⟩
  rw [aw, az, ← Nt.add_mk ae aC]
  exact (cc.ext b5)
 refine qbi 14 hs21 (zzn 15 (uw 2 true false 14) (zzn 16 (uw 2 true false 14) (zza 17 (zB false) (zzb (zys xj (zzs (zzp ?_)))))))
 refine zzd (sq9 (zza 26 (.adr 5 0) (zza 27 (.adr 5 2) (zzi 28 (.v (aa.d.v)) ty28 zzl (zza 29 (.adr 6 0) (zza 30 (.adr 6 2) (zzi 31 (.v (ac.d.v)) ty28 zzl (zzg 32 166 _ fun _ _ ay b8 => qym (k_natCompare b8 (af.ext (ah.t (am.t ay))) (ak.ext ay)) ?_))))))))
 rintro _ u97 aA rfl
 refine zza 33 (zB ((Nt.cmpS aP D17) == 0)) (zzb (zzu (b := (Nt.cmpS aP D17) == 0) xj (fun aG => ?_) (fun aG => ?_)))
 ·refine zzd (zzz [0, 1, 3, 0, 8, 24, 63, 0, 128, 384, 1023, 2047, 4095] [(0, []), (1, []), (2, []), (3, []), (4, []), (5, []), (7, []), (8, []), (9, []), (6, []), (10, []), (11, []), (12, [])] xj xj (zza 34 (.adr 5 0) (zza 35 (.adr 5 0) (zzi 36 (.v (.agg #[.bool aa.s, aa.m.v])) ty30 zze (zza 37 (.adr 6 0) (zza 38 (.adr 6 0) (zzi 39 (.v (.agg #[.bool ac.s, ac.m.v])) ty30 zze (zza 41 (.adr 5 0) (zza 42 (.adr 5 2) (zzi 43 (.v (aa.d.v)) ty28 zzl (zzg 40 165 _ fun _ _ aH bq => qym (k_intAdd bq (ao.ext (ah.t (am.t (ay.t (aA.t aH))))) (aq.ext (ay.t (aA.t aH))) xq xq) ?_)))))))))))
  rintro _ bV bl ⟨aW, rfl, bg⟩
  refine zza 44 (.v (.agg #[.bool aW.s, aW.m.v, aa.d.v])) (zzg 45 149 _ fun _ _ aQ bd => qym (k_lowest bd (bg.ext aQ).raw (af.ext (ah.t (am.t (ay.t (aA.t (aH.t (bl.t aQ))))))) ae xq xq) ?_)
  rintro _ bT bL ⟨aB, rfl, ba⟩
  refine zzj ⟨32, aB.cs⟩ ty32 ?_
  refine zzc 73 [(4, .adr 4 0)] [(4, ⟨32, aB.cs⟩)] (zzo (zzw (ret0 [aB.v] ⟨zzr ty32 zze, trivial⟩ fun bJ bi => ?_)))
  refine ⟨aB, rfl, RatN.more (K := (max (max K L + 1) K)) ?_ xq⟩
  have hD : aP = D17 := Nt.cmp_natE aG
  rw [aw, az, ← hD, ← Nt.add_same ae]
  exact (ba.ext bi)
 refine zzs (zzp ?_)
 refine zzd (zzz [0, 1, 3, 0, 8, 24, 56, 127, 0, 256, 768, 0, 2048, 6144, 14591, 32767, 65535, 0, 262143] [(0, []), (1, []), (2, []), (3, []), (4, []), (5, []), (8, []), (9, []), (10, []), (11, []), (12, []), (13, []), (17, []), (6, []), (7, []), (14, []), (15, []), (16, []), (18, [])] xj xj (zza 46 (.adr 5 0) (zza 47 (.adr 5 0) (zzi 48 (.v (.agg #[.bool aa.s, aa.m.v])) ty30 zze (zza 49 (.adr 6 0) (zza 50 (.adr 6 2) (zzi 51 (.v (ac.d.v)) ty28 zzl (zza 54 (.adr 6 0) (zza 55 (.adr 6 0) (zzi 56 (.v (.agg #[.bool ac.s, ac.m.v])) ty30 zze (zza 57 (.adr 5 0) ?_)))))))))))
 refine zza 58 (.adr 5 2) (zzi 59 (.v (aa.d.v)) ty28 zzl (zzk 7 ⟨30, [.bool false, qyn]⟩ (zzg 52 152 _ fun _ _ ai bh => qym (k_natural (x := ac.d) bh) ?_)))
 rintro _ bP al rfl
 refine zzg 53 143 _ fun _ _ aj a4 => qym (k_intMul a4 (ao.ext (ah.t (am.t (ay.t (aA.t (ai.t (al.t aj))))))) (nat_int (ak.ext (ay.t (aA.t (ai.t (al.t aj)))))) xq xq) ?_
 rintro _ cl aF ⟨b7, rfl, bs⟩
 refine zzg 60 152 _ fun _ _ an a7 => qym (k_natural (x := aa.d) a7) ?_
 rintro _ cm av rfl
 refine zzg 61 143 _ fun _ _ ar bm => qym (k_intMul bm (aq.ext (ay.t (aA.t (ai.t (al.t (aj.t (aF.t (an.t (av.t ar))))))))) (nat_int (af.ext (ah.t (am.t (ay.t (aA.t (ai.t (al.t (aj.t (aF.t (an.t (av.t ar)))))))))))) xq xq) ?_
 rintro _ b1 aK ⟨bN, rfl, a5⟩
 refine zzg 62 165 _ fun _ _ aD bb => qym (k_intAdd bb (bs.ext (an.t (av.t (ar.t (aK.t aD))))).raw (a5.ext aD).raw xq xq) ?_
 rintro _ bM aT ⟨ax, rfl, bt⟩
 refine zzj ⟨30, ax.cs⟩ ty30 ?_
 refine zzc 73 [(4, .adr 4 0), (5, .adr 5 0), (6, .adr 6 0), (7, .adr 7 0)] [(4, ⟨32, zw3⟩), (5, ⟨197, aa.cs ++ [.bool ag]⟩), (6, ⟨197, ac.cs ++ [.bool ad]⟩), (7, ⟨30, ax.cs⟩)] (zzd (zzz [0, 0, 2, 6, 0, 16, 48, 126, 255, 511, 1023] [(0, []), (1, []), (2, []), (3, []), (4, []), (5, []), (6, []), (7, []), (8, []), (9, []), (10, [])] xj xj (zzi 63 (.v (ax.v)) ty30 zze (zza 64 (.adr 5 0) (zza 65 (.adr 5 2) (zzi 66 (.v (aa.d.v)) ty28 zzl (zza 67 (.adr 6 0) (zza 68 (.adr 6 2) (zzi 69 (.v (ac.d.v)) ty28 zzl (zzg 70 167 _ fun _ _ aI br => qym (k_natMul br (af.ext (ah.t (am.t (ay.t (aA.t (ai.t (al.t (aj.t (aF.t (an.t (av.t (ar.t (aK.t (aD.t (aT.t aI))))))))))))))) (ak.ext (ay.t (aA.t (ai.t (al.t (aj.t (aF.t (an.t (av.t (ar.t (aK.t (aD.t (aT.t aI))))))))))))) xq xq) ?_))))))))))
 rintro _ bH a6 ⟨bp, rfl, bo⟩
 refine zza 71 (.v (.agg #[.bool ax.s, ax.m.v, bp.v])) (zzg 72 149 _ fun _ _ aY be => qym (k_lowest be (bt.ext (aI.t (a6.t aY))).raw (bo.ext aY).raw (Nat.mul_pos ae aC) xq xq) ?_)
 rintro _ cn ch ⟨aJ, rfl, a2⟩
 refine zzj ⟨32, aJ.cs⟩ ty32 ?_
 refine zzb (zzo (ret0 [aJ.v] ⟨zzr ty32 zze, trivial⟩ fun b6 a3 => ?_))
 refine ⟨aJ, rfl, RatN.more (K := (max (max (K + L) (L + K) + 1) (K + L))) ?_ xq⟩
 rw [aw, az, ← Nt.add_mk ae aC]
 exact (a2.ext a3)
theorem k_ratSub {u w : World} {r1 : RL} {x : Rat} {K : Nat} {r2 : RL} {y : Rat} {L : Nat} (d : Dat u w) (hr1 : RatV u r1 x K) (hr2 : RatV u r2 y L) (hK : K ≤ 200000000) (hL : L ≤ 200000000) : qyc 139 #[r1.v, r2.v] w (Post u w fun v u' => ∃ r : RL, v = r.v ∧ RatN u' r (x - y) (K + L + 1)) := by
 refine zzm Tryz.func139 rfl Tryz.ntmps139 Tryz.results139 d ?_
 refine sq9 (zzk 2 ⟨32, r1.cs⟩ (zzk 3 ⟨32, r2.cs⟩ (zzk 4 ⟨32, zw3⟩ (zzb (zzd (zzz [0, 0, 2, 7, 15] [(0, []), (1, []), (2, []), (3, []), (4, [])] xj xj (zzi 5 (.v (r1.v)) ty32 zze (zzi 6 (.v (r2.v)) ty32 zze (zzg 7 153 _ fun _ _ ae ag => qym (k_flip (r := r2) ag) ?_)))))))))
 rintro _ u12 ad rfl
 refine zzg 8 112 _ fun _ _ ac ah => qym (k_ratAdd ah (hr1.ext (ae.t (ad.t ac))) ((flip_rat (hr2.ext (ae.t ad.ext))).ext ac) xq xq) ?_
 rintro _ u18 g19 ⟨aa, rfl, af⟩
 refine zzj ⟨32, aa.cs⟩ ty32 ?_
 refine zzb (zzo (ret0 [aa.v] ⟨zzr ty32 zze, trivial⟩ fun u21 ai => ?_))
 refine ⟨aa, rfl, RatN.more (K := (K + L + 1)) ?_ xq⟩
 rw [Rat.sub_eq_add_neg]
 exact (af.ext ai)
theorem k_ratMul {u w : World} {r1 : RL} {x : Rat} {K : Nat} {r2 : RL} {y : Rat} {L : Nat} (d : Dat u w) (hr1 : RatV u r1 x K) (hr2 : RatV u r2 y L) (hK : K ≤ 200000000) (hL : L ≤ 200000000) : qyc 113 #[r1.v, r2.v] w (Post u w fun v u' => ∃ r : RL, v = r.v ∧ RatN u' r (x * y) (K + L)) := by
 refine zzm Tryz.func113 rfl Tryz.ntmps113 Tryz.results113 d ?_
 refine sq9 (zzk 2 ⟨32, r1.cs⟩ (zzk 3 ⟨32, r2.cs⟩ (zzk 4 ⟨32, zw3⟩ (zzb (zzd (zzz [0, 1, 0, 7, 0, 0, 63, 127] [(0, []), (2, []), (4, []), (5, []), (1, []), (3, []), (6, []), (7, [])] xj xj (zzi 8 (.v (r1.v)) ty32 zze (zzi 10 (.v (r2.v)) ty32 zze (zzk 5 ⟨197, [.bool false, qyn, qyn, .bool false]⟩ (zzk 6 ⟨197, [.bool false, qyn, qyn, .bool false]⟩ (zzg 9 148 _ fun _ _ aF aH => qym (k_read aH (hr1.ext aF)) ?_)))))))))))
 rintro _ u13 aV ⟨al, ae, rfl, z12, D12, aw, ak, an, af, au, aJ⟩
 refine zzg 11 148 _ fun _ _ ar aW => qym (k_read aW (hr2.ext (aF.t (aV.t ar)))) ?_
 rintro _ u18 aA ⟨ai, ac, rfl, z17, D17, aB, aj, am, ag, az, aL⟩
 refine zzj ⟨197, al.cs ++ [.bool ae]⟩ ty197 ?_
 refine zzj ⟨197, ai.cs ++ [.bool ac]⟩ ty197 ?_
 refine zzb (sq9 (zza 12 (.adr 5 0) (zza 13 (.adr 5 0) (zzi 14 (.v (.agg #[.bool al.s, al.m.v])) ty30 zze (zza 15 (.adr 6 0) (zza 16 (.adr 6 0) (zzi 17 (.v (.agg #[.bool ai.s, ai.m.v])) ty30 zze (zzg 18 143 _ fun _ _ ah a3 => qym (k_intMul a3 (aw.ext (ar.t (aA.t ah))) (aB.ext ah) xq xq) ?_))))))))
 rintro _ u24 aq ⟨aa, rfl, aC⟩
 refine zzk 7 ⟨30, [.bool false, qyn]⟩ (zzj ⟨30, aa.cs⟩ ty30 ?_)
 refine zzb (zzd (sq9 (zza 19 (.adr 5 3) (zzi 20 (zB ae) ty4 zzl ?_))))
 rcases Bool.eq_false_or_eq_true ae with hs27 | hs27
 ·refine qbi 21 hs27 (zza 22 (.adr 6 3) ?_ (hw := w1 2 true 21))
  refine zzi 23 (zB ac) ty4 zzl ?_ (hw := w1 2 true 21)
  refine zza 24 (zB ac) (zzb (zzu (b := ac) xj (fun ad => ?_) (fun ad => ?_)))
  ·replace ad : ac = true := ad
   refine sq9 (zzi 25 (.v (aa.v)) ty30 zze (zzg 26 164 _ fun _ _ aI aY => qym (k_whole (i := aa) aY) ?_))
   rintro _ u32 aP ⟨av, rfl, a4⟩
   refine zzj ⟨32, aa.cs ++ [av.v]⟩ ty32 ?_
   refine zzb (zzo (zzw (ret0 [.agg #[.bool aa.s, aa.m.v, av.v]] ⟨zzr ty32 zze, trivial⟩ fun u35 aN => ?_)))
   refine ⟨(⟨aa.s, aa.m, av⟩ : RL), rfl, RatN.more (K := (max (K + L) 1)) ?_ xq⟩
   rw [af, ag, au (by assumption), az (by assumption), Nt.mk_one, Nt.mk_one, ← Rat.intCast_mul]
   exact ((whole_rat (aC.ext (aI.t aP.ext)) a4).ext aN)
  replace ad : ac = false := ad
  refine zzs (zzp ?_)
  refine zzd (zzz [0, 0, 2, 6, 0, 16, 48, 126, 255, 511, 1023] [(0, []), (1, []), (2, []), (3, []), (4, []), (5, []), (6, []), (7, []), (8, []), (9, []), (10, [])] xj xj (zzi 27 (.v (aa.v)) ty30 zze (zza 28 (.adr 5 0) (zza 29 (.adr 5 2) (zzi 30 (.v (al.d.v)) ty28 zzl (zza 31 (.adr 6 0) (zza 32 (.adr 6 2) (zzi 33 (.v (ai.d.v)) ty28 zzl (zzg 34 167 _ fun _ _ ax aU => qym (k_natMul aU (ak.ext (ar.t (aA.t (ah.t (aq.t ax))))) (aj.ext (ah.t (aq.t ax))) xq xq) ?_)))))))))
  rintro _ u40 aR ⟨a0, rfl, aO⟩
  refine zza 35 (.v (.agg #[.bool aa.s, aa.m.v, a0.v])) (zzg 36 149 _ fun _ _ aD aQ => qym (k_lowest aQ (aC.ext (ax.t (aR.t aD))).raw (aO.ext aD).raw (Nat.mul_pos an am) xq xq) ?_)
  rintro _ u46 g47 ⟨ao, rfl, a1⟩
  refine zzj ⟨32, ao.cs⟩ ty32 ?_
  refine zzc 37 [(4, .adr 4 0)] [(4, ⟨32, ao.cs⟩)] (zzo (ret0 [ao.v] ⟨zzr ty32 zze, trivial⟩ fun u49 aZ => ?_))
  refine ⟨ao, rfl, RatN.more (K := (max (K + L) (K + L))) ?_ xq⟩
  rw [af, ag, ← Nt.mul_mk]
  exact (a1.ext aZ)
 refine qbi 21 hs27 (zzn 22 (uw 2 true false 21) (zzn 23 (uw 2 true false 21) (zza 24 (zB false) (zzb (zys xj (zzs (zzp ?_)))))))
 refine zzd (zzz [0, 0, 2, 6, 0, 16, 48, 126, 255, 511, 1023] [(0, []), (1, []), (2, []), (3, []), (4, []), (5, []), (6, []), (7, []), (8, []), (9, []), (10, [])] xj xj (zzi 27 (.v (aa.v)) ty30 zze (zza 28 (.adr 5 0) (zza 29 (.adr 5 2) (zzi 30 (.v (al.d.v)) ty28 zzl (zza 31 (.adr 6 0) (zza 32 (.adr 6 2) (zzi 33 (.v (ai.d.v)) ty28 zzl (zzg 34 167 _ fun _ _ ay aT => qym (k_natMul aT (ak.ext (ar.t (aA.t (ah.t (aq.t ay))))) (aj.ext (ah.t (aq.t ay))) xq xq) ?_)))))))))
 rintro _ u54 aM ⟨aK, rfl, aX⟩
 refine zza 35 (.v (.agg #[.bool aa.s, aa.m.v, aK.v])) (zzg 36 149 _ fun _ _ aE a2 => qym (k_lowest a2 (aC.ext (ay.t (aM.t aE))).raw (aX.ext aE).raw (Nat.mul_pos an am) xq xq) ?_)
 rintro _ u60 g61 ⟨ap, rfl, aS⟩
 refine zzj ⟨32, ap.cs⟩ ty32 ?_
 refine zzc 37 [(4, .adr 4 0)] [(4, ⟨32, ap.cs⟩)] (zzo (ret0 [ap.v] ⟨zzr ty32 zze, trivial⟩ fun u63 aG => ?_))
 refine ⟨ap, rfl, RatN.more (K := (max (K + L) (K + L))) ?_ xq⟩
 rw [af, ag, ← Nt.mul_mk]
 exact (aS.ext aG)
def DivR (x y : Rat) (K : Nat) (v : Value) (u : World) : Prop := (v = .tuple #[.agg #[.bool false, qyn, qyn], .int .i64 3] ∧ y = 0) ∨ (y ≠ 0 ∧ ∃ r : RL, v = .tuple #[r.v, .int .i64 0] ∧ RatN u r (x / y) K)
theorem k_ratDiv {u w : World} {r1 : RL} {x : Rat} {K : Nat} {r2 : RL} {y : Rat} {L : Nat} (d : Dat u w) (hr1 : RatV u r1 x K) (hr2 : RatV u r2 y L) (hK : K ≤ 200000000) (hL : L ≤ 200000000) : qyc 138 #[r1.v, r2.v] w (Post u w fun v u' => DivR x y (K + L) v u') := by
 refine zzm Tryz.func138 rfl Tryz.ntmps138 Tryz.results138 d ?_
 refine sq9 (zzk 2 ⟨32, r1.cs⟩ (zzk 3 ⟨32, r2.cs⟩ (zzk 4 ⟨32, zw3⟩ (zza 5 (zI 0) (zzb (zzd (zzz [0, 1, 0, 7, 0, 0, 63, 127] [(0, []), (2, []), (4, []), (5, []), (1, []), (3, []), (6, []), (7, [])] xj xj (zzi 10 (.v (r1.v)) ty32 zze (zzi 12 (.v (r2.v)) ty32 zze (zzk 6 ⟨197, [.bool false, qyn, qyn, .bool false]⟩ (zzk 7 ⟨197, [.bool false, qyn, qyn, .bool false]⟩ ?_)))))))))))
 refine zzg 11 148 _ fun _ _ aK aM => qym (k_read aM (hr1.ext aK)) ?_
 rintro _ u13 aX ⟨ag, aA, rfl, z12, aW, ar, aC, aE, av, aL, aO⟩
 refine zzg 13 148 _ fun _ _ aB aZ => qym (k_read aZ (hr2.ext (aK.t (aX.t aB)))) ?_
 rintro _ u18 aH ⟨aa, ao, rfl, ah, D17, af, aw, aD, ad, aY, aR⟩
 refine zzj ⟨197, ag.cs ++ [.bool aA]⟩ ty197 ?_
 refine zzj ⟨197, aa.cs ++ [.bool ao]⟩ ty197 ?_
 refine zzb (zzd (sq9 (zza 14 (.adr 7 0) (zza 15 (.adr 7 0) (zzi 16 (.v (.agg #[.bool aa.s, aa.m.v])) ty30 zze (zzg 17 147 _ fun _ _ ae a3 => qym (k_intSign a3 (af.ext ae)) ?_))))))
 rintro _ u22 ai rfl
 refine zza 18 (zB ((Nt.cmpS ah 0) == 0)) (zzb (zzu (b := (Nt.cmpS ah 0) == 0) xj (fun ac => ?_) (fun ac => ?_)))
 ·refine sq9 (zza 19 (.v (.agg #[.bool false, qyn, qyn])) (zzj ⟨32, zw3⟩ ty32 ?_))
  refine zza 5 (zI 3) (zzb (zzo (zzw (ret0 [.agg #[.bool false, qyn, qyn], .int .i64 3] ⟨zzr ty32 zze, zzq, trivial⟩ fun u26 e27 => ?_))))
  left
  exact ⟨rfl, by rw [ad, Nt.cmp_eq0 ac, Rat.zero_mkRat]⟩
 have aF : ah ≠ 0 := Nt.cmp_ne0 ac
 have hpp : 0 < ((aW : Int) * ah : Int).natAbs := Int.natAbs_pos.2 (Int.mul_ne_zero xq aF)
 refine zzs (zzp ?_)
 refine zzd (zzz [0, 1, 3, 0, 8, 24, 56, 127, 0, 511] [(0, []), (1, []), (2, []), (3, []), (4, []), (5, []), (8, []), (6, []), (7, []), (9, [])] xj xj (zza 20 (.adr 6 0) (zza 21 (.adr 6 0) (zzi 22 (.v (.agg #[.bool ag.s, ag.m.v])) ty30 zze (zza 23 (.adr 7 0) (zza 24 (.adr 7 2) (zzi 25 (.v (aa.d.v)) ty28 zzl (zzk 8 ⟨30, [.bool false, qyn]⟩ (zzg 26 152 _ fun _ _ ak aS => qym (k_natural (x := aa.d) aS) ?_)))))))))
 rintro _ u29 an rfl
 refine zzg 27 143 _ fun _ _ al a2 => qym (k_intMul a2 (ar.ext (aB.t (aH.t (ae.t (ai.t (ak.t (an.t al))))))) (nat_int (aw.ext (ae.t (ai.t (ak.t (an.t al)))))) xq xq) ?_
 rintro _ u35 aJ ⟨aj, rfl, aT⟩
 refine zzj ⟨30, aj.cs⟩ ty30 ?_
 refine zzb (zzd (zzz [0, 1, 3, 7, 0, 16, 48, 127, 0, 511] [(0, []), (1, []), (2, []), (4, []), (5, []), (6, []), (8, []), (3, []), (7, []), (9, [])] xj xj (zza 28 (.adr 6 0) (zza 29 (.adr 6 2) (zzi 30 (.v (ag.d.v)) ty28 zzl (zza 32 (.adr 7 0) (zza 33 (.adr 7 0) (zzi 34 (.v (.agg #[.bool aa.s, aa.m.v])) ty30 zze (zzk 9 ⟨30, [.bool false, qyn]⟩ (zzg 31 152 _ fun _ _ ax aU => qym (k_natural (x := ag.d) aU) ?_))))))))))
 rintro _ u39 ap rfl
 refine zzg 35 143 _ fun _ _ az aV => qym (k_intMul aV (nat_int (aC.ext (aB.t (aH.t (ae.t (ai.t (ak.t (an.t (al.t (aJ.t (ax.t (ap.t az)))))))))))) (af.ext (ae.t (ai.t (ak.t (an.t (al.t (aJ.t (ax.t (ap.t az))))))))) xq xq) ?_
 rintro _ u45 aN ⟨am, rfl, aI⟩
 refine zzj ⟨30, am.cs⟩ ty30 ?_
 refine zzc 40 [(4, .adr 4 0), (8, .adr 8 0), (9, .adr 9 0)] [(4, ⟨32, zw3⟩), (8, ⟨30, aj.cs⟩), (9, ⟨30, am.cs⟩)] (sq9 (zzi 36 (.v (aj.v)) ty30 zze (zzi 37 (.v (am.v)) ty30 zze (zzg 38 168 _ fun _ _ aq aP => qym (k_quotient (i := aj) (j := am) aP) ?_))))
 rintro _ u49 ay rfl
 refine zzg 39 149 _ fun _ _ aG aQ => qym (k_lowest aQ ((quot_int (aT.ext (ax.t (ap.t (az.t (aN.t (aq.t ay.ext)))))) (aI.ext (aq.t ay.ext))).ext aG) ((int_mag (aI.ext (aq.t ay.ext))).ext aG).raw hpp xq xq) ?_
 rintro _ u55 g56 ⟨au, rfl, a0⟩
 refine zzj ⟨32, au.cs⟩ ty32 ?_
 refine zza 5 (zI 0) (zzb (zzo (ret0 [au.v, .int .i64 0] ⟨zzr ty32 zze, zzq, trivial⟩ fun u58 a1 => ?_)))
 right
 refine ⟨?_, au, rfl, RatN.more (K := (max (K + L) (K + L))) ?_ xq⟩
 ·rw [ad]; exact (Rat.mkRat_ne_zero xq).2 aF
 rw [av, ad, ← Nt.quo_mk aE aD aF, ← Nt.div_mk2 xq]
 exact (a0.ext a1)
theorem k_ratDiv1 {u w : World} {r1 r2 : RL} {x y : Rat} {K L : Nat} (d : Dat u w) (hr1 : RatV u r1 x K) (hr2 : RatV u r2 y L) (hy : y ≠ 0) (hK : K ≤ 200000000) (hL : L ≤ 200000000) : qyc 138 #[r1.v, r2.v] w (Post u w fun v u' => ∃ r : RL, v = .tuple #[r.v, .int .i64 0] ∧ RatN u' r (x / y) (K + L)) :=
 qym (k_ratDiv d hr1 hr2 hK hL) fun v u' _ h => h.elim (fun h => absurd h.2 hy) (fun h => h.2)
theorem mod_pos (m : Int) (hm : 1 ≤ m) (n : Int) (h : decide (Int.tmod n m < 0) = false) : Int.tmod n m = n % m := by
 have h := qyf h
 rcases Int.lt_or_le n 0 with hn | hn
 ·have e := Int.tmod_add_mul_tdiv n m
  have h2 : -m < Int.tmod n m := Int.lt_tmod_of_pos n xq
  have h3 : Int.tmod n m ≤ 0 := by
   have h8 := Int.neg_tmod n m
   have h9 : Int.tmod (-n) m = (-n) % m := Int.tmod_eq_emod_of_nonneg xq
   have h10 := Int.emod_nonneg (-n) (show m ≠ 0 by omega)
   omega
  have h4 : Int.tmod n m = 0 := by omega
  rw [h4] at e ⊢
  have : m ∣ n := ⟨n.tdiv m, by omega⟩
  exact (Int.emod_eq_zero_of_dvd this).symm
 exact Int.tmod_eq_emod_of_nonneg hn
theorem mod_neg (m : Int) (hm : 1 ≤ m) (n : Int) (h : decide (Int.tmod n m < 0) = true) : Int.tmod n m + m = n % m := by
 have h := qyt h
 have e := Int.tmod_add_mul_tdiv n m
 have h2 : -m < Int.tmod n m := Int.lt_tmod_of_pos n xq
 have h5 : n = m * (n.tdiv m - 1) + (Int.tmod n m + m) := by rw [Int.mul_sub, Int.mul_one]; omega
 have := (Nt.ediv_uniq (z := n) (y := m) (q := n.tdiv m - 1) (r := Int.tmod n m + m) xq h5 xq xq).2
 exact this.symm
theorem k_Mod {u w : World} {n m : Int} (d : Dat u w) (hm : 1 ≤ m) (hm2 : m ≤ 4611686018427387904) (hn0 : -9223372036854775808 ≤ n) (hn1 : n ≤ 9223372036854775807) : qyc 12 #[.int .i64 n, .int .i64 m] w (Post u w fun v _ => v = .int .i64 (n % m)) := by
 refine zzm Tryz.func12 rfl Tryz.ntmps12 Tryz.results12 d ?_
 refine sq9 (zza 4 (zI 0) (zzb (zzd (sq9 (zza 5 (zI m) (zyq 6 (x := zB (decide (m < 1))) (zB false) (by rw [show (decide (m < 1)) = false from yw]) (zzb (zys xj (zzs (zzp ?_))))))))))
 refine sq9 (zza 7 (zI n) (zza 8 (zI m) (sy_rem 9 (Int.tmod n m) xq rfl ?_)))
 refine zza 0 (zI (Int.tmod n m)) (zzb (zzd (sq9 (zza 10 (zI (Int.tmod n m)) (zza 11 (zB (decide ((Int.tmod n m) < 0))) (zzb (zzu (b := decide ((Int.tmod n m) < 0)) xj (fun aa => ?_) (fun aa => ?_))))))))
 ·have qhb11 := qyt aa
  refine zzf (zza 12 (zI (Int.tmod n m)) (zza 13 (zI m) (zyq 14 (x := zI (IntKind.i64.wrap (Int.tmod n m + m))) (zI (Int.tmod n m + m)) (by rw [show (IntKind.i64.wrap (Int.tmod n m + m)) = (Int.tmod n m + m) from (IntWalk.i64_in _ (by have h2 := Int.lt_tmod_of_pos n (show 0 < m by omega); have h3 := Int.tmod_lt_of_pos n (show 0 < m by omega); omega))]) (zza 0 (zI (Int.tmod n m + m)) (zzb (sq9 (zza 15 (zI (Int.tmod n m + m)) (zza 4 (zI (Int.tmod n m + m)) (zzb (zzo (ret0 [.int .i64 (Int.tmod n m + m)] ⟨zzq, trivial⟩ fun u12 e13 => ?_)))))))))))
  show Value.int _ _ = Value.int _ _
  rw [mod_neg m hm n aa]
 have qhb11 := qyf aa
 refine zzs (zzp ?_)
 refine sq9 (zza 15 (zI (Int.tmod n m)) (zza 4 (zI (Int.tmod n m)) (zzb (zzo (ret0 [.int .i64 (Int.tmod n m)] ⟨zzq, trivial⟩ fun u14 e15 => ?_)))))
 show Value.int _ _ = Value.int _ _
 rw [mod_pos m hm n aa]
def smR (r : RL) : Bool := decide ((r.m.n : Int) ≤ 4) && decide ((r.d.n : Int) ≤ 4)
theorem smR_few {u : World} {r : RL} {q : Rat} {K : Nat} (h : RatV u r q K) (hs : smR r = true) : RatV u r q 4 := by
 unfold smR at hs
 simp at hs
 exact h.few xq xq xq
theorem k_smallRat {u w : World} {r : RL} (d : Dat u w) : qyc 20 #[r.v] w (Post u w fun v _ => v = .bool (smR r)) := by
 refine zzm Tryz.func20 rfl Tryz.ntmps20 Tryz.results20 d ?_
 refine sq9 (zzk 1 ⟨32, r.cs⟩ (zza 2 (zB false) (zzb (sq9 (zza 3 (.adr 1 0) (zza 4 (.adr 1 1) (zzi 5 (.v (r.m.v)) ty28 zzl (zza 6 (zI r.m.n) (zza 7 (zB (decide ((r.m.n : Int) ≤ 4))) ?_)))))))))
 rcases Bool.eq_false_or_eq_true (decide ((r.m.n : Int) ≤ 4)) with hs11 | hs11
 ·refine qbi 8 hs11 ?_
  have qhs11 := qyt hs11
  refine zza 9 (.adr 1 2) ?_ (hw := w1 5 true 8)
  refine zzi 10 (.v (r.d.v)) ty28 zzl ?_ (hw := w1 5 true 8)
  refine zza 11 (zI r.d.n) ?_ (hw := w1 5 true 8)
  refine zza 12 (zB (decide ((r.d.n : Int) ≤ 4))) ?_ (hw := w1 5 true 8)
  refine zza 13 (zB (decide ((r.d.n : Int) ≤ 4))) (zza 2 (zB (decide ((r.d.n : Int) ≤ 4))) (zzb (zzo (ret0 [.bool (decide ((r.d.n : Int) ≤ 4))] ⟨zzq, trivial⟩ fun u12 e13 => ?_))))
  show _ = _
  unfold smR
  rw [hs11]
  rfl
 refine qbi 8 hs11 ?_
 have qhs11 := qyf hs11
 refine zzn 9 (uw 5 true false 8) (zzn 10 (uw 5 true false 8) (zzn 11 (uw 5 true false 8) (zzn 12 (uw 5 true false 8) (zza 13 (zB false) (zza 2 (zB false) (zzb (zzo (ret0 [.bool false] ⟨zzq, trivial⟩ fun u14 e15 => ?_))))))))
 show _ = _
 unfold smR
 rw [hs11]
 rfl
theorem k_cut {u w : World} {x : Sl} {l : List Rat} {K : Nat} (d : Dat u w) (hx : PolV u x l K) (hK : K ≤ 100000000) (hx9 : l.length ≤ 1000000000) : qyc 151 #[x.v] w (Post u w fun v u' => v = .slice x.a (Nt.trimQ l).length x.c) := by
 have hlen := hx.len
 refine zzm Tryz.func151 rfl Tryz.ntmps151 Tryz.results151 d ?_
 refine sq9 (zza 2 (.v (qyn)) (zzb (sq9 (zza 4 (.v (x.v)) (zza 5 (zI x.n) (zza 3 (zI x.n) (zzb (zzd (zzt (zyn (I := fun aj S' u' => ∃ (n : Nat), (aj = n) ∧ (n ≤ l.length) ∧ (∀ i, n ≤ i → Nt.co l i = 0) ∧ (S' = St.of 22 [(0, .v (x.v)), (3, zI n)] []) ∧ (Ext u u')) (fun m S u1 u2 e h => by obtain ⟨n, hm, p0, p1, hS, hE⟩ := h; exact ⟨n, hm, p0, p1, hS, hE.trans e⟩) _ yz ⟨x.n, rfl, by omega, fun i hi => Nt.co_ge xq, rfl, (Ext.refl _)⟩ ?_))))))))))
 rintro aj _ u11 ⟨n, am, hn, hz, rfl, ac⟩
 refine zzd (sq9 (zza 6 (zI n) (zza 7 (zB (decide ((0 : Int) < (n : Int)))) ?_)))
 rcases Bool.eq_false_or_eq_true (decide ((0 : Int) < (n : Int))) with hs12 | hs12
 ·refine qbi 8 hs12 ?_
  have qhs12 := qyt hs12
  refine zza 9 (.v (x.v)) ?_ (hw := w1 2 true 8)
  refine zza 10 (zI n) ?_ (hw := w1 2 true 8)
  refine qwi 11 ((n : Int) - 1) (n - 1 : Nat) xz ?_ (hw := w1 2 true 8)
  have hl13 := (hx.ext ac).len
  obtain ⟨ak, b13, ai, ag, af, ae⟩ := pol_at (hx.ext ac) (i := n - 1) xq
  refine zya 12 (ai + (n - 1) * 3) (n := x.n) (off := ai) (sz := 3) (i := ((n - 1 : Nat) : Int)) xq ag xq xq sl27 ?_ (hw := w1 2 true 8)
  refine zym 13 ak.cs af ty32 ?_ (hw := w1 2 true 8)
  refine zzg 14 66 _ (fun _ _ ad al => qym (k_ratSign al (ae.ext ad)) ?_) (hw := w1 2 true 8)
  rintro _ u15 ah rfl
  refine zza 15 (zB ((Nt.sgQ (l.getD (n - 1) 0)) == 0)) ?_ (hw := w1 2 true 8)
  refine zza 16 (zB ((Nt.sgQ (l.getD (n - 1) 0)) == 0)) (zzb (zzu (b := (Nt.sgQ (l.getD (n - 1) 0)) == 0) xj (fun aa => ?_) (fun aa => ?_)))
  ·refine zzs (zzp ?_)
   refine zzt (zzf (zza 17 (zI n) (qwi 18 ((n : Int) - 1) (n - 1 : Nat) xz (zza 3 (zI (n - 1 : Nat)) (zzx ?_)))))
   refine ⟨_, ?_, _, by exact zzv _ _ _, n - 1, rfl, by omega, (fun i hi => by by_cases e : i = n - 1; (rw [e]; have h9 := aa; rw [Nt.sgQ_eq] at h9; exact qyt h9); exact hz i xq), rfl, (ac.t (ad.t ah.ext))⟩
   omega
  refine zyc (zzp (sq9 (zza 19 (.v (x.v)) (zza 20 (zI n) ?_))))
  have hl19 := (hx.ext (ac.t (ad.t ah.ext))).len
  have hc19 := (hx.ext (ac.t (ad.t ah.ext))).cap
  refine sy_front 21 (n := x.n) (c := x.c) n sl27 rfl xq ?_
  refine zza 2 (.v (.slice x.a n x.c)) (zzb (zzo (ret0 [.slice x.a n x.c] ⟨zzq, trivial⟩ fun u20 e21 => ?_)))
  have e := Nt.trim_len_of (l := l) hn hz (fun _ h => by have h9 := aa; rw [Nt.sgQ_eq] at h9; exact qyf h9 h)
  show Value.slice _ _ _ = Value.slice _ _ _
  rw [e]
 refine qbi 8 hs12 ?_
 have qhs12 := qyf hs12
 refine zzn 9 (uw 2 true false 8) (zzn 10 (uw 2 true false 8) (zzn 11 (uw 2 true false 8) (zzn 12 (uw 2 true false 8) (zzn 13 (uw 2 true false 8) (zzn 14 (uw 2 true false 8) (zzn 15 (uw 2 true false 8) (zza 16 (zB false) (zzb (zys xj (zyc (zzp ?_)))))))))))
 refine sq9 (zza 19 (.v (x.v)) (zza 20 (zI n) ?_))
 have hl22 := (hx.ext ac).len
 have hc22 := (hx.ext ac).cap
 refine sy_front 21 (n := x.n) (c := x.c) n sl27 rfl xq ?_
 refine zza 2 (.v (.slice x.a n x.c)) (zzb (zzo (ret0 [.slice x.a n x.c] ⟨zzq, trivial⟩ fun u23 e24 => ?_)))
 have e := Nt.trim_len_of (l := l) hn hz (fun h => absurd h xq)
 show Value.slice _ _ _ = Value.slice _ _ _
 rw [e]
def NewR (u : World) (n : Nat) (t : List Rat) (K : Nat) (v : Value) (u' : World) : Prop := ∃ (b : Nat) (L : List RL), v = .slice (some ⟨b, 0, none⟩) n n ∧ u.heap.size ≤ b ∧ u'.heap[b]? = some (.cells (rcs L).toArray 32 (0, 0)) ∧ L.length = n ∧ RatsN u' L t K
theorem k_zeros {u w : World} {n : Nat} (d : Dat u w) (hn9 : n ≤ 1000000000) : qyc 180 #[.int .i64 (n : Int)] w (Post u w fun v u' => NewR u n (List.replicate n 0) 2 v u') := by
 refine zzm Tryz.func180 rfl Tryz.ntmps180 Tryz.results180 d ?_
 refine sq9 (zza 2 (.v (qyn)) (zzb (sq9 (zza 5 (zI n) (sy_make 6 (T := 27) (E := 32) (z := .agg #[.bool false, qyn, qyn]) (size := 3) (bytes := 56) n (rcs (List.replicate n rl0)) xj xj rfl rfl xq yk (made_rcs _) ?_)))))
 refine zza 3 (.slc 6 0 n n) (zzc 18 [(3, .slc 6 0 n n)] [(6, ⟨32, rcs (List.replicate n rl0)⟩)] (zzd (sq9 (zza 7 (.slc 6 0 n n) (zza 8 (zI n) (zza 9 (zI 0) (zzc 18 [(3, .slc 6 0 n n), (8, zI n), (9, zI 0)] [(6, ⟨32, rcs (List.replicate n rl0)⟩)] (zzt (zyn (I := fun ak S' u' => ∃ (i : Nat) (L : List RL), (ak = n - i) ∧ (i ≤ n) ∧ (L.length = n) ∧ (S' = St.of 18 [(3, .slc 6 0 n n), (8, zI n), (9, zI i)] [(6, ⟨32, rcs L⟩)]) ∧ (Ext u u') ∧ (RatsN u' (L.take i) ((List.replicate n (0 : Rat)).take i) 2)) (fun m S u1 u2 e h => by obtain ⟨i, L, hm, p0, p1, hS, hE, f0⟩ := h; exact ⟨i, L, hm, p0, p1, hS, hE.trans e, f0.ext e⟩) _ yz ⟨0, List.replicate n rl0, rfl, by omega, by simp, rfl, (Ext.refl _), RatsN.tnil _ _ _ _⟩ ?_)))))))))
 rintro ak _ u11 ⟨i, L, ar, hi, hL, rfl, am, hR⟩
 refine sq9 (zza 10 (zB (decide ((i : Int) < (n : Int)))) (zzb (zzd (zzu (b := decide ((i : Int) < (n : Int))) xj (fun aa => ?_) (fun aa => ?_)))))
 ·have qhb12 := qyt aa
  refine zzs (zzp ?_)
  refine zzd (zzt (sq9 (zza 11 (zI i) (zza 4 (zI i) (zzb (zzf (zza 12 (.slc 6 0 n n) (zza 13 (zI i) (zzg 14 109 _ fun _ _ aj ao => qym (k_ratOf ao (z := 0) xq xq) ?_)))))))))
  rintro _ u16 ai ⟨af, rfl, aq⟩
  refine zyw 15 (off' := i * 3) (n := n) (off := 0) (sz := 3) (i := (i : Int)) sl27 xq xq xq ?_
  refine zyv (V := ⟨32, rcs L⟩) (off := i * 3) (rcs ((L).set i af)) ty32 zq (zyx (r := af) (i := i) zj rfl) ?_
  refine zzx ?_
  refine zzp (zzf (qwi 16 ((i : Int) + 1) (i + 1 : Nat) xz (zza 9 (zI (i + 1 : Nat)) (zzx ?_))))
  have ae : i < (List.replicate n (0 : Rat)).length := by simp; omega
  refine ⟨_, ?_, _, by exact zzv _ _ _, i + 1, (L).set i af, rfl, by omega, by simpa using hL, rfl, (am.t (aj.t ai.ext)), RatsN.tstep (hR.ext (aj.t ai.ext)) xq ae (RatN.more (K := 2) aq xq) (by rw [qyg, List.getElem?_replicate]; split <;> rfl)⟩
  omega
 have qhb12 := qyf aa
 refine zyc (zzp (zzd (zyp (r := 3) (t := 6) [3, 6] xw xj (by rfl) (by rfl) xj (fun ad ap al ag ac => ?_))))
 have an : PolN ap ⟨some ⟨ad, 0, none⟩, n, n⟩ (List.replicate n (0 : Rat)) 2 := pol_data1 ac yk (RatsN.tdone (hR.ext al) xq yw) xq
 refine zzf (zza 17 (.v (.slice (some ⟨ad, 0, none⟩) n n)) (zza 2 (.v (.slice (some ⟨ad, 0, none⟩) n n)) (zzb (zzo (ret0 [.slice (some ⟨ad, 0, none⟩) n n] ⟨zzq, trivial⟩ fun u26 ah => ?_)))))
 exact ⟨ad, L, rfl, ag, ah.cells ac, by omega, (RatsN.tdone (hR.ext (al.trans ah)) xq yw)⟩
theorem k_poScale {u w : World} {x : Sl} {l : List Rat} {r : RL} {q : Rat} {K M : Nat} (d : Dat u w) (hx : PolV u x l K) (hr : RatV u r q M) (hK : K ≤ 50000000) (hx9 : l.length ≤ 1000000000) (hM : M ≤ 50000000) : qyc 116 #[x.v, r.v] w (Post u w fun v u' => ∃ y : Sl, v = y.v ∧ PolN u' y (Nt.trimQ (l.map (· * q))) (K + M)) := by
 have hlen := hx.len
 refine zzm Tryz.func116 rfl Tryz.ntmps116 Tryz.results116 d ?_
 refine sq9 (zzk 3 ⟨32, r.cs⟩ (zza 4 (.v (qyn)) (zzb (sq9 (zza 7 (.v (x.v)) (zza 8 (zI x.n) (sy_make 9 (T := 27) (E := 32) (z := .agg #[.bool false, qyn, qyn]) (size := 3) (bytes := 56) x.n (rcs (List.replicate x.n rl0)) xj xj rfl rfl xq yk (made_rcs _) ?_)))))))
 refine zza 5 (.slc 9 0 x.n x.n) (zzc 27 [(0, .v (x.v)), (3, .adr 3 0), (5, .slc 9 0 x.n x.n)] [(3, ⟨32, r.cs⟩), (9, ⟨32, rcs (List.replicate x.n rl0)⟩)] (zzd (sq9 (zza 10 (.slc 9 0 x.n x.n) (zza 11 (zI x.n) (zza 12 (zI 0) (zzc 27 [(0, .v (x.v)), (3, .adr 3 0), (5, .slc 9 0 x.n x.n), (11, zI x.n), (12, zI 0)] [(3, ⟨32, r.cs⟩), (9, ⟨32, rcs (List.replicate x.n rl0)⟩)] (zzt (zyn (I := fun ap S' u' => ∃ (i : Nat) (L : List RL), (ap = x.n - i) ∧ (i ≤ x.n) ∧ (L.length = x.n) ∧ (S' = St.of 27 [(0, .v (x.v)), (3, .adr 3 0), (5, .slc 9 0 x.n x.n), (11, zI x.n), (12, zI i)] [(3, ⟨32, r.cs⟩), (9, ⟨32, rcs L⟩)]) ∧ (Ext u u') ∧ (RatsN u' (L.take i) ((l.map (· * q)).take i) (K + M))) (fun m S u1 u2 e h => by obtain ⟨i, L, hm, p0, p1, hS, hE, f0⟩ := h; exact ⟨i, L, hm, p0, p1, hS, hE.trans e, f0.ext e⟩) _ yz ⟨0, List.replicate x.n rl0, rfl, by omega, by simp, rfl, (Ext.refl _), RatsN.tnil _ _ _ _⟩ ?_)))))))))
 rintro ap _ u11 ⟨i, L, aB, hi, hL, rfl, af, hR⟩
 refine sq9 (zza 13 (zB (decide ((i : Int) < (x.n : Int)))) (zzb (zzd (zzu (b := decide ((i : Int) < (x.n : Int))) xj (fun aa => ?_) (fun aa => ?_)))))
 ·have qhb12 := qyt aa
  refine zzs (zzp ?_)
  refine zzd (zzt (sq9 (zza 14 (zI i) (zza 6 (zI i) (zzb (zzz [0, 0, 0, 0, 12, 28, 0, 124, 255, 511] [(0, []), (1, []), (2, []), (3, []), (4, []), (5, []), (6, []), (7, []), (8, []), (9, [])] xj xj (zza 15 (.slc 9 0 x.n x.n) (zza 16 (zI i) (zza 17 (.v (x.v)) (zza 18 (zI i) ?_))))))))))
  have hl13 := (hx.ext af).len
  obtain ⟨aq, b13, ao, aj, ai, ag⟩ := pol_at (hx.ext af) (i := i) xq
  refine zya 19 (ao + i * 3) (n := x.n) (off := ao) (sz := 3) (i := (i : Int)) xq aj xq xq sl27 (zym 20 aq.cs ai ty32 (zzi 21 (.v (r.v)) ty32 zze (zzg 22 113 _ fun _ _ ae au => qym (k_ratMul au (ag.ext ae) (hr.ext (af.trans ae)) xq xq) ?_)))
  rintro _ u17 an ⟨al, rfl, av⟩
  refine zyw 23 (off' := i * 3) (n := x.n) (off := 0) (sz := 3) (i := (i : Int)) sl27 xq xq xq ?_
  refine zyv (V := ⟨32, rcs L⟩) (off := i * 3) (rcs ((L).set i al)) ty32 zq (zyx (r := al) (i := i) zj rfl) ?_
  refine zzx ?_
  refine zzp (zzf (qwi 24 ((i : Int) + 1) (i + 1 : Nat) xz (zza 12 (zI (i + 1 : Nat)) (zzx ?_))))
  have ak : i < (l.map (· * q)).length := by simp; omega
  refine ⟨_, ?_, _, by exact zzv _ _ _, i + 1, (L).set i al, rfl, by omega, by simpa using hL, rfl, (af.t (ae.t an.ext)), RatsN.tstep (hR.ext (ae.t an.ext)) xq ak (RatN.more (K := (K + M)) av xq) (by simp [List.getElem?_eq_getElem (show i < l.length by omega)])⟩
  omega
 have qhb12 := qyf aa
 refine zyc (zzp (zzd (zyp (r := 5) (t := 9) [5, 9] xw xj (by rfl) (by rfl) xj (fun ad ax az ar ah => ?_))))
 have ac : PolN ax ⟨some ⟨ad, 0, none⟩, x.n, x.n⟩ (l.map (· * q)) (K + M) := pol_data1 ah yk (RatsN.tdone (hR.ext az) xq yw) xq
 refine zzf (zza 25 (.v (.slice (some ⟨ad, 0, none⟩) x.n x.n)) (zzg 26 151 _ fun _ _ am ay => qym (k_cut ay (ac.ext am).raw xq xk) ?_))
 rintro _ u28 aw rfl
 refine zza 4 (.v (.slice (some ⟨ad, 0, none⟩) (Nt.trimQ (l.map (· * q))).length x.n)) (zzb (zzo (ret0 [.slice (some ⟨ad, 0, none⟩) (Nt.trimQ (l.map (· * q))).length x.n] ⟨zzq, trivial⟩ fun u31 aA => ?_)))
 refine ⟨(⟨some ⟨ad, 0, none⟩, (Nt.trimQ (l.map (· * q))).length, x.n⟩ : Sl), rfl, ?_⟩
 exact ((cut_N (ac.ext (am.t aw.ext))).ext aA)
theorem k_poTrim {u w : World} {x : Sl} {l : List Rat} {K : Nat} (d : Dat u w) (hx : PolV u x l K) (hK : K ≤ 50000000) (hx9 : l.length ≤ 1000000000) : qyc 117 #[x.v] w (Post u w fun v u' => ∃ y : Sl, v = y.v ∧ PolN u' y (Nt.trimQ l) K) := by
 have hlen := hx.len
 have htl := zzh l
 refine zzm Tryz.func117 rfl Tryz.ntmps117 Tryz.results117 d ?_
 refine sq9 (zza 2 (.v (qyn)) (zzb (sq9 (zza 5 (.v (x.v)) (zzg 6 151 _ fun _ _ am ar => qym (k_cut ar (hx.ext am) xq xk) ?_)))))
 rintro _ ax an rfl
 refine zza 7 (zI (((Nt.trimQ l).length : Nat) : Int)) (sy_make 8 (T := 27) (E := 32) (z := .agg #[.bool false, qyn, qyn]) (size := 3) (bytes := 56) ((Nt.trimQ l).length) (rcs (List.replicate ((Nt.trimQ l).length) rl0)) xj xj rfl rfl xq yk (made_rcs _) ?_)
 refine zza 3 (.slc 8 0 ((Nt.trimQ l).length) ((Nt.trimQ l).length)) (zzc 24 [(0, .v (x.v)), (3, .slc 8 0 ((Nt.trimQ l).length) ((Nt.trimQ l).length))] [(8, ⟨32, rcs (List.replicate ((Nt.trimQ l).length) rl0)⟩)] (zzd (sq9 (zza 9 (.slc 8 0 ((Nt.trimQ l).length) ((Nt.trimQ l).length)) (zza 10 (zI (((Nt.trimQ l).length : Nat) : Int)) (zza 11 (zI 0) (zzc 24 [(0, .v (x.v)), (3, .slc 8 0 ((Nt.trimQ l).length) ((Nt.trimQ l).length)), (10, zI (((Nt.trimQ l).length : Nat) : Int)), (11, zI 0)] [(8, ⟨32, rcs (List.replicate ((Nt.trimQ l).length) rl0)⟩)] (zzt (zyn (I := fun ap S' u' => ∃ (i : Nat) (L : List RL), (ap = ((Nt.trimQ l).length) - i) ∧ (i ≤ (Nt.trimQ l).length) ∧ (L.length = (Nt.trimQ l).length) ∧ (S' = St.of 24 [(0, .v (x.v)), (3, .slc 8 0 ((Nt.trimQ l).length) ((Nt.trimQ l).length)), (10, zI (((Nt.trimQ l).length : Nat) : Int)), (11, zI i)] [(8, ⟨32, rcs L⟩)]) ∧ (Ext ax u') ∧ (RatsN u' (L.take i) ((Nt.trimQ l).take i) K)) (fun m S u1 u2 e h => by obtain ⟨i, L, hm, p0, p1, hS, hE, f0⟩ := h; exact ⟨i, L, hm, p0, p1, hS, hE.trans e, f0.ext e⟩) _ yz ⟨0, List.replicate ((Nt.trimQ l).length) rl0, rfl, by omega, by simp, rfl, (Ext.refl _), RatsN.tnil _ _ _ _⟩ ?_)))))))))
 rintro ap _ u15 ⟨i, L, au, hi, hL, rfl, ag, hR⟩
 refine sq9 (zza 12 (zB (decide ((i : Int) < (((Nt.trimQ l).length : Nat) : Int)))) (zzb (zzd (zzu (b := decide ((i : Int) < (((Nt.trimQ l).length : Nat) : Int))) xj (fun aa => ?_) (fun aa => ?_)))))
 ·have qhb16 := qyt aa
  refine zzs (zzp ?_)
  refine zzd (zzt (sq9 (zza 13 (zI i) (zza 4 (zI i) (zzb (zzf (zza 14 (.slc 8 0 ((Nt.trimQ l).length) ((Nt.trimQ l).length)) (zza 15 (zI i) (zza 16 (.v (x.v)) (zza 17 (zI i) ?_))))))))))
  have hl17 := (hx.ext (am.t (an.t ag))).len
  obtain ⟨av, b17, ao, af, ae, ah⟩ := pol_at (hx.ext (am.t (an.t ag))) (i := i) xq
  refine zya 18 (ao + i * 3) (n := x.n) (off := ao) (sz := 3) (i := (i : Int)) xq af xq xq sl27 (zym 19 av.cs ae ty32 (zzg 20 68 _ fun _ _ al az => qym (k_ratTrim az (ah.ext al) xq) ?_))
  rintro _ u21 aq ⟨ai, rfl, ay⟩
  refine zyw 21 (off' := i * 3) (n := (Nt.trimQ l).length) (off := 0) (sz := 3) (i := (i : Int)) sl27 xq xq xq ?_
  refine zyv (V := ⟨32, rcs L⟩) (off := i * 3) (rcs ((L).set i ai)) ty32 zq (zyx (r := ai) (i := i) zj rfl) ?_
  refine zzx ?_
  refine zzp (zzf (qwi 22 ((i : Int) + 1) (i + 1 : Nat) xz (zza 11 (zI (i + 1 : Nat)) (zzx ?_))))
  have aj : i < (Nt.trimQ l).length := by skip; omega
  refine ⟨_, ?_, _, by exact zzv _ _ _, i + 1, (L).set i ai, rfl, by omega, by simpa using hL, rfl, (ag.t (al.t aq.ext)), RatsN.tstep (hR.ext (al.t aq.ext)) xq aj (RatN.more (K := K) ay xq) (Nt.trim_co l i).symm⟩
  omega
 have qhb16 := qyf aa
 refine zyc (zzp (zzd (zyp (r := 3) (t := 8) [3, 8] xw xj (by rfl) (by rfl) xj (fun ac aC aA aw ak => ?_))))
 have ad : PolN aC ⟨some ⟨ac, 0, none⟩, (Nt.trimQ l).length, (Nt.trimQ l).length⟩ (Nt.trimQ l) K := pol_data1 ak yk (RatsN.tdone (hR.ext aA) xq (by skip; omega)) xq
 refine zzf (zza 23 (.v (.slice (some ⟨ac, 0, none⟩) ((Nt.trimQ l).length) ((Nt.trimQ l).length))) (zza 2 (.v (.slice (some ⟨ac, 0, none⟩) ((Nt.trimQ l).length) ((Nt.trimQ l).length))) (zzb (zzo (ret0 [.slice (some ⟨ac, 0, none⟩) ((Nt.trimQ l).length) ((Nt.trimQ l).length)] ⟨zzq, trivial⟩ fun u31 aB => ?_)))))
 refine ⟨(⟨some ⟨ac, 0, none⟩, (Nt.trimQ l).length, (Nt.trimQ l).length⟩ : Sl), rfl, ?_⟩
 exact (ad.ext aB)
theorem k_poAdd {u w : World} {x : Sl} {l : List Rat} {y : Sl} {m : List Rat} {K M : Nat} (d : Dat u w) (hx : PolV u x l K) (hy : PolV u y m M) (hK : K ≤ 40000000) (hM : M ≤ 40000000) (hx9 : l.length ≤ 1000000000) (hy9 : m.length ≤ 1000000000) : qyc 115 #[x.v, y.v] w (Post u w fun v u' => ∃ y : Sl, v = y.v ∧ PolN u' y (Nt.trimQ (Nt.addQ l m)) (K + M + 1)) := by
 have hlen := hx.len
 have hlen2 := hy.len
 refine zzm Tryz.func115 rfl Tryz.ntmps115 Tryz.results115 d ?_
 refine sq9 (zza 4 (.v (qyn)) (zzb (zzd (sq9 (zza 7 (.v (x.v)) (zza 8 (zI x.n) (zza 9 (.v (y.v)) (zza 10 (zI y.n) (zza 11 (zB (decide ((x.n : Int) < (y.n : Int)))) (zzb (zzu (b := decide ((x.n : Int) < (y.n : Int))) xj (fun af => ?_) (fun af => ?_))))))))))))
 ·have qhb11 := qyt af
  refine zzf (zza 12 (.v (y.v)) (zza 13 (.v (x.v)) (zza 0 (.v (y.v)) (zza 1 (.v (x.v)) (zzb (sq9 (zza 14 (.v (y.v)) (zza 15 (zI y.n) (sy_make 16 (T := 27) (E := 32) (z := .agg #[.bool false, qyn, qyn]) (size := 3) (bytes := 56) y.n (rcs (List.replicate y.n rl0)) xj xj rfl rfl xq yk (made_rcs _) ?_)))))))))
  refine zza 5 (.slc 16 0 y.n y.n) (zzc 49 [(0, .v (y.v)), (1, .v (x.v)), (5, .slc 16 0 y.n y.n)] [(16, ⟨32, rcs (List.replicate y.n rl0)⟩)] (zzd (sq9 (zza 17 (.slc 16 0 y.n y.n) (zza 18 (zI y.n) (zza 19 (zI 0) (zzc 49 [(0, .v (y.v)), (1, .v (x.v)), (5, .slc 16 0 y.n y.n), (18, zI y.n), (19, zI 0)] [(16, ⟨32, rcs (List.replicate y.n rl0)⟩)] (zzt (zyn (I := fun aY S' u' => ∃ (i : Nat) (L : List RL), (aY = y.n - i) ∧ (i ≤ y.n) ∧ (L.length = y.n) ∧ (S' = St.of 49 [(0, .v (y.v)), (1, .v (x.v)), (5, .slc 16 0 y.n y.n), (18, zI y.n), (19, zI i)] [(16, ⟨32, rcs L⟩)]) ∧ (Ext u u') ∧ (RatsN u' (L.take i) ((Nt.addQ l m).take i) (K + M + 1))) (fun m S u1 u2 e h => by obtain ⟨i, L, hm, p0, p1, hS, hE, f0⟩ := h; exact ⟨i, L, hm, p0, p1, hS, hE.trans e, f0.ext e⟩) _ yz ⟨0, List.replicate y.n rl0, rfl, by omega, by simp, rfl, (Ext.refl _), RatsN.tnil _ _ _ _⟩ ?_)))))))))
  rintro aY _ u12 ⟨i, L, br, hi, hL, rfl, ac, hR⟩
  refine sq9 (zza 20 (zB (decide ((i : Int) < (y.n : Int)))) (zzb (zzd (zzu (b := decide ((i : Int) < (y.n : Int))) xj (fun ad => ?_) (fun ad => ?_)))))
  ·have qhb13 := qyt ad
   refine zzs (zzp ?_)
   refine zzd (zzt (sq9 (zza 21 (zI i) (zza 6 (zI i) (zzb (sq9 (zza 22 (zI i) (zza 23 (.v (x.v)) (zza 24 (zI x.n) (zza 25 (zB (decide ((i : Int) < (x.n : Int)))) (zzb ?_)))))))))))
   refine zzu (b := decide ((i : Int) < (x.n : Int))) xj (fun ag => ?_) (fun ag => ?_)
   ·have qhb14 := qyt ag
    refine zzz [0, 0, 0, 0, 12, 28, 0, 0, 192, 448, 1020, 2047, 4095] [(0, []), (1, []), (2, []), (3, []), (4, []), (5, []), (6, []), (7, []), (8, []), (9, []), (10, []), (11, []), (12, [])] xj xj (zza 26 (.slc 16 0 y.n y.n) (zza 27 (zI i) (zza 28 (.v (y.v)) (zza 29 (zI i) ?_))))
    have hl15 := (hy.ext ac).len
    obtain ⟨bv, b15, a5, aI, aQ, az⟩ := pol_at (hy.ext ac) (i := i) xq
    refine zya 30 (a5 + i * 3) (n := y.n) (off := a5) (sz := 3) (i := (i : Int)) xq aI xq xq sl27 (zym 31 bv.cs aQ ty32 (zza 32 (.v (x.v)) (zza 33 (zI i) ?_)))
    have hl16 := (hx.ext ac).len
    obtain ⟨bx, b16, aW, aL, aS, aq⟩ := pol_at (hx.ext ac) (i := i) xq
    refine zya 34 (aW + i * 3) (n := x.n) (off := aW) (sz := 3) (i := (i : Int)) xq aL xq xq sl27 (zym 35 bx.cs aS ty32 (zzg 36 112 _ fun _ _ am bh => qym (k_ratAdd bh (az.ext am) (aq.ext am) xq xq) ?_))
    rintro _ u20 aZ ⟨ar, rfl, bc⟩
    refine zyw 37 (off' := i * 3) (n := y.n) (off := 0) (sz := 3) (i := (i : Int)) sl27 xq xq xq ?_
    refine zyv (V := ⟨32, rcs L⟩) (off := i * 3) (rcs ((L).set i ar)) ty32 zq (zyx (r := ar) (i := i) zj rfl) ?_
    refine zzx ?_
    refine zzp (zzf (qwi 46 ((i : Int) + 1) (i + 1 : Nat) xz (zza 19 (zI (i + 1 : Nat)) (zzx ?_))))
    have aA : i < (Nt.addQ l m).length := by rw [Nt.addQ_len]; omega
    refine ⟨_, ?_, _, by exact zzv _ _ _, i + 1, (L).set i ar, rfl, by omega, by simpa using hL, rfl, (ac.t (am.t aZ.ext)), RatsN.tstep (hR.ext (am.t aZ.ext)) xq aA (RatN.more (K := (M + K + 1)) bc xq) (by have h9 := Nt.addQ_co l m i; unfold Nt.co at h9; show _ = List.getD _ _ _; rw [h9]; exact Rat.add_comm _ _)⟩
    omega
   have qhb14 := qyf ag
   refine zzf (zza 38 (.slc 16 0 y.n y.n) (zza 39 (zI i) (zza 40 (.v (y.v)) (zza 41 (zI i) ?_))))
   have hl24 := (hy.ext ac).len
   obtain ⟨bp, b24, aU, aF, aK, aN⟩ := pol_at (hy.ext ac) (i := i) xq
   refine zya 42 (aU + i * 3) (n := y.n) (off := aU) (sz := 3) (i := (i : Int)) xq aF xq xq sl27 (zym 43 bp.cs aK ty32 (zzg 44 68 _ fun _ _ aE bw => qym (k_ratTrim bw (aN.ext aE) xq) ?_))
   rintro _ u28 a4 ⟨aP, rfl, ba⟩
   refine zyw 45 (off' := i * 3) (n := y.n) (off := 0) (sz := 3) (i := (i : Int)) sl27 xq xq xq ?_
   refine zyv (V := ⟨32, rcs L⟩) (off := i * 3) (rcs ((L).set i aP)) ty32 zq (zyx (r := aP) (i := i) zj rfl) ?_
   refine zzx ?_
   refine zzp (zzf (qwi 46 ((i : Int) + 1) (i + 1 : Nat) xz (zza 19 (zI (i + 1 : Nat)) (zzx ?_))))
   have av : i < (Nt.addQ l m).length := by rw [Nt.addQ_len]; omega
   refine ⟨_, ?_, _, by exact zzv _ _ _, i + 1, (L).set i aP, rfl, by omega, by simpa using hL, rfl, (ac.t (aE.t a4.ext)), RatsN.tstep (hR.ext (aE.t a4.ext)) xq av (RatN.more (K := M) ba xq) (by have h9 := Nt.addQ_co l m i; unfold Nt.co at h9; show _ = List.getD _ _ _; rw [h9]; rw [show l.getD i 0 = 0 from Nt.co_ge xq]; grind)⟩
   omega
  have qhb13 := qyf ad
  refine zyc (zzp (zzd (zyp (r := 5) (t := 16) [5, 16] xw xj (by rfl) (by rfl) xj (fun aj bm a8 bq aw => ?_))))
  have ai : PolN bm ⟨some ⟨aj, 0, none⟩, y.n, y.n⟩ (Nt.addQ l m) (K + M + 1) := pol_data1 aw yk (RatsN.tdone (hR.ext a8) xq (by rw [Nt.addQ_len]; omega)) xq
  refine zzf (zza 47 (.v (.slice (some ⟨aj, 0, none⟩) y.n y.n)) (zzg 48 151 _ fun _ _ aV bt => qym (k_cut bt (ai.ext aV).raw xq xk) ?_))
  rintro _ u39 bj rfl
  refine zza 4 (.v (.slice (some ⟨aj, 0, none⟩) (Nt.trimQ (Nt.addQ l m)).length y.n)) (zzb (zzo (ret0 [.slice (some ⟨aj, 0, none⟩) (Nt.trimQ (Nt.addQ l m)).length y.n] ⟨zzq, trivial⟩ fun u42 bl => ?_)))
  refine ⟨(⟨some ⟨aj, 0, none⟩, (Nt.trimQ (Nt.addQ l m)).length, y.n⟩ : Sl), rfl, ?_⟩
  exact ((cut_N (ai.ext (aV.t bj.ext))).ext bl)
 have qhb11 := qyf af
 refine zzs (zzp ?_)
 refine sq9 (zza 14 (.v (x.v)) (zza 15 (zI x.n) (sy_make 16 (T := 27) (E := 32) (z := .agg #[.bool false, qyn, qyn]) (size := 3) (bytes := 56) x.n (rcs (List.replicate x.n rl0)) xj xj rfl rfl xq yk (made_rcs _) ?_)))
 refine zza 5 (.slc 16 0 x.n x.n) (zzc 49 [(0, .v (x.v)), (1, .v (y.v)), (5, .slc 16 0 x.n x.n)] [(16, ⟨32, rcs (List.replicate x.n rl0)⟩)] (zzd (sq9 (zza 17 (.slc 16 0 x.n x.n) (zza 18 (zI x.n) (zza 19 (zI 0) (zzc 49 [(0, .v (x.v)), (1, .v (y.v)), (5, .slc 16 0 x.n x.n), (18, zI x.n), (19, zI 0)] [(16, ⟨32, rcs (List.replicate x.n rl0)⟩)] (zzt (zyn (I := fun a6 S' u' => ∃ (i : Nat) (L : List RL), (a6 = x.n - i) ∧ (i ≤ x.n) ∧ (L.length = x.n) ∧ (S' = St.of 49 [(0, .v (x.v)), (1, .v (y.v)), (5, .slc 16 0 x.n x.n), (18, zI x.n), (19, zI i)] [(16, ⟨32, rcs L⟩)]) ∧ (Ext u u') ∧ (RatsN u' (L.take i) ((Nt.addQ l m).take i) (K + M + 1))) (fun m S u1 u2 e h => by obtain ⟨i, L, hm, p0, p1, hS, hE, f0⟩ := h; exact ⟨i, L, hm, p0, p1, hS, hE.trans e, f0.ext e⟩) _ yz ⟨0, List.replicate x.n rl0, rfl, by omega, by simp, rfl, (Ext.refl _), RatsN.tnil _ _ _ _⟩ ?_)))))))))
 rintro a6 _ u44 ⟨i, L, a9, hi, hL, rfl, aa, hR⟩
 refine sq9 (zza 20 (zB (decide ((i : Int) < (x.n : Int)))) (zzb (zzd (zzu (b := decide ((i : Int) < (x.n : Int))) xj (fun ae => ?_) (fun ae => ?_)))))
 ·have qhb45 := qyt ae
  refine zzs (zzp ?_)
  refine zzd (zzt (sq9 (zza 21 (zI i) (zza 6 (zI i) (zzb (sq9 (zza 22 (zI i) (zza 23 (.v (y.v)) (zza 24 (zI y.n) (zza 25 (zB (decide ((i : Int) < (y.n : Int)))) (zzb ?_)))))))))))
  refine zzu (b := decide ((i : Int) < (y.n : Int))) xj (fun ah => ?_) (fun ah => ?_)
  ·have qhb46 := qyt ah
   refine zzz [0, 0, 0, 0, 12, 28, 0, 0, 192, 448, 1020, 2047, 4095] [(0, []), (1, []), (2, []), (3, []), (4, []), (5, []), (6, []), (7, []), (8, []), (9, []), (10, []), (11, []), (12, [])] xj xj (zza 26 (.slc 16 0 x.n x.n) (zza 27 (zI i) (zza 28 (.v (x.v)) (zza 29 (zI i) ?_))))
   have hl47 := (hx.ext aa).len
   obtain ⟨bA, b47, a2, aM, au, aR⟩ := pol_at (hx.ext aa) (i := i) xq
   refine zya 30 (a2 + i * 3) (n := x.n) (off := a2) (sz := 3) (i := (i : Int)) xq aM xq xq sl27 (zym 31 bA.cs au ty32 (zza 32 (.v (y.v)) (zza 33 (zI i) ?_)))
   have hl48 := (hy.ext aa).len
   obtain ⟨bk, b48, a3, aB, aT, aH⟩ := pol_at (hy.ext aa) (i := i) xq
   refine zya 34 (a3 + i * 3) (n := y.n) (off := a3) (sz := 3) (i := (i : Int)) xq aB xq xq sl27 (zym 35 bk.cs aT ty32 (zzg 36 112 _ fun _ _ an bg => qym (k_ratAdd bg (aR.ext an) (aH.ext an) xq xq) ?_))
   rintro _ u52 a7 ⟨ao, rfl, bb⟩
   refine zyw 37 (off' := i * 3) (n := x.n) (off := 0) (sz := 3) (i := (i : Int)) sl27 xq xq xq ?_
   refine zyv (V := ⟨32, rcs L⟩) (off := i * 3) (rcs ((L).set i ao)) ty32 zq (zyx (r := ao) (i := i) zj rfl) ?_
   refine zzx ?_
   refine zzp (zzf (qwi 46 ((i : Int) + 1) (i + 1 : Nat) xz (zza 19 (zI (i + 1 : Nat)) (zzx ?_))))
   have ap : i < (Nt.addQ l m).length := by rw [Nt.addQ_len]; omega
   refine ⟨_, ?_, _, by exact zzv _ _ _, i + 1, (L).set i ao, rfl, by omega, by simpa using hL, rfl, (aa.t (an.t a7.ext)), RatsN.tstep (hR.ext (an.t a7.ext)) xq ap (RatN.more (K := (K + M + 1)) bb xq) (by have h9 := Nt.addQ_co l m i; unfold Nt.co at h9; show _ = List.getD _ _ _; rw [h9])⟩
   omega
  have qhb46 := qyf ah
  refine zzf (zza 38 (.slc 16 0 x.n x.n) (zza 39 (zI i) (zza 40 (.v (x.v)) (zza 41 (zI i) ?_))))
  have hl56 := (hx.ext aa).len
  obtain ⟨be, b56, a0, aO, aG, aC⟩ := pol_at (hx.ext aa) (i := i) xq
  refine zya 42 (a0 + i * 3) (n := x.n) (off := a0) (sz := 3) (i := (i : Int)) xq aO xq xq sl27 (zym 43 be.cs aG ty32 (zzg 44 68 _ fun _ _ aJ bz => qym (k_ratTrim bz (aC.ext aJ) xq) ?_))
  rintro _ u60 a1 ⟨ax, rfl, bf⟩
  refine zyw 45 (off' := i * 3) (n := x.n) (off := 0) (sz := 3) (i := (i : Int)) sl27 xq xq xq ?_
  refine zyv (V := ⟨32, rcs L⟩) (off := i * 3) (rcs ((L).set i ax)) ty32 zq (zyx (r := ax) (i := i) zj rfl) ?_
  refine zzx ?_
  refine zzp (zzf (qwi 46 ((i : Int) + 1) (i + 1 : Nat) xz (zza 19 (zI (i + 1 : Nat)) (zzx ?_))))
  have aD : i < (Nt.addQ l m).length := by rw [Nt.addQ_len]; omega
  refine ⟨_, ?_, _, by exact zzv _ _ _, i + 1, (L).set i ax, rfl, by omega, by simpa using hL, rfl, (aa.t (aJ.t a1.ext)), RatsN.tstep (hR.ext (aJ.t a1.ext)) xq aD (RatN.more (K := K) bf xq) (by have h9 := Nt.addQ_co l m i; unfold Nt.co at h9; show _ = List.getD _ _ _; rw [h9]; rw [show m.getD i 0 = 0 from Nt.co_ge xq]; grind)⟩
  omega
 have qhb45 := qyf ae
 refine zyc (zzp (zzd (zyp (r := 5) (t := 16) [5, 16] xw xj (by rfl) (by rfl) xj (fun al bo bi bs ay => ?_))))
 have ak : PolN bo ⟨some ⟨al, 0, none⟩, x.n, x.n⟩ (Nt.addQ l m) (K + M + 1) := pol_data1 ay yk (RatsN.tdone (hR.ext bi) xq (by rw [Nt.addQ_len]; omega)) xq
 refine zzf (zza 47 (.v (.slice (some ⟨al, 0, none⟩) x.n x.n)) (zzg 48 151 _ fun _ _ aX bn => qym (k_cut bn (ak.ext aX).raw xq xk) ?_))
 rintro _ u71 bd rfl
 refine zza 4 (.v (.slice (some ⟨al, 0, none⟩) (Nt.trimQ (Nt.addQ l m)).length x.n)) (zzb (zzo (ret0 [.slice (some ⟨al, 0, none⟩) (Nt.trimQ (Nt.addQ l m)).length x.n] ⟨zzq, trivial⟩ fun u74 bu => ?_)))
 refine ⟨(⟨some ⟨al, 0, none⟩, (Nt.trimQ (Nt.addQ l m)).length, x.n⟩ : Sl), rfl, ?_⟩
 exact ((cut_N (ak.ext (aX.t bd.ext))).ext bu)
theorem k_poParts {u w : World} {r : RL} (d : Dat u w) : qyc 223 #[r.v] w (Post u w fun v u' => ∃ y : Sl, v = .tuple #[.agg #[.bool r.s, r.m.v, y.v], .agg #[.bool false, r.d.v, y.v]] ∧ NatN u' y 1 1) := by
 refine zzm Tryz.func223 rfl Tryz.ntmps223 Tryz.results223 d ?_
 refine sq9 (zzk 1 ⟨32, r.cs⟩ (zzk 2 ⟨32, zw3⟩ (zzk 3 ⟨32, zw3⟩ (zzb (sq9 (zxx 5 ⟨133, [.int .u32 1]⟩ 1 (fun aa u12 e13 ac => ?_)))))))
 refine zza 4 (.v (.slice (some ⟨aa, 0, none⟩) 1 1)) (zzb (zzd (zzz [0, 1, 0, 7, 0, 16, 48, 0, 240, 15, 1023] [(0, []), (1, []), (2, []), (3, []), (4, []), (5, []), (6, []), (7, []), (8, []), (9, [10]), (10, [])] xj xj (zza 6 (.adr 1 0) (zzi 7 (.v (.agg #[.bool r.s, r.m.v])) ty30 zze (zza 8 (.v (.slice (some ⟨aa, 0, none⟩) 1 1)) (zza 9 (.v (.agg #[.bool r.s, r.m.v, .slice (some ⟨aa, 0, none⟩) 1 1])) (zza 10 (.adr 1 2) (zzi 11 (.v (r.d.v)) ty28 zzl (zza 12 (.v (.agg #[.bool false, r.d.v])) (zza 13 (.v (.slice (some ⟨aa, 0, none⟩) 1 1)) ?_)))))))))))
 refine zza 14 (.v (.agg #[.bool false, r.d.v, .slice (some ⟨aa, 0, none⟩) 1 1])) (zzj ⟨32, [.bool r.s, r.m.v, .slice (some ⟨aa, 0, none⟩) 1 1]⟩ ty32 ?_)
 refine zzj ⟨32, [.bool false, r.d.v, .slice (some ⟨aa, 0, none⟩) 1 1]⟩ ty32 ?_
 refine zzb (zzo (ret0 [.agg #[.bool r.s, r.m.v, .slice (some ⟨aa, 0, none⟩) 1 1], .agg #[.bool false, r.d.v, .slice (some ⟨aa, 0, none⟩) 1 1]] ⟨zzr ty32 zze, zzr ty32 zze, trivial⟩ fun u15 ad => ?_))
 exact ⟨(⟨some ⟨aa, 0, none⟩, 1, 1⟩ : Sl), rfl, ((one_data ac).ext ad)⟩
theorem k_common {u w : World} {r1 r2 : RL} {x y : Rat} {K M : Nat} (d : Dat u w) (h1 : RatN u r1 x K) (h2 : RatV u r2 y M) (hK : K ≤ 40000000) (hM : M ≤ 40000000) : qyc 212 #[r1.v, r2.v] w (Post u w fun v u' => ∃ r : RL, v = r.v ∧ RatN u' r (Nt.cmn x y) (K + M)) := by
 refine zzm Tryz.func212 rfl Tryz.ntmps212 Tryz.results212 d ?_
 refine sq9 (zzk 2 ⟨32, r1.cs⟩ (zzk 3 ⟨32, r2.cs⟩ (zzk 4 ⟨32, zw3⟩ (zzb (zzd (sq9 (zzi 11 (.v (r1.v)) ty32 zze (zzg 12 66 _ fun _ _ af ar => qym (k_ratSign ar (h1.ext af).raw) ?_))))))))
 rintro _ u12 ah rfl
 refine zza 13 (zB ((Nt.sgQ x) == 0)) (zzb (zzu (b := (Nt.sgQ x) == 0) xj (fun ae => ?_) (fun ae => ?_)))
 ·have ai : x = 0 := by have h9 := ae; rw [Nt.sgQ_eq] at h9; simpa using h9
  refine sq9 (zzi 14 (.v (r2.v)) ty32 zze (zzg 15 65 _ fun _ _ aE aD => qym (k_ratAbs aD (h2.ext (af.t (ah.t aE))) xq) ?_))
  rintro _ u19 g20 ⟨ak, rfl, aH⟩
  refine zzj ⟨32, ak.cs⟩ ty32 ?_
  refine zzb (zzo (zzw (ret0 [ak.v] ⟨zzr ty32 zze, trivial⟩ fun u22 ax => ?_)))
  have e9 : Nt.cmn x y = (Nt.absQ y) := by unfold Nt.cmn; rw [if_pos ai]
  have hs := Nt.rs_cmn x y
  have hs1 := h1.rs
  have hs2 := h2.rs
  refine ⟨ak, rfl, RatN.fit (K := M) ?_ xq⟩
  rw [e9]
  exact (aH.ext ax)
 have ai : ¬ x = 0 := by have h9 := ae; rw [Nt.sgQ_eq] at h9; simpa using h9
 refine zzs (zzp ?_)
 refine sq9 (zzi 17 (.v (r1.v)) ty32 zze (zzi 18 (.v (r2.v)) ty32 zze (zzg 19 138 _ fun _ _ aj aC => qym (k_ratDiv aC (h1.ext (af.t (ah.t aj))).raw (h2.ext (af.t (ah.t aj))) xq xq) ?_)))
 rintro _ u28 am (⟨rfl, ac⟩ | ⟨ac, aa, rfl, aw⟩)
 ·skip
  refine zza 16 (.v (.tuple #[.agg #[.bool false, qyn, qyn], .int .i64 3])) (zza 20 (.v (.agg #[.bool false, qyn, qyn])) (zza 21 (zI 3) (zzk 5 ⟨32, zw3⟩ (zzj ⟨32, zw3⟩ ty32 ?_))))
  refine zza 6 (zI 3) (zzb (zzd (sq9 (zza 22 (zI 3) (zza 23 (zB true) (zzb (zyr xj (sq9 (zzi 24 (.v (r1.v)) ty32 zze (zzj ⟨32, r1.cs⟩ ty32 ?_))))))))))
  refine zzb (zzo (zzw (ret0 [r1.v] ⟨zzr ty32 zze, trivial⟩ fun u31 aB => ?_)))
  have e9 : Nt.cmn x y = x := by unfold Nt.cmn; rw [if_neg ai, if_pos ac]
  have hs := Nt.rs_cmn x y
  have hs1 := h1.rs
  have hs2 := h2.rs
  refine ⟨r1, rfl, RatN.fit (K := K) ?_ xq⟩
  rw [e9]
  exact (h1.ext (af.t (ah.t (aj.t (am.t aB)))))
 refine zza 16 (.v (.tuple #[aa.v, .int .i64 0])) (zza 20 (.v (aa.v)) (zza 21 (zI 0) (zzk 5 ⟨32, zw3⟩ (zzj ⟨32, aa.cs⟩ ty32 ?_))))
 refine zza 6 (zI 0) (zzb (zzd (sq9 (zza 22 (zI 0) (zza 23 (zB false) (zzb (zys xj (zzs (zzp ?_)))))))))
 refine sq9 (zzi 26 (.v (aa.v)) ty32 zze (zzg 27 223 _ fun _ _ ap aA => qym (k_poParts (r := aa) aA) ?_))
 rintro _ u36 ao ⟨ad, rfl, aF⟩
 refine zza 25 (.v (.tuple #[.agg #[.bool aa.s, aa.m.v, ad.v], .agg #[.bool false, aa.d.v, ad.v]])) (zza 28 (.v (.agg #[.bool aa.s, aa.m.v, ad.v])) (zza 29 (.v (.agg #[.bool false, aa.d.v, ad.v])) (zzk 7 ⟨32, zw3⟩ (zzk 8 ⟨32, zw3⟩ (zzj ⟨32, [.bool aa.s, aa.m.v, ad.v]⟩ ty32 ?_)))))
 refine zzj ⟨32, [.bool false, aa.d.v, ad.v]⟩ ty32 ?_
 refine zzb (sq9 (zzi 31 (.v (r1.v)) ty32 zze (zzi 32 (.v (.agg #[.bool aa.s, aa.m.v, ad.v])) ty32 zze (zzg 33 138 _ fun _ _ an aG => qym (k_ratDiv1 aG (h1.ext (af.t (ah.t (aj.t (am.t (ap.t (ao.t an))))))).raw ((whole_rat (RatN.num (aw.ext (ap.t ao.ext))) aF).ext an).raw (Nt.num_ne (Nt.div_ne ai ac)) xq xq) ?_))))
 rintro _ u42 g43 ⟨ag, rfl, av⟩
 refine zza 30 (.v (.tuple #[ag.v, .int .i64 0])) (zza 34 (.v (ag.v)) (zza 35 (zI 0) (zzk 9 ⟨32, zw3⟩ (zzj ⟨32, ag.cs⟩ ty32 ?_))))
 refine zza 10 (zI 0) (zzc 38 [(4, .adr 4 0), (9, .adr 9 0)] [(4, ⟨32, zw3⟩), (9, ⟨32, ag.cs⟩)] (sq9 (zzi 36 (.v (ag.v)) ty32 zze (zzg 37 65 _ fun _ _ az aq => qym (k_ratAbs aq (av.ext az).raw xq) ?_))))
 rintro _ u48 g49 ⟨al, rfl, au⟩
 refine zzj ⟨32, al.cs⟩ ty32 ?_
 refine zzb (zzo (ret0 [al.v] ⟨zzr ty32 zze, trivial⟩ fun u51 ay => ?_))
 have e9 : Nt.cmn x y = (Nt.absQ (x / (((x / y).num : Int) : Rat))) := by unfold Nt.cmn; rw [if_neg ai, if_neg ac]
 have hs := Nt.rs_cmn x y
 have hs1 := h1.rs
 have hs2 := h2.rs
 refine ⟨al, rfl, RatN.fit (K := (K + (max (K + M) 1))) ?_ xq⟩
 rw [e9]
 exact (au.ext ay)
theorem k_split {u w : World} {x : Sl} {l : List Rat} {K : Nat} (d : Dat u w) (hx : PolV u x l K) (hK : (l.length + 1) * K ≤ 30000000) (hx9 : l.length ≤ 1000000000) : qyc 179 #[x.v] w (Post u w fun v u' => ∃ (r : RL) (y : Sl), v = .tuple #[r.v, y.v] ∧ RatN u' r (Nt.msr (Nt.trimQ l)) ((Nt.trimQ l).length * K + 2) ∧ PolN u' y ((Nt.trimQ l).map (· / Nt.msr (Nt.trimQ l))) (K + ((Nt.trimQ l).length * K + 2))) := by
 have hlen := hx.len
 have htl := zzh l
 have hKK : (Nt.trimQ l).length * K ≤ l.length * K := Nat.mul_le_mul_right _ htl
 rw [Nat.add_mul] at hK
 refine zzm Tryz.func179 rfl Tryz.ntmps179 Tryz.results179 d ?_
 refine sq9 (zzk 2 ⟨32, zw3⟩ (zza 3 (.v (qyn)) (zzb (sq9 (zza 10 (.v (x.v)) (zzg 11 151 _ fun _ _ ae aM => qym (k_cut aM (hx.ext ae) xq xk) ?_))))))
 rintro _ u12 aj rfl
 refine zza 0 (.v (.slice x.a (Nt.trimQ l).length x.c)) (zzb (sq9 (zzg 12 109 _ fun _ _ ai aW => qym (k_ratOf aW (z := 0) xq xq) ?_)))
 rintro _ aN ak ⟨aL, rfl, aR⟩
 refine zzk 4 ⟨32, zw3⟩ (zzj ⟨32, aL.cs⟩ ty32 ?_)
 refine zzb (zzd (sq9 (zza 13 (.v (.slice x.a (Nt.trimQ l).length x.c)) (zza 14 (zI (((Nt.trimQ l).length : Nat) : Int)) (zza 15 (zI 0) (zzb (zzt (zyn (I := fun aK S' u' => ∃ (i : Nat) (r : RL), (aK = (Nt.trimQ l).length - i) ∧ (i ≤ (Nt.trimQ l).length) ∧ (S' = St.of 45 [(0, .v (.slice x.a (Nt.trimQ l).length x.c)), (2, .adr 2 0), (4, .adr 4 0), (13, .v (.slice x.a (Nt.trimQ l).length x.c)), (14, zI (((Nt.trimQ l).length : Nat) : Int)), (15, zI i)] [(2, ⟨32, zw3⟩), (4, ⟨32, r.cs⟩)]) ∧ (Ext aN u') ∧ (RatN u' r (Nt.msr ((Nt.trimQ l).take i)) (i * K + 2))) (fun m S u1 u2 e h => by obtain ⟨i, r, hm, p0, hS, hE, f0⟩ := h; exact ⟨i, r, hm, p0, hS, hE.trans e, f0.ext e⟩) _ yz ⟨0, aL, rfl, by omega, rfl, (Ext.refl _), (RatN.more (K := 2) aR xq)⟩ ?_))))))))
 rintro aK _ aJ ⟨i, r, aU, hi, rfl, ag, hM⟩
 have hiK : i * K ≤ (Nt.trimQ l).length * K := Nat.mul_le_mul_right _ hi
 refine sq9 (zza 16 (zB (decide ((i : Int) < (((Nt.trimQ l).length : Nat) : Int)))) (zzb (zzd (zzu (b := decide ((i : Int) < (((Nt.trimQ l).length : Nat) : Int))) xj (fun ac => ?_) (fun ac => ?_)))))
 ·have qhb22 := qyt ac
  refine zzs (zzp ?_)
  refine zzd (zzt (sq9 ?_))
  have hl23 := ((cut_V (hx.ext (ae.t aj.ext))).ext (ai.t (ak.t ag))).len
  change (Nt.trimQ l).length = _ at hl23
  obtain ⟨am, b23, aB, av, ao, ax⟩ := pol_at ((cut_V (hx.ext (ae.t aj.ext))).ext (ai.t (ak.t ag))) (i := i) xq
  refine zya 17 (aB + i * 3) (n := (Nt.trimQ l).length) (off := aB) (sz := 3) (i := (i : Int)) xq av xq xq sl27 (zym 18 am.cs ao ty32 (zzk 6 ⟨32, zw3⟩ (zzj ⟨32, am.cs⟩ ty32 ?_)))
  refine zzb (zzf (zzi 19 (.v (r.v)) ty32 zze (zzi 20 (.v (am.v)) ty32 zze (zzg 21 212 _ fun _ _ aq aS => qym (k_common aS (hM.ext aq) (ax.ext aq) xq xq) ?_))))
  rintro _ u27 aP ⟨aH, rfl, aO⟩
  refine zzj ⟨32, aH.cs⟩ ty32 ?_
  refine zzx ?_
  refine zzp (zzf (qwi 22 ((i : Int) + 1) (i + 1 : Nat) xz (zza 15 (zI (i + 1 : Nat)) (zzx ?_))))
  refine ⟨_, ?_, _, by exact zzv _ _ _, i + 1, aH, rfl, by omega, rfl, (ag.t (aq.t aP.ext)), (RatN.more (K := ((i * K + 2) + K)) (by rw [Nt.msr_take xq]; exact aO) (by rw [Nat.add_mul]; omega))⟩
  omega
 have qhb22 := qyf ac
 refine zyc (zzp (zzd ?_))
 have aD : i = (Nt.trimQ l).length := by omega
 have hms : RatN aJ r (Nt.msr (Nt.trimQ l)) ((Nt.trimQ l).length * K + 2) := by have h9 := hM; rw [aD, List.take_length] at h9; exact h9
 clear aD
 refine zzf (zza 23 (.v (.slice x.a (Nt.trimQ l).length x.c)) (zza 24 (zI (((Nt.trimQ l).length : Nat) : Int)) (sy_make 25 (T := 27) (E := 32) (z := .agg #[.bool false, qyn, qyn]) (size := 3) (bytes := 56) ((Nt.trimQ l).length) (rcs (List.replicate ((Nt.trimQ l).length) rl0)) xj xj rfl rfl xq yk (made_rcs _) ?_)))
 refine zza 7 (.slc 25 0 ((Nt.trimQ l).length) ((Nt.trimQ l).length)) (zzc 45 [(0, .v (.slice x.a (Nt.trimQ l).length x.c)), (2, .adr 2 0), (4, .adr 4 0), (7, .slc 25 0 ((Nt.trimQ l).length) ((Nt.trimQ l).length))] [(2, ⟨32, zw3⟩), (4, ⟨32, r.cs⟩), (25, ⟨32, rcs (List.replicate ((Nt.trimQ l).length) rl0)⟩)] (zzd (sq9 (zza 26 (.v (.slice x.a (Nt.trimQ l).length x.c)) (zza 27 (zI (((Nt.trimQ l).length : Nat) : Int)) (zza 28 (zI 0) (zzb (zzt (zyn (I := fun aE S' u' => ∃ (i2 : Nat) (L2 : List RL), (aE = ((Nt.trimQ l).length) - i2) ∧ (i2 ≤ (Nt.trimQ l).length) ∧ (L2.length = (Nt.trimQ l).length) ∧ (S' = St.of 45 [(2, .adr 2 0), (4, .adr 4 0), (7, .slc 25 0 ((Nt.trimQ l).length) ((Nt.trimQ l).length)), (26, .v (.slice x.a (Nt.trimQ l).length x.c)), (27, zI (((Nt.trimQ l).length : Nat) : Int)), (28, zI i2)] [(2, ⟨32, zw3⟩), (4, ⟨32, r.cs⟩), (25, ⟨32, rcs L2⟩)]) ∧ (Ext aJ u') ∧ (RatsN u' (L2.take i2) (((Nt.trimQ l).map (· / Nt.msr (Nt.trimQ l))).take i2) (K + ((Nt.trimQ l).length * K + 2)))) (fun m S u1 u2 e h => by obtain ⟨i2, L2, hm, p0, p1, hS, hE, f0⟩ := h; exact ⟨i2, L2, hm, p0, p1, hS, hE.trans e, f0.ext e⟩) _ yz ⟨0, List.replicate ((Nt.trimQ l).length) rl0, rfl, by omega, by simp, rfl, (Ext.refl _), RatsN.tnil _ _ _ _⟩ ?_)))))))))
 rintro aE _ u30 ⟨i2, L2, aZ, hi2, aV, rfl, ah, aA⟩
 refine sq9 (zza 29 (zB (decide ((i2 : Int) < (((Nt.trimQ l).length : Nat) : Int)))) (zzb (zzd (zzu (b := decide ((i2 : Int) < (((Nt.trimQ l).length : Nat) : Int))) xj (fun aa => ?_) (fun aa => ?_)))))
 ·have qhb31 := qyt aa
  refine zzs (zzp ?_)
  refine zzd (zzt (sq9 (zza 30 (zI i2) ?_)))
  have hl32 := ((cut_V (hx.ext (ae.t aj.ext))).ext (ai.t (ak.t (ag.trans ah)))).len
  change (Nt.trimQ l).length = _ at hl32
  obtain ⟨az, b32, aC, aw, ay, au⟩ := pol_at ((cut_V (hx.ext (ae.t aj.ext))).ext (ai.t (ak.t (ag.trans ah)))) (i := i2) xq
  refine zya 31 (aC + i2 * 3) (n := (Nt.trimQ l).length) (off := aC) (sz := 3) (i := (i2 : Int)) xq aw xq xq sl27 (zym 32 az.cs ay ty32 (zzk 9 ⟨32, zw3⟩ (zza 8 (zI i2) (zzj ⟨32, az.cs⟩ ty32 ?_))))
  refine zzb (zzf (zza 34 (.slc 25 0 ((Nt.trimQ l).length) ((Nt.trimQ l).length)) (zza 35 (zI i2) (zzi 36 (.v (az.v)) ty32 zze (zzi 37 (.v (r.v)) ty32 zze (zzg 38 138 _ fun _ _ al aQ => qym (k_ratDiv1 aQ (au.ext al) (hms.ext (ah.trans al)).raw (Nt.msr_ne (Nt.trim_nrm l) xq) xq xq) ?_))))))
  rintro _ u36 aF ⟨ad, rfl, aX⟩
  refine zza 33 (.v (.tuple #[ad.v, .int .i64 0])) (zza 39 (.v (ad.v)) (zza 40 (zI 0) (zyw 41 (off' := i2 * 3) (n := (Nt.trimQ l).length) (off := 0) (sz := 3) (i := (i2 : Int)) sl27 xq xq xq ?_)))
  refine zyv (V := ⟨32, rcs L2⟩) (off := i2 * 3) (rcs ((L2).set i2 ad)) ty32 zq (zyx (r := ad) (i := i2) zj rfl) ?_
  refine zzx ?_
  refine zzp (zzf (qwi 42 ((i2 : Int) + 1) (i2 + 1 : Nat) xz (zza 28 (zI (i2 + 1 : Nat)) (zzx ?_))))
  have an : i2 < ((Nt.trimQ l).map (· / Nt.msr (Nt.trimQ l))).length := by simp; omega
  refine ⟨_, ?_, _, by exact zzv _ _ _, i2 + 1, (L2).set i2 ad, rfl, by omega, by simpa using aV, rfl, (ah.t (al.t aF.ext)), RatsN.tstep (aA.ext (al.t aF.ext)) xq an (RatN.more (K := (K + ((Nt.trimQ l).length * K + 2))) aX xq) (by simp [List.getElem?_eq_getElem (show i2 < (Nt.trimQ l).length by omega)])⟩
  omega
 have qhb31 := qyf aa
 refine zyc (zzp (zzd (zyp (r := 7) (t := 25) [7, 25] xw xj (by rfl) (by rfl) xj (fun af aY aG aT ap => ?_))))
 have ar : PolN aY ⟨some ⟨af, 0, none⟩, (Nt.trimQ l).length, (Nt.trimQ l).length⟩ ((Nt.trimQ l).map (· / Nt.msr (Nt.trimQ l))) (K + ((Nt.trimQ l).length * K + 2)) := pol_data1 ap yk (RatsN.tdone (aA.ext aG) xq yw) xq
 refine zzf (zzi 43 (.v (r.v)) ty32 zze (zza 44 (.v (.slice (some ⟨af, 0, none⟩) ((Nt.trimQ l).length) ((Nt.trimQ l).length))) (zzj ⟨32, r.cs⟩ ty32 ?_)))
 refine zza 3 (.v (.slice (some ⟨af, 0, none⟩) ((Nt.trimQ l).length) ((Nt.trimQ l).length))) (zzb (zzo (ret0 [r.v, .slice (some ⟨af, 0, none⟩) ((Nt.trimQ l).length) ((Nt.trimQ l).length)] ⟨zzr ty32 zze, zzq, trivial⟩ fun u46 aI => ?_)))
 exact ⟨r, (⟨some ⟨af, 0, none⟩, (Nt.trimQ l).length, (Nt.trimQ l).length⟩ : Sl), rfl, (hms.ext (ah.trans (aG.trans aI))), (ar.ext aI)⟩
theorem k_poMul {u w : World} {x : Sl} {l : List Rat} {y : Sl} {m : List Rat} {K M : Nat} (d : Dat u w) (hx : PolV u x l K) (hy : PolV u y m M) (hB : Nt.mlK l.length m.length K M ≤ 30000000) (hK1 : (l.length + 1) * K ≤ 20000000) (hM1 : (m.length + 1) * M ≤ 20000000) (hx9 : l.length ≤ 100000000) (hy9 : m.length ≤ 100000000) : qyc 130 #[x.v, y.v] w (Post u w fun v u' => ∃ y : Sl, v = y.v ∧ PolN u' y (Nt.trimQ (Nt.mulQ l m)) (Nt.mlK l.length m.length K M)) := by
 have hlen := hx.len
 have hlen2 := hy.len
 have htl := zzh l
 have htm := zzh m
 have hB2 := Nat.le_trans (Nt.mlK_mono htl htm (Nat.le_refl K) (Nat.le_refl M)) hB
 have hB3 : Nt.kk ((K + ((Nt.trimQ l).length * K + 2)) + (M + ((Nt.trimQ m).length * M + 2)) + 1) ((Nt.trimQ l).length * (Nt.trimQ m).length) + (((Nt.trimQ l).length * K + 2) + ((Nt.trimQ m).length * M + 2)) ≤ 30000000 := hB2
 have hK2 := hK1
 have hM2 := hM1
 rw [Nat.add_mul] at hK2 hM2
 have hKK : (Nt.trimQ l).length * K ≤ l.length * K := Nat.mul_le_mul_right _ htl
 have hMM : (Nt.trimQ m).length * M ≤ m.length * M := Nat.mul_le_mul_right _ htm
 refine zzm Tryz.func130 rfl Tryz.ntmps130 Tryz.results130 d ?_
 refine sq9 (zza 4 (.v (qyn)) (zzb (sq9 (zza 15 (.v (x.v)) (zzg 16 179 _ fun _ _ aG be => qym (k_split be (hx.ext aG) xq xk) ?_)))))
 rintro _ u16 aT ⟨aj, aa, rfl, bl, aR⟩
 have ar : aa.n = (Nt.trimQ l).length := by have h9 := aR.len; simpa using h9
 refine zza 14 (.v (.tuple #[aj.v, aa.v])) (zza 17 (.v (aj.v)) (zza 18 (.v (aa.v)) (zzk 5 ⟨32, zw3⟩ (zzj ⟨32, aj.cs⟩ ty32 ?_))))
 refine zza 6 (.v (aa.v)) (zzb (sq9 (zza 20 (.v (y.v)) (zzg 21 179 _ fun _ _ av bh => qym (k_split bh (hy.ext (aG.t (aT.t av))) xq xk) ?_))))
 rintro _ u24 ay ⟨al, ac, rfl, bn, aK⟩
 have au : ac.n = (Nt.trimQ m).length := by have h9 := aK.len; simpa using h9
 refine zza 19 (.v (.tuple #[al.v, ac.v])) (zza 22 (.v (al.v)) (zza 23 (.v (ac.v)) (zzk 7 ⟨32, zw3⟩ (zzj ⟨32, al.cs⟩ ty32 ?_))))
 refine zza 8 (.v (ac.v)) (zzb (zzd (sq9 (zza 24 (.v (aa.v)) (zza 25 (zI aa.n) (zza 26 (zB ((aa.n : Int) == 0)) ?_))))))
 rcases Bool.eq_false_or_eq_true ((aa.n : Int) == 0) with hs27 | hs27
 ·refine qbi 27 hs27 ?_
  have ao : (aa.n : Int) = 0 := by simpa using hs27
  refine zzn 28 (uw 3 false true 27) (zzn 29 (uw 3 false true 27) (zzn 30 (uw 3 false true 27) (zza 31 (zB true) (zzb (zyr xj (sq9 (zza 4 (.v (qyn)) (zzb (zzo (zzw (ret0 [qyn] ⟨zzq, trivial⟩ fun u28 e29 => ?_)))))))))))
  have e9 : Nt.trimQ l = [] := List.eq_nil_of_length_eq_zero xq
  rw [Nt.mul_nil (.inl e9)]
  exact ⟨⟨none, 0, 0⟩, rfl, pol_nil _ _⟩
 refine qbi 27 hs27 ?_
 have ao : ¬ ((aa.n : Int) = 0) := by simpa using hs27
 refine zza 28 (.v (ac.v)) ?_ (hw := w1 3 false 27)
 refine zza 29 (zI ac.n) ?_ (hw := w1 3 false 27)
 refine zza 30 (zB ((ac.n : Int) == 0)) ?_ (hw := w1 3 false 27)
 refine zza 31 (zB ((ac.n : Int) == 0)) (zzb (zzu (b := (ac.n : Int) == 0) xj (fun ag => ?_) (fun ag => ?_)))
 ·have ap : (ac.n : Int) = 0 := by simpa using ag
  refine sq9 (zza 4 (.v (qyn)) (zzb (zzo (zzw (ret0 [qyn] ⟨zzq, trivial⟩ fun u31 e32 => ?_)))))
  have e9 : Nt.trimQ m = [] := List.eq_nil_of_length_eq_zero xq
  rw [Nt.mul_nil (.inr e9)]
  exact ⟨⟨none, 0, 0⟩, rfl, pol_nil _ _⟩
 have ap : ¬ ((ac.n : Int) = 0) := by simpa using ag
 refine zzs (zzp ?_)
 refine sq9 (zza 32 (.v (aa.v)) (zza 33 (zI aa.n) (zza 34 (.v (ac.v)) (zza 35 (zI ac.n) (qwi 36 ((aa.n : Int) + (ac.n : Int)) (aa.n + ac.n : Nat) xz (qwi 37 (((aa.n + ac.n : Nat) : Int) - 1) (((aa.n + ac.n) - 1 : Nat) : Int) xz (zzg 38 180 _ fun _ _ am a6 => qym (k_zeros (n := (aa.n + ac.n) - 1) a6 xq) ?_)))))))
 rintro _ u40 an ⟨aU, bf, rfl, ad, aq, bm, hR39⟩
 refine zza 9 (.v (.slice (some ⟨aU, 0, none⟩) ((aa.n + ac.n) - 1) ((aa.n + ac.n) - 1))) (zzc 75 [(5, .adr 5 0), (6, .v (aa.v)), (7, .adr 7 0), (8, .v (ac.v)), (9, .v (.slice (some ⟨aU, 0, none⟩) ((aa.n + ac.n) - 1) ((aa.n + ac.n) - 1)))] [(5, ⟨32, aj.cs⟩), (7, ⟨32, al.cs⟩)] (zzd (zzd (sw_adopt (r := 9) (k := 9) (by rfl) ((Ext.refl _).cells aq) (Nat.le_trans ((aG.t (aT.t (av.t (ay.t am)))).size) ad) xj (fun ba ae => ?_)))))
 replace hR39 := (hR39.ext (Ext.refl _)).extB ((Ext.refl _).cells aq) ae
 refine zzf (zza 39 (.v (aa.v)) (zza 40 (zI aa.n) (zza 41 (zI 0) (zzb (zzt (zyn (I := fun aS S' u' => ∃ (i : Nat) (L : List RL), (aS = (Nt.trimQ l).length - i) ∧ (i ≤ (Nt.trimQ l).length) ∧ (L.length = ((Nt.trimQ l).length + (Nt.trimQ m).length - 1)) ∧ (S' = St.of 75 [(5, .adr 5 0), (7, .adr 7 0), (8, .v (ac.v)), (9, .slc 9 0 ((aa.n + ac.n) - 1) ((aa.n + ac.n) - 1)), (39, .v (aa.v)), (40, zI aa.n), (41, zI i)] [(5, ⟨32, aj.cs⟩), (7, ⟨32, al.cs⟩), (9, ⟨32, rcs L⟩)]) ∧ (Ext ba u') ∧ (RatsN u' L (Nt.outQ ((Nt.trimQ l).map (· / Nt.msr (Nt.trimQ l))) ((Nt.trimQ m).map (· / Nt.msr (Nt.trimQ m))) ((Nt.trimQ l).length + (Nt.trimQ m).length - 1) i) (Nt.kk ((K + ((Nt.trimQ l).length * K + 2)) + (M + ((Nt.trimQ m).length * M + 2)) + 1) (i * (Nt.trimQ m).length)))) (fun m S u1 u2 e h => by obtain ⟨i, L, hm, p0, p1, hS, hE, f0⟩ := h; exact ⟨i, L, hm, p0, p1, hS, hE.trans e, f0.ext e⟩) _ yz ⟨0, bf, rfl, by omega, by omega, rfl, (Ext.refl _), (RatsN.more (K := 2) (by have h9 := hR39; rw [ar, au] at h9; exact h9) (by unfold Nt.kk; omega))⟩ ?_))))))
 rintro aS _ a2 ⟨i, L, bj, hi, hL, rfl, ai, hR⟩
 refine sq9 (zza 42 (zB (decide ((i : Int) < (aa.n : Int)))) (zzb (zzd (zzu (b := decide ((i : Int) < (aa.n : Int))) xj (fun ak => ?_) (fun ak => ?_)))))
 ·have qhb46 := qyt ak
  refine zzs (zzp ?_)
  refine zzd (zzt (sq9 (zza 43 (zI i) ?_)))
  have hl47 := (aR.ext (av.t (ay.t (am.trans ((ExtB.old ae an.ext ad).trans ai))))).len
  obtain ⟨aA, b47, aV, aN, aE, aO⟩ := pol_atN (aR.ext (av.t (ay.t (am.trans ((ExtB.old ae an.ext ad).trans ai))))) (i := i) xq
  refine zya 44 (aV + i * 3) (n := aa.n) (off := aV) (sz := 3) (i := (i : Int)) xq aN xq xq sl27 (zym 45 aA.cs aE ty32 (zzk 11 ⟨32, zw3⟩ (zza 10 (zI i) (zzj ⟨32, aA.cs⟩ ty32 ?_))))
  refine zzb (sq9 (zza 46 (.v (ac.v)) (zza 47 (zI ac.n) (zza 48 (zI 0) (zzb (zzt (zyn (I := fun aZ S' u' => ∃ (j : Nat) (M9 : List RL), (aZ = (Nt.trimQ m).length - j) ∧ (j ≤ (Nt.trimQ m).length) ∧ (M9.length = ((Nt.trimQ l).length + (Nt.trimQ m).length - 1)) ∧ (S' = St.of 75 [(5, .adr 5 0), (7, .adr 7 0), (8, .v (ac.v)), (9, .slc 9 0 ((aa.n + ac.n) - 1) ((aa.n + ac.n) - 1)), (10, zI i), (11, .adr 11 0), (39, .v (aa.v)), (40, zI aa.n), (41, zI i), (46, .v (ac.v)), (47, zI ac.n), (48, zI j)] [(5, ⟨32, aj.cs⟩), (7, ⟨32, al.cs⟩), (9, ⟨32, rcs M9⟩), (11, ⟨32, aA.cs⟩)]) ∧ (Ext a2 u') ∧ (RatsN u' M9 (Nt.inn (Nt.outQ ((Nt.trimQ l).map (· / Nt.msr (Nt.trimQ l))) ((Nt.trimQ m).map (· / Nt.msr (Nt.trimQ m))) ((Nt.trimQ l).length + (Nt.trimQ m).length - 1) i) i (((Nt.trimQ l).map (· / Nt.msr (Nt.trimQ l))).getD i 0) ((Nt.trimQ m).map (· / Nt.msr (Nt.trimQ m))) j) (Nt.kk ((K + ((Nt.trimQ l).length * K + 2)) + (M + ((Nt.trimQ m).length * M + 2)) + 1) (i * (Nt.trimQ m).length + j)))) (fun m S u1 u2 e h => by obtain ⟨j, M9, hm, p0, p1, hS, hE, f0⟩ := h; exact ⟨j, M9, hm, p0, p1, hS, hE.trans e, f0.ext e⟩) _ yz ⟨0, L, rfl, by omega, by omega, rfl, (Ext.refl _), hR⟩ ?_)))))))
  rintro aZ _ u48 ⟨j, M9, bp, hj, hM9, rfl, aw, hQ⟩
  have hmm := Nat.mul_le_mul_right (Nt.trimQ m).length (show i + 1 ≤ (Nt.trimQ l).length by omega)
  rw [Nat.add_mul] at hmm
  have hkk := Nt.kk_mono (W := ((K + ((Nt.trimQ l).length * K + 2)) + (M + ((Nt.trimQ m).length * M + 2)) + 1)) (t := i * (Nt.trimQ m).length + j) (t' := (Nt.trimQ l).length * (Nt.trimQ m).length) qyl xq
  have hk2 := Nt.kk_succ ((K + ((Nt.trimQ l).length * K + 2)) + (M + ((Nt.trimQ m).length * M + 2)) + 1) (i * (Nt.trimQ m).length + j)
  refine sq9 (zza 49 (zB (decide ((j : Int) < (ac.n : Int)))) (zzb (zzd (zzu (b := decide ((j : Int) < (ac.n : Int))) xj (fun ah => ?_) (fun ah => ?_)))))
  ·have qhb49 := qyt ah
   refine zzs (zzp ?_)
   refine zzd (zzt (sq9 (zza 50 (zI j) ?_)))
   have hl50 := (aK.ext (am.trans ((ExtB.old ae an.ext ad).trans (ai.trans aw)))).len
   obtain ⟨aB, b50, aW, aH, aI, aL⟩ := pol_atN (aK.ext (am.trans ((ExtB.old ae an.ext ad).trans (ai.trans aw)))) (i := j) xq
   refine zya 51 (aW + j * 3) (n := ac.n) (off := aW) (sz := 3) (i := (j : Int)) xq aH xq xq sl27 (zym 52 aB.cs aI ty32 (zzk 13 ⟨32, zw3⟩ (zza 12 (zI j) (zzj ⟨32, aB.cs⟩ ty32 ?_))))
   refine zzb (zzz [0, 0, 0, 6, 0, 0, 0, 96, 240, 496, 0, 0, 3072, 8176, 16383, 32767] [(0, []), (1, []), (2, []), (3, []), (4, []), (5, []), (6, []), (7, []), (8, []), (9, []), (10, []), (11, []), (12, []), (13, []), (14, []), (15, [])] xj xj (zza 53 (.slc 9 0 ((aa.n + ac.n) - 1) ((aa.n + ac.n) - 1)) (zza 54 (zI i) (zza 55 (zI j) (qwi 56 ((i : Int) + (j : Int)) (i + j : Nat) xz (zza 57 (.slc 9 0 ((aa.n + ac.n) - 1) ((aa.n + ac.n) - 1)) (zza 58 (zI i) (zza 59 (zI j) (qwi 60 ((i : Int) + (j : Int)) (i + j : Nat) xz (zyw 61 (off' := (i + j) * 3) (n := (aa.n + ac.n) - 1) (off := 0) (sz := 3) (i := ((i + j : Nat) : Int)) sl27 xq xq xq ?_))))))))))
   obtain ⟨bk, af⟩ : ∃ r : RL, (M9).getD (i + j) rl0 = r := ⟨_, rfl⟩
   refine zzi 62 (V := ⟨32, rcs M9⟩) (off := (i + j) * 3) (.v bk.v) ty32 (by have h9 := part_rcs (L := M9) (i := i + j) (off := (i + j) * 3) zj rfl; rw [af] at h9; exact h9) ?_
   have h52 := hQ.2 (i + j) zj
   rw [af] at h52
   refine zzi 63 (.v (aA.v)) ty32 zze (zzi 64 (.v (aB.v)) ty32 zze (zzg 65 113 _ fun _ _ ax bc => qym (k_ratMul bc (aO.ext (aw.trans ax)).raw (aL.ext ax).raw xq xq) ?_))
   rintro _ u56 aJ ⟨r54, rfl, bb⟩
   refine zzg 66 112 _ fun _ _ az bi => qym (k_ratAdd bi (h52.ext (ax.t (aJ.t az))).raw (bb.ext az).raw xq xq) ?_
   rintro _ u62 a0 ⟨aP, rfl, a9⟩
   refine zyw 67 (off' := (i + j) * 3) (n := (aa.n + ac.n) - 1) (off := 0) (sz := 3) (i := ((i + j : Nat) : Int)) sl27 xq xq xq ?_
   refine zyv (V := ⟨32, rcs M9⟩) (off := (i + j) * 3) (rcs ((M9).set (i + j) aP)) ty32 zq (zyx (r := aP) (i := i + j) zj rfl) ?_
   refine zzx ?_
   refine zzp (zzf (qwi 68 ((j : Int) + 1) (j + 1 : Nat) xz (zza 48 (zI (j + 1 : Nat)) (zzx ?_))))
   refine ⟨_, ?_, _, by exact zzv _ _ _, j + 1, (M9).set (i + j) aP, rfl, by omega, by simp; omega, rfl, (aw.t (ax.t (aJ.t (az.t a0.ext)))), (RatsN.set (i := i + j) (RatsN.more (K := Nt.kk ((K + ((Nt.trimQ l).length * K + 2)) + (M + ((Nt.trimQ m).length * M + 2)) + 1) (i * (Nt.trimQ m).length + j)) (hQ.ext (ax.t (aJ.t (az.t a0.ext)))) (by show _ ≤ Nt.kk _ (i * (Nt.trimQ m).length + j + 1); omega)) yw (RatN.more (K := ((Nt.kk ((K + ((Nt.trimQ l).length * K + 2)) + (M + ((Nt.trimQ m).length * M + 2)) + 1) (i * (Nt.trimQ m).length + j)) + ((K + ((Nt.trimQ l).length * K + 2)) + (M + ((Nt.trimQ m).length * M + 2))) + 1)) a9 (by show _ ≤ Nt.kk _ (i * (Nt.trimQ m).length + j + 1); omega)))⟩
   omega
  have qhb49 := qyf ah
  refine zyc (zzp (zzf (qwi 69 ((i : Int) + 1) (i + 1 : Nat) xz (zza 41 (zI (i + 1 : Nat)) (zzx ?_)))))
  have bq : j = (Nt.trimQ m).length := by omega
  refine ⟨_, ?_, _, by exact zzv _ _ _, i + 1, M9, rfl, by omega, by omega, rfl, (ai.trans aw), (by have h9 := hQ; rw [bq, ← Nat.succ_mul] at h9; have e9 : ((Nt.trimQ m).map (· / Nt.msr (Nt.trimQ m))).length = (Nt.trimQ m).length := zv; show RatsN _ _ (Nt.inn _ _ _ _ ((Nt.trimQ m).map (· / Nt.msr (Nt.trimQ m))).length) _; rw [e9]; exact h9)⟩
  omega
 have qhb46 := qyf ak
 refine zyc (zzp (zzd ?_))
 have a5 : i = (Nt.trimQ l).length := by omega
 have bd : RatsN a2 L (Nt.outQ ((Nt.trimQ l).map (· / Nt.msr (Nt.trimQ l))) ((Nt.trimQ m).map (· / Nt.msr (Nt.trimQ m))) ((Nt.trimQ l).length + (Nt.trimQ m).length - 1) ((Nt.trimQ l).length)) (Nt.kk ((K + ((Nt.trimQ l).length * K + 2)) + (M + ((Nt.trimQ m).length * M + 2)) + 1) ((Nt.trimQ l).length * (Nt.trimQ m).length)) := by have h9 := hR; rw [a5] at h9; exact h9
 refine zyp (r := 9) (t := 9) [9] xw xj (by rfl) (by rfl) xj (fun aY bg aC a4 aF => ?_)
 have aM : PolN bg ⟨some ⟨aY, 0, none⟩, (aa.n + ac.n) - 1, (aa.n + ac.n) - 1⟩ (Nt.outQ ((Nt.trimQ l).map (· / Nt.msr (Nt.trimQ l))) ((Nt.trimQ m).map (· / Nt.msr (Nt.trimQ m))) ((Nt.trimQ l).length + (Nt.trimQ m).length - 1) ((Nt.trimQ l).length)) (Nt.kk ((K + ((Nt.trimQ l).length * K + 2)) + (M + ((Nt.trimQ m).length * M + 2)) + 1) ((Nt.trimQ l).length * (Nt.trimQ m).length)) := pol_data1 aF yk (bd.ext aC) xq
 refine zzf (zza 70 (.v (.slice (some ⟨aY, 0, none⟩) ((aa.n + ac.n) - 1) ((aa.n + ac.n) - 1))) (zzi 71 (.v (aj.v)) ty32 zze (zzi 72 (.v (al.v)) ty32 zze (zzg 73 113 _ fun _ _ aQ a8 => qym (k_ratMul a8 (bl.ext (av.t (ay.t (am.trans ((ExtB.old ae an.ext ad).trans (ai.trans (aC.trans aQ))))))).raw (bn.ext (am.trans ((ExtB.old ae an.ext ad).trans (ai.trans (aC.trans aQ))))).raw xq xq) ?_))))
 rintro _ u74 a7 ⟨r72, rfl, br⟩
 refine zzg 74 116 _ fun _ _ a1 bo => qym (k_poScale bo (aM.ext (aQ.t (a7.t a1))).raw (br.ext a1).raw xq xk xq) ?_
 rintro _ u80 g81 ⟨aD, rfl, aX⟩
 have hly78 := aX.len
 refine zza 4 (.v (aD.v)) (zzb (zzo (ret0 [aD.v] ⟨zzq, trivial⟩ fun u83 a3 => ?_)))
 have h8 := Nt.mul_parts (Nt.msr_ne (Nt.trim_nrm l) xq) (Nt.msr_ne (Nt.trim_nrm m) xq) (l := (Nt.trimQ l)) (m := (Nt.trimQ m)) xq xq
 refine ⟨aD, rfl, PolN.more (K := ((Nt.kk ((K + ((Nt.trimQ l).length * K + 2)) + (M + ((Nt.trimQ m).length * M + 2)) + 1) ((Nt.trimQ l).length * (Nt.trimQ m).length)) + (((Nt.trimQ l).length * K + 2) + ((Nt.trimQ m).length * M + 2)))) ?_ ?_⟩
 ·rw [← Nt.mul_trim, ← h8]
  exact (aX.ext a3)
 exact Nat.le_trans (Nat.add_le_add_left qyl _) (Nt.mlK_mono (n := (Nt.trimQ l).length) (m := (Nt.trimQ m).length) htl htm (Nat.le_refl K) (Nat.le_refl M))
end Go.Proofs.YtgmkhhfbckjaeaaGreat
