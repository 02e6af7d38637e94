/- Contracts of rational. Printed by wip/sym/g_rat.py. Contracts of interval. Printed by wip/sym/g_itv.py. Contracts of the reference of interval, of small functions. Printed by wip/sym/g_r4.py. Contracts of poly. Printed by wip/sym/g_pol.py. -/
import Derived.Test.YtgmkhhfbckjaeaaGreatXleD
set_option linter.unusedVariables false
set_option maxHeartbeats 8000000
namespace Go.Proofs.YtgmkhhfbckjaeaaGreat
open Nt
open Go.RowKit
theorem k_natural {u w : World} {x : Sl} (d : Dat u w) : qyc 152 #[x.v] w (Post u w fun v _ => v = .agg #[.bool false, x.v]) := by
 refine zzm (args := [x.v]) Tryz.func152 rfl Tryz.ntmps152 (rs := [.cell 2 30]) Tryz.results152 (le_b rfl) (le_b rfl) d ?_
 refine sq9 (zzk 2 ⟨30, [.bool false, qyn]⟩ (zzb (sq9 (zza 3 (.v (x.v)) (zza 4 (.v (.agg #[.bool false, x.v])) (zzj ⟨30, [.bool false, x.v]⟩ ty30 ?_))))))
 refine zzb (zzo (ret0 [.agg #[.bool false, x.v]] ⟨zzr ty30 zze, trivial⟩ fun u11 e12 => ?_))
 exact rfl
theorem k_whole {u w : World} {i : IL} (d : Dat u w) : qyc 164 #[i.v] w (Post u w fun v u' => ∃ y : Sl, v = .agg #[.bool i.s, i.m.v, y.v] ∧ NatN u' y 1 1) := by
 refine zzm (args := [i.v]) Tryz.func164 rfl Tryz.ntmps164 (rs := [.cell 2 32]) Tryz.results164 (le_b rfl) (le_b rfl) d ?_
 refine sq9 (zzk 1 ⟨30, i.cs⟩ (zzk 2 ⟨32, zw3⟩ (zzb (sq9 (zzi 3 (.v (i.v)) ty30 zze (zxx 4 ⟨133, [.int .u32 1]⟩ 1 (fun aa u12 e13 ad => ?_)))))))
 refine zza 5 (.v (.agg #[.bool i.s, i.m.v, .slice (some ⟨aa, 0, none⟩) 1 1])) (zzj ⟨32, i.cs ++ [.slice (some ⟨aa, 0, none⟩) 1 1]⟩ ty32 ?_)
 refine zzb (zzo (ret0 [.agg #[.bool i.s, i.m.v, .slice (some ⟨aa, 0, none⟩) 1 1]] ⟨zzr ty32 zze, trivial⟩ fun u15 ac => ?_))
 exact ⟨_, rfl, ((one_data ad).ext ac)⟩
theorem k_quotient {u w : World} {i j : IL} (d : Dat u w) : qyc 168 #[i.v, j.v] w (Post u w fun v _ => v = .agg #[.bool (!(i.s == j.s)), i.m.v, j.m.v]) := by
 refine zzm (args := [i.v, j.v]) Tryz.func168 rfl Tryz.ntmps168 (rs := [.cell 4 195]) Tryz.results168 (le_b rfl) (le_b rfl) d ?_
 refine sq9 (zzk 2 ⟨30, i.cs⟩ (zzk 3 ⟨30, j.cs⟩ (zzk 4 ⟨195, zw3⟩ (zzb (sq9 (zza 5 (.adr 2 0) (zzi 6 (zB i.s) ty4 zzl (zza 7 (.adr 3 0) (zzi 8 (zB j.s) ty4 zzl (zza 9 (zB (!(i.s == j.s))) (zza 10 (.adr 2 1) ?_)))))))))))
 refine zzi 11 (.v (i.m.v)) ty28 zzl (zza 12 (.v (.agg #[.bool (!(i.s == j.s)), i.m.v])) (zza 13 (.adr 3 1) (zzi 14 (.v (j.m.v)) ty28 zzl (zza 15 (.v (.agg #[.bool (!(i.s == j.s)), i.m.v, j.m.v])) (zzj ⟨195, [.bool (!(i.s == j.s)), i.m.v, j.m.v]⟩ ty195 ?_)))))
 refine zzb (zzo (ret0 [.agg #[.bool (!(i.s == j.s)), i.m.v, j.m.v]] ⟨zzr ty195 zze, trivial⟩ fun u11 e12 => ?_))
 exact rfl
theorem k_flip {u w : World} {r : RL} (d : Dat u w) : qyc 153 #[r.v] w (Post u w fun v _ => v = .agg #[.bool (!r.s), r.m.v, r.d.v]) := by
 refine zzm (args := [r.v]) Tryz.func153 rfl Tryz.ntmps153 (rs := [.cell 2 32]) Tryz.results153 (le_b rfl) (le_b rfl) d ?_
 refine sq9 (zzk 1 ⟨32, r.cs⟩ (zzk 2 ⟨32, zw3⟩ (zzb (sq9 (zza 3 (.adr 1 0) (zza 4 (.adr 1 0) (zzi 5 (zB r.s) ty4 zzl (zza 6 (zB (!r.s)) (zza 7 (.adr 1 0) (zza 8 (.adr 1 1) (zzi 9 (.v (r.m.v)) ty28 zzl ?_)))))))))))
 refine zza 10 (.v (.agg #[.bool (!r.s), r.m.v])) (zza 11 (.adr 1 2) (zzi 12 (.v (r.d.v)) ty28 zzl (zza 13 (.v (.agg #[.bool (!r.s), r.m.v, r.d.v])) (zzj ⟨32, [.bool (!r.s), r.m.v, r.d.v]⟩ ty32 ?_))))
 refine zzb (zzo (ret0 [.agg #[.bool (!r.s), r.m.v, r.d.v]] ⟨zzr ty32 zze, trivial⟩ fun u11 e12 => ?_))
 exact rfl
theorem k_read {u w : World} {r : RL} {q : Rat} {K : Nat} (d : Dat u w) (h : RatV u r q K) : qyc 148 #[r.v] w (Post u w fun v u' => ∃ (r' : RL) (wh : Bool), v = .agg #[.bool r'.s, r'.m.v, r'.d.v, .bool wh] ∧ NumV u' r' wh q K) := by
 obtain ⟨⟨z, D, hi, hd, hq⟩, hK⟩ := h
 change IntV u ⟨r.s, r.m⟩ z K at hi
 change NatV u r.d D K at hd
 by_cases hn : r.d.n = 1
 ·obtain ⟨b, o, ha, hc⟩ := nat_digit hd hn
  by_cases hD : D = 1
  ·refine zzm (args := [r.v]) Tryz.func148 rfl Tryz.ntmps148 (rs := [.cell 2 197]) Tryz.results148 (le_b rfl) (le_b rfl) d ?_
   refine sq9 (zzk 1 ⟨32, r.cs⟩ (zzk 2 ⟨197, [.bool false, qyn, qyn, .bool false]⟩ (zzb (zzd (sq9 (zza 3 (.adr 1 2) (zzi 4 (.v (r.d.v)) ty28 zzl (zza 5 (zI r.d.n) (zyq 6 (x := zB ((r.d.n : Int) == 1)) (zB true) (by rw [show ((r.d.n : Int) == 1) = true from (by simp [hn])]) (zza 7 (zB true) (zza 8 (.adr 1 2) ?_ (hw := w1 4 true 7))))))))))))
   refine zzi 9 (.v (r.d.v)) ty28 zzl ?_ (hw := w1 4 true 7)
   refine zya 10 o (i := 0) (n := r.d.n) zv ha xq (by rw [hn]; decide) sl28 ?_ (hw := w1 4 true 7)
   refine zyl 11 (.int .u32 D) ((Ext.refl _).cell hc) ty133 ?_ (hw := w1 4 true 7)
   refine zyq 12 (x := zB ((D : Int) == 1)) (zB true) (by rw [show ((D : Int) == 1) = true from (by simp [hD])]) ?_ (hw := w1 4 true 7)
   refine zza 13 (zB true) (zzb (zyr xj (sq9 (zza 14 (.adr 1 0) (zzi 15 (.v (.agg #[.bool r.s, r.m.v])) ty30 zze (zza 16 (.adr 1 2) (zzi 17 (.v (r.d.v)) ty28 zzl (zza 18 (.v (r.v)) (zza 19 (.v (.agg #[.bool r.s, r.m.v, r.d.v, .bool true])) (zzj ⟨197, r.cs ++ [.bool true]⟩ ty197 ?_))))))))))
   refine zzb (zzo (zzw (ret0 [.agg #[.bool r.s, r.m.v, r.d.v, .bool true]] ⟨zzr ty197 zze, trivial⟩ fun am ak => ?_)))
   exact ⟨r, true, rfl, z, D, hi.ext ak, hd.ext ak, by omega, hq, fun _ => hD, hK⟩
  refine zzm (args := [r.v]) Tryz.func148 rfl Tryz.ntmps148 (rs := [.cell 2 197]) Tryz.results148 (le_b rfl) (le_b rfl) d ?_
  refine sq9 (zzk 1 ⟨32, r.cs⟩ (zzk 2 ⟨197, [.bool false, qyn, qyn, .bool false]⟩ (zzb (zzd (sq9 (zza 3 (.adr 1 2) (zzi 4 (.v (r.d.v)) ty28 zzl (zza 5 (zI r.d.n) (zyq 6 (x := zB ((r.d.n : Int) == 1)) (zB true) (by rw [show ((r.d.n : Int) == 1) = true from (by simp [hn])]) (zza 7 (zB true) (zza 8 (.adr 1 2) ?_ (hw := w1 4 true 7))))))))))))
  refine zzi 9 (.v (r.d.v)) ty28 zzl ?_ (hw := w1 4 true 7)
  refine zya 10 o (i := 0) (n := r.d.n) zv ha xq (by rw [hn]; decide) sl28 ?_ (hw := w1 4 true 7)
  refine zyl 11 (.int .u32 D) ((Ext.refl _).cell hc) ty133 ?_ (hw := w1 4 true 7)
  refine zyq 12 (x := zB ((D : Int) == 1)) (zB false) (by rw [show ((D : Int) == 1) = false from yw]) ?_ (hw := w1 4 true 7)
  refine zza 13 (zB false) (zzb (zys xj (zzs (zzp ?_))))
  refine zzd (sq9 (zza 20 (.adr 1 2) (zzi 21 (.v (r.d.v)) ty28 zzl (zzg 22 166 [r.d.v, qyn] ?_))))
  intro w11 am ae aj
  have k14 := k_natCompare aj (hd.ext ae) (nat_nil _ 1)
  with_reducible refine zPm k14 ?_
  rintro _ ap ag rfl
  refine zza 23 (zB ((Nt.cmpS D 0) == 0)) (zzb (zzu (b := (Nt.cmpS D 0) == 0) xj (fun aa => ?_) (fun aa => ?_)))
  ·refine sq9 (zza 24 (.v (.agg #[.bool false, qyn])) (zxx 25 ⟨133, [.int .u32 1]⟩ 1 (fun ac aq an ai => ?_)))
   refine zza 26 (.v (.agg #[.bool false, qyn, .slice (some ⟨ac, 0, none⟩) 1 1])) (zza 27 (.v (.agg #[.bool false, qyn, .slice (some ⟨ac, 0, none⟩) 1 1, .bool true])) (zzj ⟨197, [.bool false, qyn, .slice (some ⟨ac, 0, none⟩) 1 1, .bool true]⟩ ty197 ?_))
   refine zzb (zzo (zzw (ret0 [.agg #[.bool false, qyn, .slice (some ⟨ac, 0, none⟩) 1 1, .bool true]] ⟨zzr ty197 zze, trivial⟩ fun al ah => ?_)))
   have ad : D = 0 := (Nt.cmp_nat0 aa).1 rfl
   refine ⟨⟨false, ⟨none, 0, 0⟩, (⟨some ⟨ac, 0, none⟩, 1, 1⟩ : Sl)⟩, true, rfl, 0, 1, (⟨0, nat_nil _ K, rfl⟩ : IntV _ ⟨false, ⟨none, 0, 0⟩⟩ 0 K), ((one_data ai).ext ah).raw.more hK, by omega, ?_, fun _ => rfl, hK⟩
   rw [hq, ad]; simp
  refine zzs (zzp ?_)
  refine sq9 (zza 28 (.adr 1 0) (zzi 29 (.v (.agg #[.bool r.s, r.m.v])) ty30 zze (zza 30 (.adr 1 2) (zzi 31 (.v (r.d.v)) ty28 zzl (zza 32 (.v (r.v)) (zza 33 (.v (.agg #[.bool r.s, r.m.v, r.d.v, .bool false])) (zzj ⟨197, r.cs ++ [.bool false]⟩ ty197 ?_)))))))
  refine zzb (zzo (ret0 [.agg #[.bool r.s, r.m.v, r.d.v, .bool false]] ⟨zzr ty197 zze, trivial⟩ fun ao af => ?_))
  have ad : 0 < D := (Nt.cmp_nat0 aa).2 rfl
  exact ⟨r, false, rfl, z, D, hi.ext (ae.t (ag.t af)), hd.ext (ae.t (ag.t af)), ad, hq, (fun k => by cases k), hK⟩
 refine zzm (args := [r.v]) Tryz.func148 rfl Tryz.ntmps148 (rs := [.cell 2 197]) Tryz.results148 (le_b rfl) (le_b rfl) d ?_
 refine sq9 (zzk 1 ⟨32, r.cs⟩ (zzk 2 ⟨197, [.bool false, qyn, qyn, .bool false]⟩ (zzb (zzd (sq9 (zza 3 (.adr 1 2) (zzi 4 (.v (r.d.v)) ty28 zzl (zza 5 (zI r.d.n) (zyq 6 (x := zB ((r.d.n : Int) == 1)) (zB false) (by rw [show ((r.d.n : Int) == 1) = false from yw]) (zza 7 (zB false) (zzn 8 (uw 4 true false 7) ?_)))))))))))
 refine zzn 9 (uw 4 true false 7) (zzn 10 (uw 4 true false 7) (zzn 11 (uw 4 true false 7) (zzn 12 (uw 4 true false 7) (zza 13 (zB false) (zzb (zys xj (zzs (zzp ?_))))))))
 refine zzd (sq9 (zza 20 (.adr 1 2) (zzi 21 (.v (r.d.v)) ty28 zzl (zzg 22 166 _ fun _ _ ae aj => qym (k_natCompare aj (hd.ext ae) (nat_nil _ 1)) ?_))))
 rintro _ ap ag rfl
 refine zza 23 (zB ((Nt.cmpS D 0) == 0)) (zzb (zzu (b := (Nt.cmpS D 0) == 0) xj (fun aa => ?_) (fun aa => ?_)))
 ·refine sq9 (zza 24 (.v (.agg #[.bool false, qyn])) (zxx 25 ⟨133, [.int .u32 1]⟩ 1 (fun ac aq an ai => ?_)))
  refine zza 26 (.v (.agg #[.bool false, qyn, .slice (some ⟨ac, 0, none⟩) 1 1])) (zza 27 (.v (.agg #[.bool false, qyn, .slice (some ⟨ac, 0, none⟩) 1 1, .bool true])) (zzj ⟨197, [.bool false, qyn, .slice (some ⟨ac, 0, none⟩) 1 1, .bool true]⟩ ty197 ?_))
  refine zzb (zzo (zzw (ret0 [.agg #[.bool false, qyn, .slice (some ⟨ac, 0, none⟩) 1 1, .bool true]] ⟨zzr ty197 zze, trivial⟩ fun al ah => ?_)))
  have ad : D = 0 := (Nt.cmp_nat0 aa).1 rfl
  refine ⟨⟨false, ⟨none, 0, 0⟩, (⟨some ⟨ac, 0, none⟩, 1, 1⟩ : Sl)⟩, true, rfl, 0, 1, (⟨0, nat_nil _ K, rfl⟩ : IntV _ ⟨false, ⟨none, 0, 0⟩⟩ 0 K), ((one_data ai).ext ah).raw.more hK, by omega, ?_, fun _ => rfl, hK⟩
  rw [hq, ad]; simp
 refine zzs (zzp ?_)
 refine sq9 (zza 28 (.adr 1 0) (zzi 29 (.v (.agg #[.bool r.s, r.m.v])) ty30 zze (zza 30 (.adr 1 2) (zzi 31 (.v (r.d.v)) ty28 zzl (zza 32 (.v (r.v)) (zza 33 (.v (.agg #[.bool r.s, r.m.v, r.d.v, .bool false])) (zzj ⟨197, r.cs ++ [.bool false]⟩ ty197 ?_)))))))
 refine zzb (zzo (ret0 [.agg #[.bool r.s, r.m.v, r.d.v, .bool false]] ⟨zzr ty197 zze, trivial⟩ fun ao af => ?_))
 have ad : 0 < D := (Nt.cmp_nat0 aa).2 rfl
 exact ⟨r, false, rfl, z, D, hi.ext (ae.t (ag.t af)), hd.ext (ae.t (ag.t af)), ad, hq, (fun k => by cases k), hK⟩
theorem k_isOne {u w : World} {x : Sl} {N K : Nat} (d : Dat u w) (h : NatN u x N K) : qyc 201 #[x.v] w (Post u w fun v _ => v = .bool (decide (N = 1))) := by
 by_cases hn : x.n = 1
 ·obtain ⟨b, o, ha, hc⟩ := nat_digit h.raw hn
  refine zzm (args := [x.v]) Tryz.func201 rfl Tryz.ntmps201 (rs := [.tmp 2]) Tryz.results201 (le_b rfl) (le_b rfl) d ?_
  refine sq9 (zza 2 (zB false) (zzb (sq9 (zza 3 (.v (x.v)) (zza 4 (zI x.n) (zyq 5 (x := zB ((x.n : Int) == 1)) (zB true) (by rw [show ((x.n : Int) == 1) = true from (by simp [hn])]) (zza 6 (zB true) (zza 7 (.v (x.v)) ?_ (hw := w1 3 true 6)))))))))
  refine zya 8 o (i := 0) (n := x.n) zv ha xq (by rw [hn]; decide) sl28 ?_ (hw := w1 3 true 6)
  refine zyl 9 (.int .u32 N) ((Ext.refl _).cell hc) ty133 ?_ (hw := w1 3 true 6)
  refine zza 10 (zB ((N : Int) == 1)) ?_ (hw := w1 3 true 6)
  refine zza 11 (zB ((N : Int) == 1)) (zza 2 (zB ((N : Int) == 1)) (zzb (zzo (ret0 [.bool ((N : Int) == 1)] ⟨zzq, trivial⟩ fun aa ac => ?_))))
  show Value.bool _ = Value.bool _
  congr 1
  rw [Bool.eq_iff_iff]
  simp <;> omega
 have hN : N ≠ 1 := fun e => hn (by rw [h.1, e, Nt.dl_one])
 refine zzm (args := [x.v]) Tryz.func201 rfl Tryz.ntmps201 (rs := [.tmp 2]) Tryz.results201 (le_b rfl) (le_b rfl) d ?_
 refine sq9 (zza 2 (zB false) (zzb (sq9 (zza 3 (.v (x.v)) (zza 4 (zI x.n) (zyq 5 (x := zB ((x.n : Int) == 1)) (zB false) (by rw [show ((x.n : Int) == 1) = false from yw]) (zza 6 (zB false) (zzn 7 (uw 3 true false 6) (zzn 8 (uw 3 true false 6) (zzn 9 (uw 3 true false 6) (zzn 10 (uw 3 true false 6) ?_)))))))))))
 refine zza 11 (zB false) (zza 2 (zB false) (zzb (zzo (ret0 [.bool false] ⟨zzq, trivial⟩ fun aa ac => ?_))))
 show _ = _
 simp [tupV]
 exact hN
theorem k_lowest {u w : World} {i : IL} {z : Int} {y : Sl} {D K L : Nat} (d : Dat u w) (h1 : IntV u i z K) (hD : NatV u y D L) (hp : 0 < D) (hK : K ≤ 500000000) (hL : L ≤ 500000000) : qyc 149 #[.agg #[.bool i.s, i.m.v, y.v]] w (Post u w fun v u' => ∃ r : RL, v = r.v ∧ RatN u' r (mkRat z D) (max K L)) := by
 obtain ⟨N, hN, hz⟩ := h1
 have hL1 : 1 ≤ L := by have h2 := hD.size; have h3 := Nt.dl_mono (x := D) (y := 1) xq; rw [Nt.dl_one] at h3; omega
 refine zzm (args := [.agg #[.bool i.s, i.m.v, y.v]]) Tryz.func149 rfl Tryz.ntmps149 (rs := [.cell 2 32]) Tryz.results149 (le_b rfl) (le_b rfl) d ?_
 refine sq9 (zzk 1 ⟨195, i.cs ++ [y.v]⟩ (zzk 2 ⟨32, zw3⟩ (zzb (sq9 (zza 14 (.adr 1 0) (zza 15 (.adr 1 1) (zzi 16 (.v (i.m.v)) ty28 zzl (zza 17 (.adr 1 2) (zzi 18 (.v (y.v)) ty28 zzl (zzg 19 195 _ fun _ _ ah aQ => qym (k_natDivMod aQ (hN.ext ah) (hD.ext ah) hp xq xq) ?_))))))))))
 rintro _ u16 an ⟨aq, ae, rfl, aW, az⟩
 refine zza 13 (.v (.tuple #[aq.v, ae.v, .int .i64 0])) (zza 20 (.v (aq.v)) (zza 21 (.v (ae.v)) (zza 22 (zI 0) (zza 3 (.v (aq.v)) (zza 4 (.v (ae.v)) (zza 5 (zI 0) (zzb (zzd (sq9 (zza 23 (.v (ae.v)) (zza 24 (zI ae.n) ?_)))))))))))
 refine zza 25 (zB ((ae.n : Int) == 0)) (zzb (zzu (b := (ae.n : Int) == 0) xj (fun ac => ?_) (fun ac => ?_)))
 ·have ap : (ae.n : Int) = 0 := by simpa using ac
  have hr : N % D = 0 := by have h7 := (az).pos; simp at ac; omega
  refine sq9 (zza 26 (.adr 1 0) (zza 27 (.adr 1 0) (zzi 28 (zB i.s) ty4 zzl (zza 29 (.v (aq.v)) (zza 30 (.v (.agg #[.bool i.s, aq.v])) (zzg 31 200 _ fun _ _ a0 aX => qym (k_intTrim aX (IntV.same (s := i.s) (aW.ext a0).raw) xq) ?_))))))
  rintro _ u23 g24 ⟨al, rfl, aR⟩
  refine zzg 32 164 _ fun _ _ a2 aI => qym (k_whole (i := al) aI) ?_
  rintro _ u29 aU ⟨ay, rfl, aV⟩
  refine zzj ⟨32, al.cs ++ [ay.v]⟩ ty32 ?_
  refine zzb (zzo (zzw (ret0 [.agg #[.bool al.s, al.m.v, ay.v]] ⟨zzr ty32 zze, trivial⟩ fun u32 aK => ?_)))
  refine ⟨(⟨al.s, al.m, ay⟩ : RL), rfl, RatN.more (K := (max K 1)) ?_ xq⟩
  rw [hz, ← low1 hp hr]
  exact ((whole_rat (aR.ext (a2.t aU.ext)) aV).ext aK)
 have ap : ¬ ((ae.n : Int) = 0) := by simpa using ac
 have hr : N % D ≠ 0 := by have h7 := (az).pos; simp at ac; omega
 refine zzs (zzp ?_)
 refine sq9 (zza 33 (.adr 1 2) (zzi 34 (.v (y.v)) ty28 zzl (zza 35 (.v (ae.v)) (zzg 36 198 _ fun _ _ ak aN => qym (k_natGcd aN (hD.ext (ah.t (an.t ak))) (az.ext ak).raw xq xq) ?_))))
 rintro _ u37 au ⟨ao, rfl, aA⟩
 refine zza 6 (.v (ao.v)) (zzb (zzd (sq9 (zza 37 (.v (ao.v)) (zzg 38 201 _ fun _ _ aj aT => qym (k_isOne aT (aA.ext aj)) ?_)))))
 rintro _ u41 am rfl
 refine zzb (zzu (b := decide ((Nat.gcd D (N % D)) = 1)) xj (fun ad => ?_) (fun ad => ?_))
 ·have qhb44 := qyt ad
  have hg : Nat.gcd D (N % D) = 1 := by simpa using ad
  have hgp : 0 < Nat.gcd D (N % D) := Nat.gcd_pos_of_pos_left _ hp
  refine zzd (zzz [0, 1, 3, 0, 8, 31, 63, 127] [(0, []), (1, []), (3, []), (4, []), (2, []), (5, []), (6, []), (7, [])] xj xj (zza 39 (.adr 1 0) (zzi 40 (.v (i.v)) ty30 zze (zza 42 (.adr 1 2) (zzi 43 (.v (y.v)) ty28 zzl (zzg 41 200 _ fun _ _ aE aZ => qym (k_intTrim aZ (IntV.same (s := i.s) (hN.ext (ah.t (an.t (ak.t (au.t (aj.t (am.t aE)))))))) xq) ?_))))))
  rintro _ u48 aP ⟨af, rfl, aS⟩
  refine zzg 44 194 _ fun _ _ aB aO => qym (k_natTrim aO (hD.ext (ah.t (an.t (ak.t (au.t (aj.t (am.t (aE.t (aP.t aB))))))))) xq) ?_
  rintro _ u54 aL ⟨ai, rfl, aH⟩
  refine zza 45 (.v (.agg #[.bool af.s, af.m.v, ai.v])) (zzj ⟨32, af.cs ++ [ai.v]⟩ ty32 ?_)
  refine zzc 70 [(2, .adr 2 0)] [(2, ⟨32, af.cs ++ [ai.v]⟩)] (zzo (zzw (ret0 [.agg #[.bool af.s, .slice af.m.a af.m.n af.m.c, .slice ai.a ai.n ai.c]] ⟨zzr ty32 zze, trivial⟩ fun u57 aC => ?_)))
  refine ⟨(⟨af.s, af.m, ai⟩ : RL), rfl, ?_⟩
  rw [hz]
  exact low2 hp hg (aS.ext (aB.t (aL.t aC))) (aH.ext aC)
 have qhb44 := qyf ad
 have hg : ¬ Nat.gcd D (N % D) = 1 := by simpa using ad
 have hgp : 0 < Nat.gcd D (N % D) := Nat.gcd_pos_of_pos_left _ hp
 refine zzs (zzp ?_)
 refine sq9 (zza 47 (.adr 1 0) (zza 48 (.adr 1 1) (zzi 49 (.v (i.m.v)) ty28 zzl (zza 50 (.v (ao.v)) (zzg 51 195 _ fun _ _ ar a1 => qym (k_natDivMod a1 (hN.ext (ah.t (an.t (ak.t (au.t (aj.t (am.t ar))))))) (aA.ext (aj.t (am.t ar))).raw hgp xq xq) ?_)))))
 rintro _ u64 aF ⟨aa, aw, rfl, aG, h63⟩
 refine zza 46 (.v (.tuple #[aa.v, aw.v, .int .i64 0])) (zza 52 (.v (aa.v)) (zza 53 (.v (aw.v)) (zza 54 (zI 0) (zza 7 (.v (aa.v)) (zza 8 (.v (aw.v)) (zza 9 (zI 0) (zzc 70 [(1, .adr 1 0), (2, .adr 2 0), (6, .v (ao.v)), (7, .v (aa.v))] [(1, ⟨195, i.cs ++ [y.v]⟩), (2, ⟨32, zw3⟩)] (sq9 (zza 56 (.adr 1 2) (zzi 57 (.v (y.v)) ty28 zzl (zza 58 (.v (ao.v)) ?_)))))))))))
 refine zzg 59 195 _ fun _ _ ax aJ => qym (k_natDivMod aJ (hD.ext (ah.t (an.t (ak.t (au.t (aj.t (am.t (ar.t (aF.t ax))))))))) (aA.ext (aj.t (am.t (ar.t (aF.t ax))))).raw hgp xq xq) ?_
 rintro _ u72 aM ⟨ag, av, rfl, aY, h71⟩
 refine zza 55 (.v (.tuple #[ag.v, av.v, .int .i64 0])) (zza 60 (.v (ag.v)) (zza 61 (.v (av.v)) (zza 62 (zI 0) (zza 10 (.v (ag.v)) (zza 11 (.v (av.v)) (zza 12 (zI 0) (zzb (sq9 (zza 63 (.adr 1 0) (zza 64 (.adr 1 0) (zzi 65 (zB i.s) ty4 zzl ?_)))))))))))
 refine zza 66 (.v (aa.v)) (zza 67 (.v (.agg #[.bool i.s, aa.v])) (zza 68 (.v (ag.v)) (zza 69 (.v (.agg #[.bool i.s, aa.v, ag.v])) (zzj ⟨32, [.bool i.s, aa.v, ag.v]⟩ ty32 ?_))))
 refine zzb (zzo (ret0 [.agg #[.bool i.s, .slice aa.a aa.n aa.c, .slice ag.a ag.n ag.c]] ⟨zzr ty32 zze, trivial⟩ fun u75 aD => ?_))
 refine ⟨(⟨i.s, aa, ag⟩ : RL), rfl, RatN.more (K := max K L) ?_ xq⟩
 rw [hz]
 exact low3 hp hr (aG.ext (ax.t (aM.t aD))) (aY.ext aD)
theorem k_ratTrim {u w : World} {r1 : RL} {x : Rat} {K : Nat} (d : Dat u w) (hr1 : RatV u r1 x K) (hK : K ≤ 200000000) : qyc 68 #[r1.v] w (Post u w fun v u' => ∃ r : RL, v = r.v ∧ RatN u' r x K) := by
 refine zzm (args := [r1.v]) Tryz.func68 rfl Tryz.ntmps68 (rs := [.cell 2 32]) Tryz.results68 (le_b rfl) (le_b rfl) d ?_
 refine sq9 (zzk 1 ⟨32, r1.cs⟩ (zzk 2 ⟨32, zw3⟩ (zzb (sq9 (zzi 3 (.v (r1.v)) ty32 zze (zzg 4 148 _ fun _ _ ak al => qym (k_read al (hr1.ext ak)) ?_))))))
 rintro _ u13 g14 ⟨ai, ap, rfl, z12, D12, ae, af, ac, aa, an, ah⟩
 refine zza 5 (.v (ai.v)) (zzg 6 149 _ fun _ _ ag am => qym (k_lowest am (ae.ext ag) (af.ext ag) ac xq xq) ?_)
 rintro _ u19 g20 ⟨ad, rfl, ao⟩
 refine zzj ⟨32, ad.cs⟩ ty32 ?_
 refine zzb (zzo (ret0 [ad.v] ⟨zzr ty32 zze, trivial⟩ fun u22 aj => ?_))
 refine ⟨ad, rfl, RatN.more (K := (max K K)) ?_ xq⟩
 rw [aa]; exact (ao.ext aj)
theorem k_ratOf {u w : World} {z : Int} (d : Dat u w) (h0 : -9223372036854775808 ≤ z) (h1 : z ≤ 9223372036854775807) : qyc 109 #[.int .i64 z] w (Post u w fun v u' => ∃ r : RL, v = r.v ∧ RatN u' r (z : Rat) 2) := by
 refine zzm (args := [.int .i64 z]) Tryz.func109 rfl Tryz.ntmps109 (rs := [.cell 2 32]) Tryz.results109 (le_b rfl) (le_b rfl) d ?_
 refine sq9 (zzk 2 ⟨32, zw3⟩ (zzb (sq9 (zza 3 (zI z) (zzg 4 140 _ fun _ _ _ ah => qym (k_intOf ah (z := z) xq xq) ?_)))))
 rintro _ u14 g15 ⟨aa, rfl, ag⟩
 refine zzg 5 164 _ fun _ _ af ai => qym (k_whole (i := aa) ai) ?_
 rintro _ u20 aj ⟨ac, rfl, ad⟩
 refine zzj ⟨32, aa.cs ++ [ac.v]⟩ ty32 ?_
 refine zzb (zzo (ret0 [.agg #[.bool aa.s, aa.m.v, ac.v]] ⟨zzr ty32 zze, trivial⟩ fun u23 ae => ?_))
 refine ⟨(⟨aa.s, aa.m, ac⟩ : RL), rfl, RatN.more (K := (max 2 1)) ?_ xq⟩
 exact ((whole_rat (ag.ext (af.t aj.ext)) ad).ext ae)
theorem k_ratSign {u w : World} {r1 : RL} {x : Rat} {K : Nat} (d : Dat u w) (hr1 : RatV u r1 x K)  : qyc 66 #[r1.v] w (Post u w fun v u' => v = .int .i64 (Nt.sgQ x)) := by
 refine zzm (args := [r1.v]) Tryz.func66 rfl Tryz.ntmps66 (rs := [.tmp 2]) Tryz.results66 (le_b rfl) (le_b rfl) d ?_
 refine sq9 (zzk 1 ⟨32, r1.cs⟩ (zza 2 (zI 0) (zzb (sq9 (zzi 3 (.v (r1.v)) ty32 zze (zzg 4 148 _ fun _ _ ah ai => qym (k_read ai (hr1.ext ah)) ?_))))))
 rintro _ u13 g14 ⟨ac, an, rfl, af, D12, ae, al, ad, aa, ak, ag⟩
 refine zza 5 (.v (ac.v)) (zza 6 (.v (.agg #[.bool ac.s, ac.m.v])) (zzg 7 147 _ fun _ _ am aj => qym (k_intSign aj (ae.ext am)) ?_))
 rintro _ u17 g18 rfl
 refine zza 2 (zI (Nt.cmpS af 0)) (zzb (zzo (ret0 [.int .i64 (Nt.cmpS af 0)] ⟨zzq, trivial⟩ fun u20 e21 => ?_)))
 show _ = _
 rw [aa, ← Nt.sg_mk ad]
 rfl
theorem k_ratCompare {u w : World} {r1 : RL} {x : Rat} {K : Nat} {r2 : RL} {y : Rat} {L : Nat} (d : Dat u w) (hr1 : RatV u r1 x K) (hr2 : RatV u r2 y L) (hK : K ≤ 200000000) (hL : L ≤ 200000000) : qyc 78 #[r1.v, r2.v] w (Post u w fun v u' => v = .int .i64 (Nt.cmpQ x y)) := by
 refine zzm (args := [r1.v, r2.v]) Tryz.func78 rfl Tryz.ntmps78 (rs := [.tmp 4]) Tryz.results78 (le_b rfl) (le_b rfl) d ?_
 refine sq9 (zzk 2 ⟨32, r1.cs⟩ (zzk 3 ⟨32, r2.cs⟩ (zza 4 (zI 0) (zzb (zzd (zzz [0, 1, 0, 7, 0, 0, 63, 127] [(0, []), (2, []), (4, []), (5, []), (1, []), (3, []), (6, []), (7, [])] xj xj (zzi 7 (.v (r1.v)) ty32 zze (zzi 9 (.v (r2.v)) ty32 zze (zzk 5 ⟨197, [.bool false, qyn, qyn, .bool false]⟩ (zzk 6 ⟨197, [.bool false, qyn, qyn, .bool false]⟩ (zzg 8 148 _ fun _ _ aK a3 => qym (k_read a3 (hr1.ext aK)) ?_)))))))))))
 rintro _ u13 aS ⟨af, ac, rfl, ah, ao, ak, av, am, aj, aI, a1⟩
 refine zzg 10 148 _ fun _ _ aq a5 => qym (k_read a5 (hr2.ext (aK.t (aS.t aq)))) ?_
 rintro _ u18 au ⟨ad, aa, rfl, ag, ap, an, ar, al, ai, aE, bb⟩
 refine zzj ⟨197, af.cs ++ [.bool ac]⟩ ty197 ?_
 refine zzj ⟨197, ad.cs ++ [.bool aa]⟩ ty197 ?_
 refine zzb (zzd (sq9 (zza 11 (.adr 5 3) (zzi 12 (zB ac) ty4 zzl ?_))))
 rcases Bool.eq_false_or_eq_true ac with hs21 | hs21
 ·refine zyq 13 (x := zB ac) (zB true) (by rw [hs21]) (zza 14 (.adr 6 3) ?_ (hw := w1 2 true 13))
  refine zzi 15 (zB aa) ty4 zzl ?_ (hw := w1 2 true 13)
  refine zza 16 (zB aa) (zzb (zzu (b := aa) xj (fun ae => ?_) (fun ae => ?_)))
  ·replace ae : aa = true := ae
   refine sq9 (zza 17 (.adr 5 0) (zza 18 (.adr 5 0) (zzi 19 (.v (.agg #[.bool af.s, af.m.v])) ty30 zze (zza 20 (.adr 6 0) (zza 21 (.adr 6 0) (zzi 22 (.v (.agg #[.bool ad.s, ad.m.v])) ty30 zze (zzg 23 146 _ fun _ _ aN a2 => qym (k_intCompare a2 (ak.ext (aq.t (au.t aN))) (an.ext aN)) ?_)))))))
   rintro _ u24 g25 rfl
   refine zza 4 (zI (Nt.cmpS ah ag)) (zzb (zzo (zzw (ret0 [.int .i64 (Nt.cmpS ah ag)] ⟨zzq, trivial⟩ fun u27 e28 => ?_))))
   show _ = _
   rw [aj, ai, ← Nt.cmp_mk am al]
   rw [aI (by assumption), aE (by assumption)]
   simp [tupV]
  replace ae : aa = false := ae
  refine zzs (zzp ?_)
  refine zzd (zzz [0, 1, 3, 0, 8, 24, 56, 127, 0, 256, 768, 0, 2048, 6144, 14591, 32767, 65535, 131071] [(0, []), (1, []), (2, []), (3, []), (4, []), (5, []), (8, []), (9, []), (10, []), (11, []), (12, []), (13, []), (6, []), (7, []), (14, []), (15, []), (16, []), (17, [])] xj xj (zza 24 (.adr 5 0) (zza 25 (.adr 5 0) (zzi 26 (.v (.agg #[.bool af.s, af.m.v])) ty30 zze (zza 27 (.adr 6 0) (zza 28 (.adr 6 2) (zzi 29 (.v (ad.d.v)) ty28 zzl (zza 32 (.adr 6 0) (zza 33 (.adr 6 0) (zzi 34 (.v (.agg #[.bool ad.s, ad.m.v])) ty30 zze (zza 35 (.adr 5 0) ?_)))))))))))
  refine zza 36 (.adr 5 2) (zzi 37 (.v (af.d.v)) ty28 zzl (zzg 30 152 _ fun _ _ az a7 => qym (k_natural (x := ad.d) a7) ?_))
  rintro _ u30 aB rfl
  refine zzg 31 143 _ fun _ _ ay a8 => qym (k_intMul a8 (ak.ext (aq.t (au.t (az.t (aB.t ay))))) (nat_int (ar.ext (az.t (aB.t ay)))) xq xq) ?_
  rintro _ u36 aO ⟨i34, rfl, aT⟩
  refine zzg 38 152 _ fun _ _ aG aY => qym (k_natural (x := af.d) aY) ?_
  rintro _ u40 aJ rfl
  refine zzg 39 143 _ fun _ _ aF a6 => qym (k_intMul a6 (an.ext (az.t (aB.t (ay.t (aO.t (aG.t (aJ.t aF))))))) (nat_int (av.ext (aq.t (au.t (az.t (aB.t (ay.t (aO.t (aG.t (aJ.t aF)))))))))) xq xq) ?_
  rintro _ u46 aZ ⟨i44, rfl, a4⟩
  refine zzg 40 146 _ fun _ _ aM aQ => qym (k_intCompare aQ (aT.ext (aG.t (aJ.t (aF.t (aZ.t aM))))).raw (a4.ext aM).raw) ?_
  rintro _ u50 g51 rfl
  refine zza 4 (zI (Nt.cmpS (ah * (ap : Int)) (ag * (ao : Int)))) (zzc 41 [(4, zI (Nt.cmpS (ah * (ap : Int)) (ag * (ao : Int))))] [] (zzo (ret0 [.int .i64 (Nt.cmpS (ah * (ap : Int)) (ag * (ao : Int)))] ⟨zzq, trivial⟩ fun u53 e54 => ?_)))
  show _ = _
  rw [aj, ai, ← Nt.cmp_mk am al]
  rfl
 refine zyq 13 (x := zB ac) (zB false) (by rw [hs21]) (zzn 14 (uw 2 true false 13) (zzn 15 (uw 2 true false 13) (zza 16 (zB false) (zzb (zys xj (zzs (zzp ?_)))))))
 refine zzd (zzz [0, 1, 3, 0, 8, 24, 56, 127, 0, 256, 768, 0, 2048, 6144, 14591, 32767, 65535, 131071] [(0, []), (1, []), (2, []), (3, []), (4, []), (5, []), (8, []), (9, []), (10, []), (11, []), (12, []), (13, []), (6, []), (7, []), (14, []), (15, []), (16, []), (17, [])] xj xj (zza 24 (.adr 5 0) (zza 25 (.adr 5 0) (zzi 26 (.v (.agg #[.bool af.s, af.m.v])) ty30 zze (zza 27 (.adr 6 0) (zza 28 (.adr 6 2) (zzi 29 (.v (ad.d.v)) ty28 zzl (zza 32 (.adr 6 0) (zza 33 (.adr 6 0) (zzi 34 (.v (.agg #[.bool ad.s, ad.m.v])) ty30 zze (zza 35 (.adr 5 0) ?_)))))))))))
 refine zza 36 (.adr 5 2) (zzi 37 (.v (af.d.v)) ty28 zzl (zzg 30 152 _ fun _ _ aw a9 => qym (k_natural (x := ad.d) a9) ?_))
 rintro _ u56 aA rfl
 refine zzg 31 143 _ fun _ _ ax aX => qym (k_intMul aX (ak.ext (aq.t (au.t (aw.t (aA.t ax))))) (nat_int (ar.ext (aw.t (aA.t ax)))) xq xq) ?_
 rintro _ u62 aP ⟨i60, rfl, aU⟩
 refine zzg 38 152 _ fun _ _ aC a0 => qym (k_natural (x := af.d) a0) ?_
 rintro _ u66 aH rfl
 refine zzg 39 143 _ fun _ _ aD aV => qym (k_intMul aV (an.ext (aw.t (aA.t (ax.t (aP.t (aC.t (aH.t aD))))))) (nat_int (av.ext (aq.t (au.t (aw.t (aA.t (ax.t (aP.t (aC.t (aH.t aD)))))))))) xq xq) ?_
 rintro _ u72 aR ⟨i70, rfl, ba⟩
 refine zzg 40 146 _ fun _ _ aL aW => qym (k_intCompare aW (aU.ext (aC.t (aH.t (aD.t (aR.t aL))))).raw (ba.ext aL).raw) ?_
 rintro _ u76 g77 rfl
 refine zza 4 (zI (Nt.cmpS (ah * (ap : Int)) (ag * (ao : Int)))) (zzc 41 [(4, zI (Nt.cmpS (ah * (ap : Int)) (ag * (ao : Int))))] [] (zzo (ret0 [.int .i64 (Nt.cmpS (ah * (ap : Int)) (ag * (ao : Int)))] ⟨zzq, trivial⟩ fun u79 e80 => ?_)))
 show _ = _
 rw [aj, ai, ← Nt.cmp_mk am al]
 rfl
theorem k_ratNeg {u w : World} {r1 : RL} {x : Rat} {K : Nat} (d : Dat u w) (hr1 : RatV u r1 x K) (hK : K ≤ 200000000) : qyc 79 #[r1.v] w (Post u w fun v u' => ∃ r : RL, v = r.v ∧ RatN u' r (-x) K) := by
 refine zzm (args := [r1.v]) Tryz.func79 rfl Tryz.ntmps79 (rs := [.cell 2 32]) Tryz.results79 (le_b rfl) (le_b rfl) d ?_
 refine sq9 (zzk 1 ⟨32, r1.cs⟩ (zzk 2 ⟨32, zw3⟩ (zzb (sq9 (zzi 3 (.v (r1.v)) ty32 zze (zzg 4 153 _ fun _ _ ac ag => qym (k_flip (r := r1) ag) ?_))))))
 rintro _ u12 ai rfl
 refine zzg 5 68 _ fun _ _ ah ad => qym (k_ratTrim ad ((flip_rat (hr1.ext (ac.t ai.ext))).ext ah) xq) ?_
 rintro _ u18 g19 ⟨aa, rfl, af⟩
 refine zzj ⟨32, aa.cs⟩ ty32 ?_
 refine zzb (zzo (ret0 [aa.v] ⟨zzr ty32 zze, trivial⟩ fun u21 ae => ?_))
 refine ⟨aa, rfl, RatN.more (K := K) ?_ xq⟩
 exact (af.ext ae)
theorem k_ratAbs {u w : World} {r1 : RL} {x : Rat} {K : Nat} (d : Dat u w) (hr1 : RatV u r1 x K) (hK : K ≤ 200000000) : qyc 65 #[r1.v] w (Post u w fun v u' => ∃ r : RL, v = r.v ∧ RatN u' r (Nt.absQ x) K) := by
 refine zzm (args := [r1.v]) Tryz.func65 rfl Tryz.ntmps65 (rs := [.cell 2 32]) Tryz.results65 (le_b rfl) (le_b rfl) d ?_
 refine sq9 (zzk 1 ⟨32, r1.cs⟩ (zzk 2 ⟨32, zw3⟩ (zzb (sq9 (zza 3 (.adr 1 0) (zza 4 (.adr 1 1) (zzi 5 (.v (r1.m.v)) ty28 zzl (zza 6 (.v (.agg #[.bool false, r1.m.v])) (zza 7 (.adr 1 2) (zzi 8 (.v (r1.d.v)) ty28 zzl (zza 9 (.v (.agg #[.bool false, r1.m.v, r1.d.v])) ?_)))))))))))
 refine zzg 10 68 _ fun _ _ ac af => qym (k_ratTrim af ((abs_rat hr1).ext ac) xq) ?_
 rintro _ u14 g15 ⟨aa, rfl, ad⟩
 refine zzj ⟨32, aa.cs⟩ ty32 ?_
 refine zzb (zzo (ret0 [aa.v] ⟨zzr ty32 zze, trivial⟩ fun u17 ae => ?_))
 refine ⟨aa, rfl, RatN.more (K := K) ?_ xq⟩
 exact (ad.ext ae)
theorem k_ratAdd {u w : World} {r1 : RL} {x : Rat} {K : Nat} {r2 : RL} {y : Rat} {L : Nat} (d : Dat u w) (hr1 : RatV u r1 x K) (hr2 : RatV u r2 y L) (hK : K ≤ 200000000) (hL : L ≤ 200000000) : qyc 112 #[r1.v, r2.v] w (Post u w fun v u' => ∃ r : RL, v = r.v ∧ RatN u' r (x + y) (K + L + 1)) := by
 refine zzm (args := [r1.v, r2.v]) Tryz.func112 rfl Tryz.ntmps112 (rs := [.cell 4 32]) Tryz.results112 (le_b rfl) (le_b rfl) d ?_
 refine sq9 (zzk 2 ⟨32, r1.cs⟩ (zzk 3 ⟨32, r2.cs⟩ (zzk 4 ⟨32, zw3⟩ (zzb (zzd (zzz [0, 1, 0, 7, 0, 0, 63, 127] [(0, []), (2, []), (4, []), (5, []), (1, []), (3, []), (6, []), (7, [])] xj xj (zzi 8 (.v (r1.v)) ty32 zze (zzi 10 (.v (r2.v)) ty32 zze (zzk 5 ⟨197, [.bool false, qyn, qyn, .bool false]⟩ (zzk 6 ⟨197, [.bool false, qyn, qyn, .bool false]⟩ (zzg 9 148 _ fun _ _ bx ca => qym (k_read ca (hr1.ext bx)) ?_)))))))))))
 rintro _ u13 bF ⟨aa, ag, rfl, z12, aL, ar, ae, ad, aq, bp, b5⟩
 refine zzg 11 148 _ fun _ _ ah cb => qym (k_read cb (hr2.ext (bx.t (bF.t ah)))) ?_
 rintro _ u18 al ⟨ac, af, rfl, z17, D17, au, ai, aD, ap, bj, cn⟩
 refine zzj ⟨197, aa.cs ++ [.bool ag]⟩ ty197 ?_
 refine zzj ⟨197, ac.cs ++ [.bool af]⟩ ty197 ?_
 refine zzb (zzd (sq9 (zza 12 (.adr 5 3) (zzi 13 (zB ag) ty4 zzl ?_))))
 rcases Bool.eq_false_or_eq_true ag with hs21 | hs21
 ·refine zyq 14 (x := zB ag) (zB true) (by rw [hs21]) (zza 15 (.adr 6 3) ?_ (hw := w1 2 true 14))
  refine zzi 16 (zB af) ty4 zzl ?_ (hw := w1 2 true 14)
  refine zza 17 (zB af) (zzb (zzu (b := af) xj (fun ax => ?_) (fun ax => ?_)))
  ·replace ax : af = true := ax
   refine sq9 (zza 18 (.adr 5 0) (zza 19 (.adr 5 0) (zzi 20 (.v (.agg #[.bool aa.s, aa.m.v])) ty30 zze (zza 21 (.adr 6 0) (zza 22 (.adr 6 0) (zzi 23 (.v (.agg #[.bool ac.s, ac.m.v])) ty30 zze (zzg 24 165 _ fun _ _ bA b7 => qym (k_intAdd b7 (ar.ext (ah.t (al.t bA))) (au.ext bA) xq xq) ?_)))))))
   rintro _ u26 g27 ⟨aP, rfl, b6⟩
   refine zzg 25 164 _ fun _ _ bS ch => qym (k_whole (i := aP) ch) ?_
   rintro _ u32 bP ⟨bl, rfl, bN⟩
   refine zzj ⟨32, aP.cs ++ [bl.v]⟩ ty32 ?_
   refine zzb (zzo (zzw (ret0 [.agg #[.bool aP.s, aP.m.v, bl.v]] ⟨zzr ty32 zze, trivial⟩ fun u35 b9 => ?_)))
   refine ⟨(⟨aP.s, aP.m, bl⟩ : RL), rfl, RatN.more (K := (max (max K L + 1) 1)) ?_ xq⟩
   rw [aq, ap, bp (by assumption), bj (by assumption), Nt.mk_one, Nt.mk_one, ← Rat.intCast_add]
   exact ((whole_rat (b6.ext (bS.t bP.ext)) bN).ext b9)
  replace ax : af = false := ax
  refine zzs (zzp ?_)
  refine zzd (sq9 (zza 26 (.adr 5 0) (zza 27 (.adr 5 2) (zzi 28 (.v (aa.d.v)) ty28 zzl (zza 29 (.adr 6 0) (zza 30 (.adr 6 2) (zzi 31 (.v (ac.d.v)) ty28 zzl (zzg 32 166 _ fun _ _ aw ck => qym (k_natCompare ck (ae.ext (ah.t (al.t aw))) (ai.ext aw)) ?_))))))))
  rintro _ u38 aC rfl
  refine zza 33 (zB ((Nt.cmpS aL D17) == 0)) (zzb (zzu (b := (Nt.cmpS aL D17) == 0) xj (fun aR => ?_) (fun aR => ?_)))
  ·refine zzd (zzz [0, 1, 3, 0, 8, 24, 63, 0, 128, 384, 1023, 2047, 4095] [(0, []), (1, []), (2, []), (3, []), (4, []), (5, []), (7, []), (8, []), (9, []), (6, []), (10, []), (11, []), (12, [])] xj xj (zza 34 (.adr 5 0) (zza 35 (.adr 5 0) (zzi 36 (.v (.agg #[.bool aa.s, aa.m.v])) ty30 zze (zza 37 (.adr 6 0) (zza 38 (.adr 6 0) (zzi 39 (.v (.agg #[.bool ac.s, ac.m.v])) ty30 zze (zza 41 (.adr 5 0) (zza 42 (.adr 5 2) (zzi 43 (.v (aa.d.v)) ty28 zzl (zzg 40 165 _ fun _ _ bk bY => qym (k_intAdd bY (ar.ext (ah.t (al.t (aw.t (aC.t bk))))) (au.ext (aw.t (aC.t bk))) xq xq) ?_)))))))))))
   rintro _ u45 bH ⟨bw, rfl, bM⟩
   refine zza 44 (.v (.agg #[.bool bw.s, bw.m.v, aa.d.v])) (zzg 45 149 _ fun _ _ bu cm => qym (k_lowest cm (bM.ext bu).raw (ae.ext (ah.t (al.t (aw.t (aC.t (bk.t (bH.t bu))))))) ad xq xq) ?_)
   rintro _ u51 g52 ⟨a0, rfl, b3⟩
   refine zzj ⟨32, a0.cs⟩ ty32 ?_
   refine zzc 73 [(4, .adr 4 0)] [(4, ⟨32, a0.cs⟩)] (zzo (zzw (ret0 [a0.v] ⟨zzr ty32 zze, trivial⟩ fun u54 bC => ?_)))
   refine ⟨a0, rfl, RatN.more (K := (max (max K L + 1) K)) ?_ xq⟩
   have hD : aL = D17 := Nt.cmp_natE aR
   rw [aq, ap, ← hD, ← Nt.add_same ad]
   exact (b3.ext bC)
  refine zzs (zzp ?_)
  refine zzd (zzz [0, 1, 3, 0, 8, 24, 56, 127, 0, 256, 768, 0, 2048, 6144, 14591, 32767, 65535, 0, 262143] [(0, []), (1, []), (2, []), (3, []), (4, []), (5, []), (8, []), (9, []), (10, []), (11, []), (12, []), (13, []), (17, []), (6, []), (7, []), (14, []), (15, []), (16, []), (18, [])] xj xj (zza 46 (.adr 5 0) (zza 47 (.adr 5 0) (zzi 48 (.v (.agg #[.bool aa.s, aa.m.v])) ty30 zze (zza 49 (.adr 6 0) (zza 50 (.adr 6 2) (zzi 51 (.v (ac.d.v)) ty28 zzl (zza 54 (.adr 6 0) (zza 55 (.adr 6 0) (zzi 56 (.v (.agg #[.bool ac.s, ac.m.v])) ty30 zze (zza 57 (.adr 5 0) ?_)))))))))))
  refine zza 58 (.adr 5 2) (zzi 59 (.v (aa.d.v)) ty28 zzl (zzk 7 ⟨30, [.bool false, qyn]⟩ (zzg 52 152 _ fun _ _ aM bJ => qym (k_natural (x := ac.d) bJ) ?_)))
  rintro _ u57 aO rfl
  refine zzg 53 143 _ fun _ _ aN cf => qym (k_intMul cf (ar.ext (ah.t (al.t (aw.t (aC.t (aM.t (aO.t aN))))))) (nat_int (ai.ext (aw.t (aC.t (aM.t (aO.t aN)))))) xq xq) ?_
  rintro _ u63 a1 ⟨i61, rfl, bB⟩
  refine zzg 60 152 _ fun _ _ aS bU => qym (k_natural (x := aa.d) bU) ?_
  rintro _ u67 aY rfl
  refine zzg 61 143 _ fun _ _ aX ce => qym (k_intMul ce (au.ext (aw.t (aC.t (aM.t (aO.t (aN.t (a1.t (aS.t (aY.t aX))))))))) (nat_int (ae.ext (ah.t (al.t (aw.t (aC.t (aM.t (aO.t (aN.t (a1.t (aS.t (aY.t aX)))))))))))) xq xq) ?_
  rintro _ u73 a6 ⟨i71, rfl, bX⟩
  refine zzg 62 165 _ fun _ _ aZ b4 => qym (k_intAdd b4 (bB.ext (aS.t (aY.t (aX.t (a6.t aZ))))).raw (bX.ext aZ).raw xq xq) ?_
  rintro _ u79 bz ⟨aQ, rfl, bT⟩
  refine zzj ⟨30, aQ.cs⟩ ty30 ?_
  refine zzc 73 [(4, .adr 4 0), (5, .adr 5 0), (6, .adr 6 0), (7, .adr 7 0)] [(4, ⟨32, zw3⟩), (5, ⟨197, aa.cs ++ [.bool ag]⟩), (6, ⟨197, ac.cs ++ [.bool af]⟩), (7, ⟨30, aQ.cs⟩)] (zzd (zzz [0, 0, 2, 6, 0, 16, 48, 126, 255, 511, 1023] [(0, []), (1, []), (2, []), (3, []), (4, []), (5, []), (6, []), (7, []), (8, []), (9, []), (10, [])] xj xj (zzi 63 (.v (aQ.v)) ty30 zze (zza 64 (.adr 5 0) (zza 65 (.adr 5 2) (zzi 66 (.v (aa.d.v)) ty28 zzl (zza 67 (.adr 6 0) (zza 68 (.adr 6 2) (zzi 69 (.v (ac.d.v)) ty28 zzl (zzg 70 167 _ fun _ _ bo bG => qym (k_natMul bG (ae.ext (ah.t (al.t (aw.t (aC.t (aM.t (aO.t (aN.t (a1.t (aS.t (aY.t (aX.t (a6.t (aZ.t (bz.t bo))))))))))))))) (ai.ext (aw.t (aC.t (aM.t (aO.t (aN.t (a1.t (aS.t (aY.t (aX.t (a6.t (aZ.t (bz.t bo))))))))))))) xq xq) ?_))))))))))
  rintro _ u85 b8 ⟨b1, rfl, bW⟩
  refine zza 71 (.v (.agg #[.bool aQ.s, aQ.m.v, b1.v])) (zzg 72 149 _ fun _ _ bv b2 => qym (k_lowest b2 (bT.ext (bo.t (b8.t bv))).raw (bW.ext bv).raw (Nat.mul_pos ad aD) xq xq) ?_)
  rintro _ u91 g92 ⟨ba, rfl, cg⟩
  refine zzj ⟨32, ba.cs⟩ ty32 ?_
  refine zzb (zzo (ret0 [ba.v] ⟨zzr ty32 zze, trivial⟩ fun u94 cc => ?_))
  refine ⟨ba, rfl, RatN.more (K := (max (max (K + L) (L + K) + 1) (K + L))) ?_ xq⟩
  rw [aq, ap, ← Nt.add_mk ad aD]
  exact (cg.ext cc)
 refine zyq 14 (x := zB ag) (zB false) (by rw [hs21]) (zzn 15 (uw 2 true false 14) (zzn 16 (uw 2 true false 14) (zza 17 (zB false) (zzb (zys xj (zzs (zzp ?_)))))))
 refine zzd (sq9 (zza 26 (.adr 5 0) (zza 27 (.adr 5 2) (zzi 28 (.v (aa.d.v)) ty28 zzl (zza 29 (.adr 6 0) (zza 30 (.adr 6 2) (zzi 31 (.v (ac.d.v)) ty28 zzl (zzg 32 166 _ fun _ _ ay bQ => qym (k_natCompare bQ (ae.ext (ah.t (al.t ay))) (ai.ext ay)) ?_))))))))
 rintro _ u97 aF rfl
 refine zza 33 (zB ((Nt.cmpS aL D17) == 0)) (zzb (zzu (b := (Nt.cmpS aL D17) == 0) xj (fun aG => ?_) (fun aG => ?_)))
 ·refine zzd (zzz [0, 1, 3, 0, 8, 24, 63, 0, 128, 384, 1023, 2047, 4095] [(0, []), (1, []), (2, []), (3, []), (4, []), (5, []), (7, []), (8, []), (9, []), (6, []), (10, []), (11, []), (12, [])] xj xj (zza 34 (.adr 5 0) (zza 35 (.adr 5 0) (zzi 36 (.v (.agg #[.bool aa.s, aa.m.v])) ty30 zze (zza 37 (.adr 6 0) (zza 38 (.adr 6 0) (zzi 39 (.v (.agg #[.bool ac.s, ac.m.v])) ty30 zze (zza 41 (.adr 5 0) (zza 42 (.adr 5 2) (zzi 43 (.v (aa.d.v)) ty28 zzl (zzg 40 165 _ fun _ _ aH bs => qym (k_intAdd bs (ar.ext (ah.t (al.t (ay.t (aF.t aH))))) (au.ext (ay.t (aF.t aH))) xq xq) ?_)))))))))))
  rintro _ b0 bn ⟨aU, rfl, a2⟩
  refine zza 44 (.v (.agg #[.bool aU.s, aU.m.v, aa.d.v])) (zzg 45 149 _ fun _ _ aT be => qym (k_lowest be (a2.ext aT).raw (ae.ext (ah.t (al.t (ay.t (aF.t (aH.t (bn.t aT))))))) ad xq xq) ?_)
  rintro _ bE cj ⟨aB, rfl, bd⟩
  refine zzj ⟨32, aB.cs⟩ ty32 ?_
  refine zzc 73 [(4, .adr 4 0)] [(4, ⟨32, aB.cs⟩)] (zzo (zzw (ret0 [aB.v] ⟨zzr ty32 zze, trivial⟩ fun ci br => ?_)))
  refine ⟨aB, rfl, RatN.more (K := (max (max K L + 1) K)) ?_ xq⟩
  have hD : aL = D17 := Nt.cmp_natE aG
  rw [aq, ap, ← hD, ← Nt.add_same ad]
  exact (bd.ext br)
 refine zzs (zzp ?_)
 refine zzd (zzz [0, 1, 3, 0, 8, 24, 56, 127, 0, 256, 768, 0, 2048, 6144, 14591, 32767, 65535, 0, 262143] [(0, []), (1, []), (2, []), (3, []), (4, []), (5, []), (8, []), (9, []), (10, []), (11, []), (12, []), (13, []), (17, []), (6, []), (7, []), (14, []), (15, []), (16, []), (18, [])] xj xj (zza 46 (.adr 5 0) (zza 47 (.adr 5 0) (zzi 48 (.v (.agg #[.bool aa.s, aa.m.v])) ty30 zze (zza 49 (.adr 6 0) (zza 50 (.adr 6 2) (zzi 51 (.v (ac.d.v)) ty28 zzl (zza 54 (.adr 6 0) (zza 55 (.adr 6 0) (zzi 56 (.v (.agg #[.bool ac.s, ac.m.v])) ty30 zze (zza 57 (.adr 5 0) ?_)))))))))))
 refine zza 58 (.adr 5 2) (zzi 59 (.v (aa.d.v)) ty28 zzl (zzk 7 ⟨30, [.bool false, qyn]⟩ (zzg 52 152 _ fun _ _ aj a3 => qym (k_natural (x := ac.d) a3) ?_)))
 rintro _ cd am rfl
 refine zzg 53 143 _ fun _ _ ak a4 => qym (k_intMul a4 (ar.ext (ah.t (al.t (ay.t (aF.t (aj.t (am.t ak))))))) (nat_int (ai.ext (ay.t (aF.t (aj.t (am.t ak)))))) xq xq) ?_
 rintro _ bK aE ⟨cl, rfl, a5⟩
 refine zzg 60 152 _ fun _ _ an a9 => qym (k_natural (x := aa.d) a9) ?_
 rintro _ bO ao rfl
 refine zzg 61 143 _ fun _ _ az bq => qym (k_intMul bq (au.ext (ay.t (aF.t (aj.t (am.t (ak.t (aE.t (an.t (ao.t az))))))))) (nat_int (ae.ext (ah.t (al.t (ay.t (aF.t (aj.t (am.t (ak.t (aE.t (an.t (ao.t az)))))))))))) xq xq) ?_
 rintro _ bL aK ⟨bV, rfl, a8⟩
 refine zzg 62 165 _ fun _ _ aA bf => qym (k_intAdd bf (a5.ext (an.t (ao.t (az.t (aK.t aA))))).raw (a8.ext aA).raw xq xq) ?_
 rintro _ cp aW ⟨av, rfl, bc⟩
 refine zzj ⟨30, av.cs⟩ ty30 ?_
 refine zzc 73 [(4, .adr 4 0), (5, .adr 5 0), (6, .adr 6 0), (7, .adr 7 0)] [(4, ⟨32, zw3⟩), (5, ⟨197, aa.cs ++ [.bool ag]⟩), (6, ⟨197, ac.cs ++ [.bool af]⟩), (7, ⟨30, av.cs⟩)] (zzd (zzz [0, 0, 2, 6, 0, 16, 48, 126, 255, 511, 1023] [(0, []), (1, []), (2, []), (3, []), (4, []), (5, []), (6, []), (7, []), (8, []), (9, []), (10, [])] xj xj (zzi 63 (.v (av.v)) ty30 zze (zza 64 (.adr 5 0) (zza 65 (.adr 5 2) (zzi 66 (.v (aa.d.v)) ty28 zzl (zza 67 (.adr 6 0) (zza 68 (.adr 6 2) (zzi 69 (.v (ac.d.v)) ty28 zzl (zzg 70 167 _ fun _ _ aI bt => qym (k_natMul bt (ae.ext (ah.t (al.t (ay.t (aF.t (aj.t (am.t (ak.t (aE.t (an.t (ao.t (az.t (aK.t (aA.t (aW.t aI))))))))))))))) (ai.ext (ay.t (aF.t (aj.t (am.t (ak.t (aE.t (an.t (ao.t (az.t (aK.t (aA.t (aW.t aI))))))))))))) xq xq) ?_))))))))))
 rintro _ bR bg ⟨a7, rfl, bb⟩
 refine zza 71 (.v (.agg #[.bool av.s, av.m.v, a7.v])) (zzg 72 149 _ fun _ _ aV bh => qym (k_lowest bh (bc.ext (aI.t (bg.t aV))).raw (bb.ext aV).raw (Nat.mul_pos ad aD) xq xq) ?_)
 rintro _ bI cq ⟨aJ, rfl, bm⟩
 refine zzj ⟨32, aJ.cs⟩ ty32 ?_
 refine zzb (zzo (ret0 [aJ.v] ⟨zzr ty32 zze, trivial⟩ fun bD bi => ?_))
 refine ⟨aJ, rfl, RatN.more (K := (max (max (K + L) (L + K) + 1) (K + L))) ?_ xq⟩
 rw [aq, ap, ← Nt.add_mk ad aD]
 exact (bm.ext bi)
theorem k_ratSub {u w : World} {r1 : RL} {x : Rat} {K : Nat} {r2 : RL} {y : Rat} {L : Nat} (d : Dat u w) (hr1 : RatV u r1 x K) (hr2 : RatV u r2 y L) (hK : K ≤ 200000000) (hL : L ≤ 200000000) : qyc 139 #[r1.v, r2.v] w (Post u w fun v u' => ∃ r : RL, v = r.v ∧ RatN u' r (x - y) (K + L + 1)) := by
 refine zzm (args := [r1.v, r2.v]) Tryz.func139 rfl Tryz.ntmps139 (rs := [.cell 4 32]) Tryz.results139 (le_b rfl) (le_b rfl) d ?_
 refine sq9 (zzk 2 ⟨32, r1.cs⟩ (zzk 3 ⟨32, r2.cs⟩ (zzk 4 ⟨32, zw3⟩ (zzb (zzd (zzz [0, 0, 2, 7, 15] [(0, []), (1, []), (2, []), (3, []), (4, [])] xj xj (zzi 5 (.v (r1.v)) ty32 zze (zzi 6 (.v (r2.v)) ty32 zze (zzg 7 153 _ fun _ _ ac ai => qym (k_flip (r := r2) ai) ?_)))))))))
 rintro _ u12 ae rfl
 refine zzg 8 112 _ fun _ _ ad af => qym (k_ratAdd af (hr1.ext (ac.t (ae.t ad))) ((flip_rat (hr2.ext (ac.t ae.ext))).ext ad) xq xq) ?_
 rintro _ u18 g19 ⟨aa, rfl, ah⟩
 refine zzj ⟨32, aa.cs⟩ ty32 ?_
 refine zzb (zzo (ret0 [aa.v] ⟨zzr ty32 zze, trivial⟩ fun u21 ag => ?_))
 refine ⟨aa, rfl, RatN.more (K := (K + L + 1)) ?_ xq⟩
 rw [Rat.sub_eq_add_neg]
 exact (ah.ext ag)
theorem k_ratMul {u w : World} {r1 : RL} {x : Rat} {K : Nat} {r2 : RL} {y : Rat} {L : Nat} (d : Dat u w) (hr1 : RatV u r1 x K) (hr2 : RatV u r2 y L) (hK : K ≤ 200000000) (hL : L ≤ 200000000) : qyc 113 #[r1.v, r2.v] w (Post u w fun v u' => ∃ r : RL, v = r.v ∧ RatN u' r (x * y) (K + L)) := by
 refine zzm (args := [r1.v, r2.v]) Tryz.func113 rfl Tryz.ntmps113 (rs := [.cell 4 32]) Tryz.results113 (le_b rfl) (le_b rfl) d ?_
 refine sq9 (zzk 2 ⟨32, r1.cs⟩ (zzk 3 ⟨32, r2.cs⟩ (zzk 4 ⟨32, zw3⟩ (zzb (zzd (zzz [0, 1, 0, 7, 0, 0, 63, 127] [(0, []), (2, []), (4, []), (5, []), (1, []), (3, []), (6, []), (7, [])] xj xj (zzi 8 (.v (r1.v)) ty32 zze (zzi 10 (.v (r2.v)) ty32 zze (zzk 5 ⟨197, [.bool false, qyn, qyn, .bool false]⟩ (zzk 6 ⟨197, [.bool false, qyn, qyn, .bool false]⟩ (zzg 9 148 _ fun _ _ aE aT => qym (k_read aT (hr1.ext aE)) ?_)))))))))))
 rintro _ u13 aS ⟨aj, ae, rfl, z12, D12, aA, an, ak, af, ay, aI⟩
 refine zzg 11 148 _ fun _ _ ar aW => qym (k_read aW (hr2.ext (aE.t (aS.t ar)))) ?_
 rintro _ u18 aB ⟨al, ac, rfl, z17, D17, ax, ai, am, ag, az, a4⟩
 refine zzj ⟨197, aj.cs ++ [.bool ae]⟩ ty197 ?_
 refine zzj ⟨197, al.cs ++ [.bool ac]⟩ ty197 ?_
 refine zzb (sq9 (zza 12 (.adr 5 0) (zza 13 (.adr 5 0) (zzi 14 (.v (.agg #[.bool aj.s, aj.m.v])) ty30 zze (zza 15 (.adr 6 0) (zza 16 (.adr 6 0) (zzi 17 (.v (.agg #[.bool al.s, al.m.v])) ty30 zze (zzg 18 143 _ fun _ _ ah a1 => qym (k_intMul a1 (aA.ext (ar.t (aB.t ah))) (ax.ext ah) xq xq) ?_))))))))
 rintro _ u24 aq ⟨aa, rfl, aw⟩
 refine zzk 7 ⟨30, [.bool false, qyn]⟩ (zzj ⟨30, aa.cs⟩ ty30 ?_)
 refine zzb (zzd (sq9 (zza 19 (.adr 5 3) (zzi 20 (zB ae) ty4 zzl ?_))))
 rcases Bool.eq_false_or_eq_true ae with hs27 | hs27
 ·refine zyq 21 (x := zB ae) (zB true) (by rw [hs27]) (zza 22 (.adr 6 3) ?_ (hw := w1 2 true 21))
  refine zzi 23 (zB ac) ty4 zzl ?_ (hw := w1 2 true 21)
  refine zza 24 (zB ac) (zzb (zzu (b := ac) xj (fun ad => ?_) (fun ad => ?_)))
  ·replace ad : ac = true := ad
   refine sq9 (zzi 25 (.v (aa.v)) ty30 zze (zzg 26 164 _ fun _ _ aO aG => qym (k_whole (i := aa) aG) ?_))
   rintro _ u32 aN ⟨au, rfl, aK⟩
   refine zzj ⟨32, aa.cs ++ [au.v]⟩ ty32 ?_
   refine zzb (zzo (zzw (ret0 [.agg #[.bool aa.s, aa.m.v, au.v]] ⟨zzr ty32 zze, trivial⟩ fun u35 aR => ?_)))
   refine ⟨(⟨aa.s, aa.m, au⟩ : RL), rfl, RatN.more (K := (max (K + L) 1)) ?_ xq⟩
   rw [af, ag, ay (by assumption), az (by assumption), Nt.mk_one, Nt.mk_one, ← Rat.intCast_mul]
   exact ((whole_rat (aw.ext (aO.t aN.ext)) aK).ext aR)
  replace ad : ac = false := ad
  refine zzs (zzp ?_)
  refine zzd (zzz [0, 0, 2, 6, 0, 16, 48, 126, 255, 511, 1023] [(0, []), (1, []), (2, []), (3, []), (4, []), (5, []), (6, []), (7, []), (8, []), (9, []), (10, [])] xj xj (zzi 27 (.v (aa.v)) ty30 zze (zza 28 (.adr 5 0) (zza 29 (.adr 5 2) (zzi 30 (.v (aj.d.v)) ty28 zzl (zza 31 (.adr 6 0) (zza 32 (.adr 6 2) (zzi 33 (.v (al.d.v)) ty28 zzl (zzg 34 167 _ fun _ _ av aQ => qym (k_natMul aQ (an.ext (ar.t (aB.t (ah.t (aq.t av))))) (ai.ext (ah.t (aq.t av))) xq xq) ?_)))))))))
  rintro _ u40 a3 ⟨a2, rfl, aL⟩
  refine zza 35 (.v (.agg #[.bool aa.s, aa.m.v, a2.v])) (zzg 36 149 _ fun _ _ aD a0 => qym (k_lowest a0 (aw.ext (av.t (a3.t aD))).raw (aL.ext aD).raw (Nat.mul_pos ak am) xq xq) ?_)
  rintro _ u46 g47 ⟨ao, rfl, aV⟩
  refine zzj ⟨32, ao.cs⟩ ty32 ?_
  refine zzc 37 [(4, .adr 4 0)] [(4, ⟨32, ao.cs⟩)] (zzo (ret0 [ao.v] ⟨zzr ty32 zze, trivial⟩ fun u49 aY => ?_))
  refine ⟨ao, rfl, RatN.more (K := (max (K + L) (K + L))) ?_ xq⟩
  rw [af, ag, ← Nt.mul_mk]
  exact (aV.ext aY)
 refine zyq 21 (x := zB ae) (zB false) (by rw [hs27]) (zzn 22 (uw 2 true false 21) (zzn 23 (uw 2 true false 21) (zza 24 (zB false) (zzb (zys xj (zzs (zzp ?_)))))))
 refine zzd (zzz [0, 0, 2, 6, 0, 16, 48, 126, 255, 511, 1023] [(0, []), (1, []), (2, []), (3, []), (4, []), (5, []), (6, []), (7, []), (8, []), (9, []), (10, [])] xj xj (zzi 27 (.v (aa.v)) ty30 zze (zza 28 (.adr 5 0) (zza 29 (.adr 5 2) (zzi 30 (.v (aj.d.v)) ty28 zzl (zza 31 (.adr 6 0) (zza 32 (.adr 6 2) (zzi 33 (.v (al.d.v)) ty28 zzl (zzg 34 167 _ fun _ _ aC aU => qym (k_natMul aU (an.ext (ar.t (aB.t (ah.t (aq.t aC))))) (ai.ext (ah.t (aq.t aC))) xq xq) ?_)))))))))
 rintro _ u54 aM ⟨aX, rfl, aH⟩
 refine zza 35 (.v (.agg #[.bool aa.s, aa.m.v, aX.v])) (zzg 36 149 _ fun _ _ aF aZ => qym (k_lowest aZ (aw.ext (aC.t (aM.t aF))).raw (aH.ext aF).raw (Nat.mul_pos ak am) xq xq) ?_)
 rintro _ u60 g61 ⟨ap, rfl, aP⟩
 refine zzj ⟨32, ap.cs⟩ ty32 ?_
 refine zzc 37 [(4, .adr 4 0)] [(4, ⟨32, ap.cs⟩)] (zzo (ret0 [ap.v] ⟨zzr ty32 zze, trivial⟩ fun u63 aJ => ?_))
 refine ⟨ap, rfl, RatN.more (K := (max (K + L) (K + L))) ?_ xq⟩
 rw [af, ag, ← Nt.mul_mk]
 exact (aP.ext aJ)
def DivR (x y : Rat) (K : Nat) (v : Value) (u : World) : Prop := (v = .tuple #[.agg #[.bool false, qyn, qyn], .int .i64 3] ∧ y = 0) ∨ (y ≠ 0 ∧ ∃ r : RL, v = .tuple #[r.v, .int .i64 0] ∧ RatN u r (x / y) K)
theorem k_ratDiv {u w : World} {r1 : RL} {x : Rat} {K : Nat} {r2 : RL} {y : Rat} {L : Nat} (d : Dat u w) (hr1 : RatV u r1 x K) (hr2 : RatV u r2 y L) (hK : K ≤ 200000000) (hL : L ≤ 200000000) : qyc 138 #[r1.v, r2.v] w (Post u w fun v u' => DivR x y (K + L) v u') := by
 refine zzm (args := [r1.v, r2.v]) Tryz.func138 rfl Tryz.ntmps138 (rs := [.cell 4 32, .tmp 5]) Tryz.results138 (le_b rfl) (le_b rfl) d ?_
 refine sq9 (zzk 2 ⟨32, r1.cs⟩ (zzk 3 ⟨32, r2.cs⟩ (zzk 4 ⟨32, zw3⟩ (zza 5 (zI 0) (zzb (zzd (zzz [0, 1, 0, 7, 0, 0, 63, 127] [(0, []), (2, []), (4, []), (5, []), (1, []), (3, []), (6, []), (7, [])] xj xj (zzi 10 (.v (r1.v)) ty32 zze (zzi 12 (.v (r2.v)) ty32 zze (zzk 6 ⟨197, [.bool false, qyn, qyn, .bool false]⟩ (zzk 7 ⟨197, [.bool false, qyn, qyn, .bool false]⟩ ?_)))))))))))
 refine zzg 11 148 _ fun _ _ aI aU => qym (k_read aU (hr1.ext aI)) ?_
 rintro _ u13 aS ⟨af, aF, rfl, z12, aL, ay, aD, aw, ar, aY, aO⟩
 refine zzg 13 148 _ fun _ _ aE aX => qym (k_read aX (hr2.ext (aI.t (aS.t aE)))) ?_
 rintro _ u18 aK ⟨ac, ao, rfl, ak, D17, ag, aq, aA, ad, a0, a3⟩
 refine zzj ⟨197, af.cs ++ [.bool aF]⟩ ty197 ?_
 refine zzj ⟨197, ac.cs ++ [.bool ao]⟩ ty197 ?_
 refine zzb (zzd (sq9 (zza 14 (.adr 7 0) (zza 15 (.adr 7 0) (zzi 16 (.v (.agg #[.bool ac.s, ac.m.v])) ty30 zze (zzg 17 147 _ fun _ _ ae a2 => qym (k_intSign a2 (ag.ext ae)) ?_))))))
 rintro _ u22 am rfl
 refine zza 18 (zB ((Nt.cmpS ak 0) == 0)) (zzb (zzu (b := (Nt.cmpS ak 0) == 0) xj (fun aa => ?_) (fun aa => ?_)))
 ·refine sq9 (zza 19 (.v (.agg #[.bool false, qyn, qyn])) (zzj ⟨32, zw3⟩ ty32 ?_))
  refine zza 5 (zI 3) (zzb (zzo (zzw (ret0 [.agg #[.bool false, qyn, qyn], .int .i64 3] ⟨zzr ty32 zze, zzq, trivial⟩ fun u26 e27 => ?_))))
  left
  exact ⟨rfl, by rw [ad, Nt.cmp_eq0 aa, Rat.zero_mkRat]⟩
 have aC : ak ≠ 0 := Nt.cmp_ne0 aa
 have hpp : 0 < ((aL : Int) * ak : Int).natAbs := Int.natAbs_pos.2 (Int.mul_ne_zero xq aC)
 refine zzs (zzp ?_)
 refine zzd (zzz [0, 1, 3, 0, 8, 24, 56, 127, 0, 511] [(0, []), (1, []), (2, []), (3, []), (4, []), (5, []), (8, []), (6, []), (7, []), (9, [])] xj xj (zza 20 (.adr 6 0) (zza 21 (.adr 6 0) (zzi 22 (.v (.agg #[.bool af.s, af.m.v])) ty30 zze (zza 23 (.adr 7 0) (zza 24 (.adr 7 2) (zzi 25 (.v (ac.d.v)) ty28 zzl (zzk 8 ⟨30, [.bool false, qyn]⟩ (zzg 26 152 _ fun _ _ al aV => qym (k_natural (x := ac.d) aV) ?_)))))))))
 rintro _ u29 an rfl
 refine zzg 27 143 _ fun _ _ aj aN => qym (k_intMul aN (ay.ext (aE.t (aK.t (ae.t (am.t (al.t (an.t aj))))))) (nat_int (aq.ext (ae.t (am.t (al.t (an.t aj)))))) xq xq) ?_
 rintro _ u35 aH ⟨ah, rfl, aM⟩
 refine zzj ⟨30, ah.cs⟩ ty30 ?_
 refine zzb (zzd (zzz [0, 1, 3, 7, 0, 16, 48, 127, 0, 511] [(0, []), (1, []), (2, []), (4, []), (5, []), (6, []), (8, []), (3, []), (7, []), (9, [])] xj xj (zza 28 (.adr 6 0) (zza 29 (.adr 6 2) (zzi 30 (.v (af.d.v)) ty28 zzl (zza 32 (.adr 7 0) (zza 33 (.adr 7 0) (zzi 34 (.v (.agg #[.bool ac.s, ac.m.v])) ty30 zze (zzk 9 ⟨30, [.bool false, qyn]⟩ (zzg 31 152 _ fun _ _ aB aP => qym (k_natural (x := af.d) aP) ?_))))))))))
 rintro _ u39 au rfl
 refine zzg 35 143 _ fun _ _ az a1 => qym (k_intMul a1 (nat_int (aD.ext (aE.t (aK.t (ae.t (am.t (al.t (an.t (aj.t (aH.t (aB.t (au.t az)))))))))))) (ag.ext (ae.t (am.t (al.t (an.t (aj.t (aH.t (aB.t (au.t az))))))))) xq xq) ?_
 rintro _ u45 aZ ⟨ai, rfl, aG⟩
 refine zzj ⟨30, ai.cs⟩ ty30 ?_
 refine zzc 40 [(4, .adr 4 0), (8, .adr 8 0), (9, .adr 9 0)] [(4, ⟨32, zw3⟩), (8, ⟨30, ah.cs⟩), (9, ⟨30, ai.cs⟩)] (sq9 (zzi 36 (.v (ah.v)) ty30 zze (zzi 37 (.v (ai.v)) ty30 zze (zzg 38 168 _ fun _ _ ap aW => qym (k_quotient (i := ah) (j := ai) aW) ?_))))
 rintro _ u49 av rfl
 refine zzg 39 149 _ fun _ _ aJ aQ => qym (k_lowest aQ ((quot_int (aM.ext (aB.t (au.t (az.t (aZ.t (ap.t av.ext)))))) (aG.ext (ap.t av.ext))).ext aJ) ((int_mag (aG.ext (ap.t av.ext))).ext aJ).raw hpp xq xq) ?_
 rintro _ u55 g56 ⟨ax, rfl, aT⟩
 refine zzj ⟨32, ax.cs⟩ ty32 ?_
 refine zza 5 (zI 0) (zzb (zzo (ret0 [ax.v, .int .i64 0] ⟨zzr ty32 zze, zzq, trivial⟩ fun u58 aR => ?_)))
 right
 refine ⟨?_, ax, rfl, RatN.more (K := (max (K + L) (K + L))) ?_ xq⟩
 ·rw [ad]; exact (Rat.mkRat_ne_zero xq).2 aC
 rw [ar, ad, ← Nt.quo_mk aw aA aC, ← Nt.div_mk2 xq]
 exact (aT.ext aR)
theorem k_ratDiv1 {u w : World} {r1 r2 : RL} {x y : Rat} {K L : Nat} (d : Dat u w) (hr1 : RatV u r1 x K) (hr2 : RatV u r2 y L) (hy : y ≠ 0) (hK : K ≤ 200000000) (hL : L ≤ 200000000) : qyc 138 #[r1.v, r2.v] w (Post u w fun v u' => ∃ r : RL, v = .tuple #[r.v, .int .i64 0] ∧ RatN u' r (x / y) (K + L)) :=
 qym (k_ratDiv d hr1 hr2 hK hL) fun v u' _ h => h.elim (fun h => absurd h.2 hy) (fun h => h.2)
theorem mod_pos (m : Int) (hm : 1 ≤ m) (n : Int) (h : decide (Int.tmod n m < 0) = false) : Int.tmod n m = n % m := by
 have h := qyf h
 rcases Int.lt_or_le n 0 with hn | hn
 ·have e := Int.tmod_add_mul_tdiv n m
  have h2 : -m < Int.tmod n m := Int.lt_tmod_of_pos n xq
  have h3 : Int.tmod n m ≤ 0 := by
   have h8 := Int.neg_tmod n m
   have h9 : Int.tmod (-n) m = (-n) % m := Int.tmod_eq_emod_of_nonneg xq
   have h10 := Int.emod_nonneg (-n) (show m ≠ 0 by omega)
   omega
  have h4 : Int.tmod n m = 0 := by omega
  rw [h4] at e ⊢
  have : m ∣ n := ⟨n.tdiv m, by omega⟩
  exact (Int.emod_eq_zero_of_dvd this).symm
 exact Int.tmod_eq_emod_of_nonneg hn
theorem mod_neg (m : Int) (hm : 1 ≤ m) (n : Int) (h : decide (Int.tmod n m < 0) = true) : Int.tmod n m + m = n % m := by
 have h := qyt h
 have e := Int.tmod_add_mul_tdiv n m
 have h2 : -m < Int.tmod n m := Int.lt_tmod_of_pos n xq
 have h5 : n = m * (n.tdiv m - 1) + (Int.tmod n m + m) := by rw [Int.mul_sub, Int.mul_one]; omega
 have := (Nt.ediv_uniq (z := n) (y := m) (q := n.tdiv m - 1) (r := Int.tmod n m + m) xq h5 xq xq).2
 exact this.symm
theorem k_Mod {u w : World} {n m : Int} (d : Dat u w) (hm : 1 ≤ m) (hm2 : m ≤ 4611686018427387904) (hn0 : -9223372036854775808 ≤ n) (hn1 : n ≤ 9223372036854775807) : qyc 12 #[.int .i64 n, .int .i64 m] w (Post u w fun v _ => v = .int .i64 (n % m)) := by
 refine zzm (args := [.int .i64 n, .int .i64 m]) Tryz.func12 rfl Tryz.ntmps12 (rs := [.tmp 4]) Tryz.results12 (le_b rfl) (le_b rfl) d ?_
 refine sq9 (zza 4 (zI 0) (zzb (zzd (sq9 (zza 5 (zI m) (zyq 6 (x := zB (decide (m < 1))) (zB false) (by rw [show (decide (m < 1)) = false from yw]) (zzb (zys xj (zzs (zzp ?_))))))))))
 refine sq9 (zza 7 (zI n) (zza 8 (zI m) (sy_rem 9 (Int.tmod n m) xq rfl ?_)))
 refine zza 0 (zI (Int.tmod n m)) (zzb (zzd (sq9 (zza 10 (zI (Int.tmod n m)) (zza 11 (zB (decide ((Int.tmod n m) < 0))) (zzb (zzu (b := decide ((Int.tmod n m) < 0)) xj (fun aa => ?_) (fun aa => ?_))))))))
 ·have qhb11 := qyt aa
  refine zzf (zza 12 (zI (Int.tmod n m)) (zza 13 (zI m) (zyq 14 (x := zI (IntKind.i64.wrap (Int.tmod n m + m))) (zI (Int.tmod n m + m)) (by rw [show (IntKind.i64.wrap (Int.tmod n m + m)) = (Int.tmod n m + m) from (IntWalk.i64_in _ (by have h2 := Int.lt_tmod_of_pos n (show 0 < m by omega); have h3 := Int.tmod_lt_of_pos n (show 0 < m by omega); omega))]) (zza 0 (zI (Int.tmod n m + m)) (zzb (sq9 (zza 15 (zI (Int.tmod n m + m)) (zza 4 (zI (Int.tmod n m + m)) (zzb (zzo (ret0 [.int .i64 (Int.tmod n m + m)] ⟨zzq, trivial⟩ fun u12 e13 => ?_)))))))))))
  show Value.int _ _ = Value.int _ _
  rw [mod_neg m hm n aa]
 have qhb11 := qyf aa
 refine zzs (zzp ?_)
 refine sq9 (zza 15 (zI (Int.tmod n m)) (zza 4 (zI (Int.tmod n m)) (zzb (zzo (ret0 [.int .i64 (Int.tmod n m)] ⟨zzq, trivial⟩ fun u14 e15 => ?_)))))
 show Value.int _ _ = Value.int _ _
 rw [mod_pos m hm n aa]
theorem k_cut {u w : World} {x : Sl} {l : List Rat} {K : Nat} (d : Dat u w) (hx : PolV u x l K) (hK : K ≤ 100000000) (hx9 : l.length ≤ 1000000000) : qyc 151 #[x.v] w (Post u w fun v u' => v = .slice x.a (Nt.trimQ l).length x.c) := by
 have hlen := hx.len
 refine zzm (args := [x.v]) Tryz.func151 rfl Tryz.ntmps151 (rs := [.tmp 2]) Tryz.results151 (le_b rfl) (le_b rfl) d ?_
 refine sq9 (zza 2 (.v (qyn)) (zzb (sq9 (zza 4 (.v (x.v)) (zza 5 (zI x.n) (zza 3 (zI x.n) (zzb (zzd (zzt (zyn (I := fun aj S' u' => ∃ (n : Nat), (aj = n) ∧ (n ≤ l.length) ∧ (∀ i, n ≤ i → Nt.co l i = 0) ∧ (S' = St.of 22 [(0, .v (x.v)), (3, zI n)] []) ∧ (Ext u u')) (fun m S u1 u2 e h => by obtain ⟨n, hm, p0, p1, hS, hE⟩ := h; exact ⟨n, hm, p0, p1, hS, hE.trans e⟩) _ yz ⟨x.n, rfl, by omega, fun i hi => Nt.co_ge xq, rfl, (Ext.refl _)⟩ ?_))))))))))
 rintro aj _ u11 ⟨n, ak, hn, hz, rfl, aa⟩
 refine zzd (sq9 (zza 6 (zI n) (zza 7 (zB (decide ((0 : Int) < (n : Int)))) ?_)))
 rcases Bool.eq_false_or_eq_true (decide ((0 : Int) < (n : Int))) with hs12 | hs12
 ·refine zyq 8 (x := zB (decide ((0 : Int) < (n : Int)))) (zB true) (by rw [hs12]) ?_
  have qhs12 := qyt hs12
  refine zza 9 (.v (x.v)) ?_ (hw := w1 2 true 8)
  refine zza 10 (zI n) ?_ (hw := w1 2 true 8)
  refine zyq 11 (x := zI (IntKind.i64.wrap ((n : Int) - 1))) (zI (n - 1 : Nat)) (eqI xk) ?_ (hw := w1 2 true 8)
  have hl13 := (hx.ext aa).len
  obtain ⟨am, b13, ai, ae, ag, ah⟩ := pol_at (hx.ext aa) (i := n - 1) xq
  refine zya 12 (ai + (n - 1) * 3) (n := x.n) (off := ai) (sz := 3) (i := ((n - 1 : Nat) : Int)) xq ae xq xq sl27 ?_ (hw := w1 2 true 8)
  refine zym 13 am.cs ag ty32 ?_ (hw := w1 2 true 8)
  refine zzg 14 66 _ (fun _ _ ad al => qym (k_ratSign al (ah.ext ad)) ?_) (hw := w1 2 true 8)
  rintro _ u15 af rfl
  refine zza 15 (zB ((Nt.sgQ (l.getD (n - 1) 0)) == 0)) ?_ (hw := w1 2 true 8)
  refine zza 16 (zB ((Nt.sgQ (l.getD (n - 1) 0)) == 0)) (zzb (zzu (b := (Nt.sgQ (l.getD (n - 1) 0)) == 0) xj (fun ac => ?_) (fun ac => ?_)))
  ·refine zzs (zzp ?_)
   refine zzt (zzf (zza 17 (zI n) (zyq 18 (x := zI (IntKind.i64.wrap ((n : Int) - 1))) (zI (n - 1 : Nat)) (eqI xk) (zza 3 (zI (n - 1 : Nat)) (zzx ?_)))))
   refine ⟨_, ?_, _, by exact zzv _ _ _, n - 1, rfl, by omega, (fun i hi => by by_cases e : i = n - 1; (rw [e]; have h9 := ac; rw [Nt.sgQ_eq] at h9; exact qyt h9); exact hz i xq), rfl, (aa.t (ad.t af.ext))⟩
   omega
  refine zyc (zzp (sq9 (zza 19 (.v (x.v)) (zza 20 (zI n) ?_))))
  have hl19 := (hx.ext (aa.t (ad.t af.ext))).len
  have hc19 := (hx.ext (aa.t (ad.t af.ext))).cap
  refine sy_front 21 (n := x.n) (c := x.c) n sl27 rfl xq ?_
  refine zza 2 (.v (.slice x.a n x.c)) (zzb (zzo (ret0 [.slice x.a n x.c] ⟨zzq, trivial⟩ fun u20 e21 => ?_)))
  have e := Nt.trim_len_of (l := l) hn hz (fun _ h => by have h9 := ac; rw [Nt.sgQ_eq] at h9; exact qyf h9 h)
  show Value.slice _ _ _ = Value.slice _ _ _
  rw [e]
 refine zyq 8 (x := zB (decide ((0 : Int) < (n : Int)))) (zB false) (by rw [hs12]) ?_
 have qhs12 := qyf hs12
 refine zzn 9 (uw 2 true false 8) (zzn 10 (uw 2 true false 8) (zzn 11 (uw 2 true false 8) (zzn 12 (uw 2 true false 8) (zzn 13 (uw 2 true false 8) (zzn 14 (uw 2 true false 8) (zzn 15 (uw 2 true false 8) (zza 16 (zB false) (zzb (zys xj (zyc (zzp ?_)))))))))))
 refine sq9 (zza 19 (.v (x.v)) (zza 20 (zI n) ?_))
 have hl22 := (hx.ext aa).len
 have hc22 := (hx.ext aa).cap
 refine sy_front 21 (n := x.n) (c := x.c) n sl27 rfl xq ?_
 refine zza 2 (.v (.slice x.a n x.c)) (zzb (zzo (ret0 [.slice x.a n x.c] ⟨zzq, trivial⟩ fun u23 e24 => ?_)))
 have e := Nt.trim_len_of (l := l) hn hz (fun h => absurd h xq)
 show Value.slice _ _ _ = Value.slice _ _ _
 rw [e]
def NewR (u : World) (n : Nat) (t : List Rat) (K : Nat) (v : Value) (u' : World) : Prop := ∃ (b : Nat) (L : List RL), v = .slice (some ⟨b, 0, none⟩) n n ∧ u.heap.size ≤ b ∧ u'.heap[b]? = some (.cells (rcs L).toArray 32 (0, 0)) ∧ L.length = n ∧ RatsN u' L t K
theorem k_zeros {u w : World} {n : Nat} (d : Dat u w) (hn9 : n ≤ 1000000000) : qyc 180 #[.int .i64 (n : Int)] w (Post u w fun v u' => NewR u n (List.replicate n 0) 2 v u') := by
 refine zzm (args := [.int .i64 n]) Tryz.func180 rfl Tryz.ntmps180 (rs := [.tmp 2]) Tryz.results180 (le_b rfl) (le_b rfl) d ?_
 refine sq9 (zza 2 (.v (qyn)) (zzb (sq9 (zza 5 (zI n) (sy_make 6 (T := 27) (E := 32) (z := .agg #[.bool false, qyn, qyn]) (size := 3) (bytes := 56) n (rcs (List.replicate n rl0)) xj xj rfl rfl xq yk (made_rcs _) ?_)))))
 refine zza 3 (.slc 6 0 n n) (zzc 18 [(3, .slc 6 0 n n)] [(6, ⟨32, rcs (List.replicate n rl0)⟩)] (zzd (sq9 (zza 7 (.slc 6 0 n n) (zza 8 (zI n) (zza 9 (zI 0) (zzc 18 [(3, .slc 6 0 n n), (8, zI n), (9, zI 0)] [(6, ⟨32, rcs (List.replicate n rl0)⟩)] (zzt (zyn (I := fun ai S' u' => ∃ (i : Nat) (L : List RL), (ai = n - i) ∧ (i ≤ n) ∧ (L.length = n) ∧ (S' = St.of 18 [(3, .slc 6 0 n n), (8, zI n), (9, zI i)] [(6, ⟨32, rcs L⟩)]) ∧ (Ext u u') ∧ (RatsN u' (L.take i) ((List.replicate n (0 : Rat)).take i) 2)) (fun m S u1 u2 e h => by obtain ⟨i, L, hm, p0, p1, hS, hE, f0⟩ := h; exact ⟨i, L, hm, p0, p1, hS, hE.trans e, f0.ext e⟩) _ yz ⟨0, List.replicate n rl0, rfl, by omega, by simp, rfl, (Ext.refl _), RatsN.tnil _ _ _ _⟩ ?_)))))))))
 rintro ai _ u11 ⟨i, L, ao, hi, hL, rfl, am, hR⟩
 refine sq9 (zza 10 (zB (decide ((i : Int) < (n : Int)))) (zzb (zzd (zzu (b := decide ((i : Int) < (n : Int))) xj (fun aa => ?_) (fun aa => ?_)))))
 ·have qhb12 := qyt aa
  refine zzs (zzp ?_)
  refine zzd (zzt (sq9 (zza 11 (zI i) (zza 4 (zI i) (zzb (zzf (zza 12 (.slc 6 0 n n) (zza 13 (zI i) (zzg 14 109 _ fun _ _ aj ap => qym (k_ratOf ap (z := 0) xq xq) ?_)))))))))
  rintro _ u16 ah ⟨ag, rfl, aq⟩
  refine zyw 15 (off' := i * 3) (n := n) (off := 0) (sz := 3) (i := (i : Int)) sl27 xq xq xq ?_
  refine zyv (V := ⟨32, rcs L⟩) (off := i * 3) (rcs ((L).set i ag)) ty32 zq (zyx (r := ag) (i := i) zk rfl) ?_
  refine zzx ?_
  refine zzp (zzf (zyq 16 (x := zI (IntKind.i64.wrap ((i : Int) + 1))) (zI (i + 1 : Nat)) (eqI xk) (zza 9 (zI (i + 1 : Nat)) (zzx ?_))))
  have af : i < (List.replicate n (0 : Rat)).length := by simp; omega
  refine ⟨_, ?_, _, by exact zzv _ _ _, i + 1, (L).set i ag, rfl, by omega, by simpa using hL, rfl, (am.t (aj.t ah.ext)), RatsN.tstep (hR.ext (aj.t ah.ext)) xq af (RatN.more (K := 2) aq xq) (by rw [qyg, List.getElem?_replicate]; split <;> rfl)⟩
  omega
 have qhb12 := qyf aa
 refine zyc (zzp (zzd (zyp (r := 3) (t := 6) [3, 6] xw xj (by rfl) (by rfl) xj (fun ad ar al ae ac => ?_))))
 have an : PolN ar ⟨some ⟨ad, 0, none⟩, n, n⟩ (List.replicate n (0 : Rat)) 2 := pol_data1 ac yk (RatsN.tdone (hR.ext al) xq yw) xq
 refine zzf (zza 17 (.v (.slice (some ⟨ad, 0, none⟩) n n)) (zza 2 (.v (.slice (some ⟨ad, 0, none⟩) n n)) (zzb (zzo (ret0 [.slice (some ⟨ad, 0, none⟩) n n] ⟨zzq, trivial⟩ fun u26 ak => ?_)))))
 exact ⟨ad, L, rfl, ae, ak.cells ac, by omega, (RatsN.tdone (hR.ext (al.trans ak)) xq yw)⟩
theorem k_poScale {u w : World} {x : Sl} {l : List Rat} {r : RL} {q : Rat} {K M : Nat} (d : Dat u w) (hx : PolV u x l K) (hr : RatV u r q M) (hK : K ≤ 50000000) (hx9 : l.length ≤ 1000000000) (hM : M ≤ 50000000) : qyc 116 #[x.v, r.v] w (Post u w fun v u' => ∃ y : Sl, v = y.v ∧ PolN u' y (Nt.trimQ (l.map (· * q))) (K + M)) := by
 have hlen := hx.len
 refine zzm (args := [x.v, r.v]) Tryz.func116 rfl Tryz.ntmps116 (rs := [.tmp 4]) Tryz.results116 (le_b rfl) (le_b rfl) d ?_
 refine sq9 (zzk 3 ⟨32, r.cs⟩ (zza 4 (.v (qyn)) (zzb (sq9 (zza 7 (.v (x.v)) (zza 8 (zI x.n) (sy_make 9 (T := 27) (E := 32) (z := .agg #[.bool false, qyn, qyn]) (size := 3) (bytes := 56) x.n (rcs (List.replicate x.n rl0)) xj xj rfl rfl xq yk (made_rcs _) ?_)))))))
 refine zza 5 (.slc 9 0 x.n x.n) (zzc 27 [(0, .v (x.v)), (3, .adr 3 0), (5, .slc 9 0 x.n x.n)] [(3, ⟨32, r.cs⟩), (9, ⟨32, rcs (List.replicate x.n rl0)⟩)] (zzd (sq9 (zza 10 (.slc 9 0 x.n x.n) (zza 11 (zI x.n) (zza 12 (zI 0) (zzc 27 [(0, .v (x.v)), (3, .adr 3 0), (5, .slc 9 0 x.n x.n), (11, zI x.n), (12, zI 0)] [(3, ⟨32, r.cs⟩), (9, ⟨32, rcs (List.replicate x.n rl0)⟩)] (zzt (zyn (I := fun an S' u' => ∃ (i : Nat) (L : List RL), (an = x.n - i) ∧ (i ≤ x.n) ∧ (L.length = x.n) ∧ (S' = St.of 27 [(0, .v (x.v)), (3, .adr 3 0), (5, .slc 9 0 x.n x.n), (11, zI x.n), (12, zI i)] [(3, ⟨32, r.cs⟩), (9, ⟨32, rcs L⟩)]) ∧ (Ext u u') ∧ (RatsN u' (L.take i) ((l.map (· * q)).take i) (K + M))) (fun m S u1 u2 e h => by obtain ⟨i, L, hm, p0, p1, hS, hE, f0⟩ := h; exact ⟨i, L, hm, p0, p1, hS, hE.trans e, f0.ext e⟩) _ yz ⟨0, List.replicate x.n rl0, rfl, by omega, by simp, rfl, (Ext.refl _), RatsN.tnil _ _ _ _⟩ ?_)))))))))
 rintro an _ u11 ⟨i, L, aw, hi, hL, rfl, af, hR⟩
 refine sq9 (zza 13 (zB (decide ((i : Int) < (x.n : Int)))) (zzb (zzd (zzu (b := decide ((i : Int) < (x.n : Int))) xj (fun aa => ?_) (fun aa => ?_)))))
 ·have qhb12 := qyt aa
  refine zzs (zzp ?_)
  refine zzd (zzt (sq9 (zza 14 (zI i) (zza 6 (zI i) (zzb (zzz [0, 0, 0, 0, 12, 28, 0, 124, 255, 511] [(0, []), (1, []), (2, []), (3, []), (4, []), (5, []), (6, []), (7, []), (8, []), (9, [])] xj xj (zza 15 (.slc 9 0 x.n x.n) (zza 16 (zI i) (zza 17 (.v (x.v)) (zza 18 (zI i) ?_))))))))))
  have hl13 := (hx.ext af).len
  obtain ⟨az, b13, am, ah, ai, aj⟩ := pol_at (hx.ext af) (i := i) xq
  refine zya 19 (am + i * 3) (n := x.n) (off := am) (sz := 3) (i := (i : Int)) xq ah xq xq sl27 (zym 20 az.cs ai ty32 (zzi 21 (.v (r.v)) ty32 zze (zzg 22 113 _ fun _ _ ae ay => qym (k_ratMul ay (aj.ext ae) (hr.ext (af.trans ae)) xq xq) ?_)))
  rintro _ u17 ao ⟨ak, rfl, aB⟩
  refine zyw 23 (off' := i * 3) (n := x.n) (off := 0) (sz := 3) (i := (i : Int)) sl27 xq xq xq ?_
  refine zyv (V := ⟨32, rcs L⟩) (off := i * 3) (rcs ((L).set i ak)) ty32 zq (zyx (r := ak) (i := i) zk rfl) ?_
  refine zzx ?_
  refine zzp (zzf (zyq 24 (x := zI (IntKind.i64.wrap ((i : Int) + 1))) (zI (i + 1 : Nat)) (eqI xk) (zza 12 (zI (i + 1 : Nat)) (zzx ?_))))
  have ag : i < (l.map (· * q)).length := by simp; omega
  refine ⟨_, ?_, _, by exact zzv _ _ _, i + 1, (L).set i ak, rfl, by omega, by simpa using hL, rfl, (af.t (ae.t ao.ext)), RatsN.tstep (hR.ext (ae.t ao.ext)) xq ag (RatN.more (K := (K + M)) aB xq) (by simp [List.getElem?_eq_getElem (show i < l.length by omega)])⟩
  omega
 have qhb12 := qyf aa
 refine zyc (zzp (zzd (zyp (r := 5) (t := 9) [5, 9] xw xj (by rfl) (by rfl) xj (fun ac ax au aA al => ?_))))
 have ad : PolN ax ⟨some ⟨ac, 0, none⟩, x.n, x.n⟩ (l.map (· * q)) (K + M) := pol_data1 al yk (RatsN.tdone (hR.ext au) xq yw) xq
 refine zzf (zza 25 (.v (.slice (some ⟨ac, 0, none⟩) x.n x.n)) (zzg 26 151 _ fun _ _ ap av => qym (k_cut av (ad.ext ap).raw xq xz) ?_))
 rintro _ u28 ar rfl
 refine zza 4 (.v (.slice (some ⟨ac, 0, none⟩) (Nt.trimQ (l.map (· * q))).length x.n)) (zzb (zzo (ret0 [.slice (some ⟨ac, 0, none⟩) (Nt.trimQ (l.map (· * q))).length x.n] ⟨zzq, trivial⟩ fun u31 aq => ?_)))
 refine ⟨(⟨some ⟨ac, 0, none⟩, (Nt.trimQ (l.map (· * q))).length, x.n⟩ : Sl), rfl, ?_⟩
 exact ((cut_N (ad.ext (ap.t ar.ext))).ext aq)
theorem k_poTrim {u w : World} {x : Sl} {l : List Rat} {K : Nat} (d : Dat u w) (hx : PolV u x l K) (hK : K ≤ 50000000) (hx9 : l.length ≤ 1000000000) : qyc 117 #[x.v] w (Post u w fun v u' => ∃ y : Sl, v = y.v ∧ PolN u' y (Nt.trimQ l) K) := by
 have hlen := hx.len
 have htl := zzh l
 refine zzm (args := [x.v]) Tryz.func117 rfl Tryz.ntmps117 (rs := [.tmp 2]) Tryz.results117 (le_b rfl) (le_b rfl) d ?_
 refine sq9 (zza 2 (.v (qyn)) (zzb (sq9 (zza 5 (.v (x.v)) (zzg 6 151 _ fun _ _ af ax => qym (k_cut ax (hx.ext af) xq xz) ?_)))))
 rintro _ aA aq rfl
 refine zza 7 (zI (((Nt.trimQ l).length : Nat) : Int)) (sy_make 8 (T := 27) (E := 32) (z := .agg #[.bool false, qyn, qyn]) (size := 3) (bytes := 56) ((Nt.trimQ l).length) (rcs (List.replicate ((Nt.trimQ l).length) rl0)) xj xj rfl rfl xq yk (made_rcs _) ?_)
 refine zza 3 (.slc 8 0 ((Nt.trimQ l).length) ((Nt.trimQ l).length)) (zzc 24 [(0, .v (x.v)), (3, .slc 8 0 ((Nt.trimQ l).length) ((Nt.trimQ l).length))] [(8, ⟨32, rcs (List.replicate ((Nt.trimQ l).length) rl0)⟩)] (zzd (sq9 (zza 9 (.slc 8 0 ((Nt.trimQ l).length) ((Nt.trimQ l).length)) (zza 10 (zI (((Nt.trimQ l).length : Nat) : Int)) (zza 11 (zI 0) (zzc 24 [(0, .v (x.v)), (3, .slc 8 0 ((Nt.trimQ l).length) ((Nt.trimQ l).length)), (10, zI (((Nt.trimQ l).length : Nat) : Int)), (11, zI 0)] [(8, ⟨32, rcs (List.replicate ((Nt.trimQ l).length) rl0)⟩)] (zzt (zyn (I := fun ap S' u' => ∃ (i : Nat) (L : List RL), (ap = ((Nt.trimQ l).length) - i) ∧ (i ≤ (Nt.trimQ l).length) ∧ (L.length = (Nt.trimQ l).length) ∧ (S' = St.of 24 [(0, .v (x.v)), (3, .slc 8 0 ((Nt.trimQ l).length) ((Nt.trimQ l).length)), (10, zI (((Nt.trimQ l).length : Nat) : Int)), (11, zI i)] [(8, ⟨32, rcs L⟩)]) ∧ (Ext aA u') ∧ (RatsN u' (L.take i) ((Nt.trimQ l).take i) K)) (fun m S u1 u2 e h => by obtain ⟨i, L, hm, p0, p1, hS, hE, f0⟩ := h; exact ⟨i, L, hm, p0, p1, hS, hE.trans e, f0.ext e⟩) _ yz ⟨0, List.replicate ((Nt.trimQ l).length) rl0, rfl, by omega, by simp, rfl, (Ext.refl _), RatsN.tnil _ _ _ _⟩ ?_)))))))))
 rintro ap _ u15 ⟨i, L, av, hi, hL, rfl, al, hR⟩
 refine sq9 (zza 12 (zB (decide ((i : Int) < (((Nt.trimQ l).length : Nat) : Int)))) (zzb (zzd (zzu (b := decide ((i : Int) < (((Nt.trimQ l).length : Nat) : Int))) xj (fun aa => ?_) (fun aa => ?_)))))
 ·have qhb16 := qyt aa
  refine zzs (zzp ?_)
  refine zzd (zzt (sq9 (zza 13 (zI i) (zza 4 (zI i) (zzb (zzf (zza 14 (.slc 8 0 ((Nt.trimQ l).length) ((Nt.trimQ l).length)) (zza 15 (zI i) (zza 16 (.v (x.v)) (zza 17 (zI i) ?_))))))))))
  have hl17 := (hx.ext (af.t (aq.t al))).len
  obtain ⟨ay, b17, ao, am, ae, aj⟩ := pol_at (hx.ext (af.t (aq.t al))) (i := i) xq
  refine zya 18 (ao + i * 3) (n := x.n) (off := ao) (sz := 3) (i := (i : Int)) xq am xq xq sl27 (zym 19 ay.cs ae ty32 (zzg 20 68 _ fun _ _ ai az => qym (k_ratTrim az (aj.ext ai) xq) ?_))
  rintro _ u21 an ⟨ak, rfl, aw⟩
  refine zyw 21 (off' := i * 3) (n := (Nt.trimQ l).length) (off := 0) (sz := 3) (i := (i : Int)) sl27 xq xq xq ?_
  refine zyv (V := ⟨32, rcs L⟩) (off := i * 3) (rcs ((L).set i ak)) ty32 zq (zyx (r := ak) (i := i) zk rfl) ?_
  refine zzx ?_
  refine zzp (zzf (zyq 22 (x := zI (IntKind.i64.wrap ((i : Int) + 1))) (zI (i + 1 : Nat)) (eqI xk) (zza 11 (zI (i + 1 : Nat)) (zzx ?_))))
  have ad : i < (Nt.trimQ l).length := by skip; omega
  refine ⟨_, ?_, _, by exact zzv _ _ _, i + 1, (L).set i ak, rfl, by omega, by simpa using hL, rfl, (al.t (ai.t an.ext)), RatsN.tstep (hR.ext (ai.t an.ext)) xq ad (RatN.more (K := K) aw xq) (Nt.trim_co l i).symm⟩
  omega
 have qhb16 := qyf aa
 refine zyc (zzp (zzd (zyp (r := 3) (t := 8) [3, 8] xw xj (by rfl) (by rfl) xj (fun ac aC aB ar ag => ?_))))
 have ah : PolN aC ⟨some ⟨ac, 0, none⟩, (Nt.trimQ l).length, (Nt.trimQ l).length⟩ (Nt.trimQ l) K := pol_data1 ag yk (RatsN.tdone (hR.ext aB) xq (by skip; omega)) xq
 refine zzf (zza 23 (.v (.slice (some ⟨ac, 0, none⟩) ((Nt.trimQ l).length) ((Nt.trimQ l).length))) (zza 2 (.v (.slice (some ⟨ac, 0, none⟩) ((Nt.trimQ l).length) ((Nt.trimQ l).length))) (zzb (zzo (ret0 [.slice (some ⟨ac, 0, none⟩) ((Nt.trimQ l).length) ((Nt.trimQ l).length)] ⟨zzq, trivial⟩ fun u31 au => ?_)))))
 refine ⟨(⟨some ⟨ac, 0, none⟩, (Nt.trimQ l).length, (Nt.trimQ l).length⟩ : Sl), rfl, ?_⟩
 exact (ah.ext au)
theorem k_poAdd {u w : World} {x : Sl} {l : List Rat} {y : Sl} {m : List Rat} {K M : Nat} (d : Dat u w) (hx : PolV u x l K) (hy : PolV u y m M) (hK : K ≤ 40000000) (hM : M ≤ 40000000) (hx9 : l.length ≤ 1000000000) (hy9 : m.length ≤ 1000000000) : qyc 115 #[x.v, y.v] w (Post u w fun v u' => ∃ y : Sl, v = y.v ∧ PolN u' y (Nt.trimQ (Nt.addQ l m)) (K + M + 1)) := by
 have hlen := hx.len
 have hlen2 := hy.len
 refine zzm (args := [x.v, y.v]) Tryz.func115 rfl Tryz.ntmps115 (rs := [.tmp 4]) Tryz.results115 (le_b rfl) (le_b rfl) d ?_
 refine sq9 (zza 4 (.v (qyn)) (zzb (zzd (sq9 (zza 7 (.v (x.v)) (zza 8 (zI x.n) (zza 9 (.v (y.v)) (zza 10 (zI y.n) (zza 11 (zB (decide ((x.n : Int) < (y.n : Int)))) (zzb (zzu (b := decide ((x.n : Int) < (y.n : Int))) xj (fun ae => ?_) (fun ae => ?_))))))))))))
 ·have qhb11 := qyt ae
  refine zzf (zza 12 (.v (y.v)) (zza 13 (.v (x.v)) (zza 0 (.v (y.v)) (zza 1 (.v (x.v)) (zzb (sq9 (zza 14 (.v (y.v)) (zza 15 (zI y.n) (sy_make 16 (T := 27) (E := 32) (z := .agg #[.bool false, qyn, qyn]) (size := 3) (bytes := 56) y.n (rcs (List.replicate y.n rl0)) xj xj rfl rfl xq yk (made_rcs _) ?_)))))))))
  refine zza 5 (.slc 16 0 y.n y.n) (zzc 49 [(0, .v (y.v)), (1, .v (x.v)), (5, .slc 16 0 y.n y.n)] [(16, ⟨32, rcs (List.replicate y.n rl0)⟩)] (zzd (sq9 (zza 17 (.slc 16 0 y.n y.n) (zza 18 (zI y.n) (zza 19 (zI 0) (zzc 49 [(0, .v (y.v)), (1, .v (x.v)), (5, .slc 16 0 y.n y.n), (18, zI y.n), (19, zI 0)] [(16, ⟨32, rcs (List.replicate y.n rl0)⟩)] (zzt (zyn (I := fun a2 S' u' => ∃ (i : Nat) (L : List RL), (a2 = y.n - i) ∧ (i ≤ y.n) ∧ (L.length = y.n) ∧ (S' = St.of 49 [(0, .v (y.v)), (1, .v (x.v)), (5, .slc 16 0 y.n y.n), (18, zI y.n), (19, zI i)] [(16, ⟨32, rcs L⟩)]) ∧ (Ext u u') ∧ (RatsN u' (L.take i) ((Nt.addQ l m).take i) (K + M + 1))) (fun m S u1 u2 e h => by obtain ⟨i, L, hm, p0, p1, hS, hE, f0⟩ := h; exact ⟨i, L, hm, p0, p1, hS, hE.trans e, f0.ext e⟩) _ yz ⟨0, List.replicate y.n rl0, rfl, by omega, by simp, rfl, (Ext.refl _), RatsN.tnil _ _ _ _⟩ ?_)))))))))
  rintro a2 _ u12 ⟨i, L, bi, hi, hL, rfl, aa, hR⟩
  refine sq9 (zza 20 (zB (decide ((i : Int) < (y.n : Int)))) (zzb (zzd (zzu (b := decide ((i : Int) < (y.n : Int))) xj (fun ad => ?_) (fun ad => ?_)))))
  ·have qhb13 := qyt ad
   refine zzs (zzp ?_)
   refine zzd (zzt (sq9 (zza 21 (zI i) (zza 6 (zI i) (zzb (sq9 (zza 22 (zI i) (zza 23 (.v (x.v)) (zza 24 (zI x.n) (zza 25 (zB (decide ((i : Int) < (x.n : Int)))) (zzb ?_)))))))))))
   refine zzu (b := decide ((i : Int) < (x.n : Int))) xj (fun ah => ?_) (fun ah => ?_)
   ·have qhb14 := qyt ah
    refine zzz [0, 0, 0, 0, 12, 28, 0, 0, 192, 448, 1020, 2047, 4095] [(0, []), (1, []), (2, []), (3, []), (4, []), (5, []), (6, []), (7, []), (8, []), (9, []), (10, []), (11, []), (12, [])] xj xj (zza 26 (.slc 16 0 y.n y.n) (zza 27 (zI i) (zza 28 (.v (y.v)) (zza 29 (zI i) ?_))))
    have hl15 := (hy.ext aa).len
    obtain ⟨bf, b15, a1, az, ar, aE⟩ := pol_at (hy.ext aa) (i := i) xq
    refine zya 30 (a1 + i * 3) (n := y.n) (off := a1) (sz := 3) (i := (i : Int)) xq az xq xq sl27 (zym 31 bf.cs ar ty32 (zza 32 (.v (x.v)) (zza 33 (zI i) ?_)))
    have hl16 := (hx.ext aa).len
    obtain ⟨bb, b16, aX, aP, aG, aw⟩ := pol_at (hx.ext aa) (i := i) xq
    refine zya 34 (aX + i * 3) (n := x.n) (off := aX) (sz := 3) (i := (i : Int)) xq aP xq xq sl27 (zym 35 bb.cs aG ty32 (zzg 36 112 _ fun _ _ an bs => qym (k_ratAdd bs (aE.ext an) (aw.ext an) xq xq) ?_))
    rintro _ u20 aZ ⟨aq, rfl, bh⟩
    refine zyw 37 (off' := i * 3) (n := y.n) (off := 0) (sz := 3) (i := (i : Int)) sl27 xq xq xq ?_
    refine zyv (V := ⟨32, rcs L⟩) (off := i * 3) (rcs ((L).set i aq)) ty32 zq (zyx (r := aq) (i := i) zk rfl) ?_
    refine zzx ?_
    refine zzp (zzf (zyq 46 (x := zI (IntKind.i64.wrap ((i : Int) + 1))) (zI (i + 1 : Nat)) (eqI xk) (zza 19 (zI (i + 1 : Nat)) (zzx ?_))))
    have aF : i < (Nt.addQ l m).length := by rw [Nt.addQ_len]; omega
    refine ⟨_, ?_, _, by exact zzv _ _ _, i + 1, (L).set i aq, rfl, by omega, by simpa using hL, rfl, (aa.t (an.t aZ.ext)), RatsN.tstep (hR.ext (an.t aZ.ext)) xq aF (RatN.more (K := (M + K + 1)) bh xq) (by have h9 := Nt.addQ_co l m i; unfold Nt.co at h9; show _ = List.getD _ _ _; rw [h9]; exact Rat.add_comm _ _)⟩
    omega
   have qhb14 := qyf ah
   refine zzf (zza 38 (.slc 16 0 y.n y.n) (zza 39 (zI i) (zza 40 (.v (y.v)) (zza 41 (zI i) ?_))))
   have hl24 := (hy.ext aa).len
   obtain ⟨bp, b24, aU, aK, aR, av⟩ := pol_at (hy.ext aa) (i := i) xq
   refine zya 42 (aU + i * 3) (n := y.n) (off := aU) (sz := 3) (i := (i : Int)) xq aK xq xq sl27 (zym 43 bp.cs aR ty32 (zzg 44 68 _ fun _ _ aL bo => qym (k_ratTrim bo (av.ext aL) xq) ?_))
   rintro _ u28 aY ⟨ax, rfl, bx⟩
   refine zyw 45 (off' := i * 3) (n := y.n) (off := 0) (sz := 3) (i := (i : Int)) sl27 xq xq xq ?_
   refine zyv (V := ⟨32, rcs L⟩) (off := i * 3) (rcs ((L).set i ax)) ty32 zq (zyx (r := ax) (i := i) zk rfl) ?_
   refine zzx ?_
   refine zzp (zzf (zyq 46 (x := zI (IntKind.i64.wrap ((i : Int) + 1))) (zI (i + 1 : Nat)) (eqI xk) (zza 19 (zI (i + 1 : Nat)) (zzx ?_))))
   have aJ : i < (Nt.addQ l m).length := by rw [Nt.addQ_len]; omega
   refine ⟨_, ?_, _, by exact zzv _ _ _, i + 1, (L).set i ax, rfl, by omega, by simpa using hL, rfl, (aa.t (aL.t aY.ext)), RatsN.tstep (hR.ext (aL.t aY.ext)) xq aJ (RatN.more (K := M) bx xq) (by have h9 := Nt.addQ_co l m i; unfold Nt.co at h9; show _ = List.getD _ _ _; rw [h9]; rw [show l.getD i 0 = 0 from Nt.co_ge xq]; grind)⟩
   omega
  have qhb13 := qyf ad
  refine zyc (zzp (zzd (zyp (r := 5) (t := 16) [5, 16] xw xj (by rfl) (by rfl) xj (fun ak bw a8 bg aT => ?_))))
  have ai : PolN bw ⟨some ⟨ak, 0, none⟩, y.n, y.n⟩ (Nt.addQ l m) (K + M + 1) := pol_data1 aT yk (RatsN.tdone (hR.ext a8) xq (by rw [Nt.addQ_len]; omega)) xq
  refine zzf (zza 47 (.v (.slice (some ⟨ak, 0, none⟩) y.n y.n)) (zzg 48 151 _ fun _ _ a7 ba => qym (k_cut ba (ai.ext a7).raw xq xz) ?_))
  rintro _ u39 bv rfl
  refine zza 4 (.v (.slice (some ⟨ak, 0, none⟩) (Nt.trimQ (Nt.addQ l m)).length y.n)) (zzb (zzo (ret0 [.slice (some ⟨ak, 0, none⟩) (Nt.trimQ (Nt.addQ l m)).length y.n] ⟨zzq, trivial⟩ fun u42 bu => ?_)))
  refine ⟨(⟨some ⟨ak, 0, none⟩, (Nt.trimQ (Nt.addQ l m)).length, y.n⟩ : Sl), rfl, ?_⟩
  exact ((cut_N (ai.ext (a7.t bv.ext))).ext bu)
 have qhb11 := qyf ae
 refine zzs (zzp ?_)
 refine sq9 (zza 14 (.v (x.v)) (zza 15 (zI x.n) (sy_make 16 (T := 27) (E := 32) (z := .agg #[.bool false, qyn, qyn]) (size := 3) (bytes := 56) x.n (rcs (List.replicate x.n rl0)) xj xj rfl rfl xq yk (made_rcs _) ?_)))
 refine zza 5 (.slc 16 0 x.n x.n) (zzc 49 [(0, .v (x.v)), (1, .v (y.v)), (5, .slc 16 0 x.n x.n)] [(16, ⟨32, rcs (List.replicate x.n rl0)⟩)] (zzd (sq9 (zza 17 (.slc 16 0 x.n x.n) (zza 18 (zI x.n) (zza 19 (zI 0) (zzc 49 [(0, .v (x.v)), (1, .v (y.v)), (5, .slc 16 0 x.n x.n), (18, zI x.n), (19, zI 0)] [(16, ⟨32, rcs (List.replicate x.n rl0)⟩)] (zzt (zyn (I := fun a3 S' u' => ∃ (i : Nat) (L : List RL), (a3 = x.n - i) ∧ (i ≤ x.n) ∧ (L.length = x.n) ∧ (S' = St.of 49 [(0, .v (x.v)), (1, .v (y.v)), (5, .slc 16 0 x.n x.n), (18, zI x.n), (19, zI i)] [(16, ⟨32, rcs L⟩)]) ∧ (Ext u u') ∧ (RatsN u' (L.take i) ((Nt.addQ l m).take i) (K + M + 1))) (fun m S u1 u2 e h => by obtain ⟨i, L, hm, p0, p1, hS, hE, f0⟩ := h; exact ⟨i, L, hm, p0, p1, hS, hE.trans e, f0.ext e⟩) _ yz ⟨0, List.replicate x.n rl0, rfl, by omega, by simp, rfl, (Ext.refl _), RatsN.tnil _ _ _ _⟩ ?_)))))))))
 rintro a3 _ u44 ⟨i, L, bt, hi, hL, rfl, ac, hR⟩
 refine sq9 (zza 20 (zB (decide ((i : Int) < (x.n : Int)))) (zzb (zzd (zzu (b := decide ((i : Int) < (x.n : Int))) xj (fun ag => ?_) (fun ag => ?_)))))
 ·have qhb45 := qyt ag
  refine zzs (zzp ?_)
  refine zzd (zzt (sq9 (zza 21 (zI i) (zza 6 (zI i) (zzb (sq9 (zza 22 (zI i) (zza 23 (.v (y.v)) (zza 24 (zI y.n) (zza 25 (zB (decide ((i : Int) < (y.n : Int)))) (zzb ?_)))))))))))
  refine zzu (b := decide ((i : Int) < (y.n : Int))) xj (fun af => ?_) (fun af => ?_)
  ·have qhb46 := qyt af
   refine zzz [0, 0, 0, 0, 12, 28, 0, 0, 192, 448, 1020, 2047, 4095] [(0, []), (1, []), (2, []), (3, []), (4, []), (5, []), (6, []), (7, []), (8, []), (9, []), (10, []), (11, []), (12, [])] xj xj (zza 26 (.slc 16 0 x.n x.n) (zza 27 (zI i) (zza 28 (.v (x.v)) (zza 29 (zI i) ?_))))
   have hl47 := (hx.ext ac).len
   obtain ⟨a9, b47, aW, ao, aC, aN⟩ := pol_at (hx.ext ac) (i := i) xq
   refine zya 30 (aW + i * 3) (n := x.n) (off := aW) (sz := 3) (i := (i : Int)) xq ao xq xq sl27 (zym 31 a9.cs aC ty32 (zza 32 (.v (y.v)) (zza 33 (zI i) ?_)))
   have hl48 := (hy.ext ac).len
   obtain ⟨bz, b48, aV, ay, aH, aO⟩ := pol_at (hy.ext ac) (i := i) xq
   refine zya 34 (aV + i * 3) (n := y.n) (off := aV) (sz := 3) (i := (i : Int)) xq ay xq xq sl27 (zym 35 bz.cs aH ty32 (zzg 36 112 _ fun _ _ am bc => qym (k_ratAdd bc (aN.ext am) (aO.ext am) xq xq) ?_))
   rintro _ u52 a0 ⟨au, rfl, bl⟩
   refine zyw 37 (off' := i * 3) (n := x.n) (off := 0) (sz := 3) (i := (i : Int)) sl27 xq xq xq ?_
   refine zyv (V := ⟨32, rcs L⟩) (off := i * 3) (rcs ((L).set i au)) ty32 zq (zyx (r := au) (i := i) zk rfl) ?_
   refine zzx ?_
   refine zzp (zzf (zyq 46 (x := zI (IntKind.i64.wrap ((i : Int) + 1))) (zI (i + 1 : Nat)) (eqI xk) (zza 19 (zI (i + 1 : Nat)) (zzx ?_))))
   have ap : i < (Nt.addQ l m).length := by rw [Nt.addQ_len]; omega
   refine ⟨_, ?_, _, by exact zzv _ _ _, i + 1, (L).set i au, rfl, by omega, by simpa using hL, rfl, (ac.t (am.t a0.ext)), RatsN.tstep (hR.ext (am.t a0.ext)) xq ap (RatN.more (K := (K + M + 1)) bl xq) (by have h9 := Nt.addQ_co l m i; unfold Nt.co at h9; show _ = List.getD _ _ _; rw [h9])⟩
   omega
  have qhb46 := qyf af
  refine zzf (zza 38 (.slc 16 0 x.n x.n) (zza 39 (zI i) (zza 40 (.v (x.v)) (zza 41 (zI i) ?_))))
  have hl56 := (hx.ext ac).len
  obtain ⟨bj, b56, a4, aM, aD, aQ⟩ := pol_at (hx.ext ac) (i := i) xq
  refine zya 42 (a4 + i * 3) (n := x.n) (off := a4) (sz := 3) (i := (i : Int)) xq aM xq xq sl27 (zym 43 bj.cs aD ty32 (zzg 44 68 _ fun _ _ aA be => qym (k_ratTrim be (aQ.ext aA) xq) ?_))
  rintro _ u60 a6 ⟨aB, rfl, bd⟩
  refine zyw 45 (off' := i * 3) (n := x.n) (off := 0) (sz := 3) (i := (i : Int)) sl27 xq xq xq ?_
  refine zyv (V := ⟨32, rcs L⟩) (off := i * 3) (rcs ((L).set i aB)) ty32 zq (zyx (r := aB) (i := i) zk rfl) ?_
  refine zzx ?_
  refine zzp (zzf (zyq 46 (x := zI (IntKind.i64.wrap ((i : Int) + 1))) (zI (i + 1 : Nat)) (eqI xk) (zza 19 (zI (i + 1 : Nat)) (zzx ?_))))
  have aI : i < (Nt.addQ l m).length := by rw [Nt.addQ_len]; omega
  refine ⟨_, ?_, _, by exact zzv _ _ _, i + 1, (L).set i aB, rfl, by omega, by simpa using hL, rfl, (ac.t (aA.t a6.ext)), RatsN.tstep (hR.ext (aA.t a6.ext)) xq aI (RatN.more (K := K) bd xq) (by have h9 := Nt.addQ_co l m i; unfold Nt.co at h9; show _ = List.getD _ _ _; rw [h9]; rw [show m.getD i 0 = 0 from Nt.co_ge xq]; grind)⟩
  omega
 have qhb45 := qyf ag
 refine zyc (zzp (zzd (zyp (r := 5) (t := 16) [5, 16] xw xj (by rfl) (by rfl) xj (fun al bm bn bA aS => ?_))))
 have aj : PolN bm ⟨some ⟨al, 0, none⟩, x.n, x.n⟩ (Nt.addQ l m) (K + M + 1) := pol_data1 aS yk (RatsN.tdone (hR.ext bn) xq (by rw [Nt.addQ_len]; omega)) xq
 refine zzf (zza 47 (.v (.slice (some ⟨al, 0, none⟩) x.n x.n)) (zzg 48 151 _ fun _ _ a5 br => qym (k_cut br (aj.ext a5).raw xq xz) ?_))
 rintro _ u71 bq rfl
 refine zza 4 (.v (.slice (some ⟨al, 0, none⟩) (Nt.trimQ (Nt.addQ l m)).length x.n)) (zzb (zzo (ret0 [.slice (some ⟨al, 0, none⟩) (Nt.trimQ (Nt.addQ l m)).length x.n] ⟨zzq, trivial⟩ fun u74 bk => ?_)))
 refine ⟨(⟨some ⟨al, 0, none⟩, (Nt.trimQ (Nt.addQ l m)).length, x.n⟩ : Sl), rfl, ?_⟩
 exact ((cut_N (aj.ext (a5.t bq.ext))).ext bk)
theorem k_poParts {u w : World} {r : RL} (d : Dat u w) : qyc 223 #[r.v] w (Post u w fun v u' => ∃ y : Sl, v = .tuple #[.agg #[.bool r.s, r.m.v, y.v], .agg #[.bool false, r.d.v, y.v]] ∧ NatN u' y 1 1) := by
 refine zzm (args := [r.v]) Tryz.func223 rfl Tryz.ntmps223 (rs := [.cell 2 32, .cell 3 32]) Tryz.results223 (le_b rfl) (le_b rfl) d ?_
 refine sq9 (zzk 1 ⟨32, r.cs⟩ (zzk 2 ⟨32, zw3⟩ (zzk 3 ⟨32, zw3⟩ (zzb (sq9 (zxx 5 ⟨133, [.int .u32 1]⟩ 1 (fun aa u12 e13 ad => ?_)))))))
 refine zza 4 (.v (.slice (some ⟨aa, 0, none⟩) 1 1)) (zzb (zzd (zzz [0, 1, 0, 7, 0, 16, 48, 0, 240, 15, 1023] [(0, []), (1, []), (2, []), (3, []), (4, []), (5, []), (6, []), (7, []), (8, []), (9, [10]), (10, [])] xj xj (zza 6 (.adr 1 0) (zzi 7 (.v (.agg #[.bool r.s, r.m.v])) ty30 zze (zza 8 (.v (.slice (some ⟨aa, 0, none⟩) 1 1)) (zza 9 (.v (.agg #[.bool r.s, r.m.v, .slice (some ⟨aa, 0, none⟩) 1 1])) (zza 10 (.adr 1 2) (zzi 11 (.v (r.d.v)) ty28 zzl (zza 12 (.v (.agg #[.bool false, r.d.v])) (zza 13 (.v (.slice (some ⟨aa, 0, none⟩) 1 1)) ?_)))))))))))
 refine zza 14 (.v (.agg #[.bool false, r.d.v, .slice (some ⟨aa, 0, none⟩) 1 1])) (zzj ⟨32, [.bool r.s, r.m.v, .slice (some ⟨aa, 0, none⟩) 1 1]⟩ ty32 ?_)
 refine zzj ⟨32, [.bool false, r.d.v, .slice (some ⟨aa, 0, none⟩) 1 1]⟩ ty32 ?_
 refine zzb (zzo (ret0 [.agg #[.bool r.s, r.m.v, .slice (some ⟨aa, 0, none⟩) 1 1], .agg #[.bool false, r.d.v, .slice (some ⟨aa, 0, none⟩) 1 1]] ⟨zzr ty32 zze, zzr ty32 zze, trivial⟩ fun u15 ac => ?_))
 exact ⟨(⟨some ⟨aa, 0, none⟩, 1, 1⟩ : Sl), rfl, ((one_data ad).ext ac)⟩
theorem k_common {u w : World} {r1 r2 : RL} {x y : Rat} {K M : Nat} (d : Dat u w) (h1 : RatN u r1 x K) (h2 : RatV u r2 y M) (hK : K ≤ 40000000) (hM : M ≤ 40000000) : qyc 212 #[r1.v, r2.v] w (Post u w fun v u' => ∃ r : RL, v = r.v ∧ RatN u' r (Nt.cmn x y) (K + M)) := by
 refine zzm (args := [r1.v, r2.v]) Tryz.func212 rfl Tryz.ntmps212 (rs := [.cell 4 32]) Tryz.results212 (le_b rfl) (le_b rfl) d ?_
 refine sq9 (zzk 2 ⟨32, r1.cs⟩ (zzk 3 ⟨32, r2.cs⟩ (zzk 4 ⟨32, zw3⟩ (zzb (zzd (sq9 (zzi 11 (.v (r1.v)) ty32 zze (zzg 12 66 _ fun _ _ af ax => qym (k_ratSign ax (h1.ext af).raw) ?_))))))))
 rintro _ u12 ai rfl
 refine zza 13 (zB ((Nt.sgQ x) == 0)) (zzb (zzu (b := (Nt.sgQ x) == 0) xj (fun ae => ?_) (fun ae => ?_)))
 ·have ah : x = 0 := by have h9 := ae; rw [Nt.sgQ_eq] at h9; simpa using h9
  refine sq9 (zzi 14 (.v (r2.v)) ty32 zze (zzg 15 65 _ fun _ _ aH ay => qym (k_ratAbs ay (h2.ext (af.t (ai.t aH))) xq) ?_))
  rintro _ u19 g20 ⟨ak, rfl, aF⟩
  refine zzj ⟨32, ak.cs⟩ ty32 ?_
  refine zzb (zzo (zzw (ret0 [ak.v] ⟨zzr ty32 zze, trivial⟩ fun u22 au => ?_)))
  have e9 : Nt.cmn x y = (Nt.absQ y) := by unfold Nt.cmn; rw [if_pos ah]
  have hs := Nt.rs_cmn x y
  have hs1 := h1.rs
  have hs2 := h2.rs
  refine ⟨ak, rfl, RatN.fit (K := M) ?_ xq⟩
  rw [e9]
  exact (aF.ext au)
 have ah : ¬ x = 0 := by have h9 := ae; rw [Nt.sgQ_eq] at h9; simpa using h9
 refine zzs (zzp ?_)
 refine sq9 (zzi 17 (.v (r1.v)) ty32 zze (zzi 18 (.v (r2.v)) ty32 zze (zzg 19 138 _ fun _ _ aj av => qym (k_ratDiv av (h1.ext (af.t (ai.t aj))).raw (h2.ext (af.t (ai.t aj))) xq xq) ?_)))
 rintro _ u28 am (⟨rfl, ac⟩ | ⟨ac, aa, rfl, aA⟩)
 ·skip
  refine zza 16 (.v (.tuple #[.agg #[.bool false, qyn, qyn], .int .i64 3])) (zza 20 (.v (.agg #[.bool false, qyn, qyn])) (zza 21 (zI 3) (zzk 5 ⟨32, zw3⟩ (zzj ⟨32, zw3⟩ ty32 ?_))))
  refine zza 6 (zI 3) (zzb (zzd (sq9 (zza 22 (zI 3) (zza 23 (zB true) (zzb (zyr xj (sq9 (zzi 24 (.v (r1.v)) ty32 zze (zzj ⟨32, r1.cs⟩ ty32 ?_))))))))))
  refine zzb (zzo (zzw (ret0 [r1.v] ⟨zzr ty32 zze, trivial⟩ fun u31 aq => ?_)))
  have e9 : Nt.cmn x y = x := by unfold Nt.cmn; rw [if_neg ah, if_pos ac]
  have hs := Nt.rs_cmn x y
  have hs1 := h1.rs
  have hs2 := h2.rs
  refine ⟨r1, rfl, RatN.fit (K := K) ?_ xq⟩
  rw [e9]
  exact (h1.ext (af.t (ai.t (aj.t (am.t aq)))))
 refine zza 16 (.v (.tuple #[aa.v, .int .i64 0])) (zza 20 (.v (aa.v)) (zza 21 (zI 0) (zzk 5 ⟨32, zw3⟩ (zzj ⟨32, aa.cs⟩ ty32 ?_))))
 refine zza 6 (zI 0) (zzb (zzd (sq9 (zza 22 (zI 0) (zza 23 (zB false) (zzb (zys xj (zzs (zzp ?_)))))))))
 refine sq9 (zzi 26 (.v (aa.v)) ty32 zze (zzg 27 223 _ fun _ _ an az => qym (k_poParts (r := aa) az) ?_))
 rintro _ u36 ap ⟨ad, rfl, aC⟩
 refine zza 25 (.v (.tuple #[.agg #[.bool aa.s, aa.m.v, ad.v], .agg #[.bool false, aa.d.v, ad.v]])) (zza 28 (.v (.agg #[.bool aa.s, aa.m.v, ad.v])) (zza 29 (.v (.agg #[.bool false, aa.d.v, ad.v])) (zzk 7 ⟨32, zw3⟩ (zzk 8 ⟨32, zw3⟩ (zzj ⟨32, [.bool aa.s, aa.m.v, ad.v]⟩ ty32 ?_)))))
 refine zzj ⟨32, [.bool false, aa.d.v, ad.v]⟩ ty32 ?_
 refine zzb (sq9 (zzi 31 (.v (r1.v)) ty32 zze (zzi 32 (.v (.agg #[.bool aa.s, aa.m.v, ad.v])) ty32 zze (zzg 33 138 _ fun _ _ ao ar => qym (k_ratDiv1 ar (h1.ext (af.t (ai.t (aj.t (am.t (an.t (ap.t ao))))))).raw ((whole_rat (RatN.num (aA.ext (an.t ap.ext))) aC).ext ao).raw (Nt.num_ne (Nt.div_ne ah ac)) xq xq) ?_))))
 rintro _ u42 g43 ⟨ag, rfl, aw⟩
 refine zza 30 (.v (.tuple #[ag.v, .int .i64 0])) (zza 34 (.v (ag.v)) (zza 35 (zI 0) (zzk 9 ⟨32, zw3⟩ (zzj ⟨32, ag.cs⟩ ty32 ?_))))
 refine zza 10 (zI 0) (zzc 38 [(4, .adr 4 0), (9, .adr 9 0)] [(4, ⟨32, zw3⟩), (9, ⟨32, ag.cs⟩)] (sq9 (zzi 36 (.v (ag.v)) ty32 zze (zzg 37 65 _ fun _ _ aB aG => qym (k_ratAbs aG (aw.ext aB).raw xq) ?_))))
 rintro _ u48 g49 ⟨al, rfl, aD⟩
 refine zzj ⟨32, al.cs⟩ ty32 ?_
 refine zzb (zzo (ret0 [al.v] ⟨zzr ty32 zze, trivial⟩ fun u51 aE => ?_))
 have e9 : Nt.cmn x y = (Nt.absQ (x / (((x / y).num : Int) : Rat))) := by unfold Nt.cmn; rw [if_neg ah, if_neg ac]
 have hs := Nt.rs_cmn x y
 have hs1 := h1.rs
 have hs2 := h2.rs
 refine ⟨al, rfl, RatN.fit (K := (K + (max (K + M) 1))) ?_ xq⟩
 rw [e9]
 exact (aD.ext aE)
theorem k_split {u w : World} {x : Sl} {l : List Rat} {K : Nat} (d : Dat u w) (hx : PolV u x l K) (hK : (l.length + 1) * K ≤ 30000000) (hx9 : l.length ≤ 1000000000) : qyc 179 #[x.v] w (Post u w fun v u' => ∃ (r : RL) (y : Sl), v = .tuple #[r.v, y.v] ∧ RatN u' r (Nt.msr (Nt.trimQ l)) ((Nt.trimQ l).length * K + 2) ∧ PolN u' y ((Nt.trimQ l).map (· / Nt.msr (Nt.trimQ l))) (K + ((Nt.trimQ l).length * K + 2))) := by
 have hlen := hx.len
 have htl := zzh l
 have hKK : (Nt.trimQ l).length * K ≤ l.length * K := Nat.mul_le_mul_right _ htl
 rw [Nat.add_mul] at hK
 refine zzm (args := [x.v]) Tryz.func179 rfl Tryz.ntmps179 (rs := [.cell 2 32, .tmp 3]) Tryz.results179 (le_b rfl) (le_b rfl) d ?_
 refine sq9 (zzk 2 ⟨32, zw3⟩ (zza 3 (.v (qyn)) (zzb (sq9 (zza 10 (.v (x.v)) (zzg 11 151 _ fun _ _ af aQ => qym (k_cut aQ (hx.ext af) xq xz) ?_))))))
 rintro _ u12 al rfl
 refine zza 0 (.v (.slice x.a (Nt.trimQ l).length x.c)) (zzb (sq9 (zzg 12 109 _ fun _ _ ak aM => qym (k_ratOf aM (z := 0) xq xq) ?_)))
 rintro _ aY aj ⟨aC, rfl, aO⟩
 refine zzk 4 ⟨32, zw3⟩ (zzj ⟨32, aC.cs⟩ ty32 ?_)
 refine zzb (zzd (sq9 (zza 13 (.v (.slice x.a (Nt.trimQ l).length x.c)) (zza 14 (zI (((Nt.trimQ l).length : Nat) : Int)) (zza 15 (zI 0) (zzb (zzt (zyn (I := fun aI S' u' => ∃ (i : Nat) (r : RL), (aI = (Nt.trimQ l).length - i) ∧ (i ≤ (Nt.trimQ l).length) ∧ (S' = St.of 45 [(0, .v (.slice x.a (Nt.trimQ l).length x.c)), (2, .adr 2 0), (4, .adr 4 0), (13, .v (.slice x.a (Nt.trimQ l).length x.c)), (14, zI (((Nt.trimQ l).length : Nat) : Int)), (15, zI i)] [(2, ⟨32, zw3⟩), (4, ⟨32, r.cs⟩)]) ∧ (Ext aY u') ∧ (RatN u' r (Nt.msr ((Nt.trimQ l).take i)) (i * K + 2))) (fun m S u1 u2 e h => by obtain ⟨i, r, hm, p0, hS, hE, f0⟩ := h; exact ⟨i, r, hm, p0, hS, hE.trans e, f0.ext e⟩) _ yz ⟨0, aC, rfl, by omega, rfl, (Ext.refl _), (RatN.more (K := 2) aO xq)⟩ ?_))))))))
 rintro aI _ aJ ⟨i, r, aS, hi, rfl, ad, hM⟩
 have hiK : i * K ≤ (Nt.trimQ l).length * K := Nat.mul_le_mul_right _ hi
 refine sq9 (zza 16 (zB (decide ((i : Int) < (((Nt.trimQ l).length : Nat) : Int)))) (zzb (zzd (zzu (b := decide ((i : Int) < (((Nt.trimQ l).length : Nat) : Int))) xj (fun aa => ?_) (fun aa => ?_)))))
 ·have qhb22 := qyt aa
  refine zzs (zzp ?_)
  refine zzd (zzt (sq9 ?_))
  have hl23 := ((cut_V (hx.ext (af.t al.ext))).ext (ak.t (aj.t ad))).len
  change (Nt.trimQ l).length = _ at hl23
  obtain ⟨au, b23, aL, ax, av, az⟩ := pol_at ((cut_V (hx.ext (af.t al.ext))).ext (ak.t (aj.t ad))) (i := i) xq
  refine zya 17 (aL + i * 3) (n := (Nt.trimQ l).length) (off := aL) (sz := 3) (i := (i : Int)) xq ax xq xq sl27 (zym 18 au.cs av ty32 (zzk 6 ⟨32, zw3⟩ (zzj ⟨32, au.cs⟩ ty32 ?_)))
  refine zzb (zzf (zzi 19 (.v (r.v)) ty32 zze (zzi 20 (.v (au.v)) ty32 zze (zzg 21 212 _ fun _ _ ar aP => qym (k_common aP (hM.ext ar) (az.ext ar) xq xq) ?_))))
  rintro _ u27 aX ⟨aG, rfl, aV⟩
  refine zzj ⟨32, aG.cs⟩ ty32 ?_
  refine zzx ?_
  refine zzp (zzf (zyq 22 (x := zI (IntKind.i64.wrap ((i : Int) + 1))) (zI (i + 1 : Nat)) (eqI xk) (zza 15 (zI (i + 1 : Nat)) (zzx ?_))))
  refine ⟨_, ?_, _, by exact zzv _ _ _, i + 1, aG, rfl, by omega, rfl, (ad.t (ar.t aX.ext)), (RatN.more (K := ((i * K + 2) + K)) (by rw [Nt.msr_take xq]; exact aV) (by rw [Nat.add_mul]; omega))⟩
  omega
 have qhb22 := qyf aa
 refine zyc (zzp (zzd ?_))
 have aD : i = (Nt.trimQ l).length := by omega
 have hms : RatN aJ r (Nt.msr (Nt.trimQ l)) ((Nt.trimQ l).length * K + 2) := by have h9 := hM; rw [aD, List.take_length] at h9; exact h9
 clear aD
 refine zzf (zza 23 (.v (.slice x.a (Nt.trimQ l).length x.c)) (zza 24 (zI (((Nt.trimQ l).length : Nat) : Int)) (sy_make 25 (T := 27) (E := 32) (z := .agg #[.bool false, qyn, qyn]) (size := 3) (bytes := 56) ((Nt.trimQ l).length) (rcs (List.replicate ((Nt.trimQ l).length) rl0)) xj xj rfl rfl xq yk (made_rcs _) ?_)))
 refine zza 7 (.slc 25 0 ((Nt.trimQ l).length) ((Nt.trimQ l).length)) (zzc 45 [(0, .v (.slice x.a (Nt.trimQ l).length x.c)), (2, .adr 2 0), (4, .adr 4 0), (7, .slc 25 0 ((Nt.trimQ l).length) ((Nt.trimQ l).length))] [(2, ⟨32, zw3⟩), (4, ⟨32, r.cs⟩), (25, ⟨32, rcs (List.replicate ((Nt.trimQ l).length) rl0)⟩)] (zzd (sq9 (zza 26 (.v (.slice x.a (Nt.trimQ l).length x.c)) (zza 27 (zI (((Nt.trimQ l).length : Nat) : Int)) (zza 28 (zI 0) (zzb (zzt (zyn (I := fun aB S' u' => ∃ (i2 : Nat) (L2 : List RL), (aB = ((Nt.trimQ l).length) - i2) ∧ (i2 ≤ (Nt.trimQ l).length) ∧ (L2.length = (Nt.trimQ l).length) ∧ (S' = St.of 45 [(2, .adr 2 0), (4, .adr 4 0), (7, .slc 25 0 ((Nt.trimQ l).length) ((Nt.trimQ l).length)), (26, .v (.slice x.a (Nt.trimQ l).length x.c)), (27, zI (((Nt.trimQ l).length : Nat) : Int)), (28, zI i2)] [(2, ⟨32, zw3⟩), (4, ⟨32, r.cs⟩), (25, ⟨32, rcs L2⟩)]) ∧ (Ext aJ u') ∧ (RatsN u' (L2.take i2) (((Nt.trimQ l).map (· / Nt.msr (Nt.trimQ l))).take i2) (K + ((Nt.trimQ l).length * K + 2)))) (fun m S u1 u2 e h => by obtain ⟨i2, L2, hm, p0, p1, hS, hE, f0⟩ := h; exact ⟨i2, L2, hm, p0, p1, hS, hE.trans e, f0.ext e⟩) _ yz ⟨0, List.replicate ((Nt.trimQ l).length) rl0, rfl, by omega, by simp, rfl, (Ext.refl _), RatsN.tnil _ _ _ _⟩ ?_)))))))))
 rintro aB _ u30 ⟨i2, L2, aR, hi2, aN, rfl, ae, aA⟩
 refine sq9 (zza 29 (zB (decide ((i2 : Int) < (((Nt.trimQ l).length : Nat) : Int)))) (zzb (zzd (zzu (b := decide ((i2 : Int) < (((Nt.trimQ l).length : Nat) : Int))) xj (fun ac => ?_) (fun ac => ?_)))))
 ·have qhb31 := qyt ac
  refine zzs (zzp ?_)
  refine zzd (zzt (sq9 (zza 30 (zI i2) ?_)))
  have hl32 := ((cut_V (hx.ext (af.t al.ext))).ext (ak.t (aj.t (ad.trans ae)))).len
  change (Nt.trimQ l).length = _ at hl32
  obtain ⟨ay, b32, aK, ap, ao, an⟩ := pol_at ((cut_V (hx.ext (af.t al.ext))).ext (ak.t (aj.t (ad.trans ae)))) (i := i2) xq
  refine zya 31 (aK + i2 * 3) (n := (Nt.trimQ l).length) (off := aK) (sz := 3) (i := (i2 : Int)) xq ap xq xq sl27 (zym 32 ay.cs ao ty32 (zzk 9 ⟨32, zw3⟩ (zza 8 (zI i2) (zzj ⟨32, ay.cs⟩ ty32 ?_))))
  refine zzb (zzf (zza 34 (.slc 25 0 ((Nt.trimQ l).length) ((Nt.trimQ l).length)) (zza 35 (zI i2) (zzi 36 (.v (ay.v)) ty32 zze (zzi 37 (.v (r.v)) ty32 zze (zzg 38 138 _ fun _ _ ai aU => qym (k_ratDiv1 aU (an.ext ai) (hms.ext (ae.trans ai)).raw (Nt.msr_ne (Nt.trim_nrm l) xq) xq xq) ?_))))))
  rintro _ u36 aF ⟨ah, rfl, aW⟩
  refine zza 33 (.v (.tuple #[ah.v, .int .i64 0])) (zza 39 (.v (ah.v)) (zza 40 (zI 0) (zyw 41 (off' := i2 * 3) (n := (Nt.trimQ l).length) (off := 0) (sz := 3) (i := (i2 : Int)) sl27 xq xq xq ?_)))
  refine zyv (V := ⟨32, rcs L2⟩) (off := i2 * 3) (rcs ((L2).set i2 ah)) ty32 zq (zyx (r := ah) (i := i2) zk rfl) ?_
  refine zzx ?_
  refine zzp (zzf (zyq 42 (x := zI (IntKind.i64.wrap ((i2 : Int) + 1))) (zI (i2 + 1 : Nat)) (eqI xk) (zza 28 (zI (i2 + 1 : Nat)) (zzx ?_))))
  have aw : i2 < ((Nt.trimQ l).map (· / Nt.msr (Nt.trimQ l))).length := by simp; omega
  refine ⟨_, ?_, _, by exact zzv _ _ _, i2 + 1, (L2).set i2 ah, rfl, by omega, by simpa using aN, rfl, (ae.t (ai.t aF.ext)), RatsN.tstep (aA.ext (ai.t aF.ext)) xq aw (RatN.more (K := (K + ((Nt.trimQ l).length * K + 2))) aW xq) (by simp [List.getElem?_eq_getElem (show i2 < (Nt.trimQ l).length by omega)])⟩
  omega
 have qhb31 := qyf ac
 refine zyc (zzp (zzd (zyp (r := 7) (t := 25) [7, 25] xw xj (by rfl) (by rfl) xj (fun ag aZ aH aT aq => ?_))))
 have am : PolN aZ ⟨some ⟨ag, 0, none⟩, (Nt.trimQ l).length, (Nt.trimQ l).length⟩ ((Nt.trimQ l).map (· / Nt.msr (Nt.trimQ l))) (K + ((Nt.trimQ l).length * K + 2)) := pol_data1 aq yk (RatsN.tdone (aA.ext aH) xq yw) xq
 refine zzf (zzi 43 (.v (r.v)) ty32 zze (zza 44 (.v (.slice (some ⟨ag, 0, none⟩) ((Nt.trimQ l).length) ((Nt.trimQ l).length))) (zzj ⟨32, r.cs⟩ ty32 ?_)))
 refine zza 3 (.v (.slice (some ⟨ag, 0, none⟩) ((Nt.trimQ l).length) ((Nt.trimQ l).length))) (zzb (zzo (ret0 [r.v, .slice (some ⟨ag, 0, none⟩) ((Nt.trimQ l).length) ((Nt.trimQ l).length)] ⟨zzr ty32 zze, zzq, trivial⟩ fun u46 aE => ?_)))
 exact ⟨r, (⟨some ⟨ag, 0, none⟩, (Nt.trimQ l).length, (Nt.trimQ l).length⟩ : Sl), rfl, (hms.ext (ae.trans (aH.trans aE))), (am.ext aE)⟩
theorem k_poMul {u w : World} {x : Sl} {l : List Rat} {y : Sl} {m : List Rat} {K M : Nat} (d : Dat u w) (hx : PolV u x l K) (hy : PolV u y m M) (hB : Nt.mlK l.length m.length K M ≤ 30000000) (hK1 : (l.length + 1) * K ≤ 20000000) (hM1 : (m.length + 1) * M ≤ 20000000) (hx9 : l.length ≤ 100000000) (hy9 : m.length ≤ 100000000) : qyc 130 #[x.v, y.v] w (Post u w fun v u' => ∃ y : Sl, v = y.v ∧ PolN u' y (Nt.trimQ (Nt.mulQ l m)) (Nt.mlK l.length m.length K M)) := by
 have hlen := hx.len
 have hlen2 := hy.len
 have htl := zzh l
 have htm := zzh m
 have hB2 := Nat.le_trans (Nt.mlK_mono htl htm (Nat.le_refl K) (Nat.le_refl M)) hB
 have hB3 : Nt.kk ((K + ((Nt.trimQ l).length * K + 2)) + (M + ((Nt.trimQ m).length * M + 2)) + 1) ((Nt.trimQ l).length * (Nt.trimQ m).length) + (((Nt.trimQ l).length * K + 2) + ((Nt.trimQ m).length * M + 2)) ≤ 30000000 := hB2
 have hK2 := hK1
 have hM2 := hM1
 rw [Nat.add_mul] at hK2 hM2
 have hKK : (Nt.trimQ l).length * K ≤ l.length * K := Nat.mul_le_mul_right _ htl
 have hMM : (Nt.trimQ m).length * M ≤ m.length * M := Nat.mul_le_mul_right _ htm
 refine zzm (args := [x.v, y.v]) Tryz.func130 rfl Tryz.ntmps130 (rs := [.tmp 4]) Tryz.results130 (le_b rfl) (le_b rfl) d ?_
 refine sq9 (zza 4 (.v (qyn)) (zzb (sq9 (zza 15 (.v (x.v)) (zzg 16 179 _ fun _ _ aG bj => qym (k_split bj (hx.ext aG) xq xz) ?_)))))
 rintro _ u16 aW ⟨al, aa, rfl, bh, aO⟩
 have aw : aa.n = (Nt.trimQ l).length := by have h9 := aO.len; simpa using h9
 refine zza 14 (.v (.tuple #[al.v, aa.v])) (zza 17 (.v (al.v)) (zza 18 (.v (aa.v)) (zzk 5 ⟨32, zw3⟩ (zzj ⟨32, al.cs⟩ ty32 ?_))))
 refine zza 6 (.v (aa.v)) (zzb (sq9 (zza 20 (.v (y.v)) (zzg 21 179 _ fun _ _ ap a9 => qym (k_split a9 (hy.ext (aG.t (aW.t ap))) xq xz) ?_))))
 rintro _ u24 aA ⟨aj, ac, rfl, bm, aH⟩
 have ar : ac.n = (Nt.trimQ m).length := by have h9 := aH.len; simpa using h9
 refine zza 19 (.v (.tuple #[aj.v, ac.v])) (zza 22 (.v (aj.v)) (zza 23 (.v (ac.v)) (zzk 7 ⟨32, zw3⟩ (zzj ⟨32, aj.cs⟩ ty32 ?_))))
 refine zza 8 (.v (ac.v)) (zzb (zzd (sq9 (zza 24 (.v (aa.v)) (zza 25 (zI aa.n) (zza 26 (zB ((aa.n : Int) == 0)) ?_))))))
 rcases Bool.eq_false_or_eq_true ((aa.n : Int) == 0) with hs27 | hs27
 ·refine zyq 27 (x := zB ((aa.n : Int) == 0)) (zB true) (by rw [hs27]) ?_
  have aq : (aa.n : Int) = 0 := by simpa using hs27
  refine zzn 28 (uw 3 false true 27) (zzn 29 (uw 3 false true 27) (zzn 30 (uw 3 false true 27) (zza 31 (zB true) (zzb (zyr xj (sq9 (zza 4 (.v (qyn)) (zzb (zzo (zzw (ret0 [qyn] ⟨zzq, trivial⟩ fun u28 e29 => ?_)))))))))))
  have e9 : Nt.trimQ l = [] := List.eq_nil_of_length_eq_zero xq
  rw [Nt.mul_nil (.inl e9)]
  exact ⟨⟨none, 0, 0⟩, rfl, pol_nil _ _⟩
 refine zyq 27 (x := zB ((aa.n : Int) == 0)) (zB false) (by rw [hs27]) ?_
 have aq : ¬ ((aa.n : Int) = 0) := by simpa using hs27
 refine zza 28 (.v (ac.v)) ?_ (hw := w1 3 false 27)
 refine zza 29 (zI ac.n) ?_ (hw := w1 3 false 27)
 refine zza 30 (zB ((ac.n : Int) == 0)) ?_ (hw := w1 3 false 27)
 refine zza 31 (zB ((ac.n : Int) == 0)) (zzb (zzu (b := (ac.n : Int) == 0) xj (fun ak => ?_) (fun ak => ?_)))
 ·have au : (ac.n : Int) = 0 := by simpa using ak
  refine sq9 (zza 4 (.v (qyn)) (zzb (zzo (zzw (ret0 [qyn] ⟨zzq, trivial⟩ fun u31 e32 => ?_)))))
  have e9 : Nt.trimQ m = [] := List.eq_nil_of_length_eq_zero xq
  rw [Nt.mul_nil (.inr e9)]
  exact ⟨⟨none, 0, 0⟩, rfl, pol_nil _ _⟩
 have au : ¬ ((ac.n : Int) = 0) := by simpa using ak
 refine zzs (zzp ?_)
 refine sq9 (zza 32 (.v (aa.v)) (zza 33 (zI aa.n) (zza 34 (.v (ac.v)) (zza 35 (zI ac.n) (zyq 36 (x := zI (IntKind.i64.wrap ((aa.n : Int) + (ac.n : Int)))) (zI (aa.n + ac.n : Nat)) (eqI xk) (zyq 37 (x := zI (IntKind.i64.wrap (((aa.n + ac.n : Nat) : Int) - 1))) (zI (((aa.n + ac.n) - 1 : Nat) : Int)) (eqI xk) (zzg 38 180 _ fun _ _ ai bq => qym (k_zeros (n := (aa.n + ac.n) - 1) bq xq) ?_)))))))
 rintro _ u40 an ⟨a1, be, rfl, ad, av, bl, hR39⟩
 refine zza 9 (.v (.slice (some ⟨a1, 0, none⟩) ((aa.n + ac.n) - 1) ((aa.n + ac.n) - 1))) (zzc 75 [(5, .adr 5 0), (6, .v (aa.v)), (7, .adr 7 0), (8, .v (ac.v)), (9, .v (.slice (some ⟨a1, 0, none⟩) ((aa.n + ac.n) - 1) ((aa.n + ac.n) - 1)))] [(5, ⟨32, al.cs⟩), (7, ⟨32, aj.cs⟩)] (zzd (zzd (sw_adopt (r := 9) (k := 9) (by rfl) ((Ext.refl _).cells av) (Nat.le_trans ((aG.t (aW.t (ap.t (aA.t ai)))).size) ad) xj (fun a8 ae => ?_)))))
 replace hR39 := (hR39.ext (Ext.refl _)).extB ((Ext.refl _).cells av) ae
 refine zzf (zza 39 (.v (aa.v)) (zza 40 (zI aa.n) (zza 41 (zI 0) (zzb (zzt (zyn (I := fun aT S' u' => ∃ (i : Nat) (L : List RL), (aT = (Nt.trimQ l).length - i) ∧ (i ≤ (Nt.trimQ l).length) ∧ (L.length = ((Nt.trimQ l).length + (Nt.trimQ m).length - 1)) ∧ (S' = St.of 75 [(5, .adr 5 0), (7, .adr 7 0), (8, .v (ac.v)), (9, .slc 9 0 ((aa.n + ac.n) - 1) ((aa.n + ac.n) - 1)), (39, .v (aa.v)), (40, zI aa.n), (41, zI i)] [(5, ⟨32, al.cs⟩), (7, ⟨32, aj.cs⟩), (9, ⟨32, rcs L⟩)]) ∧ (Ext a8 u') ∧ (RatsN u' L (Nt.outQ ((Nt.trimQ l).map (· / Nt.msr (Nt.trimQ l))) ((Nt.trimQ m).map (· / Nt.msr (Nt.trimQ m))) ((Nt.trimQ l).length + (Nt.trimQ m).length - 1) i) (Nt.kk ((K + ((Nt.trimQ l).length * K + 2)) + (M + ((Nt.trimQ m).length * M + 2)) + 1) (i * (Nt.trimQ m).length)))) (fun m S u1 u2 e h => by obtain ⟨i, L, hm, p0, p1, hS, hE, f0⟩ := h; exact ⟨i, L, hm, p0, p1, hS, hE.trans e, f0.ext e⟩) _ yz ⟨0, be, rfl, by omega, by omega, rfl, (Ext.refl _), (RatsN.more (K := 2) (by have h9 := hR39; rw [aw, ar] at h9; exact h9) (by unfold Nt.kk; omega))⟩ ?_))))))
 rintro aT _ aV ⟨i, L, a4, hi, hL, rfl, ag, hR⟩
 refine sq9 (zza 42 (zB (decide ((i : Int) < (aa.n : Int)))) (zzb (zzd (zzu (b := decide ((i : Int) < (aa.n : Int))) xj (fun ah => ?_) (fun ah => ?_)))))
 ·have qhb46 := qyt ah
  refine zzs (zzp ?_)
  refine zzd (zzt (sq9 (zza 43 (zI i) ?_)))
  have hl47 := (aO.ext (ap.t (aA.t (ai.trans ((ExtB.old ae an.ext ad).trans ag))))).len
  obtain ⟨ay, b47, aU, aB, aK, aR⟩ := pol_atN (aO.ext (ap.t (aA.t (ai.trans ((ExtB.old ae an.ext ad).trans ag))))) (i := i) xq
  refine zya 44 (aU + i * 3) (n := aa.n) (off := aU) (sz := 3) (i := (i : Int)) xq aB xq xq sl27 (zym 45 ay.cs aK ty32 (zzk 11 ⟨32, zw3⟩ (zza 10 (zI i) (zzj ⟨32, ay.cs⟩ ty32 ?_))))
  refine zzb (sq9 (zza 46 (.v (ac.v)) (zza 47 (zI ac.n) (zza 48 (zI 0) (zzb (zzt (zyn (I := fun aX S' u' => ∃ (j : Nat) (M9 : List RL), (aX = (Nt.trimQ m).length - j) ∧ (j ≤ (Nt.trimQ m).length) ∧ (M9.length = ((Nt.trimQ l).length + (Nt.trimQ m).length - 1)) ∧ (S' = St.of 75 [(5, .adr 5 0), (7, .adr 7 0), (8, .v (ac.v)), (9, .slc 9 0 ((aa.n + ac.n) - 1) ((aa.n + ac.n) - 1)), (10, zI i), (11, .adr 11 0), (39, .v (aa.v)), (40, zI aa.n), (41, zI i), (46, .v (ac.v)), (47, zI ac.n), (48, zI j)] [(5, ⟨32, al.cs⟩), (7, ⟨32, aj.cs⟩), (9, ⟨32, rcs M9⟩), (11, ⟨32, ay.cs⟩)]) ∧ (Ext aV u') ∧ (RatsN u' M9 (Nt.inn (Nt.outQ ((Nt.trimQ l).map (· / Nt.msr (Nt.trimQ l))) ((Nt.trimQ m).map (· / Nt.msr (Nt.trimQ m))) ((Nt.trimQ l).length + (Nt.trimQ m).length - 1) i) i (((Nt.trimQ l).map (· / Nt.msr (Nt.trimQ l))).getD i 0) ((Nt.trimQ m).map (· / Nt.msr (Nt.trimQ m))) j) (Nt.kk ((K + ((Nt.trimQ l).length * K + 2)) + (M + ((Nt.trimQ m).length * M + 2)) + 1) (i * (Nt.trimQ m).length + j)))) (fun m S u1 u2 e h => by obtain ⟨j, M9, hm, p0, p1, hS, hE, f0⟩ := h; exact ⟨j, M9, hm, p0, p1, hS, hE.trans e, f0.ext e⟩) _ yz ⟨0, L, rfl, by omega, by omega, rfl, (Ext.refl _), hR⟩ ?_)))))))
  rintro aX _ u48 ⟨j, M9, bc, hj, hM9, rfl, ao, hQ⟩
  have hmm := Nat.mul_le_mul_right (Nt.trimQ m).length (show i + 1 ≤ (Nt.trimQ l).length by omega)
  rw [Nat.add_mul] at hmm
  have hkk := Nt.kk_mono (W := ((K + ((Nt.trimQ l).length * K + 2)) + (M + ((Nt.trimQ m).length * M + 2)) + 1)) (t := i * (Nt.trimQ m).length + j) (t' := (Nt.trimQ l).length * (Nt.trimQ m).length) qyl xq
  have hk2 := Nt.kk_succ ((K + ((Nt.trimQ l).length * K + 2)) + (M + ((Nt.trimQ m).length * M + 2)) + 1) (i * (Nt.trimQ m).length + j)
  refine sq9 (zza 49 (zB (decide ((j : Int) < (ac.n : Int)))) (zzb (zzd (zzu (b := decide ((j : Int) < (ac.n : Int))) xj (fun am => ?_) (fun am => ?_)))))
  ·have qhb49 := qyt am
   refine zzs (zzp ?_)
   refine zzd (zzt (sq9 (zza 50 (zI j) ?_)))
   have hl50 := (aH.ext (ai.trans ((ExtB.old ae an.ext ad).trans (ag.trans ao)))).len
   obtain ⟨aC, b50, aZ, aQ, aE, aP⟩ := pol_atN (aH.ext (ai.trans ((ExtB.old ae an.ext ad).trans (ag.trans ao)))) (i := j) xq
   refine zya 51 (aZ + j * 3) (n := ac.n) (off := aZ) (sz := 3) (i := (j : Int)) xq aQ xq xq sl27 (zym 52 aC.cs aE ty32 (zzk 13 ⟨32, zw3⟩ (zza 12 (zI j) (zzj ⟨32, aC.cs⟩ ty32 ?_))))
   refine zzb (zzz [0, 0, 0, 6, 0, 0, 0, 96, 240, 496, 0, 0, 3072, 8176, 16383, 32767] [(0, []), (1, []), (2, []), (3, []), (4, []), (5, []), (6, []), (7, []), (8, []), (9, []), (10, []), (11, []), (12, []), (13, []), (14, []), (15, [])] xj xj (zza 53 (.slc 9 0 ((aa.n + ac.n) - 1) ((aa.n + ac.n) - 1)) (zza 54 (zI i) (zza 55 (zI j) (zyq 56 (x := zI (IntKind.i64.wrap ((i : Int) + (j : Int)))) (zI (i + j : Nat)) (eqI xk) (zza 57 (.slc 9 0 ((aa.n + ac.n) - 1) ((aa.n + ac.n) - 1)) (zza 58 (zI i) (zza 59 (zI j) (zyq 60 (x := zI (IntKind.i64.wrap ((i : Int) + (j : Int)))) (zI (i + j : Nat)) (eqI xk) (zyw 61 (off' := (i + j) * 3) (n := (aa.n + ac.n) - 1) (off := 0) (sz := 3) (i := ((i + j : Nat) : Int)) sl27 xq xq xq ?_))))))))))
   obtain ⟨a3, af⟩ : ∃ r : RL, (M9).getD (i + j) rl0 = r := ⟨_, rfl⟩
   refine zzi 62 (V := ⟨32, rcs M9⟩) (off := (i + j) * 3) (.v a3.v) ty32 (by have h9 := part_rcs (L := M9) (i := i + j) (off := (i + j) * 3) zk rfl; rw [af] at h9; exact h9) ?_
   have h52 := hQ.2 (i + j) zk
   rw [af] at h52
   refine zzi 63 (.v (ay.v)) ty32 zze (zzi 64 (.v (aC.v)) ty32 zze (zzg 65 113 _ fun _ _ ax bn => qym (k_ratMul bn (aR.ext (ao.trans ax)).raw (aP.ext ax).raw xq xq) ?_))
   rintro _ u56 aM ⟨r54, rfl, bd⟩
   refine zzg 66 112 _ fun _ _ az a7 => qym (k_ratAdd a7 (h52.ext (ax.t (aM.t az))).raw (bd.ext az).raw xq xq) ?_
   rintro _ u62 a2 ⟨aJ, rfl, a6⟩
   refine zyw 67 (off' := (i + j) * 3) (n := (aa.n + ac.n) - 1) (off := 0) (sz := 3) (i := ((i + j : Nat) : Int)) sl27 xq xq xq ?_
   refine zyv (V := ⟨32, rcs M9⟩) (off := (i + j) * 3) (rcs ((M9).set (i + j) aJ)) ty32 zq (zyx (r := aJ) (i := i + j) zk rfl) ?_
   refine zzx ?_
   refine zzp (zzf (zyq 68 (x := zI (IntKind.i64.wrap ((j : Int) + 1))) (zI (j + 1 : Nat)) (eqI xk) (zza 48 (zI (j + 1 : Nat)) (zzx ?_))))
   refine ⟨_, ?_, _, by exact zzv _ _ _, j + 1, (M9).set (i + j) aJ, rfl, by omega, by simp; omega, rfl, (ao.t (ax.t (aM.t (az.t a2.ext)))), (RatsN.set (i := i + j) (RatsN.more (K := Nt.kk ((K + ((Nt.trimQ l).length * K + 2)) + (M + ((Nt.trimQ m).length * M + 2)) + 1) (i * (Nt.trimQ m).length + j)) (hQ.ext (ax.t (aM.t (az.t a2.ext)))) (by show _ ≤ Nt.kk _ (i * (Nt.trimQ m).length + j + 1); omega)) yw (RatN.more (K := ((Nt.kk ((K + ((Nt.trimQ l).length * K + 2)) + (M + ((Nt.trimQ m).length * M + 2)) + 1) (i * (Nt.trimQ m).length + j)) + ((K + ((Nt.trimQ l).length * K + 2)) + (M + ((Nt.trimQ m).length * M + 2))) + 1)) a6 (by show _ ≤ Nt.kk _ (i * (Nt.trimQ m).length + j + 1); omega)))⟩
   omega
  have qhb49 := qyf am
  refine zyc (zzp (zzf (zyq 69 (x := zI (IntKind.i64.wrap ((i : Int) + 1))) (zI (i + 1 : Nat)) (eqI xk) (zza 41 (zI (i + 1 : Nat)) (zzx ?_)))))
  have bg : j = (Nt.trimQ m).length := by omega
  refine ⟨_, ?_, _, by exact zzv _ _ _, i + 1, M9, rfl, by omega, by omega, rfl, (ag.trans ao), (by have h9 := hQ; rw [bg, ← Nat.succ_mul] at h9; have e9 : ((Nt.trimQ m).map (· / Nt.msr (Nt.trimQ m))).length = (Nt.trimQ m).length := zv; show RatsN _ _ (Nt.inn _ _ _ _ ((Nt.trimQ m).map (· / Nt.msr (Nt.trimQ m))).length) _; rw [e9]; exact h9)⟩
  omega
 have qhb46 := qyf ah
 refine zyc (zzp (zzd ?_))
 have bp : i = (Nt.trimQ l).length := by omega
 have bo : RatsN aV L (Nt.outQ ((Nt.trimQ l).map (· / Nt.msr (Nt.trimQ l))) ((Nt.trimQ m).map (· / Nt.msr (Nt.trimQ m))) ((Nt.trimQ l).length + (Nt.trimQ m).length - 1) ((Nt.trimQ l).length)) (Nt.kk ((K + ((Nt.trimQ l).length * K + 2)) + (M + ((Nt.trimQ m).length * M + 2)) + 1) ((Nt.trimQ l).length * (Nt.trimQ m).length)) := by have h9 := hR; rw [bp] at h9; exact h9
 refine zyp (r := 9) (t := 9) [9] xw xj (by rfl) (by rfl) xj (fun aS br aD bb aI => ?_)
 have aN : PolN br ⟨some ⟨aS, 0, none⟩, (aa.n + ac.n) - 1, (aa.n + ac.n) - 1⟩ (Nt.outQ ((Nt.trimQ l).map (· / Nt.msr (Nt.trimQ l))) ((Nt.trimQ m).map (· / Nt.msr (Nt.trimQ m))) ((Nt.trimQ l).length + (Nt.trimQ m).length - 1) ((Nt.trimQ l).length)) (Nt.kk ((K + ((Nt.trimQ l).length * K + 2)) + (M + ((Nt.trimQ m).length * M + 2)) + 1) ((Nt.trimQ l).length * (Nt.trimQ m).length)) := pol_data1 aI yk (bo.ext aD) xq
 refine zzf (zza 70 (.v (.slice (some ⟨aS, 0, none⟩) ((aa.n + ac.n) - 1) ((aa.n + ac.n) - 1))) (zzi 71 (.v (al.v)) ty32 zze (zzi 72 (.v (aj.v)) ty32 zze (zzg 73 113 _ fun _ _ aL bi => qym (k_ratMul bi (bh.ext (ap.t (aA.t (ai.trans ((ExtB.old ae an.ext ad).trans (ag.trans (aD.trans aL))))))).raw (bm.ext (ai.trans ((ExtB.old ae an.ext ad).trans (ag.trans (aD.trans aL))))).raw xq xq) ?_))))
 rintro _ u74 bf ⟨r72, rfl, bk⟩
 refine zzg 74 116 _ fun _ _ aY a5 => qym (k_poScale a5 (aN.ext (aL.t (bf.t aY))).raw (bk.ext aY).raw xq xz xq) ?_
 rintro _ u80 g81 ⟨aF, rfl, a0⟩
 have hly78 := a0.len
 refine zza 4 (.v (aF.v)) (zzb (zzo (ret0 [aF.v] ⟨zzq, trivial⟩ fun u83 ba => ?_)))
 have h8 := Nt.mul_parts (Nt.msr_ne (Nt.trim_nrm l) xq) (Nt.msr_ne (Nt.trim_nrm m) xq) (l := (Nt.trimQ l)) (m := (Nt.trimQ m)) xq xq
 refine ⟨aF, rfl, PolN.more (K := ((Nt.kk ((K + ((Nt.trimQ l).length * K + 2)) + (M + ((Nt.trimQ m).length * M + 2)) + 1) ((Nt.trimQ l).length * (Nt.trimQ m).length)) + (((Nt.trimQ l).length * K + 2) + ((Nt.trimQ m).length * M + 2)))) ?_ ?_⟩
 ·rw [← Nt.mul_trim, ← h8]
  exact (a0.ext ba)
 exact Nat.le_trans (Nat.add_le_add_left qyl _) (Nt.mlK_mono (n := (Nt.trimQ l).length) (m := (Nt.trimQ m).length) htl htm (Nat.le_refl K) (Nat.le_refl M))
end Go.Proofs.YtgmkhhfbckjaeaaGreat
