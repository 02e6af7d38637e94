/- Parts of the proof: contracts of functions, each walked once, and plain laws. -/
import Derived.Test.YtgmkhhfbckjaeaaGreatTctC
set_option linter.unusedVariables false
namespace Go.Proofs.YtgmkhhfbckjaeaaGreat
open Go.RowKit
theorem k_natural {u w : World} {x : Sl} (d : Dat u w) : Calls Tryz.prog 152 #[x.v] w (Post u w fun v _ => v = .agg #[.bool false, x.v]) := by
 refine zzm (args := [x.v]) Tryz.func152 rfl Tryz.ntmps152 (rs := [.cell 2 30]) Tryz.results152 (le_b rfl) (le_b rfl) d ?_
 refine sq9 (zzk 2 ⟨30, [.bool false, .slice none 0 0]⟩ (zzb (sq9 (zza 3 (.v (x.v)) (zza 4 (.v (.agg #[.bool false, x.v])) (zzj ⟨30, [.bool false, x.v]⟩ ty30 ?_))))))
 refine zzb (zzo (ret0 [.agg #[.bool false, x.v]] ⟨zzr ty30 zze, trivial⟩ fun u11 e12 => ?_))
 exact rfl
theorem k_whole {u w : World} {i : IL} (d : Dat u w) : Calls Tryz.prog 164 #[i.v] w (Post u w fun v u' => ∃ y : Sl, v = .agg #[.bool i.s, i.m.v, y.v] ∧ NatN u' y 1 1) := by
 refine zzm (args := [i.v]) Tryz.func164 rfl Tryz.ntmps164 (rs := [.cell 2 32]) Tryz.results164 (le_b rfl) (le_b rfl) d ?_
 refine sq9 (zzk 1 ⟨30, i.cs⟩ (zzk 2 ⟨32, zw3⟩ (zzb (sq9 (zzi 3 (.v (i.v)) ty30 zze (zxy 4 ⟨133, [.int .u32 1]⟩ 1 (fun aa u12 e13 ab => ?_)))))))
 refine zza 5 (.v (.agg #[.bool i.s, i.m.v, .slice (some ⟨aa, 0, none⟩) 1 1])) (zzj ⟨32, i.cs ++ [.slice (some ⟨aa, 0, none⟩) 1 1]⟩ ty32 ?_)
 refine zzb (zzo (ret0 [.agg #[.bool i.s, i.m.v, .slice (some ⟨aa, 0, none⟩) 1 1]] ⟨zzr ty32 zze, trivial⟩ fun u15 ac => ?_))
 exact ⟨_, rfl, ((one_data ab).ext ac)⟩
theorem k_quotient {u w : World} {i j : IL} (d : Dat u w) : Calls Tryz.prog 168 #[i.v, j.v] w (Post u w fun v _ => v = .agg #[.bool (!(i.s == j.s)), i.m.v, j.m.v]) := by
 refine zzm (args := [i.v, j.v]) Tryz.func168 rfl Tryz.ntmps168 (rs := [.cell 4 195]) Tryz.results168 (le_b rfl) (le_b rfl) d ?_
 refine sq9 (zzk 2 ⟨30, i.cs⟩ (zzk 3 ⟨30, j.cs⟩ (zzk 4 ⟨195, zw3⟩ (zzb (sq9 (zza 5 (.adr 2 0) (zzi 6 (zB i.s) ty4 zzl (zza 7 (.adr 3 0) (zzi 8 (zB j.s) ty4 zzl (zza 9 (zB (!(i.s == j.s))) (zza 10 (.adr 2 1) ?_)))))))))))
 refine zzi 11 (.v (i.m.v)) ty28 zzl (zza 12 (.v (.agg #[.bool (!(i.s == j.s)), i.m.v])) (zza 13 (.adr 3 1) (zzi 14 (.v (j.m.v)) ty28 zzl (zza 15 (.v (.agg #[.bool (!(i.s == j.s)), i.m.v, j.m.v])) (zzj ⟨195, [.bool (!(i.s == j.s)), i.m.v, j.m.v]⟩ ty195 ?_)))))
 refine zzb (zzo (ret0 [.agg #[.bool (!(i.s == j.s)), i.m.v, j.m.v]] ⟨zzr ty195 zze, trivial⟩ fun u11 e12 => ?_))
 exact rfl
set_option maxHeartbeats 1000000 in
theorem k_read {u w : World} {r : RL} {q : Rat} {K : Nat} (d : Dat u w) (h : RatV u r q K) : Calls Tryz.prog 148 #[r.v] w (Post u w fun v u' => ∃ (r' : RL) (wh : Bool), v = .agg #[.bool r'.s, r'.m.v, r'.d.v, .bool wh] ∧ NumV u' r' wh q K) := by
 obtain ⟨⟨z, D, hi, hd, hq⟩, hK⟩ := h
 change IntV u ⟨r.s, r.m⟩ z K at hi
 change NatV u r.d D K at hd
 by_cases hn : r.d.n = 1
 ·obtain ⟨b, o, ha, hc⟩ := nat_digit hd hn
  by_cases hD : D = 1
  ·refine zzm (args := [r.v]) Tryz.func148 rfl Tryz.ntmps148 (rs := [.cell 2 197]) Tryz.results148 (le_b rfl) (le_b rfl) d ?_
   refine sq9 (zzk 1 ⟨32, r.cs⟩ (zzk 2 ⟨197, [.bool false, .slice none 0 0, .slice none 0 0, .bool false]⟩ (zzb (zzd (sq9 (zza 3 (.adr 1 2) (zzi 4 (.v (r.d.v)) ty28 zzl (zza 5 (zI r.d.n) (zyq 6 (x := zB ((r.d.n : Int) == 1)) (zB true) (by rw [show ((r.d.n : Int) == 1) = true from (by simp [hn])]) (zza 7 (zB true) (zza 8 (.adr 1 2) ?_ (hw := w1 4 true 7))))))))))))
   refine zzi 9 (.v (r.d.v)) ty28 zzl ?_ (hw := w1 4 true 7)
   refine zya 10 o (i := 0) (n := r.d.n) zj ha xq (by rw [hn]; decide) sl28 ?_ (hw := w1 4 true 7)
   refine zyl 11 (.int .u32 D) ((Ext.refl _).cell hc) ty133 ?_ (hw := w1 4 true 7)
   refine zyq 12 (x := zB ((D : Int) == 1)) (zB true) (by rw [show ((D : Int) == 1) = true from (by simp [hD])]) ?_ (hw := w1 4 true 7)
   refine zza 13 (zB true) (zzb (zyr xj (sq9 (zza 14 (.adr 1 0) (zzi 15 (.v (.agg #[.bool r.s, r.m.v])) ty30 zze (zza 16 (.adr 1 2) (zzi 17 (.v (r.d.v)) ty28 zzl (zza 18 (.v (r.v)) (zza 19 (.v (.agg #[.bool r.s, r.m.v, r.d.v, .bool true])) (zzj ⟨197, r.cs ++ [.bool true]⟩ ty197 ?_))))))))))
   refine zzb (zzo (zzw (ret0 [.agg #[.bool r.s, r.m.v, r.d.v, .bool true]] ⟨zzr ty197 zze, trivial⟩ fun am aj => ?_)))
   exact ⟨r, true, rfl, z, D, hi.ext aj, hd.ext aj, by omega, hq, fun _ => hD, hK⟩
  refine zzm (args := [r.v]) Tryz.func148 rfl Tryz.ntmps148 (rs := [.cell 2 197]) Tryz.results148 (le_b rfl) (le_b rfl) d ?_
  refine sq9 (zzk 1 ⟨32, r.cs⟩ (zzk 2 ⟨197, [.bool false, .slice none 0 0, .slice none 0 0, .bool false]⟩ (zzb (zzd (sq9 (zza 3 (.adr 1 2) (zzi 4 (.v (r.d.v)) ty28 zzl (zza 5 (zI r.d.n) (zyq 6 (x := zB ((r.d.n : Int) == 1)) (zB true) (by rw [show ((r.d.n : Int) == 1) = true from (by simp [hn])]) (zza 7 (zB true) (zza 8 (.adr 1 2) ?_ (hw := w1 4 true 7))))))))))))
  refine zzi 9 (.v (r.d.v)) ty28 zzl ?_ (hw := w1 4 true 7)
  refine zya 10 o (i := 0) (n := r.d.n) zj ha xq (by rw [hn]; decide) sl28 ?_ (hw := w1 4 true 7)
  refine zyl 11 (.int .u32 D) ((Ext.refl _).cell hc) ty133 ?_ (hw := w1 4 true 7)
  refine zyq 12 (x := zB ((D : Int) == 1)) (zB false) (by rw [show ((D : Int) == 1) = false from zq]) ?_ (hw := w1 4 true 7)
  refine zza 13 (zB false) (zzb (zys xj (zzs (zzp ?_))))
  refine zzd (sq9 (zza 20 (.adr 1 2) (zzi 21 (.v (r.d.v)) ty28 zzl (zzg 22 166 [r.d.v, .slice none 0 0] ?_))))
  intro w11 am ac ai
  have k14 := k_natCompare ai (hd.ext ac) (nat_nil _ 1)
  with_reducible refine zPm k14 ?_
  rintro _ ak ae rfl
  refine zza 23 (zB ((Nt.cmpS D 0) == 0)) (zzb (zzu (b := (Nt.cmpS D 0) == 0) xj (fun aa => ?_) (fun aa => ?_)))
  ·refine sq9 (zza 24 (.v (.agg #[.bool false, .slice none 0 0])) (zxy 25 ⟨133, [.int .u32 1]⟩ 1 (fun ab al ao ag => ?_)))
   refine zza 26 (.v (.agg #[.bool false, .slice none 0 0, .slice (some ⟨ab, 0, none⟩) 1 1])) (zza 27 (.v (.agg #[.bool false, .slice none 0 0, .slice (some ⟨ab, 0, none⟩) 1 1, .bool true])) (zzj ⟨197, [.bool false, .slice none 0 0, .slice (some ⟨ab, 0, none⟩) 1 1, .bool true]⟩ ty197 ?_))
   refine zzb (zzo (zzw (ret0 [.agg #[.bool false, .slice none 0 0, .slice (some ⟨ab, 0, none⟩) 1 1, .bool true]] ⟨zzr ty197 zze, trivial⟩ fun ap ah => ?_)))
   have ad : D = 0 := (Nt.cmp_nat0 aa).1 rfl
   refine ⟨⟨false, ⟨none, 0, 0⟩, (⟨some ⟨ab, 0, none⟩, 1, 1⟩ : Sl)⟩, true, rfl, 0, 1, (⟨0, nat_nil _ K, rfl⟩ : IntV _ ⟨false, ⟨none, 0, 0⟩⟩ 0 K), ((one_data ag).ext ah).raw.more hK, by omega, ?_, fun _ => rfl, hK⟩
   rw [hq, ad]; simp
  refine zzs (zzp ?_)
  refine sq9 (zza 28 (.adr 1 0) (zzi 29 (.v (.agg #[.bool r.s, r.m.v])) ty30 zze (zza 30 (.adr 1 2) (zzi 31 (.v (r.d.v)) ty28 zzl (zza 32 (.v (r.v)) (zza 33 (.v (.agg #[.bool r.s, r.m.v, r.d.v, .bool false])) (zzj ⟨197, r.cs ++ [.bool false]⟩ ty197 ?_)))))))
  refine zzb (zzo (ret0 [.agg #[.bool r.s, r.m.v, r.d.v, .bool false]] ⟨zzr ty197 zze, trivial⟩ fun an af => ?_))
  have ad : 0 < D := (Nt.cmp_nat0 aa).2 rfl
  exact ⟨r, false, rfl, z, D, hi.ext (ac.t (ae.t af)), hd.ext (ac.t (ae.t af)), ad, hq, (fun k => by cases k), hK⟩
 refine zzm (args := [r.v]) Tryz.func148 rfl Tryz.ntmps148 (rs := [.cell 2 197]) Tryz.results148 (le_b rfl) (le_b rfl) d ?_
 refine sq9 (zzk 1 ⟨32, r.cs⟩ (zzk 2 ⟨197, [.bool false, .slice none 0 0, .slice none 0 0, .bool false]⟩ (zzb (zzd (sq9 (zza 3 (.adr 1 2) (zzi 4 (.v (r.d.v)) ty28 zzl (zza 5 (zI r.d.n) (zyq 6 (x := zB ((r.d.n : Int) == 1)) (zB false) (by rw [show ((r.d.n : Int) == 1) = false from zq]) (zza 7 (zB false) (zzn 8 (uw 4 true false 7) ?_)))))))))))
 refine zzn 9 (uw 4 true false 7) (zzn 10 (uw 4 true false 7) (zzn 11 (uw 4 true false 7) (zzn 12 (uw 4 true false 7) (zza 13 (zB false) (zzb (zys xj (zzs (zzp ?_))))))))
 refine zzd (sq9 (zza 20 (.adr 1 2) (zzi 21 (.v (r.d.v)) ty28 zzl (zzg 22 166 _ fun _ _ ac ai => Post.mono (k_natCompare ai (hd.ext ac) (nat_nil _ 1)) ?_))))
 rintro _ ak ae rfl
 refine zza 23 (zB ((Nt.cmpS D 0) == 0)) (zzb (zzu (b := (Nt.cmpS D 0) == 0) xj (fun aa => ?_) (fun aa => ?_)))
 ·refine sq9 (zza 24 (.v (.agg #[.bool false, .slice none 0 0])) (zxy 25 ⟨133, [.int .u32 1]⟩ 1 (fun ab al ao ag => ?_)))
  refine zza 26 (.v (.agg #[.bool false, .slice none 0 0, .slice (some ⟨ab, 0, none⟩) 1 1])) (zza 27 (.v (.agg #[.bool false, .slice none 0 0, .slice (some ⟨ab, 0, none⟩) 1 1, .bool true])) (zzj ⟨197, [.bool false, .slice none 0 0, .slice (some ⟨ab, 0, none⟩) 1 1, .bool true]⟩ ty197 ?_))
  refine zzb (zzo (zzw (ret0 [.agg #[.bool false, .slice none 0 0, .slice (some ⟨ab, 0, none⟩) 1 1, .bool true]] ⟨zzr ty197 zze, trivial⟩ fun ap ah => ?_)))
  have ad : D = 0 := (Nt.cmp_nat0 aa).1 rfl
  refine ⟨⟨false, ⟨none, 0, 0⟩, (⟨some ⟨ab, 0, none⟩, 1, 1⟩ : Sl)⟩, true, rfl, 0, 1, (⟨0, nat_nil _ K, rfl⟩ : IntV _ ⟨false, ⟨none, 0, 0⟩⟩ 0 K), ((one_data ag).ext ah).raw.more hK, by omega, ?_, fun _ => rfl, hK⟩
  rw [hq, ad]; simp
 refine zzs (zzp ?_)
 refine sq9 (zza 28 (.adr 1 0) (zzi 29 (.v (.agg #[.bool r.s, r.m.v])) ty30 zze (zza 30 (.adr 1 2) (zzi 31 (.v (r.d.v)) ty28 zzl (zza 32 (.v (r.v)) (zza 33 (.v (.agg #[.bool r.s, r.m.v, r.d.v, .bool false])) (zzj ⟨197, r.cs ++ [.bool false]⟩ ty197 ?_)))))))
 refine zzb (zzo (ret0 [.agg #[.bool r.s, r.m.v, r.d.v, .bool false]] ⟨zzr ty197 zze, trivial⟩ fun an af => ?_))
 have ad : 0 < D := (Nt.cmp_nat0 aa).2 rfl
 exact ⟨r, false, rfl, z, D, hi.ext (ac.t (ae.t af)), hd.ext (ac.t (ae.t af)), ad, hq, (fun k => by cases k), hK⟩
theorem k_isOne {u w : World} {x : Sl} {N K : Nat} (d : Dat u w) (h : NatN u x N K) : Calls Tryz.prog 201 #[x.v] w (Post u w fun v _ => v = .bool (decide (N = 1))) := by
 by_cases hn : x.n = 1
 ·obtain ⟨b, o, ha, hc⟩ := nat_digit h.raw hn
  refine zzm (args := [x.v]) Tryz.func201 rfl Tryz.ntmps201 (rs := [.tmp 2]) Tryz.results201 (le_b rfl) (le_b rfl) d ?_
  refine sq9 (zza 2 (zB false) (zzb (sq9 (zza 3 (.v (x.v)) (zza 4 (zI x.n) (zyq 5 (x := zB ((x.n : Int) == 1)) (zB true) (by rw [show ((x.n : Int) == 1) = true from (by simp [hn])]) (zza 6 (zB true) (zza 7 (.v (x.v)) ?_ (hw := w1 3 true 6)))))))))
  refine zya 8 o (i := 0) (n := x.n) zj ha xq (by rw [hn]; decide) sl28 ?_ (hw := w1 3 true 6)
  refine zyl 9 (.int .u32 N) ((Ext.refl _).cell hc) ty133 ?_ (hw := w1 3 true 6)
  refine zza 10 (zB ((N : Int) == 1)) ?_ (hw := w1 3 true 6)
  refine zza 11 (zB ((N : Int) == 1)) (zza 2 (zB ((N : Int) == 1)) (zzb (zzo (ret0 [.bool ((N : Int) == 1)] ⟨zzq, trivial⟩ fun ab aa => ?_))))
  show Value.bool _ = Value.bool _
  congr 1
  rw [Bool.eq_iff_iff]
  simp <;> omega
 have hN : N ≠ 1 := fun e => hn (by rw [h.1, e, Nt.dl_one])
 refine zzm (args := [x.v]) Tryz.func201 rfl Tryz.ntmps201 (rs := [.tmp 2]) Tryz.results201 (le_b rfl) (le_b rfl) d ?_
 refine sq9 (zza 2 (zB false) (zzb (sq9 (zza 3 (.v (x.v)) (zza 4 (zI x.n) (zyq 5 (x := zB ((x.n : Int) == 1)) (zB false) (by rw [show ((x.n : Int) == 1) = false from zq]) (zza 6 (zB false) (zzn 7 (uw 3 true false 6) (zzn 8 (uw 3 true false 6) (zzn 9 (uw 3 true false 6) (zzn 10 (uw 3 true false 6) ?_)))))))))))
 refine zza 11 (zB false) (zza 2 (zB false) (zzb (zzo (ret0 [.bool false] ⟨zzq, trivial⟩ fun ab aa => ?_))))
 show _ = _
 simp [tupV]
 exact hN
set_option maxHeartbeats 1000000 in
theorem k_lowest {u w : World} {i : IL} {z : Int} {y : Sl} {D K L : Nat} (d : Dat u w) (h1 : IntV u i z K) (hD : NatV u y D L) (hp : 0 < D) (hK : K ≤ 500000000) (hL : L ≤ 500000000) : Calls Tryz.prog 149 #[.agg #[.bool i.s, i.m.v, y.v]] w (Post u w fun v u' => ∃ r : RL, v = r.v ∧ RatN u' r (mkRat z D) (max K L)) := by
 obtain ⟨N, hN, hz⟩ := h1
 have hL1 : 1 ≤ L := by have h2 := hD.size; have h3 := Nt.dl_mono (x := D) (y := 1) xq; rw [Nt.dl_one] at h3; omega
 refine zzm (args := [.agg #[.bool i.s, i.m.v, y.v]]) Tryz.func149 rfl Tryz.ntmps149 (rs := [.cell 2 32]) Tryz.results149 (le_b rfl) (le_b rfl) d ?_
 refine sq9 (zzk 1 ⟨195, i.cs ++ [y.v]⟩ (zzk 2 ⟨32, zw3⟩ (zzb (sq9 (zza 14 (.adr 1 0) (zza 15 (.adr 1 1) (zzi 16 (.v (i.m.v)) ty28 zzl (zza 17 (.adr 1 2) (zzi 18 (.v (y.v)) ty28 zzl (zzg 19 195 _ fun _ _ ag aS => Post.mono (k_natDivMod aS (hN.ext ag) (hD.ext ag) hp xq xq) ?_))))))))))
 rintro _ u16 an ⟨am, af, rfl, aP, av⟩
 refine zza 13 (.v (.tuple #[am.v, af.v, .int .i64 0])) (zza 20 (.v (am.v)) (zza 21 (.v (af.v)) (zza 22 (zI 0) (zza 3 (.v (am.v)) (zza 4 (.v (af.v)) (zza 5 (zI 0) (zzb (zzd (sq9 (zza 23 (.v (af.v)) (zza 24 (zI af.n) ?_)))))))))))
 refine zza 25 (zB ((af.n : Int) == 0)) (zzb (zzu (b := (af.n : Int) == 0) xj (fun ab => ?_) (fun ab => ?_)))
 ·have ap : (af.n : Int) = 0 := by simpa using ab
  have hr : N % D = 0 := by have h7 := (av).pos; simp at ab; omega
  refine sq9 (zza 26 (.adr 1 0) (zza 27 (.adr 1 0) (zzi 28 (zB i.s) ty4 zzl (zza 29 (.v (am.v)) (zza 30 (.v (.agg #[.bool i.s, am.v])) (zzg 31 200 _ fun _ _ aO aJ => Post.mono (k_intTrim aJ (IntV.same (s := i.s) (aP.ext aO).raw) xq) ?_))))))
  rintro _ u23 g24 ⟨al, rfl, aM⟩
  refine zzg 32 164 _ fun _ _ aZ aR => Post.mono (k_whole (i := al) aR) ?_
  rintro _ u29 a2 ⟨au, rfl, aK⟩
  refine zzj ⟨32, al.cs ++ [au.v]⟩ ty32 ?_
  refine zzb (zzo (zzw (ret0 [.agg #[.bool al.s, al.m.v, au.v]] ⟨zzr ty32 zze, trivial⟩ fun u32 a1 => ?_)))
  refine ⟨(⟨al.s, al.m, au⟩ : RL), rfl, RatN.more (K := (max K 1)) ?_ xq⟩
  rw [hz, ← low1 hp hr]
  exact ((whole_rat (aM.ext (aZ.t a2.ext)) aK).ext a1)
 have ap : ¬ ((af.n : Int) = 0) := by simpa using ab
 have hr : N % D ≠ 0 := by have h7 := (av).pos; simp at ab; omega
 refine zzs (zzp ?_)
 refine sq9 (zza 33 (.adr 1 2) (zzi 34 (.v (y.v)) ty28 zzl (zza 35 (.v (af.v)) (zzg 36 198 _ fun _ _ aj aX => Post.mono (k_natGcd aX (hD.ext (ag.t (an.t aj))) (av.ext aj).raw xq xq) ?_))))
 rintro _ u37 aq ⟨ao, rfl, aA⟩
 refine zza 6 (.v (ao.v)) (zzb (zzd (sq9 (zza 37 (.v (ao.v)) (zzg 38 201 _ fun _ _ ai aW => Post.mono (k_isOne aW (aA.ext ai)) ?_)))))
 rintro _ u41 ak rfl
 refine zzb (zzu (b := decide ((Nat.gcd D (N % D)) = 1)) xj (fun ac => ?_) (fun ac => ?_))
 ·have qhb44 := of_decide_eq_true ac
  have hg : Nat.gcd D (N % D) = 1 := by simpa using ac
  have hgp : 0 < Nat.gcd D (N % D) := Nat.gcd_pos_of_pos_left _ hp
  refine zzd (zzz [0, 1, 3, 0, 8, 31, 63, 127] [(0, []), (1, []), (3, []), (4, []), (2, []), (5, []), (6, []), (7, [])] xj xj (zza 39 (.adr 1 0) (zzi 40 (.v (i.v)) ty30 zze (zza 42 (.adr 1 2) (zzi 43 (.v (y.v)) ty28 zzl (zzg 41 200 _ fun _ _ aF aG => Post.mono (k_intTrim aG (IntV.same (s := i.s) (hN.ext (ag.t (an.t (aj.t (aq.t (ai.t (ak.t aF)))))))) xq) ?_))))))
  rintro _ u48 aQ ⟨ae, rfl, aL⟩
  refine zzg 44 194 _ fun _ _ aE a0 => Post.mono (k_natTrim a0 (hD.ext (ag.t (an.t (aj.t (aq.t (ai.t (ak.t (aF.t (aQ.t aE))))))))) xq) ?_
  rintro _ u54 aN ⟨ah, rfl, aY⟩
  refine zza 45 (.v (.agg #[.bool ae.s, ae.m.v, ah.v])) (zzj ⟨32, ae.cs ++ [ah.v]⟩ ty32 ?_)
  refine zzc 70 [(2, .adr 2 0)] [(2, ⟨32, ae.cs ++ [ah.v]⟩)] (zzo (zzw (ret0 [.agg #[.bool ae.s, .slice ae.m.a ae.m.n ae.m.c, .slice ah.a ah.n ah.c]] ⟨zzr ty32 zze, trivial⟩ fun u57 aB => ?_)))
  refine ⟨(⟨ae.s, ae.m, ah⟩ : RL), rfl, ?_⟩
  rw [hz]
  exact low2 hp hg (aL.ext (aE.t (aN.t aB))) (aY.ext aB)
 have qhb44 := of_decide_eq_false ac
 have hg : ¬ Nat.gcd D (N % D) = 1 := by simpa using ac
 have hgp : 0 < Nat.gcd D (N % D) := Nat.gcd_pos_of_pos_left _ hp
 refine zzs (zzp ?_)
 refine sq9 (zza 47 (.adr 1 0) (zza 48 (.adr 1 1) (zzi 49 (.v (i.m.v)) ty28 zzl (zza 50 (.v (ao.v)) (zzg 51 195 _ fun _ _ ar aT => Post.mono (k_natDivMod aT (hN.ext (ag.t (an.t (aj.t (aq.t (ai.t (ak.t ar))))))) (aA.ext (ai.t (ak.t ar))).raw hgp xq xq) ?_)))))
 rintro _ u64 aC ⟨aa, ay, rfl, aH, h63⟩
 refine zza 46 (.v (.tuple #[aa.v, ay.v, .int .i64 0])) (zza 52 (.v (aa.v)) (zza 53 (.v (ay.v)) (zza 54 (zI 0) (zza 7 (.v (aa.v)) (zza 8 (.v (ay.v)) (zza 9 (zI 0) (zzc 70 [(1, .adr 1 0), (2, .adr 2 0), (6, .v (ao.v)), (7, .v (aa.v))] [(1, ⟨195, i.cs ++ [y.v]⟩), (2, ⟨32, zw3⟩)] (sq9 (zza 56 (.adr 1 2) (zzi 57 (.v (y.v)) ty28 zzl (zza 58 (.v (ao.v)) ?_)))))))))))
 refine zzg 59 195 _ fun _ _ aw aI => Post.mono (k_natDivMod aI (hD.ext (ag.t (an.t (aj.t (aq.t (ai.t (ak.t (ar.t (aC.t aw))))))))) (aA.ext (ai.t (ak.t (ar.t (aC.t aw))))).raw hgp xq xq) ?_
 rintro _ u72 aU ⟨ad, ax, rfl, aV, h71⟩
 refine zza 55 (.v (.tuple #[ad.v, ax.v, .int .i64 0])) (zza 60 (.v (ad.v)) (zza 61 (.v (ax.v)) (zza 62 (zI 0) (zza 10 (.v (ad.v)) (zza 11 (.v (ax.v)) (zza 12 (zI 0) (zzb (sq9 (zza 63 (.adr 1 0) (zza 64 (.adr 1 0) (zzi 65 (zB i.s) ty4 zzl ?_)))))))))))
 refine zza 66 (.v (aa.v)) (zza 67 (.v (.agg #[.bool i.s, aa.v])) (zza 68 (.v (ad.v)) (zza 69 (.v (.agg #[.bool i.s, aa.v, ad.v])) (zzj ⟨32, [.bool i.s, aa.v, ad.v]⟩ ty32 ?_))))
 refine zzb (zzo (ret0 [.agg #[.bool i.s, .slice aa.a aa.n aa.c, .slice ad.a ad.n ad.c]] ⟨zzr ty32 zze, trivial⟩ fun u75 aD => ?_))
 refine ⟨(⟨i.s, aa, ad⟩ : RL), rfl, RatN.more (K := max K L) ?_ xq⟩
 rw [hz]
 exact low3 hp hr (aH.ext (aw.t (aU.t aD))) (aV.ext aD)
theorem k_ratTrim {u w : World} {r1 : RL} {x : Rat} {K : Nat} (d : Dat u w) (hr1 : RatV u r1 x K) (hK : K ≤ 200000000) : Calls Tryz.prog 68 #[r1.v] w (Post u w fun v u' => ∃ r : RL, v = r.v ∧ RatN u' r x K) := by
 refine zzm (args := [r1.v]) Tryz.func68 rfl Tryz.ntmps68 (rs := [.cell 2 32]) Tryz.results68 (le_b rfl) (le_b rfl) d ?_
 refine sq9 (zzk 1 ⟨32, r1.cs⟩ (zzk 2 ⟨32, zw3⟩ (zzb (sq9 (zzi 3 (.v (r1.v)) ty32 zze (zzg 4 148 _ fun _ _ ah aj => Post.mono (k_read aj (hr1.ext ah)) ?_))))))
 rintro _ u13 g14 ⟨am, ao, rfl, z12, D12, ad, ab, aa, ac, ak, ag⟩
 refine zza 5 (.v (am.v)) (zzg 6 149 _ fun _ _ af al => Post.mono (k_lowest al (ad.ext af) (ab.ext af) aa xq xq) ?_)
 rintro _ u19 g20 ⟨ae, rfl, an⟩
 refine zzj ⟨32, ae.cs⟩ ty32 ?_
 refine zzb (zzo (ret0 [ae.v] ⟨zzr ty32 zze, trivial⟩ fun u22 ai => ?_))
 refine ⟨ae, rfl, RatN.more (K := (max K K)) ?_ xq⟩
 rw [ac]; exact (an.ext ai)
theorem k_ratOf {u w : World} {z : Int} (d : Dat u w) (h0 : -9223372036854775808 ≤ z) (h1 : z ≤ 9223372036854775807) : Calls Tryz.prog 109 #[.int .i64 z] w (Post u w fun v u' => ∃ r : RL, v = r.v ∧ RatN u' r (z : Rat) 2) := by
 refine zzm (args := [.int .i64 z]) Tryz.func109 rfl Tryz.ntmps109 (rs := [.cell 2 32]) Tryz.results109 (le_b rfl) (le_b rfl) d ?_
 refine sq9 (zzk 2 ⟨32, zw3⟩ (zzb (sq9 (zza 3 (zI z) (zzg 4 140 _ fun _ _ _ ag => Post.mono (k_intOf ag (z := z) xq xq) ?_)))))
 rintro _ u14 g15 ⟨aa, rfl, ah⟩
 refine zzg 5 164 _ fun _ _ af ai => Post.mono (k_whole (i := aa) ai) ?_
 rintro _ u20 ae ⟨ab, rfl, ad⟩
 refine zzj ⟨32, aa.cs ++ [ab.v]⟩ ty32 ?_
 refine zzb (zzo (ret0 [.agg #[.bool aa.s, aa.m.v, ab.v]] ⟨zzr ty32 zze, trivial⟩ fun u23 ac => ?_))
 refine ⟨(⟨aa.s, aa.m, ab⟩ : RL), rfl, RatN.more (K := (max 2 1)) ?_ xq⟩
 exact ((whole_rat (ah.ext (af.t ae.ext)) ad).ext ac)
theorem k_ratSign {u w : World} {r1 : RL} {x : Rat} {K : Nat} (d : Dat u w) (hr1 : RatV u r1 x K)  : Calls Tryz.prog 66 #[r1.v] w (Post u w fun v u' => v = .int .i64 (Nt.sgQ x)) := by
 refine zzm (args := [r1.v]) Tryz.func66 rfl Tryz.ntmps66 (rs := [.tmp 2]) Tryz.results66 (le_b rfl) (le_b rfl) d ?_
 refine sq9 (zzk 1 ⟨32, r1.cs⟩ (zza 2 (zI 0) (zzb (sq9 (zzi 3 (.v (r1.v)) ty32 zze (zzg 4 148 _ fun _ _ ah ai => Post.mono (k_read ai (hr1.ext ah)) ?_))))))
 rintro _ u13 g14 ⟨ad, am, rfl, ae, D12, ac, ag, aa, ab, aj, af⟩
 refine zza 5 (.v (ad.v)) (zza 6 (.v (.agg #[.bool ad.s, ad.m.v])) (zzg 7 147 _ fun _ _ al ak => Post.mono (k_intSign ak (ac.ext al)) ?_))
 rintro _ u17 g18 rfl
 refine zza 2 (zI (Nt.cmpS ae 0)) (zzb (zzo (ret0 [.int .i64 (Nt.cmpS ae 0)] ⟨zzq, trivial⟩ fun u20 e21 => ?_)))
 show _ = _
 rw [ab, ← Nt.sg_mk aa]
 rfl
theorem k_ratAbs {u w : World} {r1 : RL} {x : Rat} {K : Nat} (d : Dat u w) (hr1 : RatV u r1 x K) (hK : K ≤ 200000000) : Calls Tryz.prog 65 #[r1.v] w (Post u w fun v u' => ∃ r : RL, v = r.v ∧ RatN u' r (Nt.absQ x) K) := by
 refine zzm (args := [r1.v]) Tryz.func65 rfl Tryz.ntmps65 (rs := [.cell 2 32]) Tryz.results65 (le_b rfl) (le_b rfl) d ?_
 refine sq9 (zzk 1 ⟨32, r1.cs⟩ (zzk 2 ⟨32, zw3⟩ (zzb (sq9 (zza 3 (.adr 1 0) (zza 4 (.adr 1 1) (zzi 5 (.v (r1.m.v)) ty28 zzl (zza 6 (.v (.agg #[.bool false, r1.m.v])) (zza 7 (.adr 1 2) (zzi 8 (.v (r1.d.v)) ty28 zzl (zza 9 (.v (.agg #[.bool false, r1.m.v, r1.d.v])) ?_)))))))))))
 refine zzg 10 68 _ fun _ _ ab ac => Post.mono (k_ratTrim ac ((abs_rat hr1).ext ab) xq) ?_
 rintro _ u14 g15 ⟨aa, rfl, ae⟩
 refine zzj ⟨32, aa.cs⟩ ty32 ?_
 refine zzb (zzo (ret0 [aa.v] ⟨zzr ty32 zze, trivial⟩ fun u17 ad => ?_))
 refine ⟨aa, rfl, RatN.more (K := K) ?_ xq⟩
 exact (ae.ext ad)
set_option maxHeartbeats 1000000 in
theorem k_ratAdd {u w : World} {r1 : RL} {x : Rat} {K : Nat} {r2 : RL} {y : Rat} {L : Nat} (d : Dat u w) (hr1 : RatV u r1 x K) (hr2 : RatV u r2 y L) (hK : K ≤ 200000000) (hL : L ≤ 200000000) : Calls Tryz.prog 112 #[r1.v, r2.v] w (Post u w fun v u' => ∃ r : RL, v = r.v ∧ RatN u' r (x + y) (K + L + 1)) := by
 refine zzm (args := [r1.v, r2.v]) Tryz.func112 rfl Tryz.ntmps112 (rs := [.cell 4 32]) Tryz.results112 (le_b rfl) (le_b rfl) d ?_
 refine sq9 (zzk 2 ⟨32, r1.cs⟩ (zzk 3 ⟨32, r2.cs⟩ (zzk 4 ⟨32, zw3⟩ (zzb (zzd (zzz [0, 1, 0, 7, 0, 0, 63, 127] [(0, []), (2, []), (4, []), (5, []), (1, []), (3, []), (6, []), (7, [])] xj xj (zzi 8 (.v (r1.v)) ty32 zze (zzi 10 (.v (r2.v)) ty32 zze (zzk 5 ⟨197, [.bool false, .slice none 0 0, .slice none 0 0, .bool false]⟩ (zzk 6 ⟨197, [.bool false, .slice none 0 0, .slice none 0 0, .bool false]⟩ (zzg 9 148 _ fun _ _ bv bZ => Post.mono (k_read bZ (hr1.ext bv)) ?_)))))))))))
 rintro _ u13 bN ⟨aa, af, rfl, z12, aO, av, ad, ac, au, a8, ca⟩
 refine zzg 11 148 _ fun _ _ ag bG => Post.mono (k_read bG (hr2.ext (bv.t (bN.t ag)))) ?_
 rintro _ u18 ak ⟨ab, ae, rfl, z17, D17, aw, al, aD, ax, bq, cl⟩
 refine zzj ⟨197, aa.cs ++ [.bool af]⟩ ty197 ?_
 refine zzj ⟨197, ab.cs ++ [.bool ae]⟩ ty197 ?_
 refine zzb (zzd (sq9 (zza 12 (.adr 5 3) (zzi 13 (zB af) ty4 zzl ?_))))
 rcases Bool.eq_false_or_eq_true af with hs21 | hs21
 ·refine zyq 14 (x := zB af) (zB true) (by rw [hs21]) (zza 15 (.adr 6 3) ?_ (hw := w1 2 true 14))
  refine zzi 16 (zB ae) ty4 zzl ?_ (hw := w1 2 true 14)
  refine zza 17 (zB ae) (zzb (zzu (b := ae) xj (fun ar => ?_) (fun ar => ?_)))
  ·replace ar : ae = true := ar
   refine sq9 (zza 18 (.adr 5 0) (zza 19 (.adr 5 0) (zzi 20 (.v (.agg #[.bool aa.s, aa.m.v])) ty30 zze (zza 21 (.adr 6 0) (zza 22 (.adr 6 0) (zzi 23 (.v (.agg #[.bool ab.s, ab.m.v])) ty30 zze (zzg 24 165 _ fun _ _ bw b2 => Post.mono (k_intAdd b2 (av.ext (ag.t (ak.t bw))) (aw.ext bw) xq xq) ?_)))))))
   rintro _ u26 g27 ⟨aP, rfl, bM⟩
   refine zzg 25 164 _ fun _ _ bU cn => Post.mono (k_whole (i := aP) cn) ?_
   rintro _ u32 cj ⟨a6, rfl, bL⟩
   refine zzj ⟨32, aP.cs ++ [a6.v]⟩ ty32 ?_
   refine zzb (zzo (zzw (ret0 [.agg #[.bool aP.s, aP.m.v, a6.v]] ⟨zzr ty32 zze, trivial⟩ fun u35 b6 => ?_)))
   refine ⟨(⟨aP.s, aP.m, a6⟩ : RL), rfl, RatN.more (K := (max (max K L + 1) 1)) ?_ xq⟩
   rw [au, ax, a8 (by assumption), bq (by assumption), Nt.mk_one, Nt.mk_one, ← Rat.intCast_add]
   exact ((whole_rat (bM.ext (bU.t cj.ext)) bL).ext b6)
  replace ar : ae = false := ar
  refine zzs (zzp ?_)
  refine zzd (sq9 (zza 26 (.adr 5 0) (zza 27 (.adr 5 2) (zzi 28 (.v (aa.d.v)) ty28 zzl (zza 29 (.adr 6 0) (zza 30 (.adr 6 2) (zzi 31 (.v (ab.d.v)) ty28 zzl (zzg 32 166 _ fun _ _ an bH => Post.mono (k_natCompare bH (ad.ext (ag.t (ak.t an))) (al.ext an)) ?_))))))))
  rintro _ u38 aA rfl
  refine zza 33 (zB ((Nt.cmpS aO D17) == 0)) (zzb (zzu (b := (Nt.cmpS aO D17) == 0) xj (fun aX => ?_) (fun aX => ?_)))
  ·refine zzd (zzz [0, 1, 3, 0, 8, 24, 63, 0, 128, 384, 1023, 2047, 4095] [(0, []), (1, []), (2, []), (3, []), (4, []), (5, []), (7, []), (8, []), (9, []), (6, []), (10, []), (11, []), (12, [])] xj xj (zza 34 (.adr 5 0) (zza 35 (.adr 5 0) (zzi 36 (.v (.agg #[.bool aa.s, aa.m.v])) ty30 zze (zza 37 (.adr 6 0) (zza 38 (.adr 6 0) (zzi 39 (.v (.agg #[.bool ab.s, ab.m.v])) ty30 zze (zza 41 (.adr 5 0) (zza 42 (.adr 5 2) (zzi 43 (.v (aa.d.v)) ty28 zzl (zzg 40 165 _ fun _ _ bu bV => Post.mono (k_intAdd bV (av.ext (ag.t (ak.t (an.t (aA.t bu))))) (aw.ext (an.t (aA.t bu))) xq xq) ?_)))))))))))
   rintro _ u45 bQ ⟨bz, rfl, b3⟩
   refine zza 44 (.v (.agg #[.bool bz.s, bz.m.v, aa.d.v])) (zzg 45 149 _ fun _ _ bB cf => Post.mono (k_lowest cf (b3.ext bB).raw (ad.ext (ag.t (ak.t (an.t (aA.t (bu.t (bQ.t bB))))))) ac xq xq) ?_)
   rintro _ u51 g52 ⟨aZ, rfl, b9⟩
   refine zzj ⟨32, aZ.cs⟩ ty32 ?_
   refine zzc 73 [(4, .adr 4 0)] [(4, ⟨32, aZ.cs⟩)] (zzo (zzw (ret0 [aZ.v] ⟨zzr ty32 zze, trivial⟩ fun u54 bY => ?_)))
   refine ⟨aZ, rfl, RatN.more (K := (max (max K L + 1) K)) ?_ xq⟩
   have hD : aO = D17 := Nt.cmp_natE aX
   rw [au, ax, ← hD, ← Nt.add_same ac]
   exact (b9.ext bY)
  refine zzs (zzp ?_)
  refine zzd (zzz [0, 1, 3, 0, 8, 24, 56, 127, 0, 256, 768, 0, 2048, 6144, 14591, 32767, 65535, 0, 262143] [(0, []), (1, []), (2, []), (3, []), (4, []), (5, []), (8, []), (9, []), (10, []), (11, []), (12, []), (13, []), (17, []), (6, []), (7, []), (14, []), (15, []), (16, []), (18, [])] xj xj (zza 46 (.adr 5 0) (zza 47 (.adr 5 0) (zzi 48 (.v (.agg #[.bool aa.s, aa.m.v])) ty30 zze (zza 49 (.adr 6 0) (zza 50 (.adr 6 2) (zzi 51 (.v (ab.d.v)) ty28 zzl (zza 54 (.adr 6 0) (zza 55 (.adr 6 0) (zzi 56 (.v (.agg #[.bool ab.s, ab.m.v])) ty30 zze (zza 57 (.adr 5 0) ?_)))))))))))
  refine zza 58 (.adr 5 2) (zzi 59 (.v (aa.d.v)) ty28 zzl (zzk 7 ⟨30, [.bool false, .slice none 0 0]⟩ (zzg 52 152 _ fun _ _ aN bC => Post.mono (k_natural (x := ab.d) bC) ?_)))
  rintro _ u57 aL rfl
  refine zzg 53 143 _ fun _ _ aM cm => Post.mono (k_intMul cm (av.ext (ag.t (ak.t (an.t (aA.t (aN.t (aL.t aM))))))) (nat_int (al.ext (an.t (aA.t (aN.t (aL.t aM)))))) xq xq) ?_
  rintro _ u63 a0 ⟨i61, rfl, b8⟩
  refine zzg 60 152 _ fun _ _ aV b7 => Post.mono (k_natural (x := aa.d) b7) ?_
  rintro _ u67 aT rfl
  refine zzg 61 143 _ fun _ _ aQ b1 => Post.mono (k_intMul b1 (aw.ext (an.t (aA.t (aN.t (aL.t (aM.t (a0.t (aV.t (aT.t aQ))))))))) (nat_int (ad.ext (ag.t (ak.t (an.t (aA.t (aN.t (aL.t (aM.t (a0.t (aV.t (aT.t aQ)))))))))))) xq xq) ?_
  rintro _ u73 a3 ⟨i71, rfl, bR⟩
  refine zzg 62 165 _ fun _ _ a1 b0 => Post.mono (k_intAdd b0 (b8.ext (aV.t (aT.t (aQ.t (a3.t a1))))).raw (bR.ext a1).raw xq xq) ?_
  rintro _ u79 bx ⟨aU, rfl, bJ⟩
  refine zzj ⟨30, aU.cs⟩ ty30 ?_
  refine zzc 73 [(4, .adr 4 0), (5, .adr 5 0), (6, .adr 6 0), (7, .adr 7 0)] [(4, ⟨32, zw3⟩), (5, ⟨197, aa.cs ++ [.bool af]⟩), (6, ⟨197, ab.cs ++ [.bool ae]⟩), (7, ⟨30, aU.cs⟩)] (zzd (zzz [0, 0, 2, 6, 0, 16, 48, 126, 255, 511, 1023] [(0, []), (1, []), (2, []), (3, []), (4, []), (5, []), (6, []), (7, []), (8, []), (9, []), (10, [])] xj xj (zzi 63 (.v (aU.v)) ty30 zze (zza 64 (.adr 5 0) (zza 65 (.adr 5 2) (zzi 66 (.v (aa.d.v)) ty28 zzl (zza 67 (.adr 6 0) (zza 68 (.adr 6 2) (zzi 69 (.v (ab.d.v)) ty28 zzl (zzg 70 167 _ fun _ _ bs b4 => Post.mono (k_natMul b4 (ad.ext (ag.t (ak.t (an.t (aA.t (aN.t (aL.t (aM.t (a0.t (aV.t (aT.t (aQ.t (a3.t (a1.t (bx.t bs))))))))))))))) (al.ext (an.t (aA.t (aN.t (aL.t (aM.t (a0.t (aV.t (aT.t (aQ.t (a3.t (a1.t (bx.t bs))))))))))))) xq xq) ?_))))))))))
  rintro _ u85 ce ⟨bS, rfl, cp⟩
  refine zza 71 (.v (.agg #[.bool aU.s, aU.m.v, bS.v])) (zzg 72 149 _ fun _ _ bA bP => Post.mono (k_lowest bP (bJ.ext (bs.t (ce.t bA))).raw (cp.ext bA).raw (Nat.mul_pos ac aD) xq xq) ?_)
  rintro _ u91 g92 ⟨bf, rfl, bW⟩
  refine zzj ⟨32, bf.cs⟩ ty32 ?_
  refine zzb (zzo (ret0 [bf.v] ⟨zzr ty32 zze, trivial⟩ fun u94 bE => ?_))
  refine ⟨bf, rfl, RatN.more (K := (max (max (K + L) (L + K) + 1) (K + L))) ?_ xq⟩
  rw [au, ax, ← Nt.add_mk ac aD]
  exact (bW.ext bE)
 refine zyq 14 (x := zB af) (zB false) (by rw [hs21]) (zzn 15 (uw 2 true false 14) (zzn 16 (uw 2 true false 14) (zza 17 (zB false) (zzb (zys xj (zzs (zzp ?_)))))))
 refine zzd (sq9 (zza 26 (.adr 5 0) (zza 27 (.adr 5 2) (zzi 28 (.v (aa.d.v)) ty28 zzl (zza 29 (.adr 6 0) (zza 30 (.adr 6 2) (zzi 31 (.v (ab.d.v)) ty28 zzl (zzg 32 166 _ fun _ _ am ci => Post.mono (k_natCompare ci (ad.ext (ag.t (ak.t am))) (al.ext am)) ?_))))))))
 rintro _ u97 aB rfl
 refine zza 33 (zB ((Nt.cmpS aO D17) == 0)) (zzb (zzu (b := (Nt.cmpS aO D17) == 0) xj (fun aG => ?_) (fun aG => ?_)))
 ·refine zzd (zzz [0, 1, 3, 0, 8, 24, 63, 0, 128, 384, 1023, 2047, 4095] [(0, []), (1, []), (2, []), (3, []), (4, []), (5, []), (7, []), (8, []), (9, []), (6, []), (10, []), (11, []), (12, [])] xj xj (zza 34 (.adr 5 0) (zza 35 (.adr 5 0) (zzi 36 (.v (.agg #[.bool aa.s, aa.m.v])) ty30 zze (zza 37 (.adr 6 0) (zza 38 (.adr 6 0) (zzi 39 (.v (.agg #[.bool ab.s, ab.m.v])) ty30 zze (zza 41 (.adr 5 0) (zza 42 (.adr 5 2) (zzi 43 (.v (aa.d.v)) ty28 zzl (zzg 40 165 _ fun _ _ aJ bc => Post.mono (k_intAdd bc (av.ext (ag.t (ak.t (am.t (aB.t aJ))))) (aw.ext (am.t (aB.t aJ))) xq xq) ?_)))))))))))
  rintro _ cb bi ⟨aW, rfl, a7⟩
  refine zza 44 (.v (.agg #[.bool aW.s, aW.m.v, aa.d.v])) (zzg 45 149 _ fun _ _ aS bp => Post.mono (k_lowest bp (a7.ext aS).raw (ad.ext (ag.t (ak.t (am.t (aB.t (aJ.t (bi.t aS))))))) ac xq xq) ?_)
  rintro _ b5 bK ⟨aF, rfl, br⟩
  refine zzj ⟨32, aF.cs⟩ ty32 ?_
  refine zzc 73 [(4, .adr 4 0)] [(4, ⟨32, aF.cs⟩)] (zzo (zzw (ret0 [aF.v] ⟨zzr ty32 zze, trivial⟩ fun bF be => ?_)))
  refine ⟨aF, rfl, RatN.more (K := (max (max K L + 1) K)) ?_ xq⟩
  have hD : aO = D17 := Nt.cmp_natE aG
  rw [au, ax, ← hD, ← Nt.add_same ac]
  exact (br.ext be)
 refine zzs (zzp ?_)
 refine zzd (zzz [0, 1, 3, 0, 8, 24, 56, 127, 0, 256, 768, 0, 2048, 6144, 14591, 32767, 65535, 0, 262143] [(0, []), (1, []), (2, []), (3, []), (4, []), (5, []), (8, []), (9, []), (10, []), (11, []), (12, []), (13, []), (17, []), (6, []), (7, []), (14, []), (15, []), (16, []), (18, [])] xj xj (zza 46 (.adr 5 0) (zza 47 (.adr 5 0) (zzi 48 (.v (.agg #[.bool aa.s, aa.m.v])) ty30 zze (zza 49 (.adr 6 0) (zza 50 (.adr 6 2) (zzi 51 (.v (ab.d.v)) ty28 zzl (zza 54 (.adr 6 0) (zza 55 (.adr 6 0) (zzi 56 (.v (.agg #[.bool ab.s, ab.m.v])) ty30 zze (zza 57 (.adr 5 0) ?_)))))))))))
 refine zza 58 (.adr 5 2) (zzi 59 (.v (aa.d.v)) ty28 zzl (zzk 7 ⟨30, [.bool false, .slice none 0 0]⟩ (zzg 52 152 _ fun _ _ ai bh => Post.mono (k_natural (x := ab.d) bh) ?_)))
 rintro _ cd aj rfl
 refine zzg 53 143 _ fun _ _ ah bb => Post.mono (k_intMul bb (av.ext (ag.t (ak.t (am.t (aB.t (ai.t (aj.t ah))))))) (nat_int (al.ext (am.t (aB.t (ai.t (aj.t ah)))))) xq xq) ?_
 rintro _ cq aC ⟨ch, rfl, bl⟩
 refine zzg 60 152 _ fun _ _ ay bt => Post.mono (k_natural (x := aa.d) bt) ?_
 rintro _ bI ao rfl
 refine zzg 61 143 _ fun _ _ ap a5 => Post.mono (k_intMul a5 (aw.ext (am.t (aB.t (ai.t (aj.t (ah.t (aC.t (ay.t (ao.t ap))))))))) (nat_int (ad.ext (ag.t (ak.t (am.t (aB.t (ai.t (aj.t (ah.t (aC.t (ay.t (ao.t ap)))))))))))) xq xq) ?_
 rintro _ cg aK ⟨bT, rfl, bk⟩
 refine zzg 62 165 _ fun _ _ aE a9 => Post.mono (k_intAdd a9 (bl.ext (ay.t (ao.t (ap.t (aK.t aE))))).raw (bk.ext aE).raw xq xq) ?_
 rintro _ bO aR ⟨aq, rfl, bg⟩
 refine zzj ⟨30, aq.cs⟩ ty30 ?_
 refine zzc 73 [(4, .adr 4 0), (5, .adr 5 0), (6, .adr 6 0), (7, .adr 7 0)] [(4, ⟨32, zw3⟩), (5, ⟨197, aa.cs ++ [.bool af]⟩), (6, ⟨197, ab.cs ++ [.bool ae]⟩), (7, ⟨30, aq.cs⟩)] (zzd (zzz [0, 0, 2, 6, 0, 16, 48, 126, 255, 511, 1023] [(0, []), (1, []), (2, []), (3, []), (4, []), (5, []), (6, []), (7, []), (8, []), (9, []), (10, [])] xj xj (zzi 63 (.v (aq.v)) ty30 zze (zza 64 (.adr 5 0) (zza 65 (.adr 5 2) (zzi 66 (.v (aa.d.v)) ty28 zzl (zza 67 (.adr 6 0) (zza 68 (.adr 6 2) (zzi 69 (.v (ab.d.v)) ty28 zzl (zzg 70 167 _ fun _ _ aI bm => Post.mono (k_natMul bm (ad.ext (ag.t (ak.t (am.t (aB.t (ai.t (aj.t (ah.t (aC.t (ay.t (ao.t (ap.t (aK.t (aE.t (aR.t aI))))))))))))))) (al.ext (am.t (aB.t (ai.t (aj.t (ah.t (aC.t (ay.t (ao.t (ap.t (aK.t (aE.t (aR.t aI))))))))))))) xq xq) ?_))))))))))
 rintro _ cc ba ⟨a4, rfl, bj⟩
 refine zza 71 (.v (.agg #[.bool aq.s, aq.m.v, a4.v])) (zzg 72 149 _ fun _ _ aY a2 => Post.mono (k_lowest a2 (bg.ext (aI.t (ba.t aY))).raw (bj.ext aY).raw (Nat.mul_pos ac aD) xq xq) ?_)
 rintro _ bD ck ⟨aH, rfl, bo⟩
 refine zzj ⟨32, aH.cs⟩ ty32 ?_
 refine zzb (zzo (ret0 [aH.v] ⟨zzr ty32 zze, trivial⟩ fun bX bn => ?_))
 refine ⟨aH, rfl, RatN.more (K := (max (max (K + L) (L + K) + 1) (K + L))) ?_ xq⟩
 rw [au, ax, ← Nt.add_mk ac aD]
 exact (bo.ext bn)
set_option maxHeartbeats 1000000 in
theorem k_ratMul {u w : World} {r1 : RL} {x : Rat} {K : Nat} {r2 : RL} {y : Rat} {L : Nat} (d : Dat u w) (hr1 : RatV u r1 x K) (hr2 : RatV u r2 y L) (hK : K ≤ 200000000) (hL : L ≤ 200000000) : Calls Tryz.prog 113 #[r1.v, r2.v] w (Post u w fun v u' => ∃ r : RL, v = r.v ∧ RatN u' r (x * y) (K + L)) := by
 refine zzm (args := [r1.v, r2.v]) Tryz.func113 rfl Tryz.ntmps113 (rs := [.cell 4 32]) Tryz.results113 (le_b rfl) (le_b rfl) d ?_
 refine sq9 (zzk 2 ⟨32, r1.cs⟩ (zzk 3 ⟨32, r2.cs⟩ (zzk 4 ⟨32, zw3⟩ (zzb (zzd (zzz [0, 1, 0, 7, 0, 0, 63, 127] [(0, []), (2, []), (4, []), (5, []), (1, []), (3, []), (6, []), (7, [])] xj xj (zzi 8 (.v (r1.v)) ty32 zze (zzi 10 (.v (r2.v)) ty32 zze (zzk 5 ⟨197, [.bool false, .slice none 0 0, .slice none 0 0, .bool false]⟩ (zzk 6 ⟨197, [.bool false, .slice none 0 0, .slice none 0 0, .bool false]⟩ (zzg 9 148 _ fun _ _ aD aR => Post.mono (k_read aR (hr1.ext aD)) ?_)))))))))))
 rintro _ u13 aH ⟨al, ac, rfl, z12, D12, aw, aj, ah, ae, av, aI⟩
 refine zzg 11 148 _ fun _ _ aq aT => Post.mono (k_read aT (hr2.ext (aD.t (aH.t aq)))) ?_
 rintro _ u18 aA ⟨am, ab, rfl, z17, D17, ay, ak, ai, af, aC, aU⟩
 refine zzj ⟨197, al.cs ++ [.bool ac]⟩ ty197 ?_
 refine zzj ⟨197, am.cs ++ [.bool ab]⟩ ty197 ?_
 refine zzb (sq9 (zza 12 (.adr 5 0) (zza 13 (.adr 5 0) (zzi 14 (.v (.agg #[.bool al.s, al.m.v])) ty30 zze (zza 15 (.adr 6 0) (zza 16 (.adr 6 0) (zzi 17 (.v (.agg #[.bool am.s, am.m.v])) ty30 zze (zzg 18 143 _ fun _ _ ag aX => Post.mono (k_intMul aX (aw.ext (aq.t (aA.t ag))) (ay.ext ag) xq xq) ?_))))))))
 rintro _ u24 ap ⟨aa, rfl, aB⟩
 refine zzk 7 ⟨30, [.bool false, .slice none 0 0]⟩ (zzj ⟨30, aa.cs⟩ ty30 ?_)
 refine zzb (zzd (sq9 (zza 19 (.adr 5 3) (zzi 20 (zB ac) ty4 zzl ?_))))
 rcases Bool.eq_false_or_eq_true ac with hs27 | hs27
 ·refine zyq 21 (x := zB ac) (zB true) (by rw [hs27]) (zza 22 (.adr 6 3) ?_ (hw := w1 2 true 21))
  refine zzi 23 (zB ab) ty4 zzl ?_ (hw := w1 2 true 21)
  refine zza 24 (zB ab) (zzb (zzu (b := ab) xj (fun ad => ?_) (fun ad => ?_)))
  ·replace ad : ab = true := ad
   refine sq9 (zzi 25 (.v (aa.v)) ty30 zze (zzg 26 164 _ fun _ _ a2 a0 => Post.mono (k_whole (i := aa) a0) ?_))
   rintro _ u32 aS ⟨ar, rfl, aG⟩
   refine zzj ⟨32, aa.cs ++ [ar.v]⟩ ty32 ?_
   refine zzb (zzo (zzw (ret0 [.agg #[.bool aa.s, aa.m.v, ar.v]] ⟨zzr ty32 zze, trivial⟩ fun u35 a3 => ?_)))
   refine ⟨(⟨aa.s, aa.m, ar⟩ : RL), rfl, RatN.more (K := (max (K + L) 1)) ?_ xq⟩
   rw [ae, af, av (by assumption), aC (by assumption), Nt.mk_one, Nt.mk_one, ← Rat.intCast_mul]
   exact ((whole_rat (aB.ext (a2.t aS.ext)) aG).ext a3)
  replace ad : ab = false := ad
  refine zzs (zzp ?_)
  refine zzd (zzz [0, 0, 2, 6, 0, 16, 48, 126, 255, 511, 1023] [(0, []), (1, []), (2, []), (3, []), (4, []), (5, []), (6, []), (7, []), (8, []), (9, []), (10, [])] xj xj (zzi 27 (.v (aa.v)) ty30 zze (zza 28 (.adr 5 0) (zza 29 (.adr 5 2) (zzi 30 (.v (al.d.v)) ty28 zzl (zza 31 (.adr 6 0) (zza 32 (.adr 6 2) (zzi 33 (.v (am.d.v)) ty28 zzl (zzg 34 167 _ fun _ _ ax aW => Post.mono (k_natMul aW (aj.ext (aq.t (aA.t (ag.t (ap.t ax))))) (ak.ext (ag.t (ap.t ax))) xq xq) ?_)))))))))
  rintro _ u40 a1 ⟨aJ, rfl, aM⟩
  refine zza 35 (.v (.agg #[.bool aa.s, aa.m.v, aJ.v])) (zzg 36 149 _ fun _ _ aF aK => Post.mono (k_lowest aK (aB.ext (ax.t (a1.t aF))).raw (aM.ext aF).raw (Nat.mul_pos ah ai) xq xq) ?_)
  rintro _ u46 g47 ⟨an, rfl, aO⟩
  refine zzj ⟨32, an.cs⟩ ty32 ?_
  refine zzc 37 [(4, .adr 4 0)] [(4, ⟨32, an.cs⟩)] (zzo (ret0 [an.v] ⟨zzr ty32 zze, trivial⟩ fun u49 aQ => ?_))
  refine ⟨an, rfl, RatN.more (K := (max (K + L) (K + L))) ?_ xq⟩
  rw [ae, af, ← Nt.mul_mk]
  exact (aO.ext aQ)
 refine zyq 21 (x := zB ac) (zB false) (by rw [hs27]) (zzn 22 (uw 2 true false 21) (zzn 23 (uw 2 true false 21) (zza 24 (zB false) (zzb (zys xj (zzs (zzp ?_)))))))
 refine zzd (zzz [0, 0, 2, 6, 0, 16, 48, 126, 255, 511, 1023] [(0, []), (1, []), (2, []), (3, []), (4, []), (5, []), (6, []), (7, []), (8, []), (9, []), (10, [])] xj xj (zzi 27 (.v (aa.v)) ty30 zze (zza 28 (.adr 5 0) (zza 29 (.adr 5 2) (zzi 30 (.v (al.d.v)) ty28 zzl (zza 31 (.adr 6 0) (zza 32 (.adr 6 2) (zzi 33 (.v (am.d.v)) ty28 zzl (zzg 34 167 _ fun _ _ au aZ => Post.mono (k_natMul aZ (aj.ext (aq.t (aA.t (ag.t (ap.t au))))) (ak.ext (ag.t (ap.t au))) xq xq) ?_)))))))))
 rintro _ u54 aL ⟨aV, rfl, aY⟩
 refine zza 35 (.v (.agg #[.bool aa.s, aa.m.v, aV.v])) (zzg 36 149 _ fun _ _ aE a4 => Post.mono (k_lowest a4 (aB.ext (au.t (aL.t aE))).raw (aY.ext aE).raw (Nat.mul_pos ah ai) xq xq) ?_)
 rintro _ u60 g61 ⟨ao, rfl, aN⟩
 refine zzj ⟨32, ao.cs⟩ ty32 ?_
 refine zzc 37 [(4, .adr 4 0)] [(4, ⟨32, ao.cs⟩)] (zzo (ret0 [ao.v] ⟨zzr ty32 zze, trivial⟩ fun u63 aP => ?_))
 refine ⟨ao, rfl, RatN.more (K := (max (K + L) (K + L))) ?_ xq⟩
 rw [ae, af, ← Nt.mul_mk]
 exact (aN.ext aP)
theorem k_ratFrac {u w : World} {a b : Int} (d : Dat u w) (ha0 : -9223372036854775808 ≤ a) (ha1 : a ≤ 9223372036854775807) (hb0 : -9223372036854775808 ≤ b) (hb1 : b ≤ 9223372036854775807) : Calls Tryz.prog 114 #[.int .i64 a, .int .i64 b] w (Post u w fun v u' => ∃ r : RL, v = r.v ∧ RatN u' r ((a : Rat) / (b : Rat)) 2) := by
 refine zzm (args := [.int .i64 a, .int .i64 b]) Tryz.func114 rfl Tryz.ntmps114 (rs := [.cell 4 32]) Tryz.results114 (le_b rfl) (le_b rfl) d ?_
 refine sq9 (zzk 4 ⟨32, zw3⟩ (zzb (zzd (sq9 (zza 5 (zI b) (zza 6 (zB (b == 0)) (zzb (zzu (b := b == 0) xj (fun aa => ?_) (fun aa => ?_)))))))))
 ·refine sq9 (zzg 7 109 _ fun _ _ _ ap => Post.mono (k_ratOf ap (z := 0) xq xq) ?_)
  rintro _ u15 g16 ⟨ad, rfl, al⟩
  refine zzj ⟨32, ad.cs⟩ ty32 ?_
  refine zzb (zzo (zzw (ret0 [ad.v] ⟨zzr ty32 zze, trivial⟩ fun u18 aj => ?_)))
  refine ⟨ad, rfl, RatN.more (K := 2) ?_ xq⟩
  have hb0 : b = 0 := by simpa using aa
  rw [hb0]; simp [Rat.div_def]; exact (al.ext aj)
 have hb0 : 0 < b.natAbs := by simp at aa; omega
 refine zzs (zzp ?_)
 refine sq9 (zza 8 (zI a) (zzg 9 140 _ fun _ _ _ ah => Post.mono (k_intOf ah (z := a) xq xq) ?_))
 rintro _ u23 g24 ⟨au, rfl, ai⟩
 refine zza 10 (zI b) (zzg 11 140 _ fun _ _ aq an => Post.mono (k_intOf an (z := b) xq xq) ?_)
 rintro _ u29 am ⟨aw, rfl, af⟩
 refine zzg 12 168 _ fun _ _ ac ar => Post.mono (k_quotient (i := au) (j := aw) ar) ?_
 rintro _ u33 ae rfl
 refine zzg 13 149 _ fun _ _ ag ak => Post.mono (k_lowest ak ((quot_int (ai.ext (aq.t (am.t (ac.t ae.ext)))) (af.ext (ac.t ae.ext))).ext ag) ((int_mag (af.ext (ac.t ae.ext))).ext ag).raw hb0 xq xq) ?_
 rintro _ u39 g40 ⟨ab, rfl, ao⟩
 refine zzj ⟨32, ab.cs⟩ ty32 ?_
 refine zzb (zzo (ret0 [ab.v] ⟨zzr ty32 zze, trivial⟩ fun u42 av => ?_))
 refine ⟨ab, rfl, RatN.more (K := (max 2 2)) ?_ xq⟩
 rw [← Nt.div_mk2 xq]
 exact (ao.ext av)
def DivR (x y : Rat) (K : Nat) (v : Value) (u : World) : Prop := (v = .tuple #[.agg #[.bool false, .slice none 0 0, .slice none 0 0], .int .i64 3] ∧ y = 0) ∨ (y ≠ 0 ∧ ∃ r : RL, v = .tuple #[r.v, .int .i64 0] ∧ RatN u r (x / y) K)
set_option maxHeartbeats 1000000 in
theorem k_ratDiv {u w : World} {r1 : RL} {x : Rat} {K : Nat} {r2 : RL} {y : Rat} {L : Nat} (d : Dat u w) (hr1 : RatV u r1 x K) (hr2 : RatV u r2 y L) (hK : K ≤ 200000000) (hL : L ≤ 200000000) : Calls Tryz.prog 138 #[r1.v, r2.v] w (Post u w fun v u' => DivR x y (K + L) v u') := by
 refine zzm (args := [r1.v, r2.v]) Tryz.func138 rfl Tryz.ntmps138 (rs := [.cell 4 32, .tmp 5]) Tryz.results138 (le_b rfl) (le_b rfl) d ?_
 refine sq9 (zzk 2 ⟨32, r1.cs⟩ (zzk 3 ⟨32, r2.cs⟩ (zzk 4 ⟨32, zw3⟩ (zza 5 (zI 0) (zzb (zzd (zzz [0, 1, 0, 7, 0, 0, 63, 127] [(0, []), (2, []), (4, []), (5, []), (1, []), (3, []), (6, []), (7, [])] xj xj (zzi 10 (.v (r1.v)) ty32 zze (zzi 12 (.v (r2.v)) ty32 zze (zzk 6 ⟨197, [.bool false, .slice none 0 0, .slice none 0 0, .bool false]⟩ (zzk 7 ⟨197, [.bool false, .slice none 0 0, .slice none 0 0, .bool false]⟩ ?_)))))))))))
 refine zzg 11 148 _ fun _ _ aI aS => Post.mono (k_read aS (hr1.ext aI)) ?_
 rintro _ u13 aL ⟨ad, aD, rfl, z12, a1, ay, aq, an, au, aT, aM⟩
 refine zzg 13 148 _ fun _ _ aF aU => Post.mono (k_read aU (hr2.ext (aI.t (aL.t aF)))) ?_
 rintro _ u18 aK ⟨ab, ar, rfl, aj, D17, ae, aw, ap, ac, aZ, aW⟩
 refine zzj ⟨197, ad.cs ++ [.bool aD]⟩ ty197 ?_
 refine zzj ⟨197, ab.cs ++ [.bool ar]⟩ ty197 ?_
 refine zzb (zzd (sq9 (zza 14 (.adr 7 0) (zza 15 (.adr 7 0) (zzi 16 (.v (.agg #[.bool ab.s, ab.m.v])) ty30 zze (zzg 17 147 _ fun _ _ af aY => Post.mono (k_intSign aY (ae.ext af)) ?_))))))
 rintro _ u22 al rfl
 refine zza 18 (zB ((Nt.cmpS aj 0) == 0)) (zzb (zzu (b := (Nt.cmpS aj 0) == 0) xj (fun aa => ?_) (fun aa => ?_)))
 ·refine sq9 (zza 19 (.v (.agg #[.bool false, .slice none 0 0, .slice none 0 0])) (zzj ⟨32, zw3⟩ ty32 ?_))
  refine zza 5 (zI 3) (zzb (zzo (zzw (ret0 [.agg #[.bool false, .slice none 0 0, .slice none 0 0], .int .i64 3] ⟨zzr ty32 zze, zzq, trivial⟩ fun u26 e27 => ?_))))
  left
  exact ⟨rfl, by rw [ac, Nt.cmp_eq0 aa, Rat.zero_mkRat]⟩
 have aB : aj ≠ 0 := Nt.cmp_ne0 aa
 have hpp : 0 < ((a1 : Int) * aj : Int).natAbs := Int.natAbs_pos.2 (Int.mul_ne_zero xq aB)
 refine zzs (zzp ?_)
 refine zzd (zzz [0, 1, 3, 0, 8, 24, 56, 127, 0, 511] [(0, []), (1, []), (2, []), (3, []), (4, []), (5, []), (8, []), (6, []), (7, []), (9, [])] xj xj (zza 20 (.adr 6 0) (zza 21 (.adr 6 0) (zzi 22 (.v (.agg #[.bool ad.s, ad.m.v])) ty30 zze (zza 23 (.adr 7 0) (zza 24 (.adr 7 2) (zzi 25 (.v (ab.d.v)) ty28 zzl (zzk 8 ⟨30, [.bool false, .slice none 0 0]⟩ (zzg 26 152 _ fun _ _ ag aN => Post.mono (k_natural (x := ab.d) aN) ?_)))))))))
 rintro _ u29 am rfl
 refine zzg 27 143 _ fun _ _ ak a0 => Post.mono (k_intMul a0 (ay.ext (aF.t (aK.t (af.t (al.t (ag.t (am.t ak))))))) (nat_int (aw.ext (af.t (al.t (ag.t (am.t ak)))))) xq xq) ?_
 rintro _ u35 aG ⟨ah, rfl, a2⟩
 refine zzj ⟨30, ah.cs⟩ ty30 ?_
 refine zzb (zzd (zzz [0, 1, 3, 7, 0, 16, 48, 127, 0, 511] [(0, []), (1, []), (2, []), (4, []), (5, []), (6, []), (8, []), (3, []), (7, []), (9, [])] xj xj (zza 28 (.adr 6 0) (zza 29 (.adr 6 2) (zzi 30 (.v (ad.d.v)) ty28 zzl (zza 32 (.adr 7 0) (zza 33 (.adr 7 0) (zzi 34 (.v (.agg #[.bool ab.s, ab.m.v])) ty30 zze (zzk 9 ⟨30, [.bool false, .slice none 0 0]⟩ (zzg 31 152 _ fun _ _ ax aR => Post.mono (k_natural (x := ad.d) aR) ?_))))))))))
 rintro _ u39 ao rfl
 refine zzg 35 143 _ fun _ _ av a3 => Post.mono (k_intMul a3 (nat_int (aq.ext (aF.t (aK.t (af.t (al.t (ag.t (am.t (ak.t (aG.t (ax.t (ao.t av)))))))))))) (ae.ext (af.t (al.t (ag.t (am.t (ak.t (aG.t (ax.t (ao.t av))))))))) xq xq) ?_
 rintro _ u45 aQ ⟨ai, rfl, aJ⟩
 refine zzj ⟨30, ai.cs⟩ ty30 ?_
 refine zzc 40 [(4, .adr 4 0), (8, .adr 8 0), (9, .adr 9 0)] [(4, ⟨32, zw3⟩), (8, ⟨30, ah.cs⟩), (9, ⟨30, ai.cs⟩)] (sq9 (zzi 36 (.v (ah.v)) ty30 zze (zzi 37 (.v (ai.v)) ty30 zze (zzg 38 168 _ fun _ _ aA aO => Post.mono (k_quotient (i := ah) (j := ai) aO) ?_))))
 rintro _ u49 aE rfl
 refine zzg 39 149 _ fun _ _ aH aV => Post.mono (k_lowest aV ((quot_int (a2.ext (ax.t (ao.t (av.t (aQ.t (aA.t aE.ext)))))) (aJ.ext (aA.t aE.ext))).ext aH) ((int_mag (aJ.ext (aA.t aE.ext))).ext aH).raw hpp xq xq) ?_
 rintro _ u55 g56 ⟨aC, rfl, aP⟩
 refine zzj ⟨32, aC.cs⟩ ty32 ?_
 refine zza 5 (zI 0) (zzb (zzo (ret0 [aC.v, .int .i64 0] ⟨zzr ty32 zze, zzq, trivial⟩ fun u58 aX => ?_)))
 right
 refine ⟨?_, aC, rfl, RatN.more (K := (max (K + L) (K + L))) ?_ xq⟩
 ·rw [ac]; exact (Rat.mkRat_ne_zero xq).2 aB
 rw [au, ac, ← Nt.quo_mk an ap aB, ← Nt.div_mk2 xq]
 exact (aP.ext aX)
theorem k_ratDiv1 {u w : World} {r1 r2 : RL} {x y : Rat} {K L : Nat} (d : Dat u w) (hr1 : RatV u r1 x K) (hr2 : RatV u r2 y L) (hy : y ≠ 0) (hK : K ≤ 200000000) (hL : L ≤ 200000000) : Calls Tryz.prog 138 #[r1.v, r2.v] w (Post u w fun v u' => ∃ r : RL, v = .tuple #[r.v, .int .i64 0] ∧ RatN u' r (x / y) (K + L)) :=
 Post.mono (k_ratDiv d hr1 hr2 hK hL) fun v u' _ h => h.elim (fun h => absurd h.2 hy) (fun h => h.2)
theorem k_cut {u w : World} {x : Sl} {l : List Rat} {K : Nat} (d : Dat u w) (hx : PolV u x l K) (hK : K ≤ 100000000) (hx9 : l.length ≤ 1000000000) : Calls Tryz.prog 151 #[x.v] w (Post u w fun v u' => v = .slice x.a (Nt.trimQ l).length x.c) := by
 have hlen := hx.len
 refine zzm (args := [x.v]) Tryz.func151 rfl Tryz.ntmps151 (rs := [.tmp 2]) Tryz.results151 (le_b rfl) (le_b rfl) d ?_
 refine sq9 (zza 2 (.v (.slice none 0 0)) (zzb (sq9 (zza 4 (.v (x.v)) (zza 5 (zI x.n) (zza 3 (zI x.n) (zzb (zzd (zzt (zyn (I := fun ah S' u' => ∃ (n : Nat), (ah = n) ∧ (n ≤ l.length) ∧ (∀ i, n ≤ i → Nt.co l i = 0) ∧ (S' = St.of 22 [(0, .v (x.v)), (3, zI n)] []) ∧ (Ext u u')) (fun m S u1 u2 e h => by obtain ⟨n, hm, p0, p1, hS, hE⟩ := h; exact ⟨n, hm, p0, p1, hS, hE.trans e⟩) _ yz ⟨x.n, rfl, by omega, fun i hi => Nt.co_ge xq, rfl, (Ext.refl _)⟩ ?_))))))))))
 rintro ah _ u11 ⟨n, al, hn, hz, rfl, ab⟩
 refine zzd (sq9 (zza 6 (zI n) (zza 7 (zB (decide ((0 : Int) < (n : Int)))) ?_)))
 rcases Bool.eq_false_or_eq_true (decide ((0 : Int) < (n : Int))) with hs12 | hs12
 ·refine zyq 8 (x := zB (decide ((0 : Int) < (n : Int)))) (zB true) (by rw [hs12]) ?_
  have qhs12 := of_decide_eq_true hs12
  refine zza 9 (.v (x.v)) ?_ (hw := w1 2 true 8)
  refine zza 10 (zI n) ?_ (hw := w1 2 true 8)
  refine zyq 11 (x := zI (IntKind.i64.wrap ((n : Int) - 1))) (zI (n - 1 : Nat)) (eqI yq) ?_ (hw := w1 2 true 8)
  have hl13 := (hx.ext ab).len
  obtain ⟨ak, b13, ai, ae, ag, ad⟩ := pol_at (hx.ext ab) (i := n - 1) xq
  refine zya 12 (ai + (n - 1) * 3) (n := x.n) (off := ai) (sz := 3) (i := ((n - 1 : Nat) : Int)) xq ae xq xq sl27 ?_ (hw := w1 2 true 8)
  refine zym 13 ak.cs ag ty32 ?_ (hw := w1 2 true 8)
  refine zzg 14 66 _ (fun _ _ ac aj => Post.mono (k_ratSign aj (ad.ext ac)) ?_) (hw := w1 2 true 8)
  rintro _ u15 af rfl
  refine zza 15 (zB ((Nt.sgQ (l.getD (n - 1) 0)) == 0)) ?_ (hw := w1 2 true 8)
  refine zza 16 (zB ((Nt.sgQ (l.getD (n - 1) 0)) == 0)) (zzb (zzu (b := (Nt.sgQ (l.getD (n - 1) 0)) == 0) xj (fun aa => ?_) (fun aa => ?_)))
  ·refine zzs (zzp ?_)
   refine zzt (zzf (zza 17 (zI n) (zyq 18 (x := zI (IntKind.i64.wrap ((n : Int) - 1))) (zI (n - 1 : Nat)) (eqI yq) (zza 3 (zI (n - 1 : Nat)) (zzx ?_)))))
   refine ⟨_, ?_, _, by exact zzv _ _ _, n - 1, rfl, by omega, (fun i hi => by by_cases e : i = n - 1; (rw [e]; have h9 := aa; rw [Nt.sgQ_eq] at h9; exact of_decide_eq_true h9); exact hz i xq), rfl, (ab.t (ac.t af.ext))⟩
   omega
  refine zyc (zzp (sq9 (zza 19 (.v (x.v)) (zza 20 (zI n) ?_))))
  have hl19 := (hx.ext (ab.t (ac.t af.ext))).len
  have hc19 := (hx.ext (ab.t (ac.t af.ext))).cap
  refine sy_front 21 (n := x.n) (c := x.c) n sl27 rfl xq ?_
  refine zza 2 (.v (.slice x.a n x.c)) (zzb (zzo (ret0 [.slice x.a n x.c] ⟨zzq, trivial⟩ fun u20 e21 => ?_)))
  have e := Nt.trim_len_of (l := l) hn hz (fun _ h => by have h9 := aa; rw [Nt.sgQ_eq] at h9; exact of_decide_eq_false h9 h)
  show Value.slice _ _ _ = Value.slice _ _ _
  rw [e]
 refine zyq 8 (x := zB (decide ((0 : Int) < (n : Int)))) (zB false) (by rw [hs12]) ?_
 have qhs12 := of_decide_eq_false hs12
 refine zzn 9 (uw 2 true false 8) (zzn 10 (uw 2 true false 8) (zzn 11 (uw 2 true false 8) (zzn 12 (uw 2 true false 8) (zzn 13 (uw 2 true false 8) (zzn 14 (uw 2 true false 8) (zzn 15 (uw 2 true false 8) (zza 16 (zB false) (zzb (zys xj (zyc (zzp ?_)))))))))))
 refine sq9 (zza 19 (.v (x.v)) (zza 20 (zI n) ?_))
 have hl22 := (hx.ext ab).len
 have hc22 := (hx.ext ab).cap
 refine sy_front 21 (n := x.n) (c := x.c) n sl27 rfl xq ?_
 refine zza 2 (.v (.slice x.a n x.c)) (zzb (zzo (ret0 [.slice x.a n x.c] ⟨zzq, trivial⟩ fun u23 e24 => ?_)))
 have e := Nt.trim_len_of (l := l) hn hz (fun h => absurd h xq)
 show Value.slice _ _ _ = Value.slice _ _ _
 rw [e]
def NewR (u : World) (n : Nat) (t : List Rat) (K : Nat) (v : Value) (u' : World) : Prop := ∃ (b : Nat) (L : List RL), v = .slice (some ⟨b, 0, none⟩) n n ∧ u.heap.size ≤ b ∧ u'.heap[b]? = some (.cells (rcs L).toArray 32 (0, 0)) ∧ L.length = n ∧ RatsN u' L t K
theorem k_zeros {u w : World} {n : Nat} (d : Dat u w) (hn9 : n ≤ 1000000000) : Calls Tryz.prog 180 #[.int .i64 (n : Int)] w (Post u w fun v u' => NewR u n (List.replicate n 0) 2 v u') := by
 refine zzm (args := [.int .i64 n]) Tryz.func180 rfl Tryz.ntmps180 (rs := [.tmp 2]) Tryz.results180 (le_b rfl) (le_b rfl) d ?_
 refine sq9 (zza 2 (.v (.slice none 0 0)) (zzb (sq9 (zza 5 (zI n) (sy_make 6 (T := 27) (E := 32) (z := .agg #[.bool false, .slice none 0 0, .slice none 0 0]) (size := 3) (bytes := 56) n (rcs (List.replicate n rl0)) xj xj rfl rfl xq yv (made_rcs _) ?_)))))
 refine zza 3 (.slc 6 0 n n) (zzc 18 [(3, .slc 6 0 n n)] [(6, ⟨32, rcs (List.replicate n rl0)⟩)] (zzd (sq9 (zza 7 (.slc 6 0 n n) (zza 8 (zI n) (zza 9 (zI 0) (zzc 18 [(3, .slc 6 0 n n), (8, zI n), (9, zI 0)] [(6, ⟨32, rcs (List.replicate n rl0)⟩)] (zzt (zyn (I := fun ah S' u' => ∃ (i : Nat) (L : List RL), (ah = n - i) ∧ (i ≤ n) ∧ (L.length = n) ∧ (S' = St.of 18 [(3, .slc 6 0 n n), (8, zI n), (9, zI i)] [(6, ⟨32, rcs L⟩)]) ∧ (Ext u u') ∧ (RatsN u' (L.take i) ((List.replicate n (0 : Rat)).take i) 2)) (fun m S u1 u2 e h => by obtain ⟨i, L, hm, p0, p1, hS, hE, f0⟩ := h; exact ⟨i, L, hm, p0, p1, hS, hE.trans e, f0.ext e⟩) _ yz ⟨0, List.replicate n rl0, rfl, by omega, by simp, rfl, (Ext.refl _), RatsN.tnil _ _ _ _⟩ ?_)))))))))
 rintro ah _ u11 ⟨i, L, aq, hi, hL, rfl, al, hR⟩
 refine sq9 (zza 10 (zB (decide ((i : Int) < (n : Int)))) (zzb (zzd (zzu (b := decide ((i : Int) < (n : Int))) xj (fun aa => ?_) (fun aa => ?_)))))
 ·have qhb12 := of_decide_eq_true aa
  refine zzs (zzp ?_)
  refine zzd (zzt (sq9 (zza 11 (zI i) (zza 4 (zI i) (zzb (zzf (zza 12 (.slc 6 0 n n) (zza 13 (zI i) (zzg 14 109 _ fun _ _ ai am => Post.mono (k_ratOf am (z := 0) xq xq) ?_)))))))))
  rintro _ u16 aj ⟨af, rfl, an⟩
  refine zyw 15 (off' := i * 3) (n := n) (off := 0) (sz := 3) (i := (i : Int)) sl27 xq xq xq ?_
  refine zyv (V := ⟨32, rcs L⟩) (off := i * 3) (rcs ((L).set i af)) ty32 zv (zyx (r := af) (i := i) yy rfl) ?_
  refine zzx ?_
  refine zzp (zzf (zyq 16 (x := zI (IntKind.i64.wrap ((i : Int) + 1))) (zI (i + 1 : Nat)) (eqI yq) (zza 9 (zI (i + 1 : Nat)) (zzx ?_))))
  have ae : i < (List.replicate n (0 : Rat)).length := by simp; omega
  refine ⟨_, ?_, _, by exact zzv _ _ _, i + 1, (L).set i af, rfl, by omega, by simpa using hL, rfl, (al.t (ai.t aj.ext)), RatsN.tstep (hR.ext (ai.t aj.ext)) xq ae (RatN.more (K := 2) an xq) (by rw [List.getD_eq_getElem?_getD, List.getElem?_replicate]; split <;> rfl)⟩
  omega
 have qhb12 := of_decide_eq_false aa
 refine zyc (zzp (zzd (zyp (r := 3) (t := 6) [3, 6] xk xj zk zk xj (fun ab ap ag ad ac => ?_))))
 have ao : PolN ap ⟨some ⟨ab, 0, none⟩, n, n⟩ (List.replicate n (0 : Rat)) 2 := pol_data1 ac yv (RatsN.tdone (hR.ext ag) xq zq) xq
 refine zzf (zza 17 (.v (.slice (some ⟨ab, 0, none⟩) n n)) (zza 2 (.v (.slice (some ⟨ab, 0, none⟩) n n)) (zzb (zzo (ret0 [.slice (some ⟨ab, 0, none⟩) n n] ⟨zzq, trivial⟩ fun u26 ak => ?_)))))
 exact ⟨ab, L, rfl, ad, ak.cells ac, by omega, (RatsN.tdone (hR.ext (ag.trans ak)) xq zq)⟩
theorem k_poScale {u w : World} {x : Sl} {l : List Rat} {r : RL} {q : Rat} {K M : Nat} (d : Dat u w) (hx : PolV u x l K) (hr : RatV u r q M) (hK : K ≤ 50000000) (hx9 : l.length ≤ 1000000000) (hM : M ≤ 50000000) : Calls Tryz.prog 116 #[x.v, r.v] w (Post u w fun v u' => ∃ y : Sl, v = y.v ∧ PolN u' y (Nt.trimQ (l.map (· * q))) (K + M)) := by
 have hlen := hx.len
 refine zzm (args := [x.v, r.v]) Tryz.func116 rfl Tryz.ntmps116 (rs := [.tmp 4]) Tryz.results116 (le_b rfl) (le_b rfl) d ?_
 refine sq9 (zzk 3 ⟨32, r.cs⟩ (zza 4 (.v (.slice none 0 0)) (zzb (sq9 (zza 7 (.v (x.v)) (zza 8 (zI x.n) (sy_make 9 (T := 27) (E := 32) (z := .agg #[.bool false, .slice none 0 0, .slice none 0 0]) (size := 3) (bytes := 56) x.n (rcs (List.replicate x.n rl0)) xj xj rfl rfl xq yv (made_rcs _) ?_)))))))
 refine zza 5 (.slc 9 0 x.n x.n) (zzc 27 [(0, .v (x.v)), (3, .adr 3 0), (5, .slc 9 0 x.n x.n)] [(3, ⟨32, r.cs⟩), (9, ⟨32, rcs (List.replicate x.n rl0)⟩)] (zzd (sq9 (zza 10 (.slc 9 0 x.n x.n) (zza 11 (zI x.n) (zza 12 (zI 0) (zzc 27 [(0, .v (x.v)), (3, .adr 3 0), (5, .slc 9 0 x.n x.n), (11, zI x.n), (12, zI 0)] [(3, ⟨32, r.cs⟩), (9, ⟨32, rcs (List.replicate x.n rl0)⟩)] (zzt (zyn (I := fun al S' u' => ∃ (i : Nat) (L : List RL), (al = x.n - i) ∧ (i ≤ x.n) ∧ (L.length = x.n) ∧ (S' = St.of 27 [(0, .v (x.v)), (3, .adr 3 0), (5, .slc 9 0 x.n x.n), (11, zI x.n), (12, zI i)] [(3, ⟨32, r.cs⟩), (9, ⟨32, rcs L⟩)]) ∧ (Ext u u') ∧ (RatsN u' (L.take i) ((l.map (· * q)).take i) (K + M))) (fun m S u1 u2 e h => by obtain ⟨i, L, hm, p0, p1, hS, hE, f0⟩ := h; exact ⟨i, L, hm, p0, p1, hS, hE.trans e, f0.ext e⟩) _ yz ⟨0, List.replicate x.n rl0, rfl, by omega, by simp, rfl, (Ext.refl _), RatsN.tnil _ _ _ _⟩ ?_)))))))))
 rintro al _ u11 ⟨i, L, ay, hi, hL, rfl, ad, hR⟩
 refine sq9 (zza 13 (zB (decide ((i : Int) < (x.n : Int)))) (zzb (zzd (zzu (b := decide ((i : Int) < (x.n : Int))) xj (fun aa => ?_) (fun aa => ?_)))))
 ·have qhb12 := of_decide_eq_true aa
  refine zzs (zzp ?_)
  refine zzd (zzt (sq9 (zza 14 (zI i) (zza 6 (zI i) (zzb (zzz [0, 0, 0, 0, 12, 28, 0, 124, 255, 511] [(0, []), (1, []), (2, []), (3, []), (4, []), (5, []), (6, []), (7, []), (8, []), (9, [])] xj xj (zza 15 (.slc 9 0 x.n x.n) (zza 16 (zI i) (zza 17 (.v (x.v)) (zza 18 (zI i) ?_))))))))))
  have hl13 := (hx.ext ad).len
  obtain ⟨ax, b13, ao, aj, ak, ag⟩ := pol_at (hx.ext ad) (i := i) xq
  refine zya 19 (ao + i * 3) (n := x.n) (off := ao) (sz := 3) (i := (i : Int)) xq aj xq xq sl27 (zym 20 ax.cs ak ty32 (zzi 21 (.v (r.v)) ty32 zze (zzg 22 113 _ fun _ _ ae ar => Post.mono (k_ratMul ar (ag.ext ae) (hr.ext (ad.trans ae)) xq xq) ?_)))
  rintro _ u17 am ⟨ah, rfl, aB⟩
  refine zyw 23 (off' := i * 3) (n := x.n) (off := 0) (sz := 3) (i := (i : Int)) sl27 xq xq xq ?_
  refine zyv (V := ⟨32, rcs L⟩) (off := i * 3) (rcs ((L).set i ah)) ty32 zv (zyx (r := ah) (i := i) yy rfl) ?_
  refine zzx ?_
  refine zzp (zzf (zyq 24 (x := zI (IntKind.i64.wrap ((i : Int) + 1))) (zI (i + 1 : Nat)) (eqI yq) (zza 12 (zI (i + 1 : Nat)) (zzx ?_))))
  have af : i < (l.map (· * q)).length := by simp; omega
  refine ⟨_, ?_, _, by exact zzv _ _ _, i + 1, (L).set i ah, rfl, by omega, by simpa using hL, rfl, (ad.t (ae.t am.ext)), RatsN.tstep (hR.ext (ae.t am.ext)) xq af (RatN.more (K := (K + M)) aB xq) (by simp [List.getElem?_eq_getElem (show i < l.length by omega)])⟩
  omega
 have qhb12 := of_decide_eq_false aa
 refine zyc (zzp (zzd (zyp (r := 5) (t := 9) [5, 9] xk xj zk zk xj (fun ac aA au ap ai => ?_))))
 have ab : PolN aA ⟨some ⟨ac, 0, none⟩, x.n, x.n⟩ (l.map (· * q)) (K + M) := pol_data1 ai yv (RatsN.tdone (hR.ext au) xq zq) xq
 refine zzf (zza 25 (.v (.slice (some ⟨ac, 0, none⟩) x.n x.n)) (zzg 26 151 _ fun _ _ an aq => Post.mono (k_cut aq (ab.ext an).raw xq xw) ?_))
 rintro _ u28 av rfl
 refine zza 4 (.v (.slice (some ⟨ac, 0, none⟩) (Nt.trimQ (l.map (· * q))).length x.n)) (zzb (zzo (ret0 [.slice (some ⟨ac, 0, none⟩) (Nt.trimQ (l.map (· * q))).length x.n] ⟨zzq, trivial⟩ fun u31 aw => ?_)))
 refine ⟨(⟨some ⟨ac, 0, none⟩, (Nt.trimQ (l.map (· * q))).length, x.n⟩ : Sl), rfl, ?_⟩
 exact ((cut_N (ab.ext (an.t av.ext))).ext aw)
theorem k_poTrim {u w : World} {x : Sl} {l : List Rat} {K : Nat} (d : Dat u w) (hx : PolV u x l K) (hK : K ≤ 50000000) (hx9 : l.length ≤ 1000000000) : Calls Tryz.prog 117 #[x.v] w (Post u w fun v u' => ∃ y : Sl, v = y.v ∧ PolN u' y (Nt.trimQ l) K) := by
 have hlen := hx.len
 have htl := Nt.zzh l
 refine zzm (args := [x.v]) Tryz.func117 rfl Tryz.ntmps117 (rs := [.tmp 2]) Tryz.results117 (le_b rfl) (le_b rfl) d ?_
 refine sq9 (zza 2 (.v (.slice none 0 0)) (zzb (sq9 (zza 5 (.v (x.v)) (zzg 6 151 _ fun _ _ ag au => Post.mono (k_cut au (hx.ext ag) xq xw) ?_)))))
 rintro _ aA am rfl
 refine zza 7 (zI (((Nt.trimQ l).length : Nat) : Int)) (sy_make 8 (T := 27) (E := 32) (z := .agg #[.bool false, .slice none 0 0, .slice none 0 0]) (size := 3) (bytes := 56) ((Nt.trimQ l).length) (rcs (List.replicate ((Nt.trimQ l).length) rl0)) xj xj rfl rfl xq yv (made_rcs _) ?_)
 refine zza 3 (.slc 8 0 ((Nt.trimQ l).length) ((Nt.trimQ l).length)) (zzc 24 [(0, .v (x.v)), (3, .slc 8 0 ((Nt.trimQ l).length) ((Nt.trimQ l).length))] [(8, ⟨32, rcs (List.replicate ((Nt.trimQ l).length) rl0)⟩)] (zzd (sq9 (zza 9 (.slc 8 0 ((Nt.trimQ l).length) ((Nt.trimQ l).length)) (zza 10 (zI (((Nt.trimQ l).length : Nat) : Int)) (zza 11 (zI 0) (zzc 24 [(0, .v (x.v)), (3, .slc 8 0 ((Nt.trimQ l).length) ((Nt.trimQ l).length)), (10, zI (((Nt.trimQ l).length : Nat) : Int)), (11, zI 0)] [(8, ⟨32, rcs (List.replicate ((Nt.trimQ l).length) rl0)⟩)] (zzt (zyn (I := fun ap S' u' => ∃ (i : Nat) (L : List RL), (ap = ((Nt.trimQ l).length) - i) ∧ (i ≤ (Nt.trimQ l).length) ∧ (L.length = (Nt.trimQ l).length) ∧ (S' = St.of 24 [(0, .v (x.v)), (3, .slc 8 0 ((Nt.trimQ l).length) ((Nt.trimQ l).length)), (10, zI (((Nt.trimQ l).length : Nat) : Int)), (11, zI i)] [(8, ⟨32, rcs L⟩)]) ∧ (Ext aA u') ∧ (RatsN u' (L.take i) ((Nt.trimQ l).take i) K)) (fun m S u1 u2 e h => by obtain ⟨i, L, hm, p0, p1, hS, hE, f0⟩ := h; exact ⟨i, L, hm, p0, p1, hS, hE.trans e, f0.ext e⟩) _ yz ⟨0, List.replicate ((Nt.trimQ l).length) rl0, rfl, by omega, by simp, rfl, (Ext.refl _), RatsN.tnil _ _ _ _⟩ ?_)))))))))
 rintro ap _ u15 ⟨i, L, aq, hi, hL, rfl, al, hR⟩
 refine sq9 (zza 12 (zB (decide ((i : Int) < (((Nt.trimQ l).length : Nat) : Int)))) (zzb (zzd (zzu (b := decide ((i : Int) < (((Nt.trimQ l).length : Nat) : Int))) xj (fun aa => ?_) (fun aa => ?_)))))
 ·have qhb16 := of_decide_eq_true aa
  refine zzs (zzp ?_)
  refine zzd (zzt (sq9 (zza 13 (zI i) (zza 4 (zI i) (zzb (zzf (zza 14 (.slc 8 0 ((Nt.trimQ l).length) ((Nt.trimQ l).length)) (zza 15 (zI i) (zza 16 (.v (x.v)) (zza 17 (zI i) ?_))))))))))
  have hl17 := (hx.ext (ag.t (am.t al))).len
  obtain ⟨aw, b17, an, ak, aj, ai⟩ := pol_at (hx.ext (ag.t (am.t al))) (i := i) xq
  refine zya 18 (an + i * 3) (n := x.n) (off := an) (sz := 3) (i := (i : Int)) xq ak xq xq sl27 (zym 19 aw.cs aj ty32 (zzg 20 68 _ fun _ _ ah av => Post.mono (k_ratTrim av (ai.ext ah) xq) ?_))
  rintro _ u21 ao ⟨af, rfl, ar⟩
  refine zyw 21 (off' := i * 3) (n := (Nt.trimQ l).length) (off := 0) (sz := 3) (i := (i : Int)) sl27 xq xq xq ?_
  refine zyv (V := ⟨32, rcs L⟩) (off := i * 3) (rcs ((L).set i af)) ty32 zv (zyx (r := af) (i := i) yy rfl) ?_
  refine zzx ?_
  refine zzp (zzf (zyq 22 (x := zI (IntKind.i64.wrap ((i : Int) + 1))) (zI (i + 1 : Nat)) (eqI yq) (zza 11 (zI (i + 1 : Nat)) (zzx ?_))))
  have ad : i < (Nt.trimQ l).length := by skip; omega
  refine ⟨_, ?_, _, by exact zzv _ _ _, i + 1, (L).set i af, rfl, by omega, by simpa using hL, rfl, (al.t (ah.t ao.ext)), RatsN.tstep (hR.ext (ah.t ao.ext)) xq ad (RatN.more (K := K) ar xq) (Nt.trim_co l i).symm⟩
  omega
 have qhb16 := of_decide_eq_false aa
 refine zyc (zzp (zzd (zyp (r := 3) (t := 8) [3, 8] xk xj zk zk xj (fun ab ay aB aC ae => ?_))))
 have ac : PolN ay ⟨some ⟨ab, 0, none⟩, (Nt.trimQ l).length, (Nt.trimQ l).length⟩ (Nt.trimQ l) K := pol_data1 ae yv (RatsN.tdone (hR.ext aB) xq (by skip; omega)) xq
 refine zzf (zza 23 (.v (.slice (some ⟨ab, 0, none⟩) ((Nt.trimQ l).length) ((Nt.trimQ l).length))) (zza 2 (.v (.slice (some ⟨ab, 0, none⟩) ((Nt.trimQ l).length) ((Nt.trimQ l).length))) (zzb (zzo (ret0 [.slice (some ⟨ab, 0, none⟩) ((Nt.trimQ l).length) ((Nt.trimQ l).length)] ⟨zzq, trivial⟩ fun u31 ax => ?_)))))
 refine ⟨(⟨some ⟨ab, 0, none⟩, (Nt.trimQ l).length, (Nt.trimQ l).length⟩ : Sl), rfl, ?_⟩
 exact (ac.ext ax)
theorem k_poAdd {u w : World} {x : Sl} {l : List Rat} {y : Sl} {m : List Rat} {K M : Nat} (d : Dat u w) (hx : PolV u x l K) (hy : PolV u y m M) (hK : K ≤ 40000000) (hM : M ≤ 40000000) (hx9 : l.length ≤ 1000000000) (hy9 : m.length ≤ 1000000000) : Calls Tryz.prog 115 #[x.v, y.v] w (Post u w fun v u' => ∃ y : Sl, v = y.v ∧ PolN u' y (Nt.trimQ (Nt.addQ l m)) (K + M + 1)) := by
 have hlen := hx.len
 have hlen2 := hy.len
 refine zzm (args := [x.v, y.v]) Tryz.func115 rfl Tryz.ntmps115 (rs := [.tmp 4]) Tryz.results115 (le_b rfl) (le_b rfl) d ?_
 refine sq9 (zza 4 (.v (.slice none 0 0)) (zzb (zzd (sq9 (zza 7 (.v (x.v)) (zza 8 (zI x.n) (zza 9 (.v (y.v)) (zza 10 (zI y.n) (zza 11 (zB (decide ((x.n : Int) < (y.n : Int)))) (zzb (zzu (b := decide ((x.n : Int) < (y.n : Int))) xj (fun ac => ?_) (fun ac => ?_))))))))))))
 ·have qhb11 := of_decide_eq_true ac
  refine zzf (zza 12 (.v (y.v)) (zza 13 (.v (x.v)) (zza 0 (.v (y.v)) (zza 1 (.v (x.v)) (zzb (sq9 (zza 14 (.v (y.v)) (zza 15 (zI y.n) (sy_make 16 (T := 27) (E := 32) (z := .agg #[.bool false, .slice none 0 0, .slice none 0 0]) (size := 3) (bytes := 56) y.n (rcs (List.replicate y.n rl0)) xj xj rfl rfl xq yv (made_rcs _) ?_)))))))))
  refine zza 5 (.slc 16 0 y.n y.n) (zzc 49 [(0, .v (y.v)), (1, .v (x.v)), (5, .slc 16 0 y.n y.n)] [(16, ⟨32, rcs (List.replicate y.n rl0)⟩)] (zzd (sq9 (zza 17 (.slc 16 0 y.n y.n) (zza 18 (zI y.n) (zza 19 (zI 0) (zzc 49 [(0, .v (y.v)), (1, .v (x.v)), (5, .slc 16 0 y.n y.n), (18, zI y.n), (19, zI 0)] [(16, ⟨32, rcs (List.replicate y.n rl0)⟩)] (zzt (zyn (I := fun a7 S' u' => ∃ (i : Nat) (L : List RL), (a7 = y.n - i) ∧ (i ≤ y.n) ∧ (L.length = y.n) ∧ (S' = St.of 49 [(0, .v (y.v)), (1, .v (x.v)), (5, .slc 16 0 y.n y.n), (18, zI y.n), (19, zI i)] [(16, ⟨32, rcs L⟩)]) ∧ (Ext u u') ∧ (RatsN u' (L.take i) ((Nt.addQ l m).take i) (K + M + 1))) (fun m S u1 u2 e h => by obtain ⟨i, L, hm, p0, p1, hS, hE, f0⟩ := h; exact ⟨i, L, hm, p0, p1, hS, hE.trans e, f0.ext e⟩) _ yz ⟨0, List.replicate y.n rl0, rfl, by omega, by simp, rfl, (Ext.refl _), RatsN.tnil _ _ _ _⟩ ?_)))))))))
  rintro a7 _ u12 ⟨i, L, bs, hi, hL, rfl, ab, hR⟩
  refine sq9 (zza 20 (zB (decide ((i : Int) < (y.n : Int)))) (zzb (zzd (zzu (b := decide ((i : Int) < (y.n : Int))) xj (fun ag => ?_) (fun ag => ?_)))))
  ·have qhb13 := of_decide_eq_true ag
   refine zzs (zzp ?_)
   refine zzd (zzt (sq9 (zza 21 (zI i) (zza 6 (zI i) (zzb (sq9 (zza 22 (zI i) (zza 23 (.v (x.v)) (zza 24 (zI x.n) (zza 25 (zB (decide ((i : Int) < (x.n : Int)))) (zzb ?_)))))))))))
   refine zzu (b := decide ((i : Int) < (x.n : Int))) xj (fun ae => ?_) (fun ae => ?_)
   ·have qhb14 := of_decide_eq_true ae
    refine zzz [0, 0, 0, 0, 12, 28, 0, 0, 192, 448, 1020, 2047, 4095] [(0, []), (1, []), (2, []), (3, []), (4, []), (5, []), (6, []), (7, []), (8, []), (9, []), (10, []), (11, []), (12, [])] xj xj (zza 26 (.slc 16 0 y.n y.n) (zza 27 (zI i) (zza 28 (.v (y.v)) (zza 29 (zI i) ?_))))
    have hl15 := (hy.ext ab).len
    obtain ⟨bh, b15, a5, aP, aH, aw⟩ := pol_at (hy.ext ab) (i := i) xq
    refine zya 30 (a5 + i * 3) (n := y.n) (off := a5) (sz := 3) (i := (i : Int)) xq aP xq xq sl27 (zym 31 bh.cs aH ty32 (zza 32 (.v (x.v)) (zza 33 (zI i) ?_)))
    have hl16 := (hx.ext ab).len
    obtain ⟨bB, b16, aY, aM, aL, au⟩ := pol_at (hx.ext ab) (i := i) xq
    refine zya 34 (aY + i * 3) (n := x.n) (off := aY) (sz := 3) (i := (i : Int)) xq aM xq xq sl27 (zym 35 bB.cs aL ty32 (zzg 36 112 _ fun _ _ al bt => Post.mono (k_ratAdd bt (aw.ext al) (au.ext al) xq xq) ?_))
    rintro _ u20 a4 ⟨ar, rfl, a9⟩
    refine zyw 37 (off' := i * 3) (n := y.n) (off := 0) (sz := 3) (i := (i : Int)) sl27 xq xq xq ?_
    refine zyv (V := ⟨32, rcs L⟩) (off := i * 3) (rcs ((L).set i ar)) ty32 zv (zyx (r := ar) (i := i) yy rfl) ?_
    refine zzx ?_
    refine zzp (zzf (zyq 46 (x := zI (IntKind.i64.wrap ((i : Int) + 1))) (zI (i + 1 : Nat)) (eqI yq) (zza 19 (zI (i + 1 : Nat)) (zzx ?_))))
    have aA : i < (Nt.addQ l m).length := by rw [Nt.addQ_len]; omega
    refine ⟨_, ?_, _, by exact zzv _ _ _, i + 1, (L).set i ar, rfl, by omega, by simpa using hL, rfl, (ab.t (al.t a4.ext)), RatsN.tstep (hR.ext (al.t a4.ext)) xq aA (RatN.more (K := (M + K + 1)) a9 xq) (by have h9 := Nt.addQ_co l m i; unfold Nt.co at h9; show _ = List.getD _ _ _; rw [h9]; exact Rat.add_comm _ _)⟩
    omega
   have qhb14 := of_decide_eq_false ae
   refine zzf (zza 38 (.slc 16 0 y.n y.n) (zza 39 (zI i) (zza 40 (.v (y.v)) (zza 41 (zI i) ?_))))
   have hl24 := (hy.ext ab).len
   obtain ⟨bj, b24, a2, aD, aR, aO⟩ := pol_at (hy.ext ab) (i := i) xq
   refine zya 42 (a2 + i * 3) (n := y.n) (off := a2) (sz := 3) (i := (i : Int)) xq aD xq xq sl27 (zym 43 bj.cs aR ty32 (zzg 44 68 _ fun _ _ av a8 => Post.mono (k_ratTrim a8 (aO.ext av) xq) ?_))
   rintro _ u28 aU ⟨aC, rfl, bi⟩
   refine zyw 45 (off' := i * 3) (n := y.n) (off := 0) (sz := 3) (i := (i : Int)) sl27 xq xq xq ?_
   refine zyv (V := ⟨32, rcs L⟩) (off := i * 3) (rcs ((L).set i aC)) ty32 zv (zyx (r := aC) (i := i) yy rfl) ?_
   refine zzx ?_
   refine zzp (zzf (zyq 46 (x := zI (IntKind.i64.wrap ((i : Int) + 1))) (zI (i + 1 : Nat)) (eqI yq) (zza 19 (zI (i + 1 : Nat)) (zzx ?_))))
   have aE : i < (Nt.addQ l m).length := by rw [Nt.addQ_len]; omega
   refine ⟨_, ?_, _, by exact zzv _ _ _, i + 1, (L).set i aC, rfl, by omega, by simpa using hL, rfl, (ab.t (av.t aU.ext)), RatsN.tstep (hR.ext (av.t aU.ext)) xq aE (RatN.more (K := M) bi xq) (by have h9 := Nt.addQ_co l m i; unfold Nt.co at h9; show _ = List.getD _ _ _; rw [h9]; rw [show l.getD i 0 = 0 from Nt.co_ge xq]; grind)⟩
   omega
  have qhb13 := of_decide_eq_false ag
  refine zyc (zzp (zzd (zyp (r := 5) (t := 16) [5, 16] xk xj zk zk xj (fun aj bz bg bq aS => ?_))))
  have ai : PolN bz ⟨some ⟨aj, 0, none⟩, y.n, y.n⟩ (Nt.addQ l m) (K + M + 1) := pol_data1 aS yv (RatsN.tdone (hR.ext bg) xq (by rw [Nt.addQ_len]; omega)) xq
  refine zzf (zza 47 (.v (.slice (some ⟨aj, 0, none⟩) y.n y.n)) (zzg 48 151 _ fun _ _ aZ bo => Post.mono (k_cut bo (ai.ext aZ).raw xq xw) ?_))
  rintro _ u39 bn rfl
  refine zza 4 (.v (.slice (some ⟨aj, 0, none⟩) (Nt.trimQ (Nt.addQ l m)).length y.n)) (zzb (zzo (ret0 [.slice (some ⟨aj, 0, none⟩) (Nt.trimQ (Nt.addQ l m)).length y.n] ⟨zzq, trivial⟩ fun u42 br => ?_)))
  refine ⟨(⟨some ⟨aj, 0, none⟩, (Nt.trimQ (Nt.addQ l m)).length, y.n⟩ : Sl), rfl, ?_⟩
  exact ((cut_N (ai.ext (aZ.t bn.ext))).ext br)
 have qhb11 := of_decide_eq_false ac
 refine zzs (zzp ?_)
 refine sq9 (zza 14 (.v (x.v)) (zza 15 (zI x.n) (sy_make 16 (T := 27) (E := 32) (z := .agg #[.bool false, .slice none 0 0, .slice none 0 0]) (size := 3) (bytes := 56) x.n (rcs (List.replicate x.n rl0)) xj xj rfl rfl xq yv (made_rcs _) ?_)))
 refine zza 5 (.slc 16 0 x.n x.n) (zzc 49 [(0, .v (x.v)), (1, .v (y.v)), (5, .slc 16 0 x.n x.n)] [(16, ⟨32, rcs (List.replicate x.n rl0)⟩)] (zzd (sq9 (zza 17 (.slc 16 0 x.n x.n) (zza 18 (zI x.n) (zza 19 (zI 0) (zzc 49 [(0, .v (x.v)), (1, .v (y.v)), (5, .slc 16 0 x.n x.n), (18, zI x.n), (19, zI 0)] [(16, ⟨32, rcs (List.replicate x.n rl0)⟩)] (zzt (zyn (I := fun aW S' u' => ∃ (i : Nat) (L : List RL), (aW = x.n - i) ∧ (i ≤ x.n) ∧ (L.length = x.n) ∧ (S' = St.of 49 [(0, .v (x.v)), (1, .v (y.v)), (5, .slc 16 0 x.n x.n), (18, zI x.n), (19, zI i)] [(16, ⟨32, rcs L⟩)]) ∧ (Ext u u') ∧ (RatsN u' (L.take i) ((Nt.addQ l m).take i) (K + M + 1))) (fun m S u1 u2 e h => by obtain ⟨i, L, hm, p0, p1, hS, hE, f0⟩ := h; exact ⟨i, L, hm, p0, p1, hS, hE.trans e, f0.ext e⟩) _ yz ⟨0, List.replicate x.n rl0, rfl, by omega, by simp, rfl, (Ext.refl _), RatsN.tnil _ _ _ _⟩ ?_)))))))))
 rintro aW _ u44 ⟨i, L, bw, hi, hL, rfl, aa, hR⟩
 refine sq9 (zza 20 (zB (decide ((i : Int) < (x.n : Int)))) (zzb (zzd (zzu (b := decide ((i : Int) < (x.n : Int))) xj (fun af => ?_) (fun af => ?_)))))
 ·have qhb45 := of_decide_eq_true af
  refine zzs (zzp ?_)
  refine zzd (zzt (sq9 (zza 21 (zI i) (zza 6 (zI i) (zzb (sq9 (zza 22 (zI i) (zza 23 (.v (y.v)) (zza 24 (zI y.n) (zza 25 (zB (decide ((i : Int) < (y.n : Int)))) (zzb ?_)))))))))))
  refine zzu (b := decide ((i : Int) < (y.n : Int))) xj (fun ad => ?_) (fun ad => ?_)
  ·have qhb46 := of_decide_eq_true ad
   refine zzz [0, 0, 0, 0, 12, 28, 0, 0, 192, 448, 1020, 2047, 4095] [(0, []), (1, []), (2, []), (3, []), (4, []), (5, []), (6, []), (7, []), (8, []), (9, []), (10, []), (11, []), (12, [])] xj xj (zza 26 (.slc 16 0 x.n x.n) (zza 27 (zI i) (zza 28 (.v (x.v)) (zza 29 (zI i) ?_))))
   have hl47 := (hx.ext aa).len
   obtain ⟨bA, b47, aX, aN, aK, aB⟩ := pol_at (hx.ext aa) (i := i) xq
   refine zya 30 (aX + i * 3) (n := x.n) (off := aX) (sz := 3) (i := (i : Int)) xq aN xq xq sl27 (zym 31 bA.cs aK ty32 (zza 32 (.v (y.v)) (zza 33 (zI i) ?_)))
   have hl48 := (hy.ext aa).len
   obtain ⟨bb, b48, a1, ay, aQ, ap⟩ := pol_at (hy.ext aa) (i := i) xq
   refine zya 34 (a1 + i * 3) (n := y.n) (off := a1) (sz := 3) (i := (i : Int)) xq ay xq xq sl27 (zym 35 bb.cs aQ ty32 (zzg 36 112 _ fun _ _ am ba => Post.mono (k_ratAdd ba (aB.ext am) (ap.ext am) xq xq) ?_))
   rintro _ u52 a0 ⟨aI, rfl, bv⟩
   refine zyw 37 (off' := i * 3) (n := x.n) (off := 0) (sz := 3) (i := (i : Int)) sl27 xq xq xq ?_
   refine zyv (V := ⟨32, rcs L⟩) (off := i * 3) (rcs ((L).set i aI)) ty32 zv (zyx (r := aI) (i := i) yy rfl) ?_
   refine zzx ?_
   refine zzp (zzf (zyq 46 (x := zI (IntKind.i64.wrap ((i : Int) + 1))) (zI (i + 1 : Nat)) (eqI yq) (zza 19 (zI (i + 1 : Nat)) (zzx ?_))))
   have aG : i < (Nt.addQ l m).length := by rw [Nt.addQ_len]; omega
   refine ⟨_, ?_, _, by exact zzv _ _ _, i + 1, (L).set i aI, rfl, by omega, by simpa using hL, rfl, (aa.t (am.t a0.ext)), RatsN.tstep (hR.ext (am.t a0.ext)) xq aG (RatN.more (K := (K + M + 1)) bv xq) (by have h9 := Nt.addQ_co l m i; unfold Nt.co at h9; show _ = List.getD _ _ _; rw [h9])⟩
   omega
  have qhb46 := of_decide_eq_false ad
  refine zzf (zza 38 (.slc 16 0 x.n x.n) (zza 39 (zI i) (zza 40 (.v (x.v)) (zza 41 (zI i) ?_))))
  have hl56 := (hx.ext aa).len
  obtain ⟨bc, b56, a6, ax, ao, aJ⟩ := pol_at (hx.ext aa) (i := i) xq
  refine zya 42 (a6 + i * 3) (n := x.n) (off := a6) (sz := 3) (i := (i : Int)) xq ax xq xq sl27 (zym 43 bc.cs ao ty32 (zzg 44 68 _ fun _ _ an bu => Post.mono (k_ratTrim bu (aJ.ext an) xq) ?_))
  rintro _ u60 a3 ⟨aF, rfl, bf⟩
  refine zyw 45 (off' := i * 3) (n := x.n) (off := 0) (sz := 3) (i := (i : Int)) sl27 xq xq xq ?_
  refine zyv (V := ⟨32, rcs L⟩) (off := i * 3) (rcs ((L).set i aF)) ty32 zv (zyx (r := aF) (i := i) yy rfl) ?_
  refine zzx ?_
  refine zzp (zzf (zyq 46 (x := zI (IntKind.i64.wrap ((i : Int) + 1))) (zI (i + 1 : Nat)) (eqI yq) (zza 19 (zI (i + 1 : Nat)) (zzx ?_))))
  have aq : i < (Nt.addQ l m).length := by rw [Nt.addQ_len]; omega
  refine ⟨_, ?_, _, by exact zzv _ _ _, i + 1, (L).set i aF, rfl, by omega, by simpa using hL, rfl, (aa.t (an.t a3.ext)), RatsN.tstep (hR.ext (an.t a3.ext)) xq aq (RatN.more (K := K) bf xq) (by have h9 := Nt.addQ_co l m i; unfold Nt.co at h9; show _ = List.getD _ _ _; rw [h9]; rw [show m.getD i 0 = 0 from Nt.co_ge xq]; grind)⟩
  omega
 have qhb45 := of_decide_eq_false af
 refine zyc (zzp (zzd (zyp (r := 5) (t := 16) [5, 16] xk xj zk zk xj (fun ah bm bl bk aT => ?_))))
 have ak : PolN bm ⟨some ⟨ah, 0, none⟩, x.n, x.n⟩ (Nt.addQ l m) (K + M + 1) := pol_data1 aT yv (RatsN.tdone (hR.ext bl) xq (by rw [Nt.addQ_len]; omega)) xq
 refine zzf (zza 47 (.v (.slice (some ⟨ah, 0, none⟩) x.n x.n)) (zzg 48 151 _ fun _ _ aV bp => Post.mono (k_cut bp (ak.ext aV).raw xq xw) ?_))
 rintro _ u71 be rfl
 refine zza 4 (.v (.slice (some ⟨ah, 0, none⟩) (Nt.trimQ (Nt.addQ l m)).length x.n)) (zzb (zzo (ret0 [.slice (some ⟨ah, 0, none⟩) (Nt.trimQ (Nt.addQ l m)).length x.n] ⟨zzq, trivial⟩ fun u74 bx => ?_)))
 refine ⟨(⟨some ⟨ah, 0, none⟩, (Nt.trimQ (Nt.addQ l m)).length, x.n⟩ : Sl), rfl, ?_⟩
 exact ((cut_N (ak.ext (aV.t be.ext))).ext bx)
theorem k_poParts {u w : World} {r : RL} (d : Dat u w) : Calls Tryz.prog 223 #[r.v] w (Post u w fun v u' => ∃ y : Sl, v = .tuple #[.agg #[.bool r.s, r.m.v, y.v], .agg #[.bool false, r.d.v, y.v]] ∧ NatN u' y 1 1) := by
 refine zzm (args := [r.v]) Tryz.func223 rfl Tryz.ntmps223 (rs := [.cell 2 32, .cell 3 32]) Tryz.results223 (le_b rfl) (le_b rfl) d ?_
 refine sq9 (zzk 1 ⟨32, r.cs⟩ (zzk 2 ⟨32, zw3⟩ (zzk 3 ⟨32, zw3⟩ (zzb (sq9 (zxy 5 ⟨133, [.int .u32 1]⟩ 1 (fun aa u12 e13 ab => ?_)))))))
 refine zza 4 (.v (.slice (some ⟨aa, 0, none⟩) 1 1)) (zzb (zzd (zzz [0, 1, 0, 7, 0, 16, 48, 0, 240, 15, 1023] [(0, []), (1, []), (2, []), (3, []), (4, []), (5, []), (6, []), (7, []), (8, []), (9, [10]), (10, [])] xj xj (zza 6 (.adr 1 0) (zzi 7 (.v (.agg #[.bool r.s, r.m.v])) ty30 zze (zza 8 (.v (.slice (some ⟨aa, 0, none⟩) 1 1)) (zza 9 (.v (.agg #[.bool r.s, r.m.v, .slice (some ⟨aa, 0, none⟩) 1 1])) (zza 10 (.adr 1 2) (zzi 11 (.v (r.d.v)) ty28 zzl (zza 12 (.v (.agg #[.bool false, r.d.v])) (zza 13 (.v (.slice (some ⟨aa, 0, none⟩) 1 1)) ?_)))))))))))
 refine zza 14 (.v (.agg #[.bool false, r.d.v, .slice (some ⟨aa, 0, none⟩) 1 1])) (zzj ⟨32, [.bool r.s, r.m.v, .slice (some ⟨aa, 0, none⟩) 1 1]⟩ ty32 ?_)
 refine zzj ⟨32, [.bool false, r.d.v, .slice (some ⟨aa, 0, none⟩) 1 1]⟩ ty32 ?_
 refine zzb (zzo (ret0 [.agg #[.bool r.s, r.m.v, .slice (some ⟨aa, 0, none⟩) 1 1], .agg #[.bool false, r.d.v, .slice (some ⟨aa, 0, none⟩) 1 1]] ⟨zzr ty32 zze, zzr ty32 zze, trivial⟩ fun u15 ac => ?_))
 exact ⟨(⟨some ⟨aa, 0, none⟩, 1, 1⟩ : Sl), rfl, ((one_data ab).ext ac)⟩
set_option maxHeartbeats 1000000 in
theorem k_common {u w : World} {r1 r2 : RL} {x y : Rat} {K M : Nat} (d : Dat u w) (h1 : RatN u r1 x K) (h2 : RatV u r2 y M) (hK : K ≤ 40000000) (hM : M ≤ 40000000) : Calls Tryz.prog 212 #[r1.v, r2.v] w (Post u w fun v u' => ∃ r : RL, v = r.v ∧ RatN u' r (Nt.cmn x y) (K + M)) := by
 refine zzm (args := [r1.v, r2.v]) Tryz.func212 rfl Tryz.ntmps212 (rs := [.cell 4 32]) Tryz.results212 (le_b rfl) (le_b rfl) d ?_
 refine sq9 (zzk 2 ⟨32, r1.cs⟩ (zzk 3 ⟨32, r2.cs⟩ (zzk 4 ⟨32, zw3⟩ (zzb (zzd (sq9 (zzi 11 (.v (r1.v)) ty32 zze (zzg 12 66 _ fun _ _ ae aB => Post.mono (k_ratSign aB (h1.ext ae).raw) ?_))))))))
 rintro _ u12 af rfl
 refine zza 13 (zB ((Nt.sgQ x) == 0)) (zzb (zzu (b := (Nt.sgQ x) == 0) xj (fun ad => ?_) (fun ad => ?_)))
 ·have ag : x = 0 := by have h9 := ad; rw [Nt.sgQ_eq] at h9; simpa using h9
  refine sq9 (zzi 14 (.v (r2.v)) ty32 zze (zzg 15 65 _ fun _ _ aH aC => Post.mono (k_ratAbs aC (h2.ext (ae.t (af.t aH))) xq) ?_))
  rintro _ u19 g20 ⟨ak, rfl, aG⟩
  refine zzj ⟨32, ak.cs⟩ ty32 ?_
  refine zzb (zzo (zzw (ret0 [ak.v] ⟨zzr ty32 zze, trivial⟩ fun u22 ay => ?_)))
  have e9 : Nt.cmn x y = (Nt.absQ y) := by unfold Nt.cmn; rw [if_pos ag]
  have hs := Nt.rs_cmn x y
  have hs1 := h1.rs
  have hs2 := h2.rs
  refine ⟨ak, rfl, RatN.fit (K := M) ?_ xq⟩
  rw [e9]
  exact (aG.ext ay)
 have ag : ¬ x = 0 := by have h9 := ad; rw [Nt.sgQ_eq] at h9; simpa using h9
 refine zzs (zzp ?_)
 refine sq9 (zzi 17 (.v (r1.v)) ty32 zze (zzi 18 (.v (r2.v)) ty32 zze (zzg 19 138 _ fun _ _ ai aF => Post.mono (k_ratDiv aF (h1.ext (ae.t (af.t ai))).raw (h2.ext (ae.t (af.t ai))) xq xq) ?_)))
 rintro _ u28 am (⟨rfl, ab⟩ | ⟨ab, aa, rfl, ar⟩)
 ·skip
  refine zza 16 (.v (.tuple #[.agg #[.bool false, .slice none 0 0, .slice none 0 0], .int .i64 3])) (zza 20 (.v (.agg #[.bool false, .slice none 0 0, .slice none 0 0])) (zza 21 (zI 3) (zzk 5 ⟨32, zw3⟩ (zzj ⟨32, zw3⟩ ty32 ?_))))
  refine zza 6 (zI 3) (zzb (zzd (sq9 (zza 22 (zI 3) (zza 23 (zB true) (zzb (zyr xj (sq9 (zzi 24 (.v (r1.v)) ty32 zze (zzj ⟨32, r1.cs⟩ ty32 ?_))))))))))
  refine zzb (zzo (zzw (ret0 [r1.v] ⟨zzr ty32 zze, trivial⟩ fun u31 aE => ?_)))
  have e9 : Nt.cmn x y = x := by unfold Nt.cmn; rw [if_neg ag, if_pos ab]
  have hs := Nt.rs_cmn x y
  have hs1 := h1.rs
  have hs2 := h2.rs
  refine ⟨r1, rfl, RatN.fit (K := K) ?_ xq⟩
  rw [e9]
  exact (h1.ext (ae.t (af.t (ai.t (am.t aE)))))
 refine zza 16 (.v (.tuple #[aa.v, .int .i64 0])) (zza 20 (.v (aa.v)) (zza 21 (zI 0) (zzk 5 ⟨32, zw3⟩ (zzj ⟨32, aa.cs⟩ ty32 ?_))))
 refine zza 6 (zI 0) (zzb (zzd (sq9 (zza 22 (zI 0) (zza 23 (zB false) (zzb (zys xj (zzs (zzp ?_)))))))))
 refine sq9 (zzi 26 (.v (aa.v)) ty32 zze (zzg 27 223 _ fun _ _ ao av => Post.mono (k_poParts (r := aa) av) ?_))
 rintro _ u36 al ⟨ac, rfl, aw⟩
 refine zza 25 (.v (.tuple #[.agg #[.bool aa.s, aa.m.v, ac.v], .agg #[.bool false, aa.d.v, ac.v]])) (zza 28 (.v (.agg #[.bool aa.s, aa.m.v, ac.v])) (zza 29 (.v (.agg #[.bool false, aa.d.v, ac.v])) (zzk 7 ⟨32, zw3⟩ (zzk 8 ⟨32, zw3⟩ (zzj ⟨32, [.bool aa.s, aa.m.v, ac.v]⟩ ty32 ?_)))))
 refine zzj ⟨32, [.bool false, aa.d.v, ac.v]⟩ ty32 ?_
 refine zzb (sq9 (zzi 31 (.v (r1.v)) ty32 zze (zzi 32 (.v (.agg #[.bool aa.s, aa.m.v, ac.v])) ty32 zze (zzg 33 138 _ fun _ _ an aA => Post.mono (k_ratDiv1 aA (h1.ext (ae.t (af.t (ai.t (am.t (ao.t (al.t an))))))).raw ((whole_rat (RatN.num (ar.ext (ao.t al.ext))) aw).ext an).raw (Nt.num_ne (Nt.div_ne ag ab)) xq xq) ?_))))
 rintro _ u42 g43 ⟨ah, rfl, ax⟩
 refine zza 30 (.v (.tuple #[ah.v, .int .i64 0])) (zza 34 (.v (ah.v)) (zza 35 (zI 0) (zzk 9 ⟨32, zw3⟩ (zzj ⟨32, ah.cs⟩ ty32 ?_))))
 refine zza 10 (zI 0) (zzc 38 [(4, .adr 4 0), (9, .adr 9 0)] [(4, ⟨32, zw3⟩), (9, ⟨32, ah.cs⟩)] (sq9 (zzi 36 (.v (ah.v)) ty32 zze (zzg 37 65 _ fun _ _ aD ap => Post.mono (k_ratAbs ap (ax.ext aD).raw xq) ?_))))
 rintro _ u48 g49 ⟨aj, rfl, au⟩
 refine zzj ⟨32, aj.cs⟩ ty32 ?_
 refine zzb (zzo (ret0 [aj.v] ⟨zzr ty32 zze, trivial⟩ fun u51 aq => ?_))
 have e9 : Nt.cmn x y = (Nt.absQ (x / (((x / y).num : Int) : Rat))) := by unfold Nt.cmn; rw [if_neg ag, if_neg ab]
 have hs := Nt.rs_cmn x y
 have hs1 := h1.rs
 have hs2 := h2.rs
 refine ⟨aj, rfl, RatN.fit (K := (K + (max (K + M) 1))) ?_ xq⟩
 rw [e9]
 exact (au.ext aq)
set_option maxHeartbeats 1000000 in
theorem k_split {u w : World} {x : Sl} {l : List Rat} {K : Nat} (d : Dat u w) (hx : PolV u x l K) (hK : (l.length + 1) * K ≤ 30000000) (hx9 : l.length ≤ 1000000000) : Calls Tryz.prog 179 #[x.v] w (Post u w fun v u' => ∃ (r : RL) (y : Sl), v = .tuple #[r.v, y.v] ∧ RatN u' r (Nt.msr (Nt.trimQ l)) ((Nt.trimQ l).length * K + 2) ∧ PolN u' y ((Nt.trimQ l).map (· / Nt.msr (Nt.trimQ l))) (K + ((Nt.trimQ l).length * K + 2))) := by
 have hlen := hx.len
 have htl := Nt.zzh l
 have hKK : (Nt.trimQ l).length * K ≤ l.length * K := Nat.mul_le_mul_right _ htl
 rw [Nat.add_mul] at hK
 refine zzm (args := [x.v]) Tryz.func179 rfl Tryz.ntmps179 (rs := [.cell 2 32, .tmp 3]) Tryz.results179 (le_b rfl) (le_b rfl) d ?_
 refine sq9 (zzk 2 ⟨32, zw3⟩ (zza 3 (.v (.slice none 0 0)) (zzb (sq9 (zza 10 (.v (x.v)) (zzg 11 151 _ fun _ _ ad aU => Post.mono (k_cut aU (hx.ext ad) xq xw) ?_))))))
 rintro _ u12 ah rfl
 refine zza 0 (.v (.slice x.a (Nt.trimQ l).length x.c)) (zzb (sq9 (zzg 12 109 _ fun _ _ ak aO => Post.mono (k_ratOf aO (z := 0) xq xq) ?_)))
 rintro _ aW ai ⟨aF, rfl, aT⟩
 refine zzk 4 ⟨32, zw3⟩ (zzj ⟨32, aF.cs⟩ ty32 ?_)
 refine zzb (zzd (sq9 (zza 13 (.v (.slice x.a (Nt.trimQ l).length x.c)) (zza 14 (zI (((Nt.trimQ l).length : Nat) : Int)) (zza 15 (zI 0) (zzb (zzt (zyn (I := fun aG S' u' => ∃ (i : Nat) (r : RL), (aG = (Nt.trimQ l).length - i) ∧ (i ≤ (Nt.trimQ l).length) ∧ (S' = St.of 45 [(0, .v (.slice x.a (Nt.trimQ l).length x.c)), (2, .adr 2 0), (4, .adr 4 0), (13, .v (.slice x.a (Nt.trimQ l).length x.c)), (14, zI (((Nt.trimQ l).length : Nat) : Int)), (15, zI i)] [(2, ⟨32, zw3⟩), (4, ⟨32, r.cs⟩)]) ∧ (Ext aW u') ∧ (RatN u' r (Nt.msr ((Nt.trimQ l).take i)) (i * K + 2))) (fun m S u1 u2 e h => by obtain ⟨i, r, hm, p0, hS, hE, f0⟩ := h; exact ⟨i, r, hm, p0, hS, hE.trans e, f0.ext e⟩) _ yz ⟨0, aF, rfl, by omega, rfl, (Ext.refl _), (RatN.more (K := 2) aT xq)⟩ ?_))))))))
 rintro aG _ aI ⟨i, r, aP, hi, rfl, ae, hM⟩
 have hiK : i * K ≤ (Nt.trimQ l).length * K := Nat.mul_le_mul_right _ hi
 refine sq9 (zza 16 (zB (decide ((i : Int) < (((Nt.trimQ l).length : Nat) : Int)))) (zzb (zzd (zzu (b := decide ((i : Int) < (((Nt.trimQ l).length : Nat) : Int))) xj (fun aa => ?_) (fun aa => ?_)))))
 ·have qhb22 := of_decide_eq_true aa
  refine zzs (zzp ?_)
  refine zzd (zzt (sq9 ?_))
  have hl23 := ((cut_V (hx.ext (ad.t ah.ext))).ext (ak.t (ai.t ae))).len
  change (Nt.trimQ l).length = _ at hl23
  obtain ⟨au, b23, aC, ar, av, am⟩ := pol_at ((cut_V (hx.ext (ad.t ah.ext))).ext (ak.t (ai.t ae))) (i := i) xq
  refine zya 17 (aC + i * 3) (n := (Nt.trimQ l).length) (off := aC) (sz := 3) (i := (i : Int)) xq ar xq xq sl27 (zym 18 au.cs av ty32 (zzk 6 ⟨32, zw3⟩ (zzj ⟨32, au.cs⟩ ty32 ?_)))
  refine zzb (zzf (zzi 19 (.v (r.v)) ty32 zze (zzi 20 (.v (au.v)) ty32 zze (zzg 21 212 _ fun _ _ ap aY => Post.mono (k_common aY (hM.ext ap) (am.ext ap) xq xq) ?_))))
  rintro _ u27 aX ⟨aA, rfl, aM⟩
  refine zzj ⟨32, aA.cs⟩ ty32 ?_
  refine zzx ?_
  refine zzp (zzf (zyq 22 (x := zI (IntKind.i64.wrap ((i : Int) + 1))) (zI (i + 1 : Nat)) (eqI yq) (zza 15 (zI (i + 1 : Nat)) (zzx ?_))))
  refine ⟨_, ?_, _, by exact zzv _ _ _, i + 1, aA, rfl, by omega, rfl, (ae.t (ap.t aX.ext)), (RatN.more (K := ((i * K + 2) + K)) (by rw [Nt.msr_take xq]; exact aM) (by rw [Nat.add_mul]; omega))⟩
  omega
 have qhb22 := of_decide_eq_false aa
 refine zyc (zzp (zzd ?_))
 have aJ : i = (Nt.trimQ l).length := by omega
 have hms : RatN aI r (Nt.msr (Nt.trimQ l)) ((Nt.trimQ l).length * K + 2) := by have h9 := hM; rw [aJ, List.take_length] at h9; exact h9
 clear aJ
 refine zzf (zza 23 (.v (.slice x.a (Nt.trimQ l).length x.c)) (zza 24 (zI (((Nt.trimQ l).length : Nat) : Int)) (sy_make 25 (T := 27) (E := 32) (z := .agg #[.bool false, .slice none 0 0, .slice none 0 0]) (size := 3) (bytes := 56) ((Nt.trimQ l).length) (rcs (List.replicate ((Nt.trimQ l).length) rl0)) xj xj rfl rfl xq yv (made_rcs _) ?_)))
 refine zza 7 (.slc 25 0 ((Nt.trimQ l).length) ((Nt.trimQ l).length)) (zzc 45 [(0, .v (.slice x.a (Nt.trimQ l).length x.c)), (2, .adr 2 0), (4, .adr 4 0), (7, .slc 25 0 ((Nt.trimQ l).length) ((Nt.trimQ l).length))] [(2, ⟨32, zw3⟩), (4, ⟨32, r.cs⟩), (25, ⟨32, rcs (List.replicate ((Nt.trimQ l).length) rl0)⟩)] (zzd (sq9 (zza 26 (.v (.slice x.a (Nt.trimQ l).length x.c)) (zza 27 (zI (((Nt.trimQ l).length : Nat) : Int)) (zza 28 (zI 0) (zzb (zzt (zyn (I := fun aD S' u' => ∃ (i2 : Nat) (L2 : List RL), (aD = ((Nt.trimQ l).length) - i2) ∧ (i2 ≤ (Nt.trimQ l).length) ∧ (L2.length = (Nt.trimQ l).length) ∧ (S' = St.of 45 [(2, .adr 2 0), (4, .adr 4 0), (7, .slc 25 0 ((Nt.trimQ l).length) ((Nt.trimQ l).length)), (26, .v (.slice x.a (Nt.trimQ l).length x.c)), (27, zI (((Nt.trimQ l).length : Nat) : Int)), (28, zI i2)] [(2, ⟨32, zw3⟩), (4, ⟨32, r.cs⟩), (25, ⟨32, rcs L2⟩)]) ∧ (Ext aI u') ∧ (RatsN u' (L2.take i2) (((Nt.trimQ l).map (· / Nt.msr (Nt.trimQ l))).take i2) (K + ((Nt.trimQ l).length * K + 2)))) (fun m S u1 u2 e h => by obtain ⟨i2, L2, hm, p0, p1, hS, hE, f0⟩ := h; exact ⟨i2, L2, hm, p0, p1, hS, hE.trans e, f0.ext e⟩) _ yz ⟨0, List.replicate ((Nt.trimQ l).length) rl0, rfl, by omega, by simp, rfl, (Ext.refl _), RatsN.tnil _ _ _ _⟩ ?_)))))))))
 rintro aD _ u30 ⟨i2, L2, aV, hi2, aQ, rfl, ag, aE⟩
 refine sq9 (zza 29 (zB (decide ((i2 : Int) < (((Nt.trimQ l).length : Nat) : Int)))) (zzb (zzd (zzu (b := decide ((i2 : Int) < (((Nt.trimQ l).length : Nat) : Int))) xj (fun ab => ?_) (fun ab => ?_)))))
 ·have qhb31 := of_decide_eq_true ab
  refine zzs (zzp ?_)
  refine zzd (zzt (sq9 (zza 30 (zI i2) ?_)))
  have hl32 := ((cut_V (hx.ext (ad.t ah.ext))).ext (ak.t (ai.t (ae.trans ag)))).len
  change (Nt.trimQ l).length = _ at hl32
  obtain ⟨aw, b32, aH, ao, an, ay⟩ := pol_at ((cut_V (hx.ext (ad.t ah.ext))).ext (ak.t (ai.t (ae.trans ag)))) (i := i2) xq
  refine zya 31 (aH + i2 * 3) (n := (Nt.trimQ l).length) (off := aH) (sz := 3) (i := (i2 : Int)) xq ao xq xq sl27 (zym 32 aw.cs an ty32 (zzk 9 ⟨32, zw3⟩ (zza 8 (zI i2) (zzj ⟨32, aw.cs⟩ ty32 ?_))))
  refine zzb (zzf (zza 34 (.slc 25 0 ((Nt.trimQ l).length) ((Nt.trimQ l).length)) (zza 35 (zI i2) (zzi 36 (.v (aw.v)) ty32 zze (zzi 37 (.v (r.v)) ty32 zze (zzg 38 138 _ fun _ _ aj aN => Post.mono (k_ratDiv1 aN (ay.ext aj) (hms.ext (ag.trans aj)).raw (Nt.msr_ne (Nt.trim_nrm l) xq) xq xq) ?_))))))
  rintro _ u36 aB ⟨ac, rfl, aR⟩
  refine zza 33 (.v (.tuple #[ac.v, .int .i64 0])) (zza 39 (.v (ac.v)) (zza 40 (zI 0) (zyw 41 (off' := i2 * 3) (n := (Nt.trimQ l).length) (off := 0) (sz := 3) (i := (i2 : Int)) sl27 xq xq xq ?_)))
  refine zyv (V := ⟨32, rcs L2⟩) (off := i2 * 3) (rcs ((L2).set i2 ac)) ty32 zv (zyx (r := ac) (i := i2) yy rfl) ?_
  refine zzx ?_
  refine zzp (zzf (zyq 42 (x := zI (IntKind.i64.wrap ((i2 : Int) + 1))) (zI (i2 + 1 : Nat)) (eqI yq) (zza 28 (zI (i2 + 1 : Nat)) (zzx ?_))))
  have al : i2 < ((Nt.trimQ l).map (· / Nt.msr (Nt.trimQ l))).length := by simp; omega
  refine ⟨_, ?_, _, by exact zzv _ _ _, i2 + 1, (L2).set i2 ac, rfl, by omega, by simpa using aQ, rfl, (ag.t (aj.t aB.ext)), RatsN.tstep (aE.ext (aj.t aB.ext)) xq al (RatN.more (K := (K + ((Nt.trimQ l).length * K + 2))) aR xq) (by simp [List.getElem?_eq_getElem (show i2 < (Nt.trimQ l).length by omega)])⟩
  omega
 have qhb31 := of_decide_eq_false ab
 refine zyc (zzp (zzd (zyp (r := 7) (t := 25) [7, 25] xk xj zk zk xj (fun af aZ aL aS aq => ?_))))
 have ax : PolN aZ ⟨some ⟨af, 0, none⟩, (Nt.trimQ l).length, (Nt.trimQ l).length⟩ ((Nt.trimQ l).map (· / Nt.msr (Nt.trimQ l))) (K + ((Nt.trimQ l).length * K + 2)) := pol_data1 aq yv (RatsN.tdone (aE.ext aL) xq zq) xq
 refine zzf (zzi 43 (.v (r.v)) ty32 zze (zza 44 (.v (.slice (some ⟨af, 0, none⟩) ((Nt.trimQ l).length) ((Nt.trimQ l).length))) (zzj ⟨32, r.cs⟩ ty32 ?_)))
 refine zza 3 (.v (.slice (some ⟨af, 0, none⟩) ((Nt.trimQ l).length) ((Nt.trimQ l).length))) (zzb (zzo (ret0 [r.v, .slice (some ⟨af, 0, none⟩) ((Nt.trimQ l).length) ((Nt.trimQ l).length)] ⟨zzr ty32 zze, zzq, trivial⟩ fun u46 aK => ?_)))
 exact ⟨r, (⟨some ⟨af, 0, none⟩, (Nt.trimQ l).length, (Nt.trimQ l).length⟩ : Sl), rfl, (hms.ext (ag.trans (aL.trans aK))), (ax.ext aK)⟩
set_option maxHeartbeats 4000000 in
theorem k_poMul {u w : World} {x : Sl} {l : List Rat} {y : Sl} {m : List Rat} {K M : Nat} (d : Dat u w) (hx : PolV u x l K) (hy : PolV u y m M) (hB : Nt.mlK l.length m.length K M ≤ 30000000) (hK1 : (l.length + 1) * K ≤ 20000000) (hM1 : (m.length + 1) * M ≤ 20000000) (hx9 : l.length ≤ 100000000) (hy9 : m.length ≤ 100000000) : Calls Tryz.prog 130 #[x.v, y.v] w (Post u w fun v u' => ∃ y : Sl, v = y.v ∧ PolN u' y (Nt.trimQ (Nt.mulQ l m)) (Nt.mlK l.length m.length K M)) := by
 have hlen := hx.len
 have hlen2 := hy.len
 have htl := Nt.zzh l
 have htm := Nt.zzh m
 have hB2 := Nat.le_trans (Nt.mlK_mono htl htm (Nat.le_refl K) (Nat.le_refl M)) hB
 have hB3 : Nt.kk ((K + ((Nt.trimQ l).length * K + 2)) + (M + ((Nt.trimQ m).length * M + 2)) + 1) ((Nt.trimQ l).length * (Nt.trimQ m).length) + (((Nt.trimQ l).length * K + 2) + ((Nt.trimQ m).length * M + 2)) ≤ 30000000 := hB2
 have hK2 := hK1
 have hM2 := hM1
 rw [Nat.add_mul] at hK2 hM2
 have hKK : (Nt.trimQ l).length * K ≤ l.length * K := Nat.mul_le_mul_right _ htl
 have hMM : (Nt.trimQ m).length * M ≤ m.length * M := Nat.mul_le_mul_right _ htm
 refine zzm (args := [x.v, y.v]) Tryz.func130 rfl Tryz.ntmps130 (rs := [.tmp 4]) Tryz.results130 (le_b rfl) (le_b rfl) d ?_
 refine sq9 (zza 4 (.v (.slice none 0 0)) (zzb (sq9 (zza 15 (.v (x.v)) (zzg 16 179 _ fun _ _ aC bn => Post.mono (k_split bn (hx.ext aC) xq xw) ?_)))))
 rintro _ u16 a0 ⟨ah, aa, rfl, a6, aH⟩
 have ap : aa.n = (Nt.trimQ l).length := by have h9 := aH.len; simpa using h9
 refine zza 14 (.v (.tuple #[ah.v, aa.v])) (zza 17 (.v (ah.v)) (zza 18 (.v (aa.v)) (zzk 5 ⟨32, zw3⟩ (zzj ⟨32, ah.cs⟩ ty32 ?_))))
 refine zza 6 (.v (aa.v)) (zzb (sq9 (zza 20 (.v (y.v)) (zzg 21 179 _ fun _ _ av a8 => Post.mono (k_split a8 (hy.ext (aC.t (a0.t av))) xq xw) ?_))))
 rintro _ u24 ax ⟨al, ab, rfl, ba, aR⟩
 have au : ab.n = (Nt.trimQ m).length := by have h9 := aR.len; simpa using h9
 refine zza 19 (.v (.tuple #[al.v, ab.v])) (zza 22 (.v (al.v)) (zza 23 (.v (ab.v)) (zzk 7 ⟨32, zw3⟩ (zzj ⟨32, al.cs⟩ ty32 ?_))))
 refine zza 8 (.v (ab.v)) (zzb (zzd (sq9 (zza 24 (.v (aa.v)) (zza 25 (zI aa.n) (zza 26 (zB ((aa.n : Int) == 0)) ?_))))))
 rcases Bool.eq_false_or_eq_true ((aa.n : Int) == 0) with hs27 | hs27
 ·refine zyq 27 (x := zB ((aa.n : Int) == 0)) (zB true) (by rw [hs27]) ?_
  have aq : (aa.n : Int) = 0 := by simpa using hs27
  refine zzn 28 (uw 3 false true 27) (zzn 29 (uw 3 false true 27) (zzn 30 (uw 3 false true 27) (zza 31 (zB true) (zzb (zyr xj (sq9 (zza 4 (.v (.slice none 0 0)) (zzb (zzo (zzw (ret0 [.slice none 0 0] ⟨zzq, trivial⟩ fun u28 e29 => ?_)))))))))))
  have e9 : Nt.trimQ l = [] := List.eq_nil_of_length_eq_zero xq
  rw [Nt.mul_nil (.inl e9)]
  exact ⟨⟨none, 0, 0⟩, rfl, pol_nil _ _⟩
 refine zyq 27 (x := zB ((aa.n : Int) == 0)) (zB false) (by rw [hs27]) ?_
 have aq : ¬ ((aa.n : Int) = 0) := by simpa using hs27
 refine zza 28 (.v (ab.v)) ?_ (hw := w1 3 false 27)
 refine zza 29 (zI ab.n) ?_ (hw := w1 3 false 27)
 refine zza 30 (zB ((ab.n : Int) == 0)) ?_ (hw := w1 3 false 27)
 refine zza 31 (zB ((ab.n : Int) == 0)) (zzb (zzu (b := (ab.n : Int) == 0) xj (fun ag => ?_) (fun ag => ?_)))
 ·have ar : (ab.n : Int) = 0 := by simpa using ag
  refine sq9 (zza 4 (.v (.slice none 0 0)) (zzb (zzo (zzw (ret0 [.slice none 0 0] ⟨zzq, trivial⟩ fun u31 e32 => ?_)))))
  have e9 : Nt.trimQ m = [] := List.eq_nil_of_length_eq_zero xq
  rw [Nt.mul_nil (.inr e9)]
  exact ⟨⟨none, 0, 0⟩, rfl, pol_nil _ _⟩
 have ar : ¬ ((ab.n : Int) = 0) := by simpa using ag
 refine zzs (zzp ?_)
 refine sq9 (zza 32 (.v (aa.v)) (zza 33 (zI aa.n) (zza 34 (.v (ab.v)) (zza 35 (zI ab.n) (zyq 36 (x := zI (IntKind.i64.wrap ((aa.n : Int) + (ab.n : Int)))) (zI (aa.n + ab.n : Nat)) (eqI yq) (zyq 37 (x := zI (IntKind.i64.wrap (((aa.n + ab.n : Nat) : Int) - 1))) (zI (((aa.n + ab.n) - 1 : Nat) : Int)) (eqI yq) (zzg 38 180 _ fun _ _ aj a4 => Post.mono (k_zeros (n := (aa.n + ab.n) - 1) a4 xq) ?_)))))))
 rintro _ u40 am ⟨a1, bl, rfl, ad, ao, bg, hR39⟩
 refine zza 9 (.v (.slice (some ⟨a1, 0, none⟩) ((aa.n + ab.n) - 1) ((aa.n + ab.n) - 1))) (zzc 75 [(5, .adr 5 0), (6, .v (aa.v)), (7, .adr 7 0), (8, .v (ab.v)), (9, .v (.slice (some ⟨a1, 0, none⟩) ((aa.n + ab.n) - 1) ((aa.n + ab.n) - 1)))] [(5, ⟨32, ah.cs⟩), (7, ⟨32, al.cs⟩)] (zzd (zzd (sw_adopt (r := 9) (k := 9) zk ((Ext.refl _).cells ao) (Nat.le_trans ((aC.t (a0.t (av.t (ax.t aj)))).size) ad) xj (fun a5 ac => ?_)))))
 replace hR39 := (hR39.ext (Ext.refl _)).extB ((Ext.refl _).cells ao) ac
 refine zzf (zza 39 (.v (aa.v)) (zza 40 (zI aa.n) (zza 41 (zI 0) (zzb (zzt (zyn (I := fun aY S' u' => ∃ (i : Nat) (L : List RL), (aY = (Nt.trimQ l).length - i) ∧ (i ≤ (Nt.trimQ l).length) ∧ (L.length = ((Nt.trimQ l).length + (Nt.trimQ m).length - 1)) ∧ (S' = St.of 75 [(5, .adr 5 0), (7, .adr 7 0), (8, .v (ab.v)), (9, .slc 9 0 ((aa.n + ab.n) - 1) ((aa.n + ab.n) - 1)), (39, .v (aa.v)), (40, zI aa.n), (41, zI i)] [(5, ⟨32, ah.cs⟩), (7, ⟨32, al.cs⟩), (9, ⟨32, rcs L⟩)]) ∧ (Ext a5 u') ∧ (RatsN u' L (Nt.outQ ((Nt.trimQ l).map (· / Nt.msr (Nt.trimQ l))) ((Nt.trimQ m).map (· / Nt.msr (Nt.trimQ m))) ((Nt.trimQ l).length + (Nt.trimQ m).length - 1) i) (Nt.kk ((K + ((Nt.trimQ l).length * K + 2)) + (M + ((Nt.trimQ m).length * M + 2)) + 1) (i * (Nt.trimQ m).length)))) (fun m S u1 u2 e h => by obtain ⟨i, L, hm, p0, p1, hS, hE, f0⟩ := h; exact ⟨i, L, hm, p0, p1, hS, hE.trans e, f0.ext e⟩) _ yz ⟨0, bl, rfl, by omega, by omega, rfl, (Ext.refl _), (RatsN.more (K := 2) (by have h9 := hR39; rw [ap, au] at h9; exact h9) (by unfold Nt.kk; omega))⟩ ?_))))))
 rintro aY _ aX ⟨i, L, bj, hi, hL, rfl, ai, hR⟩
 refine sq9 (zza 42 (zB (decide ((i : Int) < (aa.n : Int)))) (zzb (zzd (zzu (b := decide ((i : Int) < (aa.n : Int))) xj (fun af => ?_) (fun af => ?_)))))
 ·have qhb46 := of_decide_eq_true af
  refine zzs (zzp ?_)
  refine zzd (zzt (sq9 (zza 43 (zI i) ?_)))
  have hl47 := (aH.ext (av.t (ax.t (aj.trans ((ExtB.old ac am.ext ad).trans ai))))).len
  obtain ⟨aA, b47, aW, aO, aN, aE⟩ := pol_atN (aH.ext (av.t (ax.t (aj.trans ((ExtB.old ac am.ext ad).trans ai))))) (i := i) xq
  refine zya 44 (aW + i * 3) (n := aa.n) (off := aW) (sz := 3) (i := (i : Int)) xq aO xq xq sl27 (zym 45 aA.cs aN ty32 (zzk 11 ⟨32, zw3⟩ (zza 10 (zI i) (zzj ⟨32, aA.cs⟩ ty32 ?_))))
  refine zzb (sq9 (zza 46 (.v (ab.v)) (zza 47 (zI ab.n) (zza 48 (zI 0) (zzb (zzt (zyn (I := fun a2 S' u' => ∃ (j : Nat) (M9 : List RL), (a2 = (Nt.trimQ m).length - j) ∧ (j ≤ (Nt.trimQ m).length) ∧ (M9.length = ((Nt.trimQ l).length + (Nt.trimQ m).length - 1)) ∧ (S' = St.of 75 [(5, .adr 5 0), (7, .adr 7 0), (8, .v (ab.v)), (9, .slc 9 0 ((aa.n + ab.n) - 1) ((aa.n + ab.n) - 1)), (10, zI i), (11, .adr 11 0), (39, .v (aa.v)), (40, zI aa.n), (41, zI i), (46, .v (ab.v)), (47, zI ab.n), (48, zI j)] [(5, ⟨32, ah.cs⟩), (7, ⟨32, al.cs⟩), (9, ⟨32, rcs M9⟩), (11, ⟨32, aA.cs⟩)]) ∧ (Ext aX u') ∧ (RatsN u' M9 (Nt.inn (Nt.outQ ((Nt.trimQ l).map (· / Nt.msr (Nt.trimQ l))) ((Nt.trimQ m).map (· / Nt.msr (Nt.trimQ m))) ((Nt.trimQ l).length + (Nt.trimQ m).length - 1) i) i (((Nt.trimQ l).map (· / Nt.msr (Nt.trimQ l))).getD i 0) ((Nt.trimQ m).map (· / Nt.msr (Nt.trimQ m))) j) (Nt.kk ((K + ((Nt.trimQ l).length * K + 2)) + (M + ((Nt.trimQ m).length * M + 2)) + 1) (i * (Nt.trimQ m).length + j)))) (fun m S u1 u2 e h => by obtain ⟨j, M9, hm, p0, p1, hS, hE, f0⟩ := h; exact ⟨j, M9, hm, p0, p1, hS, hE.trans e, f0.ext e⟩) _ yz ⟨0, L, rfl, by omega, by omega, rfl, (Ext.refl _), hR⟩ ?_)))))))
  rintro a2 _ u48 ⟨j, M9, bo, hj, hM9, rfl, aw, hQ⟩
  have hmm := Nat.mul_le_mul_right (Nt.trimQ m).length (show i + 1 ≤ (Nt.trimQ l).length by omega)
  rw [Nat.add_mul] at hmm
  have hkk := Nt.kk_mono (W := ((K + ((Nt.trimQ l).length * K + 2)) + (M + ((Nt.trimQ m).length * M + 2)) + 1)) (t := i * (Nt.trimQ m).length + j) (t' := (Nt.trimQ l).length * (Nt.trimQ m).length) (Nat.le_refl _) xq
  have hk2 := Nt.kk_succ ((K + ((Nt.trimQ l).length * K + 2)) + (M + ((Nt.trimQ m).length * M + 2)) + 1) (i * (Nt.trimQ m).length + j)
  refine sq9 (zza 49 (zB (decide ((j : Int) < (ab.n : Int)))) (zzb (zzd (zzu (b := decide ((j : Int) < (ab.n : Int))) xj (fun ak => ?_) (fun ak => ?_)))))
  ·have qhb49 := of_decide_eq_true ak
   refine zzs (zzp ?_)
   refine zzd (zzt (sq9 (zza 50 (zI j) ?_)))
   have hl50 := (aR.ext (aj.trans ((ExtB.old ac am.ext ad).trans (ai.trans aw)))).len
   obtain ⟨aL, b50, aZ, aP, aB, aK⟩ := pol_atN (aR.ext (aj.trans ((ExtB.old ac am.ext ad).trans (ai.trans aw)))) (i := j) xq
   refine zya 51 (aZ + j * 3) (n := ab.n) (off := aZ) (sz := 3) (i := (j : Int)) xq aP xq xq sl27 (zym 52 aL.cs aB ty32 (zzk 13 ⟨32, zw3⟩ (zza 12 (zI j) (zzj ⟨32, aL.cs⟩ ty32 ?_))))
   refine zzb (zzz [0, 0, 0, 6, 0, 0, 0, 96, 240, 496, 0, 0, 3072, 8176, 16383, 32767] [(0, []), (1, []), (2, []), (3, []), (4, []), (5, []), (6, []), (7, []), (8, []), (9, []), (10, []), (11, []), (12, []), (13, []), (14, []), (15, [])] xj xj (zza 53 (.slc 9 0 ((aa.n + ab.n) - 1) ((aa.n + ab.n) - 1)) (zza 54 (zI i) (zza 55 (zI j) (zyq 56 (x := zI (IntKind.i64.wrap ((i : Int) + (j : Int)))) (zI (i + j : Nat)) (eqI yq) (zza 57 (.slc 9 0 ((aa.n + ab.n) - 1) ((aa.n + ab.n) - 1)) (zza 58 (zI i) (zza 59 (zI j) (zyq 60 (x := zI (IntKind.i64.wrap ((i : Int) + (j : Int)))) (zI (i + j : Nat)) (eqI yq) (zyw 61 (off' := (i + j) * 3) (n := (aa.n + ab.n) - 1) (off := 0) (sz := 3) (i := ((i + j : Nat) : Int)) sl27 xq xq xq ?_))))))))))
   obtain ⟨bk, ae⟩ : ∃ r : RL, (M9).getD (i + j) rl0 = r := ⟨_, rfl⟩
   refine zzi 62 (V := ⟨32, rcs M9⟩) (off := (i + j) * 3) (.v bk.v) ty32 (by have h9 := part_rcs (L := M9) (i := i + j) (off := (i + j) * 3) yy rfl; rw [ae] at h9; exact h9) ?_
   have h52 := hQ.2 (i + j) yy
   rw [ae] at h52
   refine zzi 63 (.v (aA.v)) ty32 zze (zzi 64 (.v (aL.v)) ty32 zze (zzg 65 113 _ fun _ _ an bq => Post.mono (k_ratMul bq (aE.ext (aw.trans an)).raw (aK.ext an).raw xq xq) ?_))
   rintro _ u56 aM ⟨r54, rfl, bp⟩
   refine zzg 66 112 _ fun _ _ ay a7 => Post.mono (k_ratAdd a7 (h52.ext (an.t (aM.t ay))).raw (bp.ext ay).raw xq xq) ?_
   rintro _ u62 aU ⟨aF, rfl, a3⟩
   refine zyw 67 (off' := (i + j) * 3) (n := (aa.n + ab.n) - 1) (off := 0) (sz := 3) (i := ((i + j : Nat) : Int)) sl27 xq xq xq ?_
   refine zyv (V := ⟨32, rcs M9⟩) (off := (i + j) * 3) (rcs ((M9).set (i + j) aF)) ty32 zv (zyx (r := aF) (i := i + j) yy rfl) ?_
   refine zzx ?_
   refine zzp (zzf (zyq 68 (x := zI (IntKind.i64.wrap ((j : Int) + 1))) (zI (j + 1 : Nat)) (eqI yq) (zza 48 (zI (j + 1 : Nat)) (zzx ?_))))
   refine ⟨_, ?_, _, by exact zzv _ _ _, j + 1, (M9).set (i + j) aF, rfl, by omega, by simp; omega, rfl, (aw.t (an.t (aM.t (ay.t aU.ext)))), (RatsN.set (i := i + j) (RatsN.more (K := Nt.kk ((K + ((Nt.trimQ l).length * K + 2)) + (M + ((Nt.trimQ m).length * M + 2)) + 1) (i * (Nt.trimQ m).length + j)) (hQ.ext (an.t (aM.t (ay.t aU.ext)))) (by show _ ≤ Nt.kk _ (i * (Nt.trimQ m).length + j + 1); omega)) zq (RatN.more (K := ((Nt.kk ((K + ((Nt.trimQ l).length * K + 2)) + (M + ((Nt.trimQ m).length * M + 2)) + 1) (i * (Nt.trimQ m).length + j)) + ((K + ((Nt.trimQ l).length * K + 2)) + (M + ((Nt.trimQ m).length * M + 2))) + 1)) a3 (by show _ ≤ Nt.kk _ (i * (Nt.trimQ m).length + j + 1); omega)))⟩
   omega
  have qhb49 := of_decide_eq_false ak
  refine zyc (zzp (zzf (zyq 69 (x := zI (IntKind.i64.wrap ((i : Int) + 1))) (zI (i + 1 : Nat)) (eqI yq) (zza 41 (zI (i + 1 : Nat)) (zzx ?_)))))
  have bf : j = (Nt.trimQ m).length := by omega
  refine ⟨_, ?_, _, by exact zzv _ _ _, i + 1, M9, rfl, by omega, by omega, rfl, (ai.trans aw), (by have h9 := hQ; rw [bf, ← Nat.succ_mul] at h9; have e9 : ((Nt.trimQ m).map (· / Nt.msr (Nt.trimQ m))).length = (Nt.trimQ m).length := zj; show RatsN _ _ (Nt.inn _ _ _ _ ((Nt.trimQ m).map (· / Nt.msr (Nt.trimQ m))).length) _; rw [e9]; exact h9)⟩
  omega
 have qhb46 := of_decide_eq_false af
 refine zyc (zzp (zzd ?_))
 have a9 : i = (Nt.trimQ l).length := by omega
 have be : RatsN aX L (Nt.outQ ((Nt.trimQ l).map (· / Nt.msr (Nt.trimQ l))) ((Nt.trimQ m).map (· / Nt.msr (Nt.trimQ m))) ((Nt.trimQ l).length + (Nt.trimQ m).length - 1) ((Nt.trimQ l).length)) (Nt.kk ((K + ((Nt.trimQ l).length * K + 2)) + (M + ((Nt.trimQ m).length * M + 2)) + 1) ((Nt.trimQ l).length * (Nt.trimQ m).length)) := by have h9 := hR; rw [a9] at h9; exact h9
 refine zyp (r := 9) (t := 9) [9] xk xj zk zk xj (fun aV bi aJ bs aI => ?_)
 have aQ : PolN bi ⟨some ⟨aV, 0, none⟩, (aa.n + ab.n) - 1, (aa.n + ab.n) - 1⟩ (Nt.outQ ((Nt.trimQ l).map (· / Nt.msr (Nt.trimQ l))) ((Nt.trimQ m).map (· / Nt.msr (Nt.trimQ m))) ((Nt.trimQ l).length + (Nt.trimQ m).length - 1) ((Nt.trimQ l).length)) (Nt.kk ((K + ((Nt.trimQ l).length * K + 2)) + (M + ((Nt.trimQ m).length * M + 2)) + 1) ((Nt.trimQ l).length * (Nt.trimQ m).length)) := pol_data1 aI yv (be.ext aJ) xq
 refine zzf (zza 70 (.v (.slice (some ⟨aV, 0, none⟩) ((aa.n + ab.n) - 1) ((aa.n + ab.n) - 1))) (zzi 71 (.v (ah.v)) ty32 zze (zzi 72 (.v (al.v)) ty32 zze (zzg 73 113 _ fun _ _ aG bb => Post.mono (k_ratMul bb (a6.ext (av.t (ax.t (aj.trans ((ExtB.old ac am.ext ad).trans (ai.trans (aJ.trans aG))))))).raw (ba.ext (aj.trans ((ExtB.old ac am.ext ad).trans (ai.trans (aJ.trans aG))))).raw xq xq) ?_))))
 rintro _ u74 br ⟨r72, rfl, bh⟩
 refine zzg 74 116 _ fun _ _ aT bm => Post.mono (k_poScale bm (aQ.ext (aG.t (br.t aT))).raw (bh.ext aT).raw xq xw xq) ?_
 rintro _ u80 g81 ⟨aD, rfl, aS⟩
 have hly78 := aS.len
 refine zza 4 (.v (aD.v)) (zzb (zzo (ret0 [aD.v] ⟨zzq, trivial⟩ fun u83 bc => ?_)))
 have h8 := Nt.mul_parts (Nt.msr_ne (Nt.trim_nrm l) xq) (Nt.msr_ne (Nt.trim_nrm m) xq) (l := (Nt.trimQ l)) (m := (Nt.trimQ m)) xq xq
 refine ⟨aD, rfl, PolN.more (K := ((Nt.kk ((K + ((Nt.trimQ l).length * K + 2)) + (M + ((Nt.trimQ m).length * M + 2)) + 1) ((Nt.trimQ l).length * (Nt.trimQ m).length)) + (((Nt.trimQ l).length * K + 2) + ((Nt.trimQ m).length * M + 2)))) ?_ ?_⟩
 ·rw [← Nt.mul_trim, ← h8]
  exact (aS.ext bc)
 exact Nat.le_trans (Nat.add_le_add_left (Nat.le_refl _) _) (Nt.mlK_mono (n := (Nt.trimQ l).length) (m := (Nt.trimQ m).length) htl htm (Nat.le_refl K) (Nat.le_refl M))
set_option maxHeartbeats 2000000 in
theorem k_r5Trim {u w : World} {x : Sl} {l : List Rat} {K : Nat} (d : Dat u w) (hx : PolV u x l K) (hK : K ≤ 50000000) (hx9 : l.length ≤ 1000000000) : Calls Tryz.prog 83 #[x.v] w (Post u w fun v u' => ∃ y : Sl, v = y.v ∧ PolN u' y (Nt.trimQ l) K) := by
 have hlen := hx.len
 have htl := Nt.zzh l
 refine zzm (args := [x.v]) Tryz.func83 rfl Tryz.ntmps83 (rs := [.tmp 2]) Tryz.results83 (le_b rfl) (le_b rfl) d ?_
 refine sq9 (zza 2 (.v (.slice none 0 0)) (zzb (sq9 (zza 7 (.v (x.v)) (zza 8 (zI x.n) (zza 3 (zI x.n) (zzb (zzd (zzt (zyn (I := fun bv S' u' => ∃ (n : Nat), (bv = n) ∧ (n ≤ l.length) ∧ (∀ i, n ≤ i → Nt.co l i = 0) ∧ (S' = St.of 37 [(0, .v (x.v)), (3, zI n)] []) ∧ (Ext u u')) (fun m S u1 u2 e h => by obtain ⟨n, hm, p0, p1, hS, hE⟩ := h; exact ⟨n, hm, p0, p1, hS, hE.trans e⟩) _ yz ⟨x.n, rfl, by omega, fun i hi => Nt.co_ge xq, rfl, (Ext.refl _)⟩ ?_))))))))))
 rintro bv _ bx ⟨n, cd, hn, hz, rfl, aa⟩
 refine zzd (sq9 (zza 9 (zI n) (zza 10 (zB (decide ((0 : Int) < (n : Int)))) ?_)))
 rcases Bool.eq_false_or_eq_true (decide ((0 : Int) < (n : Int))) with hs12 | hs12
 ·refine zyq 11 (x := zB (decide ((0 : Int) < (n : Int)))) (zB true) (by rw [hs12]) ?_
  have qhs12 := of_decide_eq_true hs12
  refine zza 12 (.v (x.v)) ?_ (hw := w1 2 true 11)
  refine zza 13 (zI n) ?_ (hw := w1 2 true 11)
  refine zyq 14 (x := zI (IntKind.i64.wrap ((n : Int) - 1))) (zI (n - 1 : Nat)) (eqI yq) ?_ (hw := w1 2 true 11)
  have hl13 := (hx.ext aa).len
  obtain ⟨cH, b13, bY, aH, a8, ba⟩ := pol_at (hx.ext aa) (i := n - 1) xq
  refine zya 15 (bY + (n - 1) * 3) (n := x.n) (off := bY) (sz := 3) (i := ((n - 1 : Nat) : Int)) xq aH xq xq sl27 ?_ (hw := w1 2 true 11)
  refine zym 16 cH.cs a8 ty32 ?_ (hw := w1 2 true 11)
  refine zzg 17 32 _ (fun _ _ ab ch => Post.mono (k_rqSign ch (ba.ext ab) xq) ?_) (hw := w1 2 true 11)
  rintro _ bK ag rfl
  refine zza 18 (zB ((Nt.sgQ (l.getD (n - 1) 0)) == 0)) ?_ (hw := w1 2 true 11)
  refine zza 19 (zB ((Nt.sgQ (l.getD (n - 1) 0)) == 0)) (zzb (zzu (b := (Nt.sgQ (l.getD (n - 1) 0)) == 0) xj (fun ah => ?_) (fun ah => ?_)))
  ·refine zzs (zzp ?_)
   refine zzt (zzf (zza 20 (zI n) (zyq 21 (x := zI (IntKind.i64.wrap ((n : Int) - 1))) (zI (n - 1 : Nat)) (eqI yq) (zza 3 (zI (n - 1 : Nat)) (zzx ?_)))))
   refine ⟨_, ?_, _, by exact zzv _ _ _, n - 1, rfl, by omega, (fun i hi => by by_cases e : i = n - 1; (rw [e]; have h9 := ah; rw [Nt.sgQ_eq] at h9; exact of_decide_eq_true h9); exact hz i xq), rfl, (aa.t (ab.t ag.ext))⟩
   omega
  refine zyc (zzp (zzd ?_))
  have he9 := Nt.trim_len_of (l := l) hn hz (fun _ h => by have h9 := ah; rw [Nt.sgQ_eq] at h9; exact of_decide_eq_false h9 h)
  clear hz
  refine zzf (zza 4 (.v (.slice none 0 0)) (zzb (zzd (sq9 (zza 22 (.v (x.v)) (zza 23 (zI n) ?_))))))
  have hl19 := (hx.ext (aa.t (ab.t ag.ext))).len
  have hc19 := (hx.ext (aa.t (ab.t ag.ext))).cap
  refine sy_front 24 (n := x.n) (c := x.c) n sl27 rfl xq ?_
  refine zza 25 (zI n) (zza 26 (zI 0) (zzb (zzt (zyn (I := fun aS S' u' => (aS = n ∧ S' = St.of 37 [(4, .v (.slice none 0 0)), (24, .v (.slice x.a n x.c)), (25, zI n), (26, zI 0)] [] ∧ Ext bK u') ∨ (∃ (i : Nat) (L : List RL) (cs : List Value) (cp : Nat), aS = n - i ∧ i ≤ n ∧ 0 < i ∧ L.length = i ∧ cs.length = cp * 3 ∧ i ≤ cp ∧ cp ≤ maxLen ∧ cs.take (i * 3) = rcs L ∧ S' = St.of 37 [(4, .slc 34 0 i cp), (24, .v (.slice x.a n x.c)), (25, zI n), (26, zI i)] [(34, ⟨32, cs⟩)] ∧ Ext bK u' ∧ RatsN u' L ((Nt.trimQ l).take i) K)) (fun m S u1 u2 e h => by rcases h with ⟨a, b, c⟩ | ⟨a1, a2, a3, a4, b1, b2, b3, b4, b5, b6, b7, b8, b9, b10, b11⟩; exact .inl ⟨a, b, c.trans e⟩; exact .inr ⟨a1, a2, a3, a4, b1, b2, b3, b4, b5, b6, b7, b8, b9, b10.trans e, b11.ext e⟩) _ yz (.inl ⟨rfl, rfl, Ext.refl _⟩) ?_))))
  rintro aS _ cg (⟨bk, rfl, ac⟩ | ⟨i, L, cs, cp, bk, hi, hp, hL, hc, hle, hmx, ht, rfl, ac, hR⟩)
  ·change SW _ _ _ _ (St.of 37 [(4, .v (.slice none 0 0)), (24, .v (.slice x.a n x.c)), (25, .v (.int .i64 (n : Int))), (26, .v (.int .i64 0))] []) _ _
   refine sq9 (zza 27 (zB (decide ((0 : Int) < (n : Int)))) (zzb (zzd (zzu (b := decide ((0 : Int) < (n : Int))) xj (fun ae => ?_) (fun ae => ?_)))))
   ·have qhb21 := of_decide_eq_true ae
    refine zzs (zzp ?_)
    refine zzd (zzt (sq9 ?_))
    have hl22 := ((pol_take (hx.ext (aa.t (ab.t ag.ext))) xq).ext ac).len
    change n = _ at hl22
    obtain ⟨bp, b22, bH, aJ, aG, be⟩ := pol_at ((pol_take (hx.ext (aa.t (ab.t ag.ext))) xq).ext ac) (i := 0) xq
    refine zya 28 (bH + 0 * 3) (n := n) (off := bH) (sz := 3) (i := 0) xq aJ xq xq sl27 (zym 29 bp.cs aG ty32 (zzk 6 ⟨32, zw3⟩ (zzj ⟨32, bp.cs⟩ ty32 ?_)))
    refine zzb (zzf (zza 30 (.v (.slice none 0 0)) (zzi 31 (.v (bp.v)) ty32 zze (zzg 32 80 _ fun _ _ bG cx => Post.mono (k_rqTrim cx (be.ext bG) xq) ?_))))
    rintro _ u26 cm ⟨ap, rfl, bD⟩
    refine zxy 33 ⟨32, ap.cs⟩ 1 (fun bP cz bj bE => ?_)
    have ce : PolN cz (⟨some ⟨bP, 0, none⟩, 1, 1⟩ : Sl) [((l.take n).getD 0 0)] K := pol_lit (L := [ap]) bE (rats1 (bD.ext bj)) rfl yj
    refine sy_app0 34 (T := 27) (E := 32) (z := .agg #[.bool false, .slice none 0 0, .slice none 0 0]) (size := 3) (bytes := 56) (b := bP) (off := 0) (m := 1) ap.cs xj xj xj yj rfl (lit_news ((Ext.refl _).cells bE)) (rl_one ap) yj yj yj ?_
    intro bF bu cj bh br aA
    refine zza 4 (.slc 34 0 1 bF) (zzx ?_)
    refine zzp (zzf (zza 35 (zI 1) (zza 26 (zI 1) (zzx ?_))))
    have aI : 0 < (Nt.trimQ l).length := by skip; omega
    refine ⟨_, ?_, _, by exact zzv _ _ _, .inr ⟨1, [ap], bu, bF, rfl, by omega, by omega, by simp, br, by omega, bh, aA, rfl, (ac.t (bG.t (cm.t bj))), (app_first (RatN.more (K := K) (bD.ext bj) xq) aI (by rw [List.getD_eq_getElem?_getD, List.getElem?_take_of_lt xq, ← List.getD_eq_getElem?_getD]; exact (Nt.trim_co l 0).symm))⟩⟩
    omega
   have qhb21 := of_decide_eq_false ae
   refine zyc (zzp (zzd ?_))
   have aX : PolN cg ⟨none, 0, 0⟩ (Nt.trimQ l) K := by have h9 : Nt.trimQ l = [] := List.eq_nil_of_length_eq_zero (by skip; omega); rw [h9]; exact pol_nil _ _
   refine zzf (zza 36 (.v (.slice none 0 0)) (zza 2 (.v (.slice none 0 0)) (zzb (zzo (ret0 [.slice none 0 0] ⟨zzq, trivial⟩ fun u37 ci => ?_)))))
   refine ⟨⟨none, 0, 0⟩, rfl, ?_⟩
   exact (aX.ext ci)
  change SW _ _ _ _ (St.of 37 [(4, .slc 34 0 i cp), (24, .v (.slice x.a n x.c)), (25, .v (.int .i64 (n : Int))), (26, .v (.int .i64 (i : Int)))] [(34, ⟨32, cs⟩)]) _ _
  refine sq9 (zza 27 (zB (decide ((i : Int) < (n : Int)))) (zzb (zzd (zzu (b := decide ((i : Int) < (n : Int))) xj (fun ai => ?_) (fun ai => ?_)))))
  ·have qhb39 := of_decide_eq_true ai
   refine zzs (zzp ?_)
   refine zzd (zzt (sq9 ?_))
   have hl40 := ((pol_take (hx.ext (aa.t (ab.t ag.ext))) xq).ext ac).len
   change n = _ at hl40
   obtain ⟨aZ, b40, bz, bl, bm, aF⟩ := pol_at ((pol_take (hx.ext (aa.t (ab.t ag.ext))) xq).ext ac) (i := i) xq
   refine zya 28 (bz + i * 3) (n := n) (off := bz) (sz := 3) (i := (i : Int)) xq bl xq xq sl27 (zym 29 aZ.cs bm ty32 (zzk 6 ⟨32, zw3⟩ (zzj ⟨32, aZ.cs⟩ ty32 ?_)))
   refine zzb (zzf (zza 30 (.slc 34 0 i cp) (zzi 31 (.v (aZ.v)) ty32 zze (zzg 32 80 _ fun _ _ bt b0 => Post.mono (k_rqTrim b0 (aF.ext bt) xq) ?_))))
   rintro _ u44 bN ⟨ak, rfl, bT⟩
   refine zxy 33 ⟨32, ak.cs⟩ 1 (fun bS cC ax bR => ?_)
   have bZ : PolN cC (⟨some ⟨bS, 0, none⟩, 1, 1⟩ : Sl) [((l.take n).getD i 0)] K := pol_lit (L := [ak]) bR (rats1 (bT.ext ax)) rfl yj
   refine sy_app1 34 (T := 27) (E := 32) (z := .agg #[.bool false, .slice none 0 0, .slice none 0 0]) (size := 3) (bytes := 56) (b := bS) (off := 0) (m := 1) (n := i) (cap := cp) (t := 34) (cs0 := cs) [4, 30, 34] ak.cs xj xj xj yj rfl (lit_news ((Ext.refl _).cells bR)) (rl_one ak) yj yv xq xq xq xq xk ?_
   intro bU aq cc bo aU bi
   have aw : aq.take ((i + 1) * 3) = rcs (L ++ [ak]) := by rw [bi, ht, rcs_app]; rfl
   refine zza 4 (.slc 34 0 (i + 1) bU) (zzx ?_)
   refine zzp (zzf (zyq 35 (x := zI (IntKind.i64.wrap ((i : Int) + 1))) (zI (i + 1 : Nat)) (eqI yq) (zza 26 (zI (i + 1 : Nat)) (zzx ?_))))
   have a6 : i < (Nt.trimQ l).length := by skip; omega
   refine ⟨_, ?_, _, by exact zzv _ _ _, .inr ⟨i + 1, L ++ [ak], aq, bU, rfl, by omega, by omega, by simp; omega, aU, by omega, bo, aw, rfl, (ac.t (bt.t (bN.t ax))), (app_next (hR.ext (bt.t (bN.t ax))) (RatN.more (K := K) (bT.ext ax) xq) a6 (by rw [List.getD_eq_getElem?_getD, List.getElem?_take_of_lt xq, ← List.getD_eq_getElem?_getD]; exact (Nt.trim_co l i).symm))⟩⟩
   omega
  have qhb39 := of_decide_eq_false ai
  refine zyc (zzp (zzd (zyp (r := 4) (t := 34) [4, 34] xk xj zk zk xj (fun am cE ca ct bq => ?_))))
  have aW : PolN cE ⟨some ⟨am, 0, none⟩, i, cp⟩ (Nt.trimQ l) K := by have h8 := pol_data bq ht hc hle hmx (hR.ext ca); rw [List.take_of_length_le (l := Nt.trimQ l) (by skip; omega)] at h8; exact h8
  refine zzf (zza 36 (.v (.slice (some ⟨am, 0, none⟩) i cp)) (zza 2 (.v (.slice (some ⟨am, 0, none⟩) i cp)) (zzb (zzo (ret0 [.slice (some ⟨am, 0, none⟩) i cp] ⟨zzq, trivial⟩ fun u60 cI => ?_)))))
  refine ⟨(⟨some ⟨am, 0, none⟩, i, cp⟩ : Sl), rfl, ?_⟩
  exact (aW.ext cI)
 refine zyq 11 (x := zB (decide ((0 : Int) < (n : Int)))) (zB false) (by rw [hs12]) ?_
 have qhs12 := of_decide_eq_false hs12
 refine zzn 12 (uw 2 true false 11) (zzn 13 (uw 2 true false 11) (zzn 14 (uw 2 true false 11) (zzn 15 (uw 2 true false 11) (zzn 16 (uw 2 true false 11) (zzn 17 (uw 2 true false 11) (zzn 18 (uw 2 true false 11) (zza 19 (zB false) (zzb (zys xj (zyc (zzp ?_)))))))))))
 refine zzd ?_
 have he9 := Nt.trim_len_of (l := l) hn hz (fun h => absurd h xq)
 clear hz
 refine zzf (zza 4 (.v (.slice none 0 0)) (zzb (zzd (sq9 (zza 22 (.v (x.v)) (zza 23 (zI n) ?_))))))
 have hl62 := (hx.ext aa).len
 have hc62 := (hx.ext aa).cap
 refine sy_front 24 (n := x.n) (c := x.c) n sl27 rfl xq ?_
 refine zza 25 (zI n) (zza 26 (zI 0) (zzb (zzt (zyn (I := fun a5 S' u' => (a5 = n ∧ S' = St.of 37 [(4, .v (.slice none 0 0)), (24, .v (.slice x.a n x.c)), (25, zI n), (26, zI 0)] [] ∧ Ext bx u') ∨ (∃ (i : Nat) (L : List RL) (cs : List Value) (cp : Nat), a5 = n - i ∧ i ≤ n ∧ 0 < i ∧ L.length = i ∧ cs.length = cp * 3 ∧ i ≤ cp ∧ cp ≤ maxLen ∧ cs.take (i * 3) = rcs L ∧ S' = St.of 37 [(4, .slc 34 0 i cp), (24, .v (.slice x.a n x.c)), (25, zI n), (26, zI i)] [(34, ⟨32, cs⟩)] ∧ Ext bx u' ∧ RatsN u' L ((Nt.trimQ l).take i) K)) (fun m S u1 u2 e h => by rcases h with ⟨a, b, c⟩ | ⟨a1, a2, a3, a4, b1, b2, b3, b4, b5, b6, b7, b8, b9, b10, b11⟩; exact .inl ⟨a, b, c.trans e⟩; exact .inr ⟨a1, a2, a3, a4, b1, b2, b3, b4, b5, b6, b7, b8, b9, b10.trans e, b11.ext e⟩) _ yz (.inl ⟨rfl, rfl, Ext.refl _⟩) ?_))))
 rintro a5 _ cG (⟨aO, rfl, af⟩ | ⟨i, L, cs, cp, aO, hi, hp, hL, hc, hle, hmx, ht, rfl, af, hR⟩)
 ·change SW _ _ _ _ (St.of 37 [(4, .v (.slice none 0 0)), (24, .v (.slice x.a n x.c)), (25, .v (.int .i64 (n : Int))), (26, .v (.int .i64 0))] []) _ _
  refine sq9 (zza 27 (zB (decide ((0 : Int) < (n : Int)))) (zzb (zzd (zzu (b := decide ((0 : Int) < (n : Int))) xj (fun ad => ?_) (fun ad => ?_)))))
  ·have qhb64 := of_decide_eq_true ad
   refine zzs (zzp ?_)
   refine zzd (zzt (sq9 ?_))
   have hl65 := ((pol_take (hx.ext aa) xq).ext af).len
   change n = _ at hl65
   obtain ⟨aL, b65, bO, bs, aD, bb⟩ := pol_at ((pol_take (hx.ext aa) xq).ext af) (i := 0) xq
   refine zya 28 (bO + 0 * 3) (n := n) (off := bO) (sz := 3) (i := 0) xq bs xq xq sl27 (zym 29 aL.cs aD ty32 (zzk 6 ⟨32, zw3⟩ (zzj ⟨32, aL.cs⟩ ty32 ?_)))
   refine zzb (zzf (zza 30 (.v (.slice none 0 0)) (zzi 31 (.v (aL.v)) ty32 zze (zzg 32 80 _ fun _ _ bJ cD => Post.mono (k_rqTrim cD (bb.ext bJ) xq) ?_))))
   rintro _ u69 cq ⟨av, rfl, bC⟩
   refine zxy 33 ⟨32, av.cs⟩ 1 (fun bB cn aT bV => ?_)
   have ck : PolN cn (⟨some ⟨bB, 0, none⟩, 1, 1⟩ : Sl) [((l.take n).getD 0 0)] K := pol_lit (L := [av]) bV (rats1 (bC.ext aT)) rfl yj
   refine sy_app0 34 (T := 27) (E := 32) (z := .agg #[.bool false, .slice none 0 0, .slice none 0 0]) (size := 3) (bytes := 56) (b := bB) (off := 0) (m := 1) av.cs xj xj xj yj rfl (lit_news ((Ext.refl _).cells bV)) (rl_one av) yj yj yj ?_
   intro bI aC cB bf aE aM
   refine zza 4 (.slc 34 0 1 bI) (zzx ?_)
   refine zzp (zzf (zza 35 (zI 1) (zza 26 (zI 1) (zzx ?_))))
   have a9 : 0 < (Nt.trimQ l).length := by skip; omega
   refine ⟨_, ?_, _, by exact zzv _ _ _, .inr ⟨1, [av], aC, bI, rfl, by omega, by omega, by simp, aE, by omega, bf, aM, rfl, (af.t (bJ.t (cq.t aT))), (app_first (RatN.more (K := K) (bC.ext aT) xq) a9 (by rw [List.getD_eq_getElem?_getD, List.getElem?_take_of_lt xq, ← List.getD_eq_getElem?_getD]; exact (Nt.trim_co l 0).symm))⟩⟩
   omega
  have qhb64 := of_decide_eq_false ad
  refine zyc (zzp (zzd ?_))
  have bn : PolN cG ⟨none, 0, 0⟩ (Nt.trimQ l) K := by have h9 : Nt.trimQ l = [] := List.eq_nil_of_length_eq_zero (by skip; omega); rw [h9]; exact pol_nil _ _
  refine zzf (zza 36 (.v (.slice none 0 0)) (zza 2 (.v (.slice none 0 0)) (zzb (zzo (ret0 [.slice none 0 0] ⟨zzq, trivial⟩ fun u80 cw => ?_)))))
  refine ⟨⟨none, 0, 0⟩, rfl, ?_⟩
  exact (bn.ext cw)
 change SW _ _ _ _ (St.of 37 [(4, .slc 34 0 i cp), (24, .v (.slice x.a n x.c)), (25, .v (.int .i64 (n : Int))), (26, .v (.int .i64 (i : Int)))] [(34, ⟨32, cs⟩)]) _ _
 refine sq9 (zza 27 (zB (decide ((i : Int) < (n : Int)))) (zzb (zzd (zzu (b := decide ((i : Int) < (n : Int))) xj (fun aj => ?_) (fun aj => ?_)))))
 ·have qhb82 := of_decide_eq_true aj
  refine zzs (zzp ?_)
  refine zzd (zzt (sq9 ?_))
  have hl83 := ((pol_take (hx.ext aa) xq).ext af).len
  change n = _ at hl83
  obtain ⟨bg, b83, bw, aP, aV, bc⟩ := pol_at ((pol_take (hx.ext aa) xq).ext af) (i := i) xq
  refine zya 28 (bw + i * 3) (n := n) (off := bw) (sz := 3) (i := (i : Int)) xq aP xq xq sl27 (zym 29 bg.cs aV ty32 (zzk 6 ⟨32, zw3⟩ (zzj ⟨32, bg.cs⟩ ty32 ?_)))
  refine zzb (zzf (zza 30 (.slc 34 0 i cp) (zzi 31 (.v (bg.v)) ty32 zze (zzg 32 80 _ fun _ _ a0 cy => Post.mono (k_rqTrim cy (bc.ext a0) xq) ?_))))
  rintro _ u87 bM ⟨al, rfl, bL⟩
  refine zxy 33 ⟨32, al.cs⟩ 1 (fun bX cA ay bQ => ?_)
  have cf : PolN cA (⟨some ⟨bX, 0, none⟩, 1, 1⟩ : Sl) [((l.take n).getD i 0)] K := pol_lit (L := [al]) bQ (rats1 (bL.ext ay)) rfl yj
  refine sy_app1 34 (T := 27) (E := 32) (z := .agg #[.bool false, .slice none 0 0, .slice none 0 0]) (size := 3) (bytes := 56) (b := bX) (off := 0) (m := 1) (n := i) (cap := cp) (t := 34) (cs0 := cs) [4, 30, 34] al.cs xj xj xj yj rfl (lit_news ((Ext.refl _).cells bQ)) (rl_one al) yj yv xq xq xq xq xk ?_
  intro bA au cl aK aQ a7
  have an : au.take ((i + 1) * 3) = rcs (L ++ [al]) := by rw [a7, ht, rcs_app]; rfl
  refine zza 4 (.slc 34 0 (i + 1) bA) (zzx ?_)
  refine zzp (zzf (zyq 35 (x := zI (IntKind.i64.wrap ((i : Int) + 1))) (zI (i + 1 : Nat)) (eqI yq) (zza 26 (zI (i + 1 : Nat)) (zzx ?_))))
  have aY : i < (Nt.trimQ l).length := by skip; omega
  refine ⟨_, ?_, _, by exact zzv _ _ _, .inr ⟨i + 1, L ++ [al], au, bA, rfl, by omega, by omega, by simp; omega, aQ, by omega, aK, an, rfl, (af.t (a0.t (bM.t ay))), (app_next (hR.ext (a0.t (bM.t ay))) (RatN.more (K := K) (bL.ext ay) xq) aY (by rw [List.getD_eq_getElem?_getD, List.getElem?_take_of_lt xq, ← List.getD_eq_getElem?_getD]; exact (Nt.trim_co l i).symm))⟩⟩
  omega
 have qhb82 := of_decide_eq_false aj
 refine zyc (zzp (zzd (zyp (r := 4) (t := 34) [4, 34] xk xj zk zk xj (fun ar cb aN bW ao => ?_))))
 have aR : PolN cb ⟨some ⟨ar, 0, none⟩, i, cp⟩ (Nt.trimQ l) K := by have h8 := pol_data ao ht hc hle hmx (hR.ext aN); rw [List.take_of_length_le (l := Nt.trimQ l) (by skip; omega)] at h8; exact h8
 refine zzf (zza 36 (.v (.slice (some ⟨ar, 0, none⟩) i cp)) (zza 2 (.v (.slice (some ⟨ar, 0, none⟩) i cp)) (zzb (zzo (ret0 [.slice (some ⟨ar, 0, none⟩) i cp] ⟨zzq, trivial⟩ fun cF aB => ?_)))))
 refine ⟨(⟨some ⟨ar, 0, none⟩, i, cp⟩ : Sl), rfl, ?_⟩
 exact (aR.ext aB)
set_option maxHeartbeats 1000000 in
theorem k_sameList {u w : World} {x : Sl} {l : List Rat} {y : Sl} {m : List Rat} {K M : Nat} (d : Dat u w) (hx : PolN u x l K) (hy : PolN u y m M) (hx9 : l.length ≤ 1000000000) (hy9 : m.length ≤ 1000000000) : Calls Tryz.prog 73 #[x.v, y.v] w (Post u w fun v u' => v = .bool (decide (l = m))) := by
 have hlen := hx.len
 have hlen2 := hy.len
 refine zzm (args := [x.v, y.v]) Tryz.func73 rfl Tryz.ntmps73 (rs := [.tmp 4]) Tryz.results73 (le_b rfl) (le_b rfl) d ?_
 refine sq9 (zza 4 (zB false) (zzb (zzd (sq9 (zza 6 (.v (x.v)) (zza 7 (zI x.n) (zza 8 (.v (y.v)) (zza 9 (zI y.n) (zza 10 (zB ((x.n : Int) != (y.n : Int))) (zzb (zzu (b := (x.n : Int) != (y.n : Int)) xj (fun aa => ?_) (fun aa => ?_))))))))))))
 ·refine sq9 (zza 4 (zB false) (zzb (zzo (zzw (ret0 [.bool false] ⟨zzq, trivial⟩ fun u12 e13 => ?_)))))
  have e9 : l ≠ m := by intro e; have h9 := congrArg List.length e; have h8 := aa; simp at h8; omega
  show Value.bool false = Value.bool _
  rw [decide_eq_false e9]
 have hnn : x.n = y.n := by have h9 : (x.n : Int) = (y.n : Int) := (by simpa using aa); omega
 refine zzs (zzp ?_)
 refine zzd (sq9 (zza 5 (zI 0) (zzb (zzt (zyn (I := fun al S' u' => ∃ (i : Nat), (al = x.n - i) ∧ (i ≤ x.n) ∧ (∀ j, j < i → l.getD j 0 = m.getD j 0) ∧ (S' = St.of 27 [(0, .v (x.v)), (1, .v (y.v)), (5, zI i)] []) ∧ (Ext u u')) (fun m S u1 u2 e h => by obtain ⟨i, hm, p0, p1, hS, hE⟩ := h; exact ⟨i, hm, p0, p1, hS, hE.trans e⟩) _ yz ⟨0, rfl, by omega, fun j hj => by omega, rfl, (Ext.refl _)⟩ ?_)))))
 rintro al _ u14 ⟨i, au, hi, hz, rfl, ad⟩
 refine zzd (sq9 (zza 11 (zI i) (zza 12 (.v (x.v)) (zza 13 (zI x.n) (zza 14 (zB (decide ((i : Int) < (x.n : Int)))) (zzb (zzu (b := decide ((i : Int) < (x.n : Int))) xj (fun ab => ?_) (fun ab => ?_))))))))
 ·have qhb15 := of_decide_eq_true ab
  refine zzs (zzp ?_)
  refine zzd (zzt (zzd (zzz [0, 0, 3, 7, 0, 0, 48, 112, 255, 511] [(0, []), (1, []), (2, []), (3, []), (4, []), (5, []), (6, []), (7, []), (8, []), (9, [])] xj xj (zza 17 (.v (x.v)) (zza 18 (zI i) ?_)))))
  have hl16 := (hx.ext ad).len
  obtain ⟨ar, b16, am, af, ae, ah⟩ := pol_atN (hx.ext ad) (i := i) xq
  refine zya 19 (am + i * 3) (n := x.n) (off := am) (sz := 3) (i := (i : Int)) xq af xq xq sl26 (zym 20 ar.cs ae ty32 (zza 21 (.v (y.v)) (zza 22 (zI i) ?_)))
  have hl17 := (hy.ext ad).len
  obtain ⟨aq, b17, an, ak, aj, ai⟩ := pol_atN (hy.ext ad) (i := i) xq
  refine zya 23 (an + i * 3) (n := y.n) (off := an) (sz := 3) (i := (i : Int)) xq ak xq xq sl26 (zym 24 aq.cs aj ty32 (zzg 25 16 _ fun _ _ ag ap => Post.mono (k_rqSame ap (ah.ext ag) (ai.ext ag)) ?_))
  rintro _ u19 ao rfl
  refine zza 26 (zB (!(decide ((l.getD i 0) = (m.getD i 0))))) (zzb (zzu (b := !(decide ((l.getD i 0) = (m.getD i 0)))) xj (fun ac => ?_) (fun ac => ?_)))
  ·refine sq9 (zza 4 (zB false) (zzb (zzo (zyu (zzw (zyt (zyu (zzw (ret0 [.bool false] ⟨zzq, trivial⟩ fun u23 e24 => ?_)))))))))
   have e9 : l ≠ m := by intro e; have h9 := ac; rw [e] at h9; simp at h9
   show Value.bool false = Value.bool _
   rw [decide_eq_false e9]
  refine zzs (zzp ?_)
  refine zzf (zza 15 (zI i) (zyq 16 (x := zI (IntKind.i64.wrap ((i : Int) + 1))) (zI (i + 1 : Nat)) (eqI yq) (zza 5 (zI (i + 1 : Nat)) (zzx ?_))))
  refine ⟨_, ?_, _, by exact zzv _ _ _, i + 1, rfl, by omega, (fun j hj => by by_cases e : j = i; (rw [e]; have h9 := ac; simpa using h9); exact hz j xq), rfl, (ad.t (ag.t ao.ext))⟩
  omega
 have qhb15 := of_decide_eq_false ab
 refine zyc (zzp (sq9 (zza 4 (zB true) (zzb (zzo (ret0 [.bool true] ⟨zzq, trivial⟩ fun u25 e26 => ?_))))))
 have e9 : l = m := Nt.list_ext xq (fun j => by by_cases hj : j < i; exact hz j hj; rw [Nt.co_ge xq, Nt.co_ge xq])
 show Value.bool true = Value.bool _
 rw [decide_eq_true e9]
theorem k_r5Equal {u w : World} {x : Sl} {l : List Rat} {y : Sl} {m : List Rat} {K M : Nat} (d : Dat u w) (hx : PolN u x l K) (hy : PolN u y m M) (hx9 : l.length ≤ 1000000000) (hy9 : m.length ≤ 1000000000) : Calls Tryz.prog 15 #[x.v, y.v] w (Post u w fun v u' => v = .bool (decide (l = m))) := by
 have hlen := hx.len
 have hlen2 := hy.len
 refine zzm (args := [x.v, y.v]) Tryz.func15 rfl Tryz.ntmps15 (rs := [.tmp 4]) Tryz.results15 (le_b rfl) (le_b rfl) d ?_
 refine sq9 (zza 4 (zB false) (zzb (sq9 (zza 5 (.v (x.v)) (zza 6 (.v (y.v)) (zzg 7 73 _ fun _ _ aa ab => Post.mono (k_sameList ab (hx.ext aa) (hy.ext aa) xw xw) ?_))))))
 rintro _ u12 g13 rfl
 refine zza 4 (zB (decide (l = m))) (zzb (zzo (ret0 [.bool (decide (l = m))] ⟨zzq, trivial⟩ fun u15 e16 => ?_)))
 rfl
set_option maxHeartbeats 1000000 in
theorem k_r5Same {u w : World} {x : Sl} {l : List Rat} {y : Sl} {m : List Rat} {K M : Nat} (d : Dat u w) (hx : PolV u x l K) (hy : PolV u y m M) (hK : K ≤ 40000000) (hM : M ≤ 40000000) (hx9 : l.length ≤ 1000000000) (hy9 : m.length ≤ 1000000000) : Calls Tryz.prog 37 #[x.v, y.v] w (Post u w fun v u' => v = .bool (decide (Nt.trimQ l = Nt.trimQ m))) := by
 have hlen := hx.len
 have hlen2 := hy.len
 have htl := Nt.zzh l
 have htm := Nt.zzh m
 refine zzm (args := [x.v, y.v]) Tryz.func37 rfl Tryz.ntmps37 (rs := [.tmp 4]) Tryz.results37 (le_b rfl) (le_b rfl) d ?_
 refine sq9 (zza 4 (zB false) (zzb (sq9 (zza 5 (.v (x.v)) (zzg 6 83 _ fun _ _ aa ai => Post.mono (k_r5Trim ai (hx.ext aa) xq xw) ?_)))))
 rintro _ u14 ah ⟨y12, rfl, ae⟩
 have hly12 := ae.len
 refine zza 7 (.v (y.v)) (zzg 8 83 _ fun _ _ ad aj => Post.mono (k_r5Trim aj (hy.ext (aa.t (ah.t ad))) xq xw) ?_)
 rintro _ u20 ag ⟨y18, rfl, ab⟩
 have hly18 := ab.len
 refine zzg 9 15 _ fun _ _ ac af => Post.mono (k_r5Equal af (ae.ext (ad.t (ag.t ac))) (ab.ext ac) xw xw) ?_
 rintro _ u24 g25 rfl
 refine zza 4 (zB (decide ((Nt.trimQ l) = (Nt.trimQ m)))) (zzb (zzo (ret0 [.bool (decide ((Nt.trimQ l) = (Nt.trimQ m)))] ⟨zzq, trivial⟩ fun u27 e28 => ?_)))
 rfl
theorem k_mode {u w : World} {r : Int} (d : Dat u w) (h1 : 1 ≤ r) (h2 : r ≤ 3) : Calls Tryz.prog 161 #[.int .i64 r] w (Post u w fun v _ => v = .bool true) := by
 refine zzm (args := [.int .i64 r]) Tryz.func161 rfl Tryz.ntmps161 (rs := [.tmp 2]) Tryz.results161 (le_b rfl) (le_b rfl) d ?_
 refine sq9 (zza 2 (zB false) (zzb (sq9 (zza 3 (zI r) (zza 4 (zB (decide ((1 : Int) ≤ r))) (zyq 5 (x := zB (decide ((1 : Int) ≤ r))) (zB true) (by rw [show (decide ((1 : Int) ≤ r)) = true from decide_eq_true xq]) (zza 6 (zI r) ?_ (hw := w1 2 true 5))))))))
 refine zza 7 (zB (decide (r ≤ 3))) ?_ (hw := w1 2 true 5)
 refine zza 8 (zB (decide (r ≤ 3))) (zza 2 (zB (decide (r ≤ 3))) (zzb (zzo (ret0 [.bool (decide (r ≤ 3))] ⟨zzq, trivial⟩ fun u12 e13 => ?_))))
 show Value.bool _ = Value.bool _
 rw [show (decide (r ≤ 3)) = true from decide_eq_true xq]
theorem k_fxValid {u w : World} {W : WL} (d : Dat u w) (hW : WdOK W) : Calls Tryz.prog 103 #[W.v] w (Post u w fun v _ => v = .bool true) := by
 obtain ⟨hw1, hw2, hw3, hw4, hw5, hw6, hw7, hw8⟩ := id hW
 refine zzm (args := [.agg #[.int .i64 W.b, .int .i64 W.f, .int .i64 W.r, .int .i64 W.o]]) Tryz.func103 rfl Tryz.ntmps103 (rs := [.tmp 2]) Tryz.results103 (le_b rfl) (le_b rfl) d ?_
 refine sq9 (zzk 1 ⟨66, W.cs⟩ (zza 2 (zB false) (zzb (zzd (sq9 (zza 3 (.adr 1 0) (zzi 4 (zI W.b) ty3 zzl (zza 5 (zB (decide (W.b < 4))) (zyq 6 (x := zB (decide (W.b < 4))) (zB false) (by rw [show (decide (W.b < 4)) = false from decide_eq_false xq]) (zza 7 (.adr 1 0) ?_ (hw := w1 3 false 6)))))))))))
 refine zzi 8 (zI W.b) ty3 zzl ?_ (hw := w1 3 false 6)
 refine zza 9 (zB (decide ((24 : Int) < W.b))) ?_ (hw := w1 3 false 6)
 refine zza 10 (zB (decide ((24 : Int) < W.b))) (zyq 11 (x := zB (decide ((24 : Int) < W.b))) (zB false) (by rw [show (decide ((24 : Int) < W.b)) = false from decide_eq_false xq]) (zza 12 (.adr 1 1) ?_ (hw := w1 8 false 11)))
 refine zzi 13 (zI W.f) ty3 zzl ?_ (hw := w1 8 false 11)
 refine zza 14 (zB (decide (W.f < 0))) ?_ (hw := w1 8 false 11)
 refine zza 15 (zB (decide (W.f < 0))) (zyq 16 (x := zB (decide (W.f < 0))) (zB false) (by rw [show (decide (W.f < 0)) = false from decide_eq_false xq]) (zza 17 (.adr 1 1) ?_ (hw := w1 13 false 16)))
 refine zzi 18 (zI W.f) ty3 zzl ?_ (hw := w1 13 false 16)
 refine zza 19 (.adr 1 0) ?_ (hw := w1 13 false 16)
 refine zzi 20 (zI W.b) ty3 zzl ?_ (hw := w1 13 false 16)
 refine zza 21 (zB (decide (W.b ≤ W.f))) ?_ (hw := w1 13 false 16)
 refine zza 22 (zB (decide (W.b ≤ W.f))) (zzb (zzu (b := decide (W.b ≤ W.f)) xj (fun hb => ?_) (fun hb => ?_)))
 ·exact absurd hb (by rw [show (decide (W.b ≤ W.f)) = false from decide_eq_false xq]; decide)
 clear hb
 refine zzs (zzp ?_)
 refine sq9 (zza 23 (.adr 1 2) (zzi 24 (zI W.r) ty3 zzl (zzg 25 161 _ fun _ _ _ aa => Post.mono (k_mode (r := W.r) aa xq xq) ?_)))
 rintro _ u15 g16 rfl
 refine zza 26 (zB true) (zza 27 (.adr 1 3) ?_ (hw := w1 3 true 26))
 refine zzi 28 (zI W.o) ty3 zzl ?_ (hw := w1 3 true 26)
 refine zza 29 (zB (W.o == 1)) ?_ (hw := w1 3 true 26)
 rcases Bool.eq_false_or_eq_true (W.o == 1) with hs18 | hs18
 ·refine zyq 30 (x := zB (W.o == 1)) (zB true) (by rw [hs18]) ?_ (hw := w1 3 true 26)
  refine zzn 31 (uw 7 false true 30) (zzn 32 (uw 7 false true 30) (zzn 33 (uw 7 false true 30) (zza 34 (zB true) ?_ (hw := w1 3 true 26))))
  refine zza 35 (zB true) (zza 2 (zB true) (zzc 36 [(2, zB true)] [] (zzo (ret0 [.bool true] ⟨zzq, trivial⟩ fun u19 e20 => ?_))))
  rfl
 refine zyq 30 (x := zB (W.o == 1)) (zB false) (by rw [hs18]) ?_ (hw := w1 3 true 26)
 refine zza 31 (.adr 1 3) ?_ (hw := w1 7 false 30)
 refine zzi 32 (zI W.o) ty3 zzl ?_ (hw := w1 7 false 30)
 refine zza 33 (zB (W.o == 2)) ?_ (hw := w1 7 false 30)
 refine zza 34 (zB (W.o == 2)) ?_ (hw := w1 3 true 26)
 refine zza 35 (zB (W.o == 2)) (zza 2 (zB (W.o == 2)) (zzc 36 [(2, zB (W.o == 2))] [] (zzo (ret0 [.bool (W.o == 2)] ⟨zzq, trivial⟩ fun u21 e22 => ?_))))
 show Value.bool _ = Value.bool _
 rw [show (W.o == 2) = true from (by have hz := hs18; simp at hz ⊢; omega)]
theorem k_fxLow {u w : World} {W : WL} (d : Dat u w) (hW : WdOK W) : Calls Tryz.prog 207 #[W.v] w (Post u w fun v _ => v = .int .i64 (-Nt.p2i (W.b - 1))) := by
 obtain ⟨hw1, hw2, hw3, hw4, hw5, hw6, hw7, hw8⟩ := id hW
 have hp1 := Nt.zxp (W.b - 1)
 have hp2 := Nt.p2i_24 (n := W.b - 1) xq
 refine zzm (args := [.agg #[.int .i64 W.b, .int .i64 W.f, .int .i64 W.r, .int .i64 W.o]]) Tryz.func207 rfl Tryz.ntmps207 (rs := [.tmp 2]) Tryz.results207 (le_b rfl) (le_b rfl) d ?_
 refine sq9 (zzk 1 ⟨66, W.cs⟩ (zza 2 (zI 0) (zzb (zzd (sq9 (zzi 3 (.v (W.v)) ty66 zze (zzg 4 103 _ fun _ _ _ aa => Post.mono (k_fxValid (W := W) aa hW) ?_)))))))
 rintro _ u12 g13 rfl
 refine zza 5 (zB false) (zzb (zys xj (zzs (zzp ?_))))
 refine sq9 (zza 6 (.adr 1 0) (zzi 7 (zI W.b) ty3 zzl (zyq 8 (x := zI (IntKind.i64.wrap (W.b - 1))) (zI (W.b - 1)) yw (sy_shl 9 (k := .i64) (s := W.b - 1) (Nt.p2i (W.b - 1)) xq (by show _ ≤ (64 : Int); omega) (shl_one xq xq) ?_))))
 refine zyq 10 (x := zI (IntKind.i64.wrap (0 - Nt.p2i (W.b - 1)))) (zI (-Nt.p2i (W.b - 1))) (by rw [show (IntKind.i64.wrap (0 - Nt.p2i (W.b - 1))) = (-Nt.p2i (W.b - 1)) from yq]) (zza 2 (zI (-Nt.p2i (W.b - 1))) (zzb (zzo (ret0 [.int .i64 (-Nt.p2i (W.b - 1))] ⟨zzq, trivial⟩ fun u15 e16 => ?_))))
 rfl
theorem k_fxHigh {u w : World} {W : WL} (d : Dat u w) (hW : WdOK W) : Calls Tryz.prog 208 #[W.v] w (Post u w fun v _ => v = .int .i64 (Nt.p2i (W.b - 1) - 1)) := by
 obtain ⟨hw1, hw2, hw3, hw4, hw5, hw6, hw7, hw8⟩ := id hW
 have hp1 := Nt.zxp (W.b - 1)
 have hp2 := Nt.p2i_24 (n := W.b - 1) xq
 refine zzm (args := [.agg #[.int .i64 W.b, .int .i64 W.f, .int .i64 W.r, .int .i64 W.o]]) Tryz.func208 rfl Tryz.ntmps208 (rs := [.tmp 2]) Tryz.results208 (le_b rfl) (le_b rfl) d ?_
 refine sq9 (zzk 1 ⟨66, W.cs⟩ (zza 2 (zI 0) (zzb (zzd (sq9 (zzi 3 (.v (W.v)) ty66 zze (zzg 4 103 _ fun _ _ _ aa => Post.mono (k_fxValid (W := W) aa hW) ?_)))))))
 rintro _ u12 g13 rfl
 refine zza 5 (zB false) (zzb (zys xj (zzs (zzp ?_))))
 refine sq9 (zza 6 (.adr 1 0) (zzi 7 (zI W.b) ty3 zzl (zyq 8 (x := zI (IntKind.i64.wrap (W.b - 1))) (zI (W.b - 1)) yw (sy_shl 9 (k := .i64) (s := W.b - 1) (Nt.p2i (W.b - 1)) xq (by show _ ≤ (64 : Int); omega) (shl_one xq xq) ?_))))
 refine zyq 10 (x := zI (IntKind.i64.wrap ((Nt.p2i (W.b - 1)) - 1))) (zI ((Nt.p2i (W.b - 1)) - 1)) yw (zza 2 (zI ((Nt.p2i (W.b - 1)) - 1)) (zzb (zzo (ret0 [.int .i64 ((Nt.p2i (W.b - 1)) - 1)] ⟨zzq, trivial⟩ fun u15 e16 => ?_))))
 rfl
theorem k_fxValue {u w : World} {W : WL} {z : Int} (d : Dat u w) (hW : WdOK W) (h0 : -16777216 ≤ z) (h1 : z ≤ 16777216) : Calls Tryz.prog 118 #[W.v, .int .i64 z] w (Post u w fun v u' => ∃ r : RL, v = r.v ∧ RatN u' r (((z : Int) : Rat) / ((Nt.p2i W.f : Int) : Rat)) 2) := by
 obtain ⟨hw1, hw2, hw3, hw4, hw5, hw6, hw7, hw8⟩ := id hW
 have hp1 := Nt.zxp W.f
 have hp2 := Nt.p2i_24 (n := W.f) xq
 refine zzm (args := [.agg #[.int .i64 W.b, .int .i64 W.f, .int .i64 W.r, .int .i64 W.o], .int .i64 z]) Tryz.func118 rfl Tryz.ntmps118 (rs := [.cell 4 32]) Tryz.results118 (le_b rfl) (le_b rfl) d ?_
 refine sq9 (zzk 2 ⟨66, W.cs⟩ (zzk 4 ⟨32, zw3⟩ (zzb (zzd (sq9 (zzi 5 (.v (W.v)) ty66 zze (zzg 6 103 _ fun _ _ _ ad => Post.mono (k_fxValid (W := W) ad hW) ?_)))))))
 rintro _ u12 g13 rfl
 refine zza 7 (zB false) (zzb (zys xj (zzs (zzp ?_))))
 refine sq9 (zza 9 (zI z) (zza 10 (.adr 2 1) (zzi 11 (zI W.f) ty3 zzl (sy_shl 12 (k := .i64) (s := W.f) (Nt.p2i W.f) xq (by show _ ≤ (64 : Int); omega) (shl_one xq xq) ?_))))
 refine zzg 13 114 _ fun _ _ _ ae => Post.mono (k_ratFrac ae (a := z) (b := Nt.p2i W.f) xq xq xq xq) ?_
 rintro _ u18 g19 ⟨aa, rfl, ac⟩
 refine zzj ⟨32, aa.cs⟩ ty32 ?_
 refine zzb (zzo (ret0 [aa.v] ⟨zzr ty32 zze, trivial⟩ fun u21 ab => ?_))
 exact ⟨aa, rfl, (ac.ext ab)⟩
theorem k_within {u w : World} {n m : Int} (d : Dat u w) (hm : 1 ≤ m) (hm2 : m ≤ 4611686018427387904) (hn0 : -9223372036854775808 ≤ n) (hn1 : n ≤ 9223372036854775807) : Calls Tryz.prog 100 #[.int .i64 n, .int .i64 m] w (Post u w fun v _ => v = .int .i64 (n % m)) := by
 refine zzm (args := [.int .i64 n, .int .i64 m]) Tryz.func100 rfl Tryz.ntmps100 (rs := [.tmp 4]) Tryz.results100 (le_b rfl) (le_b rfl) d ?_
 refine sq9 (zza 4 (zI 0) (zzb (zzd (sq9 (zza 5 (zI m) (zyq 6 (x := zB (decide (m < 1))) (zB false) (by rw [show (decide (m < 1)) = false from zq]) (zzb (zys xj (zzs (zzp ?_))))))))))
 refine sq9 (zza 7 (zI n) (zza 8 (zI m) (sy_rem 9 (Int.tmod n m) xq rfl ?_)))
 refine zza 0 (zI (Int.tmod n m)) (zzb (zzd (sq9 (zza 10 (zI (Int.tmod n m)) (zza 11 (zB (decide ((Int.tmod n m) < 0))) (zzb (zzu (b := decide ((Int.tmod n m) < 0)) xj (fun aa => ?_) (fun aa => ?_))))))))
 ·have qhb11 := of_decide_eq_true aa
  refine zzf (zza 12 (zI (Int.tmod n m)) (zza 13 (zI m) (zyq 14 (x := zI (IntKind.i64.wrap (Int.tmod n m + m))) (zI (Int.tmod n m + m)) (by rw [show (IntKind.i64.wrap (Int.tmod n m + m)) = (Int.tmod n m + m) from (IntWalk.i64_in _ (by have h2 := Int.lt_tmod_of_pos n (show 0 < m by omega); have h3 := Int.tmod_lt_of_pos n (show 0 < m by omega); omega))]) (zza 0 (zI (Int.tmod n m + m)) (zzb (sq9 (zza 15 (zI (Int.tmod n m + m)) (zza 4 (zI (Int.tmod n m + m)) (zzb (zzo (ret0 [.int .i64 (Int.tmod n m + m)] ⟨zzq, trivial⟩ fun u12 e13 => ?_)))))))))))
  show Value.int _ _ = Value.int _ _
  rw [mod_neg9 m hm n aa]
 have qhb11 := of_decide_eq_false aa
 refine zzs (zzp ?_)
 refine sq9 (zza 15 (zI (Int.tmod n m)) (zza 4 (zI (Int.tmod n m)) (zzb (zzo (ret0 [.int .i64 (Int.tmod n m)] ⟨zzq, trivial⟩ fun u14 e15 => ?_)))))
 show Value.int _ _ = Value.int _ _
 rw [mod_pos9 m hm n aa]
theorem ints_nil {u : World} : SlR .i64 u none 0 0 [] := ⟨rfl, Nat.le_refl _, Nat.zero_le _, fun h => absurd h (Nat.lt_irrefl 0)⟩
theorem all_nil {b : Int} : ∀ z ∈ ([] : List Int), -b ≤ z ∧ z ≤ b := fun z hz => by cases hz
theorem all_snoc {b : Int} {L : List Int} {z : Int} (h : ∀ z ∈ L, -b ≤ z ∧ z ≤ b) (h1 : -b ≤ z) (h2 : z ≤ b) : ∀ y ∈ L ++ [z], -b ≤ y ∧ y ≤ b := fun y hy => by
 rcases List.mem_append.1 hy with hy | hy
 ·exact h y hy
 simp at hy; subst hy; exact ⟨h1, h2⟩
theorem k_withinB {u w : World} {n m : Int} (d : Dat u w) (hm : 1 ≤ m) (hm2 : m ≤ 4611686018427387904) (hn0 : -9223372036854775808 ≤ n) (hn1 : n ≤ 9223372036854775807) : Calls Tryz.prog 100 #[.int .i64 n, .int .i64 m] w (Post u w fun v _ => ∃ z : Int, v = .int .i64 z ∧ 0 ≤ z ∧ z < m) :=
 Post.mono (k_within d hm hm2 hn0 hn1) fun v u' _ h => ⟨n % m, h, Int.emod_nonneg _ xq, Int.emod_lt_of_pos _ xq⟩
set_option maxHeartbeats 1000000 in
theorem k_word {u w : World} {k : Int} (d : Dat u w) (hk0 : -9223372036854775808 ≤ k) (hk1 : k ≤ 9223372036854775807) : Calls Tryz.prog 99 #[.int .i64 k, .int .i64 6, .int .i64 9, .int .i64 1] w (Post u w fun v _ => ∃ W : WL, v = W.v ∧ CoefOK W) := by
 refine zzm (args := [.int .i64 k, .int .i64 6, .int .i64 9, .int .i64 1]) Tryz.func99 rfl Tryz.ntmps99 (rs := [.cell 8 66]) Tryz.results99 (le_b rfl) (le_b rfl) d ?_
 refine sq9 (zzk 8 ⟨66, [.int .i64 0, .int .i64 0, .int .i64 0, .int .i64 0]⟩ (zzb (sq9 (zza 10 (zI k) (zzg 11 100 _ fun _ _ _ ab => Post.mono ((show Calls _ _ #[.int .i64 k, .int .i64 1099511627776] _ _ from k_withinB (n := k) (m := 1099511627776) ab xq xq xq xq)) ?_)))))
 rintro _ u15 g16 ⟨aa, rfl, h13, h14⟩
 refine zza 0 (zI aa) (zzb (sq9 (zza 12 (zI 6) (zza 13 (zI aa) (zza 14 (zI 9) (zza 15 (zI 6) (zza 16 (zI 3) (zza 17 (zI 4) (sy_rem 18 (n := aa) (m := 4) (aa % 4) yj (Int.tmod_eq_emod_of_nonneg xq) ?_)))))))))
 refine zyq 19 (x := zI (IntKind.i64.wrap ((6 : Int) + (aa % 4)))) (zI ((6 : Int) + (aa % 4))) yw (zza 20 (.v (.agg #[.int .i64 ((6 : Int) + (aa % 4)), .int .i64 0, .int .i64 0, .int .i64 0])) (zzk 9 ⟨66, [.int .i64 0, .int .i64 0, .int .i64 0, .int .i64 0]⟩ (zzj ⟨66, [.int .i64 ((6 : Int) + (aa % 4)), .int .i64 0, .int .i64 0, .int .i64 0]⟩ ty66 ?_)))
 refine zzb (sq9 (zza 21 (zI aa) (zza 22 (zI 9) (zza 23 (zI 6) (zza 24 (zI 3) (zza 25 (zI 4) (sy_quo 26 (n := aa) (m := 4) (aa / 4) yj (by rw [Int.tdiv_eq_ediv_of_nonneg xq]; exact IntWalk.i64_in _ xq) ?_)))))))
 refine zza 0 (zI (aa / 4)) (zzb (sq9 (zza 27 (.adr 9 0) (zzi 28 (zI ((6 : Int) + (aa % 4))) ty3 zzl (zyq 29 (x := zI (IntKind.i64.wrap (((6 : Int) + (aa % 4)) - 1))) (zI (((6 : Int) + (aa % 4)) - 1)) yw (zza 30 (zI 1) (zyq 31 (x := zI (IntKind.i64.wrap ((((6 : Int) + (aa % 4)) - 1) - 1))) (zI ((((6 : Int) + (aa % 4)) - 1) - 1)) yw (zza 32 (zI (aa / 4)) (sy_rem 33 (n := aa / 4) (m := 2) ((aa / 4) % 2) yj (Int.tmod_eq_emod_of_nonneg xq) ?_)))))))))
 refine zyq 34 (x := zI (IntKind.i64.wrap (((((6 : Int) + (aa % 4)) - 1) - 1) - ((aa / 4) % 2)))) (zI (((((6 : Int) + (aa % 4)) - 1) - 1) - ((aa / 4) % 2))) yw (zza 35 (.adr 9 1) (zzj ⟨66, [.int .i64 ((6 : Int) + (aa % 4)), .int .i64 (((((6 : Int) + (aa % 4)) - 1) - 1) - ((aa / 4) % 2)), .int .i64 0, .int .i64 0]⟩ ty3 ?_))
 refine zzc 52 [(0, zI (aa / 4)), (8, .adr 8 0), (9, .adr 9 0)] [(8, ⟨66, [.int .i64 0, .int .i64 0, .int .i64 0, .int .i64 0]⟩), (9, ⟨66, [.int .i64 ((6 : Int) + (aa % 4)), .int .i64 (((((6 : Int) + (aa % 4)) - 1) - 1) - ((aa / 4) % 2)), .int .i64 0, .int .i64 0]⟩)] (sq9 (zza 36 (zI (aa / 4)) (sy_quo 37 (n := aa / 4) (m := 2) ((aa / 4) / 2) yj (by rw [Int.tdiv_eq_ediv_of_nonneg xq]; exact IntWalk.i64_in _ xq) ?_)))
 refine zza 0 (zI ((aa / 4) / 2)) (zzb (sq9 (zza 38 (.adr 9 1) (zzi 39 (zI (((((6 : Int) + (aa % 4)) - 1) - 1) - ((aa / 4) % 2))) ty3 zzl (sy_max0 40 (n := ((((6 : Int) + (aa % 4)) - 1) - 1) - ((aa / 4) % 2)) (v := ((((6 : Int) + (aa % 4)) - 1) - 1) - ((aa / 4) % 2)) (by split <;> omega) ?_)))))
 refine zza 41 (.adr 9 1) (zzj ⟨66, [.int .i64 ((6 : Int) + (aa % 4)), .int .i64 (((((6 : Int) + (aa % 4)) - 1) - 1) - ((aa / 4) % 2)), .int .i64 0, .int .i64 0]⟩ ty3 ?_)
 refine zzb (sq9 (zza 42 (zI ((aa / 4) / 2)) (sy_rem 43 (n := (aa / 4) / 2) (m := 3) (((aa / 4) / 2) % 3) yj (Int.tmod_eq_emod_of_nonneg xq) ?_)))
 refine zyq 44 (x := zI (IntKind.i64.wrap ((1 : Int) + (((aa / 4) / 2) % 3)))) (zI ((1 : Int) + (((aa / 4) / 2) % 3))) yw (zza 45 (zI ((aa / 4) / 2)) (sy_quo 46 (n := (aa / 4) / 2) (m := 3) (((aa / 4) / 2) / 3) yj (by rw [Int.tdiv_eq_ediv_of_nonneg xq]; exact IntWalk.i64_in _ xq) ?_))
 refine sy_rem 47 (n := ((aa / 4) / 2) / 3) (m := 2) ((((aa / 4) / 2) / 3) % 2) yj (Int.tmod_eq_emod_of_nonneg xq) ?_
 refine zyq 48 (x := zI (IntKind.i64.wrap ((1 : Int) + ((((aa / 4) / 2) / 3) % 2)))) (zI ((1 : Int) + ((((aa / 4) / 2) / 3) % 2))) yw (zza 49 (.adr 9 2) (zzj ⟨66, [.int .i64 ((6 : Int) + (aa % 4)), .int .i64 (((((6 : Int) + (aa % 4)) - 1) - 1) - ((aa / 4) % 2)), .int .i64 ((1 : Int) + (((aa / 4) / 2) % 3)), .int .i64 0]⟩ ty3 ?_))
 refine zza 50 (.adr 9 3) (zzj ⟨66, [.int .i64 ((6 : Int) + (aa % 4)), .int .i64 (((((6 : Int) + (aa % 4)) - 1) - 1) - ((aa / 4) % 2)), .int .i64 ((1 : Int) + (((aa / 4) / 2) % 3)), .int .i64 ((1 : Int) + ((((aa / 4) / 2) / 3) % 2))]⟩ ty3 ?_)
 refine zzb (sq9 (zzi 51 (.v (.agg #[.int .i64 ((6 : Int) + (aa % 4)), .int .i64 (((((6 : Int) + (aa % 4)) - 1) - 1) - ((aa / 4) % 2)), .int .i64 ((1 : Int) + (((aa / 4) / 2) % 3)), .int .i64 ((1 : Int) + ((((aa / 4) / 2) / 3) % 2))])) ty66 zze (zzj ⟨66, [.int .i64 ((6 : Int) + (aa % 4)), .int .i64 (((((6 : Int) + (aa % 4)) - 1) - 1) - ((aa / 4) % 2)), .int .i64 ((1 : Int) + (((aa / 4) / 2) % 3)), .int .i64 ((1 : Int) + ((((aa / 4) / 2) / 3) % 2))]⟩ ty66 ?_)))
 refine zzb (zzo (ret0 [.agg #[.int .i64 ((6 : Int) + (aa % 4)), .int .i64 (((((6 : Int) + (aa % 4)) - 1) - 1) - ((aa / 4) % 2)), .int .i64 ((1 : Int) + (((aa / 4) / 2) % 3)), .int .i64 ((1 : Int) + ((((aa / 4) / 2) / 3) % 2))]] ⟨zzr ty66 zze, trivial⟩ fun u18 e19 => ?_))
 exact ⟨⟨(6 : Int) + (aa % 4), ((((6 : Int) + (aa % 4)) - 1) - 1) - ((aa / 4) % 2), (1 : Int) + (((aa / 4) / 2) % 3), (1 : Int) + ((((aa / 4) / 2) / 3) % 2)⟩, rfl, by unfold CoefOK; dsimp only; omega⟩
theorem k_coef {u w : World} {k : Int} (d : Dat u w) (hk0 : -9223372036854775808 ≤ k) (hk1 : k ≤ 9223372036854775807) : Calls Tryz.prog 38 #[.int .i64 k] w (Post u w fun v _ => ∃ W : WL, v = W.v ∧ CoefOK W) := by
 refine zzm (args := [.int .i64 k]) Tryz.func38 rfl Tryz.ntmps38 (rs := [.cell 2 66]) Tryz.results38 (le_b rfl) (le_b rfl) d ?_
 refine sq9 (zzk 2 ⟨66, [.int .i64 0, .int .i64 0, .int .i64 0, .int .i64 0]⟩ (zzb (sq9 (zza 3 (zI k) (zzg 4 99 _ fun _ _ _ ae => Post.mono (k_word (k := k) ae xq xq) ?_)))))
 rintro _ u14 g15 ⟨aa, rfl, ab⟩
 have hw17 := ab.ok
 have ad : 1 ≤ aa.f := by have h9 := ab; unfold CoefOK at h9; omega
 have ac : aa.f ≤ 24 := by have h9 := ab; unfold CoefOK at h9; omega
 refine zzj ⟨66, aa.cs⟩ ty66 ?_
 refine zzb (zzo (ret0 [.agg #[.int .i64 aa.b, .int .i64 aa.f, .int .i64 aa.r, .int .i64 aa.o]] ⟨zzr ty66 zze, trivial⟩ fun u18 e19 => ?_))
 exact ⟨aa, rfl, by assumption⟩
theorem k_wat {u w : World} {x : Sl} {l : List Int} {i : Nat} (d : Dat u w) (hx : SlR .i64 u x.a x.n x.c l) (hb : ∀ z ∈ l, -9223372036854775808 ≤ z ∧ z ≤ 9223372036854775807) (hi9 : i ≤ 1000000000) : Calls Tryz.prog 133 #[x.v, .int .i64 (i : Int)] w (Post u w fun v _ => v = .int .i64 (l.getD i 0)) := by
 have hlen : l.length = x.n := hx.1
 refine zzm (args := [x.v, .int .i64 i]) Tryz.func133 rfl Tryz.ntmps133 (rs := [.tmp 4]) Tryz.results133 (le_b rfl) (le_b rfl) d ?_
 refine sq9 (zza 4 (zI 0) (zzb (zzd (sq9 (zza 5 (zI i) (zza 6 (zB (decide ((0 : Int) ≤ (i : Int)))) (zyq 7 (x := zB (decide ((0 : Int) ≤ (i : Int)))) (zB true) (by rw [show (decide ((0 : Int) ≤ (i : Int))) = true from decide_eq_true xq]) (zza 8 (zI i) ?_ (hw := w1 2 true 7)))))))))
 refine zza 9 (.v (x.v)) ?_ (hw := w1 2 true 7)
 refine zza 10 (zI x.n) ?_ (hw := w1 2 true 7)
 refine zza 11 (zB (decide ((i : Int) < (x.n : Int)))) ?_ (hw := w1 2 true 7)
 refine zza 12 (zB (decide ((i : Int) < (x.n : Int)))) (zzb (zzu (b := decide ((i : Int) < (x.n : Int))) xj (fun aa => ?_) (fun aa => ?_)))
 ·have qhb12 := of_decide_eq_true aa
  refine sq9 (zza 13 (.v (x.v)) (zza 14 (zI i) ?_))
  have hl13 := (hx).1
  obtain ⟨b13, ad, ab, ac⟩ := ints_at hx (i := i) xq
  have hz13 := ints_bd hb xq i
  refine zya 15 (ad + i * 1) (n := x.n) (off := ad) (sz := 1) (i := (i : Int)) xq ab xq xq sl22 (zyl 16 (.int .i64 (l.getD i 0)) ac ty3 (zza 4 (zI (l.getD i 0)) (zzb (zzo (zzw (ret0 [.int .i64 (l.getD i 0)] ⟨zzq, trivial⟩ fun u14 e15 => ?_))))))
  rfl
 have qhb12 := of_decide_eq_false aa
 refine zzs (zzp ?_)
 refine sq9 (zza 4 (zI 0) (zzb (zzo (ret0 [.int .i64 0] ⟨zzq, trivial⟩ fun u16 e17 => ?_))))
 show Value.int _ _ = Value.int _ _
 rw [show l.getD i 0 = 0 by rw [List.getD_eq_getElem?_getD, List.getElem?_eq_none xq]; rfl]
set_option maxHeartbeats 2000000 in
theorem k_belowN {u w : World} {x : Sl} {l : List Int} {b : Int} {n : Nat} (d : Dat u w) (hx : SlR .i64 u x.a x.n x.c l) (hb : ∀ z ∈ l, -9223372036854775808 ≤ z ∧ z ≤ 9223372036854775807) (hb0 : 0 ≤ b) (hb1 : b ≤ 16777216) (hn : n ≤ 1000) : Calls Tryz.prog 101 #[.int .i64 b, x.v, .int .i64 (n : Int)] w (Post u w fun v u' => ∃ (y : Sl) (m : List Int), v = y.v ∧ m.length = n ∧ SlR .i64 u' y.a y.n y.c m ∧ (∀ z ∈ m, -b ≤ z ∧ z ≤ b)) := by
 refine zzm (args := [.int .i64 b, x.v, .int .i64 n]) Tryz.func101 rfl Tryz.ntmps101 (rs := [.tmp 6]) Tryz.results101 (le_b rfl) (le_b rfl) d ?_
 refine sq9 (zza 6 (.v (.slice none 0 0)) (zzb (sq9 (zza 7 (.v (.slice none 0 0)) (zzb (zzd (sq9 (zza 8 (zI 0) (zzb (zzt (zyn (I := fun an S' u' => (an = n ∧ S' = St.of 29 [(0, zI b), (1, .v (x.v)), (2, zI n), (7, .v (.slice none 0 0)), (8, zI 0)] [] ∧ Ext u u') ∨ (∃ (i : Nat) (L : List Int) (cs : List Value) (cp : Nat), an = n - i ∧ i ≤ n ∧ 0 < i ∧ L.length = i ∧ cs.length = cp * 1 ∧ i ≤ cp ∧ cp ≤ maxLen ∧ cs.take (i * 1) = L.map (Value.int .i64) ∧ S' = St.of 29 [(0, zI b), (1, .v (x.v)), (2, zI n), (7, .slc 27 0 i cp), (8, zI i)] [(27, ⟨3, cs⟩)] ∧ Ext u u' ∧ (∀ z ∈ L, -b ≤ z ∧ z ≤ b))) (fun m S u1 u2 e h => by rcases h with ⟨a, b, c⟩ | ⟨a1, a2, a3, a4, b1, b2, b3, b4, b5, b6, b7, b8, b9, b10, b11⟩; exact .inl ⟨a, b, c.trans e⟩; exact .inr ⟨a1, a2, a3, a4, b1, b2, b3, b4, b5, b6, b7, b8, b9, b10.trans e, b11⟩) _ yz (.inl ⟨rfl, rfl, Ext.refl _⟩) ?_)))))))))))
 rintro an _ aV (⟨ay, rfl, ae⟩ | ⟨i, L, cs, cp, ay, hi, hp, hL, hc, hle, hmx, ht, rfl, ae, hP⟩)
 ·change SW _ _ _ _ (St.of 29 [(0, .v (.int .i64 b)), (1, .v (.slice x.a x.n x.c)), (2, .v (.int .i64 (n : Int))), (7, .v (.slice none 0 0)), (8, .v (.int .i64 0))] []) _ _
  refine zzd (sq9 (zza 9 (zI 0) (zza 10 (zI n) (zza 11 (zB (decide ((0 : Int) < (n : Int)))) (zzb (zzu (b := decide ((0 : Int) < (n : Int))) xj (fun ab => ?_) (fun ab => ?_)))))))
  ·have qhb12 := of_decide_eq_true ab
   refine zzs (zzp ?_)
   refine zzd (zzt (zzf (zza 14 (.v (.slice none 0 0)) (zza 15 (.v (x.v)) (zza 16 (zI 0) (zzg 17 133 _ fun _ _ aE aR => Post.mono ((show Calls _ _ #[_, .int .i64 0] _ _ from k_wat (x := x) (i := 0) aR (hx.ext (ae.trans aE)) hb xq)) ?_))))))
   rintro _ u14 a9 rfl
   have hz17 := ints_bd hb xq 0
   refine zza 18 (zI b) ?_
   obtain ⟨ao, ap, a8, aP⟩ := wrap64_ex ((l.getD 0 0) + b)
   refine zyq 19 (x := zI (IntKind.i64.wrap ((l.getD 0 0) + b))) (zI ao) (eqI ap) (zza 20 (zI b) (zyq 21 (x := zI (IntKind.i64.wrap ((2 : Int) * b))) (zI ((2 : Int) * b)) yw (zyq 22 (x := zI (IntKind.i64.wrap (((2 : Int) * b) + 1))) (zI (((2 : Int) * b) + 1)) yw (zzg 23 100 _ fun _ _ aN a5 => Post.mono ((show Calls _ _ #[.int .i64 ao, .int .i64 (((2 : Int) * b) + 1)] _ _ from k_withinB (n := ao) (m := ((2 : Int) * b) + 1) a5 xq xq xq xq)) ?_))))
   rintro _ u23 aU ⟨aG, rfl, h21, h22⟩
   refine zza 24 (zI b) ?_
   obtain ⟨ad, aq⟩ : ∃ g, aG - b = g := ⟨_, rfl⟩
   refine zyq 25 (x := zI (IntKind.i64.wrap (aG - b))) (zI ad) (eqI (by rw [IntWalk.i64_in _ xq]; exact aq)) (zxy 26 ⟨3, [.int .i64 ad]⟩ 1 (fun aZ u28 ba aW => ?_))
   refine sy_app0 27 (T := 22) (E := 3) (z := .int .i64 0) (size := 1) (bytes := 8) (b := aZ) (off := 0) (m := 1) [.int .i64 ad] xj xj xj yj rfl (lit_news ((Ext.refl _).cells aW)) (int_one _) yj yj yj ?_
   intro c31 ah a6 ar aw av
   have ai : ah.take (1 * 1) = ([ad]).map (Value.int .i64) := av
   refine zza 7 (.slc 27 0 1 c31) (zzx ?_)
   refine zzp (zzf (zza 12 (zI 0) (zza 13 (zI 1) (zza 8 (zI 1) (zzx ?_)))))
   refine ⟨_, ?_, _, by exact zzv _ _ _, .inr ⟨1, [ad], ah, c31, rfl, by omega, by omega, by simp, aw, by omega, ar, ai, rfl, (ae.t (aE.t (a9.t (aN.t (aU.t ba))))), (all_snoc (L := []) all_nil xq xq)⟩⟩
   omega
  have qhb12 := of_decide_eq_false ab
  refine zyc (zzp (zzd ?_))
  have al : SlR .i64 aV none 0 0 [] := ints_nil
  refine zzf (zza 28 (.v (.slice none 0 0)) (zza 6 (.v (.slice none 0 0)) (zzb (zzo (ret0 [.slice none 0 0] ⟨zzq, trivial⟩ fun u33 aS => ?_)))))
  exact ⟨⟨none, 0, 0⟩, [], rfl, yy, (al.ext aS), all_nil⟩
 change SW _ _ _ _ (St.of 29 [(0, .v (.int .i64 b)), (1, .v (.slice x.a x.n x.c)), (2, .v (.int .i64 (n : Int))), (7, .slc 27 0 i cp), (8, .v (.int .i64 (i : Int)))] [(27, ⟨3, cs⟩)]) _ _
 refine zzd (sq9 (zza 9 (zI i) (zza 10 (zI n) (zza 11 (zB (decide ((i : Int) < (n : Int)))) (zzb (zzu (b := decide ((i : Int) < (n : Int))) xj (fun aa => ?_) (fun aa => ?_)))))))
 ·have qhb35 := of_decide_eq_true aa
  refine zzs (zzp ?_)
  refine zzd (zzt (zzf (zza 14 (.slc 27 0 i cp) (zza 15 (.v (x.v)) (zza 16 (zI i) (zzg 17 133 _ fun _ _ aI aO => Post.mono ((show Calls _ _ #[_, .int .i64 i] _ _ from k_wat (x := x) (i := i) aO (hx.ext (ae.trans aI)) hb xq)) ?_))))))
  rintro _ u37 aT rfl
  have hz40 := ints_bd hb xq i
  refine zza 18 (zI b) ?_
  obtain ⟨aA, aB, aM, aJ⟩ := wrap64_ex ((l.getD i 0) + b)
  refine zyq 19 (x := zI (IntKind.i64.wrap ((l.getD i 0) + b))) (zI aA) (eqI aB) (zza 20 (zI b) (zyq 21 (x := zI (IntKind.i64.wrap ((2 : Int) * b))) (zI ((2 : Int) * b)) yw (zyq 22 (x := zI (IntKind.i64.wrap (((2 : Int) * b) + 1))) (zI (((2 : Int) * b) + 1)) yw (zzg 23 100 _ fun _ _ bc bb => Post.mono ((show Calls _ _ #[.int .i64 aA, .int .i64 (((2 : Int) * b) + 1)] _ _ from k_withinB (n := aA) (m := ((2 : Int) * b) + 1) bb xq xq xq xq)) ?_))))
  rintro _ u46 aL ⟨aH, rfl, h44, h45⟩
  refine zza 24 (zI b) ?_
  obtain ⟨aj, aC⟩ : ∃ g, aH - b = g := ⟨_, rfl⟩
  refine zyq 25 (x := zI (IntKind.i64.wrap (aH - b))) (zI aj) (eqI (by rw [IntWalk.i64_in _ xq]; exact aC)) (zxy 26 ⟨3, [.int .i64 aj]⟩ 1 (fun aQ u51 aK aY => ?_))
  refine sy_app1 27 (T := 22) (E := 3) (z := .int .i64 0) (size := 1) (bytes := 8) (b := aQ) (off := 0) (m := 1) (n := i) (cap := cp) (t := 27) (cs0 := cs) [7, 14, 27] [.int .i64 aj] xj xj xj yj rfl (lit_news ((Ext.refl _).cells aY)) (int_one _) yj yv xq xq xq xq xk ?_
  intro aF af aX aD au ax
  have ac : af.take ((i + 1) * 1) = (L ++ [aj]).map (Value.int .i64) := by rw [ax, ht, List.map_append]; rfl
  refine zza 7 (.slc 27 0 (i + 1) aF) (zzx ?_)
  refine zzp (zzf (zza 12 (zI i) (zyq 13 (x := zI (IntKind.i64.wrap ((i : Int) + 1))) (zI (i + 1 : Nat)) (eqI yq) (zza 8 (zI (i + 1 : Nat)) (zzx ?_)))))
  refine ⟨_, ?_, _, by exact zzv _ _ _, .inr ⟨i + 1, L ++ [aj], af, aF, rfl, by omega, by omega, by simp; omega, au, by omega, aD, ac, rfl, (ae.t (aI.t (aT.t (bc.t (aL.t aK))))), (all_snoc (L := L) hP xq xq)⟩⟩
  omega
 have qhb35 := of_decide_eq_false aa
 refine zyc (zzp (zzd (zyp (r := 7) (t := 27) [7, 27] xk xj zk zk xj (fun ag be e58 a0 am => ?_))))
 have ak : SlR .i64 be (some ⟨ag, 0, none⟩) i cp L := ints_data am (by have h9 := ht; rw [Nat.mul_one] at h9; exact h9) (by have h9 := hc; rw [Nat.mul_one] at h9; exact h9) hle hmx
 refine zzf (zza 28 (.v (.slice (some ⟨ag, 0, none⟩) i cp)) (zza 6 (.v (.slice (some ⟨ag, 0, none⟩) i cp)) (zzb (zzo (ret0 [.slice (some ⟨ag, 0, none⟩) i cp] ⟨zzq, trivial⟩ fun u61 a7 => ?_)))))
 exact ⟨(⟨some ⟨ag, 0, none⟩, i, cp⟩ : Sl), L, rfl, yy, (ak.ext a7), hP⟩
instance wdDec (W : WL) : Decidable (WdOK W) := by unfold WdOK; exact inferInstance
namespace Nt
def fitB (W : WL) (z : Int) : Bool := decide (-p2i (W.b - 1) ≤ z) && decide (z ≤ p2i (W.b - 1) - 1)
theorem fit_iff {W : WL} {z : Int} : fitB W z = true ↔ -p2i (W.b - 1) ≤ z ∧ z ≤ p2i (W.b - 1) - 1 := by unfold fitB; simp
variable {W : WL} {l m : List Int} {i : Nat}
theorem mem_getD {l : List Int} {z : Int} (h : z ∈ l) : ∃ i, i < l.length ∧ l.getD i 0 = z := by
 obtain ⟨i, hi, e⟩ := List.mem_iff_getElem.1 h
 exact ⟨i, hi, by rw [List.getD_eq_getElem?_getD, List.getElem?_eq_getElem hi]; exact e⟩
end Nt
theorem k_modeG {u w : World} {r : Int} (d : Dat u w) : Calls Tryz.prog 161 #[.int .i64 r] w (Post u w fun v _ => v = .bool (decide (1 ≤ r) && decide (r ≤ 3))) := by
 refine zzm (args := [.int .i64 r]) Tryz.func161 rfl Tryz.ntmps161 (rs := [.tmp 2]) Tryz.results161 (le_b rfl) (le_b rfl) d ?_
 refine sq9 (zza 2 (zB false) (zzb (sq9 (zza 3 (zI r) (zza 4 (zB (decide ((1 : Int) ≤ r))) ?_)))))
 rcases Bool.eq_false_or_eq_true (decide ((1 : Int) ≤ r)) with hs11 | hs11
 ·refine zyq 5 (x := zB (decide ((1 : Int) ≤ r))) (zB true) (by rw [hs11]) ?_
  have qhs11 := of_decide_eq_true hs11
  refine zza 6 (zI r) ?_ (hw := w1 2 true 5)
  refine zza 7 (zB (decide (r ≤ 3))) ?_ (hw := w1 2 true 5)
  refine zza 8 (zB (decide (r ≤ 3))) (zza 2 (zB (decide (r ≤ 3))) (zzb (zzo (ret0 [.bool (decide (r ≤ 3))] ⟨zzq, trivial⟩ fun u12 e13 => ?_))))
  show Value.bool _ = Value.bool _
  congr 1
  rw [Bool.eq_iff_iff]
  simp
  omega
 refine zyq 5 (x := zB (decide ((1 : Int) ≤ r))) (zB false) (by rw [hs11]) ?_
 have qhs11 := of_decide_eq_false hs11
 refine zzn 6 (uw 2 true false 5) (zzn 7 (uw 2 true false 5) (zza 8 (zB false) (zza 2 (zB false) (zzb (zzo (ret0 [.bool false] ⟨zzq, trivial⟩ fun u14 e15 => ?_))))))
 show Value.bool _ = Value.bool _
 congr 1
 rw [Bool.eq_iff_iff]
 simp
 omega
theorem k_fxValidG {u w : World} {W : WL} (d : Dat u w) : Calls Tryz.prog 103 #[W.v] w (Post u w fun v _ => v = .bool (decide (WdOK W))) := by
 refine zzm (args := [.agg #[.int .i64 W.b, .int .i64 W.f, .int .i64 W.r, .int .i64 W.o]]) Tryz.func103 rfl Tryz.ntmps103 (rs := [.tmp 2]) Tryz.results103 (le_b rfl) (le_b rfl) d ?_
 refine sq9 (zzk 1 ⟨66, W.cs⟩ (zza 2 (zB false) (zzb (zzd (sq9 (zza 3 (.adr 1 0) (zzi 4 (zI W.b) ty3 zzl (zza 5 (zB (decide (W.b < 4))) ?_))))))))
 rcases Bool.eq_false_or_eq_true (decide (W.b < 4)) with hs11 | hs11
 ·refine zyq 6 (x := zB (decide (W.b < 4))) (zB true) (by rw [hs11]) ?_
  have qhs11 := of_decide_eq_true hs11
  refine zzn 7 (uw 3 false true 6) (zzn 8 (uw 3 false true 6) (zzn 9 (uw 3 false true 6) (zza 10 (zB true) (zza 11 (zB true) (zzn 12 (uw 8 false true 11) (zzn 13 (uw 8 false true 11) (zzn 14 (uw 8 false true 11) (zza 15 (zB true) (zza 16 (zB true) (zzn 17 (uw 13 false true 16) (zzn 18 (uw 13 false true 16) ?_)))))))))))
  refine zzn 19 (uw 13 false true 16) (zzn 20 (uw 13 false true 16) (zzn 21 (uw 13 false true 16) (zza 22 (zB true) (zzb (zyr xj (sq9 (zza 2 (zB false) (zzb (zzo (zzw (ret0 [.bool false] ⟨zzq, trivial⟩ fun u12 e13 => ?_)))))))))))
  show Value.bool _ = Value.bool _
  congr 1
  exact (decide_eq_false (by unfold WdOK; omega)).symm
 refine zyq 6 (x := zB (decide (W.b < 4))) (zB false) (by rw [hs11]) ?_
 have qhs11 := of_decide_eq_false hs11
 refine zza 7 (.adr 1 0) ?_ (hw := w1 3 false 6)
 refine zzi 8 (zI W.b) ty3 zzl ?_ (hw := w1 3 false 6)
 refine zza 9 (zB (decide ((24 : Int) < W.b))) ?_ (hw := w1 3 false 6)
 refine zza 10 (zB (decide ((24 : Int) < W.b))) ?_
 rcases Bool.eq_false_or_eq_true (decide ((24 : Int) < W.b)) with hs14 | hs14
 ·refine zyq 11 (x := zB (decide ((24 : Int) < W.b))) (zB true) (by rw [hs14]) ?_
  have qhs14 := of_decide_eq_true hs14
  refine zzn 12 (uw 8 false true 11) (zzn 13 (uw 8 false true 11) (zzn 14 (uw 8 false true 11) (zza 15 (zB true) (zza 16 (zB true) (zzn 17 (uw 13 false true 16) (zzn 18 (uw 13 false true 16) (zzn 19 (uw 13 false true 16) (zzn 20 (uw 13 false true 16) (zzn 21 (uw 13 false true 16) (zza 22 (zB true) (zzb ?_)))))))))))
  refine zyr xj (sq9 (zza 2 (zB false) (zzb (zzo (zzw (ret0 [.bool false] ⟨zzq, trivial⟩ fun u15 e16 => ?_))))))
  show Value.bool _ = Value.bool _
  congr 1
  exact (decide_eq_false (by unfold WdOK; omega)).symm
 refine zyq 11 (x := zB (decide ((24 : Int) < W.b))) (zB false) (by rw [hs14]) ?_
 have qhs14 := of_decide_eq_false hs14
 refine zza 12 (.adr 1 1) ?_ (hw := w1 8 false 11)
 refine zzi 13 (zI W.f) ty3 zzl ?_ (hw := w1 8 false 11)
 refine zza 14 (zB (decide (W.f < 0))) ?_ (hw := w1 8 false 11)
 refine zza 15 (zB (decide (W.f < 0))) ?_
 rcases Bool.eq_false_or_eq_true (decide (W.f < 0)) with hs17 | hs17
 ·refine zyq 16 (x := zB (decide (W.f < 0))) (zB true) (by rw [hs17]) ?_
  have qhs17 := of_decide_eq_true hs17
  refine zzn 17 (uw 13 false true 16) (zzn 18 (uw 13 false true 16) (zzn 19 (uw 13 false true 16) (zzn 20 (uw 13 false true 16) (zzn 21 (uw 13 false true 16) (zza 22 (zB true) (zzb (zyr xj (sq9 (zza 2 (zB false) (zzb (zzo (zzw (ret0 [.bool false] ⟨zzq, trivial⟩ fun u18 e19 => ?_)))))))))))))
  show Value.bool _ = Value.bool _
  congr 1
  exact (decide_eq_false (by unfold WdOK; omega)).symm
 refine zyq 16 (x := zB (decide (W.f < 0))) (zB false) (by rw [hs17]) ?_
 have qhs17 := of_decide_eq_false hs17
 refine zza 17 (.adr 1 1) ?_ (hw := w1 13 false 16)
 refine zzi 18 (zI W.f) ty3 zzl ?_ (hw := w1 13 false 16)
 refine zza 19 (.adr 1 0) ?_ (hw := w1 13 false 16)
 refine zzi 20 (zI W.b) ty3 zzl ?_ (hw := w1 13 false 16)
 refine zza 21 (zB (decide (W.b ≤ W.f))) ?_ (hw := w1 13 false 16)
 refine zza 22 (zB (decide (W.b ≤ W.f))) (zzb (zzu (b := decide (W.b ≤ W.f)) xj (fun aa => ?_) (fun aa => ?_)))
 ·have qhb20 := of_decide_eq_true aa
  refine sq9 (zza 2 (zB false) (zzb (zzo (zzw (ret0 [.bool false] ⟨zzq, trivial⟩ fun u21 e22 => ?_)))))
  show Value.bool _ = Value.bool _
  congr 1
  exact (decide_eq_false (by unfold WdOK; omega)).symm
 have qhb20 := of_decide_eq_false aa
 refine zzs (zzp ?_)
 refine sq9 (zza 23 (.adr 1 2) (zzi 24 (zI W.r) ty3 zzl (zzg 25 161 _ fun _ _ _ ab => Post.mono (k_modeG ab (r := W.r)) ?_)))
 rintro _ u24 g25 rfl
 rcases Bool.eq_false_or_eq_true (decide (1 ≤ W.r) && decide (W.r ≤ 3)) with hs27 | hs27
 ·refine zyq 26 (x := zB (decide (1 ≤ W.r) && decide (W.r ≤ 3))) (zB true) (by rw [hs27]) ?_
  have qhs27 := hs27
  simp at qhs27
  refine zza 27 (.adr 1 3) ?_ (hw := w1 3 true 26)
  refine zzi 28 (zI W.o) ty3 zzl ?_ (hw := w1 3 true 26)
  refine zza 29 (zB (W.o == 1)) ?_ (hw := w1 3 true 26)
  rcases Bool.eq_false_or_eq_true (W.o == 1) with hs28 | hs28
  ·refine zyq 30 (x := zB (W.o == 1)) (zB true) (by rw [hs28]) ?_ (hw := w1 3 true 26)
   have qhs28 := hs28
   simp at qhs28
   refine zzn 31 (uw 7 false true 30) (zzn 32 (uw 7 false true 30) (zzn 33 (uw 7 false true 30) (zza 34 (zB true) ?_ (hw := w1 3 true 26))))
   refine zza 35 (zB true) (zza 2 (zB true) (zzc 36 [(2, zB true)] [] (zzo (ret0 [.bool true] ⟨zzq, trivial⟩ fun u29 e30 => ?_))))
   show Value.bool _ = Value.bool _
   congr 1
   exact (decide_eq_true (by unfold WdOK; omega)).symm
  refine zyq 30 (x := zB (W.o == 1)) (zB false) (by rw [hs28]) ?_ (hw := w1 3 true 26)
  have qhs28 := hs28
  simp at qhs28
  refine zza 31 (.adr 1 3) ?_ (hw := w1 7 false 30)
  refine zzi 32 (zI W.o) ty3 zzl ?_ (hw := w1 7 false 30)
  refine zza 33 (zB (W.o == 2)) ?_ (hw := w1 7 false 30)
  refine zza 34 (zB (W.o == 2)) ?_ (hw := w1 3 true 26)
  refine zza 35 (zB (W.o == 2)) (zza 2 (zB (W.o == 2)) (zzc 36 [(2, zB (W.o == 2))] [] (zzo (ret0 [.bool (W.o == 2)] ⟨zzq, trivial⟩ fun u31 e32 => ?_))))
  show Value.bool _ = Value.bool _
  congr 1
  rw [Bool.eq_iff_iff]
  simp
  unfold WdOK
  omega
 refine zyq 26 (x := zB (decide (1 ≤ W.r) && decide (W.r ≤ 3))) (zB false) (by rw [hs27]) ?_
 have qhs27 := hs27
 simp at qhs27
 refine zzn 27 (uw 3 true false 26) (zzn 28 (uw 3 true false 26) (zzn 29 (uw 3 true false 26) (zzn 30 (uw 3 true false 26) (zzn 31 (unwantedU (g := 7) (b := false) (t := 30) xj xj xj) (zzn 32 (unwantedU (g := 7) (b := false) (t := 30) xj xj xj) (zzn 33 (unwantedU (g := 7) (b := false) (t := 30) xj xj xj) (zzn 34 (uw 3 true false 26) (zza 35 (zB false) (zza 2 (zB false) (zzc 36 [(2, zB false)] [] (zzo (ret0 [.bool false] ⟨zzq, trivial⟩ fun u33 e34 => ?_))))))))))))
 show Value.bool _ = Value.bool _
 congr 1
 exact (decide_eq_false (by unfold WdOK; omega)).symm
theorem k_fxFitsG {u w : World} {W : WL} {z : Int} (d : Dat u w) (hW : WdOK W) : Calls Tryz.prog 162 #[W.v, .int .i64 z] w (Post u w fun v _ => v = .bool (Nt.fitB W z)) := by
 obtain ⟨hw1, hw2, hw3, hw4, hw5, hw6, hw7, hw8⟩ := id hW
 refine zzm (args := [.agg #[.int .i64 W.b, .int .i64 W.f, .int .i64 W.r, .int .i64 W.o], .int .i64 z]) Tryz.func162 rfl Tryz.ntmps162 (rs := [.tmp 4]) Tryz.results162 (le_b rfl) (le_b rfl) d ?_
 refine sq9 (zzk 2 ⟨66, W.cs⟩ (zza 4 (zB false) (zzb (sq9 (zzi 5 (.v (W.v)) ty66 zze (zzg 6 103 _ fun _ _ _ ac => Post.mono (k_fxValid (W := W) ac hW) ?_))))))
 rintro _ u12 g13 rfl
 refine zza 7 (zB true) (zza 8 (zI z) ?_ (hw := w1 2 true 7))
 refine zzi 9 (.v (W.v)) ty66 zze ?_ (hw := w1 2 true 7)
 refine zzg 10 207 _ (fun _ _ _ ab => Post.mono (k_fxLow (W := W) ab hW) ?_) (hw := w1 2 true 7)
 rintro _ u16 g17 rfl
 refine zza 11 (zB (decide ((-Nt.p2i (W.b - 1)) ≤ z))) ?_ (hw := w1 2 true 7)
 refine zza 12 (zB (decide ((-Nt.p2i (W.b - 1)) ≤ z))) ?_
 rcases Bool.eq_false_or_eq_true (decide ((-Nt.p2i (W.b - 1)) ≤ z)) with hs19 | hs19
 ·refine zyq 13 (x := zB (decide ((-Nt.p2i (W.b - 1)) ≤ z))) (zB true) (by rw [hs19]) ?_
  have qhs19 := of_decide_eq_true hs19
  refine zza 14 (zI z) ?_ (hw := w1 8 true 13)
  refine zzi 15 (.v (W.v)) ty66 zze ?_ (hw := w1 8 true 13)
  refine zzg 16 208 _ (fun _ _ _ aa => Post.mono (k_fxHigh (W := W) aa hW) ?_) (hw := w1 8 true 13)
  rintro _ u21 g22 rfl
  refine zza 17 (zB (decide (z ≤ (Nt.p2i (W.b - 1) - 1)))) ?_ (hw := w1 8 true 13)
  refine zza 18 (zB (decide (z ≤ (Nt.p2i (W.b - 1) - 1)))) (zza 4 (zB (decide (z ≤ (Nt.p2i (W.b - 1) - 1)))) (zzb (zzo (ret0 [.bool (decide (z ≤ (Nt.p2i (W.b - 1) - 1)))] ⟨zzq, trivial⟩ fun u24 e25 => ?_))))
  show Value.bool _ = Value.bool _
  first | rfl | (congr 1; rw [Bool.eq_iff_iff, Nt.fit_iff]; first | (simp; done) | (simp; omega))
 refine zyq 13 (x := zB (decide ((-Nt.p2i (W.b - 1)) ≤ z))) (zB false) (by rw [hs19]) ?_
 have qhs19 := of_decide_eq_false hs19
 refine zzn 14 (uw 8 true false 13) (zzn 15 (uw 8 true false 13) (zzn 16 (uw 8 true false 13) (zzn 17 (uw 8 true false 13) (zza 18 (zB false) (zza 4 (zB false) (zzb (zzo (ret0 [.bool false] ⟨zzq, trivial⟩ fun u26 e27 => ?_))))))))
 show Value.bool _ = Value.bool _
 first | rfl | (congr 1; rw [Bool.eq_iff_iff, Nt.fit_iff]; first | (simp; done) | (simp; omega))
section
variable {P : Program} {ops : Array Oper} {w0 : Base} {u0 : World} {S : St} {u : World} {o : Oper} {p : List Tmp} {seq : Bool} {rest : List (Oper × List Tmp)} {K : St → World → Prop}
theorem sy_makeC (d : Tmp) {T E : TypeId} {x y : Operand} {z : Value} {size bytes : Nat} {k1 k2 : IntKind} {i j : Int} (n c : Nat) (cs : List Value) (hT : P.underlying T = some (.slice E)) (hi : (P.info? E).map (fun i => (i.zero, i.size, i.bytes)) = some (some z, size, bytes)) (hn : i = n) (hn2 : j = c) (hnc : n ≤ c) (hb : bytes * c ≤ 281474976710656) (h63 : c ≤ maxLen) (hcs : (madeCells z.cells (c * size)).toList = cs)
  (k : sym P ops w0 u0 true rest (S.own d ⟨E, cs⟩ n c) u K) (hw : Wants ops o S := by exact zwh xj) (hd : o.dst = some d := by kernel_rfl) (hop : o.op = .makeSlice T x y := by rfl) (hf : freeB S d = true := by kernel_rfl) (hv : S.var d = none := by kernel_rfl)
  (hx : evO S x = some (.v (.int k1 i)) := by rfl) (hy : evO S y = some (.v (.int k2 j)) := by rfl) : sym P ops w0 u0 true ((o, p) :: rest) S u K := by
 obtain ⟨inf, hi1, hz, hs, hby⟩ := info_parts hi
 subst hcs hn hn2
 have hfr := zxz (o := o) hd hf d hd
 refine .inr (.inr (.inl ⟨.inl rfl, fun B a w u' he hrep => ⟨hw B a hrep.regs, ?_⟩⟩))
 have hrun : (execOp a.eval o).run P w = .ok (.value (.slice (some ⟨w.heap.size, 0, none⟩) n c)) (w.alloc (.cells (madeCells z.cells (c * size)) E)) := by
  have h63' : (c : Int) ≤ 9223372036854775807 := by unfold maxLen at h63; omega
  have hb' : (inf.bytes : Int) * (c : Int) ≤ 281474976710656 := by
   have h : ((inf.bytes * c : Nat) : Int) ≤ 281474976710656 := by rw [hby]; omega
   rwa [Int.natCast_mul] at h
  have hrun := run_make (P := P) w T E inf z hT hi1 hz k1 k2 n c xq xq hb' h63'
  have e1 : (execOp a.eval o).run P w = (do pure (Next.value (← Instr.makeSlice T (a.eval x) (a.eval y))) : Sem Next).run P w := by unfold execOp; rw [hop]
  rw [e1, ev_of hrep.regs hx, ev_of hrep.regs hy]
  rw [hs] at hrun
  exact run_val (by simpa [SV.conc] using hrun)
 have e : (SV.slc d 0 n c).conc (setB B d w.heap.size) = .slice (some ⟨w.heap.size, 0, none⟩) n c := by simp [SV.conc, setB]
 have hr2 := hrep.new (t := d) (V := ⟨E, (madeCells z.cells (c * size)).toList⟩) (y := .slc d 0 n c) hfr.1 hv hfr.2 rfl
 rw [e] at hr2
 unfold Oper.wp
 rw [hrun]
 show ∃ S' B' u'' u2, Rep w0 u0 S' B' (a.put o.dst _) _ u'' ∧ _
 rw [hd]
 exact ⟨_, _, _, u, (by simpa [St.own] using hr2), (fun h => by cases h), (fun h => by cases h), he.trans (zxv _ _).ext, k⟩
end
namespace Nt
structure NetOK (D W : WL) (s : Nat) (N : List (List TL)) (nx : List Int) (q : Int) : Prop where
 hd : WdOK D
 hw : WdOK W
 hs : s ≤ 64
 hn : N.length ≤ 64
 hx : nx.length = s
 ht : ∀ k, k < N.length → (N.getD k []).length ≤ 64 ∧ ∀ j, j < (N.getD k []).length → 0 ≤ ((N.getD k []).getD j tl0).f ∧ ((N.getD k []).getD j tl0).f ≤ s + k ∧ (((N.getD k []).getD j tl0).c = p2i W.f ∨ fitB W ((N.getD k []).getD j tl0).c = true)
 hr : ∀ j, j < nx.length → 0 ≤ nx.getD j 0 ∧ nx.getD j 0 ≤ s + N.length
 hq : 0 ≤ q ∧ q ≤ s + N.length
variable {D W : WL} {s : Nat} {N : List (List TL)} {nx v0 st xs vals : List Int} {q : Int} {k j : Nat} {T : List TL}
theorem getD_app_lt {l m : List Int} {i : Nat} (h : i < l.length) : (l ++ m).getD i 0 = l.getD i 0 := by
 rw [List.getD_eq_getElem?_getD, List.getElem?_append_left h, ← List.getD_eq_getElem?_getD]
end Nt
namespace Nt
def secFit (W : WL) (p : List Int) : Bool := fitB W (p.getD 0 0) && fitB W (p.getD 1 0) && fitB W (p.getD 2 0) && (fitB W (p.getD 3 0) && fitB W (-p.getD 3 0)) && (fitB W (p.getD 4 0) && fitB W (-p.getD 4 0))
def csE (W : WL) (L : List (List Int)) : Int :=
 if ¬ WdOK W then 2 else if L.length < 1 ∨ 8 < L.length then 1 else if ∀ i, i < L.length → secFit W (L.getD i []) = true then 0 else 17
variable {D W : WL} {L : List (List Int)} {i j n k : Nat}
theorem csE_2 (h : ¬ WdOK W) : csE W L = 2 := by unfold csE; rw [if_pos h]
theorem csE_1 (hW : WdOK W) (h : L.length < 1 ∨ 8 < L.length) : csE W L = 1 := by unfold csE; rw [if_neg (not_not_intro hW), if_pos h]
theorem csE_17 (hW : WdOK W) (h1 : 1 ≤ L.length) (h8 : L.length ≤ 8) (hi : i < L.length) (h : secFit W (L.getD i []) = false) : csE W L = 17 := by
 unfold csE
 rw [if_neg (not_not_intro hW), if_neg xq, if_neg (fun k => by rw [k i hi] at h; cases h)]
theorem csE_0 (hW : WdOK W) (h1 : 1 ≤ L.length) (h8 : L.length ≤ 8) (h : ∀ i, i < L.length → secFit W (L.getD i []) = true) : csE W L = 0 := by
 unfold csE
 rw [if_neg (not_not_intro hW), if_neg xq, if_pos h]
theorem csE_ok (h : csE W L = 0) : WdOK W ∧ 1 ≤ L.length ∧ L.length ≤ 8 ∧ ∀ i, i < L.length → secFit W (L.getD i []) = true := by
 unfold csE at h
 by_cases hW : WdOK W
 ·rw [if_neg (not_not_intro hW)] at h
  by_cases hl : L.length < 1 ∨ 8 < L.length
  ·rw [if_pos hl] at h; cases h
  rw [if_neg hl] at h
  by_cases ha : ∀ i, i < L.length → secFit W (L.getD i []) = true
  ·exact ⟨hW, by omega, by omega, ha⟩
  rw [if_neg ha] at h; cases h
 rw [if_pos hW] at h; cases h
theorem secFit_ok (h : secFit W (L.getD i []) = true) : ∀ j, j < 5 → -p2i (W.b - 1) ≤ gi L i j ∧ gi L i j ≤ p2i (W.b - 1) - 1 := by
 unfold secFit at h
 simp only [Bool.and_eq_true] at h
 obtain ⟨⟨⟨⟨h0, h1⟩, h2⟩, h3, _⟩, h4, _⟩ := h
 intro j hj
 obtain rfl | rfl | rfl | rfl | rfl : j = 0 ∨ j = 1 ∨ j = 2 ∨ j = 3 ∨ j = 4 := by omega
 ·exact fit_iff.1 h0
 ·exact fit_iff.1 h1
 ·exact fit_iff.1 h2
 ·exact fit_iff.1 h3
 exact fit_iff.1 h4
theorem secFit_neg (h : secFit W (L.getD i []) = true) : fitB W (-gi L i 3) = true ∧ fitB W (-gi L i 4) = true := by
 unfold secFit at h
 simp only [Bool.and_eq_true] at h
 exact ⟨h.1.2.2, h.2.2⟩
def csF0 (n i : Nat) : Int := if i = 0 then 0 else ((2 + 2 * n + i : Nat) : Int)
def csNode (n i : Nat) (p : List Int) : List TL := [⟨csF0 n i, p.getD 0 0⟩, ⟨((1 + 2 * i : Nat) : Int), p.getD 1 0⟩, ⟨((2 + 2 * i : Nat) : Int), p.getD 2 0⟩, ⟨((3 + 2 * i : Nat) : Int), -p.getD 3 0⟩, ⟨((3 + 2 * i + 1 : Nat) : Int), -p.getD 4 0⟩]
def csNodes (n : Nat) (L : List (List Int)) (k : Nat) : List (List TL) := (List.range k).map fun i => csNode n i (L.getD i [])
def csNext (n k : Nat) : List Int := [0, 1] ++ (List.range k).flatMap fun i => [((3 + 2 * n + i : Nat) : Int), ((3 + 2 * i : Nat) : Int)]
theorem csNodes_len : (csNodes n L k).length = k := by simp [csNodes]
theorem csNodes_succ : csNodes n L (k + 1) = csNodes n L k ++ [csNode n k (L.getD k [])] := by
 unfold csNodes
 rw [List.range_succ, List.map_append]; rfl
theorem csNodes_get (h : i < k) : (csNodes n L k).getD i [] = csNode n i (L.getD i []) := by
 unfold csNodes
 rw [List.getD_eq_getElem?_getD, List.getElem?_map, List.getElem?_range h]; rfl
theorem csNext_succ : csNext n (k + 1) = csNext n k ++ [((3 + 2 * n + k : Nat) : Int), ((3 + 2 * k : Nat) : Int)] := by
 unfold csNext
 rw [List.range_succ, List.flatMap_append, ← List.append_assoc]; simp
theorem csNext_len : (csNext n k).length = 2 + 2 * k := by
 induction k with
 | zero => rfl
 | succ k ih => rw [csNext_succ, List.length_append, ih]; simp; omega
theorem csNext_0 : (csNext n k).getD 0 0 = 0 := rfl
theorem csNext_1 : (csNext n k).getD 1 0 = 1 := rfl
theorem csNext_even (h : i < k) : (csNext n k).getD (2 + 2 * i) 0 = ((3 + 2 * n + i : Nat) : Int) ∧ (csNext n k).getD (2 + 2 * i + 1) 0 = ((3 + 2 * i : Nat) : Int) := by
 induction k with
 | zero => omega
 | succ k ih =>
  rw [csNext_succ]
  by_cases e : i < k
  ·rw [getD_app_lt (by rw [csNext_len]; omega), getD_app_lt (by rw [csNext_len]; omega)]; exact ih e
  obtain rfl : i = k := by omega
  constructor
  ·rw [List.getD_eq_getElem?_getD, List.getElem?_append_right (by rw [csNext_len]; omega), csNext_len, show 2 + 2 * i - (2 + 2 * i) = 0 by omega]; rfl
  rw [List.getD_eq_getElem?_getD, List.getElem?_append_right (by rw [csNext_len]; omega), csNext_len, show 2 + 2 * i + 1 - (2 + 2 * i) = 1 by omega]; rfl
theorem getD5 {α : Type} {a b c d e z : α} {j : Nat} (h : j < 5) : ([a, b, c, d, e].getD j z = a ∧ j = 0) ∨ ([a, b, c, d, e].getD j z = b ∧ j = 1) ∨ ([a, b, c, d, e].getD j z = c ∧ j = 2) ∨ ([a, b, c, d, e].getD j z = d ∧ j = 3) ∨ ([a, b, c, d, e].getD j z = e ∧ j = 4) := by
 obtain rfl | rfl | rfl | rfl | rfl : j = 0 ∨ j = 1 ∨ j = 2 ∨ j = 3 ∨ j = 4 := by omega
 ·exact .inl ⟨rfl, rfl⟩
 ·exact .inr (.inl ⟨rfl, rfl⟩)
 ·exact .inr (.inr (.inl ⟨rfl, rfl⟩))
 ·exact .inr (.inr (.inr (.inl ⟨rfl, rfl⟩)))
 exact .inr (.inr (.inr (.inr ⟨rfl, rfl⟩)))
theorem csNetOK (hD : WdOK D) (hE : csE W L = 0) : NetOK D W (2 + 2 * L.length) (csNodes L.length L L.length) (csNext L.length L.length) ((2 + 2 * L.length + L.length : Nat) : Int) := by
 obtain ⟨hW, h1, h8, ha⟩ := csE_ok hE
 refine ⟨hD, hW, by omega, by rw [csNodes_len]; omega, csNext_len, fun k hk => ?_, fun j hj => ?_, by rw [csNodes_len]; omega⟩
 ·rw [csNodes_len] at hk
  rw [csNodes_get hk]
  refine ⟨by show 5 ≤ 64; decide, fun j hj => ?_⟩
  have hf := ha k hk
  have hn := secFit_neg hf
  unfold secFit at hf
  simp only [Bool.and_eq_true] at hf
  obtain ⟨⟨⟨⟨g0, g1⟩, g2⟩, g3, _⟩, g4, _⟩ := hf
  have hj5 : j < 5 := hj
  unfold csNode
  rcases getD5 (a := (⟨csF0 L.length k, (L.getD k []).getD 0 0⟩ : TL)) (b := ⟨((1 + 2 * k : Nat) : Int), (L.getD k []).getD 1 0⟩) (c := ⟨((2 + 2 * k : Nat) : Int), (L.getD k []).getD 2 0⟩) (d := ⟨((3 + 2 * k : Nat) : Int), -(L.getD k []).getD 3 0⟩) (e := ⟨((3 + 2 * k + 1 : Nat) : Int), -(L.getD k []).getD 4 0⟩) (z := tl0) hj5 with ⟨e, _⟩ | ⟨e, _⟩ | ⟨e, _⟩ | ⟨e, _⟩ | ⟨e, _⟩ <;> rw [e]
  ·exact ⟨by show 0 ≤ csF0 L.length k; unfold csF0; split <;> omega, by show csF0 L.length k ≤ _; unfold csF0; split <;> omega, .inr g0⟩
  ·exact ⟨by show (0 : Int) ≤ ((1 + 2 * k : Nat) : Int); omega, by show ((1 + 2 * k : Nat) : Int) ≤ _; omega, .inr g1⟩
  ·exact ⟨by show (0 : Int) ≤ ((2 + 2 * k : Nat) : Int); omega, by show ((2 + 2 * k : Nat) : Int) ≤ _; omega, .inr g2⟩
  ·exact ⟨by show (0 : Int) ≤ ((3 + 2 * k : Nat) : Int); omega, by show ((3 + 2 * k : Nat) : Int) ≤ _; omega, .inr hn.1⟩
  exact ⟨by show (0 : Int) ≤ ((3 + 2 * k + 1 : Nat) : Int); omega, by show ((3 + 2 * k + 1 : Nat) : Int) ≤ _; omega, .inr hn.2⟩
 rw [csNext_len] at hj
 rw [csNodes_len]
 match j, hj with
 | 0, _ => rw [csNext_0]; omega
 | 1, _ => rw [csNext_1]; omega
 | j + 2, hj =>
  obtain ⟨q, hq⟩ : ∃ q, j = 2 * q ∨ j = 2 * q + 1 := ⟨j / 2, by omega⟩
  have he := csNext_even (n := L.length) (i := q) (k := L.length) xq
  rcases hq with rfl | rfl
  ·rw [show 2 * q + 2 = 2 + 2 * q by omega, he.1]; omega
  rw [show 2 * q + 1 + 2 = 2 + 2 * q + 1 by omega, he.2]; omega
end Nt
namespace Nt
theorem wq_wh {z f : Int} {b : Nat} (hz : z.natAbs ≤ 2 ^ b) : Wh (wq z f * ((((p2i f).toNat : Nat) : Int) : Rat)) b := by
 have hp := zxp f
 rw [Int.toNat_of_nonneg (Int.le_of_lt hp)]
 refine ⟨z, ?_, hz⟩
 unfold wq
 exact Rat.div_mul_cancel (fun e => by have : p2i f = 0 := Rat.intCast_inj.1 e; omega)
def csN (f : Int) (p : List Int) : List Rat := [wq (p.getD 0 0) f, wq (p.getD 1 0) f, wq (p.getD 2 0) f]
def csD (f : Int) (p : List Int) : List Rat := [1, wq (p.getD 3 0) f, wq (p.getD 4 0) f]
def csP (g : List Int → List Rat) (L : List (List Int)) : Nat → List Rat
 | 0 => [1]
 | k + 1 => trimQ (mulQ (csP g L k) (g (L.getD k [])))
theorem csN_sm {f : Int} {p : List Int} (h : ∀ j, j < 5 → (p.getD j 0).natAbs ≤ 2 ^ 24) : Sm (csN f p) (p2i f).toNat 24 := by
 have hp := zxp f
 refine Sm.ofAll xq (fun x hx => ?_)
 rcases List.mem_cons.1 hx with rfl | hx
 ·exact wq_wh (h 0 yj)
 rcases List.mem_cons.1 hx with rfl | hx
 ·exact wq_wh (h 1 yj)
 rw [List.mem_singleton.1 hx]
 exact wq_wh (h 2 yj)
theorem csD_sm {f : Int} {p : List Int} (hf : p2i f ≤ 16777216) (h : ∀ j, j < 5 → (p.getD j 0).natAbs ≤ 2 ^ 24) : Sm (csD f p) (p2i f).toNat 24 := by
 have hp := zxp f
 refine Sm.ofAll xq (fun x hx => ?_)
 rcases List.mem_cons.1 hx with rfl | hx
 ·exact ⟨((p2i f).toNat : Int), by rw [Rat.one_mul], by omega⟩
 rcases List.mem_cons.1 hx with rfl | hx
 ·exact wq_wh (h 3 yj)
 rw [List.mem_singleton.1 hx]
 exact wq_wh (h 4 yj)
section
variable {g : List Int → List Rat} {L : List (List Int)} {k P K : Nat}
theorem csP_len (hg : ∀ p, (g p).length = 3) : (csP g L k).length ≤ 2 * k + 1 := by
 induction k with
 | zero => exact Nat.le_refl _
 | succ k ih => exact Nat.le_trans (zxu ih (Nat.le_of_eq (hg _))) xq
theorem csP_sm (hP : 0 < P) (hg : ∀ p, (g p).length = 3) (hs : ∀ i, i < k → Sm (g (L.getD i [])) P 24) : Sm (csP g L k) (P ^ k) (27 * k) := by
 induction k with
 | zero => exact Sm.ofAll (Nat.lt_of_lt_of_le (by decide : 0 < 1) (Nat.le_of_eq (Nat.pow_zero P).symm)) (fun x hx => by rw [List.mem_singleton.1 hx]; exact ⟨1, by simp, by decide⟩)
 | succ k ih =>
  have h1 := (Sm.mulR (ih (fun i hi => hs i xq)) (hs k xq)).trim
  rw [hg] at h1
  rw [Nat.pow_succ]
  exact h1.more xq
end
end Nt
theorem csP_fit {u : World} {x : Sl} {g : List Int → List Rat} {L : List (List Int)} {k P K : Nat} (h : PolN u x (Nt.csP g L k) K) (hP : 0 < P) (hP2 : P ≤ 2 ^ 24) (hk : k ≤ 8) (hg : ∀ p, (g p).length = 3) (hs : ∀ i, i < k → Nt.Sm (g (L.getD i [])) P 24) : PolN u x (Nt.csP g L k) 7 := by
 refine (PolN.fitS h (Nt.csP_sm hP hg hs) ?_).more ?_
 ·refine Nat.le_trans (Nat.pow_le_pow_left hP2 k) ?_
  rw [← Nat.pow_mul]
  exact Nat.pow_le_pow_right yj xq
 exact Nat.le_trans (Nt.dg_mono (show 27 * k ≤ 216 by omega)) yj
section
variable {w k lo lo' h b n c i j off : Nat} {tO tR : TypeId} {u u' u'' v : World} {w0 : Base} {u0 : World} {x y z : Sl} {Rs : List Sl} {Ls : List (List RL)} {L : List RL} {M : List (List Rat)} {l : List Rat} {r : RL} {q : Rat} {K K' : Nat} {a : Addr}
theorem MutQ.rown {ty : TypeId} (m : MutQ (1 * 3) ty lo u y (rcs L)) : y.n = L.length := by
 have h := m.1
 rw [zyy] at h; omega
end
end Go.Proofs.YtgmkhhfbckjaeaaGreat
