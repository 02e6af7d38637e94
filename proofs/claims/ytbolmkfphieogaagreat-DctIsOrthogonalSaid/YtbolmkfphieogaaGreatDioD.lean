/- Parts of the proof: contracts of functions, each walked once, and plain laws. -/
import Derived.Test.YtbolmkfphieogaaGreatDioC
set_option linter.unusedVariables false
namespace Go.Proofs.YtbolmkfphieogaaGreat
open Go.RowKit
theorem k_natural {u w : World} {x : Sl} (d : Dat u w) : Calls Tryz.prog 195 #[x.v] w (Post u w fun v _ => v = .agg #[.bool false, x.v]) := by
 refine zzl (args := [x.v]) Tryz.func195 rfl Tryz.ntmps195 (rs := [.cell 2 24]) Tryz.results195 (le_b rfl) (le_b rfl) d ?_
 refine sq9 (zzj 2 ⟨24, [.bool false, .slice none 0 0]⟩ (zzb (sq9 (zza 3 (.v (x.v)) (zza 4 (.v (.agg #[.bool false, x.v])) (zzi ⟨24, [.bool false, x.v]⟩ ty24 ?_))))))
 refine zzb (zzn (ret0 [.agg #[.bool false, x.v]] ⟨zzq ty24 zze, trivial⟩ fun u11 e12 => ?_))
 exact rfl
theorem k_whole {u w : World} {i : IL} (d : Dat u w) : Calls Tryz.prog 193 #[i.v] w (Post u w fun v u' => ∃ y : Sl, v = .agg #[.bool i.s, i.m.v, y.v] ∧ NatN u' y 1 1) := by
 refine zzl (args := [i.v]) Tryz.func193 rfl Tryz.ntmps193 (rs := [.cell 2 26]) Tryz.results193 (le_b rfl) (le_b rfl) d ?_
 refine sq9 (zzj 1 ⟨24, i.cs⟩ (zzj 2 ⟨26, zw3⟩ (zzb (sq9 (zzh 3 (.v (i.v)) ty24 zze (zxw 4 ⟨104, [.int .u32 1]⟩ 1 (fun aa u12 e13 ab => ?_)))))))
 refine zza 5 (.v (.agg #[.bool i.s, i.m.v, .slice (some ⟨aa, 0, none⟩) 1 1])) (zzi ⟨26, i.cs ++ [.slice (some ⟨aa, 0, none⟩) 1 1]⟩ ty26 ?_)
 refine zzb (zzn (ret0 [.agg #[.bool i.s, i.m.v, .slice (some ⟨aa, 0, none⟩) 1 1]] ⟨zzq ty26 zze, trivial⟩ fun u15 ac => ?_))
 exact ⟨_, rfl, ((one_data ab).ext ac)⟩
theorem k_quotient {u w : World} {i j : IL} (d : Dat u w) : Calls Tryz.prog 196 #[i.v, j.v] w (Post u w fun v _ => v = .agg #[.bool (!(i.s == j.s)), i.m.v, j.m.v]) := by
 refine zzl (args := [i.v, j.v]) Tryz.func196 rfl Tryz.ntmps196 (rs := [.cell 4 147]) Tryz.results196 (le_b rfl) (le_b rfl) d ?_
 refine sq9 (zzj 2 ⟨24, i.cs⟩ (zzj 3 ⟨24, j.cs⟩ (zzj 4 ⟨147, zw3⟩ (zzb (sq9 (zza 5 (.adr 2 0) (zzh 6 (zB i.s) ty4 zzk (zza 7 (.adr 3 0) (zzh 8 (zB j.s) ty4 zzk (zza 9 (zB (!(i.s == j.s))) (zza 10 (.adr 2 1) ?_)))))))))))
 refine zzh 11 (.v (i.m.v)) ty22 zzk (zza 12 (.v (.agg #[.bool (!(i.s == j.s)), i.m.v])) (zza 13 (.adr 3 1) (zzh 14 (.v (j.m.v)) ty22 zzk (zza 15 (.v (.agg #[.bool (!(i.s == j.s)), i.m.v, j.m.v])) (zzi ⟨147, [.bool (!(i.s == j.s)), i.m.v, j.m.v]⟩ ty147 ?_)))))
 refine zzb (zzn (ret0 [.agg #[.bool (!(i.s == j.s)), i.m.v, j.m.v]] ⟨zzq ty147 zze, trivial⟩ fun u11 e12 => ?_))
 exact rfl
theorem k_flip {u w : World} {r : RL} (d : Dat u w) : Calls Tryz.prog 226 #[r.v] w (Post u w fun v _ => v = .agg #[.bool (!r.s), r.m.v, r.d.v]) := by
 refine zzl (args := [r.v]) Tryz.func226 rfl Tryz.ntmps226 (rs := [.cell 2 26]) Tryz.results226 (le_b rfl) (le_b rfl) d ?_
 refine sq9 (zzj 1 ⟨26, r.cs⟩ (zzj 2 ⟨26, zw3⟩ (zzb (sq9 (zza 3 (.adr 1 0) (zza 4 (.adr 1 0) (zzh 5 (zB r.s) ty4 zzk (zza 6 (zB (!r.s)) (zza 7 (.adr 1 0) (zza 8 (.adr 1 1) (zzh 9 (.v (r.m.v)) ty22 zzk ?_)))))))))))
 refine zza 10 (.v (.agg #[.bool (!r.s), r.m.v])) (zza 11 (.adr 1 2) (zzh 12 (.v (r.d.v)) ty22 zzk (zza 13 (.v (.agg #[.bool (!r.s), r.m.v, r.d.v])) (zzi ⟨26, [.bool (!r.s), r.m.v, r.d.v]⟩ ty26 ?_))))
 refine zzb (zzn (ret0 [.agg #[.bool (!r.s), r.m.v, r.d.v]] ⟨zzq ty26 zze, trivial⟩ fun u11 e12 => ?_))
 exact rfl
set_option maxHeartbeats 1000000 in
theorem k_read {u w : World} {r : RL} {q : Rat} {K : Nat} (d : Dat u w) (h : RatV u r q K) : Calls Tryz.prog 147 #[r.v] w (Post u w fun v u' => ∃ (r' : RL) (wh : Bool), v = .agg #[.bool r'.s, r'.m.v, r'.d.v, .bool wh] ∧ NumV u' r' wh q K) := by
 obtain ⟨⟨z, D, hi, hd, hq⟩, hK⟩ := h
 change IntV u ⟨r.s, r.m⟩ z K at hi
 change NatV u r.d D K at hd
 by_cases hn : r.d.n = 1
 ·obtain ⟨b, o, ha, hc⟩ := nat_digit hd hn
  by_cases hD : D = 1
  ·refine zzl (args := [r.v]) Tryz.func147 rfl Tryz.ntmps147 (rs := [.cell 2 149]) Tryz.results147 (le_b rfl) (le_b rfl) d ?_
   refine sq9 (zzj 1 ⟨26, r.cs⟩ (zzj 2 ⟨149, [.bool false, .slice none 0 0, .slice none 0 0, .bool false]⟩ (zzb (zzd (sq9 (zza 3 (.adr 1 2) (zzh 4 (.v (r.d.v)) ty22 zzk (zza 5 (zI r.d.n) (zqB 6 (show ((r.d.n : Int) == 1) = true from (by simp [hn])) (zza 7 (zB true) (zza 8 (.adr 1 2) ?_ (hw := w1 4 true 7))))))))))))
   refine zzh 9 (.v (r.d.v)) ty22 zzk ?_ (hw := w1 4 true 7)
   refine zzz 10 o (i := 0) (n := r.d.n) (by simp) ha xq (by rw [hn]; decide) sl22 ?_ (hw := w1 4 true 7)
   refine zyk 11 (.int .u32 D) ((Ext.refl _).cell hc) ty104 ?_ (hw := w1 4 true 7)
   refine zqB 12 (show ((D : Int) == 1) = true from (by simp [hD])) ?_ (hw := w1 4 true 7)
   refine zza 13 (zB true) (zzb (zyq xj (sq9 (zza 14 (.adr 1 0) (zzh 15 (.v (.agg #[.bool r.s, r.m.v])) ty24 zze (zza 16 (.adr 1 2) (zzh 17 (.v (r.d.v)) ty22 zzk (zza 18 (.v (r.v)) (zza 19 (.v (.agg #[.bool r.s, r.m.v, r.d.v, .bool true])) (zzi ⟨149, r.cs ++ [.bool true]⟩ ty149 ?_))))))))))
   refine zzb (zzn (zzv (ret0 [.agg #[.bool r.s, r.m.v, r.d.v, .bool true]] ⟨zzq ty149 zze, trivial⟩ fun al aj => ?_)))
   exact ⟨r, true, rfl, z, D, hi.ext aj, hd.ext aj, by omega, hq, fun _ => hD, hK⟩
  refine zzl (args := [r.v]) Tryz.func147 rfl Tryz.ntmps147 (rs := [.cell 2 149]) Tryz.results147 (le_b rfl) (le_b rfl) d ?_
  refine sq9 (zzj 1 ⟨26, r.cs⟩ (zzj 2 ⟨149, [.bool false, .slice none 0 0, .slice none 0 0, .bool false]⟩ (zzb (zzd (sq9 (zza 3 (.adr 1 2) (zzh 4 (.v (r.d.v)) ty22 zzk (zza 5 (zI r.d.n) (zqB 6 (show ((r.d.n : Int) == 1) = true from (by simp [hn])) (zza 7 (zB true) (zza 8 (.adr 1 2) ?_ (hw := w1 4 true 7))))))))))))
  refine zzh 9 (.v (r.d.v)) ty22 zzk ?_ (hw := w1 4 true 7)
  refine zzz 10 o (i := 0) (n := r.d.n) (by simp) ha xq (by rw [hn]; decide) sl22 ?_ (hw := w1 4 true 7)
  refine zyk 11 (.int .u32 D) ((Ext.refl _).cell hc) ty104 ?_ (hw := w1 4 true 7)
  refine zqB 12 (show ((D : Int) == 1) = false from zq) ?_ (hw := w1 4 true 7)
  refine zza 13 (zB false) (zzb (zyr xj (zzr (zzo ?_))))
  refine zzd (sq9 (zza 20 (.adr 1 2) (zzh 21 (.v (r.d.v)) ty22 zzk (zzg 22 83 [r.d.v, .slice none 0 0] ?_))))
  intro w11 al ad ai
  have k14 := k_natCompare ai (hd.ext ad) (nat_nil _ 1)
  with_reducible refine zPm k14 ?_
  rintro _ ap ae rfl
  refine zza 23 (zB ((Nt.cmpS D 0) == 0)) (zzb (zzt (b := (Nt.cmpS D 0) == 0) xj (fun aa => ?_) (fun aa => ?_)))
  ·refine sq9 (zza 24 (.v (.agg #[.bool false, .slice none 0 0])) (zxw 25 ⟨104, [.int .u32 1]⟩ 1 (fun ab ao am ag => ?_)))
   refine zza 26 (.v (.agg #[.bool false, .slice none 0 0, .slice (some ⟨ab, 0, none⟩) 1 1])) (zza 27 (.v (.agg #[.bool false, .slice none 0 0, .slice (some ⟨ab, 0, none⟩) 1 1, .bool true])) (zzi ⟨149, [.bool false, .slice none 0 0, .slice (some ⟨ab, 0, none⟩) 1 1, .bool true]⟩ ty149 ?_))
   refine zzb (zzn (zzv (ret0 [.agg #[.bool false, .slice none 0 0, .slice (some ⟨ab, 0, none⟩) 1 1, .bool true]] ⟨zzq ty149 zze, trivial⟩ fun ak ah => ?_)))
   have ac : D = 0 := (Nt.cmp_nat0 aa).1 rfl
   refine ⟨⟨false, ⟨none, 0, 0⟩, (⟨some ⟨ab, 0, none⟩, 1, 1⟩ : Sl)⟩, true, rfl, 0, 1, (⟨0, nat_nil _ K, rfl⟩ : IntV _ ⟨false, ⟨none, 0, 0⟩⟩ 0 K), ((one_data ag).ext ah).raw.more hK, by omega, ?_, fun _ => rfl, hK⟩
   rw [hq, ac]; simp
  refine zzr (zzo ?_)
  refine sq9 (zza 28 (.adr 1 0) (zzh 29 (.v (.agg #[.bool r.s, r.m.v])) ty24 zze (zza 30 (.adr 1 2) (zzh 31 (.v (r.d.v)) ty22 zzk (zza 32 (.v (r.v)) (zza 33 (.v (.agg #[.bool r.s, r.m.v, r.d.v, .bool false])) (zzi ⟨149, r.cs ++ [.bool false]⟩ ty149 ?_)))))))
  refine zzb (zzn (ret0 [.agg #[.bool r.s, r.m.v, r.d.v, .bool false]] ⟨zzq ty149 zze, trivial⟩ fun an af => ?_))
  have ac : 0 < D := (Nt.cmp_nat0 aa).2 rfl
  exact ⟨r, false, rfl, z, D, hi.ext (ad.t (ae.t af)), hd.ext (ad.t (ae.t af)), ac, hq, (fun k => by cases k), hK⟩
 refine zzl (args := [r.v]) Tryz.func147 rfl Tryz.ntmps147 (rs := [.cell 2 149]) Tryz.results147 (le_b rfl) (le_b rfl) d ?_
 refine sq9 (zzj 1 ⟨26, r.cs⟩ (zzj 2 ⟨149, [.bool false, .slice none 0 0, .slice none 0 0, .bool false]⟩ (zzb (zzd (sq9 (zza 3 (.adr 1 2) (zzh 4 (.v (r.d.v)) ty22 zzk (zza 5 (zI r.d.n) (zqB 6 (show ((r.d.n : Int) == 1) = false from zq) (zza 7 (zB false) (zzm 8 (uw 4 true false 7) ?_)))))))))))
 refine zzm 9 (uw 4 true false 7) (zzm 10 (uw 4 true false 7) (zzm 11 (uw 4 true false 7) (zzm 12 (uw 4 true false 7) (zza 13 (zB false) (zzb (zyr xj (zzr (zzo ?_))))))))
 refine zzd (sq9 (zza 20 (.adr 1 2) (zzh 21 (.v (r.d.v)) ty22 zzk (zzg 22 83 _ fun _ _ ad ai => Post.mono (k_natCompare ai (hd.ext ad) (nat_nil _ 1)) ?_))))
 rintro _ ap ae rfl
 refine zza 23 (zB ((Nt.cmpS D 0) == 0)) (zzb (zzt (b := (Nt.cmpS D 0) == 0) xj (fun aa => ?_) (fun aa => ?_)))
 ·refine sq9 (zza 24 (.v (.agg #[.bool false, .slice none 0 0])) (zxw 25 ⟨104, [.int .u32 1]⟩ 1 (fun ab ao am ag => ?_)))
  refine zza 26 (.v (.agg #[.bool false, .slice none 0 0, .slice (some ⟨ab, 0, none⟩) 1 1])) (zza 27 (.v (.agg #[.bool false, .slice none 0 0, .slice (some ⟨ab, 0, none⟩) 1 1, .bool true])) (zzi ⟨149, [.bool false, .slice none 0 0, .slice (some ⟨ab, 0, none⟩) 1 1, .bool true]⟩ ty149 ?_))
  refine zzb (zzn (zzv (ret0 [.agg #[.bool false, .slice none 0 0, .slice (some ⟨ab, 0, none⟩) 1 1, .bool true]] ⟨zzq ty149 zze, trivial⟩ fun ak ah => ?_)))
  have ac : D = 0 := (Nt.cmp_nat0 aa).1 rfl
  refine ⟨⟨false, ⟨none, 0, 0⟩, (⟨some ⟨ab, 0, none⟩, 1, 1⟩ : Sl)⟩, true, rfl, 0, 1, (⟨0, nat_nil _ K, rfl⟩ : IntV _ ⟨false, ⟨none, 0, 0⟩⟩ 0 K), ((one_data ag).ext ah).raw.more hK, by omega, ?_, fun _ => rfl, hK⟩
  rw [hq, ac]; simp
 refine zzr (zzo ?_)
 refine sq9 (zza 28 (.adr 1 0) (zzh 29 (.v (.agg #[.bool r.s, r.m.v])) ty24 zze (zza 30 (.adr 1 2) (zzh 31 (.v (r.d.v)) ty22 zzk (zza 32 (.v (r.v)) (zza 33 (.v (.agg #[.bool r.s, r.m.v, r.d.v, .bool false])) (zzi ⟨149, r.cs ++ [.bool false]⟩ ty149 ?_)))))))
 refine zzb (zzn (ret0 [.agg #[.bool r.s, r.m.v, r.d.v, .bool false]] ⟨zzq ty149 zze, trivial⟩ fun an af => ?_))
 have ac : 0 < D := (Nt.cmp_nat0 aa).2 rfl
 exact ⟨r, false, rfl, z, D, hi.ext (ad.t (ae.t af)), hd.ext (ad.t (ae.t af)), ac, hq, (fun k => by cases k), hK⟩
theorem k_isOne {u w : World} {x : Sl} {N K : Nat} (d : Dat u w) (h : NatN u x N K) : Calls Tryz.prog 213 #[x.v] w (Post u w fun v _ => v = .bool (decide (N = 1))) := by
 by_cases hn : x.n = 1
 ·obtain ⟨b, o, ha, hc⟩ := nat_digit h.raw hn
  refine zzl (args := [x.v]) Tryz.func213 rfl Tryz.ntmps213 (rs := [.tmp 2]) Tryz.results213 (le_b rfl) (le_b rfl) d ?_
  refine sq9 (zza 2 (zB false) (zzb (sq9 (zza 3 (.v (x.v)) (zza 4 (zI x.n) (zqB 5 (show ((x.n : Int) == 1) = true from (by simp [hn])) (zza 6 (zB true) (zza 7 (.v (x.v)) ?_ (hw := w1 3 true 6)))))))))
  refine zzz 8 o (i := 0) (n := x.n) (by simp) ha xq (by rw [hn]; decide) sl22 ?_ (hw := w1 3 true 6)
  refine zyk 9 (.int .u32 N) ((Ext.refl _).cell hc) ty104 ?_ (hw := w1 3 true 6)
  refine zza 10 (zB ((N : Int) == 1)) ?_ (hw := w1 3 true 6)
  refine zza 11 (zB ((N : Int) == 1)) (zza 2 (zB ((N : Int) == 1)) (zzb (zzn (ret0 [.bool ((N : Int) == 1)] ⟨zzp, trivial⟩ fun aa ab => ?_))))
  show Value.bool _ = Value.bool _
  congr 1
  rw [Bool.eq_iff_iff]
  simp <;> omega
 have hN : N ≠ 1 := fun e => hn (by rw [h.1, e, Nt.dl_one])
 refine zzl (args := [x.v]) Tryz.func213 rfl Tryz.ntmps213 (rs := [.tmp 2]) Tryz.results213 (le_b rfl) (le_b rfl) d ?_
 refine sq9 (zza 2 (zB false) (zzb (sq9 (zza 3 (.v (x.v)) (zza 4 (zI x.n) (zqB 5 (show ((x.n : Int) == 1) = false from zq) (zza 6 (zB false) (zzm 7 (uw 3 true false 6) (zzm 8 (uw 3 true false 6) (zzm 9 (uw 3 true false 6) (zzm 10 (uw 3 true false 6) ?_)))))))))))
 refine zza 11 (zB false) (zza 2 (zB false) (zzb (zzn (ret0 [.bool false] ⟨zzp, trivial⟩ fun aa ab => ?_))))
 show _ = _
 simp [tupV]
 exact hN
set_option maxHeartbeats 1000000 in
theorem k_lowest {u w : World} {i : IL} {z : Int} {y : Sl} {D K L : Nat} (d : Dat u w) (h1 : IntV u i z K) (hD : NatV u y D L) (hp : 0 < D) (hK : K ≤ 500000000) (hL : L ≤ 500000000) : Calls Tryz.prog 148 #[.agg #[.bool i.s, i.m.v, y.v]] w (Post u w fun v u' => ∃ r : RL, v = r.v ∧ RatN u' r (mkRat z D) (max K L)) := by
 obtain ⟨N, hN, hz⟩ := h1
 have hL1 : 1 ≤ L := by have h2 := hD.size; have h3 := Nt.dl_mono (x := D) (y := 1) xq; rw [Nt.dl_one] at h3; omega
 refine zzl (args := [.agg #[.bool i.s, i.m.v, y.v]]) Tryz.func148 rfl Tryz.ntmps148 (rs := [.cell 2 26]) Tryz.results148 (le_b rfl) (le_b rfl) d ?_
 refine sq9 (zzj 1 ⟨147, i.cs ++ [y.v]⟩ (zzj 2 ⟨26, zw3⟩ (zzb (sq9 (zza 14 (.adr 1 0) (zza 15 (.adr 1 1) (zzh 16 (.v (i.m.v)) ty22 zzk (zza 17 (.adr 1 2) (zzh 18 (.v (y.v)) ty22 zzk (zzg 19 80 _ fun _ _ ai aV => Post.mono (k_natDivMod aV (hN.ext ai) (hD.ext ai) hp xq xq) ?_))))))))))
 rintro _ u16 am ⟨an, ad, rfl, aY, au⟩
 refine zza 13 (.v (.tuple #[an.v, ad.v, .int .i64 0])) (zza 20 (.v (an.v)) (zza 21 (.v (ad.v)) (zza 22 (zI 0) (zza 3 (.v (an.v)) (zza 4 (.v (ad.v)) (zza 5 (zI 0) (zzb (zzd (sq9 (zza 23 (.v (ad.v)) (zza 24 (zI ad.n) ?_)))))))))))
 refine zza 25 (zB ((ad.n : Int) == 0)) (zzb (zzt (b := (ad.n : Int) == 0) xj (fun ac => ?_) (fun ac => ?_)))
 ·have ap : (ad.n : Int) = 0 := by simpa using ac
  have hr : N % D = 0 := by have h7 := (au).pos; simp at ac; omega
  refine sq9 (zza 26 (.adr 1 0) (zza 27 (.adr 1 0) (zzh 28 (zB i.s) ty4 zzk (zza 29 (.v (an.v)) (zza 30 (.v (.agg #[.bool i.s, an.v])) (zzg 31 211 _ fun _ _ aI aR => Post.mono (k_intTrim aR (IntV.same (s := i.s) (aY.ext aI).raw) xq) ?_))))))
  rintro _ u23 g24 ⟨aj, rfl, a1⟩
  refine zzg 32 193 _ fun _ _ aG aK => Post.mono (k_whole (i := aj) aK) ?_
  rintro _ u29 aJ ⟨av, rfl, aL⟩
  refine zzi ⟨26, aj.cs ++ [av.v]⟩ ty26 ?_
  refine zzb (zzn (zzv (ret0 [.agg #[.bool aj.s, aj.m.v, av.v]] ⟨zzq ty26 zze, trivial⟩ fun u32 aH => ?_)))
  refine ⟨(⟨aj.s, aj.m, av⟩ : RL), rfl, RatN.more (K := (max K 1)) ?_ xq⟩
  rw [hz, ← low1 hp hr]
  exact ((whole_rat (a1.ext (aG.t aJ.ext)) aL).ext aH)
 have ap : ¬ ((ad.n : Int) = 0) := by simpa using ac
 have hr : N % D ≠ 0 := by have h7 := (au).pos; simp at ac; omega
 refine zzr (zzo ?_)
 refine sq9 (zza 33 (.adr 1 2) (zzh 34 (.v (y.v)) ty22 zzk (zza 35 (.v (ad.v)) (zzg 36 212 _ fun _ _ ak aW => Post.mono (k_natGcd aW (hD.ext (ai.t (am.t ak))) (au.ext ak).raw xq xq) ?_))))
 rintro _ u37 ar ⟨ao, rfl, aw⟩
 refine zza 6 (.v (ao.v)) (zzb (zzd (sq9 (zza 37 (.v (ao.v)) (zzg 38 213 _ fun _ _ ag aT => Post.mono (k_isOne aT (aw.ext ag)) ?_)))))
 rintro _ u41 al rfl
 refine zzb (zzt (b := decide ((Nat.gcd D (N % D)) = 1)) xj (fun ab => ?_) (fun ab => ?_))
 ·have qhb44 := of_decide_eq_true ab
  have hg : Nat.gcd D (N % D) = 1 := by simpa using ab
  have hgp : 0 < Nat.gcd D (N % D) := Nat.gcd_pos_of_pos_left _ hp
  refine zzd (zzy [0, 1, 3, 0, 8, 31, 63, 127] [(0, []), (1, []), (3, []), (4, []), (2, []), (5, []), (6, []), (7, [])] xj xj (zza 39 (.adr 1 0) (zzh 40 (.v (i.v)) ty24 zze (zza 42 (.adr 1 2) (zzh 43 (.v (y.v)) ty22 zzk (zzg 41 211 _ fun _ _ aE aS => Post.mono (k_intTrim aS (IntV.same (s := i.s) (hN.ext (ai.t (am.t (ak.t (ar.t (ag.t (al.t aE)))))))) xq) ?_))))))
  rintro _ u48 aM ⟨ae, rfl, aX⟩
  refine zzg 44 214 _ fun _ _ aB aZ => Post.mono (k_natTrim aZ (hD.ext (ai.t (am.t (ak.t (ar.t (ag.t (al.t (aE.t (aM.t aB))))))))) xq) ?_
  rintro _ u54 aF ⟨ah, rfl, aO⟩
  refine zza 45 (.v (.agg #[.bool ae.s, ae.m.v, ah.v])) (zzi ⟨26, ae.cs ++ [ah.v]⟩ ty26 ?_)
  refine zzc 70 [(2, .adr 2 0)] [(2, ⟨26, ae.cs ++ [ah.v]⟩)] (zzn (zzv (ret0 [.agg #[.bool ae.s, .slice ae.m.a ae.m.n ae.m.c, .slice ah.a ah.n ah.c]] ⟨zzq ty26 zze, trivial⟩ fun u57 aA => ?_)))
  refine ⟨(⟨ae.s, ae.m, ah⟩ : RL), rfl, ?_⟩
  rw [hz]
  exact low2 hp hg (aX.ext (aB.t (aF.t aA))) (aO.ext aA)
 have qhb44 := of_decide_eq_false ab
 have hg : ¬ Nat.gcd D (N % D) = 1 := by simpa using ab
 have hgp : 0 < Nat.gcd D (N % D) := Nat.gcd_pos_of_pos_left _ hp
 refine zzr (zzo ?_)
 refine sq9 (zza 47 (.adr 1 0) (zza 48 (.adr 1 1) (zzh 49 (.v (i.m.v)) ty22 zzk (zza 50 (.v (ao.v)) (zzg 51 80 _ fun _ _ aq aP => Post.mono (k_natDivMod aP (hN.ext (ai.t (am.t (ak.t (ar.t (ag.t (al.t aq))))))) (aw.ext (ag.t (al.t aq))).raw hgp xq xq) ?_)))))
 rintro _ u64 aC ⟨aa, ay, rfl, a0, h63⟩
 refine zza 46 (.v (.tuple #[aa.v, ay.v, .int .i64 0])) (zza 52 (.v (aa.v)) (zza 53 (.v (ay.v)) (zza 54 (zI 0) (zza 7 (.v (aa.v)) (zza 8 (.v (ay.v)) (zza 9 (zI 0) (zzc 70 [(1, .adr 1 0), (2, .adr 2 0), (6, .v (ao.v)), (7, .v (aa.v))] [(1, ⟨147, i.cs ++ [y.v]⟩), (2, ⟨26, zw3⟩)] (sq9 (zza 56 (.adr 1 2) (zzh 57 (.v (y.v)) ty22 zzk (zza 58 (.v (ao.v)) ?_)))))))))))
 refine zzg 59 80 _ fun _ _ az aN => Post.mono (k_natDivMod aN (hD.ext (ai.t (am.t (ak.t (ar.t (ag.t (al.t (aq.t (aC.t az))))))))) (aw.ext (ag.t (al.t (aq.t (aC.t az))))).raw hgp xq xq) ?_
 rintro _ u72 aU ⟨af, ax, rfl, aQ, h71⟩
 refine zza 55 (.v (.tuple #[af.v, ax.v, .int .i64 0])) (zza 60 (.v (af.v)) (zza 61 (.v (ax.v)) (zza 62 (zI 0) (zza 10 (.v (af.v)) (zza 11 (.v (ax.v)) (zza 12 (zI 0) (zzb (sq9 (zza 63 (.adr 1 0) (zza 64 (.adr 1 0) (zzh 65 (zB i.s) ty4 zzk ?_)))))))))))
 refine zza 66 (.v (aa.v)) (zza 67 (.v (.agg #[.bool i.s, aa.v])) (zza 68 (.v (af.v)) (zza 69 (.v (.agg #[.bool i.s, aa.v, af.v])) (zzi ⟨26, [.bool i.s, aa.v, af.v]⟩ ty26 ?_))))
 refine zzb (zzn (ret0 [.agg #[.bool i.s, .slice aa.a aa.n aa.c, .slice af.a af.n af.c]] ⟨zzq ty26 zze, trivial⟩ fun u75 aD => ?_))
 refine ⟨(⟨i.s, aa, af⟩ : RL), rfl, RatN.more (K := max K L) ?_ xq⟩
 rw [hz]
 exact low3 hp hr (a0.ext (az.t (aU.t aD))) (aQ.ext aD)
theorem k_ratTrim {u w : World} {r1 : RL} {x : Rat} {K : Nat} (d : Dat u w) (hr1 : RatV u r1 x K) (hK : K ≤ 200000000) : Calls Tryz.prog 78 #[r1.v] w (Post u w fun v u' => ∃ r : RL, v = r.v ∧ RatN u' r x K) := by
 refine zzl (args := [r1.v]) Tryz.func78 rfl Tryz.ntmps78 (rs := [.cell 2 26]) Tryz.results78 (le_b rfl) (le_b rfl) d ?_
 refine sq9 (zzj 1 ⟨26, r1.cs⟩ (zzj 2 ⟨26, zw3⟩ (zzb (sq9 (zzh 3 (.v (r1.v)) ty26 zze (zzg 4 147 _ fun _ _ am ao => Post.mono (k_read ao (hr1.ext am)) ?_))))))
 rintro _ u13 g14 ⟨ag, ah, rfl, z12, D12, ae, ac, ab, aa, al, an⟩
 refine zza 5 (.v (ag.v)) (zzg 6 148 _ fun _ _ af ak => Post.mono (k_lowest ak (ae.ext af) (ac.ext af) ab xq xq) ?_)
 rintro _ u19 g20 ⟨ad, rfl, ai⟩
 refine zzi ⟨26, ad.cs⟩ ty26 ?_
 refine zzb (zzn (ret0 [ad.v] ⟨zzq ty26 zze, trivial⟩ fun u22 aj => ?_))
 refine ⟨ad, rfl, RatN.more (K := (max K K)) ?_ xq⟩
 rw [aa]; exact (ai.ext aj)
theorem k_ratOf {u w : World} {z : Int} (d : Dat u w) (h0 : -9223372036854775808 ≤ z) (h1 : z ≤ 9223372036854775807) : Calls Tryz.prog 118 #[.int .i64 z] w (Post u w fun v u' => ∃ r : RL, v = r.v ∧ RatN u' r (z : Rat) 2) := by
 refine zzl (args := [.int .i64 z]) Tryz.func118 rfl Tryz.ntmps118 (rs := [.cell 2 26]) Tryz.results118 (le_b rfl) (le_b rfl) d ?_
 refine sq9 (zzj 2 ⟨26, zw3⟩ (zzb (sq9 (zza 3 (zI z) (zzg 4 160 _ fun _ _ _ ai => Post.mono (k_intOf ai (z := z) xq xq) ?_)))))
 rintro _ u14 g15 ⟨aa, rfl, af⟩
 refine zzg 5 193 _ fun _ _ ag ad => Post.mono (k_whole (i := aa) ad) ?_
 rintro _ u20 ah ⟨ab, rfl, ac⟩
 refine zzi ⟨26, aa.cs ++ [ab.v]⟩ ty26 ?_
 refine zzb (zzn (ret0 [.agg #[.bool aa.s, aa.m.v, ab.v]] ⟨zzq ty26 zze, trivial⟩ fun u23 ae => ?_))
 refine ⟨(⟨aa.s, aa.m, ab⟩ : RL), rfl, RatN.more (K := (max 2 1)) ?_ xq⟩
 exact ((whole_rat (af.ext (ag.t ah.ext)) ac).ext ae)
theorem k_ratSign {u w : World} {r1 : RL} {x : Rat} {K : Nat} (d : Dat u w) (hr1 : RatV u r1 x K)  : Calls Tryz.prog 76 #[r1.v] w (Post u w fun v u' => v = .int .i64 (Nt.sgQ x)) := by
 refine zzl (args := [r1.v]) Tryz.func76 rfl Tryz.ntmps76 (rs := [.tmp 2]) Tryz.results76 (le_b rfl) (le_b rfl) d ?_
 refine sq9 (zzj 1 ⟨26, r1.cs⟩ (zza 2 (zI 0) (zzb (sq9 (zzh 3 (.v (r1.v)) ty26 zze (zzg 4 147 _ fun _ _ ak am => Post.mono (k_read am (hr1.ext ak)) ?_))))))
 rintro _ u13 g14 ⟨ab, ag, rfl, ae, D12, ad, ai, ac, aa, aj, al⟩
 refine zza 5 (.v (ab.v)) (zza 6 (.v (.agg #[.bool ab.s, ab.m.v])) (zzg 7 146 _ fun _ _ af ah => Post.mono (k_intSign ah (ad.ext af)) ?_))
 rintro _ u17 g18 rfl
 refine zza 2 (zI (Nt.cmpS ae 0)) (zzb (zzn (ret0 [.int .i64 (Nt.cmpS ae 0)] ⟨zzp, trivial⟩ fun u20 e21 => ?_)))
 show _ = _
 rw [aa, ← Nt.sg_mk ac]
 rfl
theorem k_ratCompare {u w : World} {r1 : RL} {x : Rat} {K : Nat} {r2 : RL} {y : Rat} {L : Nat} (d : Dat u w) (hr1 : RatV u r1 x K) (hr2 : RatV u r2 y L) (hK : K ≤ 200000000) (hL : L ≤ 200000000) : Calls Tryz.prog 197 #[r1.v, r2.v] w (Post u w fun v u' => v = .int .i64 (Nt.cmpQ x y)) := by
 refine zzl (args := [r1.v, r2.v]) Tryz.func197 rfl Tryz.ntmps197 (rs := [.tmp 4]) Tryz.results197 (le_b rfl) (le_b rfl) d ?_
 refine sq9 (zzj 2 ⟨26, r1.cs⟩ (zzj 3 ⟨26, r2.cs⟩ (zza 4 (zI 0) (zzb (zzd (zzy [0, 1, 0, 7, 0, 0, 63, 127] [(0, []), (2, []), (4, []), (5, []), (1, []), (3, []), (6, []), (7, [])] xj xj (zzh 7 (.v (r1.v)) ty26 zze (zzh 9 (.v (r2.v)) ty26 zze (zzj 5 ⟨149, [.bool false, .slice none 0 0, .slice none 0 0, .bool false]⟩ (zzj 6 ⟨149, [.bool false, .slice none 0 0, .slice none 0 0, .bool false]⟩ (zzg 8 147 _ fun _ _ aK aZ => Post.mono (k_read aZ (hr1.ext aK)) ?_)))))))))))
 rintro _ u13 a3 ⟨ae, ab, rfl, af, ao, am, aq, al, ah, aH, aX⟩
 refine zzg 10 147 _ fun _ _ an a9 => Post.mono (k_read a9 (hr2.ext (aK.t (a3.t an)))) ?_
 rintro _ u18 ar ⟨ac, aa, rfl, ag, ap, aj, au, ak, ai, aI, a0⟩
 refine zzi ⟨149, ae.cs ++ [.bool ab]⟩ ty149 ?_
 refine zzi ⟨149, ac.cs ++ [.bool aa]⟩ ty149 ?_
 refine zzb (zzd (sq9 (zza 11 (.adr 5 3) (zzh 12 (zB ab) ty4 zzk ?_))))
 rcases Bool.eq_false_or_eq_true ab with hs21 | hs21
 ·refine zyp 13 (x := zB ab) (zB true) (by rw [hs21]) (zza 14 (.adr 6 3) ?_ (hw := w1 2 true 13))
  refine zzh 15 (zB aa) ty4 zzk ?_ (hw := w1 2 true 13)
  refine zza 16 (zB aa) (zzb (zzt (b := aa) xj (fun ad => ?_) (fun ad => ?_)))
  ·replace ad : aa = true := ad
   refine sq9 (zza 17 (.adr 5 0) (zza 18 (.adr 5 0) (zzh 19 (.v (.agg #[.bool ae.s, ae.m.v])) ty24 zze (zza 20 (.adr 6 0) (zza 21 (.adr 6 0) (zzh 22 (.v (.agg #[.bool ac.s, ac.m.v])) ty24 zze (zzg 23 181 _ fun _ _ aJ a6 => Post.mono (k_intCompare a6 (am.ext (an.t (ar.t aJ))) (aj.ext aJ)) ?_)))))))
   rintro _ u24 g25 rfl
   refine zza 4 (zI (Nt.cmpS af ag)) (zzb (zzn (zzv (ret0 [.int .i64 (Nt.cmpS af ag)] ⟨zzp, trivial⟩ fun u27 e28 => ?_))))
   show _ = _
   rw [ah, ai, ← Nt.cmp_mk al ak]
   rw [aH (by assumption), aI (by assumption)]
   simp [tupV]
  replace ad : aa = false := ad
  refine zzr (zzo ?_)
  refine zzd (zzy [0, 1, 3, 0, 8, 24, 56, 127, 0, 256, 768, 0, 2048, 6144, 14591, 32767, 65535, 131071] [(0, []), (1, []), (2, []), (3, []), (4, []), (5, []), (8, []), (9, []), (10, []), (11, []), (12, []), (13, []), (6, []), (7, []), (14, []), (15, []), (16, []), (17, [])] xj xj (zza 24 (.adr 5 0) (zza 25 (.adr 5 0) (zzh 26 (.v (.agg #[.bool ae.s, ae.m.v])) ty24 zze (zza 27 (.adr 6 0) (zza 28 (.adr 6 2) (zzh 29 (.v (ac.d.v)) ty22 zzk (zza 32 (.adr 6 0) (zza 33 (.adr 6 0) (zzh 34 (.v (.agg #[.bool ac.s, ac.m.v])) ty24 zze (zza 35 (.adr 5 0) ?_)))))))))))
  refine zza 36 (.adr 5 2) (zzh 37 (.v (ae.d.v)) ty22 zzk (zzg 30 195 _ fun _ _ aA aU => Post.mono (k_natural (x := ac.d) aU) ?_))
  rintro _ u30 av rfl
  refine zzg 31 194 _ fun _ _ ax aP => Post.mono (k_intMul aP (am.ext (an.t (ar.t (aA.t (av.t ax))))) (nat_int (au.ext (aA.t (av.t ax)))) xq xq) ?_
  rintro _ u36 aL ⟨i34, rfl, a1⟩
  refine zzg 38 195 _ fun _ _ aG a4 => Post.mono (k_natural (x := ae.d) a4) ?_
  rintro _ u40 aD rfl
  refine zzg 39 194 _ fun _ _ aE aY => Post.mono (k_intMul aY (aj.ext (aA.t (av.t (ax.t (aL.t (aG.t (aD.t aE))))))) (nat_int (aq.ext (an.t (ar.t (aA.t (av.t (ax.t (aL.t (aG.t (aD.t aE)))))))))) xq xq) ?_
  rintro _ u46 aQ ⟨i44, rfl, a8⟩
  refine zzg 40 181 _ fun _ _ aM aT => Post.mono (k_intCompare aT (a1.ext (aG.t (aD.t (aE.t (aQ.t aM))))).raw (a8.ext aM).raw) ?_
  rintro _ u50 g51 rfl
  refine zza 4 (zI (Nt.cmpS (af * (ap : Int)) (ag * (ao : Int)))) (zzc 41 [(4, zI (Nt.cmpS (af * (ap : Int)) (ag * (ao : Int))))] [] (zzn (ret0 [.int .i64 (Nt.cmpS (af * (ap : Int)) (ag * (ao : Int)))] ⟨zzp, trivial⟩ fun u53 e54 => ?_)))
  show _ = _
  rw [ah, ai, ← Nt.cmp_mk al ak]
  rfl
 refine zyp 13 (x := zB ab) (zB false) (by rw [hs21]) (zzm 14 (uw 2 true false 13) (zzm 15 (uw 2 true false 13) (zza 16 (zB false) (zzb (zyr xj (zzr (zzo ?_)))))))
 refine zzd (zzy [0, 1, 3, 0, 8, 24, 56, 127, 0, 256, 768, 0, 2048, 6144, 14591, 32767, 65535, 131071] [(0, []), (1, []), (2, []), (3, []), (4, []), (5, []), (8, []), (9, []), (10, []), (11, []), (12, []), (13, []), (6, []), (7, []), (14, []), (15, []), (16, []), (17, [])] xj xj (zza 24 (.adr 5 0) (zza 25 (.adr 5 0) (zzh 26 (.v (.agg #[.bool ae.s, ae.m.v])) ty24 zze (zza 27 (.adr 6 0) (zza 28 (.adr 6 2) (zzh 29 (.v (ac.d.v)) ty22 zzk (zza 32 (.adr 6 0) (zza 33 (.adr 6 0) (zzh 34 (.v (.agg #[.bool ac.s, ac.m.v])) ty24 zze (zza 35 (.adr 5 0) ?_)))))))))))
 refine zza 36 (.adr 5 2) (zzh 37 (.v (ae.d.v)) ty22 zzk (zzg 30 195 _ fun _ _ ay ba => Post.mono (k_natural (x := ac.d) ba) ?_))
 rintro _ u56 aw rfl
 refine zzg 31 194 _ fun _ _ az a2 => Post.mono (k_intMul a2 (am.ext (an.t (ar.t (ay.t (aw.t az))))) (nat_int (au.ext (ay.t (aw.t az)))) xq xq) ?_
 rintro _ u62 aO ⟨i60, rfl, aR⟩
 refine zzg 38 195 _ fun _ _ aF a5 => Post.mono (k_natural (x := ae.d) a5) ?_
 rintro _ u66 aC rfl
 refine zzg 39 194 _ fun _ _ aB aW => Post.mono (k_intMul aW (aj.ext (ay.t (aw.t (az.t (aO.t (aF.t (aC.t aB))))))) (nat_int (aq.ext (an.t (ar.t (ay.t (aw.t (az.t (aO.t (aF.t (aC.t aB)))))))))) xq xq) ?_
 rintro _ u72 aV ⟨i70, rfl, aS⟩
 refine zzg 40 181 _ fun _ _ aN a7 => Post.mono (k_intCompare a7 (aR.ext (aF.t (aC.t (aB.t (aV.t aN))))).raw (aS.ext aN).raw) ?_
 rintro _ u76 g77 rfl
 refine zza 4 (zI (Nt.cmpS (af * (ap : Int)) (ag * (ao : Int)))) (zzc 41 [(4, zI (Nt.cmpS (af * (ap : Int)) (ag * (ao : Int))))] [] (zzn (ret0 [.int .i64 (Nt.cmpS (af * (ap : Int)) (ag * (ao : Int)))] ⟨zzp, trivial⟩ fun u79 e80 => ?_)))
 show _ = _
 rw [ah, ai, ← Nt.cmp_mk al ak]
 rfl
theorem k_ratNeg {u w : World} {r1 : RL} {x : Rat} {K : Nat} (d : Dat u w) (hr1 : RatV u r1 x K) (hK : K ≤ 200000000) : Calls Tryz.prog 176 #[r1.v] w (Post u w fun v u' => ∃ r : RL, v = r.v ∧ RatN u' r (-x) K) := by
 refine zzl (args := [r1.v]) Tryz.func176 rfl Tryz.ntmps176 (rs := [.cell 2 26]) Tryz.results176 (le_b rfl) (le_b rfl) d ?_
 refine sq9 (zzj 1 ⟨26, r1.cs⟩ (zzj 2 ⟨26, zw3⟩ (zzb (sq9 (zzh 3 (.v (r1.v)) ty26 zze (zzg 4 226 _ fun _ _ ae ah => Post.mono (k_flip (r := r1) ah) ?_))))))
 rintro _ u12 ab rfl
 refine zzg 5 78 _ fun _ _ ac ad => Post.mono (k_ratTrim ad ((flip_rat (hr1.ext (ae.t ab.ext))).ext ac) xq) ?_
 rintro _ u18 g19 ⟨aa, rfl, ag⟩
 refine zzi ⟨26, aa.cs⟩ ty26 ?_
 refine zzb (zzn (ret0 [aa.v] ⟨zzq ty26 zze, trivial⟩ fun u21 af => ?_))
 refine ⟨aa, rfl, RatN.more (K := K) ?_ xq⟩
 exact (ag.ext af)
set_option maxHeartbeats 1000000 in
theorem k_ratAdd {u w : World} {r1 : RL} {x : Rat} {K : Nat} {r2 : RL} {y : Rat} {L : Nat} (d : Dat u w) (hr1 : RatV u r1 x K) (hr2 : RatV u r2 y L) (hK : K ≤ 200000000) (hL : L ≤ 200000000) : Calls Tryz.prog 126 #[r1.v, r2.v] w (Post u w fun v u' => ∃ r : RL, v = r.v ∧ RatN u' r (x + y) (K + L + 1)) := by
 refine zzl (args := [r1.v, r2.v]) Tryz.func126 rfl Tryz.ntmps126 (rs := [.cell 4 26]) Tryz.results126 (le_b rfl) (le_b rfl) d ?_
 refine sq9 (zzj 2 ⟨26, r1.cs⟩ (zzj 3 ⟨26, r2.cs⟩ (zzj 4 ⟨26, zw3⟩ (zzb (zzd (zzy [0, 1, 0, 7, 0, 0, 63, 127] [(0, []), (2, []), (4, []), (5, []), (1, []), (3, []), (6, []), (7, [])] xj xj (zzh 8 (.v (r1.v)) ty26 zze (zzh 10 (.v (r2.v)) ty26 zze (zzj 5 ⟨149, [.bool false, .slice none 0 0, .slice none 0 0, .bool false]⟩ (zzj 6 ⟨149, [.bool false, .slice none 0 0, .slice none 0 0, .bool false]⟩ (zzg 9 147 _ fun _ _ bw bV => Post.mono (k_read bV (hr1.ext bw)) ?_)))))))))))
 rintro _ u13 b4 ⟨aa, af, rfl, z12, aO, ay, ac, ae, ap, bh, bS⟩
 refine zzg 11 147 _ fun _ _ ag cj => Post.mono (k_read cj (hr2.ext (bw.t (b4.t ag)))) ?_
 rintro _ u18 ai ⟨ab, ad, rfl, z17, D17, av, aj, aD, ar, bm, bZ⟩
 refine zzi ⟨149, aa.cs ++ [.bool af]⟩ ty149 ?_
 refine zzi ⟨149, ab.cs ++ [.bool ad]⟩ ty149 ?_
 refine zzb (zzd (sq9 (zza 12 (.adr 5 3) (zzh 13 (zB af) ty4 zzk ?_))))
 rcases Bool.eq_false_or_eq_true af with hs21 | hs21
 ·refine zyp 14 (x := zB af) (zB true) (by rw [hs21]) (zza 15 (.adr 6 3) ?_ (hw := w1 2 true 14))
  refine zzh 16 (zB ad) ty4 zzk ?_ (hw := w1 2 true 14)
  refine zza 17 (zB ad) (zzb (zzt (b := ad) xj (fun aq => ?_) (fun aq => ?_)))
  ·replace aq : ad = true := aq
   refine sq9 (zza 18 (.adr 5 0) (zza 19 (.adr 5 0) (zzh 20 (.v (.agg #[.bool aa.s, aa.m.v])) ty24 zze (zza 21 (.adr 6 0) (zza 22 (.adr 6 0) (zzh 23 (.v (.agg #[.bool ab.s, ab.m.v])) ty24 zze (zzg 24 159 _ fun _ _ bv cd => Post.mono (k_intAdd cd (ay.ext (ag.t (ai.t bv))) (av.ext bv) xq xq) ?_)))))))
   rintro _ u26 g27 ⟨aM, rfl, bK⟩
   refine zzg 25 193 _ fun _ _ ce bQ => Post.mono (k_whole (i := aM) bQ) ?_
   rintro _ u32 bW ⟨bt, rfl, cm⟩
   refine zzi ⟨26, aM.cs ++ [bt.v]⟩ ty26 ?_
   refine zzb (zzn (zzv (ret0 [.agg #[.bool aM.s, aM.m.v, bt.v]] ⟨zzq ty26 zze, trivial⟩ fun u35 bX => ?_)))
   refine ⟨(⟨aM.s, aM.m, bt⟩ : RL), rfl, RatN.more (K := (max (max K L + 1) 1)) ?_ xq⟩
   rw [ap, ar, bh (by assumption), bm (by assumption), Nt.mk_one, Nt.mk_one, ← Rat.intCast_add]
   exact ((whole_rat (bK.ext (ce.t bW.ext)) cm).ext bX)
  replace aq : ad = false := aq
  refine zzr (zzo ?_)
  refine zzd (sq9 (zza 26 (.adr 5 0) (zza 27 (.adr 5 2) (zzh 28 (.v (aa.d.v)) ty22 zzk (zza 29 (.adr 6 0) (zza 30 (.adr 6 2) (zzh 31 (.v (ab.d.v)) ty22 zzk (zzg 32 83 _ fun _ _ ax cn => Post.mono (k_natCompare cn (ac.ext (ag.t (ai.t ax))) (aj.ext ax)) ?_))))))))
  rintro _ u38 aC rfl
  refine zza 33 (zB ((Nt.cmpS aO D17) == 0)) (zzb (zzt (b := (Nt.cmpS aO D17) == 0) xj (fun aT => ?_) (fun aT => ?_)))
  ·refine zzd (zzy [0, 1, 3, 0, 8, 24, 63, 0, 128, 384, 1023, 2047, 4095] [(0, []), (1, []), (2, []), (3, []), (4, []), (5, []), (7, []), (8, []), (9, []), (6, []), (10, []), (11, []), (12, [])] xj xj (zza 34 (.adr 5 0) (zza 35 (.adr 5 0) (zzh 36 (.v (.agg #[.bool aa.s, aa.m.v])) ty24 zze (zza 37 (.adr 6 0) (zza 38 (.adr 6 0) (zzh 39 (.v (.agg #[.bool ab.s, ab.m.v])) ty24 zze (zza 41 (.adr 5 0) (zza 42 (.adr 5 2) (zzh 43 (.v (aa.d.v)) ty22 zzk (zzg 40 159 _ fun _ _ bc bH => Post.mono (k_intAdd bH (ay.ext (ag.t (ai.t (ax.t (aC.t bc))))) (av.ext (ax.t (aC.t bc))) xq xq) ?_)))))))))))
   rintro _ u45 bG ⟨bx, rfl, bN⟩
   refine zza 44 (.v (.agg #[.bool bx.s, bx.m.v, aa.d.v])) (zzg 45 148 _ fun _ _ bA bY => Post.mono (k_lowest bY (bN.ext bA).raw (ac.ext (ag.t (ai.t (ax.t (aC.t (bc.t (bG.t bA))))))) ae xq xq) ?_)
   rintro _ u51 g52 ⟨aY, rfl, ch⟩
   refine zzi ⟨26, aY.cs⟩ ty26 ?_
   refine zzc 73 [(4, .adr 4 0)] [(4, ⟨26, aY.cs⟩)] (zzn (zzv (ret0 [aY.v] ⟨zzq ty26 zze, trivial⟩ fun u54 bU => ?_)))
   refine ⟨aY, rfl, RatN.more (K := (max (max K L + 1) K)) ?_ xq⟩
   have hD : aO = D17 := Nt.cmp_natE aT
   rw [ap, ar, ← hD, ← Nt.add_same ae]
   exact (ch.ext bU)
  refine zzr (zzo ?_)
  refine zzd (zzy [0, 1, 3, 0, 8, 24, 56, 127, 0, 256, 768, 0, 2048, 6144, 14591, 32767, 65535, 0, 262143] [(0, []), (1, []), (2, []), (3, []), (4, []), (5, []), (8, []), (9, []), (10, []), (11, []), (12, []), (13, []), (17, []), (6, []), (7, []), (14, []), (15, []), (16, []), (18, [])] xj xj (zza 46 (.adr 5 0) (zza 47 (.adr 5 0) (zzh 48 (.v (.agg #[.bool aa.s, aa.m.v])) ty24 zze (zza 49 (.adr 6 0) (zza 50 (.adr 6 2) (zzh 51 (.v (ab.d.v)) ty22 zzk (zza 54 (.adr 6 0) (zza 55 (.adr 6 0) (zzh 56 (.v (.agg #[.bool ab.s, ab.m.v])) ty24 zze (zza 57 (.adr 5 0) ?_)))))))))))
  refine zza 58 (.adr 5 2) (zzh 59 (.v (aa.d.v)) ty22 zzk (zzj 7 ⟨24, [.bool false, .slice none 0 0]⟩ (zzg 52 195 _ fun _ _ aK bP => Post.mono (k_natural (x := ab.d) bP) ?_)))
  rintro _ u57 aN rfl
  refine zzg 53 194 _ fun _ _ aL cg => Post.mono (k_intMul cg (ay.ext (ag.t (ai.t (ax.t (aC.t (aK.t (aN.t aL))))))) (nat_int (aj.ext (ax.t (aC.t (aK.t (aN.t aL)))))) xq xq) ?_
  rintro _ u63 a0 ⟨i61, rfl, cp⟩
  refine zzg 60 195 _ fun _ _ aQ b2 => Post.mono (k_natural (x := aa.d) b2) ?_
  rintro _ u67 aR rfl
  refine zzg 61 194 _ fun _ _ aP bC => Post.mono (k_intMul bC (av.ext (ax.t (aC.t (aK.t (aN.t (aL.t (a0.t (aQ.t (aR.t aP))))))))) (nat_int (ac.ext (ag.t (ai.t (ax.t (aC.t (aK.t (aN.t (aL.t (a0.t (aQ.t (aR.t aP)))))))))))) xq xq) ?_
  rintro _ u73 bk ⟨i71, rfl, b0⟩
  refine zzg 62 159 _ fun _ _ aZ bE => Post.mono (k_intAdd bE (cp.ext (aQ.t (aR.t (aP.t (bk.t aZ))))).raw (b0.ext aZ).raw xq xq) ?_
  rintro _ u79 bu ⟨aU, rfl, b1⟩
  refine zzi ⟨24, aU.cs⟩ ty24 ?_
  refine zzc 73 [(4, .adr 4 0), (5, .adr 5 0), (6, .adr 6 0), (7, .adr 7 0)] [(4, ⟨26, zw3⟩), (5, ⟨149, aa.cs ++ [.bool af]⟩), (6, ⟨149, ab.cs ++ [.bool ad]⟩), (7, ⟨24, aU.cs⟩)] (zzd (zzy [0, 0, 2, 6, 0, 16, 48, 126, 255, 511, 1023] [(0, []), (1, []), (2, []), (3, []), (4, []), (5, []), (6, []), (7, []), (8, []), (9, []), (10, [])] xj xj (zzh 63 (.v (aU.v)) ty24 zze (zza 64 (.adr 5 0) (zza 65 (.adr 5 2) (zzh 66 (.v (aa.d.v)) ty22 zzk (zza 67 (.adr 6 0) (zza 68 (.adr 6 2) (zzh 69 (.v (ab.d.v)) ty22 zzk (zzg 70 156 _ fun _ _ bs bL => Post.mono (k_natMul bL (ac.ext (ag.t (ai.t (ax.t (aC.t (aK.t (aN.t (aL.t (a0.t (aQ.t (aR.t (aP.t (bk.t (aZ.t (bu.t bs))))))))))))))) (aj.ext (ax.t (aC.t (aK.t (aN.t (aL.t (a0.t (aQ.t (aR.t (aP.t (bk.t (aZ.t (bu.t bs))))))))))))) xq xq) ?_))))))))))
  rintro _ u85 bM ⟨cc, rfl, b3⟩
  refine zza 71 (.v (.agg #[.bool aU.s, aU.m.v, cc.v])) (zzg 72 148 _ fun _ _ bz bO => Post.mono (k_lowest bO (b1.ext (bs.t (bM.t bz))).raw (b3.ext bz).raw (Nat.mul_pos ae aD) xq xq) ?_)
  rintro _ u91 g92 ⟨a3, rfl, cl⟩
  refine zzi ⟨26, a3.cs⟩ ty26 ?_
  refine zzb (zzn (ret0 [a3.v] ⟨zzq ty26 zze, trivial⟩ fun u94 bD => ?_))
  refine ⟨a3, rfl, RatN.more (K := (max (max (K + L) (L + K) + 1) (K + L))) ?_ xq⟩
  rw [ap, ar, ← Nt.add_mk ae aD]
  exact (cl.ext bD)
 refine zyp 14 (x := zB af) (zB false) (by rw [hs21]) (zzm 15 (uw 2 true false 14) (zzm 16 (uw 2 true false 14) (zza 17 (zB false) (zzb (zyr xj (zzr (zzo ?_)))))))
 refine zzd (sq9 (zza 26 (.adr 5 0) (zza 27 (.adr 5 2) (zzh 28 (.v (aa.d.v)) ty22 zzk (zza 29 (.adr 6 0) (zza 30 (.adr 6 2) (zzh 31 (.v (ab.d.v)) ty22 zzk (zzg 32 83 _ fun _ _ an bJ => Post.mono (k_natCompare bJ (ac.ext (ag.t (ai.t an))) (aj.ext an)) ?_))))))))
 rintro _ u97 aB rfl
 refine zza 33 (zB ((Nt.cmpS aO D17) == 0)) (zzb (zzt (b := (Nt.cmpS aO D17) == 0) xj (fun aF => ?_) (fun aF => ?_)))
 ·refine zzd (zzy [0, 1, 3, 0, 8, 24, 63, 0, 128, 384, 1023, 2047, 4095] [(0, []), (1, []), (2, []), (3, []), (4, []), (5, []), (7, []), (8, []), (9, []), (6, []), (10, []), (11, []), (12, [])] xj xj (zza 34 (.adr 5 0) (zza 35 (.adr 5 0) (zzh 36 (.v (.agg #[.bool aa.s, aa.m.v])) ty24 zze (zza 37 (.adr 6 0) (zza 38 (.adr 6 0) (zzh 39 (.v (.agg #[.bool ab.s, ab.m.v])) ty24 zze (zza 41 (.adr 5 0) (zza 42 (.adr 5 2) (zzh 43 (.v (aa.d.v)) ty22 zzk (zzg 40 159 _ fun _ _ aH a1 => Post.mono (k_intAdd a1 (ay.ext (ag.t (ai.t (an.t (aB.t aH))))) (av.ext (an.t (aB.t aH))) xq xq) ?_)))))))))))
  rintro _ bR a7 ⟨aS, rfl, be⟩
  refine zza 44 (.v (.agg #[.bool aS.s, aS.m.v, aa.d.v])) (zzg 45 148 _ fun _ _ aW bb => Post.mono (k_lowest bb (be.ext aW).raw (ac.ext (ag.t (ai.t (an.t (aB.t (aH.t (a7.t aW))))))) ae xq xq) ?_)
  rintro _ ci bF ⟨aA, rfl, bj⟩
  refine zzi ⟨26, aA.cs⟩ ty26 ?_
  refine zzc 73 [(4, .adr 4 0)] [(4, ⟨26, aA.cs⟩)] (zzn (zzv (ret0 [aA.v] ⟨zzq ty26 zze, trivial⟩ fun ca bq => ?_)))
  refine ⟨aA, rfl, RatN.more (K := (max (max K L + 1) K)) ?_ xq⟩
  have hD : aO = D17 := Nt.cmp_natE aF
  rw [ap, ar, ← hD, ← Nt.add_same ae]
  exact (bj.ext bq)
 refine zzr (zzo ?_)
 refine zzd (zzy [0, 1, 3, 0, 8, 24, 56, 127, 0, 256, 768, 0, 2048, 6144, 14591, 32767, 65535, 0, 262143] [(0, []), (1, []), (2, []), (3, []), (4, []), (5, []), (8, []), (9, []), (10, []), (11, []), (12, []), (13, []), (17, []), (6, []), (7, []), (14, []), (15, []), (16, []), (18, [])] xj xj (zza 46 (.adr 5 0) (zza 47 (.adr 5 0) (zzh 48 (.v (.agg #[.bool aa.s, aa.m.v])) ty24 zze (zza 49 (.adr 6 0) (zza 50 (.adr 6 2) (zzh 51 (.v (ab.d.v)) ty22 zzk (zza 54 (.adr 6 0) (zza 55 (.adr 6 0) (zzh 56 (.v (.agg #[.bool ab.s, ab.m.v])) ty24 zze (zza 57 (.adr 5 0) ?_)))))))))))
 refine zza 58 (.adr 5 2) (zzh 59 (.v (aa.d.v)) ty22 zzk (zzj 7 ⟨24, [.bool false, .slice none 0 0]⟩ (zzg 52 195 _ fun _ _ al bo => Post.mono (k_natural (x := ab.d) bo) ?_)))
 rintro _ b5 ah rfl
 refine zzg 53 194 _ fun _ _ ak a8 => Post.mono (k_intMul a8 (ay.ext (ag.t (ai.t (an.t (aB.t (al.t (ah.t ak))))))) (nat_int (aj.ext (an.t (aB.t (al.t (ah.t ak)))))) xq xq) ?_
 rintro _ cf aE ⟨cb, rfl, bi⟩
 refine zzg 60 195 _ fun _ _ au br => Post.mono (k_natural (x := aa.d) br) ?_
 rintro _ bB am rfl
 refine zzg 61 194 _ fun _ _ aw bl => Post.mono (k_intMul bl (av.ext (an.t (aB.t (al.t (ah.t (ak.t (aE.t (au.t (am.t aw))))))))) (nat_int (ac.ext (ag.t (ai.t (an.t (aB.t (al.t (ah.t (ak.t (aE.t (au.t (am.t aw)))))))))))) xq xq) ?_
 rintro _ ck aI ⟨bI, rfl, bp⟩
 refine zzg 62 159 _ fun _ _ az bg => Post.mono (k_intAdd bg (bi.ext (au.t (am.t (aw.t (aI.t az))))).raw (bp.ext az).raw xq xq) ?_
 rintro _ bT aV ⟨ao, rfl, a5⟩
 refine zzi ⟨24, ao.cs⟩ ty24 ?_
 refine zzc 73 [(4, .adr 4 0), (5, .adr 5 0), (6, .adr 6 0), (7, .adr 7 0)] [(4, ⟨26, zw3⟩), (5, ⟨149, aa.cs ++ [.bool af]⟩), (6, ⟨149, ab.cs ++ [.bool ad]⟩), (7, ⟨24, ao.cs⟩)] (zzd (zzy [0, 0, 2, 6, 0, 16, 48, 126, 255, 511, 1023] [(0, []), (1, []), (2, []), (3, []), (4, []), (5, []), (6, []), (7, []), (8, []), (9, []), (10, [])] xj xj (zzh 63 (.v (ao.v)) ty24 zze (zza 64 (.adr 5 0) (zza 65 (.adr 5 2) (zzh 66 (.v (aa.d.v)) ty22 zzk (zza 67 (.adr 6 0) (zza 68 (.adr 6 2) (zzh 69 (.v (ab.d.v)) ty22 zzk (zzg 70 156 _ fun _ _ aG a4 => Post.mono (k_natMul a4 (ac.ext (ag.t (ai.t (an.t (aB.t (al.t (ah.t (ak.t (aE.t (au.t (am.t (aw.t (aI.t (az.t (aV.t aG))))))))))))))) (aj.ext (an.t (aB.t (al.t (ah.t (ak.t (aE.t (au.t (am.t (aw.t (aI.t (az.t (aV.t aG))))))))))))) xq xq) ?_))))))))))
 rintro _ b7 bn ⟨a9, rfl, a6⟩
 refine zza 71 (.v (.agg #[.bool ao.s, ao.m.v, a9.v])) (zzg 72 148 _ fun _ _ aX a2 => Post.mono (k_lowest a2 (a5.ext (aG.t (bn.t aX))).raw (a6.ext aX).raw (Nat.mul_pos ae aD) xq xq) ?_)
 rintro _ b6 b8 ⟨aJ, rfl, bf⟩
 refine zzi ⟨26, aJ.cs⟩ ty26 ?_
 refine zzb (zzn (ret0 [aJ.v] ⟨zzq ty26 zze, trivial⟩ fun b9 ba => ?_))
 refine ⟨aJ, rfl, RatN.more (K := (max (max (K + L) (L + K) + 1) (K + L))) ?_ xq⟩
 rw [ap, ar, ← Nt.add_mk ae aD]
 exact (bf.ext ba)
set_option maxHeartbeats 1000000 in
theorem k_ratMul {u w : World} {r1 : RL} {x : Rat} {K : Nat} {r2 : RL} {y : Rat} {L : Nat} (d : Dat u w) (hr1 : RatV u r1 x K) (hr2 : RatV u r2 y L) (hK : K ≤ 200000000) (hL : L ≤ 200000000) : Calls Tryz.prog 123 #[r1.v, r2.v] w (Post u w fun v u' => ∃ r : RL, v = r.v ∧ RatN u' r (x * y) (K + L)) := by
 refine zzl (args := [r1.v, r2.v]) Tryz.func123 rfl Tryz.ntmps123 (rs := [.cell 4 26]) Tryz.results123 (le_b rfl) (le_b rfl) d ?_
 refine sq9 (zzj 2 ⟨26, r1.cs⟩ (zzj 3 ⟨26, r2.cs⟩ (zzj 4 ⟨26, zw3⟩ (zzb (zzd (zzy [0, 1, 0, 7, 0, 0, 63, 127] [(0, []), (2, []), (4, []), (5, []), (1, []), (3, []), (6, []), (7, [])] xj xj (zzh 8 (.v (r1.v)) ty26 zze (zzh 10 (.v (r2.v)) ty26 zze (zzj 5 ⟨149, [.bool false, .slice none 0 0, .slice none 0 0, .bool false]⟩ (zzj 6 ⟨149, [.bool false, .slice none 0 0, .slice none 0 0, .bool false]⟩ (zzg 9 147 _ fun _ _ aE aU => Post.mono (k_read aU (hr1.ext aE)) ?_)))))))))))
 rintro _ u13 aR ⟨ah, ac, rfl, z12, D12, aA, al, ak, ae, az, aZ⟩
 refine zzg 11 147 _ fun _ _ ap aW => Post.mono (k_read aW (hr2.ext (aE.t (aR.t ap)))) ?_
 rintro _ u18 au ⟨am, ab, rfl, z17, D17, ay, aj, ai, af, ar, aK⟩
 refine zzi ⟨149, ah.cs ++ [.bool ac]⟩ ty149 ?_
 refine zzi ⟨149, am.cs ++ [.bool ab]⟩ ty149 ?_
 refine zzb (sq9 (zza 12 (.adr 5 0) (zza 13 (.adr 5 0) (zzh 14 (.v (.agg #[.bool ah.s, ah.m.v])) ty24 zze (zza 15 (.adr 6 0) (zza 16 (.adr 6 0) (zzh 17 (.v (.agg #[.bool am.s, am.m.v])) ty24 zze (zzg 18 194 _ fun _ _ ag aM => Post.mono (k_intMul aM (aA.ext (ap.t (au.t ag))) (ay.ext ag) xq xq) ?_))))))))
 rintro _ u24 aq ⟨aa, rfl, av⟩
 refine zzj 7 ⟨24, [.bool false, .slice none 0 0]⟩ (zzi ⟨24, aa.cs⟩ ty24 ?_)
 refine zzb (zzd (sq9 (zza 19 (.adr 5 3) (zzh 20 (zB ac) ty4 zzk ?_))))
 rcases Bool.eq_false_or_eq_true ac with hs27 | hs27
 ·refine zyp 21 (x := zB ac) (zB true) (by rw [hs27]) (zza 22 (.adr 6 3) ?_ (hw := w1 2 true 21))
  refine zzh 23 (zB ab) ty4 zzk ?_ (hw := w1 2 true 21)
  refine zza 24 (zB ab) (zzb (zzt (b := ab) xj (fun ad => ?_) (fun ad => ?_)))
  ·replace ad : ab = true := ad
   refine sq9 (zzh 25 (.v (aa.v)) ty24 zze (zzg 26 193 _ fun _ _ aP aS => Post.mono (k_whole (i := aa) aS) ?_))
   rintro _ u32 aI ⟨aB, rfl, aX⟩
   refine zzi ⟨26, aa.cs ++ [aB.v]⟩ ty26 ?_
   refine zzb (zzn (zzv (ret0 [.agg #[.bool aa.s, aa.m.v, aB.v]] ⟨zzq ty26 zze, trivial⟩ fun u35 aJ => ?_)))
   refine ⟨(⟨aa.s, aa.m, aB⟩ : RL), rfl, RatN.more (K := (max (K + L) 1)) ?_ xq⟩
   rw [ae, af, az (by assumption), ar (by assumption), Nt.mk_one, Nt.mk_one, ← Rat.intCast_mul]
   exact ((whole_rat (av.ext (aP.t aI.ext)) aX).ext aJ)
  replace ad : ab = false := ad
  refine zzr (zzo ?_)
  refine zzd (zzy [0, 0, 2, 6, 0, 16, 48, 126, 255, 511, 1023] [(0, []), (1, []), (2, []), (3, []), (4, []), (5, []), (6, []), (7, []), (8, []), (9, []), (10, [])] xj xj (zzh 27 (.v (aa.v)) ty24 zze (zza 28 (.adr 5 0) (zza 29 (.adr 5 2) (zzh 30 (.v (ah.d.v)) ty22 zzk (zza 31 (.adr 6 0) (zza 32 (.adr 6 2) (zzh 33 (.v (am.d.v)) ty22 zzk (zzg 34 156 _ fun _ _ ax a0 => Post.mono (k_natMul a0 (al.ext (ap.t (au.t (ag.t (aq.t ax))))) (aj.ext (ag.t (aq.t ax))) xq xq) ?_)))))))))
  rintro _ u40 aO ⟨a3, rfl, aG⟩
  refine zza 35 (.v (.agg #[.bool aa.s, aa.m.v, a3.v])) (zzg 36 148 _ fun _ _ aC a1 => Post.mono (k_lowest a1 (av.ext (ax.t (aO.t aC))).raw (aG.ext aC).raw (Nat.mul_pos ak ai) xq xq) ?_)
  rintro _ u46 g47 ⟨ao, rfl, aT⟩
  refine zzi ⟨26, ao.cs⟩ ty26 ?_
  refine zzc 37 [(4, .adr 4 0)] [(4, ⟨26, ao.cs⟩)] (zzn (ret0 [ao.v] ⟨zzq ty26 zze, trivial⟩ fun u49 aH => ?_))
  refine ⟨ao, rfl, RatN.more (K := (max (K + L) (K + L))) ?_ xq⟩
  rw [ae, af, ← Nt.mul_mk]
  exact (aT.ext aH)
 refine zyp 21 (x := zB ac) (zB false) (by rw [hs27]) (zzm 22 (uw 2 true false 21) (zzm 23 (uw 2 true false 21) (zza 24 (zB false) (zzb (zyr xj (zzr (zzo ?_)))))))
 refine zzd (zzy [0, 0, 2, 6, 0, 16, 48, 126, 255, 511, 1023] [(0, []), (1, []), (2, []), (3, []), (4, []), (5, []), (6, []), (7, []), (8, []), (9, []), (10, [])] xj xj (zzh 27 (.v (aa.v)) ty24 zze (zza 28 (.adr 5 0) (zza 29 (.adr 5 2) (zzh 30 (.v (ah.d.v)) ty22 zzk (zza 31 (.adr 6 0) (zza 32 (.adr 6 2) (zzh 33 (.v (am.d.v)) ty22 zzk (zzg 34 156 _ fun _ _ aw aY => Post.mono (k_natMul aY (al.ext (ap.t (au.t (ag.t (aq.t aw))))) (aj.ext (ag.t (aq.t aw))) xq xq) ?_)))))))))
 rintro _ u54 aF ⟨aV, rfl, aN⟩
 refine zza 35 (.v (.agg #[.bool aa.s, aa.m.v, aV.v])) (zzg 36 148 _ fun _ _ aD a2 => Post.mono (k_lowest a2 (av.ext (aw.t (aF.t aD))).raw (aN.ext aD).raw (Nat.mul_pos ak ai) xq xq) ?_)
 rintro _ u60 g61 ⟨an, rfl, aL⟩
 refine zzi ⟨26, an.cs⟩ ty26 ?_
 refine zzc 37 [(4, .adr 4 0)] [(4, ⟨26, an.cs⟩)] (zzn (ret0 [an.v] ⟨zzq ty26 zze, trivial⟩ fun u63 aQ => ?_))
 refine ⟨an, rfl, RatN.more (K := (max (K + L) (K + L))) ?_ xq⟩
 rw [ae, af, ← Nt.mul_mk]
 exact (aL.ext aQ)
theorem k_ratFrac {u w : World} {a b : Int} (d : Dat u w) (ha0 : -9223372036854775808 ≤ a) (ha1 : a ≤ 9223372036854775807) (hb0 : -9223372036854775808 ≤ b) (hb1 : b ≤ 9223372036854775807) : Calls Tryz.prog 127 #[.int .i64 a, .int .i64 b] w (Post u w fun v u' => ∃ r : RL, v = r.v ∧ RatN u' r ((a : Rat) / (b : Rat)) 2) := by
 refine zzl (args := [.int .i64 a, .int .i64 b]) Tryz.func127 rfl Tryz.ntmps127 (rs := [.cell 4 26]) Tryz.results127 (le_b rfl) (le_b rfl) d ?_
 refine sq9 (zzj 4 ⟨26, zw3⟩ (zzb (zzd (sq9 (zza 5 (zI b) (zza 6 (zB (b == 0)) (zzb (zzt (b := b == 0) xj (fun aa => ?_) (fun aa => ?_)))))))))
 ·refine sq9 (zzg 7 118 _ fun _ _ _ aj => Post.mono (k_ratOf aj (z := 0) xq xq) ?_)
  rintro _ u15 g16 ⟨ad, rfl, au⟩
  refine zzi ⟨26, ad.cs⟩ ty26 ?_
  refine zzb (zzn (zzv (ret0 [ad.v] ⟨zzq ty26 zze, trivial⟩ fun u18 av => ?_)))
  refine ⟨ad, rfl, RatN.more (K := 2) ?_ xq⟩
  have hb0 : b = 0 := by simpa using aa
  rw [hb0]; simp [Rat.div_def]; exact (au.ext av)
 have hb0 : 0 < b.natAbs := by simp at aa; omega
 refine zzr (zzo ?_)
 refine sq9 (zza 8 (zI a) (zzg 9 160 _ fun _ _ _ am => Post.mono (k_intOf am (z := a) xq xq) ?_))
 rintro _ u23 g24 ⟨ap, rfl, aw⟩
 refine zza 10 (zI b) (zzg 11 160 _ fun _ _ ah al => Post.mono (k_intOf al (z := b) xq xq) ?_)
 rintro _ u29 ak ⟨ao, rfl, ag⟩
 refine zzg 12 196 _ fun _ _ ac ai => Post.mono (k_quotient (i := ap) (j := ao) ai) ?_
 rintro _ u33 ae rfl
 refine zzg 13 148 _ fun _ _ af aq => Post.mono (k_lowest aq ((quot_int (aw.ext (ah.t (ak.t (ac.t ae.ext)))) (ag.ext (ac.t ae.ext))).ext af) ((int_mag (ag.ext (ac.t ae.ext))).ext af).raw hb0 xq xq) ?_
 rintro _ u39 g40 ⟨ab, rfl, ar⟩
 refine zzi ⟨26, ab.cs⟩ ty26 ?_
 refine zzb (zzn (ret0 [ab.v] ⟨zzq ty26 zze, trivial⟩ fun u42 an => ?_))
 refine ⟨ab, rfl, RatN.more (K := (max 2 2)) ?_ xq⟩
 rw [← Nt.div_mk2 xq]
 exact (ar.ext an)
def DivR (x y : Rat) (K : Nat) (v : Value) (u : World) : Prop := (v = .tuple #[.agg #[.bool false, .slice none 0 0, .slice none 0 0], .int .i64 3] ∧ y = 0) ∨ (y ≠ 0 ∧ ∃ r : RL, v = .tuple #[r.v, .int .i64 0] ∧ RatN u r (x / y) K)
set_option maxHeartbeats 1000000 in
theorem k_ratDiv {u w : World} {r1 : RL} {x : Rat} {K : Nat} {r2 : RL} {y : Rat} {L : Nat} (d : Dat u w) (hr1 : RatV u r1 x K) (hr2 : RatV u r2 y L) (hK : K ≤ 200000000) (hL : L ≤ 200000000) : Calls Tryz.prog 202 #[r1.v, r2.v] w (Post u w fun v u' => DivR x y (K + L) v u') := by
 refine zzl (args := [r1.v, r2.v]) Tryz.func202 rfl Tryz.ntmps202 (rs := [.cell 4 26, .tmp 5]) Tryz.results202 (le_b rfl) (le_b rfl) d ?_
 refine sq9 (zzj 2 ⟨26, r1.cs⟩ (zzj 3 ⟨26, r2.cs⟩ (zzj 4 ⟨26, zw3⟩ (zza 5 (zI 0) (zzb (zzd (zzy [0, 1, 0, 7, 0, 0, 63, 127] [(0, []), (2, []), (4, []), (5, []), (1, []), (3, []), (6, []), (7, [])] xj xj (zzh 10 (.v (r1.v)) ty26 zze (zzh 12 (.v (r2.v)) ty26 zze (zzj 6 ⟨149, [.bool false, .slice none 0 0, .slice none 0 0, .bool false]⟩ (zzj 7 ⟨149, [.bool false, .slice none 0 0, .slice none 0 0, .bool false]⟩ ?_)))))))))))
 refine zzg 11 147 _ fun _ _ aJ a2 => Post.mono (k_read a2 (hr1.ext aJ)) ?_
 rintro _ u13 aV ⟨ad, aw, rfl, z12, aS, aC, aA, az, ao, a0, a1⟩
 refine zzg 13 147 _ fun _ _ av aX => Post.mono (k_read aX (hr2.ext (aJ.t (aV.t av)))) ?_
 rintro _ u18 aF ⟨ac, aE, rfl, ah, D17, af, ay, aq, ab, aP, aM⟩
 refine zzi ⟨149, ad.cs ++ [.bool aw]⟩ ty149 ?_
 refine zzi ⟨149, ac.cs ++ [.bool aE]⟩ ty149 ?_
 refine zzb (zzd (sq9 (zza 14 (.adr 7 0) (zza 15 (.adr 7 0) (zzh 16 (.v (.agg #[.bool ac.s, ac.m.v])) ty24 zze (zzg 17 146 _ fun _ _ ae aQ => Post.mono (k_intSign aQ (af.ext ae)) ?_))))))
 rintro _ u22 am rfl
 refine zza 18 (zB ((Nt.cmpS ah 0) == 0)) (zzb (zzt (b := (Nt.cmpS ah 0) == 0) xj (fun aa => ?_) (fun aa => ?_)))
 ·refine sq9 (zza 19 (.v (.agg #[.bool false, .slice none 0 0, .slice none 0 0])) (zzi ⟨26, zw3⟩ ty26 ?_))
  refine zza 5 (zI 3) (zzb (zzn (zzv (ret0 [.agg #[.bool false, .slice none 0 0, .slice none 0 0], .int .i64 3] ⟨zzq ty26 zze, zzp, trivial⟩ fun u26 e27 => ?_))))
  left
  exact ⟨rfl, by rw [ab, Nt.cmp_eq0 aa, Rat.zero_mkRat]⟩
 have aB : ah ≠ 0 := Nt.cmp_ne0 aa
 have hpp : 0 < ((aS : Int) * ah : Int).natAbs := Int.natAbs_pos.2 (Int.mul_ne_zero xq aB)
 refine zzr (zzo ?_)
 refine zzd (zzy [0, 1, 3, 0, 8, 24, 56, 127, 0, 511] [(0, []), (1, []), (2, []), (3, []), (4, []), (5, []), (8, []), (6, []), (7, []), (9, [])] xj xj (zza 20 (.adr 6 0) (zza 21 (.adr 6 0) (zzh 22 (.v (.agg #[.bool ad.s, ad.m.v])) ty24 zze (zza 23 (.adr 7 0) (zza 24 (.adr 7 2) (zzh 25 (.v (ac.d.v)) ty22 zzk (zzj 8 ⟨24, [.bool false, .slice none 0 0]⟩ (zzg 26 195 _ fun _ _ ag aR => Post.mono (k_natural (x := ac.d) aR) ?_)))))))))
 rintro _ u29 aj rfl
 refine zzg 27 194 _ fun _ _ ai aO => Post.mono (k_intMul aO (aC.ext (av.t (aF.t (ae.t (am.t (ag.t (aj.t ai))))))) (nat_int (ay.ext (ae.t (am.t (ag.t (aj.t ai)))))) xq xq) ?_
 rintro _ u35 aI ⟨ak, rfl, aN⟩
 refine zzi ⟨24, ak.cs⟩ ty24 ?_
 refine zzb (zzd (zzy [0, 1, 3, 7, 0, 16, 48, 127, 0, 511] [(0, []), (1, []), (2, []), (4, []), (5, []), (6, []), (8, []), (3, []), (7, []), (9, [])] xj xj (zza 28 (.adr 6 0) (zza 29 (.adr 6 2) (zzh 30 (.v (ad.d.v)) ty22 zzk (zza 32 (.adr 7 0) (zza 33 (.adr 7 0) (zzh 34 (.v (.agg #[.bool ac.s, ac.m.v])) ty24 zze (zzj 9 ⟨24, [.bool false, .slice none 0 0]⟩ (zzg 31 195 _ fun _ _ ar aY => Post.mono (k_natural (x := ad.d) aY) ?_))))))))))
 rintro _ u39 au rfl
 refine zzg 35 194 _ fun _ _ an aZ => Post.mono (k_intMul aZ (nat_int (aA.ext (av.t (aF.t (ae.t (am.t (ag.t (aj.t (ai.t (aI.t (ar.t (au.t an)))))))))))) (af.ext (ae.t (am.t (ag.t (aj.t (ai.t (aI.t (ar.t (au.t an))))))))) xq xq) ?_
 rintro _ u45 aT ⟨al, rfl, aG⟩
 refine zzi ⟨24, al.cs⟩ ty24 ?_
 refine zzc 40 [(4, .adr 4 0), (8, .adr 8 0), (9, .adr 9 0)] [(4, ⟨26, zw3⟩), (8, ⟨24, ak.cs⟩), (9, ⟨24, al.cs⟩)] (sq9 (zzh 36 (.v (ak.v)) ty24 zze (zzh 37 (.v (al.v)) ty24 zze (zzg 38 196 _ fun _ _ aD aK => Post.mono (k_quotient (i := ak) (j := al) aK) ?_))))
 rintro _ u49 ax rfl
 refine zzg 39 148 _ fun _ _ aH aU => Post.mono (k_lowest aU ((quot_int (aN.ext (ar.t (au.t (an.t (aT.t (aD.t ax.ext)))))) (aG.ext (aD.t ax.ext))).ext aH) ((int_mag (aG.ext (aD.t ax.ext))).ext aH).raw hpp xq xq) ?_
 rintro _ u55 g56 ⟨ap, rfl, aW⟩
 refine zzi ⟨26, ap.cs⟩ ty26 ?_
 refine zza 5 (zI 0) (zzb (zzn (ret0 [ap.v, .int .i64 0] ⟨zzq ty26 zze, zzp, trivial⟩ fun u58 aL => ?_)))
 right
 refine ⟨?_, ap, rfl, RatN.more (K := (max (K + L) (K + L))) ?_ xq⟩
 ·rw [ab]; exact (Rat.mkRat_ne_zero xq).2 aB
 rw [ao, ab, ← Nt.quo_mk az aq aB, ← Nt.div_mk2 xq]
 exact (aW.ext aL)
theorem k_ends {u w : World} {a1 a2 : RL} {x1 x2 : Rat} {K : Nat} (d : Dat u w) (ha1 : RatV u a1 x1 K) (ha2 : RatV u a2 x2 K) (hK : K ≤ 200000000) : Calls Tryz.prog 208 #[IV a1 a2] w (Post u w fun v u' => ∃ p q : RL, v = .tuple #[p.v, q.v] ∧ RatV u' p (Nt.lo x1 x2) K ∧ RatV u' q (Nt.hi x1 x2) K) := by
 refine zzl (args := [.agg #[.bool a1.s, a1.m.v, a1.d.v, .bool a2.s, a2.m.v, a2.d.v]]) Tryz.func208 rfl Tryz.ntmps208 (rs := [.cell 2 26, .cell 3 26]) Tryz.results208 (le_b rfl) (le_b rfl) d ?_
 refine sq9 (zzj 1 ⟨32, a1.cs ++ a2.cs⟩ (zzj 2 ⟨26, zw3⟩ (zzj 3 ⟨26, zw3⟩ (zzb (zzd (sq9 (zza 4 (.adr 1 0) (zzh 5 (.v (a1.v)) ty26 zze (zza 6 (.adr 1 3) (zzh 7 (.v (a2.v)) ty26 zze (zzg 8 197 _ fun _ _ ab af => Post.mono (k_ratCompare af (ha1.ext ab) (ha2.ext ab) xq xq) ?_)))))))))))
 rintro _ u12 ac rfl
 refine zza 9 (zB (decide ((0 : Int) < (Nt.cmpQ x1 x2)))) (zzb (zzt (b := decide ((0 : Int) < (Nt.cmpQ x1 x2))) xj (fun aa => ?_) (fun aa => ?_)))
 ·have qhb15 := of_decide_eq_true aa
  refine zzd (zzy [0, 1, 0, 4, 3, 31] [(0, []), (1, []), (2, []), (3, []), (4, [12]), (5, [])] xj xj (zza 10 (.adr 1 3) (zzh 11 (.v (a2.v)) ty26 zze (zza 12 (.adr 1 0) (zzh 13 (.v (a1.v)) ty26 zze (zzi ⟨26, a2.cs⟩ ty26 ?_))))))
  refine zzi ⟨26, a1.cs⟩ ty26 ?_
  refine zzb (zzn (zzv (ret0 [a2.v, a1.v] ⟨zzq ty26 zze, zzq ty26 zze, trivial⟩ fun u16 ae => ?_)))
  refine ⟨a2, a1, rfl, ?_, ?_⟩
  ·rw [(Nt.ends_gt aa).1]; exact (ha2.ext (ab.t (ac.t ae)))
  rw [(Nt.ends_gt aa).2]; exact (ha1.ext (ab.t (ac.t ae)))
 have qhb15 := of_decide_eq_false aa
 refine zzr (zzo ?_)
 refine zzd (zzy [0, 1, 0, 4, 3, 31] [(0, []), (1, []), (2, []), (3, []), (4, [16]), (5, [])] xj xj (zza 14 (.adr 1 0) (zzh 15 (.v (a1.v)) ty26 zze (zza 16 (.adr 1 3) (zzh 17 (.v (a2.v)) ty26 zze (zzi ⟨26, a1.cs⟩ ty26 ?_))))))
 refine zzi ⟨26, a2.cs⟩ ty26 ?_
 refine zzb (zzn (ret0 [a1.v, a2.v] ⟨zzq ty26 zze, zzq ty26 zze, trivial⟩ fun u18 ad => ?_))
 refine ⟨a1, a2, rfl, ?_, ?_⟩
 ·rw [(Nt.ends_le aa).1]; exact (ha1.ext (ab.t (ac.t ad)))
 rw [(Nt.ends_le aa).2]; exact (ha2.ext (ab.t (ac.t ad)))
theorem k_lesserN {u w : World} {a : RL} {x : Rat} {b : RL} {y : Rat} {K : Nat} (d : Dat u w) (ha : RatN u a x K) (hb : RatN u b y K) (hK : K ≤ 200000000) : Calls Tryz.prog 239 #[a.v, b.v] w (Post u w fun v u' => ∃ p : RL, v = p.v ∧ RatN u' p (Nt.lo x y) K) := by
 refine zzl (args := [a.v, b.v]) Tryz.func239 rfl Tryz.ntmps239 (rs := [.cell 4 26]) Tryz.results239 (le_b rfl) (le_b rfl) d ?_
 refine sq9 (zzj 2 ⟨26, a.cs⟩ (zzj 3 ⟨26, b.cs⟩ (zzj 4 ⟨26, zw3⟩ (zzb (zzd (sq9 (zzh 5 (.v (b.v)) ty26 zze (zzh 6 (.v (a.v)) ty26 zze (zzg 7 197 _ fun _ _ ab af => Post.mono (k_ratCompare af (hb.ext ab).raw (ha.ext ab).raw xq xq) ?_)))))))))
 rintro _ u12 ac rfl
 refine zza 8 (zB (decide ((Nt.cmpQ y x) < 0))) (zzb (zzt (b := decide ((Nt.cmpQ y x) < 0)) xj (fun aa => ?_) (fun aa => ?_)))
 ·have qhb15 := of_decide_eq_true aa
  refine sq9 (zzh 9 (.v (b.v)) ty26 zze (zzi ⟨26, b.cs⟩ ty26 ?_))
  refine zzb (zzn (zzv (ret0 [b.v] ⟨zzq ty26 zze, trivial⟩ fun u16 ae => ?_)))
  refine ⟨b, rfl, ?_⟩
  rw [Nt.lesser_lt aa]
  exact (hb.ext (ab.t (ac.t ae)))
 have qhb15 := of_decide_eq_false aa
 refine zzr (zzo ?_)
 refine sq9 (zzh 10 (.v (a.v)) ty26 zze (zzi ⟨26, a.cs⟩ ty26 ?_))
 refine zzb (zzn (ret0 [a.v] ⟨zzq ty26 zze, trivial⟩ fun u18 ad => ?_))
 refine ⟨a, rfl, ?_⟩
 rw [Nt.lesser_ge aa]
 exact (ha.ext (ab.t (ac.t ad)))
theorem k_greaterN {u w : World} {a : RL} {x : Rat} {b : RL} {y : Rat} {K : Nat} (d : Dat u w) (ha : RatN u a x K) (hb : RatN u b y K) (hK : K ≤ 200000000) : Calls Tryz.prog 240 #[a.v, b.v] w (Post u w fun v u' => ∃ p : RL, v = p.v ∧ RatN u' p (Nt.hi x y) K) := by
 refine zzl (args := [a.v, b.v]) Tryz.func240 rfl Tryz.ntmps240 (rs := [.cell 4 26]) Tryz.results240 (le_b rfl) (le_b rfl) d ?_
 refine sq9 (zzj 2 ⟨26, a.cs⟩ (zzj 3 ⟨26, b.cs⟩ (zzj 4 ⟨26, zw3⟩ (zzb (zzd (sq9 (zzh 5 (.v (b.v)) ty26 zze (zzh 6 (.v (a.v)) ty26 zze (zzg 7 197 _ fun _ _ ab af => Post.mono (k_ratCompare af (hb.ext ab).raw (ha.ext ab).raw xq xq) ?_)))))))))
 rintro _ u12 ac rfl
 refine zza 8 (zB (decide ((0 : Int) < (Nt.cmpQ y x)))) (zzb (zzt (b := decide ((0 : Int) < (Nt.cmpQ y x))) xj (fun aa => ?_) (fun aa => ?_)))
 ·have qhb15 := of_decide_eq_true aa
  refine sq9 (zzh 9 (.v (b.v)) ty26 zze (zzi ⟨26, b.cs⟩ ty26 ?_))
  refine zzb (zzn (zzv (ret0 [b.v] ⟨zzq ty26 zze, trivial⟩ fun u16 ae => ?_)))
  refine ⟨b, rfl, ?_⟩
  rw [Nt.greater_gt aa]
  exact (hb.ext (ab.t (ac.t ae)))
 have qhb15 := of_decide_eq_false aa
 refine zzr (zzo ?_)
 refine sq9 (zzh 10 (.v (a.v)) ty26 zze (zzi ⟨26, a.cs⟩ ty26 ?_))
 refine zzb (zzn (ret0 [a.v] ⟨zzq ty26 zze, trivial⟩ fun u18 ad => ?_))
 refine ⟨a, rfl, ?_⟩
 rw [Nt.greater_le aa]
 exact (ha.ext (ab.t (ac.t ad)))
theorem k_own {u w : World} {a : RL} {x : Rat} {K : Nat} (d : Dat u w) (ha : RatN u a x K) (hK : K ≤ 200000000) : Calls Tryz.prog 241 #[a.v] w (Post u w fun v u' => ∃ p : RL, v = p.v ∧ RatN u' p x K) := by
 refine zzl (args := [a.v]) Tryz.func241 rfl Tryz.ntmps241 (rs := [.cell 2 26]) Tryz.results241 (le_b rfl) (le_b rfl) d ?_
 refine sq9 (zzj 1 ⟨26, a.cs⟩ (zzj 2 ⟨26, zw3⟩ (zzb (zzd (zzy [0, 1, 3, 0, 8, 24, 56, 127, 0, 256, 888, 2047, 4095] [(0, []), (1, []), (2, []), (3, []), (4, []), (5, []), (8, []), (9, []), (6, []), (7, []), (10, []), (11, []), (12, [])] xj xj (zza 3 (.adr 1 0) (zza 4 (.adr 1 0) (zzh 5 (zB a.s) ty4 zzk (zza 6 (.adr 1 0) (zza 7 (.adr 1 1) (zzh 8 (.v (a.m.v)) ty22 zzk ?_)))))))))))
 refine zza 11 (.adr 1 2) (zzh 12 (.v (a.d.v)) ty22 zzk (zzg 9 217 _ fun _ _ ad ak => Post.mono (k_cloneN ak ((int_mag (RatN.num ha)).ext ad) xq) ?_))
 rintro _ u14 ag ⟨aa, rfl, ai⟩
 refine zza 10 (.v (.agg #[.bool a.s, aa.v])) (zzg 13 217 _ fun _ _ ae ah => Post.mono (k_cloneN ah ((RatN.den ha).ext (ad.t (ag.t ae))) xq) ?_)
 rintro _ u20 aj ⟨ab, rfl, af⟩
 refine zza 14 (.v (.agg #[.bool a.s, aa.v, ab.v])) (zzi ⟨26, [.bool a.s, aa.v, ab.v]⟩ ty26 ?_)
 refine zzb (zzn (ret0 [.agg #[.bool a.s, aa.v, ab.v]] ⟨zzq ty26 zze, trivial⟩ fun u23 ac => ?_))
 exact ⟨(⟨a.s, aa, ab⟩ : RL), rfl, own_rat (r := a) ha (ai.ext (ae.t (aj.t ac))) (af.ext ac)⟩
set_option maxHeartbeats 1000000 in
theorem k_around {u w : World} {a1 a2 a3 a4 : RL} {x1 x2 x3 x4 : Rat} {K : Nat} (d : Dat u w) (ha1 : RatN u a1 x1 K) (ha2 : RatN u a2 x2 K) (ha3 : RatN u a3 x3 K) (ha4 : RatN u a4 x4 K) (hK : K ≤ 200000000) : Calls Tryz.prog 200 #[.agg #[.bool a1.s, .slice a1.m.a a1.m.n a1.m.c, .slice a1.d.a a1.d.n a1.d.c, .bool a2.s, .slice a2.m.a a2.m.n a2.m.c, .slice a2.d.a a2.d.n a2.d.c, .bool a3.s, .slice a3.m.a a3.m.n a3.m.c, .slice a3.d.a a3.d.n a3.d.c, .bool a4.s, .slice a4.m.a a4.m.n a4.m.c, .slice a4.d.a a4.d.n a4.d.c]] w (Post u w fun v u' => ∃ p q : RL, v = IV p q ∧ RatN u' p (Nt.lo4 x1 x2 x3 x4) K ∧ RatN u' q (Nt.hi4 x1 x2 x3 x4) K) := by
 refine zzl (args := [.agg #[.bool a1.s, a1.m.v, a1.d.v, .bool a2.s, a2.m.v, a2.d.v, .bool a3.s, a3.m.v, a3.d.v, .bool a4.s, a4.m.v, a4.d.v]]) Tryz.func200 rfl Tryz.ntmps200 (rs := [.cell 2 32]) Tryz.results200 (le_b rfl) (le_b rfl) d ?_
 refine sq9 (zzj 1 ⟨180, a1.cs ++ a2.cs ++ a3.cs ++ a4.cs⟩ (zzj 2 ⟨32, zw6⟩ (zzb (zzd (zzy [0, 1, 0, 4, 0, 0, 51, 127] [(0, []), (1, []), (2, []), (3, []), (4, []), (5, []), (6, [9]), (7, [])] xj xj (zza 7 (.adr 1 0) (zzh 8 (.v (a1.v)) ty26 zze (zza 9 (.adr 1 0) (zzh 10 (.v (a1.v)) ty26 zze (zzj 3 ⟨26, zw3⟩ (zzj 4 ⟨26, zw3⟩ ?_)))))))))))
 refine zzi ⟨26, a1.cs⟩ ty26 ?_
 refine zzi ⟨26, a1.cs⟩ ty26 ?_
 refine zzb (zzd (sq9 (zza 11 (.slc 1 3 3 3) (zza 12 (zI 3) (zza 13 (zI 0) (zzb (zzs (sw_rounds 3 ?_))))))))
 refine sq9 (zza 14 (zB true) (zzb (zzd (zyq xj (zzr (zzo ?_))))))
 refine zzd (zzs (sq9 (zza 15 (.adr 1 3) (zzh 16 (.v (a2.v)) ty26 zze (zzj 6 ⟨26, zw3⟩ (zzi ⟨26, a2.cs⟩ ty26 ?_))))))
 refine zzb (zzy [0, 0, 3, 0, 0, 31, 63, 127] [(0, []), (1, []), (3, []), (4, []), (2, []), (5, []), (6, []), (7, [])] xj xj (zzh 17 (.v (a1.v)) ty26 zze (zzh 18 (.v (a2.v)) ty26 zze (zzh 20 (.v (a1.v)) ty26 zze (zzh 21 (.v (a2.v)) ty26 zze (zzg 19 239 _ fun _ _ ac aQ => Post.mono (k_lesserN aQ (ha1.ext ac) (ha2.ext ac) xq) ?_))))))
 rintro _ u14 af ⟨al, rfl, aJ⟩
 refine zzg 22 240 _ fun _ _ ad aN => Post.mono (k_greaterN aN (ha1.ext (ac.t (af.t ad))) (ha2.ext (ac.t (af.t ad))) xq) ?_
 rintro _ u20 ah ⟨aq, rfl, aF⟩
 refine zzi ⟨26, al.cs⟩ ty26 ?_
 refine zzi ⟨26, aq.cs⟩ ty26 ?_
 refine zzw ?_
 refine zzo (zzf (zza 23 (zI 1) (zza 13 (zI 1) (zzw ?_))))
 refine rn_next ?_
 refine sw_weak (T := St.of 29 [(2, .adr 2 0), (3, .adr 3 0), (4, .adr 4 0), (11, .slc 1 3 3 3), (12, zI 3), (13, zI 1)] [(1, ⟨180, a1.cs ++ a2.cs ++ a3.cs ++ a4.cs⟩), (2, ⟨32, zw6⟩), (3, ⟨26, al.cs⟩), (4, ⟨26, aq.cs⟩)]) yz ?_
 refine sq9 (zza 14 (zB true) (zzb (zzd (zyq xj (zzr (zzo ?_))))))
 refine zzd (zzs (sq9 (zza 15 (.adr 1 6) (zzh 16 (.v (a3.v)) ty26 zze (zzj 6 ⟨26, zw3⟩ (zzi ⟨26, a3.cs⟩ ty26 ?_))))))
 refine zzb (zzy [0, 0, 3, 0, 0, 31, 63, 127] [(0, []), (1, []), (3, []), (4, []), (2, []), (5, []), (6, []), (7, [])] xj xj (zzh 17 (.v (al.v)) ty26 zze (zzh 18 (.v (a3.v)) ty26 zze (zzh 20 (.v (aq.v)) ty26 zze (zzh 21 (.v (a3.v)) ty26 zze (zzg 19 239 _ fun _ _ ae aC => Post.mono (k_lesserN aC (aJ.ext (ad.t (ah.t ae))) (ha3.ext (ac.t (af.t (ad.t (ah.t ae))))) xq) ?_))))))
 rintro _ u26 ai ⟨am, rfl, ay⟩
 refine zzg 22 240 _ fun _ _ ag aH => Post.mono (k_greaterN aH (aF.ext (ae.t (ai.t ag))) (ha3.ext (ac.t (af.t (ad.t (ah.t (ae.t (ai.t ag))))))) xq) ?_
 rintro _ u32 ak ⟨ap, rfl, aL⟩
 refine zzi ⟨26, am.cs⟩ ty26 ?_
 refine zzi ⟨26, ap.cs⟩ ty26 ?_
 refine zzw ?_
 refine zzo (zzf (zza 23 (zI 2) (zza 13 (zI 2) (zzw ?_))))
 refine rn_next ?_
 refine sw_weak (T := St.of 29 [(2, .adr 2 0), (3, .adr 3 0), (4, .adr 4 0), (11, .slc 1 3 3 3), (12, zI 3), (13, zI 2)] [(1, ⟨180, a1.cs ++ a2.cs ++ a3.cs ++ a4.cs⟩), (2, ⟨32, zw6⟩), (3, ⟨26, am.cs⟩), (4, ⟨26, ap.cs⟩)]) yz ?_
 refine sq9 (zza 14 (zB true) (zzb (zzd (zyq xj (zzr (zzo ?_))))))
 refine zzd (zzs (sq9 (zza 15 (.adr 1 9) (zzh 16 (.v (a4.v)) ty26 zze (zzj 6 ⟨26, zw3⟩ (zzi ⟨26, a4.cs⟩ ty26 ?_))))))
 refine zzb (zzy [0, 0, 3, 0, 0, 31, 63, 127] [(0, []), (1, []), (3, []), (4, []), (2, []), (5, []), (6, []), (7, [])] xj xj (zzh 17 (.v (am.v)) ty26 zze (zzh 18 (.v (a4.v)) ty26 zze (zzh 20 (.v (ap.v)) ty26 zze (zzh 21 (.v (a4.v)) ty26 zze (zzg 19 239 _ fun _ _ aj aA => Post.mono (k_lesserN aA (ay.ext (ag.t (ak.t aj))) (ha4.ext (ac.t (af.t (ad.t (ah.t (ae.t (ai.t (ag.t (ak.t aj))))))))) xq) ?_))))))
 rintro _ u38 au ⟨ao, rfl, aG⟩
 refine zzg 22 240 _ fun _ _ ar aD => Post.mono (k_greaterN aD (aL.ext (aj.t (au.t ar))) (ha4.ext (ac.t (af.t (ad.t (ah.t (ae.t (ai.t (ag.t (ak.t (aj.t (au.t ar))))))))))) xq) ?_
 rintro _ u44 aB ⟨an, rfl, aI⟩
 refine zzi ⟨26, ao.cs⟩ ty26 ?_
 refine zzi ⟨26, an.cs⟩ ty26 ?_
 refine zzw ?_
 refine zzo (zzf (zza 23 (zI 3) (zza 13 (zI 3) (zzw ?_))))
 refine rn_next ?_
 refine sw_weak (T := St.of 29 [(2, .adr 2 0), (3, .adr 3 0), (4, .adr 4 0), (11, .slc 1 3 3 3), (12, zI 3), (13, zI 3)] [(1, ⟨180, a1.cs ++ a2.cs ++ a3.cs ++ a4.cs⟩), (2, ⟨32, zw6⟩), (3, ⟨26, ao.cs⟩), (4, ⟨26, an.cs⟩)]) yz ?_
 refine sq9 (zza 14 (zB false) (zzb (zzd (zyr xj (zyb (zzo (zzd (zzy [0, 1, 0, 7, 15, 31] [(0, []), (2, []), (1, []), (3, []), (4, []), (5, [])] xj xj (zzh 24 (.v (ao.v)) ty26 zze (zzh 26 (.v (an.v)) ty26 zze (zzg 25 241 _ fun _ _ av aP => Post.mono (k_own aP (aG.ext (ar.t (aB.t av))) xq) ?_)))))))))))
 rintro _ u50 aM ⟨ab, rfl, aE⟩
 refine zzg 27 241 _ fun _ _ aw az => Post.mono (k_own az (aI.ext (av.t (aM.t aw))) xq) ?_
 rintro _ u56 aO ⟨aa, rfl, aK⟩
 refine zza 28 (.v (.agg #[.bool ab.s, ab.m.v, ab.d.v, .bool aa.s, aa.m.v, aa.d.v])) (zzi ⟨32, ab.cs ++ aa.cs⟩ ty32 ?_)
 refine zzc 29 [(2, .adr 2 0)] [(2, ⟨32, ab.cs ++ aa.cs⟩)] (zzn (ret0 [.agg #[.bool ab.s, ab.m.v, ab.d.v, .bool aa.s, aa.m.v, aa.d.v]] ⟨zzq ty32 zze, trivial⟩ fun u59 ax => ?_))
 refine ⟨ab, aa, rfl, RatN.more (K := K) ?_ xq, RatN.more (K := K) ?_ xq⟩
 ·exact (aE.ext (aw.t (aO.t ax)))
 exact (aK.ext ax)
theorem k_ivMake {u w : World} {a : RL} {x : Rat} {b : RL} {y : Rat} {K : Nat} (d : Dat u w) (ha : RatV u a x K) (hb : RatV u b y K) (hK : K ≤ 100000000) : Calls Tryz.prog 144 #[a.v, b.v] w (Post u w fun v u' => ∃ p q : RL, v = IV p q ∧ RatN u' p (Nt.lo x y) K ∧ RatN u' q (Nt.hi x y) K) := by
 refine zzl (args := [a.v, b.v]) Tryz.func144 rfl Tryz.ntmps144 (rs := [.cell 4 32]) Tryz.results144 (le_b rfl) (le_b rfl) d ?_
 refine sq9 (zzj 2 ⟨26, a.cs⟩ (zzj 3 ⟨26, b.cs⟩ (zzj 4 ⟨32, zw6⟩ (zzb (sq9 (zzh 8 (.v (a.v)) ty26 zze (zzh 9 (.v (b.v)) ty26 zze (zza 10 (.v (.agg #[.bool a.s, a.m.v, a.d.v, .bool b.s, b.m.v, b.d.v])) (zzg 11 208 _ fun _ _ ag aq => Post.mono (k_ends aq (ha.ext ag) (hb.ext ag) xq) ?_)))))))))
 rintro _ u16 g17 ⟨ac, ad, rfl, ap, aj⟩
 refine zza 7 (.v (.tuple #[ac.v, ad.v])) (zza 12 (.v (ac.v)) (zza 13 (.v (ad.v)) (zzj 5 ⟨26, zw3⟩ (zzj 6 ⟨26, zw3⟩ (zzi ⟨26, ac.cs⟩ ty26 ?_)))))
 refine zzi ⟨26, ad.cs⟩ ty26 ?_
 refine zzb (zzd (zzy [0, 1, 0, 7, 15, 31] [(0, []), (2, []), (1, []), (3, []), (4, []), (5, [])] xj xj (zzh 14 (.v (ac.v)) ty26 zze (zzh 16 (.v (ad.v)) ty26 zze (zzg 15 78 _ fun _ _ ah an => Post.mono (k_ratTrim an (ap.ext ah) xq) ?_)))))
 rintro _ u22 am ⟨aa, rfl, ai⟩
 refine zzg 17 78 _ fun _ _ ae al => Post.mono (k_ratTrim al (aj.ext (ah.t (am.t ae))) xq) ?_
 rintro _ u28 ao ⟨ab, rfl, ak⟩
 refine zza 18 (.v (.agg #[.bool aa.s, aa.m.v, aa.d.v, .bool ab.s, ab.m.v, ab.d.v])) (zzi ⟨32, aa.cs ++ ab.cs⟩ ty32 ?_)
 refine zzb (zzn (ret0 [.agg #[.bool aa.s, aa.m.v, aa.d.v, .bool ab.s, ab.m.v, ab.d.v]] ⟨zzq ty32 zze, trivial⟩ fun u31 af => ?_))
 refine ⟨aa, ab, rfl, RatN.more (K := K) ?_ xq, RatN.more (K := K) ?_ xq⟩
 ·exact (ai.ext (ae.t (ao.t af)))
 exact (ak.ext af)
theorem k_ivSign {u w : World} {a1 a2 : RL} {x1 x2 : Rat} {K : Nat} (d : Dat u w) (ha1 : RatV u a1 x1 K) (ha2 : RatV u a2 x2 K) (hK : K ≤ 100000000) : Calls Tryz.prog 201 #[IV a1 a2] w (Post u w fun v u' => v = .int .i64 (Nt.sgI x1 x2)) := by
 refine zzl (args := [.agg #[.bool a1.s, a1.m.v, a1.d.v, .bool a2.s, a2.m.v, a2.d.v]]) Tryz.func201 rfl Tryz.ntmps201 (rs := [.tmp 2]) Tryz.results201 (le_b rfl) (le_b rfl) d ?_
 refine sq9 (zzj 1 ⟨32, a1.cs ++ a2.cs⟩ (zza 2 (zI 0) (zzb (sq9 (zzh 6 (.v (.agg #[.bool a1.s, a1.m.v, a1.d.v, .bool a2.s, a2.m.v, a2.d.v])) ty32 zze (zzg 7 208 _ fun _ _ ae am => Post.mono (k_ends am (ha1.ext ae) (ha2.ext ae) xq) ?_))))))
 rintro _ u16 g17 ⟨ac, ad, rfl, al, ai⟩
 refine zza 5 (.v (.tuple #[ac.v, ad.v])) (zza 8 (.v (ac.v)) (zza 9 (.v (ad.v)) (zzj 3 ⟨26, zw3⟩ (zzj 4 ⟨26, zw3⟩ (zzi ⟨26, ac.cs⟩ ty26 ?_)))))
 refine zzi ⟨26, ad.cs⟩ ty26 ?_
 refine zzb (zzd (zzs (sq9 (zzh 11 (.v (ac.v)) ty26 zze (zzg 12 76 _ fun _ _ af aj => Post.mono (k_ratSign aj (al.ext af)) ?_)))))
 rintro _ u20 ak rfl
 refine zza 13 (zB (decide ((0 : Int) < (Nt.sgQ (Nt.lo x1 x2))))) (zza 10 (zB (decide ((0 : Int) < (Nt.sgQ (Nt.lo x1 x2))))) (zzb (zzt (b := decide ((0 : Int) < (Nt.sgQ (Nt.lo x1 x2)))) xj (fun aa => ?_) (fun aa => ?_))))
 ·have qhb23 := of_decide_eq_true aa
  refine sq9 (zza 2 (zI 1) (zzb (zzn (zyt (zzv (ret0 [.int .i64 1] ⟨zzp, trivial⟩ fun u24 e25 => ?_))))))
  show _ = _
  unfold Nt.sgI
  rw [Nt.sgQ_gt] at aa
  rw [if_pos (of_decide_eq_true aa)]
  rfl
 have qhb23 := of_decide_eq_false aa
 refine sq9 (zzh 15 (.v (ad.v)) ty26 zze (zzg 16 76 _ fun _ _ ag ah => Post.mono (k_ratSign ah (ai.ext (af.t (ak.t ag)))) ?_))
 rintro _ u27 g28 rfl
 refine zza 17 (zB (decide ((Nt.sgQ (Nt.hi x1 x2)) < 0))) (zza 14 (zB (decide ((Nt.sgQ (Nt.hi x1 x2)) < 0))) (zzb (zzt (b := decide ((Nt.sgQ (Nt.hi x1 x2)) < 0)) xj (fun ab => ?_) (fun ab => ?_))))
 ·have qhb30 := of_decide_eq_true ab
  refine sq9 (zza 2 (zI (-1)) (zzb (zzn (zyt (zzv (ret0 [.int .i64 (-1)] ⟨zzp, trivial⟩ fun u31 e32 => ?_))))))
  show _ = _
  unfold Nt.sgI
  rw [Nt.sgQ_gt] at aa
  rw [if_neg (of_decide_eq_false aa)]
  rw [Nt.sgQ_lt] at ab
  rw [if_pos (of_decide_eq_true ab)]
  rfl
 have qhb30 := of_decide_eq_false ab
 refine zzr (zzo ?_)
 refine sq9 (zza 2 (zI 0) (zzb (zzn (ret0 [.int .i64 0] ⟨zzp, trivial⟩ fun u33 e34 => ?_))))
 show _ = _
 unfold Nt.sgI
 rw [Nt.sgQ_gt] at aa
 rw [if_neg (of_decide_eq_false aa)]
 rw [Nt.sgQ_lt] at ab
 rw [if_neg (of_decide_eq_false ab)]
 rfl
theorem k_ivMid {u w : World} {a1 a2 : RL} {x1 x2 : Rat} {K : Nat} (d : Dat u w) (ha1 : RatV u a1 x1 K) (ha2 : RatV u a2 x2 K) (hK : K ≤ 50000000) : Calls Tryz.prog 204 #[IV a1 a2] w (Post u w fun v u' => ∃ p : RL, v = p.v ∧ RatN u' p ((x1 + x2) * (((1 : Int) : Rat) / ((2 : Int) : Rat))) (K + K + 1 + 2)) := by
 refine zzl (args := [.agg #[.bool a1.s, a1.m.v, a1.d.v, .bool a2.s, a2.m.v, a2.d.v]]) Tryz.func204 rfl Tryz.ntmps204 (rs := [.cell 2 26]) Tryz.results204 (le_b rfl) (le_b rfl) d ?_
 refine sq9 (zzj 1 ⟨32, a1.cs ++ a2.cs⟩ (zzj 2 ⟨26, zw3⟩ (zzb (sq9 (zza 3 (.adr 1 0) (zzh 4 (.v (a1.v)) ty26 zze (zza 5 (.adr 1 3) (zzh 6 (.v (a2.v)) ty26 zze (zzg 7 126 _ fun _ _ ac al => Post.mono (k_ratAdd al (ha1.ext ac) (ha2.ext ac) xq xq) ?_)))))))))
 rintro _ u14 g15 ⟨r12, rfl, aj⟩
 refine zzg 8 127 _ fun _ _ af ak => Post.mono (k_ratFrac ak (a := 1) (b := 2) xq xq xq xq) ?_
 rintro _ u20 ai ⟨r18, rfl, ag⟩
 refine zzg 9 123 _ fun _ _ ab ae => Post.mono (k_ratMul ae (aj.ext (af.t (ai.t ab))).raw (ag.ext ab).raw xq xq) ?_
 rintro _ u26 g27 ⟨aa, rfl, ad⟩
 refine zzi ⟨26, aa.cs⟩ ty26 ?_
 refine zzb (zzn (ret0 [aa.v] ⟨zzq ty26 zze, trivial⟩ fun u29 ah => ?_))
 exact ⟨aa, rfl, (ad.ext ah)⟩
theorem k_ivMul {u w : World} {a1 a2 : RL} {x1 x2 : Rat} {b1 b2 : RL} {y1 y2 : Rat} {K L : Nat} (d : Dat u w) (ha1 : RatV u a1 x1 K) (ha2 : RatV u a2 x2 K) (hb1 : RatV u b1 y1 L) (hb2 : RatV u b2 y2 L) (hK : K ≤ 100000000) (hL : L ≤ 100000000) : Calls Tryz.prog 133 #[IV a1 a2, IV b1 b2] w (Post u w fun v u' => ∃ p q : RL, v = IV p q ∧ RatN u' p (Nt.lo4 (x1 * y1) (x1 * y2) (x2 * y1) (x2 * y2)) (K + L) ∧ RatN u' q (Nt.hi4 (x1 * y1) (x1 * y2) (x2 * y1) (x2 * y2)) (K + L)) := by
 refine zzl (args := [.agg #[.bool a1.s, a1.m.v, a1.d.v, .bool a2.s, a2.m.v, a2.d.v], .agg #[.bool b1.s, b1.m.v, b1.d.v, .bool b2.s, b2.m.v, b2.d.v]]) Tryz.func133 rfl Tryz.ntmps133 (rs := [.cell 4 32]) Tryz.results133 (le_b rfl) (le_b rfl) d ?_
 refine sq9 (zzj 2 ⟨32, a1.cs ++ a2.cs⟩ (zzj 3 ⟨32, b1.cs ++ b2.cs⟩ (zzj 4 ⟨32, zw6⟩ (zzb (zzd (zzy [0, 1, 0, 4, 15, 0, 32, 0, 128, 511, 0, 1024, 0, 4096, 16383, 0, 32768, 0, 131072, 524287, 1048575, 2097151, 4194303] [(0, []), (1, []), (2, []), (3, []), (5, []), (6, []), (7, []), (8, []), (10, []), (11, []), (12, []), (13, []), (15, []), (16, []), (17, []), (18, []), (4, []), (9, []), (14, []), (19, []), (20, []), (21, []), (22, [])] xj xj (zza 5 (.adr 2 0) (zzh 6 (.v (a1.v)) ty26 zze (zza 7 (.adr 3 0) (zzh 8 (.v (b1.v)) ty26 zze (zza 10 (.adr 2 0) ?_)))))))))))
 refine zzh 11 (.v (a1.v)) ty26 zze (zza 12 (.adr 3 3) (zzh 13 (.v (b2.v)) ty26 zze (zza 15 (.adr 2 3) (zzh 16 (.v (a2.v)) ty26 zze (zza 17 (.adr 3 0) (zzh 18 (.v (b1.v)) ty26 zze (zza 20 (.adr 2 3) (zzh 21 (.v (a2.v)) ty26 zze (zza 22 (.adr 3 3) (zzh 23 (.v (b2.v)) ty26 zze (zzg 9 123 _ fun _ _ aa aC => Post.mono (k_ratMul aC (ha1.ext aa) (hb1.ext aa) xq xq) ?_)))))))))))
 rintro _ u14 ad ⟨al, rfl, az⟩
 refine zzg 14 123 _ fun _ _ ab aB => Post.mono (k_ratMul aB (ha1.ext (aa.t (ad.t ab))) (hb2.ext (aa.t (ad.t ab))) xq xq) ?_
 rintro _ u20 ah ⟨ao, rfl, aw⟩
 refine zzg 19 123 _ fun _ _ ac av => Post.mono (k_ratMul av (ha2.ext (aa.t (ad.t (ab.t (ah.t ac))))) (hb1.ext (aa.t (ad.t (ab.t (ah.t ac))))) xq xq) ?_
 rintro _ u26 ai ⟨am, rfl, aq⟩
 refine zzg 24 123 _ fun _ _ ae ay => Post.mono (k_ratMul ay (ha2.ext (aa.t (ad.t (ab.t (ah.t (ac.t (ai.t ae))))))) (hb2.ext (aa.t (ad.t (ab.t (ah.t (ac.t (ai.t ae))))))) xq xq) ?_
 rintro _ u32 ak ⟨an, rfl, aA⟩
 refine zza 25 (.v (.agg #[.bool al.s, al.m.v, al.d.v, .bool ao.s, ao.m.v, ao.d.v, .bool am.s, am.m.v, am.d.v, .bool an.s, an.m.v, an.d.v])) (zzg 26 200 _ fun _ _ aj au => Post.mono (k_around au (az.ext (ab.t (ah.t (ac.t (ai.t (ae.t (ak.t aj))))))) (aw.ext (ac.t (ai.t (ae.t (ak.t aj))))) (aq.ext (ae.t (ak.t aj))) (aA.ext aj) xq) ?_)
 rintro _ u40 g41 ⟨ag, af, rfl, ax, ar⟩
 refine zzi ⟨32, ag.cs ++ af.cs⟩ ty32 ?_
 refine zzb (zzn (ret0 [.agg #[.bool ag.s, ag.m.v, ag.d.v, .bool af.s, af.m.v, af.d.v]] ⟨zzq ty32 zze, trivial⟩ fun u43 ap => ?_))
 refine ⟨ag, af, rfl, RatN.more (K := (K + L)) ?_ xq, RatN.more (K := (K + L)) ?_ xq⟩
 ·exact (ax.ext ap)
 exact (ar.ext ap)
theorem k_ratDiv1 {u w : World} {r1 r2 : RL} {x y : Rat} {K L : Nat} (d : Dat u w) (hr1 : RatV u r1 x K) (hr2 : RatV u r2 y L) (hy : y ≠ 0) (hK : K ≤ 200000000) (hL : L ≤ 200000000) : Calls Tryz.prog 202 #[r1.v, r2.v] w (Post u w fun v u' => ∃ r : RL, v = .tuple #[r.v, .int .i64 0] ∧ RatN u' r (x / y) (K + L)) :=
 Post.mono (k_ratDiv d hr1 hr2 hK hL) fun v u' _ h => h.elim (fun h => absurd h.2 hy) (fun h => h.2)
theorem sgI_ne {a b : Rat} (h : (Nt.sgI a b == 0) = false) : a ≠ 0 ∧ b ≠ 0 := by
 unfold Nt.sgI Nt.lo Nt.hi at h
 grind
def IDivR (x1 x2 y1 y2 : Rat) (K : Nat) (v : Value) (u : World) : Prop := (Nt.sgI y1 y2 = 0 ∧ v = .tuple #[.agg #[.bool false, .slice none 0 0, .slice none 0 0, .bool false, .slice none 0 0, .slice none 0 0], .int .i64 3]) ∨ (Nt.sgI y1 y2 ≠ 0 ∧ ∃ p q : RL, v = .tuple #[IV p q, .int .i64 0] ∧ RatN u p (Nt.lo4 (x1 / y1) (x1 / y2) (x2 / y1) (x2 / y2)) K ∧ RatN u q (Nt.hi4 (x1 / y1) (x1 / y2) (x2 / y1) (x2 / y2)) K)
set_option maxHeartbeats 2000000 in
theorem k_ivDiv {u w : World} {a1 a2 : RL} {x1 x2 : Rat} {b1 b2 : RL} {y1 y2 : Rat} {K L : Nat} (d : Dat u w) (ha1 : RatV u a1 x1 K) (ha2 : RatV u a2 x2 K) (hb1 : RatV u b1 y1 L) (hb2 : RatV u b2 y2 L) (hK : K ≤ 100000000) (hL : L ≤ 100000000) : Calls Tryz.prog 136 #[IV a1 a2, IV b1 b2] w (Post u w fun v u' => IDivR x1 x2 y1 y2 (K + L) v u') := by
 refine zzl (args := [.agg #[.bool a1.s, a1.m.v, a1.d.v, .bool a2.s, a2.m.v, a2.d.v], .agg #[.bool b1.s, b1.m.v, b1.d.v, .bool b2.s, b2.m.v, b2.d.v]]) Tryz.func136 rfl Tryz.ntmps136 (rs := [.cell 4 32, .tmp 5]) Tryz.results136 (le_b rfl) (le_b rfl) d ?_
 refine sq9 (zzj 2 ⟨32, a1.cs ++ a2.cs⟩ (zzj 3 ⟨32, b1.cs ++ b2.cs⟩ (zzj 4 ⟨32, zw6⟩ (zza 5 (zI 0) (zzb (zzd (sq9 (zzh 11 (.v (.agg #[.bool b1.s, b1.m.v, b1.d.v, .bool b2.s, b2.m.v, b2.d.v])) ty32 zze (zzg 12 201 _ fun _ _ ae aG => Post.mono (k_ivSign aG (hb1.ext ae) (hb2.ext ae) xq) ?_)))))))))
 rintro _ u12 ag rfl
 refine zza 13 (zB ((Nt.sgI y1 y2) == 0)) (zzb (zzt (b := (Nt.sgI y1 y2) == 0) xj (fun ab => ?_) (fun ab => ?_)))
 ·refine sq9 (zza 14 (.v (.agg #[.bool false, .slice none 0 0, .slice none 0 0, .bool false, .slice none 0 0, .slice none 0 0])) (zzi ⟨32, zw6⟩ ty32 ?_))
  refine zza 5 (zI 3) (zzb (zzn (zzv (ret0 [.agg #[.bool false, .slice none 0 0, .slice none 0 0, .bool false, .slice none 0 0, .slice none 0 0], .int .i64 3] ⟨zzq ty32 zze, zzp, trivial⟩ fun u16 e17 => ?_))))
  exact .inl ⟨by simpa using ab, rfl⟩
 refine zzr (zzo ?_)
 refine sq9 (zzj 6 ⟨180, [.bool false, .slice none 0 0, .slice none 0 0, .bool false, .slice none 0 0, .slice none 0 0, .bool false, .slice none 0 0, .slice none 0 0, .bool false, .slice none 0 0, .slice none 0 0]⟩ (zzb (zzd (sq9 (zza 15 (.adr 2 0) (zzh 16 (.v (a1.v)) ty26 zze (zza 17 (.adr 2 3) (zzh 18 (.v (a2.v)) ty26 zze (zza 19 (.v (.agg #[.bool a1.s, a1.m.v, a1.d.v, .bool a2.s, a2.m.v, a2.d.v])) (zza 20 (zI 0) (zzb ?_)))))))))))
 refine zzs (sw_rounds 2 ?_)
 refine sq9 (zza 21 (zB true) (zzb (zzd (zyq xj (zzr (zzo ?_))))))
 refine zzd (zzs (sq9 (zza 22 (zI 0) (zza 23 (.v (a1.v)) (zzj 8 ⟨26, zw3⟩ (zza 7 (zI 0) (zzi ⟨26, a1.cs⟩ ty26 ?_)))))))
 refine zzb (sq9 (zza 24 (.adr 3 0) (zzh 25 (.v (b1.v)) ty26 zze (zza 26 (.adr 3 3) (zzh 27 (.v (b2.v)) ty26 zze (zza 28 (.v (.agg #[.bool b1.s, b1.m.v, b1.d.v, .bool b2.s, b2.m.v, b2.d.v])) (zza 29 (zI 0) (zzb (zzs (sw_rounds 2 ?_))))))))))
 refine sq9 (zza 30 (zB true) (zzb (zzd (zyq xj (zzr (zzo ?_))))))
 refine zzd (zzs (sq9 (zza 31 (zI 0) (zza 32 (.v (b1.v)) (zzj 10 ⟨26, zw3⟩ (zza 9 (zI 0) (zzi ⟨26, b1.cs⟩ ty26 ?_)))))))
 refine zzc 48 [(3, .adr 3 0), (4, .adr 4 0), (6, .adr 6 0), (7, zI 0), (8, .adr 8 0), (9, zI 0), (10, .adr 10 0), (19, .v (.agg #[.bool a1.s, a1.m.v, a1.d.v, .bool a2.s, a2.m.v, a2.d.v])), (20, zI 0), (28, .v (.agg #[.bool b1.s, b1.m.v, b1.d.v, .bool b2.s, b2.m.v, b2.d.v])), (29, zI 0)] [(3, ⟨32, b1.cs ++ b2.cs⟩), (4, ⟨32, zw6⟩), (6, ⟨180, [.bool false, .slice none 0 0, .slice none 0 0, .bool false, .slice none 0 0, .slice none 0 0, .bool false, .slice none 0 0, .slice none 0 0, .bool false, .slice none 0 0, .slice none 0 0]⟩), (8, ⟨26, a1.cs⟩), (10, ⟨26, b1.cs⟩)] (zzf (zza 34 (zI 0) (zza 35 (zI 0) (zza 36 (zI 0) (zza 37 (zI 0) (zzh 38 (.v (a1.v)) ty26 zze (zzh 39 (.v (b1.v)) ty26 zze (zzg 40 202 _ fun _ _ ah aD => Post.mono (k_ratDiv1 aD (ha1.ext (ae.t (ag.t ah))) (hb1.ext (ae.t (ag.t ah))) (sgI_ne ab).1 xq xq) ?_))))))))
 rintro _ u21 aj ⟨aa, rfl, az⟩
 refine zza 33 (.v (.tuple #[aa.v, .int .i64 0])) (zza 41 (.v (aa.v)) (zza 42 (zI 0) (zza 43 (.adr 6 0) (zzi ⟨180, aa.cs ++ [.bool false, .slice none 0 0, .slice none 0 0, .bool false, .slice none 0 0, .slice none 0 0, .bool false, .slice none 0 0, .slice none 0 0]⟩ ty26 ?_))))
 refine zzw ?_
 refine zzo (zzf (zza 44 (zI 1) (zza 29 (zI 1) (zzw ?_))))
 refine rn_next ?_
 refine sw_weak (T := St.of 48 [(3, .adr 3 0), (4, .adr 4 0), (6, .adr 6 0), (7, zI 0), (8, .adr 8 0), (19, .v (.agg #[.bool a1.s, a1.m.v, a1.d.v, .bool a2.s, a2.m.v, a2.d.v])), (20, zI 0), (28, .v (.agg #[.bool b1.s, b1.m.v, b1.d.v, .bool b2.s, b2.m.v, b2.d.v])), (29, zI 1)] [(3, ⟨32, b1.cs ++ b2.cs⟩), (4, ⟨32, zw6⟩), (6, ⟨180, aa.cs ++ [.bool false, .slice none 0 0, .slice none 0 0, .bool false, .slice none 0 0, .slice none 0 0, .bool false, .slice none 0 0, .slice none 0 0]⟩), (8, ⟨26, a1.cs⟩)]) yz ?_
 refine sq9 (zza 30 (zB true) (zzb (zzd (zyq xj (zzr (zzo ?_))))))
 refine zzd (zzs (sq9 (zza 31 (zI 1) (zza 32 (.v (b2.v)) (zzj 10 ⟨26, zw3⟩ (zza 9 (zI 1) (zzi ⟨26, b2.cs⟩ ty26 ?_)))))))
 refine zzb (zzf (zza 34 (zI 0) (zza 35 (zI 0) (zza 36 (zI 1) (zza 37 (zI 1) (zzh 38 (.v (a1.v)) ty26 zze (zzh 39 (.v (b2.v)) ty26 zze (zzg 40 202 _ fun _ _ ai ax => Post.mono (k_ratDiv1 ax (ha1.ext (ae.t (ag.t (ah.t (aj.t ai))))) (hb2.ext (ae.t (ag.t (ah.t (aj.t ai))))) (sgI_ne ab).2 xq xq) ?_))))))))
 rintro _ u27 al ⟨ac, rfl, aw⟩
 refine zza 33 (.v (.tuple #[ac.v, .int .i64 0])) (zza 41 (.v (ac.v)) (zza 42 (zI 0) (zza 43 (.adr 6 3) (zzi ⟨180, aa.cs ++ ac.cs ++ zw6⟩ ty26 ?_))))
 refine zzw ?_
 refine zzo (zzf (zza 44 (zI 2) (zza 29 (zI 2) (zzw ?_))))
 refine rn_next ?_
 refine sw_weak (T := St.of 48 [(3, .adr 3 0), (4, .adr 4 0), (6, .adr 6 0), (7, zI 0), (8, .adr 8 0), (19, .v (.agg #[.bool a1.s, a1.m.v, a1.d.v, .bool a2.s, a2.m.v, a2.d.v])), (20, zI 0), (28, .v (.agg #[.bool b1.s, b1.m.v, b1.d.v, .bool b2.s, b2.m.v, b2.d.v])), (29, zI 2)] [(3, ⟨32, b1.cs ++ b2.cs⟩), (4, ⟨32, zw6⟩), (6, ⟨180, aa.cs ++ ac.cs ++ zw6⟩), (8, ⟨26, a1.cs⟩)]) yz ?_
 refine sq9 (zza 30 (zB false) (zzb (zzd (zyr xj (zyb (zzo (zzf (zza 45 (zI 1) (zza 20 (zI 1) (zzw ?_))))))))))
 refine rn_next ?_
 refine sw_weak (T := St.of 48 [(3, .adr 3 0), (4, .adr 4 0), (6, .adr 6 0), (19, .v (.agg #[.bool a1.s, a1.m.v, a1.d.v, .bool a2.s, a2.m.v, a2.d.v])), (20, zI 1)] [(3, ⟨32, b1.cs ++ b2.cs⟩), (4, ⟨32, zw6⟩), (6, ⟨180, aa.cs ++ ac.cs ++ zw6⟩)]) yz ?_
 refine sq9 (zza 21 (zB true) (zzb (zzd (zyq xj (zzr (zzo ?_))))))
 refine zzd (zzs (sq9 (zza 22 (zI 1) (zza 23 (.v (a2.v)) (zzj 8 ⟨26, zw3⟩ (zza 7 (zI 1) (zzi ⟨26, a2.cs⟩ ty26 ?_)))))))
 refine zzb (sq9 (zza 24 (.adr 3 0) (zzh 25 (.v (b1.v)) ty26 zze (zza 26 (.adr 3 3) (zzh 27 (.v (b2.v)) ty26 zze (zza 28 (.v (.agg #[.bool b1.s, b1.m.v, b1.d.v, .bool b2.s, b2.m.v, b2.d.v])) (zza 29 (zI 0) (zzb (zzs (sw_rounds 2 ?_))))))))))
 refine sq9 (zza 30 (zB true) (zzb (zzd (zyq xj (zzr (zzo ?_))))))
 refine zzd (zzs (sq9 (zza 31 (zI 0) (zza 32 (.v (b1.v)) (zzj 10 ⟨26, zw3⟩ (zza 9 (zI 0) (zzi ⟨26, b1.cs⟩ ty26 ?_)))))))
 refine zzb (zzf (zza 34 (zI 1) (zza 35 (zI 2) (zza 36 (zI 0) (zza 37 (zI 2) (zzh 38 (.v (a2.v)) ty26 zze (zzh 39 (.v (b1.v)) ty26 zze (zzg 40 202 _ fun _ _ ak aA => Post.mono (k_ratDiv1 aA (ha2.ext (ae.t (ag.t (ah.t (aj.t (ai.t (al.t ak))))))) (hb1.ext (ae.t (ag.t (ah.t (aj.t (ai.t (al.t ak))))))) (sgI_ne ab).1 xq xq) ?_))))))))
 rintro _ u33 aq ⟨ad, rfl, av⟩
 refine zza 33 (.v (.tuple #[ad.v, .int .i64 0])) (zza 41 (.v (ad.v)) (zza 42 (zI 0) (zza 43 (.adr 6 6) (zzi ⟨180, aa.cs ++ ac.cs ++ ad.cs ++ zw3⟩ ty26 ?_))))
 refine zzw ?_
 refine zzo (zzf (zza 44 (zI 1) (zza 29 (zI 1) (zzw ?_))))
 refine rn_next ?_
 refine sw_weak (T := St.of 48 [(3, .adr 3 0), (4, .adr 4 0), (6, .adr 6 0), (7, zI 1), (8, .adr 8 0), (19, .v (.agg #[.bool a1.s, a1.m.v, a1.d.v, .bool a2.s, a2.m.v, a2.d.v])), (20, zI 1), (28, .v (.agg #[.bool b1.s, b1.m.v, b1.d.v, .bool b2.s, b2.m.v, b2.d.v])), (29, zI 1)] [(3, ⟨32, b1.cs ++ b2.cs⟩), (4, ⟨32, zw6⟩), (6, ⟨180, aa.cs ++ ac.cs ++ ad.cs ++ zw3⟩), (8, ⟨26, a2.cs⟩)]) yz ?_
 refine sq9 (zza 30 (zB true) (zzb (zzd (zyq xj (zzr (zzo ?_))))))
 refine zzd (zzs (sq9 (zza 31 (zI 1) (zza 32 (.v (b2.v)) (zzj 10 ⟨26, zw3⟩ (zza 9 (zI 1) (zzi ⟨26, b2.cs⟩ ty26 ?_)))))))
 refine zzc 48 [(3, .adr 3 0), (4, .adr 4 0), (6, .adr 6 0), (7, zI 1), (8, .adr 8 0), (9, zI 1), (10, .adr 10 0), (19, .v (.agg #[.bool a1.s, a1.m.v, a1.d.v, .bool a2.s, a2.m.v, a2.d.v])), (20, zI 1), (28, .v (.agg #[.bool b1.s, b1.m.v, b1.d.v, .bool b2.s, b2.m.v, b2.d.v])), (29, zI 1)] [(3, ⟨32, b1.cs ++ b2.cs⟩), (4, ⟨32, zw6⟩), (6, ⟨180, aa.cs ++ ac.cs ++ ad.cs ++ zw3⟩), (8, ⟨26, a2.cs⟩), (10, ⟨26, b2.cs⟩)] (zzf (zza 34 (zI 1) (zza 35 (zI 2) (zza 36 (zI 1) (zza 37 (zI 3) (zzh 38 (.v (a2.v)) ty26 zze (zzh 39 (.v (b2.v)) ty26 zze (zzg 40 202 _ fun _ _ am aB => Post.mono (k_ratDiv1 aB (ha2.ext (ae.t (ag.t (ah.t (aj.t (ai.t (al.t (ak.t (aq.t am))))))))) (hb2.ext (ae.t (ag.t (ah.t (aj.t (ai.t (al.t (ak.t (aq.t am))))))))) (sgI_ne ab).2 xq xq) ?_))))))))
 rintro _ u39 ar ⟨af, rfl, aC⟩
 refine zza 33 (.v (.tuple #[af.v, .int .i64 0])) (zza 41 (.v (af.v)) (zza 42 (zI 0) (zza 43 (.adr 6 9) (zzi ⟨180, aa.cs ++ ac.cs ++ ad.cs ++ af.cs⟩ ty26 ?_))))
 refine zzw ?_
 refine zzo (zzf (zza 44 (zI 2) (zza 29 (zI 2) (zzw ?_))))
 refine rn_next ?_
 refine sw_weak (T := St.of 48 [(3, .adr 3 0), (4, .adr 4 0), (6, .adr 6 0), (7, zI 1), (8, .adr 8 0), (19, .v (.agg #[.bool a1.s, a1.m.v, a1.d.v, .bool a2.s, a2.m.v, a2.d.v])), (20, zI 1), (28, .v (.agg #[.bool b1.s, b1.m.v, b1.d.v, .bool b2.s, b2.m.v, b2.d.v])), (29, zI 2)] [(3, ⟨32, b1.cs ++ b2.cs⟩), (4, ⟨32, zw6⟩), (6, ⟨180, aa.cs ++ ac.cs ++ ad.cs ++ af.cs⟩), (8, ⟨26, a2.cs⟩)]) yz ?_
 refine sq9 (zza 30 (zB false) (zzb (zzd (zyr xj (zyb (zzo (zzf (zza 45 (zI 2) (zza 20 (zI 2) (zzw ?_))))))))))
 refine rn_next ?_
 refine sw_weak (T := St.of 48 [(3, .adr 3 0), (4, .adr 4 0), (6, .adr 6 0), (19, .v (.agg #[.bool a1.s, a1.m.v, a1.d.v, .bool a2.s, a2.m.v, a2.d.v])), (20, zI 2)] [(3, ⟨32, b1.cs ++ b2.cs⟩), (4, ⟨32, zw6⟩), (6, ⟨180, aa.cs ++ ac.cs ++ ad.cs ++ af.cs⟩)]) yz ?_
 refine sq9 (zza 21 (zB false) (zzb (zzd (zyr xj (zyb (zzo (sq9 (zzh 46 (.v (.agg #[.bool aa.s, aa.m.v, aa.d.v, .bool ac.s, ac.m.v, ac.d.v, .bool ad.s, ad.m.v, ad.d.v, .bool af.s, af.m.v, af.d.v])) ty180 zze (zzg 47 200 _ fun _ _ ap aF => Post.mono (k_around aF (az.ext (ai.t (al.t (ak.t (aq.t (am.t (ar.t ap))))))) (aw.ext (ak.t (aq.t (am.t (ar.t ap))))) (av.ext (am.t (ar.t ap))) (aC.ext ap) xq) ?_)))))))))
 rintro _ u47 g48 ⟨an, ao, rfl, ay, aE⟩
 refine zzi ⟨32, an.cs ++ ao.cs⟩ ty32 ?_
 refine zza 5 (zI 0) (zzb (zzn (ret0 [.agg #[.bool an.s, an.m.v, an.d.v, .bool ao.s, ao.m.v, ao.d.v], .int .i64 0] ⟨zzq ty32 zze, zzp, trivial⟩ fun u50 au => ?_)))
 exact .inr ⟨by simpa using ab, an, ao, rfl, (ay.ext au), (aE.ext au)⟩
theorem k_r4Trim {u w : World} {a1 a2 : RL} {x1 x2 : Rat} {K : Nat} (d : Dat u w) (ha1 : RatV u a1 x1 K) (ha2 : RatV u a2 x2 K) (hK : K ≤ 100000000) : Calls Tryz.prog 95 #[IV a1 a2] w (Post u w fun v u' => ∃ p q : RL, v = IV p q ∧ RatN u' p (Nt.lo x1 x2) K ∧ RatN u' q (Nt.hi x1 x2) K) := by
 refine zzl (args := [.agg #[.bool a1.s, a1.m.v, a1.d.v, .bool a2.s, a2.m.v, a2.d.v]]) Tryz.func95 rfl Tryz.ntmps95 (rs := [.cell 2 32]) Tryz.results95 (le_b rfl) (le_b rfl) d ?_
 refine sq9 (zzj 1 ⟨32, a1.cs ++ a2.cs⟩ (zzj 2 ⟨32, zw6⟩ (zzb (zzd (zzy [0, 1, 0, 4, 15, 0, 32, 0, 128, 511, 1023, 2047] [(0, []), (1, []), (2, []), (3, []), (5, []), (6, []), (7, []), (8, []), (4, []), (9, []), (10, []), (11, [])] xj xj (zza 3 (.adr 1 0) (zzh 4 (.v (a1.v)) ty26 zze (zza 5 (.adr 1 3) (zzh 6 (.v (a2.v)) ty26 zze (zza 8 (.adr 1 0) (zzh 9 (.v (a1.v)) ty26 zze ?_)))))))))))
 refine zza 10 (.adr 1 3) (zzh 11 (.v (a2.v)) ty26 zze (zzg 7 134 _ fun _ _ ac ak => Post.mono (k_rqMin ak (ha1.ext ac) (ha2.ext ac) xq xq) ?_))
 rintro _ u14 ae ⟨aa, rfl, ai⟩
 refine zzg 12 135 _ fun _ _ ad ah => Post.mono (k_rqMax ah (ha1.ext (ac.t (ae.t ad))) (ha2.ext (ac.t (ae.t ad))) xq xq) ?_
 rintro _ u20 aj ⟨ab, rfl, ag⟩
 refine zza 13 (.v (.agg #[.bool aa.s, aa.m.v, aa.d.v, .bool ab.s, ab.m.v, ab.d.v])) (zzi ⟨32, aa.cs ++ ab.cs⟩ ty32 ?_)
 refine zzb (zzn (ret0 [.agg #[.bool aa.s, aa.m.v, aa.d.v, .bool ab.s, ab.m.v, ab.d.v]] ⟨zzq ty32 zze, trivial⟩ fun u23 af => ?_))
 refine ⟨aa, ab, rfl, RatN.more (K := (max K K)) ?_ xq, RatN.more (K := (max K K)) ?_ xq⟩
 ·exact (ai.ext (ad.t (aj.t af)))
 exact (ag.ext af)
theorem k_r4Make {u w : World} {a : RL} {x : Rat} {b : RL} {y : Rat} {K : Nat} (d : Dat u w) (ha : RatV u a x K) (hb : RatV u b y K) (hK : K ≤ 100000000) : Calls Tryz.prog 38 #[a.v, b.v] w (Post u w fun v u' => ∃ p q : RL, v = IV p q ∧ RatN u' p (Nt.lo x y) K ∧ RatN u' q (Nt.hi x y) K) := by
 refine zzl (args := [a.v, b.v]) Tryz.func38 rfl Tryz.ntmps38 (rs := [.cell 4 32]) Tryz.results38 (le_b rfl) (le_b rfl) d ?_
 refine sq9 (zzj 2 ⟨26, a.cs⟩ (zzj 3 ⟨26, b.cs⟩ (zzj 4 ⟨32, zw6⟩ (zzb (sq9 (zzh 5 (.v (a.v)) ty26 zze (zzh 6 (.v (b.v)) ty26 zze (zza 7 (.v (.agg #[.bool a.s, a.m.v, a.d.v, .bool b.s, b.m.v, b.d.v])) (zzg 8 95 _ fun _ _ ac ag => Post.mono (k_r4Trim ag (ha.ext ac) (hb.ext ac) xq) ?_)))))))))
 rintro _ u16 g17 ⟨aa, ab, rfl, ae, af⟩
 refine zzi ⟨32, aa.cs ++ ab.cs⟩ ty32 ?_
 refine zzb (zzn (ret0 [.agg #[.bool aa.s, aa.m.v, aa.d.v, .bool ab.s, ab.m.v, ab.d.v]] ⟨zzq ty32 zze, trivial⟩ fun u19 ad => ?_))
 refine ⟨aa, ab, rfl, RatN.more (K := K) ?_ xq, RatN.more (K := K) ?_ xq⟩
 ·exact (ae.ext ad)
 exact (af.ext ad)
theorem k_r4Contains {u w : World} {a1 a2 : RL} {x1 x2 : Rat} {b : RL} {y : Rat} {K L : Nat} (d : Dat u w) (ha1 : RatV u a1 x1 K) (ha2 : RatV u a2 x2 K) (hb : RatV u b y L) (hK : K ≤ 100000000) (hL : L ≤ 100000000) : Calls Tryz.prog 41 #[IV a1 a2, b.v] w (Post u w fun v u' => v = .bool (Nt.inI x1 x2 y)) := by
 refine zzl (args := [.agg #[.bool a1.s, a1.m.v, a1.d.v, .bool a2.s, a2.m.v, a2.d.v], b.v]) Tryz.func41 rfl Tryz.ntmps41 (rs := [.tmp 4]) Tryz.results41 (le_b rfl) (le_b rfl) d ?_
 refine sq9 (zzj 2 ⟨32, a1.cs ++ a2.cs⟩ (zzj 3 ⟨26, b.cs⟩ (zza 4 (zB false) (zzb (sq9 (zzh 5 (.v (.agg #[.bool a1.s, a1.m.v, a1.d.v, .bool a2.s, a2.m.v, a2.d.v])) ty32 zze (zzg 6 95 _ fun _ _ aa al => Post.mono (k_r4Trim al (ha1.ext aa) (ha2.ext aa) xq) ?_)))))))
 rintro _ u16 af ⟨ad, ae, rfl, ak, ai⟩
 refine zzi ⟨32, ad.cs ++ ae.cs⟩ ty32 ?_
 refine zzb (sq9 (zzh 7 (.v (b.v)) ty26 zze (zza 8 (.adr 2 0) (zzh 9 (.v (ad.v)) ty26 zze (zzg 10 110 _ fun _ _ ab aj => Post.mono (k_rqLess aj (hb.ext (aa.t (af.t ab))) (ak.ext ab).raw xq xq) ?_)))))
 rintro _ u20 ag rfl
 refine zza 11 (zB (!(decide (y < (Nt.lo x1 x2))))) ?_
 rcases Bool.eq_false_or_eq_true (!(decide (y < (Nt.lo x1 x2)))) with hs23 | hs23
 ·refine zyp 12 (x := zB (!(decide (y < (Nt.lo x1 x2))))) (zB true) (by rw [hs23]) (zza 13 (.adr 2 3) ?_ (hw := w1 5 true 12))
  refine zzh 14 (.v (ae.v)) ty26 zze ?_ (hw := w1 5 true 12)
  refine zzh 15 (.v (b.v)) ty26 zze ?_ (hw := w1 5 true 12)
  refine zzg 16 110 _ (fun _ _ ac ah => Post.mono (k_rqLess ah (ai.ext (ab.t (ag.t ac))).raw (hb.ext (aa.t (af.t (ab.t (ag.t ac))))) xq xq) ?_) (hw := w1 5 true 12)
  rintro _ u25 g26 rfl
  refine zza 17 (zB (!(decide ((Nt.hi x1 x2) < y)))) ?_ (hw := w1 5 true 12)
  refine zza 18 (zB (!(decide ((Nt.hi x1 x2) < y)))) (zza 4 (zB (!(decide ((Nt.hi x1 x2) < y)))) (zzb (zzn (ret0 [.bool (!(decide ((Nt.hi x1 x2) < y)))] ⟨zzp, trivial⟩ fun u28 e29 => ?_))))
  show _ = _
  rw [Nt.inI_less, hs23]
  rfl
 refine zyp 12 (x := zB (!(decide (y < (Nt.lo x1 x2))))) (zB false) (by rw [hs23]) (zzm 13 (uw 5 true false 12) (zzm 14 (uw 5 true false 12) (zzm 15 (uw 5 true false 12) (zzm 16 (uw 5 true false 12) (zzm 17 (uw 5 true false 12) (zza 18 (zB false) (zza 4 (zB false) (zzb (zzn (ret0 [.bool false] ⟨zzp, trivial⟩ fun u30 e31 => ?_))))))))))
 show _ = _
 rw [Nt.inI_less, hs23]
 rfl
theorem k_mode {u w : World} {r : Int} (d : Dat u w) (h1 : 1 ≤ r) (h2 : r ≤ 3) : Calls Tryz.prog 238 #[.int .i64 r] w (Post u w fun v _ => v = .bool true) := by
 refine zzl (args := [.int .i64 r]) Tryz.func238 rfl Tryz.ntmps238 (rs := [.tmp 2]) Tryz.results238 (le_b rfl) (le_b rfl) d ?_
 refine sq9 (zza 2 (zB false) (zzb (sq9 (zza 3 (zI r) (zza 4 (zB (decide ((1 : Int) ≤ r))) (zqB 5 (show (decide ((1 : Int) ≤ r)) = true from decide_eq_true xq) (zza 6 (zI r) ?_ (hw := w1 2 true 5))))))))
 refine zza 7 (zB (decide (r ≤ 3))) ?_ (hw := w1 2 true 5)
 refine zza 8 (zB (decide (r ≤ 3))) (zza 2 (zB (decide (r ≤ 3))) (zzb (zzn (ret0 [.bool (decide (r ≤ 3))] ⟨zzp, trivial⟩ fun u12 e13 => ?_))))
 show Value.bool _ = Value.bool _
 rw [show (decide (r ≤ 3)) = true from decide_eq_true xq]
theorem k_fxValid {u w : World} {W : WL} (d : Dat u w) (hW : WdOK W) : Calls Tryz.prog 244 #[W.v] w (Post u w fun v _ => v = .bool true) := by
 obtain ⟨hw1, hw2, hw3, hw4, hw5, hw6, hw7, hw8⟩ := id hW
 refine zzl (args := [.agg #[.int .i64 W.b, .int .i64 W.f, .int .i64 W.r, .int .i64 W.o]]) Tryz.func244 rfl Tryz.ntmps244 (rs := [.tmp 2]) Tryz.results244 (le_b rfl) (le_b rfl) d ?_
 refine sq9 (zzj 1 ⟨183, W.cs⟩ (zza 2 (zB false) (zzb (zzd (sq9 (zza 3 (.adr 1 0) (zzh 4 (zI W.b) ty3 zzk (zza 5 (zB (decide (W.b < 4))) (zqB 6 (show (decide (W.b < 4)) = false from decide_eq_false xq) (zza 7 (.adr 1 0) ?_ (hw := w1 3 false 6)))))))))))
 refine zzh 8 (zI W.b) ty3 zzk ?_ (hw := w1 3 false 6)
 refine zza 9 (zB (decide ((24 : Int) < W.b))) ?_ (hw := w1 3 false 6)
 refine zza 10 (zB (decide ((24 : Int) < W.b))) (zqB 11 (show (decide ((24 : Int) < W.b)) = false from decide_eq_false xq) (zza 12 (.adr 1 1) ?_ (hw := w1 8 false 11)))
 refine zzh 13 (zI W.f) ty3 zzk ?_ (hw := w1 8 false 11)
 refine zza 14 (zB (decide (W.f < 0))) ?_ (hw := w1 8 false 11)
 refine zza 15 (zB (decide (W.f < 0))) (zqB 16 (show (decide (W.f < 0)) = false from decide_eq_false xq) (zza 17 (.adr 1 1) ?_ (hw := w1 13 false 16)))
 refine zzh 18 (zI W.f) ty3 zzk ?_ (hw := w1 13 false 16)
 refine zza 19 (.adr 1 0) ?_ (hw := w1 13 false 16)
 refine zzh 20 (zI W.b) ty3 zzk ?_ (hw := w1 13 false 16)
 refine zza 21 (zB (decide (W.b ≤ W.f))) ?_ (hw := w1 13 false 16)
 refine zza 22 (zB (decide (W.b ≤ W.f))) (zzb (zzt (b := decide (W.b ≤ W.f)) xj (fun hb => ?_) (fun hb => ?_)))
 ·exact absurd hb (by rw [show (decide (W.b ≤ W.f)) = false from decide_eq_false xq]; decide)
 clear hb
 refine zzr (zzo ?_)
 refine sq9 (zza 23 (.adr 1 2) (zzh 24 (zI W.r) ty3 zzk (zzg 25 238 _ fun _ _ _ aa => Post.mono (k_mode (r := W.r) aa xq xq) ?_)))
 rintro _ u15 g16 rfl
 refine zza 26 (zB true) (zza 27 (.adr 1 3) ?_ (hw := w1 3 true 26))
 refine zzh 28 (zI W.o) ty3 zzk ?_ (hw := w1 3 true 26)
 refine zza 29 (zB (W.o == 1)) ?_ (hw := w1 3 true 26)
 rcases Bool.eq_false_or_eq_true (W.o == 1) with hs18 | hs18
 ·refine zyp 30 (x := zB (W.o == 1)) (zB true) (by rw [hs18]) ?_ (hw := w1 3 true 26)
  refine zzm 31 (uw 7 false true 30) (zzm 32 (uw 7 false true 30) (zzm 33 (uw 7 false true 30) (zza 34 (zB true) ?_ (hw := w1 3 true 26))))
  refine zza 35 (zB true) (zza 2 (zB true) (zzc 36 [(2, zB true)] [] (zzn (ret0 [.bool true] ⟨zzp, trivial⟩ fun u19 e20 => ?_))))
  rfl
 refine zyp 30 (x := zB (W.o == 1)) (zB false) (by rw [hs18]) ?_ (hw := w1 3 true 26)
 refine zza 31 (.adr 1 3) ?_ (hw := w1 7 false 30)
 refine zzh 32 (zI W.o) ty3 zzk ?_ (hw := w1 7 false 30)
 refine zza 33 (zB (W.o == 2)) ?_ (hw := w1 7 false 30)
 refine zza 34 (zB (W.o == 2)) ?_ (hw := w1 3 true 26)
 refine zza 35 (zB (W.o == 2)) (zza 2 (zB (W.o == 2)) (zzc 36 [(2, zB (W.o == 2))] [] (zzn (ret0 [.bool (W.o == 2)] ⟨zzp, trivial⟩ fun u21 e22 => ?_))))
 show Value.bool _ = Value.bool _
 rw [show (W.o == 2) = true from (by have hz := hs18; simp at hz ⊢; omega)]
theorem k_fxLow {u w : World} {W : WL} (d : Dat u w) (hW : WdOK W) : Calls Tryz.prog 255 #[W.v] w (Post u w fun v _ => v = .int .i64 (-Nt.p2i (W.b - 1))) := by
 obtain ⟨hw1, hw2, hw3, hw4, hw5, hw6, hw7, hw8⟩ := id hW
 have hp1 := Nt.zxo (W.b - 1)
 have hp2 := Nt.p2i_24 (n := W.b - 1) xq
 refine zzl (args := [.agg #[.int .i64 W.b, .int .i64 W.f, .int .i64 W.r, .int .i64 W.o]]) Tryz.func255 rfl Tryz.ntmps255 (rs := [.tmp 2]) Tryz.results255 (le_b rfl) (le_b rfl) d ?_
 refine sq9 (zzj 1 ⟨183, W.cs⟩ (zza 2 (zI 0) (zzb (zzd (sq9 (zzh 3 (.v (W.v)) ty183 zze (zzg 4 244 _ fun _ _ _ aa => Post.mono (k_fxValid (W := W) aa hW) ?_)))))))
 rintro _ u12 g13 rfl
 refine zza 5 (zB false) (zzb (zyr xj (zzr (zzo ?_))))
 refine sq9 (zza 6 (.adr 1 0) (zzh 7 (zI W.b) ty3 zzk (zyp 8 (x := zI (IntKind.i64.wrap (W.b - 1))) (zI (W.b - 1)) yv (sy_shl 9 (k := .i64) (s := W.b - 1) (Nt.p2i (W.b - 1)) xq (by show _ ≤ (64 : Int); omega) (shl_one xq xq) ?_))))
 refine zqI 10 (show (IntKind.i64.wrap (0 - Nt.p2i (W.b - 1))) = (-Nt.p2i (W.b - 1)) from xk) (zza 2 (zI (-Nt.p2i (W.b - 1))) (zzb (zzn (ret0 [.int .i64 (-Nt.p2i (W.b - 1))] ⟨zzp, trivial⟩ fun u15 e16 => ?_))))
 rfl
theorem k_fxHigh {u w : World} {W : WL} (d : Dat u w) (hW : WdOK W) : Calls Tryz.prog 256 #[W.v] w (Post u w fun v _ => v = .int .i64 (Nt.p2i (W.b - 1) - 1)) := by
 obtain ⟨hw1, hw2, hw3, hw4, hw5, hw6, hw7, hw8⟩ := id hW
 have hp1 := Nt.zxo (W.b - 1)
 have hp2 := Nt.p2i_24 (n := W.b - 1) xq
 refine zzl (args := [.agg #[.int .i64 W.b, .int .i64 W.f, .int .i64 W.r, .int .i64 W.o]]) Tryz.func256 rfl Tryz.ntmps256 (rs := [.tmp 2]) Tryz.results256 (le_b rfl) (le_b rfl) d ?_
 refine sq9 (zzj 1 ⟨183, W.cs⟩ (zza 2 (zI 0) (zzb (zzd (sq9 (zzh 3 (.v (W.v)) ty183 zze (zzg 4 244 _ fun _ _ _ aa => Post.mono (k_fxValid (W := W) aa hW) ?_)))))))
 rintro _ u12 g13 rfl
 refine zza 5 (zB false) (zzb (zyr xj (zzr (zzo ?_))))
 refine sq9 (zza 6 (.adr 1 0) (zzh 7 (zI W.b) ty3 zzk (zyp 8 (x := zI (IntKind.i64.wrap (W.b - 1))) (zI (W.b - 1)) yv (sy_shl 9 (k := .i64) (s := W.b - 1) (Nt.p2i (W.b - 1)) xq (by show _ ≤ (64 : Int); omega) (shl_one xq xq) ?_))))
 refine zyp 10 (x := zI (IntKind.i64.wrap ((Nt.p2i (W.b - 1)) - 1))) (zI ((Nt.p2i (W.b - 1)) - 1)) yv (zza 2 (zI ((Nt.p2i (W.b - 1)) - 1)) (zzb (zzn (ret0 [.int .i64 ((Nt.p2i (W.b - 1)) - 1)] ⟨zzp, trivial⟩ fun u15 e16 => ?_))))
 rfl
theorem k_fxFits {u w : World} {W : WL} {z : Int} (d : Dat u w) (hW : WdOK W) (h0 : -Nt.p2i (W.b - 1) ≤ z) (h1 : z < Nt.p2i (W.b - 1)) : Calls Tryz.prog 246 #[W.v, .int .i64 z] w (Post u w fun v _ => v = .bool true) := by
 obtain ⟨hw1, hw2, hw3, hw4, hw5, hw6, hw7, hw8⟩ := id hW
 refine zzl (args := [.agg #[.int .i64 W.b, .int .i64 W.f, .int .i64 W.r, .int .i64 W.o], .int .i64 z]) Tryz.func246 rfl Tryz.ntmps246 (rs := [.tmp 4]) Tryz.results246 (le_b rfl) (le_b rfl) d ?_
 refine sq9 (zzj 2 ⟨183, W.cs⟩ (zza 4 (zB false) (zzb (sq9 (zzh 5 (.v (W.v)) ty183 zze (zzg 6 244 _ fun _ _ _ ac => Post.mono (k_fxValid (W := W) ac hW) ?_))))))
 rintro _ u12 g13 rfl
 refine zza 7 (zB true) (zza 8 (zI z) ?_ (hw := w1 2 true 7))
 refine zzh 9 (.v (W.v)) ty183 zze ?_ (hw := w1 2 true 7)
 refine zzg 10 255 _ (fun _ _ _ aa => Post.mono (k_fxLow (W := W) aa hW) ?_) (hw := w1 2 true 7)
 rintro _ u16 g17 rfl
 refine zza 11 (zB (decide ((-Nt.p2i (W.b - 1)) ≤ z))) ?_ (hw := w1 2 true 7)
 refine zza 12 (zB (decide ((-Nt.p2i (W.b - 1)) ≤ z))) (zqB 13 (show (decide ((-Nt.p2i (W.b - 1)) ≤ z)) = true from decide_eq_true xq) (zza 14 (zI z) ?_ (hw := w1 8 true 13)))
 refine zzh 15 (.v (W.v)) ty183 zze ?_ (hw := w1 8 true 13)
 refine zzg 16 256 _ (fun _ _ _ ab => Post.mono (k_fxHigh (W := W) ab hW) ?_) (hw := w1 8 true 13)
 rintro _ u21 g22 rfl
 refine zza 17 (zB (decide (z ≤ (Nt.p2i (W.b - 1) - 1)))) ?_ (hw := w1 8 true 13)
 refine zza 18 (zB (decide (z ≤ (Nt.p2i (W.b - 1) - 1)))) (zza 4 (zB (decide (z ≤ (Nt.p2i (W.b - 1) - 1)))) (zzb (zzn (ret0 [.bool (decide (z ≤ (Nt.p2i (W.b - 1) - 1)))] ⟨zzp, trivial⟩ fun u24 e25 => ?_))))
 show Value.bool _ = Value.bool _
 rw [show (decide (z ≤ (Nt.p2i (W.b - 1) - 1))) = true from decide_eq_true xq]
theorem k_within {u w : World} {n m : Int} (d : Dat u w) (hm : 1 ≤ m) (hm2 : m ≤ 4611686018427387904) (hn0 : -9223372036854775808 ≤ n) (hn1 : n ≤ 9223372036854775807) : Calls Tryz.prog 45 #[.int .i64 n, .int .i64 m] w (Post u w fun v _ => v = .int .i64 (n % m)) := by
 refine zzl (args := [.int .i64 n, .int .i64 m]) Tryz.func45 rfl Tryz.ntmps45 (rs := [.tmp 4]) Tryz.results45 (le_b rfl) (le_b rfl) d ?_
 refine sq9 (zza 4 (zI 0) (zzb (zzd (sq9 (zza 5 (zI m) (zqB 6 (show (decide (m < 1)) = false from zq) (zzb (zyr xj (zzr (zzo ?_))))))))))
 refine sq9 (zza 7 (zI n) (zza 8 (zI m) (sy_rem 9 (Int.tmod n m) xq rfl ?_)))
 refine zza 0 (zI (Int.tmod n m)) (zzb (zzd (sq9 (zza 10 (zI (Int.tmod n m)) (zza 11 (zB (decide ((Int.tmod n m) < 0))) (zzb (zzt (b := decide ((Int.tmod n m) < 0)) xj (fun aa => ?_) (fun aa => ?_))))))))
 ·have qhb11 := of_decide_eq_true aa
  refine zzf (zza 12 (zI (Int.tmod n m)) (zza 13 (zI m) (zqI 14 (show (IntKind.i64.wrap (Int.tmod n m + m)) = (Int.tmod n m + m) from (IntWalk.i64_in _ (by have h2 := Int.lt_tmod_of_pos n (show 0 < m by omega); have h3 := Int.tmod_lt_of_pos n (show 0 < m by omega); omega))) (zza 0 (zI (Int.tmod n m + m)) (zzb (sq9 (zza 15 (zI (Int.tmod n m + m)) (zza 4 (zI (Int.tmod n m + m)) (zzb (zzn (ret0 [.int .i64 (Int.tmod n m + m)] ⟨zzp, trivial⟩ fun u12 e13 => ?_)))))))))))
  show Value.int _ _ = Value.int _ _
  rw [mod_neg9 m hm n aa]
 have qhb11 := of_decide_eq_false aa
 refine zzr (zzo ?_)
 refine sq9 (zza 15 (zI (Int.tmod n m)) (zza 4 (zI (Int.tmod n m)) (zzb (zzn (ret0 [.int .i64 (Int.tmod n m)] ⟨zzp, trivial⟩ fun u14 e15 => ?_)))))
 show Value.int _ _ = Value.int _ _
 rw [mod_pos9 m hm n aa]
namespace Nt
theorem cmpQ_self (q : Rat) : (cmpQ q q != 0) = false := by
 have h : (cmpQ q q == (0 : Int)) = true := by rw [cmpQ_eq, decide_eq_true rfl]
 show (!(cmpQ q q == (0 : Int))) = false
 rw [h]; rfl
end Nt
theorem k_withinN {u w : World} {n m : Int} (d : Dat u w) (hm : 1 ≤ m) (hm2 : m ≤ 4611686018427387904) (hn0 : -9223372036854775808 ≤ n) (hn1 : n ≤ 9223372036854775807) : Calls Tryz.prog 45 #[.int .i64 n, .int .i64 m] w (Post u w fun v _ => ∃ z : Nat, v = .int .i64 (z : Int) ∧ (z : Int) < m) :=
 Post.mono (k_within d hm hm2 hn0 hn1) fun v u' _ h => by
  have h1 := Int.emod_nonneg n (show m ≠ 0 by omega)
  have h2 := Int.emod_lt_of_pos n (show 0 < m by omega)
  exact ⟨(n % m).toNat, by rw [h, Int.toNat_of_nonneg h1], by omega⟩
theorem k_in {u w : World} {z a b : Int} (d : Dat u w) : Calls Tryz.prog 113 #[.int .i64 z, .int .i64 a, .int .i64 b] w (Post u w fun v _ => v = .bool (decide (a ≤ z) && decide (z ≤ b))) := by
 refine zzl (args := [.int .i64 z, .int .i64 a, .int .i64 b]) Tryz.func113 rfl Tryz.ntmps113 (rs := [.tmp 6]) Tryz.results113 (le_b rfl) (le_b rfl) d ?_
 refine sq9 (zza 6 (zB false) (zzb (sq9 (zza 7 (zI z) (zza 8 (zI a) (zza 9 (zB (decide (a ≤ z))) ?_))))))
 rcases Bool.eq_false_or_eq_true (decide (a ≤ z)) with hs11 | hs11
 ·refine zyp 10 (x := zB (decide (a ≤ z))) (zB true) (by rw [hs11]) ?_
  have qhs11 := of_decide_eq_true hs11
  refine zza 11 (zI z) ?_ (hw := w1 3 true 10)
  refine zza 12 (zI b) ?_ (hw := w1 3 true 10)
  refine zza 13 (zB (decide (z ≤ b))) ?_ (hw := w1 3 true 10)
  refine zza 14 (zB (decide (z ≤ b))) (zza 6 (zB (decide (z ≤ b))) (zzb (zzn (ret0 [.bool (decide (z ≤ b))] ⟨zzp, trivial⟩ fun u12 e13 => ?_))))
  show Value.bool _ = Value.bool _
  rw [hs11]
  rfl
 refine zyp 10 (x := zB (decide (a ≤ z))) (zB false) (by rw [hs11]) ?_
 have qhs11 := of_decide_eq_false hs11
 refine zzm 11 (uw 3 true false 10) (zzm 12 (uw 3 true false 10) (zzm 13 (uw 3 true false 10) (zza 14 (zB false) (zza 6 (zB false) (zzb (zzn (ret0 [.bool false] ⟨zzp, trivial⟩ fun u14 e15 => ?_)))))))
 show Value.bool _ = Value.bool _
 rw [hs11]
 rfl
instance wdDec (W : WL) : Decidable (WdOK W) := by unfold WdOK; exact inferInstance
section
variable {w k lo lo' h b n c i j off : Nat} {tO tR : TypeId} {u u' u'' v : World} {w0 : Base} {u0 : World} {x y z : Sl} {Rs : List Sl} {Ls : List (List RL)} {L : List RL} {M : List (List Rat)} {l : List Rat} {r : RL} {q : Rat} {K K' : Nat} {a : Addr}
theorem MatN.at (h : MatN u Ls M K) (hi : i < M.length) (hj : j < (M.getD i []).length) : RatN u ((Ls.getD i []).getD j rl0) ((M.getD i []).getD j 0) K := (h.2 i hi).2 j hj
theorem MatN.rowlen (h : MatN u Ls M K) (hi : i < M.length) : (Ls.getD i []).length = (M.getD i []).length := (h.2 i hi).1
end
theorem k_fxShift2 {u w : World} {v n : Int} (d : Dat u w) (hv0 : -1152921504606846976 ≤ v) (hv1 : v ≤ 1152921504606846976) (hn0 : 0 ≤ n) (hn1 : n ≤ 24) : Calls Tryz.prog 191 #[.int .i64 v, .int .i64 n, .int .i64 2] w (Post u w fun y _ => y = .int .i64 (Nt.shiftW v n 2)) := by
 have hp1 := Nt.zxo n
 have hp2 := Nt.p2i_24 (n := n) xq
 have hd1 := Nt.div_bd (v := v) hp1
 have hm1 := Int.emod_nonneg (v / Nt.p2i (n - 1)) (show (2 : Int) ≠ 0 by decide)
 have hm2 := Int.emod_lt_of_pos (v / Nt.p2i (n - 1)) (show (0 : Int) < 2 by decide)
 refine zzl (args := [.int .i64 v, .int .i64 n, .int .i64 2]) Tryz.func191 rfl Tryz.ntmps191 (rs := [.tmp 6]) Tryz.results191 (le_b rfl) (le_b rfl) d ?_
 refine sq9 (zza 6 (zI 0) (zzb (zzd (sq9 (zza 9 (zI n) (zza 10 (zB (decide (n < 0))) (zqB 11 (show (decide (n < 0)) = false from decide_eq_false xq) (zza 12 (zI n) ?_ (hw := w1 2 false 11)))))))))
 refine zza 13 (zB (decide ((62 : Int) < n))) ?_ (hw := w1 2 false 11)
 refine zza 14 (zB (decide ((62 : Int) < n))) (zqB 15 (show (decide ((62 : Int) < n)) = false from decide_eq_false xq) (zza 16 (zI 2) ?_ (hw := w1 6 false 15)))
 refine zzg 17 238 _ (fun _ _ _ ac => Post.mono (k_mode (r := 2) ac xq xq) ?_) (hw := w1 6 false 15)
 rintro _ u14 g15 rfl
 refine zza 18 (zB false) ?_ (hw := w1 6 false 15)
 refine zza 19 (zB false) (zzb (zyr xj (zzr (zzo ?_))))
 refine zzd (sq9 (zza 20 (zI n) (zza 21 (zB (n == 0)) (zzb (zzt (b := n == 0) xj (fun aa => ?_) (fun aa => ?_))))))
 ·have qhb17 := aa
  simp at qhb17
  refine sq9 (zza 22 (zI v) (zza 6 (zI v) (zzb (zzn (zzv (ret0 [.int .i64 v] ⟨zzp, trivial⟩ fun u18 e19 => ?_))))))
  show Value.int _ _ = Value.int _ _
  unfold Nt.shiftW
  rw [if_pos qhb17]
 have qhb17 := aa
 simp at qhb17
 refine zzr (zzo ?_)
 refine sq9 (zza 23 (zI v) (zza 24 (zI n) (sy_shr 25 (k := .i64) (n := v) (s := n) (v / Nt.p2i n) xq (by show _ ≤ (64 : Int); omega) rfl ?_)))
 refine zza 7 (zI (v / Nt.p2i n)) (zzb (sq9 (zza 26 (zI (v / Nt.p2i n)) (zza 27 (zI (v / Nt.p2i n)) (zza 28 (zI v) (zza 29 (zI n) (zyp 30 (x := zI (IntKind.i64.wrap (n - 1))) (zI (n - 1)) yv (sy_shr 31 (k := .i64) (n := v) (s := n - 1) (v / Nt.p2i (n - 1)) xq (by show _ ≤ (64 : Int); omega) rfl ?_))))))))
 refine zyp 32 (x := zI (bits .and .i64 (v / Nt.p2i (n - 1)) 1)) (zI (v / Nt.p2i (n - 1) % 2)) (eqI (Nt.bits_1 _)) (zyp 33 (x := zI (IntKind.i64.wrap ((v / Nt.p2i n) + (v / Nt.p2i (n - 1) % 2)))) (zI ((v / Nt.p2i n) + (v / Nt.p2i (n - 1) % 2))) yv (zza 34 (zI (v / Nt.p2i n)) (zza 35 (.v (.agg #[.int .i64 (v / Nt.p2i n), .int .i64 ((v / Nt.p2i n) + (v / Nt.p2i (n - 1) % 2)), .int .i64 (v / Nt.p2i n)])) (zzj 8 ⟨200, [.int .i64 0, .int .i64 0, .int .i64 0]⟩ (zzi ⟨200, [.int .i64 (v / Nt.p2i n), .int .i64 ((v / Nt.p2i n) + (v / Nt.p2i (n - 1) % 2)), .int .i64 (v / Nt.p2i n)]⟩ ty200 ?_)))))
 refine zzb (zzd (sq9 (zza 36 (zI v) (zza 37 (zB (decide (v < 0))) ?_))))
 rcases Bool.eq_false_or_eq_true (decide (v < 0)) with hs20 | hs20
 ·refine zyp 38 (x := zB (decide (v < 0))) (zB true) (by rw [hs20]) ?_
  have qhs20 := of_decide_eq_true hs20
  refine zza 39 (zI v) ?_ (hw := w1 2 true 38)
  refine zza 40 (zI n) ?_ (hw := w1 2 true 38)
  refine sy_shl 41 (k := .i64) (s := n) (Nt.p2i n) xq (by show _ ≤ (64 : Int); omega) (shl_one xq xq) ?_ (hw := w1 2 true 38)
  refine zyp 42 (x := zI (IntKind.i64.wrap ((Nt.p2i n) - 1))) (zI ((Nt.p2i n) - 1)) yv ?_ (hw := w1 2 true 38)
  refine zyp 43 (x := zI (bits .and .i64 v (Nt.p2i n - 1))) (zI (v % Nt.p2i n)) (eqI (Nt.bits_p2 xq xq)) ?_ (hw := w1 2 true 38)
  refine zza 44 (zB ((v % Nt.p2i n) != 0)) ?_ (hw := w1 2 true 38)
  refine zza 45 (zB ((v % Nt.p2i n) != 0)) (zzc 54 [(2, zI 2), (8, .adr 8 0), (45, zB ((v % Nt.p2i n) != 0))] [(8, ⟨200, [.int .i64 (v / Nt.p2i n), .int .i64 ((v / Nt.p2i n) + (v / Nt.p2i (n - 1) % 2)), .int .i64 (v / Nt.p2i n)]⟩)] (zzt (b := (v % Nt.p2i n) != 0) xj (fun ab => ?_) (fun ab => ?_)))
  ·have qhb21 := ab
   simp at qhb21
   refine zzf (zza 46 (.adr 8 2) (zzh 47 (zI (v / Nt.p2i n)) ty3 zzk (zyp 48 (x := zI (IntKind.i64.wrap ((v / Nt.p2i n) + 1))) (zI ((v / Nt.p2i n) + 1)) yv (zza 49 (.adr 8 2) (zzi ⟨200, [.int .i64 (v / Nt.p2i n), .int .i64 ((v / Nt.p2i n) + (v / Nt.p2i (n - 1) % 2)), .int .i64 ((v / Nt.p2i n) + 1)]⟩ ty3 ?_)))))
   refine zzb (sq9 (zza 50 (zI 2) (zza 51 (zI 1) (zza 52 (.adr 8 1) (zzh 53 (zI ((v / Nt.p2i n) + (v / Nt.p2i (n - 1) % 2))) ty3 zzk (zza 6 (zI ((v / Nt.p2i n) + (v / Nt.p2i (n - 1) % 2))) (zzb (zzn (ret0 [.int .i64 ((v / Nt.p2i n) + (v / Nt.p2i (n - 1) % 2))] ⟨zzp, trivial⟩ fun u22 e23 => ?_)))))))))
   show Value.int _ _ = Value.int _ _
   unfold Nt.shiftW
   rw [if_neg qhb17]
   rw [if_pos rfl]
  have qhb21 := ab
  simp at qhb21
  refine zzr (zzo ?_)
  refine sq9 (zza 50 (zI 2) (zza 51 (zI 1) (zza 52 (.adr 8 1) (zzh 53 (zI ((v / Nt.p2i n) + (v / Nt.p2i (n - 1) % 2))) ty3 zzk (zza 6 (zI ((v / Nt.p2i n) + (v / Nt.p2i (n - 1) % 2))) (zzb (zzn (ret0 [.int .i64 ((v / Nt.p2i n) + (v / Nt.p2i (n - 1) % 2))] ⟨zzp, trivial⟩ fun u24 e25 => ?_))))))))
  show Value.int _ _ = Value.int _ _
  unfold Nt.shiftW
  rw [if_neg qhb17]
  rw [if_pos rfl]
 refine zyp 38 (x := zB (decide (v < 0))) (zB false) (by rw [hs20]) ?_
 have qhs20 := of_decide_eq_false hs20
 refine zzm 39 (uw 2 true false 38) (zzm 40 (uw 2 true false 38) (zzm 41 (uw 2 true false 38) (zzm 42 (uw 2 true false 38) (zzm 43 (uw 2 true false 38) (zzm 44 (uw 2 true false 38) (zza 45 (zB false) (zzc 54 [(2, zI 2), (8, .adr 8 0), (45, zB false)] [(8, ⟨200, [.int .i64 (v / Nt.p2i n), .int .i64 ((v / Nt.p2i n) + (v / Nt.p2i (n - 1) % 2)), .int .i64 (v / Nt.p2i n)]⟩)] (zyr xj (zzr (zzo ?_))))))))))
 refine sq9 (zza 50 (zI 2) (zza 51 (zI 1) (zza 52 (.adr 8 1) (zzh 53 (zI ((v / Nt.p2i n) + (v / Nt.p2i (n - 1) % 2))) ty3 zzk (zza 6 (zI ((v / Nt.p2i n) + (v / Nt.p2i (n - 1) % 2))) (zzb (zzn (ret0 [.int .i64 ((v / Nt.p2i n) + (v / Nt.p2i (n - 1) % 2))] ⟨zzp, trivial⟩ fun u26 e27 => ?_))))))))
 show Value.int _ _ = Value.int _ _
 unfold Nt.shiftW
 rw [if_neg qhb17]
 rw [if_pos rfl]
theorem k_fxWrap {u w : World} {b v : Int} (d : Dat u w) (hb0 : 1 ≤ b) (hb1 : b ≤ 62) : Calls Tryz.prog 190 #[.int .i64 b, .int .i64 v] w (Post u w fun y _ => y = .int .i64 (Nt.wrapW b v)) := by
 have hp1 := Nt.zxo b
 have hp2 : Nt.p2i b ≤ 4611686018427387904 := Nt.zwd (b := 62) xq
 have hp3 := Nt.zxo (b - 1)
 have hp4 : Nt.p2i (b - 1) ≤ Nt.p2i b := Nt.zwd xq
 have hm1 := Int.emod_nonneg v (show Nt.p2i b ≠ 0 by omega)
 have hm2 := Int.emod_lt_of_pos v hp1
 refine zzl (args := [.int .i64 b, .int .i64 v]) Tryz.func190 rfl Tryz.ntmps190 (rs := [.tmp 4]) Tryz.results190 (le_b rfl) (le_b rfl) d ?_
 refine sq9 (zza 4 (zI 0) (zzb (zzd (sq9 (zza 6 (zI b) (zza 7 (zB (decide (b < 1))) (zqB 8 (show (decide (b < 1)) = false from decide_eq_false xq) (zza 9 (zI b) ?_ (hw := w1 2 false 8)))))))))
 refine zza 10 (zB (decide ((62 : Int) < b))) ?_ (hw := w1 2 false 8)
 refine zza 11 (zB (decide ((62 : Int) < b))) (zzb (zzt (b := decide ((62 : Int) < b)) xj (fun hb => ?_) (fun hb => ?_)))
 ·exact absurd hb (by rw [show (decide ((62 : Int) < b)) = false from decide_eq_false xq]; decide)
 clear hb
 refine zzr (zzo ?_)
 refine sq9 (zza 12 (zI v) (zza 13 (zI b) (sy_shl 14 (k := .i64) (s := b) (Nt.p2i b) xq (by show _ ≤ (64 : Int); omega) (Nt.shl_one9 xq xq) ?_)))
 refine zyp 15 (x := zI (IntKind.i64.wrap ((Nt.p2i b) - 1))) (zI ((Nt.p2i b) - 1)) yv (zyp 16 (x := zI (bits .and .i64 v (Nt.p2i b - 1))) (zI (v % Nt.p2i b)) (eqI (Nt.bits_p2 xq xq)) (zza 5 (zI (v % Nt.p2i b)) (zzb (zzd (sq9 (zza 17 (zI (v % Nt.p2i b)) (zza 18 (zI b) (zyp 19 (x := zI (IntKind.i64.wrap (b - 1))) (zI (b - 1)) yv (sy_shl 20 (k := .i64) (s := b - 1) (Nt.p2i (b - 1)) xq (by show _ ≤ (64 : Int); omega) (Nt.shl_one9 xq xq) ?_)))))))))
 refine zza 21 (zB (decide ((Nt.p2i (b - 1)) ≤ (v % Nt.p2i b)))) (zzb (zzt (b := decide ((Nt.p2i (b - 1)) ≤ (v % Nt.p2i b))) xj (fun aa => ?_) (fun aa => ?_)))
 ·have qhb12 := of_decide_eq_true aa
  refine zzf (zza 22 (zI (v % Nt.p2i b)) (zza 23 (zI b) (sy_shl 24 (k := .i64) (s := b) (Nt.p2i b) xq (by show _ ≤ (64 : Int); omega) (Nt.shl_one9 xq xq) ?_)))
  refine zyp 25 (x := zI (IntKind.i64.wrap ((v % Nt.p2i b) - (Nt.p2i b)))) (zI ((v % Nt.p2i b) - (Nt.p2i b))) yv (zza 5 (zI ((v % Nt.p2i b) - (Nt.p2i b))) (zzb (sq9 (zza 26 (zI ((v % Nt.p2i b) - (Nt.p2i b))) (zza 4 (zI ((v % Nt.p2i b) - (Nt.p2i b))) (zzb (zzn (ret0 [.int .i64 ((v % Nt.p2i b) - (Nt.p2i b))] ⟨zzp, trivial⟩ fun u13 e14 => ?_))))))))
  show Value.int _ _ = Value.int _ _
  unfold Nt.wrapW
  rw [if_pos xq]
 have qhb12 := of_decide_eq_false aa
 refine zzr (zzo ?_)
 refine sq9 (zza 26 (zI (v % Nt.p2i b)) (zza 4 (zI (v % Nt.p2i b)) (zzb (zzn (ret0 [.int .i64 (v % Nt.p2i b)] ⟨zzp, trivial⟩ fun u15 e16 => ?_)))))
 show Value.int _ _ = Value.int _ _
 unfold Nt.wrapW
 rw [if_neg xq]
theorem k_formed {u w : World} {t f cf sh n : Int} (d : Dat u w) : Calls Tryz.prog 132 #[.agg #[.int .i64 t, .int .i64 f, .int .i64 cf, .int .i64 sh], .int .i64 n] w (Post u w fun v _ => v = .bool (decide (Nt.shOK n [t, f, cf, sh]))) := by
 refine zzl (args := [.agg #[.int .i64 t, .int .i64 f, .int .i64 cf, .int .i64 sh], .int .i64 n]) Tryz.func132 rfl Tryz.ntmps132 (rs := [.tmp 4]) Tryz.results132 (le_b rfl) (le_b rfl) d ?_
 refine sq9 (zzj 2 ⟨90, [.int .i64 t, .int .i64 f, .int .i64 cf, .int .i64 sh]⟩ (zza 4 (zB false) (zzb (zzd (sq9 (zza 5 (.adr 2 0) (zzh 6 (zI t) ty3 zzk (zza 7 (zB (decide (t < 0))) ?_))))))))
 rcases Bool.eq_false_or_eq_true (decide (t < 0)) with hs11 | hs11
 ·refine zyp 8 (x := zB (decide (t < 0))) (zB true) (by rw [hs11]) ?_
  have qhs11 := of_decide_eq_true hs11
  refine zzm 9 (uw 3 false true 8) (zzm 10 (uw 3 false true 8) (zzm 11 (uw 3 false true 8) (zzm 12 (uw 3 false true 8) (zza 13 (zB true) (zza 14 (zB true) (zzm 15 (uw 9 false true 14) (zzm 16 (uw 9 false true 14) (zzm 17 (uw 9 false true 14) (zza 18 (zB true) (zza 19 (zB true) (zzm 20 (uw 14 false true 19) ?_)))))))))))
  refine zzm 21 (uw 14 false true 19) (zzm 22 (uw 14 false true 19) (zzm 23 (uw 14 false true 19) (zza 24 (zB true) (zzb (zyq xj (sq9 (zza 4 (zB false) (zzb (zzn (zzv (ret0 [.bool false] ⟨zzp, trivial⟩ fun u12 e13 => ?_)))))))))))
  show Value.bool _ = Value.bool _
  congr 1
  have h9hs11 := hs11
  simp at h9hs11
  rw [Bool.eq_iff_iff]
  simp [Nt.shOK]
  omega
 refine zyp 8 (x := zB (decide (t < 0))) (zB false) (by rw [hs11]) ?_
 have qhs11 := of_decide_eq_false hs11
 refine zza 9 (.adr 2 0) ?_ (hw := w1 3 false 8)
 refine zzh 10 (zI t) ty3 zzk ?_ (hw := w1 3 false 8)
 refine zza 11 (zI n) ?_ (hw := w1 3 false 8)
 refine zza 12 (zB (decide (n ≤ t))) ?_ (hw := w1 3 false 8)
 refine zza 13 (zB (decide (n ≤ t))) ?_
 rcases Bool.eq_false_or_eq_true (decide (n ≤ t)) with hs14 | hs14
 ·refine zyp 14 (x := zB (decide (n ≤ t))) (zB true) (by rw [hs14]) ?_
  have qhs14 := of_decide_eq_true hs14
  refine zzm 15 (uw 9 false true 14) (zzm 16 (uw 9 false true 14) (zzm 17 (uw 9 false true 14) (zza 18 (zB true) (zza 19 (zB true) (zzm 20 (uw 14 false true 19) (zzm 21 (uw 14 false true 19) (zzm 22 (uw 14 false true 19) (zzm 23 (uw 14 false true 19) (zza 24 (zB true) (zzb (zyq xj ?_)))))))))))
  refine sq9 (zza 4 (zB false) (zzb (zzn (zzv (ret0 [.bool false] ⟨zzp, trivial⟩ fun u15 e16 => ?_)))))
  show Value.bool _ = Value.bool _
  congr 1
  have h9hs11 := hs11
  simp at h9hs11
  have h9hs14 := hs14
  simp at h9hs14
  rw [Bool.eq_iff_iff]
  simp [Nt.shOK]
  omega
 refine zyp 14 (x := zB (decide (n ≤ t))) (zB false) (by rw [hs14]) ?_
 have qhs14 := of_decide_eq_false hs14
 refine zza 15 (.adr 2 1) ?_ (hw := w1 9 false 14)
 refine zzh 16 (zI f) ty3 zzk ?_ (hw := w1 9 false 14)
 refine zza 17 (zB (decide (f < 0))) ?_ (hw := w1 9 false 14)
 refine zza 18 (zB (decide (f < 0))) ?_
 rcases Bool.eq_false_or_eq_true (decide (f < 0)) with hs17 | hs17
 ·refine zyp 19 (x := zB (decide (f < 0))) (zB true) (by rw [hs17]) ?_
  have qhs17 := of_decide_eq_true hs17
  refine zzm 20 (uw 14 false true 19) (zzm 21 (uw 14 false true 19) (zzm 22 (uw 14 false true 19) (zzm 23 (uw 14 false true 19) (zza 24 (zB true) (zzb (zyq xj (sq9 (zza 4 (zB false) (zzb (zzn (zzv (ret0 [.bool false] ⟨zzp, trivial⟩ fun u18 e19 => ?_))))))))))))
  show Value.bool _ = Value.bool _
  congr 1
  have h9hs11 := hs11
  simp at h9hs11
  have h9hs14 := hs14
  simp at h9hs14
  have h9hs17 := hs17
  simp at h9hs17
  rw [Bool.eq_iff_iff]
  simp [Nt.shOK]
  omega
 refine zyp 19 (x := zB (decide (f < 0))) (zB false) (by rw [hs17]) ?_
 have qhs17 := of_decide_eq_false hs17
 refine zza 20 (.adr 2 1) ?_ (hw := w1 14 false 19)
 refine zzh 21 (zI f) ty3 zzk ?_ (hw := w1 14 false 19)
 refine zza 22 (zI n) ?_ (hw := w1 14 false 19)
 refine zza 23 (zB (decide (n ≤ f))) ?_ (hw := w1 14 false 19)
 refine zza 24 (zB (decide (n ≤ f))) (zzb (zzt (b := decide (n ≤ f)) xj (fun aa => ?_) (fun aa => ?_)))
 ·have qhb20 := of_decide_eq_true aa
  refine sq9 (zza 4 (zB false) (zzb (zzn (zzv (ret0 [.bool false] ⟨zzp, trivial⟩ fun u21 e22 => ?_)))))
  show Value.bool _ = Value.bool _
  congr 1
  have h9hs11 := hs11
  simp at h9hs11
  have h9hs14 := hs14
  simp at h9hs14
  have h9hs17 := hs17
  simp at h9hs17
  have h9hb20 := aa
  simp at h9hb20
  rw [Bool.eq_iff_iff]
  simp [Nt.shOK]
  omega
 have qhb20 := of_decide_eq_false aa
 refine zzr (zzo ?_)
 refine zzd (sq9 (zza 25 (.adr 2 3) (zzh 26 (zI sh) ty3 zzk (zza 27 (zB (decide (sh < (-2)))) ?_))))
 rcases Bool.eq_false_or_eq_true (decide (sh < (-2))) with hs23 | hs23
 ·refine zyp 28 (x := zB (decide (sh < (-2)))) (zB true) (by rw [hs23]) ?_
  have qhs23 := of_decide_eq_true hs23
  refine zzm 29 (uw 3 false true 28) (zzm 30 (uw 3 false true 28) (zzm 31 (uw 3 false true 28) (zza 32 (zB true) (zzb (zyq xj (sq9 (zza 4 (zB false) (zzc 56 [(4, zB false)] [] (zzn (zzv (ret0 [.bool false] ⟨zzp, trivial⟩ fun u24 e25 => ?_)))))))))))
  show Value.bool _ = Value.bool _
  congr 1
  have h9hs11 := hs11
  simp at h9hs11
  have h9hs14 := hs14
  simp at h9hs14
  have h9hs17 := hs17
  simp at h9hs17
  have h9hb20 := aa
  simp at h9hb20
  have h9hs23 := hs23
  simp at h9hs23
  rw [Bool.eq_iff_iff]
  simp [Nt.shOK]
  omega
 refine zyp 28 (x := zB (decide (sh < (-2)))) (zB false) (by rw [hs23]) ?_
 have qhs23 := of_decide_eq_false hs23
 refine zza 29 (.adr 2 3) ?_ (hw := w1 3 false 28)
 refine zzh 30 (zI sh) ty3 zzk ?_ (hw := w1 3 false 28)
 refine zza 31 (zB (decide ((20 : Int) < sh))) ?_ (hw := w1 3 false 28)
 refine zza 32 (zB (decide ((20 : Int) < sh))) (zzb (zzt (b := decide ((20 : Int) < sh)) xj (fun ab => ?_) (fun ab => ?_)))
 ·have qhb26 := of_decide_eq_true ab
  refine sq9 (zza 4 (zB false) (zzc 56 [(4, zB false)] [] (zzn (zzv (ret0 [.bool false] ⟨zzp, trivial⟩ fun u27 e28 => ?_)))))
  show Value.bool _ = Value.bool _
  congr 1
  have h9hs11 := hs11
  simp at h9hs11
  have h9hs14 := hs14
  simp at h9hs14
  have h9hs17 := hs17
  simp at h9hs17
  have h9hb20 := aa
  simp at h9hb20
  have h9hs23 := hs23
  simp at h9hs23
  have h9hb26 := ab
  simp at h9hb26
  rw [Bool.eq_iff_iff]
  simp [Nt.shOK]
  omega
 have qhb26 := of_decide_eq_false ab
 refine zzr (zzo ?_)
 refine zzd (sq9 (zza 33 (.adr 2 0) (zzh 34 (zI t) ty3 zzk (zza 35 (.adr 2 1) (zzh 36 (zI f) ty3 zzk (zza 37 (zB (t == f)) (zza 38 (.adr 2 3) (zzh 39 (zI sh) ty3 zzk (zza 40 (zB (sh == (-2))) (zza 41 (zB (!((t == f) == (sh == (-2))))) (zzc 56 [(2, .adr 2 0), (41, zB (!((t == f) == (sh == (-2)))))] [(2, ⟨90, [.int .i64 t, .int .i64 f, .int .i64 cf, .int .i64 sh]⟩)] ?_)))))))))))
 refine zzt (b := !((t == f) == (sh == (-2)))) xj (fun ad => ?_) (fun ad => ?_)
 ·refine sq9 (zza 4 (zB false) (zzb (zzn (zzv (ret0 [.bool false] ⟨zzp, trivial⟩ fun u30 e31 => ?_)))))
  show Value.bool _ = Value.bool _
  congr 1
  have h9hs11 := hs11
  simp at h9hs11
  have h9hs14 := hs14
  simp at h9hs14
  have h9hs17 := hs17
  simp at h9hs17
  have h9hb20 := aa
  simp at h9hb20
  have h9hs23 := hs23
  simp at h9hs23
  have h9hb26 := ab
  simp at h9hb26
  have h9hb29 := ad
  rw [Nt.ne_pair] at h9hb29
  replace h9hb29 := of_decide_eq_true h9hb29
  rw [Bool.eq_iff_iff]
  simp [Nt.shOK]
  omega
 refine zzr (zzo ?_)
 refine zzd (sq9 (zza 42 (.adr 2 3) (zzh 43 (zI sh) ty3 zzk (zza 44 (zB (decide (sh < 0))) (zzb (zzt (b := decide (sh < 0)) xj (fun ac => ?_) (fun ac => ?_)))))))
 ·have qhb32 := of_decide_eq_true ac
  refine sq9 (zza 45 (.adr 2 2) (zzh 46 (zI cf) ty3 zzk (zza 47 (zB (cf == 0)) (zza 4 (zB (cf == 0)) (zzb (zzn (zzv (ret0 [.bool (cf == 0)] ⟨zzp, trivial⟩ fun u33 e34 => ?_))))))))
  show Value.bool _ = Value.bool _
  congr 1
  have h9hs11 := hs11
  simp at h9hs11
  have h9hs14 := hs14
  simp at h9hs14
  have h9hs17 := hs17
  simp at h9hs17
  have h9hb20 := aa
  simp at h9hb20
  have h9hs23 := hs23
  simp at h9hs23
  have h9hb26 := ab
  simp at h9hb26
  have h9hb29 := ad
  rw [Nt.ne_pair] at h9hb29
  replace h9hb29 := of_decide_eq_false h9hb29
  have h9hb32 := ac
  simp at h9hb32
  rw [Bool.eq_iff_iff]
  simp [Nt.shOK]
  omega
 have qhb32 := of_decide_eq_false ac
 refine zzr (zzo ?_)
 refine sq9 (zza 48 (.adr 2 2) (zzh 49 (zI cf) ty3 zzk (zza 50 (zB (decide (((-2097152) : Int) ≤ cf))) ?_)))
 rcases Bool.eq_false_or_eq_true (decide (((-2097152) : Int) ≤ cf)) with hs35 | hs35
 ·refine zyp 51 (x := zB (decide (((-2097152) : Int) ≤ cf))) (zB true) (by rw [hs35]) ?_
  have qhs35 := of_decide_eq_true hs35
  refine zza 52 (.adr 2 2) ?_ (hw := w1 3 true 51)
  refine zzh 53 (zI cf) ty3 zzk ?_ (hw := w1 3 true 51)
  refine zza 54 (zB (decide (cf ≤ 2097152))) ?_ (hw := w1 3 true 51)
  refine zza 55 (zB (decide (cf ≤ 2097152))) (zza 4 (zB (decide (cf ≤ 2097152))) (zzb (zzn (ret0 [.bool (decide (cf ≤ 2097152))] ⟨zzp, trivial⟩ fun u36 e37 => ?_))))
  show Value.bool _ = Value.bool _
  congr 1
  have h9hs11 := hs11
  simp at h9hs11
  have h9hs14 := hs14
  simp at h9hs14
  have h9hs17 := hs17
  simp at h9hs17
  have h9hb20 := aa
  simp at h9hb20
  have h9hs23 := hs23
  simp at h9hs23
  have h9hb26 := ab
  simp at h9hb26
  have h9hb29 := ad
  rw [Nt.ne_pair] at h9hb29
  replace h9hb29 := of_decide_eq_false h9hb29
  have h9hb32 := ac
  simp at h9hb32
  have h9hs35 := hs35
  simp at h9hs35
  rw [Bool.eq_iff_iff]
  simp [Nt.shOK]
  omega
 refine zyp 51 (x := zB (decide (((-2097152) : Int) ≤ cf))) (zB false) (by rw [hs35]) ?_
 have qhs35 := of_decide_eq_false hs35
 refine zzm 52 (uw 3 true false 51) (zzm 53 (uw 3 true false 51) (zzm 54 (uw 3 true false 51) (zza 55 (zB false) (zza 4 (zB false) (zzb (zzn (ret0 [.bool false] ⟨zzp, trivial⟩ fun u38 e39 => ?_)))))))
 show Value.bool _ = Value.bool _
 congr 1
 have h9hs11 := hs11
 simp at h9hs11
 have h9hs14 := hs14
 simp at h9hs14
 have h9hs17 := hs17
 simp at h9hs17
 have h9hb20 := aa
 simp at h9hb20
 have h9hs23 := hs23
 simp at h9hs23
 have h9hb26 := ab
 simp at h9hb26
 have h9hb29 := ad
 rw [Nt.ne_pair] at h9hb29
 replace h9hb29 := of_decide_eq_false h9hb29
 have h9hb32 := ac
 simp at h9hb32
 have h9hs35 := hs35
 simp at h9hs35
 rw [Bool.eq_iff_iff]
 simp [Nt.shOK]
 omega
set_option maxHeartbeats 1000000 in
theorem k_dvalid {u w : World} {x : Sl} {S : List (List Int)} {n : Int} (d : Dat u w) (hx : IrV 4 u x S) (h9 : S.length ≤ 1000000) : Calls Tryz.prog 64 #[x.v, .int .i64 n] w (Post u w fun v _ => v = .bool (decide (Nt.shV n S))) := by
 have hlx : x.n = S.length := hx.len
 refine zzl (args := [x.v, .int .i64 n]) Tryz.func64 rfl Tryz.ntmps64 (rs := [.tmp 4]) Tryz.results64 (le_b rfl) (le_b rfl) d ?_
 refine sq9 (zza 4 (zB false) (zzb (zzd (sq9 (zza 7 (zI n) (zza 8 (zB (decide (n < 1))) ?_))))))
 rcases Bool.eq_false_or_eq_true (decide (n < 1)) with hs11 | hs11
 ·refine zyp 9 (x := zB (decide (n < 1))) (zB true) (by rw [hs11]) ?_
  have qhs11 := of_decide_eq_true hs11
  refine zzm 10 (uw 2 false true 9) (zzm 11 (uw 2 false true 9) (zza 12 (zB true) (zza 13 (zB true) (zzm 14 (uw 6 false true 13) (zzm 15 (uw 6 false true 13) (zzm 16 (uw 6 false true 13) (zza 17 (zB true) (zzb (zyq xj (sq9 (zza 4 (zB false) ?_)))))))))))
  refine zzb (zzn (zzv (ret0 [.bool false] ⟨zzp, trivial⟩ fun u12 e13 => ?_)))
  show Value.bool _ = Value.bool _
  congr 1
  symm
  have h9hs11 := hs11
  simp at h9hs11
  exact decide_eq_false (fun h9 => by have k1 := h9.1; have k2 := h9.2.1; have k3 := h9.2.2.1; omega)
 refine zyp 9 (x := zB (decide (n < 1))) (zB false) (by rw [hs11]) ?_
 have qhs11 := of_decide_eq_false hs11
 refine zza 10 (zI n) ?_ (hw := w1 2 false 9)
 refine zza 11 (zB (decide ((64 : Int) < n))) ?_ (hw := w1 2 false 9)
 refine zza 12 (zB (decide ((64 : Int) < n))) ?_
 rcases Bool.eq_false_or_eq_true (decide ((64 : Int) < n)) with hs14 | hs14
 ·refine zyp 13 (x := zB (decide ((64 : Int) < n))) (zB true) (by rw [hs14]) ?_
  have qhs14 := of_decide_eq_true hs14
  refine zzm 14 (uw 6 false true 13) (zzm 15 (uw 6 false true 13) (zzm 16 (uw 6 false true 13) (zza 17 (zB true) (zzb (zyq xj (sq9 (zza 4 (zB false) (zzb (zzn (zzv (ret0 [.bool false] ⟨zzp, trivial⟩ fun u15 e16 => ?_)))))))))))
  show Value.bool _ = Value.bool _
  congr 1
  symm
  have h9hs11 := hs11
  simp at h9hs11
  have h9hs14 := hs14
  simp at h9hs14
  exact decide_eq_false (fun h9 => by have k1 := h9.1; have k2 := h9.2.1; have k3 := h9.2.2.1; omega)
 refine zyp 13 (x := zB (decide ((64 : Int) < n))) (zB false) (by rw [hs14]) ?_
 have qhs14 := of_decide_eq_false hs14
 refine zza 14 (.v (x.v)) ?_ (hw := w1 6 false 13)
 refine zza 15 (zI x.n) ?_ (hw := w1 6 false 13)
 refine zza 16 (zB (decide ((64 : Int) < (x.n : Int)))) ?_ (hw := w1 6 false 13)
 refine zza 17 (zB (decide ((64 : Int) < (x.n : Int)))) (zzb (zzt (b := decide ((64 : Int) < (x.n : Int))) xj (fun aa => ?_) (fun aa => ?_)))
 ·have qhb17 := of_decide_eq_true aa
  refine sq9 (zza 4 (zB false) (zzb (zzn (zzv (ret0 [.bool false] ⟨zzp, trivial⟩ fun u18 e19 => ?_)))))
  show Value.bool _ = Value.bool _
  congr 1
  symm
  have h9hs11 := hs11
  simp at h9hs11
  have h9hs14 := hs14
  simp at h9hs14
  have h9hb17 := aa
  simp at h9hb17
  exact decide_eq_false (fun h9 => by have k1 := h9.1; have k2 := h9.2.1; have k3 := h9.2.2.1; omega)
 have qhb17 := of_decide_eq_false aa
 refine zzr (zzo ?_)
 refine zzd (sq9 (zza 18 (.v (x.v)) (zza 19 (zI x.n) (zza 20 (zI 0) (zzb (zzs (zym (I := fun ah S' u' => ∃ (i : Nat), (ah = S.length - i) ∧ (i ≤ S.length) ∧ (∀ j, j < i → Nt.shOK n (S.getD j [])) ∧ (S' = St.of 29 [(1, zI n), (18, .v (x.v)), (19, zI x.n), (20, zI i)] []) ∧ (Ext u u')) (fun m S u1 u2 e h => by obtain ⟨i, hm, p0, p1, hS, hE⟩ := h; exact ⟨i, hm, p0, p1, hS, hE.trans e⟩) _ yz ⟨0, rfl, by omega, (fun j hj => absurd hj xq), rfl, (Ext.refl _)⟩ ?_)))))))
 rintro ah _ u20 ⟨i, aj, hi, hA, rfl, ae⟩
 refine sq9 (zza 21 (zB (decide ((i : Int) < (x.n : Int)))) (zzb (zzd (zzt (b := decide ((i : Int) < (x.n : Int))) xj (fun ab => ?_) (fun ab => ?_)))))
 ·have qhb21 := of_decide_eq_true ab
  refine zzr (zzo ?_)
  refine zzd (zzs (sq9 ?_))
  have hl22 := ((hx.ext ae)).len
  obtain ⟨b22, ai, af, ag⟩ := ir_at4 (hx.ext ae) (i := i) xq
  refine zzz 22 (ai + i * 4) (n := x.n) (off := ai) (sz := 4) (i := (i : Int)) xq af xq xq sl64 (zyl 23 [.int .i64 (gi S i 0), .int .i64 (gi S i 1), .int .i64 (gi S i 2), .int .i64 (gi S i 3)] ag ty90 (zzj 6 ⟨90, [.int .i64 0, .int .i64 0, .int .i64 0, .int .i64 0]⟩ (zzi ⟨90, [.int .i64 (gi S i 0), .int .i64 (gi S i 1), .int .i64 (gi S i 2), .int .i64 (gi S i 3)]⟩ ty90 ?_)))
  refine zzb (sq9 (zzh 24 (.v (.agg #[.int .i64 (gi S i 0), .int .i64 (gi S i 1), .int .i64 (gi S i 2), .int .i64 (gi S i 3)])) ty90 zze (zza 25 (zI n) (zzg 26 132 _ fun _ _ al ak => Post.mono (k_formed (t := gi S i 0) (f := gi S i 1) (cf := gi S i 2) (sh := gi S i 3) (n := n) ak) ?_))))
  rintro _ u24 am rfl
  refine zza 27 (zB (!(decide (Nt.shOK n [gi S i 0, gi S i 1, gi S i 2, gi S i 3])))) (zzb (zzt (b := !(decide (Nt.shOK n [gi S i 0, gi S i 1, gi S i 2, gi S i 3]))) xj (fun ac => ?_) (fun ac => ?_)))
  ·refine sq9 (zza 4 (zB false) (zzb (zzn (zyt (zzv (zys (zyt (zzv (ret0 [.bool false] ⟨zzp, trivial⟩ fun u28 e29 => ?_)))))))))
   show Value.bool _ = Value.bool _
   congr 1
   symm
   exact decide_eq_false (fun h9 => by have h8 := ac; have h7 := h9.2.2.2 i xq; rw [row4 hx.rows xq] at h7; simp [h7] at h8)
  have ad : Nt.shOK n (S.getD i []) := by rw [row4 hx.rows xq]; have h9 := ac; simpa using h9
  refine zzr (zzo ?_)
  refine zzf (zyp 28 (x := zI (IntKind.i64.wrap ((i : Int) + 1))) (zI (i + 1 : Nat)) (eqI xk) (zza 20 (zI (i + 1 : Nat)) (zzw ?_)))
  refine ⟨_, ?_, _, by exact zzu _ _ _, i + 1, rfl, by omega, (fun j hj => by rcases Nat.lt_or_ge j i with h9 | h9; exact hA j h9; (obtain rfl : j = i := by omega); exact ad), rfl, (ae.t (al.t am.ext))⟩
  omega
 have qhb21 := of_decide_eq_false ab
 refine zyb (zzo (sq9 (zza 4 (zB true) (zzb (zzn (ret0 [.bool true] ⟨zzp, trivial⟩ fun u30 e31 => ?_))))))
 show Value.bool _ = Value.bool _
 congr 1
 symm
 exact decide_eq_true ⟨by omega, by omega, by omega, fun j hj => hA j xq⟩
set_option maxHeartbeats 1000000 in
theorem k_dcheck {u w : World} {x y : Sl} {S : List (List Int)} {l : List Int} (d : Dat u w) (hx : IrV 4 u x S) (h9 : S.length ≤ 1000000) (hy : SlR .i64 u y.a y.n y.c l) (hb : ∀ z ∈ l, -9223372036854775808 ≤ z ∧ z ≤ 9223372036854775807) (h8 : l.length ≤ 1000000) : Calls Tryz.prog 114 #[x.v, y.v] w (Post u w fun v _ => v = .int .i64 (Nt.chkE S l)) := by
 have hlx : x.n = S.length := hx.len
 have hly : l.length = y.n := hy.1
 refine zzl (args := [x.v, y.v]) Tryz.func114 rfl Tryz.ntmps114 (rs := [.tmp 4]) Tryz.results114 (le_b rfl) (le_b rfl) d ?_
 refine sq9 (zza 4 (zI 0) (zzb (zzd (sq9 (zza 7 (.v (x.v)) (zza 8 (.v (y.v)) (zza 9 (zI y.n) (zzg 10 64 _ fun _ _ ag ap => Post.mono (k_dvalid (x := x) (n := (y.n : Int)) ap (hx.ext ag) xq) ?_))))))))
 rintro _ ao ah rfl
 refine zza 11 (zB (!(decide (Nt.shV (y.n : Int) S)))) (zzb (zzt (b := !(decide (Nt.shV (y.n : Int) S))) xj (fun aa => ?_) (fun aa => ?_)))
 ·refine sq9 (zza 4 (zI 2) (zzb (zzn (zzv (ret0 [.int .i64 2] ⟨zzp, trivial⟩ fun u16 e17 => ?_)))))
  show Value.int _ _ = Value.int _ _
  congr 1
  symm
  refine Nt.chk_bad (fun h9 => ?_)
  have h8 := aa
  rw [show ((l.length : Nat) : Int) = (y.n : Int) by omega] at h9
  simp [h9] at h8
 refine zzr (zzo ?_)
 refine zzd (sq9 (zza 12 (.v (y.v)) (zza 13 (zI y.n) (zza 14 (zI 0) (zzb (zzs (zym (I := fun aj S' u' => ∃ (i : Nat), (aj = l.length - i) ∧ (i ≤ l.length) ∧ (∀ j, j < i → -2147483648 ≤ l.getD j 0 ∧ l.getD j 0 ≤ 2147483647) ∧ (S' = St.of 23 [(12, .v (y.v)), (13, zI y.n), (14, zI i)] []) ∧ (Ext ao u')) (fun m S u1 u2 e h => by obtain ⟨i, hm, p0, p1, hS, hE⟩ := h; exact ⟨i, hm, p0, p1, hS, hE.trans e⟩) _ yz ⟨0, rfl, by omega, (fun j hj => absurd hj xq), rfl, (Ext.refl _)⟩ ?_)))))))
 rintro aj _ u18 ⟨i, ak, hi, hA, rfl, ae⟩
 refine sq9 (zza 15 (zB (decide ((i : Int) < (y.n : Int)))) (zzb (zzd (zzt (b := decide ((i : Int) < (y.n : Int))) xj (fun ac => ?_) (fun ac => ?_)))))
 ·have qhb19 := of_decide_eq_true ac
  refine zzr (zzo ?_)
  refine zzd (zzs (sq9 ?_))
  have hl20 := ((hy.ext (ag.t (ah.t ae)))).1
  obtain ⟨b20, ai, af, ad⟩ := ints_at (hy.ext (ag.t (ah.t ae))) (i := i) xq
  have hz20 := ints_bd hb xq i
  refine zzz 16 (ai + i * 1) (n := y.n) (off := ai) (sz := 1) (i := (i : Int)) xq af xq xq sl30 (zyk 17 (.int .i64 (l.getD i 0)) ad ty3 (zza 6 (zI (l.getD i 0)) (zzb (sq9 (zza 18 (zI (l.getD i 0)) (zza 19 (zI (l.getD i 0)) (zzg 20 190 _ fun _ _ am al => Post.mono (k_fxWrap (b := 32) (v := (l.getD i 0)) al xq xq) ?_)))))))
  rintro _ u22 an rfl
  refine zza 21 (zB ((l.getD i 0) != (Nt.wrapW 32 (l.getD i 0)))) (zzb (zzt (b := (l.getD i 0) != (Nt.wrapW 32 (l.getD i 0))) xj (fun ab => ?_) (fun ab => ?_)))
  ·refine sq9 (zza 4 (zI 17) (zzb (zzn (zyt (zzv (zys (zyt (zzv (ret0 [.int .i64 17] ⟨zzp, trivial⟩ fun u26 e27 => ?_)))))))))
   show Value.int _ _ = Value.int _ _
   congr 1
   symm
   have hV : Nt.shV (l.length : Int) S := by have h8 := aa; simp at h8; rw [show ((l.length : Nat) : Int) = (y.n : Int) by omega]; exact h8
   refine Nt.chk_not hV (fun h9 => ?_)
   have h8 := ab
   rw [Nt.wrap_ne] at h8
   have h7 := h9 i xq
   rw [decide_eq_true h7] at h8
   exact absurd h8 xw
  refine zzr (zzo ?_)
  refine zzf (zyp 22 (x := zI (IntKind.i64.wrap ((i : Int) + 1))) (zI (i + 1 : Nat)) (eqI xk) (zza 14 (zI (i + 1 : Nat)) (zzw ?_)))
  refine ⟨_, ?_, _, by exact zzu _ _ _, i + 1, rfl, by omega, (fun j hj => by rcases Nat.lt_or_ge j i with h9 | h9; exact hA j h9; (obtain rfl : j = i := by omega); have h8 := ab; rw [Nt.wrap_ne] at h8; exact of_decide_eq_true (Nt.bnot_f h8)), rfl, (ae.t (am.t an.ext))⟩
  omega
 have qhb19 := of_decide_eq_false ac
 refine zyb (zzo (sq9 (zza 4 (zI 0) (zzb (zzn (ret0 [.int .i64 0] ⟨zzp, trivial⟩ fun u28 e29 => ?_))))))
 show Value.int _ _ = Value.int _ _
 congr 1
 symm
 have hV : Nt.shV (l.length : Int) S := by have h8 := aa; simp at h8; rw [show ((l.length : Nat) : Int) = (y.n : Int) by omega]; exact h8
 exact Nt.chk_ok hV (fun j hj => hA j xq)
set_option maxHeartbeats 1000000 in
theorem k_cloneI {u w : World} {x : Sl} {l : List Int} (d : Dat u w) (hx : SlR .i64 u x.a x.n x.c l) (h0 : 0 < l.length) (h9 : l.length ≤ 1000000000) : Calls Tryz.prog 115 #[x.v] w (Post u w fun v u' => ∃ (b c : Nat) (X : List Value), v = .slice (some ⟨b, 0, none⟩) x.n c ∧ u.heap.size ≤ b ∧ u'.heap[b]? = some (.cells (ics l ++ X).toArray 3 (0, 0)) ∧ (ics l ++ X).length = c ∧ x.n ≤ c ∧ c ≤ maxLen) := by
 obtain ⟨xa, n0, c0⟩ := x
 obtain ⟨hn, h2, h3, h4⟩ := hx
 change l.length = n0 at hn
 obtain ⟨b0, o0, e, hb0, hc⟩ := h4 (by show 0 < n0; omega)
 change xa = _ at e
 subst e
 change ∀ i, i < n0 → _ at hc
 change Calls _ _ #[.slice (some ⟨b0, o0, none⟩) n0 c0] _ _
 refine zzl (args := [.slice (some ⟨b0, o0, none⟩) n0 c0]) Tryz.func115 rfl Tryz.ntmps115 (rs := [.tmp 2]) Tryz.results115 (le_b rfl) (le_b rfl) d ?_
 refine sq9 (zza 2 (.v (.slice none 0 0)) (zzb (zzd (sq9 (zza 3 (.v (.slice (some ⟨b0, o0, none⟩) n0 c0)) (zza 4 (zB false) (zzb (zyr xj (zzr (zzo ?_))))))))))
 refine sq9 (sy_lit 5 ⟨3, []⟩ 0 ?_)
 refine zza 6 (.v (.slice (some ⟨b0, o0, none⟩) n0 c0)) (sy_app1 7 (T := 30) (E := 3) (z := .int .i64 0) (size := 1) (bytes := 8) (b := b0) (off := o0) (m := n0) (c := c0) (n := 0) (cap := 0) (t := 5) (cs0 := []) [5, 7] (ics l) xj xj xj xw (by rw [zwi, hn, Nat.mul_one]) (fun j v hv => by have h9 := (List.getElem?_eq_some_iff.1 hv).1; rw [zwi] at h9; rw [hc j xq, ← hv, ics_at h9, List.getD_eq_getElem?_getD]) ics_one xq yq xq xq xw rfl xz ?_)
 intro c1 cs k1 k2 k3 k4
 refine zza 2 (.slc 7 0 (0 + n0) c1) (zzc 8 [(2, .slc 7 0 (0 + n0) c1)] [(7, ⟨3, cs⟩)] (zyo (r := 2) (t := 7) [2, 7] xz xj (by rfl) (by rfl) xj (fun b u2 e2 hb hh => ?_)))
 refine zzn (ret0 [.slice (some ⟨b, 0, none⟩) (0 + n0) c1] ⟨zzp, trivial⟩ fun u11 aa => ?_)
 rw [Nat.zero_add, Nat.mul_one] at k4
 rw [Nat.zero_add] at k1
 rw [Nat.mul_one] at k3
 change cs.take n0 = ics l at k4
 have e9 : cs = ics l ++ cs.drop n0 := by rw [← k4]; exact (List.take_append_drop n0 cs).symm
 refine ⟨b, c1, cs.drop n0, ?_, hb, ?_, by rw [← e9]; exact k3, k1, k2⟩
 ·show Value.slice _ (0 + n0) _ = _; rw [Nat.zero_add]
 rw [← e9]; exact aa.cells hh
set_option maxHeartbeats 2000000 in
theorem k_perform {u w : World} {g n c : Nat} {l : List Int} {X : List Value} {t f : Nat} {cf sh sg : Int} (d : Dat u w) (hg : w.heap[g]? = some (.cells (ics l ++ X).toArray 3 (0, 0))) (hu : u.heap[g]? = some hidO) (hl : l.length = n) (hW : Nt.W32 l) (hn9 : n ≤ 1000) (hs : Nt.shOK (n : Int) [(t : Int), (f : Int), cf, sh]) (hsg : sg = 1 ∨ sg = -1) : Calls Tryz.prog 116 #[.slice (some ⟨g, 0, none⟩) n c, .agg #[.int .i64 (t : Int), .int .i64 (f : Int), .int .i64 cf, .int .i64 sh], .int .i64 sg] w (PostL u w g fun V u' => V = ⟨3, ics (Nt.shF [(t : Int), (f : Int), cf, sh] sg l) ++ X⟩) := by
 obtain ⟨h1, h2, h3, h4, h5, h6, h7, h8⟩ := Nt.shOK_mk hs
 have hlt := hW.get t
 have hlf := hW.get f
 have hm := Nt.sh_mul (a := cf) (b := l.getD f 0) (A := 2097152) (B := 2147483648) ⟨h5, h6⟩ ⟨by omega, by omega⟩ xw
 have hsb := Nt.shift_bd2 (cf * l.getD f 0) sh
 have hsx := Nt.sg_bd (x := Nt.shiftW (cf * l.getD f 0) sh 2) (B := 4503599627370497) hsg ⟨by omega, by omega⟩
 refine calls_lent (args := [.agg #[.int .i64 (t : Int), .int .i64 (f : Int), .int .i64 cf, .int .i64 sh], .int .i64 sg]) Tryz.func116 rfl Tryz.ntmps116 Tryz.results116 (le_b rfl) d hg hu ?_
 refine sq9 (zzj 4 ⟨90, [.int .i64 t, .int .i64 f, .int .i64 cf, .int .i64 sh]⟩ (zzb (sq9 (zza 7 (.adr 4 3) (zzh 8 (zI sh) ty3 zzk (zzb (zzs (sq9 (zza 35 (zB (sh == (-1))) (zza 34 (zB (sh == (-1))) (zzb ?_)))))))))))
 refine zzt (b := sh == (-1)) xj (fun ad => ?_) (fun ad => ?_)
 ·have aa : sh = (-1) := by simpa using ad
  refine zzy [0, 0, 2, 0, 0, 16, 0, 0, 128, 448, 960, 0, 0, 4096, 14336, 30720, 65479, 131015, 262143, 524287] [(0, []), (1, []), (2, []), (3, []), (4, []), (5, []), (6, []), (7, []), (8, []), (9, []), (10, []), (11, []), (12, []), (13, []), (14, []), (15, []), (16, []), (17, [40]), (18, []), (19, [])] xj xj (zza 36 (.slc 67 0 n c) (zza 37 (.adr 4 0) (zzh 38 (zI t) ty3 zzk (zza 39 (.slc 67 0 n c) (zza 40 (.adr 4 1) (zzh 41 (zI f) ty3 zzk (zza 42 (.slc 67 0 n c) (zza 43 (.adr 4 1) (zzh 44 (zI f) ty3 zzk (zyv 45 (off' := f * 1) (n := n) (off := 0) (sz := 1) (i := (f : Int)) sl30 xq xq xq ?_))))))))))
  refine zzh 46 (V := ⟨3, ics l ++ X⟩) (off := f * 1) (zI (l.getD f 0)) ty3 (part_intsX (l := l) (i := f) (by rw [hl]; omega) rfl) (zza 47 (.slc 67 0 n c) (zza 48 (.adr 4 0) (zzh 49 (zI t) ty3 zzk (zyv 50 (off' := t * 1) (n := n) (off := 0) (sz := 1) (i := (t : Int)) sl30 xq xq xq ?_))))
  refine zzh 51 (V := ⟨3, ics l ++ X⟩) (off := t * 1) (zI (l.getD t 0)) ty3 (part_intsX (l := l) (i := t) (by rw [hl]; omega) rfl) (zyv 52 (off' := t * 1) (n := n) (off := 0) (sz := 1) (i := (t : Int)) sl30 xq xq xq ?_)
  refine zyu (V := ⟨3, ics l ++ X⟩) (off := t * 1) (ics (l.set t (l.getD f 0)) ++ X) ty3 (by rw [List.length_append, zwi, hl]; omega) (setL_intsX (z := (l.getD f 0)) (i := t) (by rw [hl]; omega) rfl) ?_
  refine zyv 53 (off' := f * 1) (n := n) (off := 0) (sz := 1) (i := (f : Int)) sl30 xq xq xq ?_
  refine zyu (V := ⟨3, ics (l.set t (l.getD f 0)) ++ X⟩) (off := f * 1) (ics ((l.set t (l.getD f 0)).set f (l.getD t 0)) ++ X) ty3 (by rw [List.length_append, zwi, (List.length_set.trans hl)]; omega) (setL_intsX (z := (l.getD t 0)) (i := f) (by rw [(List.length_set.trans hl)]; omega) rfl) ?_
  refine zzw ?_
  refine lent_end (V := ⟨3, ics ((l.set t (l.getD f 0)).set f (l.getD t 0)) ++ X⟩) rfl rfl (fun _ _ => ?_)
  rw [(Nt.shF_x aa)]
 have aa : ¬ sh = (-1) := by simpa using ad
 refine sq9 (zza 55 (zB (sh == (-2))) (zza 54 (zB (sh == (-2))) (zzb (zzt (b := sh == (-2)) xj (fun ac => ?_) (fun ac => ?_)))))
 ·have ab : sh = (-2) := by simpa using ac
  refine zzy [0, 0, 2, 0, 0, 16, 56, 120, 248, 504, 1023, 2047] [(0, []), (1, []), (2, []), (3, []), (4, []), (5, []), (6, []), (7, []), (8, []), (9, []), (10, []), (11, [])] xj xj (zza 56 (.slc 67 0 n c) (zza 57 (.adr 4 0) (zzh 58 (zI t) ty3 zzk (zza 59 (.slc 67 0 n c) (zza 60 (.adr 4 0) (zzh 61 (zI t) ty3 zzk (zyv 62 (off' := t * 1) (n := n) (off := 0) (sz := 1) (i := (t : Int)) sl30 xq xq xq ?_)))))))
  refine zzh 63 (V := ⟨3, ics l ++ X⟩) (off := t * 1) (zI (l.getD t 0)) ty3 (part_intsX (l := l) (i := t) (by rw [hl]; omega) rfl) (zyp 64 (x := zI (IntKind.i64.wrap (0 - (l.getD t 0)))) (zI (-(l.getD t 0))) (eqI xk) (zzg 65 190 _ fun _ _ _ ag => Post.mono (k_fxWrap (b := 32) (v := -(l.getD t 0)) ag xq xq) ?_))
  rintro _ u14 g15 rfl
  refine zyv 66 (off' := t * 1) (n := n) (off := 0) (sz := 1) (i := (t : Int)) sl30 xq xq xq ?_
  refine zyu (V := ⟨3, ics l ++ X⟩) (off := t * 1) (ics (l.set t (Nt.wrapW 32 (-(l.getD t 0)))) ++ X) ty3 (by rw [List.length_append, zwi, hl]; omega) (setL_intsX (z := Nt.wrapW 32 (-(l.getD t 0))) (i := t) (by rw [hl]; omega) rfl) ?_
  refine zzw ?_
  refine lent_end (V := ⟨3, ics (l.set t (Nt.wrapW 32 (-(l.getD t 0)))) ++ X⟩) rfl rfl (fun _ _ => ?_)
  rw [(Nt.shF_n ab)]
 have ab : ¬ sh = (-2) := by simpa using ac
 refine zzd (zzy [0, 1, 0, 0, 8, 28, 60, 127, 0, 256, 1023, 2047] [(0, []), (1, []), (2, []), (3, []), (4, []), (5, []), (6, []), (7, []), (8, []), (9, []), (10, []), (11, [])] xj xj (zza 9 (.adr 4 2) (zzh 10 (zI cf) ty3 zzk (zza 11 (.slc 67 0 n c) (zza 12 (.adr 4 1) (zzh 13 (zI f) ty3 zzk (zyv 14 (off' := f * 1) (n := n) (off := 0) (sz := 1) (i := (f : Int)) sl30 xq xq xq ?_)))))))
 refine zzh 15 (V := ⟨3, ics l ++ X⟩) (off := f * 1) (zI (l.getD f 0)) ty3 (part_intsX (l := l) (i := f) (by rw [hl]; omega) rfl) (zyp 16 (x := zI (IntKind.i64.wrap (cf * (l.getD f 0)))) (zI (cf * (l.getD f 0))) yv (zza 17 (.adr 4 3) (zzh 18 (zI sh) ty3 zzk (zzg 19 191 _ fun _ _ _ ae => Post.mono (k_fxShift2 (v := cf * (l.getD f 0)) (n := sh) ae xq xq xq xq) ?_))))
 rintro _ u18 g19 rfl
 refine zza 6 (zI (Nt.shiftW (cf * (l.getD f 0)) sh 2)) (zzc 67 [(0, .slc 67 0 n c), (2, zI sg), (4, .adr 4 0), (6, zI (Nt.shiftW (cf * (l.getD f 0)) sh 2))] [(4, ⟨90, [.int .i64 t, .int .i64 f, .int .i64 cf, .int .i64 sh]⟩), (67, ⟨3, ics l ++ X⟩)] (zzy [0, 0, 2, 0, 0, 16, 56, 120, 0, 0, 768, 2040, 4088, 8191, 16383] [(0, []), (1, []), (2, []), (3, []), (4, []), (5, []), (6, []), (7, []), (8, []), (9, []), (10, []), (11, []), (12, []), (13, []), (14, [])] xj xj (zza 20 (.slc 67 0 n c) (zza 21 (.adr 4 0) (zzh 22 (zI t) ty3 zzk (zza 23 (.slc 67 0 n c) (zza 24 (.adr 4 0) (zzh 25 (zI t) ty3 zzk (zyv 26 (off' := t * 1) (n := n) (off := 0) (sz := 1) (i := (t : Int)) sl30 xq xq xq ?_)))))))))
 refine zzh 27 (V := ⟨3, ics l ++ X⟩) (off := t * 1) (zI (l.getD t 0)) ty3 (part_intsX (l := l) (i := t) (by rw [hl]; omega) rfl) (zza 28 (zI sg) (zza 29 (zI (Nt.shiftW (cf * (l.getD f 0)) sh 2)) (zyp 30 (x := zI (IntKind.i64.wrap (sg * (Nt.shiftW (cf * (l.getD f 0)) sh 2)))) (zI (sg * (Nt.shiftW (cf * (l.getD f 0)) sh 2))) yv (zyp 31 (x := zI (IntKind.i64.wrap ((l.getD t 0) + (sg * (Nt.shiftW (cf * (l.getD f 0)) sh 2))))) (zI ((l.getD t 0) + (sg * (Nt.shiftW (cf * (l.getD f 0)) sh 2)))) yv (zzg 32 190 _ fun _ _ _ af => Post.mono (k_fxWrap (b := 32) (v := (l.getD t 0) + (sg * (Nt.shiftW (cf * (l.getD f 0)) sh 2))) af xq xq) ?_)))))
 rintro _ u22 g23 rfl
 refine zyv 33 (off' := t * 1) (n := n) (off := 0) (sz := 1) (i := (t : Int)) sl30 xq xq xq ?_
 refine zyu (V := ⟨3, ics l ++ X⟩) (off := t * 1) (ics (l.set t (Nt.wrapW 32 ((l.getD t 0) + (sg * (Nt.shiftW (cf * (l.getD f 0)) sh 2))))) ++ X) ty3 (by rw [List.length_append, zwi, hl]; omega) (setL_intsX (z := Nt.wrapW 32 ((l.getD t 0) + (sg * (Nt.shiftW (cf * (l.getD f 0)) sh 2)))) (i := t) (by rw [hl]; omega) rfl) ?_
 refine zzw ?_
 refine lent_end (V := ⟨3, ics (l.set t (Nt.wrapW 32 ((l.getD t 0) + (sg * (Nt.shiftW (cf * (l.getD f 0)) sh 2))))) ++ X⟩) rfl rfl (fun _ _ => ?_)
 rw [(Nt.shF_s aa ab)]
set_option maxHeartbeats 2000000 in
theorem k_dforward {u w : World} {x y : Sl} {S : List (List Int)} {l : List Int} (d : Dat u w) (hx : IrV 4 u x S) (h9 : S.length ≤ 1000000) (hy : SlR .i64 u y.a y.n y.c l) (hb : ∀ z ∈ l, -9223372036854775808 ≤ z ∧ z ≤ 9223372036854775807) (h8 : l.length ≤ 1000000) : Calls Tryz.prog 49 #[x.v, y.v] w (Post u w fun v u' => ∃ z : Sl, v = .tuple #[z.v, .int .i64 (Nt.chkE S l)] ∧ SlR .i64 u' z.a z.n z.c (Nt.fwdL S l)) := by
 have hlx : x.n = S.length := hx.len
 have hly : l.length = y.n := hy.1
 refine zzl (args := [x.v, y.v]) Tryz.func49 rfl Tryz.ntmps49 (rs := [.tmp 4, .tmp 5]) Tryz.results49 (le_b rfl) (le_b rfl) d ?_
 refine sq9 (zza 4 (.v (.slice none 0 0)) (zza 5 (zI 0) (zzb (zzd (sq9 (zza 10 (.v (x.v)) (zza 11 (.v (y.v)) (zzg 12 114 _ fun _ _ ae aI => Post.mono (k_dcheck (x := x) (y := y) aI (hx.ext ae) xq (hy.ext ae) hb xq) ?_))))))))
 rintro _ u12 ak rfl
 refine zza 6 (zI (Nt.chkE S l)) (zzb (sq9 (zza 13 (zI (Nt.chkE S l)) (zza 14 (zB ((Nt.chkE S l) != 0)) (zzb (zzt (b := (Nt.chkE S l) != 0) xj (fun ab => ?_) (fun ab => ?_)))))))
 ·have hE : ¬ Nt.chkE S l = 0 := by simpa using ab
  refine sq9 (zza 15 (zI (Nt.chkE S l)) (zza 4 (.v (.slice none 0 0)) (zza 5 (zI (Nt.chkE S l)) (zzb (zzn (zzv (ret0 [.slice none 0 0, .int .i64 (Nt.chkE S l)] ⟨zzp, zzp, trivial⟩ fun u16 e17 => ?_)))))))
  rw [show Nt.fwdL S l = [] from if_neg hE]
  exact ⟨sl0, rfl, rfl, Nat.le_refl _, Nat.zero_le _, fun h => absurd h (Nat.lt_irrefl 0)⟩
 have hE : Nt.chkE S l = 0 := by simpa using ab
 obtain ⟨hV, hW⟩ := Nt.chk_0 hE
 have hV1 := hV.1
 have hV2 := hV.2.1
 have hV3 := hV.2.2.1
 refine zzr (zzo ?_)
 refine sq9 (zza 16 (.v (y.v)) (zzg 17 115 _ fun _ _ am aD => Post.mono (k_cloneI (x := y) aD (hy.ext (ae.t (ak.t am))) xq xq) ?_))
 rintro _ u27 av ⟨aA, aa, al, rfl, ac, ap, aj, ag, ai⟩
 refine zza 7 (.v (.slice (some ⟨aA, 0, none⟩) y.n aa)) (zzb (zzd (zzd (sw_adopt (r := 7) (k := 7) (cs := ics l ++ al) (by rfl) ap (Nat.le_trans ((ae.t (ak.t am)).size) ac) xj (fun az af => ?_)))))
 refine zzf (zza 18 (.v (x.v)) (zza 19 (zI x.n) (zza 20 (zI 0) (zzb (zzs (zym (I := fun aw S' u' => ∃ (i : Nat), (aw = S.length - i) ∧ (i ≤ S.length) ∧ (S' = St.of 29 [(7, .slc 7 0 y.n aa), (18, .v (x.v)), (19, zI x.n), (20, zI i)] [(7, ⟨3, ics (Nt.shFs (S.take i) l) ++ al⟩)]) ∧ (Ext az u')) (fun m S u1 u2 e h => by obtain ⟨i, hm, p0, hS, hE⟩ := h; exact ⟨i, hm, p0, hS, hE.trans e⟩) _ yz ⟨0, rfl, by omega, rfl, (Ext.refl _)⟩ ?_))))))
 rintro aw _ aH ⟨i, aE, hi, rfl, an⟩
 refine sq9 (zza 21 (zB (decide ((i : Int) < (x.n : Int)))) (zzb (zzd (zzt (b := decide ((i : Int) < (x.n : Int))) xj (fun ad => ?_) (fun ad => ?_)))))
 ·have qhb33 := of_decide_eq_true ad
  refine zzr (zzo ?_)
  refine zzd (zzs (sq9 ?_))
  have hl34 := ((hx.ext (ae.t (ak.t (am.trans ((ExtB.old af av.ext ac).trans an)))))).len
  obtain ⟨b34, ax, au, ar⟩ := ir_at4 (hx.ext (ae.t (ak.t (am.trans ((ExtB.old af av.ext ac).trans an))))) (i := i) xq
  refine zzz 22 (ax + i * 4) (n := x.n) (off := ax) (sz := 4) (i := (i : Int)) xq au xq xq sl64 (zyl 23 [.int .i64 (gi S i 0), .int .i64 (gi S i 1), .int .i64 (gi S i 2), .int .i64 (gi S i 3)] ar ty90 (zzj 9 ⟨90, [.int .i64 0, .int .i64 0, .int .i64 0, .int .i64 0]⟩ (zzi ⟨90, [.int .i64 (gi S i 0), .int .i64 (gi S i 1), .int .i64 (gi S i 2), .int .i64 (gi S i 3)]⟩ ty90 ?_)))
  refine zzb ?_
  have hsO := hV.2.2.2 i xq
  rw [row4 hx.rows xq] at hsO
  obtain ⟨tz, htz⟩ : ∃ t : Nat, gi S i 0 = (t : Int) := ⟨(gi S i 0).toNat, by have h9 : 0 ≤ gi S i 0 := hsO.1; omega⟩
  obtain ⟨fz, hfz⟩ : ∃ t : Nat, gi S i 1 = (t : Int) := ⟨(gi S i 1).toNat, by have h9 : 0 ≤ gi S i 1 := hsO.2.2.1; omega⟩
  rw [htz, hfz]
  rw [htz, hfz] at hsO
  refine zzf (zza 24 (.slc 7 0 y.n aa) (zzh 25 (.v (.agg #[.int .i64 tz, .int .i64 fz, .int .i64 (gi S i 2), .int .i64 (gi S i 3)])) ty90 zze ?_))
  have kc35 := fun (g : Nat) (w u1 : World) (e : Ext aH u1) (d : Dat u1 w) (hg : w.heap[g]? = some (.cells (ics (Nt.shFs (S.take i) l) ++ al).toArray 3 (0, 0))) (hu : u1.heap[g]? = some hidO) => k_perform (n := y.n) (c := aa) (t := tz) (f := fz) (cf := gi S i 2) (sh := gi S i 3) (sg := 1) d hg hu (Nt.shFs_len.trans hly) (Nt.shFs_w32 hW) xq (by rw [show ((y.n : Nat) : Int) = (l.length : Int) by omega]; exact hsO) xw
  refine sy_lend 26 116 (t := 7) (V := ⟨3, ics (Nt.shFs (S.take i) l) ++ al⟩) (len := y.n) (cap := aa) [.agg #[.int .i64 tz, .int .i64 fz, .int .i64 (gi S i 2), .int .i64 (gi S i 3)], .int .i64 1] xj kc35 ?_
  clear kc35
  rintro _ u35 aG rfl
  refine zzw ?_
  refine zzo (zzf (zyp 27 (x := zI (IntKind.i64.wrap ((i : Int) + 1))) (zI (i + 1 : Nat)) (eqI xk) (zza 20 (zI (i + 1 : Nat)) (zzw ?_))))
  have ay : Nt.shFs (S.take (i + 1)) l = Nt.shF [(tz : Int), (fz : Int), gi S i 2, gi S i 3] 1 (Nt.shFs (S.take i) l) := by rw [Nt.shFs_snoc S i xq, row4 hx.rows xq, htz, hfz]
  rw [← ay]
  refine ⟨_, ?_, _, by exact zzu _ _ _, i + 1, rfl, by omega, rfl, (an.trans aG)⟩
  omega
 have qhb33 := of_decide_eq_false ad
 refine zyb (zzo (zzd (zyo (r := 7) (t := 7) [7] xz xj (by rfl) (by rfl) xj (fun ah aB e38 aF ao => ?_))))
 have aq : SlR .i64 aB (some ⟨ah, 0, none⟩) y.n aa (Nt.shFs (S.take i) l) := ints_dataX ao (Nt.shFs_len.trans hly) aj ag ai
 refine zzf (zza 28 (.v (.slice (some ⟨ah, 0, none⟩) y.n aa)) (zza 4 (.v (.slice (some ⟨ah, 0, none⟩) y.n aa)) (zza 5 (zI 0) (zzb (zzn (ret0 [.slice (some ⟨ah, 0, none⟩) y.n aa, .int .i64 0] ⟨zzp, zzp, trivial⟩ fun u42 aC => ?_))))))
 rw [show Nt.fwdL S l = Nt.shFs S l from if_pos hE, hE]
 refine ⟨(⟨some ⟨ah, 0, none⟩, y.n, aa⟩ : Sl), rfl, ?_⟩
 have h7 := (aq.ext aC)
 rw [show i = S.length by omega, List.take_length] at h7
 exact h7
namespace Nt
def flr (q : Rat) : Int := q.num / (q.den : Int)
def dnQ (q : Rat) (k : Nat) : Rat := mkRat (flr (q * ((2 ^ k : Nat) : Rat))) (2 ^ k)
theorem flr_mk {z : Int} {D : Nat} (hD : 0 < D) : flr (mkRat z D) = z / (D : Int) := by
 have h1 : mkRat z D = mkRat (mkRat z D).num (mkRat z D).den := (Rat.mkRat_self _).symm
 rw [Rat.mkRat_eq_iff xq (by have := (mkRat z D).den_pos; omega)] at h1
 have hd := (mkRat z D).den_pos
 unfold flr
 generalize (mkRat z D).num = n at *
 generalize (mkRat z D).den = d at *
 have e1 : z / (D : Int) = ((d : Int) * z) / ((d : Int) * (D : Int)) := (Int.mul_ediv_mul_of_pos _ _ xq).symm
 have e2 : n / (d : Int) = ((D : Int) * n) / ((D : Int) * (d : Int)) := (Int.mul_ediv_mul_of_pos _ _ xq).symm
 rw [e1, e2, Int.mul_comm (d : Int) z, h1, Int.mul_comm n, Int.mul_comm (d : Int)]
theorem shl_mk (z : Int) (D m : Nat) : mkRat z D * ((m : Nat) : Rat) = mkRat (z * (m : Int)) D := by
 rw [Rat.mkRat_eq_div, Rat.mkRat_eq_div, Rat.intCast_mul]
 show (z : Rat) / (D : Rat) * (m : Rat) = (z : Rat) * ((m : Int) : Rat) / (D : Rat)
 have : ((m : Int) : Rat) = (m : Rat) := rfl
 rw [this]
 grind
theorem dn_mk {z : Int} {D k : Nat} (hD : 0 < D) : dnQ (mkRat z D) k = mkRat ((z * ((2 ^ k : Nat) : Int)) / (D : Int)) (2 ^ k) := by
 unfold dnQ
 rw [shl_mk, flr_mk hD]
theorem sg_mulN {s : Bool} {N m : Nat} : sg s ((sg s N).natAbs * m) = sg s N * (m : Int) := by
 rw [sg_abs]
 unfold sg
 cases s
 ·simp
 simp [Int.neg_mul]
theorem rdiv0 {s : Bool} {N D : Nat} (hD : 0 < D) (h : ¬ (s = true ∧ 0 < N % D)) : sg s N / (D : Int) = sg (!(s == false)) (N / D) ∧ sg s N % (D : Int) = sg false (N % D) := by
 have hm := Nat.mod_lt N hD
 have hk := Nat.div_add_mod N D
 have hk2 : (N : Int) = (D : Int) * ((N / D : Nat) : Int) + ((N % D : Nat) : Int) := by rw [← Int.natCast_mul, ← Int.natCast_add, hk]
 apply ediv_uniq xq
 ·unfold sg
  cases s
  ·simpa using hk2
  have h0 : N % D = 0 := by simp at h; omega
  rw [h0] at hk2 ⊢
  generalize N / D = Q at *
  simp [Int.mul_neg]
  omega
 ·unfold sg; simp; omega
 unfold sg; simp; omega
theorem rdiv1 {N D : Nat} (hD : 0 < D) (h : 0 < N % D) : sg true N / (D : Int) = sg (!(true == false)) (N / D + 1) ∧ sg true N % (D : Int) = sg false (D - N % D) := by
 have hm := Nat.mod_lt N hD
 have hk := Nat.div_add_mod N D
 have hk2 : (N : Int) = (D : Int) * ((N / D : Nat) : Int) + ((N % D : Nat) : Int) := by rw [← Int.natCast_mul, ← Int.natCast_add, hk]
 apply ediv_uniq xq
 ·unfold sg
  simp
  rw [show ((N : Int) / (D : Int)) = ((N / D : Nat) : Int) from rfl, show ((D - N % D : Nat) : Int) = (D : Int) - ((N % D : Nat) : Int) by omega, Int.mul_neg, Int.mul_add]
  omega
 ·unfold sg; simp
 unfold sg; simp; omega
end Nt
end Go.Proofs.YtbolmkfphieogaaGreat
namespace Go.Proofs.YtbolmkfphieogaaGreat
namespace Nt
def sgn (j : Nat) : Rat := if j % 2 = 0 then 1 else -1
theorem sgn_s (j : Nat) : sgn (j + 1) = -sgn j := by
 unfold sgn
 rcases Nat.mod_two_eq_zero_or_one j with h | h
 ·rw [if_pos h, if_neg (show ¬ (j + 1) % 2 = 0 by omega)]
 rw [if_neg (show ¬ j % 2 = 0 by omega), if_pos (show (j + 1) % 2 = 0 by omega)]; rfl
theorem sgn_or (j : Nat) : sgn j = 1 ∨ sgn j = -1 := by unfold sgn; split <;> simp
def alt (a : Nat → Rat) : Nat → Rat
 | 0 => 0
 | n + 1 => alt a n + sgn n * a n
theorem alt_s (a : Nat → Rat) (n : Nat) : alt a (n + 1) = alt a n + sgn n * a n := rfl
theorem alt_tail {a : Nat → Rat} {j0 : Nat} (h0 : ∀ j, 0 ≤ a j) (hd : ∀ j, j0 ≤ j → a (j + 1) ≤ a j) : ∀ d j, j0 ≤ j → 0 ≤ sgn j * (alt a (j + d) - alt a j) ∧ sgn j * (alt a (j + d) - alt a j) ≤ a j := by
 intro d
 induction d with
 | zero => intro j _; have := h0 j; rw [Nat.add_zero, Rat.sub_self, Rat.mul_zero]; exact ⟨Rat.le_refl, this⟩
 | succ d ih =>
  intro j hj
  have h1 := ih (j + 1) xq
  have h2 := hd j hj
  have h3 := h0 (j + 1)
  rw [show j + 1 + d = j + (d + 1) by omega, sgn_s, alt_s] at h1
  generalize alt a (j + (d + 1)) = x at *
  generalize alt a j = y at *
  rcases sgn_or j with e | e <;> rw [e] at h1 ⊢ <;> grind
theorem alt_near {a : Nat → Rat} {j0 j m : Nat} (h0 : ∀ j, 0 ≤ a j) (hd : ∀ j, j0 ≤ j → a (j + 1) ≤ a j) (hj : j0 ≤ j) (hm : j ≤ m) : alt a j - a j ≤ alt a m ∧ alt a m ≤ alt a j + a j := by
 obtain ⟨d, rfl⟩ : ∃ d, m = j + d := ⟨m - j, by omega⟩
 have h1 := alt_tail h0 hd d j hj
 rcases sgn_or j with e | e <;> rw [e] at h1 <;> grind
theorem div_nn {x y : Rat} (hx : 0 ≤ x) (hy : 0 < y) : 0 ≤ x / y := by
 rw [Rat.div_def]; exact Rat.mul_nonneg hx (Rat.le_of_lt (Rat.inv_pos.2 hy))
theorem div_mul_c {x y : Rat} (hy : 0 < y) : x / y * y = x := by
 rw [Rat.div_def, Rat.mul_assoc, Rat.inv_mul_cancel _ (by grind), Rat.mul_one]
theorem le_dv {x y z : Rat} (hy : 0 < y) (h : x * y ≤ z) : x ≤ z / y := by
 refine Rat.le_of_mul_le_mul_right (c := y) ?_ hy
 rw [div_mul_c hy]; exact h
theorem dv_le {x y z : Rat} (hy : 0 < y) (h : z ≤ x * y) : z / y ≤ x := by
 refine Rat.le_of_mul_le_mul_right (c := y) ?_ hy
 rw [div_mul_c hy]; exact h
theorem div_le_self {x y : Rat} (hx : 0 ≤ x) (hy : 1 ≤ y) : x / y ≤ x := by
 refine dv_le (by grind) ?_
 have := Rat.mul_le_mul_of_nonneg_left (a := 1) (b := y) (c := x) hy hx
 grind
theorem div_mono {x x' y : Rat} (hy : 0 < y) (h : x ≤ x') : x / y ≤ x' / y := by
 refine le_dv hy ?_
 rw [div_mul_c hy]; exact h
theorem mulm {a b c d : Rat} (h1 : a ≤ b) (h2 : c ≤ d) (h3 : 0 ≤ a) (h4 : 0 ≤ c) : a * c ≤ b * d :=
 Rat.le_trans (Rat.mul_le_mul_of_nonneg_right h1 h4) (Rat.mul_le_mul_of_nonneg_left h2 (Rat.le_trans h3 h1))
def atP (n : Nat) : Nat → Rat
 | 0 => 1 / (n : Rat)
 | j + 1 => atP n j / ((n * n : Nat) : Rat)
def atT (n j : Nat) : Rat := atP n j / ((2 * j + 1 : Nat) : Rat)
theorem cast_pos {n : Nat} (h : 0 < n) : (0 : Rat) < (n : Rat) := by
 have : ((0 : Nat) : Rat) < (n : Rat) := Rat.natCast_lt_natCast.2 h
 exact this
theorem cast_one {n : Nat} (h : 0 < n) : (1 : Rat) ≤ (n : Rat) := by
 have : ((1 : Nat) : Rat) ≤ (n : Rat) := Rat.natCast_le_natCast.2 h
 exact this
theorem atP_nn {n : Nat} (hn : 0 < n) : ∀ j, 0 ≤ atP n j
 | 0 => div_nn xw (cast_pos hn)
 | j + 1 => div_nn (atP_nn hn j) (cast_pos (Nat.mul_pos hn hn))
theorem atT_nn {n : Nat} (hn : 0 < n) (j : Nat) : 0 ≤ atT n j := div_nn (atP_nn hn j) (cast_pos xq)
theorem atP_le {n : Nat} (hn : 0 < n) (j : Nat) : atP n (j + 1) ≤ atP n j := div_le_self (atP_nn hn j) (cast_one (Nat.mul_pos hn hn))
theorem atT_le {n : Nat} (hn : 0 < n) (j : Nat) : atT n (j + 1) ≤ atT n j := by
 have h1 := atP_le hn j
 have h2 := atP_nn hn (j + 1)
 refine Rat.le_trans (b := atP n (j + 1) / ((2 * j + 1 : Nat) : Rat)) ?_ (div_mono (cast_pos xq) h1)
 refine dv_le (cast_pos xq) ?_
 have h3 : ((2 * j + 1 : Nat) : Rat) ≤ ((2 * (j + 1) + 1 : Nat) : Rat) := Rat.natCast_le_natCast.2 xq
 have h4 := Rat.mul_le_mul_of_nonneg_left (c := atP n (j + 1) / ((2 * j + 1 : Nat) : Rat)) h3 (div_nn h2 (cast_pos xq))
 rw [div_mul_c (cast_pos xq)] at h4
 exact h4
def piN (m : Nat) : Rat := 16 * alt (atT 5) m - 4 * alt (atT 239) m
theorem atT_b {n : Nat} (hn : 0 < n) {m : Nat} (hm : 1 ≤ m) : atT n 0 - atT n 1 ≤ alt (atT n) m ∧ alt (atT n) m ≤ atT n 0 := by
 obtain ⟨d, rfl⟩ : ∃ d, m = 1 + d := ⟨m - 1, by omega⟩
 have h1 := alt_tail (j0 := 0) (atT_nn hn) (fun j _ => atT_le hn j) d 1 xq
 have h2 : alt (atT n) 1 = atT n 0 := by show 0 + (1 : Rat) * atT n 0 = _; grind
 have h3 : sgn 1 = -1 := rfl
 rw [h2, h3] at h1
 grind
theorem piN_b {m : Nat} (hm : 1 ≤ m) : 157 / 50 ≤ piN m ∧ piN m ≤ 16 / 5 := by
 have h1 := atT_b (n := 5) xw hm
 have h2 := atT_b (n := 239) xw hm
 have e1 : atT 5 0 = 1 / 5 := by decide +kernel
 have e2 : atT 5 1 = 1 / 375 := by decide +kernel
 have e3 : atT 239 0 = 1 / 239 := by decide +kernel
 have e4 : atT 239 0 - atT 239 1 ≥ 0 := by decide +kernel
 unfold piN
 rw [e1, e2] at h1
 rw [e3] at h2 e4
 constructor
 ·have : (157 / 50 : Rat) ≤ 16 * (1 / 5 - 1 / 375) - 4 * (1 / 239) := by decide +kernel
  grind
 have : (16 : Rat) * (1 / 5) ≤ 16 / 5 := by decide +kernel
 grind
def csT (y : Rat) : Nat → Rat
 | 0 => 1
 | j + 1 => csT y j * (y * y) / (((2 * j + 2) * (2 * j + 1) : Nat) : Rat)
theorem csq_nn (y : Rat) : 0 ≤ y * y := by
 rcases Rat.le_total (a := 0) (b := y) with h | h
 ·exact Rat.mul_nonneg h h
 have h1 : 0 ≤ -y := by grind
 have h2 := Rat.mul_nonneg h1 h1
 grind
theorem csT_nn (y : Rat) : ∀ j, 0 ≤ csT y j
 | 0 => by show (0 : Rat) ≤ 1; decide
 | j + 1 => div_nn (Rat.mul_nonneg (csT_nn y j) (csq_nn y)) (cast_pos (Nat.mul_pos xq xq))
theorem csT_le {y : Rat} (hy : y * y ≤ 12) : ∀ j, 1 ≤ j → csT y (j + 1) ≤ csT y j := by
 intro j hj
 refine dv_le (cast_pos (Nat.mul_pos xq xq)) ?_
 refine Rat.mul_le_mul_of_nonneg_left ?_ (csT_nn y j)
 have : ((12 : Nat) : Rat) ≤ (((2 * j + 2) * (2 * j + 1) : Nat) : Rat) := Rat.natCast_le_natCast.2 (by
  have := Nat.mul_le_mul (show 4 ≤ 2 * j + 2 by omega) (show 3 ≤ 2 * j + 1 by omega); omega)
 exact Rat.le_trans hy this
def csY (p q m : Nat) : Rat := piN m * (p : Rat) / (q : Rat)
def coN (p q m : Nat) : Rat := alt (csT (csY p q m)) m
def cdiv (b d : Int) : Int := -((-b) / d)
theorem fl_mul {a d : Int} (hd : 0 < d) : a / d * d ≤ a ∧ a - d + 1 ≤ a / d * d := by
 have h1 := Int.ediv_mul_le a (b := d) xq
 have h2 := Int.lt_ediv_add_one_mul_self a hd
 rw [Int.add_mul, Int.one_mul] at h2
 omega
theorem cd_mul {b d : Int} (hd : 0 < d) : b ≤ cdiv b d * d ∧ cdiv b d * d ≤ b + d - 1 := by
 have h1 := fl_mul (a := -b) hd
 unfold cdiv
 rw [Int.neg_mul]
 omega
theorem cd_eq0 {b d : Int} (hd : 0 < d) (h : b % d = 0) : cdiv b d = b / d := by
 have h1 := Int.emod_add_mul_ediv b d
 unfold cdiv
 have h2 : -b = d * (-(b / d)) := by rw [Int.mul_neg]; omega
 rw [h2, Int.mul_ediv_cancel_left _ xq]; omega
theorem cd_eq1 {b d : Int} (hd : 0 < d) (h : ¬ b % d = 0) : cdiv b d = b / d + 1 := by
 have h1 := Int.emod_add_mul_ediv b d
 have h2 := Int.emod_nonneg b (b := d) xq
 have h3 := Int.emod_lt_of_pos b hd
 have h4 := cd_mul (b := b) hd
 have h5 : b / d * d < cdiv b d * d := by rw [Int.mul_comm]; omega
 have h6 : cdiv b d * d < (b / d + 2) * d := by rw [Int.add_mul, Int.mul_comm (b / d)]; omega
 have h7 := Int.lt_of_mul_lt_mul_right h5 xq
 have h8 := Int.lt_of_mul_lt_mul_right h6 xq
 omega
theorem cd_width {a b d : Int} (hd : 0 < d) : (cdiv b d - a / d) * d ≤ b - a + 2 * d - 2 := by
 have h1 := fl_mul (a := a) hd
 have h2 := cd_mul (b := b) hd
 rw [Int.sub_mul]; omega
theorem cast_mul_le {a b c : Int} (h : a * b ≤ c) : (a : Rat) * (b : Rat) ≤ (c : Rat) := by
 have := Rat.intCast_le_intCast.2 h
 rwa [Rat.intCast_mul] at this
theorem castI_pos {d : Int} (h : 0 < d) : (0 : Rat) < (d : Rat) := by
 have := Rat.intCast_lt_intCast.2 h
 exact this
theorem fl_le {a d : Int} {z : Rat} (hd : 0 < d) (h : (a : Rat) ≤ z) : ((a / d : Int) : Rat) ≤ z / (d : Rat) := by
 refine le_dv (castI_pos hd) (Rat.le_trans (cast_mul_le (fl_mul (a := a) hd).1) h)
theorem le_ce {b d : Int} {z : Rat} (hd : 0 < d) (h : z ≤ (b : Rat)) : z / (d : Rat) ≤ ((cdiv b d : Int) : Rat) := by
 refine dv_le (castI_pos hd) (Rat.le_trans h ?_)
 have := Rat.intCast_le_intCast.2 (cd_mul (b := b) hd).1
 rwa [Rat.intCast_mul] at this
def Enc (U : Int) (lo hi : Int) (x : Rat) : Prop := (lo : Rat) ≤ x * (U : Rat) ∧ x * (U : Rat) ≤ (hi : Rat)
section
variable {U a b a' b' d : Int} {x y : Rat}
theorem Enc.over (h : Enc U a b x) (hd : 0 < d) : Enc U (a / d) (cdiv b d) (x / (d : Rat)) := by
 have h1 := fl_le hd h.1
 have h2 := le_ce hd h.2
 have e : x / (d : Rat) * (U : Rat) = x * (U : Rat) / (d : Rat) := by rw [Rat.div_def, Rat.div_def]; grind
 unfold Enc
 rw [e]
 exact ⟨h1, h2⟩
theorem Enc.add (h : Enc U a b x) (k : Enc U a' b' y) : Enc U (a + a') (b + b') (x + y) := by
 obtain ⟨h1, h2⟩ := h
 obtain ⟨k1, k2⟩ := k
 unfold Enc
 rw [Rat.intCast_add, Rat.intCast_add]
 constructor <;> grind
theorem Enc.sub (h : Enc U a b x) (k : Enc U a' b' y) : Enc U (a - b') (b - a') (x - y) := by
 obtain ⟨h1, h2⟩ := h
 obtain ⟨k1, k2⟩ := k
 unfold Enc
 rw [Rat.intCast_sub, Rat.intCast_sub]
 constructor <;> grind
theorem Enc.times {n : Nat} (h : Enc U a b x) : Enc U (a * (n : Int)) (b * (n : Int)) (x * (n : Rat)) := by
 obtain ⟨h1, h2⟩ := h
 have hn : (0 : Rat) ≤ (n : Rat) := by
  have : ((0 : Nat) : Rat) ≤ (n : Rat) := Rat.natCast_le_natCast.2 (Nat.zero_le n)
  exact this
 have k1 := Rat.mul_le_mul_of_nonneg_right h1 hn
 have k2 := Rat.mul_le_mul_of_nonneg_right h2 hn
 have e : (((n : Nat) : Int) : Rat) = (n : Rat) := rfl
 unfold Enc
 rw [Rat.intCast_mul, Rat.intCast_mul, e]
 constructor <;> grind
theorem Enc.near {r : Rat} (h : Enc U a b x) (h1 : x - r ≤ y) (h2 : y ≤ x + r) (hr : r * (U : Rat) ≤ 1) (hU : 0 < U) : Enc U (a - 1) (b + 1) y := by
 obtain ⟨k1, k2⟩ := h
 have k3 := Rat.mul_le_mul_of_nonneg_right h1 (Rat.le_of_lt (castI_pos hU))
 have k4 := Rat.mul_le_mul_of_nonneg_right h2 (Rat.le_of_lt (castI_pos hU))
 unfold Enc
 rw [Rat.intCast_sub, Rat.intCast_add]
 have e : ((1 : Int) : Rat) = 1 := rfl
 rw [e]
 constructor <;> grind
theorem Enc.prod (h : Enc U a b x) (k : Enc U a' b' y) (ha : 0 ≤ a) (ha' : 0 ≤ a') (hU : 0 < U) : Enc U (a * a' / U) (cdiv (b * b') U) (x * y) := by
 obtain ⟨h1, h2⟩ := h
 obtain ⟨k1, k2⟩ := k
 have za : (0 : Rat) ≤ (a : Rat) := Rat.intCast_le_intCast.2 ha
 have za' : (0 : Rat) ≤ (a' : Rat) := Rat.intCast_le_intCast.2 ha'
 have m1 := mulm h1 k1 za za'
 have m2 := mulm h2 k2 (Rat.le_trans za h1) (Rat.le_trans za' k1)
 rw [← Rat.intCast_mul] at m1 m2
 have r1 := fl_le hU m1
 have r2 := le_ce hU m2
 have e : x * (U : Rat) * (y * (U : Rat)) / (U : Rat) = x * y * (U : Rat) := by
  have := castI_pos hU
  rw [Rat.div_def]
  have e2 : (U : Rat) * (U : Rat)⁻¹ = 1 := Rat.mul_inv_cancel _ (by grind)
  grind
 rw [e] at r1 r2
 exact ⟨r1, r2⟩
theorem Enc.lo_le {c : Int} (h : Enc U a b x) (hx : x * (U : Rat) ≤ (c : Rat)) : a ≤ c := Rat.intCast_le_intCast.1 (Rat.le_trans h.1 hx)
theorem Enc.le_hi {c : Int} (h : Enc U a b x) (hx : (c : Rat) ≤ x * (U : Rat)) : c ≤ b := Rat.intCast_le_intCast.1 (Rat.le_trans hx h.2)
theorem Enc.le (h : Enc U a b x) : a ≤ b := Rat.intCast_le_intCast.1 (Rat.le_trans h.1 h.2)
theorem Enc.nonneg (h : Enc U a b x) (hx : 0 ≤ x) (hU : 0 < U) : 0 ≤ b := h.le_hi (c := 0) (Rat.mul_nonneg hx (Rat.le_of_lt (castI_pos hU)))
theorem Enc.one : Enc U U U 1 := by unfold Enc; rw [Rat.one_mul]; exact ⟨Rat.le_refl, Rat.le_refl⟩
end
theorem fl_nn {a d : Int} (ha : 0 ≤ a) (hd : 0 < d) : 0 ≤ a / d := Int.ediv_nonneg ha xq
theorem cd_le {b d c : Int} (hd : 0 < d) (h : b ≤ c * d) : cdiv b d ≤ c := by
 have h1 := (cd_mul (b := b) hd).2
 have h2 : cdiv b d * d < (c + 1) * d := by rw [Int.add_mul]; omega
 have := Int.lt_of_mul_lt_mul_right h2 xq
 omega
theorem cd_ge {b d c : Int} (hd : 0 < d) (h : c * d < b) : c + 1 ≤ cdiv b d := by
 have h1 := (cd_mul (b := b) hd).1
 have h2 : c * d < cdiv b d * d := by omega
 have := Int.lt_of_mul_lt_mul_right h2 xq
 omega
theorem cd_self {b d : Int} (hb : 0 ≤ b) (hd : 0 < d) : cdiv b d ≤ b := cd_le hd (by
 have := Int.mul_le_mul_of_nonneg_left (show 1 ≤ d by omega) hb; omega)
theorem cd_half {b d : Int} (hb : 2 ≤ b) (hd : 3 ≤ d) : 2 * cdiv b d ≤ b := by
 have h1 := cd_mul (b := b) (show 0 < d by omega)
 rcases Int.lt_or_le b (2 * cdiv b d) with h | h
 ·exfalso
  have h2 : (b + 1) * d ≤ 2 * cdiv b d * d := Int.mul_le_mul_of_nonneg_right xq xq
  have e : 2 * cdiv b d * d = 2 * (cdiv b d * d) := Int.mul_assoc ..
  rw [Int.add_mul, Int.one_mul, e] at h2
  have h3 : b * 3 ≤ b * d := Int.mul_le_mul_of_nonneg_left hd xq
  have h4 : (b - 2) * 3 ≤ (b - 2) * d := Int.mul_le_mul_of_nonneg_left hd xq
  rw [Int.sub_mul, Int.sub_mul] at h4
  omega
 exact h
theorem w3 {a b d : Int} (h : b - a ≤ 3) (hd : 0 < d) : cdiv b d - a / d ≤ 3 := by
 have h1 := cd_width (a := a) (b := b) hd
 rcases Int.lt_or_le 3 (cdiv b d - a / d) with h2 | h2
 ·have h3 := Int.mul_le_mul_of_nonneg_right (show 4 ≤ cdiv b d - a / d by omega) (show 0 ≤ d by omega)
  omega
 exact h2
end Nt
namespace Nt
def u2 (w : Nat) : Int := ((2 ^ w : Nat) : Int)
theorem u2_pos (w : Nat) : 0 < u2 w := by
 have := Nat.pow_pos (n := w) (show 0 < 2 by decide)
 unfold u2; omega
theorem u2_add (a b : Nat) : u2 (a + b) = u2 a * u2 b := by unfold u2; rw [Nat.pow_add]; exact Int.natCast_mul _ _
theorem u2_mono {a b : Nat} (h : a ≤ b) : u2 a ≤ u2 b := Int.ofNat_le.2 (Nat.pow_le_pow_right xw h)
theorem u2_le_iff {a b : Nat} (h : u2 a ≤ u2 b) : a ≤ b := (Nat.pow_le_pow_iff_right xw).1 (Int.ofNat_le.1 h)
theorem lin8 : ∀ w : Nat, 16 ≤ w → 8 * (128 * (w : Int) + 800) ≤ u2 w := by
 intro w hw
 obtain ⟨k, rfl⟩ : ∃ k, w = 16 + k := ⟨w - 16, by omega⟩
 induction k with
 | zero => decide +kernel
 | succ k ih =>
  have h1 := ih xq
  have h2 : u2 (16 + (k + 1)) = u2 (16 + k) * 2 := u2_add (16 + k) 1
  rw [h2]; omega
structure AtI (n w j : Nat) (pl ph sl sh : Int) : Prop where
 p : Enc (u2 w) pl ph (atP n j)
 s : Enc (u2 w) sl sh (alt (atT n) (j + 1))
 p0 : 0 ≤ pl
 p1 : 1 ≤ ph
 pw : ph - pl ≤ 3
 sw : sh - sl ≤ 3 * ((j : Int) + 1)
 fall : ph * u2 j ≤ u2 w
def AtR (n w : Nat) (lo hi : Int) : Prop := (∃ N : Nat, ∀ m, N ≤ m → Enc (u2 w) lo hi (alt (atT n) m)) ∧ hi - lo ≤ 5 * (w : Int) + 8
theorem AtI.start {n w : Nat} (hn : 0 < n) : AtI n w 0 (u2 w / (n : Int)) (cdiv (u2 w) (n : Int)) (u2 w / (n : Int)) (cdiv (u2 w) (n : Int)) := by
 have hn' : (0 : Int) < (n : Int) := by omega
 have hU := u2_pos w
 have h1 : Enc (u2 w) (u2 w / (n : Int)) (cdiv (u2 w) (n : Int)) (atP n 0) := Enc.one.over hn'
 have h2 : alt (atT n) (0 + 1) = atP n 0 := by
  show 0 + (1 : Rat) * (atP n 0 / (((2 * 0 + 1 : Nat)) : Rat)) = _
  have e : (((2 * 0 + 1 : Nat)) : Rat) = 1 := rfl
  rw [e]; grind
 have h3 := w3 (a := u2 w) (b := u2 w) (d := (n : Int)) xq hn'
 refine ⟨h1, by rw [h2]; exact h1, fl_nn xq hn', cd_ge (c := 0) hn' xq, h3, by omega, ?_⟩
 have : u2 0 = 1 := rfl
 rw [this, Int.mul_one]
 exact cd_self xq hn'
section
variable {n w j : Nat} {pl ph sl sh : Int}
theorem AtI.jw (h : AtI n w j pl ph sl sh) : j ≤ w := by
 refine u2_le_iff (Int.le_trans ?_ h.fall)
 have := Int.mul_le_mul_of_nonneg_right h.p1 (Int.le_of_lt (u2_pos j))
 omega
theorem AtI.power (h : AtI n w j pl ph sl sh) (hn : 0 < n) : Enc (u2 w) (pl / ((n * n : Nat) : Int)) (cdiv ph ((n * n : Nat) : Int)) (atP n (j + 1)) := h.p.over (by have := Nat.mul_pos hn hn; omega)
theorem AtI.term (h : AtI n w j pl ph sl sh) (hn : 0 < n) : Enc (u2 w) (pl / ((n * n : Nat) : Int) / ((2 * j + 3 : Nat) : Int)) (cdiv (cdiv ph ((n * n : Nat) : Int)) ((2 * j + 3 : Nat) : Int)) (atT n (j + 1)) :=
 (h.power hn).over (d := ((2 * j + 3 : Nat) : Int)) xq
theorem AtI.pw' (h : AtI n w j pl ph sl sh) (hn : 0 < n) : cdiv ph ((n * n : Nat) : Int) - pl / ((n * n : Nat) : Int) ≤ 3 := w3 h.pw (by have := Nat.mul_pos hn hn; omega)
theorem AtI.tw (h : AtI n w j pl ph sl sh) (hn : 0 < n) : cdiv (cdiv ph ((n * n : Nat) : Int)) ((2 * j + 3 : Nat) : Int) - pl / ((n * n : Nat) : Int) / ((2 * j + 3 : Nat) : Int) ≤ 3 := w3 (h.pw' hn) xq
theorem AtI.sub (h : AtI n w j pl ph sl sh) (hn : 0 < n) (hj : j % 2 = 0) : Enc (u2 w) (sl - cdiv (cdiv ph ((n * n : Nat) : Int)) ((2 * j + 3 : Nat) : Int)) (sh - pl / ((n * n : Nat) : Int) / ((2 * j + 3 : Nat) : Int)) (alt (atT n) (j + 1 + 1)) := by
 have h1 := h.s.sub (h.term hn)
 have e : alt (atT n) (j + 1 + 1) = alt (atT n) (j + 1) - atT n (j + 1) := by
  rw [alt_s]; unfold sgn; rw [if_neg xq]; grind
 rw [e]; exact h1
theorem AtI.add (h : AtI n w j pl ph sl sh) (hn : 0 < n) (hj : ¬ j % 2 = 0) : Enc (u2 w) (sl + pl / ((n * n : Nat) : Int) / ((2 * j + 3 : Nat) : Int)) (sh + cdiv (cdiv ph ((n * n : Nat) : Int)) ((2 * j + 3 : Nat) : Int)) (alt (atT n) (j + 1 + 1)) := by
 have h1 := h.s.add (h.term hn)
 have e : alt (atT n) (j + 1 + 1) = alt (atT n) (j + 1) + atT n (j + 1) := by
  rw [alt_s]; unfold sgn; rw [if_pos xq]; grind
 rw [e]; exact h1
theorem AtI.go {sl' sh' : Int} (h : AtI n w j pl ph sl sh) (hn : 2 ≤ n) (ht : 2 ≤ cdiv (cdiv ph ((n * n : Nat) : Int)) ((2 * j + 3 : Nat) : Int)) (hs : Enc (u2 w) sl' sh' (alt (atT n) (j + 1 + 1))) (hw : sh' - sl' ≤ sh - sl + 3) :
  AtI n w (j + 1) (pl / ((n * n : Nat) : Int)) (cdiv ph ((n * n : Nat) : Int)) sl' sh' ∧ cdiv ph ((n * n : Nat) : Int) < ph := by
 have hnn : 4 ≤ n * n := Nat.mul_le_mul hn hn
 have h0 := h.p1
 have h1 : 1 ≤ cdiv ph ((n * n : Nat) : Int) := cd_ge (c := 0) xq xq
 have h2 := cd_self (b := cdiv ph ((n * n : Nat) : Int)) (d := ((2 * j + 3 : Nat) : Int)) xq xq
 have h3 := cd_self (b := ph) (d := ((n * n : Nat) : Int)) xq xq
 have h4 := cd_half (b := ph) (d := ((n * n : Nat) : Int)) xq xq
 refine ⟨⟨h.power xq, hs, fl_nn h.p0 xq, h1, h.pw' xq, by have := h.sw; omega, ?_⟩, by omega⟩
 have h5 : u2 (j + 1) = u2 j * 2 := u2_add j 1
 have h6 := Int.mul_le_mul_of_nonneg_right h4 (Int.le_of_lt (u2_pos j))
 have h7 := h.fall
 rw [h5]
 have e : cdiv ph ((n * n : Nat) : Int) * (u2 j * 2) = 2 * cdiv ph ((n * n : Nat) : Int) * u2 j := by grind
 rw [e]; omega
theorem AtI.out {sl' sh' : Int} (h : AtI n w j pl ph sl sh) (hn : 0 < n) (ht : cdiv (cdiv ph ((n * n : Nat) : Int)) ((2 * j + 3 : Nat) : Int) ≤ 1) (hs : Enc (u2 w) sl' sh' (alt (atT n) (j + 1 + 1))) (hw : sh' - sl' ≤ sh - sl + 3) : AtR n w (sl' - 1) (sh' + 1) := by
 refine ⟨⟨j + 1 + 1, fun m hm => ?_⟩, by have := h.jw; have := h.sw; omega⟩
 have h1 := alt_near (j0 := 0) (atT_nn hn) (fun j _ => atT_le hn j) (Nat.zero_le _) hm
 refine hs.near h1.1 h1.2 ?_ (u2_pos w)
 have h2 := (h.term hn).2
 have h3 := Rat.mul_le_mul_of_nonneg_right (atT_le hn (j + 1)) (Rat.le_of_lt (castI_pos (u2_pos w)))
 have h4 : ((cdiv (cdiv ph ((n * n : Nat) : Int)) ((2 * j + 3 : Nat) : Int) : Int) : Rat) ≤ ((1 : Int) : Rat) := Rat.intCast_le_intCast.2 ht
 have e : ((1 : Int) : Rat) = 1 := rfl
 rw [e] at h4
 exact Rat.le_trans h3 (Rat.le_trans h2 h4)
theorem AtI.bd (h : AtI n w j pl ph sl sh) (hn : 0 < n) : ph ≤ u2 w ∧ -(3 * ((w : Int) + 1)) ≤ sl ∧ sl ≤ u2 w ∧ 0 ≤ sh ∧ sh ≤ u2 w + 3 * ((w : Int) + 1) := by
 have h1 := atT_b (n := n) hn (m := j + 1) xq
 have h2 := atT_le hn 0
 have hU := castI_pos (u2_pos w)
 have h3 : alt (atT n) (j + 1) ≤ 1 := by
  refine Rat.le_trans h1.2 ?_
  have e : atT n 0 = atP n 0 / ((2 * 0 + 1 : Nat) : Rat) := rfl
  rw [e]
  refine Rat.le_trans (div_le_self (atP_nn hn 0) (cast_one xq)) ?_
  show 1 / (n : Rat) ≤ 1
  exact div_le_self xw (cast_one hn)
 have h4 : alt (atT n) (j + 1) * (u2 w : Rat) ≤ (u2 w : Rat) := by
  have := Rat.mul_le_mul_of_nonneg_right h3 (Rat.le_of_lt hU)
  rwa [Rat.one_mul] at this
 have h5 := h.s.lo_le h4
 have h6 := h.s.nonneg (by grind) (u2_pos w)
 have h7 := h.sw
 have h8 := h.jw
 have h9 := h.fall
 have h10 := Int.mul_le_mul_of_nonneg_left (show 1 ≤ u2 j by have := u2_pos j; omega) (show 0 ≤ ph by have := h.p1; omega)
 refine ⟨by omega, by omega, h5, h6, by omega⟩
end
def PiR (w : Nat) (lo hi : Int) : Prop := (∃ N : Nat, ∀ m, N ≤ m → Enc (u2 w) lo hi (piN m)) ∧ hi - lo ≤ 128 * (w : Int) + 400
theorem PiR.of {w : Nat} {a b c d : Int} (h : AtR 5 w a b) (k : AtR 239 w c d) : PiR w (a * 16 - d * 4) (b * 16 - c * 4) := by
 obtain ⟨⟨N, h1⟩, h2⟩ := h
 obtain ⟨⟨M, k1⟩, k2⟩ := k
 refine ⟨⟨max N M, fun m hm => ?_⟩, by omega⟩
 have e := ((h1 m xq).times (n := 16)).sub ((k1 m xq).times (n := 4))
 have e2 : piN m = alt (atT 5) m * ((16 : Nat) : Rat) - alt (atT 239) m * ((4 : Nat) : Rat) := by
  unfold piN
  rw [Rat.mul_comm, Rat.mul_comm 4]; rfl
 rw [e2]; exact e
theorem PiR.bd {w : Nat} {a b : Int} (h : PiR w a b) (hw : 16 ≤ w) : 0 ≤ a ∧ b ≤ 4 * u2 w ∧ a ≤ b ∧ 1 ≤ b := by
 obtain ⟨⟨N, h1⟩, h2⟩ := h
 have h3 := h1 (N + 1) xq
 have h4 := piN_b (m := N + 1) xq
 have hU := castI_pos (u2_pos w)
 have l8 := lin8 w hw
 have h5 : 3 * u2 w ≤ b := h3.le_hi (by
  rw [Rat.intCast_mul]
  refine Rat.mul_le_mul_of_nonneg_right (Rat.le_trans ?_ h4.1) (Rat.le_of_lt hU)
  decide +kernel)
 have h6 : 5 * a ≤ 16 * u2 w := by
  have h7 := Rat.mul_le_mul_of_nonneg_right h4.2 (Rat.le_of_lt hU)
  have h8 := h3.1
  refine Rat.intCast_le_intCast.1 ?_
  rw [Rat.intCast_mul, Rat.intCast_mul]
  have e5 : ((5 : Int) : Rat) = 5 := rfl
  have e16 : ((16 : Int) : Rat) = 16 := rfl
  rw [e5, e16]
  grind
 have := h3.le
 have := u2_pos w
 omega
end Nt
end Go.Proofs.YtbolmkfphieogaaGreat
