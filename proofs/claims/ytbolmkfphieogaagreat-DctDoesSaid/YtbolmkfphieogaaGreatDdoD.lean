/- Parts of the proof: contracts of functions, each walked once, and plain laws. -/
import Derived.Test.YtbolmkfphieogaaGreatDdoC
set_option linter.unusedVariables false
namespace Go.Proofs.YtbolmkfphieogaaGreat
open Go.RowKit
theorem k_natural {u w : World} {x : Sl} (d : Dat u w) : Calls Tryz.prog 195 #[x.v] w (Post u w fun v _ => v = .agg #[.bool false, x.v]) := by
 refine zzl (args := [x.v]) Tryz.func195 rfl Tryz.ntmps195 (rs := [.cell 2 24]) Tryz.results195 (le_b rfl) (le_b rfl) d ?_
 refine sq9 (zzj 2 ⟨24, [.bool false, .slice none 0 0]⟩ (zzb (sq9 (zza 3 (.v (x.v)) (zza 4 (.v (.agg #[.bool false, x.v])) (zzi ⟨24, [.bool false, x.v]⟩ ty24 ?_))))))
 refine zzb (zzn (ret0 [.agg #[.bool false, x.v]] ⟨zzq ty24 zze, trivial⟩ fun u11 e12 => ?_))
 exact rfl
theorem k_whole {u w : World} {i : IL} (d : Dat u w) : Calls Tryz.prog 193 #[i.v] w (Post u w fun v u' => ∃ y : Sl, v = .agg #[.bool i.s, i.m.v, y.v] ∧ NatN u' y 1 1) := by
 refine zzl (args := [i.v]) Tryz.func193 rfl Tryz.ntmps193 (rs := [.cell 2 26]) Tryz.results193 (le_b rfl) (le_b rfl) d ?_
 refine sq9 (zzj 1 ⟨24, i.cs⟩ (zzj 2 ⟨26, zw3⟩ (zzb (sq9 (zzh 3 (.v (i.v)) ty24 zze (zxw 4 ⟨104, [.int .u32 1]⟩ 1 (fun aa u12 e13 ab => ?_)))))))
 refine zza 5 (.v (.agg #[.bool i.s, i.m.v, .slice (some ⟨aa, 0, none⟩) 1 1])) (zzi ⟨26, i.cs ++ [.slice (some ⟨aa, 0, none⟩) 1 1]⟩ ty26 ?_)
 refine zzb (zzn (ret0 [.agg #[.bool i.s, i.m.v, .slice (some ⟨aa, 0, none⟩) 1 1]] ⟨zzq ty26 zze, trivial⟩ fun u15 ac => ?_))
 exact ⟨_, rfl, ((one_data ab).ext ac)⟩
theorem k_quotient {u w : World} {i j : IL} (d : Dat u w) : Calls Tryz.prog 196 #[i.v, j.v] w (Post u w fun v _ => v = .agg #[.bool (!(i.s == j.s)), i.m.v, j.m.v]) := by
 refine zzl (args := [i.v, j.v]) Tryz.func196 rfl Tryz.ntmps196 (rs := [.cell 4 147]) Tryz.results196 (le_b rfl) (le_b rfl) d ?_
 refine sq9 (zzj 2 ⟨24, i.cs⟩ (zzj 3 ⟨24, j.cs⟩ (zzj 4 ⟨147, zw3⟩ (zzb (sq9 (zza 5 (.adr 2 0) (zzh 6 (zB i.s) ty4 zzk (zza 7 (.adr 3 0) (zzh 8 (zB j.s) ty4 zzk (zza 9 (zB (!(i.s == j.s))) (zza 10 (.adr 2 1) ?_)))))))))))
 refine zzh 11 (.v (i.m.v)) ty22 zzk (zza 12 (.v (.agg #[.bool (!(i.s == j.s)), i.m.v])) (zza 13 (.adr 3 1) (zzh 14 (.v (j.m.v)) ty22 zzk (zza 15 (.v (.agg #[.bool (!(i.s == j.s)), i.m.v, j.m.v])) (zzi ⟨147, [.bool (!(i.s == j.s)), i.m.v, j.m.v]⟩ ty147 ?_)))))
 refine zzb (zzn (ret0 [.agg #[.bool (!(i.s == j.s)), i.m.v, j.m.v]] ⟨zzq ty147 zze, trivial⟩ fun u11 e12 => ?_))
 exact rfl
theorem k_flip {u w : World} {r : RL} (d : Dat u w) : Calls Tryz.prog 226 #[r.v] w (Post u w fun v _ => v = .agg #[.bool (!r.s), r.m.v, r.d.v]) := by
 refine zzl (args := [r.v]) Tryz.func226 rfl Tryz.ntmps226 (rs := [.cell 2 26]) Tryz.results226 (le_b rfl) (le_b rfl) d ?_
 refine sq9 (zzj 1 ⟨26, r.cs⟩ (zzj 2 ⟨26, zw3⟩ (zzb (sq9 (zza 3 (.adr 1 0) (zza 4 (.adr 1 0) (zzh 5 (zB r.s) ty4 zzk (zza 6 (zB (!r.s)) (zza 7 (.adr 1 0) (zza 8 (.adr 1 1) (zzh 9 (.v (r.m.v)) ty22 zzk ?_)))))))))))
 refine zza 10 (.v (.agg #[.bool (!r.s), r.m.v])) (zza 11 (.adr 1 2) (zzh 12 (.v (r.d.v)) ty22 zzk (zza 13 (.v (.agg #[.bool (!r.s), r.m.v, r.d.v])) (zzi ⟨26, [.bool (!r.s), r.m.v, r.d.v]⟩ ty26 ?_))))
 refine zzb (zzn (ret0 [.agg #[.bool (!r.s), r.m.v, r.d.v]] ⟨zzq ty26 zze, trivial⟩ fun u11 e12 => ?_))
 exact rfl
set_option maxHeartbeats 1000000 in
theorem k_read {u w : World} {r : RL} {q : Rat} {K : Nat} (d : Dat u w) (h : RatV u r q K) : Calls Tryz.prog 147 #[r.v] w (Post u w fun v u' => ∃ (r' : RL) (wh : Bool), v = .agg #[.bool r'.s, r'.m.v, r'.d.v, .bool wh] ∧ NumV u' r' wh q K) := by
 obtain ⟨⟨z, D, hi, hd, hq⟩, hK⟩ := h
 change IntV u ⟨r.s, r.m⟩ z K at hi
 change NatV u r.d D K at hd
 by_cases hn : r.d.n = 1
 ·obtain ⟨b, o, ha, hc⟩ := nat_digit hd hn
  by_cases hD : D = 1
  ·refine zzl (args := [r.v]) Tryz.func147 rfl Tryz.ntmps147 (rs := [.cell 2 149]) Tryz.results147 (le_b rfl) (le_b rfl) d ?_
   refine sq9 (zzj 1 ⟨26, r.cs⟩ (zzj 2 ⟨149, [.bool false, .slice none 0 0, .slice none 0 0, .bool false]⟩ (zzb (zzd (sq9 (zza 3 (.adr 1 2) (zzh 4 (.v (r.d.v)) ty22 zzk (zza 5 (zI r.d.n) (zqB 6 (show ((r.d.n : Int) == 1) = true from (by simp [hn])) (zza 7 (zB true) (zza 8 (.adr 1 2) ?_ (hw := w1 4 true 7))))))))))))
   refine zzh 9 (.v (r.d.v)) ty22 zzk ?_ (hw := w1 4 true 7)
   refine zzz 10 o (i := 0) (n := r.d.n) zk ha xq (by rw [hn]; decide) sl22 ?_ (hw := w1 4 true 7)
   refine zyk 11 (.int .u32 D) ((Ext.refl _).cell hc) ty104 ?_ (hw := w1 4 true 7)
   refine zqB 12 (show ((D : Int) == 1) = true from (by simp [hD])) ?_ (hw := w1 4 true 7)
   refine zza 13 (zB true) (zzb (zyq xj (sq9 (zza 14 (.adr 1 0) (zzh 15 (.v (.agg #[.bool r.s, r.m.v])) ty24 zze (zza 16 (.adr 1 2) (zzh 17 (.v (r.d.v)) ty22 zzk (zza 18 (.v (r.v)) (zza 19 (.v (.agg #[.bool r.s, r.m.v, r.d.v, .bool true])) (zzi ⟨149, r.cs ++ [.bool true]⟩ ty149 ?_))))))))))
   refine zzb (zzn (zzv (ret0 [.agg #[.bool r.s, r.m.v, r.d.v, .bool true]] ⟨zzq ty149 zze, trivial⟩ fun ao aj => ?_)))
   exact ⟨r, true, rfl, z, D, hi.ext aj, hd.ext aj, by omega, hq, fun _ => hD, hK⟩
  refine zzl (args := [r.v]) Tryz.func147 rfl Tryz.ntmps147 (rs := [.cell 2 149]) Tryz.results147 (le_b rfl) (le_b rfl) d ?_
  refine sq9 (zzj 1 ⟨26, r.cs⟩ (zzj 2 ⟨149, [.bool false, .slice none 0 0, .slice none 0 0, .bool false]⟩ (zzb (zzd (sq9 (zza 3 (.adr 1 2) (zzh 4 (.v (r.d.v)) ty22 zzk (zza 5 (zI r.d.n) (zqB 6 (show ((r.d.n : Int) == 1) = true from (by simp [hn])) (zza 7 (zB true) (zza 8 (.adr 1 2) ?_ (hw := w1 4 true 7))))))))))))
  refine zzh 9 (.v (r.d.v)) ty22 zzk ?_ (hw := w1 4 true 7)
  refine zzz 10 o (i := 0) (n := r.d.n) zk ha xq (by rw [hn]; decide) sl22 ?_ (hw := w1 4 true 7)
  refine zyk 11 (.int .u32 D) ((Ext.refl _).cell hc) ty104 ?_ (hw := w1 4 true 7)
  refine zqB 12 (show ((D : Int) == 1) = false from zv) ?_ (hw := w1 4 true 7)
  refine zza 13 (zB false) (zzb (zyr xj (zzr (zzo ?_))))
  refine zzd (sq9 (zza 20 (.adr 1 2) (zzh 21 (.v (r.d.v)) ty22 zzk (zzg 22 83 [r.d.v, .slice none 0 0] ?_))))
  intro w11 ao ad ah
  have k14 := k_natCompare ah (hd.ext ad) (nat_nil _ 1)
  with_reducible refine zPm k14 ?_
  rintro _ al ae rfl
  refine zza 23 (zB ((Nt.cmpS D 0) == 0)) (zzb (zzt (b := (Nt.cmpS D 0) == 0) xj (fun aa => ?_) (fun aa => ?_)))
  ·refine sq9 (zza 24 (.v (.agg #[.bool false, .slice none 0 0])) (zxw 25 ⟨104, [.int .u32 1]⟩ 1 (fun ab ap an ai => ?_)))
   refine zza 26 (.v (.agg #[.bool false, .slice none 0 0, .slice (some ⟨ab, 0, none⟩) 1 1])) (zza 27 (.v (.agg #[.bool false, .slice none 0 0, .slice (some ⟨ab, 0, none⟩) 1 1, .bool true])) (zzi ⟨149, [.bool false, .slice none 0 0, .slice (some ⟨ab, 0, none⟩) 1 1, .bool true]⟩ ty149 ?_))
   refine zzb (zzn (zzv (ret0 [.agg #[.bool false, .slice none 0 0, .slice (some ⟨ab, 0, none⟩) 1 1, .bool true]] ⟨zzq ty149 zze, trivial⟩ fun am ag => ?_)))
   have ac : D = 0 := (Nt.cmp_nat0 aa).1 rfl
   refine ⟨⟨false, ⟨none, 0, 0⟩, (⟨some ⟨ab, 0, none⟩, 1, 1⟩ : Sl)⟩, true, rfl, 0, 1, (⟨0, nat_nil _ K, rfl⟩ : IntV _ ⟨false, ⟨none, 0, 0⟩⟩ 0 K), ((one_data ai).ext ag).raw.more hK, by omega, ?_, fun _ => rfl, hK⟩
   rw [hq, ac]; simp
  refine zzr (zzo ?_)
  refine sq9 (zza 28 (.adr 1 0) (zzh 29 (.v (.agg #[.bool r.s, r.m.v])) ty24 zze (zza 30 (.adr 1 2) (zzh 31 (.v (r.d.v)) ty22 zzk (zza 32 (.v (r.v)) (zza 33 (.v (.agg #[.bool r.s, r.m.v, r.d.v, .bool false])) (zzi ⟨149, r.cs ++ [.bool false]⟩ ty149 ?_)))))))
  refine zzb (zzn (ret0 [.agg #[.bool r.s, r.m.v, r.d.v, .bool false]] ⟨zzq ty149 zze, trivial⟩ fun ak af => ?_))
  have ac : 0 < D := (Nt.cmp_nat0 aa).2 rfl
  exact ⟨r, false, rfl, z, D, hi.ext (ad.trans (ae.ext.trans af)), hd.ext (ad.trans (ae.ext.trans af)), ac, hq, (fun k => by cases k), hK⟩
 refine zzl (args := [r.v]) Tryz.func147 rfl Tryz.ntmps147 (rs := [.cell 2 149]) Tryz.results147 (le_b rfl) (le_b rfl) d ?_
 refine sq9 (zzj 1 ⟨26, r.cs⟩ (zzj 2 ⟨149, [.bool false, .slice none 0 0, .slice none 0 0, .bool false]⟩ (zzb (zzd (sq9 (zza 3 (.adr 1 2) (zzh 4 (.v (r.d.v)) ty22 zzk (zza 5 (zI r.d.n) (zqB 6 (show ((r.d.n : Int) == 1) = false from zv) (zza 7 (zB false) (zzm 8 (uw 4 true false 7) ?_)))))))))))
 refine zzm 9 (uw 4 true false 7) (zzm 10 (uw 4 true false 7) (zzm 11 (uw 4 true false 7) (zzm 12 (uw 4 true false 7) (zza 13 (zB false) (zzb (zyr xj (zzr (zzo ?_))))))))
 refine zzd (sq9 (zza 20 (.adr 1 2) (zzh 21 (.v (r.d.v)) ty22 zzk (zzg 22 83 _ fun _ _ ad ah => Post.mono (k_natCompare ah (hd.ext ad) (nat_nil _ 1)) ?_))))
 rintro _ al ae rfl
 refine zza 23 (zB ((Nt.cmpS D 0) == 0)) (zzb (zzt (b := (Nt.cmpS D 0) == 0) xj (fun aa => ?_) (fun aa => ?_)))
 ·refine sq9 (zza 24 (.v (.agg #[.bool false, .slice none 0 0])) (zxw 25 ⟨104, [.int .u32 1]⟩ 1 (fun ab ap an ai => ?_)))
  refine zza 26 (.v (.agg #[.bool false, .slice none 0 0, .slice (some ⟨ab, 0, none⟩) 1 1])) (zza 27 (.v (.agg #[.bool false, .slice none 0 0, .slice (some ⟨ab, 0, none⟩) 1 1, .bool true])) (zzi ⟨149, [.bool false, .slice none 0 0, .slice (some ⟨ab, 0, none⟩) 1 1, .bool true]⟩ ty149 ?_))
  refine zzb (zzn (zzv (ret0 [.agg #[.bool false, .slice none 0 0, .slice (some ⟨ab, 0, none⟩) 1 1, .bool true]] ⟨zzq ty149 zze, trivial⟩ fun am ag => ?_)))
  have ac : D = 0 := (Nt.cmp_nat0 aa).1 rfl
  refine ⟨⟨false, ⟨none, 0, 0⟩, (⟨some ⟨ab, 0, none⟩, 1, 1⟩ : Sl)⟩, true, rfl, 0, 1, (⟨0, nat_nil _ K, rfl⟩ : IntV _ ⟨false, ⟨none, 0, 0⟩⟩ 0 K), ((one_data ai).ext ag).raw.more hK, by omega, ?_, fun _ => rfl, hK⟩
  rw [hq, ac]; simp
 refine zzr (zzo ?_)
 refine sq9 (zza 28 (.adr 1 0) (zzh 29 (.v (.agg #[.bool r.s, r.m.v])) ty24 zze (zza 30 (.adr 1 2) (zzh 31 (.v (r.d.v)) ty22 zzk (zza 32 (.v (r.v)) (zza 33 (.v (.agg #[.bool r.s, r.m.v, r.d.v, .bool false])) (zzi ⟨149, r.cs ++ [.bool false]⟩ ty149 ?_)))))))
 refine zzb (zzn (ret0 [.agg #[.bool r.s, r.m.v, r.d.v, .bool false]] ⟨zzq ty149 zze, trivial⟩ fun ak af => ?_))
 have ac : 0 < D := (Nt.cmp_nat0 aa).2 rfl
 exact ⟨r, false, rfl, z, D, hi.ext (ad.trans (ae.ext.trans af)), hd.ext (ad.trans (ae.ext.trans af)), ac, hq, (fun k => by cases k), hK⟩
theorem k_isOne {u w : World} {x : Sl} {N K : Nat} (d : Dat u w) (h : NatN u x N K) : Calls Tryz.prog 213 #[x.v] w (Post u w fun v _ => v = .bool (decide (N = 1))) := by
 by_cases hn : x.n = 1
 ·obtain ⟨b, o, ha, hc⟩ := nat_digit h.raw hn
  refine zzl (args := [x.v]) Tryz.func213 rfl Tryz.ntmps213 (rs := [.tmp 2]) Tryz.results213 (le_b rfl) (le_b rfl) d ?_
  refine sq9 (zza 2 (zB false) (zzb (sq9 (zza 3 (.v (x.v)) (zza 4 (zI x.n) (zqB 5 (show ((x.n : Int) == 1) = true from (by simp [hn])) (zza 6 (zB true) (zza 7 (.v (x.v)) ?_ (hw := w1 3 true 6)))))))))
  refine zzz 8 o (i := 0) (n := x.n) zk ha xq (by rw [hn]; decide) sl22 ?_ (hw := w1 3 true 6)
  refine zyk 9 (.int .u32 N) ((Ext.refl _).cell hc) ty104 ?_ (hw := w1 3 true 6)
  refine zza 10 (zB ((N : Int) == 1)) ?_ (hw := w1 3 true 6)
  refine zza 11 (zB ((N : Int) == 1)) (zza 2 (zB ((N : Int) == 1)) (zzb (zzn (ret0 [.bool ((N : Int) == 1)] ⟨zzp, trivial⟩ fun aa ab => ?_))))
  show Value.bool _ = Value.bool _
  congr 1
  rw [Bool.eq_iff_iff]
  simp <;> omega
 have hN : N ≠ 1 := fun e => hn (by rw [h.1, e, Nt.dl_one])
 refine zzl (args := [x.v]) Tryz.func213 rfl Tryz.ntmps213 (rs := [.tmp 2]) Tryz.results213 (le_b rfl) (le_b rfl) d ?_
 refine sq9 (zza 2 (zB false) (zzb (sq9 (zza 3 (.v (x.v)) (zza 4 (zI x.n) (zqB 5 (show ((x.n : Int) == 1) = false from zv) (zza 6 (zB false) (zzm 7 (uw 3 true false 6) (zzm 8 (uw 3 true false 6) (zzm 9 (uw 3 true false 6) (zzm 10 (uw 3 true false 6) ?_)))))))))))
 refine zza 11 (zB false) (zza 2 (zB false) (zzb (zzn (ret0 [.bool false] ⟨zzp, trivial⟩ fun aa ab => ?_))))
 show _ = _
 simp [tupV]
 exact hN
set_option maxHeartbeats 1000000 in
theorem k_lowest {u w : World} {i : IL} {z : Int} {y : Sl} {D K L : Nat} (d : Dat u w) (h1 : IntV u i z K) (hD : NatV u y D L) (hp : 0 < D) (hK : K ≤ 500000000) (hL : L ≤ 500000000) : Calls Tryz.prog 148 #[.agg #[.bool i.s, i.m.v, y.v]] w (Post u w fun v u' => ∃ r : RL, v = r.v ∧ RatN u' r (mkRat z D) (max K L)) := by
 obtain ⟨N, hN, hz⟩ := h1
 have hL1 : 1 ≤ L := by have h2 := hD.size; have h3 := Nt.dl_mono (x := D) (y := 1) xq; rw [Nt.dl_one] at h3; omega
 refine zzl (args := [.agg #[.bool i.s, i.m.v, y.v]]) Tryz.func148 rfl Tryz.ntmps148 (rs := [.cell 2 26]) Tryz.results148 (le_b rfl) (le_b rfl) d ?_
 refine sq9 (zzj 1 ⟨147, i.cs ++ [y.v]⟩ (zzj 2 ⟨26, zw3⟩ (zzb (sq9 (zza 14 (.adr 1 0) (zza 15 (.adr 1 1) (zzh 16 (.v (i.m.v)) ty22 zzk (zza 17 (.adr 1 2) (zzh 18 (.v (y.v)) ty22 zzk (zzg 19 80 _ fun _ _ ai aH => Post.mono (k_natDivMod aH (hN.ext ai) (hD.ext ai) hp xq xq) ?_))))))))))
 rintro _ u16 ap ⟨an, af, rfl, aZ, av⟩
 refine zza 13 (.v (.tuple #[an.v, af.v, .int .i64 0])) (zza 20 (.v (an.v)) (zza 21 (.v (af.v)) (zza 22 (zI 0) (zza 3 (.v (an.v)) (zza 4 (.v (af.v)) (zza 5 (zI 0) (zzb (zzd (sq9 (zza 23 (.v (af.v)) (zza 24 (zI af.n) ?_)))))))))))
 refine zza 25 (zB ((af.n : Int) == 0)) (zzb (zzt (b := (af.n : Int) == 0) xj (fun ab => ?_) (fun ab => ?_)))
 ·have am : (af.n : Int) = 0 := by simpa using ab
  have hr : N % D = 0 := by have h7 := (av).pos; simp at ab; omega
  refine sq9 (zza 26 (.adr 1 0) (zza 27 (.adr 1 0) (zzh 28 (zB i.s) ty4 zzk (zza 29 (.v (an.v)) (zza 30 (.v (.agg #[.bool i.s, an.v])) (zzg 31 211 _ fun _ _ aO aW => Post.mono (k_intTrim aW (IntV.same (s := i.s) (aZ.ext aO).raw) xq) ?_))))))
  rintro _ u23 g24 ⟨al, rfl, aX⟩
  refine zzg 32 193 _ fun _ _ aF aP => Post.mono (k_whole (i := al) aP) ?_
  rintro _ u29 aJ ⟨ay, rfl, aU⟩
  refine zzi ⟨26, al.cs ++ [ay.v]⟩ ty26 ?_
  refine zzb (zzn (zzv (ret0 [.agg #[.bool al.s, al.m.v, ay.v]] ⟨zzq ty26 zze, trivial⟩ fun u32 aK => ?_)))
  refine ⟨(⟨al.s, al.m, ay⟩ : RL), rfl, RatN.more (K := (max K 1)) ?_ xq⟩
  rw [hz, ← low1 hp hr]
  exact ((whole_rat (aX.ext (aF.trans aJ.ext)) aU).ext aK)
 have am : ¬ ((af.n : Int) = 0) := by simpa using ab
 have hr : N % D ≠ 0 := by have h7 := (av).pos; simp at ab; omega
 refine zzr (zzo ?_)
 refine sq9 (zza 33 (.adr 1 2) (zzh 34 (.v (y.v)) ty22 zzk (zza 35 (.v (af.v)) (zzg 36 212 _ fun _ _ aj aR => Post.mono (k_natGcd aR (hD.ext (ai.trans (ap.ext.trans aj))) (av.ext aj).raw xq xq) ?_))))
 rintro _ u37 aq ⟨ao, rfl, aw⟩
 refine zza 6 (.v (ao.v)) (zzb (zzd (sq9 (zza 37 (.v (ao.v)) (zzg 38 213 _ fun _ _ ag aT => Post.mono (k_isOne aT (aw.ext ag)) ?_)))))
 rintro _ u41 ak rfl
 refine zzb (zzt (b := decide ((Nat.gcd D (N % D)) = 1)) xj (fun ac => ?_) (fun ac => ?_))
 ·have qhb44 := of_decide_eq_true ac
  have hg : Nat.gcd D (N % D) = 1 := by simpa using ac
  have hgp : 0 < Nat.gcd D (N % D) := Nat.gcd_pos_of_pos_left _ hp
  refine zzd (zzy [0, 1, 3, 0, 8, 31, 63, 127] [(0, []), (1, []), (3, []), (4, []), (2, []), (5, []), (6, []), (7, [])] xj xj (zza 39 (.adr 1 0) (zzh 40 (.v (i.v)) ty24 zze (zza 42 (.adr 1 2) (zzh 43 (.v (y.v)) ty22 zzk (zzg 41 211 _ fun _ _ aC aS => Post.mono (k_intTrim aS (IntV.same (s := i.s) (hN.ext (ai.trans (ap.ext.trans (aj.trans (aq.ext.trans (ag.trans (ak.ext.trans aC)))))))) xq) ?_))))))
  rintro _ u48 a0 ⟨ae, rfl, aM⟩
  refine zzg 44 214 _ fun _ _ aD aQ => Post.mono (k_natTrim aQ (hD.ext (ai.trans (ap.ext.trans (aj.trans (aq.ext.trans (ag.trans (ak.ext.trans (aC.trans (a0.ext.trans aD))))))))) xq) ?_
  rintro _ u54 aY ⟨ah, rfl, aV⟩
  refine zza 45 (.v (.agg #[.bool ae.s, ae.m.v, ah.v])) (zzi ⟨26, ae.cs ++ [ah.v]⟩ ty26 ?_)
  refine zzc 70 [(2, .adr 2 0)] [(2, ⟨26, ae.cs ++ [ah.v]⟩)] (zzn (zzv (ret0 [.agg #[.bool ae.s, .slice ae.m.a ae.m.n ae.m.c, .slice ah.a ah.n ah.c]] ⟨zzq ty26 zze, trivial⟩ fun u57 aA => ?_)))
  refine ⟨(⟨ae.s, ae.m, ah⟩ : RL), rfl, ?_⟩
  rw [hz]
  exact low2 hp hg (aM.ext (aD.trans (aY.ext.trans aA))) (aV.ext aA)
 have qhb44 := of_decide_eq_false ac
 have hg : ¬ Nat.gcd D (N % D) = 1 := by simpa using ac
 have hgp : 0 < Nat.gcd D (N % D) := Nat.gcd_pos_of_pos_left _ hp
 refine zzr (zzo ?_)
 refine sq9 (zza 47 (.adr 1 0) (zza 48 (.adr 1 1) (zzh 49 (.v (i.m.v)) ty22 zzk (zza 50 (.v (ao.v)) (zzg 51 80 _ fun _ _ ar aN => Post.mono (k_natDivMod aN (hN.ext (ai.trans (ap.ext.trans (aj.trans (aq.ext.trans (ag.trans (ak.ext.trans ar))))))) (aw.ext (ag.trans (ak.ext.trans ar))).raw hgp xq xq) ?_)))))
 rintro _ u64 aB ⟨aa, az, rfl, aL, h63⟩
 refine zza 46 (.v (.tuple #[aa.v, az.v, .int .i64 0])) (zza 52 (.v (aa.v)) (zza 53 (.v (az.v)) (zza 54 (zI 0) (zza 7 (.v (aa.v)) (zza 8 (.v (az.v)) (zza 9 (zI 0) (zzc 70 [(1, .adr 1 0), (2, .adr 2 0), (6, .v (ao.v)), (7, .v (aa.v))] [(1, ⟨147, i.cs ++ [y.v]⟩), (2, ⟨26, zw3⟩)] (sq9 (zza 56 (.adr 1 2) (zzh 57 (.v (y.v)) ty22 zzk (zza 58 (.v (ao.v)) ?_)))))))))))
 refine zzg 59 80 _ fun _ _ au aG => Post.mono (k_natDivMod aG (hD.ext (ai.trans (ap.ext.trans (aj.trans (aq.ext.trans (ag.trans (ak.ext.trans (ar.trans (aB.ext.trans au))))))))) (aw.ext (ag.trans (ak.ext.trans (ar.trans (aB.ext.trans au))))).raw hgp xq xq) ?_
 rintro _ u72 aI ⟨ad, ax, rfl, a1, h71⟩
 refine zza 55 (.v (.tuple #[ad.v, ax.v, .int .i64 0])) (zza 60 (.v (ad.v)) (zza 61 (.v (ax.v)) (zza 62 (zI 0) (zza 10 (.v (ad.v)) (zza 11 (.v (ax.v)) (zza 12 (zI 0) (zzb (sq9 (zza 63 (.adr 1 0) (zza 64 (.adr 1 0) (zzh 65 (zB i.s) ty4 zzk ?_)))))))))))
 refine zza 66 (.v (aa.v)) (zza 67 (.v (.agg #[.bool i.s, aa.v])) (zza 68 (.v (ad.v)) (zza 69 (.v (.agg #[.bool i.s, aa.v, ad.v])) (zzi ⟨26, [.bool i.s, aa.v, ad.v]⟩ ty26 ?_))))
 refine zzb (zzn (ret0 [.agg #[.bool i.s, .slice aa.a aa.n aa.c, .slice ad.a ad.n ad.c]] ⟨zzq ty26 zze, trivial⟩ fun u75 aE => ?_))
 refine ⟨(⟨i.s, aa, ad⟩ : RL), rfl, RatN.more (K := max K L) ?_ xq⟩
 rw [hz]
 exact low3 hp hr (aL.ext (au.trans (aI.ext.trans aE))) (a1.ext aE)
theorem k_ratTrim {u w : World} {r1 : RL} {x : Rat} {K : Nat} (d : Dat u w) (hr1 : RatV u r1 x K) (hK : K ≤ 200000000) : Calls Tryz.prog 78 #[r1.v] w (Post u w fun v u' => ∃ r : RL, v = r.v ∧ RatN u' r x K) := by
 refine zzl (args := [r1.v]) Tryz.func78 rfl Tryz.ntmps78 (rs := [.cell 2 26]) Tryz.results78 (le_b rfl) (le_b rfl) d ?_
 refine sq9 (zzj 1 ⟨26, r1.cs⟩ (zzj 2 ⟨26, zw3⟩ (zzb (sq9 (zzh 3 (.v (r1.v)) ty26 zze (zzg 4 147 _ fun _ _ al ag => Post.mono (k_read ag (hr1.ext al)) ?_))))))
 rintro _ u13 g14 ⟨aj, am, rfl, z12, D12, ac, aa, ab, ad, ai, an⟩
 refine zza 5 (.v (aj.v)) (zzg 6 148 _ fun _ _ af ak => Post.mono (k_lowest ak (ac.ext af) (aa.ext af) ab xq xq) ?_)
 rintro _ u19 g20 ⟨ae, rfl, ao⟩
 refine zzi ⟨26, ae.cs⟩ ty26 ?_
 refine zzb (zzn (ret0 [ae.v] ⟨zzq ty26 zze, trivial⟩ fun u22 ah => ?_))
 refine ⟨ae, rfl, RatN.more (K := (max K K)) ?_ xq⟩
 rw [ad]; exact (ao.ext ah)
theorem k_ratOf {u w : World} {z : Int} (d : Dat u w) (h0 : -9223372036854775808 ≤ z) (h1 : z ≤ 9223372036854775807) : Calls Tryz.prog 118 #[.int .i64 z] w (Post u w fun v u' => ∃ r : RL, v = r.v ∧ RatN u' r (z : Rat) 2) := by
 refine zzl (args := [.int .i64 z]) Tryz.func118 rfl Tryz.ntmps118 (rs := [.cell 2 26]) Tryz.results118 (le_b rfl) (le_b rfl) d ?_
 refine sq9 (zzj 2 ⟨26, zw3⟩ (zzb (sq9 (zza 3 (zI z) (zzg 4 160 _ fun _ _ _ ai => Post.mono (k_intOf ai (z := z) xq xq) ?_)))))
 rintro _ u14 g15 ⟨aa, rfl, ac⟩
 refine zzg 5 193 _ fun _ _ ad af => Post.mono (k_whole (i := aa) af) ?_
 rintro _ u20 ae ⟨ab, rfl, ah⟩
 refine zzi ⟨26, aa.cs ++ [ab.v]⟩ ty26 ?_
 refine zzb (zzn (ret0 [.agg #[.bool aa.s, aa.m.v, ab.v]] ⟨zzq ty26 zze, trivial⟩ fun u23 ag => ?_))
 refine ⟨(⟨aa.s, aa.m, ab⟩ : RL), rfl, RatN.more (K := (max 2 1)) ?_ xq⟩
 exact ((whole_rat (ac.ext (ad.trans ae.ext)) ah).ext ag)
theorem k_ratSign {u w : World} {r1 : RL} {x : Rat} {K : Nat} (d : Dat u w) (hr1 : RatV u r1 x K)  : Calls Tryz.prog 76 #[r1.v] w (Post u w fun v u' => v = .int .i64 (Nt.sgQ x)) := by
 refine zzl (args := [r1.v]) Tryz.func76 rfl Tryz.ntmps76 (rs := [.tmp 2]) Tryz.results76 (le_b rfl) (le_b rfl) d ?_
 refine sq9 (zzj 1 ⟨26, r1.cs⟩ (zza 2 (zI 0) (zzb (sq9 (zzh 3 (.v (r1.v)) ty26 zze (zzg 4 147 _ fun _ _ ak af => Post.mono (k_read af (hr1.ext ak)) ?_))))))
 rintro _ u13 g14 ⟨aa, al, rfl, ae, D12, ac, ai, ab, ad, ah, am⟩
 refine zza 5 (.v (aa.v)) (zza 6 (.v (.agg #[.bool aa.s, aa.m.v])) (zzg 7 146 _ fun _ _ ag aj => Post.mono (k_intSign aj (ac.ext ag)) ?_))
 rintro _ u17 g18 rfl
 refine zza 2 (zI (Nt.cmpS ae 0)) (zzb (zzn (ret0 [.int .i64 (Nt.cmpS ae 0)] ⟨zzp, trivial⟩ fun u20 e21 => ?_)))
 show _ = _
 rw [ad, ← Nt.sg_mk ab]
 rfl
theorem k_ratCompare {u w : World} {r1 : RL} {x : Rat} {K : Nat} {r2 : RL} {y : Rat} {L : Nat} (d : Dat u w) (hr1 : RatV u r1 x K) (hr2 : RatV u r2 y L) (hK : K ≤ 200000000) (hL : L ≤ 200000000) : Calls Tryz.prog 197 #[r1.v, r2.v] w (Post u w fun v u' => v = .int .i64 (Nt.cmpQ x y)) := by
 refine zzl (args := [r1.v, r2.v]) Tryz.func197 rfl Tryz.ntmps197 (rs := [.tmp 4]) Tryz.results197 (le_b rfl) (le_b rfl) d ?_
 refine sq9 (zzj 2 ⟨26, r1.cs⟩ (zzj 3 ⟨26, r2.cs⟩ (zza 4 (zI 0) (zzb (zzd (zzy [0, 1, 0, 7, 0, 0, 63, 127] [(0, []), (2, []), (4, []), (5, []), (1, []), (3, []), (6, []), (7, [])] xj xj (zzh 7 (.v (r1.v)) ty26 zze (zzh 9 (.v (r2.v)) ty26 zze (zzj 5 ⟨149, [.bool false, .slice none 0 0, .slice none 0 0, .bool false]⟩ (zzj 6 ⟨149, [.bool false, .slice none 0 0, .slice none 0 0, .bool false]⟩ (zzg 8 147 _ fun _ _ aJ aR => Post.mono (k_read aR (hr1.ext aJ)) ?_)))))))))))
 rintro _ u13 a3 ⟨ac, ae, rfl, ag, ap, ai, au, am, aj, aB, a4⟩
 refine zzg 10 147 _ fun _ _ an aV => Post.mono (k_read aV (hr2.ext (aJ.trans (a3.ext.trans an)))) ?_
 rintro _ u18 aq ⟨ad, aa, rfl, af, ao, ak, ar, al, ah, aD, aS⟩
 refine zzi ⟨149, ac.cs ++ [.bool ae]⟩ ty149 ?_
 refine zzi ⟨149, ad.cs ++ [.bool aa]⟩ ty149 ?_
 refine zzb (zzd (sq9 (zza 11 (.adr 5 3) (zzh 12 (zB ae) ty4 zzk ?_))))
 rcases Bool.eq_false_or_eq_true ae with hs21 | hs21
 ·refine zyp 13 (x := zB ae) (zB true) (by rw [hs21]) (zza 14 (.adr 6 3) ?_ (hw := w1 2 true 13))
  refine zzh 15 (zB aa) ty4 zzk ?_ (hw := w1 2 true 13)
  refine zza 16 (zB aa) (zzb (zzt (b := aa) xj (fun ab => ?_) (fun ab => ?_)))
  ·replace ab : aa = true := ab
   refine sq9 (zza 17 (.adr 5 0) (zza 18 (.adr 5 0) (zzh 19 (.v (.agg #[.bool ac.s, ac.m.v])) ty24 zze (zza 20 (.adr 6 0) (zza 21 (.adr 6 0) (zzh 22 (.v (.agg #[.bool ad.s, ad.m.v])) ty24 zze (zzg 23 181 _ fun _ _ aK a9 => Post.mono (k_intCompare a9 (ai.ext (an.trans (aq.ext.trans aK))) (ak.ext aK)) ?_)))))))
   rintro _ u24 g25 rfl
   refine zza 4 (zI (Nt.cmpS ag af)) (zzb (zzn (zzv (ret0 [.int .i64 (Nt.cmpS ag af)] ⟨zzp, trivial⟩ fun u27 e28 => ?_))))
   show _ = _
   rw [aj, ah, ← Nt.cmp_mk am al]
   rw [aB (by assumption), aD (by assumption)]
   simp [tupV]
  replace ab : aa = false := ab
  refine zzr (zzo ?_)
  refine zzd (zzy [0, 1, 3, 0, 8, 24, 56, 127, 0, 256, 768, 0, 2048, 6144, 14591, 32767, 65535, 131071] [(0, []), (1, []), (2, []), (3, []), (4, []), (5, []), (8, []), (9, []), (10, []), (11, []), (12, []), (13, []), (6, []), (7, []), (14, []), (15, []), (16, []), (17, [])] xj xj (zza 24 (.adr 5 0) (zza 25 (.adr 5 0) (zzh 26 (.v (.agg #[.bool ac.s, ac.m.v])) ty24 zze (zza 27 (.adr 6 0) (zza 28 (.adr 6 2) (zzh 29 (.v (ad.d.v)) ty22 zzk (zza 32 (.adr 6 0) (zza 33 (.adr 6 0) (zzh 34 (.v (.agg #[.bool ad.s, ad.m.v])) ty24 zze (zza 35 (.adr 5 0) ?_)))))))))))
  refine zza 36 (.adr 5 2) (zzh 37 (.v (ac.d.v)) ty22 zzk (zzg 30 195 _ fun _ _ az aY => Post.mono (k_natural (x := ad.d) aY) ?_))
  rintro _ u30 aA rfl
  refine zzg 31 194 _ fun _ _ aw aZ => Post.mono (k_intMul aZ (ai.ext (an.trans (aq.ext.trans (az.trans (aA.ext.trans aw))))) (nat_int (ar.ext (az.trans (aA.ext.trans aw)))) xq xq) ?_
  rintro _ u36 aO ⟨i34, rfl, ba⟩
  refine zzg 38 195 _ fun _ _ aE aQ => Post.mono (k_natural (x := ac.d) aQ) ?_
  rintro _ u40 aH rfl
  refine zzg 39 194 _ fun _ _ aI a2 => Post.mono (k_intMul a2 (ak.ext (az.trans (aA.ext.trans (aw.trans (aO.ext.trans (aE.trans (aH.ext.trans aI))))))) (nat_int (au.ext (an.trans (aq.ext.trans (az.trans (aA.ext.trans (aw.trans (aO.ext.trans (aE.trans (aH.ext.trans aI)))))))))) xq xq) ?_
  rintro _ u46 aP ⟨i44, rfl, aX⟩
  refine zzg 40 181 _ fun _ _ aM a5 => Post.mono (k_intCompare a5 (ba.ext (aE.trans (aH.ext.trans (aI.trans (aP.ext.trans aM))))).raw (aX.ext aM).raw) ?_
  rintro _ u50 g51 rfl
  refine zza 4 (zI (Nt.cmpS (ag * (ao : Int)) (af * (ap : Int)))) (zzc 41 [(4, zI (Nt.cmpS (ag * (ao : Int)) (af * (ap : Int))))] [] (zzn (ret0 [.int .i64 (Nt.cmpS (ag * (ao : Int)) (af * (ap : Int)))] ⟨zzp, trivial⟩ fun u53 e54 => ?_)))
  show _ = _
  rw [aj, ah, ← Nt.cmp_mk am al]
  rfl
 refine zyp 13 (x := zB ae) (zB false) (by rw [hs21]) (zzm 14 (uw 2 true false 13) (zzm 15 (uw 2 true false 13) (zza 16 (zB false) (zzb (zyr xj (zzr (zzo ?_)))))))
 refine zzd (zzy [0, 1, 3, 0, 8, 24, 56, 127, 0, 256, 768, 0, 2048, 6144, 14591, 32767, 65535, 131071] [(0, []), (1, []), (2, []), (3, []), (4, []), (5, []), (8, []), (9, []), (10, []), (11, []), (12, []), (13, []), (6, []), (7, []), (14, []), (15, []), (16, []), (17, [])] xj xj (zza 24 (.adr 5 0) (zza 25 (.adr 5 0) (zzh 26 (.v (.agg #[.bool ac.s, ac.m.v])) ty24 zze (zza 27 (.adr 6 0) (zza 28 (.adr 6 2) (zzh 29 (.v (ad.d.v)) ty22 zzk (zza 32 (.adr 6 0) (zza 33 (.adr 6 0) (zzh 34 (.v (.agg #[.bool ad.s, ad.m.v])) ty24 zze (zza 35 (.adr 5 0) ?_)))))))))))
 refine zza 36 (.adr 5 2) (zzh 37 (.v (ac.d.v)) ty22 zzk (zzg 30 195 _ fun _ _ av a0 => Post.mono (k_natural (x := ad.d) a0) ?_))
 rintro _ u56 ay rfl
 refine zzg 31 194 _ fun _ _ ax a7 => Post.mono (k_intMul a7 (ai.ext (an.trans (aq.ext.trans (av.trans (ay.ext.trans ax))))) (nat_int (ar.ext (av.trans (ay.ext.trans ax)))) xq xq) ?_
 rintro _ u62 aL ⟨i60, rfl, a6⟩
 refine zzg 38 195 _ fun _ _ aC aU => Post.mono (k_natural (x := ac.d) aU) ?_
 rintro _ u66 aF rfl
 refine zzg 39 194 _ fun _ _ aG aW => Post.mono (k_intMul aW (ak.ext (av.trans (ay.ext.trans (ax.trans (aL.ext.trans (aC.trans (aF.ext.trans aG))))))) (nat_int (au.ext (an.trans (aq.ext.trans (av.trans (ay.ext.trans (ax.trans (aL.ext.trans (aC.trans (aF.ext.trans aG)))))))))) xq xq) ?_
 rintro _ u72 a1 ⟨i70, rfl, aT⟩
 refine zzg 40 181 _ fun _ _ aN a8 => Post.mono (k_intCompare a8 (a6.ext (aC.trans (aF.ext.trans (aG.trans (a1.ext.trans aN))))).raw (aT.ext aN).raw) ?_
 rintro _ u76 g77 rfl
 refine zza 4 (zI (Nt.cmpS (ag * (ao : Int)) (af * (ap : Int)))) (zzc 41 [(4, zI (Nt.cmpS (ag * (ao : Int)) (af * (ap : Int))))] [] (zzn (ret0 [.int .i64 (Nt.cmpS (ag * (ao : Int)) (af * (ap : Int)))] ⟨zzp, trivial⟩ fun u79 e80 => ?_)))
 show _ = _
 rw [aj, ah, ← Nt.cmp_mk am al]
 rfl
theorem k_ratNeg {u w : World} {r1 : RL} {x : Rat} {K : Nat} (d : Dat u w) (hr1 : RatV u r1 x K) (hK : K ≤ 200000000) : Calls Tryz.prog 176 #[r1.v] w (Post u w fun v u' => ∃ r : RL, v = r.v ∧ RatN u' r (-x) K) := by
 refine zzl (args := [r1.v]) Tryz.func176 rfl Tryz.ntmps176 (rs := [.cell 2 26]) Tryz.results176 (le_b rfl) (le_b rfl) d ?_
 refine sq9 (zzj 1 ⟨26, r1.cs⟩ (zzj 2 ⟨26, zw3⟩ (zzb (sq9 (zzh 3 (.v (r1.v)) ty26 zze (zzg 4 226 _ fun _ _ ab ae => Post.mono (k_flip (r := r1) ae) ?_))))))
 rintro _ u12 ad rfl
 refine zzg 5 78 _ fun _ _ ac ag => Post.mono (k_ratTrim ag ((flip_rat (hr1.ext (ab.trans ad.ext))).ext ac) xq) ?_
 rintro _ u18 g19 ⟨aa, rfl, ah⟩
 refine zzi ⟨26, aa.cs⟩ ty26 ?_
 refine zzb (zzn (ret0 [aa.v] ⟨zzq ty26 zze, trivial⟩ fun u21 af => ?_))
 refine ⟨aa, rfl, RatN.more (K := K) ?_ xq⟩
 exact (ah.ext af)
theorem k_ratAbs {u w : World} {r1 : RL} {x : Rat} {K : Nat} (d : Dat u w) (hr1 : RatV u r1 x K) (hK : K ≤ 200000000) : Calls Tryz.prog 124 #[r1.v] w (Post u w fun v u' => ∃ r : RL, v = r.v ∧ RatN u' r (Nt.absQ x) K) := by
 refine zzl (args := [r1.v]) Tryz.func124 rfl Tryz.ntmps124 (rs := [.cell 2 26]) Tryz.results124 (le_b rfl) (le_b rfl) d ?_
 refine sq9 (zzj 1 ⟨26, r1.cs⟩ (zzj 2 ⟨26, zw3⟩ (zzb (sq9 (zza 3 (.adr 1 0) (zza 4 (.adr 1 1) (zzh 5 (.v (r1.m.v)) ty22 zzk (zza 6 (.v (.agg #[.bool false, r1.m.v])) (zza 7 (.adr 1 2) (zzh 8 (.v (r1.d.v)) ty22 zzk (zza 9 (.v (.agg #[.bool false, r1.m.v, r1.d.v])) ?_)))))))))))
 refine zzg 10 78 _ fun _ _ ac ae => Post.mono (k_ratTrim ae ((abs_rat hr1).ext ac) xq) ?_
 rintro _ u14 g15 ⟨aa, rfl, ab⟩
 refine zzi ⟨26, aa.cs⟩ ty26 ?_
 refine zzb (zzn (ret0 [aa.v] ⟨zzq ty26 zze, trivial⟩ fun u17 ad => ?_))
 refine ⟨aa, rfl, RatN.more (K := K) ?_ xq⟩
 exact (ab.ext ad)
set_option maxHeartbeats 1000000 in
theorem k_ratAdd {u w : World} {r1 : RL} {x : Rat} {K : Nat} {r2 : RL} {y : Rat} {L : Nat} (d : Dat u w) (hr1 : RatV u r1 x K) (hr2 : RatV u r2 y L) (hK : K ≤ 200000000) (hL : L ≤ 200000000) : Calls Tryz.prog 126 #[r1.v, r2.v] w (Post u w fun v u' => ∃ r : RL, v = r.v ∧ RatN u' r (x + y) (K + L + 1)) := by
 refine zzl (args := [r1.v, r2.v]) Tryz.func126 rfl Tryz.ntmps126 (rs := [.cell 4 26]) Tryz.results126 (le_b rfl) (le_b rfl) d ?_
 refine sq9 (zzj 2 ⟨26, r1.cs⟩ (zzj 3 ⟨26, r2.cs⟩ (zzj 4 ⟨26, zw3⟩ (zzb (zzd (zzy [0, 1, 0, 7, 0, 0, 63, 127] [(0, []), (2, []), (4, []), (5, []), (1, []), (3, []), (6, []), (7, [])] xj xj (zzh 8 (.v (r1.v)) ty26 zze (zzh 10 (.v (r2.v)) ty26 zze (zzj 5 ⟨149, [.bool false, .slice none 0 0, .slice none 0 0, .bool false]⟩ (zzj 6 ⟨149, [.bool false, .slice none 0 0, .slice none 0 0, .bool false]⟩ (zzg 9 147 _ fun _ _ bv bF => Post.mono (k_read bF (hr1.ext bv)) ?_)))))))))))
 rintro _ u13 b2 ⟨aa, af, rfl, z12, aO, au, ad, ae, aw, a2, b8⟩
 refine zzg 11 147 _ fun _ _ ag bV => Post.mono (k_read bV (hr2.ext (bv.trans (b2.ext.trans ag)))) ?_
 rintro _ u18 ai ⟨ab, ac, rfl, z17, D17, ax, al, aA, am, a5, bP⟩
 refine zzi ⟨149, aa.cs ++ [.bool af]⟩ ty149 ?_
 refine zzi ⟨149, ab.cs ++ [.bool ac]⟩ ty149 ?_
 refine zzb (zzd (sq9 (zza 12 (.adr 5 3) (zzh 13 (zB af) ty4 zzk ?_))))
 rcases Bool.eq_false_or_eq_true af with hs21 | hs21
 ·refine zyp 14 (x := zB af) (zB true) (by rw [hs21]) (zza 15 (.adr 6 3) ?_ (hw := w1 2 true 14))
  refine zzh 16 (zB ac) ty4 zzk ?_ (hw := w1 2 true 14)
  refine zza 17 (zB ac) (zzb (zzt (b := ac) xj (fun ar => ?_) (fun ar => ?_)))
  ·replace ar : ac = true := ar
   refine sq9 (zza 18 (.adr 5 0) (zza 19 (.adr 5 0) (zzh 20 (.v (.agg #[.bool aa.s, aa.m.v])) ty24 zze (zza 21 (.adr 6 0) (zza 22 (.adr 6 0) (zzh 23 (.v (.agg #[.bool ab.s, ab.m.v])) ty24 zze (zzg 24 159 _ fun _ _ bw ck => Post.mono (k_intAdd ck (au.ext (ag.trans (ai.ext.trans bw))) (ax.ext bw) xq xq) ?_)))))))
   rintro _ u26 g27 ⟨aM, rfl, bO⟩
   refine zzg 25 193 _ fun _ _ b4 bY => Post.mono (k_whole (i := aM) bY) ?_
   rintro _ u32 bT ⟨ba, rfl, b7⟩
   refine zzi ⟨26, aM.cs ++ [ba.v]⟩ ty26 ?_
   refine zzb (zzn (zzv (ret0 [.agg #[.bool aM.s, aM.m.v, ba.v]] ⟨zzq ty26 zze, trivial⟩ fun u35 cj => ?_)))
   refine ⟨(⟨aM.s, aM.m, ba⟩ : RL), rfl, RatN.more (K := (max (max K L + 1) 1)) ?_ xq⟩
   rw [aw, am, a2 (by assumption), a5 (by assumption), Nt.mk_one, Nt.mk_one, ← Rat.intCast_add]
   exact ((whole_rat (bO.ext (b4.trans bT.ext)) b7).ext cj)
  replace ar : ac = false := ar
  refine zzr (zzo ?_)
  refine zzd (sq9 (zza 26 (.adr 5 0) (zza 27 (.adr 5 2) (zzh 28 (.v (aa.d.v)) ty22 zzk (zza 29 (.adr 6 0) (zza 30 (.adr 6 2) (zzh 31 (.v (ab.d.v)) ty22 zzk (zzg 32 83 _ fun _ _ an ce => Post.mono (k_natCompare ce (ad.ext (ag.trans (ai.ext.trans an))) (al.ext an)) ?_))))))))
  rintro _ u38 aD rfl
  refine zza 33 (zB ((Nt.cmpS aO D17) == 0)) (zzb (zzt (b := (Nt.cmpS aO D17) == 0) xj (fun aV => ?_) (fun aV => ?_)))
  ·refine zzd (zzy [0, 1, 3, 0, 8, 24, 63, 0, 128, 384, 1023, 2047, 4095] [(0, []), (1, []), (2, []), (3, []), (4, []), (5, []), (7, []), (8, []), (9, []), (6, []), (10, []), (11, []), (12, [])] xj xj (zza 34 (.adr 5 0) (zza 35 (.adr 5 0) (zzh 36 (.v (.agg #[.bool aa.s, aa.m.v])) ty24 zze (zza 37 (.adr 6 0) (zza 38 (.adr 6 0) (zzh 39 (.v (.agg #[.bool ab.s, ab.m.v])) ty24 zze (zza 41 (.adr 5 0) (zza 42 (.adr 5 2) (zzh 43 (.v (aa.d.v)) ty22 zzk (zzg 40 159 _ fun _ _ be cm => Post.mono (k_intAdd cm (au.ext (ag.trans (ai.ext.trans (an.trans (aD.ext.trans be))))) (ax.ext (an.trans (aD.ext.trans be))) xq xq) ?_)))))))))))
   rintro _ u45 bN ⟨bu, rfl, bG⟩
   refine zza 44 (.v (.agg #[.bool bu.s, bu.m.v, aa.d.v])) (zzg 45 148 _ fun _ _ bx cc => Post.mono (k_lowest cc (bG.ext bx).raw (ad.ext (ag.trans (ai.ext.trans (an.trans (aD.ext.trans (be.trans (bN.ext.trans bx))))))) ae xq xq) ?_)
   rintro _ u51 g52 ⟨aY, rfl, cd⟩
   refine zzi ⟨26, aY.cs⟩ ty26 ?_
   refine zzc 73 [(4, .adr 4 0)] [(4, ⟨26, aY.cs⟩)] (zzn (zzv (ret0 [aY.v] ⟨zzq ty26 zze, trivial⟩ fun u54 bI => ?_)))
   refine ⟨aY, rfl, RatN.more (K := (max (max K L + 1) K)) ?_ xq⟩
   have hD : aO = D17 := Nt.cmp_natE aV
   rw [aw, am, ← hD, ← Nt.add_same ae]
   exact (cd.ext bI)
  refine zzr (zzo ?_)
  refine zzd (zzy [0, 1, 3, 0, 8, 24, 56, 127, 0, 256, 768, 0, 2048, 6144, 14591, 32767, 65535, 0, 262143] [(0, []), (1, []), (2, []), (3, []), (4, []), (5, []), (8, []), (9, []), (10, []), (11, []), (12, []), (13, []), (17, []), (6, []), (7, []), (14, []), (15, []), (16, []), (18, [])] xj xj (zza 46 (.adr 5 0) (zza 47 (.adr 5 0) (zzh 48 (.v (.agg #[.bool aa.s, aa.m.v])) ty24 zze (zza 49 (.adr 6 0) (zza 50 (.adr 6 2) (zzh 51 (.v (ab.d.v)) ty22 zzk (zza 54 (.adr 6 0) (zza 55 (.adr 6 0) (zzh 56 (.v (.agg #[.bool ab.s, ab.m.v])) ty24 zze (zza 57 (.adr 5 0) ?_)))))))))))
  refine zza 58 (.adr 5 2) (zzh 59 (.v (aa.d.v)) ty22 zzk (zzj 7 ⟨24, [.bool false, .slice none 0 0]⟩ (zzg 52 195 _ fun _ _ aK cn => Post.mono (k_natural (x := ab.d) cn) ?_)))
  rintro _ u57 aN rfl
  refine zzg 53 194 _ fun _ _ aL bW => Post.mono (k_intMul bW (au.ext (ag.trans (ai.ext.trans (an.trans (aD.ext.trans (aK.trans (aN.ext.trans aL))))))) (nat_int (al.ext (an.trans (aD.ext.trans (aK.trans (aN.ext.trans aL)))))) xq xq) ?_
  rintro _ u63 a0 ⟨i61, rfl, b1⟩
  refine zzg 60 195 _ fun _ _ aX bS => Post.mono (k_natural (x := aa.d) bS) ?_
  rintro _ u67 aU rfl
  refine zzg 61 194 _ fun _ _ aR b9 => Post.mono (k_intMul b9 (ax.ext (an.trans (aD.ext.trans (aK.trans (aN.ext.trans (aL.trans (a0.ext.trans (aX.trans (aU.ext.trans aR))))))))) (nat_int (ad.ext (ag.trans (ai.ext.trans (an.trans (aD.ext.trans (aK.trans (aN.ext.trans (aL.trans (a0.ext.trans (aX.trans (aU.ext.trans aR)))))))))))) xq xq) ?_
  rintro _ u73 a6 ⟨i71, rfl, cl⟩
  refine zzg 62 159 _ fun _ _ aZ bQ => Post.mono (k_intAdd bQ (b1.ext (aX.trans (aU.ext.trans (aR.trans (a6.ext.trans aZ))))).raw (cl.ext aZ).raw xq xq) ?_
  rintro _ u79 bA ⟨aS, rfl, bZ⟩
  refine zzi ⟨24, aS.cs⟩ ty24 ?_
  refine zzc 73 [(4, .adr 4 0), (5, .adr 5 0), (6, .adr 6 0), (7, .adr 7 0)] [(4, ⟨26, zw3⟩), (5, ⟨149, aa.cs ++ [.bool af]⟩), (6, ⟨149, ab.cs ++ [.bool ac]⟩), (7, ⟨24, aS.cs⟩)] (zzd (zzy [0, 0, 2, 6, 0, 16, 48, 126, 255, 511, 1023] [(0, []), (1, []), (2, []), (3, []), (4, []), (5, []), (6, []), (7, []), (8, []), (9, []), (10, [])] xj xj (zzh 63 (.v (aS.v)) ty24 zze (zza 64 (.adr 5 0) (zza 65 (.adr 5 2) (zzh 66 (.v (aa.d.v)) ty22 zzk (zza 67 (.adr 6 0) (zza 68 (.adr 6 2) (zzh 69 (.v (ab.d.v)) ty22 zzk (zzg 70 156 _ fun _ _ bq bH => Post.mono (k_natMul bH (ad.ext (ag.trans (ai.ext.trans (an.trans (aD.ext.trans (aK.trans (aN.ext.trans (aL.trans (a0.ext.trans (aX.trans (aU.ext.trans (aR.trans (a6.ext.trans (aZ.trans (bA.ext.trans bq))))))))))))))) (al.ext (an.trans (aD.ext.trans (aK.trans (aN.ext.trans (aL.trans (a0.ext.trans (aX.trans (aU.ext.trans (aR.trans (a6.ext.trans (aZ.trans (bA.ext.trans bq))))))))))))) xq xq) ?_))))))))))
  rintro _ u85 b0 ⟨ca, rfl, bJ⟩
  refine zza 71 (.v (.agg #[.bool aS.s, aS.m.v, ca.v])) (zzg 72 148 _ fun _ _ bz bU => Post.mono (k_lowest bU (bZ.ext (bq.trans (b0.ext.trans bz))).raw (bJ.ext bz).raw (Nat.mul_pos ae aA) xq xq) ?_)
  rintro _ u91 g92 ⟨bb, rfl, bD⟩
  refine zzi ⟨26, bb.cs⟩ ty26 ?_
  refine zzb (zzn (ret0 [bb.v] ⟨zzq ty26 zze, trivial⟩ fun u94 bB => ?_))
  refine ⟨bb, rfl, RatN.more (K := (max (max (K + L) (L + K) + 1) (K + L))) ?_ xq⟩
  rw [aw, am, ← Nt.add_mk ae aA]
  exact (bD.ext bB)
 refine zyp 14 (x := zB af) (zB false) (by rw [hs21]) (zzm 15 (uw 2 true false 14) (zzm 16 (uw 2 true false 14) (zza 17 (zB false) (zzb (zyr xj (zzr (zzo ?_)))))))
 refine zzd (sq9 (zza 26 (.adr 5 0) (zza 27 (.adr 5 2) (zzh 28 (.v (aa.d.v)) ty22 zzk (zza 29 (.adr 6 0) (zza 30 (.adr 6 2) (zzh 31 (.v (ab.d.v)) ty22 zzk (zzg 32 83 _ fun _ _ ap bC => Post.mono (k_natCompare bC (ad.ext (ag.trans (ai.ext.trans ap))) (al.ext ap)) ?_))))))))
 rintro _ u97 aE rfl
 refine zza 33 (zB ((Nt.cmpS aO D17) == 0)) (zzb (zzt (b := (Nt.cmpS aO D17) == 0) xj (fun aF => ?_) (fun aF => ?_)))
 ·refine zzd (zzy [0, 1, 3, 0, 8, 24, 63, 0, 128, 384, 1023, 2047, 4095] [(0, []), (1, []), (2, []), (3, []), (4, []), (5, []), (7, []), (8, []), (9, []), (6, []), (10, []), (11, []), (12, [])] xj xj (zza 34 (.adr 5 0) (zza 35 (.adr 5 0) (zzh 36 (.v (.agg #[.bool aa.s, aa.m.v])) ty24 zze (zza 37 (.adr 6 0) (zza 38 (.adr 6 0) (zzh 39 (.v (.agg #[.bool ab.s, ab.m.v])) ty24 zze (zza 41 (.adr 5 0) (zza 42 (.adr 5 2) (zzh 43 (.v (aa.d.v)) ty22 zzk (zzg 40 159 _ fun _ _ aI bn => Post.mono (k_intAdd bn (au.ext (ag.trans (ai.ext.trans (ap.trans (aE.ext.trans aI))))) (ax.ext (ap.trans (aE.ext.trans aI))) xq xq) ?_)))))))))))
  rintro _ cp bk ⟨aW, rfl, bf⟩
  refine zza 44 (.v (.agg #[.bool aW.s, aW.m.v, aa.d.v])) (zzg 45 148 _ fun _ _ aP bg => Post.mono (k_lowest bg (bf.ext aP).raw (ad.ext (ag.trans (ai.ext.trans (ap.trans (aE.ext.trans (aI.trans (bk.ext.trans aP))))))) ae xq xq) ?_)
  rintro _ cf ci ⟨aC, rfl, br⟩
  refine zzi ⟨26, aC.cs⟩ ty26 ?_
  refine zzc 73 [(4, .adr 4 0)] [(4, ⟨26, aC.cs⟩)] (zzn (zzv (ret0 [aC.v] ⟨zzq ty26 zze, trivial⟩ fun bE bh => ?_)))
  refine ⟨aC, rfl, RatN.more (K := (max (max K L + 1) K)) ?_ xq⟩
  have hD : aO = D17 := Nt.cmp_natE aF
  rw [aw, am, ← hD, ← Nt.add_same ae]
  exact (br.ext bh)
 refine zzr (zzo ?_)
 refine zzd (zzy [0, 1, 3, 0, 8, 24, 56, 127, 0, 256, 768, 0, 2048, 6144, 14591, 32767, 65535, 0, 262143] [(0, []), (1, []), (2, []), (3, []), (4, []), (5, []), (8, []), (9, []), (10, []), (11, []), (12, []), (13, []), (17, []), (6, []), (7, []), (14, []), (15, []), (16, []), (18, [])] xj xj (zza 46 (.adr 5 0) (zza 47 (.adr 5 0) (zzh 48 (.v (.agg #[.bool aa.s, aa.m.v])) ty24 zze (zza 49 (.adr 6 0) (zza 50 (.adr 6 2) (zzh 51 (.v (ab.d.v)) ty22 zzk (zza 54 (.adr 6 0) (zza 55 (.adr 6 0) (zzh 56 (.v (.agg #[.bool ab.s, ab.m.v])) ty24 zze (zza 57 (.adr 5 0) ?_)))))))))))
 refine zza 58 (.adr 5 2) (zzh 59 (.v (aa.d.v)) ty22 zzk (zzj 7 ⟨24, [.bool false, .slice none 0 0]⟩ (zzg 52 195 _ fun _ _ ah bl => Post.mono (k_natural (x := ab.d) bl) ?_)))
 rintro _ cb ak rfl
 refine zzg 53 194 _ fun _ _ aj a4 => Post.mono (k_intMul a4 (au.ext (ag.trans (ai.ext.trans (ap.trans (aE.ext.trans (ah.trans (ak.ext.trans aj))))))) (nat_int (al.ext (ap.trans (aE.ext.trans (ah.trans (ak.ext.trans aj)))))) xq xq) ?_
 rintro _ b6 az ⟨bK, rfl, a3⟩
 refine zzg 60 195 _ fun _ _ ay a1 => Post.mono (k_natural (x := aa.d) a1) ?_
 rintro _ b5 aq rfl
 refine zzg 61 194 _ fun _ _ ao bt => Post.mono (k_intMul bt (ax.ext (ap.trans (aE.ext.trans (ah.trans (ak.ext.trans (aj.trans (az.ext.trans (ay.trans (aq.ext.trans ao))))))))) (nat_int (ad.ext (ag.trans (ai.ext.trans (ap.trans (aE.ext.trans (ah.trans (ak.ext.trans (aj.trans (az.ext.trans (ay.trans (aq.ext.trans ao)))))))))))) xq xq) ?_
 rintro _ bX aH ⟨cg, rfl, bi⟩
 refine zzg 62 159 _ fun _ _ aB a7 => Post.mono (k_intAdd a7 (a3.ext (ay.trans (aq.ext.trans (ao.trans (aH.ext.trans aB))))).raw (bi.ext aB).raw xq xq) ?_
 rintro _ bR aQ ⟨av, rfl, bp⟩
 refine zzi ⟨24, av.cs⟩ ty24 ?_
 refine zzc 73 [(4, .adr 4 0), (5, .adr 5 0), (6, .adr 6 0), (7, .adr 7 0)] [(4, ⟨26, zw3⟩), (5, ⟨149, aa.cs ++ [.bool af]⟩), (6, ⟨149, ab.cs ++ [.bool ac]⟩), (7, ⟨24, av.cs⟩)] (zzd (zzy [0, 0, 2, 6, 0, 16, 48, 126, 255, 511, 1023] [(0, []), (1, []), (2, []), (3, []), (4, []), (5, []), (6, []), (7, []), (8, []), (9, []), (10, [])] xj xj (zzh 63 (.v (av.v)) ty24 zze (zza 64 (.adr 5 0) (zza 65 (.adr 5 2) (zzh 66 (.v (aa.d.v)) ty22 zzk (zza 67 (.adr 6 0) (zza 68 (.adr 6 2) (zzh 69 (.v (ab.d.v)) ty22 zzk (zzg 70 156 _ fun _ _ aJ a8 => Post.mono (k_natMul a8 (ad.ext (ag.trans (ai.ext.trans (ap.trans (aE.ext.trans (ah.trans (ak.ext.trans (aj.trans (az.ext.trans (ay.trans (aq.ext.trans (ao.trans (aH.ext.trans (aB.trans (aQ.ext.trans aJ))))))))))))))) (al.ext (ap.trans (aE.ext.trans (ah.trans (ak.ext.trans (aj.trans (az.ext.trans (ay.trans (aq.ext.trans (ao.trans (aH.ext.trans (aB.trans (aQ.ext.trans aJ))))))))))))) xq xq) ?_))))))))))
 rintro _ b3 bc ⟨a9, rfl, bj⟩
 refine zza 71 (.v (.agg #[.bool av.s, av.m.v, a9.v])) (zzg 72 148 _ fun _ _ aT bs => Post.mono (k_lowest bs (bp.ext (aJ.trans (bc.ext.trans aT))).raw (bj.ext aT).raw (Nat.mul_pos ae aA) xq xq) ?_)
 rintro _ bL bM ⟨aG, rfl, bm⟩
 refine zzi ⟨26, aG.cs⟩ ty26 ?_
 refine zzb (zzn (ret0 [aG.v] ⟨zzq ty26 zze, trivial⟩ fun ch bo => ?_))
 refine ⟨aG, rfl, RatN.more (K := (max (max (K + L) (L + K) + 1) (K + L))) ?_ xq⟩
 rw [aw, am, ← Nt.add_mk ae aA]
 exact (bm.ext bo)
set_option maxHeartbeats 1000000 in
theorem k_ratMul {u w : World} {r1 : RL} {x : Rat} {K : Nat} {r2 : RL} {y : Rat} {L : Nat} (d : Dat u w) (hr1 : RatV u r1 x K) (hr2 : RatV u r2 y L) (hK : K ≤ 200000000) (hL : L ≤ 200000000) : Calls Tryz.prog 123 #[r1.v, r2.v] w (Post u w fun v u' => ∃ r : RL, v = r.v ∧ RatN u' r (x * y) (K + L)) := by
 refine zzl (args := [r1.v, r2.v]) Tryz.func123 rfl Tryz.ntmps123 (rs := [.cell 4 26]) Tryz.results123 (le_b rfl) (le_b rfl) d ?_
 refine sq9 (zzj 2 ⟨26, r1.cs⟩ (zzj 3 ⟨26, r2.cs⟩ (zzj 4 ⟨26, zw3⟩ (zzb (zzd (zzy [0, 1, 0, 7, 0, 0, 63, 127] [(0, []), (2, []), (4, []), (5, []), (1, []), (3, []), (6, []), (7, [])] xj xj (zzh 8 (.v (r1.v)) ty26 zze (zzh 10 (.v (r2.v)) ty26 zze (zzj 5 ⟨149, [.bool false, .slice none 0 0, .slice none 0 0, .bool false]⟩ (zzj 6 ⟨149, [.bool false, .slice none 0 0, .slice none 0 0, .bool false]⟩ (zzg 9 147 _ fun _ _ aE aG => Post.mono (k_read aG (hr1.ext aE)) ?_)))))))))))
 rintro _ u13 aM ⟨aj, ad, rfl, z12, D12, ax, ai, ak, af, ar, a2⟩
 refine zzg 11 147 _ fun _ _ an aT => Post.mono (k_read aT (hr2.ext (aE.trans (aM.ext.trans an)))) ?_
 rintro _ u18 av ⟨am, ab, rfl, z17, D17, ay, al, ah, ae, aB, aZ⟩
 refine zzi ⟨149, aj.cs ++ [.bool ad]⟩ ty149 ?_
 refine zzi ⟨149, am.cs ++ [.bool ab]⟩ ty149 ?_
 refine zzb (sq9 (zza 12 (.adr 5 0) (zza 13 (.adr 5 0) (zzh 14 (.v (.agg #[.bool aj.s, aj.m.v])) ty24 zze (zza 15 (.adr 6 0) (zza 16 (.adr 6 0) (zzh 17 (.v (.agg #[.bool am.s, am.m.v])) ty24 zze (zzg 18 194 _ fun _ _ ag aH => Post.mono (k_intMul aH (ax.ext (an.trans (av.ext.trans ag))) (ay.ext ag) xq xq) ?_))))))))
 rintro _ u24 ap ⟨aa, rfl, aw⟩
 refine zzj 7 ⟨24, [.bool false, .slice none 0 0]⟩ (zzi ⟨24, aa.cs⟩ ty24 ?_)
 refine zzb (zzd (sq9 (zza 19 (.adr 5 3) (zzh 20 (zB ad) ty4 zzk ?_))))
 rcases Bool.eq_false_or_eq_true ad with hs27 | hs27
 ·refine zyp 21 (x := zB ad) (zB true) (by rw [hs27]) (zza 22 (.adr 6 3) ?_ (hw := w1 2 true 21))
  refine zzh 23 (zB ab) ty4 zzk ?_ (hw := w1 2 true 21)
  refine zza 24 (zB ab) (zzb (zzt (b := ab) xj (fun ac => ?_) (fun ac => ?_)))
  ·replace ac : ab = true := ac
   refine sq9 (zzh 25 (.v (aa.v)) ty24 zze (zzg 26 193 _ fun _ _ aS aF => Post.mono (k_whole (i := aa) aF) ?_))
   rintro _ u32 aO ⟨aA, rfl, a0⟩
   refine zzi ⟨26, aa.cs ++ [aA.v]⟩ ty26 ?_
   refine zzb (zzn (zzv (ret0 [.agg #[.bool aa.s, aa.m.v, aA.v]] ⟨zzq ty26 zze, trivial⟩ fun u35 aQ => ?_)))
   refine ⟨(⟨aa.s, aa.m, aA⟩ : RL), rfl, RatN.more (K := (max (K + L) 1)) ?_ xq⟩
   rw [af, ae, ar (by assumption), aB (by assumption), Nt.mk_one, Nt.mk_one, ← Rat.intCast_mul]
   exact ((whole_rat (aw.ext (aS.trans aO.ext)) a0).ext aQ)
  replace ac : ab = false := ac
  refine zzr (zzo ?_)
  refine zzd (zzy [0, 0, 2, 6, 0, 16, 48, 126, 255, 511, 1023] [(0, []), (1, []), (2, []), (3, []), (4, []), (5, []), (6, []), (7, []), (8, []), (9, []), (10, [])] xj xj (zzh 27 (.v (aa.v)) ty24 zze (zza 28 (.adr 5 0) (zza 29 (.adr 5 2) (zzh 30 (.v (aj.d.v)) ty22 zzk (zza 31 (.adr 6 0) (zza 32 (.adr 6 2) (zzh 33 (.v (am.d.v)) ty22 zzk (zzg 34 156 _ fun _ _ au aL => Post.mono (k_natMul aL (ai.ext (an.trans (av.ext.trans (ag.trans (ap.ext.trans au))))) (al.ext (ag.trans (ap.ext.trans au))) xq xq) ?_)))))))))
  rintro _ u40 a3 ⟨aU, rfl, aY⟩
  refine zza 35 (.v (.agg #[.bool aa.s, aa.m.v, aU.v])) (zzg 36 148 _ fun _ _ aC aK => Post.mono (k_lowest aK (aw.ext (au.trans (a3.ext.trans aC))).raw (aY.ext aC).raw (Nat.mul_pos ak ah) xq xq) ?_)
  rintro _ u46 g47 ⟨aq, rfl, aW⟩
  refine zzi ⟨26, aq.cs⟩ ty26 ?_
  refine zzc 37 [(4, .adr 4 0)] [(4, ⟨26, aq.cs⟩)] (zzn (ret0 [aq.v] ⟨zzq ty26 zze, trivial⟩ fun u49 aJ => ?_))
  refine ⟨aq, rfl, RatN.more (K := (max (K + L) (K + L))) ?_ xq⟩
  rw [af, ae, ← Nt.mul_mk]
  exact (aW.ext aJ)
 refine zyp 21 (x := zB ad) (zB false) (by rw [hs27]) (zzm 22 (uw 2 true false 21) (zzm 23 (uw 2 true false 21) (zza 24 (zB false) (zzb (zyr xj (zzr (zzo ?_)))))))
 refine zzd (zzy [0, 0, 2, 6, 0, 16, 48, 126, 255, 511, 1023] [(0, []), (1, []), (2, []), (3, []), (4, []), (5, []), (6, []), (7, []), (8, []), (9, []), (10, [])] xj xj (zzh 27 (.v (aa.v)) ty24 zze (zza 28 (.adr 5 0) (zza 29 (.adr 5 2) (zzh 30 (.v (aj.d.v)) ty22 zzk (zza 31 (.adr 6 0) (zza 32 (.adr 6 2) (zzh 33 (.v (am.d.v)) ty22 zzk (zzg 34 156 _ fun _ _ az aP => Post.mono (k_natMul aP (ai.ext (an.trans (av.ext.trans (ag.trans (ap.ext.trans az))))) (al.ext (ag.trans (ap.ext.trans az))) xq xq) ?_)))))))))
 rintro _ u54 a1 ⟨aR, rfl, aX⟩
 refine zza 35 (.v (.agg #[.bool aa.s, aa.m.v, aR.v])) (zzg 36 148 _ fun _ _ aD aV => Post.mono (k_lowest aV (aw.ext (az.trans (a1.ext.trans aD))).raw (aX.ext aD).raw (Nat.mul_pos ak ah) xq xq) ?_)
 rintro _ u60 g61 ⟨ao, rfl, aN⟩
 refine zzi ⟨26, ao.cs⟩ ty26 ?_
 refine zzc 37 [(4, .adr 4 0)] [(4, ⟨26, ao.cs⟩)] (zzn (ret0 [ao.v] ⟨zzq ty26 zze, trivial⟩ fun u63 aI => ?_))
 refine ⟨ao, rfl, RatN.more (K := (max (K + L) (K + L))) ?_ xq⟩
 rw [af, ae, ← Nt.mul_mk]
 exact (aN.ext aI)
theorem k_ratFrac {u w : World} {a b : Int} (d : Dat u w) (ha0 : -9223372036854775808 ≤ a) (ha1 : a ≤ 9223372036854775807) (hb0 : -9223372036854775808 ≤ b) (hb1 : b ≤ 9223372036854775807) : Calls Tryz.prog 127 #[.int .i64 a, .int .i64 b] w (Post u w fun v u' => ∃ r : RL, v = r.v ∧ RatN u' r ((a : Rat) / (b : Rat)) 2) := by
 refine zzl (args := [.int .i64 a, .int .i64 b]) Tryz.func127 rfl Tryz.ntmps127 (rs := [.cell 4 26]) Tryz.results127 (le_b rfl) (le_b rfl) d ?_
 refine sq9 (zzj 4 ⟨26, zw3⟩ (zzb (zzd (sq9 (zza 5 (zI b) (zza 6 (zB (b == 0)) (zzb (zzt (b := b == 0) xj (fun aa => ?_) (fun aa => ?_)))))))))
 ·refine sq9 (zzg 7 118 _ fun _ _ _ an => Post.mono (k_ratOf an (z := 0) xq xq) ?_)
  rintro _ u15 g16 ⟨ab, rfl, aw⟩
  refine zzi ⟨26, ab.cs⟩ ty26 ?_
  refine zzb (zzn (zzv (ret0 [ab.v] ⟨zzq ty26 zze, trivial⟩ fun u18 aq => ?_)))
  refine ⟨ab, rfl, RatN.more (K := 2) ?_ xq⟩
  have hb0 : b = 0 := by simpa using aa
  rw [hb0]; simp [Rat.div_def]; exact (aw.ext aq)
 have hb0 : 0 < b.natAbs := by simp at aa; omega
 refine zzr (zzo ?_)
 refine sq9 (zza 8 (zI a) (zzg 9 160 _ fun _ _ _ ar => Post.mono (k_intOf ar (z := a) xq xq) ?_))
 rintro _ u23 g24 ⟨ap, rfl, au⟩
 refine zza 10 (zI b) (zzg 11 160 _ fun _ _ ah al => Post.mono (k_intOf al (z := b) xq xq) ?_)
 rintro _ u29 aj ⟨av, rfl, ag⟩
 refine zzg 12 196 _ fun _ _ ad am => Post.mono (k_quotient (i := ap) (j := av) am) ?_
 rintro _ u33 ac rfl
 refine zzg 13 148 _ fun _ _ af ao => Post.mono (k_lowest ao ((quot_int (au.ext (ah.trans (aj.ext.trans (ad.trans ac.ext)))) (ag.ext (ad.trans ac.ext))).ext af) ((int_mag (ag.ext (ad.trans ac.ext))).ext af).raw hb0 xq xq) ?_
 rintro _ u39 g40 ⟨ae, rfl, ai⟩
 refine zzi ⟨26, ae.cs⟩ ty26 ?_
 refine zzb (zzn (ret0 [ae.v] ⟨zzq ty26 zze, trivial⟩ fun u42 ak => ?_))
 refine ⟨ae, rfl, RatN.more (K := (max 2 2)) ?_ xq⟩
 rw [← Nt.div_mk2 xq]
 exact (ai.ext ak)
def DivR (x y : Rat) (K : Nat) (v : Value) (u : World) : Prop := (v = .tuple #[.agg #[.bool false, .slice none 0 0, .slice none 0 0], .int .i64 3] ∧ y = 0) ∨ (y ≠ 0 ∧ ∃ r : RL, v = .tuple #[r.v, .int .i64 0] ∧ RatN u r (x / y) K)
set_option maxHeartbeats 1000000 in
theorem k_ratDiv {u w : World} {r1 : RL} {x : Rat} {K : Nat} {r2 : RL} {y : Rat} {L : Nat} (d : Dat u w) (hr1 : RatV u r1 x K) (hr2 : RatV u r2 y L) (hK : K ≤ 200000000) (hL : L ≤ 200000000) : Calls Tryz.prog 202 #[r1.v, r2.v] w (Post u w fun v u' => DivR x y (K + L) v u') := by
 refine zzl (args := [r1.v, r2.v]) Tryz.func202 rfl Tryz.ntmps202 (rs := [.cell 4 26, .tmp 5]) Tryz.results202 (le_b rfl) (le_b rfl) d ?_
 refine sq9 (zzj 2 ⟨26, r1.cs⟩ (zzj 3 ⟨26, r2.cs⟩ (zzj 4 ⟨26, zw3⟩ (zza 5 (zI 0) (zzb (zzd (zzy [0, 1, 0, 7, 0, 0, 63, 127] [(0, []), (2, []), (4, []), (5, []), (1, []), (3, []), (6, []), (7, [])] xj xj (zzh 10 (.v (r1.v)) ty26 zze (zzh 12 (.v (r2.v)) ty26 zze (zzj 6 ⟨149, [.bool false, .slice none 0 0, .slice none 0 0, .bool false]⟩ (zzj 7 ⟨149, [.bool false, .slice none 0 0, .slice none 0 0, .bool false]⟩ ?_)))))))))))
 refine zzg 11 147 _ fun _ _ aJ aM => Post.mono (k_read aM (hr1.ext aJ)) ?_
 rintro _ u13 aP ⟨ad, aE, rfl, z12, aZ, aA, av, aw, aB, aO, a0⟩
 refine zzg 13 147 _ fun _ _ aq aV => Post.mono (k_read aV (hr2.ext (aJ.trans (aP.ext.trans aq)))) ?_
 rintro _ u18 aH ⟨ac, an, rfl, al, D17, ae, ay, ao, ab, a1, aY⟩
 refine zzi ⟨149, ad.cs ++ [.bool aE]⟩ ty149 ?_
 refine zzi ⟨149, ac.cs ++ [.bool an]⟩ ty149 ?_
 refine zzb (zzd (sq9 (zza 14 (.adr 7 0) (zza 15 (.adr 7 0) (zzh 16 (.v (.agg #[.bool ac.s, ac.m.v])) ty24 zze (zzg 17 146 _ fun _ _ af aL => Post.mono (k_intSign aL (ae.ext af)) ?_))))))
 rintro _ u22 aj rfl
 refine zza 18 (zB ((Nt.cmpS al 0) == 0)) (zzb (zzt (b := (Nt.cmpS al 0) == 0) xj (fun aa => ?_) (fun aa => ?_)))
 ·refine sq9 (zza 19 (.v (.agg #[.bool false, .slice none 0 0, .slice none 0 0])) (zzi ⟨26, zw3⟩ ty26 ?_))
  refine zza 5 (zI 3) (zzb (zzn (zzv (ret0 [.agg #[.bool false, .slice none 0 0, .slice none 0 0], .int .i64 3] ⟨zzq ty26 zze, zzp, trivial⟩ fun u26 e27 => ?_))))
  left
  exact ⟨rfl, by rw [ab, Nt.cmp_eq0 aa, Rat.zero_mkRat]⟩
 have au : al ≠ 0 := Nt.cmp_ne0 aa
 have hpp : 0 < ((aZ : Int) * al : Int).natAbs := Int.natAbs_pos.2 (Int.mul_ne_zero xq au)
 refine zzr (zzo ?_)
 refine zzd (zzy [0, 1, 3, 0, 8, 24, 56, 127, 0, 511] [(0, []), (1, []), (2, []), (3, []), (4, []), (5, []), (8, []), (6, []), (7, []), (9, [])] xj xj (zza 20 (.adr 6 0) (zza 21 (.adr 6 0) (zzh 22 (.v (.agg #[.bool ad.s, ad.m.v])) ty24 zze (zza 23 (.adr 7 0) (zza 24 (.adr 7 2) (zzh 25 (.v (ac.d.v)) ty22 zzk (zzj 8 ⟨24, [.bool false, .slice none 0 0]⟩ (zzg 26 195 _ fun _ _ ai aX => Post.mono (k_natural (x := ac.d) aX) ?_)))))))))
 rintro _ u29 ah rfl
 refine zzg 27 194 _ fun _ _ am aS => Post.mono (k_intMul aS (aA.ext (aq.trans (aH.ext.trans (af.trans (aj.ext.trans (ai.trans (ah.ext.trans am))))))) (nat_int (ay.ext (af.trans (aj.ext.trans (ai.trans (ah.ext.trans am)))))) xq xq) ?_
 rintro _ u35 aI ⟨ag, rfl, aK⟩
 refine zzi ⟨24, ag.cs⟩ ty24 ?_
 refine zzb (zzd (zzy [0, 1, 3, 7, 0, 16, 48, 127, 0, 511] [(0, []), (1, []), (2, []), (4, []), (5, []), (6, []), (8, []), (3, []), (7, []), (9, [])] xj xj (zza 28 (.adr 6 0) (zza 29 (.adr 6 2) (zzh 30 (.v (ad.d.v)) ty22 zzk (zza 32 (.adr 7 0) (zza 33 (.adr 7 0) (zzh 34 (.v (.agg #[.bool ac.s, ac.m.v])) ty24 zze (zzj 9 ⟨24, [.bool false, .slice none 0 0]⟩ (zzg 31 195 _ fun _ _ ar aW => Post.mono (k_natural (x := ad.d) aW) ?_))))))))))
 rintro _ u39 aC rfl
 refine zzg 35 194 _ fun _ _ ap aU => Post.mono (k_intMul aU (nat_int (av.ext (aq.trans (aH.ext.trans (af.trans (aj.ext.trans (ai.trans (ah.ext.trans (am.trans (aI.ext.trans (ar.trans (aC.ext.trans ap)))))))))))) (ae.ext (af.trans (aj.ext.trans (ai.trans (ah.ext.trans (am.trans (aI.ext.trans (ar.trans (aC.ext.trans ap))))))))) xq xq) ?_
 rintro _ u45 aT ⟨ak, rfl, aG⟩
 refine zzi ⟨24, ak.cs⟩ ty24 ?_
 refine zzc 40 [(4, .adr 4 0), (8, .adr 8 0), (9, .adr 9 0)] [(4, ⟨26, zw3⟩), (8, ⟨24, ag.cs⟩), (9, ⟨24, ak.cs⟩)] (sq9 (zzh 36 (.v (ag.v)) ty24 zze (zzh 37 (.v (ak.v)) ty24 zze (zzg 38 196 _ fun _ _ aD a2 => Post.mono (k_quotient (i := ag) (j := ak) a2) ?_))))
 rintro _ u49 ax rfl
 refine zzg 39 148 _ fun _ _ aF aQ => Post.mono (k_lowest aQ ((quot_int (aK.ext (ar.trans (aC.ext.trans (ap.trans (aT.ext.trans (aD.trans ax.ext)))))) (aG.ext (aD.trans ax.ext))).ext aF) ((int_mag (aG.ext (aD.trans ax.ext))).ext aF).raw hpp xq xq) ?_
 rintro _ u55 g56 ⟨az, rfl, aN⟩
 refine zzi ⟨26, az.cs⟩ ty26 ?_
 refine zza 5 (zI 0) (zzb (zzn (ret0 [az.v, .int .i64 0] ⟨zzq ty26 zze, zzp, trivial⟩ fun u58 aR => ?_)))
 right
 refine ⟨?_, az, rfl, RatN.more (K := (max (K + L) (K + L))) ?_ xq⟩
 ·rw [ab]; exact (Rat.mkRat_ne_zero xq).2 au
 rw [aB, ab, ← Nt.quo_mk aw ao au, ← Nt.div_mk2 xq]
 exact (aN.ext aR)
theorem k_ends {u w : World} {a1 a2 : RL} {x1 x2 : Rat} {K : Nat} (d : Dat u w) (ha1 : RatV u a1 x1 K) (ha2 : RatV u a2 x2 K) (hK : K ≤ 200000000) : Calls Tryz.prog 208 #[IV a1 a2] w (Post u w fun v u' => ∃ p q : RL, v = .tuple #[p.v, q.v] ∧ RatV u' p (Nt.lo x1 x2) K ∧ RatV u' q (Nt.hi x1 x2) K) := by
 refine zzl (args := [.agg #[.bool a1.s, a1.m.v, a1.d.v, .bool a2.s, a2.m.v, a2.d.v]]) Tryz.func208 rfl Tryz.ntmps208 (rs := [.cell 2 26, .cell 3 26]) Tryz.results208 (le_b rfl) (le_b rfl) d ?_
 refine sq9 (zzj 1 ⟨32, a1.cs ++ a2.cs⟩ (zzj 2 ⟨26, zw3⟩ (zzj 3 ⟨26, zw3⟩ (zzb (zzd (sq9 (zza 4 (.adr 1 0) (zzh 5 (.v (a1.v)) ty26 zze (zza 6 (.adr 1 3) (zzh 7 (.v (a2.v)) ty26 zze (zzg 8 197 _ fun _ _ ab af => Post.mono (k_ratCompare af (ha1.ext ab) (ha2.ext ab) xq xq) ?_)))))))))))
 rintro _ u12 ac rfl
 refine zza 9 (zB (decide ((0 : Int) < (Nt.cmpQ x1 x2)))) (zzb (zzt (b := decide ((0 : Int) < (Nt.cmpQ x1 x2))) xj (fun aa => ?_) (fun aa => ?_)))
 ·have qhb15 := of_decide_eq_true aa
  refine zzd (zzy [0, 1, 0, 4, 3, 31] [(0, []), (1, []), (2, []), (3, []), (4, [12]), (5, [])] xj xj (zza 10 (.adr 1 3) (zzh 11 (.v (a2.v)) ty26 zze (zza 12 (.adr 1 0) (zzh 13 (.v (a1.v)) ty26 zze (zzi ⟨26, a2.cs⟩ ty26 ?_))))))
  refine zzi ⟨26, a1.cs⟩ ty26 ?_
  refine zzb (zzn (zzv (ret0 [a2.v, a1.v] ⟨zzq ty26 zze, zzq ty26 zze, trivial⟩ fun u16 ad => ?_)))
  refine ⟨a2, a1, rfl, ?_, ?_⟩
  ·rw [(Nt.ends_gt aa).1]; exact (ha2.ext (ab.trans (ac.ext.trans ad)))
  rw [(Nt.ends_gt aa).2]; exact (ha1.ext (ab.trans (ac.ext.trans ad)))
 have qhb15 := of_decide_eq_false aa
 refine zzr (zzo ?_)
 refine zzd (zzy [0, 1, 0, 4, 3, 31] [(0, []), (1, []), (2, []), (3, []), (4, [16]), (5, [])] xj xj (zza 14 (.adr 1 0) (zzh 15 (.v (a1.v)) ty26 zze (zza 16 (.adr 1 3) (zzh 17 (.v (a2.v)) ty26 zze (zzi ⟨26, a1.cs⟩ ty26 ?_))))))
 refine zzi ⟨26, a2.cs⟩ ty26 ?_
 refine zzb (zzn (ret0 [a1.v, a2.v] ⟨zzq ty26 zze, zzq ty26 zze, trivial⟩ fun u18 ae => ?_))
 refine ⟨a1, a2, rfl, ?_, ?_⟩
 ·rw [(Nt.ends_le aa).1]; exact (ha1.ext (ab.trans (ac.ext.trans ae)))
 rw [(Nt.ends_le aa).2]; exact (ha2.ext (ab.trans (ac.ext.trans ae)))
theorem k_lesserN {u w : World} {a : RL} {x : Rat} {b : RL} {y : Rat} {K : Nat} (d : Dat u w) (ha : RatN u a x K) (hb : RatN u b y K) (hK : K ≤ 200000000) : Calls Tryz.prog 239 #[a.v, b.v] w (Post u w fun v u' => ∃ p : RL, v = p.v ∧ RatN u' p (Nt.lo x y) K) := by
 refine zzl (args := [a.v, b.v]) Tryz.func239 rfl Tryz.ntmps239 (rs := [.cell 4 26]) Tryz.results239 (le_b rfl) (le_b rfl) d ?_
 refine sq9 (zzj 2 ⟨26, a.cs⟩ (zzj 3 ⟨26, b.cs⟩ (zzj 4 ⟨26, zw3⟩ (zzb (zzd (sq9 (zzh 5 (.v (b.v)) ty26 zze (zzh 6 (.v (a.v)) ty26 zze (zzg 7 197 _ fun _ _ ab ae => Post.mono (k_ratCompare ae (hb.ext ab).raw (ha.ext ab).raw xq xq) ?_)))))))))
 rintro _ u12 ac rfl
 refine zza 8 (zB (decide ((Nt.cmpQ y x) < 0))) (zzb (zzt (b := decide ((Nt.cmpQ y x) < 0)) xj (fun aa => ?_) (fun aa => ?_)))
 ·have qhb15 := of_decide_eq_true aa
  refine sq9 (zzh 9 (.v (b.v)) ty26 zze (zzi ⟨26, b.cs⟩ ty26 ?_))
  refine zzb (zzn (zzv (ret0 [b.v] ⟨zzq ty26 zze, trivial⟩ fun u16 ad => ?_)))
  refine ⟨b, rfl, ?_⟩
  rw [Nt.lesser_lt aa]
  exact (hb.ext (ab.trans (ac.ext.trans ad)))
 have qhb15 := of_decide_eq_false aa
 refine zzr (zzo ?_)
 refine sq9 (zzh 10 (.v (a.v)) ty26 zze (zzi ⟨26, a.cs⟩ ty26 ?_))
 refine zzb (zzn (ret0 [a.v] ⟨zzq ty26 zze, trivial⟩ fun u18 af => ?_))
 refine ⟨a, rfl, ?_⟩
 rw [Nt.lesser_ge aa]
 exact (ha.ext (ab.trans (ac.ext.trans af)))
theorem k_greaterN {u w : World} {a : RL} {x : Rat} {b : RL} {y : Rat} {K : Nat} (d : Dat u w) (ha : RatN u a x K) (hb : RatN u b y K) (hK : K ≤ 200000000) : Calls Tryz.prog 240 #[a.v, b.v] w (Post u w fun v u' => ∃ p : RL, v = p.v ∧ RatN u' p (Nt.hi x y) K) := by
 refine zzl (args := [a.v, b.v]) Tryz.func240 rfl Tryz.ntmps240 (rs := [.cell 4 26]) Tryz.results240 (le_b rfl) (le_b rfl) d ?_
 refine sq9 (zzj 2 ⟨26, a.cs⟩ (zzj 3 ⟨26, b.cs⟩ (zzj 4 ⟨26, zw3⟩ (zzb (zzd (sq9 (zzh 5 (.v (b.v)) ty26 zze (zzh 6 (.v (a.v)) ty26 zze (zzg 7 197 _ fun _ _ ab ae => Post.mono (k_ratCompare ae (hb.ext ab).raw (ha.ext ab).raw xq xq) ?_)))))))))
 rintro _ u12 ac rfl
 refine zza 8 (zB (decide ((0 : Int) < (Nt.cmpQ y x)))) (zzb (zzt (b := decide ((0 : Int) < (Nt.cmpQ y x))) xj (fun aa => ?_) (fun aa => ?_)))
 ·have qhb15 := of_decide_eq_true aa
  refine sq9 (zzh 9 (.v (b.v)) ty26 zze (zzi ⟨26, b.cs⟩ ty26 ?_))
  refine zzb (zzn (zzv (ret0 [b.v] ⟨zzq ty26 zze, trivial⟩ fun u16 ad => ?_)))
  refine ⟨b, rfl, ?_⟩
  rw [Nt.greater_gt aa]
  exact (hb.ext (ab.trans (ac.ext.trans ad)))
 have qhb15 := of_decide_eq_false aa
 refine zzr (zzo ?_)
 refine sq9 (zzh 10 (.v (a.v)) ty26 zze (zzi ⟨26, a.cs⟩ ty26 ?_))
 refine zzb (zzn (ret0 [a.v] ⟨zzq ty26 zze, trivial⟩ fun u18 af => ?_))
 refine ⟨a, rfl, ?_⟩
 rw [Nt.greater_le aa]
 exact (ha.ext (ab.trans (ac.ext.trans af)))
theorem k_own {u w : World} {a : RL} {x : Rat} {K : Nat} (d : Dat u w) (ha : RatN u a x K) (hK : K ≤ 200000000) : Calls Tryz.prog 241 #[a.v] w (Post u w fun v u' => ∃ p : RL, v = p.v ∧ RatN u' p x K) := by
 refine zzl (args := [a.v]) Tryz.func241 rfl Tryz.ntmps241 (rs := [.cell 2 26]) Tryz.results241 (le_b rfl) (le_b rfl) d ?_
 refine sq9 (zzj 1 ⟨26, a.cs⟩ (zzj 2 ⟨26, zw3⟩ (zzb (zzd (zzy [0, 1, 3, 0, 8, 24, 56, 127, 0, 256, 888, 2047, 4095] [(0, []), (1, []), (2, []), (3, []), (4, []), (5, []), (8, []), (9, []), (6, []), (7, []), (10, []), (11, []), (12, [])] xj xj (zza 3 (.adr 1 0) (zza 4 (.adr 1 0) (zzh 5 (zB a.s) ty4 zzk (zza 6 (.adr 1 0) (zza 7 (.adr 1 1) (zzh 8 (.v (a.m.v)) ty22 zzk ?_)))))))))))
 refine zza 11 (.adr 1 2) (zzh 12 (.v (a.d.v)) ty22 zzk (zzg 9 217 _ fun _ _ ad ak => Post.mono (k_cloneN ak ((int_mag (RatN.num ha)).ext ad) xq) ?_))
 rintro _ u14 aj ⟨aa, rfl, af⟩
 refine zza 10 (.v (.agg #[.bool a.s, aa.v])) (zzg 13 217 _ fun _ _ ac ag => Post.mono (k_cloneN ag ((RatN.den ha).ext (ad.trans (aj.ext.trans ac))) xq) ?_)
 rintro _ u20 ah ⟨ab, rfl, ai⟩
 refine zza 14 (.v (.agg #[.bool a.s, aa.v, ab.v])) (zzi ⟨26, [.bool a.s, aa.v, ab.v]⟩ ty26 ?_)
 refine zzb (zzn (ret0 [.agg #[.bool a.s, aa.v, ab.v]] ⟨zzq ty26 zze, trivial⟩ fun u23 ae => ?_))
 exact ⟨(⟨a.s, aa, ab⟩ : RL), rfl, own_rat (r := a) ha (af.ext (ac.trans (ah.ext.trans ae))) (ai.ext ae)⟩
set_option maxHeartbeats 1000000 in
theorem k_around {u w : World} {a1 a2 a3 a4 : RL} {x1 x2 x3 x4 : Rat} {K : Nat} (d : Dat u w) (ha1 : RatN u a1 x1 K) (ha2 : RatN u a2 x2 K) (ha3 : RatN u a3 x3 K) (ha4 : RatN u a4 x4 K) (hK : K ≤ 200000000) : Calls Tryz.prog 200 #[.agg #[.bool a1.s, .slice a1.m.a a1.m.n a1.m.c, .slice a1.d.a a1.d.n a1.d.c, .bool a2.s, .slice a2.m.a a2.m.n a2.m.c, .slice a2.d.a a2.d.n a2.d.c, .bool a3.s, .slice a3.m.a a3.m.n a3.m.c, .slice a3.d.a a3.d.n a3.d.c, .bool a4.s, .slice a4.m.a a4.m.n a4.m.c, .slice a4.d.a a4.d.n a4.d.c]] w (Post u w fun v u' => ∃ p q : RL, v = IV p q ∧ RatN u' p (Nt.lo4 x1 x2 x3 x4) K ∧ RatN u' q (Nt.hi4 x1 x2 x3 x4) K) := by
 refine zzl (args := [.agg #[.bool a1.s, a1.m.v, a1.d.v, .bool a2.s, a2.m.v, a2.d.v, .bool a3.s, a3.m.v, a3.d.v, .bool a4.s, a4.m.v, a4.d.v]]) Tryz.func200 rfl Tryz.ntmps200 (rs := [.cell 2 32]) Tryz.results200 (le_b rfl) (le_b rfl) d ?_
 refine sq9 (zzj 1 ⟨180, a1.cs ++ a2.cs ++ a3.cs ++ a4.cs⟩ (zzj 2 ⟨32, zw6⟩ (zzb (zzd (zzy [0, 1, 0, 4, 0, 0, 51, 127] [(0, []), (1, []), (2, []), (3, []), (4, []), (5, []), (6, [9]), (7, [])] xj xj (zza 7 (.adr 1 0) (zzh 8 (.v (a1.v)) ty26 zze (zza 9 (.adr 1 0) (zzh 10 (.v (a1.v)) ty26 zze (zzj 3 ⟨26, zw3⟩ (zzj 4 ⟨26, zw3⟩ ?_)))))))))))
 refine zzi ⟨26, a1.cs⟩ ty26 ?_
 refine zzi ⟨26, a1.cs⟩ ty26 ?_
 refine zzb (zzd (sq9 (zza 11 (.slc 1 3 3 3) (zza 12 (zI 3) (zza 13 (zI 0) (zzb (zzs (sw_rounds 3 ?_))))))))
 refine sq9 (zza 14 (zB true) (zzb (zzd (zyq xj (zzr (zzo ?_))))))
 refine zzd (zzs (sq9 (zza 15 (.adr 1 3) (zzh 16 (.v (a2.v)) ty26 zze (zzj 6 ⟨26, zw3⟩ (zzi ⟨26, a2.cs⟩ ty26 ?_))))))
 refine zzb (zzy [0, 0, 3, 0, 0, 31, 63, 127] [(0, []), (1, []), (3, []), (4, []), (2, []), (5, []), (6, []), (7, [])] xj xj (zzh 17 (.v (a1.v)) ty26 zze (zzh 18 (.v (a2.v)) ty26 zze (zzh 20 (.v (a1.v)) ty26 zze (zzh 21 (.v (a2.v)) ty26 zze (zzg 19 239 _ fun _ _ ac az => Post.mono (k_lesserN az (ha1.ext ac) (ha2.ext ac) xq) ?_))))))
 rintro _ u14 ae ⟨an, rfl, aB⟩
 refine zzg 22 240 _ fun _ _ ad aJ => Post.mono (k_greaterN aJ (ha1.ext (ac.trans (ae.ext.trans ad))) (ha2.ext (ac.trans (ae.ext.trans ad))) xq) ?_
 rintro _ u20 ah ⟨ar, rfl, aK⟩
 refine zzi ⟨26, an.cs⟩ ty26 ?_
 refine zzi ⟨26, ar.cs⟩ ty26 ?_
 refine zzw ?_
 refine zzo (zzf (zza 23 (zI 1) (zza 13 (zI 1) (zzw ?_))))
 refine rn_next ?_
 refine sw_weak (T := St.of 29 [(2, .adr 2 0), (3, .adr 3 0), (4, .adr 4 0), (11, .slc 1 3 3 3), (12, zI 3), (13, zI 1)] [(1, ⟨180, a1.cs ++ a2.cs ++ a3.cs ++ a4.cs⟩), (2, ⟨32, zw6⟩), (3, ⟨26, an.cs⟩), (4, ⟨26, ar.cs⟩)]) yz ?_
 refine sq9 (zza 14 (zB true) (zzb (zzd (zyq xj (zzr (zzo ?_))))))
 refine zzd (zzs (sq9 (zza 15 (.adr 1 6) (zzh 16 (.v (a3.v)) ty26 zze (zzj 6 ⟨26, zw3⟩ (zzi ⟨26, a3.cs⟩ ty26 ?_))))))
 refine zzb (zzy [0, 0, 3, 0, 0, 31, 63, 127] [(0, []), (1, []), (3, []), (4, []), (2, []), (5, []), (6, []), (7, [])] xj xj (zzh 17 (.v (an.v)) ty26 zze (zzh 18 (.v (a3.v)) ty26 zze (zzh 20 (.v (ar.v)) ty26 zze (zzh 21 (.v (a3.v)) ty26 zze (zzg 19 239 _ fun _ _ af aH => Post.mono (k_lesserN aH (aB.ext (ad.trans (ah.ext.trans af))) (ha3.ext (ac.trans (ae.ext.trans (ad.trans (ah.ext.trans af))))) xq) ?_))))))
 rintro _ u26 aj ⟨aq, rfl, aN⟩
 refine zzg 22 240 _ fun _ _ ag ay => Post.mono (k_greaterN ay (aK.ext (af.trans (aj.ext.trans ag))) (ha3.ext (ac.trans (ae.ext.trans (ad.trans (ah.ext.trans (af.trans (aj.ext.trans ag))))))) xq) ?_
 rintro _ u32 ao ⟨ak, rfl, aO⟩
 refine zzi ⟨26, aq.cs⟩ ty26 ?_
 refine zzi ⟨26, ak.cs⟩ ty26 ?_
 refine zzw ?_
 refine zzo (zzf (zza 23 (zI 2) (zza 13 (zI 2) (zzw ?_))))
 refine rn_next ?_
 refine sw_weak (T := St.of 29 [(2, .adr 2 0), (3, .adr 3 0), (4, .adr 4 0), (11, .slc 1 3 3 3), (12, zI 3), (13, zI 2)] [(1, ⟨180, a1.cs ++ a2.cs ++ a3.cs ++ a4.cs⟩), (2, ⟨32, zw6⟩), (3, ⟨26, aq.cs⟩), (4, ⟨26, ak.cs⟩)]) yz ?_
 refine sq9 (zza 14 (zB true) (zzb (zzd (zyq xj (zzr (zzo ?_))))))
 refine zzd (zzs (sq9 (zza 15 (.adr 1 9) (zzh 16 (.v (a4.v)) ty26 zze (zzj 6 ⟨26, zw3⟩ (zzi ⟨26, a4.cs⟩ ty26 ?_))))))
 refine zzb (zzy [0, 0, 3, 0, 0, 31, 63, 127] [(0, []), (1, []), (3, []), (4, []), (2, []), (5, []), (6, []), (7, [])] xj xj (zzh 17 (.v (aq.v)) ty26 zze (zzh 18 (.v (a4.v)) ty26 zze (zzh 20 (.v (ak.v)) ty26 zze (zzh 21 (.v (a4.v)) ty26 zze (zzg 19 239 _ fun _ _ ai aP => Post.mono (k_lesserN aP (aN.ext (ag.trans (ao.ext.trans ai))) (ha4.ext (ac.trans (ae.ext.trans (ad.trans (ah.ext.trans (af.trans (aj.ext.trans (ag.trans (ao.ext.trans ai))))))))) xq) ?_))))))
 rintro _ u38 aw ⟨ap, rfl, aG⟩
 refine zzg 22 240 _ fun _ _ al aE => Post.mono (k_greaterN aE (aO.ext (ai.trans (aw.ext.trans al))) (ha4.ext (ac.trans (ae.ext.trans (ad.trans (ah.ext.trans (af.trans (aj.ext.trans (ag.trans (ao.ext.trans (ai.trans (aw.ext.trans al))))))))))) xq) ?_
 rintro _ u44 aI ⟨am, rfl, aF⟩
 refine zzi ⟨26, ap.cs⟩ ty26 ?_
 refine zzi ⟨26, am.cs⟩ ty26 ?_
 refine zzw ?_
 refine zzo (zzf (zza 23 (zI 3) (zza 13 (zI 3) (zzw ?_))))
 refine rn_next ?_
 refine sw_weak (T := St.of 29 [(2, .adr 2 0), (3, .adr 3 0), (4, .adr 4 0), (11, .slc 1 3 3 3), (12, zI 3), (13, zI 3)] [(1, ⟨180, a1.cs ++ a2.cs ++ a3.cs ++ a4.cs⟩), (2, ⟨32, zw6⟩), (3, ⟨26, ap.cs⟩), (4, ⟨26, am.cs⟩)]) yz ?_
 refine sq9 (zza 14 (zB false) (zzb (zzd (zyr xj (zyb (zzo (zzd (zzy [0, 1, 0, 7, 15, 31] [(0, []), (2, []), (1, []), (3, []), (4, []), (5, [])] xj xj (zzh 24 (.v (ap.v)) ty26 zze (zzh 26 (.v (am.v)) ty26 zze (zzg 25 241 _ fun _ _ au aQ => Post.mono (k_own aQ (aG.ext (al.trans (aI.ext.trans au))) xq) ?_)))))))))))
 rintro _ u50 aC ⟨ab, rfl, aD⟩
 refine zzg 27 241 _ fun _ _ ax aM => Post.mono (k_own aM (aF.ext (au.trans (aC.ext.trans ax))) xq) ?_
 rintro _ u56 aA ⟨aa, rfl, aL⟩
 refine zza 28 (.v (.agg #[.bool ab.s, ab.m.v, ab.d.v, .bool aa.s, aa.m.v, aa.d.v])) (zzi ⟨32, ab.cs ++ aa.cs⟩ ty32 ?_)
 refine zzc 29 [(2, .adr 2 0)] [(2, ⟨32, ab.cs ++ aa.cs⟩)] (zzn (ret0 [.agg #[.bool ab.s, ab.m.v, ab.d.v, .bool aa.s, aa.m.v, aa.d.v]] ⟨zzq ty32 zze, trivial⟩ fun u59 av => ?_))
 refine ⟨ab, aa, rfl, RatN.more (K := K) ?_ xq, RatN.more (K := K) ?_ xq⟩
 ·exact (aD.ext (ax.trans (aA.ext.trans av)))
 exact (aL.ext av)
theorem k_ivMake {u w : World} {a : RL} {x : Rat} {b : RL} {y : Rat} {K : Nat} (d : Dat u w) (ha : RatV u a x K) (hb : RatV u b y K) (hK : K ≤ 100000000) : Calls Tryz.prog 144 #[a.v, b.v] w (Post u w fun v u' => ∃ p q : RL, v = IV p q ∧ RatN u' p (Nt.lo x y) K ∧ RatN u' q (Nt.hi x y) K) := by
 refine zzl (args := [a.v, b.v]) Tryz.func144 rfl Tryz.ntmps144 (rs := [.cell 4 32]) Tryz.results144 (le_b rfl) (le_b rfl) d ?_
 refine sq9 (zzj 2 ⟨26, a.cs⟩ (zzj 3 ⟨26, b.cs⟩ (zzj 4 ⟨32, zw6⟩ (zzb (sq9 (zzh 8 (.v (a.v)) ty26 zze (zzh 9 (.v (b.v)) ty26 zze (zza 10 (.v (.agg #[.bool a.s, a.m.v, a.d.v, .bool b.s, b.m.v, b.d.v])) (zzg 11 208 _ fun _ _ ah aj => Post.mono (k_ends aj (ha.ext ah) (hb.ext ah) xq) ?_)))))))))
 rintro _ u16 g17 ⟨ad, ac, rfl, ak, al⟩
 refine zza 7 (.v (.tuple #[ad.v, ac.v])) (zza 12 (.v (ad.v)) (zza 13 (.v (ac.v)) (zzj 5 ⟨26, zw3⟩ (zzj 6 ⟨26, zw3⟩ (zzi ⟨26, ad.cs⟩ ty26 ?_)))))
 refine zzi ⟨26, ac.cs⟩ ty26 ?_
 refine zzb (zzd (zzy [0, 1, 0, 7, 15, 31] [(0, []), (2, []), (1, []), (3, []), (4, []), (5, [])] xj xj (zzh 14 (.v (ad.v)) ty26 zze (zzh 16 (.v (ac.v)) ty26 zze (zzg 15 78 _ fun _ _ af aq => Post.mono (k_ratTrim aq (ak.ext af) xq) ?_)))))
 rintro _ u22 ap ⟨aa, rfl, an⟩
 refine zzg 17 78 _ fun _ _ ae ao => Post.mono (k_ratTrim ao (al.ext (af.trans (ap.ext.trans ae))) xq) ?_
 rintro _ u28 am ⟨ab, rfl, ai⟩
 refine zza 18 (.v (.agg #[.bool aa.s, aa.m.v, aa.d.v, .bool ab.s, ab.m.v, ab.d.v])) (zzi ⟨32, aa.cs ++ ab.cs⟩ ty32 ?_)
 refine zzb (zzn (ret0 [.agg #[.bool aa.s, aa.m.v, aa.d.v, .bool ab.s, ab.m.v, ab.d.v]] ⟨zzq ty32 zze, trivial⟩ fun u31 ag => ?_))
 refine ⟨aa, ab, rfl, RatN.more (K := K) ?_ xq, RatN.more (K := K) ?_ xq⟩
 ·exact (an.ext (ae.trans (am.ext.trans ag)))
 exact (ai.ext ag)
theorem k_ivSign {u w : World} {a1 a2 : RL} {x1 x2 : Rat} {K : Nat} (d : Dat u w) (ha1 : RatV u a1 x1 K) (ha2 : RatV u a2 x2 K) (hK : K ≤ 100000000) : Calls Tryz.prog 201 #[IV a1 a2] w (Post u w fun v u' => v = .int .i64 (Nt.sgI x1 x2)) := by
 refine zzl (args := [.agg #[.bool a1.s, a1.m.v, a1.d.v, .bool a2.s, a2.m.v, a2.d.v]]) Tryz.func201 rfl Tryz.ntmps201 (rs := [.tmp 2]) Tryz.results201 (le_b rfl) (le_b rfl) d ?_
 refine sq9 (zzj 1 ⟨32, a1.cs ++ a2.cs⟩ (zza 2 (zI 0) (zzb (sq9 (zzh 6 (.v (.agg #[.bool a1.s, a1.m.v, a1.d.v, .bool a2.s, a2.m.v, a2.d.v])) ty32 zze (zzg 7 208 _ fun _ _ af ah => Post.mono (k_ends ah (ha1.ext af) (ha2.ext af) xq) ?_))))))
 rintro _ u16 g17 ⟨ad, ac, rfl, ai, aj⟩
 refine zza 5 (.v (.tuple #[ad.v, ac.v])) (zza 8 (.v (ad.v)) (zza 9 (.v (ac.v)) (zzj 3 ⟨26, zw3⟩ (zzj 4 ⟨26, zw3⟩ (zzi ⟨26, ad.cs⟩ ty26 ?_)))))
 refine zzi ⟨26, ac.cs⟩ ty26 ?_
 refine zzb (zzd (zzs (sq9 (zzh 11 (.v (ad.v)) ty26 zze (zzg 12 76 _ fun _ _ ae al => Post.mono (k_ratSign al (ai.ext ae)) ?_)))))
 rintro _ u20 am rfl
 refine zza 13 (zB (decide ((0 : Int) < (Nt.sgQ (Nt.lo x1 x2))))) (zza 10 (zB (decide ((0 : Int) < (Nt.sgQ (Nt.lo x1 x2))))) (zzb (zzt (b := decide ((0 : Int) < (Nt.sgQ (Nt.lo x1 x2)))) xj (fun aa => ?_) (fun aa => ?_))))
 ·have qhb23 := of_decide_eq_true aa
  refine sq9 (zza 2 (zI 1) (zzb (zzn (zyt (zzv (ret0 [.int .i64 1] ⟨zzp, trivial⟩ fun u24 e25 => ?_))))))
  show _ = _
  unfold Nt.sgI
  rw [Nt.sgQ_gt] at aa
  rw [if_pos (of_decide_eq_true aa)]
  rfl
 have qhb23 := of_decide_eq_false aa
 refine sq9 (zzh 15 (.v (ac.v)) ty26 zze (zzg 16 76 _ fun _ _ ag ak => Post.mono (k_ratSign ak (aj.ext (ae.trans (am.ext.trans ag)))) ?_))
 rintro _ u27 g28 rfl
 refine zza 17 (zB (decide ((Nt.sgQ (Nt.hi x1 x2)) < 0))) (zza 14 (zB (decide ((Nt.sgQ (Nt.hi x1 x2)) < 0))) (zzb (zzt (b := decide ((Nt.sgQ (Nt.hi x1 x2)) < 0)) xj (fun ab => ?_) (fun ab => ?_))))
 ·have qhb30 := of_decide_eq_true ab
  refine sq9 (zza 2 (zI (-1)) (zzb (zzn (zyt (zzv (ret0 [.int .i64 (-1)] ⟨zzp, trivial⟩ fun u31 e32 => ?_))))))
  show _ = _
  unfold Nt.sgI
  rw [Nt.sgQ_gt] at aa
  rw [if_neg (of_decide_eq_false aa)]
  rw [Nt.sgQ_lt] at ab
  rw [if_pos (of_decide_eq_true ab)]
  rfl
 have qhb30 := of_decide_eq_false ab
 refine zzr (zzo ?_)
 refine sq9 (zza 2 (zI 0) (zzb (zzn (ret0 [.int .i64 0] ⟨zzp, trivial⟩ fun u33 e34 => ?_))))
 show _ = _
 unfold Nt.sgI
 rw [Nt.sgQ_gt] at aa
 rw [if_neg (of_decide_eq_false aa)]
 rw [Nt.sgQ_lt] at ab
 rw [if_neg (of_decide_eq_false ab)]
 rfl
theorem k_ivMid {u w : World} {a1 a2 : RL} {x1 x2 : Rat} {K : Nat} (d : Dat u w) (ha1 : RatV u a1 x1 K) (ha2 : RatV u a2 x2 K) (hK : K ≤ 50000000) : Calls Tryz.prog 204 #[IV a1 a2] w (Post u w fun v u' => ∃ p : RL, v = p.v ∧ RatN u' p ((x1 + x2) * (((1 : Int) : Rat) / ((2 : Int) : Rat))) (K + K + 1 + 2)) := by
 refine zzl (args := [.agg #[.bool a1.s, a1.m.v, a1.d.v, .bool a2.s, a2.m.v, a2.d.v]]) Tryz.func204 rfl Tryz.ntmps204 (rs := [.cell 2 26]) Tryz.results204 (le_b rfl) (le_b rfl) d ?_
 refine sq9 (zzj 1 ⟨32, a1.cs ++ a2.cs⟩ (zzj 2 ⟨26, zw3⟩ (zzb (sq9 (zza 3 (.adr 1 0) (zzh 4 (.v (a1.v)) ty26 zze (zza 5 (.adr 1 3) (zzh 6 (.v (a2.v)) ty26 zze (zzg 7 126 _ fun _ _ ac ad => Post.mono (k_ratAdd ad (ha1.ext ac) (ha2.ext ac) xq xq) ?_)))))))))
 rintro _ u14 g15 ⟨r12, rfl, ae⟩
 refine zzg 8 127 _ fun _ _ af ai => Post.mono (k_ratFrac ai (a := 1) (b := 2) xq xq xq xq) ?_
 rintro _ u20 al ⟨r18, rfl, aj⟩
 refine zzg 9 123 _ fun _ _ ab ah => Post.mono (k_ratMul ah (ae.ext (af.trans (al.ext.trans ab))).raw (aj.ext ab).raw xq xq) ?_
 rintro _ u26 g27 ⟨aa, rfl, ak⟩
 refine zzi ⟨26, aa.cs⟩ ty26 ?_
 refine zzb (zzn (ret0 [aa.v] ⟨zzq ty26 zze, trivial⟩ fun u29 ag => ?_))
 exact ⟨aa, rfl, (ak.ext ag)⟩
theorem k_ratDiv1 {u w : World} {r1 r2 : RL} {x y : Rat} {K L : Nat} (d : Dat u w) (hr1 : RatV u r1 x K) (hr2 : RatV u r2 y L) (hy : y ≠ 0) (hK : K ≤ 200000000) (hL : L ≤ 200000000) : Calls Tryz.prog 202 #[r1.v, r2.v] w (Post u w fun v u' => ∃ r : RL, v = .tuple #[r.v, .int .i64 0] ∧ RatN u' r (x / y) (K + L)) :=
 Post.mono (k_ratDiv d hr1 hr2 hK hL) fun v u' _ h => h.elim (fun h => absurd h.2 hy) (fun h => h.2)
theorem sgI_ne {a b : Rat} (h : (Nt.sgI a b == 0) = false) : a ≠ 0 ∧ b ≠ 0 := by
 unfold Nt.sgI Nt.lo Nt.hi at h
 grind
def IDivR (x1 x2 y1 y2 : Rat) (K : Nat) (v : Value) (u : World) : Prop := (Nt.sgI y1 y2 = 0 ∧ v = .tuple #[.agg #[.bool false, .slice none 0 0, .slice none 0 0, .bool false, .slice none 0 0, .slice none 0 0], .int .i64 3]) ∨ (Nt.sgI y1 y2 ≠ 0 ∧ ∃ p q : RL, v = .tuple #[IV p q, .int .i64 0] ∧ RatN u p (Nt.lo4 (x1 / y1) (x1 / y2) (x2 / y1) (x2 / y2)) K ∧ RatN u q (Nt.hi4 (x1 / y1) (x1 / y2) (x2 / y1) (x2 / y2)) K)
set_option maxHeartbeats 2000000 in
theorem k_ivDiv {u w : World} {a1 a2 : RL} {x1 x2 : Rat} {b1 b2 : RL} {y1 y2 : Rat} {K L : Nat} (d : Dat u w) (ha1 : RatV u a1 x1 K) (ha2 : RatV u a2 x2 K) (hb1 : RatV u b1 y1 L) (hb2 : RatV u b2 y2 L) (hK : K ≤ 100000000) (hL : L ≤ 100000000) : Calls Tryz.prog 136 #[IV a1 a2, IV b1 b2] w (Post u w fun v u' => IDivR x1 x2 y1 y2 (K + L) v u') := by
 refine zzl (args := [.agg #[.bool a1.s, a1.m.v, a1.d.v, .bool a2.s, a2.m.v, a2.d.v], .agg #[.bool b1.s, b1.m.v, b1.d.v, .bool b2.s, b2.m.v, b2.d.v]]) Tryz.func136 rfl Tryz.ntmps136 (rs := [.cell 4 32, .tmp 5]) Tryz.results136 (le_b rfl) (le_b rfl) d ?_
 refine sq9 (zzj 2 ⟨32, a1.cs ++ a2.cs⟩ (zzj 3 ⟨32, b1.cs ++ b2.cs⟩ (zzj 4 ⟨32, zw6⟩ (zza 5 (zI 0) (zzb (zzd (sq9 (zzh 11 (.v (.agg #[.bool b1.s, b1.m.v, b1.d.v, .bool b2.s, b2.m.v, b2.d.v])) ty32 zze (zzg 12 201 _ fun _ _ ae ax => Post.mono (k_ivSign ax (hb1.ext ae) (hb2.ext ae) xq) ?_)))))))))
 rintro _ u12 ag rfl
 refine zza 13 (zB ((Nt.sgI y1 y2) == 0)) (zzb (zzt (b := (Nt.sgI y1 y2) == 0) xj (fun ab => ?_) (fun ab => ?_)))
 ·refine sq9 (zza 14 (.v (.agg #[.bool false, .slice none 0 0, .slice none 0 0, .bool false, .slice none 0 0, .slice none 0 0])) (zzi ⟨32, zw6⟩ ty32 ?_))
  refine zza 5 (zI 3) (zzb (zzn (zzv (ret0 [.agg #[.bool false, .slice none 0 0, .slice none 0 0, .bool false, .slice none 0 0, .slice none 0 0], .int .i64 3] ⟨zzq ty32 zze, zzp, trivial⟩ fun u16 e17 => ?_))))
  exact .inl ⟨by simpa using ab, rfl⟩
 refine zzr (zzo ?_)
 refine sq9 (zzj 6 ⟨180, [.bool false, .slice none 0 0, .slice none 0 0, .bool false, .slice none 0 0, .slice none 0 0, .bool false, .slice none 0 0, .slice none 0 0, .bool false, .slice none 0 0, .slice none 0 0]⟩ (zzb (zzd (sq9 (zza 15 (.adr 2 0) (zzh 16 (.v (a1.v)) ty26 zze (zza 17 (.adr 2 3) (zzh 18 (.v (a2.v)) ty26 zze (zza 19 (.v (.agg #[.bool a1.s, a1.m.v, a1.d.v, .bool a2.s, a2.m.v, a2.d.v])) (zza 20 (zI 0) (zzb ?_)))))))))))
 refine zzs (sw_rounds 2 ?_)
 refine sq9 (zza 21 (zB true) (zzb (zzd (zyq xj (zzr (zzo ?_))))))
 refine zzd (zzs (sq9 (zza 22 (zI 0) (zza 23 (.v (a1.v)) (zzj 8 ⟨26, zw3⟩ (zza 7 (zI 0) (zzi ⟨26, a1.cs⟩ ty26 ?_)))))))
 refine zzb (sq9 (zza 24 (.adr 3 0) (zzh 25 (.v (b1.v)) ty26 zze (zza 26 (.adr 3 3) (zzh 27 (.v (b2.v)) ty26 zze (zza 28 (.v (.agg #[.bool b1.s, b1.m.v, b1.d.v, .bool b2.s, b2.m.v, b2.d.v])) (zza 29 (zI 0) (zzb (zzs (sw_rounds 2 ?_))))))))))
 refine sq9 (zza 30 (zB true) (zzb (zzd (zyq xj (zzr (zzo ?_))))))
 refine zzd (zzs (sq9 (zza 31 (zI 0) (zza 32 (.v (b1.v)) (zzj 10 ⟨26, zw3⟩ (zza 9 (zI 0) (zzi ⟨26, b1.cs⟩ ty26 ?_)))))))
 refine zzc 48 [(3, .adr 3 0), (4, .adr 4 0), (6, .adr 6 0), (7, zI 0), (8, .adr 8 0), (9, zI 0), (10, .adr 10 0), (19, .v (.agg #[.bool a1.s, a1.m.v, a1.d.v, .bool a2.s, a2.m.v, a2.d.v])), (20, zI 0), (28, .v (.agg #[.bool b1.s, b1.m.v, b1.d.v, .bool b2.s, b2.m.v, b2.d.v])), (29, zI 0)] [(3, ⟨32, b1.cs ++ b2.cs⟩), (4, ⟨32, zw6⟩), (6, ⟨180, [.bool false, .slice none 0 0, .slice none 0 0, .bool false, .slice none 0 0, .slice none 0 0, .bool false, .slice none 0 0, .slice none 0 0, .bool false, .slice none 0 0, .slice none 0 0]⟩), (8, ⟨26, a1.cs⟩), (10, ⟨26, b1.cs⟩)] (zzf (zza 34 (zI 0) (zza 35 (zI 0) (zza 36 (zI 0) (zza 37 (zI 0) (zzh 38 (.v (a1.v)) ty26 zze (zzh 39 (.v (b1.v)) ty26 zze (zzg 40 202 _ fun _ _ af ay => Post.mono (k_ratDiv1 ay (ha1.ext (ae.trans (ag.ext.trans af))) (hb1.ext (ae.trans (ag.ext.trans af))) (sgI_ne ab).1 xq xq) ?_))))))))
 rintro _ u21 ak ⟨aa, rfl, aC⟩
 refine zza 33 (.v (.tuple #[aa.v, .int .i64 0])) (zza 41 (.v (aa.v)) (zza 42 (zI 0) (zza 43 (.adr 6 0) (zzi ⟨180, aa.cs ++ [.bool false, .slice none 0 0, .slice none 0 0, .bool false, .slice none 0 0, .slice none 0 0, .bool false, .slice none 0 0, .slice none 0 0]⟩ ty26 ?_))))
 refine zzw ?_
 refine zzo (zzf (zza 44 (zI 1) (zza 29 (zI 1) (zzw ?_))))
 refine rn_next ?_
 refine sw_weak (T := St.of 48 [(3, .adr 3 0), (4, .adr 4 0), (6, .adr 6 0), (7, zI 0), (8, .adr 8 0), (19, .v (.agg #[.bool a1.s, a1.m.v, a1.d.v, .bool a2.s, a2.m.v, a2.d.v])), (20, zI 0), (28, .v (.agg #[.bool b1.s, b1.m.v, b1.d.v, .bool b2.s, b2.m.v, b2.d.v])), (29, zI 1)] [(3, ⟨32, b1.cs ++ b2.cs⟩), (4, ⟨32, zw6⟩), (6, ⟨180, aa.cs ++ [.bool false, .slice none 0 0, .slice none 0 0, .bool false, .slice none 0 0, .slice none 0 0, .bool false, .slice none 0 0, .slice none 0 0]⟩), (8, ⟨26, a1.cs⟩)]) yz ?_
 refine sq9 (zza 30 (zB true) (zzb (zzd (zyq xj (zzr (zzo ?_))))))
 refine zzd (zzs (sq9 (zza 31 (zI 1) (zza 32 (.v (b2.v)) (zzj 10 ⟨26, zw3⟩ (zza 9 (zI 1) (zzi ⟨26, b2.cs⟩ ty26 ?_)))))))
 refine zzb (zzf (zza 34 (zI 0) (zza 35 (zI 0) (zza 36 (zI 1) (zza 37 (zI 1) (zzh 38 (.v (a1.v)) ty26 zze (zzh 39 (.v (b2.v)) ty26 zze (zzg 40 202 _ fun _ _ ai aB => Post.mono (k_ratDiv1 aB (ha1.ext (ae.trans (ag.ext.trans (af.trans (ak.ext.trans ai))))) (hb2.ext (ae.trans (ag.ext.trans (af.trans (ak.ext.trans ai))))) (sgI_ne ab).2 xq xq) ?_))))))))
 rintro _ u27 am ⟨ac, rfl, aD⟩
 refine zza 33 (.v (.tuple #[ac.v, .int .i64 0])) (zza 41 (.v (ac.v)) (zza 42 (zI 0) (zza 43 (.adr 6 3) (zzi ⟨180, aa.cs ++ ac.cs ++ zw6⟩ ty26 ?_))))
 refine zzw ?_
 refine zzo (zzf (zza 44 (zI 2) (zza 29 (zI 2) (zzw ?_))))
 refine rn_next ?_
 refine sw_weak (T := St.of 48 [(3, .adr 3 0), (4, .adr 4 0), (6, .adr 6 0), (7, zI 0), (8, .adr 8 0), (19, .v (.agg #[.bool a1.s, a1.m.v, a1.d.v, .bool a2.s, a2.m.v, a2.d.v])), (20, zI 0), (28, .v (.agg #[.bool b1.s, b1.m.v, b1.d.v, .bool b2.s, b2.m.v, b2.d.v])), (29, zI 2)] [(3, ⟨32, b1.cs ++ b2.cs⟩), (4, ⟨32, zw6⟩), (6, ⟨180, aa.cs ++ ac.cs ++ zw6⟩), (8, ⟨26, a1.cs⟩)]) yz ?_
 refine sq9 (zza 30 (zB false) (zzb (zzd (zyr xj (zyb (zzo (zzf (zza 45 (zI 1) (zza 20 (zI 1) (zzw ?_))))))))))
 refine rn_next ?_
 refine sw_weak (T := St.of 48 [(3, .adr 3 0), (4, .adr 4 0), (6, .adr 6 0), (19, .v (.agg #[.bool a1.s, a1.m.v, a1.d.v, .bool a2.s, a2.m.v, a2.d.v])), (20, zI 1)] [(3, ⟨32, b1.cs ++ b2.cs⟩), (4, ⟨32, zw6⟩), (6, ⟨180, aa.cs ++ ac.cs ++ zw6⟩)]) yz ?_
 refine sq9 (zza 21 (zB true) (zzb (zzd (zyq xj (zzr (zzo ?_))))))
 refine zzd (zzs (sq9 (zza 22 (zI 1) (zza 23 (.v (a2.v)) (zzj 8 ⟨26, zw3⟩ (zza 7 (zI 1) (zzi ⟨26, a2.cs⟩ ty26 ?_)))))))
 refine zzb (sq9 (zza 24 (.adr 3 0) (zzh 25 (.v (b1.v)) ty26 zze (zza 26 (.adr 3 3) (zzh 27 (.v (b2.v)) ty26 zze (zza 28 (.v (.agg #[.bool b1.s, b1.m.v, b1.d.v, .bool b2.s, b2.m.v, b2.d.v])) (zza 29 (zI 0) (zzb (zzs (sw_rounds 2 ?_))))))))))
 refine sq9 (zza 30 (zB true) (zzb (zzd (zyq xj (zzr (zzo ?_))))))
 refine zzd (zzs (sq9 (zza 31 (zI 0) (zza 32 (.v (b1.v)) (zzj 10 ⟨26, zw3⟩ (zza 9 (zI 0) (zzi ⟨26, b1.cs⟩ ty26 ?_)))))))
 refine zzb (zzf (zza 34 (zI 1) (zza 35 (zI 2) (zza 36 (zI 0) (zza 37 (zI 2) (zzh 38 (.v (a2.v)) ty26 zze (zzh 39 (.v (b1.v)) ty26 zze (zzg 40 202 _ fun _ _ aj aw => Post.mono (k_ratDiv1 aw (ha2.ext (ae.trans (ag.ext.trans (af.trans (ak.ext.trans (ai.trans (am.ext.trans aj))))))) (hb1.ext (ae.trans (ag.ext.trans (af.trans (ak.ext.trans (ai.trans (am.ext.trans aj))))))) (sgI_ne ab).1 xq xq) ?_))))))))
 rintro _ u33 aq ⟨ad, rfl, aG⟩
 refine zza 33 (.v (.tuple #[ad.v, .int .i64 0])) (zza 41 (.v (ad.v)) (zza 42 (zI 0) (zza 43 (.adr 6 6) (zzi ⟨180, aa.cs ++ ac.cs ++ ad.cs ++ zw3⟩ ty26 ?_))))
 refine zzw ?_
 refine zzo (zzf (zza 44 (zI 1) (zza 29 (zI 1) (zzw ?_))))
 refine rn_next ?_
 refine sw_weak (T := St.of 48 [(3, .adr 3 0), (4, .adr 4 0), (6, .adr 6 0), (7, zI 1), (8, .adr 8 0), (19, .v (.agg #[.bool a1.s, a1.m.v, a1.d.v, .bool a2.s, a2.m.v, a2.d.v])), (20, zI 1), (28, .v (.agg #[.bool b1.s, b1.m.v, b1.d.v, .bool b2.s, b2.m.v, b2.d.v])), (29, zI 1)] [(3, ⟨32, b1.cs ++ b2.cs⟩), (4, ⟨32, zw6⟩), (6, ⟨180, aa.cs ++ ac.cs ++ ad.cs ++ zw3⟩), (8, ⟨26, a2.cs⟩)]) yz ?_
 refine sq9 (zza 30 (zB true) (zzb (zzd (zyq xj (zzr (zzo ?_))))))
 refine zzd (zzs (sq9 (zza 31 (zI 1) (zza 32 (.v (b2.v)) (zzj 10 ⟨26, zw3⟩ (zza 9 (zI 1) (zzi ⟨26, b2.cs⟩ ty26 ?_)))))))
 refine zzc 48 [(3, .adr 3 0), (4, .adr 4 0), (6, .adr 6 0), (7, zI 1), (8, .adr 8 0), (9, zI 1), (10, .adr 10 0), (19, .v (.agg #[.bool a1.s, a1.m.v, a1.d.v, .bool a2.s, a2.m.v, a2.d.v])), (20, zI 1), (28, .v (.agg #[.bool b1.s, b1.m.v, b1.d.v, .bool b2.s, b2.m.v, b2.d.v])), (29, zI 1)] [(3, ⟨32, b1.cs ++ b2.cs⟩), (4, ⟨32, zw6⟩), (6, ⟨180, aa.cs ++ ac.cs ++ ad.cs ++ zw3⟩), (8, ⟨26, a2.cs⟩), (10, ⟨26, b2.cs⟩)] (zzf (zza 34 (zI 1) (zza 35 (zI 2) (zza 36 (zI 1) (zza 37 (zI 3) (zzh 38 (.v (a2.v)) ty26 zze (zzh 39 (.v (b2.v)) ty26 zze (zzg 40 202 _ fun _ _ an aF => Post.mono (k_ratDiv1 aF (ha2.ext (ae.trans (ag.ext.trans (af.trans (ak.ext.trans (ai.trans (am.ext.trans (aj.trans (aq.ext.trans an))))))))) (hb2.ext (ae.trans (ag.ext.trans (af.trans (ak.ext.trans (ai.trans (am.ext.trans (aj.trans (aq.ext.trans an))))))))) (sgI_ne ab).2 xq xq) ?_))))))))
 rintro _ u39 ar ⟨ah, rfl, az⟩
 refine zza 33 (.v (.tuple #[ah.v, .int .i64 0])) (zza 41 (.v (ah.v)) (zza 42 (zI 0) (zza 43 (.adr 6 9) (zzi ⟨180, aa.cs ++ ac.cs ++ ad.cs ++ ah.cs⟩ ty26 ?_))))
 refine zzw ?_
 refine zzo (zzf (zza 44 (zI 2) (zza 29 (zI 2) (zzw ?_))))
 refine rn_next ?_
 refine sw_weak (T := St.of 48 [(3, .adr 3 0), (4, .adr 4 0), (6, .adr 6 0), (7, zI 1), (8, .adr 8 0), (19, .v (.agg #[.bool a1.s, a1.m.v, a1.d.v, .bool a2.s, a2.m.v, a2.d.v])), (20, zI 1), (28, .v (.agg #[.bool b1.s, b1.m.v, b1.d.v, .bool b2.s, b2.m.v, b2.d.v])), (29, zI 2)] [(3, ⟨32, b1.cs ++ b2.cs⟩), (4, ⟨32, zw6⟩), (6, ⟨180, aa.cs ++ ac.cs ++ ad.cs ++ ah.cs⟩), (8, ⟨26, a2.cs⟩)]) yz ?_
 refine sq9 (zza 30 (zB false) (zzb (zzd (zyr xj (zyb (zzo (zzf (zza 45 (zI 2) (zza 20 (zI 2) (zzw ?_))))))))))
 refine rn_next ?_
 refine sw_weak (T := St.of 48 [(3, .adr 3 0), (4, .adr 4 0), (6, .adr 6 0), (19, .v (.agg #[.bool a1.s, a1.m.v, a1.d.v, .bool a2.s, a2.m.v, a2.d.v])), (20, zI 2)] [(3, ⟨32, b1.cs ++ b2.cs⟩), (4, ⟨32, zw6⟩), (6, ⟨180, aa.cs ++ ac.cs ++ ad.cs ++ ah.cs⟩)]) yz ?_
 refine sq9 (zza 21 (zB false) (zzb (zzd (zyr xj (zyb (zzo (sq9 (zzh 46 (.v (.agg #[.bool aa.s, aa.m.v, aa.d.v, .bool ac.s, ac.m.v, ac.d.v, .bool ad.s, ad.m.v, ad.d.v, .bool ah.s, ah.m.v, ah.d.v])) ty180 zze (zzg 47 200 _ fun _ _ ap aE => Post.mono (k_around aE (aC.ext (ai.trans (am.ext.trans (aj.trans (aq.ext.trans (an.trans (ar.ext.trans ap))))))) (aD.ext (aj.trans (aq.ext.trans (an.trans (ar.ext.trans ap))))) (aG.ext (an.trans (ar.ext.trans ap))) (az.ext ap) xq) ?_)))))))))
 rintro _ u47 g48 ⟨ao, al, rfl, aA, av⟩
 refine zzi ⟨32, ao.cs ++ al.cs⟩ ty32 ?_
 refine zza 5 (zI 0) (zzb (zzn (ret0 [.agg #[.bool ao.s, ao.m.v, ao.d.v, .bool al.s, al.m.v, al.d.v], .int .i64 0] ⟨zzq ty32 zze, zzp, trivial⟩ fun u50 au => ?_)))
 exact .inr ⟨by simpa using ab, ao, al, rfl, (aA.ext au), (av.ext au)⟩
theorem k_mode {u w : World} {r : Int} (d : Dat u w) (h1 : 1 ≤ r) (h2 : r ≤ 3) : Calls Tryz.prog 238 #[.int .i64 r] w (Post u w fun v _ => v = .bool true) := by
 refine zzl (args := [.int .i64 r]) Tryz.func238 rfl Tryz.ntmps238 (rs := [.tmp 2]) Tryz.results238 (le_b rfl) (le_b rfl) d ?_
 refine sq9 (zza 2 (zB false) (zzb (sq9 (zza 3 (zI r) (zza 4 (zB (decide ((1 : Int) ≤ r))) (zqB 5 (show (decide ((1 : Int) ≤ r)) = true from decide_eq_true xq) (zza 6 (zI r) ?_ (hw := w1 2 true 5))))))))
 refine zza 7 (zB (decide (r ≤ 3))) ?_ (hw := w1 2 true 5)
 refine zza 8 (zB (decide (r ≤ 3))) (zza 2 (zB (decide (r ≤ 3))) (zzb (zzn (ret0 [.bool (decide (r ≤ 3))] ⟨zzp, trivial⟩ fun u12 e13 => ?_))))
 show Value.bool _ = Value.bool _
 rw [show (decide (r ≤ 3)) = true from decide_eq_true xq]
theorem k_fxValid {u w : World} {W : WL} (d : Dat u w) (hW : WdOK W) : Calls Tryz.prog 244 #[W.v] w (Post u w fun v _ => v = .bool true) := by
 obtain ⟨hw1, hw2, hw3, hw4, hw5, hw6, hw7, hw8⟩ := id hW
 refine zzl (args := [.agg #[.int .i64 W.b, .int .i64 W.f, .int .i64 W.r, .int .i64 W.o]]) Tryz.func244 rfl Tryz.ntmps244 (rs := [.tmp 2]) Tryz.results244 (le_b rfl) (le_b rfl) d ?_
 refine sq9 (zzj 1 ⟨183, W.cs⟩ (zza 2 (zB false) (zzb (zzd (sq9 (zza 3 (.adr 1 0) (zzh 4 (zI W.b) ty3 zzk (zza 5 (zB (decide (W.b < 4))) (zqB 6 (show (decide (W.b < 4)) = false from decide_eq_false xq) (zza 7 (.adr 1 0) ?_ (hw := w1 3 false 6)))))))))))
 refine zzh 8 (zI W.b) ty3 zzk ?_ (hw := w1 3 false 6)
 refine zza 9 (zB (decide ((24 : Int) < W.b))) ?_ (hw := w1 3 false 6)
 refine zza 10 (zB (decide ((24 : Int) < W.b))) (zqB 11 (show (decide ((24 : Int) < W.b)) = false from decide_eq_false xq) (zza 12 (.adr 1 1) ?_ (hw := w1 8 false 11)))
 refine zzh 13 (zI W.f) ty3 zzk ?_ (hw := w1 8 false 11)
 refine zza 14 (zB (decide (W.f < 0))) ?_ (hw := w1 8 false 11)
 refine zza 15 (zB (decide (W.f < 0))) (zqB 16 (show (decide (W.f < 0)) = false from decide_eq_false xq) (zza 17 (.adr 1 1) ?_ (hw := w1 13 false 16)))
 refine zzh 18 (zI W.f) ty3 zzk ?_ (hw := w1 13 false 16)
 refine zza 19 (.adr 1 0) ?_ (hw := w1 13 false 16)
 refine zzh 20 (zI W.b) ty3 zzk ?_ (hw := w1 13 false 16)
 refine zza 21 (zB (decide (W.b ≤ W.f))) ?_ (hw := w1 13 false 16)
 refine zza 22 (zB (decide (W.b ≤ W.f))) (zzb (zzt (b := decide (W.b ≤ W.f)) xj (fun hb => ?_) (fun hb => ?_)))
 ·exact absurd hb (by rw [show (decide (W.b ≤ W.f)) = false from decide_eq_false xq]; decide)
 clear hb
 refine zzr (zzo ?_)
 refine sq9 (zza 23 (.adr 1 2) (zzh 24 (zI W.r) ty3 zzk (zzg 25 238 _ fun _ _ _ aa => Post.mono (k_mode (r := W.r) aa xq xq) ?_)))
 rintro _ u15 g16 rfl
 refine zza 26 (zB true) (zza 27 (.adr 1 3) ?_ (hw := w1 3 true 26))
 refine zzh 28 (zI W.o) ty3 zzk ?_ (hw := w1 3 true 26)
 refine zza 29 (zB (W.o == 1)) ?_ (hw := w1 3 true 26)
 rcases Bool.eq_false_or_eq_true (W.o == 1) with hs18 | hs18
 ·refine zyp 30 (x := zB (W.o == 1)) (zB true) (by rw [hs18]) ?_ (hw := w1 3 true 26)
  refine zzm 31 (uw 7 false true 30) (zzm 32 (uw 7 false true 30) (zzm 33 (uw 7 false true 30) (zza 34 (zB true) ?_ (hw := w1 3 true 26))))
  refine zza 35 (zB true) (zza 2 (zB true) (zzc 36 [(2, zB true)] [] (zzn (ret0 [.bool true] ⟨zzp, trivial⟩ fun u19 e20 => ?_))))
  rfl
 refine zyp 30 (x := zB (W.o == 1)) (zB false) (by rw [hs18]) ?_ (hw := w1 3 true 26)
 refine zza 31 (.adr 1 3) ?_ (hw := w1 7 false 30)
 refine zzh 32 (zI W.o) ty3 zzk ?_ (hw := w1 7 false 30)
 refine zza 33 (zB (W.o == 2)) ?_ (hw := w1 7 false 30)
 refine zza 34 (zB (W.o == 2)) ?_ (hw := w1 3 true 26)
 refine zza 35 (zB (W.o == 2)) (zza 2 (zB (W.o == 2)) (zzc 36 [(2, zB (W.o == 2))] [] (zzn (ret0 [.bool (W.o == 2)] ⟨zzp, trivial⟩ fun u21 e22 => ?_))))
 show Value.bool _ = Value.bool _
 rw [show (W.o == 2) = true from (by have hz := hs18; simp at hz ⊢; omega)]
theorem k_fxLow {u w : World} {W : WL} (d : Dat u w) (hW : WdOK W) : Calls Tryz.prog 255 #[W.v] w (Post u w fun v _ => v = .int .i64 (-Nt.p2i (W.b - 1))) := by
 obtain ⟨hw1, hw2, hw3, hw4, hw5, hw6, hw7, hw8⟩ := id hW
 have hp1 := Nt.zxo (W.b - 1)
 have hp2 := Nt.p2i_24 (n := W.b - 1) xq
 refine zzl (args := [.agg #[.int .i64 W.b, .int .i64 W.f, .int .i64 W.r, .int .i64 W.o]]) Tryz.func255 rfl Tryz.ntmps255 (rs := [.tmp 2]) Tryz.results255 (le_b rfl) (le_b rfl) d ?_
 refine sq9 (zzj 1 ⟨183, W.cs⟩ (zza 2 (zI 0) (zzb (zzd (sq9 (zzh 3 (.v (W.v)) ty183 zze (zzg 4 244 _ fun _ _ _ aa => Post.mono (k_fxValid (W := W) aa hW) ?_)))))))
 rintro _ u12 g13 rfl
 refine zza 5 (zB false) (zzb (zyr xj (zzr (zzo ?_))))
 refine sq9 (zza 6 (.adr 1 0) (zzh 7 (zI W.b) ty3 zzk (zyp 8 (x := zI (IntKind.i64.wrap (W.b - 1))) (zI (W.b - 1)) yq (sy_shl 9 (k := .i64) (s := W.b - 1) (Nt.p2i (W.b - 1)) xq yw (shl_one xq xq) ?_))))
 refine zqI 10 (show (IntKind.i64.wrap (0 - Nt.p2i (W.b - 1))) = (-Nt.p2i (W.b - 1)) from xk) (zza 2 (zI (-Nt.p2i (W.b - 1))) (zzb (zzn (ret0 [.int .i64 (-Nt.p2i (W.b - 1))] ⟨zzp, trivial⟩ fun u15 e16 => ?_))))
 rfl
theorem k_fxHigh {u w : World} {W : WL} (d : Dat u w) (hW : WdOK W) : Calls Tryz.prog 256 #[W.v] w (Post u w fun v _ => v = .int .i64 (Nt.p2i (W.b - 1) - 1)) := by
 obtain ⟨hw1, hw2, hw3, hw4, hw5, hw6, hw7, hw8⟩ := id hW
 have hp1 := Nt.zxo (W.b - 1)
 have hp2 := Nt.p2i_24 (n := W.b - 1) xq
 refine zzl (args := [.agg #[.int .i64 W.b, .int .i64 W.f, .int .i64 W.r, .int .i64 W.o]]) Tryz.func256 rfl Tryz.ntmps256 (rs := [.tmp 2]) Tryz.results256 (le_b rfl) (le_b rfl) d ?_
 refine sq9 (zzj 1 ⟨183, W.cs⟩ (zza 2 (zI 0) (zzb (zzd (sq9 (zzh 3 (.v (W.v)) ty183 zze (zzg 4 244 _ fun _ _ _ aa => Post.mono (k_fxValid (W := W) aa hW) ?_)))))))
 rintro _ u12 g13 rfl
 refine zza 5 (zB false) (zzb (zyr xj (zzr (zzo ?_))))
 refine sq9 (zza 6 (.adr 1 0) (zzh 7 (zI W.b) ty3 zzk (zyp 8 (x := zI (IntKind.i64.wrap (W.b - 1))) (zI (W.b - 1)) yq (sy_shl 9 (k := .i64) (s := W.b - 1) (Nt.p2i (W.b - 1)) xq yw (shl_one xq xq) ?_))))
 refine zyp 10 (x := zI (IntKind.i64.wrap ((Nt.p2i (W.b - 1)) - 1))) (zI ((Nt.p2i (W.b - 1)) - 1)) yq (zza 2 (zI ((Nt.p2i (W.b - 1)) - 1)) (zzb (zzn (ret0 [.int .i64 ((Nt.p2i (W.b - 1)) - 1)] ⟨zzp, trivial⟩ fun u15 e16 => ?_))))
 rfl
theorem k_fxFits {u w : World} {W : WL} {z : Int} (d : Dat u w) (hW : WdOK W) (h0 : -Nt.p2i (W.b - 1) ≤ z) (h1 : z < Nt.p2i (W.b - 1)) : Calls Tryz.prog 246 #[W.v, .int .i64 z] w (Post u w fun v _ => v = .bool true) := by
 obtain ⟨hw1, hw2, hw3, hw4, hw5, hw6, hw7, hw8⟩ := id hW
 refine zzl (args := [.agg #[.int .i64 W.b, .int .i64 W.f, .int .i64 W.r, .int .i64 W.o], .int .i64 z]) Tryz.func246 rfl Tryz.ntmps246 (rs := [.tmp 4]) Tryz.results246 (le_b rfl) (le_b rfl) d ?_
 refine sq9 (zzj 2 ⟨183, W.cs⟩ (zza 4 (zB false) (zzb (sq9 (zzh 5 (.v (W.v)) ty183 zze (zzg 6 244 _ fun _ _ _ aa => Post.mono (k_fxValid (W := W) aa hW) ?_))))))
 rintro _ u12 g13 rfl
 refine zza 7 (zB true) (zza 8 (zI z) ?_ (hw := w1 2 true 7))
 refine zzh 9 (.v (W.v)) ty183 zze ?_ (hw := w1 2 true 7)
 refine zzg 10 255 _ (fun _ _ _ ab => Post.mono (k_fxLow (W := W) ab hW) ?_) (hw := w1 2 true 7)
 rintro _ u16 g17 rfl
 refine zza 11 (zB (decide ((-Nt.p2i (W.b - 1)) ≤ z))) ?_ (hw := w1 2 true 7)
 refine zza 12 (zB (decide ((-Nt.p2i (W.b - 1)) ≤ z))) (zqB 13 (show (decide ((-Nt.p2i (W.b - 1)) ≤ z)) = true from decide_eq_true xq) (zza 14 (zI z) ?_ (hw := w1 8 true 13)))
 refine zzh 15 (.v (W.v)) ty183 zze ?_ (hw := w1 8 true 13)
 refine zzg 16 256 _ (fun _ _ _ ac => Post.mono (k_fxHigh (W := W) ac hW) ?_) (hw := w1 8 true 13)
 rintro _ u21 g22 rfl
 refine zza 17 (zB (decide (z ≤ (Nt.p2i (W.b - 1) - 1)))) ?_ (hw := w1 8 true 13)
 refine zza 18 (zB (decide (z ≤ (Nt.p2i (W.b - 1) - 1)))) (zza 4 (zB (decide (z ≤ (Nt.p2i (W.b - 1) - 1)))) (zzb (zzn (ret0 [.bool (decide (z ≤ (Nt.p2i (W.b - 1) - 1)))] ⟨zzp, trivial⟩ fun u24 e25 => ?_))))
 show Value.bool _ = Value.bool _
 rw [show (decide (z ≤ (Nt.p2i (W.b - 1) - 1))) = true from decide_eq_true xq]
namespace Nt
theorem cmpQ_self (q : Rat) : (cmpQ q q != 0) = false := by
 have h : (cmpQ q q == (0 : Int)) = true := by rw [cmpQ_eq, decide_eq_true rfl]
 show (!(cmpQ q q == (0 : Int))) = false
 rw [h]; rfl
end Nt
theorem k_in {u w : World} {z a b : Int} (d : Dat u w) : Calls Tryz.prog 113 #[.int .i64 z, .int .i64 a, .int .i64 b] w (Post u w fun v _ => v = .bool (decide (a ≤ z) && decide (z ≤ b))) := by
 refine zzl (args := [.int .i64 z, .int .i64 a, .int .i64 b]) Tryz.func113 rfl Tryz.ntmps113 (rs := [.tmp 6]) Tryz.results113 (le_b rfl) (le_b rfl) d ?_
 refine sq9 (zza 6 (zB false) (zzb (sq9 (zza 7 (zI z) (zza 8 (zI a) (zza 9 (zB (decide (a ≤ z))) ?_))))))
 rcases Bool.eq_false_or_eq_true (decide (a ≤ z)) with hs11 | hs11
 ·refine zyp 10 (x := zB (decide (a ≤ z))) (zB true) (by rw [hs11]) ?_
  have qhs11 := of_decide_eq_true hs11
  refine zza 11 (zI z) ?_ (hw := w1 3 true 10)
  refine zza 12 (zI b) ?_ (hw := w1 3 true 10)
  refine zza 13 (zB (decide (z ≤ b))) ?_ (hw := w1 3 true 10)
  refine zza 14 (zB (decide (z ≤ b))) (zza 6 (zB (decide (z ≤ b))) (zzb (zzn (ret0 [.bool (decide (z ≤ b))] ⟨zzp, trivial⟩ fun u12 e13 => ?_))))
  show Value.bool _ = Value.bool _
  rw [hs11]
  rfl
 refine zyp 10 (x := zB (decide (a ≤ z))) (zB false) (by rw [hs11]) ?_
 have qhs11 := of_decide_eq_false hs11
 refine zzm 11 (uw 3 true false 10) (zzm 12 (uw 3 true false 10) (zzm 13 (uw 3 true false 10) (zza 14 (zB false) (zza 6 (zB false) (zzb (zzn (ret0 [.bool false] ⟨zzp, trivial⟩ fun u14 e15 => ?_)))))))
 show Value.bool _ = Value.bool _
 rw [hs11]
 rfl
instance wdDec (W : WL) : Decidable (WdOK W) := by unfold WdOK; exact inferInstance
namespace Nt
section
variable {α : Type}
def swL (l : List α) (t f : Nat) (z : α) : List α := (l.set t (l.getD f z)).set f (l.getD t z)
theorem swL_len {l : List α} {t f : Nat} {z : α} : (swL l t f z).length = l.length := by unfold swL; rw [List.length_set, List.length_set]
theorem swL_at {l : List α} {t f i : Nat} {z : α} (ht : t < l.length) (hf : f < l.length) : (swL l t f z).getD i z = if i = t then l.getD f z else if i = f then l.getD t z else l.getD i z := by
 unfold swL
 have hg : ∀ {l : List α} {i j : Nat} {a : α}, i ≠ j → (l.set i a).getD j z = l.getD j z := fun h => by simp [List.getD_eq_getElem?_getD, h]
 have hs : ∀ {l : List α} {i : Nat} {a : α}, i < l.length → (l.set i a).getD i z = a := fun h => by simp [List.getD_eq_getElem?_getD, h]
 by_cases h1 : f = i
 ·subst h1
  rw [hs (by rw [List.length_set]; exact hf)]
  by_cases h2 : f = t
  ·subst h2; rw [if_pos rfl]
  rw [if_neg h2, if_pos rfl]
 rw [hg h1]
 by_cases h2 : t = i
 ·subst h2; rw [hs ht, if_pos rfl]
 rw [hg h2, if_neg (Ne.symm h2), if_neg (Ne.symm h1)]
end
def rowA (a b : List Rat) (f : Rat) : List Rat := (List.range a.length).map fun j => a.getD j 0 + f * b.getD j 0
def negR (a : List Rat) : List Rat := (List.range a.length).map fun j => -(a.getD j 0)
def cmb (s : List Int) (M : List (List Rat)) : List (List Rat) :=
 if s.getD 3 0 = -1 then swL M (s.getD 0 0).toNat (s.getD 1 0).toNat []
 else if s.getD 3 0 = -2 then M.set (s.getD 0 0).toNat (negR (M.getD (s.getD 0 0).toNat []))
 else M.set (s.getD 0 0).toNat (rowA (M.getD (s.getD 0 0).toNat []) (M.getD (s.getD 1 0).toNat []) (wq (s.getD 2 0) (s.getD 3 0)))
def idRow (n i : Nat) : List Rat := (List.range n).map fun j => if i = j then 1 else 0
def idR (n : Nat) : List (List Rat) := (List.range n).map fun i => idRow n i
def linM (n : Nat) (S : List (List Int)) : List (List Rat) := S.foldl (fun M s => cmb s M) (idR n)
def Sq (n : Nat) (M : List (List Rat)) : Prop := M.length = n ∧ ∀ i, i < n → (M.getD i []).length = n
def ent (M : List (List Rat)) (i j : Nat) : Rat := (M.getD i []).getD j 0
section
variable {M : List (List Rat)} {a b l : List Rat} {s : List Int} {S : List (List Int)} {n t f i j D A : Nat} {cf sh : Int} {q : Rat}
theorem mapR_at {g : Nat → Rat} (h : j < n) : ((List.range n).map g).getD j 0 = g j := by
 rw [List.getD_eq_getElem?_getD, List.getElem?_map, List.getElem?_range h]; rfl
theorem mapR_out {g : Nat → Rat} (h : n ≤ j) : ((List.range n).map g).getD j 0 = 0 := by
 rw [List.getD_eq_getElem?_getD, List.getElem?_eq_none zv]; rfl
theorem mapL_at {g : Nat → List Rat} (h : j < n) : ((List.range n).map g).getD j [] = g j := by
 rw [List.getD_eq_getElem?_getD, List.getElem?_map, List.getElem?_range h]; rfl
theorem rowA_len : (rowA a b q).length = a.length := by unfold rowA; simp
theorem negR_len : (negR a).length = a.length := by unfold negR; simp
theorem idRow_len : (idRow n i).length = n := by unfold idRow; simp
theorem idR_len : (idR n).length = n := by unfold idR; simp
theorem rowA_at (h : j < a.length) : (rowA a b q).getD j 0 = a.getD j 0 + q * b.getD j 0 := mapR_at h
theorem negR_at (h : j < a.length) : (negR a).getD j 0 = -(a.getD j 0) := mapR_at h
theorem idRow_at (h : j < n) : (idRow n i).getD j 0 = if i = j then 1 else 0 := mapR_at h
theorem idR_at (h : i < n) : (idR n).getD i [] = idRow n i := mapL_at h
theorem cmb_x (h : sh = -1) : cmb [(t : Int), (f : Int), cf, sh] M = swL M t f [] := by subst h; rfl
theorem cmb_n (h : sh = -2) : cmb [(t : Int), (f : Int), cf, sh] M = M.set t (negR (M.getD t [])) := by subst h; rfl
theorem cmb_s (h1 : ¬ sh = -1) (h2 : ¬ sh = -2) : cmb [(t : Int), (f : Int), cf, sh] M = M.set t (rowA (M.getD t []) (M.getD f []) (wq cf sh)) := by
 unfold cmb
 rw [if_neg (show ¬ [(t : Int), (f : Int), cf, sh].getD 3 0 = -1 from h1), if_neg (show ¬ [(t : Int), (f : Int), cf, sh].getD 3 0 = -2 from h2)]
 rfl
theorem getD_setL {x y : List Rat} : (M.set t x).getD i [] = if t = i ∧ t < M.length then x else M.getD i [] := by
 by_cases h : t = i
 ·subst h
  by_cases h2 : t < M.length
  ·rw [if_pos ⟨rfl, h2⟩]; simp [List.getD_eq_getElem?_getD, h2]
  rw [if_neg (fun h => h2 h.2), List.set_eq_of_length_le xq]
 rw [if_neg (fun h9 => h h9.1)]; simp [List.getD_eq_getElem?_getD, h]
theorem linM_nil : linM n [] = idR n := rfl
theorem linM_snoc (i : Nat) (hi : i < S.length) : linM n (S.take (i + 1)) = cmb (S.getD i []) (linM n (S.take i)) := by
 unfold linM
 rw [List.take_succ_eq_append_getElem hi, List.foldl_append, List.getD_eq_getElem?_getD, List.getElem?_eq_getElem hi]
 rfl
theorem idR_sq : Sq n (idR n) := ⟨idR_len, fun i hi => by rw [idR_at hi]; exact idRow_len⟩
theorem Sq.set (h : Sq n M) (hl : l.length = n) : Sq n (M.set t l) := ⟨by rw [List.length_set]; exact h.1, fun i hi => by
 rw [getD_setL (y := [])]
 split
 ·exact hl
 exact h.2 i hi⟩
theorem Sq.swap (h : Sq n M) (ht : t < n) (hf : f < n) : Sq n (swL M t f []) := ⟨by rw [swL_len]; exact h.1, fun i hi => by
 rw [swL_at (by rw [h.1]; exact ht) (by rw [h.1]; exact hf)]
 split
 ·exact h.2 f hf
 split
 ·exact h.2 t ht
 exact h.2 i hi⟩
theorem shOK_four (h : shOK (n : Int) s) (h4 : s.length = 4) : ∃ (t f : Nat) (cf sh : Int), s = [(t : Int), (f : Int), cf, sh] ∧ t < n ∧ f < n ∧ -2 ≤ sh ∧ sh ≤ 20 ∧ -2097152 ≤ cf ∧ cf ≤ 2097152 ∧ (t = f ↔ sh = -2) ∧ (sh < 0 → cf = 0) := by
 have e := row_eq4 h4
 have h1 : 0 ≤ s.getD 0 0 := h.1
 have h2 : 0 ≤ s.getD 1 0 := h.2.2.1
 refine ⟨(s.getD 0 0).toNat, (s.getD 1 0).toNat, s.getD 2 0, s.getD 3 0, ?_, ?_⟩
 ·rw [Int.toNat_of_nonneg h1, Int.toNat_of_nonneg h2]; exact e
 rw [e] at h
 rw [← Int.toNat_of_nonneg h1, ← Int.toNat_of_nonneg h2] at h
 obtain ⟨k1, k2, k3, k4, k5, k6, k7, k8⟩ := shOK_mk h
 exact ⟨by omega, by omega, k3, k4, k5, k6, ⟨fun h9 => k7.1 (by rw [h9]), fun h9 => Int.ofNat_inj.1 (k7.2 h9)⟩, k8⟩
theorem cmb_sq (h : Sq n M) (ht : t < n) (hf : f < n) : Sq n (cmb [(t : Int), (f : Int), cf, sh] M) := by
 by_cases h1 : sh = -1
 ·rw [cmb_x h1]; exact h.swap ht hf
 by_cases h2 : sh = -2
 ·rw [cmb_n h2]; exact h.set (by rw [negR_len]; exact h.2 t ht)
 rw [cmb_s h1 h2]; exact h.set (by rw [rowA_len]; exact h.2 t ht)
def Mw (M : List (List Rat)) (D A : Nat) : Prop := 0 < D ∧ ∀ i j, Wh (ent M i j * ((D : Int) : Rat)) A
theorem wh_p20 (z : Nat) (h : z ≤ 20) : Wh (((((2 : Nat) ^ z : Nat) : Int) : Rat)) 20 := ⟨(((2 : Nat) ^ z : Nat) : Int), rfl, by
 rw [Int.natAbs_natCast]; exact Nat.pow_le_pow_right xw h⟩
theorem Wh.zero' {x : Rat} (h : x = 0) (A : Nat) : Wh x A := by rw [h]; exact Wh.zero A
theorem Wh.scale {x : Rat} (h : Wh (x * ((D : Int) : Rat)) A) : Wh (x * (((D * 2 ^ 20 : Nat) : Int) : Rat)) (A + 20) := by
 have e : (((D * 2 ^ 20 : Nat) : Int) : Rat) = ((D : Int) : Rat) * (((2 ^ 20 : Nat) : Int) : Rat) := by rw [← Rat.intCast_mul]; simp
 rw [e, ← Rat.mul_assoc]
 exact h.mul (wh_p20 20 xw)
theorem wq_20 (h0 : 0 ≤ sh) (h1 : sh ≤ 20) : wq cf sh * (((2 ^ 20 : Nat) : Int) : Rat) = ((cf : Int) : Rat) * (((2 ^ (20 - sh.toNat) : Nat) : Int) : Rat) := by
 obtain ⟨k, rfl⟩ := Int.eq_ofNat_of_zero_le h0
 have hk : k ≤ 20 := by omega
 have e : (((2 ^ 20 : Nat) : Int) : Rat) = ((p2i (k : Int) : Int) : Rat) * (((2 ^ (20 - k) : Nat) : Int) : Rat) := by
  rw [← Rat.intCast_mul]; congr 1
  unfold p2i
  rw [Int.toNat_natCast]
  have e2 : (2 : Int) ^ k = ((2 ^ k : Nat) : Int) := by simp
  rw [e2, ← Int.natCast_mul, ← Nat.pow_add]; congr 2; omega
 have hp : ((p2i (k : Int) : Int) : Rat) ≠ 0 := fun e => by
  have h1 := Rat.intCast_inj.1 (show ((p2i (k : Int) : Int) : Rat) = ((0 : Int) : Rat) from e); have := zxo (k : Int); omega
 rw [e, show (k : Int).toNat = k from rfl]
 unfold wq
 generalize ((p2i (k : Int) : Int) : Rat) = P at *
 generalize (((2 ^ (20 - k) : Nat) : Int) : Rat) = Q at *
 rw [Rat.div_def]
 grind
theorem Wh.shear {x : Rat} (h : Wh (x * ((D : Int) : Rat)) A) (h0 : 0 ≤ sh) (h1 : sh ≤ 20) (h2 : cf.natAbs ≤ 2 ^ 21) : Wh (wq cf sh * x * (((D * 2 ^ 20 : Nat) : Int) : Rat)) (A + 41) := by
 have e : (((D * 2 ^ 20 : Nat) : Int) : Rat) = ((D : Int) : Rat) * (((2 ^ 20 : Nat) : Int) : Rat) := by rw [← Rat.intCast_mul]; simp
 have e2 : wq cf sh * x * (((D * 2 ^ 20 : Nat) : Int) : Rat) = x * ((D : Int) : Rat) * (((cf : Int) : Rat) * (((2 ^ (20 - sh.toNat) : Nat) : Int) : Rat)) := by
  rw [e, ← wq_20 h0 h1]; grind
 rw [e2]
 exact h.mul (Wh.mul (A := 21) (B := 20) ⟨cf, rfl, h2⟩ (wh_p20 _ xq))
theorem ent_set : ent (M.set t l) i j = if t = i ∧ t < M.length then l.getD j 0 else ent M i j := by
 unfold ent; rw [getD_setL (y := [])]; split <;> rfl
theorem Mw.cmb (h : Mw M D A) (hq : Sq n M) (ht : t < n) (hf : f < n) (h1 : -2 ≤ sh) (h2 : sh ≤ 20) (h3 : -2097152 ≤ cf ∧ cf ≤ 2097152) : Mw (cmb [(t : Int), (f : Int), cf, sh] M) (D * 2 ^ 20) (A + 42) := by
 refine ⟨Nat.mul_pos h.1 xw, fun i j => ?_⟩
 by_cases g1 : sh = -1
 ·rw [cmb_x g1]
  have e : ∃ i', ent (swL M t f []) i j = ent M i' j := by
   unfold ent
   rw [swL_at (by rw [hq.1]; exact ht) (by rw [hq.1]; exact hf)]
   split
   ·exact ⟨f, rfl⟩
   split
   ·exact ⟨t, rfl⟩
   exact ⟨i, rfl⟩
  obtain ⟨i', e⟩ := e
  rw [e]; exact (h.2 i' j).scale.more xq
 by_cases g2 : sh = -2
 ·rw [cmb_n g2, ent_set]
  split
  ·rcases Nat.lt_or_ge j (M.getD t []).length with hj | hj
   ·rw [negR_at hj]
    have h9 := (Wh.zero (A + 20)).sub (h.2 t j).scale
    have e : -(M.getD t []).getD j 0 * (((D * 2 ^ 20 : Nat) : Int) : Rat) = 0 - ent M t j * (((D * 2 ^ 20 : Nat) : Int) : Rat) := by unfold ent; grind
    rw [e]; exact h9.more xq
   rw [show (negR (M.getD t [])).getD j 0 = 0 by unfold negR; exact mapR_out hj]
   exact Wh.zero' (Rat.zero_mul _) _
  exact (h.2 i j).scale.more xq
 rw [cmb_s g1 g2, ent_set]
 split
 ·rcases Nat.lt_or_ge j (M.getD t []).length with hj | hj
  ·rw [rowA_at hj, Rat.add_mul]
   exact ((h.2 t j).scale.more xq).add ((h.2 f j).shear (sh := sh) (cf := cf) xq h2 xq)
  rw [show (rowA (M.getD t []) (M.getD f []) (wq cf sh)).getD j 0 = 0 by unfold rowA; exact mapR_out hj]
  exact Wh.zero' (Rat.zero_mul _) _
 exact (h.2 i j).scale.more xq
theorem idR_mw : Mw (idR n) 1 1 := ⟨by decide, fun i j => by
 rw [show (((1 : Nat) : Int) : Rat) = 1 from rfl, Rat.mul_one]
 unfold ent
 rcases Nat.lt_or_ge i n with hi | hi
 ·rw [idR_at hi]
  rcases Nat.lt_or_ge j n with hj | hj
  ·rw [idRow_at hj]; split
   ·exact Wh.one _
   exact Wh.zero _
  rw [show (idRow n i).getD j 0 = 0 by unfold idRow; exact mapR_out hj]; exact Wh.zero _
 rw [show (idR n).getD i [] = [] by rw [List.getD_eq_getElem?_getD, List.getElem?_eq_none (by rw [idR_len]; exact hi)]; rfl]; exact Wh.zero _⟩
theorem linM_ok (hV : ∀ i, i < S.length → shOK (n : Int) (S.getD i [])) (h4 : Rows 4 S) : ∀ i, i ≤ S.length → Sq n (linM n (S.take i)) ∧ Mw (linM n (S.take i)) (2 ^ (20 * i)) (42 * i + 1) := by
 intro i
 induction i with
 | zero => intro _; rw [List.take_zero]; exact ⟨idR_sq, idR_mw⟩
 | succ i ih =>
  intro hi
  obtain ⟨h1, h2⟩ := ih xq
  obtain ⟨t, f, cf, sh, e, k1, k2, k3, k4, k5, k6, _⟩ := shOK_four (hV i xq) (h4.get xq)
  rw [linM_snoc i xq, e]
  refine ⟨cmb_sq h1 k1 k2, ?_⟩
  have h9 := h2.cmb h1 k1 k2 k3 k4 ⟨k5, k6⟩
  rw [← Nat.pow_add] at h9
  rwa [show 20 * (i + 1) = 20 * i + 20 by omega, show 42 * (i + 1) + 1 = 42 * i + 1 + 42 by omega]
theorem Mw.rs (h : Mw M D A) (hD : D ≤ 2 ^ A) (i j : Nat) : rs (ent M i j) ≤ dg A := wh_rs h.1 (h.2 i j) hD
theorem linM_rs (hV : ∀ i, i < S.length → shOK (n : Int) (S.getD i [])) (h4 : Rows 4 S) (h64 : S.length ≤ 64) (k : Nat) (hk : k ≤ S.length) : ∀ i j, rs (ent (linM n (S.take k)) i j) ≤ 100 := fun i j => by
 have h9 := (linM_ok hV h4 k hk).2.rs (Nat.pow_le_pow_right xw xq) i j
 have : dg (42 * k + 1) ≤ 100 := by unfold dg; omega
 omega
def mixR (M : List (List Rat)) (t : Nat) (R : List Rat) (j : Nat) : List (List Rat) := M.set t (R.take j ++ (M.getD t []).drop j)
theorem mixR_0 {R : List Rat} : mixR M t R 0 = M := by
 unfold mixR
 rw [List.take_zero, List.nil_append, List.drop_zero]
 refine List.ext_getElem? fun k => ?_
 rw [List.getElem?_set]
 split
 ·rename_i e; subst e
  split
  ·rename_i h; simp [List.getD_eq_getElem?_getD, h]
  rename_i h; rw [List.getElem?_eq_none xq]
 rfl
theorem mixR_n {R : List Rat} (h : R.length = (M.getD t []).length) (hj : j = R.length) : mixR M t R j = M.set t R := by
 unfold mixR
 rw [hj, List.take_length, h, List.drop_length, List.append_nil]
theorem mixR_len {R : List Rat} : (mixR M t R j).length = M.length := by unfold mixR; rw [List.length_set]
theorem mixR_old {R : List Rat} (ht : t < M.length) (hR : R.length = (M.getD t []).length) (hj : j < R.length) : ((mixR M t R j).getD t []).getD j 0 = (M.getD t []).getD j 0 := by
 unfold mixR
 rw [getD_setL (y := []), if_pos ⟨rfl, ht⟩, List.getD_eq_getElem?_getD, List.getElem?_append_right (by rw [List.length_take]; omega), List.length_take, Nat.min_eq_left xq, Nat.sub_self, List.getElem?_drop, Nat.add_zero, List.getD_eq_getElem?_getD (l := M.getD t [])]
theorem mixR_other {R : List Rat} (h : t ≠ i) : (mixR M t R j).getD i [] = M.getD i [] := by
 unfold mixR; rw [getD_setL (y := []), if_neg (fun h9 => h h9.1)]
theorem mixR_row {R : List Rat} (ht : t < M.length) (hR : R.length = (M.getD t []).length) (hj : j ≤ R.length) : ((mixR M t R j).getD t []).length = R.length := by
 unfold mixR
 rw [getD_setL (y := []), if_pos ⟨rfl, ht⟩, List.length_append, List.length_take, List.length_drop]; omega
theorem mixR_s {R : List Rat} (ht : t < M.length) (hR : R.length = (M.getD t []).length) (hj : j < R.length) : (mixR M t R j).set t (((mixR M t R j).getD t []).set j (R.getD j 0)) = mixR M t R (j + 1) := by
 unfold mixR
 rw [List.set_set, getD_setL (y := []), if_pos ⟨rfl, ht⟩]
 congr 1
 rw [List.set_append_right j _ (by rw [List.length_take]; omega), List.length_take, Nat.min_eq_left xq, Nat.sub_self, List.take_succ_eq_append_getElem hj, List.append_assoc]
 congr 1
 have e9 : R.getD j 0 = R[j] := by rw [List.getD_eq_getElem?_getD, List.getElem?_eq_getElem hj]; rfl
 rw [List.drop_eq_getElem_cons (show j < (M.getD t []).length by omega), List.set_cons_zero, e9]; rfl
end
end Nt
def mqB (x : Sl) (Rs : List Sl) : List Nat := (x :: Rs).filterMap fun s => s.a.map fun a => a.block
section
variable {w k lo lo' h b n c i j off : Nat} {tO tR : TypeId} {u u' u'' v : World} {w0 : Base} {u0 : World} {x y z : Sl} {Rs : List Sl} {Ls : List (List RL)} {L : List RL} {M : List (List Rat)} {l : List Rat} {r : RL} {q : Rat} {K K' : Nat} {a : Addr}
theorem mqB_x (h : x.a = some a) : a.block ∈ mqB x Rs := List.mem_filterMap.2 ⟨x, List.mem_cons_self .., by rw [h]; rfl⟩
theorem mqB_row (hi : i < Rs.length) (h : (Rs.getD i sl0).a = some a) : a.block ∈ mqB x Rs := List.mem_filterMap.2 ⟨Rs.getD i sl0, List.mem_cons_of_mem _ (by
 rw [List.getD_eq_getElem?_getD, List.getElem?_eq_getElem hi]; exact List.getElem_mem hi), by rw [h]; rfl⟩
theorem MatQ.blk (m : MatQ w tO tR lo u x Rs Ls) (hb : b ∈ mqB x Rs) : lo ≤ b ∧ ∃ ob, u.heap[b]? = some ob ∧ ob ≠ hidO := by
 obtain ⟨s, hs, e⟩ := List.mem_filterMap.1 hb
 have key : ∀ {k : Nat} {ty : TypeId} {s : Sl} {cs : List Value}, MutQ k ty lo u s cs → s.a.map (fun a => a.block) = some b → lo ≤ b ∧ ∃ ob, u.heap[b]? = some ob ∧ ob ≠ hidO := by
  intro k ty s cs hm e
  rcases hm.2.2.2 with h1 | ⟨b', all, h1, h2, _, _, h5, _⟩
  ·rw [h1] at e; cases e
  rw [h1] at e; injection e with e; subst e
  exact ⟨h5, _, h2, cells_not_hid⟩
 rcases List.mem_cons.1 hs with h1 | h1
 ·subst h1; exact key m.out e
 obtain ⟨i, hi, e2⟩ := List.getElem_of_mem h1
 have h3 : Rs.getD i sl0 = s := by rw [List.getD_eq_getElem?_getD, List.getElem?_eq_getElem hi]; exact e2
 have h4 := m.row i (by rw [← m.len]; exact hi)
 rw [h3] at h4
 exact key h4 e
theorem MatQ.may (m : MatQ w tO tR lo u x Rs Ls) (hl : u0.heap.size ≤ lo) : ∀ b ∈ mqB x Rs, MayB w0 u0 b ∧ ∃ ob, u.heap[b]? = some ob ∧ ob ≠ hidO := fun b hb =>
 ⟨.inl (Nat.le_trans hl (m.blk hb).1), (m.blk hb).2⟩
theorem ExtF.rootQ (e : ExtF (mqB x Rs) u u') (m : MatQ w tO tR v.heap.size u x Rs Ls) (r : Ext v u) : Ext v u' :=
 ⟨Nat.le_trans r.size e.size, fun q o hq hh => e.vis q o (fun hm => by have h1 := (m.blk hm).1; have h2 := zyz hq; omega) (r.vis q o hq hh) hh⟩
theorem MatN.el (h : MatN u Ls M K) (hi : i < M.length) (hj : j < (M.getD i []).length) (hr : RatN u r q K) : MatN u (Ls.set i ((Ls.getD i []).set j r)) (M.set i ((M.getD i []).set j q)) K :=
 h.set (rats_set (h.2 i hi) hj hr)
theorem MatN.at (h : MatN u Ls M K) (hi : i < M.length) (hj : j < (M.getD i []).length) : RatN u ((Ls.getD i []).getD j rl0) ((M.getD i []).getD j 0) K := (h.2 i hi).2 j hj
theorem MatN.rowlen (h : MatN u Ls M K) (hi : i < M.length) : (Ls.getD i []).length = (M.getD i []).length := (h.2 i hi).1
theorem ExtX.trans {u2 : World} (e : ExtX x u u') (f : ExtX x u' u2) : ExtX x u u2 := ⟨Nat.le_trans e.size f.size, fun k o ho hk hh => f.vis k o ho (e.vis k o ho hk hh) hh⟩
theorem MutQ.rown {ty : TypeId} (m : MutQ (1 * 3) ty lo u y (rcs L)) : y.n = L.length := by
 have h := m.1
 rw [zyx] at h; omega
theorem MatN.swap {t f : Nat} (h : MatN u Ls M K) (ht : t < M.length) (hf : f < M.length) : MatN u ((Ls.set t (Ls.getD f [])).set f (Ls.getD t [])) (Nt.swL M t f []) K := by
 have hl := h.1
 refine ⟨by rw [Nt.swL_len, List.length_set, List.length_set]; exact hl, fun i hi => ?_⟩
 rw [Nt.swL_len] at hi
 have e1 : (Ls.set t (Ls.getD f [])).set f (Ls.getD t []) = Nt.swL Ls t f [] := rfl
 rw [e1, Nt.swL_at xq xq, Nt.swL_at ht hf]
 split
 ·exact h.2 f hf
 split
 ·exact h.2 t ht
 exact h.2 i hi
end
section
variable {P : Program} {w0 : Base} {u0 : World} {ops : Array Oper} {S : St} {u : World} {Q : MP} {listed : Array Bool}
theorem execOp_fieldAddr {o : Oper} {T : TypeId} {r : Tmp} {f : Nat} (hop : o.op = .fieldAddr T (.tmp r) f) (ev : Operand → Value) (w : World) (v : Value) (h : ev (.tmp r) = v) :
  (execOp ev o).run P w = (execOp (fun _ => v) o).run P w := by
 unfold execOp; rw [hop]; show Sem.run P _ w = Sem.run P _ w; simp only [h]
theorem takeXa (i d n : Nat) {T : TypeId} {r f : Nat} (t off off' : Nat) (listed' : Array Bool) (k : AnyX P w0 u0 ops listed' n (S.set d (.adr t off')) u Q) (hp : ∀ c S u, ¬ Q.f (.panic c) S u := by intro c S u h; exact h) (hl : listed.setIfInBounds i true = listed' := by kernel_rfl)
  (hs : (Region.noSelect ops && Region.free .any ops listed i && (Region.ready .any ops listed).contains i && Nat.blt i ops.size && (ops.getD i default).dst == some d && (ops.getD i default).guard.isNone && freeB S d) = true := by kernel_rfl)
  (hop : (ops.getD i default).op = .fieldAddr T (.tmp r) f := by rfl) (hx : S.reg r = some (.adr t off) := by rfl) (hv : (S.var t).isSome = true := by rfl)
  (hrun : ∀ b w, (execOp (fun _ => .pointer (some ⟨b, off, none⟩)) (ops.getD i default)).run P w = .ok (.value (.pointer (some ⟨b, off', none⟩))) w := by intro _ _; kernel_rfl) : AnyX P w0 u0 ops listed (n + 1) S u Q :=
 takeXR i d n _ rfl listed' k hp hl hs hv (fun B a w hr => by rw [execOp_fieldAddr hop a.eval w _ (hr.eval hx)]; exact hrun (B t) w)
end
section
variable {w k lo lo' h b n c i j off : Nat} {tO tR : TypeId} {u u' u'' v : World} {w0 : Base} {u0 : World} {x y z : Sl} {Rs : List Sl} {Ls : List (List RL)} {L : List RL} {M : List (List Rat)} {l : List Rat} {r : RL} {q : Rat} {K K' : Nat} {a : Addr}
theorem nu_zrat : ∀ v ∈ (Value.agg #[.bool false, .slice none 0 0, .slice none 0 0]).cells.toList, NU v := nu_rl rl0
end
section
variable {k lo lo' n c i j : Nat} {ty : TypeId} {u u' v : World} {w0 : Base} {u0 : World} {x y : Sl} {cs : List Value} {l : List Int} {z : Int} {a : Addr}
theorem nu_ics : ∀ v ∈ ics l, NU v := fun v hv => by
 obtain ⟨x, _, rfl⟩ := List.mem_map.1 hv
 exact nu_i64 x
theorem MutQ.elI (m : MutQ 1 ty lo u y (ics l)) (hj : j < l.length) : ∃ b, y.a = some ⟨b, 0, none⟩ ∧ u.cell? ⟨b, 0 + j * 1, none⟩ = some (.int .i64 (l.getD j 0)) := by
 obtain ⟨b, h1, h2⟩ := m.mutL.cell (j := j) (by rw [zwi]; exact hj)
 exact ⟨b, h1, by rw [Nat.mul_one, h2, ics_at hj]⟩
theorem setL_icsQ (h : j < l.length) : setL (ics l) (0 + j * 1) (Value.int .i64 z).cells.toList = ics (l.set j z) := by
 have := setL_cons (cs := ics l) (off := j) (v := .int .i64 z) (vs := []) (by rw [zwi]; exact h)
 rw [setL_nil] at this
 rw [Nat.zero_add, Nat.mul_one, ← ics_set]
 exact this.symm
theorem MutQ.slr (m : MutQ 1 ty lo u y (ics l)) : SlR .i64 u y.a y.n y.c l := by
 obtain ⟨h1, h2, h3, h4⟩ := id m
 rw [zwi, Nat.mul_one] at h1
 refine ⟨h1, h2, h3, fun h0 => ?_⟩
 rcases h4 with h4 | ⟨b, all, g1, g2, g3, g4, _, _⟩
 ·rw [h4] at h0; exact absurd h0 (Nat.lt_irrefl 0)
 refine ⟨b, 0, g1, zyz g2, fun i hi => ?_⟩
 obtain ⟨b2, e1, e2⟩ := m.elI (j := i) xq
 rw [g1] at e1
 injection e1 with e1; injection e1 with e1 _ _
 subst e1
 rw [Nat.mul_one] at e2
 rw [e2, List.getD_eq_getElem?_getD]
theorem MutQ.blkF (m : MutQ k ty lo u y cs) {b : Nat} (hb : b ∈ mqB y []) : lo ≤ b ∧ ∃ ob, u.heap[b]? = some ob ∧ ob ≠ hidO := by
 obtain ⟨s, hs, e⟩ := List.mem_filterMap.1 hb
 rw [List.mem_singleton.1 hs] at e
 rcases m.2.2.2 with h1 | ⟨b', all, h1, h2, _, _, h5, _⟩
 ·rw [h1] at e; cases e
 rw [h1] at e; injection e with e; subst e
 exact ⟨h5, _, h2, cells_not_hid⟩
theorem MutQ.mayF (m : MutQ k ty lo u y cs) (hl : u0.heap.size ≤ lo) : ∀ b ∈ mqB y [], MayB w0 u0 b ∧ ∃ ob, u.heap[b]? = some ob ∧ ob ≠ hidO := fun b hb => ⟨.inl (Nat.le_trans hl (m.blkF hb).1), (m.blkF hb).2⟩
theorem ExtF.rootL (e : ExtF (mqB y []) u u') (m : MutQ k ty v.heap.size u y cs) (r : Ext v u) : Ext v u' :=
 ⟨Nat.le_trans r.size e.size, fun q o hq hh => e.vis q o (fun hm => by have h1 := (m.blkF hm).1; have h2 := zyz hq; omega) (r.vis q o hq hh) hh⟩
end
namespace Nt
theorem tdiv_abs (v p : Int) : (v.tdiv p).natAbs ≤ v.natAbs := by
 rw [Int.natAbs_tdiv]; exact Nat.div_le_self _ _
theorem tm_fl {v p q r : Int} (hp : 0 < p) (hq : v.tdiv p = q) (hr : v.tmod p = r) : (0 ≤ r → v / p = q ∧ v % p = r ∧ r < p) ∧ (r < 0 → v / p = q - 1 ∧ v % p = r + p ∧ 0 < r + p) := by
 have h1 := Int.tmod_add_mul_tdiv v p
 rw [hq, hr] at h1
 have h2 : -p < r ∧ r < p := by
  subst hr
  constructor
  ·exact Int.lt_tmod_of_pos v hp
  exact Int.tmod_lt_of_pos v hp
 have h3 := Int.mul_ediv_add_emod v p
 have h4 := Int.emod_nonneg v (show p ≠ 0 by omega)
 have h5 := Int.emod_lt_of_pos v hp
 refine ⟨fun h => ?_, fun h => ?_⟩
 ·have h6 : v / p = q := by
   have h7 : v = r + p * q := h1.symm
   rw [h7, Int.add_mul_ediv_left _ _ (show p ≠ 0 by omega), Int.ediv_eq_zero_of_lt h h2.2, Int.zero_add]
  refine ⟨h6, ?_, h2.2⟩
  rw [h6] at h3; omega
 have h6 : v / p = q - 1 := by
  have h7 : v = (r + p) + p * (q - 1) := by rw [Int.mul_sub]; omega
  rw [h7, Int.add_mul_ediv_left _ _ (show p ≠ 0 by omega), Int.ediv_eq_zero_of_lt xq xq, Int.zero_add]
 refine ⟨h6, ?_, by omega⟩
 rw [h6, Int.mul_sub] at h3; omega
theorem shift_fl {v n : Int} (h0 : 0 ≤ n) : (0 < n ∧ p2i n - 1 - v % p2i n < v % p2i n → shiftW v n 2 = v / p2i n + 1) ∧ (¬ (0 < n ∧ p2i n - 1 - v % p2i n < v % p2i n) → shiftW v n 2 = v / p2i n) := by
 by_cases h1 : n = 0
 ·subst h1
  have e : shiftW v 0 2 = v := if_pos rfl
  rw [e, show p2i 0 = 1 from rfl, Int.ediv_one]
  exact ⟨fun h => absurd h.1 xq, fun _ => rfl⟩
 have e : shiftW v n 2 = v / p2i n + v / p2i (n - 1) % 2 := by unfold shiftW; rw [if_neg h1, if_pos rfl]
 have hd : p2i n = 2 * p2i (n - 1) := p2i_succ xq
 have hq := zxo (n - 1)
 obtain ⟨P, hP⟩ : ∃ P, p2i (n - 1) = P := ⟨_, rfl⟩
 rw [hP] at hd hq e
 rw [e, hd]
 have h2 := Int.mul_ediv_add_emod v P
 have h3 := Int.emod_nonneg v (show P ≠ 0 by omega)
 have h4 := Int.emod_lt_of_pos v hq
 have h5 : v / (2 * P) = v / P / 2 := by rw [Int.mul_comm 2 P, Int.ediv_ediv_of_nonneg xq]
 have h6 := Int.mul_ediv_add_emod v (2 * P)
 rw [h5] at h6
 obtain ⟨a, ha⟩ : ∃ a, v / P = a := ⟨_, rfl⟩
 obtain ⟨m, hm⟩ : ∃ m, v % P = m := ⟨_, rfl⟩
 obtain ⟨r, hr⟩ : ∃ r, v % (2 * P) = r := ⟨_, rfl⟩
 rw [h5, ha, hr]
 rw [ha, hm] at h2
 rw [ha, hr] at h6
 rw [hm] at h3 h4
 obtain ⟨c, hc⟩ : ∃ c, a = 2 * c ∨ a = 2 * c + 1 := ⟨a / 2, by omega⟩
 rcases hc with hc | hc
 ·have e1 : a / 2 = c := by omega
  have e2 : a % 2 = 0 := by omega
  rw [e1] at h6 ⊢
  rw [e2]
  have e3 : r = m := by rw [hc] at h2; have : P * (2 * c) = 2 * P * c := by grind
                        omega
  exact ⟨fun h => absurd h.2 xq, fun _ => by omega⟩
 have e1 : a / 2 = c := by omega
 have e2 : a % 2 = 1 := by omega
 rw [e1] at h6 ⊢
 rw [e2]
 have e3 : r = m + P := by rw [hc] at h2; have : P * (2 * c + 1) = 2 * P * c + P := by grind
                           omega
 exact ⟨fun _ => rfl, fun h => absurd ⟨by omega, by omega⟩ h⟩
theorem shBs_drop {S : List (List Int)} {l : List Int} {k : Nat} (h : k < S.length) : shBs (S.drop k) l = shF (S.getD k []) (-1) (shBs (S.drop (k + 1)) l) := by
 rw [List.drop_eq_getElem_cons h, List.getD_eq_getElem?_getD, List.getElem?_eq_getElem h]; rfl
end Nt
theorem k_fxShift2 {u w : World} {v n : Int} (d : Dat u w) (hv0 : -1152921504606846976 ≤ v) (hv1 : v ≤ 1152921504606846976) (hn0 : 0 ≤ n) (hn1 : n ≤ 24) : Calls Tryz.prog 191 #[.int .i64 v, .int .i64 n, .int .i64 2] w (Post u w fun y _ => y = .int .i64 (Nt.shiftW v n 2)) := by
 have hp1 := Nt.zxo n
 have hp2 := Nt.p2i_24 (n := n) xq
 have hd1 := Nt.div_bd (v := v) hp1
 have hm1 := Int.emod_nonneg (v / Nt.p2i (n - 1)) (show (2 : Int) ≠ 0 by decide)
 have hm2 := Int.emod_lt_of_pos (v / Nt.p2i (n - 1)) (show (0 : Int) < 2 by decide)
 refine zzl (args := [.int .i64 v, .int .i64 n, .int .i64 2]) Tryz.func191 rfl Tryz.ntmps191 (rs := [.tmp 6]) Tryz.results191 (le_b rfl) (le_b rfl) d ?_
 refine sq9 (zza 6 (zI 0) (zzb (zzd (sq9 (zza 9 (zI n) (zza 10 (zB (decide (n < 0))) (zqB 11 (show (decide (n < 0)) = false from decide_eq_false xq) (zza 12 (zI n) ?_ (hw := w1 2 false 11)))))))))
 refine zza 13 (zB (decide ((62 : Int) < n))) ?_ (hw := w1 2 false 11)
 refine zza 14 (zB (decide ((62 : Int) < n))) (zqB 15 (show (decide ((62 : Int) < n)) = false from decide_eq_false xq) (zza 16 (zI 2) ?_ (hw := w1 6 false 15)))
 refine zzg 17 238 _ (fun _ _ _ ac => Post.mono (k_mode (r := 2) ac xq xq) ?_) (hw := w1 6 false 15)
 rintro _ u14 g15 rfl
 refine zza 18 (zB false) ?_ (hw := w1 6 false 15)
 refine zza 19 (zB false) (zzb (zyr xj (zzr (zzo ?_))))
 refine zzd (sq9 (zza 20 (zI n) (zza 21 (zB (n == 0)) (zzb (zzt (b := n == 0) xj (fun aa => ?_) (fun aa => ?_))))))
 ·have qhb17 := aa
  simp at qhb17
  refine sq9 (zza 22 (zI v) (zza 6 (zI v) (zzb (zzn (zzv (ret0 [.int .i64 v] ⟨zzp, trivial⟩ fun u18 e19 => ?_))))))
  show Value.int _ _ = Value.int _ _
  unfold Nt.shiftW
  rw [if_pos qhb17]
 have qhb17 := aa
 simp at qhb17
 refine zzr (zzo ?_)
 refine sq9 (zza 23 (zI v) (zza 24 (zI n) (sy_shr 25 (k := .i64) (n := v) (s := n) (v / Nt.p2i n) xq yw rfl ?_)))
 refine zza 7 (zI (v / Nt.p2i n)) (zzb (sq9 (zza 26 (zI (v / Nt.p2i n)) (zza 27 (zI (v / Nt.p2i n)) (zza 28 (zI v) (zza 29 (zI n) (zyp 30 (x := zI (IntKind.i64.wrap (n - 1))) (zI (n - 1)) yq (sy_shr 31 (k := .i64) (n := v) (s := n - 1) (v / Nt.p2i (n - 1)) xq yw rfl ?_))))))))
 refine zyp 32 (x := zI (bits .and .i64 (v / Nt.p2i (n - 1)) 1)) (zI (v / Nt.p2i (n - 1) % 2)) (eqI (Nt.bits_1 _)) (zyp 33 (x := zI (IntKind.i64.wrap ((v / Nt.p2i n) + (v / Nt.p2i (n - 1) % 2)))) (zI ((v / Nt.p2i n) + (v / Nt.p2i (n - 1) % 2))) yq (zza 34 (zI (v / Nt.p2i n)) (zza 35 (.v (.agg #[.int .i64 (v / Nt.p2i n), .int .i64 ((v / Nt.p2i n) + (v / Nt.p2i (n - 1) % 2)), .int .i64 (v / Nt.p2i n)])) (zzj 8 ⟨200, [.int .i64 0, .int .i64 0, .int .i64 0]⟩ (zzi ⟨200, [.int .i64 (v / Nt.p2i n), .int .i64 ((v / Nt.p2i n) + (v / Nt.p2i (n - 1) % 2)), .int .i64 (v / Nt.p2i n)]⟩ ty200 ?_)))))
 refine zzb (zzd (sq9 (zza 36 (zI v) (zza 37 (zB (decide (v < 0))) ?_))))
 rcases Bool.eq_false_or_eq_true (decide (v < 0)) with hs20 | hs20
 ·refine zyp 38 (x := zB (decide (v < 0))) (zB true) (by rw [hs20]) ?_
  have qhs20 := of_decide_eq_true hs20
  refine zza 39 (zI v) ?_ (hw := w1 2 true 38)
  refine zza 40 (zI n) ?_ (hw := w1 2 true 38)
  refine sy_shl 41 (k := .i64) (s := n) (Nt.p2i n) xq yw (shl_one xq xq) ?_ (hw := w1 2 true 38)
  refine zyp 42 (x := zI (IntKind.i64.wrap ((Nt.p2i n) - 1))) (zI ((Nt.p2i n) - 1)) yq ?_ (hw := w1 2 true 38)
  refine zyp 43 (x := zI (bits .and .i64 v (Nt.p2i n - 1))) (zI (v % Nt.p2i n)) (eqI (Nt.bits_p2 xq xq)) ?_ (hw := w1 2 true 38)
  refine zza 44 (zB ((v % Nt.p2i n) != 0)) ?_ (hw := w1 2 true 38)
  refine zza 45 (zB ((v % Nt.p2i n) != 0)) (zzc 54 [(2, zI 2), (8, .adr 8 0), (45, zB ((v % Nt.p2i n) != 0))] [(8, ⟨200, [.int .i64 (v / Nt.p2i n), .int .i64 ((v / Nt.p2i n) + (v / Nt.p2i (n - 1) % 2)), .int .i64 (v / Nt.p2i n)]⟩)] (zzt (b := (v % Nt.p2i n) != 0) xj (fun ab => ?_) (fun ab => ?_)))
  ·have qhb21 := ab
   simp at qhb21
   refine zzf (zza 46 (.adr 8 2) (zzh 47 (zI (v / Nt.p2i n)) ty3 zzk (zyp 48 (x := zI (IntKind.i64.wrap ((v / Nt.p2i n) + 1))) (zI ((v / Nt.p2i n) + 1)) yq (zza 49 (.adr 8 2) (zzi ⟨200, [.int .i64 (v / Nt.p2i n), .int .i64 ((v / Nt.p2i n) + (v / Nt.p2i (n - 1) % 2)), .int .i64 ((v / Nt.p2i n) + 1)]⟩ ty3 ?_)))))
   refine zzb (sq9 (zza 50 (zI 2) (zza 51 (zI 1) (zza 52 (.adr 8 1) (zzh 53 (zI ((v / Nt.p2i n) + (v / Nt.p2i (n - 1) % 2))) ty3 zzk (zza 6 (zI ((v / Nt.p2i n) + (v / Nt.p2i (n - 1) % 2))) (zzb (zzn (ret0 [.int .i64 ((v / Nt.p2i n) + (v / Nt.p2i (n - 1) % 2))] ⟨zzp, trivial⟩ fun u22 e23 => ?_)))))))))
   show Value.int _ _ = Value.int _ _
   unfold Nt.shiftW
   rw [if_neg qhb17]
   rw [if_pos rfl]
  have qhb21 := ab
  simp at qhb21
  refine zzr (zzo ?_)
  refine sq9 (zza 50 (zI 2) (zza 51 (zI 1) (zza 52 (.adr 8 1) (zzh 53 (zI ((v / Nt.p2i n) + (v / Nt.p2i (n - 1) % 2))) ty3 zzk (zza 6 (zI ((v / Nt.p2i n) + (v / Nt.p2i (n - 1) % 2))) (zzb (zzn (ret0 [.int .i64 ((v / Nt.p2i n) + (v / Nt.p2i (n - 1) % 2))] ⟨zzp, trivial⟩ fun u24 e25 => ?_))))))))
  show Value.int _ _ = Value.int _ _
  unfold Nt.shiftW
  rw [if_neg qhb17]
  rw [if_pos rfl]
 refine zyp 38 (x := zB (decide (v < 0))) (zB false) (by rw [hs20]) ?_
 have qhs20 := of_decide_eq_false hs20
 refine zzm 39 (uw 2 true false 38) (zzm 40 (uw 2 true false 38) (zzm 41 (uw 2 true false 38) (zzm 42 (uw 2 true false 38) (zzm 43 (uw 2 true false 38) (zzm 44 (uw 2 true false 38) (zza 45 (zB false) (zzc 54 [(2, zI 2), (8, .adr 8 0), (45, zB false)] [(8, ⟨200, [.int .i64 (v / Nt.p2i n), .int .i64 ((v / Nt.p2i n) + (v / Nt.p2i (n - 1) % 2)), .int .i64 (v / Nt.p2i n)]⟩)] (zyr xj (zzr (zzo ?_))))))))))
 refine sq9 (zza 50 (zI 2) (zza 51 (zI 1) (zza 52 (.adr 8 1) (zzh 53 (zI ((v / Nt.p2i n) + (v / Nt.p2i (n - 1) % 2))) ty3 zzk (zza 6 (zI ((v / Nt.p2i n) + (v / Nt.p2i (n - 1) % 2))) (zzb (zzn (ret0 [.int .i64 ((v / Nt.p2i n) + (v / Nt.p2i (n - 1) % 2))] ⟨zzp, trivial⟩ fun u26 e27 => ?_))))))))
 show Value.int _ _ = Value.int _ _
 unfold Nt.shiftW
 rw [if_neg qhb17]
 rw [if_pos rfl]
theorem k_fxWrap {u w : World} {b v : Int} (d : Dat u w) (hb0 : 1 ≤ b) (hb1 : b ≤ 62) : Calls Tryz.prog 190 #[.int .i64 b, .int .i64 v] w (Post u w fun y _ => y = .int .i64 (Nt.wrapW b v)) := by
 have hp1 := Nt.zxo b
 have hp2 : Nt.p2i b ≤ 4611686018427387904 := Nt.zwd (b := 62) xq
 have hp3 := Nt.zxo (b - 1)
 have hp4 : Nt.p2i (b - 1) ≤ Nt.p2i b := Nt.zwd xq
 have hm1 := Int.emod_nonneg v (show Nt.p2i b ≠ 0 by omega)
 have hm2 := Int.emod_lt_of_pos v hp1
 refine zzl (args := [.int .i64 b, .int .i64 v]) Tryz.func190 rfl Tryz.ntmps190 (rs := [.tmp 4]) Tryz.results190 (le_b rfl) (le_b rfl) d ?_
 refine sq9 (zza 4 (zI 0) (zzb (zzd (sq9 (zza 6 (zI b) (zza 7 (zB (decide (b < 1))) (zqB 8 (show (decide (b < 1)) = false from decide_eq_false xq) (zza 9 (zI b) ?_ (hw := w1 2 false 8)))))))))
 refine zza 10 (zB (decide ((62 : Int) < b))) ?_ (hw := w1 2 false 8)
 refine zza 11 (zB (decide ((62 : Int) < b))) (zzb (zzt (b := decide ((62 : Int) < b)) xj (fun hb => ?_) (fun hb => ?_)))
 ·exact absurd hb (by rw [show (decide ((62 : Int) < b)) = false from decide_eq_false xq]; decide)
 clear hb
 refine zzr (zzo ?_)
 refine sq9 (zza 12 (zI v) (zza 13 (zI b) (sy_shl 14 (k := .i64) (s := b) (Nt.p2i b) xq yw (Nt.shl_one9 xq xq) ?_)))
 refine zyp 15 (x := zI (IntKind.i64.wrap ((Nt.p2i b) - 1))) (zI ((Nt.p2i b) - 1)) yq (zyp 16 (x := zI (bits .and .i64 v (Nt.p2i b - 1))) (zI (v % Nt.p2i b)) (eqI (Nt.bits_p2 xq xq)) (zza 5 (zI (v % Nt.p2i b)) (zzb (zzd (sq9 (zza 17 (zI (v % Nt.p2i b)) (zza 18 (zI b) (zyp 19 (x := zI (IntKind.i64.wrap (b - 1))) (zI (b - 1)) yq (sy_shl 20 (k := .i64) (s := b - 1) (Nt.p2i (b - 1)) xq yw (Nt.shl_one9 xq xq) ?_)))))))))
 refine zza 21 (zB (decide ((Nt.p2i (b - 1)) ≤ (v % Nt.p2i b)))) (zzb (zzt (b := decide ((Nt.p2i (b - 1)) ≤ (v % Nt.p2i b))) xj (fun aa => ?_) (fun aa => ?_)))
 ·have qhb12 := of_decide_eq_true aa
  refine zzf (zza 22 (zI (v % Nt.p2i b)) (zza 23 (zI b) (sy_shl 24 (k := .i64) (s := b) (Nt.p2i b) xq yw (Nt.shl_one9 xq xq) ?_)))
  refine zyp 25 (x := zI (IntKind.i64.wrap ((v % Nt.p2i b) - (Nt.p2i b)))) (zI ((v % Nt.p2i b) - (Nt.p2i b))) yq (zza 5 (zI ((v % Nt.p2i b) - (Nt.p2i b))) (zzb (sq9 (zza 26 (zI ((v % Nt.p2i b) - (Nt.p2i b))) (zza 4 (zI ((v % Nt.p2i b) - (Nt.p2i b))) (zzb (zzn (ret0 [.int .i64 ((v % Nt.p2i b) - (Nt.p2i b))] ⟨zzp, trivial⟩ fun u13 e14 => ?_))))))))
  show Value.int _ _ = Value.int _ _
  unfold Nt.wrapW
  rw [if_pos xq]
 have qhb12 := of_decide_eq_false aa
 refine zzr (zzo ?_)
 refine sq9 (zza 26 (zI (v % Nt.p2i b)) (zza 4 (zI (v % Nt.p2i b)) (zzb (zzn (ret0 [.int .i64 (v % Nt.p2i b)] ⟨zzp, trivial⟩ fun u15 e16 => ?_)))))
 show Value.int _ _ = Value.int _ _
 unfold Nt.wrapW
 rw [if_neg xq]
theorem k_formed {u w : World} {t f cf sh n : Int} (d : Dat u w) : Calls Tryz.prog 132 #[.agg #[.int .i64 t, .int .i64 f, .int .i64 cf, .int .i64 sh], .int .i64 n] w (Post u w fun v _ => v = .bool (decide (Nt.shOK n [t, f, cf, sh]))) := by
 refine zzl (args := [.agg #[.int .i64 t, .int .i64 f, .int .i64 cf, .int .i64 sh], .int .i64 n]) Tryz.func132 rfl Tryz.ntmps132 (rs := [.tmp 4]) Tryz.results132 (le_b rfl) (le_b rfl) d ?_
 refine sq9 (zzj 2 ⟨90, [.int .i64 t, .int .i64 f, .int .i64 cf, .int .i64 sh]⟩ (zza 4 (zB false) (zzb (zzd (sq9 (zza 5 (.adr 2 0) (zzh 6 (zI t) ty3 zzk (zza 7 (zB (decide (t < 0))) ?_))))))))
 rcases Bool.eq_false_or_eq_true (decide (t < 0)) with hs11 | hs11
 ·refine zyp 8 (x := zB (decide (t < 0))) (zB true) (by rw [hs11]) ?_
  have qhs11 := of_decide_eq_true hs11
  refine zzm 9 (uw 3 false true 8) (zzm 10 (uw 3 false true 8) (zzm 11 (uw 3 false true 8) (zzm 12 (uw 3 false true 8) (zza 13 (zB true) (zza 14 (zB true) (zzm 15 (uw 9 false true 14) (zzm 16 (uw 9 false true 14) (zzm 17 (uw 9 false true 14) (zza 18 (zB true) (zza 19 (zB true) (zzm 20 (uw 14 false true 19) ?_)))))))))))
  refine zzm 21 (uw 14 false true 19) (zzm 22 (uw 14 false true 19) (zzm 23 (uw 14 false true 19) (zza 24 (zB true) (zzb (zyq xj (sq9 (zza 4 (zB false) (zzb (zzn (zzv (ret0 [.bool false] ⟨zzp, trivial⟩ fun u12 e13 => ?_)))))))))))
  show Value.bool _ = Value.bool _
  congr 1
  have h9hs11 := hs11
  simp at h9hs11
  rw [Bool.eq_iff_iff]
  simp [Nt.shOK]
  omega
 refine zyp 8 (x := zB (decide (t < 0))) (zB false) (by rw [hs11]) ?_
 have qhs11 := of_decide_eq_false hs11
 refine zza 9 (.adr 2 0) ?_ (hw := w1 3 false 8)
 refine zzh 10 (zI t) ty3 zzk ?_ (hw := w1 3 false 8)
 refine zza 11 (zI n) ?_ (hw := w1 3 false 8)
 refine zza 12 (zB (decide (n ≤ t))) ?_ (hw := w1 3 false 8)
 refine zza 13 (zB (decide (n ≤ t))) ?_
 rcases Bool.eq_false_or_eq_true (decide (n ≤ t)) with hs14 | hs14
 ·refine zyp 14 (x := zB (decide (n ≤ t))) (zB true) (by rw [hs14]) ?_
  have qhs14 := of_decide_eq_true hs14
  refine zzm 15 (uw 9 false true 14) (zzm 16 (uw 9 false true 14) (zzm 17 (uw 9 false true 14) (zza 18 (zB true) (zza 19 (zB true) (zzm 20 (uw 14 false true 19) (zzm 21 (uw 14 false true 19) (zzm 22 (uw 14 false true 19) (zzm 23 (uw 14 false true 19) (zza 24 (zB true) (zzb (zyq xj ?_)))))))))))
  refine sq9 (zza 4 (zB false) (zzb (zzn (zzv (ret0 [.bool false] ⟨zzp, trivial⟩ fun u15 e16 => ?_)))))
  show Value.bool _ = Value.bool _
  congr 1
  have h9hs11 := hs11
  simp at h9hs11
  have h9hs14 := hs14
  simp at h9hs14
  rw [Bool.eq_iff_iff]
  simp [Nt.shOK]
  omega
 refine zyp 14 (x := zB (decide (n ≤ t))) (zB false) (by rw [hs14]) ?_
 have qhs14 := of_decide_eq_false hs14
 refine zza 15 (.adr 2 1) ?_ (hw := w1 9 false 14)
 refine zzh 16 (zI f) ty3 zzk ?_ (hw := w1 9 false 14)
 refine zza 17 (zB (decide (f < 0))) ?_ (hw := w1 9 false 14)
 refine zza 18 (zB (decide (f < 0))) ?_
 rcases Bool.eq_false_or_eq_true (decide (f < 0)) with hs17 | hs17
 ·refine zyp 19 (x := zB (decide (f < 0))) (zB true) (by rw [hs17]) ?_
  have qhs17 := of_decide_eq_true hs17
  refine zzm 20 (uw 14 false true 19) (zzm 21 (uw 14 false true 19) (zzm 22 (uw 14 false true 19) (zzm 23 (uw 14 false true 19) (zza 24 (zB true) (zzb (zyq xj (sq9 (zza 4 (zB false) (zzb (zzn (zzv (ret0 [.bool false] ⟨zzp, trivial⟩ fun u18 e19 => ?_))))))))))))
  show Value.bool _ = Value.bool _
  congr 1
  have h9hs11 := hs11
  simp at h9hs11
  have h9hs14 := hs14
  simp at h9hs14
  have h9hs17 := hs17
  simp at h9hs17
  rw [Bool.eq_iff_iff]
  simp [Nt.shOK]
  omega
 refine zyp 19 (x := zB (decide (f < 0))) (zB false) (by rw [hs17]) ?_
 have qhs17 := of_decide_eq_false hs17
 refine zza 20 (.adr 2 1) ?_ (hw := w1 14 false 19)
 refine zzh 21 (zI f) ty3 zzk ?_ (hw := w1 14 false 19)
 refine zza 22 (zI n) ?_ (hw := w1 14 false 19)
 refine zza 23 (zB (decide (n ≤ f))) ?_ (hw := w1 14 false 19)
 refine zza 24 (zB (decide (n ≤ f))) (zzb (zzt (b := decide (n ≤ f)) xj (fun aa => ?_) (fun aa => ?_)))
 ·have qhb20 := of_decide_eq_true aa
  refine sq9 (zza 4 (zB false) (zzb (zzn (zzv (ret0 [.bool false] ⟨zzp, trivial⟩ fun u21 e22 => ?_)))))
  show Value.bool _ = Value.bool _
  congr 1
  have h9hs11 := hs11
  simp at h9hs11
  have h9hs14 := hs14
  simp at h9hs14
  have h9hs17 := hs17
  simp at h9hs17
  have h9hb20 := aa
  simp at h9hb20
  rw [Bool.eq_iff_iff]
  simp [Nt.shOK]
  omega
 have qhb20 := of_decide_eq_false aa
 refine zzr (zzo ?_)
 refine zzd (sq9 (zza 25 (.adr 2 3) (zzh 26 (zI sh) ty3 zzk (zza 27 (zB (decide (sh < (-2)))) ?_))))
 rcases Bool.eq_false_or_eq_true (decide (sh < (-2))) with hs23 | hs23
 ·refine zyp 28 (x := zB (decide (sh < (-2)))) (zB true) (by rw [hs23]) ?_
  have qhs23 := of_decide_eq_true hs23
  refine zzm 29 (uw 3 false true 28) (zzm 30 (uw 3 false true 28) (zzm 31 (uw 3 false true 28) (zza 32 (zB true) (zzb (zyq xj (sq9 (zza 4 (zB false) (zzc 56 [(4, zB false)] [] (zzn (zzv (ret0 [.bool false] ⟨zzp, trivial⟩ fun u24 e25 => ?_)))))))))))
  show Value.bool _ = Value.bool _
  congr 1
  have h9hs11 := hs11
  simp at h9hs11
  have h9hs14 := hs14
  simp at h9hs14
  have h9hs17 := hs17
  simp at h9hs17
  have h9hb20 := aa
  simp at h9hb20
  have h9hs23 := hs23
  simp at h9hs23
  rw [Bool.eq_iff_iff]
  simp [Nt.shOK]
  omega
 refine zyp 28 (x := zB (decide (sh < (-2)))) (zB false) (by rw [hs23]) ?_
 have qhs23 := of_decide_eq_false hs23
 refine zza 29 (.adr 2 3) ?_ (hw := w1 3 false 28)
 refine zzh 30 (zI sh) ty3 zzk ?_ (hw := w1 3 false 28)
 refine zza 31 (zB (decide ((20 : Int) < sh))) ?_ (hw := w1 3 false 28)
 refine zza 32 (zB (decide ((20 : Int) < sh))) (zzb (zzt (b := decide ((20 : Int) < sh)) xj (fun ab => ?_) (fun ab => ?_)))
 ·have qhb26 := of_decide_eq_true ab
  refine sq9 (zza 4 (zB false) (zzc 56 [(4, zB false)] [] (zzn (zzv (ret0 [.bool false] ⟨zzp, trivial⟩ fun u27 e28 => ?_)))))
  show Value.bool _ = Value.bool _
  congr 1
  have h9hs11 := hs11
  simp at h9hs11
  have h9hs14 := hs14
  simp at h9hs14
  have h9hs17 := hs17
  simp at h9hs17
  have h9hb20 := aa
  simp at h9hb20
  have h9hs23 := hs23
  simp at h9hs23
  have h9hb26 := ab
  simp at h9hb26
  rw [Bool.eq_iff_iff]
  simp [Nt.shOK]
  omega
 have qhb26 := of_decide_eq_false ab
 refine zzr (zzo ?_)
 refine zzd (sq9 (zza 33 (.adr 2 0) (zzh 34 (zI t) ty3 zzk (zza 35 (.adr 2 1) (zzh 36 (zI f) ty3 zzk (zza 37 (zB (t == f)) (zza 38 (.adr 2 3) (zzh 39 (zI sh) ty3 zzk (zza 40 (zB (sh == (-2))) (zza 41 (zB (!((t == f) == (sh == (-2))))) (zzc 56 [(2, .adr 2 0), (41, zB (!((t == f) == (sh == (-2)))))] [(2, ⟨90, [.int .i64 t, .int .i64 f, .int .i64 cf, .int .i64 sh]⟩)] ?_)))))))))))
 refine zzt (b := !((t == f) == (sh == (-2)))) xj (fun ad => ?_) (fun ad => ?_)
 ·refine sq9 (zza 4 (zB false) (zzb (zzn (zzv (ret0 [.bool false] ⟨zzp, trivial⟩ fun u30 e31 => ?_)))))
  show Value.bool _ = Value.bool _
  congr 1
  have h9hs11 := hs11
  simp at h9hs11
  have h9hs14 := hs14
  simp at h9hs14
  have h9hs17 := hs17
  simp at h9hs17
  have h9hb20 := aa
  simp at h9hb20
  have h9hs23 := hs23
  simp at h9hs23
  have h9hb26 := ab
  simp at h9hb26
  have h9hb29 := ad
  rw [Nt.ne_pair] at h9hb29
  replace h9hb29 := of_decide_eq_true h9hb29
  rw [Bool.eq_iff_iff]
  simp [Nt.shOK]
  omega
 refine zzr (zzo ?_)
 refine zzd (sq9 (zza 42 (.adr 2 3) (zzh 43 (zI sh) ty3 zzk (zza 44 (zB (decide (sh < 0))) (zzb (zzt (b := decide (sh < 0)) xj (fun ac => ?_) (fun ac => ?_)))))))
 ·have qhb32 := of_decide_eq_true ac
  refine sq9 (zza 45 (.adr 2 2) (zzh 46 (zI cf) ty3 zzk (zza 47 (zB (cf == 0)) (zza 4 (zB (cf == 0)) (zzb (zzn (zzv (ret0 [.bool (cf == 0)] ⟨zzp, trivial⟩ fun u33 e34 => ?_))))))))
  show Value.bool _ = Value.bool _
  congr 1
  have h9hs11 := hs11
  simp at h9hs11
  have h9hs14 := hs14
  simp at h9hs14
  have h9hs17 := hs17
  simp at h9hs17
  have h9hb20 := aa
  simp at h9hb20
  have h9hs23 := hs23
  simp at h9hs23
  have h9hb26 := ab
  simp at h9hb26
  have h9hb29 := ad
  rw [Nt.ne_pair] at h9hb29
  replace h9hb29 := of_decide_eq_false h9hb29
  have h9hb32 := ac
  simp at h9hb32
  rw [Bool.eq_iff_iff]
  simp [Nt.shOK]
  omega
 have qhb32 := of_decide_eq_false ac
 refine zzr (zzo ?_)
 refine sq9 (zza 48 (.adr 2 2) (zzh 49 (zI cf) ty3 zzk (zza 50 (zB (decide (((-2097152) : Int) ≤ cf))) ?_)))
 rcases Bool.eq_false_or_eq_true (decide (((-2097152) : Int) ≤ cf)) with hs35 | hs35
 ·refine zyp 51 (x := zB (decide (((-2097152) : Int) ≤ cf))) (zB true) (by rw [hs35]) ?_
  have qhs35 := of_decide_eq_true hs35
  refine zza 52 (.adr 2 2) ?_ (hw := w1 3 true 51)
  refine zzh 53 (zI cf) ty3 zzk ?_ (hw := w1 3 true 51)
  refine zza 54 (zB (decide (cf ≤ 2097152))) ?_ (hw := w1 3 true 51)
  refine zza 55 (zB (decide (cf ≤ 2097152))) (zza 4 (zB (decide (cf ≤ 2097152))) (zzb (zzn (ret0 [.bool (decide (cf ≤ 2097152))] ⟨zzp, trivial⟩ fun u36 e37 => ?_))))
  show Value.bool _ = Value.bool _
  congr 1
  have h9hs11 := hs11
  simp at h9hs11
  have h9hs14 := hs14
  simp at h9hs14
  have h9hs17 := hs17
  simp at h9hs17
  have h9hb20 := aa
  simp at h9hb20
  have h9hs23 := hs23
  simp at h9hs23
  have h9hb26 := ab
  simp at h9hb26
  have h9hb29 := ad
  rw [Nt.ne_pair] at h9hb29
  replace h9hb29 := of_decide_eq_false h9hb29
  have h9hb32 := ac
  simp at h9hb32
  have h9hs35 := hs35
  simp at h9hs35
  rw [Bool.eq_iff_iff]
  simp [Nt.shOK]
  omega
 refine zyp 51 (x := zB (decide (((-2097152) : Int) ≤ cf))) (zB false) (by rw [hs35]) ?_
 have qhs35 := of_decide_eq_false hs35
 refine zzm 52 (uw 3 true false 51) (zzm 53 (uw 3 true false 51) (zzm 54 (uw 3 true false 51) (zza 55 (zB false) (zza 4 (zB false) (zzb (zzn (ret0 [.bool false] ⟨zzp, trivial⟩ fun u38 e39 => ?_)))))))
 show Value.bool _ = Value.bool _
 congr 1
 have h9hs11 := hs11
 simp at h9hs11
 have h9hs14 := hs14
 simp at h9hs14
 have h9hs17 := hs17
 simp at h9hs17
 have h9hb20 := aa
 simp at h9hb20
 have h9hs23 := hs23
 simp at h9hs23
 have h9hb26 := ab
 simp at h9hb26
 have h9hb29 := ad
 rw [Nt.ne_pair] at h9hb29
 replace h9hb29 := of_decide_eq_false h9hb29
 have h9hb32 := ac
 simp at h9hb32
 have h9hs35 := hs35
 simp at h9hs35
 rw [Bool.eq_iff_iff]
 simp [Nt.shOK]
 omega
set_option maxHeartbeats 1000000 in
theorem k_dvalid {u w : World} {x : Sl} {S : List (List Int)} {n : Int} (d : Dat u w) (hx : IrV 4 u x S) (h9 : S.length ≤ 1000000) : Calls Tryz.prog 64 #[x.v, .int .i64 n] w (Post u w fun v _ => v = .bool (decide (Nt.shV n S))) := by
 have hlx : x.n = S.length := hx.len
 refine zzl (args := [x.v, .int .i64 n]) Tryz.func64 rfl Tryz.ntmps64 (rs := [.tmp 4]) Tryz.results64 (le_b rfl) (le_b rfl) d ?_
 refine sq9 (zza 4 (zB false) (zzb (zzd (sq9 (zza 7 (zI n) (zza 8 (zB (decide (n < 1))) ?_))))))
 rcases Bool.eq_false_or_eq_true (decide (n < 1)) with hs11 | hs11
 ·refine zyp 9 (x := zB (decide (n < 1))) (zB true) (by rw [hs11]) ?_
  have qhs11 := of_decide_eq_true hs11
  refine zzm 10 (uw 2 false true 9) (zzm 11 (uw 2 false true 9) (zza 12 (zB true) (zza 13 (zB true) (zzm 14 (uw 6 false true 13) (zzm 15 (uw 6 false true 13) (zzm 16 (uw 6 false true 13) (zza 17 (zB true) (zzb (zyq xj (sq9 (zza 4 (zB false) ?_)))))))))))
  refine zzb (zzn (zzv (ret0 [.bool false] ⟨zzp, trivial⟩ fun u12 e13 => ?_)))
  show Value.bool _ = Value.bool _
  congr 1
  symm
  have h9hs11 := hs11
  simp at h9hs11
  exact decide_eq_false (fun h9 => by have k1 := h9.1; have k2 := h9.2.1; have k3 := h9.2.2.1; omega)
 refine zyp 9 (x := zB (decide (n < 1))) (zB false) (by rw [hs11]) ?_
 have qhs11 := of_decide_eq_false hs11
 refine zza 10 (zI n) ?_ (hw := w1 2 false 9)
 refine zza 11 (zB (decide ((64 : Int) < n))) ?_ (hw := w1 2 false 9)
 refine zza 12 (zB (decide ((64 : Int) < n))) ?_
 rcases Bool.eq_false_or_eq_true (decide ((64 : Int) < n)) with hs14 | hs14
 ·refine zyp 13 (x := zB (decide ((64 : Int) < n))) (zB true) (by rw [hs14]) ?_
  have qhs14 := of_decide_eq_true hs14
  refine zzm 14 (uw 6 false true 13) (zzm 15 (uw 6 false true 13) (zzm 16 (uw 6 false true 13) (zza 17 (zB true) (zzb (zyq xj (sq9 (zza 4 (zB false) (zzb (zzn (zzv (ret0 [.bool false] ⟨zzp, trivial⟩ fun u15 e16 => ?_)))))))))))
  show Value.bool _ = Value.bool _
  congr 1
  symm
  have h9hs11 := hs11
  simp at h9hs11
  have h9hs14 := hs14
  simp at h9hs14
  exact decide_eq_false (fun h9 => by have k1 := h9.1; have k2 := h9.2.1; have k3 := h9.2.2.1; omega)
 refine zyp 13 (x := zB (decide ((64 : Int) < n))) (zB false) (by rw [hs14]) ?_
 have qhs14 := of_decide_eq_false hs14
 refine zza 14 (.v (x.v)) ?_ (hw := w1 6 false 13)
 refine zza 15 (zI x.n) ?_ (hw := w1 6 false 13)
 refine zza 16 (zB (decide ((64 : Int) < (x.n : Int)))) ?_ (hw := w1 6 false 13)
 refine zza 17 (zB (decide ((64 : Int) < (x.n : Int)))) (zzb (zzt (b := decide ((64 : Int) < (x.n : Int))) xj (fun aa => ?_) (fun aa => ?_)))
 ·have qhb17 := of_decide_eq_true aa
  refine sq9 (zza 4 (zB false) (zzb (zzn (zzv (ret0 [.bool false] ⟨zzp, trivial⟩ fun u18 e19 => ?_)))))
  show Value.bool _ = Value.bool _
  congr 1
  symm
  have h9hs11 := hs11
  simp at h9hs11
  have h9hs14 := hs14
  simp at h9hs14
  have h9hb17 := aa
  simp at h9hb17
  exact decide_eq_false (fun h9 => by have k1 := h9.1; have k2 := h9.2.1; have k3 := h9.2.2.1; omega)
 have qhb17 := of_decide_eq_false aa
 refine zzr (zzo ?_)
 refine zzd (sq9 (zza 18 (.v (x.v)) (zza 19 (zI x.n) (zza 20 (zI 0) (zzb (zzs (zym (I := fun ah S' u' => ∃ (i : Nat), (ah = S.length - i) ∧ (i ≤ S.length) ∧ (∀ j, j < i → Nt.shOK n (S.getD j [])) ∧ (S' = St.of 29 [(1, zI n), (18, .v (x.v)), (19, zI x.n), (20, zI i)] []) ∧ (Ext u u')) (fun m S u1 u2 e h => by obtain ⟨i, hm, p0, p1, hS, hE⟩ := h; exact ⟨i, hm, p0, p1, hS, hE.trans e⟩) _ yz ⟨0, rfl, by omega, (fun j hj => absurd hj xq), rfl, (Ext.refl _)⟩ ?_)))))))
 rintro ah _ u20 ⟨i, am, hi, hA, rfl, af⟩
 refine sq9 (zza 21 (zB (decide ((i : Int) < (x.n : Int)))) (zzb (zzd (zzt (b := decide ((i : Int) < (x.n : Int))) xj (fun ac => ?_) (fun ac => ?_)))))
 ·have qhb21 := of_decide_eq_true ac
  refine zzr (zzo ?_)
  refine zzd (zzs (sq9 ?_))
  have hl22 := ((hx.ext af)).len
  obtain ⟨b22, ai, ae, ag⟩ := ir_at4 (hx.ext af) (i := i) xq
  refine zzz 22 (ai + i * 4) (n := x.n) (off := ai) (sz := 4) (i := (i : Int)) xq ae xq xq sl64 (zyl 23 [.int .i64 (gi S i 0), .int .i64 (gi S i 1), .int .i64 (gi S i 2), .int .i64 (gi S i 3)] ag ty90 (zzj 6 ⟨90, [.int .i64 0, .int .i64 0, .int .i64 0, .int .i64 0]⟩ (zzi ⟨90, [.int .i64 (gi S i 0), .int .i64 (gi S i 1), .int .i64 (gi S i 2), .int .i64 (gi S i 3)]⟩ ty90 ?_)))
  refine zzb (sq9 (zzh 24 (.v (.agg #[.int .i64 (gi S i 0), .int .i64 (gi S i 1), .int .i64 (gi S i 2), .int .i64 (gi S i 3)])) ty90 zze (zza 25 (zI n) (zzg 26 132 _ fun _ _ aj ak => Post.mono (k_formed (t := gi S i 0) (f := gi S i 1) (cf := gi S i 2) (sh := gi S i 3) (n := n) ak) ?_))))
  rintro _ u24 al rfl
  refine zza 27 (zB (!(decide (Nt.shOK n [gi S i 0, gi S i 1, gi S i 2, gi S i 3])))) (zzb (zzt (b := !(decide (Nt.shOK n [gi S i 0, gi S i 1, gi S i 2, gi S i 3]))) xj (fun ab => ?_) (fun ab => ?_)))
  ·refine sq9 (zza 4 (zB false) (zzb (zzn (zyt (zzv (zys (zyt (zzv (ret0 [.bool false] ⟨zzp, trivial⟩ fun u28 e29 => ?_)))))))))
   show Value.bool _ = Value.bool _
   congr 1
   symm
   exact decide_eq_false (fun h9 => by have h8 := ab; have h7 := h9.2.2.2 i xq; rw [row4 hx.rows xq] at h7; simp [h7] at h8)
  have ad : Nt.shOK n (S.getD i []) := by rw [row4 hx.rows xq]; have h9 := ab; simpa using h9
  refine zzr (zzo ?_)
  refine zzf (zyp 28 (x := zI (IntKind.i64.wrap ((i : Int) + 1))) (zI (i + 1 : Nat)) (eqI xk) (zza 20 (zI (i + 1 : Nat)) (zzw ?_)))
  refine ⟨_, ?_, _, by exact zzu _ _ _, i + 1, rfl, by omega, (fun j hj => by rcases Nat.lt_or_ge j i with h9 | h9; exact hA j h9; (obtain rfl : j = i := by omega); exact ad), rfl, (af.trans (aj.trans al.ext))⟩
  omega
 have qhb21 := of_decide_eq_false ac
 refine zyb (zzo (sq9 (zza 4 (zB true) (zzb (zzn (ret0 [.bool true] ⟨zzp, trivial⟩ fun u30 e31 => ?_))))))
 show Value.bool _ = Value.bool _
 congr 1
 symm
 exact decide_eq_true ⟨by omega, by omega, by omega, fun j hj => hA j xq⟩
set_option maxHeartbeats 1000000 in
theorem k_dcheck {u w : World} {x y : Sl} {S : List (List Int)} {l : List Int} (d : Dat u w) (hx : IrV 4 u x S) (h9 : S.length ≤ 1000000) (hy : SlR .i64 u y.a y.n y.c l) (hb : ∀ z ∈ l, -9223372036854775808 ≤ z ∧ z ≤ 9223372036854775807) (h8 : l.length ≤ 1000000) : Calls Tryz.prog 114 #[x.v, y.v] w (Post u w fun v _ => v = .int .i64 (Nt.chkE S l)) := by
 have hlx : x.n = S.length := hx.len
 have hly : l.length = y.n := hy.1
 refine zzl (args := [x.v, y.v]) Tryz.func114 rfl Tryz.ntmps114 (rs := [.tmp 4]) Tryz.results114 (le_b rfl) (le_b rfl) d ?_
 refine sq9 (zza 4 (zI 0) (zzb (zzd (sq9 (zza 7 (.v (x.v)) (zza 8 (.v (y.v)) (zza 9 (zI y.n) (zzg 10 64 _ fun _ _ ag al => Post.mono (k_dvalid (x := x) (n := (y.n : Int)) al (hx.ext ag) xq) ?_))))))))
 rintro _ am ai rfl
 refine zza 11 (zB (!(decide (Nt.shV (y.n : Int) S)))) (zzb (zzt (b := !(decide (Nt.shV (y.n : Int) S))) xj (fun aa => ?_) (fun aa => ?_)))
 ·refine sq9 (zza 4 (zI 2) (zzb (zzn (zzv (ret0 [.int .i64 2] ⟨zzp, trivial⟩ fun u16 e17 => ?_)))))
  show Value.int _ _ = Value.int _ _
  congr 1
  symm
  refine Nt.chk_bad (fun h9 => ?_)
  have h8 := aa
  rw [show ((l.length : Nat) : Int) = (y.n : Int) by omega] at h9
  simp [h9] at h8
 refine zzr (zzo ?_)
 refine zzd (sq9 (zza 12 (.v (y.v)) (zza 13 (zI y.n) (zza 14 (zI 0) (zzb (zzs (zym (I := fun ah S' u' => ∃ (i : Nat), (ah = l.length - i) ∧ (i ≤ l.length) ∧ (∀ j, j < i → -2147483648 ≤ l.getD j 0 ∧ l.getD j 0 ≤ 2147483647) ∧ (S' = St.of 23 [(12, .v (y.v)), (13, zI y.n), (14, zI i)] []) ∧ (Ext am u')) (fun m S u1 u2 e h => by obtain ⟨i, hm, p0, p1, hS, hE⟩ := h; exact ⟨i, hm, p0, p1, hS, hE.trans e⟩) _ yz ⟨0, rfl, by omega, (fun j hj => absurd hj xq), rfl, (Ext.refl _)⟩ ?_)))))))
 rintro ah _ u18 ⟨i, an, hi, hA, rfl, ad⟩
 refine sq9 (zza 15 (zB (decide ((i : Int) < (y.n : Int)))) (zzb (zzd (zzt (b := decide ((i : Int) < (y.n : Int))) xj (fun ac => ?_) (fun ac => ?_)))))
 ·have qhb19 := of_decide_eq_true ac
  refine zzr (zzo ?_)
  refine zzd (zzs (sq9 ?_))
  have hl20 := ((hy.ext (ag.trans (ai.ext.trans ad)))).1
  obtain ⟨b20, aj, ae, af⟩ := ints_at (hy.ext (ag.trans (ai.ext.trans ad))) (i := i) xq
  have hz20 := ints_bd hb xq i
  refine zzz 16 (aj + i * 1) (n := y.n) (off := aj) (sz := 1) (i := (i : Int)) xq ae xq xq sl30 (zyk 17 (.int .i64 (l.getD i 0)) af ty3 (zza 6 (zI (l.getD i 0)) (zzb (sq9 (zza 18 (zI (l.getD i 0)) (zza 19 (zI (l.getD i 0)) (zzg 20 190 _ fun _ _ ap ak => Post.mono (k_fxWrap (b := 32) (v := (l.getD i 0)) ak xq xq) ?_)))))))
  rintro _ u22 ao rfl
  refine zza 21 (zB ((l.getD i 0) != (Nt.wrapW 32 (l.getD i 0)))) (zzb (zzt (b := (l.getD i 0) != (Nt.wrapW 32 (l.getD i 0))) xj (fun ab => ?_) (fun ab => ?_)))
  ·refine sq9 (zza 4 (zI 17) (zzb (zzn (zyt (zzv (zys (zyt (zzv (ret0 [.int .i64 17] ⟨zzp, trivial⟩ fun u26 e27 => ?_)))))))))
   show Value.int _ _ = Value.int _ _
   congr 1
   symm
   have hV : Nt.shV (l.length : Int) S := by have h8 := aa; simp at h8; rw [show ((l.length : Nat) : Int) = (y.n : Int) by omega]; exact h8
   refine Nt.chk_not hV (fun h9 => ?_)
   have h8 := ab
   rw [Nt.wrap_ne] at h8
   have h7 := h9 i xq
   rw [decide_eq_true h7] at h8
   exact absurd h8 xw
  refine zzr (zzo ?_)
  refine zzf (zyp 22 (x := zI (IntKind.i64.wrap ((i : Int) + 1))) (zI (i + 1 : Nat)) (eqI xk) (zza 14 (zI (i + 1 : Nat)) (zzw ?_)))
  refine ⟨_, ?_, _, by exact zzu _ _ _, i + 1, rfl, by omega, (fun j hj => by rcases Nat.lt_or_ge j i with h9 | h9; exact hA j h9; (obtain rfl : j = i := by omega); have h8 := ab; rw [Nt.wrap_ne] at h8; exact of_decide_eq_true (Nt.bnot_f h8)), rfl, (ad.trans (ap.trans ao.ext))⟩
  omega
 have qhb19 := of_decide_eq_false ac
 refine zyb (zzo (sq9 (zza 4 (zI 0) (zzb (zzn (ret0 [.int .i64 0] ⟨zzp, trivial⟩ fun u28 e29 => ?_))))))
 show Value.int _ _ = Value.int _ _
 congr 1
 symm
 have hV : Nt.shV (l.length : Int) S := by have h8 := aa; simp at h8; rw [show ((l.length : Nat) : Int) = (y.n : Int) by omega]; exact h8
 exact Nt.chk_ok hV (fun j hj => hA j xq)
set_option maxHeartbeats 1000000 in
theorem k_cloneI {u w : World} {x : Sl} {l : List Int} (d : Dat u w) (hx : SlR .i64 u x.a x.n x.c l) (h0 : 0 < l.length) (h9 : l.length ≤ 1000000000) : Calls Tryz.prog 115 #[x.v] w (Post u w fun v u' => ∃ (b c : Nat) (X : List Value), v = .slice (some ⟨b, 0, none⟩) x.n c ∧ u.heap.size ≤ b ∧ u'.heap[b]? = some (.cells (ics l ++ X).toArray 3 (0, 0)) ∧ (ics l ++ X).length = c ∧ x.n ≤ c ∧ c ≤ maxLen) := by
 obtain ⟨xa, n0, c0⟩ := x
 obtain ⟨hn, h2, h3, h4⟩ := hx
 change l.length = n0 at hn
 obtain ⟨b0, o0, e, hb0, hc⟩ := h4 (by show 0 < n0; omega)
 change xa = _ at e
 subst e
 change ∀ i, i < n0 → _ at hc
 change Calls _ _ #[.slice (some ⟨b0, o0, none⟩) n0 c0] _ _
 refine zzl (args := [.slice (some ⟨b0, o0, none⟩) n0 c0]) Tryz.func115 rfl Tryz.ntmps115 (rs := [.tmp 2]) Tryz.results115 (le_b rfl) (le_b rfl) d ?_
 refine sq9 (zza 2 (.v (.slice none 0 0)) (zzb (zzd (sq9 (zza 3 (.v (.slice (some ⟨b0, o0, none⟩) n0 c0)) (zza 4 (zB false) (zzb (zyr xj (zzr (zzo ?_))))))))))
 refine sq9 (sy_lit 5 ⟨3, []⟩ 0 ?_)
 refine zza 6 (.v (.slice (some ⟨b0, o0, none⟩) n0 c0)) (sy_app1 7 (T := 30) (E := 3) (z := .int .i64 0) (size := 1) (bytes := 8) (b := b0) (off := o0) (m := n0) (c := c0) (n := 0) (cap := 0) (t := 5) (cs0 := []) [5, 7] (ics l) xj xj xj xw (by rw [zwi, hn, Nat.mul_one]) (fun j v hv => by have h9 := (List.getElem?_eq_some_iff.1 hv).1; rw [zwi] at h9; rw [hc j xq, ← hv, ics_at h9, List.getD_eq_getElem?_getD]) ics_one xq yv xq xq xw rfl xz ?_)
 intro c1 cs k1 k2 k3 k4
 refine zza 2 (.slc 7 0 (0 + n0) c1) (zzc 8 [(2, .slc 7 0 (0 + n0) c1)] [(7, ⟨3, cs⟩)] (zyo (r := 2) (t := 7) [2, 7] xz xj (by rfl) (by rfl) xj (fun b u2 e2 hb hh => ?_)))
 refine zzn (ret0 [.slice (some ⟨b, 0, none⟩) (0 + n0) c1] ⟨zzp, trivial⟩ fun u11 aa => ?_)
 rw [Nat.zero_add, Nat.mul_one] at k4
 rw [Nat.zero_add] at k1
 rw [Nat.mul_one] at k3
 change cs.take n0 = ics l at k4
 have e9 : cs = ics l ++ cs.drop n0 := by rw [← k4]; exact (List.take_append_drop n0 cs).symm
 refine ⟨b, c1, cs.drop n0, ?_, hb, ?_, by rw [← e9]; exact k3, k1, k2⟩
 ·show Value.slice _ (0 + n0) _ = _; rw [Nat.zero_add]
 rw [← e9]; exact aa.cells hh
set_option maxHeartbeats 2000000 in
theorem k_perform {u w : World} {g n c : Nat} {l : List Int} {X : List Value} {t f : Nat} {cf sh sg : Int} (d : Dat u w) (hg : w.heap[g]? = some (.cells (ics l ++ X).toArray 3 (0, 0))) (hu : u.heap[g]? = some hidO) (hl : l.length = n) (hW : Nt.W32 l) (hn9 : n ≤ 1000) (hs : Nt.shOK (n : Int) [(t : Int), (f : Int), cf, sh]) (hsg : sg = 1 ∨ sg = -1) : Calls Tryz.prog 116 #[.slice (some ⟨g, 0, none⟩) n c, .agg #[.int .i64 (t : Int), .int .i64 (f : Int), .int .i64 cf, .int .i64 sh], .int .i64 sg] w (PostL u w g fun V u' => V = ⟨3, ics (Nt.shF [(t : Int), (f : Int), cf, sh] sg l) ++ X⟩) := by
 obtain ⟨h1, h2, h3, h4, h5, h6, h7, h8⟩ := Nt.shOK_mk hs
 have hlt := hW.get t
 have hlf := hW.get f
 have hm := Nt.sh_mul (a := cf) (b := l.getD f 0) (A := 2097152) (B := 2147483648) ⟨h5, h6⟩ ⟨by omega, by omega⟩ xw
 have hsb := Nt.shift_bd2 (cf * l.getD f 0) sh
 have hsx := Nt.sg_bd (x := Nt.shiftW (cf * l.getD f 0) sh 2) (B := 4503599627370497) hsg ⟨by omega, by omega⟩
 refine calls_lent (args := [.agg #[.int .i64 (t : Int), .int .i64 (f : Int), .int .i64 cf, .int .i64 sh], .int .i64 sg]) Tryz.func116 rfl Tryz.ntmps116 Tryz.results116 (le_b rfl) d hg hu ?_
 refine sq9 (zzj 4 ⟨90, [.int .i64 t, .int .i64 f, .int .i64 cf, .int .i64 sh]⟩ (zzb (sq9 (zza 7 (.adr 4 3) (zzh 8 (zI sh) ty3 zzk (zzb (zzs (sq9 (zza 35 (zB (sh == (-1))) (zza 34 (zB (sh == (-1))) (zzb ?_)))))))))))
 refine zzt (b := sh == (-1)) xj (fun ac => ?_) (fun ac => ?_)
 ·have ab : sh = (-1) := by simpa using ac
  refine zzy [0, 0, 2, 0, 0, 16, 0, 0, 128, 448, 960, 0, 0, 4096, 14336, 30720, 65479, 131015, 262143, 524287] [(0, []), (1, []), (2, []), (3, []), (4, []), (5, []), (6, []), (7, []), (8, []), (9, []), (10, []), (11, []), (12, []), (13, []), (14, []), (15, []), (16, []), (17, [40]), (18, []), (19, [])] xj xj (zza 36 (.slc 67 0 n c) (zza 37 (.adr 4 0) (zzh 38 (zI t) ty3 zzk (zza 39 (.slc 67 0 n c) (zza 40 (.adr 4 1) (zzh 41 (zI f) ty3 zzk (zza 42 (.slc 67 0 n c) (zza 43 (.adr 4 1) (zzh 44 (zI f) ty3 zzk (zyv 45 (off' := f * 1) (n := n) (off := 0) (sz := 1) (i := (f : Int)) sl30 xq xq xq ?_))))))))))
  refine zzh 46 (V := ⟨3, ics l ++ X⟩) (off := f * 1) (zI (l.getD f 0)) ty3 (part_intsX (l := l) (i := f) zj rfl) (zza 47 (.slc 67 0 n c) (zza 48 (.adr 4 0) (zzh 49 (zI t) ty3 zzk (zyv 50 (off' := t * 1) (n := n) (off := 0) (sz := 1) (i := (t : Int)) sl30 xq xq xq ?_))))
  refine zzh 51 (V := ⟨3, ics l ++ X⟩) (off := t * 1) (zI (l.getD t 0)) ty3 (part_intsX (l := l) (i := t) zj rfl) (zyv 52 (off' := t * 1) (n := n) (off := 0) (sz := 1) (i := (t : Int)) sl30 xq xq xq ?_)
  refine zyu (V := ⟨3, ics l ++ X⟩) (off := t * 1) (ics (l.set t (l.getD f 0)) ++ X) ty3 (by rw [List.length_append, zwi, hl]; omega) (setL_intsX (z := (l.getD f 0)) (i := t) zj rfl) ?_
  refine zyv 53 (off' := f * 1) (n := n) (off := 0) (sz := 1) (i := (f : Int)) sl30 xq xq xq ?_
  refine zyu (V := ⟨3, ics (l.set t (l.getD f 0)) ++ X⟩) (off := f * 1) (ics ((l.set t (l.getD f 0)).set f (l.getD t 0)) ++ X) ty3 (by rw [List.length_append, zwi, (List.length_set.trans hl)]; omega) (setL_intsX (z := (l.getD t 0)) (i := f) (by rw [(List.length_set.trans hl)]; omega) rfl) ?_
  refine zzw ?_
  refine lent_end (V := ⟨3, ics ((l.set t (l.getD f 0)).set f (l.getD t 0)) ++ X⟩) rfl rfl (fun _ _ => ?_)
  rw [(Nt.shF_x ab)]
 have ab : ¬ sh = (-1) := by simpa using ac
 refine sq9 (zza 55 (zB (sh == (-2))) (zza 54 (zB (sh == (-2))) (zzb (zzt (b := sh == (-2)) xj (fun ad => ?_) (fun ad => ?_)))))
 ·have aa : sh = (-2) := by simpa using ad
  refine zzy [0, 0, 2, 0, 0, 16, 56, 120, 248, 504, 1023, 2047] [(0, []), (1, []), (2, []), (3, []), (4, []), (5, []), (6, []), (7, []), (8, []), (9, []), (10, []), (11, [])] xj xj (zza 56 (.slc 67 0 n c) (zza 57 (.adr 4 0) (zzh 58 (zI t) ty3 zzk (zza 59 (.slc 67 0 n c) (zza 60 (.adr 4 0) (zzh 61 (zI t) ty3 zzk (zyv 62 (off' := t * 1) (n := n) (off := 0) (sz := 1) (i := (t : Int)) sl30 xq xq xq ?_)))))))
  refine zzh 63 (V := ⟨3, ics l ++ X⟩) (off := t * 1) (zI (l.getD t 0)) ty3 (part_intsX (l := l) (i := t) zj rfl) (zyp 64 (x := zI (IntKind.i64.wrap (0 - (l.getD t 0)))) (zI (-(l.getD t 0))) (eqI xk) (zzg 65 190 _ fun _ _ _ ag => Post.mono (k_fxWrap (b := 32) (v := -(l.getD t 0)) ag xq xq) ?_))
  rintro _ u14 g15 rfl
  refine zyv 66 (off' := t * 1) (n := n) (off := 0) (sz := 1) (i := (t : Int)) sl30 xq xq xq ?_
  refine zyu (V := ⟨3, ics l ++ X⟩) (off := t * 1) (ics (l.set t (Nt.wrapW 32 (-(l.getD t 0)))) ++ X) ty3 (by rw [List.length_append, zwi, hl]; omega) (setL_intsX (z := Nt.wrapW 32 (-(l.getD t 0))) (i := t) zj rfl) ?_
  refine zzw ?_
  refine lent_end (V := ⟨3, ics (l.set t (Nt.wrapW 32 (-(l.getD t 0)))) ++ X⟩) rfl rfl (fun _ _ => ?_)
  rw [(Nt.shF_n aa)]
 have aa : ¬ sh = (-2) := by simpa using ad
 refine zzd (zzy [0, 1, 0, 0, 8, 28, 60, 127, 0, 256, 1023, 2047] [(0, []), (1, []), (2, []), (3, []), (4, []), (5, []), (6, []), (7, []), (8, []), (9, []), (10, []), (11, [])] xj xj (zza 9 (.adr 4 2) (zzh 10 (zI cf) ty3 zzk (zza 11 (.slc 67 0 n c) (zza 12 (.adr 4 1) (zzh 13 (zI f) ty3 zzk (zyv 14 (off' := f * 1) (n := n) (off := 0) (sz := 1) (i := (f : Int)) sl30 xq xq xq ?_)))))))
 refine zzh 15 (V := ⟨3, ics l ++ X⟩) (off := f * 1) (zI (l.getD f 0)) ty3 (part_intsX (l := l) (i := f) zj rfl) (zyp 16 (x := zI (IntKind.i64.wrap (cf * (l.getD f 0)))) (zI (cf * (l.getD f 0))) yq (zza 17 (.adr 4 3) (zzh 18 (zI sh) ty3 zzk (zzg 19 191 _ fun _ _ _ ae => Post.mono (k_fxShift2 (v := cf * (l.getD f 0)) (n := sh) ae xq xq xq xq) ?_))))
 rintro _ u18 g19 rfl
 refine zza 6 (zI (Nt.shiftW (cf * (l.getD f 0)) sh 2)) (zzc 67 [(0, .slc 67 0 n c), (2, zI sg), (4, .adr 4 0), (6, zI (Nt.shiftW (cf * (l.getD f 0)) sh 2))] [(4, ⟨90, [.int .i64 t, .int .i64 f, .int .i64 cf, .int .i64 sh]⟩), (67, ⟨3, ics l ++ X⟩)] (zzy [0, 0, 2, 0, 0, 16, 56, 120, 0, 0, 768, 2040, 4088, 8191, 16383] [(0, []), (1, []), (2, []), (3, []), (4, []), (5, []), (6, []), (7, []), (8, []), (9, []), (10, []), (11, []), (12, []), (13, []), (14, [])] xj xj (zza 20 (.slc 67 0 n c) (zza 21 (.adr 4 0) (zzh 22 (zI t) ty3 zzk (zza 23 (.slc 67 0 n c) (zza 24 (.adr 4 0) (zzh 25 (zI t) ty3 zzk (zyv 26 (off' := t * 1) (n := n) (off := 0) (sz := 1) (i := (t : Int)) sl30 xq xq xq ?_)))))))))
 refine zzh 27 (V := ⟨3, ics l ++ X⟩) (off := t * 1) (zI (l.getD t 0)) ty3 (part_intsX (l := l) (i := t) zj rfl) (zza 28 (zI sg) (zza 29 (zI (Nt.shiftW (cf * (l.getD f 0)) sh 2)) (zyp 30 (x := zI (IntKind.i64.wrap (sg * (Nt.shiftW (cf * (l.getD f 0)) sh 2)))) (zI (sg * (Nt.shiftW (cf * (l.getD f 0)) sh 2))) yq (zyp 31 (x := zI (IntKind.i64.wrap ((l.getD t 0) + (sg * (Nt.shiftW (cf * (l.getD f 0)) sh 2))))) (zI ((l.getD t 0) + (sg * (Nt.shiftW (cf * (l.getD f 0)) sh 2)))) yq (zzg 32 190 _ fun _ _ _ af => Post.mono (k_fxWrap (b := 32) (v := (l.getD t 0) + (sg * (Nt.shiftW (cf * (l.getD f 0)) sh 2))) af xq xq) ?_)))))
 rintro _ u22 g23 rfl
 refine zyv 33 (off' := t * 1) (n := n) (off := 0) (sz := 1) (i := (t : Int)) sl30 xq xq xq ?_
 refine zyu (V := ⟨3, ics l ++ X⟩) (off := t * 1) (ics (l.set t (Nt.wrapW 32 ((l.getD t 0) + (sg * (Nt.shiftW (cf * (l.getD f 0)) sh 2))))) ++ X) ty3 (by rw [List.length_append, zwi, hl]; omega) (setL_intsX (z := Nt.wrapW 32 ((l.getD t 0) + (sg * (Nt.shiftW (cf * (l.getD f 0)) sh 2)))) (i := t) zj rfl) ?_
 refine zzw ?_
 refine lent_end (V := ⟨3, ics (l.set t (Nt.wrapW 32 ((l.getD t 0) + (sg * (Nt.shiftW (cf * (l.getD f 0)) sh 2))))) ++ X⟩) rfl rfl (fun _ _ => ?_)
 rw [(Nt.shF_s ab aa)]
set_option maxHeartbeats 2000000 in
theorem k_dforward {u w : World} {x y : Sl} {S : List (List Int)} {l : List Int} (d : Dat u w) (hx : IrV 4 u x S) (h9 : S.length ≤ 1000000) (hy : SlR .i64 u y.a y.n y.c l) (hb : ∀ z ∈ l, -9223372036854775808 ≤ z ∧ z ≤ 9223372036854775807) (h8 : l.length ≤ 1000000) : Calls Tryz.prog 49 #[x.v, y.v] w (Post u w fun v u' => ∃ z : Sl, v = .tuple #[z.v, .int .i64 (Nt.chkE S l)] ∧ SlR .i64 u' z.a z.n z.c (Nt.fwdL S l)) := by
 have hlx : x.n = S.length := hx.len
 have hly : l.length = y.n := hy.1
 refine zzl (args := [x.v, y.v]) Tryz.func49 rfl Tryz.ntmps49 (rs := [.tmp 4, .tmp 5]) Tryz.results49 (le_b rfl) (le_b rfl) d ?_
 refine sq9 (zza 4 (.v (.slice none 0 0)) (zza 5 (zI 0) (zzb (zzd (sq9 (zza 10 (.v (x.v)) (zza 11 (.v (y.v)) (zzg 12 114 _ fun _ _ ae az => Post.mono (k_dcheck (x := x) (y := y) az (hx.ext ae) xq (hy.ext ae) hb xq) ?_))))))))
 rintro _ u12 al rfl
 refine zza 6 (zI (Nt.chkE S l)) (zzb (sq9 (zza 13 (zI (Nt.chkE S l)) (zza 14 (zB ((Nt.chkE S l) != 0)) (zzb (zzt (b := (Nt.chkE S l) != 0) xj (fun ad => ?_) (fun ad => ?_)))))))
 ·have hE : ¬ Nt.chkE S l = 0 := by simpa using ad
  refine sq9 (zza 15 (zI (Nt.chkE S l)) (zza 4 (.v (.slice none 0 0)) (zza 5 (zI (Nt.chkE S l)) (zzb (zzn (zzv (ret0 [.slice none 0 0, .int .i64 (Nt.chkE S l)] ⟨zzp, zzp, trivial⟩ fun u16 e17 => ?_)))))))
  rw [show Nt.fwdL S l = [] from if_neg hE]
  exact ⟨sl0, rfl, rfl, Nat.le_refl _, Nat.zero_le _, fun h => absurd h (Nat.lt_irrefl 0)⟩
 have hE : Nt.chkE S l = 0 := by simpa using ad
 obtain ⟨hV, hW⟩ := Nt.chk_0 hE
 have hV1 := hV.1
 have hV2 := hV.2.1
 have hV3 := hV.2.2.1
 refine zzr (zzo ?_)
 refine sq9 (zza 16 (.v (y.v)) (zzg 17 115 _ fun _ _ ak aA => Post.mono (k_cloneI (x := y) aA (hy.ext (ae.trans (al.ext.trans ak))) xq xq) ?_))
 rintro _ u27 av ⟨aI, aa, am, rfl, ac, ap, aj, ai, af⟩
 refine zza 7 (.v (.slice (some ⟨aI, 0, none⟩) y.n aa)) (zzb (zzd (zzd (sw_adopt (r := 7) (k := 7) (cs := ics l ++ am) (by rfl) ap (Nat.le_trans ((ae.trans (al.ext.trans ak)).size) ac) xj (fun aH ag => ?_)))))
 refine zzf (zza 18 (.v (x.v)) (zza 19 (zI x.n) (zza 20 (zI 0) (zzb (zzs (zym (I := fun ax S' u' => ∃ (i : Nat), (ax = S.length - i) ∧ (i ≤ S.length) ∧ (S' = St.of 29 [(7, .slc 7 0 y.n aa), (18, .v (x.v)), (19, zI x.n), (20, zI i)] [(7, ⟨3, ics (Nt.shFs (S.take i) l) ++ am⟩)]) ∧ (Ext aH u')) (fun m S u1 u2 e h => by obtain ⟨i, hm, p0, hS, hE⟩ := h; exact ⟨i, hm, p0, hS, hE.trans e⟩) _ yz ⟨0, rfl, by omega, rfl, (Ext.refl _)⟩ ?_))))))
 rintro ax _ aE ⟨i, aF, hi, rfl, aq⟩
 refine sq9 (zza 21 (zB (decide ((i : Int) < (x.n : Int)))) (zzb (zzd (zzt (b := decide ((i : Int) < (x.n : Int))) xj (fun ab => ?_) (fun ab => ?_)))))
 ·have qhb33 := of_decide_eq_true ab
  refine zzr (zzo ?_)
  refine zzd (zzs (sq9 ?_))
  have hl34 := ((hx.ext (ae.trans (al.ext.trans (ak.trans ((ExtB.old ag av.ext ac).trans aq)))))).len
  obtain ⟨b34, aw, an, ar⟩ := ir_at4 (hx.ext (ae.trans (al.ext.trans (ak.trans ((ExtB.old ag av.ext ac).trans aq))))) (i := i) xq
  refine zzz 22 (aw + i * 4) (n := x.n) (off := aw) (sz := 4) (i := (i : Int)) xq an xq xq sl64 (zyl 23 [.int .i64 (gi S i 0), .int .i64 (gi S i 1), .int .i64 (gi S i 2), .int .i64 (gi S i 3)] ar ty90 (zzj 9 ⟨90, [.int .i64 0, .int .i64 0, .int .i64 0, .int .i64 0]⟩ (zzi ⟨90, [.int .i64 (gi S i 0), .int .i64 (gi S i 1), .int .i64 (gi S i 2), .int .i64 (gi S i 3)]⟩ ty90 ?_)))
  refine zzb ?_
  have hsO := hV.2.2.2 i xq
  rw [row4 hx.rows xq] at hsO
  obtain ⟨tz, htz⟩ : ∃ t : Nat, gi S i 0 = (t : Int) := ⟨(gi S i 0).toNat, by have h9 : 0 ≤ gi S i 0 := hsO.1; omega⟩
  obtain ⟨fz, hfz⟩ : ∃ t : Nat, gi S i 1 = (t : Int) := ⟨(gi S i 1).toNat, by have h9 : 0 ≤ gi S i 1 := hsO.2.2.1; omega⟩
  rw [htz, hfz]
  rw [htz, hfz] at hsO
  refine zzf (zza 24 (.slc 7 0 y.n aa) (zzh 25 (.v (.agg #[.int .i64 tz, .int .i64 fz, .int .i64 (gi S i 2), .int .i64 (gi S i 3)])) ty90 zze ?_))
  have kc35 := fun (g : Nat) (w u1 : World) (e : Ext aE u1) (d : Dat u1 w) (hg : w.heap[g]? = some (.cells (ics (Nt.shFs (S.take i) l) ++ am).toArray 3 (0, 0))) (hu : u1.heap[g]? = some hidO) => k_perform (n := y.n) (c := aa) (t := tz) (f := fz) (cf := gi S i 2) (sh := gi S i 3) (sg := 1) d hg hu (Nt.shFs_len.trans hly) (Nt.shFs_w32 hW) xq (by rw [show ((y.n : Nat) : Int) = (l.length : Int) by omega]; exact hsO) xw
  refine sy_lend 26 116 (t := 7) (V := ⟨3, ics (Nt.shFs (S.take i) l) ++ am⟩) (len := y.n) (cap := aa) [.agg #[.int .i64 tz, .int .i64 fz, .int .i64 (gi S i 2), .int .i64 (gi S i 3)], .int .i64 1] xj kc35 ?_
  clear kc35
  rintro _ u35 aB rfl
  refine zzw ?_
  refine zzo (zzf (zyp 27 (x := zI (IntKind.i64.wrap ((i : Int) + 1))) (zI (i + 1 : Nat)) (eqI xk) (zza 20 (zI (i + 1 : Nat)) (zzw ?_))))
  have aC : Nt.shFs (S.take (i + 1)) l = Nt.shF [(tz : Int), (fz : Int), gi S i 2, gi S i 3] 1 (Nt.shFs (S.take i) l) := by rw [Nt.shFs_snoc S i xq, row4 hx.rows xq, htz, hfz]
  rw [← aC]
  refine ⟨_, ?_, _, by exact zzu _ _ _, i + 1, rfl, by omega, rfl, (aq.trans aB)⟩
  omega
 have qhb33 := of_decide_eq_false ab
 refine zyb (zzo (zzd (zyo (r := 7) (t := 7) [7] xz xj (by rfl) (by rfl) xj (fun ah aG e38 ay ao => ?_))))
 have au : SlR .i64 aG (some ⟨ah, 0, none⟩) y.n aa (Nt.shFs (S.take i) l) := ints_dataX ao (Nt.shFs_len.trans hly) aj ai af
 refine zzf (zza 28 (.v (.slice (some ⟨ah, 0, none⟩) y.n aa)) (zza 4 (.v (.slice (some ⟨ah, 0, none⟩) y.n aa)) (zza 5 (zI 0) (zzb (zzn (ret0 [.slice (some ⟨ah, 0, none⟩) y.n aa, .int .i64 0] ⟨zzp, zzp, trivial⟩ fun u42 aD => ?_))))))
 rw [show Nt.fwdL S l = Nt.shFs S l from if_pos hE, hE]
 refine ⟨(⟨some ⟨ah, 0, none⟩, y.n, aa⟩ : Sl), rfl, ?_⟩
 have h7 := (au.ext aD)
 rw [show i = S.length by omega, List.take_length] at h7
 exact h7
namespace Nt
def flr (q : Rat) : Int := q.num / (q.den : Int)
def dnQ (q : Rat) (k : Nat) : Rat := mkRat (flr (q * ((2 ^ k : Nat) : Rat))) (2 ^ k)
theorem flr_mk {z : Int} {D : Nat} (hD : 0 < D) : flr (mkRat z D) = z / (D : Int) := by
 have h1 : mkRat z D = mkRat (mkRat z D).num (mkRat z D).den := (Rat.mkRat_self _).symm
 rw [Rat.mkRat_eq_iff xq (by have := (mkRat z D).den_pos; omega)] at h1
 have hd := (mkRat z D).den_pos
 unfold flr
 generalize (mkRat z D).num = n at *
 generalize (mkRat z D).den = d at *
 have e1 : z / (D : Int) = ((d : Int) * z) / ((d : Int) * (D : Int)) := (Int.mul_ediv_mul_of_pos _ _ xq).symm
 have e2 : n / (d : Int) = ((D : Int) * n) / ((D : Int) * (d : Int)) := (Int.mul_ediv_mul_of_pos _ _ xq).symm
 rw [e1, e2, Int.mul_comm (d : Int) z, h1, Int.mul_comm n, Int.mul_comm (d : Int)]
theorem shl_mk (z : Int) (D m : Nat) : mkRat z D * ((m : Nat) : Rat) = mkRat (z * (m : Int)) D := by
 rw [Rat.mkRat_eq_div, Rat.mkRat_eq_div, Rat.intCast_mul]
 show (z : Rat) / (D : Rat) * (m : Rat) = (z : Rat) * ((m : Int) : Rat) / (D : Rat)
 have : ((m : Int) : Rat) = (m : Rat) := rfl
 rw [this]
 grind
theorem dn_mk {z : Int} {D k : Nat} (hD : 0 < D) : dnQ (mkRat z D) k = mkRat ((z * ((2 ^ k : Nat) : Int)) / (D : Int)) (2 ^ k) := by
 unfold dnQ
 rw [shl_mk, flr_mk hD]
theorem sg_mulN {s : Bool} {N m : Nat} : sg s ((sg s N).natAbs * m) = sg s N * (m : Int) := by
 rw [sg_abs]
 unfold sg
 cases s
 ·simp
 simp [Int.neg_mul]
theorem rdiv0 {s : Bool} {N D : Nat} (hD : 0 < D) (h : ¬ (s = true ∧ 0 < N % D)) : sg s N / (D : Int) = sg (!(s == false)) (N / D) ∧ sg s N % (D : Int) = sg false (N % D) := by
 have hm := Nat.mod_lt N hD
 have hk := Nat.div_add_mod N D
 have hk2 : (N : Int) = (D : Int) * ((N / D : Nat) : Int) + ((N % D : Nat) : Int) := by rw [← Int.natCast_mul, ← Int.natCast_add, hk]
 apply ediv_uniq xq
 ·unfold sg
  cases s
  ·simpa using hk2
  have h0 : N % D = 0 := by simp at h; omega
  rw [h0] at hk2 ⊢
  generalize N / D = Q at *
  simp [Int.mul_neg]
  omega
 ·unfold sg; simp; omega
 unfold sg; simp; omega
theorem rdiv1 {N D : Nat} (hD : 0 < D) (h : 0 < N % D) : sg true N / (D : Int) = sg (!(true == false)) (N / D + 1) ∧ sg true N % (D : Int) = sg false (D - N % D) := by
 have hm := Nat.mod_lt N hD
 have hk := Nat.div_add_mod N D
 have hk2 : (N : Int) = (D : Int) * ((N / D : Nat) : Int) + ((N % D : Nat) : Int) := by rw [← Int.natCast_mul, ← Int.natCast_add, hk]
 apply ediv_uniq xq
 ·unfold sg
  simp
  rw [show ((N : Int) / (D : Int)) = ((N / D : Nat) : Int) from rfl, show ((D - N % D : Nat) : Int) = (D : Int) - ((N % D : Nat) : Int) by omega, Int.mul_neg, Int.mul_add]
  omega
 ·unfold sg; simp
 unfold sg; simp; omega
end Nt
end Go.Proofs.YtbolmkfphieogaaGreat
namespace Go.Proofs.YtbolmkfphieogaaGreat
namespace Nt
def sgn (j : Nat) : Rat := if j % 2 = 0 then 1 else -1
theorem sgn_s (j : Nat) : sgn (j + 1) = -sgn j := by
 unfold sgn
 rcases Nat.mod_two_eq_zero_or_one j with h | h
 ·rw [if_pos h, if_neg (show ¬ (j + 1) % 2 = 0 by omega)]
 rw [if_neg (show ¬ j % 2 = 0 by omega), if_pos (show (j + 1) % 2 = 0 by omega)]; rfl
theorem sgn_or (j : Nat) : sgn j = 1 ∨ sgn j = -1 := by unfold sgn; split <;> simp
def alt (a : Nat → Rat) : Nat → Rat
 | 0 => 0
 | n + 1 => alt a n + sgn n * a n
theorem alt_s (a : Nat → Rat) (n : Nat) : alt a (n + 1) = alt a n + sgn n * a n := rfl
theorem alt_tail {a : Nat → Rat} {j0 : Nat} (h0 : ∀ j, 0 ≤ a j) (hd : ∀ j, j0 ≤ j → a (j + 1) ≤ a j) : ∀ d j, j0 ≤ j → 0 ≤ sgn j * (alt a (j + d) - alt a j) ∧ sgn j * (alt a (j + d) - alt a j) ≤ a j := by
 intro d
 induction d with
 | zero => intro j _; have := h0 j; rw [Nat.add_zero, Rat.sub_self, Rat.mul_zero]; exact ⟨Rat.le_refl, this⟩
 | succ d ih =>
  intro j hj
  have h1 := ih (j + 1) xq
  have h2 := hd j hj
  have h3 := h0 (j + 1)
  rw [show j + 1 + d = j + (d + 1) by omega, sgn_s, alt_s] at h1
  generalize alt a (j + (d + 1)) = x at *
  generalize alt a j = y at *
  rcases sgn_or j with e | e <;> rw [e] at h1 ⊢ <;> grind
theorem alt_near {a : Nat → Rat} {j0 j m : Nat} (h0 : ∀ j, 0 ≤ a j) (hd : ∀ j, j0 ≤ j → a (j + 1) ≤ a j) (hj : j0 ≤ j) (hm : j ≤ m) : alt a j - a j ≤ alt a m ∧ alt a m ≤ alt a j + a j := by
 obtain ⟨d, rfl⟩ : ∃ d, m = j + d := ⟨m - j, by omega⟩
 have h1 := alt_tail h0 hd d j hj
 rcases sgn_or j with e | e <;> rw [e] at h1 <;> grind
theorem div_nn {x y : Rat} (hx : 0 ≤ x) (hy : 0 < y) : 0 ≤ x / y := by
 rw [Rat.div_def]; exact Rat.mul_nonneg hx (Rat.le_of_lt (Rat.inv_pos.2 hy))
theorem div_mul_c {x y : Rat} (hy : 0 < y) : x / y * y = x := by
 rw [Rat.div_def, Rat.mul_assoc, Rat.inv_mul_cancel _ (by grind), Rat.mul_one]
theorem le_dv {x y z : Rat} (hy : 0 < y) (h : x * y ≤ z) : x ≤ z / y := by
 refine Rat.le_of_mul_le_mul_right (c := y) ?_ hy
 rw [div_mul_c hy]; exact h
theorem dv_le {x y z : Rat} (hy : 0 < y) (h : z ≤ x * y) : z / y ≤ x := by
 refine Rat.le_of_mul_le_mul_right (c := y) ?_ hy
 rw [div_mul_c hy]; exact h
theorem div_le_self {x y : Rat} (hx : 0 ≤ x) (hy : 1 ≤ y) : x / y ≤ x := by
 refine dv_le (by grind) ?_
 have := Rat.mul_le_mul_of_nonneg_left (a := 1) (b := y) (c := x) hy hx
 grind
theorem div_mono {x x' y : Rat} (hy : 0 < y) (h : x ≤ x') : x / y ≤ x' / y := by
 refine le_dv hy ?_
 rw [div_mul_c hy]; exact h
theorem mulm {a b c d : Rat} (h1 : a ≤ b) (h2 : c ≤ d) (h3 : 0 ≤ a) (h4 : 0 ≤ c) : a * c ≤ b * d :=
 Rat.le_trans (Rat.mul_le_mul_of_nonneg_right h1 h4) (Rat.mul_le_mul_of_nonneg_left h2 (Rat.le_trans h3 h1))
def atP (n : Nat) : Nat → Rat
 | 0 => 1 / (n : Rat)
 | j + 1 => atP n j / ((n * n : Nat) : Rat)
def atT (n j : Nat) : Rat := atP n j / ((2 * j + 1 : Nat) : Rat)
theorem cast_pos {n : Nat} (h : 0 < n) : (0 : Rat) < (n : Rat) := by
 have : ((0 : Nat) : Rat) < (n : Rat) := Rat.natCast_lt_natCast.2 h
 exact this
theorem cast_one {n : Nat} (h : 0 < n) : (1 : Rat) ≤ (n : Rat) := by
 have : ((1 : Nat) : Rat) ≤ (n : Rat) := Rat.natCast_le_natCast.2 h
 exact this
theorem atP_nn {n : Nat} (hn : 0 < n) : ∀ j, 0 ≤ atP n j
 | 0 => div_nn xw (cast_pos hn)
 | j + 1 => div_nn (atP_nn hn j) (cast_pos (Nat.mul_pos hn hn))
theorem atT_nn {n : Nat} (hn : 0 < n) (j : Nat) : 0 ≤ atT n j := div_nn (atP_nn hn j) (cast_pos xq)
theorem atP_le {n : Nat} (hn : 0 < n) (j : Nat) : atP n (j + 1) ≤ atP n j := div_le_self (atP_nn hn j) (cast_one (Nat.mul_pos hn hn))
theorem atT_le {n : Nat} (hn : 0 < n) (j : Nat) : atT n (j + 1) ≤ atT n j := by
 have h1 := atP_le hn j
 have h2 := atP_nn hn (j + 1)
 refine Rat.le_trans (b := atP n (j + 1) / ((2 * j + 1 : Nat) : Rat)) ?_ (div_mono (cast_pos xq) h1)
 refine dv_le (cast_pos xq) ?_
 have h3 : ((2 * j + 1 : Nat) : Rat) ≤ ((2 * (j + 1) + 1 : Nat) : Rat) := Rat.natCast_le_natCast.2 xq
 have h4 := Rat.mul_le_mul_of_nonneg_left (c := atP n (j + 1) / ((2 * j + 1 : Nat) : Rat)) h3 (div_nn h2 (cast_pos xq))
 rw [div_mul_c (cast_pos xq)] at h4
 exact h4
def piN (m : Nat) : Rat := 16 * alt (atT 5) m - 4 * alt (atT 239) m
theorem atT_b {n : Nat} (hn : 0 < n) {m : Nat} (hm : 1 ≤ m) : atT n 0 - atT n 1 ≤ alt (atT n) m ∧ alt (atT n) m ≤ atT n 0 := by
 obtain ⟨d, rfl⟩ : ∃ d, m = 1 + d := ⟨m - 1, by omega⟩
 have h1 := alt_tail (j0 := 0) (atT_nn hn) (fun j _ => atT_le hn j) d 1 xq
 have h2 : alt (atT n) 1 = atT n 0 := by show 0 + (1 : Rat) * atT n 0 = _; grind
 have h3 : sgn 1 = -1 := rfl
 rw [h2, h3] at h1
 grind
theorem piN_b {m : Nat} (hm : 1 ≤ m) : 157 / 50 ≤ piN m ∧ piN m ≤ 16 / 5 := by
 have h1 := atT_b (n := 5) xw hm
 have h2 := atT_b (n := 239) xw hm
 have e1 : atT 5 0 = 1 / 5 := by decide +kernel
 have e2 : atT 5 1 = 1 / 375 := by decide +kernel
 have e3 : atT 239 0 = 1 / 239 := by decide +kernel
 have e4 : atT 239 0 - atT 239 1 ≥ 0 := by decide +kernel
 unfold piN
 rw [e1, e2] at h1
 rw [e3] at h2 e4
 constructor
 ·have : (157 / 50 : Rat) ≤ 16 * (1 / 5 - 1 / 375) - 4 * (1 / 239) := by decide +kernel
  grind
 have : (16 : Rat) * (1 / 5) ≤ 16 / 5 := by decide +kernel
 grind
def csT (y : Rat) : Nat → Rat
 | 0 => 1
 | j + 1 => csT y j * (y * y) / (((2 * j + 2) * (2 * j + 1) : Nat) : Rat)
theorem csq_nn (y : Rat) : 0 ≤ y * y := by
 rcases Rat.le_total (a := 0) (b := y) with h | h
 ·exact Rat.mul_nonneg h h
 have h1 : 0 ≤ -y := by grind
 have h2 := Rat.mul_nonneg h1 h1
 grind
theorem csT_nn (y : Rat) : ∀ j, 0 ≤ csT y j
 | 0 => by show (0 : Rat) ≤ 1; decide
 | j + 1 => div_nn (Rat.mul_nonneg (csT_nn y j) (csq_nn y)) (cast_pos (Nat.mul_pos xq xq))
theorem csT_le {y : Rat} (hy : y * y ≤ 12) : ∀ j, 1 ≤ j → csT y (j + 1) ≤ csT y j := by
 intro j hj
 refine dv_le (cast_pos (Nat.mul_pos xq xq)) ?_
 refine Rat.mul_le_mul_of_nonneg_left ?_ (csT_nn y j)
 have : ((12 : Nat) : Rat) ≤ (((2 * j + 2) * (2 * j + 1) : Nat) : Rat) := Rat.natCast_le_natCast.2 (by
  have := Nat.mul_le_mul (show 4 ≤ 2 * j + 2 by omega) (show 3 ≤ 2 * j + 1 by omega); omega)
 exact Rat.le_trans hy this
def csY (p q m : Nat) : Rat := piN m * (p : Rat) / (q : Rat)
def coN (p q m : Nat) : Rat := alt (csT (csY p q m)) m
def cdiv (b d : Int) : Int := -((-b) / d)
theorem fl_mul {a d : Int} (hd : 0 < d) : a / d * d ≤ a ∧ a - d + 1 ≤ a / d * d := by
 have h1 := Int.ediv_mul_le a (b := d) xq
 have h2 := Int.lt_ediv_add_one_mul_self a hd
 rw [Int.add_mul, Int.one_mul] at h2
 omega
theorem cd_mul {b d : Int} (hd : 0 < d) : b ≤ cdiv b d * d ∧ cdiv b d * d ≤ b + d - 1 := by
 have h1 := fl_mul (a := -b) hd
 unfold cdiv
 rw [Int.neg_mul]
 omega
theorem cd_eq0 {b d : Int} (hd : 0 < d) (h : b % d = 0) : cdiv b d = b / d := by
 have h1 := Int.emod_add_mul_ediv b d
 unfold cdiv
 have h2 : -b = d * (-(b / d)) := by rw [Int.mul_neg]; omega
 rw [h2, Int.mul_ediv_cancel_left _ xq]; omega
theorem cd_eq1 {b d : Int} (hd : 0 < d) (h : ¬ b % d = 0) : cdiv b d = b / d + 1 := by
 have h1 := Int.emod_add_mul_ediv b d
 have h2 := Int.emod_nonneg b (b := d) xq
 have h3 := Int.emod_lt_of_pos b hd
 have h4 := cd_mul (b := b) hd
 have h5 : b / d * d < cdiv b d * d := by rw [Int.mul_comm]; omega
 have h6 : cdiv b d * d < (b / d + 2) * d := by rw [Int.add_mul, Int.mul_comm (b / d)]; omega
 have h7 := Int.lt_of_mul_lt_mul_right h5 xq
 have h8 := Int.lt_of_mul_lt_mul_right h6 xq
 omega
theorem cd_width {a b d : Int} (hd : 0 < d) : (cdiv b d - a / d) * d ≤ b - a + 2 * d - 2 := by
 have h1 := fl_mul (a := a) hd
 have h2 := cd_mul (b := b) hd
 rw [Int.sub_mul]; omega
theorem cast_mul_le {a b c : Int} (h : a * b ≤ c) : (a : Rat) * (b : Rat) ≤ (c : Rat) := by
 have := Rat.intCast_le_intCast.2 h
 rwa [Rat.intCast_mul] at this
theorem castI_pos {d : Int} (h : 0 < d) : (0 : Rat) < (d : Rat) := by
 have := Rat.intCast_lt_intCast.2 h
 exact this
theorem fl_le {a d : Int} {z : Rat} (hd : 0 < d) (h : (a : Rat) ≤ z) : ((a / d : Int) : Rat) ≤ z / (d : Rat) := by
 refine le_dv (castI_pos hd) (Rat.le_trans (cast_mul_le (fl_mul (a := a) hd).1) h)
theorem le_ce {b d : Int} {z : Rat} (hd : 0 < d) (h : z ≤ (b : Rat)) : z / (d : Rat) ≤ ((cdiv b d : Int) : Rat) := by
 refine dv_le (castI_pos hd) (Rat.le_trans h ?_)
 have := Rat.intCast_le_intCast.2 (cd_mul (b := b) hd).1
 rwa [Rat.intCast_mul] at this
def Enc (U : Int) (lo hi : Int) (x : Rat) : Prop := (lo : Rat) ≤ x * (U : Rat) ∧ x * (U : Rat) ≤ (hi : Rat)
section
variable {U a b a' b' d : Int} {x y : Rat}
theorem Enc.over (h : Enc U a b x) (hd : 0 < d) : Enc U (a / d) (cdiv b d) (x / (d : Rat)) := by
 have h1 := fl_le hd h.1
 have h2 := le_ce hd h.2
 have e : x / (d : Rat) * (U : Rat) = x * (U : Rat) / (d : Rat) := by rw [Rat.div_def, Rat.div_def]; grind
 unfold Enc
 rw [e]
 exact ⟨h1, h2⟩
theorem Enc.add (h : Enc U a b x) (k : Enc U a' b' y) : Enc U (a + a') (b + b') (x + y) := by
 obtain ⟨h1, h2⟩ := h
 obtain ⟨k1, k2⟩ := k
 unfold Enc
 rw [Rat.intCast_add, Rat.intCast_add]
 constructor <;> grind
theorem Enc.sub (h : Enc U a b x) (k : Enc U a' b' y) : Enc U (a - b') (b - a') (x - y) := by
 obtain ⟨h1, h2⟩ := h
 obtain ⟨k1, k2⟩ := k
 unfold Enc
 rw [Rat.intCast_sub, Rat.intCast_sub]
 constructor <;> grind
theorem Enc.times {n : Nat} (h : Enc U a b x) : Enc U (a * (n : Int)) (b * (n : Int)) (x * (n : Rat)) := by
 obtain ⟨h1, h2⟩ := h
 have hn : (0 : Rat) ≤ (n : Rat) := by
  have : ((0 : Nat) : Rat) ≤ (n : Rat) := Rat.natCast_le_natCast.2 (Nat.zero_le n)
  exact this
 have k1 := Rat.mul_le_mul_of_nonneg_right h1 hn
 have k2 := Rat.mul_le_mul_of_nonneg_right h2 hn
 have e : (((n : Nat) : Int) : Rat) = (n : Rat) := rfl
 unfold Enc
 rw [Rat.intCast_mul, Rat.intCast_mul, e]
 constructor <;> grind
theorem Enc.near {r : Rat} (h : Enc U a b x) (h1 : x - r ≤ y) (h2 : y ≤ x + r) (hr : r * (U : Rat) ≤ 1) (hU : 0 < U) : Enc U (a - 1) (b + 1) y := by
 obtain ⟨k1, k2⟩ := h
 have k3 := Rat.mul_le_mul_of_nonneg_right h1 (Rat.le_of_lt (castI_pos hU))
 have k4 := Rat.mul_le_mul_of_nonneg_right h2 (Rat.le_of_lt (castI_pos hU))
 unfold Enc
 rw [Rat.intCast_sub, Rat.intCast_add]
 have e : ((1 : Int) : Rat) = 1 := rfl
 rw [e]
 constructor <;> grind
theorem Enc.prod (h : Enc U a b x) (k : Enc U a' b' y) (ha : 0 ≤ a) (ha' : 0 ≤ a') (hU : 0 < U) : Enc U (a * a' / U) (cdiv (b * b') U) (x * y) := by
 obtain ⟨h1, h2⟩ := h
 obtain ⟨k1, k2⟩ := k
 have za : (0 : Rat) ≤ (a : Rat) := Rat.intCast_le_intCast.2 ha
 have za' : (0 : Rat) ≤ (a' : Rat) := Rat.intCast_le_intCast.2 ha'
 have m1 := mulm h1 k1 za za'
 have m2 := mulm h2 k2 (Rat.le_trans za h1) (Rat.le_trans za' k1)
 rw [← Rat.intCast_mul] at m1 m2
 have r1 := fl_le hU m1
 have r2 := le_ce hU m2
 have e : x * (U : Rat) * (y * (U : Rat)) / (U : Rat) = x * y * (U : Rat) := by
  have := castI_pos hU
  rw [Rat.div_def]
  have e2 : (U : Rat) * (U : Rat)⁻¹ = 1 := Rat.mul_inv_cancel _ (by grind)
  grind
 rw [e] at r1 r2
 exact ⟨r1, r2⟩
theorem Enc.lo_le {c : Int} (h : Enc U a b x) (hx : x * (U : Rat) ≤ (c : Rat)) : a ≤ c := Rat.intCast_le_intCast.1 (Rat.le_trans h.1 hx)
theorem Enc.le_hi {c : Int} (h : Enc U a b x) (hx : (c : Rat) ≤ x * (U : Rat)) : c ≤ b := Rat.intCast_le_intCast.1 (Rat.le_trans hx h.2)
theorem Enc.le (h : Enc U a b x) : a ≤ b := Rat.intCast_le_intCast.1 (Rat.le_trans h.1 h.2)
theorem Enc.nonneg (h : Enc U a b x) (hx : 0 ≤ x) (hU : 0 < U) : 0 ≤ b := h.le_hi (c := 0) (Rat.mul_nonneg hx (Rat.le_of_lt (castI_pos hU)))
theorem Enc.one : Enc U U U 1 := by unfold Enc; rw [Rat.one_mul]; exact ⟨Rat.le_refl, Rat.le_refl⟩
end
theorem fl_nn {a d : Int} (ha : 0 ≤ a) (hd : 0 < d) : 0 ≤ a / d := Int.ediv_nonneg ha xq
theorem cd_le {b d c : Int} (hd : 0 < d) (h : b ≤ c * d) : cdiv b d ≤ c := by
 have h1 := (cd_mul (b := b) hd).2
 have h2 : cdiv b d * d < (c + 1) * d := by rw [Int.add_mul]; omega
 have := Int.lt_of_mul_lt_mul_right h2 xq
 omega
theorem cd_ge {b d c : Int} (hd : 0 < d) (h : c * d < b) : c + 1 ≤ cdiv b d := by
 have h1 := (cd_mul (b := b) hd).1
 have h2 : c * d < cdiv b d * d := by omega
 have := Int.lt_of_mul_lt_mul_right h2 xq
 omega
theorem cd_self {b d : Int} (hb : 0 ≤ b) (hd : 0 < d) : cdiv b d ≤ b := cd_le hd (by
 have := Int.mul_le_mul_of_nonneg_left (show 1 ≤ d by omega) hb; omega)
theorem cd_half {b d : Int} (hb : 2 ≤ b) (hd : 3 ≤ d) : 2 * cdiv b d ≤ b := by
 have h1 := cd_mul (b := b) (show 0 < d by omega)
 rcases Int.lt_or_le b (2 * cdiv b d) with h | h
 ·exfalso
  have h2 : (b + 1) * d ≤ 2 * cdiv b d * d := Int.mul_le_mul_of_nonneg_right xq xq
  have e : 2 * cdiv b d * d = 2 * (cdiv b d * d) := Int.mul_assoc ..
  rw [Int.add_mul, Int.one_mul, e] at h2
  have h3 : b * 3 ≤ b * d := Int.mul_le_mul_of_nonneg_left hd xq
  have h4 : (b - 2) * 3 ≤ (b - 2) * d := Int.mul_le_mul_of_nonneg_left hd xq
  rw [Int.sub_mul, Int.sub_mul] at h4
  omega
 exact h
theorem w3 {a b d : Int} (h : b - a ≤ 3) (hd : 0 < d) : cdiv b d - a / d ≤ 3 := by
 have h1 := cd_width (a := a) (b := b) hd
 rcases Int.lt_or_le 3 (cdiv b d - a / d) with h2 | h2
 ·have h3 := Int.mul_le_mul_of_nonneg_right (show 4 ≤ cdiv b d - a / d by omega) (show 0 ≤ d by omega)
  omega
 exact h2
end Nt
namespace Nt
def u2 (w : Nat) : Int := ((2 ^ w : Nat) : Int)
theorem u2_pos (w : Nat) : 0 < u2 w := by
 have := Nat.pow_pos (n := w) (show 0 < 2 by decide)
 unfold u2; omega
theorem u2_add (a b : Nat) : u2 (a + b) = u2 a * u2 b := by unfold u2; rw [Nat.pow_add]; exact Int.natCast_mul _ _
theorem u2_mono {a b : Nat} (h : a ≤ b) : u2 a ≤ u2 b := Int.ofNat_le.2 (Nat.pow_le_pow_right xw h)
theorem u2_le_iff {a b : Nat} (h : u2 a ≤ u2 b) : a ≤ b := (Nat.pow_le_pow_iff_right xw).1 (Int.ofNat_le.1 h)
theorem lin8 : ∀ w : Nat, 16 ≤ w → 8 * (128 * (w : Int) + 800) ≤ u2 w := by
 intro w hw
 obtain ⟨k, rfl⟩ : ∃ k, w = 16 + k := ⟨w - 16, by omega⟩
 induction k with
 | zero => decide +kernel
 | succ k ih =>
  have h1 := ih xq
  have h2 : u2 (16 + (k + 1)) = u2 (16 + k) * 2 := u2_add (16 + k) 1
  rw [h2]; omega
structure AtI (n w j : Nat) (pl ph sl sh : Int) : Prop where
 p : Enc (u2 w) pl ph (atP n j)
 s : Enc (u2 w) sl sh (alt (atT n) (j + 1))
 p0 : 0 ≤ pl
 p1 : 1 ≤ ph
 pw : ph - pl ≤ 3
 sw : sh - sl ≤ 3 * ((j : Int) + 1)
 fall : ph * u2 j ≤ u2 w
def AtR (n w : Nat) (lo hi : Int) : Prop := (∃ N : Nat, ∀ m, N ≤ m → Enc (u2 w) lo hi (alt (atT n) m)) ∧ hi - lo ≤ 5 * (w : Int) + 8
theorem AtI.start {n w : Nat} (hn : 0 < n) : AtI n w 0 (u2 w / (n : Int)) (cdiv (u2 w) (n : Int)) (u2 w / (n : Int)) (cdiv (u2 w) (n : Int)) := by
 have hn' : (0 : Int) < (n : Int) := by omega
 have hU := u2_pos w
 have h1 : Enc (u2 w) (u2 w / (n : Int)) (cdiv (u2 w) (n : Int)) (atP n 0) := Enc.one.over hn'
 have h2 : alt (atT n) (0 + 1) = atP n 0 := by
  show 0 + (1 : Rat) * (atP n 0 / (((2 * 0 + 1 : Nat)) : Rat)) = _
  have e : (((2 * 0 + 1 : Nat)) : Rat) = 1 := rfl
  rw [e]; grind
 have h3 := w3 (a := u2 w) (b := u2 w) (d := (n : Int)) xq hn'
 refine ⟨h1, by rw [h2]; exact h1, fl_nn xq hn', cd_ge (c := 0) hn' xq, h3, by omega, ?_⟩
 have : u2 0 = 1 := rfl
 rw [this, Int.mul_one]
 exact cd_self xq hn'
section
variable {n w j : Nat} {pl ph sl sh : Int}
theorem AtI.jw (h : AtI n w j pl ph sl sh) : j ≤ w := by
 refine u2_le_iff (Int.le_trans ?_ h.fall)
 have := Int.mul_le_mul_of_nonneg_right h.p1 (Int.le_of_lt (u2_pos j))
 omega
theorem AtI.power (h : AtI n w j pl ph sl sh) (hn : 0 < n) : Enc (u2 w) (pl / ((n * n : Nat) : Int)) (cdiv ph ((n * n : Nat) : Int)) (atP n (j + 1)) := h.p.over (by have := Nat.mul_pos hn hn; omega)
theorem AtI.term (h : AtI n w j pl ph sl sh) (hn : 0 < n) : Enc (u2 w) (pl / ((n * n : Nat) : Int) / ((2 * j + 3 : Nat) : Int)) (cdiv (cdiv ph ((n * n : Nat) : Int)) ((2 * j + 3 : Nat) : Int)) (atT n (j + 1)) :=
 (h.power hn).over (d := ((2 * j + 3 : Nat) : Int)) xq
theorem AtI.pw' (h : AtI n w j pl ph sl sh) (hn : 0 < n) : cdiv ph ((n * n : Nat) : Int) - pl / ((n * n : Nat) : Int) ≤ 3 := w3 h.pw (by have := Nat.mul_pos hn hn; omega)
theorem AtI.tw (h : AtI n w j pl ph sl sh) (hn : 0 < n) : cdiv (cdiv ph ((n * n : Nat) : Int)) ((2 * j + 3 : Nat) : Int) - pl / ((n * n : Nat) : Int) / ((2 * j + 3 : Nat) : Int) ≤ 3 := w3 (h.pw' hn) xq
theorem AtI.sub (h : AtI n w j pl ph sl sh) (hn : 0 < n) (hj : j % 2 = 0) : Enc (u2 w) (sl - cdiv (cdiv ph ((n * n : Nat) : Int)) ((2 * j + 3 : Nat) : Int)) (sh - pl / ((n * n : Nat) : Int) / ((2 * j + 3 : Nat) : Int)) (alt (atT n) (j + 1 + 1)) := by
 have h1 := h.s.sub (h.term hn)
 have e : alt (atT n) (j + 1 + 1) = alt (atT n) (j + 1) - atT n (j + 1) := by
  rw [alt_s]; unfold sgn; rw [if_neg xq]; grind
 rw [e]; exact h1
theorem AtI.add (h : AtI n w j pl ph sl sh) (hn : 0 < n) (hj : ¬ j % 2 = 0) : Enc (u2 w) (sl + pl / ((n * n : Nat) : Int) / ((2 * j + 3 : Nat) : Int)) (sh + cdiv (cdiv ph ((n * n : Nat) : Int)) ((2 * j + 3 : Nat) : Int)) (alt (atT n) (j + 1 + 1)) := by
 have h1 := h.s.add (h.term hn)
 have e : alt (atT n) (j + 1 + 1) = alt (atT n) (j + 1) + atT n (j + 1) := by
  rw [alt_s]; unfold sgn; rw [if_pos xq]; grind
 rw [e]; exact h1
theorem AtI.go {sl' sh' : Int} (h : AtI n w j pl ph sl sh) (hn : 2 ≤ n) (ht : 2 ≤ cdiv (cdiv ph ((n * n : Nat) : Int)) ((2 * j + 3 : Nat) : Int)) (hs : Enc (u2 w) sl' sh' (alt (atT n) (j + 1 + 1))) (hw : sh' - sl' ≤ sh - sl + 3) :
  AtI n w (j + 1) (pl / ((n * n : Nat) : Int)) (cdiv ph ((n * n : Nat) : Int)) sl' sh' ∧ cdiv ph ((n * n : Nat) : Int) < ph := by
 have hnn : 4 ≤ n * n := Nat.mul_le_mul hn hn
 have h0 := h.p1
 have h1 : 1 ≤ cdiv ph ((n * n : Nat) : Int) := cd_ge (c := 0) xq xq
 have h2 := cd_self (b := cdiv ph ((n * n : Nat) : Int)) (d := ((2 * j + 3 : Nat) : Int)) xq xq
 have h3 := cd_self (b := ph) (d := ((n * n : Nat) : Int)) xq xq
 have h4 := cd_half (b := ph) (d := ((n * n : Nat) : Int)) xq xq
 refine ⟨⟨h.power xq, hs, fl_nn h.p0 xq, h1, h.pw' xq, by have := h.sw; omega, ?_⟩, by omega⟩
 have h5 : u2 (j + 1) = u2 j * 2 := u2_add j 1
 have h6 := Int.mul_le_mul_of_nonneg_right h4 (Int.le_of_lt (u2_pos j))
 have h7 := h.fall
 rw [h5]
 have e : cdiv ph ((n * n : Nat) : Int) * (u2 j * 2) = 2 * cdiv ph ((n * n : Nat) : Int) * u2 j := by grind
 rw [e]; omega
theorem AtI.out {sl' sh' : Int} (h : AtI n w j pl ph sl sh) (hn : 0 < n) (ht : cdiv (cdiv ph ((n * n : Nat) : Int)) ((2 * j + 3 : Nat) : Int) ≤ 1) (hs : Enc (u2 w) sl' sh' (alt (atT n) (j + 1 + 1))) (hw : sh' - sl' ≤ sh - sl + 3) : AtR n w (sl' - 1) (sh' + 1) := by
 refine ⟨⟨j + 1 + 1, fun m hm => ?_⟩, by have := h.jw; have := h.sw; omega⟩
 have h1 := alt_near (j0 := 0) (atT_nn hn) (fun j _ => atT_le hn j) (Nat.zero_le _) hm
 refine hs.near h1.1 h1.2 ?_ (u2_pos w)
 have h2 := (h.term hn).2
 have h3 := Rat.mul_le_mul_of_nonneg_right (atT_le hn (j + 1)) (Rat.le_of_lt (castI_pos (u2_pos w)))
 have h4 : ((cdiv (cdiv ph ((n * n : Nat) : Int)) ((2 * j + 3 : Nat) : Int) : Int) : Rat) ≤ ((1 : Int) : Rat) := Rat.intCast_le_intCast.2 ht
 have e : ((1 : Int) : Rat) = 1 := rfl
 rw [e] at h4
 exact Rat.le_trans h3 (Rat.le_trans h2 h4)
theorem AtI.bd (h : AtI n w j pl ph sl sh) (hn : 0 < n) : ph ≤ u2 w ∧ -(3 * ((w : Int) + 1)) ≤ sl ∧ sl ≤ u2 w ∧ 0 ≤ sh ∧ sh ≤ u2 w + 3 * ((w : Int) + 1) := by
 have h1 := atT_b (n := n) hn (m := j + 1) xq
 have h2 := atT_le hn 0
 have hU := castI_pos (u2_pos w)
 have h3 : alt (atT n) (j + 1) ≤ 1 := by
  refine Rat.le_trans h1.2 ?_
  have e : atT n 0 = atP n 0 / ((2 * 0 + 1 : Nat) : Rat) := rfl
  rw [e]
  refine Rat.le_trans (div_le_self (atP_nn hn 0) (cast_one xq)) ?_
  show 1 / (n : Rat) ≤ 1
  exact div_le_self xw (cast_one hn)
 have h4 : alt (atT n) (j + 1) * (u2 w : Rat) ≤ (u2 w : Rat) := by
  have := Rat.mul_le_mul_of_nonneg_right h3 (Rat.le_of_lt hU)
  rwa [Rat.one_mul] at this
 have h5 := h.s.lo_le h4
 have h6 := h.s.nonneg (by grind) (u2_pos w)
 have h7 := h.sw
 have h8 := h.jw
 have h9 := h.fall
 have h10 := Int.mul_le_mul_of_nonneg_left (show 1 ≤ u2 j by have := u2_pos j; omega) (show 0 ≤ ph by have := h.p1; omega)
 refine ⟨by omega, by omega, h5, h6, by omega⟩
end
def PiR (w : Nat) (lo hi : Int) : Prop := (∃ N : Nat, ∀ m, N ≤ m → Enc (u2 w) lo hi (piN m)) ∧ hi - lo ≤ 128 * (w : Int) + 400
theorem PiR.of {w : Nat} {a b c d : Int} (h : AtR 5 w a b) (k : AtR 239 w c d) : PiR w (a * 16 - d * 4) (b * 16 - c * 4) := by
 obtain ⟨⟨N, h1⟩, h2⟩ := h
 obtain ⟨⟨M, k1⟩, k2⟩ := k
 refine ⟨⟨max N M, fun m hm => ?_⟩, by omega⟩
 have e := ((h1 m xq).times (n := 16)).sub ((k1 m xq).times (n := 4))
 have e2 : piN m = alt (atT 5) m * ((16 : Nat) : Rat) - alt (atT 239) m * ((4 : Nat) : Rat) := by
  unfold piN
  rw [Rat.mul_comm, Rat.mul_comm 4]; rfl
 rw [e2]; exact e
theorem PiR.bd {w : Nat} {a b : Int} (h : PiR w a b) (hw : 16 ≤ w) : 0 ≤ a ∧ b ≤ 4 * u2 w ∧ a ≤ b ∧ 1 ≤ b := by
 obtain ⟨⟨N, h1⟩, h2⟩ := h
 have h3 := h1 (N + 1) xq
 have h4 := piN_b (m := N + 1) xq
 have hU := castI_pos (u2_pos w)
 have l8 := lin8 w hw
 have h5 : 3 * u2 w ≤ b := h3.le_hi (by
  rw [Rat.intCast_mul]
  refine Rat.mul_le_mul_of_nonneg_right (Rat.le_trans ?_ h4.1) (Rat.le_of_lt hU)
  decide +kernel)
 have h6 : 5 * a ≤ 16 * u2 w := by
  have h7 := Rat.mul_le_mul_of_nonneg_right h4.2 (Rat.le_of_lt hU)
  have h8 := h3.1
  refine Rat.intCast_le_intCast.1 ?_
  rw [Rat.intCast_mul, Rat.intCast_mul]
  have e5 : ((5 : Int) : Rat) = 5 := rfl
  have e16 : ((16 : Int) : Rat) = 16 := rfl
  rw [e5, e16]
  grind
 have := h3.le
 have := u2_pos w
 omega
end Nt
end Go.Proofs.YtbolmkfphieogaaGreat
