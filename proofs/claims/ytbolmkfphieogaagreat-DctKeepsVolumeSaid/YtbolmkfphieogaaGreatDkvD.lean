/- Parts of the proof: contracts of functions, each walked once, and plain laws. -/
import Derived.Test.YtbolmkfphieogaaGreatDkvC
namespace Go.Proofs.YtbolmkfphieogaaGreat
open Go.RowKit
set_option linter.unusedVariables false
theorem k_natural {u w : World} {x : Sl} (d : Dat u w) : Calls Tryz.prog 195 #[x.v] w (Post u w fun v _ => v = .agg #[.bool false, x.v]) := by
 refine zzl (args := [.slice x.a x.n x.c]) Tryz.func195 rfl Tryz.ntmps195 (rs := [.cell 2 24]) Tryz.results195 (le_b rfl) (le_b rfl) d ?_
 refine sq9 (zzj 2 ⟨24, [.bool false, .slice none 0 0]⟩ (zzb (sq9 (zza 3 (.v x.v) (zza 4 (.v (.agg #[.bool false, x.v])) (zzi ⟨24, [.bool false, x.v]⟩ ty24 ?_))))))
 refine zzb (zzn (ret0 [.agg #[.bool false, .slice x.a x.n x.c]] ⟨zzq ty24 zze, trivial⟩ fun u11 e12 => ?_))
 exact rfl
theorem k_whole {u w : World} {i : IL} (d : Dat u w) : Calls Tryz.prog 193 #[i.v] w (Post u w fun v u' => ∃ y : Sl, v = .agg #[.bool i.s, i.m.v, y.v] ∧ NatN u' y 1 1) := by
 refine zzl (args := [i.v]) Tryz.func193 rfl Tryz.ntmps193 (rs := [.cell 2 26]) Tryz.results193 (le_b rfl) (le_b rfl) d ?_
 refine sq9 (zzj 1 ⟨24, i.cs⟩ (zzj 2 ⟨26, [.bool false, .slice none 0 0, .slice none 0 0]⟩ (zzb (sq9 (zzh 3 (.v (i.v)) ty24 zze (zxw 4 ⟨104, [.int .u32 1]⟩ 1 (fun b11 u12 e13 h14 => ?_)))))))
 refine zza 5 (.v (.agg #[.bool i.s, i.m.v, .slice (some ⟨b11, 0, none⟩) 1 1])) (zzi ⟨26, i.cs ++ [.slice (some ⟨b11, 0, none⟩) 1 1]⟩ ty26 ?_)
 refine zzb (zzn (ret0 [.agg #[.bool i.s, .slice i.m.a i.m.n i.m.c, .slice (some ⟨b11, 0, none⟩) 1 1]] ⟨zzq ty26 zze, trivial⟩ fun u15 e16 => ?_))
 exact ⟨_, rfl, ((one_data h14).ext e16)⟩
theorem k_quotient {u w : World} {i j : IL} (d : Dat u w) : Calls Tryz.prog 196 #[i.v, j.v] w (Post u w fun v _ => v = .agg #[.bool (!(i.s == j.s)), i.m.v, j.m.v]) := by
 refine zzl (args := [i.v, j.v]) Tryz.func196 rfl Tryz.ntmps196 (rs := [.cell 4 147]) Tryz.results196 (le_b rfl) (le_b rfl) d ?_
 refine sq9 (zzj 2 ⟨24, i.cs⟩ (zzj 3 ⟨24, j.cs⟩ (zzj 4 ⟨147, [.bool false, .slice none 0 0, .slice none 0 0]⟩ (zzb (sq9 (zza 5 (.adr 2 0) (zzh 6 (zB i.s) ty4 zzk (zza 7 (.adr 3 0) (zzh 8 (zB j.s) ty4 zzk (zza 9 (zB (!(i.s == j.s))) (zza 10 (.adr 2 1) ?_)))))))))))
 refine zzh 11 (.v i.m.v) ty22 zzk (zza 12 (.v (.agg #[.bool (!(i.s == j.s)), i.m.v])) (zza 13 (.adr 3 1) (zzh 14 (.v j.m.v) ty22 zzk (zza 15 (.v (.agg #[.bool (!(i.s == j.s)), i.m.v, j.m.v])) (zzi ⟨147, [.bool (!(i.s == j.s)), i.m.v, j.m.v]⟩ ty147 ?_)))))
 refine zzb (zzn (ret0 [.agg #[.bool (!(i.s == j.s)), .slice i.m.a i.m.n i.m.c, .slice j.m.a j.m.n j.m.c]] ⟨zzq ty147 zze, trivial⟩ fun u11 e12 => ?_))
 exact rfl
theorem k_flip {u w : World} {r : RL} (d : Dat u w) : Calls Tryz.prog 226 #[r.v] w (Post u w fun v _ => v = .agg #[.bool (!r.s), r.m.v, r.d.v]) := by
 refine zzl (args := [r.v]) Tryz.func226 rfl Tryz.ntmps226 (rs := [.cell 2 26]) Tryz.results226 (le_b rfl) (le_b rfl) d ?_
 refine sq9 (zzj 1 ⟨26, r.cs⟩ (zzj 2 ⟨26, [.bool false, .slice none 0 0, .slice none 0 0]⟩ (zzb (sq9 (zza 3 (.adr 1 0) (zza 4 (.adr 1 0) (zzh 5 (zB r.s) ty4 zzk (zza 6 (zB (!r.s)) (zza 7 (.adr 1 0) (zza 8 (.adr 1 1) (zzh 9 (.v r.m.v) ty22 zzk ?_)))))))))))
 refine zza 10 (.v (.agg #[.bool (!r.s), r.m.v])) (zza 11 (.adr 1 2) (zzh 12 (.v r.d.v) ty22 zzk (zza 13 (.v (.agg #[.bool (!r.s), r.m.v, r.d.v])) (zzi ⟨26, [.bool (!r.s), r.m.v, r.d.v]⟩ ty26 ?_))))
 refine zzb (zzn (ret0 [.agg #[.bool (!r.s), .slice r.m.a r.m.n r.m.c, .slice r.d.a r.d.n r.d.c]] ⟨zzq ty26 zze, trivial⟩ fun u11 e12 => ?_))
 exact rfl
set_option maxHeartbeats 1000000 in
theorem k_read {u w : World} {r : RL} {q : Rat} {K : Nat} (d : Dat u w) (h : RatV u r q K) : Calls Tryz.prog 147 #[r.v] w (Post u w fun v u' => ∃ (r' : RL) (wh : Bool), v = .agg #[.bool r'.s, r'.m.v, r'.d.v, .bool wh] ∧ NumV u' r' wh q K) := by
 obtain ⟨⟨z, D, hi, hd, hq⟩, hK⟩ := h
 change IntV u ⟨r.s, r.m⟩ z K at hi
 change NatV u r.d D K at hd
 by_cases hn : r.d.n = 1
 ·obtain ⟨b, o, ha, hc⟩ := nat_digit hd hn
  by_cases hD : D = 1
  ·refine zzl (args := [r.v]) Tryz.func147 rfl Tryz.ntmps147 (rs := [.cell 2 149]) Tryz.results147 (le_b rfl) (le_b rfl) d ?_
   refine sq9 (zzj 1 ⟨26, r.cs⟩ (zzj 2 ⟨149, [.bool false, .slice none 0 0, .slice none 0 0, .bool false]⟩ (zzb (zzd (sq9 (zza 3 (.adr 1 2) (zzh 4 (.v r.d.v) ty22 zzk (zza 5 (zI r.d.n) (zyp 6 (x := zB ((r.d.n : Int) == 1)) (zB true) (by rw [show ((r.d.n : Int) == 1) = true from (by simp [hn])]) (zza 7 (zB true) (zza 8 (.adr 1 2) ?_ (hw := w1 4 true 7))))))))))))
   refine zzh 9 (.v r.d.v) ty22 zzk ?_ (hw := w1 4 true 7)
   refine zzz 10 o (i := 0) (n := r.d.n) (by simp) ha xq (by rw [hn]; decide) sl22 ?_ (hw := w1 4 true 7)
   refine zyk 11 (.int .u32 D) ((Ext.refl _).cell hc) ty104 ?_ (hw := w1 4 true 7)
   refine zyp 12 (x := zB ((D : Int) == 1)) (zB true) (by rw [show ((D : Int) == 1) = true from (by simp [hD])]) ?_ (hw := w1 4 true 7)
   refine zza 13 (zB true) (zzb (zyq xj (sq9 (zza 14 (.adr 1 0) (zzh 15 (.v (.agg #[.bool r.s, r.m.v])) ty24 zze (zza 16 (.adr 1 2) (zzh 17 (.v r.d.v) ty22 zzk (zza 18 (.v (r.v)) (zza 19 (.v (.agg #[.bool r.s, r.m.v, r.d.v, .bool true])) (zzi ⟨149, r.cs ++ [.bool true]⟩ ty149 ?_))))))))))
   refine zzb (zzn (zzv (ret0 [.agg #[.bool r.s, .slice r.m.a r.m.n r.m.c, .slice r.d.a r.d.n r.d.c, .bool true]] ⟨zzq ty149 zze, trivial⟩ fun u11 e12 => ?_)))
   exact ⟨r, true, rfl, z, D, hi.ext e12, hd.ext e12, by omega, hq, fun _ => hD, hK⟩
  ·refine zzl (args := [r.v]) Tryz.func147 rfl Tryz.ntmps147 (rs := [.cell 2 149]) Tryz.results147 (le_b rfl) (le_b rfl) d ?_
   refine sq9 (zzj 1 ⟨26, r.cs⟩ (zzj 2 ⟨149, [.bool false, .slice none 0 0, .slice none 0 0, .bool false]⟩ (zzb (zzd (sq9 (zza 3 (.adr 1 2) (zzh 4 (.v r.d.v) ty22 zzk (zza 5 (zI r.d.n) (zyp 6 (x := zB ((r.d.n : Int) == 1)) (zB true) (by rw [show ((r.d.n : Int) == 1) = true from (by simp [hn])]) (zza 7 (zB true) (zza 8 (.adr 1 2) ?_ (hw := w1 4 true 7))))))))))))
   refine zzh 9 (.v r.d.v) ty22 zzk ?_ (hw := w1 4 true 7)
   refine zzz 10 o (i := 0) (n := r.d.n) (by simp) ha xq (by rw [hn]; decide) sl22 ?_ (hw := w1 4 true 7)
   refine zyk 11 (.int .u32 D) ((Ext.refl _).cell hc) ty104 ?_ (hw := w1 4 true 7)
   refine zyp 12 (x := zB ((D : Int) == 1)) (zB false) (by rw [show ((D : Int) == 1) = false from yy]) ?_ (hw := w1 4 true 7)
   refine zza 13 (zB false) (zzb (zyr xj (zzr (zzo ?_))))
   refine zzd (sq9 (zza 20 (.adr 1 2) (zzh 21 (.v r.d.v) ty22 zzk (zzg 22 83 [r.d.v, .slice none 0 0] ?_))))
   intro w11 u11 e11 d11
   have k14 := k_natCompare d11 (hd.ext e11) (nat_nil _ 1)
   with_reducible refine zPm k14 ?_
   rintro _ u12 g13 rfl
   refine zza 23 (zB ((Nt.cmpS D 0) == 0)) (zzb (zzt (b := (Nt.cmpS D 0) == 0) xj (fun hb15 => ?_) (fun hb15 => ?_)))
   ·replace hb15 : ((Nt.cmpS D 0) == 0) = true := hb15
    refine sq9 (zza 24 (.v (.agg #[.bool false, .slice none 0 0])) (zxw 25 ⟨104, [.int .u32 1]⟩ 1 (fun b16 u17 e18 h19 => ?_)))
    refine zza 26 (.v (.agg #[.bool false, .slice none 0 0, .slice (some ⟨b16, 0, none⟩) 1 1])) (zza 27 (.v (.agg #[.bool false, .slice none 0 0, .slice (some ⟨b16, 0, none⟩) 1 1, .bool true])) (zzi ⟨149, [.bool false, .slice none 0 0, .slice (some ⟨b16, 0, none⟩) 1 1, .bool true]⟩ ty149 ?_))
    refine zzb (zzn (zzv (ret0 [.agg #[.bool false, .slice none 0 0, .slice (some ⟨b16, 0, none⟩) 1 1, .bool true]] ⟨zzq ty149 zze, trivial⟩ fun u20 e21 => ?_)))
    have hD0 : D = 0 := (Nt.cmp_nat0 hb15).1 rfl
    refine ⟨⟨false, ⟨none, 0, 0⟩, (⟨some ⟨b16, 0, none⟩, 1, 1⟩ : Sl)⟩, true, rfl, 0, 1, (⟨0, nat_nil _ K, rfl⟩ : IntV _ ⟨false, ⟨none, 0, 0⟩⟩ 0 K), ((one_data h19).ext e21).raw.more hK, by omega, ?_, fun _ => rfl, hK⟩
    rw [hq, hD0]; simp
   ·replace hb15 : ((Nt.cmpS D 0) == 0) = false := hb15
    refine zzr (zzo ?_)
    refine sq9 (zza 28 (.adr 1 0) (zzh 29 (.v (.agg #[.bool r.s, r.m.v])) ty24 zze (zza 30 (.adr 1 2) (zzh 31 (.v r.d.v) ty22 zzk (zza 32 (.v (r.v)) (zza 33 (.v (.agg #[.bool r.s, r.m.v, r.d.v, .bool false])) (zzi ⟨149, r.cs ++ [.bool false]⟩ ty149 ?_)))))))
    refine zzb (zzn (ret0 [.agg #[.bool r.s, .slice r.m.a r.m.n r.m.c, .slice r.d.a r.d.n r.d.c, .bool false]] ⟨zzq ty149 zze, trivial⟩ fun u22 e23 => ?_))
    have hD0 : 0 < D := (Nt.cmp_nat0 hb15).2 rfl
    exact ⟨r, false, rfl, z, D, hi.ext (e11.trans (g13.ext.trans e23)), hd.ext (e11.trans (g13.ext.trans e23)), hD0, hq, (fun k => by cases k), hK⟩
 ·refine zzl (args := [r.v]) Tryz.func147 rfl Tryz.ntmps147 (rs := [.cell 2 149]) Tryz.results147 (le_b rfl) (le_b rfl) d ?_
  refine sq9 (zzj 1 ⟨26, r.cs⟩ (zzj 2 ⟨149, [.bool false, .slice none 0 0, .slice none 0 0, .bool false]⟩ (zzb (zzd (sq9 (zza 3 (.adr 1 2) (zzh 4 (.v r.d.v) ty22 zzk (zza 5 (zI r.d.n) (zyp 6 (x := zB ((r.d.n : Int) == 1)) (zB false) (by rw [show ((r.d.n : Int) == 1) = false from yy]) (zza 7 (zB false) (zzm 8 (uw 4 true false 7) ?_)))))))))))
  refine zzm 9 (uw 4 true false 7) (zzm 10 (uw 4 true false 7) (zzm 11 (uw 4 true false 7) (zzm 12 (uw 4 true false 7) (zza 13 (zB false) (zzb (zyr xj (zzr (zzo ?_))))))))
  refine zzd (sq9 (zza 20 (.adr 1 2) (zzh 21 (.v r.d.v) ty22 zzk (zzg 22 83 [r.d.v, .slice none 0 0] ?_))))
  intro w11 u11 e11 d11
  have k14 := k_natCompare d11 (hd.ext e11) (nat_nil _ 1)
  with_reducible refine zPm k14 ?_
  rintro _ u12 g13 rfl
  refine zza 23 (zB ((Nt.cmpS D 0) == 0)) (zzb (zzt (b := (Nt.cmpS D 0) == 0) xj (fun hb15 => ?_) (fun hb15 => ?_)))
  ·replace hb15 : ((Nt.cmpS D 0) == 0) = true := hb15
   refine sq9 (zza 24 (.v (.agg #[.bool false, .slice none 0 0])) (zxw 25 ⟨104, [.int .u32 1]⟩ 1 (fun b16 u17 e18 h19 => ?_)))
   refine zza 26 (.v (.agg #[.bool false, .slice none 0 0, .slice (some ⟨b16, 0, none⟩) 1 1])) (zza 27 (.v (.agg #[.bool false, .slice none 0 0, .slice (some ⟨b16, 0, none⟩) 1 1, .bool true])) (zzi ⟨149, [.bool false, .slice none 0 0, .slice (some ⟨b16, 0, none⟩) 1 1, .bool true]⟩ ty149 ?_))
   refine zzb (zzn (zzv (ret0 [.agg #[.bool false, .slice none 0 0, .slice (some ⟨b16, 0, none⟩) 1 1, .bool true]] ⟨zzq ty149 zze, trivial⟩ fun u20 e21 => ?_)))
   have hD0 : D = 0 := (Nt.cmp_nat0 hb15).1 rfl
   refine ⟨⟨false, ⟨none, 0, 0⟩, (⟨some ⟨b16, 0, none⟩, 1, 1⟩ : Sl)⟩, true, rfl, 0, 1, (⟨0, nat_nil _ K, rfl⟩ : IntV _ ⟨false, ⟨none, 0, 0⟩⟩ 0 K), ((one_data h19).ext e21).raw.more hK, by omega, ?_, fun _ => rfl, hK⟩
   rw [hq, hD0]; simp
  ·replace hb15 : ((Nt.cmpS D 0) == 0) = false := hb15
   refine zzr (zzo ?_)
   refine sq9 (zza 28 (.adr 1 0) (zzh 29 (.v (.agg #[.bool r.s, r.m.v])) ty24 zze (zza 30 (.adr 1 2) (zzh 31 (.v r.d.v) ty22 zzk (zza 32 (.v (r.v)) (zza 33 (.v (.agg #[.bool r.s, r.m.v, r.d.v, .bool false])) (zzi ⟨149, r.cs ++ [.bool false]⟩ ty149 ?_)))))))
   refine zzb (zzn (ret0 [.agg #[.bool r.s, .slice r.m.a r.m.n r.m.c, .slice r.d.a r.d.n r.d.c, .bool false]] ⟨zzq ty149 zze, trivial⟩ fun u22 e23 => ?_))
   have hD0 : 0 < D := (Nt.cmp_nat0 hb15).2 rfl
   exact ⟨r, false, rfl, z, D, hi.ext (e11.trans (g13.ext.trans e23)), hd.ext (e11.trans (g13.ext.trans e23)), hD0, hq, (fun k => by cases k), hK⟩
theorem k_isOne {u w : World} {x : Sl} {N K : Nat} (d : Dat u w) (h : NatN u x N K) : Calls Tryz.prog 213 #[x.v] w (Post u w fun v _ => v = .bool (decide (N = 1))) := by
 by_cases hn : x.n = 1
 ·obtain ⟨b, o, ha, hc⟩ := nat_digit h.raw hn
  refine zzl (args := [.slice x.a x.n x.c]) Tryz.func213 rfl Tryz.ntmps213 (rs := [.tmp 2]) Tryz.results213 (le_b rfl) (le_b rfl) d ?_
  refine sq9 (zza 2 (zB false) (zzb (sq9 (zza 3 (.v x.v) (zza 4 (zI x.n) (zyp 5 (x := zB ((x.n : Int) == 1)) (zB true) (by rw [show ((x.n : Int) == 1) = true from (by simp [hn])]) (zza 6 (zB true) (zza 7 (.v x.v) ?_ (hw := w1 3 true 6)))))))))
  refine zzz 8 o (i := 0) (n := x.n) (by simp) ha xq (by rw [hn]; decide) sl22 ?_ (hw := w1 3 true 6)
  refine zyk 9 (.int .u32 N) ((Ext.refl _).cell hc) ty104 ?_ (hw := w1 3 true 6)
  refine zza 10 (zB ((N : Int) == 1)) ?_ (hw := w1 3 true 6)
  refine zza 11 (zB ((N : Int) == 1)) (zza 2 (zB ((N : Int) == 1)) (zzb (zzn (ret0 [.bool ((N : Int) == 1)] ⟨zzp, trivial⟩ fun u11 e12 => ?_))))
  show Value.bool _ = Value.bool _
  congr 1
  rw [Bool.eq_iff_iff]
  simp <;> omega
 ·have hN : N ≠ 1 := fun e => hn (by rw [h.1, e, Nt.dl_one])
  refine zzl (args := [.slice x.a x.n x.c]) Tryz.func213 rfl Tryz.ntmps213 (rs := [.tmp 2]) Tryz.results213 (le_b rfl) (le_b rfl) d ?_
  refine sq9 (zza 2 (zB false) (zzb (sq9 (zza 3 (.v x.v) (zza 4 (zI x.n) (zyp 5 (x := zB ((x.n : Int) == 1)) (zB false) (by rw [show ((x.n : Int) == 1) = false from yy]) (zza 6 (zB false) (zzm 7 (uw 3 true false 6) (zzm 8 (uw 3 true false 6) (zzm 9 (uw 3 true false 6) (zzm 10 (uw 3 true false 6) ?_)))))))))))
  refine zza 11 (zB false) (zza 2 (zB false) (zzb (zzn (ret0 [.bool false] ⟨zzp, trivial⟩ fun u11 e12 => ?_))))
  show _ = _
  simp [tupV]
  exact hN
set_option maxHeartbeats 1000000 in
theorem k_lowest {u w : World} {i : IL} {z : Int} {y : Sl} {D K L : Nat} (d : Dat u w) (h1 : IntV u i z K) (hD : NatV u y D L) (hp : 0 < D) (hK : K ≤ 500000000) (hL : L ≤ 500000000) : Calls Tryz.prog 148 #[.agg #[.bool i.s, i.m.v, y.v]] w (Post u w fun v u' => ∃ r : RL, v = r.v ∧ RatN u' r (mkRat z D) (max K L)) := by
 obtain ⟨N, hN, hz⟩ := h1
 have hL1 : 1 ≤ L := by have h2 := hD.size; have h3 := Nt.dl_mono (x := D) (y := 1) xq; rw [Nt.dl_one] at h3; omega
 refine zzl (args := [.agg #[.bool i.s, .slice i.m.a i.m.n i.m.c, .slice y.a y.n y.c]]) Tryz.func148 rfl Tryz.ntmps148 (rs := [.cell 2 26]) Tryz.results148 (le_b rfl) (le_b rfl) d ?_
 refine sq9 (zzj 1 ⟨147, i.cs ++ [y.v]⟩ (zzj 2 ⟨26, [.bool false, .slice none 0 0, .slice none 0 0]⟩ (zzb (sq9 (zza 14 (.adr 1 0) (zza 15 (.adr 1 1) (zzh 16 (.v i.m.v) ty22 zzk (zza 17 (.adr 1 2) (zzh 18 (.v y.v) ty22 zzk (zzg 19 80 [i.m.v, y.v] ?_))))))))))
 intro w11 u11 e11 d11
 have k18 := k_natDivMod d11 (hN.ext e11) (hD.ext e11) hp xq xq
 with_reducible refine zPm k18 ?_
 rintro _ u16 g17 ⟨x12, x13, rfl, h14, h15⟩
 refine zza 13 (.v (.tuple #[x12.v, x13.v, .int .i64 0])) (zza 20 (.v x12.v) (zza 21 (.v x13.v) (zza 22 (zI 0) (zza 3 (.v x12.v) (zza 4 (.v x13.v) (zza 5 (zI 0) (zzb (zzd (sq9 (zza 23 (.v x13.v) (zza 24 (zI x13.n) ?_)))))))))))
 refine zza 25 (zB ((x13.n : Int) == 0)) (zzb (zzt (b := (x13.n : Int) == 0) xj (fun hb19 => ?_) (fun hb19 => ?_)))
 ·replace hb19 : ((x13.n : Int) == 0) = true := hb19
  have qhb19 : (x13.n : Int) = 0 := by simpa using hb19
  have hr : N % D = 0 := by have h7 := (h15).pos; simp at hb19; omega
  refine sq9 (zza 26 (.adr 1 0) (zza 27 (.adr 1 0) (zzh 28 (zB i.s) ty4 zzk (zza 29 (.v x12.v) (zza 30 (.v (.agg #[.bool i.s, x12.v])) (zzg 31 211 [.agg #[.bool i.s, x12.v]] ?_))))))
  intro w20 u20 e20 d20
  have k25 := k_intTrim d20 (IntV.same (s := i.s) (h14.ext e20).raw) xq
  with_reducible refine zPm k25 ?_
  rintro _ u23 g24 ⟨i21, rfl, h22⟩
  refine zzg 32 193 [i21.v] ?_
  intro w26 u26 e26 d26
  have k31 := k_whole (i := i21) d26
  with_reducible refine zPm k31 ?_
  rintro _ u29 g30 ⟨y27, rfl, h28⟩
  refine zzi ⟨26, i21.cs ++ [y27.v]⟩ ty26 ?_
  refine zzb (zzn (zzv (ret0 [.agg #[.bool i21.s, .slice i21.m.a i21.m.n i21.m.c, .slice y27.a y27.n y27.c]] ⟨zzq ty26 zze, trivial⟩ fun u32 e33 => ?_)))
  refine ⟨(⟨i21.s, i21.m, y27⟩ : RL), rfl, RatN.more (K := (max K 1)) ?_ xq⟩
  rw [hz, ← low1 hp hr]
  exact ((whole_rat (h22.ext (e26.trans g30.ext)) h28).ext e33)
 ·replace hb19 : ((x13.n : Int) == 0) = false := hb19
  have qhb19 : ¬ ((x13.n : Int) = 0) := by simpa using hb19
  have hr : N % D ≠ 0 := by have h7 := (h15).pos; simp at hb19; omega
  refine zzr (zzo ?_)
  refine sq9 (zza 33 (.adr 1 2) (zzh 34 (.v y.v) ty22 zzk (zza 35 (.v x13.v) (zzg 36 212 [y.v, x13.v] ?_))))
  intro w34 u34 e34 d34
  have k39 := k_natGcd d34 (hD.ext (e11.trans (g17.ext.trans e34))) (h15.ext e34).raw xq xq
  with_reducible refine zPm k39 ?_
  rintro _ u37 g38 ⟨x35, rfl, h36⟩
  refine zza 6 (.v x35.v) (zzb (zzd (sq9 (zza 37 (.v x35.v) (zzg 38 213 [x35.v] ?_)))))
  intro w40 u40 e40 d40
  have k43 := k_isOne d40 (h36.ext e40)
  with_reducible refine zPm k43 ?_
  rintro _ u41 g42 rfl
  refine zzb (zzt (b := decide ((Nat.gcd D (N % D)) = 1)) xj (fun hb44 => ?_) (fun hb44 => ?_))
  ·replace hb44 : (decide ((Nat.gcd D (N % D)) = 1)) = true := hb44
   have qhb44 := of_decide_eq_true hb44
   have hg : Nat.gcd D (N % D) = 1 := by simpa using hb44
   have hgp : 0 < Nat.gcd D (N % D) := Nat.gcd_pos_of_pos_left _ hp
   refine zzd (zzy [0, 1, 3, 0, 8, 31, 63, 127] [(0, []), (1, []), (3, []), (4, []), (2, []), (5, []), (6, []), (7, [])] xj xj (zza 39 (.adr 1 0) (zzh 40 (.v (i.v)) ty24 zze (zza 42 (.adr 1 2) (zzh 43 (.v y.v) ty22 zzk (zzg 41 211 [i.v] ?_))))))
   intro w45 u45 e45 d45
   have k50 := k_intTrim d45 (IntV.same (s := i.s) (hN.ext (e11.trans (g17.ext.trans (e34.trans (g38.ext.trans (e40.trans (g42.ext.trans e45)))))))) xq
   with_reducible refine zPm k50 ?_
   rintro _ u48 g49 ⟨i46, rfl, h47⟩
   refine zzg 44 214 [y.v] ?_
   intro w51 u51 e51 d51
   have k56 := k_natTrim d51 (hD.ext (e11.trans (g17.ext.trans (e34.trans (g38.ext.trans (e40.trans (g42.ext.trans (e45.trans (g49.ext.trans e51))))))))) xq
   with_reducible refine zPm k56 ?_
   rintro _ u54 g55 ⟨x52, rfl, h53⟩
   refine zza 45 (.v (.agg #[.bool i46.s, i46.m.v, x52.v])) (zzi ⟨26, i46.cs ++ [x52.v]⟩ ty26 ?_)
   refine zzc 70 [(2, .adr 2 0)] [(2, ⟨26, i46.cs ++ [x52.v]⟩)] (zzn (zzv (ret0 [.agg #[.bool i46.s, .slice i46.m.a i46.m.n i46.m.c, .slice x52.a x52.n x52.c]] ⟨zzq ty26 zze, trivial⟩ fun u57 e58 => ?_)))
   refine ⟨(⟨i46.s, i46.m, x52⟩ : RL), rfl, ?_⟩
   rw [hz]
   exact low2 hp hg (h47.ext (e51.trans (g55.ext.trans e58))) (h53.ext e58)
  ·replace hb44 : (decide ((Nat.gcd D (N % D)) = 1)) = false := hb44
   have qhb44 := of_decide_eq_false hb44
   have hg : ¬ Nat.gcd D (N % D) = 1 := by simpa using hb44
   have hgp : 0 < Nat.gcd D (N % D) := Nat.gcd_pos_of_pos_left _ hp
   refine zzr (zzo ?_)
   refine sq9 (zza 47 (.adr 1 0) (zza 48 (.adr 1 1) (zzh 49 (.v i.m.v) ty22 zzk (zza 50 (.v x35.v) (zzg 51 80 [i.m.v, x35.v] ?_)))))
   intro w59 u59 e59 d59
   have k66 := k_natDivMod d59 (hN.ext (e11.trans (g17.ext.trans (e34.trans (g38.ext.trans (e40.trans (g42.ext.trans e59))))))) (h36.ext (e40.trans (g42.ext.trans e59))).raw hgp xq xq
   with_reducible refine zPm k66 ?_
   rintro _ u64 g65 ⟨x60, x61, rfl, h62, h63⟩
   refine zza 46 (.v (.tuple #[x60.v, x61.v, .int .i64 0])) (zza 52 (.v x60.v) (zza 53 (.v x61.v) (zza 54 (zI 0) (zza 7 (.v x60.v) (zza 8 (.v x61.v) (zza 9 (zI 0) (zzc 70 [(1, .adr 1 0), (2, .adr 2 0), (6, .v x35.v), (7, .v x60.v)] [(1, ⟨147, i.cs ++ [y.v]⟩), (2, ⟨26, [.bool false, .slice none 0 0, .slice none 0 0]⟩)] (sq9 (zza 56 (.adr 1 2) (zzh 57 (.v y.v) ty22 zzk (zza 58 (.v x35.v) ?_)))))))))))
   refine zzg 59 80 [y.v, x35.v] ?_
   intro w67 u67 e67 d67
   have k74 := k_natDivMod d67 (hD.ext (e11.trans (g17.ext.trans (e34.trans (g38.ext.trans (e40.trans (g42.ext.trans (e59.trans (g65.ext.trans e67))))))))) (h36.ext (e40.trans (g42.ext.trans (e59.trans (g65.ext.trans e67))))).raw hgp xq xq
   with_reducible refine zPm k74 ?_
   rintro _ u72 g73 ⟨x68, x69, rfl, h70, h71⟩
   refine zza 55 (.v (.tuple #[x68.v, x69.v, .int .i64 0])) (zza 60 (.v x68.v) (zza 61 (.v x69.v) (zza 62 (zI 0) (zza 10 (.v x68.v) (zza 11 (.v x69.v) (zza 12 (zI 0) (zzb (sq9 (zza 63 (.adr 1 0) (zza 64 (.adr 1 0) (zzh 65 (zB i.s) ty4 zzk ?_)))))))))))
   refine zza 66 (.v x60.v) (zza 67 (.v (.agg #[.bool i.s, x60.v])) (zza 68 (.v x68.v) (zza 69 (.v (.agg #[.bool i.s, x60.v, x68.v])) (zzi ⟨26, [.bool i.s, x60.v, x68.v]⟩ ty26 ?_))))
   refine zzb (zzn (ret0 [.agg #[.bool i.s, .slice x60.a x60.n x60.c, .slice x68.a x68.n x68.c]] ⟨zzq ty26 zze, trivial⟩ fun u75 e76 => ?_))
   refine ⟨(⟨i.s, x60, x68⟩ : RL), rfl, RatN.more (K := max K L) ?_ xq⟩
   rw [hz]
   exact low3 hp hr (h62.ext (e67.trans (g73.ext.trans e76))) (h70.ext e76)
theorem k_ratTrim {u w : World} {r1 : RL} {x : Rat} {K : Nat} (d : Dat u w) (hr1 : RatV u r1 x K) (hK : K ≤ 200000000) : Calls Tryz.prog 78 #[r1.v] w (Post u w fun v u' => ∃ r : RL, v = r.v ∧ RatN u' r x K) := by
 refine zzl (args := [r1.v]) Tryz.func78 rfl Tryz.ntmps78 (rs := [.cell 2 26]) Tryz.results78 (le_b rfl) (le_b rfl) d ?_
 refine sq9 (zzj 1 ⟨26, r1.cs⟩ (zzj 2 ⟨26, [.bool false, .slice none 0 0, .slice none 0 0]⟩ (zzb (sq9 (zzh 3 (.v (r1.v)) ty26 zze (zzg 4 147 [r1.v] ?_))))))
 intro w11 u11 e11 d11
 have k15 := k_read d11 (hr1.ext e11)
 with_reducible refine zPm k15 ?_
 rintro _ u13 g14 ⟨r12, wh12, rfl, z12, D12, hi12, hd12, hp12, hq12, hw12, hk12⟩
 refine zza 5 (.v (r12.v)) (zzg 6 148 [r12.v] ?_)
 intro w16 u16 e16 d16
 have k21 := k_lowest d16 (hi12.ext e16) (hd12.ext e16) hp12 xq xq
 with_reducible refine zPm k21 ?_
 rintro _ u19 g20 ⟨r17, rfl, h18⟩
 refine zzi ⟨26, r17.cs⟩ ty26 ?_
 refine zzb (zzn (ret0 [r17.v] ⟨zzq ty26 zze, trivial⟩ fun u22 e23 => ?_))
 refine ⟨r17, rfl, RatN.more (K := (max K K)) ?_ xq⟩
 rw [hq12]; exact (h18.ext e23)
theorem k_ratOf {u w : World} {z : Int} (d : Dat u w) (h0 : -9223372036854775808 ≤ z) (h1 : z ≤ 9223372036854775807) : Calls Tryz.prog 118 #[.int .i64 z] w (Post u w fun v u' => ∃ r : RL, v = r.v ∧ RatN u' r (z : Rat) 2) := by
 refine zzl (args := [.int .i64 z]) Tryz.func118 rfl Tryz.ntmps118 (rs := [.cell 2 26]) Tryz.results118 (le_b rfl) (le_b rfl) d ?_
 refine sq9 (zzj 2 ⟨26, [.bool false, .slice none 0 0, .slice none 0 0]⟩ (zzb (sq9 (zza 3 (zI z) (zzg 4 160 [.int .i64 z] ?_)))))
 intro w11 u11 e11 d11
 have k16 := k_intOf d11 (z := z) xq xq
 with_reducible refine zPm k16 ?_
 rintro _ u14 g15 ⟨i12, rfl, h13⟩
 refine zzg 5 193 [i12.v] ?_
 intro w17 u17 e17 d17
 have k22 := k_whole (i := i12) d17
 with_reducible refine zPm k22 ?_
 rintro _ u20 g21 ⟨y18, rfl, h19⟩
 refine zzi ⟨26, i12.cs ++ [y18.v]⟩ ty26 ?_
 refine zzb (zzn (ret0 [.agg #[.bool i12.s, .slice i12.m.a i12.m.n i12.m.c, .slice y18.a y18.n y18.c]] ⟨zzq ty26 zze, trivial⟩ fun u23 e24 => ?_))
 refine ⟨(⟨i12.s, i12.m, y18⟩ : RL), rfl, RatN.more (K := (max 2 1)) ?_ xq⟩
 exact ((whole_rat (h13.ext (e17.trans g21.ext)) h19).ext e24)
theorem k_ratSign {u w : World} {r1 : RL} {x : Rat} {K : Nat} (d : Dat u w) (hr1 : RatV u r1 x K)  : Calls Tryz.prog 76 #[r1.v] w (Post u w fun v u' => v = .int .i64 (Nt.sgQ x)) := by
 refine zzl (args := [r1.v]) Tryz.func76 rfl Tryz.ntmps76 (rs := [.tmp 2]) Tryz.results76 (le_b rfl) (le_b rfl) d ?_
 refine sq9 (zzj 1 ⟨26, r1.cs⟩ (zza 2 (zI 0) (zzb (sq9 (zzh 3 (.v (r1.v)) ty26 zze (zzg 4 147 [r1.v] ?_))))))
 intro w11 u11 e11 d11
 have k15 := k_read d11 (hr1.ext e11)
 with_reducible refine zPm k15 ?_
 rintro _ u13 g14 ⟨r12, wh12, rfl, z12, D12, hi12, hd12, hp12, hq12, hw12, hk12⟩
 refine zza 5 (.v (r12.v)) (zza 6 (.v (.agg #[.bool r12.s, r12.m.v])) (zzg 7 146 [.agg #[.bool r12.s, r12.m.v]] ?_))
 intro w16 u16 e16 d16
 have k19 := k_intSign d16 (hi12.ext e16)
 with_reducible refine zPm k19 ?_
 rintro _ u17 g18 rfl
 refine zza 2 (zI (Nt.cmpS z12 0)) (zzb (zzn (ret0 [.int .i64 (Nt.cmpS z12 0)] ⟨zzp, trivial⟩ fun u20 e21 => ?_)))
 show _ = _
 rw [hq12, ← Nt.sg_mk hp12]
 rfl
theorem k_ratCompare {u w : World} {r1 : RL} {x : Rat} {K : Nat} {r2 : RL} {y : Rat} {L : Nat} (d : Dat u w) (hr1 : RatV u r1 x K) (hr2 : RatV u r2 y L) (hK : K ≤ 200000000) (hL : L ≤ 200000000) : Calls Tryz.prog 197 #[r1.v, r2.v] w (Post u w fun v u' => v = .int .i64 (Nt.cmpQ x y)) := by
 refine zzl (args := [r1.v, r2.v]) Tryz.func197 rfl Tryz.ntmps197 (rs := [.tmp 4]) Tryz.results197 (le_b rfl) (le_b rfl) d ?_
 refine sq9 (zzj 2 ⟨26, r1.cs⟩ (zzj 3 ⟨26, r2.cs⟩ (zza 4 (zI 0) (zzb (zzd (zzy [0, 1, 0, 7, 0, 0, 63, 127] [(0, []), (2, []), (4, []), (5, []), (1, []), (3, []), (6, []), (7, [])] xj xj (zzh 7 (.v (r1.v)) ty26 zze (zzh 9 (.v (r2.v)) ty26 zze (zzj 5 ⟨149, [.bool false, .slice none 0 0, .slice none 0 0, .bool false]⟩ (zzj 6 ⟨149, [.bool false, .slice none 0 0, .slice none 0 0, .bool false]⟩ (zzg 8 147 [r1.v] ?_)))))))))))
 intro w11 u11 e11 d11
 have k15 := k_read d11 (hr1.ext e11)
 with_reducible refine zPm k15 ?_
 rintro _ u13 g14 ⟨r12, wh12, rfl, z12, D12, hi12, hd12, hp12, hq12, hw12, hk12⟩
 refine zzg 10 147 [r2.v] ?_
 intro w16 u16 e16 d16
 have k20 := k_read d16 (hr2.ext (e11.trans (g14.ext.trans e16)))
 with_reducible refine zPm k20 ?_
 rintro _ u18 g19 ⟨r17, wh17, rfl, z17, D17, hi17, hd17, hp17, hq17, hw17, hk17⟩
 refine zzi ⟨149, r12.cs ++ [.bool wh12]⟩ ty149 ?_
 refine zzi ⟨149, r17.cs ++ [.bool wh17]⟩ ty149 ?_
 refine zzb (zzd (sq9 (zza 11 (.adr 5 3) (zzh 12 (zB wh12) ty4 zzk ?_))))
 rcases Bool.eq_false_or_eq_true wh12 with hs21 | hs21
 ·refine zyp 13 (x := zB wh12) (zB true) (by rw [hs21]) (zza 14 (.adr 6 3) ?_ (hw := w1 2 true 13))
  refine zzh 15 (zB wh17) ty4 zzk ?_ (hw := w1 2 true 13)
  refine zza 16 (zB wh17) (zzb (zzt (b := wh17) xj (fun hb22 => ?_) (fun hb22 => ?_)))
  ·replace hb22 : wh17 = true := hb22
   refine sq9 (zza 17 (.adr 5 0) (zza 18 (.adr 5 0) (zzh 19 (.v (.agg #[.bool r12.s, r12.m.v])) ty24 zze (zza 20 (.adr 6 0) (zza 21 (.adr 6 0) (zzh 22 (.v (.agg #[.bool r17.s, r17.m.v])) ty24 zze (zzg 23 181 [.agg #[.bool r12.s, r12.m.v], .agg #[.bool r17.s, r17.m.v]] ?_)))))))
   intro w23 u23 e23 d23
   have k26 := k_intCompare d23 (hi12.ext (e16.trans (g19.ext.trans e23))) (hi17.ext e23)
   with_reducible refine zPm k26 ?_
   rintro _ u24 g25 rfl
   refine zza 4 (zI (Nt.cmpS z12 z17)) (zzb (zzn (zzv (ret0 [.int .i64 (Nt.cmpS z12 z17)] ⟨zzp, trivial⟩ fun u27 e28 => ?_))))
   show _ = _
   rw [hq12, hq17, ← Nt.cmp_mk hp12 hp17]
   rw [hw12 (by assumption), hw17 (by assumption)]
   simp [tupV]
  ·replace hb22 : wh17 = false := hb22
   refine zzr (zzo ?_)
   refine zzd (zzy [0, 1, 3, 0, 8, 24, 56, 127, 0, 256, 768, 0, 2048, 6144, 14591, 32767, 65535, 131071] [(0, []), (1, []), (2, []), (3, []), (4, []), (5, []), (8, []), (9, []), (10, []), (11, []), (12, []), (13, []), (6, []), (7, []), (14, []), (15, []), (16, []), (17, [])] xj xj (zza 24 (.adr 5 0) (zza 25 (.adr 5 0) (zzh 26 (.v (.agg #[.bool r12.s, r12.m.v])) ty24 zze (zza 27 (.adr 6 0) (zza 28 (.adr 6 2) (zzh 29 (.v r17.d.v) ty22 zzk (zza 32 (.adr 6 0) (zza 33 (.adr 6 0) (zzh 34 (.v (.agg #[.bool r17.s, r17.m.v])) ty24 zze (zza 35 (.adr 5 0) ?_)))))))))))
   refine zza 36 (.adr 5 2) (zzh 37 (.v r12.d.v) ty22 zzk (zzg 30 195 [r17.d.v] ?_))
   intro w29 u29 e29 d29
   have k32 := k_natural (x := r17.d) d29
   with_reducible refine zPm k32 ?_
   rintro _ u30 g31 rfl
   refine zzg 31 194 [.agg #[.bool r12.s, r12.m.v], .agg #[.bool false, r17.d.v]] ?_
   intro w33 u33 e33 d33
   have k38 := k_intMul d33 (hi12.ext (e16.trans (g19.ext.trans (e29.trans (g31.ext.trans e33))))) (nat_int (hd17.ext (e29.trans (g31.ext.trans e33)))) xq xq
   with_reducible refine zPm k38 ?_
   rintro _ u36 g37 ⟨i34, rfl, h35⟩
   refine zzg 38 195 [r12.d.v] ?_
   intro w39 u39 e39 d39
   have k42 := k_natural (x := r12.d) d39
   with_reducible refine zPm k42 ?_
   rintro _ u40 g41 rfl
   refine zzg 39 194 [.agg #[.bool r17.s, r17.m.v], .agg #[.bool false, r12.d.v]] ?_
   intro w43 u43 e43 d43
   have k48 := k_intMul d43 (hi17.ext (e29.trans (g31.ext.trans (e33.trans (g37.ext.trans (e39.trans (g41.ext.trans e43))))))) (nat_int (hd12.ext (e16.trans (g19.ext.trans (e29.trans (g31.ext.trans (e33.trans (g37.ext.trans (e39.trans (g41.ext.trans e43)))))))))) xq xq
   with_reducible refine zPm k48 ?_
   rintro _ u46 g47 ⟨i44, rfl, h45⟩
   refine zzg 40 181 [i34.v, i44.v] ?_
   intro w49 u49 e49 d49
   have k52 := k_intCompare d49 (h35.ext (e39.trans (g41.ext.trans (e43.trans (g47.ext.trans e49))))).raw (h45.ext e49).raw
   with_reducible refine zPm k52 ?_
   rintro _ u50 g51 rfl
   refine zza 4 (zI (Nt.cmpS (z12 * (D17 : Int)) (z17 * (D12 : Int)))) (zzc 41 [(4, zI (Nt.cmpS (z12 * (D17 : Int)) (z17 * (D12 : Int))))] [] (zzn (ret0 [.int .i64 (Nt.cmpS (z12 * (D17 : Int)) (z17 * (D12 : Int)))] ⟨zzp, trivial⟩ fun u53 e54 => ?_)))
   show _ = _
   rw [hq12, hq17, ← Nt.cmp_mk hp12 hp17]
   rfl
 ·refine zyp 13 (x := zB wh12) (zB false) (by rw [hs21]) (zzm 14 (uw 2 true false 13) (zzm 15 (uw 2 true false 13) (zza 16 (zB false) (zzb (zyr xj (zzr (zzo ?_)))))))
  refine zzd (zzy [0, 1, 3, 0, 8, 24, 56, 127, 0, 256, 768, 0, 2048, 6144, 14591, 32767, 65535, 131071] [(0, []), (1, []), (2, []), (3, []), (4, []), (5, []), (8, []), (9, []), (10, []), (11, []), (12, []), (13, []), (6, []), (7, []), (14, []), (15, []), (16, []), (17, [])] xj xj (zza 24 (.adr 5 0) (zza 25 (.adr 5 0) (zzh 26 (.v (.agg #[.bool r12.s, r12.m.v])) ty24 zze (zza 27 (.adr 6 0) (zza 28 (.adr 6 2) (zzh 29 (.v r17.d.v) ty22 zzk (zza 32 (.adr 6 0) (zza 33 (.adr 6 0) (zzh 34 (.v (.agg #[.bool r17.s, r17.m.v])) ty24 zze (zza 35 (.adr 5 0) ?_)))))))))))
  refine zza 36 (.adr 5 2) (zzh 37 (.v r12.d.v) ty22 zzk (zzg 30 195 [r17.d.v] ?_))
  intro w55 u55 e55 d55
  have k58 := k_natural (x := r17.d) d55
  with_reducible refine zPm k58 ?_
  rintro _ u56 g57 rfl
  refine zzg 31 194 [.agg #[.bool r12.s, r12.m.v], .agg #[.bool false, r17.d.v]] ?_
  intro w59 u59 e59 d59
  have k64 := k_intMul d59 (hi12.ext (e16.trans (g19.ext.trans (e55.trans (g57.ext.trans e59))))) (nat_int (hd17.ext (e55.trans (g57.ext.trans e59)))) xq xq
  with_reducible refine zPm k64 ?_
  rintro _ u62 g63 ⟨i60, rfl, h61⟩
  refine zzg 38 195 [r12.d.v] ?_
  intro w65 u65 e65 d65
  have k68 := k_natural (x := r12.d) d65
  with_reducible refine zPm k68 ?_
  rintro _ u66 g67 rfl
  refine zzg 39 194 [.agg #[.bool r17.s, r17.m.v], .agg #[.bool false, r12.d.v]] ?_
  intro w69 u69 e69 d69
  have k74 := k_intMul d69 (hi17.ext (e55.trans (g57.ext.trans (e59.trans (g63.ext.trans (e65.trans (g67.ext.trans e69))))))) (nat_int (hd12.ext (e16.trans (g19.ext.trans (e55.trans (g57.ext.trans (e59.trans (g63.ext.trans (e65.trans (g67.ext.trans e69)))))))))) xq xq
  with_reducible refine zPm k74 ?_
  rintro _ u72 g73 ⟨i70, rfl, h71⟩
  refine zzg 40 181 [i60.v, i70.v] ?_
  intro w75 u75 e75 d75
  have k78 := k_intCompare d75 (h61.ext (e65.trans (g67.ext.trans (e69.trans (g73.ext.trans e75))))).raw (h71.ext e75).raw
  with_reducible refine zPm k78 ?_
  rintro _ u76 g77 rfl
  refine zza 4 (zI (Nt.cmpS (z12 * (D17 : Int)) (z17 * (D12 : Int)))) (zzc 41 [(4, zI (Nt.cmpS (z12 * (D17 : Int)) (z17 * (D12 : Int))))] [] (zzn (ret0 [.int .i64 (Nt.cmpS (z12 * (D17 : Int)) (z17 * (D12 : Int)))] ⟨zzp, trivial⟩ fun u79 e80 => ?_)))
  show _ = _
  rw [hq12, hq17, ← Nt.cmp_mk hp12 hp17]
  rfl
theorem k_ratNeg {u w : World} {r1 : RL} {x : Rat} {K : Nat} (d : Dat u w) (hr1 : RatV u r1 x K) (hK : K ≤ 200000000) : Calls Tryz.prog 176 #[r1.v] w (Post u w fun v u' => ∃ r : RL, v = r.v ∧ RatN u' r (-x) K) := by
 refine zzl (args := [r1.v]) Tryz.func176 rfl Tryz.ntmps176 (rs := [.cell 2 26]) Tryz.results176 (le_b rfl) (le_b rfl) d ?_
 refine sq9 (zzj 1 ⟨26, r1.cs⟩ (zzj 2 ⟨26, [.bool false, .slice none 0 0, .slice none 0 0]⟩ (zzb (sq9 (zzh 3 (.v (r1.v)) ty26 zze (zzg 4 226 [r1.v] ?_))))))
 intro w11 u11 e11 d11
 have k14 := k_flip (r := r1) d11
 with_reducible refine zPm k14 ?_
 rintro _ u12 g13 rfl
 refine zzg 5 78 [.agg #[.bool (!r1.s), r1.m.v, r1.d.v]] ?_
 intro w15 u15 e15 d15
 have k20 := k_ratTrim d15 ((flip_rat (hr1.ext (e11.trans g13.ext))).ext e15) xq
 with_reducible refine zPm k20 ?_
 rintro _ u18 g19 ⟨r16, rfl, h17⟩
 refine zzi ⟨26, r16.cs⟩ ty26 ?_
 refine zzb (zzn (ret0 [r16.v] ⟨zzq ty26 zze, trivial⟩ fun u21 e22 => ?_))
 refine ⟨r16, rfl, RatN.more (K := K) ?_ xq⟩
 exact (h17.ext e22)
set_option maxHeartbeats 1000000 in
theorem k_ratAdd {u w : World} {r1 : RL} {x : Rat} {K : Nat} {r2 : RL} {y : Rat} {L : Nat} (d : Dat u w) (hr1 : RatV u r1 x K) (hr2 : RatV u r2 y L) (hK : K ≤ 200000000) (hL : L ≤ 200000000) : Calls Tryz.prog 126 #[r1.v, r2.v] w (Post u w fun v u' => ∃ r : RL, v = r.v ∧ RatN u' r (x + y) (K + L + 1)) := by
 refine zzl (args := [r1.v, r2.v]) Tryz.func126 rfl Tryz.ntmps126 (rs := [.cell 4 26]) Tryz.results126 (le_b rfl) (le_b rfl) d ?_
 refine sq9 (zzj 2 ⟨26, r1.cs⟩ (zzj 3 ⟨26, r2.cs⟩ (zzj 4 ⟨26, [.bool false, .slice none 0 0, .slice none 0 0]⟩ (zzb (zzd (zzy [0, 1, 0, 7, 0, 0, 63, 127] [(0, []), (2, []), (4, []), (5, []), (1, []), (3, []), (6, []), (7, [])] xj xj (zzh 8 (.v (r1.v)) ty26 zze (zzh 10 (.v (r2.v)) ty26 zze (zzj 5 ⟨149, [.bool false, .slice none 0 0, .slice none 0 0, .bool false]⟩ (zzj 6 ⟨149, [.bool false, .slice none 0 0, .slice none 0 0, .bool false]⟩ (zzg 9 147 [r1.v] ?_)))))))))))
 intro w11 u11 e11 d11
 have k15 := k_read d11 (hr1.ext e11)
 with_reducible refine zPm k15 ?_
 rintro _ u13 g14 ⟨r12, wh12, rfl, z12, D12, hi12, hd12, hp12, hq12, hw12, hk12⟩
 refine zzg 11 147 [r2.v] ?_
 intro w16 u16 e16 d16
 have k20 := k_read d16 (hr2.ext (e11.trans (g14.ext.trans e16)))
 with_reducible refine zPm k20 ?_
 rintro _ u18 g19 ⟨r17, wh17, rfl, z17, D17, hi17, hd17, hp17, hq17, hw17, hk17⟩
 refine zzi ⟨149, r12.cs ++ [.bool wh12]⟩ ty149 ?_
 refine zzi ⟨149, r17.cs ++ [.bool wh17]⟩ ty149 ?_
 refine zzb (zzd (sq9 (zza 12 (.adr 5 3) (zzh 13 (zB wh12) ty4 zzk ?_))))
 rcases Bool.eq_false_or_eq_true wh12 with hs21 | hs21
 ·refine zyp 14 (x := zB wh12) (zB true) (by rw [hs21]) (zza 15 (.adr 6 3) ?_ (hw := w1 2 true 14))
  refine zzh 16 (zB wh17) ty4 zzk ?_ (hw := w1 2 true 14)
  refine zza 17 (zB wh17) (zzb (zzt (b := wh17) xj (fun hb22 => ?_) (fun hb22 => ?_)))
  ·replace hb22 : wh17 = true := hb22
   refine sq9 (zza 18 (.adr 5 0) (zza 19 (.adr 5 0) (zzh 20 (.v (.agg #[.bool r12.s, r12.m.v])) ty24 zze (zza 21 (.adr 6 0) (zza 22 (.adr 6 0) (zzh 23 (.v (.agg #[.bool r17.s, r17.m.v])) ty24 zze (zzg 24 159 [.agg #[.bool r12.s, r12.m.v], .agg #[.bool r17.s, r17.m.v]] ?_)))))))
   intro w23 u23 e23 d23
   have k28 := k_intAdd d23 (hi12.ext (e16.trans (g19.ext.trans e23))) (hi17.ext e23) xq xq
   with_reducible refine zPm k28 ?_
   rintro _ u26 g27 ⟨i24, rfl, h25⟩
   refine zzg 25 193 [i24.v] ?_
   intro w29 u29 e29 d29
   have k34 := k_whole (i := i24) d29
   with_reducible refine zPm k34 ?_
   rintro _ u32 g33 ⟨y30, rfl, h31⟩
   refine zzi ⟨26, i24.cs ++ [y30.v]⟩ ty26 ?_
   refine zzb (zzn (zzv (ret0 [.agg #[.bool i24.s, .slice i24.m.a i24.m.n i24.m.c, .slice y30.a y30.n y30.c]] ⟨zzq ty26 zze, trivial⟩ fun u35 e36 => ?_)))
   refine ⟨(⟨i24.s, i24.m, y30⟩ : RL), rfl, RatN.more (K := (max (max K L + 1) 1)) ?_ xq⟩
   rw [hq12, hq17, hw12 (by assumption), hw17 (by assumption), Nt.mk_one, Nt.mk_one, ← Rat.intCast_add]
   exact ((whole_rat (h25.ext (e29.trans g33.ext)) h31).ext e36)
  ·replace hb22 : wh17 = false := hb22
   refine zzr (zzo ?_)
   refine zzd (sq9 (zza 26 (.adr 5 0) (zza 27 (.adr 5 2) (zzh 28 (.v r12.d.v) ty22 zzk (zza 29 (.adr 6 0) (zza 30 (.adr 6 2) (zzh 31 (.v r17.d.v) ty22 zzk (zzg 32 83 [r12.d.v, r17.d.v] ?_))))))))
   intro w37 u37 e37 d37
   have k40 := k_natCompare d37 (hd12.ext (e16.trans (g19.ext.trans e37))) (hd17.ext e37)
   with_reducible refine zPm k40 ?_
   rintro _ u38 g39 rfl
   refine zza 33 (zB ((Nt.cmpS D12 D17) == 0)) (zzb (zzt (b := (Nt.cmpS D12 D17) == 0) xj (fun hb41 => ?_) (fun hb41 => ?_)))
   ·replace hb41 : ((Nt.cmpS D12 D17) == 0) = true := hb41
    refine zzd (zzy [0, 1, 3, 0, 8, 24, 63, 0, 128, 384, 1023, 2047, 4095] [(0, []), (1, []), (2, []), (3, []), (4, []), (5, []), (7, []), (8, []), (9, []), (6, []), (10, []), (11, []), (12, [])] xj xj (zza 34 (.adr 5 0) (zza 35 (.adr 5 0) (zzh 36 (.v (.agg #[.bool r12.s, r12.m.v])) ty24 zze (zza 37 (.adr 6 0) (zza 38 (.adr 6 0) (zzh 39 (.v (.agg #[.bool r17.s, r17.m.v])) ty24 zze (zza 41 (.adr 5 0) (zza 42 (.adr 5 2) (zzh 43 (.v r12.d.v) ty22 zzk (zzg 40 159 [.agg #[.bool r12.s, r12.m.v], .agg #[.bool r17.s, r17.m.v]] ?_)))))))))))
    intro w42 u42 e42 d42
    have k47 := k_intAdd d42 (hi12.ext (e16.trans (g19.ext.trans (e37.trans (g39.ext.trans e42))))) (hi17.ext (e37.trans (g39.ext.trans e42))) xq xq
    with_reducible refine zPm k47 ?_
    rintro _ u45 g46 ⟨i43, rfl, h44⟩
    refine zza 44 (.v (.agg #[.bool i43.s, i43.m.v, r12.d.v])) (zzg 45 148 [.agg #[.bool i43.s, i43.m.v, r12.d.v]] ?_)
    intro w48 u48 e48 d48
    have k53 := k_lowest d48 (h44.ext e48).raw (hd12.ext (e16.trans (g19.ext.trans (e37.trans (g39.ext.trans (e42.trans (g46.ext.trans e48))))))) hp12 xq xq
    with_reducible refine zPm k53 ?_
    rintro _ u51 g52 ⟨r49, rfl, h50⟩
    refine zzi ⟨26, r49.cs⟩ ty26 ?_
    refine zzc 73 [(4, .adr 4 0)] [(4, ⟨26, r49.cs⟩)] (zzn (zzv (ret0 [r49.v] ⟨zzq ty26 zze, trivial⟩ fun u54 e55 => ?_)))
    refine ⟨r49, rfl, RatN.more (K := (max (max K L + 1) K)) ?_ xq⟩
    have hD : D12 = D17 := Nt.cmp_natE hb41
    rw [hq12, hq17, ← hD, ← Nt.add_same hp12]
    exact (h50.ext e55)
   ·replace hb41 : ((Nt.cmpS D12 D17) == 0) = false := hb41
    refine zzr (zzo ?_)
    refine zzd (zzy [0, 1, 3, 0, 8, 24, 56, 127, 0, 256, 768, 0, 2048, 6144, 14591, 32767, 65535, 0, 262143] [(0, []), (1, []), (2, []), (3, []), (4, []), (5, []), (8, []), (9, []), (10, []), (11, []), (12, []), (13, []), (17, []), (6, []), (7, []), (14, []), (15, []), (16, []), (18, [])] xj xj (zza 46 (.adr 5 0) (zza 47 (.adr 5 0) (zzh 48 (.v (.agg #[.bool r12.s, r12.m.v])) ty24 zze (zza 49 (.adr 6 0) (zza 50 (.adr 6 2) (zzh 51 (.v r17.d.v) ty22 zzk (zza 54 (.adr 6 0) (zza 55 (.adr 6 0) (zzh 56 (.v (.agg #[.bool r17.s, r17.m.v])) ty24 zze (zza 57 (.adr 5 0) ?_)))))))))))
    refine zza 58 (.adr 5 2) (zzh 59 (.v r12.d.v) ty22 zzk (zzj 7 ⟨24, [.bool false, .slice none 0 0]⟩ (zzg 52 195 [r17.d.v] ?_)))
    intro w56 u56 e56 d56
    have k59 := k_natural (x := r17.d) d56
    with_reducible refine zPm k59 ?_
    rintro _ u57 g58 rfl
    refine zzg 53 194 [.agg #[.bool r12.s, r12.m.v], .agg #[.bool false, r17.d.v]] ?_
    intro w60 u60 e60 d60
    have k65 := k_intMul d60 (hi12.ext (e16.trans (g19.ext.trans (e37.trans (g39.ext.trans (e56.trans (g58.ext.trans e60))))))) (nat_int (hd17.ext (e37.trans (g39.ext.trans (e56.trans (g58.ext.trans e60)))))) xq xq
    with_reducible refine zPm k65 ?_
    rintro _ u63 g64 ⟨i61, rfl, h62⟩
    refine zzg 60 195 [r12.d.v] ?_
    intro w66 u66 e66 d66
    have k69 := k_natural (x := r12.d) d66
    with_reducible refine zPm k69 ?_
    rintro _ u67 g68 rfl
    refine zzg 61 194 [.agg #[.bool r17.s, r17.m.v], .agg #[.bool false, r12.d.v]] ?_
    intro w70 u70 e70 d70
    have k75 := k_intMul d70 (hi17.ext (e37.trans (g39.ext.trans (e56.trans (g58.ext.trans (e60.trans (g64.ext.trans (e66.trans (g68.ext.trans e70))))))))) (nat_int (hd12.ext (e16.trans (g19.ext.trans (e37.trans (g39.ext.trans (e56.trans (g58.ext.trans (e60.trans (g64.ext.trans (e66.trans (g68.ext.trans e70)))))))))))) xq xq
    with_reducible refine zPm k75 ?_
    rintro _ u73 g74 ⟨i71, rfl, h72⟩
    refine zzg 62 159 [i61.v, i71.v] ?_
    intro w76 u76 e76 d76
    have k81 := k_intAdd d76 (h62.ext (e66.trans (g68.ext.trans (e70.trans (g74.ext.trans e76))))).raw (h72.ext e76).raw xq xq
    with_reducible refine zPm k81 ?_
    rintro _ u79 g80 ⟨i77, rfl, h78⟩
    refine zzi ⟨24, i77.cs⟩ ty24 ?_
    refine zzc 73 [(4, .adr 4 0), (5, .adr 5 0), (6, .adr 6 0), (7, .adr 7 0)] [(4, ⟨26, [.bool false, .slice none 0 0, .slice none 0 0]⟩), (5, ⟨149, r12.cs ++ [.bool wh12]⟩), (6, ⟨149, r17.cs ++ [.bool wh17]⟩), (7, ⟨24, i77.cs⟩)] (zzd (zzy [0, 0, 2, 6, 0, 16, 48, 126, 255, 511, 1023] [(0, []), (1, []), (2, []), (3, []), (4, []), (5, []), (6, []), (7, []), (8, []), (9, []), (10, [])] xj xj (zzh 63 (.v (i77.v)) ty24 zze (zza 64 (.adr 5 0) (zza 65 (.adr 5 2) (zzh 66 (.v r12.d.v) ty22 zzk (zza 67 (.adr 6 0) (zza 68 (.adr 6 2) (zzh 69 (.v r17.d.v) ty22 zzk (zzg 70 156 [r12.d.v, r17.d.v] ?_))))))))))
    intro w82 u82 e82 d82
    have k87 := k_natMul d82 (hd12.ext (e16.trans (g19.ext.trans (e37.trans (g39.ext.trans (e56.trans (g58.ext.trans (e60.trans (g64.ext.trans (e66.trans (g68.ext.trans (e70.trans (g74.ext.trans (e76.trans (g80.ext.trans e82))))))))))))))) (hd17.ext (e37.trans (g39.ext.trans (e56.trans (g58.ext.trans (e60.trans (g64.ext.trans (e66.trans (g68.ext.trans (e70.trans (g74.ext.trans (e76.trans (g80.ext.trans e82))))))))))))) xq xq
    with_reducible refine zPm k87 ?_
    rintro _ u85 g86 ⟨x83, rfl, h84⟩
    refine zza 71 (.v (.agg #[.bool i77.s, i77.m.v, x83.v])) (zzg 72 148 [.agg #[.bool i77.s, i77.m.v, x83.v]] ?_)
    intro w88 u88 e88 d88
    have k93 := k_lowest d88 (h78.ext (e82.trans (g86.ext.trans e88))).raw (h84.ext e88).raw (Nat.mul_pos hp12 hp17) xq xq
    with_reducible refine zPm k93 ?_
    rintro _ u91 g92 ⟨r89, rfl, h90⟩
    refine zzi ⟨26, r89.cs⟩ ty26 ?_
    refine zzb (zzn (ret0 [r89.v] ⟨zzq ty26 zze, trivial⟩ fun u94 e95 => ?_))
    refine ⟨r89, rfl, RatN.more (K := (max (max (K + L) (L + K) + 1) (K + L))) ?_ xq⟩
    rw [hq12, hq17, ← Nt.add_mk hp12 hp17]
    exact (h90.ext e95)
 ·refine zyp 14 (x := zB wh12) (zB false) (by rw [hs21]) (zzm 15 (uw 2 true false 14) (zzm 16 (uw 2 true false 14) (zza 17 (zB false) (zzb (zyr xj (zzr (zzo ?_)))))))
  refine zzd (sq9 (zza 26 (.adr 5 0) (zza 27 (.adr 5 2) (zzh 28 (.v r12.d.v) ty22 zzk (zza 29 (.adr 6 0) (zza 30 (.adr 6 2) (zzh 31 (.v r17.d.v) ty22 zzk (zzg 32 83 [r12.d.v, r17.d.v] ?_))))))))
  intro w96 u96 e96 d96
  have k99 := k_natCompare d96 (hd12.ext (e16.trans (g19.ext.trans e96))) (hd17.ext e96)
  with_reducible refine zPm k99 ?_
  rintro _ u97 g98 rfl
  refine zza 33 (zB ((Nt.cmpS D12 D17) == 0)) (zzb (zzt (b := (Nt.cmpS D12 D17) == 0) xj (fun hb100 => ?_) (fun hb100 => ?_)))
  ·replace hb100 : ((Nt.cmpS D12 D17) == 0) = true := hb100
   refine zzd (zzy [0, 1, 3, 0, 8, 24, 63, 0, 128, 384, 1023, 2047, 4095] [(0, []), (1, []), (2, []), (3, []), (4, []), (5, []), (7, []), (8, []), (9, []), (6, []), (10, []), (11, []), (12, [])] xj xj (zza 34 (.adr 5 0) (zza 35 (.adr 5 0) (zzh 36 (.v (.agg #[.bool r12.s, r12.m.v])) ty24 zze (zza 37 (.adr 6 0) (zza 38 (.adr 6 0) (zzh 39 (.v (.agg #[.bool r17.s, r17.m.v])) ty24 zze (zza 41 (.adr 5 0) (zza 42 (.adr 5 2) (zzh 43 (.v r12.d.v) ty22 zzk (zzg 40 159 [.agg #[.bool r12.s, r12.m.v], .agg #[.bool r17.s, r17.m.v]] ?_)))))))))))
   intro w101 u101 e101 d101
   have k106 := k_intAdd d101 (hi12.ext (e16.trans (g19.ext.trans (e96.trans (g98.ext.trans e101))))) (hi17.ext (e96.trans (g98.ext.trans e101))) xq xq
   with_reducible refine zPm k106 ?_
   rintro _ u104 g105 ⟨i102, rfl, h103⟩
   refine zza 44 (.v (.agg #[.bool i102.s, i102.m.v, r12.d.v])) (zzg 45 148 [.agg #[.bool i102.s, i102.m.v, r12.d.v]] ?_)
   intro w107 u107 e107 d107
   have k112 := k_lowest d107 (h103.ext e107).raw (hd12.ext (e16.trans (g19.ext.trans (e96.trans (g98.ext.trans (e101.trans (g105.ext.trans e107))))))) hp12 xq xq
   with_reducible refine zPm k112 ?_
   rintro _ u110 g111 ⟨r108, rfl, h109⟩
   refine zzi ⟨26, r108.cs⟩ ty26 ?_
   refine zzc 73 [(4, .adr 4 0)] [(4, ⟨26, r108.cs⟩)] (zzn (zzv (ret0 [r108.v] ⟨zzq ty26 zze, trivial⟩ fun u113 e114 => ?_)))
   refine ⟨r108, rfl, RatN.more (K := (max (max K L + 1) K)) ?_ xq⟩
   have hD : D12 = D17 := Nt.cmp_natE hb100
   rw [hq12, hq17, ← hD, ← Nt.add_same hp12]
   exact (h109.ext e114)
  ·replace hb100 : ((Nt.cmpS D12 D17) == 0) = false := hb100
   refine zzr (zzo ?_)
   refine zzd (zzy [0, 1, 3, 0, 8, 24, 56, 127, 0, 256, 768, 0, 2048, 6144, 14591, 32767, 65535, 0, 262143] [(0, []), (1, []), (2, []), (3, []), (4, []), (5, []), (8, []), (9, []), (10, []), (11, []), (12, []), (13, []), (17, []), (6, []), (7, []), (14, []), (15, []), (16, []), (18, [])] xj xj (zza 46 (.adr 5 0) (zza 47 (.adr 5 0) (zzh 48 (.v (.agg #[.bool r12.s, r12.m.v])) ty24 zze (zza 49 (.adr 6 0) (zza 50 (.adr 6 2) (zzh 51 (.v r17.d.v) ty22 zzk (zza 54 (.adr 6 0) (zza 55 (.adr 6 0) (zzh 56 (.v (.agg #[.bool r17.s, r17.m.v])) ty24 zze (zza 57 (.adr 5 0) ?_)))))))))))
   refine zza 58 (.adr 5 2) (zzh 59 (.v r12.d.v) ty22 zzk (zzj 7 ⟨24, [.bool false, .slice none 0 0]⟩ (zzg 52 195 [r17.d.v] ?_)))
   intro w115 u115 e115 d115
   have k118 := k_natural (x := r17.d) d115
   with_reducible refine zPm k118 ?_
   rintro _ u116 g117 rfl
   refine zzg 53 194 [.agg #[.bool r12.s, r12.m.v], .agg #[.bool false, r17.d.v]] ?_
   intro w119 u119 e119 d119
   have k124 := k_intMul d119 (hi12.ext (e16.trans (g19.ext.trans (e96.trans (g98.ext.trans (e115.trans (g117.ext.trans e119))))))) (nat_int (hd17.ext (e96.trans (g98.ext.trans (e115.trans (g117.ext.trans e119)))))) xq xq
   with_reducible refine zPm k124 ?_
   rintro _ u122 g123 ⟨i120, rfl, h121⟩
   refine zzg 60 195 [r12.d.v] ?_
   intro w125 u125 e125 d125
   have k128 := k_natural (x := r12.d) d125
   with_reducible refine zPm k128 ?_
   rintro _ u126 g127 rfl
   refine zzg 61 194 [.agg #[.bool r17.s, r17.m.v], .agg #[.bool false, r12.d.v]] ?_
   intro w129 u129 e129 d129
   have k134 := k_intMul d129 (hi17.ext (e96.trans (g98.ext.trans (e115.trans (g117.ext.trans (e119.trans (g123.ext.trans (e125.trans (g127.ext.trans e129))))))))) (nat_int (hd12.ext (e16.trans (g19.ext.trans (e96.trans (g98.ext.trans (e115.trans (g117.ext.trans (e119.trans (g123.ext.trans (e125.trans (g127.ext.trans e129)))))))))))) xq xq
   with_reducible refine zPm k134 ?_
   rintro _ u132 g133 ⟨i130, rfl, h131⟩
   refine zzg 62 159 [i120.v, i130.v] ?_
   intro w135 u135 e135 d135
   have k140 := k_intAdd d135 (h121.ext (e125.trans (g127.ext.trans (e129.trans (g133.ext.trans e135))))).raw (h131.ext e135).raw xq xq
   with_reducible refine zPm k140 ?_
   rintro _ u138 g139 ⟨i136, rfl, h137⟩
   refine zzi ⟨24, i136.cs⟩ ty24 ?_
   refine zzc 73 [(4, .adr 4 0), (5, .adr 5 0), (6, .adr 6 0), (7, .adr 7 0)] [(4, ⟨26, [.bool false, .slice none 0 0, .slice none 0 0]⟩), (5, ⟨149, r12.cs ++ [.bool wh12]⟩), (6, ⟨149, r17.cs ++ [.bool wh17]⟩), (7, ⟨24, i136.cs⟩)] (zzd (zzy [0, 0, 2, 6, 0, 16, 48, 126, 255, 511, 1023] [(0, []), (1, []), (2, []), (3, []), (4, []), (5, []), (6, []), (7, []), (8, []), (9, []), (10, [])] xj xj (zzh 63 (.v (i136.v)) ty24 zze (zza 64 (.adr 5 0) (zza 65 (.adr 5 2) (zzh 66 (.v r12.d.v) ty22 zzk (zza 67 (.adr 6 0) (zza 68 (.adr 6 2) (zzh 69 (.v r17.d.v) ty22 zzk (zzg 70 156 [r12.d.v, r17.d.v] ?_))))))))))
   intro w141 u141 e141 d141
   have k146 := k_natMul d141 (hd12.ext (e16.trans (g19.ext.trans (e96.trans (g98.ext.trans (e115.trans (g117.ext.trans (e119.trans (g123.ext.trans (e125.trans (g127.ext.trans (e129.trans (g133.ext.trans (e135.trans (g139.ext.trans e141))))))))))))))) (hd17.ext (e96.trans (g98.ext.trans (e115.trans (g117.ext.trans (e119.trans (g123.ext.trans (e125.trans (g127.ext.trans (e129.trans (g133.ext.trans (e135.trans (g139.ext.trans e141))))))))))))) xq xq
   with_reducible refine zPm k146 ?_
   rintro _ u144 g145 ⟨x142, rfl, h143⟩
   refine zza 71 (.v (.agg #[.bool i136.s, i136.m.v, x142.v])) (zzg 72 148 [.agg #[.bool i136.s, i136.m.v, x142.v]] ?_)
   intro w147 u147 e147 d147
   have k152 := k_lowest d147 (h137.ext (e141.trans (g145.ext.trans e147))).raw (h143.ext e147).raw (Nat.mul_pos hp12 hp17) xq xq
   with_reducible refine zPm k152 ?_
   rintro _ u150 g151 ⟨r148, rfl, h149⟩
   refine zzi ⟨26, r148.cs⟩ ty26 ?_
   refine zzb (zzn (ret0 [r148.v] ⟨zzq ty26 zze, trivial⟩ fun u153 e154 => ?_))
   refine ⟨r148, rfl, RatN.more (K := (max (max (K + L) (L + K) + 1) (K + L))) ?_ xq⟩
   rw [hq12, hq17, ← Nt.add_mk hp12 hp17]
   exact (h149.ext e154)
set_option maxHeartbeats 1000000 in
theorem k_ratMul {u w : World} {r1 : RL} {x : Rat} {K : Nat} {r2 : RL} {y : Rat} {L : Nat} (d : Dat u w) (hr1 : RatV u r1 x K) (hr2 : RatV u r2 y L) (hK : K ≤ 200000000) (hL : L ≤ 200000000) : Calls Tryz.prog 123 #[r1.v, r2.v] w (Post u w fun v u' => ∃ r : RL, v = r.v ∧ RatN u' r (x * y) (K + L)) := by
 refine zzl (args := [r1.v, r2.v]) Tryz.func123 rfl Tryz.ntmps123 (rs := [.cell 4 26]) Tryz.results123 (le_b rfl) (le_b rfl) d ?_
 refine sq9 (zzj 2 ⟨26, r1.cs⟩ (zzj 3 ⟨26, r2.cs⟩ (zzj 4 ⟨26, [.bool false, .slice none 0 0, .slice none 0 0]⟩ (zzb (zzd (zzy [0, 1, 0, 7, 0, 0, 63, 127] [(0, []), (2, []), (4, []), (5, []), (1, []), (3, []), (6, []), (7, [])] xj xj (zzh 8 (.v (r1.v)) ty26 zze (zzh 10 (.v (r2.v)) ty26 zze (zzj 5 ⟨149, [.bool false, .slice none 0 0, .slice none 0 0, .bool false]⟩ (zzj 6 ⟨149, [.bool false, .slice none 0 0, .slice none 0 0, .bool false]⟩ (zzg 9 147 [r1.v] ?_)))))))))))
 intro w11 u11 e11 d11
 have k15 := k_read d11 (hr1.ext e11)
 with_reducible refine zPm k15 ?_
 rintro _ u13 g14 ⟨r12, wh12, rfl, z12, D12, hi12, hd12, hp12, hq12, hw12, hk12⟩
 refine zzg 11 147 [r2.v] ?_
 intro w16 u16 e16 d16
 have k20 := k_read d16 (hr2.ext (e11.trans (g14.ext.trans e16)))
 with_reducible refine zPm k20 ?_
 rintro _ u18 g19 ⟨r17, wh17, rfl, z17, D17, hi17, hd17, hp17, hq17, hw17, hk17⟩
 refine zzi ⟨149, r12.cs ++ [.bool wh12]⟩ ty149 ?_
 refine zzi ⟨149, r17.cs ++ [.bool wh17]⟩ ty149 ?_
 refine zzb (sq9 (zza 12 (.adr 5 0) (zza 13 (.adr 5 0) (zzh 14 (.v (.agg #[.bool r12.s, r12.m.v])) ty24 zze (zza 15 (.adr 6 0) (zza 16 (.adr 6 0) (zzh 17 (.v (.agg #[.bool r17.s, r17.m.v])) ty24 zze (zzg 18 194 [.agg #[.bool r12.s, r12.m.v], .agg #[.bool r17.s, r17.m.v]] ?_))))))))
 intro w21 u21 e21 d21
 have k26 := k_intMul d21 (hi12.ext (e16.trans (g19.ext.trans e21))) (hi17.ext e21) xq xq
 with_reducible refine zPm k26 ?_
 rintro _ u24 g25 ⟨i22, rfl, h23⟩
 refine zzj 7 ⟨24, [.bool false, .slice none 0 0]⟩ (zzi ⟨24, i22.cs⟩ ty24 ?_)
 refine zzb (zzd (sq9 (zza 19 (.adr 5 3) (zzh 20 (zB wh12) ty4 zzk ?_))))
 rcases Bool.eq_false_or_eq_true wh12 with hs27 | hs27
 ·refine zyp 21 (x := zB wh12) (zB true) (by rw [hs27]) (zza 22 (.adr 6 3) ?_ (hw := w1 2 true 21))
  refine zzh 23 (zB wh17) ty4 zzk ?_ (hw := w1 2 true 21)
  refine zza 24 (zB wh17) (zzb (zzt (b := wh17) xj (fun hb28 => ?_) (fun hb28 => ?_)))
  ·replace hb28 : wh17 = true := hb28
   refine sq9 (zzh 25 (.v (i22.v)) ty24 zze (zzg 26 193 [i22.v] ?_))
   intro w29 u29 e29 d29
   have k34 := k_whole (i := i22) d29
   with_reducible refine zPm k34 ?_
   rintro _ u32 g33 ⟨y30, rfl, h31⟩
   refine zzi ⟨26, i22.cs ++ [y30.v]⟩ ty26 ?_
   refine zzb (zzn (zzv (ret0 [.agg #[.bool i22.s, .slice i22.m.a i22.m.n i22.m.c, .slice y30.a y30.n y30.c]] ⟨zzq ty26 zze, trivial⟩ fun u35 e36 => ?_)))
   refine ⟨(⟨i22.s, i22.m, y30⟩ : RL), rfl, RatN.more (K := (max (K + L) 1)) ?_ xq⟩
   rw [hq12, hq17, hw12 (by assumption), hw17 (by assumption), Nt.mk_one, Nt.mk_one, ← Rat.intCast_mul]
   exact ((whole_rat (h23.ext (e29.trans g33.ext)) h31).ext e36)
  ·replace hb28 : wh17 = false := hb28
   refine zzr (zzo ?_)
   refine zzd (zzy [0, 0, 2, 6, 0, 16, 48, 126, 255, 511, 1023] [(0, []), (1, []), (2, []), (3, []), (4, []), (5, []), (6, []), (7, []), (8, []), (9, []), (10, [])] xj xj (zzh 27 (.v (i22.v)) ty24 zze (zza 28 (.adr 5 0) (zza 29 (.adr 5 2) (zzh 30 (.v r12.d.v) ty22 zzk (zza 31 (.adr 6 0) (zza 32 (.adr 6 2) (zzh 33 (.v r17.d.v) ty22 zzk (zzg 34 156 [r12.d.v, r17.d.v] ?_)))))))))
   intro w37 u37 e37 d37
   have k42 := k_natMul d37 (hd12.ext (e16.trans (g19.ext.trans (e21.trans (g25.ext.trans e37))))) (hd17.ext (e21.trans (g25.ext.trans e37))) xq xq
   with_reducible refine zPm k42 ?_
   rintro _ u40 g41 ⟨x38, rfl, h39⟩
   refine zza 35 (.v (.agg #[.bool i22.s, i22.m.v, x38.v])) (zzg 36 148 [.agg #[.bool i22.s, i22.m.v, x38.v]] ?_)
   intro w43 u43 e43 d43
   have k48 := k_lowest d43 (h23.ext (e37.trans (g41.ext.trans e43))).raw (h39.ext e43).raw (Nat.mul_pos hp12 hp17) xq xq
   with_reducible refine zPm k48 ?_
   rintro _ u46 g47 ⟨r44, rfl, h45⟩
   refine zzi ⟨26, r44.cs⟩ ty26 ?_
   refine zzc 37 [(4, .adr 4 0)] [(4, ⟨26, r44.cs⟩)] (zzn (ret0 [r44.v] ⟨zzq ty26 zze, trivial⟩ fun u49 e50 => ?_))
   refine ⟨r44, rfl, RatN.more (K := (max (K + L) (K + L))) ?_ xq⟩
   rw [hq12, hq17, ← Nt.mul_mk]
   exact (h45.ext e50)
 ·refine zyp 21 (x := zB wh12) (zB false) (by rw [hs27]) (zzm 22 (uw 2 true false 21) (zzm 23 (uw 2 true false 21) (zza 24 (zB false) (zzb (zyr xj (zzr (zzo ?_)))))))
  refine zzd (zzy [0, 0, 2, 6, 0, 16, 48, 126, 255, 511, 1023] [(0, []), (1, []), (2, []), (3, []), (4, []), (5, []), (6, []), (7, []), (8, []), (9, []), (10, [])] xj xj (zzh 27 (.v (i22.v)) ty24 zze (zza 28 (.adr 5 0) (zza 29 (.adr 5 2) (zzh 30 (.v r12.d.v) ty22 zzk (zza 31 (.adr 6 0) (zza 32 (.adr 6 2) (zzh 33 (.v r17.d.v) ty22 zzk (zzg 34 156 [r12.d.v, r17.d.v] ?_)))))))))
  intro w51 u51 e51 d51
  have k56 := k_natMul d51 (hd12.ext (e16.trans (g19.ext.trans (e21.trans (g25.ext.trans e51))))) (hd17.ext (e21.trans (g25.ext.trans e51))) xq xq
  with_reducible refine zPm k56 ?_
  rintro _ u54 g55 ⟨x52, rfl, h53⟩
  refine zza 35 (.v (.agg #[.bool i22.s, i22.m.v, x52.v])) (zzg 36 148 [.agg #[.bool i22.s, i22.m.v, x52.v]] ?_)
  intro w57 u57 e57 d57
  have k62 := k_lowest d57 (h23.ext (e51.trans (g55.ext.trans e57))).raw (h53.ext e57).raw (Nat.mul_pos hp12 hp17) xq xq
  with_reducible refine zPm k62 ?_
  rintro _ u60 g61 ⟨r58, rfl, h59⟩
  refine zzi ⟨26, r58.cs⟩ ty26 ?_
  refine zzc 37 [(4, .adr 4 0)] [(4, ⟨26, r58.cs⟩)] (zzn (ret0 [r58.v] ⟨zzq ty26 zze, trivial⟩ fun u63 e64 => ?_))
  refine ⟨r58, rfl, RatN.more (K := (max (K + L) (K + L))) ?_ xq⟩
  rw [hq12, hq17, ← Nt.mul_mk]
  exact (h59.ext e64)
theorem k_ratFrac {u w : World} {a b : Int} (d : Dat u w) (ha0 : -9223372036854775808 ≤ a) (ha1 : a ≤ 9223372036854775807) (hb0 : -9223372036854775808 ≤ b) (hb1 : b ≤ 9223372036854775807) : Calls Tryz.prog 127 #[.int .i64 a, .int .i64 b] w (Post u w fun v u' => ∃ r : RL, v = r.v ∧ RatN u' r ((a : Rat) / (b : Rat)) 2) := by
 refine zzl (args := [.int .i64 a, .int .i64 b]) Tryz.func127 rfl Tryz.ntmps127 (rs := [.cell 4 26]) Tryz.results127 (le_b rfl) (le_b rfl) d ?_
 refine sq9 (zzj 4 ⟨26, [.bool false, .slice none 0 0, .slice none 0 0]⟩ (zzb (zzd (sq9 (zza 5 (zI b) (zza 6 (zB (b == 0)) (zzb (zzt (b := b == 0) xj (fun hb11 => ?_) (fun hb11 => ?_)))))))))
 ·replace hb11 : (b == 0) = true := hb11
  refine sq9 (zzg 7 118 [.int .i64 0] ?_)
  intro w12 u12 e12 d12
  have k17 := k_ratOf d12 (z := 0) xq xq
  with_reducible refine zPm k17 ?_
  rintro _ u15 g16 ⟨r13, rfl, h14⟩
  refine zzi ⟨26, r13.cs⟩ ty26 ?_
  refine zzb (zzn (zzv (ret0 [r13.v] ⟨zzq ty26 zze, trivial⟩ fun u18 e19 => ?_)))
  refine ⟨r13, rfl, RatN.more (K := 2) ?_ xq⟩
  have hb0 : b = 0 := by simpa using hb11
  rw [hb0]; simp [Rat.div_def]; exact (h14.ext e19)
 ·replace hb11 : (b == 0) = false := hb11
  have hb0 : 0 < b.natAbs := by simp at hb11; omega
  refine zzr (zzo ?_)
  refine sq9 (zza 8 (zI a) (zzg 9 160 [.int .i64 a] ?_))
  intro w20 u20 e20 d20
  have k25 := k_intOf d20 (z := a) xq xq
  with_reducible refine zPm k25 ?_
  rintro _ u23 g24 ⟨i21, rfl, h22⟩
  refine zza 10 (zI b) (zzg 11 160 [.int .i64 b] ?_)
  intro w26 u26 e26 d26
  have k31 := k_intOf d26 (z := b) xq xq
  with_reducible refine zPm k31 ?_
  rintro _ u29 g30 ⟨i27, rfl, h28⟩
  refine zzg 12 196 [i21.v, i27.v] ?_
  intro w32 u32 e32 d32
  have k35 := k_quotient (i := i21) (j := i27) d32
  with_reducible refine zPm k35 ?_
  rintro _ u33 g34 rfl
  refine zzg 13 148 [.agg #[.bool (!(i21.s == i27.s)), i21.m.v, i27.m.v]] ?_
  intro w36 u36 e36 d36
  have k41 := k_lowest d36 ((quot_int (h22.ext (e26.trans (g30.ext.trans (e32.trans g34.ext)))) (h28.ext (e32.trans g34.ext))).ext e36) ((int_mag (h28.ext (e32.trans g34.ext))).ext e36).raw hb0 xq xq
  with_reducible refine zPm k41 ?_
  rintro _ u39 g40 ⟨r37, rfl, h38⟩
  refine zzi ⟨26, r37.cs⟩ ty26 ?_
  refine zzb (zzn (ret0 [r37.v] ⟨zzq ty26 zze, trivial⟩ fun u42 e43 => ?_))
  refine ⟨r37, rfl, RatN.more (K := (max 2 2)) ?_ xq⟩
  rw [← Nt.div_mk2 xq]
  exact (h38.ext e43)
def DivR (x y : Rat) (K : Nat) (v : Value) (u : World) : Prop := (v = .tuple #[.agg #[.bool false, .slice none 0 0, .slice none 0 0], .int .i64 3] ∧ y = 0) ∨ (y ≠ 0 ∧ ∃ r : RL, v = .tuple #[r.v, .int .i64 0] ∧ RatN u r (x / y) K)
set_option maxHeartbeats 1000000 in
theorem k_ratDiv {u w : World} {r1 : RL} {x : Rat} {K : Nat} {r2 : RL} {y : Rat} {L : Nat} (d : Dat u w) (hr1 : RatV u r1 x K) (hr2 : RatV u r2 y L) (hK : K ≤ 200000000) (hL : L ≤ 200000000) : Calls Tryz.prog 202 #[r1.v, r2.v] w (Post u w fun v u' => DivR x y (K + L) v u') := by
 refine zzl (args := [r1.v, r2.v]) Tryz.func202 rfl Tryz.ntmps202 (rs := [.cell 4 26, .tmp 5]) Tryz.results202 (le_b rfl) (le_b rfl) d ?_
 refine sq9 (zzj 2 ⟨26, r1.cs⟩ (zzj 3 ⟨26, r2.cs⟩ (zzj 4 ⟨26, [.bool false, .slice none 0 0, .slice none 0 0]⟩ (zza 5 (zI 0) (zzb (zzd (zzy [0, 1, 0, 7, 0, 0, 63, 127] [(0, []), (2, []), (4, []), (5, []), (1, []), (3, []), (6, []), (7, [])] xj xj (zzh 10 (.v (r1.v)) ty26 zze (zzh 12 (.v (r2.v)) ty26 zze (zzj 6 ⟨149, [.bool false, .slice none 0 0, .slice none 0 0, .bool false]⟩ (zzj 7 ⟨149, [.bool false, .slice none 0 0, .slice none 0 0, .bool false]⟩ ?_)))))))))))
 refine zzg 11 147 [r1.v] ?_
 intro w11 u11 e11 d11
 have k15 := k_read d11 (hr1.ext e11)
 with_reducible refine zPm k15 ?_
 rintro _ u13 g14 ⟨r12, wh12, rfl, z12, D12, hi12, hd12, hp12, hq12, hw12, hk12⟩
 refine zzg 13 147 [r2.v] ?_
 intro w16 u16 e16 d16
 have k20 := k_read d16 (hr2.ext (e11.trans (g14.ext.trans e16)))
 with_reducible refine zPm k20 ?_
 rintro _ u18 g19 ⟨r17, wh17, rfl, z17, D17, hi17, hd17, hp17, hq17, hw17, hk17⟩
 refine zzi ⟨149, r12.cs ++ [.bool wh12]⟩ ty149 ?_
 refine zzi ⟨149, r17.cs ++ [.bool wh17]⟩ ty149 ?_
 refine zzb (zzd (sq9 (zza 14 (.adr 7 0) (zza 15 (.adr 7 0) (zzh 16 (.v (.agg #[.bool r17.s, r17.m.v])) ty24 zze (zzg 17 146 [.agg #[.bool r17.s, r17.m.v]] ?_))))))
 intro w21 u21 e21 d21
 have k24 := k_intSign d21 (hi17.ext e21)
 with_reducible refine zPm k24 ?_
 rintro _ u22 g23 rfl
 refine zza 18 (zB ((Nt.cmpS z17 0) == 0)) (zzb (zzt (b := (Nt.cmpS z17 0) == 0) xj (fun hb25 => ?_) (fun hb25 => ?_)))
 ·replace hb25 : ((Nt.cmpS z17 0) == 0) = true := hb25
  refine sq9 (zza 19 (.v (.agg #[.bool false, .slice none 0 0, .slice none 0 0])) (zzi ⟨26, [.bool false, .slice none 0 0, .slice none 0 0]⟩ ty26 ?_))
  refine zza 5 (zI 3) (zzb (zzn (zzv (ret0 [.agg #[.bool false, .slice none 0 0, .slice none 0 0], .int .i64 3] ⟨zzq ty26 zze, zzp, trivial⟩ fun u26 e27 => ?_))))
  left
  exact ⟨rfl, by rw [hq17, Nt.cmp_eq0 hb25, Rat.zero_mkRat]⟩
 ·replace hb25 : ((Nt.cmpS z17 0) == 0) = false := hb25
  have hz0 : z17 ≠ 0 := Nt.cmp_ne0 hb25
  have hpp : 0 < ((D12 : Int) * z17 : Int).natAbs := Int.natAbs_pos.2 (Int.mul_ne_zero xq hz0)
  refine zzr (zzo ?_)
  refine zzd (zzy [0, 1, 3, 0, 8, 24, 56, 127, 0, 511] [(0, []), (1, []), (2, []), (3, []), (4, []), (5, []), (8, []), (6, []), (7, []), (9, [])] xj xj (zza 20 (.adr 6 0) (zza 21 (.adr 6 0) (zzh 22 (.v (.agg #[.bool r12.s, r12.m.v])) ty24 zze (zza 23 (.adr 7 0) (zza 24 (.adr 7 2) (zzh 25 (.v r17.d.v) ty22 zzk (zzj 8 ⟨24, [.bool false, .slice none 0 0]⟩ (zzg 26 195 [r17.d.v] ?_)))))))))
  intro w28 u28 e28 d28
  have k31 := k_natural (x := r17.d) d28
  with_reducible refine zPm k31 ?_
  rintro _ u29 g30 rfl
  refine zzg 27 194 [.agg #[.bool r12.s, r12.m.v], .agg #[.bool false, r17.d.v]] ?_
  intro w32 u32 e32 d32
  have k37 := k_intMul d32 (hi12.ext (e16.trans (g19.ext.trans (e21.trans (g23.ext.trans (e28.trans (g30.ext.trans e32))))))) (nat_int (hd17.ext (e21.trans (g23.ext.trans (e28.trans (g30.ext.trans e32)))))) xq xq
  with_reducible refine zPm k37 ?_
  rintro _ u35 g36 ⟨i33, rfl, h34⟩
  refine zzi ⟨24, i33.cs⟩ ty24 ?_
  refine zzb (zzd (zzy [0, 1, 3, 7, 0, 16, 48, 127, 0, 511] [(0, []), (1, []), (2, []), (4, []), (5, []), (6, []), (8, []), (3, []), (7, []), (9, [])] xj xj (zza 28 (.adr 6 0) (zza 29 (.adr 6 2) (zzh 30 (.v r12.d.v) ty22 zzk (zza 32 (.adr 7 0) (zza 33 (.adr 7 0) (zzh 34 (.v (.agg #[.bool r17.s, r17.m.v])) ty24 zze (zzj 9 ⟨24, [.bool false, .slice none 0 0]⟩ (zzg 31 195 [r12.d.v] ?_))))))))))
  intro w38 u38 e38 d38
  have k41 := k_natural (x := r12.d) d38
  with_reducible refine zPm k41 ?_
  rintro _ u39 g40 rfl
  refine zzg 35 194 [.agg #[.bool false, r12.d.v], .agg #[.bool r17.s, r17.m.v]] ?_
  intro w42 u42 e42 d42
  have k47 := k_intMul d42 (nat_int (hd12.ext (e16.trans (g19.ext.trans (e21.trans (g23.ext.trans (e28.trans (g30.ext.trans (e32.trans (g36.ext.trans (e38.trans (g40.ext.trans e42)))))))))))) (hi17.ext (e21.trans (g23.ext.trans (e28.trans (g30.ext.trans (e32.trans (g36.ext.trans (e38.trans (g40.ext.trans e42))))))))) xq xq
  with_reducible refine zPm k47 ?_
  rintro _ u45 g46 ⟨i43, rfl, h44⟩
  refine zzi ⟨24, i43.cs⟩ ty24 ?_
  refine zzc 40 [(4, .adr 4 0), (8, .adr 8 0), (9, .adr 9 0)] [(4, ⟨26, [.bool false, .slice none 0 0, .slice none 0 0]⟩), (8, ⟨24, i33.cs⟩), (9, ⟨24, i43.cs⟩)] (sq9 (zzh 36 (.v (i33.v)) ty24 zze (zzh 37 (.v (i43.v)) ty24 zze (zzg 38 196 [i33.v, i43.v] ?_))))
  intro w48 u48 e48 d48
  have k51 := k_quotient (i := i33) (j := i43) d48
  with_reducible refine zPm k51 ?_
  rintro _ u49 g50 rfl
  refine zzg 39 148 [.agg #[.bool (!(i33.s == i43.s)), i33.m.v, i43.m.v]] ?_
  intro w52 u52 e52 d52
  have k57 := k_lowest d52 ((quot_int (h34.ext (e38.trans (g40.ext.trans (e42.trans (g46.ext.trans (e48.trans g50.ext)))))) (h44.ext (e48.trans g50.ext))).ext e52) ((int_mag (h44.ext (e48.trans g50.ext))).ext e52).raw hpp xq xq
  with_reducible refine zPm k57 ?_
  rintro _ u55 g56 ⟨r53, rfl, h54⟩
  refine zzi ⟨26, r53.cs⟩ ty26 ?_
  refine zza 5 (zI 0) (zzb (zzn (ret0 [r53.v, .int .i64 0] ⟨zzq ty26 zze, zzp, trivial⟩ fun u58 e59 => ?_)))
  right
  refine ⟨?_, r53, rfl, RatN.more (K := (max (K + L) (K + L))) ?_ xq⟩
  ·rw [hq17]; exact (Rat.mkRat_ne_zero xq).2 hz0
  ·rw [hq12, hq17, ← Nt.quo_mk hp12 hp17 hz0, ← Nt.div_mk2 xq]
   exact (h54.ext e59)
theorem k_ends {u w : World} {a1 a2 : RL} {x1 x2 : Rat} {K : Nat} (d : Dat u w) (ha1 : RatV u a1 x1 K) (ha2 : RatV u a2 x2 K) (hK : K ≤ 200000000) : Calls Tryz.prog 208 #[IV a1 a2] w (Post u w fun v u' => ∃ p q : RL, v = .tuple #[p.v, q.v] ∧ RatV u' p (Nt.lo x1 x2) K ∧ RatV u' q (Nt.hi x1 x2) K) := by
 refine zzl (args := [.agg #[.bool a1.s, .slice a1.m.a a1.m.n a1.m.c, .slice a1.d.a a1.d.n a1.d.c, .bool a2.s, .slice a2.m.a a2.m.n a2.m.c, .slice a2.d.a a2.d.n a2.d.c]]) Tryz.func208 rfl Tryz.ntmps208 (rs := [.cell 2 26, .cell 3 26]) Tryz.results208 (le_b rfl) (le_b rfl) d ?_
 refine sq9 (zzj 1 ⟨32, a1.cs ++ a2.cs⟩ (zzj 2 ⟨26, [.bool false, .slice none 0 0, .slice none 0 0]⟩ (zzj 3 ⟨26, [.bool false, .slice none 0 0, .slice none 0 0]⟩ (zzb (zzd (sq9 (zza 4 (.adr 1 0) (zzh 5 (.v (a1.v)) ty26 zze (zza 6 (.adr 1 3) (zzh 7 (.v (a2.v)) ty26 zze (zzg 8 197 [a1.v, a2.v] ?_)))))))))))
 intro w11 u11 e11 d11
 have k14 := k_ratCompare d11 (ha1.ext e11) (ha2.ext e11) xq xq
 with_reducible refine zPm k14 ?_
 rintro _ u12 g13 rfl
 refine zza 9 (zB (decide ((0 : Int) < (Nt.cmpQ x1 x2)))) (zzb (zzt (b := decide ((0 : Int) < (Nt.cmpQ x1 x2))) xj (fun hb15 => ?_) (fun hb15 => ?_)))
 ·replace hb15 : (decide ((0 : Int) < (Nt.cmpQ x1 x2))) = true := hb15
  have qhb15 := of_decide_eq_true hb15
  refine zzd (zzy [0, 1, 0, 4, 3, 31] [(0, []), (1, []), (2, []), (3, []), (4, [12]), (5, [])] xj xj (zza 10 (.adr 1 3) (zzh 11 (.v (a2.v)) ty26 zze (zza 12 (.adr 1 0) (zzh 13 (.v (a1.v)) ty26 zze (zzi ⟨26, a2.cs⟩ ty26 ?_))))))
  refine zzi ⟨26, a1.cs⟩ ty26 ?_
  refine zzb (zzn (zzv (ret0 [a2.v, a1.v] ⟨zzq ty26 zze, zzq ty26 zze, trivial⟩ fun u16 e17 => ?_)))
  refine ⟨a2, a1, rfl, ?_, ?_⟩
  ·rw [(Nt.ends_gt hb15).1]; exact (ha2.ext (e11.trans (g13.ext.trans e17)))
  ·rw [(Nt.ends_gt hb15).2]; exact (ha1.ext (e11.trans (g13.ext.trans e17)))
 ·replace hb15 : (decide ((0 : Int) < (Nt.cmpQ x1 x2))) = false := hb15
  have qhb15 := of_decide_eq_false hb15
  refine zzr (zzo ?_)
  refine zzd (zzy [0, 1, 0, 4, 3, 31] [(0, []), (1, []), (2, []), (3, []), (4, [16]), (5, [])] xj xj (zza 14 (.adr 1 0) (zzh 15 (.v (a1.v)) ty26 zze (zza 16 (.adr 1 3) (zzh 17 (.v (a2.v)) ty26 zze (zzi ⟨26, a1.cs⟩ ty26 ?_))))))
  refine zzi ⟨26, a2.cs⟩ ty26 ?_
  refine zzb (zzn (ret0 [a1.v, a2.v] ⟨zzq ty26 zze, zzq ty26 zze, trivial⟩ fun u18 e19 => ?_))
  refine ⟨a1, a2, rfl, ?_, ?_⟩
  ·rw [(Nt.ends_le hb15).1]; exact (ha1.ext (e11.trans (g13.ext.trans e19)))
  ·rw [(Nt.ends_le hb15).2]; exact (ha2.ext (e11.trans (g13.ext.trans e19)))
theorem k_lesserN {u w : World} {a : RL} {x : Rat} {b : RL} {y : Rat} {K : Nat} (d : Dat u w) (ha : RatN u a x K) (hb : RatN u b y K) (hK : K ≤ 200000000) : Calls Tryz.prog 239 #[a.v, b.v] w (Post u w fun v u' => ∃ p : RL, v = p.v ∧ RatN u' p (Nt.lo x y) K) := by
 refine zzl (args := [a.v, b.v]) Tryz.func239 rfl Tryz.ntmps239 (rs := [.cell 4 26]) Tryz.results239 (le_b rfl) (le_b rfl) d ?_
 refine sq9 (zzj 2 ⟨26, a.cs⟩ (zzj 3 ⟨26, b.cs⟩ (zzj 4 ⟨26, [.bool false, .slice none 0 0, .slice none 0 0]⟩ (zzb (zzd (sq9 (zzh 5 (.v (b.v)) ty26 zze (zzh 6 (.v (a.v)) ty26 zze (zzg 7 197 [b.v, a.v] ?_)))))))))
 intro w11 u11 e11 d11
 have k14 := k_ratCompare d11 (hb.ext e11).raw (ha.ext e11).raw xq xq
 with_reducible refine zPm k14 ?_
 rintro _ u12 g13 rfl
 refine zza 8 (zB (decide ((Nt.cmpQ y x) < 0))) (zzb (zzt (b := decide ((Nt.cmpQ y x) < 0)) xj (fun hb15 => ?_) (fun hb15 => ?_)))
 ·replace hb15 : (decide ((Nt.cmpQ y x) < 0)) = true := hb15
  have qhb15 := of_decide_eq_true hb15
  refine sq9 (zzh 9 (.v (b.v)) ty26 zze (zzi ⟨26, b.cs⟩ ty26 ?_))
  refine zzb (zzn (zzv (ret0 [b.v] ⟨zzq ty26 zze, trivial⟩ fun u16 e17 => ?_)))
  refine ⟨b, rfl, ?_⟩
  rw [Nt.lesser_lt hb15]
  exact (hb.ext (e11.trans (g13.ext.trans e17)))
 ·replace hb15 : (decide ((Nt.cmpQ y x) < 0)) = false := hb15
  have qhb15 := of_decide_eq_false hb15
  refine zzr (zzo ?_)
  refine sq9 (zzh 10 (.v (a.v)) ty26 zze (zzi ⟨26, a.cs⟩ ty26 ?_))
  refine zzb (zzn (ret0 [a.v] ⟨zzq ty26 zze, trivial⟩ fun u18 e19 => ?_))
  refine ⟨a, rfl, ?_⟩
  rw [Nt.lesser_ge hb15]
  exact (ha.ext (e11.trans (g13.ext.trans e19)))
theorem k_greaterN {u w : World} {a : RL} {x : Rat} {b : RL} {y : Rat} {K : Nat} (d : Dat u w) (ha : RatN u a x K) (hb : RatN u b y K) (hK : K ≤ 200000000) : Calls Tryz.prog 240 #[a.v, b.v] w (Post u w fun v u' => ∃ p : RL, v = p.v ∧ RatN u' p (Nt.hi x y) K) := by
 refine zzl (args := [a.v, b.v]) Tryz.func240 rfl Tryz.ntmps240 (rs := [.cell 4 26]) Tryz.results240 (le_b rfl) (le_b rfl) d ?_
 refine sq9 (zzj 2 ⟨26, a.cs⟩ (zzj 3 ⟨26, b.cs⟩ (zzj 4 ⟨26, [.bool false, .slice none 0 0, .slice none 0 0]⟩ (zzb (zzd (sq9 (zzh 5 (.v (b.v)) ty26 zze (zzh 6 (.v (a.v)) ty26 zze (zzg 7 197 [b.v, a.v] ?_)))))))))
 intro w11 u11 e11 d11
 have k14 := k_ratCompare d11 (hb.ext e11).raw (ha.ext e11).raw xq xq
 with_reducible refine zPm k14 ?_
 rintro _ u12 g13 rfl
 refine zza 8 (zB (decide ((0 : Int) < (Nt.cmpQ y x)))) (zzb (zzt (b := decide ((0 : Int) < (Nt.cmpQ y x))) xj (fun hb15 => ?_) (fun hb15 => ?_)))
 ·replace hb15 : (decide ((0 : Int) < (Nt.cmpQ y x))) = true := hb15
  have qhb15 := of_decide_eq_true hb15
  refine sq9 (zzh 9 (.v (b.v)) ty26 zze (zzi ⟨26, b.cs⟩ ty26 ?_))
  refine zzb (zzn (zzv (ret0 [b.v] ⟨zzq ty26 zze, trivial⟩ fun u16 e17 => ?_)))
  refine ⟨b, rfl, ?_⟩
  rw [Nt.greater_gt hb15]
  exact (hb.ext (e11.trans (g13.ext.trans e17)))
 ·replace hb15 : (decide ((0 : Int) < (Nt.cmpQ y x))) = false := hb15
  have qhb15 := of_decide_eq_false hb15
  refine zzr (zzo ?_)
  refine sq9 (zzh 10 (.v (a.v)) ty26 zze (zzi ⟨26, a.cs⟩ ty26 ?_))
  refine zzb (zzn (ret0 [a.v] ⟨zzq ty26 zze, trivial⟩ fun u18 e19 => ?_))
  refine ⟨a, rfl, ?_⟩
  rw [Nt.greater_le hb15]
  exact (ha.ext (e11.trans (g13.ext.trans e19)))
theorem k_own {u w : World} {a : RL} {x : Rat} {K : Nat} (d : Dat u w) (ha : RatN u a x K) (hK : K ≤ 200000000) : Calls Tryz.prog 241 #[a.v] w (Post u w fun v u' => ∃ p : RL, v = p.v ∧ RatN u' p x K) := by
 refine zzl (args := [a.v]) Tryz.func241 rfl Tryz.ntmps241 (rs := [.cell 2 26]) Tryz.results241 (le_b rfl) (le_b rfl) d ?_
 refine sq9 (zzj 1 ⟨26, a.cs⟩ (zzj 2 ⟨26, [.bool false, .slice none 0 0, .slice none 0 0]⟩ (zzb (zzd (zzy [0, 1, 3, 0, 8, 24, 56, 127, 0, 256, 888, 2047, 4095] [(0, []), (1, []), (2, []), (3, []), (4, []), (5, []), (8, []), (9, []), (6, []), (7, []), (10, []), (11, []), (12, [])] xj xj (zza 3 (.adr 1 0) (zza 4 (.adr 1 0) (zzh 5 (zB a.s) ty4 zzk (zza 6 (.adr 1 0) (zza 7 (.adr 1 1) (zzh 8 (.v a.m.v) ty22 zzk ?_)))))))))))
 refine zza 11 (.adr 1 2) (zzh 12 (.v a.d.v) ty22 zzk (zzg 9 217 [a.m.v] ?_))
 intro w11 u11 e11 d11
 have k16 := k_cloneN d11 ((int_mag (RatN.num ha)).ext e11) xq
 with_reducible refine zPm k16 ?_
 rintro _ u14 g15 ⟨x12, rfl, h13⟩
 refine zza 10 (.v (.agg #[.bool a.s, x12.v])) (zzg 13 217 [a.d.v] ?_)
 intro w17 u17 e17 d17
 have k22 := k_cloneN d17 ((RatN.den ha).ext (e11.trans (g15.ext.trans e17))) xq
 with_reducible refine zPm k22 ?_
 rintro _ u20 g21 ⟨x18, rfl, h19⟩
 refine zza 14 (.v (.agg #[.bool a.s, x12.v, x18.v])) (zzi ⟨26, [.bool a.s, x12.v, x18.v]⟩ ty26 ?_)
 refine zzb (zzn (ret0 [.agg #[.bool a.s, .slice x12.a x12.n x12.c, .slice x18.a x18.n x18.c]] ⟨zzq ty26 zze, trivial⟩ fun u23 e24 => ?_))
 exact ⟨(⟨a.s, x12, x18⟩ : RL), rfl, own_rat (r := a) ha (h13.ext (e17.trans (g21.ext.trans e24))) (h19.ext e24)⟩
set_option maxHeartbeats 1000000 in
theorem k_around {u w : World} {a1 a2 a3 a4 : RL} {x1 x2 x3 x4 : Rat} {K : Nat} (d : Dat u w) (ha1 : RatN u a1 x1 K) (ha2 : RatN u a2 x2 K) (ha3 : RatN u a3 x3 K) (ha4 : RatN u a4 x4 K) (hK : K ≤ 200000000) : Calls Tryz.prog 200 #[.agg #[.bool a1.s, .slice a1.m.a a1.m.n a1.m.c, .slice a1.d.a a1.d.n a1.d.c, .bool a2.s, .slice a2.m.a a2.m.n a2.m.c, .slice a2.d.a a2.d.n a2.d.c, .bool a3.s, .slice a3.m.a a3.m.n a3.m.c, .slice a3.d.a a3.d.n a3.d.c, .bool a4.s, .slice a4.m.a a4.m.n a4.m.c, .slice a4.d.a a4.d.n a4.d.c]] w (Post u w fun v u' => ∃ p q : RL, v = IV p q ∧ RatN u' p (Nt.lo4 x1 x2 x3 x4) K ∧ RatN u' q (Nt.hi4 x1 x2 x3 x4) K) := by
 refine zzl (args := [.agg #[.bool a1.s, .slice a1.m.a a1.m.n a1.m.c, .slice a1.d.a a1.d.n a1.d.c, .bool a2.s, .slice a2.m.a a2.m.n a2.m.c, .slice a2.d.a a2.d.n a2.d.c, .bool a3.s, .slice a3.m.a a3.m.n a3.m.c, .slice a3.d.a a3.d.n a3.d.c, .bool a4.s, .slice a4.m.a a4.m.n a4.m.c, .slice a4.d.a a4.d.n a4.d.c]]) Tryz.func200 rfl Tryz.ntmps200 (rs := [.cell 2 32]) Tryz.results200 (le_b rfl) (le_b rfl) d ?_
 refine sq9 (zzj 1 ⟨180, a1.cs ++ a2.cs ++ a3.cs ++ a4.cs⟩ (zzj 2 ⟨32, [.bool false, .slice none 0 0, .slice none 0 0, .bool false, .slice none 0 0, .slice none 0 0]⟩ (zzb (zzd (zzy [0, 1, 0, 4, 0, 0, 51, 127] [(0, []), (1, []), (2, []), (3, []), (4, []), (5, []), (6, [9]), (7, [])] xj xj (zza 7 (.adr 1 0) (zzh 8 (.v (a1.v)) ty26 zze (zza 9 (.adr 1 0) (zzh 10 (.v (a1.v)) ty26 zze (zzj 3 ⟨26, [.bool false, .slice none 0 0, .slice none 0 0]⟩ (zzj 4 ⟨26, [.bool false, .slice none 0 0, .slice none 0 0]⟩ ?_)))))))))))
 refine zzi ⟨26, a1.cs⟩ ty26 ?_
 refine zzi ⟨26, a1.cs⟩ ty26 ?_
 refine zzb (zzd (sq9 (zza 11 (.slc 1 3 3 3) (zza 12 (zI 3) (zza 13 (zI 0) (zzb (zzs (sw_rounds 3 ?_))))))))
 refine sq9 (zza 14 (zB true) (zzb (zzd (zyq xj (zzr (zzo ?_))))))
 refine zzd (zzs (sq9 (zza 15 (.adr 1 3) (zzh 16 (.v (a2.v)) ty26 zze (zzj 6 ⟨26, [.bool false, .slice none 0 0, .slice none 0 0]⟩ (zzi ⟨26, a2.cs⟩ ty26 ?_))))))
 refine zzb (zzy [0, 0, 3, 0, 0, 31, 63, 127] [(0, []), (1, []), (3, []), (4, []), (2, []), (5, []), (6, []), (7, [])] xj xj (zzh 17 (.v (a1.v)) ty26 zze (zzh 18 (.v (a2.v)) ty26 zze (zzh 20 (.v (a1.v)) ty26 zze (zzh 21 (.v (a2.v)) ty26 zze (zzg 19 239 [a1.v, a2.v] ?_))))))
 intro w11 u11 e11 d11
 have k16 := k_lesserN d11 (ha1.ext e11) (ha2.ext e11) xq
 with_reducible refine zPm k16 ?_
 rintro _ u14 g15 ⟨r12, rfl, h13⟩
 refine zzg 22 240 [a1.v, a2.v] ?_
 intro w17 u17 e17 d17
 have k22 := k_greaterN d17 (ha1.ext (e11.trans (g15.ext.trans e17))) (ha2.ext (e11.trans (g15.ext.trans e17))) xq
 with_reducible refine zPm k22 ?_
 rintro _ u20 g21 ⟨r18, rfl, h19⟩
 refine zzi ⟨26, r12.cs⟩ ty26 ?_
 refine zzi ⟨26, r18.cs⟩ ty26 ?_
 refine zzw ?_
 refine zzo (zzf (zza 23 (zI 1) (zza 13 (zI 1) (zzw ?_))))
 refine rn_next ?_
 refine sw_weak (T := St.of 29 [(2, .adr 2 0), (3, .adr 3 0), (4, .adr 4 0), (11, .slc 1 3 3 3), (12, zI 3), (13, zI 1)] [(1, ⟨180, a1.cs ++ a2.cs ++ a3.cs ++ a4.cs⟩), (2, ⟨32, [.bool false, .slice none 0 0, .slice none 0 0, .bool false, .slice none 0 0, .slice none 0 0]⟩), (3, ⟨26, r12.cs⟩), (4, ⟨26, r18.cs⟩)]) yz ?_
 refine sq9 (zza 14 (zB true) (zzb (zzd (zyq xj (zzr (zzo ?_))))))
 refine zzd (zzs (sq9 (zza 15 (.adr 1 6) (zzh 16 (.v (a3.v)) ty26 zze (zzj 6 ⟨26, [.bool false, .slice none 0 0, .slice none 0 0]⟩ (zzi ⟨26, a3.cs⟩ ty26 ?_))))))
 refine zzb (zzy [0, 0, 3, 0, 0, 31, 63, 127] [(0, []), (1, []), (3, []), (4, []), (2, []), (5, []), (6, []), (7, [])] xj xj (zzh 17 (.v (r12.v)) ty26 zze (zzh 18 (.v (a3.v)) ty26 zze (zzh 20 (.v (r18.v)) ty26 zze (zzh 21 (.v (a3.v)) ty26 zze (zzg 19 239 [r12.v, a3.v] ?_))))))
 intro w23 u23 e23 d23
 have k28 := k_lesserN d23 (h13.ext (e17.trans (g21.ext.trans e23))) (ha3.ext (e11.trans (g15.ext.trans (e17.trans (g21.ext.trans e23))))) xq
 with_reducible refine zPm k28 ?_
 rintro _ u26 g27 ⟨r24, rfl, h25⟩
 refine zzg 22 240 [r18.v, a3.v] ?_
 intro w29 u29 e29 d29
 have k34 := k_greaterN d29 (h19.ext (e23.trans (g27.ext.trans e29))) (ha3.ext (e11.trans (g15.ext.trans (e17.trans (g21.ext.trans (e23.trans (g27.ext.trans e29))))))) xq
 with_reducible refine zPm k34 ?_
 rintro _ u32 g33 ⟨r30, rfl, h31⟩
 refine zzi ⟨26, r24.cs⟩ ty26 ?_
 refine zzi ⟨26, r30.cs⟩ ty26 ?_
 refine zzw ?_
 refine zzo (zzf (zza 23 (zI 2) (zza 13 (zI 2) (zzw ?_))))
 refine rn_next ?_
 refine sw_weak (T := St.of 29 [(2, .adr 2 0), (3, .adr 3 0), (4, .adr 4 0), (11, .slc 1 3 3 3), (12, zI 3), (13, zI 2)] [(1, ⟨180, a1.cs ++ a2.cs ++ a3.cs ++ a4.cs⟩), (2, ⟨32, [.bool false, .slice none 0 0, .slice none 0 0, .bool false, .slice none 0 0, .slice none 0 0]⟩), (3, ⟨26, r24.cs⟩), (4, ⟨26, r30.cs⟩)]) yz ?_
 refine sq9 (zza 14 (zB true) (zzb (zzd (zyq xj (zzr (zzo ?_))))))
 refine zzd (zzs (sq9 (zza 15 (.adr 1 9) (zzh 16 (.v (a4.v)) ty26 zze (zzj 6 ⟨26, [.bool false, .slice none 0 0, .slice none 0 0]⟩ (zzi ⟨26, a4.cs⟩ ty26 ?_))))))
 refine zzb (zzy [0, 0, 3, 0, 0, 31, 63, 127] [(0, []), (1, []), (3, []), (4, []), (2, []), (5, []), (6, []), (7, [])] xj xj (zzh 17 (.v (r24.v)) ty26 zze (zzh 18 (.v (a4.v)) ty26 zze (zzh 20 (.v (r30.v)) ty26 zze (zzh 21 (.v (a4.v)) ty26 zze (zzg 19 239 [r24.v, a4.v] ?_))))))
 intro w35 u35 e35 d35
 have k40 := k_lesserN d35 (h25.ext (e29.trans (g33.ext.trans e35))) (ha4.ext (e11.trans (g15.ext.trans (e17.trans (g21.ext.trans (e23.trans (g27.ext.trans (e29.trans (g33.ext.trans e35))))))))) xq
 with_reducible refine zPm k40 ?_
 rintro _ u38 g39 ⟨r36, rfl, h37⟩
 refine zzg 22 240 [r30.v, a4.v] ?_
 intro w41 u41 e41 d41
 have k46 := k_greaterN d41 (h31.ext (e35.trans (g39.ext.trans e41))) (ha4.ext (e11.trans (g15.ext.trans (e17.trans (g21.ext.trans (e23.trans (g27.ext.trans (e29.trans (g33.ext.trans (e35.trans (g39.ext.trans e41))))))))))) xq
 with_reducible refine zPm k46 ?_
 rintro _ u44 g45 ⟨r42, rfl, h43⟩
 refine zzi ⟨26, r36.cs⟩ ty26 ?_
 refine zzi ⟨26, r42.cs⟩ ty26 ?_
 refine zzw ?_
 refine zzo (zzf (zza 23 (zI 3) (zza 13 (zI 3) (zzw ?_))))
 refine rn_next ?_
 refine sw_weak (T := St.of 29 [(2, .adr 2 0), (3, .adr 3 0), (4, .adr 4 0), (11, .slc 1 3 3 3), (12, zI 3), (13, zI 3)] [(1, ⟨180, a1.cs ++ a2.cs ++ a3.cs ++ a4.cs⟩), (2, ⟨32, [.bool false, .slice none 0 0, .slice none 0 0, .bool false, .slice none 0 0, .slice none 0 0]⟩), (3, ⟨26, r36.cs⟩), (4, ⟨26, r42.cs⟩)]) yz ?_
 refine sq9 (zza 14 (zB false) (zzb (zzd (zyr xj (zyb (zzo (zzd (zzy [0, 1, 0, 7, 15, 31] [(0, []), (2, []), (1, []), (3, []), (4, []), (5, [])] xj xj (zzh 24 (.v (r36.v)) ty26 zze (zzh 26 (.v (r42.v)) ty26 zze (zzg 25 241 [r36.v] ?_)))))))))))
 intro w47 u47 e47 d47
 have k52 := k_own d47 (h37.ext (e41.trans (g45.ext.trans e47))) xq
 with_reducible refine zPm k52 ?_
 rintro _ u50 g51 ⟨r48, rfl, h49⟩
 refine zzg 27 241 [r42.v] ?_
 intro w53 u53 e53 d53
 have k58 := k_own d53 (h43.ext (e47.trans (g51.ext.trans e53))) xq
 with_reducible refine zPm k58 ?_
 rintro _ u56 g57 ⟨r54, rfl, h55⟩
 refine zza 28 (.v (.agg #[.bool r48.s, r48.m.v, r48.d.v, .bool r54.s, r54.m.v, r54.d.v])) (zzi ⟨32, r48.cs ++ r54.cs⟩ ty32 ?_)
 refine zzc 29 [(2, .adr 2 0)] [(2, ⟨32, r48.cs ++ r54.cs⟩)] (zzn (ret0 [.agg #[.bool r48.s, .slice r48.m.a r48.m.n r48.m.c, .slice r48.d.a r48.d.n r48.d.c, .bool r54.s, .slice r54.m.a r54.m.n r54.m.c, .slice r54.d.a r54.d.n r54.d.c]] ⟨zzq ty32 zze, trivial⟩ fun u59 e60 => ?_))
 refine ⟨r48, r54, rfl, RatN.more (K := K) ?_ xq, RatN.more (K := K) ?_ xq⟩
 ·exact (h49.ext (e53.trans (g57.ext.trans e60)))
 ·exact (h55.ext e60)
theorem k_ivMake {u w : World} {a : RL} {x : Rat} {b : RL} {y : Rat} {K : Nat} (d : Dat u w) (ha : RatV u a x K) (hb : RatV u b y K) (hK : K ≤ 100000000) : Calls Tryz.prog 144 #[a.v, b.v] w (Post u w fun v u' => ∃ p q : RL, v = IV p q ∧ RatN u' p (Nt.lo x y) K ∧ RatN u' q (Nt.hi x y) K) := by
 refine zzl (args := [a.v, b.v]) Tryz.func144 rfl Tryz.ntmps144 (rs := [.cell 4 32]) Tryz.results144 (le_b rfl) (le_b rfl) d ?_
 refine sq9 (zzj 2 ⟨26, a.cs⟩ (zzj 3 ⟨26, b.cs⟩ (zzj 4 ⟨32, [.bool false, .slice none 0 0, .slice none 0 0, .bool false, .slice none 0 0, .slice none 0 0]⟩ (zzb (sq9 (zzh 8 (.v (a.v)) ty26 zze (zzh 9 (.v (b.v)) ty26 zze (zza 10 (.v (.agg #[.bool a.s, a.m.v, a.d.v, .bool b.s, b.m.v, b.d.v])) (zzg 11 208 [.agg #[.bool a.s, a.m.v, a.d.v, .bool b.s, b.m.v, b.d.v]] ?_)))))))))
 intro w11 u11 e11 d11
 have k18 := k_ends d11 (ha.ext e11) (hb.ext e11) xq
 with_reducible refine zPm k18 ?_
 rintro _ u16 g17 ⟨r12, r14, rfl, h13, h15⟩
 refine zza 7 (.v (.tuple #[r12.v, r14.v])) (zza 12 (.v (r12.v)) (zza 13 (.v (r14.v)) (zzj 5 ⟨26, [.bool false, .slice none 0 0, .slice none 0 0]⟩ (zzj 6 ⟨26, [.bool false, .slice none 0 0, .slice none 0 0]⟩ (zzi ⟨26, r12.cs⟩ ty26 ?_)))))
 refine zzi ⟨26, r14.cs⟩ ty26 ?_
 refine zzb (zzd (zzy [0, 1, 0, 7, 15, 31] [(0, []), (2, []), (1, []), (3, []), (4, []), (5, [])] xj xj (zzh 14 (.v (r12.v)) ty26 zze (zzh 16 (.v (r14.v)) ty26 zze (zzg 15 78 [r12.v] ?_)))))
 intro w19 u19 e19 d19
 have k24 := k_ratTrim d19 (h13.ext e19) xq
 with_reducible refine zPm k24 ?_
 rintro _ u22 g23 ⟨r20, rfl, h21⟩
 refine zzg 17 78 [r14.v] ?_
 intro w25 u25 e25 d25
 have k30 := k_ratTrim d25 (h15.ext (e19.trans (g23.ext.trans e25))) xq
 with_reducible refine zPm k30 ?_
 rintro _ u28 g29 ⟨r26, rfl, h27⟩
 refine zza 18 (.v (.agg #[.bool r20.s, r20.m.v, r20.d.v, .bool r26.s, r26.m.v, r26.d.v])) (zzi ⟨32, r20.cs ++ r26.cs⟩ ty32 ?_)
 refine zzb (zzn (ret0 [.agg #[.bool r20.s, .slice r20.m.a r20.m.n r20.m.c, .slice r20.d.a r20.d.n r20.d.c, .bool r26.s, .slice r26.m.a r26.m.n r26.m.c, .slice r26.d.a r26.d.n r26.d.c]] ⟨zzq ty32 zze, trivial⟩ fun u31 e32 => ?_))
 refine ⟨r20, r26, rfl, RatN.more (K := K) ?_ xq, RatN.more (K := K) ?_ xq⟩
 ·exact (h21.ext (e25.trans (g29.ext.trans e32)))
 ·exact (h27.ext e32)
theorem k_ivSign {u w : World} {a1 a2 : RL} {x1 x2 : Rat} {K : Nat} (d : Dat u w) (ha1 : RatV u a1 x1 K) (ha2 : RatV u a2 x2 K) (hK : K ≤ 100000000) : Calls Tryz.prog 201 #[IV a1 a2] w (Post u w fun v u' => v = .int .i64 (Nt.sgI x1 x2)) := by
 refine zzl (args := [.agg #[.bool a1.s, .slice a1.m.a a1.m.n a1.m.c, .slice a1.d.a a1.d.n a1.d.c, .bool a2.s, .slice a2.m.a a2.m.n a2.m.c, .slice a2.d.a a2.d.n a2.d.c]]) Tryz.func201 rfl Tryz.ntmps201 (rs := [.tmp 2]) Tryz.results201 (le_b rfl) (le_b rfl) d ?_
 refine sq9 (zzj 1 ⟨32, a1.cs ++ a2.cs⟩ (zza 2 (zI 0) (zzb (sq9 (zzh 6 (.v (.agg #[.bool a1.s, a1.m.v, a1.d.v, .bool a2.s, a2.m.v, a2.d.v])) ty32 zze (zzg 7 208 [.agg #[.bool a1.s, a1.m.v, a1.d.v, .bool a2.s, a2.m.v, a2.d.v]] ?_))))))
 intro w11 u11 e11 d11
 have k18 := k_ends d11 (ha1.ext e11) (ha2.ext e11) xq
 with_reducible refine zPm k18 ?_
 rintro _ u16 g17 ⟨r12, r14, rfl, h13, h15⟩
 refine zza 5 (.v (.tuple #[r12.v, r14.v])) (zza 8 (.v (r12.v)) (zza 9 (.v (r14.v)) (zzj 3 ⟨26, [.bool false, .slice none 0 0, .slice none 0 0]⟩ (zzj 4 ⟨26, [.bool false, .slice none 0 0, .slice none 0 0]⟩ (zzi ⟨26, r12.cs⟩ ty26 ?_)))))
 refine zzi ⟨26, r14.cs⟩ ty26 ?_
 refine zzb (zzd (zzs (sq9 (zzh 11 (.v (r12.v)) ty26 zze (zzg 12 76 [r12.v] ?_)))))
 intro w19 u19 e19 d19
 have k22 := k_ratSign d19 (h13.ext e19)
 with_reducible refine zPm k22 ?_
 rintro _ u20 g21 rfl
 refine zza 13 (zB (decide ((0 : Int) < (Nt.sgQ (Nt.lo x1 x2))))) (zza 10 (zB (decide ((0 : Int) < (Nt.sgQ (Nt.lo x1 x2))))) (zzb (zzt (b := decide ((0 : Int) < (Nt.sgQ (Nt.lo x1 x2)))) xj (fun hb23 => ?_) (fun hb23 => ?_))))
 ·replace hb23 : (decide ((0 : Int) < (Nt.sgQ (Nt.lo x1 x2)))) = true := hb23
  have qhb23 := of_decide_eq_true hb23
  refine sq9 (zza 2 (zI 1) (zzb (zzn (zyt (zzv (ret0 [.int .i64 1] ⟨zzp, trivial⟩ fun u24 e25 => ?_))))))
  show _ = _
  unfold Nt.sgI
  rw [Nt.sgQ_gt] at hb23
  rw [if_pos (of_decide_eq_true hb23)]
  rfl
 ·replace hb23 : (decide ((0 : Int) < (Nt.sgQ (Nt.lo x1 x2)))) = false := hb23
  have qhb23 := of_decide_eq_false hb23
  refine sq9 (zzh 15 (.v (r14.v)) ty26 zze (zzg 16 76 [r14.v] ?_))
  intro w26 u26 e26 d26
  have k29 := k_ratSign d26 (h15.ext (e19.trans (g21.ext.trans e26)))
  with_reducible refine zPm k29 ?_
  rintro _ u27 g28 rfl
  refine zza 17 (zB (decide ((Nt.sgQ (Nt.hi x1 x2)) < 0))) (zza 14 (zB (decide ((Nt.sgQ (Nt.hi x1 x2)) < 0))) (zzb (zzt (b := decide ((Nt.sgQ (Nt.hi x1 x2)) < 0)) xj (fun hb30 => ?_) (fun hb30 => ?_))))
  ·replace hb30 : (decide ((Nt.sgQ (Nt.hi x1 x2)) < 0)) = true := hb30
   have qhb30 := of_decide_eq_true hb30
   refine sq9 (zza 2 (zI (-1)) (zzb (zzn (zyt (zzv (ret0 [.int .i64 (-1)] ⟨zzp, trivial⟩ fun u31 e32 => ?_))))))
   show _ = _
   unfold Nt.sgI
   rw [Nt.sgQ_gt] at hb23
   rw [if_neg (of_decide_eq_false hb23)]
   rw [Nt.sgQ_lt] at hb30
   rw [if_pos (of_decide_eq_true hb30)]
   rfl
  ·replace hb30 : (decide ((Nt.sgQ (Nt.hi x1 x2)) < 0)) = false := hb30
   have qhb30 := of_decide_eq_false hb30
   refine zzr (zzo ?_)
   refine sq9 (zza 2 (zI 0) (zzb (zzn (ret0 [.int .i64 0] ⟨zzp, trivial⟩ fun u33 e34 => ?_))))
   show _ = _
   unfold Nt.sgI
   rw [Nt.sgQ_gt] at hb23
   rw [if_neg (of_decide_eq_false hb23)]
   rw [Nt.sgQ_lt] at hb30
   rw [if_neg (of_decide_eq_false hb30)]
   rfl
theorem k_ivMid {u w : World} {a1 a2 : RL} {x1 x2 : Rat} {K : Nat} (d : Dat u w) (ha1 : RatV u a1 x1 K) (ha2 : RatV u a2 x2 K) (hK : K ≤ 50000000) : Calls Tryz.prog 204 #[IV a1 a2] w (Post u w fun v u' => ∃ p : RL, v = p.v ∧ RatN u' p ((x1 + x2) * (((1 : Int) : Rat) / ((2 : Int) : Rat))) (K + K + 1 + 2)) := by
 refine zzl (args := [.agg #[.bool a1.s, .slice a1.m.a a1.m.n a1.m.c, .slice a1.d.a a1.d.n a1.d.c, .bool a2.s, .slice a2.m.a a2.m.n a2.m.c, .slice a2.d.a a2.d.n a2.d.c]]) Tryz.func204 rfl Tryz.ntmps204 (rs := [.cell 2 26]) Tryz.results204 (le_b rfl) (le_b rfl) d ?_
 refine sq9 (zzj 1 ⟨32, a1.cs ++ a2.cs⟩ (zzj 2 ⟨26, [.bool false, .slice none 0 0, .slice none 0 0]⟩ (zzb (sq9 (zza 3 (.adr 1 0) (zzh 4 (.v (a1.v)) ty26 zze (zza 5 (.adr 1 3) (zzh 6 (.v (a2.v)) ty26 zze (zzg 7 126 [a1.v, a2.v] ?_)))))))))
 intro w11 u11 e11 d11
 have k16 := k_ratAdd d11 (ha1.ext e11) (ha2.ext e11) xq xq
 with_reducible refine zPm k16 ?_
 rintro _ u14 g15 ⟨r12, rfl, h13⟩
 refine zzg 8 127 [.int .i64 1, .int .i64 2] ?_
 intro w17 u17 e17 d17
 have k22 := k_ratFrac d17 (a := 1) (b := 2) xq xq xq xq
 with_reducible refine zPm k22 ?_
 rintro _ u20 g21 ⟨r18, rfl, h19⟩
 refine zzg 9 123 [r12.v, r18.v] ?_
 intro w23 u23 e23 d23
 have k28 := k_ratMul d23 (h13.ext (e17.trans (g21.ext.trans e23))).raw (h19.ext e23).raw xq xq
 with_reducible refine zPm k28 ?_
 rintro _ u26 g27 ⟨r24, rfl, h25⟩
 refine zzi ⟨26, r24.cs⟩ ty26 ?_
 refine zzb (zzn (ret0 [r24.v] ⟨zzq ty26 zze, trivial⟩ fun u29 e30 => ?_))
 exact ⟨r24, rfl, (h25.ext e30)⟩
theorem k_ratDiv1 {u w : World} {r1 r2 : RL} {x y : Rat} {K L : Nat} (d : Dat u w) (hr1 : RatV u r1 x K) (hr2 : RatV u r2 y L) (hy : y ≠ 0) (hK : K ≤ 200000000) (hL : L ≤ 200000000) : Calls Tryz.prog 202 #[r1.v, r2.v] w (Post u w fun v u' => ∃ r : RL, v = .tuple #[r.v, .int .i64 0] ∧ RatN u' r (x / y) (K + L)) :=
 Post.mono (k_ratDiv d hr1 hr2 hK hL) fun v u' _ h => h.elim (fun h => absurd h.2 hy) (fun h => h.2)
theorem sgI_ne {a b : Rat} (h : (Nt.sgI a b == 0) = false) : a ≠ 0 ∧ b ≠ 0 := by
 unfold Nt.sgI Nt.lo Nt.hi at h
 grind
def IDivR (x1 x2 y1 y2 : Rat) (K : Nat) (v : Value) (u : World) : Prop := (Nt.sgI y1 y2 = 0 ∧ v = .tuple #[.agg #[.bool false, .slice none 0 0, .slice none 0 0, .bool false, .slice none 0 0, .slice none 0 0], .int .i64 3]) ∨ (Nt.sgI y1 y2 ≠ 0 ∧ ∃ p q : RL, v = .tuple #[IV p q, .int .i64 0] ∧ RatN u p (Nt.lo4 (x1 / y1) (x1 / y2) (x2 / y1) (x2 / y2)) K ∧ RatN u q (Nt.hi4 (x1 / y1) (x1 / y2) (x2 / y1) (x2 / y2)) K)
set_option maxHeartbeats 2000000 in
theorem k_ivDiv {u w : World} {a1 a2 : RL} {x1 x2 : Rat} {b1 b2 : RL} {y1 y2 : Rat} {K L : Nat} (d : Dat u w) (ha1 : RatV u a1 x1 K) (ha2 : RatV u a2 x2 K) (hb1 : RatV u b1 y1 L) (hb2 : RatV u b2 y2 L) (hK : K ≤ 100000000) (hL : L ≤ 100000000) : Calls Tryz.prog 136 #[IV a1 a2, IV b1 b2] w (Post u w fun v u' => IDivR x1 x2 y1 y2 (K + L) v u') := by
 refine zzl (args := [.agg #[.bool a1.s, .slice a1.m.a a1.m.n a1.m.c, .slice a1.d.a a1.d.n a1.d.c, .bool a2.s, .slice a2.m.a a2.m.n a2.m.c, .slice a2.d.a a2.d.n a2.d.c], .agg #[.bool b1.s, .slice b1.m.a b1.m.n b1.m.c, .slice b1.d.a b1.d.n b1.d.c, .bool b2.s, .slice b2.m.a b2.m.n b2.m.c, .slice b2.d.a b2.d.n b2.d.c]]) Tryz.func136 rfl Tryz.ntmps136 (rs := [.cell 4 32, .tmp 5]) Tryz.results136 (le_b rfl) (le_b rfl) d ?_
 refine sq9 (zzj 2 ⟨32, a1.cs ++ a2.cs⟩ (zzj 3 ⟨32, b1.cs ++ b2.cs⟩ (zzj 4 ⟨32, [.bool false, .slice none 0 0, .slice none 0 0, .bool false, .slice none 0 0, .slice none 0 0]⟩ (zza 5 (zI 0) (zzb (zzd (sq9 (zzh 11 (.v (.agg #[.bool b1.s, b1.m.v, b1.d.v, .bool b2.s, b2.m.v, b2.d.v])) ty32 zze (zzg 12 201 [.agg #[.bool b1.s, b1.m.v, b1.d.v, .bool b2.s, b2.m.v, b2.d.v]] ?_)))))))))
 intro w11 u11 e11 d11
 have k14 := k_ivSign d11 (hb1.ext e11) (hb2.ext e11) xq
 with_reducible refine zPm k14 ?_
 rintro _ u12 g13 rfl
 refine zza 13 (zB ((Nt.sgI y1 y2) == 0)) (zzb (zzt (b := (Nt.sgI y1 y2) == 0) xj (fun hb15 => ?_) (fun hb15 => ?_)))
 ·replace hb15 : ((Nt.sgI y1 y2) == 0) = true := hb15
  refine sq9 (zza 14 (.v (.agg #[.bool false, .slice none 0 0, .slice none 0 0, .bool false, .slice none 0 0, .slice none 0 0])) (zzi ⟨32, [.bool false, .slice none 0 0, .slice none 0 0, .bool false, .slice none 0 0, .slice none 0 0]⟩ ty32 ?_))
  refine zza 5 (zI 3) (zzb (zzn (zzv (ret0 [.agg #[.bool false, .slice none 0 0, .slice none 0 0, .bool false, .slice none 0 0, .slice none 0 0], .int .i64 3] ⟨zzq ty32 zze, zzp, trivial⟩ fun u16 e17 => ?_))))
  exact .inl ⟨by simpa using hb15, rfl⟩
 ·replace hb15 : ((Nt.sgI y1 y2) == 0) = false := hb15
  refine zzr (zzo ?_)
  refine sq9 (zzj 6 ⟨180, [.bool false, .slice none 0 0, .slice none 0 0, .bool false, .slice none 0 0, .slice none 0 0, .bool false, .slice none 0 0, .slice none 0 0, .bool false, .slice none 0 0, .slice none 0 0]⟩ (zzb (zzd (sq9 (zza 15 (.adr 2 0) (zzh 16 (.v (a1.v)) ty26 zze (zza 17 (.adr 2 3) (zzh 18 (.v (a2.v)) ty26 zze (zza 19 (.v (.agg #[.bool a1.s, a1.m.v, a1.d.v, .bool a2.s, a2.m.v, a2.d.v])) (zza 20 (zI 0) (zzb ?_)))))))))))
  refine zzs (sw_rounds 2 ?_)
  refine sq9 (zza 21 (zB true) (zzb (zzd (zyq xj (zzr (zzo ?_))))))
  refine zzd (zzs (sq9 (zza 22 (zI 0) (zza 23 (.v (a1.v)) (zzj 8 ⟨26, [.bool false, .slice none 0 0, .slice none 0 0]⟩ (zza 7 (zI 0) (zzi ⟨26, a1.cs⟩ ty26 ?_)))))))
  refine zzb (sq9 (zza 24 (.adr 3 0) (zzh 25 (.v (b1.v)) ty26 zze (zza 26 (.adr 3 3) (zzh 27 (.v (b2.v)) ty26 zze (zza 28 (.v (.agg #[.bool b1.s, b1.m.v, b1.d.v, .bool b2.s, b2.m.v, b2.d.v])) (zza 29 (zI 0) (zzb (zzs (sw_rounds 2 ?_))))))))))
  refine sq9 (zza 30 (zB true) (zzb (zzd (zyq xj (zzr (zzo ?_))))))
  refine zzd (zzs (sq9 (zza 31 (zI 0) (zza 32 (.v (b1.v)) (zzj 10 ⟨26, [.bool false, .slice none 0 0, .slice none 0 0]⟩ (zza 9 (zI 0) (zzi ⟨26, b1.cs⟩ ty26 ?_)))))))
  refine zzc 48 [(3, .adr 3 0), (4, .adr 4 0), (6, .adr 6 0), (7, zI 0), (8, .adr 8 0), (9, zI 0), (10, .adr 10 0), (19, .v (.agg #[.bool a1.s, a1.m.v, a1.d.v, .bool a2.s, a2.m.v, a2.d.v])), (20, zI 0), (28, .v (.agg #[.bool b1.s, b1.m.v, b1.d.v, .bool b2.s, b2.m.v, b2.d.v])), (29, zI 0)] [(3, ⟨32, b1.cs ++ b2.cs⟩), (4, ⟨32, [.bool false, .slice none 0 0, .slice none 0 0, .bool false, .slice none 0 0, .slice none 0 0]⟩), (6, ⟨180, [.bool false, .slice none 0 0, .slice none 0 0, .bool false, .slice none 0 0, .slice none 0 0, .bool false, .slice none 0 0, .slice none 0 0, .bool false, .slice none 0 0, .slice none 0 0]⟩), (8, ⟨26, a1.cs⟩), (10, ⟨26, b1.cs⟩)] (zzf (zza 34 (zI 0) (zza 35 (zI 0) (zza 36 (zI 0) (zza 37 (zI 0) (zzh 38 (.v (a1.v)) ty26 zze (zzh 39 (.v (b1.v)) ty26 zze (zzg 40 202 [a1.v, b1.v] ?_))))))))
  intro w18 u18 e18 d18
  have k23 := k_ratDiv1 d18 (ha1.ext (e11.trans (g13.ext.trans e18))) (hb1.ext (e11.trans (g13.ext.trans e18))) (sgI_ne hb15).1 xq xq
  with_reducible refine zPm k23 ?_
  rintro _ u21 g22 ⟨r19, rfl, h20⟩
  refine zza 33 (.v (.tuple #[r19.v, .int .i64 0])) (zza 41 (.v (r19.v)) (zza 42 (zI 0) (zza 43 (.adr 6 0) (zzi ⟨180, r19.cs ++ [.bool false, .slice none 0 0, .slice none 0 0, .bool false, .slice none 0 0, .slice none 0 0, .bool false, .slice none 0 0, .slice none 0 0]⟩ ty26 ?_))))
  refine zzw ?_
  refine zzo (zzf (zza 44 (zI 1) (zza 29 (zI 1) (zzw ?_))))
  refine rn_next ?_
  refine sw_weak (T := St.of 48 [(3, .adr 3 0), (4, .adr 4 0), (6, .adr 6 0), (7, zI 0), (8, .adr 8 0), (19, .v (.agg #[.bool a1.s, .slice a1.m.a a1.m.n a1.m.c, .slice a1.d.a a1.d.n a1.d.c, .bool a2.s, .slice a2.m.a a2.m.n a2.m.c, .slice a2.d.a a2.d.n a2.d.c])), (20, zI 0), (28, .v (.agg #[.bool b1.s, .slice b1.m.a b1.m.n b1.m.c, .slice b1.d.a b1.d.n b1.d.c, .bool b2.s, .slice b2.m.a b2.m.n b2.m.c, .slice b2.d.a b2.d.n b2.d.c])), (29, zI 1)] [(3, ⟨32, b1.cs ++ b2.cs⟩), (4, ⟨32, [.bool false, .slice none 0 0, .slice none 0 0, .bool false, .slice none 0 0, .slice none 0 0]⟩), (6, ⟨180, r19.cs ++ [.bool false, .slice none 0 0, .slice none 0 0, .bool false, .slice none 0 0, .slice none 0 0, .bool false, .slice none 0 0, .slice none 0 0]⟩), (8, ⟨26, a1.cs⟩)]) yz ?_
  refine sq9 (zza 30 (zB true) (zzb (zzd (zyq xj (zzr (zzo ?_))))))
  refine zzd (zzs (sq9 (zza 31 (zI 1) (zza 32 (.v (b2.v)) (zzj 10 ⟨26, [.bool false, .slice none 0 0, .slice none 0 0]⟩ (zza 9 (zI 1) (zzi ⟨26, b2.cs⟩ ty26 ?_)))))))
  refine zzb (zzf (zza 34 (zI 0) (zza 35 (zI 0) (zza 36 (zI 1) (zza 37 (zI 1) (zzh 38 (.v (a1.v)) ty26 zze (zzh 39 (.v (b2.v)) ty26 zze (zzg 40 202 [a1.v, b2.v] ?_))))))))
  intro w24 u24 e24 d24
  have k29 := k_ratDiv1 d24 (ha1.ext (e11.trans (g13.ext.trans (e18.trans (g22.ext.trans e24))))) (hb2.ext (e11.trans (g13.ext.trans (e18.trans (g22.ext.trans e24))))) (sgI_ne hb15).2 xq xq
  with_reducible refine zPm k29 ?_
  rintro _ u27 g28 ⟨r25, rfl, h26⟩
  refine zza 33 (.v (.tuple #[r25.v, .int .i64 0])) (zza 41 (.v (r25.v)) (zza 42 (zI 0) (zza 43 (.adr 6 3) (zzi ⟨180, r19.cs ++ r25.cs ++ [.bool false, .slice none 0 0, .slice none 0 0, .bool false, .slice none 0 0, .slice none 0 0]⟩ ty26 ?_))))
  refine zzw ?_
  refine zzo (zzf (zza 44 (zI 2) (zza 29 (zI 2) (zzw ?_))))
  refine rn_next ?_
  refine sw_weak (T := St.of 48 [(3, .adr 3 0), (4, .adr 4 0), (6, .adr 6 0), (7, zI 0), (8, .adr 8 0), (19, .v (.agg #[.bool a1.s, .slice a1.m.a a1.m.n a1.m.c, .slice a1.d.a a1.d.n a1.d.c, .bool a2.s, .slice a2.m.a a2.m.n a2.m.c, .slice a2.d.a a2.d.n a2.d.c])), (20, zI 0), (28, .v (.agg #[.bool b1.s, .slice b1.m.a b1.m.n b1.m.c, .slice b1.d.a b1.d.n b1.d.c, .bool b2.s, .slice b2.m.a b2.m.n b2.m.c, .slice b2.d.a b2.d.n b2.d.c])), (29, zI 2)] [(3, ⟨32, b1.cs ++ b2.cs⟩), (4, ⟨32, [.bool false, .slice none 0 0, .slice none 0 0, .bool false, .slice none 0 0, .slice none 0 0]⟩), (6, ⟨180, r19.cs ++ r25.cs ++ [.bool false, .slice none 0 0, .slice none 0 0, .bool false, .slice none 0 0, .slice none 0 0]⟩), (8, ⟨26, a1.cs⟩)]) yz ?_
  refine sq9 (zza 30 (zB false) (zzb (zzd (zyr xj (zyb (zzo (zzf (zza 45 (zI 1) (zza 20 (zI 1) (zzw ?_))))))))))
  refine rn_next ?_
  refine sw_weak (T := St.of 48 [(3, .adr 3 0), (4, .adr 4 0), (6, .adr 6 0), (19, .v (.agg #[.bool a1.s, .slice a1.m.a a1.m.n a1.m.c, .slice a1.d.a a1.d.n a1.d.c, .bool a2.s, .slice a2.m.a a2.m.n a2.m.c, .slice a2.d.a a2.d.n a2.d.c])), (20, zI 1)] [(3, ⟨32, b1.cs ++ b2.cs⟩), (4, ⟨32, [.bool false, .slice none 0 0, .slice none 0 0, .bool false, .slice none 0 0, .slice none 0 0]⟩), (6, ⟨180, r19.cs ++ r25.cs ++ [.bool false, .slice none 0 0, .slice none 0 0, .bool false, .slice none 0 0, .slice none 0 0]⟩)]) yz ?_
  refine sq9 (zza 21 (zB true) (zzb (zzd (zyq xj (zzr (zzo ?_))))))
  refine zzd (zzs (sq9 (zza 22 (zI 1) (zza 23 (.v (a2.v)) (zzj 8 ⟨26, [.bool false, .slice none 0 0, .slice none 0 0]⟩ (zza 7 (zI 1) (zzi ⟨26, a2.cs⟩ ty26 ?_)))))))
  refine zzb (sq9 (zza 24 (.adr 3 0) (zzh 25 (.v (b1.v)) ty26 zze (zza 26 (.adr 3 3) (zzh 27 (.v (b2.v)) ty26 zze (zza 28 (.v (.agg #[.bool b1.s, b1.m.v, b1.d.v, .bool b2.s, b2.m.v, b2.d.v])) (zza 29 (zI 0) (zzb (zzs (sw_rounds 2 ?_))))))))))
  refine sq9 (zza 30 (zB true) (zzb (zzd (zyq xj (zzr (zzo ?_))))))
  refine zzd (zzs (sq9 (zza 31 (zI 0) (zza 32 (.v (b1.v)) (zzj 10 ⟨26, [.bool false, .slice none 0 0, .slice none 0 0]⟩ (zza 9 (zI 0) (zzi ⟨26, b1.cs⟩ ty26 ?_)))))))
  refine zzb (zzf (zza 34 (zI 1) (zza 35 (zI 2) (zza 36 (zI 0) (zza 37 (zI 2) (zzh 38 (.v (a2.v)) ty26 zze (zzh 39 (.v (b1.v)) ty26 zze (zzg 40 202 [a2.v, b1.v] ?_))))))))
  intro w30 u30 e30 d30
  have k35 := k_ratDiv1 d30 (ha2.ext (e11.trans (g13.ext.trans (e18.trans (g22.ext.trans (e24.trans (g28.ext.trans e30))))))) (hb1.ext (e11.trans (g13.ext.trans (e18.trans (g22.ext.trans (e24.trans (g28.ext.trans e30))))))) (sgI_ne hb15).1 xq xq
  with_reducible refine zPm k35 ?_
  rintro _ u33 g34 ⟨r31, rfl, h32⟩
  refine zza 33 (.v (.tuple #[r31.v, .int .i64 0])) (zza 41 (.v (r31.v)) (zza 42 (zI 0) (zza 43 (.adr 6 6) (zzi ⟨180, r19.cs ++ r25.cs ++ r31.cs ++ [.bool false, .slice none 0 0, .slice none 0 0]⟩ ty26 ?_))))
  refine zzw ?_
  refine zzo (zzf (zza 44 (zI 1) (zza 29 (zI 1) (zzw ?_))))
  refine rn_next ?_
  refine sw_weak (T := St.of 48 [(3, .adr 3 0), (4, .adr 4 0), (6, .adr 6 0), (7, zI 1), (8, .adr 8 0), (19, .v (.agg #[.bool a1.s, .slice a1.m.a a1.m.n a1.m.c, .slice a1.d.a a1.d.n a1.d.c, .bool a2.s, .slice a2.m.a a2.m.n a2.m.c, .slice a2.d.a a2.d.n a2.d.c])), (20, zI 1), (28, .v (.agg #[.bool b1.s, .slice b1.m.a b1.m.n b1.m.c, .slice b1.d.a b1.d.n b1.d.c, .bool b2.s, .slice b2.m.a b2.m.n b2.m.c, .slice b2.d.a b2.d.n b2.d.c])), (29, zI 1)] [(3, ⟨32, b1.cs ++ b2.cs⟩), (4, ⟨32, [.bool false, .slice none 0 0, .slice none 0 0, .bool false, .slice none 0 0, .slice none 0 0]⟩), (6, ⟨180, r19.cs ++ r25.cs ++ r31.cs ++ [.bool false, .slice none 0 0, .slice none 0 0]⟩), (8, ⟨26, a2.cs⟩)]) yz ?_
  refine sq9 (zza 30 (zB true) (zzb (zzd (zyq xj (zzr (zzo ?_))))))
  refine zzd (zzs (sq9 (zza 31 (zI 1) (zza 32 (.v (b2.v)) (zzj 10 ⟨26, [.bool false, .slice none 0 0, .slice none 0 0]⟩ (zza 9 (zI 1) (zzi ⟨26, b2.cs⟩ ty26 ?_)))))))
  refine zzc 48 [(3, .adr 3 0), (4, .adr 4 0), (6, .adr 6 0), (7, zI 1), (8, .adr 8 0), (9, zI 1), (10, .adr 10 0), (19, .v (.agg #[.bool a1.s, a1.m.v, a1.d.v, .bool a2.s, a2.m.v, a2.d.v])), (20, zI 1), (28, .v (.agg #[.bool b1.s, b1.m.v, b1.d.v, .bool b2.s, b2.m.v, b2.d.v])), (29, zI 1)] [(3, ⟨32, b1.cs ++ b2.cs⟩), (4, ⟨32, [.bool false, .slice none 0 0, .slice none 0 0, .bool false, .slice none 0 0, .slice none 0 0]⟩), (6, ⟨180, r19.cs ++ r25.cs ++ r31.cs ++ [.bool false, .slice none 0 0, .slice none 0 0]⟩), (8, ⟨26, a2.cs⟩), (10, ⟨26, b2.cs⟩)] (zzf (zza 34 (zI 1) (zza 35 (zI 2) (zza 36 (zI 1) (zza 37 (zI 3) (zzh 38 (.v (a2.v)) ty26 zze (zzh 39 (.v (b2.v)) ty26 zze (zzg 40 202 [a2.v, b2.v] ?_))))))))
  intro w36 u36 e36 d36
  have k41 := k_ratDiv1 d36 (ha2.ext (e11.trans (g13.ext.trans (e18.trans (g22.ext.trans (e24.trans (g28.ext.trans (e30.trans (g34.ext.trans e36))))))))) (hb2.ext (e11.trans (g13.ext.trans (e18.trans (g22.ext.trans (e24.trans (g28.ext.trans (e30.trans (g34.ext.trans e36))))))))) (sgI_ne hb15).2 xq xq
  with_reducible refine zPm k41 ?_
  rintro _ u39 g40 ⟨r37, rfl, h38⟩
  refine zza 33 (.v (.tuple #[r37.v, .int .i64 0])) (zza 41 (.v (r37.v)) (zza 42 (zI 0) (zza 43 (.adr 6 9) (zzi ⟨180, r19.cs ++ r25.cs ++ r31.cs ++ r37.cs⟩ ty26 ?_))))
  refine zzw ?_
  refine zzo (zzf (zza 44 (zI 2) (zza 29 (zI 2) (zzw ?_))))
  refine rn_next ?_
  refine sw_weak (T := St.of 48 [(3, .adr 3 0), (4, .adr 4 0), (6, .adr 6 0), (7, zI 1), (8, .adr 8 0), (19, .v (.agg #[.bool a1.s, .slice a1.m.a a1.m.n a1.m.c, .slice a1.d.a a1.d.n a1.d.c, .bool a2.s, .slice a2.m.a a2.m.n a2.m.c, .slice a2.d.a a2.d.n a2.d.c])), (20, zI 1), (28, .v (.agg #[.bool b1.s, .slice b1.m.a b1.m.n b1.m.c, .slice b1.d.a b1.d.n b1.d.c, .bool b2.s, .slice b2.m.a b2.m.n b2.m.c, .slice b2.d.a b2.d.n b2.d.c])), (29, zI 2)] [(3, ⟨32, b1.cs ++ b2.cs⟩), (4, ⟨32, [.bool false, .slice none 0 0, .slice none 0 0, .bool false, .slice none 0 0, .slice none 0 0]⟩), (6, ⟨180, r19.cs ++ r25.cs ++ r31.cs ++ r37.cs⟩), (8, ⟨26, a2.cs⟩)]) yz ?_
  refine sq9 (zza 30 (zB false) (zzb (zzd (zyr xj (zyb (zzo (zzf (zza 45 (zI 2) (zza 20 (zI 2) (zzw ?_))))))))))
  refine rn_next ?_
  refine sw_weak (T := St.of 48 [(3, .adr 3 0), (4, .adr 4 0), (6, .adr 6 0), (19, .v (.agg #[.bool a1.s, .slice a1.m.a a1.m.n a1.m.c, .slice a1.d.a a1.d.n a1.d.c, .bool a2.s, .slice a2.m.a a2.m.n a2.m.c, .slice a2.d.a a2.d.n a2.d.c])), (20, zI 2)] [(3, ⟨32, b1.cs ++ b2.cs⟩), (4, ⟨32, [.bool false, .slice none 0 0, .slice none 0 0, .bool false, .slice none 0 0, .slice none 0 0]⟩), (6, ⟨180, r19.cs ++ r25.cs ++ r31.cs ++ r37.cs⟩)]) yz ?_
  refine sq9 (zza 21 (zB false) (zzb (zzd (zyr xj (zyb (zzo (sq9 (zzh 46 (.v (.agg #[.bool r19.s, r19.m.v, r19.d.v, .bool r25.s, r25.m.v, r25.d.v, .bool r31.s, r31.m.v, r31.d.v, .bool r37.s, r37.m.v, r37.d.v])) ty180 zze (zzg 47 200 [.agg #[.bool r19.s, r19.m.v, r19.d.v, .bool r25.s, r25.m.v, r25.d.v, .bool r31.s, r31.m.v, r31.d.v, .bool r37.s, r37.m.v, r37.d.v]] ?_)))))))))
  intro w42 u42 e42 d42
  have k49 := k_around d42 (h20.ext (e24.trans (g28.ext.trans (e30.trans (g34.ext.trans (e36.trans (g40.ext.trans e42))))))) (h26.ext (e30.trans (g34.ext.trans (e36.trans (g40.ext.trans e42))))) (h32.ext (e36.trans (g40.ext.trans e42))) (h38.ext e42) xq
  with_reducible refine zPm k49 ?_
  rintro _ u47 g48 ⟨r43, r45, rfl, h44, h46⟩
  refine zzi ⟨32, r43.cs ++ r45.cs⟩ ty32 ?_
  refine zza 5 (zI 0) (zzb (zzn (ret0 [.agg #[.bool r43.s, .slice r43.m.a r43.m.n r43.m.c, .slice r43.d.a r43.d.n r43.d.c, .bool r45.s, .slice r45.m.a r45.m.n r45.m.c, .slice r45.d.a r45.d.n r45.d.c], .int .i64 0] ⟨zzq ty32 zze, zzp, trivial⟩ fun u50 e51 => ?_)))
  exact .inr ⟨by simpa using hb15, r43, r45, rfl, (h44.ext e51), (h46.ext e51)⟩
theorem k_mode {u w : World} {r : Int} (d : Dat u w) (h1 : 1 ≤ r) (h2 : r ≤ 3) : Calls Tryz.prog 238 #[.int .i64 r] w (Post u w fun v _ => v = .bool true) := by
 refine zzl (args := [.int .i64 r]) Tryz.func238 rfl Tryz.ntmps238 (rs := [.tmp 2]) Tryz.results238 (le_b rfl) (le_b rfl) d ?_
 refine sq9 (zza 2 (zB false) (zzb (sq9 (zza 3 (zI r) (zza 4 (zB (decide ((1 : Int) ≤ r))) (zyp 5 (x := zB (decide ((1 : Int) ≤ r))) (zB true) (by rw [show (decide ((1 : Int) ≤ r)) = true from decide_eq_true xq]) (zza 6 (zI r) ?_ (hw := w1 2 true 5))))))))
 refine zza 7 (zB (decide (r ≤ 3))) ?_ (hw := w1 2 true 5)
 refine zza 8 (zB (decide (r ≤ 3))) (zza 2 (zB (decide (r ≤ 3))) (zzb (zzn (ret0 [.bool (decide (r ≤ 3))] ⟨zzp, trivial⟩ fun u12 e13 => ?_))))
 show Value.bool _ = Value.bool _
 rw [show (decide (r ≤ 3)) = true from decide_eq_true xq]
theorem k_fxValid {u w : World} {W : WL} (d : Dat u w) (hW : WdOK W) : Calls Tryz.prog 244 #[W.v] w (Post u w fun v _ => v = .bool true) := by
 obtain ⟨hw1, hw2, hw3, hw4, hw5, hw6, hw7, hw8⟩ := id hW
 refine zzl (args := [.agg #[.int .i64 W.b, .int .i64 W.f, .int .i64 W.r, .int .i64 W.o]]) Tryz.func244 rfl Tryz.ntmps244 (rs := [.tmp 2]) Tryz.results244 (le_b rfl) (le_b rfl) d ?_
 refine sq9 (zzj 1 ⟨183, W.cs⟩ (zza 2 (zB false) (zzb (zzd (sq9 (zza 3 (.adr 1 0) (zzh 4 (zI W.b) ty3 zzk (zza 5 (zB (decide (W.b < 4))) (zyp 6 (x := zB (decide (W.b < 4))) (zB false) (by rw [show (decide (W.b < 4)) = false from decide_eq_false xq]) (zza 7 (.adr 1 0) ?_ (hw := w1 3 false 6)))))))))))
 refine zzh 8 (zI W.b) ty3 zzk ?_ (hw := w1 3 false 6)
 refine zza 9 (zB (decide ((24 : Int) < W.b))) ?_ (hw := w1 3 false 6)
 refine zza 10 (zB (decide ((24 : Int) < W.b))) (zyp 11 (x := zB (decide ((24 : Int) < W.b))) (zB false) (by rw [show (decide ((24 : Int) < W.b)) = false from decide_eq_false xq]) (zza 12 (.adr 1 1) ?_ (hw := w1 8 false 11)))
 refine zzh 13 (zI W.f) ty3 zzk ?_ (hw := w1 8 false 11)
 refine zza 14 (zB (decide (W.f < 0))) ?_ (hw := w1 8 false 11)
 refine zza 15 (zB (decide (W.f < 0))) (zyp 16 (x := zB (decide (W.f < 0))) (zB false) (by rw [show (decide (W.f < 0)) = false from decide_eq_false xq]) (zza 17 (.adr 1 1) ?_ (hw := w1 13 false 16)))
 refine zzh 18 (zI W.f) ty3 zzk ?_ (hw := w1 13 false 16)
 refine zza 19 (.adr 1 0) ?_ (hw := w1 13 false 16)
 refine zzh 20 (zI W.b) ty3 zzk ?_ (hw := w1 13 false 16)
 refine zza 21 (zB (decide (W.b ≤ W.f))) ?_ (hw := w1 13 false 16)
 refine zza 22 (zB (decide (W.b ≤ W.f))) (zzb (zzt (b := decide (W.b ≤ W.f)) xj (fun hb => ?_) (fun hb => ?_)))
 ·exact absurd hb (by rw [show (decide (W.b ≤ W.f)) = false from decide_eq_false xq]; decide)
 ·clear hb
  refine zzr (zzo ?_)
  refine sq9 (zza 23 (.adr 1 2) (zzh 24 (zI W.r) ty3 zzk (zzg 25 238 [.int .i64 W.r] ?_)))
  intro w14 u14 e14 d14
  have k17 := k_mode (r := W.r) d14 xq xq
  with_reducible refine zPm k17 ?_
  rintro _ u15 g16 rfl
  refine zza 26 (zB true) (zza 27 (.adr 1 3) ?_ (hw := w1 3 true 26))
  refine zzh 28 (zI W.o) ty3 zzk ?_ (hw := w1 3 true 26)
  refine zza 29 (zB (W.o == 1)) ?_ (hw := w1 3 true 26)
  rcases Bool.eq_false_or_eq_true (W.o == 1) with hs18 | hs18
  ·refine zyp 30 (x := zB (W.o == 1)) (zB true) (by rw [hs18]) ?_ (hw := w1 3 true 26)
   refine zzm 31 (uw 7 false true 30) (zzm 32 (uw 7 false true 30) (zzm 33 (uw 7 false true 30) (zza 34 (zB true) ?_ (hw := w1 3 true 26))))
   refine zza 35 (zB true) (zza 2 (zB true) (zzc 36 [(2, zB true)] [] (zzn (ret0 [.bool true] ⟨zzp, trivial⟩ fun u19 e20 => ?_))))
   rfl
  ·refine zyp 30 (x := zB (W.o == 1)) (zB false) (by rw [hs18]) ?_ (hw := w1 3 true 26)
   refine zza 31 (.adr 1 3) ?_ (hw := w1 7 false 30)
   refine zzh 32 (zI W.o) ty3 zzk ?_ (hw := w1 7 false 30)
   refine zza 33 (zB (W.o == 2)) ?_ (hw := w1 7 false 30)
   refine zza 34 (zB (W.o == 2)) ?_ (hw := w1 3 true 26)
   refine zza 35 (zB (W.o == 2)) (zza 2 (zB (W.o == 2)) (zzc 36 [(2, zB (W.o == 2))] [] (zzn (ret0 [.bool (W.o == 2)] ⟨zzp, trivial⟩ fun u21 e22 => ?_))))
   show Value.bool _ = Value.bool _
   rw [show (W.o == 2) = true from (by have hz := hs18; simp at hz ⊢; omega)]
theorem k_fxLow {u w : World} {W : WL} (d : Dat u w) (hW : WdOK W) : Calls Tryz.prog 255 #[W.v] w (Post u w fun v _ => v = .int .i64 (-Nt.p2i (W.b - 1))) := by
 obtain ⟨hw1, hw2, hw3, hw4, hw5, hw6, hw7, hw8⟩ := id hW
 have hp1 := Nt.zxo (W.b - 1)
 have hp2 := Nt.p2i_24 (n := W.b - 1) xq
 refine zzl (args := [.agg #[.int .i64 W.b, .int .i64 W.f, .int .i64 W.r, .int .i64 W.o]]) Tryz.func255 rfl Tryz.ntmps255 (rs := [.tmp 2]) Tryz.results255 (le_b rfl) (le_b rfl) d ?_
 refine sq9 (zzj 1 ⟨183, W.cs⟩ (zza 2 (zI 0) (zzb (zzd (sq9 (zzh 3 (.v (W.v)) ty183 zze (zzg 4 244 [W.v] ?_)))))))
 intro w11 u11 e11 d11
 have k14 := k_fxValid (W := W) d11 hW
 with_reducible refine zPm k14 ?_
 rintro _ u12 g13 rfl
 refine zza 5 (zB false) (zzb (zyr xj (zzr (zzo ?_))))
 refine sq9 (zza 6 (.adr 1 0) (zzh 7 (zI W.b) ty3 zzk (zyp 8 (x := zI (IntKind.i64.wrap (W.b - 1))) (zI (W.b - 1)) yq (sy_shl 9 (k := .i64) (s := W.b - 1) (Nt.p2i (W.b - 1)) xq yw (shl_one xq xq) ?_))))
 refine zyp 10 (x := zI (IntKind.i64.wrap (0 - Nt.p2i (W.b - 1)))) (zI (-Nt.p2i (W.b - 1))) (by rw [show (IntKind.i64.wrap (0 - Nt.p2i (W.b - 1))) = (-Nt.p2i (W.b - 1)) from xz]) (zza 2 (zI (-Nt.p2i (W.b - 1))) (zzb (zzn (ret0 [.int .i64 (-Nt.p2i (W.b - 1))] ⟨zzp, trivial⟩ fun u15 e16 => ?_))))
 rfl
theorem k_fxHigh {u w : World} {W : WL} (d : Dat u w) (hW : WdOK W) : Calls Tryz.prog 256 #[W.v] w (Post u w fun v _ => v = .int .i64 (Nt.p2i (W.b - 1) - 1)) := by
 obtain ⟨hw1, hw2, hw3, hw4, hw5, hw6, hw7, hw8⟩ := id hW
 have hp1 := Nt.zxo (W.b - 1)
 have hp2 := Nt.p2i_24 (n := W.b - 1) xq
 refine zzl (args := [.agg #[.int .i64 W.b, .int .i64 W.f, .int .i64 W.r, .int .i64 W.o]]) Tryz.func256 rfl Tryz.ntmps256 (rs := [.tmp 2]) Tryz.results256 (le_b rfl) (le_b rfl) d ?_
 refine sq9 (zzj 1 ⟨183, W.cs⟩ (zza 2 (zI 0) (zzb (zzd (sq9 (zzh 3 (.v (W.v)) ty183 zze (zzg 4 244 [W.v] ?_)))))))
 intro w11 u11 e11 d11
 have k14 := k_fxValid (W := W) d11 hW
 with_reducible refine zPm k14 ?_
 rintro _ u12 g13 rfl
 refine zza 5 (zB false) (zzb (zyr xj (zzr (zzo ?_))))
 refine sq9 (zza 6 (.adr 1 0) (zzh 7 (zI W.b) ty3 zzk (zyp 8 (x := zI (IntKind.i64.wrap (W.b - 1))) (zI (W.b - 1)) yq (sy_shl 9 (k := .i64) (s := W.b - 1) (Nt.p2i (W.b - 1)) xq yw (shl_one xq xq) ?_))))
 refine zyp 10 (x := zI (IntKind.i64.wrap ((Nt.p2i (W.b - 1)) - 1))) (zI ((Nt.p2i (W.b - 1)) - 1)) yq (zza 2 (zI ((Nt.p2i (W.b - 1)) - 1)) (zzb (zzn (ret0 [.int .i64 ((Nt.p2i (W.b - 1)) - 1)] ⟨zzp, trivial⟩ fun u15 e16 => ?_))))
 rfl
theorem k_fxFits {u w : World} {W : WL} {z : Int} (d : Dat u w) (hW : WdOK W) (h0 : -Nt.p2i (W.b - 1) ≤ z) (h1 : z < Nt.p2i (W.b - 1)) : Calls Tryz.prog 246 #[W.v, .int .i64 z] w (Post u w fun v _ => v = .bool true) := by
 obtain ⟨hw1, hw2, hw3, hw4, hw5, hw6, hw7, hw8⟩ := id hW
 refine zzl (args := [.agg #[.int .i64 W.b, .int .i64 W.f, .int .i64 W.r, .int .i64 W.o], .int .i64 z]) Tryz.func246 rfl Tryz.ntmps246 (rs := [.tmp 4]) Tryz.results246 (le_b rfl) (le_b rfl) d ?_
 refine sq9 (zzj 2 ⟨183, W.cs⟩ (zza 4 (zB false) (zzb (sq9 (zzh 5 (.v (W.v)) ty183 zze (zzg 6 244 [W.v] ?_))))))
 intro w11 u11 e11 d11
 have k14 := k_fxValid (W := W) d11 hW
 with_reducible refine zPm k14 ?_
 rintro _ u12 g13 rfl
 refine zza 7 (zB true) (zza 8 (zI z) ?_ (hw := w1 2 true 7))
 refine zzh 9 (.v (W.v)) ty183 zze ?_ (hw := w1 2 true 7)
 refine zzg 10 255 [W.v] ?_ (hw := w1 2 true 7)
 intro w15 u15 e15 d15
 have k18 := k_fxLow (W := W) d15 hW
 with_reducible refine zPm k18 ?_
 rintro _ u16 g17 rfl
 refine zza 11 (zB (decide ((-Nt.p2i (W.b - 1)) ≤ z))) ?_ (hw := w1 2 true 7)
 refine zza 12 (zB (decide ((-Nt.p2i (W.b - 1)) ≤ z))) (zyp 13 (x := zB (decide ((-Nt.p2i (W.b - 1)) ≤ z))) (zB true) (by rw [show (decide ((-Nt.p2i (W.b - 1)) ≤ z)) = true from decide_eq_true xq]) (zza 14 (zI z) ?_ (hw := w1 8 true 13)))
 refine zzh 15 (.v (W.v)) ty183 zze ?_ (hw := w1 8 true 13)
 refine zzg 16 256 [W.v] ?_ (hw := w1 8 true 13)
 intro w20 u20 e20 d20
 have k23 := k_fxHigh (W := W) d20 hW
 with_reducible refine zPm k23 ?_
 rintro _ u21 g22 rfl
 refine zza 17 (zB (decide (z ≤ (Nt.p2i (W.b - 1) - 1)))) ?_ (hw := w1 8 true 13)
 refine zza 18 (zB (decide (z ≤ (Nt.p2i (W.b - 1) - 1)))) (zza 4 (zB (decide (z ≤ (Nt.p2i (W.b - 1) - 1)))) (zzb (zzn (ret0 [.bool (decide (z ≤ (Nt.p2i (W.b - 1) - 1)))] ⟨zzp, trivial⟩ fun u24 e25 => ?_))))
 show Value.bool _ = Value.bool _
 rw [show (decide (z ≤ (Nt.p2i (W.b - 1) - 1))) = true from decide_eq_true xq]
theorem k_within {u w : World} {n m : Int} (d : Dat u w) (hm : 1 ≤ m) (hm2 : m ≤ 4611686018427387904) (hn0 : -9223372036854775808 ≤ n) (hn1 : n ≤ 9223372036854775807) : Calls Tryz.prog 45 #[.int .i64 n, .int .i64 m] w (Post u w fun v _ => v = .int .i64 (n % m)) := by
 refine zzl (args := [.int .i64 n, .int .i64 m]) Tryz.func45 rfl Tryz.ntmps45 (rs := [.tmp 4]) Tryz.results45 (le_b rfl) (le_b rfl) d ?_
 refine sq9 (zza 4 (zI 0) (zzb (zzd (sq9 (zza 5 (zI m) (zyp 6 (x := zB (decide (m < 1))) (zB false) (by rw [show (decide (m < 1)) = false from yy]) (zzb (zyr xj (zzr (zzo ?_))))))))))
 refine sq9 (zza 7 (zI n) (zza 8 (zI m) (sy_rem 9 (Int.tmod n m) xq rfl ?_)))
 refine zza 0 (zI (Int.tmod n m)) (zzb (zzd (sq9 (zza 10 (zI (Int.tmod n m)) (zza 11 (zB (decide ((Int.tmod n m) < 0))) (zzb (zzt (b := decide ((Int.tmod n m) < 0)) xj (fun hb11 => ?_) (fun hb11 => ?_))))))))
 ·replace hb11 : (decide ((Int.tmod n m) < 0)) = true := hb11
  have qhb11 := of_decide_eq_true hb11
  refine zzf (zza 12 (zI (Int.tmod n m)) (zza 13 (zI m) (zyp 14 (x := zI (IntKind.i64.wrap (Int.tmod n m + m))) (zI (Int.tmod n m + m)) (by rw [show (IntKind.i64.wrap (Int.tmod n m + m)) = (Int.tmod n m + m) from (IntWalk.i64_in _ (by have h2 := Int.lt_tmod_of_pos n (show 0 < m by omega); have h3 := Int.tmod_lt_of_pos n (show 0 < m by omega); omega))]) (zza 0 (zI (Int.tmod n m + m)) (zzb (sq9 (zza 15 (zI (Int.tmod n m + m)) (zza 4 (zI (Int.tmod n m + m)) (zzb (zzn (ret0 [.int .i64 (Int.tmod n m + m)] ⟨zzp, trivial⟩ fun u12 e13 => ?_)))))))))))
  show Value.int _ _ = Value.int _ _
  rw [mod_neg9 m hm n hb11]
 ·replace hb11 : (decide ((Int.tmod n m) < 0)) = false := hb11
  have qhb11 := of_decide_eq_false hb11
  refine zzr (zzo ?_)
  refine sq9 (zza 15 (zI (Int.tmod n m)) (zza 4 (zI (Int.tmod n m)) (zzb (zzn (ret0 [.int .i64 (Int.tmod n m)] ⟨zzp, trivial⟩ fun u14 e15 => ?_)))))
  show Value.int _ _ = Value.int _ _
  rw [mod_pos9 m hm n hb11]
namespace Nt
end Nt
namespace Nt
end Nt
namespace Nt
end Nt
namespace Nt
end Nt
namespace Nt
end Nt
namespace Nt
end Nt
namespace Nt
end Nt
namespace Nt
end Nt
theorem ints_nil {u : World} : SlR .i64 u none 0 0 [] := ⟨rfl, Nat.le_refl _, Nat.zero_le _, fun h => absurd h (Nat.lt_irrefl 0)⟩
theorem all_nil {b : Int} : ∀ z ∈ ([] : List Int), -b ≤ z ∧ z ≤ b := fun z hz => by cases hz
theorem all_snoc {b : Int} {L : List Int} {z : Int} (h : ∀ z ∈ L, -b ≤ z ∧ z ≤ b) (h1 : -b ≤ z) (h2 : z ≤ b) : ∀ y ∈ L ++ [z], -b ≤ y ∧ y ≤ b := fun y hy => by
 rcases List.mem_append.1 hy with hy | hy
 ·exact h y hy
 ·simp at hy; subst hy; exact ⟨h1, h2⟩
namespace Nt
end Nt
theorem k_withinB {u w : World} {n m : Int} (d : Dat u w) (hm : 1 ≤ m) (hm2 : m ≤ 4611686018427387904) (hn0 : -9223372036854775808 ≤ n) (hn1 : n ≤ 9223372036854775807) : Calls Tryz.prog 45 #[.int .i64 n, .int .i64 m] w (Post u w fun v _ => ∃ z : Int, v = .int .i64 z ∧ 0 ≤ z ∧ z < m) :=
 Post.mono (k_within d hm hm2 hn0 hn1) fun v u' _ h => ⟨n % m, h, Int.emod_nonneg _ xq, Int.emod_lt_of_pos _ xq⟩
theorem k_wat {u w : World} {x : Sl} {l : List Int} {i : Nat} (d : Dat u w) (hx : SlR .i64 u x.a x.n x.c l) (hb : ∀ z ∈ l, -9223372036854775808 ≤ z ∧ z ≤ 9223372036854775807) (hi9 : i ≤ 1000000000) : Calls Tryz.prog 48 #[x.v, .int .i64 (i : Int)] w (Post u w fun v _ => v = .int .i64 (l.getD i 0)) := by
 have hlen : l.length = x.n := hx.1
 refine zzl (args := [.slice x.a x.n x.c, .int .i64 i]) Tryz.func48 rfl Tryz.ntmps48 (rs := [.tmp 4]) Tryz.results48 (le_b rfl) (le_b rfl) d ?_
 refine sq9 (zza 4 (zI 0) (zzb (zzd (sq9 (zza 5 (zI i) (zza 6 (zB (decide ((0 : Int) ≤ (i : Int)))) (zyp 7 (x := zB (decide ((0 : Int) ≤ (i : Int)))) (zB true) (by rw [show (decide ((0 : Int) ≤ (i : Int))) = true from decide_eq_true xq]) (zza 8 (zI i) ?_ (hw := w1 2 true 7)))))))))
 refine zza 9 (.v x.v) ?_ (hw := w1 2 true 7)
 refine zza 10 (zI x.n) ?_ (hw := w1 2 true 7)
 refine zza 11 (zB (decide ((i : Int) < (x.n : Int)))) ?_ (hw := w1 2 true 7)
 refine zza 12 (zB (decide ((i : Int) < (x.n : Int)))) (zzb (zzt (b := decide ((i : Int) < (x.n : Int))) xj (fun hb12 => ?_) (fun hb12 => ?_)))
 ·replace hb12 : (decide ((i : Int) < (x.n : Int))) = true := hb12
  have qhb12 := of_decide_eq_true hb12
  refine sq9 (zza 13 (.v x.v) (zza 14 (zI i) ?_))
  have hl13 := (hx).1
  obtain ⟨b13, o13, hA13, hc13⟩ := ints_at hx (i := i) xq
  have hz13 := ints_bd hb xq i
  refine zzz 15 (o13 + i * 1) (n := x.n) (off := o13) (sz := 1) (i := (i : Int)) xq hA13 xq xq sl30 (zyk 16 (.int .i64 (l.getD i 0)) hc13 ty3 (zza 4 (zI (l.getD i 0)) (zzb (zzn (zzv (ret0 [.int .i64 (l.getD i 0)] ⟨zzp, trivial⟩ fun u14 e15 => ?_))))))
  rfl
 ·replace hb12 : (decide ((i : Int) < (x.n : Int))) = false := hb12
  have qhb12 := of_decide_eq_false hb12
  refine zzr (zzo ?_)
  refine sq9 (zza 4 (zI 0) (zzb (zzn (ret0 [.int .i64 0] ⟨zzp, trivial⟩ fun u16 e17 => ?_))))
  show Value.int _ _ = Value.int _ _
  rw [show l.getD i 0 = 0 by rw [List.getD_eq_getElem?_getD, List.getElem?_eq_none xq]; rfl]
theorem k_withinN {u w : World} {n m : Int} (d : Dat u w) (hm : 1 ≤ m) (hm2 : m ≤ 4611686018427387904) (hn0 : -9223372036854775808 ≤ n) (hn1 : n ≤ 9223372036854775807) : Calls Tryz.prog 45 #[.int .i64 n, .int .i64 m] w (Post u w fun v _ => ∃ z : Nat, v = .int .i64 (z : Int) ∧ (z : Int) < m) :=
 Post.mono (k_within d hm hm2 hn0 hn1) fun v u' _ h => by
  have h1 := Int.emod_nonneg n (show m ≠ 0 by omega)
  have h2 := Int.emod_lt_of_pos n (show 0 < m by omega)
  exact ⟨(n % m).toNat, by rw [h, Int.toNat_of_nonneg h1], by omega⟩
set_option maxHeartbeats 2000000 in
theorem k_belowN {u w : World} {x : Sl} {l : List Int} {b : Int} {n : Nat} (d : Dat u w) (hx : SlR .i64 u x.a x.n x.c l) (hb : ∀ z ∈ l, -9223372036854775808 ≤ z ∧ z ≤ 9223372036854775807) (hb0 : 0 ≤ b) (hb1 : b ≤ 16777216) (hn : n ≤ 1000) : Calls Tryz.prog 55 #[.int .i64 b, x.v, .int .i64 (n : Int)] w (Post u w fun v u' => ∃ (y : Sl) (m : List Int), v = y.v ∧ m.length = n ∧ SlR .i64 u' y.a y.n y.c m ∧ (∀ z ∈ m, -b ≤ z ∧ z ≤ b)) := by
 refine zzl (args := [.int .i64 b, .slice x.a x.n x.c, .int .i64 n]) Tryz.func55 rfl Tryz.ntmps55 (rs := [.tmp 6]) Tryz.results55 (le_b rfl) (le_b rfl) d ?_
 refine sq9 (zza 6 (.v (.slice none 0 0)) (zzb (sq9 (zza 7 (.v (.slice none 0 0)) (zzb (zzd (sq9 (zza 8 (zI 0) (zzb (zzs (zym (I := fun m11 S' u' => (m11 = n ∧ S' = St.of 29 [(0, zI b), (1, .v (.slice x.a x.n x.c)), (2, zI n), (7, .v (.slice none 0 0)), (8, zI 0)] [] ∧ Ext u u') ∨ (∃ (i : Nat) (L : List Int) (cs : List Value) (cp : Nat), m11 = n - i ∧ i ≤ n ∧ 0 < i ∧ L.length = i ∧ cs.length = cp * 1 ∧ i ≤ cp ∧ cp ≤ maxLen ∧ cs.take (i * 1) = L.map (Value.int .i64) ∧ S' = St.of 29 [(0, zI b), (1, .v (.slice x.a x.n x.c)), (2, zI n), (7, .slc 27 0 i cp), (8, zI i)] [(27, ⟨3, cs⟩)] ∧ Ext u u' ∧ (∀ z ∈ L, -b ≤ z ∧ z ≤ b))) (fun m S u1 u2 e h => by rcases h with ⟨a, b, c⟩ | ⟨a1, a2, a3, a4, b1, b2, b3, b4, b5, b6, b7, b8, b9, b10, b11⟩; exact .inl ⟨a, b, c.trans e⟩; exact .inr ⟨a1, a2, a3, a4, b1, b2, b3, b4, b5, b6, b7, b8, b9, b10.trans e, b11⟩) _ yz (.inl ⟨rfl, rfl, Ext.refl _⟩) ?_)))))))))))
 rintro m11 _ u11 (⟨hm11, rfl, e11⟩ | ⟨i, L, cs, cp, hm11, hi, hp, hL, hc, hle, hmx, ht, rfl, e11, hP⟩)
 ·change SW _ _ _ _ (St.of 29 [(0, .v (.int .i64 b)), (1, .v (.slice x.a x.n x.c)), (2, .v (.int .i64 (n : Int))), (7, .v (.slice none 0 0)), (8, .v (.int .i64 0))] []) _ _
  refine zzd (sq9 (zza 9 (zI 0) (zza 10 (zI n) (zza 11 (zB (decide ((0 : Int) < (n : Int)))) (zzb (zzt (b := decide ((0 : Int) < (n : Int))) xj (fun hb12 => ?_) (fun hb12 => ?_)))))))
  ·replace hb12 : (decide ((0 : Int) < (n : Int))) = true := hb12
   have qhb12 := of_decide_eq_true hb12
   refine zzr (zzo ?_)
   refine zzd (zzs (zzf (zza 14 (.v (.slice none 0 0)) (zza 15 (.v x.v) (zza 16 (zI 0) (zzg 17 48 [x.v, .int .i64 0] ?_))))))
   intro w13 u13 e13 d13
   have k16 := (show Calls _ _ #[_, .int .i64 0] _ _ from k_wat (x := x) (i := 0) d13 (hx.ext (e11.trans e13)) hb xq)
   with_reducible refine zPm k16 ?_
   rintro _ u14 g15 rfl
   have hz17 := ints_bd hb xq 0
   refine zza 18 (zI b) ?_
   obtain ⟨z18, hz18, ha18, hb18⟩ := wrap64_ex ((l.getD 0 0) + b)
   refine zyp 19 (x := zI (IntKind.i64.wrap ((l.getD 0 0) + b))) (zI z18) (eqI hz18) (zza 20 (zI b) (zyp 21 (x := zI (IntKind.i64.wrap ((2 : Int) * b))) (zI ((2 : Int) * b)) yq (zyp 22 (x := zI (IntKind.i64.wrap (((2 : Int) * b) + 1))) (zI (((2 : Int) * b) + 1)) yq (zzg 23 45 [.int .i64 z18, .int .i64 (((2 : Int) * b) + 1)] ?_))))
   intro w19 u19 e19 d19
   have k25 := (show Calls _ _ #[.int .i64 z18, .int .i64 (((2 : Int) * b) + 1)] _ _ from k_withinB (n := z18) (m := ((2 : Int) * b) + 1) d19 xq xq xq xq)
   with_reducible refine zPm k25 ?_
   rintro _ u23 g24 ⟨z20, rfl, h21, h22⟩
   refine zza 24 (zI b) ?_
   obtain ⟨g26, hg26⟩ : ∃ g, z20 - b = g := ⟨_, rfl⟩
   refine zyp 25 (x := zI (IntKind.i64.wrap (z20 - b))) (zI g26) (eqI (by rw [IntWalk.i64_in _ xq]; exact hg26)) (zxw 26 ⟨3, [.int .i64 g26]⟩ 1 (fun b27 u28 e29 h30 => ?_))
   refine sy_app0 27 (T := 30) (E := 3) (z := .int .i64 0) (size := 1) (bytes := 8) (b := b27) (off := 0) (m := 1) [.int .i64 g26] xj xj xj xw rfl (lit_news ((Ext.refl _).cells h30)) (int_one _) xw xw xw ?_
   intro c31 cs31 ha31 hb31 hc31 hd31
   have hd31r : cs31.take (1 * 1) = ([g26]).map (Value.int .i64) := hd31
   refine zza 7 (.slc 27 0 1 c31) (zzw ?_)
   refine zzo (zzf (zza 12 (zI 0) (zza 13 (zI 1) (zza 8 (zI 1) (zzw ?_)))))
   refine ⟨_, ?_, _, by exact zzu _ _ _, .inr ⟨1, [g26], cs31, c31, rfl, by omega, by omega, by simp, hc31, by omega, hb31, hd31r, rfl, (e11.trans (e13.trans (g15.ext.trans (e19.trans (g24.ext.trans e29))))), (all_snoc (L := []) all_nil xq xq)⟩⟩
   omega
  ·replace hb12 : (decide ((0 : Int) < (n : Int))) = false := hb12
   have qhb12 := of_decide_eq_false hb12
   refine zyb (zzo (zzd ?_))
   have hp32 : SlR .i64 u11 none 0 0 [] := ints_nil
   refine zzf (zza 28 (.v (.slice none 0 0)) (zza 6 (.v (.slice none 0 0)) (zzb (zzn (ret0 [.slice none 0 0] ⟨zzp, trivial⟩ fun u33 e34 => ?_)))))
   exact ⟨⟨none, 0, 0⟩, [], rfl, (by first|omega|(simp;omega)), (hp32.ext e34), all_nil⟩
 ·change SW _ _ _ _ (St.of 29 [(0, .v (.int .i64 b)), (1, .v (.slice x.a x.n x.c)), (2, .v (.int .i64 (n : Int))), (7, .slc 27 0 i cp), (8, .v (.int .i64 (i : Int)))] [(27, ⟨3, cs⟩)]) _ _
  refine zzd (sq9 (zza 9 (zI i) (zza 10 (zI n) (zza 11 (zB (decide ((i : Int) < (n : Int)))) (zzb (zzt (b := decide ((i : Int) < (n : Int))) xj (fun hb35 => ?_) (fun hb35 => ?_)))))))
  ·replace hb35 : (decide ((i : Int) < (n : Int))) = true := hb35
   have qhb35 := of_decide_eq_true hb35
   refine zzr (zzo ?_)
   refine zzd (zzs (zzf (zza 14 (.slc 27 0 i cp) (zza 15 (.v x.v) (zza 16 (zI i) (zzg 17 48 [x.v, .int .i64 i] ?_))))))
   intro w36 u36 e36 d36
   have k39 := (show Calls _ _ #[_, .int .i64 (i : Int)] _ _ from k_wat (x := x) (i := i) d36 (hx.ext (e11.trans e36)) hb xq)
   with_reducible refine zPm k39 ?_
   rintro _ u37 g38 rfl
   have hz40 := ints_bd hb xq i
   refine zza 18 (zI b) ?_
   obtain ⟨z41, hz41, ha41, hb41⟩ := wrap64_ex ((l.getD i 0) + b)
   refine zyp 19 (x := zI (IntKind.i64.wrap ((l.getD i 0) + b))) (zI z41) (eqI hz41) (zza 20 (zI b) (zyp 21 (x := zI (IntKind.i64.wrap ((2 : Int) * b))) (zI ((2 : Int) * b)) yq (zyp 22 (x := zI (IntKind.i64.wrap (((2 : Int) * b) + 1))) (zI (((2 : Int) * b) + 1)) yq (zzg 23 45 [.int .i64 z41, .int .i64 (((2 : Int) * b) + 1)] ?_))))
   intro w42 u42 e42 d42
   have k48 := (show Calls _ _ #[.int .i64 z41, .int .i64 (((2 : Int) * b) + 1)] _ _ from k_withinB (n := z41) (m := ((2 : Int) * b) + 1) d42 xq xq xq xq)
   with_reducible refine zPm k48 ?_
   rintro _ u46 g47 ⟨z43, rfl, h44, h45⟩
   refine zza 24 (zI b) ?_
   obtain ⟨g49, hg49⟩ : ∃ g, z43 - b = g := ⟨_, rfl⟩
   refine zyp 25 (x := zI (IntKind.i64.wrap (z43 - b))) (zI g49) (eqI (by rw [IntWalk.i64_in _ xq]; exact hg49)) (zxw 26 ⟨3, [.int .i64 g49]⟩ 1 (fun b50 u51 e52 h53 => ?_))
   refine sy_app1 27 (T := 30) (E := 3) (z := .int .i64 0) (size := 1) (bytes := 8) (b := b50) (off := 0) (m := 1) (n := i) (cap := cp) (t := 27) (cs0 := cs) [7, 14, 27] [.int .i64 g49] xj xj xj xw rfl (lit_news ((Ext.refl _).cells h53)) (int_one _) xw yv xq xq xq xq xk ?_
   intro c54 cs54 ha54 hb54 hc54 hd54
   have hd54r : cs54.take ((i + 1) * 1) = (L ++ [g49]).map (Value.int .i64) := by rw [hd54, ht, List.map_append]; rfl
   refine zza 7 (.slc 27 0 (i + 1) c54) (zzw ?_)
   refine zzo (zzf (zza 12 (zI i) (zyp 13 (x := zI (IntKind.i64.wrap ((i : Int) + 1))) (zI (i + 1 : Nat)) (eqI xz) (zza 8 (zI (i + 1 : Nat)) (zzw ?_)))))
   refine ⟨_, ?_, _, by exact zzu _ _ _, .inr ⟨i + 1, L ++ [g49], cs54, c54, rfl, by omega, by omega, by simp; omega, hc54, by omega, hb54, hd54r, rfl, (e11.trans (e36.trans (g38.ext.trans (e42.trans (g47.ext.trans e52))))), (all_snoc (L := L) hP xq xq)⟩⟩
   omega
  ·replace hb35 : (decide ((i : Int) < (n : Int))) = false := hb35
   have qhb35 := of_decide_eq_false hb35
   refine zyb (zzo (zzd (zyo (r := 7) (t := 27) [7, 27] xk xj (by rfl) (by rfl) xj (fun b56 u57 e58 hb59 hh60 => ?_))))
   have hp55 : SlR .i64 u57 (some ⟨b56, 0, none⟩) i cp L := ints_data hh60 (by have h9 := ht; rw [Nat.mul_one] at h9; exact h9) (by have h9 := hc; rw [Nat.mul_one] at h9; exact h9) hle hmx
   refine zzf (zza 28 (.v (.slice (some ⟨b56, 0, none⟩) i cp)) (zza 6 (.v (.slice (some ⟨b56, 0, none⟩) i cp)) (zzb (zzn (ret0 [.slice (some ⟨b56, 0, none⟩) i cp] ⟨zzp, trivial⟩ fun u61 e62 => ?_)))))
   exact ⟨(⟨some ⟨b56, 0, none⟩, i, cp⟩ : Sl), L, rfl, (by first|omega|(simp;omega)), (hp55.ext e62), hP⟩
instance wdDec (W : WL) : Decidable (WdOK W) := by unfold WdOK; exact inferInstance
namespace Nt
variable {W : WL} {l m : List Int} {i : Nat}
end Nt
namespace Nt
end Nt
section
variable {P : Program} {ops : Array Oper} {w0 : Base} {u0 : World} {S : St} {u : World} {o : Oper} {p : List Tmp} {seq : Bool} {rest : List (Oper × List Tmp)} {K : St → World → Prop}
end
namespace Nt
variable {D W : WL} {s : Nat} {N : List (List TL)} {nx v0 st xs vals : List Int} {q : Int} {k j : Nat} {T : List TL}
end Nt
namespace Nt
variable {D W : WL} {L : List (List Int)} {i j n k : Nat}
end Nt
namespace Nt
section
variable {g : List Int → List Rat} {L : List (List Int)} {k P K : Nat}
end
end Nt
namespace Nt
section
variable {α : Type}
def swL (l : List α) (t f : Nat) (z : α) : List α := (l.set t (l.getD f z)).set f (l.getD t z)
theorem swL_len {l : List α} {t f : Nat} {z : α} : (swL l t f z).length = l.length := by unfold swL; rw [List.length_set, List.length_set]
theorem swL_at {l : List α} {t f i : Nat} {z : α} (ht : t < l.length) (hf : f < l.length) : (swL l t f z).getD i z = if i = t then l.getD f z else if i = f then l.getD t z else l.getD i z := by
 unfold swL
 have hg : ∀ {l : List α} {i j : Nat} {a : α}, i ≠ j → (l.set i a).getD j z = l.getD j z := fun h => by simp [List.getD_eq_getElem?_getD, h]
 have hs : ∀ {l : List α} {i : Nat} {a : α}, i < l.length → (l.set i a).getD i z = a := fun h => by simp [List.getD_eq_getElem?_getD, h]
 by_cases h1 : f = i
 ·subst h1
  rw [hs (by rw [List.length_set]; exact hf)]
  by_cases h2 : f = t
  ·subst h2; rw [if_pos rfl]
  ·rw [if_neg h2, if_pos rfl]
 ·rw [hg h1]
  by_cases h2 : t = i
  ·subst h2; rw [hs ht, if_pos rfl]
  ·rw [hg h2, if_neg (Ne.symm h2), if_neg (Ne.symm h1)]
end
def rowA (a b : List Rat) (f : Rat) : List Rat := (List.range a.length).map fun j => a.getD j 0 + f * b.getD j 0
def negR (a : List Rat) : List Rat := (List.range a.length).map fun j => -(a.getD j 0)
def cmb (s : List Int) (M : List (List Rat)) : List (List Rat) :=
 if s.getD 3 0 = -1 then swL M (s.getD 0 0).toNat (s.getD 1 0).toNat []
 else if s.getD 3 0 = -2 then M.set (s.getD 0 0).toNat (negR (M.getD (s.getD 0 0).toNat []))
 else M.set (s.getD 0 0).toNat (rowA (M.getD (s.getD 0 0).toNat []) (M.getD (s.getD 1 0).toNat []) (wq (s.getD 2 0) (s.getD 3 0)))
def idRow (n i : Nat) : List Rat := (List.range n).map fun j => if i = j then 1 else 0
def idR (n : Nat) : List (List Rat) := (List.range n).map fun i => idRow n i
def linM (n : Nat) (S : List (List Int)) : List (List Rat) := S.foldl (fun M s => cmb s M) (idR n)
def Sq (n : Nat) (M : List (List Rat)) : Prop := M.length = n ∧ ∀ i, i < n → (M.getD i []).length = n
def ent (M : List (List Rat)) (i j : Nat) : Rat := (M.getD i []).getD j 0
section
variable {M : List (List Rat)} {a b l : List Rat} {s : List Int} {S : List (List Int)} {n t f i j D A : Nat} {cf sh : Int} {q : Rat}
theorem mapR_at {g : Nat → Rat} (h : j < n) : ((List.range n).map g).getD j 0 = g j := by
 rw [List.getD_eq_getElem?_getD, List.getElem?_map, List.getElem?_range h]; rfl
theorem mapR_out {g : Nat → Rat} (h : n ≤ j) : ((List.range n).map g).getD j 0 = 0 := by
 rw [List.getD_eq_getElem?_getD, List.getElem?_eq_none yy]; rfl
theorem mapL_at {g : Nat → List Rat} (h : j < n) : ((List.range n).map g).getD j [] = g j := by
 rw [List.getD_eq_getElem?_getD, List.getElem?_map, List.getElem?_range h]; rfl
theorem rowA_len : (rowA a b q).length = a.length := by unfold rowA; simp
theorem negR_len : (negR a).length = a.length := by unfold negR; simp
theorem idRow_len : (idRow n i).length = n := by unfold idRow; simp
theorem idR_len : (idR n).length = n := by unfold idR; simp
theorem rowA_at (h : j < a.length) : (rowA a b q).getD j 0 = a.getD j 0 + q * b.getD j 0 := mapR_at h
theorem negR_at (h : j < a.length) : (negR a).getD j 0 = -(a.getD j 0) := mapR_at h
theorem idRow_at (h : j < n) : (idRow n i).getD j 0 = if i = j then 1 else 0 := mapR_at h
theorem idR_at (h : i < n) : (idR n).getD i [] = idRow n i := mapL_at h
theorem cmb_x (h : sh = -1) : cmb [(t : Int), (f : Int), cf, sh] M = swL M t f [] := by subst h; rfl
theorem cmb_n (h : sh = -2) : cmb [(t : Int), (f : Int), cf, sh] M = M.set t (negR (M.getD t [])) := by subst h; rfl
theorem cmb_s (h1 : ¬ sh = -1) (h2 : ¬ sh = -2) : cmb [(t : Int), (f : Int), cf, sh] M = M.set t (rowA (M.getD t []) (M.getD f []) (wq cf sh)) := by
 unfold cmb
 rw [if_neg (show ¬ [(t : Int), (f : Int), cf, sh].getD 3 0 = -1 from h1), if_neg (show ¬ [(t : Int), (f : Int), cf, sh].getD 3 0 = -2 from h2)]
 rfl
theorem getD_setL {x y : List Rat} : (M.set t x).getD i [] = if t = i ∧ t < M.length then x else M.getD i [] := by
 by_cases h : t = i
 ·subst h
  by_cases h2 : t < M.length
  ·rw [if_pos ⟨rfl, h2⟩]; simp [List.getD_eq_getElem?_getD, h2]
  ·rw [if_neg (fun h => h2 h.2), List.set_eq_of_length_le xq]
 ·rw [if_neg (fun h9 => h h9.1)]; simp [List.getD_eq_getElem?_getD, h]
theorem linM_nil : linM n [] = idR n := rfl
theorem linM_snoc (i : Nat) (hi : i < S.length) : linM n (S.take (i + 1)) = cmb (S.getD i []) (linM n (S.take i)) := by
 unfold linM
 rw [List.take_succ_eq_append_getElem hi, List.foldl_append, List.getD_eq_getElem?_getD, List.getElem?_eq_getElem hi]
 rfl
theorem idR_sq : Sq n (idR n) := ⟨idR_len, fun i hi => by rw [idR_at hi]; exact idRow_len⟩
theorem Sq.set (h : Sq n M) (hl : l.length = n) : Sq n (M.set t l) := ⟨by rw [List.length_set]; exact h.1, fun i hi => by
 rw [getD_setL (y := [])]
 split
 ·exact hl
 ·exact h.2 i hi⟩
theorem Sq.swap (h : Sq n M) (ht : t < n) (hf : f < n) : Sq n (swL M t f []) := ⟨by rw [swL_len]; exact h.1, fun i hi => by
 rw [swL_at (by rw [h.1]; exact ht) (by rw [h.1]; exact hf)]
 split
 ·exact h.2 f hf
 ·split
  ·exact h.2 t ht
  ·exact h.2 i hi⟩
theorem shOK_four (h : shOK (n : Int) s) (h4 : s.length = 4) : ∃ (t f : Nat) (cf sh : Int), s = [(t : Int), (f : Int), cf, sh] ∧ t < n ∧ f < n ∧ -2 ≤ sh ∧ sh ≤ 20 ∧ -2097152 ≤ cf ∧ cf ≤ 2097152 ∧ (t = f ↔ sh = -2) ∧ (sh < 0 → cf = 0) := by
 have e := row_eq4 h4
 have h1 : 0 ≤ s.getD 0 0 := h.1
 have h2 : 0 ≤ s.getD 1 0 := h.2.2.1
 refine ⟨(s.getD 0 0).toNat, (s.getD 1 0).toNat, s.getD 2 0, s.getD 3 0, ?_, ?_⟩
 ·rw [Int.toNat_of_nonneg h1, Int.toNat_of_nonneg h2]; exact e
 ·rw [e] at h
  rw [← Int.toNat_of_nonneg h1, ← Int.toNat_of_nonneg h2] at h
  obtain ⟨k1, k2, k3, k4, k5, k6, k7, k8⟩ := shOK_mk h
  exact ⟨by omega, by omega, k3, k4, k5, k6, ⟨fun h9 => k7.1 (by rw [h9]), fun h9 => Int.ofNat_inj.1 (k7.2 h9)⟩, k8⟩
theorem cmb_sq (h : Sq n M) (ht : t < n) (hf : f < n) : Sq n (cmb [(t : Int), (f : Int), cf, sh] M) := by
 by_cases h1 : sh = -1
 ·rw [cmb_x h1]; exact h.swap ht hf
 ·by_cases h2 : sh = -2
  ·rw [cmb_n h2]; exact h.set (by rw [negR_len]; exact h.2 t ht)
  ·rw [cmb_s h1 h2]; exact h.set (by rw [rowA_len]; exact h.2 t ht)
def Mw (M : List (List Rat)) (D A : Nat) : Prop := 0 < D ∧ ∀ i j, Wh (ent M i j * ((D : Int) : Rat)) A
theorem wh_p20 (z : Nat) (h : z ≤ 20) : Wh (((((2 : Nat) ^ z : Nat) : Int) : Rat)) 20 := ⟨(((2 : Nat) ^ z : Nat) : Int), rfl, by
 rw [Int.natAbs_natCast]; exact Nat.pow_le_pow_right xw h⟩
theorem Wh.zero' {x : Rat} (h : x = 0) (A : Nat) : Wh x A := by rw [h]; exact Wh.zero A
theorem Wh.scale {x : Rat} (h : Wh (x * ((D : Int) : Rat)) A) : Wh (x * (((D * 2 ^ 20 : Nat) : Int) : Rat)) (A + 20) := by
 have e : (((D * 2 ^ 20 : Nat) : Int) : Rat) = ((D : Int) : Rat) * (((2 ^ 20 : Nat) : Int) : Rat) := by rw [← Rat.intCast_mul]; simp
 rw [e, ← Rat.mul_assoc]
 exact h.mul (wh_p20 20 xw)
theorem wq_20 (h0 : 0 ≤ sh) (h1 : sh ≤ 20) : wq cf sh * (((2 ^ 20 : Nat) : Int) : Rat) = ((cf : Int) : Rat) * (((2 ^ (20 - sh.toNat) : Nat) : Int) : Rat) := by
 obtain ⟨k, rfl⟩ := Int.eq_ofNat_of_zero_le h0
 have hk : k ≤ 20 := by omega
 have e : (((2 ^ 20 : Nat) : Int) : Rat) = ((p2i (k : Int) : Int) : Rat) * (((2 ^ (20 - k) : Nat) : Int) : Rat) := by
  rw [← Rat.intCast_mul]; congr 1
  unfold p2i
  rw [Int.toNat_natCast]
  have e2 : (2 : Int) ^ k = ((2 ^ k : Nat) : Int) := by simp
  rw [e2, ← Int.natCast_mul, ← Nat.pow_add]; congr 2; omega
 have hp : ((p2i (k : Int) : Int) : Rat) ≠ 0 := fun e => by
  have h1 := Rat.intCast_inj.1 (show ((p2i (k : Int) : Int) : Rat) = ((0 : Int) : Rat) from e); have := zxo (k : Int); omega
 rw [e, show (k : Int).toNat = k from rfl]
 unfold wq
 generalize ((p2i (k : Int) : Int) : Rat) = P at *
 generalize (((2 ^ (20 - k) : Nat) : Int) : Rat) = Q at *
 rw [Rat.div_def]
 grind
theorem Wh.shear {x : Rat} (h : Wh (x * ((D : Int) : Rat)) A) (h0 : 0 ≤ sh) (h1 : sh ≤ 20) (h2 : cf.natAbs ≤ 2 ^ 21) : Wh (wq cf sh * x * (((D * 2 ^ 20 : Nat) : Int) : Rat)) (A + 41) := by
 have e : (((D * 2 ^ 20 : Nat) : Int) : Rat) = ((D : Int) : Rat) * (((2 ^ 20 : Nat) : Int) : Rat) := by rw [← Rat.intCast_mul]; simp
 have e2 : wq cf sh * x * (((D * 2 ^ 20 : Nat) : Int) : Rat) = x * ((D : Int) : Rat) * (((cf : Int) : Rat) * (((2 ^ (20 - sh.toNat) : Nat) : Int) : Rat)) := by
  rw [e, ← wq_20 h0 h1]; grind
 rw [e2]
 exact h.mul (Wh.mul (A := 21) (B := 20) ⟨cf, rfl, h2⟩ (wh_p20 _ xq))
theorem ent_set : ent (M.set t l) i j = if t = i ∧ t < M.length then l.getD j 0 else ent M i j := by
 unfold ent; rw [getD_setL (y := [])]; split <;> rfl
theorem Mw.cmb (h : Mw M D A) (hq : Sq n M) (ht : t < n) (hf : f < n) (h1 : -2 ≤ sh) (h2 : sh ≤ 20) (h3 : -2097152 ≤ cf ∧ cf ≤ 2097152) : Mw (cmb [(t : Int), (f : Int), cf, sh] M) (D * 2 ^ 20) (A + 42) := by
 refine ⟨Nat.mul_pos h.1 xw, fun i j => ?_⟩
 by_cases g1 : sh = -1
 ·rw [cmb_x g1]
  have e : ∃ i', ent (swL M t f []) i j = ent M i' j := by
   unfold ent
   rw [swL_at (by rw [hq.1]; exact ht) (by rw [hq.1]; exact hf)]
   split
   ·exact ⟨f, rfl⟩
   ·split
    ·exact ⟨t, rfl⟩
    ·exact ⟨i, rfl⟩
  obtain ⟨i', e⟩ := e
  rw [e]; exact (h.2 i' j).scale.more xq
 ·by_cases g2 : sh = -2
  ·rw [cmb_n g2, ent_set]
   split
   ·rcases Nat.lt_or_ge j (M.getD t []).length with hj | hj
    ·rw [negR_at hj]
     have h9 := (Wh.zero (A + 20)).sub (h.2 t j).scale
     have e : -(M.getD t []).getD j 0 * (((D * 2 ^ 20 : Nat) : Int) : Rat) = 0 - ent M t j * (((D * 2 ^ 20 : Nat) : Int) : Rat) := by unfold ent; grind
     rw [e]; exact h9.more xq
    ·rw [show (negR (M.getD t [])).getD j 0 = 0 by unfold negR; exact mapR_out hj]
     exact Wh.zero' (Rat.zero_mul _) _
   ·exact (h.2 i j).scale.more xq
  ·rw [cmb_s g1 g2, ent_set]
   split
   ·rcases Nat.lt_or_ge j (M.getD t []).length with hj | hj
    ·rw [rowA_at hj, Rat.add_mul]
     exact ((h.2 t j).scale.more xq).add ((h.2 f j).shear (sh := sh) (cf := cf) xq h2 xq)
    ·rw [show (rowA (M.getD t []) (M.getD f []) (wq cf sh)).getD j 0 = 0 by unfold rowA; exact mapR_out hj]
     exact Wh.zero' (Rat.zero_mul _) _
   ·exact (h.2 i j).scale.more xq
theorem idR_mw : Mw (idR n) 1 1 := ⟨by decide, fun i j => by
 rw [show (((1 : Nat) : Int) : Rat) = 1 from rfl, Rat.mul_one]
 unfold ent
 rcases Nat.lt_or_ge i n with hi | hi
 ·rw [idR_at hi]
  rcases Nat.lt_or_ge j n with hj | hj
  ·rw [idRow_at hj]; split
   ·exact Wh.one _
   ·exact Wh.zero _
  ·rw [show (idRow n i).getD j 0 = 0 by unfold idRow; exact mapR_out hj]; exact Wh.zero _
 ·rw [show (idR n).getD i [] = [] by rw [List.getD_eq_getElem?_getD, List.getElem?_eq_none (by rw [idR_len]; exact hi)]; rfl]; exact Wh.zero _⟩
theorem linM_ok (hV : ∀ i, i < S.length → shOK (n : Int) (S.getD i [])) (h4 : Rows 4 S) : ∀ i, i ≤ S.length → Sq n (linM n (S.take i)) ∧ Mw (linM n (S.take i)) (2 ^ (20 * i)) (42 * i + 1) := by
 intro i
 induction i with
 | zero => intro _; rw [List.take_zero]; exact ⟨idR_sq, idR_mw⟩
 | succ i ih =>
  intro hi
  obtain ⟨h1, h2⟩ := ih xq
  obtain ⟨t, f, cf, sh, e, k1, k2, k3, k4, k5, k6, _⟩ := shOK_four (hV i xq) (h4.get xq)
  rw [linM_snoc i xq, e]
  refine ⟨cmb_sq h1 k1 k2, ?_⟩
  have h9 := h2.cmb h1 k1 k2 k3 k4 ⟨k5, k6⟩
  rw [← Nat.pow_add] at h9
  rwa [show 20 * (i + 1) = 20 * i + 20 by omega, show 42 * (i + 1) + 1 = 42 * i + 1 + 42 by omega]
theorem Mw.rs (h : Mw M D A) (hD : D ≤ 2 ^ A) (i j : Nat) : rs (ent M i j) ≤ dg A := wh_rs h.1 (h.2 i j) hD
theorem linM_rs (hV : ∀ i, i < S.length → shOK (n : Int) (S.getD i [])) (h4 : Rows 4 S) (h64 : S.length ≤ 64) (k : Nat) (hk : k ≤ S.length) : ∀ i j, rs (ent (linM n (S.take k)) i j) ≤ 100 := fun i j => by
 have h9 := (linM_ok hV h4 k hk).2.rs (Nat.pow_le_pow_right xw xq) i j
 have : dg (42 * k + 1) ≤ 100 := by unfold dg; omega
 omega
theorem ent_swap (ht : t < M.length) (hf : f < M.length) : ent (swL M t f []) = swR (ent M) t f := by
 funext i j
 unfold ent swR
 rw [swL_at ht hf]
 split
 ·rfl
 ·split <;> rfl
theorem det_cmb (hq : Sq n M) (ht : t < n) (hf : f < n) (hne : t = f ↔ sh = -2) : det n (ent (cmb [(t : Int), (f : Int), cf, sh] M)) = det n (ent M) ∨ det n (ent (cmb [(t : Int), (f : Int), cf, sh] M)) = -det n (ent M) := by
 have hl := hq.1
 by_cases g1 : sh = -1
 ·right
  rw [cmb_x g1, ent_swap xq xq]
  exact det_swap ht hf (fun e => by have := hne.1 e; omega)
 ·by_cases g2 : sh = -2
  ·right
   rw [cmb_n g2]
   have h9 := det_scale (M := ent M) (a := -1) ht
   rw [← show det n (ent (M.set t (negR (M.getD t [])))) = det n (up (ent M) t fun c => -1 * ent M t c) from det_congr fun r c hr hc => by
    rw [ent_set]; unfold up
    by_cases e : t = r
    ·subst e; rw [if_pos ⟨rfl, by omega⟩, if_pos rfl, negR_at (by rw [hq.2 t hr]; exact hc)]; unfold ent; grind
    ·rw [if_neg (fun h => e h.1), if_neg (Ne.symm e)]] at h9
   rw [h9]; grind
  ·left
   rw [cmb_s g1 g2]
   rw [← det_shear (M := ent M) (a := wq cf sh) ht hf (fun e => g2 (hne.1 e))]
   exact det_congr fun r c hr hc => by
    rw [ent_set]; unfold up
    by_cases e : t = r
    ·subst e; rw [if_pos ⟨rfl, by omega⟩, if_pos rfl, rowA_at (by rw [hq.2 t hr]; exact hc)]; rfl
    ·rw [if_neg (fun h => e h.1), if_neg (Ne.symm e)]
theorem det_linM (hV : ∀ i, i < S.length → shOK (n : Int) (S.getD i [])) (h4 : Rows 4 S) : ∀ i, i ≤ S.length → det n (ent (linM n (S.take i))) = 1 ∨ det n (ent (linM n (S.take i))) = -1 := by
 intro i
 induction i with
 | zero =>
  intro _
  left
  rw [List.take_zero, linM_nil, ← det_id n]
  exact det_congr fun r c hr hc => by unfold ent idM; rw [idR_at hr, idRow_at hc]
 | succ i ih =>
  intro hi
  obtain ⟨t, f, cf, sh, e, k1, k2, k3, k4, k5, k6, k7, _⟩ := shOK_four (hV i xq) (h4.get xq)
  rw [linM_snoc i xq, e]
  rcases det_cmb (cf := cf) (sh := sh) (linM_ok hV h4 i xq).1 k1 k2 k7 with h | h <;> rw [h] <;> rcases ih xq with g | g <;> rw [g]
  ·exact .inl rfl
  ·exact .inr rfl
  ·exact .inr rfl
  ·exact .inl (by grind)
def mixR (M : List (List Rat)) (t : Nat) (R : List Rat) (j : Nat) : List (List Rat) := M.set t (R.take j ++ (M.getD t []).drop j)
theorem mixR_0 {R : List Rat} : mixR M t R 0 = M := by
 unfold mixR
 rw [List.take_zero, List.nil_append, List.drop_zero]
 refine List.ext_getElem? fun k => ?_
 rw [List.getElem?_set]
 split
 ·rename_i e; subst e
  split
  ·rename_i h; simp [List.getD_eq_getElem?_getD, h]
  ·rename_i h; rw [List.getElem?_eq_none xq]
 ·rfl
theorem mixR_n {R : List Rat} (h : R.length = (M.getD t []).length) (hj : j = R.length) : mixR M t R j = M.set t R := by
 unfold mixR
 rw [hj, List.take_length, h, List.drop_length, List.append_nil]
theorem mixR_len {R : List Rat} : (mixR M t R j).length = M.length := by unfold mixR; rw [List.length_set]
theorem mixR_old {R : List Rat} (ht : t < M.length) (hR : R.length = (M.getD t []).length) (hj : j < R.length) : ((mixR M t R j).getD t []).getD j 0 = (M.getD t []).getD j 0 := by
 unfold mixR
 rw [getD_setL (y := []), if_pos ⟨rfl, ht⟩, List.getD_eq_getElem?_getD, List.getElem?_append_right (by rw [List.length_take]; omega), List.length_take, Nat.min_eq_left xq, Nat.sub_self, List.getElem?_drop, Nat.add_zero, List.getD_eq_getElem?_getD (l := M.getD t [])]
theorem mixR_other {R : List Rat} (h : t ≠ i) : (mixR M t R j).getD i [] = M.getD i [] := by
 unfold mixR; rw [getD_setL (y := []), if_neg (fun h9 => h h9.1)]
theorem mixR_row {R : List Rat} (ht : t < M.length) (hR : R.length = (M.getD t []).length) (hj : j ≤ R.length) : ((mixR M t R j).getD t []).length = R.length := by
 unfold mixR
 rw [getD_setL (y := []), if_pos ⟨rfl, ht⟩, List.length_append, List.length_take, List.length_drop]; omega
theorem mixR_s {R : List Rat} (ht : t < M.length) (hR : R.length = (M.getD t []).length) (hj : j < R.length) : (mixR M t R j).set t (((mixR M t R j).getD t []).set j (R.getD j 0)) = mixR M t R (j + 1) := by
 unfold mixR
 rw [List.set_set, getD_setL (y := []), if_pos ⟨rfl, ht⟩]
 congr 1
 rw [List.set_append_right j _ (by rw [List.length_take]; omega), List.length_take, Nat.min_eq_left xq, Nat.sub_self, List.take_succ_eq_append_getElem hj, List.append_assoc]
 congr 1
 have e9 : R.getD j 0 = R[j] := by rw [List.getD_eq_getElem?_getD, List.getElem?_eq_getElem hj]; rfl
 rw [List.drop_eq_getElem_cons (show j < (M.getD t []).length by omega), List.set_cons_zero, e9]; rfl
end
end Nt
def mqB (x : Sl) (Rs : List Sl) : List Nat := (x :: Rs).filterMap fun s => s.a.map fun a => a.block
section
variable {w k lo lo' h b n c i j off : Nat} {tO tR : TypeId} {u u' u'' v : World} {w0 : Base} {u0 : World} {x y z : Sl} {Rs : List Sl} {Ls : List (List RL)} {L : List RL} {M : List (List Rat)} {l : List Rat} {r : RL} {q : Rat} {K K' : Nat} {a : Addr}
theorem mqB_x (h : x.a = some a) : a.block ∈ mqB x Rs := List.mem_filterMap.2 ⟨x, List.mem_cons_self .., by rw [h]; rfl⟩
theorem mqB_row (hi : i < Rs.length) (h : (Rs.getD i sl0).a = some a) : a.block ∈ mqB x Rs := List.mem_filterMap.2 ⟨Rs.getD i sl0, List.mem_cons_of_mem _ (by
 rw [List.getD_eq_getElem?_getD, List.getElem?_eq_getElem hi]; exact List.getElem_mem hi), by rw [h]; rfl⟩
theorem MatQ.blk (m : MatQ w tO tR lo u x Rs Ls) (hb : b ∈ mqB x Rs) : lo ≤ b ∧ ∃ ob, u.heap[b]? = some ob ∧ ob ≠ hidO := by
 obtain ⟨s, hs, e⟩ := List.mem_filterMap.1 hb
 have key : ∀ {k : Nat} {ty : TypeId} {s : Sl} {cs : List Value}, MutQ k ty lo u s cs → s.a.map (fun a => a.block) = some b → lo ≤ b ∧ ∃ ob, u.heap[b]? = some ob ∧ ob ≠ hidO := by
  intro k ty s cs hm e
  rcases hm.2.2.2 with h1 | ⟨b', all, h1, h2, _, _, h5, _⟩
  ·rw [h1] at e; cases e
  ·rw [h1] at e; injection e with e; subst e
   exact ⟨h5, _, h2, cells_not_hid⟩
 rcases List.mem_cons.1 hs with h1 | h1
 ·subst h1; exact key m.out e
 ·obtain ⟨i, hi, e2⟩ := List.getElem_of_mem h1
  have h3 : Rs.getD i sl0 = s := by rw [List.getD_eq_getElem?_getD, List.getElem?_eq_getElem hi]; exact e2
  have h4 := m.row i (by rw [← m.len]; exact hi)
  rw [h3] at h4
  exact key h4 e
theorem MatQ.may (m : MatQ w tO tR lo u x Rs Ls) (hl : u0.heap.size ≤ lo) : ∀ b ∈ mqB x Rs, MayB w0 u0 b ∧ ∃ ob, u.heap[b]? = some ob ∧ ob ≠ hidO := fun b hb =>
 ⟨.inl (Nat.le_trans hl (m.blk hb).1), (m.blk hb).2⟩
theorem ExtF.rootQ (e : ExtF (mqB x Rs) u u') (m : MatQ w tO tR v.heap.size u x Rs Ls) (r : Ext v u) : Ext v u' :=
 ⟨Nat.le_trans r.size e.size, fun q o hq hh => e.vis q o (fun hm => by have h1 := (m.blk hm).1; have h2 := zyz hq; omega) (r.vis q o hq hh) hh⟩
theorem MatN.el (h : MatN u Ls M K) (hi : i < M.length) (hj : j < (M.getD i []).length) (hr : RatN u r q K) : MatN u (Ls.set i ((Ls.getD i []).set j r)) (M.set i ((M.getD i []).set j q)) K :=
 h.set (rats_set (h.2 i hi) hj hr)
theorem MatN.at (h : MatN u Ls M K) (hi : i < M.length) (hj : j < (M.getD i []).length) : RatN u ((Ls.getD i []).getD j rl0) ((M.getD i []).getD j 0) K := (h.2 i hi).2 j hj
theorem MatN.rowlen (h : MatN u Ls M K) (hi : i < M.length) : (Ls.getD i []).length = (M.getD i []).length := (h.2 i hi).1
theorem ExtX.trans {u2 : World} (e : ExtX x u u') (f : ExtX x u' u2) : ExtX x u u2 := ⟨Nat.le_trans e.size f.size, fun k o ho hk hh => f.vis k o ho (e.vis k o ho hk hh) hh⟩
theorem MutQ.rown {ty : TypeId} (m : MutQ (1 * 3) ty lo u y (rcs L)) : y.n = L.length := by
 have h := m.1
 rw [zyx] at h; omega
theorem MatN.swap {t f : Nat} (h : MatN u Ls M K) (ht : t < M.length) (hf : f < M.length) : MatN u ((Ls.set t (Ls.getD f [])).set f (Ls.getD t [])) (Nt.swL M t f []) K := by
 have hl := h.1
 refine ⟨by rw [Nt.swL_len, List.length_set, List.length_set]; exact hl, fun i hi => ?_⟩
 rw [Nt.swL_len] at hi
 have e1 : (Ls.set t (Ls.getD f [])).set f (Ls.getD t []) = Nt.swL Ls t f [] := rfl
 rw [e1, Nt.swL_at xq xq, Nt.swL_at ht hf]
 split
 ·exact h.2 f hf
 ·split
  ·exact h.2 t ht
  ·exact h.2 i hi
end
section
variable {P : Program} {w0 : Base} {u0 : World} {ops : Array Oper} {S : St} {u : World} {Q : MP} {listed : Array Bool}
theorem execOp_fieldAddr {o : Oper} {T : TypeId} {r : Tmp} {f : Nat} (hop : o.op = .fieldAddr T (.tmp r) f) (ev : Operand → Value) (w : World) (v : Value) (h : ev (.tmp r) = v) :
  (execOp ev o).run P w = (execOp (fun _ => v) o).run P w := by
 unfold execOp; rw [hop]; show Sem.run P _ w = Sem.run P _ w; simp only [h]
theorem takeXa (i d n : Nat) {T : TypeId} {r f : Nat} (t off off' : Nat) (listed' : Array Bool) (k : AnyX P w0 u0 ops listed' n (S.set d (.adr t off')) u Q) (hp : ∀ c S u, ¬ Q.f (.panic c) S u := by intro c S u h; exact h) (hl : listed.setIfInBounds i true = listed' := by kernel_rfl)
  (hs : (Region.noSelect ops && Region.free .any ops listed i && (Region.ready .any ops listed).contains i && Nat.blt i ops.size && (ops.getD i default).dst == some d && (ops.getD i default).guard.isNone && freeB S d) = true := by kernel_rfl)
  (hop : (ops.getD i default).op = .fieldAddr T (.tmp r) f := by rfl) (hx : S.reg r = some (.adr t off) := by rfl) (hv : (S.var t).isSome = true := by rfl)
  (hrun : ∀ b w, (execOp (fun _ => .pointer (some ⟨b, off, none⟩)) (ops.getD i default)).run P w = .ok (.value (.pointer (some ⟨b, off', none⟩))) w := by intro _ _; kernel_rfl) : AnyX P w0 u0 ops listed (n + 1) S u Q :=
 takeXR i d n _ rfl listed' k hp hl hs hv (fun B a w hr => by rw [execOp_fieldAddr hop a.eval w _ (hr.eval hx)]; exact hrun (B t) w)
end
section
variable {w k lo lo' h b n c i j off : Nat} {tO tR : TypeId} {u u' u'' v : World} {w0 : Base} {u0 : World} {x y z : Sl} {Rs : List Sl} {Ls : List (List RL)} {L : List RL} {M : List (List Rat)} {l : List Rat} {r : RL} {q : Rat} {K K' : Nat} {a : Addr}
def MatE (u : World) (Ls : List (List RL)) (M : List (List Rat)) (Kf : Nat → Nat → Nat) : Prop :=
 Ls.length = M.length ∧ ∀ i, i < M.length → (Ls.getD i []).length = (M.getD i []).length ∧ ∀ j, j < (M.getD i []).length → RatN u ((Ls.getD i []).getD j rl0) ((M.getD i []).getD j 0) (Kf i j)
section
variable {Kf Kg : Nat → Nat → Nat}
theorem MatE.ofN (h : MatN u Ls M K) (hK : ∀ i j, K ≤ Kf i j) : MatE u Ls M Kf := ⟨h.1, fun i hi => ⟨(h.2 i hi).1, fun j hj => ((h.2 i hi).2 j hj).more (hK i j)⟩⟩
theorem MatE.toN (h : MatE u Ls M Kf) (hK : ∀ i j, i < M.length → j < (M.getD i []).length → Kf i j ≤ K) : MatN u Ls M K := ⟨h.1, fun i hi => ⟨(h.2 i hi).1, fun j hj => ((h.2 i hi).2 j hj).more (hK i j hi hj)⟩⟩
theorem MatE.ext (h : MatE u Ls M Kf) (e : Ext u u') : MatE u' Ls M Kf := ⟨h.1, fun i hi => ⟨(h.2 i hi).1, fun j hj => ((h.2 i hi).2 j hj).ext e⟩⟩
theorem MatE.more (h : MatE u Ls M Kf) (hK : ∀ i j, Kf i j ≤ Kg i j) : MatE u Ls M Kg := ⟨h.1, fun i hi => ⟨(h.2 i hi).1, fun j hj => ((h.2 i hi).2 j hj).more (hK i j)⟩⟩
theorem MatE.keep {k : Nat} {ty : TypeId} {cs : List Value} (h : MatE u Ls M Kf) (m : MutQ k ty lo u y cs) (e : ExtX y u u') : MatE u' Ls M Kf := ⟨h.1, fun i hi => ⟨(h.2 i hi).1, fun j hj => m.keep e ((h.2 i hi).2 j hj)⟩⟩
theorem MatE.at (h : MatE u Ls M Kf) (hi : i < M.length) (hj : j < (M.getD i []).length) (hK : Kf i j ≤ K) : RatN u ((Ls.getD i []).getD j rl0) ((M.getD i []).getD j 0) K := ((h.2 i hi).2 j hj).more hK
theorem MatE.rowlen (h : MatE u Ls M Kf) (hi : i < M.length) : (Ls.getD i []).length = (M.getD i []).length := (h.2 i hi).1
theorem MatE.el (h : MatE u Ls M Kf) (hi : i < M.length) (hj : j < (M.getD i []).length) (hr : RatN u r q K) (h1 : K ≤ Kg i j) (h2 : ∀ a b, (a ≠ i ∨ b ≠ j) → Kf a b ≤ Kg a b) : MatE u (Ls.set i ((Ls.getD i []).set j r)) (M.set i ((M.getD i []).set j q)) Kg := by
 refine ⟨by rw [List.length_set, List.length_set]; exact h.1, fun a ha => ?_⟩
 rw [List.length_set] at ha
 by_cases e : i = a
 ·subst e
  rw [getD_set_same (by rw [h.1]; exact ha), getD_set_same ha, List.length_set, List.length_set]
  refine ⟨(h.2 i ha).1, fun b hb => ?_⟩
  by_cases e2 : j = b
  ·subst e2; rw [getD_set_same (by rw [(h.2 i ha).1]; exact hb), getD_set_same hb]; exact hr.more h1
  ·rw [getD_set_other e2, getD_set_other e2]; exact ((h.2 i ha).2 b hb).more (h2 i b (.inr (Ne.symm e2)))
 ·rw [getD_set_other e, getD_set_other e]
  exact ⟨(h.2 a ha).1, fun b hb => ((h.2 a ha).2 b hb).more (h2 a b (.inl (Ne.symm e)))⟩
end
theorem nu_zrat : ∀ v ∈ (Value.agg #[.bool false, .slice none 0 0, .slice none 0 0]).cells.toList, NU v := nu_rl rl0
theorem nu_zsl : ∀ v ∈ (Value.slice none 0 0).cells.toList, NU v := nu_sls [sl0]
theorem MatQ.snoc (hT : tO ≠ tR) (hT2 : tR ≠ tO) (m : MatQ w tO tR lo u x Rs Ls) (hy : MutQ (w * 3) tR lo u y (rcs L)) (hs : ∀ j, j < Ls.length → Sep y (Rs.getD j sl0)) (ho : MutQ 1 tO lo u' z ((Rs ++ [y]).map Sl.v)) (e : ExtX x u u') : MatQ w tO tR lo u' z (Rs ++ [y]) (Ls ++ [L]) := by
 have hl := m.len
 have eT := e.t m.out.mutL
 have g1 : ∀ {j : Nat}, j < Ls.length → (Rs ++ [y]).getD j sl0 = Rs.getD j sl0 := fun h => by rw [List.getD_eq_getElem?_getD, List.getElem?_append_left xq, ← List.getD_eq_getElem?_getD]
 have g2 : ∀ {j : Nat}, j < Ls.length → (Ls ++ [L]).getD j [] = Ls.getD j [] := fun h => by rw [List.getD_eq_getElem?_getD, List.getElem?_append_left xq, ← List.getD_eq_getElem?_getD]
 have g3 : (Rs ++ [y]).getD Ls.length sl0 = y := by rw [← hl, List.getD_eq_getElem?_getD, List.getElem?_append_right (Nat.le_refl _), Nat.sub_self]; rfl
 have g4 : (Ls ++ [L]).getD Ls.length [] = L := by rw [List.getD_eq_getElem?_getD, List.getElem?_append_right (Nat.le_refl _), Nat.sub_self]; rfl
 refine ⟨ho, by simp [hl], fun j hj => ?_, fun a b ha hb hab => ?_⟩
 ·rw [List.length_append, List.length_singleton] at hj
  rcases Nat.lt_or_ge j Ls.length with h1 | h1
  ·rw [g1 h1, g2 h1]; exact (m.row j h1).extT eT hT2
  ·rw [show j = Ls.length by omega, g3, g4]; exact hy.extT eT hT2
 ·rw [List.length_append, List.length_singleton] at ha hb
  rcases Nat.lt_or_ge a Ls.length with h1 | h1 <;> rcases Nat.lt_or_ge b Ls.length with h2 | h2
  ·rw [g1 h1, g1 h2]; exact m.sep a b h1 h2 hab
  ·rw [g1 h1, show b = Ls.length by omega, g3]; exact (hs a h1).symm
  ·rw [g1 h2, show a = Ls.length by omega, g3]; exact hs b h2
  ·omega
theorem MatN.snoc (h : MatN u Ls M K) (hL : RatsN u L l K) : MatN u (Ls ++ [L]) (M ++ [l]) K := by
 refine ⟨by simp [h.1], fun i hi => ?_⟩
 rw [List.length_append, List.length_singleton] at hi
 rcases Nat.lt_or_ge i M.length with h1 | h1
 ·rw [List.getD_eq_getElem?_getD, List.getElem?_append_left (by rw [h.1]; exact h1), ← List.getD_eq_getElem?_getD, List.getD_eq_getElem?_getD (l := M ++ [l]), List.getElem?_append_left h1, ← List.getD_eq_getElem?_getD]
  exact h.2 i h1
 ·have e : i = M.length := by omega
  subst e
  rw [List.getD_eq_getElem?_getD, List.getElem?_append_right (by rw [h.1]; exact Nat.le_refl _), h.1, Nat.sub_self, List.getD_eq_getElem?_getD (l := M ++ [l]), List.getElem?_append_right (Nat.le_refl _), Nat.sub_self]
  exact hL
end
theorem sw_joinR {P : Program} {w0 : Base} {u0 u : World} {S : St} {r c : Code} {Q : MP} (I : St → World → Prop) (h1 : ∀ S' u1, I S' u1 → SW P w0 u0 c S' u1 Q) (h2 : (∀ S' u1, I S' u1 → SW P w0 u0 c S' u1 Q) → SW P w0 u0 r S u (MP.seq P w0 u0 c Q)) : SW P w0 u0 r S u (MP.seq P w0 u0 c Q) := h2 h1
section
variable {w k lo lo' h b n c i j off : Nat} {tO tR : TypeId} {u u' u'' v : World} {x y z : Sl} {Rs : List Sl} {Ls : List (List RL)} {F : List Nat} {a : Addr}
def RowsIn (F : List Nat) (Rs : List Sl) : Prop := ∀ i a, (Rs.getD i sl0).a = some a → a.block ∈ F
theorem RowsIn.self : RowsIn (mqB x Rs) Rs := fun i a ha => by
 rcases Nat.lt_or_ge i Rs.length with h | h
 ·exact mqB_row h ha
 ·rw [List.getD_eq_getElem?_getD, List.getElem?_eq_none h] at ha; cases ha
theorem RowsIn.swap {p t : Nat} (h : RowsIn F Rs) (hp : p < Rs.length) (ht : t < Rs.length) : RowsIn F ((Rs.set p (Rs.getD t sl0)).set t (Rs.getD p sl0)) := fun i a ha => by
 have e1 : (Rs.set p (Rs.getD t sl0)).set t (Rs.getD p sl0) = Nt.swL Rs p t sl0 := rfl
 rw [e1, Nt.swL_at hp ht] at ha
 split at ha
 ·exact h _ _ ha
 ·split at ha <;> exact h _ _ ha
theorem MatQ.empty : MatQ w tO tR lo u sl0 [] [] := ⟨MutQ.nil _ _ _ _, rfl, fun i hi => absurd hi (Nat.not_lt_zero i), fun i j hi => absurd hi (Nat.not_lt_zero i)⟩
theorem MatN.empty {K : Nat} : MatN u [] [] K := ⟨rfl, fun i hi => absurd hi (Nat.not_lt_zero i)⟩
end
namespace Nt
def ovR (a : List Rat) (p : Rat) : List Rat := (List.range a.length).map fun j => a.getD j 0 / p
def dotV (M : List (List Rat)) (i : Nat) (v : Nat → Rat) (m : Nat) : Rat := su (fun j => ent M i j * v j) m
def Ker (n m : Nat) (M : List (List Rat)) (v : Nat → Rat) : Prop := ∀ i, i < n → dotV M i v m = 0
def Inj (n : Nat) (M : List (List Rat)) : Prop := ∀ v, Ker n n M v → ∀ j, j < n → v j = 0
structure GI (n m : Nat) (A M : List (List Rat)) (c : Nat) (d : Rat) : Prop where
 len : M.length = n
 row : ∀ i, i < n → (M.getD i []).length = m
 ker : ∀ v, Ker n m M v → Ker n m A v
 unit : ∀ j, j < c → ∀ i, i < n → ent M i j = if i = j then 1 else 0
 dt : n ≤ m → det n (ent A) = d * det n (ent M)
structure GE (n m : Nat) (A M : List (List Rat)) (c : Nat) (d : Rat) (i : Nat) : Prop extends GI n m A M c d where
 piv : ent M c c = 1
 done : ∀ k, k < i → k < n → k ≠ c → ent M k c = 0
section
variable {M A : List (List Rat)} {a b l : List Rat} {n m t f i j c k r : Nat} {p q d : Rat} {v : Nat → Rat}
theorem ovR_len : (ovR a p).length = a.length := by unfold ovR; simp
theorem ovR_at (h : j < a.length) : (ovR a p).getD j 0 = a.getD j 0 / p := mapR_at h
theorem dotV_congr {M N : List (List Rat)} (h : ∀ j, j < m → ent M i j = ent N k j) : dotV M i v m = dotV N k v m := su_congr fun j hj => by rw [h j hj]
theorem GI.start (h1 : A.length = n) (h2 : ∀ i, i < n → (A.getD i []).length = m) : GI n m A A 0 1 :=
 ⟨h1, h2, fun v h => h, fun j hj => absurd hj (Nat.not_lt_zero j), fun _ => by grind⟩
theorem GI.swap (g : GI n m A M c d) (hc : c < n) (hk : k < n) (hck : c < k) : GI n m A (swL M k c []) c (-d) := by
 have hl := g.len
 have hat : ∀ i, (swL M k c []).getD i [] = if i = k then M.getD c [] else if i = c then M.getD k [] else M.getD i [] := fun i => swL_at xq xq
 refine ⟨by rw [swL_len]; exact hl, fun i hi => ?_, fun v h => ?_, fun j hj i hi => ?_, fun hm => ?_⟩
 ·rw [hat]; split
  ·exact g.row c hc
  ·split
   ·exact g.row k hk
   ·exact g.row i hi
 ·refine g.ker v fun i hi => ?_
  by_cases e1 : i = k
  ·subst e1
   rw [← h c hc]
   exact dotV_congr fun j hj => by unfold ent; rw [hat c, if_neg xq, if_pos rfl]
  ·by_cases e2 : i = c
   ·subst e2
    rw [← h k hk]
    exact dotV_congr fun j hj => by unfold ent; rw [hat k, if_pos rfl]
   ·rw [← h i hi]
    exact dotV_congr fun j hj => by unfold ent; rw [hat i, if_neg e1, if_neg e2]
 ·unfold ent
  rw [hat]
  split
  ·have := g.unit j hj c hc; unfold ent at this; rw [this, if_neg xq, if_neg xq]
  ·split
   ·have := g.unit j hj k hk; unfold ent at this; rw [this, if_neg xq, if_neg xq]
   ·exact g.unit j hj i hi
 ·rw [ent_swap xq xq, det_swap hk hc xq, g.dt hm]; grind
theorem GI.scale (g : GI n m A M c d) (hc : c < n) (hm : c < m) (hp : ent M c c = p) (h0 : p ≠ 0) : GE n m A (M.set c (ovR (M.getD c []) p)) c (d * p) 0 := by
 have hl := g.len
 have hat : ∀ i j, j < m → ent (M.set c (ovR (M.getD c []) p)) i j = if i = c then ent M c j / p else ent M i j := fun i j hj => by
  rw [ent_set]
  by_cases e : i = c
  ·subst e; rw [if_pos ⟨rfl, by omega⟩, if_pos rfl, ovR_at (by rw [g.row i hc]; exact hj)]; rfl
  ·rw [if_neg (fun h => e h.1.symm), if_neg e]
 refine ⟨⟨by rw [List.length_set]; exact hl, fun i hi => ?_, fun v h => ?_, fun j hj i hi => ?_, fun hm => ?_⟩, ?_, fun k hk => absurd hk (Nat.not_lt_zero k)⟩
 ·rw [getD_setL (y := [])]; split
  ·rw [ovR_len]; exact g.row c hc
  ·exact g.row i hi
 ·refine g.ker v fun i hi => ?_
  by_cases e : i = c
  ·subst e
   have h1 := h i hc
   have h2 : dotV (M.set i (ovR (M.getD i []) p)) i v m = (1 / p) * dotV M i v m := by
    unfold dotV; rw [← su_mul]
    refine su_congr fun j hj => ?_
    rw [hat i j hj, if_pos rfl]; rw [Rat.div_def, Rat.div_def]; grind
   rw [h2] at h1
   rcases Rat.mul_eq_zero.1 h1 with h3 | h3
   ·exfalso
    have : (1 / p) * p = 1 := by rw [Rat.div_def, Rat.one_mul, Rat.inv_mul_cancel _ h0]
    rw [h3, Rat.zero_mul] at this
    exact absurd this xw
   ·exact h3
  ·rw [← h i hi]
   exact dotV_congr fun j hj => by rw [hat i j hj, if_neg e]
 ·rw [hat i j xq]
  split
  ·rename_i e
   subst e
   rw [g.unit j hj i hi, if_neg xq, Rat.div_def, Rat.zero_mul]
  ·exact g.unit j hj i hi
 ·have h1 := det_scale (M := ent M) (a := 1 / p) hc
  have h2 : det n (ent (M.set c (ovR (M.getD c []) p))) = det n (up (ent M) c fun j => 1 / p * ent M c j) := det_congr fun r s hr hs => by
   rw [hat r s xq]; unfold up
   split
   ·rw [Rat.div_def, Rat.div_def]; grind
   ·rfl
  rw [h2, h1, g.dt hm]
  have : p * (1 / p) = 1 := by rw [Rat.div_def, Rat.one_mul, Rat.mul_inv_cancel _ h0]
  grind
 ·rw [hat c c hm, if_pos rfl, hp, Rat.div_def, Rat.mul_inv_cancel _ h0]
theorem GE.skip (g : GE n m A M c d i) (h : i = c ∨ ent M i c = 0) : GE n m A M c d (i + 1) :=
 ⟨g.toGI, g.piv, fun k hk hn hc => by
  rcases Nat.lt_or_ge k i with h1 | h1
  ·exact g.done k h1 hn hc
  ·have e : k = i := by omega
   subst e
   rcases h with h2 | h2
   ·exact absurd h2 hc
   ·exact h2⟩
theorem GE.step (g : GE n m A M c d i) (hc : c < n) (hm : c < m) (hi : i < n) (hic : i ≠ c) (hq : ent M i c = q) : GE n m A (M.set i (rowA (M.getD i []) (M.getD c []) (-q))) c d (i + 1) := by
 have hl := g.len
 have hat : ∀ k j, j < m → ent (M.set i (rowA (M.getD i []) (M.getD c []) (-q))) k j = if k = i then ent M i j + (-q) * ent M c j else ent M k j := fun k j hj => by
  rw [ent_set]
  by_cases e : k = i
  ·subst e; rw [if_pos ⟨rfl, by omega⟩, if_pos rfl, rowA_at (by rw [g.row k hi]; exact hj)]; rfl
  ·rw [if_neg (fun h => e h.1.symm), if_neg e]
 refine ⟨⟨by rw [List.length_set]; exact hl, fun k hk => ?_, fun v h => ?_, fun j hj k hk => ?_, fun hm => ?_⟩, ?_, fun k hk hn hkc => ?_⟩
 ·rw [getD_setL (y := [])]; split
  ·rw [rowA_len]; exact g.row i hi
  ·exact g.row k hk
 ·refine g.ker v fun k hk => ?_
  have hcc : dotV M c v m = 0 := by
   rw [← h c hc]
   exact dotV_congr fun j hj => by rw [hat c j hj, if_neg (Ne.symm hic)]
  by_cases e : k = i
  ·subst e
   have h1 := h k hk
   have h2 : dotV (M.set k (rowA (M.getD k []) (M.getD c []) (-q))) k v m = dotV M k v m + (-q) * dotV M c v m := by
    unfold dotV; rw [← su_mul, ← su_add]
    refine su_congr fun j hj => ?_
    rw [hat k j hj, if_pos rfl]; grind
   rw [h2, hcc] at h1
   grind
  ·rw [← h k hk]
   exact dotV_congr fun j hj => by rw [hat k j hj, if_neg e]
 ·rw [hat k j xq]
  split
  ·rename_i e
   subst e
   rw [g.unit j hj k hk, g.unit j hj c hc, if_neg (show ¬ c = j by omega)]; grind
  ·exact g.unit j hj k hk
 ·rw [g.dt hm]
  congr 1
  rw [← det_shear (M := ent M) (a := -q) hi hc hic]
  exact det_congr fun r s hr hs => by
   rw [hat r s xq]; unfold up; split <;> rfl
 ·rw [hat c c hm, if_neg (Ne.symm hic)]; exact g.piv
 ·rw [hat k c hm]
  split
  ·rw [hq, g.piv]; grind
  ·rename_i e
   exact g.done k xq hn hkc
theorem GE.next (g : GE n m A M c d n) (hc : c < n) : GI n m A M (c + 1) d :=
 ⟨g.len, g.row, g.ker, fun j hj i hi => by
  rcases Nat.lt_or_ge j c with h1 | h1
  ·exact g.unit j h1 i hi
  ·have e : j = c := by omega
   subst e
   by_cases e2 : i = j
   ·subst e2; rw [if_pos rfl]; exact g.piv
   ·rw [if_neg e2]; exact g.done i hi hi e2, g.dt⟩
theorem su_at : ∀ {n : Nat} {f : Nat → Rat}, k < n → (∀ j, j < n → j ≠ k → f j = 0) → su f n = f k := by
 intro n
 induction n with
 | zero => intro f h; omega
 | succ n ih =>
  intro f hk h
  show su f n + f n = _
  by_cases e : k = n
  ·subst e
   rw [su_0 fun j hj => h j xq xq]; grind
  ·rw [ih xq (fun j hj hjk => h j xq hjk), h n xq (Ne.symm e)]; grind
theorem su_cut {f : Nat → Rat} (h : n ≤ m) (h0 : ∀ j, n ≤ j → f j = 0) : su f m = su f n := by
 obtain ⟨k, rfl⟩ : ∃ k, m = n + k := ⟨m - n, by omega⟩
 rw [su_split, su_0 fun j _ => h0 (n + j) xq]; grind
theorem GI.pivot (g : GI n m A M c d) (hc : c < n) (hnm : n ≤ m) (hI : Inj n A) (h : ∀ i, c ≤ i → i < n → ent M i c = 0) : False := by
 obtain ⟨v, hv⟩ : ∃ v : Nat → Rat, ∀ j, v j = if j = c then 1 else if j < c then -(ent M j c) else 0 := ⟨_, fun j => rfl⟩
 have hz : ∀ j, n ≤ j → v j = 0 := fun j hj => by rw [hv, if_neg xq, if_neg xq]
 have hk : ∀ X i, dotV X i v m = dotV X i v n := fun X i => su_cut hnm fun j hj => by rw [hz j hj]; grind
 have key : Ker n m M v := fun i hi => by
  rw [hk M i]
  unfold dotV
  rcases Nat.lt_or_ge i c with h2 | h2
  ·have e : ∀ j, j < n → ent M i j * v j = (if j = c then ent M i c else 0) + (if j = i then -(ent M i c) else 0) := fun j hj => by
    rw [hv]
    by_cases e1 : j = c
    ·subst e1; rw [if_pos rfl, if_pos rfl, if_neg xq]; grind
    ·rw [if_neg e1, if_neg e1]
     by_cases e2 : j < c
     ·rw [if_pos e2, g.unit j e2 i hi]
      by_cases e3 : i = j
      ·subst e3; rw [if_pos rfl, if_pos rfl]; grind
      ·rw [if_neg e3, if_neg (Ne.symm e3)]; grind
     ·rw [if_neg e2, if_neg xq]; grind
   rw [su_congr e, su_add, su_at (k := c) hc (fun j _ hj => if_neg hj), su_at (k := i) hi (fun j _ hj => if_neg hj), if_pos rfl, if_pos rfl]; grind
  ·refine su_0 fun j hj => ?_
   rw [hv]
   by_cases e1 : j = c
   ·subst e1; rw [h i h2 hi]; grind
   ·rw [if_neg e1]
    by_cases e2 : j < c
    ·rw [if_pos e2, g.unit j e2 i hi, if_neg xq]; grind
    ·rw [if_neg e2]; grind
 have h1 := hI v (fun i hi => by rw [← hk A i]; exact g.ker v key i hi) c hc
 rw [hv, if_pos rfl] at h1; exact absurd h1 xw
theorem GI.full (g : GI n n A M n d) : det n (ent A) = d := by
 rw [g.dt (Nat.le_refl n)]
 have : det n (ent M) = 1 := by
  rw [← det_id n]
  exact det_congr fun r s hr hs => g.unit s hs r hr
 rw [this]; grind
def kz : Nat → Nat → Nat
 | 0, K => K
 | c + 1, K => 6 * kz c K + 10
theorem kz_s {K : Nat} : kz (c + 1) K = 6 * kz c K + 10 := rfl
theorem kz_mono {K : Nat} (h : c ≤ n) : kz c K ≤ kz n K := by
 induction n with
 | zero => rw [show c = 0 by omega]; exact Nat.le_refl _
 | succ n ih =>
  rcases Nat.lt_or_ge n c with h1 | h1
  ·rw [show c = n + 1 by omega]; exact Nat.le_refl _
  ·have := ih h1; rw [kz_s]; omega
def kfS (c j k1 k0 : Nat) : Nat → Nat → Nat := fun a b => if a = c ∧ b < j then k1 else k0
def kfE (c i j k1 k0 : Nat) : Nat → Nat → Nat := fun a b => if a ≠ c ∧ (a < i ∨ (a = i ∧ b < j)) then k1 else k0
section
variable {x y : Nat}
theorem kfS_old : kfS c j (2 * k + 2) k c j ≤ k := by unfold kfS; rw [if_neg xq]; exact Nat.le_refl _
theorem kfS_el : 2 * k + 2 ≤ kfS c (j + 1) (2 * k + 2) k c j := by unfold kfS; rw [if_pos xq]; exact Nat.le_refl _
theorem kfS_mono : ∀ x y, (x ≠ c ∨ y ≠ j) → kfS c j (2 * k + 2) k x y ≤ kfS c (j + 1) (2 * k + 2) k x y := fun x y h => by unfold kfS; split <;> split <;> omega
theorem kfS_start : ∀ x y, k ≤ kfS c 0 (2 * k + 2) k x y := fun x y => by unfold kfS; split <;> omega
theorem kfS_E : ∀ x y, kfS c j (2 * k + 2) k x y ≤ kfE c 0 0 (6 * k + 10) (2 * k + 2) x y := fun x y => by unfold kfS kfE; split <;> split <;> omega
theorem kfE_c : kfE c i j (6 * k + 10) (2 * k + 2) c y ≤ 2 * k + 2 := by unfold kfE; rw [if_neg xq]; exact Nat.le_refl _
theorem kfE_i (h : j ≤ y) : kfE c i j (6 * k + 10) (2 * k + 2) i y ≤ 2 * k + 2 := by unfold kfE; rw [if_neg xq]; exact Nat.le_refl _
theorem kfE_el (h : i ≠ c) : 6 * k + 10 ≤ kfE c i (j + 1) (6 * k + 10) (2 * k + 2) i j := by unfold kfE; rw [if_pos xq]; exact Nat.le_refl _
theorem kfE_mono : ∀ x y, (x ≠ i ∨ y ≠ j) → kfE c i j (6 * k + 10) (2 * k + 2) x y ≤ kfE c i (j + 1) (6 * k + 10) (2 * k + 2) x y := fun x y h => by unfold kfE; split <;> split <;> omega
theorem kfE_next : ∀ x y, kfE c i j (6 * k + 10) (2 * k + 2) x y ≤ kfE c (i + 1) 0 (6 * k + 10) (2 * k + 2) x y := fun x y => by unfold kfE; split <;> split <;> omega
theorem kfE_top : kfE c i j (6 * k + 10) (2 * k + 2) x y ≤ 6 * k + 10 := by unfold kfE; split <;> omega
end
theorem swL_t (hk : k < M.length) (hc : c < M.length) (h : c ≠ k) : (swL M k c []).getD c [] = M.getD k [] := by
 rw [swL_at hk hc, if_neg h, if_pos rfl]
theorem inj_id : Inj n (idR n) := fun v h j hj => by
 have h1 := h j hj
 unfold dotV at h1
 rw [su_at (k := j) hj (fun i hi hij => by unfold ent; rw [idR_at hj, idRow_at hi, if_neg (Ne.symm hij), Rat.zero_mul])] at h1
 unfold ent at h1
 rw [idR_at hj, idRow_at hj, if_pos rfl, Rat.one_mul] at h1
 exact h1
theorem inj_cmb {cf sh : Int} (hI : Inj n M) (hq : Sq n M) (ht : t < n) (hf : f < n) (hne : t = f ↔ sh = -2) : Inj n (cmb [(t : Int), (f : Int), cf, sh] M) := fun v h => by
 have hl := hq.1
 refine hI v fun i hi => ?_
 by_cases g1 : sh = -1
 ·rw [cmb_x g1] at h
  have hat : ∀ i, (swL M t f []).getD i [] = if i = t then M.getD f [] else if i = f then M.getD t [] else M.getD i [] := fun i => swL_at xq xq
  have htf : t ≠ f := fun e => by have := hne.1 e; omega
  by_cases e1 : i = t
  ·subst e1
   rw [← h f hf]
   exact dotV_congr fun j hj => by unfold ent; rw [hat f, if_neg (Ne.symm htf), if_pos rfl]
  ·by_cases e2 : i = f
   ·subst e2
    rw [← h t ht]
    exact dotV_congr fun j hj => by unfold ent; rw [hat t, if_pos rfl]
   ·rw [← h i hi]
    exact dotV_congr fun j hj => by unfold ent; rw [hat i, if_neg e1, if_neg e2]
 ·by_cases g2 : sh = -2
  ·rw [cmb_n g2] at h
   by_cases e : i = t
   ·subst e
    have h1 := h i hi
    have h2 : dotV (M.set i (negR (M.getD i []))) i v n = (-1) * dotV M i v n := by
     unfold dotV; rw [← su_mul]
     refine su_congr fun j hj => ?_
     rw [ent_set, if_pos ⟨rfl, by omega⟩, negR_at (by rw [hq.2 i hi]; exact hj)]; unfold ent; grind
    rw [h2] at h1; grind
   ·rw [← h i hi]
    exact dotV_congr fun j hj => by rw [ent_set, if_neg (fun h => e h.1.symm)]
  ·rw [cmb_s g1 g2] at h
   have htf : t ≠ f := fun e => g2 (hne.1 e)
   have hff : dotV M f v n = 0 := by
    rw [← h f hf]
    exact dotV_congr fun j hj => by rw [ent_set, if_neg (fun h => htf h.1)]
   by_cases e : i = t
   ·subst e
    have h1 := h i hi
    have h2 : dotV (M.set i (rowA (M.getD i []) (M.getD f []) (wq cf sh))) i v n = dotV M i v n + wq cf sh * dotV M f v n := by
     unfold dotV; rw [← su_mul, ← su_add]
     refine su_congr fun j hj => ?_
     rw [ent_set, if_pos ⟨rfl, by omega⟩, rowA_at (by rw [hq.2 i hi]; exact hj)]; unfold ent; grind
    rw [h2, hff] at h1; grind
   ·rw [← h i hi]
    exact dotV_congr fun j hj => by rw [ent_set, if_neg (fun h => e h.1.symm)]
theorem inj_linM {S : List (List Int)} (hV : ∀ i, i < S.length → shOK (n : Int) (S.getD i [])) (h4 : Rows 4 S) : ∀ i, i ≤ S.length → Inj n (linM n (S.take i)) := by
 intro i
 induction i with
 | zero => intro _; rw [List.take_zero]; exact inj_id
 | succ i ih =>
  intro hi
  obtain ⟨t, f, cf, sh, e, k1, k2, k3, k4, k5, k6, k7, _⟩ := shOK_four (hV i xq) (h4.get xq)
  rw [linM_snoc i xq, e]
  exact inj_cmb (ih xq) (linM_ok hV h4 i xq).1 k1 k2 k7
end
end Nt
end Go.Proofs.YtbolmkfphieogaaGreat
