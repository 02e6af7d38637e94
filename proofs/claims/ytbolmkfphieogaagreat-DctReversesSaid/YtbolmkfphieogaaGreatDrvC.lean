/- Parts of the proof: contracts of functions, each walked once, and plain laws. -/
import Derived.Test.YtbolmkfphieogaaGreatDrvB
import Derived.RangeFuncFrom
import Derived.RangeFuncLeaves
import Derived.RangeFuncCalls
import Derived.WalkKit
import Derived.OwnWalkIn
import Derived.TacticsInMore
import Derived.LoopNIn
import Derived.LoopIn
import Derived.RangeFuncNested
namespace Go.Proofs.YtbolmkfphieogaaGreat
open Go.RowKit
set_option linter.unusedVariables false
theorem k_natural {u w : World} {x : Sl} (d : Dat u w) : Calls Tryz.prog 195 #[x.v] w (Post u w fun v _ => v = .agg #[.bool false, x.v]) := by
 refine zzl (args := [.slice x.a x.n x.c]) Tryz.func195 rfl Tryz.ntmps195 (rs := [.cell 2 24]) Tryz.results195 (le_b rfl) (le_b rfl) d ?_
 refine sq9 (zzj 2 ⟨24, [.bool false, .slice none 0 0]⟩ (zzb (sq9 (zza 3 (.v x.v) (zza 4 (.v (.agg #[.bool false, x.v])) (zzi ⟨24, [.bool false, x.v]⟩ ty24 ?_))))))
 refine zzb (zzn (ret0 [.agg #[.bool false, .slice x.a x.n x.c]] ⟨zzq ty24 zze, trivial⟩ fun u11 e12 => ?_))
 exact rfl
theorem k_whole {u w : World} {i : IL} (d : Dat u w) : Calls Tryz.prog 193 #[i.v] w (Post u w fun v u' => ∃ y : Sl, v = .agg #[.bool i.s, i.m.v, y.v] ∧ NatN u' y 1 1) := by
 refine zzl (args := [i.v]) Tryz.func193 rfl Tryz.ntmps193 (rs := [.cell 2 26]) Tryz.results193 (le_b rfl) (le_b rfl) d ?_
 refine sq9 (zzj 1 ⟨24, i.cs⟩ (zzj 2 ⟨26, [.bool false, .slice none 0 0, .slice none 0 0]⟩ (zzb (sq9 (zzh 3 (.v (i.v)) ty24 zze (zxt 4 ⟨104, [.int .u32 1]⟩ 1 (fun b11 u12 e13 h14 => ?_)))))))
 refine zza 5 (.v (.agg #[.bool i.s, i.m.v, .slice (some ⟨b11, 0, none⟩) 1 1])) (zzi ⟨26, i.cs ++ [.slice (some ⟨b11, 0, none⟩) 1 1]⟩ ty26 ?_)
 refine zzb (zzn (ret0 [.agg #[.bool i.s, .slice i.m.a i.m.n i.m.c, .slice (some ⟨b11, 0, none⟩) 1 1]] ⟨zzq ty26 zze, trivial⟩ fun u15 e16 => ?_))
 exact ⟨_, rfl, ((one_data h14).ext e16)⟩
theorem k_quotient {u w : World} {i j : IL} (d : Dat u w) : Calls Tryz.prog 196 #[i.v, j.v] w (Post u w fun v _ => v = .agg #[.bool (!(i.s == j.s)), i.m.v, j.m.v]) := by
 refine zzl (args := [i.v, j.v]) Tryz.func196 rfl Tryz.ntmps196 (rs := [.cell 4 147]) Tryz.results196 (le_b rfl) (le_b rfl) d ?_
 refine sq9 (zzj 2 ⟨24, i.cs⟩ (zzj 3 ⟨24, j.cs⟩ (zzj 4 ⟨147, [.bool false, .slice none 0 0, .slice none 0 0]⟩ (zzb (sq9 (zza 5 (.adr 2 0) (zzh 6 (zB i.s) ty4 zzk (zza 7 (.adr 3 0) (zzh 8 (zB j.s) ty4 zzk (zza 9 (zB (!(i.s == j.s))) (zza 10 (.adr 2 1) ?_)))))))))))
 refine zzh 11 (.v i.m.v) ty22 zzk (zza 12 (.v (.agg #[.bool (!(i.s == j.s)), i.m.v])) (zza 13 (.adr 3 1) (zzh 14 (.v j.m.v) ty22 zzk (zza 15 (.v (.agg #[.bool (!(i.s == j.s)), i.m.v, j.m.v])) (zzi ⟨147, [.bool (!(i.s == j.s)), i.m.v, j.m.v]⟩ ty147 ?_)))))
 refine zzb (zzn (ret0 [.agg #[.bool (!(i.s == j.s)), .slice i.m.a i.m.n i.m.c, .slice j.m.a j.m.n j.m.c]] ⟨zzq ty147 zze, trivial⟩ fun u11 e12 => ?_))
 exact rfl
theorem k_flip {u w : World} {r : RL} (d : Dat u w) : Calls Tryz.prog 226 #[r.v] w (Post u w fun v _ => v = .agg #[.bool (!r.s), r.m.v, r.d.v]) := by
 refine zzl (args := [r.v]) Tryz.func226 rfl Tryz.ntmps226 (rs := [.cell 2 26]) Tryz.results226 (le_b rfl) (le_b rfl) d ?_
 refine sq9 (zzj 1 ⟨26, r.cs⟩ (zzj 2 ⟨26, [.bool false, .slice none 0 0, .slice none 0 0]⟩ (zzb (sq9 (zza 3 (.adr 1 0) (zza 4 (.adr 1 0) (zzh 5 (zB r.s) ty4 zzk (zza 6 (zB (!r.s)) (zza 7 (.adr 1 0) (zza 8 (.adr 1 1) (zzh 9 (.v r.m.v) ty22 zzk ?_)))))))))))
 refine zza 10 (.v (.agg #[.bool (!r.s), r.m.v])) (zza 11 (.adr 1 2) (zzh 12 (.v r.d.v) ty22 zzk (zza 13 (.v (.agg #[.bool (!r.s), r.m.v, r.d.v])) (zzi ⟨26, [.bool (!r.s), r.m.v, r.d.v]⟩ ty26 ?_))))
 refine zzb (zzn (ret0 [.agg #[.bool (!r.s), .slice r.m.a r.m.n r.m.c, .slice r.d.a r.d.n r.d.c]] ⟨zzq ty26 zze, trivial⟩ fun u11 e12 => ?_))
 exact rfl
set_option maxHeartbeats 1000000 in
theorem k_read {u w : World} {r : RL} {q : Rat} {K : Nat} (d : Dat u w) (h : RatV u r q K) : Calls Tryz.prog 147 #[r.v] w (Post u w fun v u' => ∃ (r' : RL) (wh : Bool), v = .agg #[.bool r'.s, r'.m.v, r'.d.v, .bool wh] ∧ NumV u' r' wh q K) := by
 obtain ⟨⟨z, D, hi, hd, hq⟩, hK⟩ := h
 change IntV u ⟨r.s, r.m⟩ z K at hi
 change NatV u r.d D K at hd
 by_cases hn : r.d.n = 1
 ·obtain ⟨b, o, ha, hc⟩ := nat_digit hd hn
  by_cases hD : D = 1
  ·refine zzl (args := [r.v]) Tryz.func147 rfl Tryz.ntmps147 (rs := [.cell 2 149]) Tryz.results147 (le_b rfl) (le_b rfl) d ?_
   refine sq9 (zzj 1 ⟨26, r.cs⟩ (zzj 2 ⟨149, [.bool false, .slice none 0 0, .slice none 0 0, .bool false]⟩ (zzb (zzd (sq9 (zza 3 (.adr 1 2) (zzh 4 (.v r.d.v) ty22 zzk (zza 5 (zI r.d.n) (zyp 6 (x := zB ((r.d.n : Int) == 1)) (zB true) (by rw [show ((r.d.n : Int) == 1) = true from (by simp [hn])]) (zza 7 (zB true) (zza 8 (.adr 1 2) ?_ (hw := w1 4 true 7))))))))))))
   refine zzh 9 (.v r.d.v) ty22 zzk ?_ (hw := w1 4 true 7)
   refine zzz 10 o (i := 0) (n := r.d.n) (by simp) ha xq (by rw [hn]; decide) sl22 ?_ (hw := w1 4 true 7)
   refine zyk 11 (.int .u32 D) ((Ext.refl _).cell hc) ty104 ?_ (hw := w1 4 true 7)
   refine zyp 12 (x := zB ((D : Int) == 1)) (zB true) (by rw [show ((D : Int) == 1) = true from (by simp [hD])]) ?_ (hw := w1 4 true 7)
   refine zza 13 (zB true) (zzb (zyq xv (sq9 (zza 14 (.adr 1 0) (zzh 15 (.v (.agg #[.bool r.s, r.m.v])) ty24 zze (zza 16 (.adr 1 2) (zzh 17 (.v r.d.v) ty22 zzk (zza 18 (.v (r.v)) (zza 19 (.v (.agg #[.bool r.s, r.m.v, r.d.v, .bool true])) (zzi ⟨149, r.cs ++ [.bool true]⟩ ty149 ?_))))))))))
   refine zzb (zzn (zzv (ret0 [.agg #[.bool r.s, .slice r.m.a r.m.n r.m.c, .slice r.d.a r.d.n r.d.c, .bool true]] ⟨zzq ty149 zze, trivial⟩ fun u11 e12 => ?_)))
   exact ⟨r, true, rfl, z, D, hi.ext e12, hd.ext e12, by omega, hq, fun _ => hD, hK⟩
  ·refine zzl (args := [r.v]) Tryz.func147 rfl Tryz.ntmps147 (rs := [.cell 2 149]) Tryz.results147 (le_b rfl) (le_b rfl) d ?_
   refine sq9 (zzj 1 ⟨26, r.cs⟩ (zzj 2 ⟨149, [.bool false, .slice none 0 0, .slice none 0 0, .bool false]⟩ (zzb (zzd (sq9 (zza 3 (.adr 1 2) (zzh 4 (.v r.d.v) ty22 zzk (zza 5 (zI r.d.n) (zyp 6 (x := zB ((r.d.n : Int) == 1)) (zB true) (by rw [show ((r.d.n : Int) == 1) = true from (by simp [hn])]) (zza 7 (zB true) (zza 8 (.adr 1 2) ?_ (hw := w1 4 true 7))))))))))))
   refine zzh 9 (.v r.d.v) ty22 zzk ?_ (hw := w1 4 true 7)
   refine zzz 10 o (i := 0) (n := r.d.n) (by simp) ha xq (by rw [hn]; decide) sl22 ?_ (hw := w1 4 true 7)
   refine zyk 11 (.int .u32 D) ((Ext.refl _).cell hc) ty104 ?_ (hw := w1 4 true 7)
   refine zyp 12 (x := zB ((D : Int) == 1)) (zB false) (by rw [show ((D : Int) == 1) = false from (by simp; omega)]) ?_ (hw := w1 4 true 7)
   refine zza 13 (zB false) (zzb (zyr xv (zzr (zzo ?_))))
   refine zzd (sq9 (zza 20 (.adr 1 2) (zzh 21 (.v r.d.v) ty22 zzk (zzg 22 83 [r.d.v, .slice none 0 0] ?_))))
   intro w11 u11 e11 d11
   have k14 := k_natCompare d11 (hd.ext e11) (nat_nil _ 1)
   with_reducible refine zPm k14 ?_
   rintro _ u12 g13 rfl
   refine zza 23 (zB ((Nt.cmpS D 0) == 0)) (zzb (zzt (b := (Nt.cmpS D 0) == 0) xv (fun hb15 => ?_) (fun hb15 => ?_)))
   ·replace hb15 : ((Nt.cmpS D 0) == 0) = true := hb15
    refine sq9 (zza 24 (.v (.agg #[.bool false, .slice none 0 0])) (zxt 25 ⟨104, [.int .u32 1]⟩ 1 (fun b16 u17 e18 h19 => ?_)))
    refine zza 26 (.v (.agg #[.bool false, .slice none 0 0, .slice (some ⟨b16, 0, none⟩) 1 1])) (zza 27 (.v (.agg #[.bool false, .slice none 0 0, .slice (some ⟨b16, 0, none⟩) 1 1, .bool true])) (zzi ⟨149, [.bool false, .slice none 0 0, .slice (some ⟨b16, 0, none⟩) 1 1, .bool true]⟩ ty149 ?_))
    refine zzb (zzn (zzv (ret0 [.agg #[.bool false, .slice none 0 0, .slice (some ⟨b16, 0, none⟩) 1 1, .bool true]] ⟨zzq ty149 zze, trivial⟩ fun u20 e21 => ?_)))
    have hD0 : D = 0 := (Nt.cmp_nat0 hb15).1 rfl
    refine ⟨⟨false, ⟨none, 0, 0⟩, (⟨some ⟨b16, 0, none⟩, 1, 1⟩ : Sl)⟩, true, rfl, 0, 1, (⟨0, nat_nil _ K, rfl⟩ : IntV _ ⟨false, ⟨none, 0, 0⟩⟩ 0 K), ((one_data h19).ext e21).raw.more hK, by omega, ?_, fun _ => rfl, hK⟩
    rw [hq, hD0]; simp
   ·replace hb15 : ((Nt.cmpS D 0) == 0) = false := hb15
    refine zzr (zzo ?_)
    refine sq9 (zza 28 (.adr 1 0) (zzh 29 (.v (.agg #[.bool r.s, r.m.v])) ty24 zze (zza 30 (.adr 1 2) (zzh 31 (.v r.d.v) ty22 zzk (zza 32 (.v (r.v)) (zza 33 (.v (.agg #[.bool r.s, r.m.v, r.d.v, .bool false])) (zzi ⟨149, r.cs ++ [.bool false]⟩ ty149 ?_)))))))
    refine zzb (zzn (ret0 [.agg #[.bool r.s, .slice r.m.a r.m.n r.m.c, .slice r.d.a r.d.n r.d.c, .bool false]] ⟨zzq ty149 zze, trivial⟩ fun u22 e23 => ?_))
    have hD0 : 0 < D := (Nt.cmp_nat0 hb15).2 rfl
    exact ⟨r, false, rfl, z, D, hi.ext (e11.trans (g13.ext.trans e23)), hd.ext (e11.trans (g13.ext.trans e23)), hD0, hq, (fun k => by cases k), hK⟩
 ·refine zzl (args := [r.v]) Tryz.func147 rfl Tryz.ntmps147 (rs := [.cell 2 149]) Tryz.results147 (le_b rfl) (le_b rfl) d ?_
  refine sq9 (zzj 1 ⟨26, r.cs⟩ (zzj 2 ⟨149, [.bool false, .slice none 0 0, .slice none 0 0, .bool false]⟩ (zzb (zzd (sq9 (zza 3 (.adr 1 2) (zzh 4 (.v r.d.v) ty22 zzk (zza 5 (zI r.d.n) (zyp 6 (x := zB ((r.d.n : Int) == 1)) (zB false) (by rw [show ((r.d.n : Int) == 1) = false from (by simp; omega)]) (zza 7 (zB false) (zzm 8 (uw 4 true false 7) ?_)))))))))))
  refine zzm 9 (uw 4 true false 7) (zzm 10 (uw 4 true false 7) (zzm 11 (uw 4 true false 7) (zzm 12 (uw 4 true false 7) (zza 13 (zB false) (zzb (zyr xv (zzr (zzo ?_))))))))
  refine zzd (sq9 (zza 20 (.adr 1 2) (zzh 21 (.v r.d.v) ty22 zzk (zzg 22 83 [r.d.v, .slice none 0 0] ?_))))
  intro w11 u11 e11 d11
  have k14 := k_natCompare d11 (hd.ext e11) (nat_nil _ 1)
  with_reducible refine zPm k14 ?_
  rintro _ u12 g13 rfl
  refine zza 23 (zB ((Nt.cmpS D 0) == 0)) (zzb (zzt (b := (Nt.cmpS D 0) == 0) xv (fun hb15 => ?_) (fun hb15 => ?_)))
  ·replace hb15 : ((Nt.cmpS D 0) == 0) = true := hb15
   refine sq9 (zza 24 (.v (.agg #[.bool false, .slice none 0 0])) (zxt 25 ⟨104, [.int .u32 1]⟩ 1 (fun b16 u17 e18 h19 => ?_)))
   refine zza 26 (.v (.agg #[.bool false, .slice none 0 0, .slice (some ⟨b16, 0, none⟩) 1 1])) (zza 27 (.v (.agg #[.bool false, .slice none 0 0, .slice (some ⟨b16, 0, none⟩) 1 1, .bool true])) (zzi ⟨149, [.bool false, .slice none 0 0, .slice (some ⟨b16, 0, none⟩) 1 1, .bool true]⟩ ty149 ?_))
   refine zzb (zzn (zzv (ret0 [.agg #[.bool false, .slice none 0 0, .slice (some ⟨b16, 0, none⟩) 1 1, .bool true]] ⟨zzq ty149 zze, trivial⟩ fun u20 e21 => ?_)))
   have hD0 : D = 0 := (Nt.cmp_nat0 hb15).1 rfl
   refine ⟨⟨false, ⟨none, 0, 0⟩, (⟨some ⟨b16, 0, none⟩, 1, 1⟩ : Sl)⟩, true, rfl, 0, 1, (⟨0, nat_nil _ K, rfl⟩ : IntV _ ⟨false, ⟨none, 0, 0⟩⟩ 0 K), ((one_data h19).ext e21).raw.more hK, by omega, ?_, fun _ => rfl, hK⟩
   rw [hq, hD0]; simp
  ·replace hb15 : ((Nt.cmpS D 0) == 0) = false := hb15
   refine zzr (zzo ?_)
   refine sq9 (zza 28 (.adr 1 0) (zzh 29 (.v (.agg #[.bool r.s, r.m.v])) ty24 zze (zza 30 (.adr 1 2) (zzh 31 (.v r.d.v) ty22 zzk (zza 32 (.v (r.v)) (zza 33 (.v (.agg #[.bool r.s, r.m.v, r.d.v, .bool false])) (zzi ⟨149, r.cs ++ [.bool false]⟩ ty149 ?_)))))))
   refine zzb (zzn (ret0 [.agg #[.bool r.s, .slice r.m.a r.m.n r.m.c, .slice r.d.a r.d.n r.d.c, .bool false]] ⟨zzq ty149 zze, trivial⟩ fun u22 e23 => ?_))
   have hD0 : 0 < D := (Nt.cmp_nat0 hb15).2 rfl
   exact ⟨r, false, rfl, z, D, hi.ext (e11.trans (g13.ext.trans e23)), hd.ext (e11.trans (g13.ext.trans e23)), hD0, hq, (fun k => by cases k), hK⟩
theorem k_isOne {u w : World} {x : Sl} {N K : Nat} (d : Dat u w) (h : NatN u x N K) : Calls Tryz.prog 213 #[x.v] w (Post u w fun v _ => v = .bool (decide (N = 1))) := by
 by_cases hn : x.n = 1
 ·obtain ⟨b, o, ha, hc⟩ := nat_digit h.raw hn
  refine zzl (args := [.slice x.a x.n x.c]) Tryz.func213 rfl Tryz.ntmps213 (rs := [.tmp 2]) Tryz.results213 (le_b rfl) (le_b rfl) d ?_
  refine sq9 (zza 2 (zB false) (zzb (sq9 (zza 3 (.v x.v) (zza 4 (zI x.n) (zyp 5 (x := zB ((x.n : Int) == 1)) (zB true) (by rw [show ((x.n : Int) == 1) = true from (by simp [hn])]) (zza 6 (zB true) (zza 7 (.v x.v) ?_ (hw := w1 3 true 6)))))))))
  refine zzz 8 o (i := 0) (n := x.n) (by simp) ha xq (by rw [hn]; decide) sl22 ?_ (hw := w1 3 true 6)
  refine zyk 9 (.int .u32 N) ((Ext.refl _).cell hc) ty104 ?_ (hw := w1 3 true 6)
  refine zza 10 (zB ((N : Int) == 1)) ?_ (hw := w1 3 true 6)
  refine zza 11 (zB ((N : Int) == 1)) (zza 2 (zB ((N : Int) == 1)) (zzb (zzn (ret0 [.bool ((N : Int) == 1)] ⟨zzp, trivial⟩ fun u11 e12 => ?_))))
  show Value.bool _ = Value.bool _
  congr 1
  rw [Bool.eq_iff_iff]
  simp <;> omega
 ·have hN : N ≠ 1 := fun e => hn (by rw [h.1, e, Nt.dl_one])
  refine zzl (args := [.slice x.a x.n x.c]) Tryz.func213 rfl Tryz.ntmps213 (rs := [.tmp 2]) Tryz.results213 (le_b rfl) (le_b rfl) d ?_
  refine sq9 (zza 2 (zB false) (zzb (sq9 (zza 3 (.v x.v) (zza 4 (zI x.n) (zyp 5 (x := zB ((x.n : Int) == 1)) (zB false) (by rw [show ((x.n : Int) == 1) = false from (by simp; omega)]) (zza 6 (zB false) (zzm 7 (uw 3 true false 6) (zzm 8 (uw 3 true false 6) (zzm 9 (uw 3 true false 6) (zzm 10 (uw 3 true false 6) ?_)))))))))))
  refine zza 11 (zB false) (zza 2 (zB false) (zzb (zzn (ret0 [.bool false] ⟨zzp, trivial⟩ fun u11 e12 => ?_))))
  show _ = _
  simp [tupV]
  exact hN
set_option maxHeartbeats 1000000 in
theorem k_lowest {u w : World} {i : IL} {z : Int} {y : Sl} {D K L : Nat} (d : Dat u w) (h1 : IntV u i z K) (hD : NatV u y D L) (hp : 0 < D) (hK : K ≤ 500000000) (hL : L ≤ 500000000) : Calls Tryz.prog 148 #[.agg #[.bool i.s, i.m.v, y.v]] w (Post u w fun v u' => ∃ r : RL, v = r.v ∧ RatN u' r (mkRat z D) (max K L)) := by
 obtain ⟨N, hN, hz⟩ := h1
 have hL1 : 1 ≤ L := by have h2 := hD.size; have h3 := Nt.dl_mono (x := D) (y := 1) xq; rw [Nt.dl_one] at h3; omega
 refine zzl (args := [.agg #[.bool i.s, .slice i.m.a i.m.n i.m.c, .slice y.a y.n y.c]]) Tryz.func148 rfl Tryz.ntmps148 (rs := [.cell 2 26]) Tryz.results148 (le_b rfl) (le_b rfl) d ?_
 refine sq9 (zzj 1 ⟨147, i.cs ++ [y.v]⟩ (zzj 2 ⟨26, [.bool false, .slice none 0 0, .slice none 0 0]⟩ (zzb (sq9 (zza 14 (.adr 1 0) (zza 15 (.adr 1 1) (zzh 16 (.v i.m.v) ty22 zzk (zza 17 (.adr 1 2) (zzh 18 (.v y.v) ty22 zzk (zzg 19 80 [i.m.v, y.v] ?_))))))))))
 intro w11 u11 e11 d11
 have k18 := k_natDivMod d11 (hN.ext e11) (hD.ext e11) hp xq xq
 with_reducible refine zPm k18 ?_
 rintro _ u16 g17 ⟨x12, x13, rfl, h14, h15⟩
 refine zza 13 (.v (.tuple #[x12.v, x13.v, .int .i64 0])) (zza 20 (.v x12.v) (zza 21 (.v x13.v) (zza 22 (zI 0) (zza 3 (.v x12.v) (zza 4 (.v x13.v) (zza 5 (zI 0) (zzb (zzd (sq9 (zza 23 (.v x13.v) (zza 24 (zI x13.n) ?_)))))))))))
 refine zza 25 (zB ((x13.n : Int) == 0)) (zzb (zzt (b := (x13.n : Int) == 0) xv (fun hb19 => ?_) (fun hb19 => ?_)))
 ·replace hb19 : ((x13.n : Int) == 0) = true := hb19
  have qhb19 : (x13.n : Int) = 0 := by simpa using hb19
  have hr : N % D = 0 := by have h7 := (h15).pos; simp at hb19; omega
  refine sq9 (zza 26 (.adr 1 0) (zza 27 (.adr 1 0) (zzh 28 (zB i.s) ty4 zzk (zza 29 (.v x12.v) (zza 30 (.v (.agg #[.bool i.s, x12.v])) (zzg 31 211 [.agg #[.bool i.s, x12.v]] ?_))))))
  intro w20 u20 e20 d20
  have k25 := k_intTrim d20 (IntV.same (s := i.s) (h14.ext e20).raw) xq
  with_reducible refine zPm k25 ?_
  rintro _ u23 g24 ⟨i21, rfl, h22⟩
  refine zzg 32 193 [i21.v] ?_
  intro w26 u26 e26 d26
  have k31 := k_whole (i := i21) d26
  with_reducible refine zPm k31 ?_
  rintro _ u29 g30 ⟨y27, rfl, h28⟩
  refine zzi ⟨26, i21.cs ++ [y27.v]⟩ ty26 ?_
  refine zzb (zzn (zzv (ret0 [.agg #[.bool i21.s, .slice i21.m.a i21.m.n i21.m.c, .slice y27.a y27.n y27.c]] ⟨zzq ty26 zze, trivial⟩ fun u32 e33 => ?_)))
  refine ⟨(⟨i21.s, i21.m, y27⟩ : RL), rfl, RatN.more (K := (max K 1)) ?_ xq⟩
  rw [hz, ← low1 hp hr]
  exact ((whole_rat (h22.ext (e26.trans g30.ext)) h28).ext e33)
 ·replace hb19 : ((x13.n : Int) == 0) = false := hb19
  have qhb19 : ¬ ((x13.n : Int) = 0) := by simpa using hb19
  have hr : N % D ≠ 0 := by have h7 := (h15).pos; simp at hb19; omega
  refine zzr (zzo ?_)
  refine sq9 (zza 33 (.adr 1 2) (zzh 34 (.v y.v) ty22 zzk (zza 35 (.v x13.v) (zzg 36 212 [y.v, x13.v] ?_))))
  intro w34 u34 e34 d34
  have k39 := k_natGcd d34 (hD.ext (e11.trans (g17.ext.trans e34))) (h15.ext e34).raw xq xq
  with_reducible refine zPm k39 ?_
  rintro _ u37 g38 ⟨x35, rfl, h36⟩
  refine zza 6 (.v x35.v) (zzb (zzd (sq9 (zza 37 (.v x35.v) (zzg 38 213 [x35.v] ?_)))))
  intro w40 u40 e40 d40
  have k43 := k_isOne d40 (h36.ext e40)
  with_reducible refine zPm k43 ?_
  rintro _ u41 g42 rfl
  refine zzb (zzt (b := decide ((Nat.gcd D (N % D)) = 1)) xv (fun hb44 => ?_) (fun hb44 => ?_))
  ·replace hb44 : (decide ((Nat.gcd D (N % D)) = 1)) = true := hb44
   have qhb44 := of_decide_eq_true hb44
   have hg : Nat.gcd D (N % D) = 1 := by simpa using hb44
   have hgp : 0 < Nat.gcd D (N % D) := Nat.gcd_pos_of_pos_left _ hp
   refine zzd (zzy [0, 1, 3, 0, 8, 31, 63, 127] [(0, []), (1, []), (3, []), (4, []), (2, []), (5, []), (6, []), (7, [])] xv xv (zza 39 (.adr 1 0) (zzh 40 (.v (i.v)) ty24 zze (zza 42 (.adr 1 2) (zzh 43 (.v y.v) ty22 zzk (zzg 41 211 [i.v] ?_))))))
   intro w45 u45 e45 d45
   have k50 := k_intTrim d45 (IntV.same (s := i.s) (hN.ext (e11.trans (g17.ext.trans (e34.trans (g38.ext.trans (e40.trans (g42.ext.trans e45)))))))) xq
   with_reducible refine zPm k50 ?_
   rintro _ u48 g49 ⟨i46, rfl, h47⟩
   refine zzg 44 214 [y.v] ?_
   intro w51 u51 e51 d51
   have k56 := k_natTrim d51 (hD.ext (e11.trans (g17.ext.trans (e34.trans (g38.ext.trans (e40.trans (g42.ext.trans (e45.trans (g49.ext.trans e51))))))))) xq
   with_reducible refine zPm k56 ?_
   rintro _ u54 g55 ⟨x52, rfl, h53⟩
   refine zza 45 (.v (.agg #[.bool i46.s, i46.m.v, x52.v])) (zzi ⟨26, i46.cs ++ [x52.v]⟩ ty26 ?_)
   refine zzc 70 [(2, .adr 2 0)] [(2, ⟨26, i46.cs ++ [x52.v]⟩)] (zzn (zzv (ret0 [.agg #[.bool i46.s, .slice i46.m.a i46.m.n i46.m.c, .slice x52.a x52.n x52.c]] ⟨zzq ty26 zze, trivial⟩ fun u57 e58 => ?_)))
   refine ⟨(⟨i46.s, i46.m, x52⟩ : RL), rfl, ?_⟩
   rw [hz]
   exact low2 hp hg (h47.ext (e51.trans (g55.ext.trans e58))) (h53.ext e58)
  ·replace hb44 : (decide ((Nat.gcd D (N % D)) = 1)) = false := hb44
   have qhb44 := of_decide_eq_false hb44
   have hg : ¬ Nat.gcd D (N % D) = 1 := by simpa using hb44
   have hgp : 0 < Nat.gcd D (N % D) := Nat.gcd_pos_of_pos_left _ hp
   refine zzr (zzo ?_)
   refine sq9 (zza 47 (.adr 1 0) (zza 48 (.adr 1 1) (zzh 49 (.v i.m.v) ty22 zzk (zza 50 (.v x35.v) (zzg 51 80 [i.m.v, x35.v] ?_)))))
   intro w59 u59 e59 d59
   have k66 := k_natDivMod d59 (hN.ext (e11.trans (g17.ext.trans (e34.trans (g38.ext.trans (e40.trans (g42.ext.trans e59))))))) (h36.ext (e40.trans (g42.ext.trans e59))).raw hgp xq xq
   with_reducible refine zPm k66 ?_
   rintro _ u64 g65 ⟨x60, x61, rfl, h62, h63⟩
   refine zza 46 (.v (.tuple #[x60.v, x61.v, .int .i64 0])) (zza 52 (.v x60.v) (zza 53 (.v x61.v) (zza 54 (zI 0) (zza 7 (.v x60.v) (zza 8 (.v x61.v) (zza 9 (zI 0) (zzc 70 [(1, .adr 1 0), (2, .adr 2 0), (6, .v x35.v), (7, .v x60.v)] [(1, ⟨147, i.cs ++ [y.v]⟩), (2, ⟨26, [.bool false, .slice none 0 0, .slice none 0 0]⟩)] (sq9 (zza 56 (.adr 1 2) (zzh 57 (.v y.v) ty22 zzk (zza 58 (.v x35.v) ?_)))))))))))
   refine zzg 59 80 [y.v, x35.v] ?_
   intro w67 u67 e67 d67
   have k74 := k_natDivMod d67 (hD.ext (e11.trans (g17.ext.trans (e34.trans (g38.ext.trans (e40.trans (g42.ext.trans (e59.trans (g65.ext.trans e67))))))))) (h36.ext (e40.trans (g42.ext.trans (e59.trans (g65.ext.trans e67))))).raw hgp xq xq
   with_reducible refine zPm k74 ?_
   rintro _ u72 g73 ⟨x68, x69, rfl, h70, h71⟩
   refine zza 55 (.v (.tuple #[x68.v, x69.v, .int .i64 0])) (zza 60 (.v x68.v) (zza 61 (.v x69.v) (zza 62 (zI 0) (zza 10 (.v x68.v) (zza 11 (.v x69.v) (zza 12 (zI 0) (zzb (sq9 (zza 63 (.adr 1 0) (zza 64 (.adr 1 0) (zzh 65 (zB i.s) ty4 zzk ?_)))))))))))
   refine zza 66 (.v x60.v) (zza 67 (.v (.agg #[.bool i.s, x60.v])) (zza 68 (.v x68.v) (zza 69 (.v (.agg #[.bool i.s, x60.v, x68.v])) (zzi ⟨26, [.bool i.s, x60.v, x68.v]⟩ ty26 ?_))))
   refine zzb (zzn (ret0 [.agg #[.bool i.s, .slice x60.a x60.n x60.c, .slice x68.a x68.n x68.c]] ⟨zzq ty26 zze, trivial⟩ fun u75 e76 => ?_))
   refine ⟨(⟨i.s, x60, x68⟩ : RL), rfl, RatN.more (K := max K L) ?_ xq⟩
   rw [hz]
   exact low3 hp hr (h62.ext (e67.trans (g73.ext.trans e76))) (h70.ext e76)
theorem k_ratTrim {u w : World} {r1 : RL} {x : Rat} {K : Nat} (d : Dat u w) (hr1 : RatV u r1 x K) (hK : K ≤ 200000000) : Calls Tryz.prog 78 #[r1.v] w (Post u w fun v u' => ∃ r : RL, v = r.v ∧ RatN u' r x K) := by
 refine zzl (args := [r1.v]) Tryz.func78 rfl Tryz.ntmps78 (rs := [.cell 2 26]) Tryz.results78 (le_b rfl) (le_b rfl) d ?_
 refine sq9 (zzj 1 ⟨26, r1.cs⟩ (zzj 2 ⟨26, [.bool false, .slice none 0 0, .slice none 0 0]⟩ (zzb (sq9 (zzh 3 (.v (r1.v)) ty26 zze (zzg 4 147 [r1.v] ?_))))))
 intro w11 u11 e11 d11
 have k15 := k_read d11 (hr1.ext e11)
 with_reducible refine zPm k15 ?_
 rintro _ u13 g14 ⟨r12, wh12, rfl, z12, D12, hi12, hd12, hp12, hq12, hw12, hk12⟩
 refine zza 5 (.v (r12.v)) (zzg 6 148 [r12.v] ?_)
 intro w16 u16 e16 d16
 have k21 := k_lowest d16 (hi12.ext e16) (hd12.ext e16) hp12 xq xq
 with_reducible refine zPm k21 ?_
 rintro _ u19 g20 ⟨r17, rfl, h18⟩
 refine zzi ⟨26, r17.cs⟩ ty26 ?_
 refine zzb (zzn (ret0 [r17.v] ⟨zzq ty26 zze, trivial⟩ fun u22 e23 => ?_))
 refine ⟨r17, rfl, RatN.more (K := (max K K)) ?_ xq⟩
 rw [hq12]; exact (h18.ext e23)
theorem k_ratOf {u w : World} {z : Int} (d : Dat u w) (h0 : -9223372036854775808 ≤ z) (h1 : z ≤ 9223372036854775807) : Calls Tryz.prog 118 #[.int .i64 z] w (Post u w fun v u' => ∃ r : RL, v = r.v ∧ RatN u' r (z : Rat) 2) := by
 refine zzl (args := [.int .i64 z]) Tryz.func118 rfl Tryz.ntmps118 (rs := [.cell 2 26]) Tryz.results118 (le_b rfl) (le_b rfl) d ?_
 refine sq9 (zzj 2 ⟨26, [.bool false, .slice none 0 0, .slice none 0 0]⟩ (zzb (sq9 (zza 3 (zI z) (zzg 4 160 [.int .i64 z] ?_)))))
 intro w11 u11 e11 d11
 have k16 := k_intOf d11 (z := z) xq xq
 with_reducible refine zPm k16 ?_
 rintro _ u14 g15 ⟨i12, rfl, h13⟩
 refine zzg 5 193 [i12.v] ?_
 intro w17 u17 e17 d17
 have k22 := k_whole (i := i12) d17
 with_reducible refine zPm k22 ?_
 rintro _ u20 g21 ⟨y18, rfl, h19⟩
 refine zzi ⟨26, i12.cs ++ [y18.v]⟩ ty26 ?_
 refine zzb (zzn (ret0 [.agg #[.bool i12.s, .slice i12.m.a i12.m.n i12.m.c, .slice y18.a y18.n y18.c]] ⟨zzq ty26 zze, trivial⟩ fun u23 e24 => ?_))
 refine ⟨(⟨i12.s, i12.m, y18⟩ : RL), rfl, RatN.more (K := (max 2 1)) ?_ xq⟩
 exact ((whole_rat (h13.ext (e17.trans g21.ext)) h19).ext e24)
theorem k_ratSign {u w : World} {r1 : RL} {x : Rat} {K : Nat} (d : Dat u w) (hr1 : RatV u r1 x K)  : Calls Tryz.prog 76 #[r1.v] w (Post u w fun v u' => v = .int .i64 (Nt.sgQ x)) := by
 refine zzl (args := [r1.v]) Tryz.func76 rfl Tryz.ntmps76 (rs := [.tmp 2]) Tryz.results76 (le_b rfl) (le_b rfl) d ?_
 refine sq9 (zzj 1 ⟨26, r1.cs⟩ (zza 2 (zI 0) (zzb (sq9 (zzh 3 (.v (r1.v)) ty26 zze (zzg 4 147 [r1.v] ?_))))))
 intro w11 u11 e11 d11
 have k15 := k_read d11 (hr1.ext e11)
 with_reducible refine zPm k15 ?_
 rintro _ u13 g14 ⟨r12, wh12, rfl, z12, D12, hi12, hd12, hp12, hq12, hw12, hk12⟩
 refine zza 5 (.v (r12.v)) (zza 6 (.v (.agg #[.bool r12.s, r12.m.v])) (zzg 7 146 [.agg #[.bool r12.s, r12.m.v]] ?_))
 intro w16 u16 e16 d16
 have k19 := k_intSign d16 (hi12.ext e16)
 with_reducible refine zPm k19 ?_
 rintro _ u17 g18 rfl
 refine zza 2 (zI (Nt.cmpS z12 0)) (zzb (zzn (ret0 [.int .i64 (Nt.cmpS z12 0)] ⟨zzp, trivial⟩ fun u20 e21 => ?_)))
 show _ = _
 rw [hq12, ← Nt.sg_mk hp12]
 rfl
theorem k_ratCompare {u w : World} {r1 : RL} {x : Rat} {K : Nat} {r2 : RL} {y : Rat} {L : Nat} (d : Dat u w) (hr1 : RatV u r1 x K) (hr2 : RatV u r2 y L) (hK : K ≤ 200000000) (hL : L ≤ 200000000) : Calls Tryz.prog 197 #[r1.v, r2.v] w (Post u w fun v u' => v = .int .i64 (Nt.cmpQ x y)) := by
 refine zzl (args := [r1.v, r2.v]) Tryz.func197 rfl Tryz.ntmps197 (rs := [.tmp 4]) Tryz.results197 (le_b rfl) (le_b rfl) d ?_
 refine sq9 (zzj 2 ⟨26, r1.cs⟩ (zzj 3 ⟨26, r2.cs⟩ (zza 4 (zI 0) (zzb (zzd (zzy [0, 1, 0, 7, 0, 0, 63, 127] [(0, []), (2, []), (4, []), (5, []), (1, []), (3, []), (6, []), (7, [])] xv xv (zzh 7 (.v (r1.v)) ty26 zze (zzh 9 (.v (r2.v)) ty26 zze (zzj 5 ⟨149, [.bool false, .slice none 0 0, .slice none 0 0, .bool false]⟩ (zzj 6 ⟨149, [.bool false, .slice none 0 0, .slice none 0 0, .bool false]⟩ (zzg 8 147 [r1.v] ?_)))))))))))
 intro w11 u11 e11 d11
 have k15 := k_read d11 (hr1.ext e11)
 with_reducible refine zPm k15 ?_
 rintro _ u13 g14 ⟨r12, wh12, rfl, z12, D12, hi12, hd12, hp12, hq12, hw12, hk12⟩
 refine zzg 10 147 [r2.v] ?_
 intro w16 u16 e16 d16
 have k20 := k_read d16 (hr2.ext (e11.trans (g14.ext.trans e16)))
 with_reducible refine zPm k20 ?_
 rintro _ u18 g19 ⟨r17, wh17, rfl, z17, D17, hi17, hd17, hp17, hq17, hw17, hk17⟩
 refine zzi ⟨149, r12.cs ++ [.bool wh12]⟩ ty149 ?_
 refine zzi ⟨149, r17.cs ++ [.bool wh17]⟩ ty149 ?_
 refine zzb (zzd (sq9 (zza 11 (.adr 5 3) (zzh 12 (zB wh12) ty4 zzk ?_))))
 rcases Bool.eq_false_or_eq_true wh12 with hs21 | hs21
 ·refine zyp 13 (x := zB wh12) (zB true) (by rw [hs21]) (zza 14 (.adr 6 3) ?_ (hw := w1 2 true 13))
  refine zzh 15 (zB wh17) ty4 zzk ?_ (hw := w1 2 true 13)
  refine zza 16 (zB wh17) (zzb (zzt (b := wh17) xv (fun hb22 => ?_) (fun hb22 => ?_)))
  ·replace hb22 : wh17 = true := hb22
   refine sq9 (zza 17 (.adr 5 0) (zza 18 (.adr 5 0) (zzh 19 (.v (.agg #[.bool r12.s, r12.m.v])) ty24 zze (zza 20 (.adr 6 0) (zza 21 (.adr 6 0) (zzh 22 (.v (.agg #[.bool r17.s, r17.m.v])) ty24 zze (zzg 23 181 [.agg #[.bool r12.s, r12.m.v], .agg #[.bool r17.s, r17.m.v]] ?_)))))))
   intro w23 u23 e23 d23
   have k26 := k_intCompare d23 (hi12.ext (e16.trans (g19.ext.trans e23))) (hi17.ext e23)
   with_reducible refine zPm k26 ?_
   rintro _ u24 g25 rfl
   refine zza 4 (zI (Nt.cmpS z12 z17)) (zzb (zzn (zzv (ret0 [.int .i64 (Nt.cmpS z12 z17)] ⟨zzp, trivial⟩ fun u27 e28 => ?_))))
   show _ = _
   rw [hq12, hq17, ← Nt.cmp_mk hp12 hp17]
   rw [hw12 (by assumption), hw17 (by assumption)]
   simp [tupV]
  ·replace hb22 : wh17 = false := hb22
   refine zzr (zzo ?_)
   refine zzd (zzy [0, 1, 3, 0, 8, 24, 56, 127, 0, 256, 768, 0, 2048, 6144, 14591, 32767, 65535, 131071] [(0, []), (1, []), (2, []), (3, []), (4, []), (5, []), (8, []), (9, []), (10, []), (11, []), (12, []), (13, []), (6, []), (7, []), (14, []), (15, []), (16, []), (17, [])] xv xv (zza 24 (.adr 5 0) (zza 25 (.adr 5 0) (zzh 26 (.v (.agg #[.bool r12.s, r12.m.v])) ty24 zze (zza 27 (.adr 6 0) (zza 28 (.adr 6 2) (zzh 29 (.v r17.d.v) ty22 zzk (zza 32 (.adr 6 0) (zza 33 (.adr 6 0) (zzh 34 (.v (.agg #[.bool r17.s, r17.m.v])) ty24 zze (zza 35 (.adr 5 0) ?_)))))))))))
   refine zza 36 (.adr 5 2) (zzh 37 (.v r12.d.v) ty22 zzk (zzg 30 195 [r17.d.v] ?_))
   intro w29 u29 e29 d29
   have k32 := k_natural (x := r17.d) d29
   with_reducible refine zPm k32 ?_
   rintro _ u30 g31 rfl
   refine zzg 31 194 [.agg #[.bool r12.s, r12.m.v], .agg #[.bool false, r17.d.v]] ?_
   intro w33 u33 e33 d33
   have k38 := k_intMul d33 (hi12.ext (e16.trans (g19.ext.trans (e29.trans (g31.ext.trans e33))))) (nat_int (hd17.ext (e29.trans (g31.ext.trans e33)))) xq xq
   with_reducible refine zPm k38 ?_
   rintro _ u36 g37 ⟨i34, rfl, h35⟩
   refine zzg 38 195 [r12.d.v] ?_
   intro w39 u39 e39 d39
   have k42 := k_natural (x := r12.d) d39
   with_reducible refine zPm k42 ?_
   rintro _ u40 g41 rfl
   refine zzg 39 194 [.agg #[.bool r17.s, r17.m.v], .agg #[.bool false, r12.d.v]] ?_
   intro w43 u43 e43 d43
   have k48 := k_intMul d43 (hi17.ext (e29.trans (g31.ext.trans (e33.trans (g37.ext.trans (e39.trans (g41.ext.trans e43))))))) (nat_int (hd12.ext (e16.trans (g19.ext.trans (e29.trans (g31.ext.trans (e33.trans (g37.ext.trans (e39.trans (g41.ext.trans e43)))))))))) xq xq
   with_reducible refine zPm k48 ?_
   rintro _ u46 g47 ⟨i44, rfl, h45⟩
   refine zzg 40 181 [i34.v, i44.v] ?_
   intro w49 u49 e49 d49
   have k52 := k_intCompare d49 (h35.ext (e39.trans (g41.ext.trans (e43.trans (g47.ext.trans e49))))).raw (h45.ext e49).raw
   with_reducible refine zPm k52 ?_
   rintro _ u50 g51 rfl
   refine zza 4 (zI (Nt.cmpS (z12 * (D17 : Int)) (z17 * (D12 : Int)))) (zzc 41 [(4, zI (Nt.cmpS (z12 * (D17 : Int)) (z17 * (D12 : Int))))] [] (zzn (ret0 [.int .i64 (Nt.cmpS (z12 * (D17 : Int)) (z17 * (D12 : Int)))] ⟨zzp, trivial⟩ fun u53 e54 => ?_)))
   show _ = _
   rw [hq12, hq17, ← Nt.cmp_mk hp12 hp17]
   rfl
 ·refine zyp 13 (x := zB wh12) (zB false) (by rw [hs21]) (zzm 14 (uw 2 true false 13) (zzm 15 (uw 2 true false 13) (zza 16 (zB false) (zzb (zyr xv (zzr (zzo ?_)))))))
  refine zzd (zzy [0, 1, 3, 0, 8, 24, 56, 127, 0, 256, 768, 0, 2048, 6144, 14591, 32767, 65535, 131071] [(0, []), (1, []), (2, []), (3, []), (4, []), (5, []), (8, []), (9, []), (10, []), (11, []), (12, []), (13, []), (6, []), (7, []), (14, []), (15, []), (16, []), (17, [])] xv xv (zza 24 (.adr 5 0) (zza 25 (.adr 5 0) (zzh 26 (.v (.agg #[.bool r12.s, r12.m.v])) ty24 zze (zza 27 (.adr 6 0) (zza 28 (.adr 6 2) (zzh 29 (.v r17.d.v) ty22 zzk (zza 32 (.adr 6 0) (zza 33 (.adr 6 0) (zzh 34 (.v (.agg #[.bool r17.s, r17.m.v])) ty24 zze (zza 35 (.adr 5 0) ?_)))))))))))
  refine zza 36 (.adr 5 2) (zzh 37 (.v r12.d.v) ty22 zzk (zzg 30 195 [r17.d.v] ?_))
  intro w55 u55 e55 d55
  have k58 := k_natural (x := r17.d) d55
  with_reducible refine zPm k58 ?_
  rintro _ u56 g57 rfl
  refine zzg 31 194 [.agg #[.bool r12.s, r12.m.v], .agg #[.bool false, r17.d.v]] ?_
  intro w59 u59 e59 d59
  have k64 := k_intMul d59 (hi12.ext (e16.trans (g19.ext.trans (e55.trans (g57.ext.trans e59))))) (nat_int (hd17.ext (e55.trans (g57.ext.trans e59)))) xq xq
  with_reducible refine zPm k64 ?_
  rintro _ u62 g63 ⟨i60, rfl, h61⟩
  refine zzg 38 195 [r12.d.v] ?_
  intro w65 u65 e65 d65
  have k68 := k_natural (x := r12.d) d65
  with_reducible refine zPm k68 ?_
  rintro _ u66 g67 rfl
  refine zzg 39 194 [.agg #[.bool r17.s, r17.m.v], .agg #[.bool false, r12.d.v]] ?_
  intro w69 u69 e69 d69
  have k74 := k_intMul d69 (hi17.ext (e55.trans (g57.ext.trans (e59.trans (g63.ext.trans (e65.trans (g67.ext.trans e69))))))) (nat_int (hd12.ext (e16.trans (g19.ext.trans (e55.trans (g57.ext.trans (e59.trans (g63.ext.trans (e65.trans (g67.ext.trans e69)))))))))) xq xq
  with_reducible refine zPm k74 ?_
  rintro _ u72 g73 ⟨i70, rfl, h71⟩
  refine zzg 40 181 [i60.v, i70.v] ?_
  intro w75 u75 e75 d75
  have k78 := k_intCompare d75 (h61.ext (e65.trans (g67.ext.trans (e69.trans (g73.ext.trans e75))))).raw (h71.ext e75).raw
  with_reducible refine zPm k78 ?_
  rintro _ u76 g77 rfl
  refine zza 4 (zI (Nt.cmpS (z12 * (D17 : Int)) (z17 * (D12 : Int)))) (zzc 41 [(4, zI (Nt.cmpS (z12 * (D17 : Int)) (z17 * (D12 : Int))))] [] (zzn (ret0 [.int .i64 (Nt.cmpS (z12 * (D17 : Int)) (z17 * (D12 : Int)))] ⟨zzp, trivial⟩ fun u79 e80 => ?_)))
  show _ = _
  rw [hq12, hq17, ← Nt.cmp_mk hp12 hp17]
  rfl
theorem k_ratNeg {u w : World} {r1 : RL} {x : Rat} {K : Nat} (d : Dat u w) (hr1 : RatV u r1 x K) (hK : K ≤ 200000000) : Calls Tryz.prog 176 #[r1.v] w (Post u w fun v u' => ∃ r : RL, v = r.v ∧ RatN u' r (-x) K) := by
 refine zzl (args := [r1.v]) Tryz.func176 rfl Tryz.ntmps176 (rs := [.cell 2 26]) Tryz.results176 (le_b rfl) (le_b rfl) d ?_
 refine sq9 (zzj 1 ⟨26, r1.cs⟩ (zzj 2 ⟨26, [.bool false, .slice none 0 0, .slice none 0 0]⟩ (zzb (sq9 (zzh 3 (.v (r1.v)) ty26 zze (zzg 4 226 [r1.v] ?_))))))
 intro w11 u11 e11 d11
 have k14 := k_flip (r := r1) d11
 with_reducible refine zPm k14 ?_
 rintro _ u12 g13 rfl
 refine zzg 5 78 [.agg #[.bool (!r1.s), r1.m.v, r1.d.v]] ?_
 intro w15 u15 e15 d15
 have k20 := k_ratTrim d15 ((flip_rat (hr1.ext (e11.trans g13.ext))).ext e15) xq
 with_reducible refine zPm k20 ?_
 rintro _ u18 g19 ⟨r16, rfl, h17⟩
 refine zzi ⟨26, r16.cs⟩ ty26 ?_
 refine zzb (zzn (ret0 [r16.v] ⟨zzq ty26 zze, trivial⟩ fun u21 e22 => ?_))
 refine ⟨r16, rfl, RatN.more (K := K) ?_ xq⟩
 exact (h17.ext e22)
set_option maxHeartbeats 1000000 in
theorem k_ratAdd {u w : World} {r1 : RL} {x : Rat} {K : Nat} {r2 : RL} {y : Rat} {L : Nat} (d : Dat u w) (hr1 : RatV u r1 x K) (hr2 : RatV u r2 y L) (hK : K ≤ 200000000) (hL : L ≤ 200000000) : Calls Tryz.prog 126 #[r1.v, r2.v] w (Post u w fun v u' => ∃ r : RL, v = r.v ∧ RatN u' r (x + y) (K + L + 1)) := by
 refine zzl (args := [r1.v, r2.v]) Tryz.func126 rfl Tryz.ntmps126 (rs := [.cell 4 26]) Tryz.results126 (le_b rfl) (le_b rfl) d ?_
 refine sq9 (zzj 2 ⟨26, r1.cs⟩ (zzj 3 ⟨26, r2.cs⟩ (zzj 4 ⟨26, [.bool false, .slice none 0 0, .slice none 0 0]⟩ (zzb (zzd (zzy [0, 1, 0, 7, 0, 0, 63, 127] [(0, []), (2, []), (4, []), (5, []), (1, []), (3, []), (6, []), (7, [])] xv xv (zzh 8 (.v (r1.v)) ty26 zze (zzh 10 (.v (r2.v)) ty26 zze (zzj 5 ⟨149, [.bool false, .slice none 0 0, .slice none 0 0, .bool false]⟩ (zzj 6 ⟨149, [.bool false, .slice none 0 0, .slice none 0 0, .bool false]⟩ (zzg 9 147 [r1.v] ?_)))))))))))
 intro w11 u11 e11 d11
 have k15 := k_read d11 (hr1.ext e11)
 with_reducible refine zPm k15 ?_
 rintro _ u13 g14 ⟨r12, wh12, rfl, z12, D12, hi12, hd12, hp12, hq12, hw12, hk12⟩
 refine zzg 11 147 [r2.v] ?_
 intro w16 u16 e16 d16
 have k20 := k_read d16 (hr2.ext (e11.trans (g14.ext.trans e16)))
 with_reducible refine zPm k20 ?_
 rintro _ u18 g19 ⟨r17, wh17, rfl, z17, D17, hi17, hd17, hp17, hq17, hw17, hk17⟩
 refine zzi ⟨149, r12.cs ++ [.bool wh12]⟩ ty149 ?_
 refine zzi ⟨149, r17.cs ++ [.bool wh17]⟩ ty149 ?_
 refine zzb (zzd (sq9 (zza 12 (.adr 5 3) (zzh 13 (zB wh12) ty4 zzk ?_))))
 rcases Bool.eq_false_or_eq_true wh12 with hs21 | hs21
 ·refine zyp 14 (x := zB wh12) (zB true) (by rw [hs21]) (zza 15 (.adr 6 3) ?_ (hw := w1 2 true 14))
  refine zzh 16 (zB wh17) ty4 zzk ?_ (hw := w1 2 true 14)
  refine zza 17 (zB wh17) (zzb (zzt (b := wh17) xv (fun hb22 => ?_) (fun hb22 => ?_)))
  ·replace hb22 : wh17 = true := hb22
   refine sq9 (zza 18 (.adr 5 0) (zza 19 (.adr 5 0) (zzh 20 (.v (.agg #[.bool r12.s, r12.m.v])) ty24 zze (zza 21 (.adr 6 0) (zza 22 (.adr 6 0) (zzh 23 (.v (.agg #[.bool r17.s, r17.m.v])) ty24 zze (zzg 24 159 [.agg #[.bool r12.s, r12.m.v], .agg #[.bool r17.s, r17.m.v]] ?_)))))))
   intro w23 u23 e23 d23
   have k28 := k_intAdd d23 (hi12.ext (e16.trans (g19.ext.trans e23))) (hi17.ext e23) xq xq
   with_reducible refine zPm k28 ?_
   rintro _ u26 g27 ⟨i24, rfl, h25⟩
   refine zzg 25 193 [i24.v] ?_
   intro w29 u29 e29 d29
   have k34 := k_whole (i := i24) d29
   with_reducible refine zPm k34 ?_
   rintro _ u32 g33 ⟨y30, rfl, h31⟩
   refine zzi ⟨26, i24.cs ++ [y30.v]⟩ ty26 ?_
   refine zzb (zzn (zzv (ret0 [.agg #[.bool i24.s, .slice i24.m.a i24.m.n i24.m.c, .slice y30.a y30.n y30.c]] ⟨zzq ty26 zze, trivial⟩ fun u35 e36 => ?_)))
   refine ⟨(⟨i24.s, i24.m, y30⟩ : RL), rfl, RatN.more (K := (max (max K L + 1) 1)) ?_ xq⟩
   rw [hq12, hq17, hw12 (by assumption), hw17 (by assumption), Nt.mk_one, Nt.mk_one, ← Rat.intCast_add]
   exact ((whole_rat (h25.ext (e29.trans g33.ext)) h31).ext e36)
  ·replace hb22 : wh17 = false := hb22
   refine zzr (zzo ?_)
   refine zzd (sq9 (zza 26 (.adr 5 0) (zza 27 (.adr 5 2) (zzh 28 (.v r12.d.v) ty22 zzk (zza 29 (.adr 6 0) (zza 30 (.adr 6 2) (zzh 31 (.v r17.d.v) ty22 zzk (zzg 32 83 [r12.d.v, r17.d.v] ?_))))))))
   intro w37 u37 e37 d37
   have k40 := k_natCompare d37 (hd12.ext (e16.trans (g19.ext.trans e37))) (hd17.ext e37)
   with_reducible refine zPm k40 ?_
   rintro _ u38 g39 rfl
   refine zza 33 (zB ((Nt.cmpS D12 D17) == 0)) (zzb (zzt (b := (Nt.cmpS D12 D17) == 0) xv (fun hb41 => ?_) (fun hb41 => ?_)))
   ·replace hb41 : ((Nt.cmpS D12 D17) == 0) = true := hb41
    refine zzd (zzy [0, 1, 3, 0, 8, 24, 63, 0, 128, 384, 1023, 2047, 4095] [(0, []), (1, []), (2, []), (3, []), (4, []), (5, []), (7, []), (8, []), (9, []), (6, []), (10, []), (11, []), (12, [])] xv xv (zza 34 (.adr 5 0) (zza 35 (.adr 5 0) (zzh 36 (.v (.agg #[.bool r12.s, r12.m.v])) ty24 zze (zza 37 (.adr 6 0) (zza 38 (.adr 6 0) (zzh 39 (.v (.agg #[.bool r17.s, r17.m.v])) ty24 zze (zza 41 (.adr 5 0) (zza 42 (.adr 5 2) (zzh 43 (.v r12.d.v) ty22 zzk (zzg 40 159 [.agg #[.bool r12.s, r12.m.v], .agg #[.bool r17.s, r17.m.v]] ?_)))))))))))
    intro w42 u42 e42 d42
    have k47 := k_intAdd d42 (hi12.ext (e16.trans (g19.ext.trans (e37.trans (g39.ext.trans e42))))) (hi17.ext (e37.trans (g39.ext.trans e42))) xq xq
    with_reducible refine zPm k47 ?_
    rintro _ u45 g46 ⟨i43, rfl, h44⟩
    refine zza 44 (.v (.agg #[.bool i43.s, i43.m.v, r12.d.v])) (zzg 45 148 [.agg #[.bool i43.s, i43.m.v, r12.d.v]] ?_)
    intro w48 u48 e48 d48
    have k53 := k_lowest d48 (h44.ext e48).raw (hd12.ext (e16.trans (g19.ext.trans (e37.trans (g39.ext.trans (e42.trans (g46.ext.trans e48))))))) hp12 xq xq
    with_reducible refine zPm k53 ?_
    rintro _ u51 g52 ⟨r49, rfl, h50⟩
    refine zzi ⟨26, r49.cs⟩ ty26 ?_
    refine zzc 73 [(4, .adr 4 0)] [(4, ⟨26, r49.cs⟩)] (zzn (zzv (ret0 [r49.v] ⟨zzq ty26 zze, trivial⟩ fun u54 e55 => ?_)))
    refine ⟨r49, rfl, RatN.more (K := (max (max K L + 1) K)) ?_ xq⟩
    have hD : D12 = D17 := Nt.cmp_natE hb41
    rw [hq12, hq17, ← hD, ← Nt.add_same hp12]
    exact (h50.ext e55)
   ·replace hb41 : ((Nt.cmpS D12 D17) == 0) = false := hb41
    refine zzr (zzo ?_)
    refine zzd (zzy [0, 1, 3, 0, 8, 24, 56, 127, 0, 256, 768, 0, 2048, 6144, 14591, 32767, 65535, 0, 262143] [(0, []), (1, []), (2, []), (3, []), (4, []), (5, []), (8, []), (9, []), (10, []), (11, []), (12, []), (13, []), (17, []), (6, []), (7, []), (14, []), (15, []), (16, []), (18, [])] xv xv (zza 46 (.adr 5 0) (zza 47 (.adr 5 0) (zzh 48 (.v (.agg #[.bool r12.s, r12.m.v])) ty24 zze (zza 49 (.adr 6 0) (zza 50 (.adr 6 2) (zzh 51 (.v r17.d.v) ty22 zzk (zza 54 (.adr 6 0) (zza 55 (.adr 6 0) (zzh 56 (.v (.agg #[.bool r17.s, r17.m.v])) ty24 zze (zza 57 (.adr 5 0) ?_)))))))))))
    refine zza 58 (.adr 5 2) (zzh 59 (.v r12.d.v) ty22 zzk (zzj 7 ⟨24, [.bool false, .slice none 0 0]⟩ (zzg 52 195 [r17.d.v] ?_)))
    intro w56 u56 e56 d56
    have k59 := k_natural (x := r17.d) d56
    with_reducible refine zPm k59 ?_
    rintro _ u57 g58 rfl
    refine zzg 53 194 [.agg #[.bool r12.s, r12.m.v], .agg #[.bool false, r17.d.v]] ?_
    intro w60 u60 e60 d60
    have k65 := k_intMul d60 (hi12.ext (e16.trans (g19.ext.trans (e37.trans (g39.ext.trans (e56.trans (g58.ext.trans e60))))))) (nat_int (hd17.ext (e37.trans (g39.ext.trans (e56.trans (g58.ext.trans e60)))))) xq xq
    with_reducible refine zPm k65 ?_
    rintro _ u63 g64 ⟨i61, rfl, h62⟩
    refine zzg 60 195 [r12.d.v] ?_
    intro w66 u66 e66 d66
    have k69 := k_natural (x := r12.d) d66
    with_reducible refine zPm k69 ?_
    rintro _ u67 g68 rfl
    refine zzg 61 194 [.agg #[.bool r17.s, r17.m.v], .agg #[.bool false, r12.d.v]] ?_
    intro w70 u70 e70 d70
    have k75 := k_intMul d70 (hi17.ext (e37.trans (g39.ext.trans (e56.trans (g58.ext.trans (e60.trans (g64.ext.trans (e66.trans (g68.ext.trans e70))))))))) (nat_int (hd12.ext (e16.trans (g19.ext.trans (e37.trans (g39.ext.trans (e56.trans (g58.ext.trans (e60.trans (g64.ext.trans (e66.trans (g68.ext.trans e70)))))))))))) xq xq
    with_reducible refine zPm k75 ?_
    rintro _ u73 g74 ⟨i71, rfl, h72⟩
    refine zzg 62 159 [i61.v, i71.v] ?_
    intro w76 u76 e76 d76
    have k81 := k_intAdd d76 (h62.ext (e66.trans (g68.ext.trans (e70.trans (g74.ext.trans e76))))).raw (h72.ext e76).raw xq xq
    with_reducible refine zPm k81 ?_
    rintro _ u79 g80 ⟨i77, rfl, h78⟩
    refine zzi ⟨24, i77.cs⟩ ty24 ?_
    refine zzc 73 [(4, .adr 4 0), (5, .adr 5 0), (6, .adr 6 0), (7, .adr 7 0)] [(4, ⟨26, [.bool false, .slice none 0 0, .slice none 0 0]⟩), (5, ⟨149, r12.cs ++ [.bool wh12]⟩), (6, ⟨149, r17.cs ++ [.bool wh17]⟩), (7, ⟨24, i77.cs⟩)] (zzd (zzy [0, 0, 2, 6, 0, 16, 48, 126, 255, 511, 1023] [(0, []), (1, []), (2, []), (3, []), (4, []), (5, []), (6, []), (7, []), (8, []), (9, []), (10, [])] xv xv (zzh 63 (.v (i77.v)) ty24 zze (zza 64 (.adr 5 0) (zza 65 (.adr 5 2) (zzh 66 (.v r12.d.v) ty22 zzk (zza 67 (.adr 6 0) (zza 68 (.adr 6 2) (zzh 69 (.v r17.d.v) ty22 zzk (zzg 70 156 [r12.d.v, r17.d.v] ?_))))))))))
    intro w82 u82 e82 d82
    have k87 := k_natMul d82 (hd12.ext (e16.trans (g19.ext.trans (e37.trans (g39.ext.trans (e56.trans (g58.ext.trans (e60.trans (g64.ext.trans (e66.trans (g68.ext.trans (e70.trans (g74.ext.trans (e76.trans (g80.ext.trans e82))))))))))))))) (hd17.ext (e37.trans (g39.ext.trans (e56.trans (g58.ext.trans (e60.trans (g64.ext.trans (e66.trans (g68.ext.trans (e70.trans (g74.ext.trans (e76.trans (g80.ext.trans e82))))))))))))) xq xq
    with_reducible refine zPm k87 ?_
    rintro _ u85 g86 ⟨x83, rfl, h84⟩
    refine zza 71 (.v (.agg #[.bool i77.s, i77.m.v, x83.v])) (zzg 72 148 [.agg #[.bool i77.s, i77.m.v, x83.v]] ?_)
    intro w88 u88 e88 d88
    have k93 := k_lowest d88 (h78.ext (e82.trans (g86.ext.trans e88))).raw (h84.ext e88).raw (Nat.mul_pos hp12 hp17) xq xq
    with_reducible refine zPm k93 ?_
    rintro _ u91 g92 ⟨r89, rfl, h90⟩
    refine zzi ⟨26, r89.cs⟩ ty26 ?_
    refine zzb (zzn (ret0 [r89.v] ⟨zzq ty26 zze, trivial⟩ fun u94 e95 => ?_))
    refine ⟨r89, rfl, RatN.more (K := (max (max (K + L) (L + K) + 1) (K + L))) ?_ xq⟩
    rw [hq12, hq17, ← Nt.add_mk hp12 hp17]
    exact (h90.ext e95)
 ·refine zyp 14 (x := zB wh12) (zB false) (by rw [hs21]) (zzm 15 (uw 2 true false 14) (zzm 16 (uw 2 true false 14) (zza 17 (zB false) (zzb (zyr xv (zzr (zzo ?_)))))))
  refine zzd (sq9 (zza 26 (.adr 5 0) (zza 27 (.adr 5 2) (zzh 28 (.v r12.d.v) ty22 zzk (zza 29 (.adr 6 0) (zza 30 (.adr 6 2) (zzh 31 (.v r17.d.v) ty22 zzk (zzg 32 83 [r12.d.v, r17.d.v] ?_))))))))
  intro w96 u96 e96 d96
  have k99 := k_natCompare d96 (hd12.ext (e16.trans (g19.ext.trans e96))) (hd17.ext e96)
  with_reducible refine zPm k99 ?_
  rintro _ u97 g98 rfl
  refine zza 33 (zB ((Nt.cmpS D12 D17) == 0)) (zzb (zzt (b := (Nt.cmpS D12 D17) == 0) xv (fun hb100 => ?_) (fun hb100 => ?_)))
  ·replace hb100 : ((Nt.cmpS D12 D17) == 0) = true := hb100
   refine zzd (zzy [0, 1, 3, 0, 8, 24, 63, 0, 128, 384, 1023, 2047, 4095] [(0, []), (1, []), (2, []), (3, []), (4, []), (5, []), (7, []), (8, []), (9, []), (6, []), (10, []), (11, []), (12, [])] xv xv (zza 34 (.adr 5 0) (zza 35 (.adr 5 0) (zzh 36 (.v (.agg #[.bool r12.s, r12.m.v])) ty24 zze (zza 37 (.adr 6 0) (zza 38 (.adr 6 0) (zzh 39 (.v (.agg #[.bool r17.s, r17.m.v])) ty24 zze (zza 41 (.adr 5 0) (zza 42 (.adr 5 2) (zzh 43 (.v r12.d.v) ty22 zzk (zzg 40 159 [.agg #[.bool r12.s, r12.m.v], .agg #[.bool r17.s, r17.m.v]] ?_)))))))))))
   intro w101 u101 e101 d101
   have k106 := k_intAdd d101 (hi12.ext (e16.trans (g19.ext.trans (e96.trans (g98.ext.trans e101))))) (hi17.ext (e96.trans (g98.ext.trans e101))) xq xq
   with_reducible refine zPm k106 ?_
   rintro _ u104 g105 ⟨i102, rfl, h103⟩
   refine zza 44 (.v (.agg #[.bool i102.s, i102.m.v, r12.d.v])) (zzg 45 148 [.agg #[.bool i102.s, i102.m.v, r12.d.v]] ?_)
   intro w107 u107 e107 d107
   have k112 := k_lowest d107 (h103.ext e107).raw (hd12.ext (e16.trans (g19.ext.trans (e96.trans (g98.ext.trans (e101.trans (g105.ext.trans e107))))))) hp12 xq xq
   with_reducible refine zPm k112 ?_
   rintro _ u110 g111 ⟨r108, rfl, h109⟩
   refine zzi ⟨26, r108.cs⟩ ty26 ?_
   refine zzc 73 [(4, .adr 4 0)] [(4, ⟨26, r108.cs⟩)] (zzn (zzv (ret0 [r108.v] ⟨zzq ty26 zze, trivial⟩ fun u113 e114 => ?_)))
   refine ⟨r108, rfl, RatN.more (K := (max (max K L + 1) K)) ?_ xq⟩
   have hD : D12 = D17 := Nt.cmp_natE hb100
   rw [hq12, hq17, ← hD, ← Nt.add_same hp12]
   exact (h109.ext e114)
  ·replace hb100 : ((Nt.cmpS D12 D17) == 0) = false := hb100
   refine zzr (zzo ?_)
   refine zzd (zzy [0, 1, 3, 0, 8, 24, 56, 127, 0, 256, 768, 0, 2048, 6144, 14591, 32767, 65535, 0, 262143] [(0, []), (1, []), (2, []), (3, []), (4, []), (5, []), (8, []), (9, []), (10, []), (11, []), (12, []), (13, []), (17, []), (6, []), (7, []), (14, []), (15, []), (16, []), (18, [])] xv xv (zza 46 (.adr 5 0) (zza 47 (.adr 5 0) (zzh 48 (.v (.agg #[.bool r12.s, r12.m.v])) ty24 zze (zza 49 (.adr 6 0) (zza 50 (.adr 6 2) (zzh 51 (.v r17.d.v) ty22 zzk (zza 54 (.adr 6 0) (zza 55 (.adr 6 0) (zzh 56 (.v (.agg #[.bool r17.s, r17.m.v])) ty24 zze (zza 57 (.adr 5 0) ?_)))))))))))
   refine zza 58 (.adr 5 2) (zzh 59 (.v r12.d.v) ty22 zzk (zzj 7 ⟨24, [.bool false, .slice none 0 0]⟩ (zzg 52 195 [r17.d.v] ?_)))
   intro w115 u115 e115 d115
   have k118 := k_natural (x := r17.d) d115
   with_reducible refine zPm k118 ?_
   rintro _ u116 g117 rfl
   refine zzg 53 194 [.agg #[.bool r12.s, r12.m.v], .agg #[.bool false, r17.d.v]] ?_
   intro w119 u119 e119 d119
   have k124 := k_intMul d119 (hi12.ext (e16.trans (g19.ext.trans (e96.trans (g98.ext.trans (e115.trans (g117.ext.trans e119))))))) (nat_int (hd17.ext (e96.trans (g98.ext.trans (e115.trans (g117.ext.trans e119)))))) xq xq
   with_reducible refine zPm k124 ?_
   rintro _ u122 g123 ⟨i120, rfl, h121⟩
   refine zzg 60 195 [r12.d.v] ?_
   intro w125 u125 e125 d125
   have k128 := k_natural (x := r12.d) d125
   with_reducible refine zPm k128 ?_
   rintro _ u126 g127 rfl
   refine zzg 61 194 [.agg #[.bool r17.s, r17.m.v], .agg #[.bool false, r12.d.v]] ?_
   intro w129 u129 e129 d129
   have k134 := k_intMul d129 (hi17.ext (e96.trans (g98.ext.trans (e115.trans (g117.ext.trans (e119.trans (g123.ext.trans (e125.trans (g127.ext.trans e129))))))))) (nat_int (hd12.ext (e16.trans (g19.ext.trans (e96.trans (g98.ext.trans (e115.trans (g117.ext.trans (e119.trans (g123.ext.trans (e125.trans (g127.ext.trans e129)))))))))))) xq xq
   with_reducible refine zPm k134 ?_
   rintro _ u132 g133 ⟨i130, rfl, h131⟩
   refine zzg 62 159 [i120.v, i130.v] ?_
   intro w135 u135 e135 d135
   have k140 := k_intAdd d135 (h121.ext (e125.trans (g127.ext.trans (e129.trans (g133.ext.trans e135))))).raw (h131.ext e135).raw xq xq
   with_reducible refine zPm k140 ?_
   rintro _ u138 g139 ⟨i136, rfl, h137⟩
   refine zzi ⟨24, i136.cs⟩ ty24 ?_
   refine zzc 73 [(4, .adr 4 0), (5, .adr 5 0), (6, .adr 6 0), (7, .adr 7 0)] [(4, ⟨26, [.bool false, .slice none 0 0, .slice none 0 0]⟩), (5, ⟨149, r12.cs ++ [.bool wh12]⟩), (6, ⟨149, r17.cs ++ [.bool wh17]⟩), (7, ⟨24, i136.cs⟩)] (zzd (zzy [0, 0, 2, 6, 0, 16, 48, 126, 255, 511, 1023] [(0, []), (1, []), (2, []), (3, []), (4, []), (5, []), (6, []), (7, []), (8, []), (9, []), (10, [])] xv xv (zzh 63 (.v (i136.v)) ty24 zze (zza 64 (.adr 5 0) (zza 65 (.adr 5 2) (zzh 66 (.v r12.d.v) ty22 zzk (zza 67 (.adr 6 0) (zza 68 (.adr 6 2) (zzh 69 (.v r17.d.v) ty22 zzk (zzg 70 156 [r12.d.v, r17.d.v] ?_))))))))))
   intro w141 u141 e141 d141
   have k146 := k_natMul d141 (hd12.ext (e16.trans (g19.ext.trans (e96.trans (g98.ext.trans (e115.trans (g117.ext.trans (e119.trans (g123.ext.trans (e125.trans (g127.ext.trans (e129.trans (g133.ext.trans (e135.trans (g139.ext.trans e141))))))))))))))) (hd17.ext (e96.trans (g98.ext.trans (e115.trans (g117.ext.trans (e119.trans (g123.ext.trans (e125.trans (g127.ext.trans (e129.trans (g133.ext.trans (e135.trans (g139.ext.trans e141))))))))))))) xq xq
   with_reducible refine zPm k146 ?_
   rintro _ u144 g145 ⟨x142, rfl, h143⟩
   refine zza 71 (.v (.agg #[.bool i136.s, i136.m.v, x142.v])) (zzg 72 148 [.agg #[.bool i136.s, i136.m.v, x142.v]] ?_)
   intro w147 u147 e147 d147
   have k152 := k_lowest d147 (h137.ext (e141.trans (g145.ext.trans e147))).raw (h143.ext e147).raw (Nat.mul_pos hp12 hp17) xq xq
   with_reducible refine zPm k152 ?_
   rintro _ u150 g151 ⟨r148, rfl, h149⟩
   refine zzi ⟨26, r148.cs⟩ ty26 ?_
   refine zzb (zzn (ret0 [r148.v] ⟨zzq ty26 zze, trivial⟩ fun u153 e154 => ?_))
   refine ⟨r148, rfl, RatN.more (K := (max (max (K + L) (L + K) + 1) (K + L))) ?_ xq⟩
   rw [hq12, hq17, ← Nt.add_mk hp12 hp17]
   exact (h149.ext e154)
set_option maxHeartbeats 1000000 in
theorem k_ratMul {u w : World} {r1 : RL} {x : Rat} {K : Nat} {r2 : RL} {y : Rat} {L : Nat} (d : Dat u w) (hr1 : RatV u r1 x K) (hr2 : RatV u r2 y L) (hK : K ≤ 200000000) (hL : L ≤ 200000000) : Calls Tryz.prog 123 #[r1.v, r2.v] w (Post u w fun v u' => ∃ r : RL, v = r.v ∧ RatN u' r (x * y) (K + L)) := by
 refine zzl (args := [r1.v, r2.v]) Tryz.func123 rfl Tryz.ntmps123 (rs := [.cell 4 26]) Tryz.results123 (le_b rfl) (le_b rfl) d ?_
 refine sq9 (zzj 2 ⟨26, r1.cs⟩ (zzj 3 ⟨26, r2.cs⟩ (zzj 4 ⟨26, [.bool false, .slice none 0 0, .slice none 0 0]⟩ (zzb (zzd (zzy [0, 1, 0, 7, 0, 0, 63, 127] [(0, []), (2, []), (4, []), (5, []), (1, []), (3, []), (6, []), (7, [])] xv xv (zzh 8 (.v (r1.v)) ty26 zze (zzh 10 (.v (r2.v)) ty26 zze (zzj 5 ⟨149, [.bool false, .slice none 0 0, .slice none 0 0, .bool false]⟩ (zzj 6 ⟨149, [.bool false, .slice none 0 0, .slice none 0 0, .bool false]⟩ (zzg 9 147 [r1.v] ?_)))))))))))
 intro w11 u11 e11 d11
 have k15 := k_read d11 (hr1.ext e11)
 with_reducible refine zPm k15 ?_
 rintro _ u13 g14 ⟨r12, wh12, rfl, z12, D12, hi12, hd12, hp12, hq12, hw12, hk12⟩
 refine zzg 11 147 [r2.v] ?_
 intro w16 u16 e16 d16
 have k20 := k_read d16 (hr2.ext (e11.trans (g14.ext.trans e16)))
 with_reducible refine zPm k20 ?_
 rintro _ u18 g19 ⟨r17, wh17, rfl, z17, D17, hi17, hd17, hp17, hq17, hw17, hk17⟩
 refine zzi ⟨149, r12.cs ++ [.bool wh12]⟩ ty149 ?_
 refine zzi ⟨149, r17.cs ++ [.bool wh17]⟩ ty149 ?_
 refine zzb (sq9 (zza 12 (.adr 5 0) (zza 13 (.adr 5 0) (zzh 14 (.v (.agg #[.bool r12.s, r12.m.v])) ty24 zze (zza 15 (.adr 6 0) (zza 16 (.adr 6 0) (zzh 17 (.v (.agg #[.bool r17.s, r17.m.v])) ty24 zze (zzg 18 194 [.agg #[.bool r12.s, r12.m.v], .agg #[.bool r17.s, r17.m.v]] ?_))))))))
 intro w21 u21 e21 d21
 have k26 := k_intMul d21 (hi12.ext (e16.trans (g19.ext.trans e21))) (hi17.ext e21) xq xq
 with_reducible refine zPm k26 ?_
 rintro _ u24 g25 ⟨i22, rfl, h23⟩
 refine zzj 7 ⟨24, [.bool false, .slice none 0 0]⟩ (zzi ⟨24, i22.cs⟩ ty24 ?_)
 refine zzb (zzd (sq9 (zza 19 (.adr 5 3) (zzh 20 (zB wh12) ty4 zzk ?_))))
 rcases Bool.eq_false_or_eq_true wh12 with hs27 | hs27
 ·refine zyp 21 (x := zB wh12) (zB true) (by rw [hs27]) (zza 22 (.adr 6 3) ?_ (hw := w1 2 true 21))
  refine zzh 23 (zB wh17) ty4 zzk ?_ (hw := w1 2 true 21)
  refine zza 24 (zB wh17) (zzb (zzt (b := wh17) xv (fun hb28 => ?_) (fun hb28 => ?_)))
  ·replace hb28 : wh17 = true := hb28
   refine sq9 (zzh 25 (.v (i22.v)) ty24 zze (zzg 26 193 [i22.v] ?_))
   intro w29 u29 e29 d29
   have k34 := k_whole (i := i22) d29
   with_reducible refine zPm k34 ?_
   rintro _ u32 g33 ⟨y30, rfl, h31⟩
   refine zzi ⟨26, i22.cs ++ [y30.v]⟩ ty26 ?_
   refine zzb (zzn (zzv (ret0 [.agg #[.bool i22.s, .slice i22.m.a i22.m.n i22.m.c, .slice y30.a y30.n y30.c]] ⟨zzq ty26 zze, trivial⟩ fun u35 e36 => ?_)))
   refine ⟨(⟨i22.s, i22.m, y30⟩ : RL), rfl, RatN.more (K := (max (K + L) 1)) ?_ xq⟩
   rw [hq12, hq17, hw12 (by assumption), hw17 (by assumption), Nt.mk_one, Nt.mk_one, ← Rat.intCast_mul]
   exact ((whole_rat (h23.ext (e29.trans g33.ext)) h31).ext e36)
  ·replace hb28 : wh17 = false := hb28
   refine zzr (zzo ?_)
   refine zzd (zzy [0, 0, 2, 6, 0, 16, 48, 126, 255, 511, 1023] [(0, []), (1, []), (2, []), (3, []), (4, []), (5, []), (6, []), (7, []), (8, []), (9, []), (10, [])] xv xv (zzh 27 (.v (i22.v)) ty24 zze (zza 28 (.adr 5 0) (zza 29 (.adr 5 2) (zzh 30 (.v r12.d.v) ty22 zzk (zza 31 (.adr 6 0) (zza 32 (.adr 6 2) (zzh 33 (.v r17.d.v) ty22 zzk (zzg 34 156 [r12.d.v, r17.d.v] ?_)))))))))
   intro w37 u37 e37 d37
   have k42 := k_natMul d37 (hd12.ext (e16.trans (g19.ext.trans (e21.trans (g25.ext.trans e37))))) (hd17.ext (e21.trans (g25.ext.trans e37))) xq xq
   with_reducible refine zPm k42 ?_
   rintro _ u40 g41 ⟨x38, rfl, h39⟩
   refine zza 35 (.v (.agg #[.bool i22.s, i22.m.v, x38.v])) (zzg 36 148 [.agg #[.bool i22.s, i22.m.v, x38.v]] ?_)
   intro w43 u43 e43 d43
   have k48 := k_lowest d43 (h23.ext (e37.trans (g41.ext.trans e43))).raw (h39.ext e43).raw (Nat.mul_pos hp12 hp17) xq xq
   with_reducible refine zPm k48 ?_
   rintro _ u46 g47 ⟨r44, rfl, h45⟩
   refine zzi ⟨26, r44.cs⟩ ty26 ?_
   refine zzc 37 [(4, .adr 4 0)] [(4, ⟨26, r44.cs⟩)] (zzn (ret0 [r44.v] ⟨zzq ty26 zze, trivial⟩ fun u49 e50 => ?_))
   refine ⟨r44, rfl, RatN.more (K := (max (K + L) (K + L))) ?_ xq⟩
   rw [hq12, hq17, ← Nt.mul_mk]
   exact (h45.ext e50)
 ·refine zyp 21 (x := zB wh12) (zB false) (by rw [hs27]) (zzm 22 (uw 2 true false 21) (zzm 23 (uw 2 true false 21) (zza 24 (zB false) (zzb (zyr xv (zzr (zzo ?_)))))))
  refine zzd (zzy [0, 0, 2, 6, 0, 16, 48, 126, 255, 511, 1023] [(0, []), (1, []), (2, []), (3, []), (4, []), (5, []), (6, []), (7, []), (8, []), (9, []), (10, [])] xv xv (zzh 27 (.v (i22.v)) ty24 zze (zza 28 (.adr 5 0) (zza 29 (.adr 5 2) (zzh 30 (.v r12.d.v) ty22 zzk (zza 31 (.adr 6 0) (zza 32 (.adr 6 2) (zzh 33 (.v r17.d.v) ty22 zzk (zzg 34 156 [r12.d.v, r17.d.v] ?_)))))))))
  intro w51 u51 e51 d51
  have k56 := k_natMul d51 (hd12.ext (e16.trans (g19.ext.trans (e21.trans (g25.ext.trans e51))))) (hd17.ext (e21.trans (g25.ext.trans e51))) xq xq
  with_reducible refine zPm k56 ?_
  rintro _ u54 g55 ⟨x52, rfl, h53⟩
  refine zza 35 (.v (.agg #[.bool i22.s, i22.m.v, x52.v])) (zzg 36 148 [.agg #[.bool i22.s, i22.m.v, x52.v]] ?_)
  intro w57 u57 e57 d57
  have k62 := k_lowest d57 (h23.ext (e51.trans (g55.ext.trans e57))).raw (h53.ext e57).raw (Nat.mul_pos hp12 hp17) xq xq
  with_reducible refine zPm k62 ?_
  rintro _ u60 g61 ⟨r58, rfl, h59⟩
  refine zzi ⟨26, r58.cs⟩ ty26 ?_
  refine zzc 37 [(4, .adr 4 0)] [(4, ⟨26, r58.cs⟩)] (zzn (ret0 [r58.v] ⟨zzq ty26 zze, trivial⟩ fun u63 e64 => ?_))
  refine ⟨r58, rfl, RatN.more (K := (max (K + L) (K + L))) ?_ xq⟩
  rw [hq12, hq17, ← Nt.mul_mk]
  exact (h59.ext e64)
theorem k_ratFrac {u w : World} {a b : Int} (d : Dat u w) (ha0 : -9223372036854775808 ≤ a) (ha1 : a ≤ 9223372036854775807) (hb0 : -9223372036854775808 ≤ b) (hb1 : b ≤ 9223372036854775807) : Calls Tryz.prog 127 #[.int .i64 a, .int .i64 b] w (Post u w fun v u' => ∃ r : RL, v = r.v ∧ RatN u' r ((a : Rat) / (b : Rat)) 2) := by
 refine zzl (args := [.int .i64 a, .int .i64 b]) Tryz.func127 rfl Tryz.ntmps127 (rs := [.cell 4 26]) Tryz.results127 (le_b rfl) (le_b rfl) d ?_
 refine sq9 (zzj 4 ⟨26, [.bool false, .slice none 0 0, .slice none 0 0]⟩ (zzb (zzd (sq9 (zza 5 (zI b) (zza 6 (zB (b == 0)) (zzb (zzt (b := b == 0) xv (fun hb11 => ?_) (fun hb11 => ?_)))))))))
 ·replace hb11 : (b == 0) = true := hb11
  refine sq9 (zzg 7 118 [.int .i64 0] ?_)
  intro w12 u12 e12 d12
  have k17 := k_ratOf d12 (z := 0) xq xq
  with_reducible refine zPm k17 ?_
  rintro _ u15 g16 ⟨r13, rfl, h14⟩
  refine zzi ⟨26, r13.cs⟩ ty26 ?_
  refine zzb (zzn (zzv (ret0 [r13.v] ⟨zzq ty26 zze, trivial⟩ fun u18 e19 => ?_)))
  refine ⟨r13, rfl, RatN.more (K := 2) ?_ xq⟩
  have hb0 : b = 0 := by simpa using hb11
  rw [hb0]; simp [Rat.div_def]; exact (h14.ext e19)
 ·replace hb11 : (b == 0) = false := hb11
  have hb0 : 0 < b.natAbs := by simp at hb11; omega
  refine zzr (zzo ?_)
  refine sq9 (zza 8 (zI a) (zzg 9 160 [.int .i64 a] ?_))
  intro w20 u20 e20 d20
  have k25 := k_intOf d20 (z := a) xq xq
  with_reducible refine zPm k25 ?_
  rintro _ u23 g24 ⟨i21, rfl, h22⟩
  refine zza 10 (zI b) (zzg 11 160 [.int .i64 b] ?_)
  intro w26 u26 e26 d26
  have k31 := k_intOf d26 (z := b) xq xq
  with_reducible refine zPm k31 ?_
  rintro _ u29 g30 ⟨i27, rfl, h28⟩
  refine zzg 12 196 [i21.v, i27.v] ?_
  intro w32 u32 e32 d32
  have k35 := k_quotient (i := i21) (j := i27) d32
  with_reducible refine zPm k35 ?_
  rintro _ u33 g34 rfl
  refine zzg 13 148 [.agg #[.bool (!(i21.s == i27.s)), i21.m.v, i27.m.v]] ?_
  intro w36 u36 e36 d36
  have k41 := k_lowest d36 ((quot_int (h22.ext (e26.trans (g30.ext.trans (e32.trans g34.ext)))) (h28.ext (e32.trans g34.ext))).ext e36) ((int_mag (h28.ext (e32.trans g34.ext))).ext e36).raw hb0 xq xq
  with_reducible refine zPm k41 ?_
  rintro _ u39 g40 ⟨r37, rfl, h38⟩
  refine zzi ⟨26, r37.cs⟩ ty26 ?_
  refine zzb (zzn (ret0 [r37.v] ⟨zzq ty26 zze, trivial⟩ fun u42 e43 => ?_))
  refine ⟨r37, rfl, RatN.more (K := (max 2 2)) ?_ xq⟩
  rw [← Nt.div_mk2 xq]
  exact (h38.ext e43)
def DivR (x y : Rat) (K : Nat) (v : Value) (u : World) : Prop := (v = .tuple #[.agg #[.bool false, .slice none 0 0, .slice none 0 0], .int .i64 3] ∧ y = 0) ∨ (y ≠ 0 ∧ ∃ r : RL, v = .tuple #[r.v, .int .i64 0] ∧ RatN u r (x / y) K)
set_option maxHeartbeats 1000000 in
theorem k_ratDiv {u w : World} {r1 : RL} {x : Rat} {K : Nat} {r2 : RL} {y : Rat} {L : Nat} (d : Dat u w) (hr1 : RatV u r1 x K) (hr2 : RatV u r2 y L) (hK : K ≤ 200000000) (hL : L ≤ 200000000) : Calls Tryz.prog 202 #[r1.v, r2.v] w (Post u w fun v u' => DivR x y (K + L) v u') := by
 refine zzl (args := [r1.v, r2.v]) Tryz.func202 rfl Tryz.ntmps202 (rs := [.cell 4 26, .tmp 5]) Tryz.results202 (le_b rfl) (le_b rfl) d ?_
 refine sq9 (zzj 2 ⟨26, r1.cs⟩ (zzj 3 ⟨26, r2.cs⟩ (zzj 4 ⟨26, [.bool false, .slice none 0 0, .slice none 0 0]⟩ (zza 5 (zI 0) (zzb (zzd (zzy [0, 1, 0, 7, 0, 0, 63, 127] [(0, []), (2, []), (4, []), (5, []), (1, []), (3, []), (6, []), (7, [])] xv xv (zzh 10 (.v (r1.v)) ty26 zze (zzh 12 (.v (r2.v)) ty26 zze (zzj 6 ⟨149, [.bool false, .slice none 0 0, .slice none 0 0, .bool false]⟩ (zzj 7 ⟨149, [.bool false, .slice none 0 0, .slice none 0 0, .bool false]⟩ ?_)))))))))))
 refine zzg 11 147 [r1.v] ?_
 intro w11 u11 e11 d11
 have k15 := k_read d11 (hr1.ext e11)
 with_reducible refine zPm k15 ?_
 rintro _ u13 g14 ⟨r12, wh12, rfl, z12, D12, hi12, hd12, hp12, hq12, hw12, hk12⟩
 refine zzg 13 147 [r2.v] ?_
 intro w16 u16 e16 d16
 have k20 := k_read d16 (hr2.ext (e11.trans (g14.ext.trans e16)))
 with_reducible refine zPm k20 ?_
 rintro _ u18 g19 ⟨r17, wh17, rfl, z17, D17, hi17, hd17, hp17, hq17, hw17, hk17⟩
 refine zzi ⟨149, r12.cs ++ [.bool wh12]⟩ ty149 ?_
 refine zzi ⟨149, r17.cs ++ [.bool wh17]⟩ ty149 ?_
 refine zzb (zzd (sq9 (zza 14 (.adr 7 0) (zza 15 (.adr 7 0) (zzh 16 (.v (.agg #[.bool r17.s, r17.m.v])) ty24 zze (zzg 17 146 [.agg #[.bool r17.s, r17.m.v]] ?_))))))
 intro w21 u21 e21 d21
 have k24 := k_intSign d21 (hi17.ext e21)
 with_reducible refine zPm k24 ?_
 rintro _ u22 g23 rfl
 refine zza 18 (zB ((Nt.cmpS z17 0) == 0)) (zzb (zzt (b := (Nt.cmpS z17 0) == 0) xv (fun hb25 => ?_) (fun hb25 => ?_)))
 ·replace hb25 : ((Nt.cmpS z17 0) == 0) = true := hb25
  refine sq9 (zza 19 (.v (.agg #[.bool false, .slice none 0 0, .slice none 0 0])) (zzi ⟨26, [.bool false, .slice none 0 0, .slice none 0 0]⟩ ty26 ?_))
  refine zza 5 (zI 3) (zzb (zzn (zzv (ret0 [.agg #[.bool false, .slice none 0 0, .slice none 0 0], .int .i64 3] ⟨zzq ty26 zze, zzp, trivial⟩ fun u26 e27 => ?_))))
  left
  exact ⟨rfl, by rw [hq17, Nt.cmp_eq0 hb25, Rat.zero_mkRat]⟩
 ·replace hb25 : ((Nt.cmpS z17 0) == 0) = false := hb25
  have hz0 : z17 ≠ 0 := Nt.cmp_ne0 hb25
  have hpp : 0 < ((D12 : Int) * z17 : Int).natAbs := Int.natAbs_pos.2 (Int.mul_ne_zero xq hz0)
  refine zzr (zzo ?_)
  refine zzd (zzy [0, 1, 3, 0, 8, 24, 56, 127, 0, 511] [(0, []), (1, []), (2, []), (3, []), (4, []), (5, []), (8, []), (6, []), (7, []), (9, [])] xv xv (zza 20 (.adr 6 0) (zza 21 (.adr 6 0) (zzh 22 (.v (.agg #[.bool r12.s, r12.m.v])) ty24 zze (zza 23 (.adr 7 0) (zza 24 (.adr 7 2) (zzh 25 (.v r17.d.v) ty22 zzk (zzj 8 ⟨24, [.bool false, .slice none 0 0]⟩ (zzg 26 195 [r17.d.v] ?_)))))))))
  intro w28 u28 e28 d28
  have k31 := k_natural (x := r17.d) d28
  with_reducible refine zPm k31 ?_
  rintro _ u29 g30 rfl
  refine zzg 27 194 [.agg #[.bool r12.s, r12.m.v], .agg #[.bool false, r17.d.v]] ?_
  intro w32 u32 e32 d32
  have k37 := k_intMul d32 (hi12.ext (e16.trans (g19.ext.trans (e21.trans (g23.ext.trans (e28.trans (g30.ext.trans e32))))))) (nat_int (hd17.ext (e21.trans (g23.ext.trans (e28.trans (g30.ext.trans e32)))))) xq xq
  with_reducible refine zPm k37 ?_
  rintro _ u35 g36 ⟨i33, rfl, h34⟩
  refine zzi ⟨24, i33.cs⟩ ty24 ?_
  refine zzb (zzd (zzy [0, 1, 3, 7, 0, 16, 48, 127, 0, 511] [(0, []), (1, []), (2, []), (4, []), (5, []), (6, []), (8, []), (3, []), (7, []), (9, [])] xv xv (zza 28 (.adr 6 0) (zza 29 (.adr 6 2) (zzh 30 (.v r12.d.v) ty22 zzk (zza 32 (.adr 7 0) (zza 33 (.adr 7 0) (zzh 34 (.v (.agg #[.bool r17.s, r17.m.v])) ty24 zze (zzj 9 ⟨24, [.bool false, .slice none 0 0]⟩ (zzg 31 195 [r12.d.v] ?_))))))))))
  intro w38 u38 e38 d38
  have k41 := k_natural (x := r12.d) d38
  with_reducible refine zPm k41 ?_
  rintro _ u39 g40 rfl
  refine zzg 35 194 [.agg #[.bool false, r12.d.v], .agg #[.bool r17.s, r17.m.v]] ?_
  intro w42 u42 e42 d42
  have k47 := k_intMul d42 (nat_int (hd12.ext (e16.trans (g19.ext.trans (e21.trans (g23.ext.trans (e28.trans (g30.ext.trans (e32.trans (g36.ext.trans (e38.trans (g40.ext.trans e42)))))))))))) (hi17.ext (e21.trans (g23.ext.trans (e28.trans (g30.ext.trans (e32.trans (g36.ext.trans (e38.trans (g40.ext.trans e42))))))))) xq xq
  with_reducible refine zPm k47 ?_
  rintro _ u45 g46 ⟨i43, rfl, h44⟩
  refine zzi ⟨24, i43.cs⟩ ty24 ?_
  refine zzc 40 [(4, .adr 4 0), (8, .adr 8 0), (9, .adr 9 0)] [(4, ⟨26, [.bool false, .slice none 0 0, .slice none 0 0]⟩), (8, ⟨24, i33.cs⟩), (9, ⟨24, i43.cs⟩)] (sq9 (zzh 36 (.v (i33.v)) ty24 zze (zzh 37 (.v (i43.v)) ty24 zze (zzg 38 196 [i33.v, i43.v] ?_))))
  intro w48 u48 e48 d48
  have k51 := k_quotient (i := i33) (j := i43) d48
  with_reducible refine zPm k51 ?_
  rintro _ u49 g50 rfl
  refine zzg 39 148 [.agg #[.bool (!(i33.s == i43.s)), i33.m.v, i43.m.v]] ?_
  intro w52 u52 e52 d52
  have k57 := k_lowest d52 ((quot_int (h34.ext (e38.trans (g40.ext.trans (e42.trans (g46.ext.trans (e48.trans g50.ext)))))) (h44.ext (e48.trans g50.ext))).ext e52) ((int_mag (h44.ext (e48.trans g50.ext))).ext e52).raw hpp xq xq
  with_reducible refine zPm k57 ?_
  rintro _ u55 g56 ⟨r53, rfl, h54⟩
  refine zzi ⟨26, r53.cs⟩ ty26 ?_
  refine zza 5 (zI 0) (zzb (zzn (ret0 [r53.v, .int .i64 0] ⟨zzq ty26 zze, zzp, trivial⟩ fun u58 e59 => ?_)))
  right
  refine ⟨?_, r53, rfl, RatN.more (K := (max (K + L) (K + L))) ?_ xq⟩
  ·rw [hq17]; exact (Rat.mkRat_ne_zero xq).2 hz0
  ·rw [hq12, hq17, ← Nt.quo_mk hp12 hp17 hz0, ← Nt.div_mk2 xq]
   exact (h54.ext e59)
theorem k_ends {u w : World} {a1 a2 : RL} {x1 x2 : Rat} {K : Nat} (d : Dat u w) (ha1 : RatV u a1 x1 K) (ha2 : RatV u a2 x2 K) (hK : K ≤ 200000000) : Calls Tryz.prog 208 #[IV a1 a2] w (Post u w fun v u' => ∃ p q : RL, v = .tuple #[p.v, q.v] ∧ RatV u' p (Nt.lo x1 x2) K ∧ RatV u' q (Nt.hi x1 x2) K) := by
 refine zzl (args := [.agg #[.bool a1.s, .slice a1.m.a a1.m.n a1.m.c, .slice a1.d.a a1.d.n a1.d.c, .bool a2.s, .slice a2.m.a a2.m.n a2.m.c, .slice a2.d.a a2.d.n a2.d.c]]) Tryz.func208 rfl Tryz.ntmps208 (rs := [.cell 2 26, .cell 3 26]) Tryz.results208 (le_b rfl) (le_b rfl) d ?_
 refine sq9 (zzj 1 ⟨32, a1.cs ++ a2.cs⟩ (zzj 2 ⟨26, [.bool false, .slice none 0 0, .slice none 0 0]⟩ (zzj 3 ⟨26, [.bool false, .slice none 0 0, .slice none 0 0]⟩ (zzb (zzd (sq9 (zza 4 (.adr 1 0) (zzh 5 (.v (a1.v)) ty26 zze (zza 6 (.adr 1 3) (zzh 7 (.v (a2.v)) ty26 zze (zzg 8 197 [a1.v, a2.v] ?_)))))))))))
 intro w11 u11 e11 d11
 have k14 := k_ratCompare d11 (ha1.ext e11) (ha2.ext e11) xq xq
 with_reducible refine zPm k14 ?_
 rintro _ u12 g13 rfl
 refine zza 9 (zB (decide ((0 : Int) < (Nt.cmpQ x1 x2)))) (zzb (zzt (b := decide ((0 : Int) < (Nt.cmpQ x1 x2))) xv (fun hb15 => ?_) (fun hb15 => ?_)))
 ·replace hb15 : (decide ((0 : Int) < (Nt.cmpQ x1 x2))) = true := hb15
  have qhb15 := of_decide_eq_true hb15
  refine zzd (zzy [0, 1, 0, 4, 3, 31] [(0, []), (1, []), (2, []), (3, []), (4, [12]), (5, [])] xv xv (zza 10 (.adr 1 3) (zzh 11 (.v (a2.v)) ty26 zze (zza 12 (.adr 1 0) (zzh 13 (.v (a1.v)) ty26 zze (zzi ⟨26, a2.cs⟩ ty26 ?_))))))
  refine zzi ⟨26, a1.cs⟩ ty26 ?_
  refine zzb (zzn (zzv (ret0 [a2.v, a1.v] ⟨zzq ty26 zze, zzq ty26 zze, trivial⟩ fun u16 e17 => ?_)))
  refine ⟨a2, a1, rfl, ?_, ?_⟩
  ·rw [(Nt.ends_gt hb15).1]; exact (ha2.ext (e11.trans (g13.ext.trans e17)))
  ·rw [(Nt.ends_gt hb15).2]; exact (ha1.ext (e11.trans (g13.ext.trans e17)))
 ·replace hb15 : (decide ((0 : Int) < (Nt.cmpQ x1 x2))) = false := hb15
  have qhb15 := of_decide_eq_false hb15
  refine zzr (zzo ?_)
  refine zzd (zzy [0, 1, 0, 4, 3, 31] [(0, []), (1, []), (2, []), (3, []), (4, [16]), (5, [])] xv xv (zza 14 (.adr 1 0) (zzh 15 (.v (a1.v)) ty26 zze (zza 16 (.adr 1 3) (zzh 17 (.v (a2.v)) ty26 zze (zzi ⟨26, a1.cs⟩ ty26 ?_))))))
  refine zzi ⟨26, a2.cs⟩ ty26 ?_
  refine zzb (zzn (ret0 [a1.v, a2.v] ⟨zzq ty26 zze, zzq ty26 zze, trivial⟩ fun u18 e19 => ?_))
  refine ⟨a1, a2, rfl, ?_, ?_⟩
  ·rw [(Nt.ends_le hb15).1]; exact (ha1.ext (e11.trans (g13.ext.trans e19)))
  ·rw [(Nt.ends_le hb15).2]; exact (ha2.ext (e11.trans (g13.ext.trans e19)))
theorem k_lesserN {u w : World} {a : RL} {x : Rat} {b : RL} {y : Rat} {K : Nat} (d : Dat u w) (ha : RatN u a x K) (hb : RatN u b y K) (hK : K ≤ 200000000) : Calls Tryz.prog 239 #[a.v, b.v] w (Post u w fun v u' => ∃ p : RL, v = p.v ∧ RatN u' p (Nt.lo x y) K) := by
 refine zzl (args := [a.v, b.v]) Tryz.func239 rfl Tryz.ntmps239 (rs := [.cell 4 26]) Tryz.results239 (le_b rfl) (le_b rfl) d ?_
 refine sq9 (zzj 2 ⟨26, a.cs⟩ (zzj 3 ⟨26, b.cs⟩ (zzj 4 ⟨26, [.bool false, .slice none 0 0, .slice none 0 0]⟩ (zzb (zzd (sq9 (zzh 5 (.v (b.v)) ty26 zze (zzh 6 (.v (a.v)) ty26 zze (zzg 7 197 [b.v, a.v] ?_)))))))))
 intro w11 u11 e11 d11
 have k14 := k_ratCompare d11 (hb.ext e11).raw (ha.ext e11).raw xq xq
 with_reducible refine zPm k14 ?_
 rintro _ u12 g13 rfl
 refine zza 8 (zB (decide ((Nt.cmpQ y x) < 0))) (zzb (zzt (b := decide ((Nt.cmpQ y x) < 0)) xv (fun hb15 => ?_) (fun hb15 => ?_)))
 ·replace hb15 : (decide ((Nt.cmpQ y x) < 0)) = true := hb15
  have qhb15 := of_decide_eq_true hb15
  refine sq9 (zzh 9 (.v (b.v)) ty26 zze (zzi ⟨26, b.cs⟩ ty26 ?_))
  refine zzb (zzn (zzv (ret0 [b.v] ⟨zzq ty26 zze, trivial⟩ fun u16 e17 => ?_)))
  refine ⟨b, rfl, ?_⟩
  rw [Nt.lesser_lt hb15]
  exact (hb.ext (e11.trans (g13.ext.trans e17)))
 ·replace hb15 : (decide ((Nt.cmpQ y x) < 0)) = false := hb15
  have qhb15 := of_decide_eq_false hb15
  refine zzr (zzo ?_)
  refine sq9 (zzh 10 (.v (a.v)) ty26 zze (zzi ⟨26, a.cs⟩ ty26 ?_))
  refine zzb (zzn (ret0 [a.v] ⟨zzq ty26 zze, trivial⟩ fun u18 e19 => ?_))
  refine ⟨a, rfl, ?_⟩
  rw [Nt.lesser_ge hb15]
  exact (ha.ext (e11.trans (g13.ext.trans e19)))
theorem k_greaterN {u w : World} {a : RL} {x : Rat} {b : RL} {y : Rat} {K : Nat} (d : Dat u w) (ha : RatN u a x K) (hb : RatN u b y K) (hK : K ≤ 200000000) : Calls Tryz.prog 240 #[a.v, b.v] w (Post u w fun v u' => ∃ p : RL, v = p.v ∧ RatN u' p (Nt.hi x y) K) := by
 refine zzl (args := [a.v, b.v]) Tryz.func240 rfl Tryz.ntmps240 (rs := [.cell 4 26]) Tryz.results240 (le_b rfl) (le_b rfl) d ?_
 refine sq9 (zzj 2 ⟨26, a.cs⟩ (zzj 3 ⟨26, b.cs⟩ (zzj 4 ⟨26, [.bool false, .slice none 0 0, .slice none 0 0]⟩ (zzb (zzd (sq9 (zzh 5 (.v (b.v)) ty26 zze (zzh 6 (.v (a.v)) ty26 zze (zzg 7 197 [b.v, a.v] ?_)))))))))
 intro w11 u11 e11 d11
 have k14 := k_ratCompare d11 (hb.ext e11).raw (ha.ext e11).raw xq xq
 with_reducible refine zPm k14 ?_
 rintro _ u12 g13 rfl
 refine zza 8 (zB (decide ((0 : Int) < (Nt.cmpQ y x)))) (zzb (zzt (b := decide ((0 : Int) < (Nt.cmpQ y x))) xv (fun hb15 => ?_) (fun hb15 => ?_)))
 ·replace hb15 : (decide ((0 : Int) < (Nt.cmpQ y x))) = true := hb15
  have qhb15 := of_decide_eq_true hb15
  refine sq9 (zzh 9 (.v (b.v)) ty26 zze (zzi ⟨26, b.cs⟩ ty26 ?_))
  refine zzb (zzn (zzv (ret0 [b.v] ⟨zzq ty26 zze, trivial⟩ fun u16 e17 => ?_)))
  refine ⟨b, rfl, ?_⟩
  rw [Nt.greater_gt hb15]
  exact (hb.ext (e11.trans (g13.ext.trans e17)))
 ·replace hb15 : (decide ((0 : Int) < (Nt.cmpQ y x))) = false := hb15
  have qhb15 := of_decide_eq_false hb15
  refine zzr (zzo ?_)
  refine sq9 (zzh 10 (.v (a.v)) ty26 zze (zzi ⟨26, a.cs⟩ ty26 ?_))
  refine zzb (zzn (ret0 [a.v] ⟨zzq ty26 zze, trivial⟩ fun u18 e19 => ?_))
  refine ⟨a, rfl, ?_⟩
  rw [Nt.greater_le hb15]
  exact (ha.ext (e11.trans (g13.ext.trans e19)))
theorem k_own {u w : World} {a : RL} {x : Rat} {K : Nat} (d : Dat u w) (ha : RatN u a x K) (hK : K ≤ 200000000) : Calls Tryz.prog 241 #[a.v] w (Post u w fun v u' => ∃ p : RL, v = p.v ∧ RatN u' p x K) := by
 refine zzl (args := [a.v]) Tryz.func241 rfl Tryz.ntmps241 (rs := [.cell 2 26]) Tryz.results241 (le_b rfl) (le_b rfl) d ?_
 refine sq9 (zzj 1 ⟨26, a.cs⟩ (zzj 2 ⟨26, [.bool false, .slice none 0 0, .slice none 0 0]⟩ (zzb (zzd (zzy [0, 1, 3, 0, 8, 24, 56, 127, 0, 256, 888, 2047, 4095] [(0, []), (1, []), (2, []), (3, []), (4, []), (5, []), (8, []), (9, []), (6, []), (7, []), (10, []), (11, []), (12, [])] xv xv (zza 3 (.adr 1 0) (zza 4 (.adr 1 0) (zzh 5 (zB a.s) ty4 zzk (zza 6 (.adr 1 0) (zza 7 (.adr 1 1) (zzh 8 (.v a.m.v) ty22 zzk ?_)))))))))))
 refine zza 11 (.adr 1 2) (zzh 12 (.v a.d.v) ty22 zzk (zzg 9 217 [a.m.v] ?_))
 intro w11 u11 e11 d11
 have k16 := k_cloneN d11 ((int_mag (RatN.num ha)).ext e11) xq
 with_reducible refine zPm k16 ?_
 rintro _ u14 g15 ⟨x12, rfl, h13⟩
 refine zza 10 (.v (.agg #[.bool a.s, x12.v])) (zzg 13 217 [a.d.v] ?_)
 intro w17 u17 e17 d17
 have k22 := k_cloneN d17 ((RatN.den ha).ext (e11.trans (g15.ext.trans e17))) xq
 with_reducible refine zPm k22 ?_
 rintro _ u20 g21 ⟨x18, rfl, h19⟩
 refine zza 14 (.v (.agg #[.bool a.s, x12.v, x18.v])) (zzi ⟨26, [.bool a.s, x12.v, x18.v]⟩ ty26 ?_)
 refine zzb (zzn (ret0 [.agg #[.bool a.s, .slice x12.a x12.n x12.c, .slice x18.a x18.n x18.c]] ⟨zzq ty26 zze, trivial⟩ fun u23 e24 => ?_))
 exact ⟨(⟨a.s, x12, x18⟩ : RL), rfl, own_rat (r := a) ha (h13.ext (e17.trans (g21.ext.trans e24))) (h19.ext e24)⟩
set_option maxHeartbeats 1000000 in
theorem k_around {u w : World} {a1 a2 a3 a4 : RL} {x1 x2 x3 x4 : Rat} {K : Nat} (d : Dat u w) (ha1 : RatN u a1 x1 K) (ha2 : RatN u a2 x2 K) (ha3 : RatN u a3 x3 K) (ha4 : RatN u a4 x4 K) (hK : K ≤ 200000000) : Calls Tryz.prog 200 #[.agg #[.bool a1.s, .slice a1.m.a a1.m.n a1.m.c, .slice a1.d.a a1.d.n a1.d.c, .bool a2.s, .slice a2.m.a a2.m.n a2.m.c, .slice a2.d.a a2.d.n a2.d.c, .bool a3.s, .slice a3.m.a a3.m.n a3.m.c, .slice a3.d.a a3.d.n a3.d.c, .bool a4.s, .slice a4.m.a a4.m.n a4.m.c, .slice a4.d.a a4.d.n a4.d.c]] w (Post u w fun v u' => ∃ p q : RL, v = IV p q ∧ RatN u' p (Nt.lo4 x1 x2 x3 x4) K ∧ RatN u' q (Nt.hi4 x1 x2 x3 x4) K) := by
 refine zzl (args := [.agg #[.bool a1.s, .slice a1.m.a a1.m.n a1.m.c, .slice a1.d.a a1.d.n a1.d.c, .bool a2.s, .slice a2.m.a a2.m.n a2.m.c, .slice a2.d.a a2.d.n a2.d.c, .bool a3.s, .slice a3.m.a a3.m.n a3.m.c, .slice a3.d.a a3.d.n a3.d.c, .bool a4.s, .slice a4.m.a a4.m.n a4.m.c, .slice a4.d.a a4.d.n a4.d.c]]) Tryz.func200 rfl Tryz.ntmps200 (rs := [.cell 2 32]) Tryz.results200 (le_b rfl) (le_b rfl) d ?_
 refine sq9 (zzj 1 ⟨180, a1.cs ++ a2.cs ++ a3.cs ++ a4.cs⟩ (zzj 2 ⟨32, [.bool false, .slice none 0 0, .slice none 0 0, .bool false, .slice none 0 0, .slice none 0 0]⟩ (zzb (zzd (zzy [0, 1, 0, 4, 0, 0, 51, 127] [(0, []), (1, []), (2, []), (3, []), (4, []), (5, []), (6, [9]), (7, [])] xv xv (zza 7 (.adr 1 0) (zzh 8 (.v (a1.v)) ty26 zze (zza 9 (.adr 1 0) (zzh 10 (.v (a1.v)) ty26 zze (zzj 3 ⟨26, [.bool false, .slice none 0 0, .slice none 0 0]⟩ (zzj 4 ⟨26, [.bool false, .slice none 0 0, .slice none 0 0]⟩ ?_)))))))))))
 refine zzi ⟨26, a1.cs⟩ ty26 ?_
 refine zzi ⟨26, a1.cs⟩ ty26 ?_
 refine zzb (zzd (sq9 (zza 11 (.slc 1 3 3 3) (zza 12 (zI 3) (zza 13 (zI 0) (zzb (zzs (sw_rounds 3 ?_))))))))
 refine sq9 (zza 14 (zB true) (zzb (zzd (zyq xv (zzr (zzo ?_))))))
 refine zzd (zzs (sq9 (zza 15 (.adr 1 3) (zzh 16 (.v (a2.v)) ty26 zze (zzj 6 ⟨26, [.bool false, .slice none 0 0, .slice none 0 0]⟩ (zzi ⟨26, a2.cs⟩ ty26 ?_))))))
 refine zzb (zzy [0, 0, 3, 0, 0, 31, 63, 127] [(0, []), (1, []), (3, []), (4, []), (2, []), (5, []), (6, []), (7, [])] xv xv (zzh 17 (.v (a1.v)) ty26 zze (zzh 18 (.v (a2.v)) ty26 zze (zzh 20 (.v (a1.v)) ty26 zze (zzh 21 (.v (a2.v)) ty26 zze (zzg 19 239 [a1.v, a2.v] ?_))))))
 intro w11 u11 e11 d11
 have k16 := k_lesserN d11 (ha1.ext e11) (ha2.ext e11) xq
 with_reducible refine zPm k16 ?_
 rintro _ u14 g15 ⟨r12, rfl, h13⟩
 refine zzg 22 240 [a1.v, a2.v] ?_
 intro w17 u17 e17 d17
 have k22 := k_greaterN d17 (ha1.ext (e11.trans (g15.ext.trans e17))) (ha2.ext (e11.trans (g15.ext.trans e17))) xq
 with_reducible refine zPm k22 ?_
 rintro _ u20 g21 ⟨r18, rfl, h19⟩
 refine zzi ⟨26, r12.cs⟩ ty26 ?_
 refine zzi ⟨26, r18.cs⟩ ty26 ?_
 refine zzw ?_
 refine zzo (zzf (zza 23 (zI 1) (zza 13 (zI 1) (zzw ?_))))
 refine rn_next ?_
 refine sw_weak (T := St.of 29 [(2, .adr 2 0), (3, .adr 3 0), (4, .adr 4 0), (11, .slc 1 3 3 3), (12, zI 3), (13, zI 1)] [(1, ⟨180, a1.cs ++ a2.cs ++ a3.cs ++ a4.cs⟩), (2, ⟨32, [.bool false, .slice none 0 0, .slice none 0 0, .bool false, .slice none 0 0, .slice none 0 0]⟩), (3, ⟨26, r12.cs⟩), (4, ⟨26, r18.cs⟩)]) yj ?_
 refine sq9 (zza 14 (zB true) (zzb (zzd (zyq xv (zzr (zzo ?_))))))
 refine zzd (zzs (sq9 (zza 15 (.adr 1 6) (zzh 16 (.v (a3.v)) ty26 zze (zzj 6 ⟨26, [.bool false, .slice none 0 0, .slice none 0 0]⟩ (zzi ⟨26, a3.cs⟩ ty26 ?_))))))
 refine zzb (zzy [0, 0, 3, 0, 0, 31, 63, 127] [(0, []), (1, []), (3, []), (4, []), (2, []), (5, []), (6, []), (7, [])] xv xv (zzh 17 (.v (r12.v)) ty26 zze (zzh 18 (.v (a3.v)) ty26 zze (zzh 20 (.v (r18.v)) ty26 zze (zzh 21 (.v (a3.v)) ty26 zze (zzg 19 239 [r12.v, a3.v] ?_))))))
 intro w23 u23 e23 d23
 have k28 := k_lesserN d23 (h13.ext (e17.trans (g21.ext.trans e23))) (ha3.ext (e11.trans (g15.ext.trans (e17.trans (g21.ext.trans e23))))) xq
 with_reducible refine zPm k28 ?_
 rintro _ u26 g27 ⟨r24, rfl, h25⟩
 refine zzg 22 240 [r18.v, a3.v] ?_
 intro w29 u29 e29 d29
 have k34 := k_greaterN d29 (h19.ext (e23.trans (g27.ext.trans e29))) (ha3.ext (e11.trans (g15.ext.trans (e17.trans (g21.ext.trans (e23.trans (g27.ext.trans e29))))))) xq
 with_reducible refine zPm k34 ?_
 rintro _ u32 g33 ⟨r30, rfl, h31⟩
 refine zzi ⟨26, r24.cs⟩ ty26 ?_
 refine zzi ⟨26, r30.cs⟩ ty26 ?_
 refine zzw ?_
 refine zzo (zzf (zza 23 (zI 2) (zza 13 (zI 2) (zzw ?_))))
 refine rn_next ?_
 refine sw_weak (T := St.of 29 [(2, .adr 2 0), (3, .adr 3 0), (4, .adr 4 0), (11, .slc 1 3 3 3), (12, zI 3), (13, zI 2)] [(1, ⟨180, a1.cs ++ a2.cs ++ a3.cs ++ a4.cs⟩), (2, ⟨32, [.bool false, .slice none 0 0, .slice none 0 0, .bool false, .slice none 0 0, .slice none 0 0]⟩), (3, ⟨26, r24.cs⟩), (4, ⟨26, r30.cs⟩)]) yj ?_
 refine sq9 (zza 14 (zB true) (zzb (zzd (zyq xv (zzr (zzo ?_))))))
 refine zzd (zzs (sq9 (zza 15 (.adr 1 9) (zzh 16 (.v (a4.v)) ty26 zze (zzj 6 ⟨26, [.bool false, .slice none 0 0, .slice none 0 0]⟩ (zzi ⟨26, a4.cs⟩ ty26 ?_))))))
 refine zzb (zzy [0, 0, 3, 0, 0, 31, 63, 127] [(0, []), (1, []), (3, []), (4, []), (2, []), (5, []), (6, []), (7, [])] xv xv (zzh 17 (.v (r24.v)) ty26 zze (zzh 18 (.v (a4.v)) ty26 zze (zzh 20 (.v (r30.v)) ty26 zze (zzh 21 (.v (a4.v)) ty26 zze (zzg 19 239 [r24.v, a4.v] ?_))))))
 intro w35 u35 e35 d35
 have k40 := k_lesserN d35 (h25.ext (e29.trans (g33.ext.trans e35))) (ha4.ext (e11.trans (g15.ext.trans (e17.trans (g21.ext.trans (e23.trans (g27.ext.trans (e29.trans (g33.ext.trans e35))))))))) xq
 with_reducible refine zPm k40 ?_
 rintro _ u38 g39 ⟨r36, rfl, h37⟩
 refine zzg 22 240 [r30.v, a4.v] ?_
 intro w41 u41 e41 d41
 have k46 := k_greaterN d41 (h31.ext (e35.trans (g39.ext.trans e41))) (ha4.ext (e11.trans (g15.ext.trans (e17.trans (g21.ext.trans (e23.trans (g27.ext.trans (e29.trans (g33.ext.trans (e35.trans (g39.ext.trans e41))))))))))) xq
 with_reducible refine zPm k46 ?_
 rintro _ u44 g45 ⟨r42, rfl, h43⟩
 refine zzi ⟨26, r36.cs⟩ ty26 ?_
 refine zzi ⟨26, r42.cs⟩ ty26 ?_
 refine zzw ?_
 refine zzo (zzf (zza 23 (zI 3) (zza 13 (zI 3) (zzw ?_))))
 refine rn_next ?_
 refine sw_weak (T := St.of 29 [(2, .adr 2 0), (3, .adr 3 0), (4, .adr 4 0), (11, .slc 1 3 3 3), (12, zI 3), (13, zI 3)] [(1, ⟨180, a1.cs ++ a2.cs ++ a3.cs ++ a4.cs⟩), (2, ⟨32, [.bool false, .slice none 0 0, .slice none 0 0, .bool false, .slice none 0 0, .slice none 0 0]⟩), (3, ⟨26, r36.cs⟩), (4, ⟨26, r42.cs⟩)]) yj ?_
 refine sq9 (zza 14 (zB false) (zzb (zzd (zyr xv (zyb (zzo (zzd (zzy [0, 1, 0, 7, 15, 31] [(0, []), (2, []), (1, []), (3, []), (4, []), (5, [])] xv xv (zzh 24 (.v (r36.v)) ty26 zze (zzh 26 (.v (r42.v)) ty26 zze (zzg 25 241 [r36.v] ?_)))))))))))
 intro w47 u47 e47 d47
 have k52 := k_own d47 (h37.ext (e41.trans (g45.ext.trans e47))) xq
 with_reducible refine zPm k52 ?_
 rintro _ u50 g51 ⟨r48, rfl, h49⟩
 refine zzg 27 241 [r42.v] ?_
 intro w53 u53 e53 d53
 have k58 := k_own d53 (h43.ext (e47.trans (g51.ext.trans e53))) xq
 with_reducible refine zPm k58 ?_
 rintro _ u56 g57 ⟨r54, rfl, h55⟩
 refine zza 28 (.v (.agg #[.bool r48.s, r48.m.v, r48.d.v, .bool r54.s, r54.m.v, r54.d.v])) (zzi ⟨32, r48.cs ++ r54.cs⟩ ty32 ?_)
 refine zzc 29 [(2, .adr 2 0)] [(2, ⟨32, r48.cs ++ r54.cs⟩)] (zzn (ret0 [.agg #[.bool r48.s, .slice r48.m.a r48.m.n r48.m.c, .slice r48.d.a r48.d.n r48.d.c, .bool r54.s, .slice r54.m.a r54.m.n r54.m.c, .slice r54.d.a r54.d.n r54.d.c]] ⟨zzq ty32 zze, trivial⟩ fun u59 e60 => ?_))
 refine ⟨r48, r54, rfl, RatN.more (K := K) ?_ xq, RatN.more (K := K) ?_ xq⟩
 ·exact (h49.ext (e53.trans (g57.ext.trans e60)))
 ·exact (h55.ext e60)
theorem k_ivMake {u w : World} {a : RL} {x : Rat} {b : RL} {y : Rat} {K : Nat} (d : Dat u w) (ha : RatV u a x K) (hb : RatV u b y K) (hK : K ≤ 100000000) : Calls Tryz.prog 144 #[a.v, b.v] w (Post u w fun v u' => ∃ p q : RL, v = IV p q ∧ RatN u' p (Nt.lo x y) K ∧ RatN u' q (Nt.hi x y) K) := by
 refine zzl (args := [a.v, b.v]) Tryz.func144 rfl Tryz.ntmps144 (rs := [.cell 4 32]) Tryz.results144 (le_b rfl) (le_b rfl) d ?_
 refine sq9 (zzj 2 ⟨26, a.cs⟩ (zzj 3 ⟨26, b.cs⟩ (zzj 4 ⟨32, [.bool false, .slice none 0 0, .slice none 0 0, .bool false, .slice none 0 0, .slice none 0 0]⟩ (zzb (sq9 (zzh 8 (.v (a.v)) ty26 zze (zzh 9 (.v (b.v)) ty26 zze (zza 10 (.v (.agg #[.bool a.s, a.m.v, a.d.v, .bool b.s, b.m.v, b.d.v])) (zzg 11 208 [.agg #[.bool a.s, a.m.v, a.d.v, .bool b.s, b.m.v, b.d.v]] ?_)))))))))
 intro w11 u11 e11 d11
 have k18 := k_ends d11 (ha.ext e11) (hb.ext e11) xq
 with_reducible refine zPm k18 ?_
 rintro _ u16 g17 ⟨r12, r14, rfl, h13, h15⟩
 refine zza 7 (.v (.tuple #[r12.v, r14.v])) (zza 12 (.v (r12.v)) (zza 13 (.v (r14.v)) (zzj 5 ⟨26, [.bool false, .slice none 0 0, .slice none 0 0]⟩ (zzj 6 ⟨26, [.bool false, .slice none 0 0, .slice none 0 0]⟩ (zzi ⟨26, r12.cs⟩ ty26 ?_)))))
 refine zzi ⟨26, r14.cs⟩ ty26 ?_
 refine zzb (zzd (zzy [0, 1, 0, 7, 15, 31] [(0, []), (2, []), (1, []), (3, []), (4, []), (5, [])] xv xv (zzh 14 (.v (r12.v)) ty26 zze (zzh 16 (.v (r14.v)) ty26 zze (zzg 15 78 [r12.v] ?_)))))
 intro w19 u19 e19 d19
 have k24 := k_ratTrim d19 (h13.ext e19) xq
 with_reducible refine zPm k24 ?_
 rintro _ u22 g23 ⟨r20, rfl, h21⟩
 refine zzg 17 78 [r14.v] ?_
 intro w25 u25 e25 d25
 have k30 := k_ratTrim d25 (h15.ext (e19.trans (g23.ext.trans e25))) xq
 with_reducible refine zPm k30 ?_
 rintro _ u28 g29 ⟨r26, rfl, h27⟩
 refine zza 18 (.v (.agg #[.bool r20.s, r20.m.v, r20.d.v, .bool r26.s, r26.m.v, r26.d.v])) (zzi ⟨32, r20.cs ++ r26.cs⟩ ty32 ?_)
 refine zzb (zzn (ret0 [.agg #[.bool r20.s, .slice r20.m.a r20.m.n r20.m.c, .slice r20.d.a r20.d.n r20.d.c, .bool r26.s, .slice r26.m.a r26.m.n r26.m.c, .slice r26.d.a r26.d.n r26.d.c]] ⟨zzq ty32 zze, trivial⟩ fun u31 e32 => ?_))
 refine ⟨r20, r26, rfl, RatN.more (K := K) ?_ xq, RatN.more (K := K) ?_ xq⟩
 ·exact (h21.ext (e25.trans (g29.ext.trans e32)))
 ·exact (h27.ext e32)
theorem k_ivSign {u w : World} {a1 a2 : RL} {x1 x2 : Rat} {K : Nat} (d : Dat u w) (ha1 : RatV u a1 x1 K) (ha2 : RatV u a2 x2 K) (hK : K ≤ 100000000) : Calls Tryz.prog 201 #[IV a1 a2] w (Post u w fun v u' => v = .int .i64 (Nt.sgI x1 x2)) := by
 refine zzl (args := [.agg #[.bool a1.s, .slice a1.m.a a1.m.n a1.m.c, .slice a1.d.a a1.d.n a1.d.c, .bool a2.s, .slice a2.m.a a2.m.n a2.m.c, .slice a2.d.a a2.d.n a2.d.c]]) Tryz.func201 rfl Tryz.ntmps201 (rs := [.tmp 2]) Tryz.results201 (le_b rfl) (le_b rfl) d ?_
 refine sq9 (zzj 1 ⟨32, a1.cs ++ a2.cs⟩ (zza 2 (zI 0) (zzb (sq9 (zzh 6 (.v (.agg #[.bool a1.s, a1.m.v, a1.d.v, .bool a2.s, a2.m.v, a2.d.v])) ty32 zze (zzg 7 208 [.agg #[.bool a1.s, a1.m.v, a1.d.v, .bool a2.s, a2.m.v, a2.d.v]] ?_))))))
 intro w11 u11 e11 d11
 have k18 := k_ends d11 (ha1.ext e11) (ha2.ext e11) xq
 with_reducible refine zPm k18 ?_
 rintro _ u16 g17 ⟨r12, r14, rfl, h13, h15⟩
 refine zza 5 (.v (.tuple #[r12.v, r14.v])) (zza 8 (.v (r12.v)) (zza 9 (.v (r14.v)) (zzj 3 ⟨26, [.bool false, .slice none 0 0, .slice none 0 0]⟩ (zzj 4 ⟨26, [.bool false, .slice none 0 0, .slice none 0 0]⟩ (zzi ⟨26, r12.cs⟩ ty26 ?_)))))
 refine zzi ⟨26, r14.cs⟩ ty26 ?_
 refine zzb (zzd (zzs (sq9 (zzh 11 (.v (r12.v)) ty26 zze (zzg 12 76 [r12.v] ?_)))))
 intro w19 u19 e19 d19
 have k22 := k_ratSign d19 (h13.ext e19)
 with_reducible refine zPm k22 ?_
 rintro _ u20 g21 rfl
 refine zza 13 (zB (decide ((0 : Int) < (Nt.sgQ (Nt.lo x1 x2))))) (zza 10 (zB (decide ((0 : Int) < (Nt.sgQ (Nt.lo x1 x2))))) (zzb (zzt (b := decide ((0 : Int) < (Nt.sgQ (Nt.lo x1 x2)))) xv (fun hb23 => ?_) (fun hb23 => ?_))))
 ·replace hb23 : (decide ((0 : Int) < (Nt.sgQ (Nt.lo x1 x2)))) = true := hb23
  have qhb23 := of_decide_eq_true hb23
  refine sq9 (zza 2 (zI 1) (zzb (zzn (zyt (zzv (ret0 [.int .i64 1] ⟨zzp, trivial⟩ fun u24 e25 => ?_))))))
  show _ = _
  unfold Nt.sgI
  rw [Nt.sgQ_gt] at hb23
  rw [if_pos (of_decide_eq_true hb23)]
  rfl
 ·replace hb23 : (decide ((0 : Int) < (Nt.sgQ (Nt.lo x1 x2)))) = false := hb23
  have qhb23 := of_decide_eq_false hb23
  refine sq9 (zzh 15 (.v (r14.v)) ty26 zze (zzg 16 76 [r14.v] ?_))
  intro w26 u26 e26 d26
  have k29 := k_ratSign d26 (h15.ext (e19.trans (g21.ext.trans e26)))
  with_reducible refine zPm k29 ?_
  rintro _ u27 g28 rfl
  refine zza 17 (zB (decide ((Nt.sgQ (Nt.hi x1 x2)) < 0))) (zza 14 (zB (decide ((Nt.sgQ (Nt.hi x1 x2)) < 0))) (zzb (zzt (b := decide ((Nt.sgQ (Nt.hi x1 x2)) < 0)) xv (fun hb30 => ?_) (fun hb30 => ?_))))
  ·replace hb30 : (decide ((Nt.sgQ (Nt.hi x1 x2)) < 0)) = true := hb30
   have qhb30 := of_decide_eq_true hb30
   refine sq9 (zza 2 (zI (-1)) (zzb (zzn (zyt (zzv (ret0 [.int .i64 (-1)] ⟨zzp, trivial⟩ fun u31 e32 => ?_))))))
   show _ = _
   unfold Nt.sgI
   rw [Nt.sgQ_gt] at hb23
   rw [if_neg (of_decide_eq_false hb23)]
   rw [Nt.sgQ_lt] at hb30
   rw [if_pos (of_decide_eq_true hb30)]
   rfl
  ·replace hb30 : (decide ((Nt.sgQ (Nt.hi x1 x2)) < 0)) = false := hb30
   have qhb30 := of_decide_eq_false hb30
   refine zzr (zzo ?_)
   refine sq9 (zza 2 (zI 0) (zzb (zzn (ret0 [.int .i64 0] ⟨zzp, trivial⟩ fun u33 e34 => ?_))))
   show _ = _
   unfold Nt.sgI
   rw [Nt.sgQ_gt] at hb23
   rw [if_neg (of_decide_eq_false hb23)]
   rw [Nt.sgQ_lt] at hb30
   rw [if_neg (of_decide_eq_false hb30)]
   rfl
theorem k_ivMid {u w : World} {a1 a2 : RL} {x1 x2 : Rat} {K : Nat} (d : Dat u w) (ha1 : RatV u a1 x1 K) (ha2 : RatV u a2 x2 K) (hK : K ≤ 50000000) : Calls Tryz.prog 204 #[IV a1 a2] w (Post u w fun v u' => ∃ p : RL, v = p.v ∧ RatN u' p ((x1 + x2) * (((1 : Int) : Rat) / ((2 : Int) : Rat))) (K + K + 1 + 2)) := by
 refine zzl (args := [.agg #[.bool a1.s, .slice a1.m.a a1.m.n a1.m.c, .slice a1.d.a a1.d.n a1.d.c, .bool a2.s, .slice a2.m.a a2.m.n a2.m.c, .slice a2.d.a a2.d.n a2.d.c]]) Tryz.func204 rfl Tryz.ntmps204 (rs := [.cell 2 26]) Tryz.results204 (le_b rfl) (le_b rfl) d ?_
 refine sq9 (zzj 1 ⟨32, a1.cs ++ a2.cs⟩ (zzj 2 ⟨26, [.bool false, .slice none 0 0, .slice none 0 0]⟩ (zzb (sq9 (zza 3 (.adr 1 0) (zzh 4 (.v (a1.v)) ty26 zze (zza 5 (.adr 1 3) (zzh 6 (.v (a2.v)) ty26 zze (zzg 7 126 [a1.v, a2.v] ?_)))))))))
 intro w11 u11 e11 d11
 have k16 := k_ratAdd d11 (ha1.ext e11) (ha2.ext e11) xq xq
 with_reducible refine zPm k16 ?_
 rintro _ u14 g15 ⟨r12, rfl, h13⟩
 refine zzg 8 127 [.int .i64 1, .int .i64 2] ?_
 intro w17 u17 e17 d17
 have k22 := k_ratFrac d17 (a := 1) (b := 2) xq xq xq xq
 with_reducible refine zPm k22 ?_
 rintro _ u20 g21 ⟨r18, rfl, h19⟩
 refine zzg 9 123 [r12.v, r18.v] ?_
 intro w23 u23 e23 d23
 have k28 := k_ratMul d23 (h13.ext (e17.trans (g21.ext.trans e23))).raw (h19.ext e23).raw xq xq
 with_reducible refine zPm k28 ?_
 rintro _ u26 g27 ⟨r24, rfl, h25⟩
 refine zzi ⟨26, r24.cs⟩ ty26 ?_
 refine zzb (zzn (ret0 [r24.v] ⟨zzq ty26 zze, trivial⟩ fun u29 e30 => ?_))
 exact ⟨r24, rfl, (h25.ext e30)⟩
theorem k_ratDiv1 {u w : World} {r1 r2 : RL} {x y : Rat} {K L : Nat} (d : Dat u w) (hr1 : RatV u r1 x K) (hr2 : RatV u r2 y L) (hy : y ≠ 0) (hK : K ≤ 200000000) (hL : L ≤ 200000000) : Calls Tryz.prog 202 #[r1.v, r2.v] w (Post u w fun v u' => ∃ r : RL, v = .tuple #[r.v, .int .i64 0] ∧ RatN u' r (x / y) (K + L)) :=
 Post.mono (k_ratDiv d hr1 hr2 hK hL) fun v u' _ h => h.elim (fun h => absurd h.2 hy) (fun h => h.2)
theorem sgI_ne {a b : Rat} (h : (Nt.sgI a b == 0) = false) : a ≠ 0 ∧ b ≠ 0 := by
 unfold Nt.sgI Nt.lo Nt.hi at h
 grind
def IDivR (x1 x2 y1 y2 : Rat) (K : Nat) (v : Value) (u : World) : Prop := (Nt.sgI y1 y2 = 0 ∧ v = .tuple #[.agg #[.bool false, .slice none 0 0, .slice none 0 0, .bool false, .slice none 0 0, .slice none 0 0], .int .i64 3]) ∨ (Nt.sgI y1 y2 ≠ 0 ∧ ∃ p q : RL, v = .tuple #[IV p q, .int .i64 0] ∧ RatN u p (Nt.lo4 (x1 / y1) (x1 / y2) (x2 / y1) (x2 / y2)) K ∧ RatN u q (Nt.hi4 (x1 / y1) (x1 / y2) (x2 / y1) (x2 / y2)) K)
set_option maxHeartbeats 2000000 in
theorem k_ivDiv {u w : World} {a1 a2 : RL} {x1 x2 : Rat} {b1 b2 : RL} {y1 y2 : Rat} {K L : Nat} (d : Dat u w) (ha1 : RatV u a1 x1 K) (ha2 : RatV u a2 x2 K) (hb1 : RatV u b1 y1 L) (hb2 : RatV u b2 y2 L) (hK : K ≤ 100000000) (hL : L ≤ 100000000) : Calls Tryz.prog 136 #[IV a1 a2, IV b1 b2] w (Post u w fun v u' => IDivR x1 x2 y1 y2 (K + L) v u') := by
 refine zzl (args := [.agg #[.bool a1.s, .slice a1.m.a a1.m.n a1.m.c, .slice a1.d.a a1.d.n a1.d.c, .bool a2.s, .slice a2.m.a a2.m.n a2.m.c, .slice a2.d.a a2.d.n a2.d.c], .agg #[.bool b1.s, .slice b1.m.a b1.m.n b1.m.c, .slice b1.d.a b1.d.n b1.d.c, .bool b2.s, .slice b2.m.a b2.m.n b2.m.c, .slice b2.d.a b2.d.n b2.d.c]]) Tryz.func136 rfl Tryz.ntmps136 (rs := [.cell 4 32, .tmp 5]) Tryz.results136 (le_b rfl) (le_b rfl) d ?_
 refine sq9 (zzj 2 ⟨32, a1.cs ++ a2.cs⟩ (zzj 3 ⟨32, b1.cs ++ b2.cs⟩ (zzj 4 ⟨32, [.bool false, .slice none 0 0, .slice none 0 0, .bool false, .slice none 0 0, .slice none 0 0]⟩ (zza 5 (zI 0) (zzb (zzd (sq9 (zzh 11 (.v (.agg #[.bool b1.s, b1.m.v, b1.d.v, .bool b2.s, b2.m.v, b2.d.v])) ty32 zze (zzg 12 201 [.agg #[.bool b1.s, b1.m.v, b1.d.v, .bool b2.s, b2.m.v, b2.d.v]] ?_)))))))))
 intro w11 u11 e11 d11
 have k14 := k_ivSign d11 (hb1.ext e11) (hb2.ext e11) xq
 with_reducible refine zPm k14 ?_
 rintro _ u12 g13 rfl
 refine zza 13 (zB ((Nt.sgI y1 y2) == 0)) (zzb (zzt (b := (Nt.sgI y1 y2) == 0) xv (fun hb15 => ?_) (fun hb15 => ?_)))
 ·replace hb15 : ((Nt.sgI y1 y2) == 0) = true := hb15
  refine sq9 (zza 14 (.v (.agg #[.bool false, .slice none 0 0, .slice none 0 0, .bool false, .slice none 0 0, .slice none 0 0])) (zzi ⟨32, [.bool false, .slice none 0 0, .slice none 0 0, .bool false, .slice none 0 0, .slice none 0 0]⟩ ty32 ?_))
  refine zza 5 (zI 3) (zzb (zzn (zzv (ret0 [.agg #[.bool false, .slice none 0 0, .slice none 0 0, .bool false, .slice none 0 0, .slice none 0 0], .int .i64 3] ⟨zzq ty32 zze, zzp, trivial⟩ fun u16 e17 => ?_))))
  exact .inl ⟨by simpa using hb15, rfl⟩
 ·replace hb15 : ((Nt.sgI y1 y2) == 0) = false := hb15
  refine zzr (zzo ?_)
  refine sq9 (zzj 6 ⟨180, [.bool false, .slice none 0 0, .slice none 0 0, .bool false, .slice none 0 0, .slice none 0 0, .bool false, .slice none 0 0, .slice none 0 0, .bool false, .slice none 0 0, .slice none 0 0]⟩ (zzb (zzd (sq9 (zza 15 (.adr 2 0) (zzh 16 (.v (a1.v)) ty26 zze (zza 17 (.adr 2 3) (zzh 18 (.v (a2.v)) ty26 zze (zza 19 (.v (.agg #[.bool a1.s, a1.m.v, a1.d.v, .bool a2.s, a2.m.v, a2.d.v])) (zza 20 (zI 0) (zzb ?_)))))))))))
  refine zzs (sw_rounds 2 ?_)
  refine sq9 (zza 21 (zB true) (zzb (zzd (zyq xv (zzr (zzo ?_))))))
  refine zzd (zzs (sq9 (zza 22 (zI 0) (zza 23 (.v (a1.v)) (zzj 8 ⟨26, [.bool false, .slice none 0 0, .slice none 0 0]⟩ (zza 7 (zI 0) (zzi ⟨26, a1.cs⟩ ty26 ?_)))))))
  refine zzb (sq9 (zza 24 (.adr 3 0) (zzh 25 (.v (b1.v)) ty26 zze (zza 26 (.adr 3 3) (zzh 27 (.v (b2.v)) ty26 zze (zza 28 (.v (.agg #[.bool b1.s, b1.m.v, b1.d.v, .bool b2.s, b2.m.v, b2.d.v])) (zza 29 (zI 0) (zzb (zzs (sw_rounds 2 ?_))))))))))
  refine sq9 (zza 30 (zB true) (zzb (zzd (zyq xv (zzr (zzo ?_))))))
  refine zzd (zzs (sq9 (zza 31 (zI 0) (zza 32 (.v (b1.v)) (zzj 10 ⟨26, [.bool false, .slice none 0 0, .slice none 0 0]⟩ (zza 9 (zI 0) (zzi ⟨26, b1.cs⟩ ty26 ?_)))))))
  refine zzc 48 [(3, .adr 3 0), (4, .adr 4 0), (6, .adr 6 0), (7, zI 0), (8, .adr 8 0), (9, zI 0), (10, .adr 10 0), (19, .v (.agg #[.bool a1.s, a1.m.v, a1.d.v, .bool a2.s, a2.m.v, a2.d.v])), (20, zI 0), (28, .v (.agg #[.bool b1.s, b1.m.v, b1.d.v, .bool b2.s, b2.m.v, b2.d.v])), (29, zI 0)] [(3, ⟨32, b1.cs ++ b2.cs⟩), (4, ⟨32, [.bool false, .slice none 0 0, .slice none 0 0, .bool false, .slice none 0 0, .slice none 0 0]⟩), (6, ⟨180, [.bool false, .slice none 0 0, .slice none 0 0, .bool false, .slice none 0 0, .slice none 0 0, .bool false, .slice none 0 0, .slice none 0 0, .bool false, .slice none 0 0, .slice none 0 0]⟩), (8, ⟨26, a1.cs⟩), (10, ⟨26, b1.cs⟩)] (zzf (zza 34 (zI 0) (zza 35 (zI 0) (zza 36 (zI 0) (zza 37 (zI 0) (zzh 38 (.v (a1.v)) ty26 zze (zzh 39 (.v (b1.v)) ty26 zze (zzg 40 202 [a1.v, b1.v] ?_))))))))
  intro w18 u18 e18 d18
  have k23 := k_ratDiv1 d18 (ha1.ext (e11.trans (g13.ext.trans e18))) (hb1.ext (e11.trans (g13.ext.trans e18))) (sgI_ne hb15).1 xq xq
  with_reducible refine zPm k23 ?_
  rintro _ u21 g22 ⟨r19, rfl, h20⟩
  refine zza 33 (.v (.tuple #[r19.v, .int .i64 0])) (zza 41 (.v (r19.v)) (zza 42 (zI 0) (zza 43 (.adr 6 0) (zzi ⟨180, r19.cs ++ [.bool false, .slice none 0 0, .slice none 0 0, .bool false, .slice none 0 0, .slice none 0 0, .bool false, .slice none 0 0, .slice none 0 0]⟩ ty26 ?_))))
  refine zzw ?_
  refine zzo (zzf (zza 44 (zI 1) (zza 29 (zI 1) (zzw ?_))))
  refine rn_next ?_
  refine sw_weak (T := St.of 48 [(3, .adr 3 0), (4, .adr 4 0), (6, .adr 6 0), (7, zI 0), (8, .adr 8 0), (19, .v (.agg #[.bool a1.s, .slice a1.m.a a1.m.n a1.m.c, .slice a1.d.a a1.d.n a1.d.c, .bool a2.s, .slice a2.m.a a2.m.n a2.m.c, .slice a2.d.a a2.d.n a2.d.c])), (20, zI 0), (28, .v (.agg #[.bool b1.s, .slice b1.m.a b1.m.n b1.m.c, .slice b1.d.a b1.d.n b1.d.c, .bool b2.s, .slice b2.m.a b2.m.n b2.m.c, .slice b2.d.a b2.d.n b2.d.c])), (29, zI 1)] [(3, ⟨32, b1.cs ++ b2.cs⟩), (4, ⟨32, [.bool false, .slice none 0 0, .slice none 0 0, .bool false, .slice none 0 0, .slice none 0 0]⟩), (6, ⟨180, r19.cs ++ [.bool false, .slice none 0 0, .slice none 0 0, .bool false, .slice none 0 0, .slice none 0 0, .bool false, .slice none 0 0, .slice none 0 0]⟩), (8, ⟨26, a1.cs⟩)]) yj ?_
  refine sq9 (zza 30 (zB true) (zzb (zzd (zyq xv (zzr (zzo ?_))))))
  refine zzd (zzs (sq9 (zza 31 (zI 1) (zza 32 (.v (b2.v)) (zzj 10 ⟨26, [.bool false, .slice none 0 0, .slice none 0 0]⟩ (zza 9 (zI 1) (zzi ⟨26, b2.cs⟩ ty26 ?_)))))))
  refine zzb (zzf (zza 34 (zI 0) (zza 35 (zI 0) (zza 36 (zI 1) (zza 37 (zI 1) (zzh 38 (.v (a1.v)) ty26 zze (zzh 39 (.v (b2.v)) ty26 zze (zzg 40 202 [a1.v, b2.v] ?_))))))))
  intro w24 u24 e24 d24
  have k29 := k_ratDiv1 d24 (ha1.ext (e11.trans (g13.ext.trans (e18.trans (g22.ext.trans e24))))) (hb2.ext (e11.trans (g13.ext.trans (e18.trans (g22.ext.trans e24))))) (sgI_ne hb15).2 xq xq
  with_reducible refine zPm k29 ?_
  rintro _ u27 g28 ⟨r25, rfl, h26⟩
  refine zza 33 (.v (.tuple #[r25.v, .int .i64 0])) (zza 41 (.v (r25.v)) (zza 42 (zI 0) (zza 43 (.adr 6 3) (zzi ⟨180, r19.cs ++ r25.cs ++ [.bool false, .slice none 0 0, .slice none 0 0, .bool false, .slice none 0 0, .slice none 0 0]⟩ ty26 ?_))))
  refine zzw ?_
  refine zzo (zzf (zza 44 (zI 2) (zza 29 (zI 2) (zzw ?_))))
  refine rn_next ?_
  refine sw_weak (T := St.of 48 [(3, .adr 3 0), (4, .adr 4 0), (6, .adr 6 0), (7, zI 0), (8, .adr 8 0), (19, .v (.agg #[.bool a1.s, .slice a1.m.a a1.m.n a1.m.c, .slice a1.d.a a1.d.n a1.d.c, .bool a2.s, .slice a2.m.a a2.m.n a2.m.c, .slice a2.d.a a2.d.n a2.d.c])), (20, zI 0), (28, .v (.agg #[.bool b1.s, .slice b1.m.a b1.m.n b1.m.c, .slice b1.d.a b1.d.n b1.d.c, .bool b2.s, .slice b2.m.a b2.m.n b2.m.c, .slice b2.d.a b2.d.n b2.d.c])), (29, zI 2)] [(3, ⟨32, b1.cs ++ b2.cs⟩), (4, ⟨32, [.bool false, .slice none 0 0, .slice none 0 0, .bool false, .slice none 0 0, .slice none 0 0]⟩), (6, ⟨180, r19.cs ++ r25.cs ++ [.bool false, .slice none 0 0, .slice none 0 0, .bool false, .slice none 0 0, .slice none 0 0]⟩), (8, ⟨26, a1.cs⟩)]) yj ?_
  refine sq9 (zza 30 (zB false) (zzb (zzd (zyr xv (zyb (zzo (zzf (zza 45 (zI 1) (zza 20 (zI 1) (zzw ?_))))))))))
  refine rn_next ?_
  refine sw_weak (T := St.of 48 [(3, .adr 3 0), (4, .adr 4 0), (6, .adr 6 0), (19, .v (.agg #[.bool a1.s, .slice a1.m.a a1.m.n a1.m.c, .slice a1.d.a a1.d.n a1.d.c, .bool a2.s, .slice a2.m.a a2.m.n a2.m.c, .slice a2.d.a a2.d.n a2.d.c])), (20, zI 1)] [(3, ⟨32, b1.cs ++ b2.cs⟩), (4, ⟨32, [.bool false, .slice none 0 0, .slice none 0 0, .bool false, .slice none 0 0, .slice none 0 0]⟩), (6, ⟨180, r19.cs ++ r25.cs ++ [.bool false, .slice none 0 0, .slice none 0 0, .bool false, .slice none 0 0, .slice none 0 0]⟩)]) yj ?_
  refine sq9 (zza 21 (zB true) (zzb (zzd (zyq xv (zzr (zzo ?_))))))
  refine zzd (zzs (sq9 (zza 22 (zI 1) (zza 23 (.v (a2.v)) (zzj 8 ⟨26, [.bool false, .slice none 0 0, .slice none 0 0]⟩ (zza 7 (zI 1) (zzi ⟨26, a2.cs⟩ ty26 ?_)))))))
  refine zzb (sq9 (zza 24 (.adr 3 0) (zzh 25 (.v (b1.v)) ty26 zze (zza 26 (.adr 3 3) (zzh 27 (.v (b2.v)) ty26 zze (zza 28 (.v (.agg #[.bool b1.s, b1.m.v, b1.d.v, .bool b2.s, b2.m.v, b2.d.v])) (zza 29 (zI 0) (zzb (zzs (sw_rounds 2 ?_))))))))))
  refine sq9 (zza 30 (zB true) (zzb (zzd (zyq xv (zzr (zzo ?_))))))
  refine zzd (zzs (sq9 (zza 31 (zI 0) (zza 32 (.v (b1.v)) (zzj 10 ⟨26, [.bool false, .slice none 0 0, .slice none 0 0]⟩ (zza 9 (zI 0) (zzi ⟨26, b1.cs⟩ ty26 ?_)))))))
  refine zzb (zzf (zza 34 (zI 1) (zza 35 (zI 2) (zza 36 (zI 0) (zza 37 (zI 2) (zzh 38 (.v (a2.v)) ty26 zze (zzh 39 (.v (b1.v)) ty26 zze (zzg 40 202 [a2.v, b1.v] ?_))))))))
  intro w30 u30 e30 d30
  have k35 := k_ratDiv1 d30 (ha2.ext (e11.trans (g13.ext.trans (e18.trans (g22.ext.trans (e24.trans (g28.ext.trans e30))))))) (hb1.ext (e11.trans (g13.ext.trans (e18.trans (g22.ext.trans (e24.trans (g28.ext.trans e30))))))) (sgI_ne hb15).1 xq xq
  with_reducible refine zPm k35 ?_
  rintro _ u33 g34 ⟨r31, rfl, h32⟩
  refine zza 33 (.v (.tuple #[r31.v, .int .i64 0])) (zza 41 (.v (r31.v)) (zza 42 (zI 0) (zza 43 (.adr 6 6) (zzi ⟨180, r19.cs ++ r25.cs ++ r31.cs ++ [.bool false, .slice none 0 0, .slice none 0 0]⟩ ty26 ?_))))
  refine zzw ?_
  refine zzo (zzf (zza 44 (zI 1) (zza 29 (zI 1) (zzw ?_))))
  refine rn_next ?_
  refine sw_weak (T := St.of 48 [(3, .adr 3 0), (4, .adr 4 0), (6, .adr 6 0), (7, zI 1), (8, .adr 8 0), (19, .v (.agg #[.bool a1.s, .slice a1.m.a a1.m.n a1.m.c, .slice a1.d.a a1.d.n a1.d.c, .bool a2.s, .slice a2.m.a a2.m.n a2.m.c, .slice a2.d.a a2.d.n a2.d.c])), (20, zI 1), (28, .v (.agg #[.bool b1.s, .slice b1.m.a b1.m.n b1.m.c, .slice b1.d.a b1.d.n b1.d.c, .bool b2.s, .slice b2.m.a b2.m.n b2.m.c, .slice b2.d.a b2.d.n b2.d.c])), (29, zI 1)] [(3, ⟨32, b1.cs ++ b2.cs⟩), (4, ⟨32, [.bool false, .slice none 0 0, .slice none 0 0, .bool false, .slice none 0 0, .slice none 0 0]⟩), (6, ⟨180, r19.cs ++ r25.cs ++ r31.cs ++ [.bool false, .slice none 0 0, .slice none 0 0]⟩), (8, ⟨26, a2.cs⟩)]) yj ?_
  refine sq9 (zza 30 (zB true) (zzb (zzd (zyq xv (zzr (zzo ?_))))))
  refine zzd (zzs (sq9 (zza 31 (zI 1) (zza 32 (.v (b2.v)) (zzj 10 ⟨26, [.bool false, .slice none 0 0, .slice none 0 0]⟩ (zza 9 (zI 1) (zzi ⟨26, b2.cs⟩ ty26 ?_)))))))
  refine zzc 48 [(3, .adr 3 0), (4, .adr 4 0), (6, .adr 6 0), (7, zI 1), (8, .adr 8 0), (9, zI 1), (10, .adr 10 0), (19, .v (.agg #[.bool a1.s, a1.m.v, a1.d.v, .bool a2.s, a2.m.v, a2.d.v])), (20, zI 1), (28, .v (.agg #[.bool b1.s, b1.m.v, b1.d.v, .bool b2.s, b2.m.v, b2.d.v])), (29, zI 1)] [(3, ⟨32, b1.cs ++ b2.cs⟩), (4, ⟨32, [.bool false, .slice none 0 0, .slice none 0 0, .bool false, .slice none 0 0, .slice none 0 0]⟩), (6, ⟨180, r19.cs ++ r25.cs ++ r31.cs ++ [.bool false, .slice none 0 0, .slice none 0 0]⟩), (8, ⟨26, a2.cs⟩), (10, ⟨26, b2.cs⟩)] (zzf (zza 34 (zI 1) (zza 35 (zI 2) (zza 36 (zI 1) (zza 37 (zI 3) (zzh 38 (.v (a2.v)) ty26 zze (zzh 39 (.v (b2.v)) ty26 zze (zzg 40 202 [a2.v, b2.v] ?_))))))))
  intro w36 u36 e36 d36
  have k41 := k_ratDiv1 d36 (ha2.ext (e11.trans (g13.ext.trans (e18.trans (g22.ext.trans (e24.trans (g28.ext.trans (e30.trans (g34.ext.trans e36))))))))) (hb2.ext (e11.trans (g13.ext.trans (e18.trans (g22.ext.trans (e24.trans (g28.ext.trans (e30.trans (g34.ext.trans e36))))))))) (sgI_ne hb15).2 xq xq
  with_reducible refine zPm k41 ?_
  rintro _ u39 g40 ⟨r37, rfl, h38⟩
  refine zza 33 (.v (.tuple #[r37.v, .int .i64 0])) (zza 41 (.v (r37.v)) (zza 42 (zI 0) (zza 43 (.adr 6 9) (zzi ⟨180, r19.cs ++ r25.cs ++ r31.cs ++ r37.cs⟩ ty26 ?_))))
  refine zzw ?_
  refine zzo (zzf (zza 44 (zI 2) (zza 29 (zI 2) (zzw ?_))))
  refine rn_next ?_
  refine sw_weak (T := St.of 48 [(3, .adr 3 0), (4, .adr 4 0), (6, .adr 6 0), (7, zI 1), (8, .adr 8 0), (19, .v (.agg #[.bool a1.s, .slice a1.m.a a1.m.n a1.m.c, .slice a1.d.a a1.d.n a1.d.c, .bool a2.s, .slice a2.m.a a2.m.n a2.m.c, .slice a2.d.a a2.d.n a2.d.c])), (20, zI 1), (28, .v (.agg #[.bool b1.s, .slice b1.m.a b1.m.n b1.m.c, .slice b1.d.a b1.d.n b1.d.c, .bool b2.s, .slice b2.m.a b2.m.n b2.m.c, .slice b2.d.a b2.d.n b2.d.c])), (29, zI 2)] [(3, ⟨32, b1.cs ++ b2.cs⟩), (4, ⟨32, [.bool false, .slice none 0 0, .slice none 0 0, .bool false, .slice none 0 0, .slice none 0 0]⟩), (6, ⟨180, r19.cs ++ r25.cs ++ r31.cs ++ r37.cs⟩), (8, ⟨26, a2.cs⟩)]) yj ?_
  refine sq9 (zza 30 (zB false) (zzb (zzd (zyr xv (zyb (zzo (zzf (zza 45 (zI 2) (zza 20 (zI 2) (zzw ?_))))))))))
  refine rn_next ?_
  refine sw_weak (T := St.of 48 [(3, .adr 3 0), (4, .adr 4 0), (6, .adr 6 0), (19, .v (.agg #[.bool a1.s, .slice a1.m.a a1.m.n a1.m.c, .slice a1.d.a a1.d.n a1.d.c, .bool a2.s, .slice a2.m.a a2.m.n a2.m.c, .slice a2.d.a a2.d.n a2.d.c])), (20, zI 2)] [(3, ⟨32, b1.cs ++ b2.cs⟩), (4, ⟨32, [.bool false, .slice none 0 0, .slice none 0 0, .bool false, .slice none 0 0, .slice none 0 0]⟩), (6, ⟨180, r19.cs ++ r25.cs ++ r31.cs ++ r37.cs⟩)]) yj ?_
  refine sq9 (zza 21 (zB false) (zzb (zzd (zyr xv (zyb (zzo (sq9 (zzh 46 (.v (.agg #[.bool r19.s, r19.m.v, r19.d.v, .bool r25.s, r25.m.v, r25.d.v, .bool r31.s, r31.m.v, r31.d.v, .bool r37.s, r37.m.v, r37.d.v])) ty180 zze (zzg 47 200 [.agg #[.bool r19.s, r19.m.v, r19.d.v, .bool r25.s, r25.m.v, r25.d.v, .bool r31.s, r31.m.v, r31.d.v, .bool r37.s, r37.m.v, r37.d.v]] ?_)))))))))
  intro w42 u42 e42 d42
  have k49 := k_around d42 (h20.ext (e24.trans (g28.ext.trans (e30.trans (g34.ext.trans (e36.trans (g40.ext.trans e42))))))) (h26.ext (e30.trans (g34.ext.trans (e36.trans (g40.ext.trans e42))))) (h32.ext (e36.trans (g40.ext.trans e42))) (h38.ext e42) xq
  with_reducible refine zPm k49 ?_
  rintro _ u47 g48 ⟨r43, r45, rfl, h44, h46⟩
  refine zzi ⟨32, r43.cs ++ r45.cs⟩ ty32 ?_
  refine zza 5 (zI 0) (zzb (zzn (ret0 [.agg #[.bool r43.s, .slice r43.m.a r43.m.n r43.m.c, .slice r43.d.a r43.d.n r43.d.c, .bool r45.s, .slice r45.m.a r45.m.n r45.m.c, .slice r45.d.a r45.d.n r45.d.c], .int .i64 0] ⟨zzq ty32 zze, zzp, trivial⟩ fun u50 e51 => ?_)))
  exact .inr ⟨by simpa using hb15, r43, r45, rfl, (h44.ext e51), (h46.ext e51)⟩
namespace Nt
namespace Pol
end Pol
section
variable {l m : List Rat} {D E A B n : Nat}
end
end Nt
namespace Nt
section
variable {p q : List Rat} {u v x y : Pol}
end
end Nt
end Go.Proofs.YtbolmkfphieogaaGreat
namespace Go.Proofs.YtbolmkfphieogaaGreat.Nt
open Go.RowKit
open Pol
set_option linter.unusedVariables false
section
variable {P q ps qs l m p : List Rat} {A B D E F a b K : Nat} {c x y : Rat}
end
end Go.Proofs.YtbolmkfphieogaaGreat.Nt
namespace Go.Proofs.YtbolmkfphieogaaGreat
open Go.RowKit
set_option linter.unusedVariables false
end Go.Proofs.YtbolmkfphieogaaGreat
namespace Go.Proofs.YtbolmkfphieogaaGreat
open Go.RowKit
set_option linter.unusedVariables false
end Go.Proofs.YtbolmkfphieogaaGreat
namespace Go.Proofs.YtbolmkfphieogaaGreat.Nt
open Go.RowKit
open Pol
set_option linter.unusedVariables false
end Go.Proofs.YtbolmkfphieogaaGreat.Nt
namespace Go.Proofs.YtbolmkfphieogaaGreat.Nt
open Go.RowKit
open Pol
set_option linter.unusedVariables false
end Go.Proofs.YtbolmkfphieogaaGreat.Nt
namespace Go.Proofs.YtbolmkfphieogaaGreat
set_option linter.unusedVariables false
namespace Nt
section
variable {a1 a2 b1 b2 c1 c2 d1 d2 : Rat}
def hl (a b c d : Rat) : Rat := lo (lo a b) (lo c d)
def hh (a b c d : Rat) : Rat := hi (hi a b) (hi c d)
end
end Nt
end Go.Proofs.YtbolmkfphieogaaGreat
namespace Go.Proofs.YtbolmkfphieogaaGreat.Nt
open Go.RowKit
open Pol
set_option linter.unusedVariables false
section
variable {l : List Rat} {x a b c : Rat} {i n D A B K : Nat} {q : Pol}
end
end Go.Proofs.YtbolmkfphieogaaGreat.Nt
namespace Go.Proofs.YtbolmkfphieogaaGreat.Nt
open Go.RowKit
open Pol
set_option linter.unusedVariables false
section
variable {l m W : List Rat} {x q : Rat} {i A B C : Nat}
def hp (q : Rat) (i : Nat) : Rat := (((q.den ^ (i - 1) : Nat) : Int) : Rat)
def hs (W : List Rat) (q : Rat) (i : Nat) : Rat := hp q i * evL (W.drop (W.length - i)) q
end
end Go.Proofs.YtbolmkfphieogaaGreat.Nt
namespace Go.Proofs.YtbolmkfphieogaaGreat.Nt
open Go.RowKit
open Pol
set_option linter.unusedVariables false
def cz (z : Rat) : Rat := (z + 1 / z) / 2
def fz (k : Nat) : Rat := (((k + 1 : Nat) : Rat) + 1 / ((k + 1 : Nat) : Rat)) / 2
end Go.Proofs.YtbolmkfphieogaaGreat.Nt
namespace Go.Proofs.YtbolmkfphieogaaGreat
open Go.RowKit
set_option linter.unusedVariables false
theorem k_mode {u w : World} {r : Int} (d : Dat u w) (h1 : 1 ≤ r) (h2 : r ≤ 3) : Calls Tryz.prog 238 #[.int .i64 r] w (Post u w fun v _ => v = .bool true) := by
 refine zzl (args := [.int .i64 r]) Tryz.func238 rfl Tryz.ntmps238 (rs := [.tmp 2]) Tryz.results238 (le_b rfl) (le_b rfl) d ?_
 refine sq9 (zza 2 (zB false) (zzb (sq9 (zza 3 (zI r) (zza 4 (zB (decide ((1 : Int) ≤ r))) (zyp 5 (x := zB (decide ((1 : Int) ≤ r))) (zB true) (by rw [show (decide ((1 : Int) ≤ r)) = true from decide_eq_true xq]) (zza 6 (zI r) ?_ (hw := w1 2 true 5))))))))
 refine zza 7 (zB (decide (r ≤ 3))) ?_ (hw := w1 2 true 5)
 refine zza 8 (zB (decide (r ≤ 3))) (zza 2 (zB (decide (r ≤ 3))) (zzb (zzn (ret0 [.bool (decide (r ≤ 3))] ⟨zzp, trivial⟩ fun u12 e13 => ?_))))
 show Value.bool _ = Value.bool _
 rw [show (decide (r ≤ 3)) = true from decide_eq_true xq]
theorem k_fxValid {u w : World} {W : WL} (d : Dat u w) (hW : WdOK W) : Calls Tryz.prog 244 #[W.v] w (Post u w fun v _ => v = .bool true) := by
 obtain ⟨hw1, hw2, hw3, hw4, hw5, hw6, hw7, hw8⟩ := id hW
 refine zzl (args := [.agg #[.int .i64 W.b, .int .i64 W.f, .int .i64 W.r, .int .i64 W.o]]) Tryz.func244 rfl Tryz.ntmps244 (rs := [.tmp 2]) Tryz.results244 (le_b rfl) (le_b rfl) d ?_
 refine sq9 (zzj 1 ⟨183, W.cs⟩ (zza 2 (zB false) (zzb (zzd (sq9 (zza 3 (.adr 1 0) (zzh 4 (zI W.b) ty3 zzk (zza 5 (zB (decide (W.b < 4))) (zyp 6 (x := zB (decide (W.b < 4))) (zB false) (by rw [show (decide (W.b < 4)) = false from decide_eq_false xq]) (zza 7 (.adr 1 0) ?_ (hw := w1 3 false 6)))))))))))
 refine zzh 8 (zI W.b) ty3 zzk ?_ (hw := w1 3 false 6)
 refine zza 9 (zB (decide ((24 : Int) < W.b))) ?_ (hw := w1 3 false 6)
 refine zza 10 (zB (decide ((24 : Int) < W.b))) (zyp 11 (x := zB (decide ((24 : Int) < W.b))) (zB false) (by rw [show (decide ((24 : Int) < W.b)) = false from decide_eq_false xq]) (zza 12 (.adr 1 1) ?_ (hw := w1 8 false 11)))
 refine zzh 13 (zI W.f) ty3 zzk ?_ (hw := w1 8 false 11)
 refine zza 14 (zB (decide (W.f < 0))) ?_ (hw := w1 8 false 11)
 refine zza 15 (zB (decide (W.f < 0))) (zyp 16 (x := zB (decide (W.f < 0))) (zB false) (by rw [show (decide (W.f < 0)) = false from decide_eq_false xq]) (zza 17 (.adr 1 1) ?_ (hw := w1 13 false 16)))
 refine zzh 18 (zI W.f) ty3 zzk ?_ (hw := w1 13 false 16)
 refine zza 19 (.adr 1 0) ?_ (hw := w1 13 false 16)
 refine zzh 20 (zI W.b) ty3 zzk ?_ (hw := w1 13 false 16)
 refine zza 21 (zB (decide (W.b ≤ W.f))) ?_ (hw := w1 13 false 16)
 refine zza 22 (zB (decide (W.b ≤ W.f))) (zzb (zzt (b := decide (W.b ≤ W.f)) xv (fun hb => ?_) (fun hb => ?_)))
 ·exact absurd hb (by rw [show (decide (W.b ≤ W.f)) = false from decide_eq_false xq]; decide)
 ·clear hb
  refine zzr (zzo ?_)
  refine sq9 (zza 23 (.adr 1 2) (zzh 24 (zI W.r) ty3 zzk (zzg 25 238 [.int .i64 W.r] ?_)))
  intro w14 u14 e14 d14
  have k17 := k_mode (r := W.r) d14 xq xq
  with_reducible refine zPm k17 ?_
  rintro _ u15 g16 rfl
  refine zza 26 (zB true) (zza 27 (.adr 1 3) ?_ (hw := w1 3 true 26))
  refine zzh 28 (zI W.o) ty3 zzk ?_ (hw := w1 3 true 26)
  refine zza 29 (zB (W.o == 1)) ?_ (hw := w1 3 true 26)
  rcases Bool.eq_false_or_eq_true (W.o == 1) with hs18 | hs18
  ·refine zyp 30 (x := zB (W.o == 1)) (zB true) (by rw [hs18]) ?_ (hw := w1 3 true 26)
   refine zzm 31 (uw 7 false true 30) (zzm 32 (uw 7 false true 30) (zzm 33 (uw 7 false true 30) (zza 34 (zB true) ?_ (hw := w1 3 true 26))))
   refine zza 35 (zB true) (zza 2 (zB true) (zzc 36 [(2, zB true)] [] (zzn (ret0 [.bool true] ⟨zzp, trivial⟩ fun u19 e20 => ?_))))
   rfl
  ·refine zyp 30 (x := zB (W.o == 1)) (zB false) (by rw [hs18]) ?_ (hw := w1 3 true 26)
   refine zza 31 (.adr 1 3) ?_ (hw := w1 7 false 30)
   refine zzh 32 (zI W.o) ty3 zzk ?_ (hw := w1 7 false 30)
   refine zza 33 (zB (W.o == 2)) ?_ (hw := w1 7 false 30)
   refine zza 34 (zB (W.o == 2)) ?_ (hw := w1 3 true 26)
   refine zza 35 (zB (W.o == 2)) (zza 2 (zB (W.o == 2)) (zzc 36 [(2, zB (W.o == 2))] [] (zzn (ret0 [.bool (W.o == 2)] ⟨zzp, trivial⟩ fun u21 e22 => ?_))))
   show Value.bool _ = Value.bool _
   rw [show (W.o == 2) = true from (by have hz := hs18; simp at hz ⊢; omega)]
theorem k_fxLow {u w : World} {W : WL} (d : Dat u w) (hW : WdOK W) : Calls Tryz.prog 255 #[W.v] w (Post u w fun v _ => v = .int .i64 (-Nt.p2i (W.b - 1))) := by
 obtain ⟨hw1, hw2, hw3, hw4, hw5, hw6, hw7, hw8⟩ := id hW
 have hp1 := Nt.zxl (W.b - 1)
 have hp2 := Nt.p2i_24 (n := W.b - 1) xq
 refine zzl (args := [.agg #[.int .i64 W.b, .int .i64 W.f, .int .i64 W.r, .int .i64 W.o]]) Tryz.func255 rfl Tryz.ntmps255 (rs := [.tmp 2]) Tryz.results255 (le_b rfl) (le_b rfl) d ?_
 refine sq9 (zzj 1 ⟨183, W.cs⟩ (zza 2 (zI 0) (zzb (zzd (sq9 (zzh 3 (.v (W.v)) ty183 zze (zzg 4 244 [W.v] ?_)))))))
 intro w11 u11 e11 d11
 have k14 := k_fxValid (W := W) d11 hW
 with_reducible refine zPm k14 ?_
 rintro _ u12 g13 rfl
 refine zza 5 (zB false) (zzb (zyr xv (zzr (zzo ?_))))
 refine sq9 (zza 6 (.adr 1 0) (zzh 7 (zI W.b) ty3 zzk (zyp 8 (x := zI (IntKind.i64.wrap (W.b - 1))) (zI (W.b - 1)) xw (sy_shl 9 (k := .i64) (s := W.b - 1) (Nt.p2i (W.b - 1)) xq yv (shl_one xq xq) ?_))))
 refine zyp 10 (x := zI (IntKind.i64.wrap (0 - Nt.p2i (W.b - 1)))) (zI (-Nt.p2i (W.b - 1))) (by rw [show (IntKind.i64.wrap (0 - Nt.p2i (W.b - 1))) = (-Nt.p2i (W.b - 1)) from xk]) (zza 2 (zI (-Nt.p2i (W.b - 1))) (zzb (zzn (ret0 [.int .i64 (-Nt.p2i (W.b - 1))] ⟨zzp, trivial⟩ fun u15 e16 => ?_))))
 rfl
theorem k_fxHigh {u w : World} {W : WL} (d : Dat u w) (hW : WdOK W) : Calls Tryz.prog 256 #[W.v] w (Post u w fun v _ => v = .int .i64 (Nt.p2i (W.b - 1) - 1)) := by
 obtain ⟨hw1, hw2, hw3, hw4, hw5, hw6, hw7, hw8⟩ := id hW
 have hp1 := Nt.zxl (W.b - 1)
 have hp2 := Nt.p2i_24 (n := W.b - 1) xq
 refine zzl (args := [.agg #[.int .i64 W.b, .int .i64 W.f, .int .i64 W.r, .int .i64 W.o]]) Tryz.func256 rfl Tryz.ntmps256 (rs := [.tmp 2]) Tryz.results256 (le_b rfl) (le_b rfl) d ?_
 refine sq9 (zzj 1 ⟨183, W.cs⟩ (zza 2 (zI 0) (zzb (zzd (sq9 (zzh 3 (.v (W.v)) ty183 zze (zzg 4 244 [W.v] ?_)))))))
 intro w11 u11 e11 d11
 have k14 := k_fxValid (W := W) d11 hW
 with_reducible refine zPm k14 ?_
 rintro _ u12 g13 rfl
 refine zza 5 (zB false) (zzb (zyr xv (zzr (zzo ?_))))
 refine sq9 (zza 6 (.adr 1 0) (zzh 7 (zI W.b) ty3 zzk (zyp 8 (x := zI (IntKind.i64.wrap (W.b - 1))) (zI (W.b - 1)) xw (sy_shl 9 (k := .i64) (s := W.b - 1) (Nt.p2i (W.b - 1)) xq yv (shl_one xq xq) ?_))))
 refine zyp 10 (x := zI (IntKind.i64.wrap ((Nt.p2i (W.b - 1)) - 1))) (zI ((Nt.p2i (W.b - 1)) - 1)) xw (zza 2 (zI ((Nt.p2i (W.b - 1)) - 1)) (zzb (zzn (ret0 [.int .i64 ((Nt.p2i (W.b - 1)) - 1)] ⟨zzp, trivial⟩ fun u15 e16 => ?_))))
 rfl
theorem k_fxFits {u w : World} {W : WL} {z : Int} (d : Dat u w) (hW : WdOK W) (h0 : -Nt.p2i (W.b - 1) ≤ z) (h1 : z < Nt.p2i (W.b - 1)) : Calls Tryz.prog 246 #[W.v, .int .i64 z] w (Post u w fun v _ => v = .bool true) := by
 obtain ⟨hw1, hw2, hw3, hw4, hw5, hw6, hw7, hw8⟩ := id hW
 refine zzl (args := [.agg #[.int .i64 W.b, .int .i64 W.f, .int .i64 W.r, .int .i64 W.o], .int .i64 z]) Tryz.func246 rfl Tryz.ntmps246 (rs := [.tmp 4]) Tryz.results246 (le_b rfl) (le_b rfl) d ?_
 refine sq9 (zzj 2 ⟨183, W.cs⟩ (zza 4 (zB false) (zzb (sq9 (zzh 5 (.v (W.v)) ty183 zze (zzg 6 244 [W.v] ?_))))))
 intro w11 u11 e11 d11
 have k14 := k_fxValid (W := W) d11 hW
 with_reducible refine zPm k14 ?_
 rintro _ u12 g13 rfl
 refine zza 7 (zB true) (zza 8 (zI z) ?_ (hw := w1 2 true 7))
 refine zzh 9 (.v (W.v)) ty183 zze ?_ (hw := w1 2 true 7)
 refine zzg 10 255 [W.v] ?_ (hw := w1 2 true 7)
 intro w15 u15 e15 d15
 have k18 := k_fxLow (W := W) d15 hW
 with_reducible refine zPm k18 ?_
 rintro _ u16 g17 rfl
 refine zza 11 (zB (decide ((-Nt.p2i (W.b - 1)) ≤ z))) ?_ (hw := w1 2 true 7)
 refine zza 12 (zB (decide ((-Nt.p2i (W.b - 1)) ≤ z))) (zyp 13 (x := zB (decide ((-Nt.p2i (W.b - 1)) ≤ z))) (zB true) (by rw [show (decide ((-Nt.p2i (W.b - 1)) ≤ z)) = true from decide_eq_true xq]) (zza 14 (zI z) ?_ (hw := w1 8 true 13)))
 refine zzh 15 (.v (W.v)) ty183 zze ?_ (hw := w1 8 true 13)
 refine zzg 16 256 [W.v] ?_ (hw := w1 8 true 13)
 intro w20 u20 e20 d20
 have k23 := k_fxHigh (W := W) d20 hW
 with_reducible refine zPm k23 ?_
 rintro _ u21 g22 rfl
 refine zza 17 (zB (decide (z ≤ (Nt.p2i (W.b - 1) - 1)))) ?_ (hw := w1 8 true 13)
 refine zza 18 (zB (decide (z ≤ (Nt.p2i (W.b - 1) - 1)))) (zza 4 (zB (decide (z ≤ (Nt.p2i (W.b - 1) - 1)))) (zzb (zzn (ret0 [.bool (decide (z ≤ (Nt.p2i (W.b - 1) - 1)))] ⟨zzp, trivial⟩ fun u24 e25 => ?_))))
 show Value.bool _ = Value.bool _
 rw [show (decide (z ≤ (Nt.p2i (W.b - 1) - 1))) = true from decide_eq_true xq]
theorem k_within {u w : World} {n m : Int} (d : Dat u w) (hm : 1 ≤ m) (hm2 : m ≤ 4611686018427387904) (hn0 : -9223372036854775808 ≤ n) (hn1 : n ≤ 9223372036854775807) : Calls Tryz.prog 45 #[.int .i64 n, .int .i64 m] w (Post u w fun v _ => v = .int .i64 (n % m)) := by
 refine zzl (args := [.int .i64 n, .int .i64 m]) Tryz.func45 rfl Tryz.ntmps45 (rs := [.tmp 4]) Tryz.results45 (le_b rfl) (le_b rfl) d ?_
 refine sq9 (zza 4 (zI 0) (zzb (zzd (sq9 (zza 5 (zI m) (zyp 6 (x := zB (decide (m < 1))) (zB false) (by rw [show (decide (m < 1)) = false from (by simp; omega)]) (zzb (zyr xv (zzr (zzo ?_))))))))))
 refine sq9 (zza 7 (zI n) (zza 8 (zI m) (sy_rem 9 (Int.tmod n m) xq rfl ?_)))
 refine zza 0 (zI (Int.tmod n m)) (zzb (zzd (sq9 (zza 10 (zI (Int.tmod n m)) (zza 11 (zB (decide ((Int.tmod n m) < 0))) (zzb (zzt (b := decide ((Int.tmod n m) < 0)) xv (fun hb11 => ?_) (fun hb11 => ?_))))))))
 ·replace hb11 : (decide ((Int.tmod n m) < 0)) = true := hb11
  have qhb11 := of_decide_eq_true hb11
  refine zzf (zza 12 (zI (Int.tmod n m)) (zza 13 (zI m) (zyp 14 (x := zI (IntKind.i64.wrap (Int.tmod n m + m))) (zI (Int.tmod n m + m)) (by rw [show (IntKind.i64.wrap (Int.tmod n m + m)) = (Int.tmod n m + m) from (IntWalk.i64_in _ (by have h2 := Int.lt_tmod_of_pos n (show 0 < m by omega); have h3 := Int.tmod_lt_of_pos n (show 0 < m by omega); omega))]) (zza 0 (zI (Int.tmod n m + m)) (zzb (sq9 (zza 15 (zI (Int.tmod n m + m)) (zza 4 (zI (Int.tmod n m + m)) (zzb (zzn (ret0 [.int .i64 (Int.tmod n m + m)] ⟨zzp, trivial⟩ fun u12 e13 => ?_)))))))))))
  show Value.int _ _ = Value.int _ _
  rw [mod_neg9 m hm n hb11]
 ·replace hb11 : (decide ((Int.tmod n m) < 0)) = false := hb11
  have qhb11 := of_decide_eq_false hb11
  refine zzr (zzo ?_)
  refine sq9 (zza 15 (zI (Int.tmod n m)) (zza 4 (zI (Int.tmod n m)) (zzb (zzn (ret0 [.int .i64 (Int.tmod n m)] ⟨zzp, trivial⟩ fun u14 e15 => ?_)))))
  show Value.int _ _ = Value.int _ _
  rw [mod_pos9 m hm n hb11]
end Go.Proofs.YtbolmkfphieogaaGreat
namespace Go.Proofs.YtbolmkfphieogaaGreat
open Go.RowKit
set_option linter.unusedVariables false
theorem k_fxShift1 {u w : World} {v n : Int} (d : Dat u w) (hv0 : -1152921504606846976 ≤ v) (hv1 : v ≤ 1152921504606846976) (hn0 : 0 ≤ n) (hn1 : n ≤ 24) : Calls Tryz.prog 191 #[.int .i64 v, .int .i64 n, .int .i64 1] w (Post u w fun y _ => y = .int .i64 (Nt.shiftW v n 1)) := by
 have hp1 := Nt.zxl n
 have hp2 := Nt.p2i_24 (n := n) xq
 have hd1 := Nt.div_bd (v := v) hp1
 have hm1 := Int.emod_nonneg (v / Nt.p2i (n - 1)) (show (2 : Int) ≠ 0 by decide)
 have hm2 := Int.emod_lt_of_pos (v / Nt.p2i (n - 1)) (show (0 : Int) < 2 by decide)
 refine zzl (args := [.int .i64 v, .int .i64 n, .int .i64 1]) Tryz.func191 rfl Tryz.ntmps191 (rs := [.tmp 6]) Tryz.results191 (le_b rfl) (le_b rfl) d ?_
 refine sq9 (zza 6 (zI 0) (zzb (zzd (sq9 (zza 9 (zI n) (zza 10 (zB (decide (n < 0))) (zyp 11 (x := zB (decide (n < 0))) (zB false) (by rw [show (decide (n < 0)) = false from decide_eq_false xq]) (zza 12 (zI n) ?_ (hw := w1 2 false 11)))))))))
 refine zza 13 (zB (decide ((62 : Int) < n))) ?_ (hw := w1 2 false 11)
 refine zza 14 (zB (decide ((62 : Int) < n))) (zyp 15 (x := zB (decide ((62 : Int) < n))) (zB false) (by rw [show (decide ((62 : Int) < n)) = false from decide_eq_false xq]) (zza 16 (zI 1) ?_ (hw := w1 6 false 15)))
 refine zzg 17 238 [.int .i64 1] ?_ (hw := w1 6 false 15)
 intro w13 u13 e13 d13
 have k16 := k_mode (r := 1) d13 xq xq
 with_reducible refine zPm k16 ?_
 rintro _ u14 g15 rfl
 refine zza 18 (zB false) ?_ (hw := w1 6 false 15)
 refine zza 19 (zB false) (zzb (zyr xv (zzr (zzo ?_))))
 refine zzd (sq9 (zza 20 (zI n) (zza 21 (zB (n == 0)) (zzb (zzt (b := n == 0) xv (fun hb17 => ?_) (fun hb17 => ?_))))))
 ·replace hb17 : (n == 0) = true := hb17
  have qhb17 := hb17
  simp at qhb17
  refine sq9 (zza 22 (zI v) (zza 6 (zI v) (zzb (zzn (zzv (ret0 [.int .i64 v] ⟨zzp, trivial⟩ fun u18 e19 => ?_))))))
  show Value.int _ _ = Value.int _ _
  unfold Nt.shiftW
  rw [if_pos qhb17]
 ·replace hb17 : (n == 0) = false := hb17
  have qhb17 := hb17
  simp at qhb17
  refine zzr (zzo ?_)
  refine sq9 (zza 23 (zI v) (zza 24 (zI n) (sy_shr 25 (k := .i64) (n := v) (s := n) (v / Nt.p2i n) xq yv rfl ?_)))
  refine zza 7 (zI (v / Nt.p2i n)) (zzb (sq9 (zza 26 (zI (v / Nt.p2i n)) (zza 27 (zI (v / Nt.p2i n)) (zza 28 (zI v) (zza 29 (zI n) (zyp 30 (x := zI (IntKind.i64.wrap (n - 1))) (zI (n - 1)) xw (sy_shr 31 (k := .i64) (n := v) (s := n - 1) (v / Nt.p2i (n - 1)) xq yv rfl ?_))))))))
  refine zyp 32 (x := zI (bits .and .i64 (v / Nt.p2i (n - 1)) 1)) (zI (v / Nt.p2i (n - 1) % 2)) (eqI (Nt.bits_1 _)) (zyp 33 (x := zI (IntKind.i64.wrap ((v / Nt.p2i n) + (v / Nt.p2i (n - 1) % 2)))) (zI ((v / Nt.p2i n) + (v / Nt.p2i (n - 1) % 2))) xw (zza 34 (zI (v / Nt.p2i n)) (zza 35 (.v (.agg #[.int .i64 (v / Nt.p2i n), .int .i64 ((v / Nt.p2i n) + (v / Nt.p2i (n - 1) % 2)), .int .i64 (v / Nt.p2i n)])) (zzj 8 ⟨200, [.int .i64 0, .int .i64 0, .int .i64 0]⟩ (zzi ⟨200, [.int .i64 (v / Nt.p2i n), .int .i64 ((v / Nt.p2i n) + (v / Nt.p2i (n - 1) % 2)), .int .i64 (v / Nt.p2i n)]⟩ ty200 ?_)))))
  refine zzb (zzd (sq9 (zza 36 (zI v) (zza 37 (zB (decide (v < 0))) ?_))))
  rcases Bool.eq_false_or_eq_true (decide (v < 0)) with hs20 | hs20
  ·refine zyp 38 (x := zB (decide (v < 0))) (zB true) (by rw [hs20]) ?_
   have qhs20 := of_decide_eq_true hs20
   refine zza 39 (zI v) ?_ (hw := w1 2 true 38)
   refine zza 40 (zI n) ?_ (hw := w1 2 true 38)
   refine sy_shl 41 (k := .i64) (s := n) (Nt.p2i n) xq yv (shl_one xq xq) ?_ (hw := w1 2 true 38)
   refine zyp 42 (x := zI (IntKind.i64.wrap ((Nt.p2i n) - 1))) (zI ((Nt.p2i n) - 1)) xw ?_ (hw := w1 2 true 38)
   refine zyp 43 (x := zI (bits .and .i64 v (Nt.p2i n - 1))) (zI (v % Nt.p2i n)) (eqI (Nt.bits_p2 xq xq)) ?_ (hw := w1 2 true 38)
   refine zza 44 (zB ((v % Nt.p2i n) != 0)) ?_ (hw := w1 2 true 38)
   refine zza 45 (zB ((v % Nt.p2i n) != 0)) (zzc 54 [(2, zI 1), (8, .adr 8 0), (45, zB ((v % Nt.p2i n) != 0))] [(8, ⟨200, [.int .i64 (v / Nt.p2i n), .int .i64 ((v / Nt.p2i n) + (v / Nt.p2i (n - 1) % 2)), .int .i64 (v / Nt.p2i n)]⟩)] (zzt (b := (v % Nt.p2i n) != 0) xv (fun hb21 => ?_) (fun hb21 => ?_)))
   ·replace hb21 : ((v % Nt.p2i n) != 0) = true := hb21
    have qhb21 := hb21
    simp at qhb21
    refine zzf (zza 46 (.adr 8 2) (zzh 47 (zI (v / Nt.p2i n)) ty3 zzk (zyp 48 (x := zI (IntKind.i64.wrap ((v / Nt.p2i n) + 1))) (zI ((v / Nt.p2i n) + 1)) xw (zza 49 (.adr 8 2) (zzi ⟨200, [.int .i64 (v / Nt.p2i n), .int .i64 ((v / Nt.p2i n) + (v / Nt.p2i (n - 1) % 2)), .int .i64 ((v / Nt.p2i n) + 1)]⟩ ty3 ?_)))))
    refine zzb (sq9 (zza 50 (zI 1) (zza 51 (zI 0) (zza 52 (.adr 8 0) (zzh 53 (zI (v / Nt.p2i n)) ty3 zzk (zza 6 (zI (v / Nt.p2i n)) (zzb (zzn (ret0 [.int .i64 (v / Nt.p2i n)] ⟨zzp, trivial⟩ fun u22 e23 => ?_)))))))))
    show Value.int _ _ = Value.int _ _
    unfold Nt.shiftW
    rw [if_neg qhb17]
    rw [if_neg xz]
    rw [if_neg (by rintro ⟨h9, _⟩; exact absurd h9 xz)]
   ·replace hb21 : ((v % Nt.p2i n) != 0) = false := hb21
    have qhb21 := hb21
    simp at qhb21
    refine zzr (zzo ?_)
    refine sq9 (zza 50 (zI 1) (zza 51 (zI 0) (zza 52 (.adr 8 0) (zzh 53 (zI (v / Nt.p2i n)) ty3 zzk (zza 6 (zI (v / Nt.p2i n)) (zzb (zzn (ret0 [.int .i64 (v / Nt.p2i n)] ⟨zzp, trivial⟩ fun u24 e25 => ?_))))))))
    show Value.int _ _ = Value.int _ _
    unfold Nt.shiftW
    rw [if_neg qhb17]
    rw [if_neg xz]
    rw [if_neg (by rintro ⟨h9, _⟩; exact absurd h9 xz)]
  ·refine zyp 38 (x := zB (decide (v < 0))) (zB false) (by rw [hs20]) ?_
   have qhs20 := of_decide_eq_false hs20
   refine zzm 39 (uw 2 true false 38) (zzm 40 (uw 2 true false 38) (zzm 41 (uw 2 true false 38) (zzm 42 (uw 2 true false 38) (zzm 43 (uw 2 true false 38) (zzm 44 (uw 2 true false 38) (zza 45 (zB false) (zzc 54 [(2, zI 1), (8, .adr 8 0), (45, zB false)] [(8, ⟨200, [.int .i64 (v / Nt.p2i n), .int .i64 ((v / Nt.p2i n) + (v / Nt.p2i (n - 1) % 2)), .int .i64 (v / Nt.p2i n)]⟩)] (zyr xv (zzr (zzo ?_))))))))))
   refine sq9 (zza 50 (zI 1) (zza 51 (zI 0) (zza 52 (.adr 8 0) (zzh 53 (zI (v / Nt.p2i n)) ty3 zzk (zza 6 (zI (v / Nt.p2i n)) (zzb (zzn (ret0 [.int .i64 (v / Nt.p2i n)] ⟨zzp, trivial⟩ fun u26 e27 => ?_))))))))
   show Value.int _ _ = Value.int _ _
   unfold Nt.shiftW
   rw [if_neg qhb17]
   rw [if_neg xz]
   rw [if_neg (by rintro ⟨h9, _⟩; exact absurd h9 xz)]
theorem k_fxShift2 {u w : World} {v n : Int} (d : Dat u w) (hv0 : -1152921504606846976 ≤ v) (hv1 : v ≤ 1152921504606846976) (hn0 : 0 ≤ n) (hn1 : n ≤ 24) : Calls Tryz.prog 191 #[.int .i64 v, .int .i64 n, .int .i64 2] w (Post u w fun y _ => y = .int .i64 (Nt.shiftW v n 2)) := by
 have hp1 := Nt.zxl n
 have hp2 := Nt.p2i_24 (n := n) xq
 have hd1 := Nt.div_bd (v := v) hp1
 have hm1 := Int.emod_nonneg (v / Nt.p2i (n - 1)) (show (2 : Int) ≠ 0 by decide)
 have hm2 := Int.emod_lt_of_pos (v / Nt.p2i (n - 1)) (show (0 : Int) < 2 by decide)
 refine zzl (args := [.int .i64 v, .int .i64 n, .int .i64 2]) Tryz.func191 rfl Tryz.ntmps191 (rs := [.tmp 6]) Tryz.results191 (le_b rfl) (le_b rfl) d ?_
 refine sq9 (zza 6 (zI 0) (zzb (zzd (sq9 (zza 9 (zI n) (zza 10 (zB (decide (n < 0))) (zyp 11 (x := zB (decide (n < 0))) (zB false) (by rw [show (decide (n < 0)) = false from decide_eq_false xq]) (zza 12 (zI n) ?_ (hw := w1 2 false 11)))))))))
 refine zza 13 (zB (decide ((62 : Int) < n))) ?_ (hw := w1 2 false 11)
 refine zza 14 (zB (decide ((62 : Int) < n))) (zyp 15 (x := zB (decide ((62 : Int) < n))) (zB false) (by rw [show (decide ((62 : Int) < n)) = false from decide_eq_false xq]) (zza 16 (zI 2) ?_ (hw := w1 6 false 15)))
 refine zzg 17 238 [.int .i64 2] ?_ (hw := w1 6 false 15)
 intro w13 u13 e13 d13
 have k16 := k_mode (r := 2) d13 xq xq
 with_reducible refine zPm k16 ?_
 rintro _ u14 g15 rfl
 refine zza 18 (zB false) ?_ (hw := w1 6 false 15)
 refine zza 19 (zB false) (zzb (zyr xv (zzr (zzo ?_))))
 refine zzd (sq9 (zza 20 (zI n) (zza 21 (zB (n == 0)) (zzb (zzt (b := n == 0) xv (fun hb17 => ?_) (fun hb17 => ?_))))))
 ·replace hb17 : (n == 0) = true := hb17
  have qhb17 := hb17
  simp at qhb17
  refine sq9 (zza 22 (zI v) (zza 6 (zI v) (zzb (zzn (zzv (ret0 [.int .i64 v] ⟨zzp, trivial⟩ fun u18 e19 => ?_))))))
  show Value.int _ _ = Value.int _ _
  unfold Nt.shiftW
  rw [if_pos qhb17]
 ·replace hb17 : (n == 0) = false := hb17
  have qhb17 := hb17
  simp at qhb17
  refine zzr (zzo ?_)
  refine sq9 (zza 23 (zI v) (zza 24 (zI n) (sy_shr 25 (k := .i64) (n := v) (s := n) (v / Nt.p2i n) xq yv rfl ?_)))
  refine zza 7 (zI (v / Nt.p2i n)) (zzb (sq9 (zza 26 (zI (v / Nt.p2i n)) (zza 27 (zI (v / Nt.p2i n)) (zza 28 (zI v) (zza 29 (zI n) (zyp 30 (x := zI (IntKind.i64.wrap (n - 1))) (zI (n - 1)) xw (sy_shr 31 (k := .i64) (n := v) (s := n - 1) (v / Nt.p2i (n - 1)) xq yv rfl ?_))))))))
  refine zyp 32 (x := zI (bits .and .i64 (v / Nt.p2i (n - 1)) 1)) (zI (v / Nt.p2i (n - 1) % 2)) (eqI (Nt.bits_1 _)) (zyp 33 (x := zI (IntKind.i64.wrap ((v / Nt.p2i n) + (v / Nt.p2i (n - 1) % 2)))) (zI ((v / Nt.p2i n) + (v / Nt.p2i (n - 1) % 2))) xw (zza 34 (zI (v / Nt.p2i n)) (zza 35 (.v (.agg #[.int .i64 (v / Nt.p2i n), .int .i64 ((v / Nt.p2i n) + (v / Nt.p2i (n - 1) % 2)), .int .i64 (v / Nt.p2i n)])) (zzj 8 ⟨200, [.int .i64 0, .int .i64 0, .int .i64 0]⟩ (zzi ⟨200, [.int .i64 (v / Nt.p2i n), .int .i64 ((v / Nt.p2i n) + (v / Nt.p2i (n - 1) % 2)), .int .i64 (v / Nt.p2i n)]⟩ ty200 ?_)))))
  refine zzb (zzd (sq9 (zza 36 (zI v) (zza 37 (zB (decide (v < 0))) ?_))))
  rcases Bool.eq_false_or_eq_true (decide (v < 0)) with hs20 | hs20
  ·refine zyp 38 (x := zB (decide (v < 0))) (zB true) (by rw [hs20]) ?_
   have qhs20 := of_decide_eq_true hs20
   refine zza 39 (zI v) ?_ (hw := w1 2 true 38)
   refine zza 40 (zI n) ?_ (hw := w1 2 true 38)
   refine sy_shl 41 (k := .i64) (s := n) (Nt.p2i n) xq yv (shl_one xq xq) ?_ (hw := w1 2 true 38)
   refine zyp 42 (x := zI (IntKind.i64.wrap ((Nt.p2i n) - 1))) (zI ((Nt.p2i n) - 1)) xw ?_ (hw := w1 2 true 38)
   refine zyp 43 (x := zI (bits .and .i64 v (Nt.p2i n - 1))) (zI (v % Nt.p2i n)) (eqI (Nt.bits_p2 xq xq)) ?_ (hw := w1 2 true 38)
   refine zza 44 (zB ((v % Nt.p2i n) != 0)) ?_ (hw := w1 2 true 38)
   refine zza 45 (zB ((v % Nt.p2i n) != 0)) (zzc 54 [(2, zI 2), (8, .adr 8 0), (45, zB ((v % Nt.p2i n) != 0))] [(8, ⟨200, [.int .i64 (v / Nt.p2i n), .int .i64 ((v / Nt.p2i n) + (v / Nt.p2i (n - 1) % 2)), .int .i64 (v / Nt.p2i n)]⟩)] (zzt (b := (v % Nt.p2i n) != 0) xv (fun hb21 => ?_) (fun hb21 => ?_)))
   ·replace hb21 : ((v % Nt.p2i n) != 0) = true := hb21
    have qhb21 := hb21
    simp at qhb21
    refine zzf (zza 46 (.adr 8 2) (zzh 47 (zI (v / Nt.p2i n)) ty3 zzk (zyp 48 (x := zI (IntKind.i64.wrap ((v / Nt.p2i n) + 1))) (zI ((v / Nt.p2i n) + 1)) xw (zza 49 (.adr 8 2) (zzi ⟨200, [.int .i64 (v / Nt.p2i n), .int .i64 ((v / Nt.p2i n) + (v / Nt.p2i (n - 1) % 2)), .int .i64 ((v / Nt.p2i n) + 1)]⟩ ty3 ?_)))))
    refine zzb (sq9 (zza 50 (zI 2) (zza 51 (zI 1) (zza 52 (.adr 8 1) (zzh 53 (zI ((v / Nt.p2i n) + (v / Nt.p2i (n - 1) % 2))) ty3 zzk (zza 6 (zI ((v / Nt.p2i n) + (v / Nt.p2i (n - 1) % 2))) (zzb (zzn (ret0 [.int .i64 ((v / Nt.p2i n) + (v / Nt.p2i (n - 1) % 2))] ⟨zzp, trivial⟩ fun u22 e23 => ?_)))))))))
    show Value.int _ _ = Value.int _ _
    unfold Nt.shiftW
    rw [if_neg qhb17]
    rw [if_pos rfl]
   ·replace hb21 : ((v % Nt.p2i n) != 0) = false := hb21
    have qhb21 := hb21
    simp at qhb21
    refine zzr (zzo ?_)
    refine sq9 (zza 50 (zI 2) (zza 51 (zI 1) (zza 52 (.adr 8 1) (zzh 53 (zI ((v / Nt.p2i n) + (v / Nt.p2i (n - 1) % 2))) ty3 zzk (zza 6 (zI ((v / Nt.p2i n) + (v / Nt.p2i (n - 1) % 2))) (zzb (zzn (ret0 [.int .i64 ((v / Nt.p2i n) + (v / Nt.p2i (n - 1) % 2))] ⟨zzp, trivial⟩ fun u24 e25 => ?_))))))))
    show Value.int _ _ = Value.int _ _
    unfold Nt.shiftW
    rw [if_neg qhb17]
    rw [if_pos rfl]
  ·refine zyp 38 (x := zB (decide (v < 0))) (zB false) (by rw [hs20]) ?_
   have qhs20 := of_decide_eq_false hs20
   refine zzm 39 (uw 2 true false 38) (zzm 40 (uw 2 true false 38) (zzm 41 (uw 2 true false 38) (zzm 42 (uw 2 true false 38) (zzm 43 (uw 2 true false 38) (zzm 44 (uw 2 true false 38) (zza 45 (zB false) (zzc 54 [(2, zI 2), (8, .adr 8 0), (45, zB false)] [(8, ⟨200, [.int .i64 (v / Nt.p2i n), .int .i64 ((v / Nt.p2i n) + (v / Nt.p2i (n - 1) % 2)), .int .i64 (v / Nt.p2i n)]⟩)] (zyr xv (zzr (zzo ?_))))))))))
   refine sq9 (zza 50 (zI 2) (zza 51 (zI 1) (zza 52 (.adr 8 1) (zzh 53 (zI ((v / Nt.p2i n) + (v / Nt.p2i (n - 1) % 2))) ty3 zzk (zza 6 (zI ((v / Nt.p2i n) + (v / Nt.p2i (n - 1) % 2))) (zzb (zzn (ret0 [.int .i64 ((v / Nt.p2i n) + (v / Nt.p2i (n - 1) % 2))] ⟨zzp, trivial⟩ fun u26 e27 => ?_))))))))
   show Value.int _ _ = Value.int _ _
   unfold Nt.shiftW
   rw [if_neg qhb17]
   rw [if_pos rfl]
theorem k_fxShift3 {u w : World} {v n : Int} (d : Dat u w) (hv0 : -1152921504606846976 ≤ v) (hv1 : v ≤ 1152921504606846976) (hn0 : 0 ≤ n) (hn1 : n ≤ 24) : Calls Tryz.prog 191 #[.int .i64 v, .int .i64 n, .int .i64 3] w (Post u w fun y _ => y = .int .i64 (Nt.shiftW v n 3)) := by
 have hp1 := Nt.zxl n
 have hp2 := Nt.p2i_24 (n := n) xq
 have hd1 := Nt.div_bd (v := v) hp1
 have hm1 := Int.emod_nonneg (v / Nt.p2i (n - 1)) (show (2 : Int) ≠ 0 by decide)
 have hm2 := Int.emod_lt_of_pos (v / Nt.p2i (n - 1)) (show (0 : Int) < 2 by decide)
 refine zzl (args := [.int .i64 v, .int .i64 n, .int .i64 3]) Tryz.func191 rfl Tryz.ntmps191 (rs := [.tmp 6]) Tryz.results191 (le_b rfl) (le_b rfl) d ?_
 refine sq9 (zza 6 (zI 0) (zzb (zzd (sq9 (zza 9 (zI n) (zza 10 (zB (decide (n < 0))) (zyp 11 (x := zB (decide (n < 0))) (zB false) (by rw [show (decide (n < 0)) = false from decide_eq_false xq]) (zza 12 (zI n) ?_ (hw := w1 2 false 11)))))))))
 refine zza 13 (zB (decide ((62 : Int) < n))) ?_ (hw := w1 2 false 11)
 refine zza 14 (zB (decide ((62 : Int) < n))) (zyp 15 (x := zB (decide ((62 : Int) < n))) (zB false) (by rw [show (decide ((62 : Int) < n)) = false from decide_eq_false xq]) (zza 16 (zI 3) ?_ (hw := w1 6 false 15)))
 refine zzg 17 238 [.int .i64 3] ?_ (hw := w1 6 false 15)
 intro w13 u13 e13 d13
 have k16 := k_mode (r := 3) d13 xq xq
 with_reducible refine zPm k16 ?_
 rintro _ u14 g15 rfl
 refine zza 18 (zB false) ?_ (hw := w1 6 false 15)
 refine zza 19 (zB false) (zzb (zyr xv (zzr (zzo ?_))))
 refine zzd (sq9 (zza 20 (zI n) (zza 21 (zB (n == 0)) (zzb (zzt (b := n == 0) xv (fun hb17 => ?_) (fun hb17 => ?_))))))
 ·replace hb17 : (n == 0) = true := hb17
  have qhb17 := hb17
  simp at qhb17
  refine sq9 (zza 22 (zI v) (zza 6 (zI v) (zzb (zzn (zzv (ret0 [.int .i64 v] ⟨zzp, trivial⟩ fun u18 e19 => ?_))))))
  show Value.int _ _ = Value.int _ _
  unfold Nt.shiftW
  rw [if_pos qhb17]
 ·replace hb17 : (n == 0) = false := hb17
  have qhb17 := hb17
  simp at qhb17
  refine zzr (zzo ?_)
  refine sq9 (zza 23 (zI v) (zza 24 (zI n) (sy_shr 25 (k := .i64) (n := v) (s := n) (v / Nt.p2i n) xq yv rfl ?_)))
  refine zza 7 (zI (v / Nt.p2i n)) (zzb (sq9 (zza 26 (zI (v / Nt.p2i n)) (zza 27 (zI (v / Nt.p2i n)) (zza 28 (zI v) (zza 29 (zI n) (zyp 30 (x := zI (IntKind.i64.wrap (n - 1))) (zI (n - 1)) xw (sy_shr 31 (k := .i64) (n := v) (s := n - 1) (v / Nt.p2i (n - 1)) xq yv rfl ?_))))))))
  refine zyp 32 (x := zI (bits .and .i64 (v / Nt.p2i (n - 1)) 1)) (zI (v / Nt.p2i (n - 1) % 2)) (eqI (Nt.bits_1 _)) (zyp 33 (x := zI (IntKind.i64.wrap ((v / Nt.p2i n) + (v / Nt.p2i (n - 1) % 2)))) (zI ((v / Nt.p2i n) + (v / Nt.p2i (n - 1) % 2))) xw (zza 34 (zI (v / Nt.p2i n)) (zza 35 (.v (.agg #[.int .i64 (v / Nt.p2i n), .int .i64 ((v / Nt.p2i n) + (v / Nt.p2i (n - 1) % 2)), .int .i64 (v / Nt.p2i n)])) (zzj 8 ⟨200, [.int .i64 0, .int .i64 0, .int .i64 0]⟩ (zzi ⟨200, [.int .i64 (v / Nt.p2i n), .int .i64 ((v / Nt.p2i n) + (v / Nt.p2i (n - 1) % 2)), .int .i64 (v / Nt.p2i n)]⟩ ty200 ?_)))))
  refine zzb (zzd (sq9 (zza 36 (zI v) (zza 37 (zB (decide (v < 0))) ?_))))
  rcases Bool.eq_false_or_eq_true (decide (v < 0)) with hs20 | hs20
  ·refine zyp 38 (x := zB (decide (v < 0))) (zB true) (by rw [hs20]) ?_
   have qhs20 := of_decide_eq_true hs20
   refine zza 39 (zI v) ?_ (hw := w1 2 true 38)
   refine zza 40 (zI n) ?_ (hw := w1 2 true 38)
   refine sy_shl 41 (k := .i64) (s := n) (Nt.p2i n) xq yv (shl_one xq xq) ?_ (hw := w1 2 true 38)
   refine zyp 42 (x := zI (IntKind.i64.wrap ((Nt.p2i n) - 1))) (zI ((Nt.p2i n) - 1)) xw ?_ (hw := w1 2 true 38)
   refine zyp 43 (x := zI (bits .and .i64 v (Nt.p2i n - 1))) (zI (v % Nt.p2i n)) (eqI (Nt.bits_p2 xq xq)) ?_ (hw := w1 2 true 38)
   refine zza 44 (zB ((v % Nt.p2i n) != 0)) ?_ (hw := w1 2 true 38)
   refine zza 45 (zB ((v % Nt.p2i n) != 0)) (zzc 54 [(2, zI 3), (8, .adr 8 0), (45, zB ((v % Nt.p2i n) != 0))] [(8, ⟨200, [.int .i64 (v / Nt.p2i n), .int .i64 ((v / Nt.p2i n) + (v / Nt.p2i (n - 1) % 2)), .int .i64 (v / Nt.p2i n)]⟩)] (zzt (b := (v % Nt.p2i n) != 0) xv (fun hb21 => ?_) (fun hb21 => ?_)))
   ·replace hb21 : ((v % Nt.p2i n) != 0) = true := hb21
    have qhb21 := hb21
    simp at qhb21
    refine zzf (zza 46 (.adr 8 2) (zzh 47 (zI (v / Nt.p2i n)) ty3 zzk (zyp 48 (x := zI (IntKind.i64.wrap ((v / Nt.p2i n) + 1))) (zI ((v / Nt.p2i n) + 1)) xw (zza 49 (.adr 8 2) (zzi ⟨200, [.int .i64 (v / Nt.p2i n), .int .i64 ((v / Nt.p2i n) + (v / Nt.p2i (n - 1) % 2)), .int .i64 ((v / Nt.p2i n) + 1)]⟩ ty3 ?_)))))
    refine zzb (sq9 (zza 50 (zI 3) (zza 51 (zI 2) (zza 52 (.adr 8 2) (zzh 53 (zI ((v / Nt.p2i n) + 1)) ty3 zzk (zza 6 (zI ((v / Nt.p2i n) + 1)) (zzb (zzn (ret0 [.int .i64 ((v / Nt.p2i n) + 1)] ⟨zzp, trivial⟩ fun u22 e23 => ?_)))))))))
    show Value.int _ _ = Value.int _ _
    unfold Nt.shiftW
    rw [if_neg qhb17]
    rw [if_neg xz]
    rw [if_pos ⟨rfl, qhs20, qhb21⟩]
   ·replace hb21 : ((v % Nt.p2i n) != 0) = false := hb21
    have qhb21 := hb21
    simp at qhb21
    refine zzr (zzo ?_)
    refine sq9 (zza 50 (zI 3) (zza 51 (zI 2) (zza 52 (.adr 8 2) (zzh 53 (zI (v / Nt.p2i n)) ty3 zzk (zza 6 (zI (v / Nt.p2i n)) (zzb (zzn (ret0 [.int .i64 (v / Nt.p2i n)] ⟨zzp, trivial⟩ fun u24 e25 => ?_))))))))
    show Value.int _ _ = Value.int _ _
    unfold Nt.shiftW
    rw [if_neg qhb17]
    rw [if_neg xz]
    rw [if_neg (by rintro ⟨_, _, h9⟩; exact h9 qhb21)]
  ·refine zyp 38 (x := zB (decide (v < 0))) (zB false) (by rw [hs20]) ?_
   have qhs20 := of_decide_eq_false hs20
   refine zzm 39 (uw 2 true false 38) (zzm 40 (uw 2 true false 38) (zzm 41 (uw 2 true false 38) (zzm 42 (uw 2 true false 38) (zzm 43 (uw 2 true false 38) (zzm 44 (uw 2 true false 38) (zza 45 (zB false) (zzc 54 [(2, zI 3), (8, .adr 8 0), (45, zB false)] [(8, ⟨200, [.int .i64 (v / Nt.p2i n), .int .i64 ((v / Nt.p2i n) + (v / Nt.p2i (n - 1) % 2)), .int .i64 (v / Nt.p2i n)]⟩)] (zyr xv (zzr (zzo ?_))))))))))
   refine sq9 (zza 50 (zI 3) (zza 51 (zI 2) (zza 52 (.adr 8 2) (zzh 53 (zI (v / Nt.p2i n)) ty3 zzk (zza 6 (zI (v / Nt.p2i n)) (zzb (zzn (ret0 [.int .i64 (v / Nt.p2i n)] ⟨zzp, trivial⟩ fun u26 e27 => ?_))))))))
   show Value.int _ _ = Value.int _ _
   unfold Nt.shiftW
   rw [if_neg qhb17]
   rw [if_neg xz]
   rw [if_neg (by rintro ⟨_, h9, _⟩; exact absurd h9 xq)]
theorem k_fxShift {u w : World} {v n r : Int} (d : Dat u w) (hv0 : -1152921504606846976 ≤ v) (hv1 : v ≤ 1152921504606846976) (hn0 : 0 ≤ n) (hn1 : n ≤ 24) (hr : 1 ≤ r ∧ r ≤ 3) : Calls Tryz.prog 191 #[.int .i64 v, .int .i64 n, .int .i64 r] w (Post u w fun y _ => y = .int .i64 (Nt.shiftW v n r)) := by
 obtain rfl | rfl | rfl : r = 1 ∨ r = 2 ∨ r = 3 := by omega
 ·exact k_fxShift1 d hv0 hv1 hn0 hn1
 ·exact k_fxShift2 d hv0 hv1 hn0 hn1
 ·exact k_fxShift3 d hv0 hv1 hn0 hn1
theorem k_fxWrap {u w : World} {b v : Int} (d : Dat u w) (hb0 : 1 ≤ b) (hb1 : b ≤ 62) : Calls Tryz.prog 190 #[.int .i64 b, .int .i64 v] w (Post u w fun y _ => y = .int .i64 (Nt.wrapW b v)) := by
 have hp1 := Nt.zxl b
 have hp2 : Nt.p2i b ≤ 4611686018427387904 := Nt.zwa (b := 62) xq
 have hp3 := Nt.zxl (b - 1)
 have hp4 : Nt.p2i (b - 1) ≤ Nt.p2i b := Nt.zwa xq
 have hm1 := Int.emod_nonneg v (show Nt.p2i b ≠ 0 by omega)
 have hm2 := Int.emod_lt_of_pos v hp1
 refine zzl (args := [.int .i64 b, .int .i64 v]) Tryz.func190 rfl Tryz.ntmps190 (rs := [.tmp 4]) Tryz.results190 (le_b rfl) (le_b rfl) d ?_
 refine sq9 (zza 4 (zI 0) (zzb (zzd (sq9 (zza 6 (zI b) (zza 7 (zB (decide (b < 1))) (zyp 8 (x := zB (decide (b < 1))) (zB false) (by rw [show (decide (b < 1)) = false from decide_eq_false xq]) (zza 9 (zI b) ?_ (hw := w1 2 false 8)))))))))
 refine zza 10 (zB (decide ((62 : Int) < b))) ?_ (hw := w1 2 false 8)
 refine zza 11 (zB (decide ((62 : Int) < b))) (zzb (zzt (b := decide ((62 : Int) < b)) xv (fun hb => ?_) (fun hb => ?_)))
 ·exact absurd hb (by rw [show (decide ((62 : Int) < b)) = false from decide_eq_false xq]; decide)
 ·clear hb
  refine zzr (zzo ?_)
  refine sq9 (zza 12 (zI v) (zza 13 (zI b) (sy_shl 14 (k := .i64) (s := b) (Nt.p2i b) xq yv (Nt.shl_one9 xq xq) ?_)))
  refine zyp 15 (x := zI (IntKind.i64.wrap ((Nt.p2i b) - 1))) (zI ((Nt.p2i b) - 1)) xw (zyp 16 (x := zI (bits .and .i64 v (Nt.p2i b - 1))) (zI (v % Nt.p2i b)) (eqI (Nt.bits_p2 xq xq)) (zza 5 (zI (v % Nt.p2i b)) (zzb (zzd (sq9 (zza 17 (zI (v % Nt.p2i b)) (zza 18 (zI b) (zyp 19 (x := zI (IntKind.i64.wrap (b - 1))) (zI (b - 1)) xw (sy_shl 20 (k := .i64) (s := b - 1) (Nt.p2i (b - 1)) xq yv (Nt.shl_one9 xq xq) ?_)))))))))
  refine zza 21 (zB (decide ((Nt.p2i (b - 1)) ≤ (v % Nt.p2i b)))) (zzb (zzt (b := decide ((Nt.p2i (b - 1)) ≤ (v % Nt.p2i b))) xv (fun hb12 => ?_) (fun hb12 => ?_)))
  ·replace hb12 : (decide ((Nt.p2i (b - 1)) ≤ (v % Nt.p2i b))) = true := hb12
   have qhb12 := of_decide_eq_true hb12
   refine zzf (zza 22 (zI (v % Nt.p2i b)) (zza 23 (zI b) (sy_shl 24 (k := .i64) (s := b) (Nt.p2i b) xq yv (Nt.shl_one9 xq xq) ?_)))
   refine zyp 25 (x := zI (IntKind.i64.wrap ((v % Nt.p2i b) - (Nt.p2i b)))) (zI ((v % Nt.p2i b) - (Nt.p2i b))) xw (zza 5 (zI ((v % Nt.p2i b) - (Nt.p2i b))) (zzb (sq9 (zza 26 (zI ((v % Nt.p2i b) - (Nt.p2i b))) (zza 4 (zI ((v % Nt.p2i b) - (Nt.p2i b))) (zzb (zzn (ret0 [.int .i64 ((v % Nt.p2i b) - (Nt.p2i b))] ⟨zzp, trivial⟩ fun u13 e14 => ?_))))))))
   show Value.int _ _ = Value.int _ _
   unfold Nt.wrapW
   rw [if_pos xq]
  ·replace hb12 : (decide ((Nt.p2i (b - 1)) ≤ (v % Nt.p2i b))) = false := hb12
   have qhb12 := of_decide_eq_false hb12
   refine zzr (zzo ?_)
   refine sq9 (zza 26 (zI (v % Nt.p2i b)) (zza 4 (zI (v % Nt.p2i b)) (zzb (zzn (ret0 [.int .i64 (v % Nt.p2i b)] ⟨zzp, trivial⟩ fun u15 e16 => ?_)))))
   show Value.int _ _ = Value.int _ _
   unfold Nt.wrapW
   rw [if_neg xq]
theorem k_formed {u w : World} {t f cf sh n : Int} (d : Dat u w) : Calls Tryz.prog 132 #[.agg #[.int .i64 t, .int .i64 f, .int .i64 cf, .int .i64 sh], .int .i64 n] w (Post u w fun v _ => v = .bool (decide (Nt.shOK n [t, f, cf, sh]))) := by
 refine zzl (args := [.agg #[.int .i64 t, .int .i64 f, .int .i64 cf, .int .i64 sh], .int .i64 n]) Tryz.func132 rfl Tryz.ntmps132 (rs := [.tmp 4]) Tryz.results132 (le_b rfl) (le_b rfl) d ?_
 refine sq9 (zzj 2 ⟨90, [.int .i64 t, .int .i64 f, .int .i64 cf, .int .i64 sh]⟩ (zza 4 (zB false) (zzb (zzd (sq9 (zza 5 (.adr 2 0) (zzh 6 (zI t) ty3 zzk (zza 7 (zB (decide (t < 0))) ?_))))))))
 rcases Bool.eq_false_or_eq_true (decide (t < 0)) with hs11 | hs11
 ·refine zyp 8 (x := zB (decide (t < 0))) (zB true) (by rw [hs11]) ?_
  have qhs11 := of_decide_eq_true hs11
  refine zzm 9 (uw 3 false true 8) (zzm 10 (uw 3 false true 8) (zzm 11 (uw 3 false true 8) (zzm 12 (uw 3 false true 8) (zza 13 (zB true) (zza 14 (zB true) (zzm 15 (uw 9 false true 14) (zzm 16 (uw 9 false true 14) (zzm 17 (uw 9 false true 14) (zza 18 (zB true) (zza 19 (zB true) (zzm 20 (uw 14 false true 19) ?_)))))))))))
  refine zzm 21 (uw 14 false true 19) (zzm 22 (uw 14 false true 19) (zzm 23 (uw 14 false true 19) (zza 24 (zB true) (zzb (zyq xv (sq9 (zza 4 (zB false) (zzb (zzn (zzv (ret0 [.bool false] ⟨zzp, trivial⟩ fun u12 e13 => ?_)))))))))))
  show Value.bool _ = Value.bool _
  congr 1
  have h9hs11 := hs11
  simp at h9hs11
  rw [Bool.eq_iff_iff]
  simp [Nt.shOK]
  omega
 ·refine zyp 8 (x := zB (decide (t < 0))) (zB false) (by rw [hs11]) ?_
  have qhs11 := of_decide_eq_false hs11
  refine zza 9 (.adr 2 0) ?_ (hw := w1 3 false 8)
  refine zzh 10 (zI t) ty3 zzk ?_ (hw := w1 3 false 8)
  refine zza 11 (zI n) ?_ (hw := w1 3 false 8)
  refine zza 12 (zB (decide (n ≤ t))) ?_ (hw := w1 3 false 8)
  refine zza 13 (zB (decide (n ≤ t))) ?_
  rcases Bool.eq_false_or_eq_true (decide (n ≤ t)) with hs14 | hs14
  ·refine zyp 14 (x := zB (decide (n ≤ t))) (zB true) (by rw [hs14]) ?_
   have qhs14 := of_decide_eq_true hs14
   refine zzm 15 (uw 9 false true 14) (zzm 16 (uw 9 false true 14) (zzm 17 (uw 9 false true 14) (zza 18 (zB true) (zza 19 (zB true) (zzm 20 (uw 14 false true 19) (zzm 21 (uw 14 false true 19) (zzm 22 (uw 14 false true 19) (zzm 23 (uw 14 false true 19) (zza 24 (zB true) (zzb (zyq xv ?_)))))))))))
   refine sq9 (zza 4 (zB false) (zzb (zzn (zzv (ret0 [.bool false] ⟨zzp, trivial⟩ fun u15 e16 => ?_)))))
   show Value.bool _ = Value.bool _
   congr 1
   have h9hs11 := hs11
   simp at h9hs11
   have h9hs14 := hs14
   simp at h9hs14
   rw [Bool.eq_iff_iff]
   simp [Nt.shOK]
   omega
  ·refine zyp 14 (x := zB (decide (n ≤ t))) (zB false) (by rw [hs14]) ?_
   have qhs14 := of_decide_eq_false hs14
   refine zza 15 (.adr 2 1) ?_ (hw := w1 9 false 14)
   refine zzh 16 (zI f) ty3 zzk ?_ (hw := w1 9 false 14)
   refine zza 17 (zB (decide (f < 0))) ?_ (hw := w1 9 false 14)
   refine zza 18 (zB (decide (f < 0))) ?_
   rcases Bool.eq_false_or_eq_true (decide (f < 0)) with hs17 | hs17
   ·refine zyp 19 (x := zB (decide (f < 0))) (zB true) (by rw [hs17]) ?_
    have qhs17 := of_decide_eq_true hs17
    refine zzm 20 (uw 14 false true 19) (zzm 21 (uw 14 false true 19) (zzm 22 (uw 14 false true 19) (zzm 23 (uw 14 false true 19) (zza 24 (zB true) (zzb (zyq xv (sq9 (zza 4 (zB false) (zzb (zzn (zzv (ret0 [.bool false] ⟨zzp, trivial⟩ fun u18 e19 => ?_))))))))))))
    show Value.bool _ = Value.bool _
    congr 1
    have h9hs11 := hs11
    simp at h9hs11
    have h9hs14 := hs14
    simp at h9hs14
    have h9hs17 := hs17
    simp at h9hs17
    rw [Bool.eq_iff_iff]
    simp [Nt.shOK]
    omega
   ·refine zyp 19 (x := zB (decide (f < 0))) (zB false) (by rw [hs17]) ?_
    have qhs17 := of_decide_eq_false hs17
    refine zza 20 (.adr 2 1) ?_ (hw := w1 14 false 19)
    refine zzh 21 (zI f) ty3 zzk ?_ (hw := w1 14 false 19)
    refine zza 22 (zI n) ?_ (hw := w1 14 false 19)
    refine zza 23 (zB (decide (n ≤ f))) ?_ (hw := w1 14 false 19)
    refine zza 24 (zB (decide (n ≤ f))) (zzb (zzt (b := decide (n ≤ f)) xv (fun hb20 => ?_) (fun hb20 => ?_)))
    ·replace hb20 : (decide (n ≤ f)) = true := hb20
     have qhb20 := of_decide_eq_true hb20
     refine sq9 (zza 4 (zB false) (zzb (zzn (zzv (ret0 [.bool false] ⟨zzp, trivial⟩ fun u21 e22 => ?_)))))
     show Value.bool _ = Value.bool _
     congr 1
     have h9hs11 := hs11
     simp at h9hs11
     have h9hs14 := hs14
     simp at h9hs14
     have h9hs17 := hs17
     simp at h9hs17
     have h9hb20 := hb20
     simp at h9hb20
     rw [Bool.eq_iff_iff]
     simp [Nt.shOK]
     omega
    ·replace hb20 : (decide (n ≤ f)) = false := hb20
     have qhb20 := of_decide_eq_false hb20
     refine zzr (zzo ?_)
     refine zzd (sq9 (zza 25 (.adr 2 3) (zzh 26 (zI sh) ty3 zzk (zza 27 (zB (decide (sh < (-2)))) ?_))))
     rcases Bool.eq_false_or_eq_true (decide (sh < (-2))) with hs23 | hs23
     ·refine zyp 28 (x := zB (decide (sh < (-2)))) (zB true) (by rw [hs23]) ?_
      have qhs23 := of_decide_eq_true hs23
      refine zzm 29 (uw 3 false true 28) (zzm 30 (uw 3 false true 28) (zzm 31 (uw 3 false true 28) (zza 32 (zB true) (zzb (zyq xv (sq9 (zza 4 (zB false) (zzc 56 [(4, zB false)] [] (zzn (zzv (ret0 [.bool false] ⟨zzp, trivial⟩ fun u24 e25 => ?_)))))))))))
      show Value.bool _ = Value.bool _
      congr 1
      have h9hs11 := hs11
      simp at h9hs11
      have h9hs14 := hs14
      simp at h9hs14
      have h9hs17 := hs17
      simp at h9hs17
      have h9hb20 := hb20
      simp at h9hb20
      have h9hs23 := hs23
      simp at h9hs23
      rw [Bool.eq_iff_iff]
      simp [Nt.shOK]
      omega
     ·refine zyp 28 (x := zB (decide (sh < (-2)))) (zB false) (by rw [hs23]) ?_
      have qhs23 := of_decide_eq_false hs23
      refine zza 29 (.adr 2 3) ?_ (hw := w1 3 false 28)
      refine zzh 30 (zI sh) ty3 zzk ?_ (hw := w1 3 false 28)
      refine zza 31 (zB (decide ((20 : Int) < sh))) ?_ (hw := w1 3 false 28)
      refine zza 32 (zB (decide ((20 : Int) < sh))) (zzb (zzt (b := decide ((20 : Int) < sh)) xv (fun hb26 => ?_) (fun hb26 => ?_)))
      ·replace hb26 : (decide ((20 : Int) < sh)) = true := hb26
       have qhb26 := of_decide_eq_true hb26
       refine sq9 (zza 4 (zB false) (zzc 56 [(4, zB false)] [] (zzn (zzv (ret0 [.bool false] ⟨zzp, trivial⟩ fun u27 e28 => ?_)))))
       show Value.bool _ = Value.bool _
       congr 1
       have h9hs11 := hs11
       simp at h9hs11
       have h9hs14 := hs14
       simp at h9hs14
       have h9hs17 := hs17
       simp at h9hs17
       have h9hb20 := hb20
       simp at h9hb20
       have h9hs23 := hs23
       simp at h9hs23
       have h9hb26 := hb26
       simp at h9hb26
       rw [Bool.eq_iff_iff]
       simp [Nt.shOK]
       omega
      ·replace hb26 : (decide ((20 : Int) < sh)) = false := hb26
       have qhb26 := of_decide_eq_false hb26
       refine zzr (zzo ?_)
       refine zzd (sq9 (zza 33 (.adr 2 0) (zzh 34 (zI t) ty3 zzk (zza 35 (.adr 2 1) (zzh 36 (zI f) ty3 zzk (zza 37 (zB (t == f)) (zza 38 (.adr 2 3) (zzh 39 (zI sh) ty3 zzk (zza 40 (zB (sh == (-2))) (zza 41 (zB (!((t == f) == (sh == (-2))))) (zzc 56 [(2, .adr 2 0), (41, zB (!((t == f) == (sh == (-2)))))] [(2, ⟨90, [.int .i64 t, .int .i64 f, .int .i64 cf, .int .i64 sh]⟩)] ?_)))))))))))
       refine zzt (b := !((t == f) == (sh == (-2)))) xv (fun hb29 => ?_) (fun hb29 => ?_)
       ·replace hb29 : (!((t == f) == (sh == (-2)))) = true := hb29
        refine sq9 (zza 4 (zB false) (zzb (zzn (zzv (ret0 [.bool false] ⟨zzp, trivial⟩ fun u30 e31 => ?_)))))
        show Value.bool _ = Value.bool _
        congr 1
        have h9hs11 := hs11
        simp at h9hs11
        have h9hs14 := hs14
        simp at h9hs14
        have h9hs17 := hs17
        simp at h9hs17
        have h9hb20 := hb20
        simp at h9hb20
        have h9hs23 := hs23
        simp at h9hs23
        have h9hb26 := hb26
        simp at h9hb26
        have h9hb29 := hb29
        rw [Nt.ne_pair] at h9hb29
        replace h9hb29 := of_decide_eq_true h9hb29
        rw [Bool.eq_iff_iff]
        simp [Nt.shOK]
        omega
       ·replace hb29 : (!((t == f) == (sh == (-2)))) = false := hb29
        refine zzr (zzo ?_)
        refine zzd (sq9 (zza 42 (.adr 2 3) (zzh 43 (zI sh) ty3 zzk (zza 44 (zB (decide (sh < 0))) (zzb (zzt (b := decide (sh < 0)) xv (fun hb32 => ?_) (fun hb32 => ?_)))))))
        ·replace hb32 : (decide (sh < 0)) = true := hb32
         have qhb32 := of_decide_eq_true hb32
         refine sq9 (zza 45 (.adr 2 2) (zzh 46 (zI cf) ty3 zzk (zza 47 (zB (cf == 0)) (zza 4 (zB (cf == 0)) (zzb (zzn (zzv (ret0 [.bool (cf == 0)] ⟨zzp, trivial⟩ fun u33 e34 => ?_))))))))
         show Value.bool _ = Value.bool _
         congr 1
         have h9hs11 := hs11
         simp at h9hs11
         have h9hs14 := hs14
         simp at h9hs14
         have h9hs17 := hs17
         simp at h9hs17
         have h9hb20 := hb20
         simp at h9hb20
         have h9hs23 := hs23
         simp at h9hs23
         have h9hb26 := hb26
         simp at h9hb26
         have h9hb29 := hb29
         rw [Nt.ne_pair] at h9hb29
         replace h9hb29 := of_decide_eq_false h9hb29
         have h9hb32 := hb32
         simp at h9hb32
         rw [Bool.eq_iff_iff]
         simp [Nt.shOK]
         omega
        ·replace hb32 : (decide (sh < 0)) = false := hb32
         have qhb32 := of_decide_eq_false hb32
         refine zzr (zzo ?_)
         refine sq9 (zza 48 (.adr 2 2) (zzh 49 (zI cf) ty3 zzk (zza 50 (zB (decide (((-2097152) : Int) ≤ cf))) ?_)))
         rcases Bool.eq_false_or_eq_true (decide (((-2097152) : Int) ≤ cf)) with hs35 | hs35
         ·refine zyp 51 (x := zB (decide (((-2097152) : Int) ≤ cf))) (zB true) (by rw [hs35]) ?_
          have qhs35 := of_decide_eq_true hs35
          refine zza 52 (.adr 2 2) ?_ (hw := w1 3 true 51)
          refine zzh 53 (zI cf) ty3 zzk ?_ (hw := w1 3 true 51)
          refine zza 54 (zB (decide (cf ≤ 2097152))) ?_ (hw := w1 3 true 51)
          refine zza 55 (zB (decide (cf ≤ 2097152))) (zza 4 (zB (decide (cf ≤ 2097152))) (zzb (zzn (ret0 [.bool (decide (cf ≤ 2097152))] ⟨zzp, trivial⟩ fun u36 e37 => ?_))))
          show Value.bool _ = Value.bool _
          congr 1
          have h9hs11 := hs11
          simp at h9hs11
          have h9hs14 := hs14
          simp at h9hs14
          have h9hs17 := hs17
          simp at h9hs17
          have h9hb20 := hb20
          simp at h9hb20
          have h9hs23 := hs23
          simp at h9hs23
          have h9hb26 := hb26
          simp at h9hb26
          have h9hb29 := hb29
          rw [Nt.ne_pair] at h9hb29
          replace h9hb29 := of_decide_eq_false h9hb29
          have h9hb32 := hb32
          simp at h9hb32
          have h9hs35 := hs35
          simp at h9hs35
          rw [Bool.eq_iff_iff]
          simp [Nt.shOK]
          omega
         ·refine zyp 51 (x := zB (decide (((-2097152) : Int) ≤ cf))) (zB false) (by rw [hs35]) ?_
          have qhs35 := of_decide_eq_false hs35
          refine zzm 52 (uw 3 true false 51) (zzm 53 (uw 3 true false 51) (zzm 54 (uw 3 true false 51) (zza 55 (zB false) (zza 4 (zB false) (zzb (zzn (ret0 [.bool false] ⟨zzp, trivial⟩ fun u38 e39 => ?_)))))))
          show Value.bool _ = Value.bool _
          congr 1
          have h9hs11 := hs11
          simp at h9hs11
          have h9hs14 := hs14
          simp at h9hs14
          have h9hs17 := hs17
          simp at h9hs17
          have h9hb20 := hb20
          simp at h9hb20
          have h9hs23 := hs23
          simp at h9hs23
          have h9hb26 := hb26
          simp at h9hb26
          have h9hb29 := hb29
          rw [Nt.ne_pair] at h9hb29
          replace h9hb29 := of_decide_eq_false h9hb29
          have h9hb32 := hb32
          simp at h9hb32
          have h9hs35 := hs35
          simp at h9hs35
          rw [Bool.eq_iff_iff]
          simp [Nt.shOK]
          omega
set_option maxHeartbeats 1000000 in
theorem k_dvalid {u w : World} {x : Sl} {S : List (List Int)} {n : Int} (d : Dat u w) (hx : IrV 4 u x S) (h9 : S.length ≤ 1000000) : Calls Tryz.prog 64 #[x.v, .int .i64 n] w (Post u w fun v _ => v = .bool (decide (Nt.shV n S))) := by
 have hlx : x.n = S.length := hx.len
 refine zzl (args := [.slice x.a x.n x.c, .int .i64 n]) Tryz.func64 rfl Tryz.ntmps64 (rs := [.tmp 4]) Tryz.results64 (le_b rfl) (le_b rfl) d ?_
 refine sq9 (zza 4 (zB false) (zzb (zzd (sq9 (zza 7 (zI n) (zza 8 (zB (decide (n < 1))) ?_))))))
 rcases Bool.eq_false_or_eq_true (decide (n < 1)) with hs11 | hs11
 ·refine zyp 9 (x := zB (decide (n < 1))) (zB true) (by rw [hs11]) ?_
  have qhs11 := of_decide_eq_true hs11
  refine zzm 10 (uw 2 false true 9) (zzm 11 (uw 2 false true 9) (zza 12 (zB true) (zza 13 (zB true) (zzm 14 (uw 6 false true 13) (zzm 15 (uw 6 false true 13) (zzm 16 (uw 6 false true 13) (zza 17 (zB true) (zzb (zyq xv (sq9 (zza 4 (zB false) ?_)))))))))))
  refine zzb (zzn (zzv (ret0 [.bool false] ⟨zzp, trivial⟩ fun u12 e13 => ?_)))
  show Value.bool _ = Value.bool _
  congr 1
  symm
  have h9hs11 := hs11
  simp at h9hs11
  exact decide_eq_false (fun h9 => by have k1 := h9.1; have k2 := h9.2.1; have k3 := h9.2.2.1; omega)
 ·refine zyp 9 (x := zB (decide (n < 1))) (zB false) (by rw [hs11]) ?_
  have qhs11 := of_decide_eq_false hs11
  refine zza 10 (zI n) ?_ (hw := w1 2 false 9)
  refine zza 11 (zB (decide ((64 : Int) < n))) ?_ (hw := w1 2 false 9)
  refine zza 12 (zB (decide ((64 : Int) < n))) ?_
  rcases Bool.eq_false_or_eq_true (decide ((64 : Int) < n)) with hs14 | hs14
  ·refine zyp 13 (x := zB (decide ((64 : Int) < n))) (zB true) (by rw [hs14]) ?_
   have qhs14 := of_decide_eq_true hs14
   refine zzm 14 (uw 6 false true 13) (zzm 15 (uw 6 false true 13) (zzm 16 (uw 6 false true 13) (zza 17 (zB true) (zzb (zyq xv (sq9 (zza 4 (zB false) (zzb (zzn (zzv (ret0 [.bool false] ⟨zzp, trivial⟩ fun u15 e16 => ?_)))))))))))
   show Value.bool _ = Value.bool _
   congr 1
   symm
   have h9hs11 := hs11
   simp at h9hs11
   have h9hs14 := hs14
   simp at h9hs14
   exact decide_eq_false (fun h9 => by have k1 := h9.1; have k2 := h9.2.1; have k3 := h9.2.2.1; omega)
  ·refine zyp 13 (x := zB (decide ((64 : Int) < n))) (zB false) (by rw [hs14]) ?_
   have qhs14 := of_decide_eq_false hs14
   refine zza 14 (.v x.v) ?_ (hw := w1 6 false 13)
   refine zza 15 (zI x.n) ?_ (hw := w1 6 false 13)
   refine zza 16 (zB (decide ((64 : Int) < (x.n : Int)))) ?_ (hw := w1 6 false 13)
   refine zza 17 (zB (decide ((64 : Int) < (x.n : Int)))) (zzb (zzt (b := decide ((64 : Int) < (x.n : Int))) xv (fun hb17 => ?_) (fun hb17 => ?_)))
   ·replace hb17 : (decide ((64 : Int) < (x.n : Int))) = true := hb17
    have qhb17 := of_decide_eq_true hb17
    refine sq9 (zza 4 (zB false) (zzb (zzn (zzv (ret0 [.bool false] ⟨zzp, trivial⟩ fun u18 e19 => ?_)))))
    show Value.bool _ = Value.bool _
    congr 1
    symm
    have h9hs11 := hs11
    simp at h9hs11
    have h9hs14 := hs14
    simp at h9hs14
    have h9hb17 := hb17
    simp at h9hb17
    exact decide_eq_false (fun h9 => by have k1 := h9.1; have k2 := h9.2.1; have k3 := h9.2.2.1; omega)
   ·replace hb17 : (decide ((64 : Int) < (x.n : Int))) = false := hb17
    have qhb17 := of_decide_eq_false hb17
    refine zzr (zzo ?_)
    refine zzd (sq9 (zza 18 (.v x.v) (zza 19 (zI x.n) (zza 20 (zI 0) (zzb (zzs (zym (I := fun m20 S' u' => ∃ (i : Nat), (m20 = S.length - i) ∧ (i ≤ S.length) ∧ (∀ j, j < i → Nt.shOK n (S.getD j [])) ∧ (S' = St.of 29 [(1, zI n), (18, .v (.slice x.a x.n x.c)), (19, zI x.n), (20, zI i)] []) ∧ (Ext u u')) (fun m S u1 u2 e h => by obtain ⟨i, hm, p0, p1, hS, hE⟩ := h; exact ⟨i, hm, p0, p1, hS, hE.trans e⟩) _ yj ⟨0, rfl, by omega, (fun j hj => absurd hj xq), rfl, (Ext.refl _)⟩ ?_)))))))
    rintro m20 _ u20 ⟨i, hm20, hi, hA, rfl, e20⟩
    refine sq9 (zza 21 (zB (decide ((i : Int) < (x.n : Int)))) (zzb (zzd (zzt (b := decide ((i : Int) < (x.n : Int))) xv (fun hb21 => ?_) (fun hb21 => ?_)))))
    ·replace hb21 : (decide ((i : Int) < (x.n : Int))) = true := hb21
     have qhb21 := of_decide_eq_true hb21
     refine zzr (zzo ?_)
     refine zzd (zzs (sq9 ?_))
     have hl22 := ((hx.ext e20)).len
     obtain ⟨b22, o22, hA22, hc22⟩ := ir_at4 (hx.ext e20) (i := i) xq
     refine zzz 22 (o22 + i * 4) (n := x.n) (off := o22) (sz := 4) (i := (i : Int)) xq hA22 xq xq sl64 (zyl 23 [.int .i64 (gi S i 0), .int .i64 (gi S i 1), .int .i64 (gi S i 2), .int .i64 (gi S i 3)] hc22 ty90 (zzj 6 ⟨90, [.int .i64 0, .int .i64 0, .int .i64 0, .int .i64 0]⟩ (zzi ⟨90, [.int .i64 (gi S i 0), .int .i64 (gi S i 1), .int .i64 (gi S i 2), .int .i64 (gi S i 3)]⟩ ty90 ?_)))
     refine zzb (sq9 (zzh 24 (.v (.agg #[.int .i64 (gi S i 0), .int .i64 (gi S i 1), .int .i64 (gi S i 2), .int .i64 (gi S i 3)])) ty90 zze (zza 25 (zI n) (zzg 26 132 [.agg #[.int .i64 (gi S i 0), .int .i64 (gi S i 1), .int .i64 (gi S i 2), .int .i64 (gi S i 3)], .int .i64 n] ?_))))
     intro w23 u23 e23 d23
     have k26 := k_formed (t := gi S i 0) (f := gi S i 1) (cf := gi S i 2) (sh := gi S i 3) (n := n) d23
     with_reducible refine zPm k26 ?_
     rintro _ u24 g25 rfl
     refine zza 27 (zB (!(decide (Nt.shOK n [gi S i 0, gi S i 1, gi S i 2, gi S i 3])))) (zzb (zzt (b := !(decide (Nt.shOK n [gi S i 0, gi S i 1, gi S i 2, gi S i 3]))) xv (fun hb27 => ?_) (fun hb27 => ?_)))
     ·replace hb27 : (!(decide (Nt.shOK n [gi S i 0, gi S i 1, gi S i 2, gi S i 3]))) = true := hb27
      refine sq9 (zza 4 (zB false) (zzb (zzn (zyt (zzv (zys (zyt (zzv (ret0 [.bool false] ⟨zzp, trivial⟩ fun u28 e29 => ?_)))))))))
      show Value.bool _ = Value.bool _
      congr 1
      symm
      exact decide_eq_false (fun h9 => by have h8 := hb27; have h7 := h9.2.2.2 i xq; rw [row4 hx.rows xq] at h7; simp [h7] at h8)
     ·replace hb27 : (!(decide (Nt.shOK n [gi S i 0, gi S i 1, gi S i 2, gi S i 3]))) = false := hb27
      have qhb27 : Nt.shOK n (S.getD i []) := by rw [row4 hx.rows xq]; have h9 := hb27; simpa using h9
      refine zzr (zzo ?_)
      refine zzf (zyp 28 (x := zI (IntKind.i64.wrap ((i : Int) + 1))) (zI (i + 1 : Nat)) (eqI xk) (zza 20 (zI (i + 1 : Nat)) (zzw ?_)))
      refine ⟨_, ?_, _, by exact zzu _ _ _, i + 1, rfl, by omega, (fun j hj => by rcases Nat.lt_or_ge j i with h9 | h9; exact hA j h9; (obtain rfl : j = i := by omega); exact qhb27), rfl, (e20.trans (e23.trans g25.ext))⟩
      omega
    ·replace hb21 : (decide ((i : Int) < (x.n : Int))) = false := hb21
     have qhb21 := of_decide_eq_false hb21
     refine zyb (zzo (sq9 (zza 4 (zB true) (zzb (zzn (ret0 [.bool true] ⟨zzp, trivial⟩ fun u30 e31 => ?_))))))
     show Value.bool _ = Value.bool _
     congr 1
     symm
     exact decide_eq_true ⟨by omega, by omega, by omega, fun j hj => hA j xq⟩
set_option maxHeartbeats 1000000 in
theorem k_dcheck {u w : World} {x y : Sl} {S : List (List Int)} {l : List Int} (d : Dat u w) (hx : IrV 4 u x S) (h9 : S.length ≤ 1000000) (hy : SlR .i64 u y.a y.n y.c l) (hb : ∀ z ∈ l, -9223372036854775808 ≤ z ∧ z ≤ 9223372036854775807) (h8 : l.length ≤ 1000000) : Calls Tryz.prog 114 #[x.v, y.v] w (Post u w fun v _ => v = .int .i64 (Nt.chkE S l)) := by
 have hlx : x.n = S.length := hx.len
 have hly : l.length = y.n := hy.1
 refine zzl (args := [.slice x.a x.n x.c, .slice y.a y.n y.c]) Tryz.func114 rfl Tryz.ntmps114 (rs := [.tmp 4]) Tryz.results114 (le_b rfl) (le_b rfl) d ?_
 refine sq9 (zza 4 (zI 0) (zzb (zzd (sq9 (zza 7 (.v x.v) (zza 8 (.v y.v) (zza 9 (zI y.n) (zzg 10 64 [x.v, .int .i64 y.n] ?_))))))))
 intro w11 u11 e11 d11
 have k14 := k_dvalid (x := x) (n := (y.n : Int)) d11 (hx.ext e11) xq
 with_reducible refine zPm k14 ?_
 rintro _ u12 g13 rfl
 refine zza 11 (zB (!(decide (Nt.shV (y.n : Int) S)))) (zzb (zzt (b := !(decide (Nt.shV (y.n : Int) S))) xv (fun hb15 => ?_) (fun hb15 => ?_)))
 ·replace hb15 : (!(decide (Nt.shV (y.n : Int) S))) = true := hb15
  refine sq9 (zza 4 (zI 2) (zzb (zzn (zzv (ret0 [.int .i64 2] ⟨zzp, trivial⟩ fun u16 e17 => ?_)))))
  show Value.int _ _ = Value.int _ _
  congr 1
  symm
  refine Nt.chk_bad (fun h9 => ?_)
  have h8 := hb15
  rw [show ((l.length : Nat) : Int) = (y.n : Int) by omega] at h9
  simp [h9] at h8
 ·replace hb15 : (!(decide (Nt.shV (y.n : Int) S))) = false := hb15
  refine zzr (zzo ?_)
  refine zzd (sq9 (zza 12 (.v y.v) (zza 13 (zI y.n) (zza 14 (zI 0) (zzb (zzs (zym (I := fun m18 S' u' => ∃ (i : Nat), (m18 = l.length - i) ∧ (i ≤ l.length) ∧ (∀ j, j < i → -2147483648 ≤ l.getD j 0 ∧ l.getD j 0 ≤ 2147483647) ∧ (S' = St.of 23 [(12, .v (.slice y.a y.n y.c)), (13, zI y.n), (14, zI i)] []) ∧ (Ext u12 u')) (fun m S u1 u2 e h => by obtain ⟨i, hm, p0, p1, hS, hE⟩ := h; exact ⟨i, hm, p0, p1, hS, hE.trans e⟩) _ yj ⟨0, rfl, by omega, (fun j hj => absurd hj xq), rfl, (Ext.refl _)⟩ ?_)))))))
  rintro m18 _ u18 ⟨i, hm18, hi, hA, rfl, e18⟩
  refine sq9 (zza 15 (zB (decide ((i : Int) < (y.n : Int)))) (zzb (zzd (zzt (b := decide ((i : Int) < (y.n : Int))) xv (fun hb19 => ?_) (fun hb19 => ?_)))))
  ·replace hb19 : (decide ((i : Int) < (y.n : Int))) = true := hb19
   have qhb19 := of_decide_eq_true hb19
   refine zzr (zzo ?_)
   refine zzd (zzs (sq9 ?_))
   have hl20 := ((hy.ext (e11.trans (g13.ext.trans e18)))).1
   obtain ⟨b20, o20, hA20, hc20⟩ := ints_at (hy.ext (e11.trans (g13.ext.trans e18))) (i := i) xq
   have hz20 := ints_bd hb xq i
   refine zzz 16 (o20 + i * 1) (n := y.n) (off := o20) (sz := 1) (i := (i : Int)) xq hA20 xq xq sl30 (zyk 17 (.int .i64 (l.getD i 0)) hc20 ty3 (zza 6 (zI (l.getD i 0)) (zzb (sq9 (zza 18 (zI (l.getD i 0)) (zza 19 (zI (l.getD i 0)) (zzg 20 190 [.int .i64 32, .int .i64 (l.getD i 0)] ?_)))))))
   intro w21 u21 e21 d21
   have k24 := k_fxWrap (b := 32) (v := (l.getD i 0)) d21 xq xq
   with_reducible refine zPm k24 ?_
   rintro _ u22 g23 rfl
   refine zza 21 (zB ((l.getD i 0) != (Nt.wrapW 32 (l.getD i 0)))) (zzb (zzt (b := (l.getD i 0) != (Nt.wrapW 32 (l.getD i 0))) xv (fun hb25 => ?_) (fun hb25 => ?_)))
   ·replace hb25 : ((l.getD i 0) != (Nt.wrapW 32 (l.getD i 0))) = true := hb25
    refine sq9 (zza 4 (zI 17) (zzb (zzn (zyt (zzv (zys (zyt (zzv (ret0 [.int .i64 17] ⟨zzp, trivial⟩ fun u26 e27 => ?_)))))))))
    show Value.int _ _ = Value.int _ _
    congr 1
    symm
    have hV : Nt.shV (l.length : Int) S := by have h8 := hb15; simp at h8; rw [show ((l.length : Nat) : Int) = (y.n : Int) by omega]; exact h8
    refine Nt.chk_not hV (fun h9 => ?_)
    have h8 := hb25
    rw [Nt.wrap_ne] at h8
    have h7 := h9 i xq
    rw [decide_eq_true h7] at h8
    exact absurd h8 xz
   ·replace hb25 : ((l.getD i 0) != (Nt.wrapW 32 (l.getD i 0))) = false := hb25
    refine zzr (zzo ?_)
    refine zzf (zyp 22 (x := zI (IntKind.i64.wrap ((i : Int) + 1))) (zI (i + 1 : Nat)) (eqI xk) (zza 14 (zI (i + 1 : Nat)) (zzw ?_)))
    refine ⟨_, ?_, _, by exact zzu _ _ _, i + 1, rfl, by omega, (fun j hj => by rcases Nat.lt_or_ge j i with h9 | h9; exact hA j h9; (obtain rfl : j = i := by omega); have h8 := hb25; rw [Nt.wrap_ne] at h8; exact of_decide_eq_true (Nt.bnot_f h8)), rfl, (e18.trans (e21.trans g23.ext))⟩
    omega
  ·replace hb19 : (decide ((i : Int) < (y.n : Int))) = false := hb19
   have qhb19 := of_decide_eq_false hb19
   refine zyb (zzo (sq9 (zza 4 (zI 0) (zzb (zzn (ret0 [.int .i64 0] ⟨zzp, trivial⟩ fun u28 e29 => ?_))))))
   show Value.int _ _ = Value.int _ _
   congr 1
   symm
   have hV : Nt.shV (l.length : Int) S := by have h8 := hb15; simp at h8; rw [show ((l.length : Nat) : Int) = (y.n : Int) by omega]; exact h8
   exact Nt.chk_ok hV (fun j hj => hA j xq)
set_option maxHeartbeats 1000000 in
theorem k_cloneI {u w : World} {x : Sl} {l : List Int} (d : Dat u w) (hx : SlR .i64 u x.a x.n x.c l) (h0 : 0 < l.length) (h9 : l.length ≤ 1000000000) : Calls Tryz.prog 115 #[x.v] w (Post u w fun v u' => ∃ (b c : Nat) (X : List Value), v = .slice (some ⟨b, 0, none⟩) x.n c ∧ u.heap.size ≤ b ∧ u'.heap[b]? = some (.cells (ics l ++ X).toArray 3 (0, 0)) ∧ (ics l ++ X).length = c ∧ x.n ≤ c ∧ c ≤ maxLen) := by
 obtain ⟨xa, n0, c0⟩ := x
 obtain ⟨hn, h2, h3, h4⟩ := hx
 change l.length = n0 at hn
 obtain ⟨b0, o0, e, hb0, hc⟩ := h4 (by show 0 < n0; omega)
 change xa = _ at e
 subst e
 change ∀ i, i < n0 → _ at hc
 change Calls _ _ #[.slice (some ⟨b0, o0, none⟩) n0 c0] _ _
 refine zzl (args := [.slice (some ⟨b0, o0, none⟩) n0 c0]) Tryz.func115 rfl Tryz.ntmps115 (rs := [.tmp 2]) Tryz.results115 (le_b rfl) (le_b rfl) d ?_
 refine sq9 (zza 2 (.v (.slice none 0 0)) (zzb (zzd (sq9 (zza 3 (.v (.slice (some ⟨b0, o0, none⟩) n0 c0)) (zza 4 (zB false) (zzb (zyr xv (zzr (zzo ?_))))))))))
 refine sq9 (sy_lit 5 ⟨3, []⟩ 0 ?_)
 refine zza 6 (.v (.slice (some ⟨b0, o0, none⟩) n0 c0)) (sy_app1 7 (T := 30) (E := 3) (z := .int .i64 0) (size := 1) (bytes := 8) (b := b0) (off := o0) (m := n0) (c := c0) (n := 0) (cap := 0) (t := 5) (cs0 := []) [5, 7] (ics l) xv xv xv xz (by rw [zwf, hn, Nat.mul_one]) (fun j v hv => by have h9 := (List.getElem?_eq_some_iff.1 hv).1; rw [zwf] at h9; rw [hc j xq, ← hv, ics_at h9, List.getD_eq_getElem?_getD]) ics_one xq yq xq xq xz rfl xj ?_)
 intro c1 cs k1 k2 k3 k4
 refine zza 2 (.slc 7 0 (0 + n0) c1) (zzc 8 [(2, .slc 7 0 (0 + n0) c1)] [(7, ⟨3, cs⟩)] (zyo (r := 2) (t := 7) [2, 7] xj xv (by rfl) (by rfl) xv (fun b u2 e2 hb hh => ?_)))
 refine zzn (ret0 [.slice (some ⟨b, 0, none⟩) (0 + n0) c1] ⟨zzp, trivial⟩ fun u11 e12 => ?_)
 rw [Nat.zero_add, Nat.mul_one] at k4
 rw [Nat.zero_add] at k1
 rw [Nat.mul_one] at k3
 change cs.take n0 = ics l at k4
 have e9 : cs = ics l ++ cs.drop n0 := by rw [← k4]; exact (List.take_append_drop n0 cs).symm
 refine ⟨b, c1, cs.drop n0, ?_, hb, ?_, by rw [← e9]; exact k3, k1, k2⟩
 ·show Value.slice _ (0 + n0) _ = _; rw [Nat.zero_add]
 ·rw [← e9]; exact e12.cells hh
set_option maxHeartbeats 2000000 in
theorem k_perform {u w : World} {g n c : Nat} {l : List Int} {X : List Value} {t f : Nat} {cf sh sg : Int} (d : Dat u w) (hg : w.heap[g]? = some (.cells (ics l ++ X).toArray 3 (0, 0))) (hu : u.heap[g]? = some hidO) (hl : l.length = n) (hW : Nt.W32 l) (hn9 : n ≤ 1000) (hs : Nt.shOK (n : Int) [(t : Int), (f : Int), cf, sh]) (hsg : sg = 1 ∨ sg = -1) : Calls Tryz.prog 116 #[.slice (some ⟨g, 0, none⟩) n c, .agg #[.int .i64 (t : Int), .int .i64 (f : Int), .int .i64 cf, .int .i64 sh], .int .i64 sg] w (PostL u w g fun V u' => V = ⟨3, ics (Nt.shF [(t : Int), (f : Int), cf, sh] sg l) ++ X⟩) := by
 obtain ⟨h1, h2, h3, h4, h5, h6, h7, h8⟩ := Nt.shOK_mk hs
 have hlt := hW.get t
 have hlf := hW.get f
 have hm := Nt.sh_mul (a := cf) (b := l.getD f 0) (A := 2097152) (B := 2147483648) ⟨h5, h6⟩ ⟨by omega, by omega⟩ xz
 have hsb := Nt.shift_bd2 (cf * l.getD f 0) sh
 have hsx := Nt.sg_bd (x := Nt.shiftW (cf * l.getD f 0) sh 2) (B := 4503599627370497) hsg ⟨by omega, by omega⟩
 refine calls_lent (args := [.agg #[.int .i64 (t : Int), .int .i64 (f : Int), .int .i64 cf, .int .i64 sh], .int .i64 sg]) Tryz.func116 rfl Tryz.ntmps116 Tryz.results116 (le_b rfl) d hg hu ?_
 refine sq9 (zzj 4 ⟨90, [.int .i64 t, .int .i64 f, .int .i64 cf, .int .i64 sh]⟩ (zzb (sq9 (zza 7 (.adr 4 3) (zzh 8 (zI sh) ty3 zzk (zzb (zzs (sq9 (zza 35 (zB (sh == (-1))) (zza 34 (zB (sh == (-1))) (zzb ?_)))))))))))
 refine zzt (b := sh == (-1)) xv (fun hb11 => ?_) (fun hb11 => ?_)
 ·replace hb11 : (sh == (-1)) = true := hb11
  have qhb11 : sh = (-1) := by simpa using hb11
  refine zzy [0, 0, 2, 0, 0, 16, 0, 0, 128, 448, 960, 0, 0, 4096, 14336, 30720, 65479, 131015, 262143, 524287] [(0, []), (1, []), (2, []), (3, []), (4, []), (5, []), (6, []), (7, []), (8, []), (9, []), (10, []), (11, []), (12, []), (13, []), (14, []), (15, []), (16, []), (17, [40]), (18, []), (19, [])] xv xv (zza 36 (.slc 67 0 n c) (zza 37 (.adr 4 0) (zzh 38 (zI t) ty3 zzk (zza 39 (.slc 67 0 n c) (zza 40 (.adr 4 1) (zzh 41 (zI f) ty3 zzk (zza 42 (.slc 67 0 n c) (zza 43 (.adr 4 1) (zzh 44 (zI f) ty3 zzk (zyv 45 (off' := f * 1) (n := n) (off := 0) (sz := 1) (i := (f : Int)) sl30 xq xq xq ?_))))))))))
  refine zzh 46 (V := ⟨3, ics l ++ X⟩) (off := f * 1) (zI (l.getD f 0)) ty3 (part_intsX (l := l) (i := f) (by rw [hl]; omega) rfl) (zza 47 (.slc 67 0 n c) (zza 48 (.adr 4 0) (zzh 49 (zI t) ty3 zzk (zyv 50 (off' := t * 1) (n := n) (off := 0) (sz := 1) (i := (t : Int)) sl30 xq xq xq ?_))))
  refine zzh 51 (V := ⟨3, ics l ++ X⟩) (off := t * 1) (zI (l.getD t 0)) ty3 (part_intsX (l := l) (i := t) (by rw [hl]; omega) rfl) (zyv 52 (off' := t * 1) (n := n) (off := 0) (sz := 1) (i := (t : Int)) sl30 xq xq xq ?_)
  refine zyu (V := ⟨3, ics l ++ X⟩) (off := t * 1) (ics (l.set t (l.getD f 0)) ++ X) ty3 (by rw [List.length_append, zwf, hl]; omega) (setL_intsX (z := (l.getD f 0)) (i := t) (by rw [hl]; omega) rfl) ?_
  refine zyv 53 (off' := f * 1) (n := n) (off := 0) (sz := 1) (i := (f : Int)) sl30 xq xq xq ?_
  refine zyu (V := ⟨3, ics (l.set t (l.getD f 0)) ++ X⟩) (off := f * 1) (ics ((l.set t (l.getD f 0)).set f (l.getD t 0)) ++ X) ty3 (by rw [List.length_append, zwf, (List.length_set.trans hl)]; omega) (setL_intsX (z := (l.getD t 0)) (i := f) (by rw [(List.length_set.trans hl)]; omega) rfl) ?_
  refine zzw ?_
  refine lent_end (V := ⟨3, ics ((l.set t (l.getD f 0)).set f (l.getD t 0)) ++ X⟩) rfl rfl (fun _ _ => ?_)
  rw [(Nt.shF_x qhb11)]
 ·replace hb11 : (sh == (-1)) = false := hb11
  have qhb11 : ¬ sh = (-1) := by simpa using hb11
  refine sq9 (zza 55 (zB (sh == (-2))) (zza 54 (zB (sh == (-2))) (zzb (zzt (b := sh == (-2)) xv (fun hb12 => ?_) (fun hb12 => ?_)))))
  ·replace hb12 : (sh == (-2)) = true := hb12
   have qhb12 : sh = (-2) := by simpa using hb12
   refine zzy [0, 0, 2, 0, 0, 16, 56, 120, 248, 504, 1023, 2047] [(0, []), (1, []), (2, []), (3, []), (4, []), (5, []), (6, []), (7, []), (8, []), (9, []), (10, []), (11, [])] xv xv (zza 56 (.slc 67 0 n c) (zza 57 (.adr 4 0) (zzh 58 (zI t) ty3 zzk (zza 59 (.slc 67 0 n c) (zza 60 (.adr 4 0) (zzh 61 (zI t) ty3 zzk (zyv 62 (off' := t * 1) (n := n) (off := 0) (sz := 1) (i := (t : Int)) sl30 xq xq xq ?_)))))))
   refine zzh 63 (V := ⟨3, ics l ++ X⟩) (off := t * 1) (zI (l.getD t 0)) ty3 (part_intsX (l := l) (i := t) (by rw [hl]; omega) rfl) (zyp 64 (x := zI (IntKind.i64.wrap (0 - (l.getD t 0)))) (zI (-(l.getD t 0))) (eqI xk) (zzg 65 190 [.int .i64 32, .int .i64 (-(l.getD t 0))] ?_))
   intro w13 u13 e13 d13
   have k16 := k_fxWrap (b := 32) (v := -(l.getD t 0)) d13 xq xq
   with_reducible refine zPm k16 ?_
   rintro _ u14 g15 rfl
   refine zyv 66 (off' := t * 1) (n := n) (off := 0) (sz := 1) (i := (t : Int)) sl30 xq xq xq ?_
   refine zyu (V := ⟨3, ics l ++ X⟩) (off := t * 1) (ics (l.set t (Nt.wrapW 32 (-(l.getD t 0)))) ++ X) ty3 (by rw [List.length_append, zwf, hl]; omega) (setL_intsX (z := Nt.wrapW 32 (-(l.getD t 0))) (i := t) (by rw [hl]; omega) rfl) ?_
   refine zzw ?_
   refine lent_end (V := ⟨3, ics (l.set t (Nt.wrapW 32 (-(l.getD t 0)))) ++ X⟩) rfl rfl (fun _ _ => ?_)
   rw [(Nt.shF_n qhb12)]
  ·replace hb12 : (sh == (-2)) = false := hb12
   have qhb12 : ¬ sh = (-2) := by simpa using hb12
   refine zzd (zzy [0, 1, 0, 0, 8, 28, 60, 127, 0, 256, 1023, 2047] [(0, []), (1, []), (2, []), (3, []), (4, []), (5, []), (6, []), (7, []), (8, []), (9, []), (10, []), (11, [])] xv xv (zza 9 (.adr 4 2) (zzh 10 (zI cf) ty3 zzk (zza 11 (.slc 67 0 n c) (zza 12 (.adr 4 1) (zzh 13 (zI f) ty3 zzk (zyv 14 (off' := f * 1) (n := n) (off := 0) (sz := 1) (i := (f : Int)) sl30 xq xq xq ?_)))))))
   refine zzh 15 (V := ⟨3, ics l ++ X⟩) (off := f * 1) (zI (l.getD f 0)) ty3 (part_intsX (l := l) (i := f) (by rw [hl]; omega) rfl) (zyp 16 (x := zI (IntKind.i64.wrap (cf * (l.getD f 0)))) (zI (cf * (l.getD f 0))) xw (zza 17 (.adr 4 3) (zzh 18 (zI sh) ty3 zzk (zzg 19 191 [.int .i64 (cf * (l.getD f 0)), .int .i64 sh, .int .i64 2] ?_))))
   intro w17 u17 e17 d17
   have k20 := k_fxShift (v := cf * (l.getD f 0)) (n := sh) (r := 2) d17 xq xq xq xq xq
   with_reducible refine zPm k20 ?_
   rintro _ u18 g19 rfl
   refine zza 6 (zI (Nt.shiftW (cf * (l.getD f 0)) sh 2)) (zzc 67 [(0, .slc 67 0 n c), (2, zI sg), (4, .adr 4 0), (6, zI (Nt.shiftW (cf * (l.getD f 0)) sh 2))] [(4, ⟨90, [.int .i64 t, .int .i64 f, .int .i64 cf, .int .i64 sh]⟩), (67, ⟨3, ics l ++ X⟩)] (zzy [0, 0, 2, 0, 0, 16, 56, 120, 0, 0, 768, 2040, 4088, 8191, 16383] [(0, []), (1, []), (2, []), (3, []), (4, []), (5, []), (6, []), (7, []), (8, []), (9, []), (10, []), (11, []), (12, []), (13, []), (14, [])] xv xv (zza 20 (.slc 67 0 n c) (zza 21 (.adr 4 0) (zzh 22 (zI t) ty3 zzk (zza 23 (.slc 67 0 n c) (zza 24 (.adr 4 0) (zzh 25 (zI t) ty3 zzk (zyv 26 (off' := t * 1) (n := n) (off := 0) (sz := 1) (i := (t : Int)) sl30 xq xq xq ?_)))))))))
   refine zzh 27 (V := ⟨3, ics l ++ X⟩) (off := t * 1) (zI (l.getD t 0)) ty3 (part_intsX (l := l) (i := t) (by rw [hl]; omega) rfl) (zza 28 (zI sg) (zza 29 (zI (Nt.shiftW (cf * (l.getD f 0)) sh 2)) (zyp 30 (x := zI (IntKind.i64.wrap (sg * (Nt.shiftW (cf * (l.getD f 0)) sh 2)))) (zI (sg * (Nt.shiftW (cf * (l.getD f 0)) sh 2))) xw (zyp 31 (x := zI (IntKind.i64.wrap ((l.getD t 0) + (sg * (Nt.shiftW (cf * (l.getD f 0)) sh 2))))) (zI ((l.getD t 0) + (sg * (Nt.shiftW (cf * (l.getD f 0)) sh 2)))) xw (zzg 32 190 [.int .i64 32, .int .i64 ((l.getD t 0) + (sg * (Nt.shiftW (cf * (l.getD f 0)) sh 2)))] ?_)))))
   intro w21 u21 e21 d21
   have k24 := k_fxWrap (b := 32) (v := (l.getD t 0) + (sg * (Nt.shiftW (cf * (l.getD f 0)) sh 2))) d21 xq xq
   with_reducible refine zPm k24 ?_
   rintro _ u22 g23 rfl
   refine zyv 33 (off' := t * 1) (n := n) (off := 0) (sz := 1) (i := (t : Int)) sl30 xq xq xq ?_
   refine zyu (V := ⟨3, ics l ++ X⟩) (off := t * 1) (ics (l.set t (Nt.wrapW 32 ((l.getD t 0) + (sg * (Nt.shiftW (cf * (l.getD f 0)) sh 2))))) ++ X) ty3 (by rw [List.length_append, zwf, hl]; omega) (setL_intsX (z := Nt.wrapW 32 ((l.getD t 0) + (sg * (Nt.shiftW (cf * (l.getD f 0)) sh 2)))) (i := t) (by rw [hl]; omega) rfl) ?_
   refine zzw ?_
   refine lent_end (V := ⟨3, ics (l.set t (Nt.wrapW 32 ((l.getD t 0) + (sg * (Nt.shiftW (cf * (l.getD f 0)) sh 2))))) ++ X⟩) rfl rfl (fun _ _ => ?_)
   rw [(Nt.shF_s qhb11 qhb12)]
set_option maxHeartbeats 2000000 in
theorem k_dforward {u w : World} {x y : Sl} {S : List (List Int)} {l : List Int} (d : Dat u w) (hx : IrV 4 u x S) (h9 : S.length ≤ 1000000) (hy : SlR .i64 u y.a y.n y.c l) (hb : ∀ z ∈ l, -9223372036854775808 ≤ z ∧ z ≤ 9223372036854775807) (h8 : l.length ≤ 1000000) : Calls Tryz.prog 49 #[x.v, y.v] w (Post u w fun v u' => ∃ z : Sl, v = .tuple #[z.v, .int .i64 (Nt.chkE S l)] ∧ SlR .i64 u' z.a z.n z.c (Nt.fwdL S l)) := by
 have hlx : x.n = S.length := hx.len
 have hly : l.length = y.n := hy.1
 refine zzl (args := [.slice x.a x.n x.c, .slice y.a y.n y.c]) Tryz.func49 rfl Tryz.ntmps49 (rs := [.tmp 4, .tmp 5]) Tryz.results49 (le_b rfl) (le_b rfl) d ?_
 refine sq9 (zza 4 (.v (.slice none 0 0)) (zza 5 (zI 0) (zzb (zzd (sq9 (zza 10 (.v x.v) (zza 11 (.v y.v) (zzg 12 114 [x.v, y.v] ?_))))))))
 intro w11 u11 e11 d11
 have k14 := k_dcheck (x := x) (y := y) d11 (hx.ext e11) xq (hy.ext e11) hb xq
 with_reducible refine zPm k14 ?_
 rintro _ u12 g13 rfl
 refine zza 6 (zI (Nt.chkE S l)) (zzb (sq9 (zza 13 (zI (Nt.chkE S l)) (zza 14 (zB ((Nt.chkE S l) != 0)) (zzb (zzt (b := (Nt.chkE S l) != 0) xv (fun hb15 => ?_) (fun hb15 => ?_)))))))
 ·replace hb15 : ((Nt.chkE S l) != 0) = true := hb15
  have hE : ¬ Nt.chkE S l = 0 := by simpa using hb15
  refine sq9 (zza 15 (zI (Nt.chkE S l)) (zza 4 (.v (.slice none 0 0)) (zza 5 (zI (Nt.chkE S l)) (zzb (zzn (zzv (ret0 [.slice none 0 0, .int .i64 (Nt.chkE S l)] ⟨zzp, zzp, trivial⟩ fun u16 e17 => ?_)))))))
  rw [show Nt.fwdL S l = [] from if_neg hE]
  exact ⟨sl0, rfl, rfl, Nat.le_refl _, Nat.zero_le _, fun h => absurd h (Nat.lt_irrefl 0)⟩
 ·replace hb15 : ((Nt.chkE S l) != 0) = false := hb15
  have hE : Nt.chkE S l = 0 := by simpa using hb15
  obtain ⟨hV, hW⟩ := Nt.chk_0 hE
  have hV1 := hV.1
  have hV2 := hV.2.1
  have hV3 := hV.2.2.1
  refine zzr (zzo ?_)
  refine sq9 (zza 16 (.v y.v) (zzg 17 115 [y.v] ?_))
  intro w18 u18 e18 d18
  have k29 := k_cloneI (x := y) d18 (hy.ext (e11.trans (g13.ext.trans e18))) xq xq
  with_reducible refine zPm k29 ?_
  rintro _ u27 g28 ⟨b19, c20, X21, rfl, hb22, hh23, hlX24, hle25, hmx26⟩
  refine zza 7 (.v (.slice (some ⟨b19, 0, none⟩) y.n c20)) (zzb (zzd (zzd (sw_adopt (r := 7) (k := 7) (cs := ics l ++ X21) (by rfl) hh23 (Nat.le_trans ((e11.trans (g13.ext.trans e18)).size) hb22) xv (fun u30 eB31 => ?_)))))
  refine zzf (zza 18 (.v x.v) (zza 19 (zI x.n) (zza 20 (zI 0) (zzb (zzs (zym (I := fun m32 S' u' => ∃ (i : Nat), (m32 = S.length - i) ∧ (i ≤ S.length) ∧ (S' = St.of 29 [(7, .slc 7 0 y.n c20), (18, .v (.slice x.a x.n x.c)), (19, zI x.n), (20, zI i)] [(7, ⟨3, ics (Nt.shFs (S.take i) l) ++ X21⟩)]) ∧ (Ext u30 u')) (fun m S u1 u2 e h => by obtain ⟨i, hm, p0, hS, hE⟩ := h; exact ⟨i, hm, p0, hS, hE.trans e⟩) _ yj ⟨0, rfl, by omega, rfl, (Ext.refl _)⟩ ?_))))))
  rintro m32 _ u32 ⟨i, hm32, hi, rfl, e32⟩
  refine sq9 (zza 21 (zB (decide ((i : Int) < (x.n : Int)))) (zzb (zzd (zzt (b := decide ((i : Int) < (x.n : Int))) xv (fun hb33 => ?_) (fun hb33 => ?_)))))
  ·replace hb33 : (decide ((i : Int) < (x.n : Int))) = true := hb33
   have qhb33 := of_decide_eq_true hb33
   refine zzr (zzo ?_)
   refine zzd (zzs (sq9 ?_))
   have hl34 := ((hx.ext (e11.trans (g13.ext.trans (e18.trans ((ExtB.old eB31 g28.ext hb22).trans e32)))))).len
   obtain ⟨b34, o34, hA34, hc34⟩ := ir_at4 (hx.ext (e11.trans (g13.ext.trans (e18.trans ((ExtB.old eB31 g28.ext hb22).trans e32))))) (i := i) xq
   refine zzz 22 (o34 + i * 4) (n := x.n) (off := o34) (sz := 4) (i := (i : Int)) xq hA34 xq xq sl64 (zyl 23 [.int .i64 (gi S i 0), .int .i64 (gi S i 1), .int .i64 (gi S i 2), .int .i64 (gi S i 3)] hc34 ty90 (zzj 9 ⟨90, [.int .i64 0, .int .i64 0, .int .i64 0, .int .i64 0]⟩ (zzi ⟨90, [.int .i64 (gi S i 0), .int .i64 (gi S i 1), .int .i64 (gi S i 2), .int .i64 (gi S i 3)]⟩ ty90 ?_)))
   refine zzb ?_
   have hsO := hV.2.2.2 i xq
   rw [row4 hx.rows xq] at hsO
   obtain ⟨tz, htz⟩ : ∃ t : Nat, gi S i 0 = (t : Int) := ⟨(gi S i 0).toNat, by have h9 : 0 ≤ gi S i 0 := hsO.1; omega⟩
   obtain ⟨fz, hfz⟩ : ∃ t : Nat, gi S i 1 = (t : Int) := ⟨(gi S i 1).toNat, by have h9 : 0 ≤ gi S i 1 := hsO.2.2.1; omega⟩
   rw [htz, hfz]
   rw [htz, hfz] at hsO
   refine zzf (zza 24 (.slc 7 0 y.n c20) (zzh 25 (.v (.agg #[.int .i64 tz, .int .i64 fz, .int .i64 (gi S i 2), .int .i64 (gi S i 3)])) ty90 zze ?_))
   have kc35 := fun (g : Nat) (w u1 : World) (e : Ext u32 u1) (d : Dat u1 w) (hg : w.heap[g]? = some (.cells (ics (Nt.shFs (S.take i) l) ++ X21).toArray 3 (0, 0))) (hu : u1.heap[g]? = some hidO) => k_perform (n := y.n) (c := c20) (t := tz) (f := fz) (cf := gi S i 2) (sh := gi S i 3) (sg := 1) d hg hu (Nt.shFs_len.trans hly) (Nt.shFs_w32 hW) xq (by rw [show ((y.n : Nat) : Int) = (l.length : Int) by omega]; exact hsO) xz
   refine sy_lend 26 116 (t := 7) (V := ⟨3, ics (Nt.shFs (S.take i) l) ++ X21⟩) (len := y.n) (cap := c20) [.agg #[.int .i64 tz, .int .i64 fz, .int .i64 (gi S i 2), .int .i64 (gi S i 3)], .int .i64 1] xv kc35 ?_
   clear kc35
   rintro _ u35 e35 rfl
   refine zzw ?_
   refine zzo (zzf (zyp 27 (x := zI (IntKind.i64.wrap ((i : Int) + 1))) (zI (i + 1 : Nat)) (eqI xk) (zza 20 (zI (i + 1 : Nat)) (zzw ?_))))
   have hM2 : Nt.shFs (S.take (i + 1)) l = Nt.shF [(tz : Int), (fz : Int), gi S i 2, gi S i 3] 1 (Nt.shFs (S.take i) l) := by rw [Nt.shFs_snoc S i xq, row4 hx.rows xq, htz, hfz]
   rw [← hM2]
   refine ⟨_, ?_, _, by exact zzu _ _ _, i + 1, rfl, by omega, rfl, (e32.trans e35)⟩
   omega
  ·replace hb33 : (decide ((i : Int) < (x.n : Int))) = false := hb33
   have qhb33 := of_decide_eq_false hb33
   refine zyb (zzo (zzd (zyo (r := 7) (t := 7) [7] xj xv (by rfl) (by rfl) xv (fun b36 u37 e38 hb39 hh40 => ?_))))
   have hp41 : SlR .i64 u37 (some ⟨b36, 0, none⟩) y.n c20 (Nt.shFs (S.take i) l) := ints_dataX hh40 (Nt.shFs_len.trans hly) hlX24 hle25 hmx26
   refine zzf (zza 28 (.v (.slice (some ⟨b36, 0, none⟩) y.n c20)) (zza 4 (.v (.slice (some ⟨b36, 0, none⟩) y.n c20)) (zza 5 (zI 0) (zzb (zzn (ret0 [.slice (some ⟨b36, 0, none⟩) y.n c20, .int .i64 0] ⟨zzp, zzp, trivial⟩ fun u42 e43 => ?_))))))
   rw [show Nt.fwdL S l = Nt.shFs S l from if_pos hE, hE]
   refine ⟨(⟨some ⟨b36, 0, none⟩, y.n, c20⟩ : Sl), rfl, ?_⟩
   have h7 := (hp41.ext e43)
   rw [show i = S.length by omega, List.take_length] at h7
   exact h7
def Nt.bkl (n k : Nat) : List Nat := ((List.range n).drop k).reverse
theorem Nt.bkl_n (n : Nat) : Nt.bkl n n = [] := by simp [Nt.bkl]
theorem Nt.bkl_len (n k : Nat) : (Nt.bkl n k).length = n - k := by simp [Nt.bkl]
theorem Nt.bkl_s {n k : Nat} (h : k < n) : Nt.bkl n k = Nt.bkl n (k + 1) ++ [k] := by
 unfold Nt.bkl
 rw [List.drop_eq_getElem_cons (by simpa using h), List.reverse_cons, List.getElem_range]
@[irreducible]
def Nt.lftV (v : Value) : Nat := match v with | .int _ i => (i + 1).toNat | _ => 0
theorem Nt.lftV_int (k : IntKind) (i : Int) : Nt.lftV (.int k i) = (i + 1).toNat := by unfold Nt.lftV; rfl
def shrV (S : List (List Int)) (j : Nat) : Value := .agg #[.int .i64 (gi S j 0), .int .i64 (gi S j 1), .int .i64 (gi S j 2), .int .i64 (gi S j 3)]
def shrE (S : List (List Int)) (j : Nat) : Array Value := #[.int .i64 (j : Int), shrV S j]
set_option maxRecDepth 100000 in attribute [local go_sem] Oper.semAt_some in
set_option maxHeartbeats 2000000 in
theorem k_sbackI (F : Fence) (n : Nat) (h6 : F.fn 192) (hro : F.round = none) (hn : 1 ≤ n) (l Bx len cap : Nat) (A : Option Addr) (S : List (List Int)) (R : World → Prop) (Kp : World → World → Prop) (J Jx : List {j : Nat // j < len} → World → Prop)
  (hR1 : ∀ W, R W → W.cell? ⟨Bx, 0, none⟩ = some (.slice A len cap))
  (hR2 : ∀ W j, R W → j < len → ∃ b o, A = some ⟨b, o, none⟩ ∧ W.cell? ⟨b, o + j * 4, none⟩ = some (.int .i64 (gi S j 0)) ∧ W.cell? ⟨b, o + j * 4 + 1, none⟩ = some (.int .i64 (gi S j 1)) ∧ W.cell? ⟨b, o + j * 4 + 2, none⟩ = some (.int .i64 (gi S j 2)) ∧ W.cell? ⟨b, o + j * 4 + 3, none⟩ = some (.int .i64 (gi S j 3)))
  (hRK : ∀ W W', Kp W W' → R W → R W') (hlen : len ≤ 1000000)
  (hY : ∀ pre x W, J pre W → pre.length < len → YieldAt F (n - 1) Tryz.prog l (shrE S x.1) W fun e W' =>
   (e = .returned (.bool true) ∧ J (pre ++ [x]) W' ∧ Kp W W') ∨ (e = .returned (.bool false) ∧ Jx (pre ++ [x]) W'))
  (W : World) (hRW : R W) (h0 : J [] W) :
  CallsIn F n Tryz.prog 192 #[.func (.yield l) #[] #[], .pointer (some ⟨Bx, 0, none⟩)] W fun e W' => (∃ v, e = .returned v) ∧ ((∃ ys, ys.map Subtype.val = Nt.bkl len 0 ∧ J ys W') ∨ (∃ pre, True ∧ Jx pre W')) := by
 refine callsIn_of_wp Tryz.func192 rfl h6 ?_ hro
 simp only [Tryz.ntmps192, List.size_toArray, List.length_cons, List.length_nil, Nat.reduceAdd, Nat.reduceSub, Array.replicate_succ, Array.replicate_zero, List.push_toArray, List.append_toArray, List.nil_append, List.cons_append]
 have hbx := hR1 W hRW
 gi_wp2
 gi_loopw [3] (fun p wr => ∃ (k : Nat) (pre : List {j : Nat // j < len}), p = .int .i64 ((k : Int) - 1) ∧ k ≤ len ∧ R wr ∧ pre.map Subtype.val = Nt.bkl len k ∧ J pre wr)
  (fun p wr => Nt.lftV p)
 case atStart =>
  exact ⟨len, [], rfl, Nat.le_refl _, hRW, (Nt.bkl_n _).symm, h0⟩
 case round =>
  obtain ⟨k, pre, rfl, hk, hRr, hpre, hJs⟩ := hrel
  rcases Nat.eq_zero_or_pos k with rfl | hkp
  ·gi_wp2
   go_end0
   exact ⟨⟨_, rfl⟩, .inl ⟨_, hpre, hJs⟩⟩
  ·obtain ⟨j, rfl⟩ : ∃ j, k = j + 1 := ⟨k - 1, by omega⟩
   obtain ⟨b, o, hA, c0, c1, c2, c3⟩ := hR2 wr j hRr xq
   subst hA
   have hb := hR1 wr hRr
   obtain ⟨fn, tmps, assign, body, hy, hRd⟩ := hY pre ⟨j, by omega⟩ wr hJs (by have h7 := congrArg List.length hpre; rw [List.length_map, Nt.bkl_len] at h7; omega)
   dsimp only [shrE, shrV] at hy
   rw [show ((j + 1 : Nat) : Int) - 1 = (j : Int) by omega]
   gi_wp2
   refine hRd.mono ?_
   rintro e W3 (⟨rfl, hJ3, hk3⟩ | ⟨rfl, hJx3⟩)
   ·gi_wp2
    go_roundw
    case rel => exact ⟨j, pre ++ [⟨j, by omega⟩], rfl, by omega, hRK _ _ hk3 hRr, by rw [Nt.bkl_s (show j < len by omega), List.map_append, hpre]; rfl, hJ3⟩
    case measure => show Nt.lftV (.int .i64 ((j : Int) - 1)) < Nt.lftV (.int .i64 (j : Int)); rw [Nt.lftV_int, Nt.lftV_int]; omega
   ·gi_wp2
    refine bodyPost_ret (results_none rfl _ _ _) rfl ?_
    exact ⟨⟨_, rfl⟩, .inr ⟨_, trivial, hJx3⟩⟩
theorem k_sbackS (F : Fence) (n : Nat) (h6 : F.fn 192) (hro : F.round = none) (hn : 1 ≤ n) (Bx len cap : Nat) (A : Option Addr) (S : List (List Int)) (R : World → Prop) (Kp : World → World → Prop) (w : World)
  (hR0 : ∀ W, Below w.heap.size w W → R W)
  (hR1 : ∀ W, R W → W.cell? ⟨Bx, 0, none⟩ = some (.slice A len cap))
  (hR2 : ∀ W j, R W → j < len → ∃ b o, A = some ⟨b, o, none⟩ ∧ W.cell? ⟨b, o + j * 4, none⟩ = some (.int .i64 (gi S j 0)) ∧ W.cell? ⟨b, o + j * 4 + 1, none⟩ = some (.int .i64 (gi S j 1)) ∧ W.cell? ⟨b, o + j * 4 + 2, none⟩ = some (.int .i64 (gi S j 2)) ∧ W.cell? ⟨b, o + j * 4 + 3, none⟩ = some (.int .i64 (gi S j 3)))
  (hRK : ∀ W W', Kp W W' → R W → R W') (hlen : len ≤ 1000000) :
  SeqStopsK F n Tryz.prog 192 #[.pointer (some ⟨Bx, 0, none⟩)] (fun x : {j : Nat // j < len} => shrE S x.1) Kp (fun ys => ys.map Subtype.val = Nt.bkl len 0) (fun _ => True) len w := fun l J Jx W hW _ _ hY h0 =>
 k_sbackI F n h6 hro hn l Bx len cap A S R Kp J Jx hR1 hR2 hRK hlen hY W (hR0 W hW) h0
theorem Nt.bkl_fold (S : List (List Int)) (l : List Int) : ∀ n k, k + n = S.length → (Nt.bkl S.length k).foldl (fun l j => Nt.shF (S.getD j []) (-1) l) l = Nt.shBs (S.drop k) l
 | 0, k, h => by rw [show k = S.length by omega, Nt.bkl_n, List.drop_length]; rfl
 | n + 1, k, h => by
  have hk : k < S.length := by omega
  rw [Nt.bkl_s hk, List.foldl_append, Nt.bkl_fold S l n (k + 1) xq, List.drop_eq_getElem_cons hk]
  show Nt.shF (S.getD k []) (-1) _ = Nt.shF S[k] (-1) _
  rw [List.getD_eq_getElem?_getD, List.getElem?_eq_getElem hk]
  rfl
theorem k_sback {u w : World} {x : Sl} (d : Dat u w) : Calls Tryz.prog 117 #[x.v] w (Post u w fun v u' => ∃ b, v = .func (.func 192) #[] #[.pointer (some ⟨b, 0, none⟩)] ∧ u.heap.size ≤ b ∧ u'.heap[b]? = some (.cells #[x.v] 64 (0, 0))) := by
 refine calls_of_wp Tryz.func117 rfl ?_
 simp only [Tryz.ntmps117, List.size_toArray, List.length_cons, List.length_nil, Nat.reduceAdd, Nat.reduceSub, Array.replicate_succ, Array.replicate_zero, List.push_toArray, List.append_toArray, List.nil_append, List.cons_append]
 go_wp2
 go_ret
 exact ⟨_, u.alloc (.cells #[x.v] 64), rfl, dat_vis d _, (Below.refl _ w).alloc (Nat.le_refl _) _, ⟨by simp, fun b hb => Below.heap_alloc u _ b hb⟩, w.heap.size, rfl, by rw [d.size]; exact Nat.le_refl _, by rw [← d.size]; exact World.alloc_heap_new u _⟩
def bst (S : List (List Int)) (l : List Int) (pre : List Nat) : List Int := pre.foldl (fun l j => Nt.shF (S.getD j []) (-1) l) l
theorem bst_len (S : List (List Int)) : ∀ (pre : List Nat) (l : List Int), (bst S l pre).length = l.length
 | [], l => rfl
 | j :: pre, l => by show (bst S _ pre).length = _; rw [bst_len S pre, Nt.shF_len]
theorem bst_w32 (S : List (List Int)) : ∀ (pre : List Nat) (l : List Int), Nt.W32 l → Nt.W32 (bst S l pre)
 | [], l, h => h
 | j :: pre, l, h => bst_w32 S pre _ (Nt.shF_w32 h)
theorem bst_snoc (S : List (List Int)) (l : List Int) (pre : List Nat) (j : Nat) : bst S l (pre ++ [j]) = Nt.shF (S.getD j []) (-1) (bst S l pre) := by unfold bst; rw [List.foldl_append]; rfl
def KpB (N b : Nat) (W W' : World) : Prop := ∀ k, k < N → k ≠ b → W'.heap[k]? = W.heap[k]?
def allH (w : World) : World := { w with heap := Array.replicate w.heap.size hidO }
theorem allH_get {w : World} {b : Nat} (h : b < w.heap.size) : (allH w).heap[b]? = some hidO := by simp [allH, h]
theorem allH_dat (w : World) : Dat (allH w) w := ⟨by simp [allH], fun b o h hh => by
 have h1 := zyx h
 have h2 : b < w.heap.size := by simpa [allH] using h1
 rw [allH_get h2] at h; injection h with h; exact absurd h.symm hh⟩
structure BkI (w3 : World) (b : Nat) (S : List (List Int)) (l : List Int) (X : List Value) (pre : List Nat) (W : World) : Prop where
 kp : KpB w3.heap.size b w3 W
 size : w3.heap.size ≤ W.heap.size
 os : W.os = w3.os
 tape : W.tape = w3.tape
 output : W.output = w3.output
 cell : W.heap[b]? = some (.cells (ics (bst S l pre) ++ X).toArray 3 (0, 0))
theorem BkI.grown {w3 W W' : World} {b : Nat} {S : List (List Int)} {l : List Int} {X : List Value} {pre : List Nat} {row : Option Nat} (h : BkI w3 b S l X pre W) (hb : b < w3.heap.size) (hg : W.grownBy W' row) (hr : ∀ r, row = some r → w3.heap.size ≤ r) : BkI w3 b S l X pre W' :=
 have hblk : ∀ k, k < w3.heap.size → W'.heap[k]? = W.heap[k]? := fun k hk => hg.block k (Nat.lt_of_lt_of_le hk h.size) (fun e => by have := hr k e.symm; omega)
 ⟨fun k hk hkb => (hblk k hk).trans (h.kp k hk hkb), Nat.le_trans h.size hg.size, hg.os.trans h.os, hg.tape.trans h.tape, hg.output.trans h.output, (hblk b hb).trans h.cell⟩
set_option maxRecDepth 100000 in attribute [local go_sem] Oper.semAt_some in
set_option maxHeartbeats 4000000 in
theorem k_dbackward {u w : World} {x y : Sl} {S : List (List Int)} {l : List Int} (d : Dat u w) (hx : IrV 4 u x S) (h9 : S.length ≤ 1000000) (hy : SlR .i64 u y.a y.n y.c l) (hb : ∀ z ∈ l, -9223372036854775808 ≤ z ∧ z ≤ 9223372036854775807) (h8 : l.length ≤ 1000000) : Calls Tryz.prog 50 #[x.v, y.v] w (Post u w fun v u' => ∃ z : Sl, v = .tuple #[z.v, .int .i64 (Nt.chkE S l)] ∧ SlR .i64 u' z.a z.n z.c (Nt.bwdL S l)) := by
 have hlx : x.n = S.length := hx.len
 have hly : l.length = y.n := hy.1
 refine (callsIn_wide (n := 3)).1 ?_
 refine callsIn_of_wp_marks Tryz.func50 rfl trivial ?_ rfl
 simp only [Tryz.ntmps50, List.size_toArray, List.length_cons, List.length_nil, Nat.reduceAdd, Nat.reduceSub, Array.replicate_succ, Array.replicate_zero, List.push_toArray, List.append_toArray, List.nil_append, List.cons_append]
 by_cases hE : Nt.chkE S l = 0
 ·obtain ⟨hV, hW⟩ := Nt.chk_0 hE
  gi_wp2_with (first
   | (refine ⟨trivial, ?_⟩; gi_at_call 114; refine (callsIn_wide.2 (k_dcheck d hx h9 hy hb h8)).mono ?_; rintro e w1 ⟨v, u1, rfl, d1, b1, g1, rfl⟩; rw [hE])
   | (refine ⟨trivial, ?_⟩; gi_at_call 115; refine (callsIn_wide.2 (k_cloneI d1 (SlR.ext hy g1.ext) (by have := hV.1; omega) xq)).mono ?_; rintro e w2 ⟨v, u2, rfl, d2, b2, g2, b, c, X, rfl, hb2, hh2, hl2, hnc, hc2⟩)
   | (refine ⟨trivial, ?_⟩; gi_at_call 117; refine (callsIn_wide.2 (k_sback (dat_alloc d2 _))).mono ?_; rintro e w3 ⟨v, u3, rfl, d3, b3, g3, bx, rfl, hbx, hbc⟩))
  have hbN : b < w2.heap.size := by rw [← d2.size]; exact zyx hh2
  have hN3 : w2.heap.size + 1 ≤ w3.heap.size := by have := b3.size; simpa using this
  have hw3b : w3.heap[b]? = some (.cells (ics l ++ X).toArray 3 (0, 0)) := d3.ext.cells (g3.ext.cells (Ext.cells ((Grow.ext ⟨by simp, fun k hk => Below.heap_alloc u2 hidO k hk⟩ : Ext u2 (u2.alloc hidO))) hh2))
  have hw37 : w3.heap[w2.heap.size]? = some (.cells #[.slice (some ⟨b, 0, none⟩) y.n c] 30 (0, 0)) := (b3.block _ (by simp)).trans (World.alloc_heap_new w2 _)
  have hbx2 : w2.heap.size + 1 ≤ bx := by have := hbx; simp [d2.size] at this; exact this
  have hw3x : w3.heap[bx]? = some (.cells #[x.v] 64 (0, 0)) := d3.ext.cells hbc
  have hbw : Below w.heap.size w w3 := (b1.trans ((b2.mono b1.size).trans (((Below.refl _ w2).alloc (Nat.le_refl _) _).trans (b3.mono (by simp)) |>.mono (Nat.le_trans b1.size b2.size))))
  have hbge : w.heap.size ≤ b := Nat.le_trans b1.size (by rw [← d1.size]; exact hb2)
  have hb3 : b < w3.heap.size := by omega
  have hbb : bx ≠ b := by omega
  have h7b : w2.heap.size ≠ b := by omega
  have hbx3 : bx < w3.heap.size := zyx hw3x
  have hxr : ∀ j, j < x.n → ∃ b' o, x.a = some ⟨b', o, none⟩ ∧ b' < w.heap.size ∧ ∀ i, i < 4 → w3.cell? ⟨b', o + j * 4 + i, none⟩ = some (.int .i64 (gi S j i)) := fun j hj => by
   obtain ⟨b', o, e1, e2, e3⟩ := ir_at hx (i := j) xq
   refine ⟨b', o, e1, by rw [← d.size]; exact e2, fun i hi => ?_⟩
   have e4 : u.cell? ⟨b', o + j * 4 + i, none⟩ = some (.int .i64 (gi S j i)) := by
    rw [e3 i (by rw [zwf, hx.rows.get xq]; exact hi), ics_at (by rw [hx.rows.get xq]; exact hi)]
    rfl
   exact (World.cell?_of_block (hbw.block b' (by rw [← d.size]; exact e2))).trans (d.ext.cell e4)
  refine wpIn_rangeFunc_ownH (w := w3) rfl xq (gf := 192) (lb := #[.pointer (some ⟨bx, 0, none⟩)]) rfl trivial (enters_of Tryz.func192 xv rfl)
   (k_sbackS Fence.wide 2 trivial rfl xq bx x.n x.c x.a S (KpB w3.heap.size b w3) (KpB w3.heap.size b) w3 ?r0 ?r1 ?r2 ?rk xq)
   (fun h k => fun i hi hib => (k i hi hib).trans (h i hi hib)) ?kb (Below.refl _ _) (fun _ => rfl)
   (fun pre W => BkI w3 b S l X (pre.map Subtype.val) W) (fun _ _ _ => False) ?own (fun _ _ _ _ _ hs _ _ => hs) ?h0
   (fun x' a' W => ∃ B9, w3.heap.size ≤ B9 ∧ W.heap[B9]? = some (.cells #[.int .i64 (gi S x'.1 0), .int .i64 (gi S x'.1 1), .int .i64 (gi S x'.1 2), .int .i64 (gi S x'.1 3)] 90 (0, 0)) ∧ a' = { tmps := #[x.v, y.v, undef, undef, .slice none 0 0, .int .i64 0, .int .i64 0, .pointer (some ⟨w2.heap.size, 0, none⟩), undef, .pointer (some ⟨B9, 0, none⟩), x.v, y.v, .int .i64 0, .int .i64 0, .bool false, undef, y.v, .slice (some ⟨b, 0, none⟩) y.n c, x.v, .func (.func 192) #[] #[.pointer (some ⟨bx, 0, none⟩)], .int .i64 (x'.1 : Int), .agg #[.int .i64 (gi S x'.1 0), .int .i64 (gi S x'.1 1), .int .i64 (gi S x'.1 2), .int .i64 (gi S x'.1 3)], undef, undef, undef, undef], defers := [] }) ?ax ?assign ?body ?done ?stop
  case assign =>
   intro l' pre x' W K hI hK
   dsimp only [shrE, shrV]
   gi_wp2
   exact hK _ _ ((KeepsOthers.alloc W _).from _) (fun k hk _ => Below.heap_alloc W _ k (Nat.lt_of_lt_of_le hk hI.size)) (hI.grown hb3 (World.grownBy_alloc W _ none) (fun r e => by cases e)) ⟨W.heap.size, hI.size, World.alloc_heap_new W _, rfl⟩
  case r0 => exact fun W hW k hk _ => hW.block k hk
  case r1 => exact fun W hR => (World.cell?_of_block (hR bx hbx3 hbb)).trans (by simp [World.cell?, hw3x])
  case r2 =>
   intro W j hR hj
   obtain ⟨b', o, e1, e2, e3⟩ := hxr j hj
   have e4 : ∀ i, i < 4 → W.cell? ⟨b', o + j * 4 + i, none⟩ = some (.int .i64 (gi S j i)) := fun i hi => (World.cell?_of_block (hR b' (Nat.lt_of_lt_of_le e2 hbw.size) (by show b' ≠ b; omega))).trans (e3 i hi)
   exact ⟨b', o, e1, e4 0 xz, e4 1 xz, e4 2 xz, e4 3 xz⟩
  case rk => exact fun W W' hk hR k hk' hkb => (hk k hk' hkb).trans (hR k hk' hkb)
  case kb => exact fun W l' o o' hl _ _ _ k hk _ => World.putObj_heap_other xq
  case own => exact fun s W W' row hs hg hr => BkI.grown hs hb3 hg (fun r e => (hr r e).1)
  case h0 => exact ⟨fun _ _ _ => rfl, Nat.le_refl _, rfl, rfl, rfl, hw3b⟩
  case ax =>
   rintro x' a' _ W W' row ⟨B9, h1, h2, h3⟩ hg hr
   exact ⟨B9, h1, (hg.block B9 (zyx h2) (fun e => by obtain ⟨_, o, ho, hc⟩ := hr B9 e.symm; rw [h2] at ho; cases ho; cases hc)).trans h2, h3⟩
  case stop => exact fun D c' pre W _ _ h _ => h.elim
  case body =>
   rintro l' pre x' a' W hl' _ hI ⟨B9, hB9, hc9, rfl⟩ hpl
   have hxl : x'.1 < S.length := by rw [← hlx]; exact x'.2
   have hsO := hV.2.2.2 x'.1 hxl
   rw [row4 hx.rows hxl] at hsO
   obtain ⟨tz, htz⟩ : ∃ t : Nat, gi S x'.1 0 = (t : Int) := ⟨(gi S x'.1 0).toNat, by have h9 : 0 ≤ gi S x'.1 0 := hsO.1; omega⟩
   obtain ⟨fz, hfz⟩ : ∃ t : Nat, gi S x'.1 1 = (t : Int) := ⟨(gi S x'.1 1).toNat, by have h9 : 0 ≤ gi S x'.1 1 := hsO.2.2.1; omega⟩
   have hc7 : W.cell? ⟨w2.heap.size, 0, none⟩ = some (.slice (some ⟨b, 0, none⟩) y.n c) := (World.cell?_of_block (hI.kp w2.heap.size xq h7b)).trans (by simp [World.cell?, hw37])
   have e0 : W.cell? ⟨B9, 0, none⟩ = some (.int .i64 (gi S x'.1 0)) := by simp [World.cell?, hc9]
   have e1 : W.cell? ⟨B9, 1, none⟩ = some (.int .i64 (gi S x'.1 1)) := by simp [World.cell?, hc9]
   have e2 : W.cell? ⟨B9, 2, none⟩ = some (.int .i64 (gi S x'.1 2)) := by simp [World.cell?, hc9]
   have e3 : W.cell? ⟨B9, 3, none⟩ = some (.int .i64 (gi S x'.1 3)) := by simp [World.cell?, hc9]
   have hM2 : bst S l ((pre ++ [x']).map Subtype.val) = Nt.shF [(tz : Int), (fz : Int), gi S x'.1 2, gi S x'.1 3] (-1) (bst S l (pre.map Subtype.val)) := by rw [List.map_append]; show bst S l (_ ++ [x'.1]) = _; rw [bst_snoc, row4 hx.rows hxl, htz, hfz]
   rw [htz, hfz] at hsO
   have kc := k_perform (n := y.n) (c := c) (t := tz) (f := fz) (cf := gi S x'.1 2) (sh := gi S x'.1 3) (sg := -1) (allH_dat W) hI.cell (allH_get (zyx hI.cell)) ((bst_len _ _ _).trans hly) (bst_w32 _ _ _ hW) (by have := hV.2.1; omega) (by rw [show ((y.n : Nat) : Int) = (l.length : Int) by omega]; exact hsO) xz
   rw [← htz, ← hfz] at kc hM2
   clear htz hfz hsO
   gi_wp2_with (refine ⟨trivial, ?_⟩; gi_at_call 116; refine (CallsIn.inRound l' (callsIn_wide.2 kc)).mono ?_; rintro e W' ⟨u', V, rfl, dd, hbel, hgr, hVc, rfl⟩)
   refine ⟨⟨hbel.size, fun k o hBk hk _ => (hbel.block k (zyx hk) (fun t e => by injection e with e; injection e with _ e; omega) (by simp)).trans hk⟩, fun k hk hkb => hbel.block k (Nat.lt_of_lt_of_le hk hI.size) (fun t e => by injection e with e; injection e with _ e; omega) (by simp), ?_⟩
   refine ⟨fun k hk hkb => (hbel.block k (Nat.lt_of_lt_of_le hk hI.size) (fun t e => by injection e with e; injection e with _ e; omega) (by simp)).trans (hI.kp k hk hkb), Nat.le_trans hI.size hbel.size, hbel.os.trans hI.os, hbel.tape.trans hI.tape, hbel.output.trans hI.output, ?_⟩
   rw [hM2]
   exact hVc
  case done =>
   rintro D xs W hD hxs hI hK
   have hc7 : W.cell? ⟨w2.heap.size, 0, none⟩ = some (.slice (some ⟨b, 0, none⟩) y.n c) := (World.cell?_of_block (hI.kp w2.heap.size xq h7b)).trans (by simp [World.cell?, hw37])
   gi_wp2
   refine ⟨by simp, .inl ⟨_, _, rfl, run_takeDeferred hK, ?_⟩⟩
   have hfin : bst S l (xs.map Subtype.val) = Nt.shBs S l := by rw [hxs, hlx]; exact (Nt.bkl_fold S l S.length 0 xq).trans (by rw [List.drop_zero])
   have hDb : b ≠ D := by omega
   have hbl : Below w.heap.size w (W.putObj D (.deferred none)) := ⟨hI.os.trans hbw.os, hI.tape.trans hbw.tape, hI.output.trans hbw.output, by rw [World.putObj_size]; exact Nat.le_trans hbw.size hI.size, fun k hk => (World.putObj_heap_other xq).trans ((hI.kp k xq xq).trans (hbw.block k hk))⟩
   have hcell : (over u (W.putObj D (.deferred none))).heap[b]? = some (.cells (ics (Nt.shBs S l) ++ X).toArray 3 (0, 0)) := by
    rw [over_new (by rw [d.size]; exact hbge), World.putObj_heap_other hDb, ← hfin]
    exact hI.cell
   refine ⟨.tuple #[.slice (some ⟨b, 0, none⟩) y.n c, .int .i64 0], by simp [results, Tryz.f50, go_sem], .tuple #[.slice (some ⟨b, 0, none⟩) y.n c, .int .i64 0], over u _, rfl, over_dat d hbl, hbl, over_grow (by rw [d.size]; exact hbl.size), ⟨some ⟨b, 0, none⟩, y.n, c⟩, ?_, ?_⟩
   ·rw [hE]
   ·rw [show Nt.bwdL S l = Nt.shBs S l from if_pos hE]
    exact ints_dataX hcell (Nt.shBs_len.trans hly) hl2 hnc hc2
 ·gi_wp2_with (refine ⟨trivial, ?_⟩; gi_at_call 114; refine (callsIn_wide.2 (k_dcheck d hx h9 hy hb h8)).mono ?_; rintro e w1 ⟨v, u1, rfl, d1, b1, g1, rfl⟩)
  refine ⟨.tuple #[.slice none 0 0, .int .i64 (Nt.chkE S l)], by simp [results, Tryz.f50, go_sem], _, u1, rfl, d1, b1, g1, sl0, rfl, ?_⟩
  rw [show Nt.bwdL S l = [] from if_neg hE]
  exact ⟨rfl, Nat.le_refl _, Nat.zero_le _, fun h => absurd h (Nat.lt_irrefl 0)⟩
namespace Nt
def flr (q : Rat) : Int := q.num / (q.den : Int)
def dnQ (q : Rat) (k : Nat) : Rat := mkRat (flr (q * ((2 ^ k : Nat) : Rat))) (2 ^ k)
theorem flr_mk {z : Int} {D : Nat} (hD : 0 < D) : flr (mkRat z D) = z / (D : Int) := by
 have h1 : mkRat z D = mkRat (mkRat z D).num (mkRat z D).den := (Rat.mkRat_self _).symm
 rw [Rat.mkRat_eq_iff xq (by have := (mkRat z D).den_pos; omega)] at h1
 have hd := (mkRat z D).den_pos
 unfold flr
 generalize (mkRat z D).num = n at *
 generalize (mkRat z D).den = d at *
 have e1 : z / (D : Int) = ((d : Int) * z) / ((d : Int) * (D : Int)) := (Int.mul_ediv_mul_of_pos _ _ xq).symm
 have e2 : n / (d : Int) = ((D : Int) * n) / ((D : Int) * (d : Int)) := (Int.mul_ediv_mul_of_pos _ _ xq).symm
 rw [e1, e2, Int.mul_comm (d : Int) z, h1, Int.mul_comm n, Int.mul_comm (d : Int)]
theorem shl_mk (z : Int) (D m : Nat) : mkRat z D * ((m : Nat) : Rat) = mkRat (z * (m : Int)) D := by
 rw [Rat.mkRat_eq_div, Rat.mkRat_eq_div, Rat.intCast_mul]
 show (z : Rat) / (D : Rat) * (m : Rat) = (z : Rat) * ((m : Int) : Rat) / (D : Rat)
 have : ((m : Int) : Rat) = (m : Rat) := rfl
 rw [this]
 grind
theorem dn_mk {z : Int} {D k : Nat} (hD : 0 < D) : dnQ (mkRat z D) k = mkRat ((z * ((2 ^ k : Nat) : Int)) / (D : Int)) (2 ^ k) := by
 unfold dnQ
 rw [shl_mk, flr_mk hD]
theorem sg_mulN {s : Bool} {N m : Nat} : sg s ((sg s N).natAbs * m) = sg s N * (m : Int) := by
 rw [sg_abs]
 unfold sg
 cases s
 ·simp
 ·simp [Int.neg_mul]
theorem rdiv0 {s : Bool} {N D : Nat} (hD : 0 < D) (h : ¬ (s = true ∧ 0 < N % D)) : sg s N / (D : Int) = sg (!(s == false)) (N / D) ∧ sg s N % (D : Int) = sg false (N % D) := by
 have hm := Nat.mod_lt N hD
 have hk := Nat.div_add_mod N D
 have hk2 : (N : Int) = (D : Int) * ((N / D : Nat) : Int) + ((N % D : Nat) : Int) := by rw [← Int.natCast_mul, ← Int.natCast_add, hk]
 apply ediv_uniq xq
 ·unfold sg
  cases s
  ·simpa using hk2
  ·have h0 : N % D = 0 := by simp at h; omega
   rw [h0] at hk2 ⊢
   generalize N / D = Q at *
   simp [Int.mul_neg]
   omega
 ·unfold sg; simp; omega
 ·unfold sg; simp; omega
theorem rdiv1 {N D : Nat} (hD : 0 < D) (h : 0 < N % D) : sg true N / (D : Int) = sg (!(true == false)) (N / D + 1) ∧ sg true N % (D : Int) = sg false (D - N % D) := by
 have hm := Nat.mod_lt N hD
 have hk := Nat.div_add_mod N D
 have hk2 : (N : Int) = (D : Int) * ((N / D : Nat) : Int) + ((N % D : Nat) : Int) := by rw [← Int.natCast_mul, ← Int.natCast_add, hk]
 apply ediv_uniq xq
 ·unfold sg
  simp
  rw [show ((N : Int) / (D : Int)) = ((N / D : Nat) : Int) from rfl, show ((D - N % D : Nat) : Int) = (D : Int) - ((N % D : Nat) : Int) by omega, Int.mul_neg, Int.mul_add]
  omega
 ·unfold sg; simp
 ·unfold sg; simp; omega
end Nt
end Go.Proofs.YtbolmkfphieogaaGreat
namespace Go.Proofs.YtbolmkfphieogaaGreat
set_option linter.unusedVariables false
namespace Nt
def sgn (j : Nat) : Rat := if j % 2 = 0 then 1 else -1
theorem sgn_s (j : Nat) : sgn (j + 1) = -sgn j := by
 unfold sgn
 rcases Nat.mod_two_eq_zero_or_one j with h | h
 ·rw [if_pos h, if_neg (show ¬ (j + 1) % 2 = 0 by omega)]
 ·rw [if_neg (show ¬ j % 2 = 0 by omega), if_pos (show (j + 1) % 2 = 0 by omega)]; rfl
theorem sgn_or (j : Nat) : sgn j = 1 ∨ sgn j = -1 := by unfold sgn; split <;> simp
def alt (a : Nat → Rat) : Nat → Rat
 | 0 => 0
 | n + 1 => alt a n + sgn n * a n
theorem alt_s (a : Nat → Rat) (n : Nat) : alt a (n + 1) = alt a n + sgn n * a n := rfl
theorem alt_tail {a : Nat → Rat} {j0 : Nat} (h0 : ∀ j, 0 ≤ a j) (hd : ∀ j, j0 ≤ j → a (j + 1) ≤ a j) : ∀ d j, j0 ≤ j → 0 ≤ sgn j * (alt a (j + d) - alt a j) ∧ sgn j * (alt a (j + d) - alt a j) ≤ a j := by
 intro d
 induction d with
 | zero => intro j _; have := h0 j; rw [Nat.add_zero, Rat.sub_self, Rat.mul_zero]; exact ⟨Rat.le_refl, this⟩
 | succ d ih =>
  intro j hj
  have h1 := ih (j + 1) xq
  have h2 := hd j hj
  have h3 := h0 (j + 1)
  rw [show j + 1 + d = j + (d + 1) by omega, sgn_s, alt_s] at h1
  generalize alt a (j + (d + 1)) = x at *
  generalize alt a j = y at *
  rcases sgn_or j with e | e <;> rw [e] at h1 ⊢ <;> grind
theorem alt_near {a : Nat → Rat} {j0 j m : Nat} (h0 : ∀ j, 0 ≤ a j) (hd : ∀ j, j0 ≤ j → a (j + 1) ≤ a j) (hj : j0 ≤ j) (hm : j ≤ m) : alt a j - a j ≤ alt a m ∧ alt a m ≤ alt a j + a j := by
 obtain ⟨d, rfl⟩ : ∃ d, m = j + d := ⟨m - j, by omega⟩
 have h1 := alt_tail h0 hd d j hj
 rcases sgn_or j with e | e <;> rw [e] at h1 <;> grind
theorem div_nn {x y : Rat} (hx : 0 ≤ x) (hy : 0 < y) : 0 ≤ x / y := by
 rw [Rat.div_def]; exact Rat.mul_nonneg hx (Rat.le_of_lt (Rat.inv_pos.2 hy))
theorem div_mul_c {x y : Rat} (hy : 0 < y) : x / y * y = x := by
 rw [Rat.div_def, Rat.mul_assoc, Rat.inv_mul_cancel _ (by grind), Rat.mul_one]
theorem le_dv {x y z : Rat} (hy : 0 < y) (h : x * y ≤ z) : x ≤ z / y := by
 refine Rat.le_of_mul_le_mul_right (c := y) ?_ hy
 rw [div_mul_c hy]; exact h
theorem dv_le {x y z : Rat} (hy : 0 < y) (h : z ≤ x * y) : z / y ≤ x := by
 refine Rat.le_of_mul_le_mul_right (c := y) ?_ hy
 rw [div_mul_c hy]; exact h
theorem div_le_self {x y : Rat} (hx : 0 ≤ x) (hy : 1 ≤ y) : x / y ≤ x := by
 refine dv_le (by grind) ?_
 have := Rat.mul_le_mul_of_nonneg_left (a := 1) (b := y) (c := x) hy hx
 grind
theorem div_mono {x x' y : Rat} (hy : 0 < y) (h : x ≤ x') : x / y ≤ x' / y := by
 refine le_dv hy ?_
 rw [div_mul_c hy]; exact h
theorem mulm {a b c d : Rat} (h1 : a ≤ b) (h2 : c ≤ d) (h3 : 0 ≤ a) (h4 : 0 ≤ c) : a * c ≤ b * d :=
 Rat.le_trans (Rat.mul_le_mul_of_nonneg_right h1 h4) (Rat.mul_le_mul_of_nonneg_left h2 (Rat.le_trans h3 h1))
def atP (n : Nat) : Nat → Rat
 | 0 => 1 / (n : Rat)
 | j + 1 => atP n j / ((n * n : Nat) : Rat)
def atT (n j : Nat) : Rat := atP n j / ((2 * j + 1 : Nat) : Rat)
theorem cast_pos {n : Nat} (h : 0 < n) : (0 : Rat) < (n : Rat) := by
 have : ((0 : Nat) : Rat) < (n : Rat) := Rat.natCast_lt_natCast.2 h
 exact this
theorem cast_one {n : Nat} (h : 0 < n) : (1 : Rat) ≤ (n : Rat) := by
 have : ((1 : Nat) : Rat) ≤ (n : Rat) := Rat.natCast_le_natCast.2 h
 exact this
theorem atP_nn {n : Nat} (hn : 0 < n) : ∀ j, 0 ≤ atP n j
 | 0 => div_nn xz (cast_pos hn)
 | j + 1 => div_nn (atP_nn hn j) (cast_pos (Nat.mul_pos hn hn))
theorem atT_nn {n : Nat} (hn : 0 < n) (j : Nat) : 0 ≤ atT n j := div_nn (atP_nn hn j) (cast_pos xq)
theorem atP_le {n : Nat} (hn : 0 < n) (j : Nat) : atP n (j + 1) ≤ atP n j := div_le_self (atP_nn hn j) (cast_one (Nat.mul_pos hn hn))
theorem atT_le {n : Nat} (hn : 0 < n) (j : Nat) : atT n (j + 1) ≤ atT n j := by
 have h1 := atP_le hn j
 have h2 := atP_nn hn (j + 1)
 refine Rat.le_trans (b := atP n (j + 1) / ((2 * j + 1 : Nat) : Rat)) ?_ (div_mono (cast_pos xq) h1)
 refine dv_le (cast_pos xq) ?_
 have h3 : ((2 * j + 1 : Nat) : Rat) ≤ ((2 * (j + 1) + 1 : Nat) : Rat) := Rat.natCast_le_natCast.2 xq
 have h4 := Rat.mul_le_mul_of_nonneg_left (c := atP n (j + 1) / ((2 * j + 1 : Nat) : Rat)) h3 (div_nn h2 (cast_pos xq))
 rw [div_mul_c (cast_pos xq)] at h4
 exact h4
def piN (m : Nat) : Rat := 16 * alt (atT 5) m - 4 * alt (atT 239) m
theorem atT_b {n : Nat} (hn : 0 < n) {m : Nat} (hm : 1 ≤ m) : atT n 0 - atT n 1 ≤ alt (atT n) m ∧ alt (atT n) m ≤ atT n 0 := by
 obtain ⟨d, rfl⟩ : ∃ d, m = 1 + d := ⟨m - 1, by omega⟩
 have h1 := alt_tail (j0 := 0) (atT_nn hn) (fun j _ => atT_le hn j) d 1 xq
 have h2 : alt (atT n) 1 = atT n 0 := by show 0 + (1 : Rat) * atT n 0 = _; grind
 have h3 : sgn 1 = -1 := rfl
 rw [h2, h3] at h1
 grind
theorem piN_b {m : Nat} (hm : 1 ≤ m) : 157 / 50 ≤ piN m ∧ piN m ≤ 16 / 5 := by
 have h1 := atT_b (n := 5) xz hm
 have h2 := atT_b (n := 239) xz hm
 have e1 : atT 5 0 = 1 / 5 := by decide +kernel
 have e2 : atT 5 1 = 1 / 375 := by decide +kernel
 have e3 : atT 239 0 = 1 / 239 := by decide +kernel
 have e4 : atT 239 0 - atT 239 1 ≥ 0 := by decide +kernel
 unfold piN
 rw [e1, e2] at h1
 rw [e3] at h2 e4
 constructor
 ·have : (157 / 50 : Rat) ≤ 16 * (1 / 5 - 1 / 375) - 4 * (1 / 239) := by decide +kernel
  grind
 ·have : (16 : Rat) * (1 / 5) ≤ 16 / 5 := by decide +kernel
  grind
def csT (y : Rat) : Nat → Rat
 | 0 => 1
 | j + 1 => csT y j * (y * y) / (((2 * j + 2) * (2 * j + 1) : Nat) : Rat)
theorem csq_nn (y : Rat) : 0 ≤ y * y := by
 rcases Rat.le_total (a := 0) (b := y) with h | h
 ·exact Rat.mul_nonneg h h
 ·have h1 : 0 ≤ -y := by grind
  have h2 := Rat.mul_nonneg h1 h1
  grind
theorem csT_nn (y : Rat) : ∀ j, 0 ≤ csT y j
 | 0 => by show (0 : Rat) ≤ 1; decide
 | j + 1 => div_nn (Rat.mul_nonneg (csT_nn y j) (csq_nn y)) (cast_pos (Nat.mul_pos xq xq))
theorem csT_le {y : Rat} (hy : y * y ≤ 12) : ∀ j, 1 ≤ j → csT y (j + 1) ≤ csT y j := by
 intro j hj
 refine dv_le (cast_pos (Nat.mul_pos xq xq)) ?_
 refine Rat.mul_le_mul_of_nonneg_left ?_ (csT_nn y j)
 have : ((12 : Nat) : Rat) ≤ (((2 * j + 2) * (2 * j + 1) : Nat) : Rat) := Rat.natCast_le_natCast.2 (by
  have := Nat.mul_le_mul (show 4 ≤ 2 * j + 2 by omega) (show 3 ≤ 2 * j + 1 by omega); omega)
 exact Rat.le_trans hy this
def csY (p q m : Nat) : Rat := piN m * (p : Rat) / (q : Rat)
def coN (p q m : Nat) : Rat := alt (csT (csY p q m)) m
def cdiv (b d : Int) : Int := -((-b) / d)
theorem fl_mul {a d : Int} (hd : 0 < d) : a / d * d ≤ a ∧ a - d + 1 ≤ a / d * d := by
 have h1 := Int.ediv_mul_le a (b := d) xq
 have h2 := Int.lt_ediv_add_one_mul_self a hd
 rw [Int.add_mul, Int.one_mul] at h2
 omega
theorem cd_mul {b d : Int} (hd : 0 < d) : b ≤ cdiv b d * d ∧ cdiv b d * d ≤ b + d - 1 := by
 have h1 := fl_mul (a := -b) hd
 unfold cdiv
 rw [Int.neg_mul]
 omega
theorem cd_eq0 {b d : Int} (hd : 0 < d) (h : b % d = 0) : cdiv b d = b / d := by
 have h1 := Int.emod_add_mul_ediv b d
 unfold cdiv
 have h2 : -b = d * (-(b / d)) := by rw [Int.mul_neg]; omega
 rw [h2, Int.mul_ediv_cancel_left _ xq]; omega
theorem cd_eq1 {b d : Int} (hd : 0 < d) (h : ¬ b % d = 0) : cdiv b d = b / d + 1 := by
 have h1 := Int.emod_add_mul_ediv b d
 have h2 := Int.emod_nonneg b (b := d) xq
 have h3 := Int.emod_lt_of_pos b hd
 have h4 := cd_mul (b := b) hd
 have h5 : b / d * d < cdiv b d * d := by rw [Int.mul_comm]; omega
 have h6 : cdiv b d * d < (b / d + 2) * d := by rw [Int.add_mul, Int.mul_comm (b / d)]; omega
 have h7 := Int.lt_of_mul_lt_mul_right h5 xq
 have h8 := Int.lt_of_mul_lt_mul_right h6 xq
 omega
theorem cd_width {a b d : Int} (hd : 0 < d) : (cdiv b d - a / d) * d ≤ b - a + 2 * d - 2 := by
 have h1 := fl_mul (a := a) hd
 have h2 := cd_mul (b := b) hd
 rw [Int.sub_mul]; omega
theorem cast_mul_le {a b c : Int} (h : a * b ≤ c) : (a : Rat) * (b : Rat) ≤ (c : Rat) := by
 have := Rat.intCast_le_intCast.2 h
 rwa [Rat.intCast_mul] at this
theorem castI_pos {d : Int} (h : 0 < d) : (0 : Rat) < (d : Rat) := by
 have := Rat.intCast_lt_intCast.2 h
 exact this
theorem fl_le {a d : Int} {z : Rat} (hd : 0 < d) (h : (a : Rat) ≤ z) : ((a / d : Int) : Rat) ≤ z / (d : Rat) := by
 refine le_dv (castI_pos hd) (Rat.le_trans (cast_mul_le (fl_mul (a := a) hd).1) h)
theorem le_ce {b d : Int} {z : Rat} (hd : 0 < d) (h : z ≤ (b : Rat)) : z / (d : Rat) ≤ ((cdiv b d : Int) : Rat) := by
 refine dv_le (castI_pos hd) (Rat.le_trans h ?_)
 have := Rat.intCast_le_intCast.2 (cd_mul (b := b) hd).1
 rwa [Rat.intCast_mul] at this
def Enc (U : Int) (lo hi : Int) (x : Rat) : Prop := (lo : Rat) ≤ x * (U : Rat) ∧ x * (U : Rat) ≤ (hi : Rat)
section
variable {U a b a' b' d : Int} {x y : Rat}
theorem Enc.over (h : Enc U a b x) (hd : 0 < d) : Enc U (a / d) (cdiv b d) (x / (d : Rat)) := by
 have h1 := fl_le hd h.1
 have h2 := le_ce hd h.2
 have e : x / (d : Rat) * (U : Rat) = x * (U : Rat) / (d : Rat) := by rw [Rat.div_def, Rat.div_def]; grind
 unfold Enc
 rw [e]
 exact ⟨h1, h2⟩
theorem Enc.add (h : Enc U a b x) (k : Enc U a' b' y) : Enc U (a + a') (b + b') (x + y) := by
 obtain ⟨h1, h2⟩ := h
 obtain ⟨k1, k2⟩ := k
 unfold Enc
 rw [Rat.intCast_add, Rat.intCast_add]
 constructor <;> grind
theorem Enc.sub (h : Enc U a b x) (k : Enc U a' b' y) : Enc U (a - b') (b - a') (x - y) := by
 obtain ⟨h1, h2⟩ := h
 obtain ⟨k1, k2⟩ := k
 unfold Enc
 rw [Rat.intCast_sub, Rat.intCast_sub]
 constructor <;> grind
theorem Enc.times {n : Nat} (h : Enc U a b x) : Enc U (a * (n : Int)) (b * (n : Int)) (x * (n : Rat)) := by
 obtain ⟨h1, h2⟩ := h
 have hn : (0 : Rat) ≤ (n : Rat) := by
  have : ((0 : Nat) : Rat) ≤ (n : Rat) := Rat.natCast_le_natCast.2 (Nat.zero_le n)
  exact this
 have k1 := Rat.mul_le_mul_of_nonneg_right h1 hn
 have k2 := Rat.mul_le_mul_of_nonneg_right h2 hn
 have e : (((n : Nat) : Int) : Rat) = (n : Rat) := rfl
 unfold Enc
 rw [Rat.intCast_mul, Rat.intCast_mul, e]
 constructor <;> grind
theorem Enc.near {r : Rat} (h : Enc U a b x) (h1 : x - r ≤ y) (h2 : y ≤ x + r) (hr : r * (U : Rat) ≤ 1) (hU : 0 < U) : Enc U (a - 1) (b + 1) y := by
 obtain ⟨k1, k2⟩ := h
 have k3 := Rat.mul_le_mul_of_nonneg_right h1 (Rat.le_of_lt (castI_pos hU))
 have k4 := Rat.mul_le_mul_of_nonneg_right h2 (Rat.le_of_lt (castI_pos hU))
 unfold Enc
 rw [Rat.intCast_sub, Rat.intCast_add]
 have e : ((1 : Int) : Rat) = 1 := rfl
 rw [e]
 constructor <;> grind
theorem Enc.prod (h : Enc U a b x) (k : Enc U a' b' y) (ha : 0 ≤ a) (ha' : 0 ≤ a') (hU : 0 < U) : Enc U (a * a' / U) (cdiv (b * b') U) (x * y) := by
 obtain ⟨h1, h2⟩ := h
 obtain ⟨k1, k2⟩ := k
 have za : (0 : Rat) ≤ (a : Rat) := Rat.intCast_le_intCast.2 ha
 have za' : (0 : Rat) ≤ (a' : Rat) := Rat.intCast_le_intCast.2 ha'
 have m1 := mulm h1 k1 za za'
 have m2 := mulm h2 k2 (Rat.le_trans za h1) (Rat.le_trans za' k1)
 rw [← Rat.intCast_mul] at m1 m2
 have r1 := fl_le hU m1
 have r2 := le_ce hU m2
 have e : x * (U : Rat) * (y * (U : Rat)) / (U : Rat) = x * y * (U : Rat) := by
  have := castI_pos hU
  rw [Rat.div_def]
  have e2 : (U : Rat) * (U : Rat)⁻¹ = 1 := Rat.mul_inv_cancel _ (by grind)
  grind
 rw [e] at r1 r2
 exact ⟨r1, r2⟩
theorem Enc.lo_le {c : Int} (h : Enc U a b x) (hx : x * (U : Rat) ≤ (c : Rat)) : a ≤ c := Rat.intCast_le_intCast.1 (Rat.le_trans h.1 hx)
theorem Enc.le_hi {c : Int} (h : Enc U a b x) (hx : (c : Rat) ≤ x * (U : Rat)) : c ≤ b := Rat.intCast_le_intCast.1 (Rat.le_trans hx h.2)
theorem Enc.le (h : Enc U a b x) : a ≤ b := Rat.intCast_le_intCast.1 (Rat.le_trans h.1 h.2)
theorem Enc.nonneg (h : Enc U a b x) (hx : 0 ≤ x) (hU : 0 < U) : 0 ≤ b := h.le_hi (c := 0) (Rat.mul_nonneg hx (Rat.le_of_lt (castI_pos hU)))
theorem Enc.one : Enc U U U 1 := by unfold Enc; rw [Rat.one_mul]; exact ⟨Rat.le_refl, Rat.le_refl⟩
end
theorem fl_nn {a d : Int} (ha : 0 ≤ a) (hd : 0 < d) : 0 ≤ a / d := Int.ediv_nonneg ha xq
theorem cd_le {b d c : Int} (hd : 0 < d) (h : b ≤ c * d) : cdiv b d ≤ c := by
 have h1 := (cd_mul (b := b) hd).2
 have h2 : cdiv b d * d < (c + 1) * d := by rw [Int.add_mul]; omega
 have := Int.lt_of_mul_lt_mul_right h2 xq
 omega
theorem cd_ge {b d c : Int} (hd : 0 < d) (h : c * d < b) : c + 1 ≤ cdiv b d := by
 have h1 := (cd_mul (b := b) hd).1
 have h2 : c * d < cdiv b d * d := by omega
 have := Int.lt_of_mul_lt_mul_right h2 xq
 omega
theorem cd_self {b d : Int} (hb : 0 ≤ b) (hd : 0 < d) : cdiv b d ≤ b := cd_le hd (by
 have := Int.mul_le_mul_of_nonneg_left (show 1 ≤ d by omega) hb; omega)
theorem cd_half {b d : Int} (hb : 2 ≤ b) (hd : 3 ≤ d) : 2 * cdiv b d ≤ b := by
 have h1 := cd_mul (b := b) (show 0 < d by omega)
 rcases Int.lt_or_le b (2 * cdiv b d) with h | h
 ·exfalso
  have h2 : (b + 1) * d ≤ 2 * cdiv b d * d := Int.mul_le_mul_of_nonneg_right xq xq
  have e : 2 * cdiv b d * d = 2 * (cdiv b d * d) := Int.mul_assoc ..
  rw [Int.add_mul, Int.one_mul, e] at h2
  have h3 : b * 3 ≤ b * d := Int.mul_le_mul_of_nonneg_left hd xq
  have h4 : (b - 2) * 3 ≤ (b - 2) * d := Int.mul_le_mul_of_nonneg_left hd xq
  rw [Int.sub_mul, Int.sub_mul] at h4
  omega
 ·exact h
theorem w3 {a b d : Int} (h : b - a ≤ 3) (hd : 0 < d) : cdiv b d - a / d ≤ 3 := by
 have h1 := cd_width (a := a) (b := b) hd
 rcases Int.lt_or_le 3 (cdiv b d - a / d) with h2 | h2
 ·have h3 := Int.mul_le_mul_of_nonneg_right (show 4 ≤ cdiv b d - a / d by omega) (show 0 ≤ d by omega)
  omega
 ·exact h2
end Nt
end Go.Proofs.YtbolmkfphieogaaGreat
