/- Parts of the proof: contracts of functions, each walked once, and plain laws. -/
import Derived.Test.YtgmkhhfbckjaeaaGreatTltC
set_option linter.unusedVariables false
namespace Go.Proofs.YtgmkhhfbckjaeaaGreat
open Go.RowKit
theorem k_natural {u w : World} {x : Sl} (d : Dat u w) : Calls Tryz.prog 152 #[x.v] w (Post u w fun v _ => v = .agg #[.bool false, x.v]) := by
 refine zzm (args := [x.v]) Tryz.func152 rfl Tryz.ntmps152 (rs := [.cell 2 30]) Tryz.results152 (le_b rfl) (le_b rfl) d ?_
 refine sq9 (zzk 2 ⟨30, [.bool false, .slice none 0 0]⟩ (zzb (sq9 (zza 3 (.v (x.v)) (zza 4 (.v (.agg #[.bool false, x.v])) (zzj ⟨30, [.bool false, x.v]⟩ ty30 ?_))))))
 refine zzb (zzo (ret0 [.agg #[.bool false, x.v]] ⟨zzr ty30 zze, trivial⟩ fun u11 e12 => ?_))
 exact rfl
theorem k_whole {u w : World} {i : IL} (d : Dat u w) : Calls Tryz.prog 164 #[i.v] w (Post u w fun v u' => ∃ y : Sl, v = .agg #[.bool i.s, i.m.v, y.v] ∧ NatN u' y 1 1) := by
 refine zzm (args := [i.v]) Tryz.func164 rfl Tryz.ntmps164 (rs := [.cell 2 32]) Tryz.results164 (le_b rfl) (le_b rfl) d ?_
 refine sq9 (zzk 1 ⟨30, i.cs⟩ (zzk 2 ⟨32, zw3⟩ (zzb (sq9 (zzi 3 (.v (i.v)) ty30 zze (zxx 4 ⟨133, [.int .u32 1]⟩ 1 (fun aa u12 e13 ac => ?_)))))))
 refine zza 5 (.v (.agg #[.bool i.s, i.m.v, .slice (some ⟨aa, 0, none⟩) 1 1])) (zzj ⟨32, i.cs ++ [.slice (some ⟨aa, 0, none⟩) 1 1]⟩ ty32 ?_)
 refine zzb (zzo (ret0 [.agg #[.bool i.s, i.m.v, .slice (some ⟨aa, 0, none⟩) 1 1]] ⟨zzr ty32 zze, trivial⟩ fun u15 ab => ?_))
 exact ⟨_, rfl, ((one_data ac).ext ab)⟩
theorem k_quotient {u w : World} {i j : IL} (d : Dat u w) : Calls Tryz.prog 168 #[i.v, j.v] w (Post u w fun v _ => v = .agg #[.bool (!(i.s == j.s)), i.m.v, j.m.v]) := by
 refine zzm (args := [i.v, j.v]) Tryz.func168 rfl Tryz.ntmps168 (rs := [.cell 4 195]) Tryz.results168 (le_b rfl) (le_b rfl) d ?_
 refine sq9 (zzk 2 ⟨30, i.cs⟩ (zzk 3 ⟨30, j.cs⟩ (zzk 4 ⟨195, zw3⟩ (zzb (sq9 (zza 5 (.adr 2 0) (zzi 6 (zB i.s) ty4 zzl (zza 7 (.adr 3 0) (zzi 8 (zB j.s) ty4 zzl (zza 9 (zB (!(i.s == j.s))) (zza 10 (.adr 2 1) ?_)))))))))))
 refine zzi 11 (.v (i.m.v)) ty28 zzl (zza 12 (.v (.agg #[.bool (!(i.s == j.s)), i.m.v])) (zza 13 (.adr 3 1) (zzi 14 (.v (j.m.v)) ty28 zzl (zza 15 (.v (.agg #[.bool (!(i.s == j.s)), i.m.v, j.m.v])) (zzj ⟨195, [.bool (!(i.s == j.s)), i.m.v, j.m.v]⟩ ty195 ?_)))))
 refine zzb (zzo (ret0 [.agg #[.bool (!(i.s == j.s)), i.m.v, j.m.v]] ⟨zzr ty195 zze, trivial⟩ fun u11 e12 => ?_))
 exact rfl
theorem k_flip {u w : World} {r : RL} (d : Dat u w) : Calls Tryz.prog 153 #[r.v] w (Post u w fun v _ => v = .agg #[.bool (!r.s), r.m.v, r.d.v]) := by
 refine zzm (args := [r.v]) Tryz.func153 rfl Tryz.ntmps153 (rs := [.cell 2 32]) Tryz.results153 (le_b rfl) (le_b rfl) d ?_
 refine sq9 (zzk 1 ⟨32, r.cs⟩ (zzk 2 ⟨32, zw3⟩ (zzb (sq9 (zza 3 (.adr 1 0) (zza 4 (.adr 1 0) (zzi 5 (zB r.s) ty4 zzl (zza 6 (zB (!r.s)) (zza 7 (.adr 1 0) (zza 8 (.adr 1 1) (zzi 9 (.v (r.m.v)) ty28 zzl ?_)))))))))))
 refine zza 10 (.v (.agg #[.bool (!r.s), r.m.v])) (zza 11 (.adr 1 2) (zzi 12 (.v (r.d.v)) ty28 zzl (zza 13 (.v (.agg #[.bool (!r.s), r.m.v, r.d.v])) (zzj ⟨32, [.bool (!r.s), r.m.v, r.d.v]⟩ ty32 ?_))))
 refine zzb (zzo (ret0 [.agg #[.bool (!r.s), r.m.v, r.d.v]] ⟨zzr ty32 zze, trivial⟩ fun u11 e12 => ?_))
 exact rfl
set_option maxHeartbeats 1000000 in
theorem k_read {u w : World} {r : RL} {q : Rat} {K : Nat} (d : Dat u w) (h : RatV u r q K) : Calls Tryz.prog 148 #[r.v] w (Post u w fun v u' => ∃ (r' : RL) (wh : Bool), v = .agg #[.bool r'.s, r'.m.v, r'.d.v, .bool wh] ∧ NumV u' r' wh q K) := by
 obtain ⟨⟨z, D, hi, hd, hq⟩, hK⟩ := h
 change IntV u ⟨r.s, r.m⟩ z K at hi
 change NatV u r.d D K at hd
 by_cases hn : r.d.n = 1
 ·obtain ⟨b, o, ha, hc⟩ := nat_digit hd hn
  by_cases hD : D = 1
  ·refine zzm (args := [r.v]) Tryz.func148 rfl Tryz.ntmps148 (rs := [.cell 2 197]) Tryz.results148 (le_b rfl) (le_b rfl) d ?_
   refine sq9 (zzk 1 ⟨32, r.cs⟩ (zzk 2 ⟨197, [.bool false, .slice none 0 0, .slice none 0 0, .bool false]⟩ (zzb (zzd (sq9 (zza 3 (.adr 1 2) (zzi 4 (.v (r.d.v)) ty28 zzl (zza 5 (zI r.d.n) (zyq 6 (x := zB ((r.d.n : Int) == 1)) (zB true) (by rw [show ((r.d.n : Int) == 1) = true from (by simp [hn])]) (zza 7 (zB true) (zza 8 (.adr 1 2) ?_ (hw := w1 4 true 7))))))))))))
   refine zzi 9 (.v (r.d.v)) ty28 zzl ?_ (hw := w1 4 true 7)
   refine zya 10 o (i := 0) (n := r.d.n) zz ha xq (by rw [hn]; decide) sl28 ?_ (hw := w1 4 true 7)
   refine zyl 11 (.int .u32 D) ((Ext.refl _).cell hc) ty133 ?_ (hw := w1 4 true 7)
   refine zyq 12 (x := zB ((D : Int) == 1)) (zB true) (by rw [show ((D : Int) == 1) = true from (by simp [hD])]) ?_ (hw := w1 4 true 7)
   refine zza 13 (zB true) (zzb (zyr xj (sq9 (zza 14 (.adr 1 0) (zzi 15 (.v (.agg #[.bool r.s, r.m.v])) ty30 zze (zza 16 (.adr 1 2) (zzi 17 (.v (r.d.v)) ty28 zzl (zza 18 (.v (r.v)) (zza 19 (.v (.agg #[.bool r.s, r.m.v, r.d.v, .bool true])) (zzj ⟨197, r.cs ++ [.bool true]⟩ ty197 ?_))))))))))
   refine zzb (zzo (zzw (ret0 [.agg #[.bool r.s, r.m.v, r.d.v, .bool true]] ⟨zzr ty197 zze, trivial⟩ fun ak aj => ?_)))
   exact ⟨r, true, rfl, z, D, hi.ext aj, hd.ext aj, by omega, hq, fun _ => hD, hK⟩
  refine zzm (args := [r.v]) Tryz.func148 rfl Tryz.ntmps148 (rs := [.cell 2 197]) Tryz.results148 (le_b rfl) (le_b rfl) d ?_
  refine sq9 (zzk 1 ⟨32, r.cs⟩ (zzk 2 ⟨197, [.bool false, .slice none 0 0, .slice none 0 0, .bool false]⟩ (zzb (zzd (sq9 (zza 3 (.adr 1 2) (zzi 4 (.v (r.d.v)) ty28 zzl (zza 5 (zI r.d.n) (zyq 6 (x := zB ((r.d.n : Int) == 1)) (zB true) (by rw [show ((r.d.n : Int) == 1) = true from (by simp [hn])]) (zza 7 (zB true) (zza 8 (.adr 1 2) ?_ (hw := w1 4 true 7))))))))))))
  refine zzi 9 (.v (r.d.v)) ty28 zzl ?_ (hw := w1 4 true 7)
  refine zya 10 o (i := 0) (n := r.d.n) zz ha xq (by rw [hn]; decide) sl28 ?_ (hw := w1 4 true 7)
  refine zyl 11 (.int .u32 D) ((Ext.refl _).cell hc) ty133 ?_ (hw := w1 4 true 7)
  refine zyq 12 (x := zB ((D : Int) == 1)) (zB false) (by rw [show ((D : Int) == 1) = false from zx]) ?_ (hw := w1 4 true 7)
  refine zza 13 (zB false) (zzb (zys xj (zzs (zzp ?_))))
  refine zzd (sq9 (zza 20 (.adr 1 2) (zzi 21 (.v (r.d.v)) ty28 zzl (zzg 22 166 [r.d.v, .slice none 0 0] ?_))))
  intro w11 ak ad ag
  have k14 := k_natCompare ag (hd.ext ad) (nat_nil _ 1)
  with_reducible refine zPm k14 ?_
  rintro _ ap af rfl
  refine zza 23 (zB ((Nt.cmpS D 0) == 0)) (zzb (zzu (b := (Nt.cmpS D 0) == 0) xj (fun aa => ?_) (fun aa => ?_)))
  ·refine sq9 (zza 24 (.v (.agg #[.bool false, .slice none 0 0])) (zxx 25 ⟨133, [.int .u32 1]⟩ 1 (fun ab ao am ai => ?_)))
   refine zza 26 (.v (.agg #[.bool false, .slice none 0 0, .slice (some ⟨ab, 0, none⟩) 1 1])) (zza 27 (.v (.agg #[.bool false, .slice none 0 0, .slice (some ⟨ab, 0, none⟩) 1 1, .bool true])) (zzj ⟨197, [.bool false, .slice none 0 0, .slice (some ⟨ab, 0, none⟩) 1 1, .bool true]⟩ ty197 ?_))
   refine zzb (zzo (zzw (ret0 [.agg #[.bool false, .slice none 0 0, .slice (some ⟨ab, 0, none⟩) 1 1, .bool true]] ⟨zzr ty197 zze, trivial⟩ fun al ah => ?_)))
   have ac : D = 0 := (Nt.cmp_nat0 aa).1 rfl
   refine ⟨⟨false, ⟨none, 0, 0⟩, (⟨some ⟨ab, 0, none⟩, 1, 1⟩ : Sl)⟩, true, rfl, 0, 1, (⟨0, nat_nil _ K, rfl⟩ : IntV _ ⟨false, ⟨none, 0, 0⟩⟩ 0 K), ((one_data ai).ext ah).raw.more hK, by omega, ?_, fun _ => rfl, hK⟩
   rw [hq, ac]; simp
  refine zzs (zzp ?_)
  refine sq9 (zza 28 (.adr 1 0) (zzi 29 (.v (.agg #[.bool r.s, r.m.v])) ty30 zze (zza 30 (.adr 1 2) (zzi 31 (.v (r.d.v)) ty28 zzl (zza 32 (.v (r.v)) (zza 33 (.v (.agg #[.bool r.s, r.m.v, r.d.v, .bool false])) (zzj ⟨197, r.cs ++ [.bool false]⟩ ty197 ?_)))))))
  refine zzb (zzo (ret0 [.agg #[.bool r.s, r.m.v, r.d.v, .bool false]] ⟨zzr ty197 zze, trivial⟩ fun an ae => ?_))
  have ac : 0 < D := (Nt.cmp_nat0 aa).2 rfl
  exact ⟨r, false, rfl, z, D, hi.ext (ad.t (af.t ae)), hd.ext (ad.t (af.t ae)), ac, hq, (fun k => by cases k), hK⟩
 refine zzm (args := [r.v]) Tryz.func148 rfl Tryz.ntmps148 (rs := [.cell 2 197]) Tryz.results148 (le_b rfl) (le_b rfl) d ?_
 refine sq9 (zzk 1 ⟨32, r.cs⟩ (zzk 2 ⟨197, [.bool false, .slice none 0 0, .slice none 0 0, .bool false]⟩ (zzb (zzd (sq9 (zza 3 (.adr 1 2) (zzi 4 (.v (r.d.v)) ty28 zzl (zza 5 (zI r.d.n) (zyq 6 (x := zB ((r.d.n : Int) == 1)) (zB false) (by rw [show ((r.d.n : Int) == 1) = false from zx]) (zza 7 (zB false) (zzn 8 (uw 4 true false 7) ?_)))))))))))
 refine zzn 9 (uw 4 true false 7) (zzn 10 (uw 4 true false 7) (zzn 11 (uw 4 true false 7) (zzn 12 (uw 4 true false 7) (zza 13 (zB false) (zzb (zys xj (zzs (zzp ?_))))))))
 refine zzd (sq9 (zza 20 (.adr 1 2) (zzi 21 (.v (r.d.v)) ty28 zzl (zzg 22 166 _ fun _ _ ad ag => Post.mono (k_natCompare ag (hd.ext ad) (nat_nil _ 1)) ?_))))
 rintro _ ap af rfl
 refine zza 23 (zB ((Nt.cmpS D 0) == 0)) (zzb (zzu (b := (Nt.cmpS D 0) == 0) xj (fun aa => ?_) (fun aa => ?_)))
 ·refine sq9 (zza 24 (.v (.agg #[.bool false, .slice none 0 0])) (zxx 25 ⟨133, [.int .u32 1]⟩ 1 (fun ab ao am ai => ?_)))
  refine zza 26 (.v (.agg #[.bool false, .slice none 0 0, .slice (some ⟨ab, 0, none⟩) 1 1])) (zza 27 (.v (.agg #[.bool false, .slice none 0 0, .slice (some ⟨ab, 0, none⟩) 1 1, .bool true])) (zzj ⟨197, [.bool false, .slice none 0 0, .slice (some ⟨ab, 0, none⟩) 1 1, .bool true]⟩ ty197 ?_))
  refine zzb (zzo (zzw (ret0 [.agg #[.bool false, .slice none 0 0, .slice (some ⟨ab, 0, none⟩) 1 1, .bool true]] ⟨zzr ty197 zze, trivial⟩ fun al ah => ?_)))
  have ac : D = 0 := (Nt.cmp_nat0 aa).1 rfl
  refine ⟨⟨false, ⟨none, 0, 0⟩, (⟨some ⟨ab, 0, none⟩, 1, 1⟩ : Sl)⟩, true, rfl, 0, 1, (⟨0, nat_nil _ K, rfl⟩ : IntV _ ⟨false, ⟨none, 0, 0⟩⟩ 0 K), ((one_data ai).ext ah).raw.more hK, by omega, ?_, fun _ => rfl, hK⟩
  rw [hq, ac]; simp
 refine zzs (zzp ?_)
 refine sq9 (zza 28 (.adr 1 0) (zzi 29 (.v (.agg #[.bool r.s, r.m.v])) ty30 zze (zza 30 (.adr 1 2) (zzi 31 (.v (r.d.v)) ty28 zzl (zza 32 (.v (r.v)) (zza 33 (.v (.agg #[.bool r.s, r.m.v, r.d.v, .bool false])) (zzj ⟨197, r.cs ++ [.bool false]⟩ ty197 ?_)))))))
 refine zzb (zzo (ret0 [.agg #[.bool r.s, r.m.v, r.d.v, .bool false]] ⟨zzr ty197 zze, trivial⟩ fun an ae => ?_))
 have ac : 0 < D := (Nt.cmp_nat0 aa).2 rfl
 exact ⟨r, false, rfl, z, D, hi.ext (ad.t (af.t ae)), hd.ext (ad.t (af.t ae)), ac, hq, (fun k => by cases k), hK⟩
theorem k_isOne {u w : World} {x : Sl} {N K : Nat} (d : Dat u w) (h : NatN u x N K) : Calls Tryz.prog 201 #[x.v] w (Post u w fun v _ => v = .bool (decide (N = 1))) := by
 by_cases hn : x.n = 1
 ·obtain ⟨b, o, ha, hc⟩ := nat_digit h.raw hn
  refine zzm (args := [x.v]) Tryz.func201 rfl Tryz.ntmps201 (rs := [.tmp 2]) Tryz.results201 (le_b rfl) (le_b rfl) d ?_
  refine sq9 (zza 2 (zB false) (zzb (sq9 (zza 3 (.v (x.v)) (zza 4 (zI x.n) (zyq 5 (x := zB ((x.n : Int) == 1)) (zB true) (by rw [show ((x.n : Int) == 1) = true from (by simp [hn])]) (zza 6 (zB true) (zza 7 (.v (x.v)) ?_ (hw := w1 3 true 6)))))))))
  refine zya 8 o (i := 0) (n := x.n) zz ha xq (by rw [hn]; decide) sl28 ?_ (hw := w1 3 true 6)
  refine zyl 9 (.int .u32 N) ((Ext.refl _).cell hc) ty133 ?_ (hw := w1 3 true 6)
  refine zza 10 (zB ((N : Int) == 1)) ?_ (hw := w1 3 true 6)
  refine zza 11 (zB ((N : Int) == 1)) (zza 2 (zB ((N : Int) == 1)) (zzb (zzo (ret0 [.bool ((N : Int) == 1)] ⟨zzq, trivial⟩ fun aa ab => ?_))))
  show Value.bool _ = Value.bool _
  congr 1
  rw [Bool.eq_iff_iff]
  simp <;> omega
 have hN : N ≠ 1 := fun e => hn (by rw [h.1, e, Nt.dl_one])
 refine zzm (args := [x.v]) Tryz.func201 rfl Tryz.ntmps201 (rs := [.tmp 2]) Tryz.results201 (le_b rfl) (le_b rfl) d ?_
 refine sq9 (zza 2 (zB false) (zzb (sq9 (zza 3 (.v (x.v)) (zza 4 (zI x.n) (zyq 5 (x := zB ((x.n : Int) == 1)) (zB false) (by rw [show ((x.n : Int) == 1) = false from zx]) (zza 6 (zB false) (zzn 7 (uw 3 true false 6) (zzn 8 (uw 3 true false 6) (zzn 9 (uw 3 true false 6) (zzn 10 (uw 3 true false 6) ?_)))))))))))
 refine zza 11 (zB false) (zza 2 (zB false) (zzb (zzo (ret0 [.bool false] ⟨zzq, trivial⟩ fun aa ab => ?_))))
 show _ = _
 simp [tupV]
 exact hN
set_option maxHeartbeats 1000000 in
theorem k_lowest {u w : World} {i : IL} {z : Int} {y : Sl} {D K L : Nat} (d : Dat u w) (h1 : IntV u i z K) (hD : NatV u y D L) (hp : 0 < D) (hK : K ≤ 500000000) (hL : L ≤ 500000000) : Calls Tryz.prog 149 #[.agg #[.bool i.s, i.m.v, y.v]] w (Post u w fun v u' => ∃ r : RL, v = r.v ∧ RatN u' r (mkRat z D) (max K L)) := by
 obtain ⟨N, hN, hz⟩ := h1
 have hL1 : 1 ≤ L := by have h2 := hD.size; have h3 := Nt.dl_mono (x := D) (y := 1) xq; rw [Nt.dl_one] at h3; omega
 refine zzm (args := [.agg #[.bool i.s, i.m.v, y.v]]) Tryz.func149 rfl Tryz.ntmps149 (rs := [.cell 2 32]) Tryz.results149 (le_b rfl) (le_b rfl) d ?_
 refine sq9 (zzk 1 ⟨195, i.cs ++ [y.v]⟩ (zzk 2 ⟨32, zw3⟩ (zzb (sq9 (zza 14 (.adr 1 0) (zza 15 (.adr 1 1) (zzi 16 (.v (i.m.v)) ty28 zzl (zza 17 (.adr 1 2) (zzi 18 (.v (y.v)) ty28 zzl (zzg 19 195 _ fun _ _ ah aG => Post.mono (k_natDivMod aG (hN.ext ah) (hD.ext ah) hp xq xq) ?_))))))))))
 rintro _ u16 an ⟨ao, af, rfl, aU, az⟩
 refine zza 13 (.v (.tuple #[ao.v, af.v, .int .i64 0])) (zza 20 (.v (ao.v)) (zza 21 (.v (af.v)) (zza 22 (zI 0) (zza 3 (.v (ao.v)) (zza 4 (.v (af.v)) (zza 5 (zI 0) (zzb (zzd (sq9 (zza 23 (.v (af.v)) (zza 24 (zI af.n) ?_)))))))))))
 refine zza 25 (zB ((af.n : Int) == 0)) (zzb (zzu (b := (af.n : Int) == 0) xj (fun ac => ?_) (fun ac => ?_)))
 ·have ap : (af.n : Int) = 0 := by simpa using ac
  have hr : N % D = 0 := by have h7 := (az).pos; simp at ac; omega
  refine sq9 (zza 26 (.adr 1 0) (zza 27 (.adr 1 0) (zzi 28 (zB i.s) ty4 zzl (zza 29 (.v (ao.v)) (zza 30 (.v (.agg #[.bool i.s, ao.v])) (zzg 31 200 _ fun _ _ a0 aT => Post.mono (k_intTrim aT (IntV.same (s := i.s) (aU.ext a0).raw) xq) ?_))))))
  rintro _ u23 g24 ⟨aj, rfl, aM⟩
  refine zzg 32 164 _ fun _ _ aP aN => Post.mono (k_whole (i := aj) aN) ?_
  rintro _ u29 aH ⟨ay, rfl, aO⟩
  refine zzj ⟨32, aj.cs ++ [ay.v]⟩ ty32 ?_
  refine zzb (zzo (zzw (ret0 [.agg #[.bool aj.s, aj.m.v, ay.v]] ⟨zzr ty32 zze, trivial⟩ fun u32 a2 => ?_)))
  refine ⟨(⟨aj.s, aj.m, ay⟩ : RL), rfl, RatN.more (K := (max K 1)) ?_ xq⟩
  rw [hz, ← low1 hp hr]
  exact ((whole_rat (aM.ext (aP.t aH.ext)) aO).ext a2)
 have ap : ¬ ((af.n : Int) = 0) := by simpa using ac
 have hr : N % D ≠ 0 := by have h7 := (az).pos; simp at ac; omega
 refine zzs (zzp ?_)
 refine sq9 (zza 33 (.adr 1 2) (zzi 34 (.v (y.v)) ty28 zzl (zza 35 (.v (af.v)) (zzg 36 198 _ fun _ _ ak aW => Post.mono (k_natGcd aW (hD.ext (ah.t (an.t ak))) (az.ext ak).raw xq xq) ?_))))
 rintro _ u37 ar ⟨am, rfl, ax⟩
 refine zza 6 (.v (am.v)) (zzb (zzd (sq9 (zza 37 (.v (am.v)) (zzg 38 201 _ fun _ _ ai aQ => Post.mono (k_isOne aQ (ax.ext ai)) ?_)))))
 rintro _ u41 al rfl
 refine zzb (zzu (b := decide ((Nat.gcd D (N % D)) = 1)) xj (fun ab => ?_) (fun ab => ?_))
 ·have qhb44 := of_decide_eq_true ab
  have hg : Nat.gcd D (N % D) = 1 := by simpa using ab
  have hgp : 0 < Nat.gcd D (N % D) := Nat.gcd_pos_of_pos_left _ hp
  refine zzd (zzz [0, 1, 3, 0, 8, 31, 63, 127] [(0, []), (1, []), (3, []), (4, []), (2, []), (5, []), (6, []), (7, [])] xj xj (zza 39 (.adr 1 0) (zzi 40 (.v (i.v)) ty30 zze (zza 42 (.adr 1 2) (zzi 43 (.v (y.v)) ty28 zzl (zzg 41 200 _ fun _ _ aC aR => Post.mono (k_intTrim aR (IntV.same (s := i.s) (hN.ext (ah.t (an.t (ak.t (ar.t (ai.t (al.t aC)))))))) xq) ?_))))))
  rintro _ u48 aV ⟨ae, rfl, aZ⟩
  refine zzg 44 194 _ fun _ _ aD aK => Post.mono (k_natTrim aK (hD.ext (ah.t (an.t (ak.t (ar.t (ai.t (al.t (aC.t (aV.t aD))))))))) xq) ?_
  rintro _ u54 a1 ⟨ag, rfl, aJ⟩
  refine zza 45 (.v (.agg #[.bool ae.s, ae.m.v, ag.v])) (zzj ⟨32, ae.cs ++ [ag.v]⟩ ty32 ?_)
  refine zzc 70 [(2, .adr 2 0)] [(2, ⟨32, ae.cs ++ [ag.v]⟩)] (zzo (zzw (ret0 [.agg #[.bool ae.s, .slice ae.m.a ae.m.n ae.m.c, .slice ag.a ag.n ag.c]] ⟨zzr ty32 zze, trivial⟩ fun u57 aB => ?_)))
  refine ⟨(⟨ae.s, ae.m, ag⟩ : RL), rfl, ?_⟩
  rw [hz]
  exact low2 hp hg (aZ.ext (aD.t (a1.t aB))) (aJ.ext aB)
 have qhb44 := of_decide_eq_false ab
 have hg : ¬ Nat.gcd D (N % D) = 1 := by simpa using ab
 have hgp : 0 < Nat.gcd D (N % D) := Nat.gcd_pos_of_pos_left _ hp
 refine zzs (zzp ?_)
 refine sq9 (zza 47 (.adr 1 0) (zza 48 (.adr 1 1) (zzi 49 (.v (i.m.v)) ty28 zzl (zza 50 (.v (am.v)) (zzg 51 195 _ fun _ _ aq aI => Post.mono (k_natDivMod aI (hN.ext (ah.t (an.t (ak.t (ar.t (ai.t (al.t aq))))))) (ax.ext (ai.t (al.t aq))).raw hgp xq xq) ?_)))))
 rintro _ u64 aA ⟨aa, aw, rfl, aL, h63⟩
 refine zza 46 (.v (.tuple #[aa.v, aw.v, .int .i64 0])) (zza 52 (.v (aa.v)) (zza 53 (.v (aw.v)) (zza 54 (zI 0) (zza 7 (.v (aa.v)) (zza 8 (.v (aw.v)) (zza 9 (zI 0) (zzc 70 [(1, .adr 1 0), (2, .adr 2 0), (6, .v (am.v)), (7, .v (aa.v))] [(1, ⟨195, i.cs ++ [y.v]⟩), (2, ⟨32, zw3⟩)] (sq9 (zza 56 (.adr 1 2) (zzi 57 (.v (y.v)) ty28 zzl (zza 58 (.v (am.v)) ?_)))))))))))
 refine zzg 59 195 _ fun _ _ au aF => Post.mono (k_natDivMod aF (hD.ext (ah.t (an.t (ak.t (ar.t (ai.t (al.t (aq.t (aA.t au))))))))) (ax.ext (ai.t (al.t (aq.t (aA.t au))))).raw hgp xq xq) ?_
 rintro _ u72 aX ⟨ad, av, rfl, aY, h71⟩
 refine zza 55 (.v (.tuple #[ad.v, av.v, .int .i64 0])) (zza 60 (.v (ad.v)) (zza 61 (.v (av.v)) (zza 62 (zI 0) (zza 10 (.v (ad.v)) (zza 11 (.v (av.v)) (zza 12 (zI 0) (zzb (sq9 (zza 63 (.adr 1 0) (zza 64 (.adr 1 0) (zzi 65 (zB i.s) ty4 zzl ?_)))))))))))
 refine zza 66 (.v (aa.v)) (zza 67 (.v (.agg #[.bool i.s, aa.v])) (zza 68 (.v (ad.v)) (zza 69 (.v (.agg #[.bool i.s, aa.v, ad.v])) (zzj ⟨32, [.bool i.s, aa.v, ad.v]⟩ ty32 ?_))))
 refine zzb (zzo (ret0 [.agg #[.bool i.s, .slice aa.a aa.n aa.c, .slice ad.a ad.n ad.c]] ⟨zzr ty32 zze, trivial⟩ fun u75 aE => ?_))
 refine ⟨(⟨i.s, aa, ad⟩ : RL), rfl, RatN.more (K := max K L) ?_ xq⟩
 rw [hz]
 exact low3 hp hr (aL.ext (au.t (aX.t aE))) (aY.ext aE)
theorem k_ratTrim {u w : World} {r1 : RL} {x : Rat} {K : Nat} (d : Dat u w) (hr1 : RatV u r1 x K) (hK : K ≤ 200000000) : Calls Tryz.prog 68 #[r1.v] w (Post u w fun v u' => ∃ r : RL, v = r.v ∧ RatN u' r x K) := by
 refine zzm (args := [r1.v]) Tryz.func68 rfl Tryz.ntmps68 (rs := [.cell 2 32]) Tryz.results68 (le_b rfl) (le_b rfl) d ?_
 refine sq9 (zzk 1 ⟨32, r1.cs⟩ (zzk 2 ⟨32, zw3⟩ (zzb (sq9 (zzi 3 (.v (r1.v)) ty32 zze (zzg 4 148 _ fun _ _ ao ag => Post.mono (k_read ag (hr1.ext ao)) ?_))))))
 rintro _ u13 g14 ⟨ai, ah, rfl, z12, D12, ae, aa, ab, ac, am, ak⟩
 refine zza 5 (.v (ai.v)) (zzg 6 149 _ fun _ _ af al => Post.mono (k_lowest al (ae.ext af) (aa.ext af) ab xq xq) ?_)
 rintro _ u19 g20 ⟨ad, rfl, an⟩
 refine zzj ⟨32, ad.cs⟩ ty32 ?_
 refine zzb (zzo (ret0 [ad.v] ⟨zzr ty32 zze, trivial⟩ fun u22 aj => ?_))
 refine ⟨ad, rfl, RatN.more (K := (max K K)) ?_ xq⟩
 rw [ac]; exact (an.ext aj)
theorem k_ratOf {u w : World} {z : Int} (d : Dat u w) (h0 : -9223372036854775808 ≤ z) (h1 : z ≤ 9223372036854775807) : Calls Tryz.prog 109 #[.int .i64 z] w (Post u w fun v u' => ∃ r : RL, v = r.v ∧ RatN u' r (z : Rat) 2) := by
 refine zzm (args := [.int .i64 z]) Tryz.func109 rfl Tryz.ntmps109 (rs := [.cell 2 32]) Tryz.results109 (le_b rfl) (le_b rfl) d ?_
 refine sq9 (zzk 2 ⟨32, zw3⟩ (zzb (sq9 (zza 3 (zI z) (zzg 4 140 _ fun _ _ _ ac => Post.mono (k_intOf ac (z := z) xq xq) ?_)))))
 rintro _ u14 g15 ⟨aa, rfl, ag⟩
 refine zzg 5 164 _ fun _ _ ah ad => Post.mono (k_whole (i := aa) ad) ?_
 rintro _ u20 ae ⟨ab, rfl, af⟩
 refine zzj ⟨32, aa.cs ++ [ab.v]⟩ ty32 ?_
 refine zzb (zzo (ret0 [.agg #[.bool aa.s, aa.m.v, ab.v]] ⟨zzr ty32 zze, trivial⟩ fun u23 ai => ?_))
 refine ⟨(⟨aa.s, aa.m, ab⟩ : RL), rfl, RatN.more (K := (max 2 1)) ?_ xq⟩
 exact ((whole_rat (ag.ext (ah.t ae.ext)) af).ext ai)
theorem k_ratSign {u w : World} {r1 : RL} {x : Rat} {K : Nat} (d : Dat u w) (hr1 : RatV u r1 x K)  : Calls Tryz.prog 66 #[r1.v] w (Post u w fun v u' => v = .int .i64 (Nt.sgQ x)) := by
 refine zzm (args := [r1.v]) Tryz.func66 rfl Tryz.ntmps66 (rs := [.tmp 2]) Tryz.results66 (le_b rfl) (le_b rfl) d ?_
 refine sq9 (zzk 1 ⟨32, r1.cs⟩ (zza 2 (zI 0) (zzb (sq9 (zzi 3 (.v (r1.v)) ty32 zze (zzg 4 148 _ fun _ _ al af => Post.mono (k_read af (hr1.ext al)) ?_))))))
 rintro _ u13 g14 ⟨aa, ag, rfl, ae, D12, ad, ah, ab, ac, ak, ai⟩
 refine zza 5 (.v (aa.v)) (zza 6 (.v (.agg #[.bool aa.s, aa.m.v])) (zzg 7 147 _ fun _ _ am aj => Post.mono (k_intSign aj (ad.ext am)) ?_))
 rintro _ u17 g18 rfl
 refine zza 2 (zI (Nt.cmpS ae 0)) (zzb (zzo (ret0 [.int .i64 (Nt.cmpS ae 0)] ⟨zzq, trivial⟩ fun u20 e21 => ?_)))
 show _ = _
 rw [ac, ← Nt.sg_mk ab]
 rfl
theorem k_ratCompare {u w : World} {r1 : RL} {x : Rat} {K : Nat} {r2 : RL} {y : Rat} {L : Nat} (d : Dat u w) (hr1 : RatV u r1 x K) (hr2 : RatV u r2 y L) (hK : K ≤ 200000000) (hL : L ≤ 200000000) : Calls Tryz.prog 78 #[r1.v, r2.v] w (Post u w fun v u' => v = .int .i64 (Nt.cmpQ x y)) := by
 refine zzm (args := [r1.v, r2.v]) Tryz.func78 rfl Tryz.ntmps78 (rs := [.tmp 4]) Tryz.results78 (le_b rfl) (le_b rfl) d ?_
 refine sq9 (zzk 2 ⟨32, r1.cs⟩ (zzk 3 ⟨32, r2.cs⟩ (zza 4 (zI 0) (zzb (zzd (zzz [0, 1, 0, 7, 0, 0, 63, 127] [(0, []), (2, []), (4, []), (5, []), (1, []), (3, []), (6, []), (7, [])] xj xj (zzi 7 (.v (r1.v)) ty32 zze (zzi 9 (.v (r2.v)) ty32 zze (zzk 5 ⟨197, [.bool false, .slice none 0 0, .slice none 0 0, .bool false]⟩ (zzk 6 ⟨197, [.bool false, .slice none 0 0, .slice none 0 0, .bool false]⟩ (zzg 8 148 _ fun _ _ aL aV => Post.mono (k_read aV (hr1.ext aL)) ?_)))))))))))
 rintro _ u13 aR ⟨ac, ae, rfl, af, ap, aj, au, al, ah, aB, a7⟩
 refine zzg 10 148 _ fun _ _ ao aY => Post.mono (k_read aY (hr2.ext (aL.t (aR.t ao)))) ?_
 rintro _ u18 aq ⟨ab, aa, rfl, ag, an, ak, ar, ai, am, aC, a6⟩
 refine zzj ⟨197, ac.cs ++ [.bool ae]⟩ ty197 ?_
 refine zzj ⟨197, ab.cs ++ [.bool aa]⟩ ty197 ?_
 refine zzb (zzd (sq9 (zza 11 (.adr 5 3) (zzi 12 (zB ae) ty4 zzl ?_))))
 rcases Bool.eq_false_or_eq_true ae with hs21 | hs21
 ·refine zyq 13 (x := zB ae) (zB true) (by rw [hs21]) (zza 14 (.adr 6 3) ?_ (hw := w1 2 true 13))
  refine zzi 15 (zB aa) ty4 zzl ?_ (hw := w1 2 true 13)
  refine zza 16 (zB aa) (zzb (zzu (b := aa) xj (fun ad => ?_) (fun ad => ?_)))
  ·replace ad : aa = true := ad
   refine sq9 (zza 17 (.adr 5 0) (zza 18 (.adr 5 0) (zzi 19 (.v (.agg #[.bool ac.s, ac.m.v])) ty30 zze (zza 20 (.adr 6 0) (zza 21 (.adr 6 0) (zzi 22 (.v (.agg #[.bool ab.s, ab.m.v])) ty30 zze (zzg 23 146 _ fun _ _ aN a5 => Post.mono (k_intCompare a5 (aj.ext (ao.t (aq.t aN))) (ak.ext aN)) ?_)))))))
   rintro _ u24 g25 rfl
   refine zza 4 (zI (Nt.cmpS af ag)) (zzb (zzo (zzw (ret0 [.int .i64 (Nt.cmpS af ag)] ⟨zzq, trivial⟩ fun u27 e28 => ?_))))
   show _ = _
   rw [ah, am, ← Nt.cmp_mk al ai]
   rw [aB (by assumption), aC (by assumption)]
   simp [tupV]
  replace ad : aa = false := ad
  refine zzs (zzp ?_)
  refine zzd (zzz [0, 1, 3, 0, 8, 24, 56, 127, 0, 256, 768, 0, 2048, 6144, 14591, 32767, 65535, 131071] [(0, []), (1, []), (2, []), (3, []), (4, []), (5, []), (8, []), (9, []), (10, []), (11, []), (12, []), (13, []), (6, []), (7, []), (14, []), (15, []), (16, []), (17, [])] xj xj (zza 24 (.adr 5 0) (zza 25 (.adr 5 0) (zzi 26 (.v (.agg #[.bool ac.s, ac.m.v])) ty30 zze (zza 27 (.adr 6 0) (zza 28 (.adr 6 2) (zzi 29 (.v (ab.d.v)) ty28 zzl (zza 32 (.adr 6 0) (zza 33 (.adr 6 0) (zzi 34 (.v (.agg #[.bool ab.s, ab.m.v])) ty30 zze (zza 35 (.adr 5 0) ?_)))))))))))
  refine zza 36 (.adr 5 2) (zzi 37 (.v (ac.d.v)) ty28 zzl (zzg 30 152 _ fun _ _ aw bb => Post.mono (k_natural (x := ab.d) bb) ?_))
  rintro _ u30 av rfl
  refine zzg 31 143 _ fun _ _ aA aX => Post.mono (k_intMul aX (aj.ext (ao.t (aq.t (aw.t (av.t aA))))) (nat_int (ar.ext (aw.t (av.t aA)))) xq xq) ?_
  rintro _ u36 aK ⟨i34, rfl, aQ⟩
  refine zzg 38 152 _ fun _ _ aI a2 => Post.mono (k_natural (x := ac.d) a2) ?_
  rintro _ u40 aE rfl
  refine zzg 39 143 _ fun _ _ aF aZ => Post.mono (k_intMul aZ (ak.ext (aw.t (av.t (aA.t (aK.t (aI.t (aE.t aF))))))) (nat_int (au.ext (ao.t (aq.t (aw.t (av.t (aA.t (aK.t (aI.t (aE.t aF)))))))))) xq xq) ?_
  rintro _ u46 aW ⟨i44, rfl, a9⟩
  refine zzg 40 146 _ fun _ _ aJ aU => Post.mono (k_intCompare aU (aQ.ext (aI.t (aE.t (aF.t (aW.t aJ))))).raw (a9.ext aJ).raw) ?_
  rintro _ u50 g51 rfl
  refine zza 4 (zI (Nt.cmpS (af * (an : Int)) (ag * (ap : Int)))) (zzc 41 [(4, zI (Nt.cmpS (af * (an : Int)) (ag * (ap : Int))))] [] (zzo (ret0 [.int .i64 (Nt.cmpS (af * (an : Int)) (ag * (ap : Int)))] ⟨zzq, trivial⟩ fun u53 e54 => ?_)))
  show _ = _
  rw [ah, am, ← Nt.cmp_mk al ai]
  rfl
 refine zyq 13 (x := zB ae) (zB false) (by rw [hs21]) (zzn 14 (uw 2 true false 13) (zzn 15 (uw 2 true false 13) (zza 16 (zB false) (zzb (zys xj (zzs (zzp ?_)))))))
 refine zzd (zzz [0, 1, 3, 0, 8, 24, 56, 127, 0, 256, 768, 0, 2048, 6144, 14591, 32767, 65535, 131071] [(0, []), (1, []), (2, []), (3, []), (4, []), (5, []), (8, []), (9, []), (10, []), (11, []), (12, []), (13, []), (6, []), (7, []), (14, []), (15, []), (16, []), (17, [])] xj xj (zza 24 (.adr 5 0) (zza 25 (.adr 5 0) (zzi 26 (.v (.agg #[.bool ac.s, ac.m.v])) ty30 zze (zza 27 (.adr 6 0) (zza 28 (.adr 6 2) (zzi 29 (.v (ab.d.v)) ty28 zzl (zza 32 (.adr 6 0) (zza 33 (.adr 6 0) (zzi 34 (.v (.agg #[.bool ab.s, ab.m.v])) ty30 zze (zza 35 (.adr 5 0) ?_)))))))))))
 refine zza 36 (.adr 5 2) (zzi 37 (.v (ac.d.v)) ty28 zzl (zzg 30 152 _ fun _ _ ax a1 => Post.mono (k_natural (x := ab.d) a1) ?_))
 rintro _ u56 ay rfl
 refine zzg 31 143 _ fun _ _ az a0 => Post.mono (k_intMul a0 (aj.ext (ao.t (aq.t (ax.t (ay.t az))))) (nat_int (ar.ext (ax.t (ay.t az)))) xq xq) ?_
 rintro _ u62 aM ⟨i60, rfl, a8⟩
 refine zzg 38 152 _ fun _ _ aD a3 => Post.mono (k_natural (x := ac.d) a3) ?_
 rintro _ u66 aH rfl
 refine zzg 39 143 _ fun _ _ aG aT => Post.mono (k_intMul aT (ak.ext (ax.t (ay.t (az.t (aM.t (aD.t (aH.t aG))))))) (nat_int (au.ext (ao.t (aq.t (ax.t (ay.t (az.t (aM.t (aD.t (aH.t aG)))))))))) xq xq) ?_
 rintro _ u72 a4 ⟨i70, rfl, ba⟩
 refine zzg 40 146 _ fun _ _ aO aP => Post.mono (k_intCompare aP (a8.ext (aD.t (aH.t (aG.t (a4.t aO))))).raw (ba.ext aO).raw) ?_
 rintro _ u76 g77 rfl
 refine zza 4 (zI (Nt.cmpS (af * (an : Int)) (ag * (ap : Int)))) (zzc 41 [(4, zI (Nt.cmpS (af * (an : Int)) (ag * (ap : Int))))] [] (zzo (ret0 [.int .i64 (Nt.cmpS (af * (an : Int)) (ag * (ap : Int)))] ⟨zzq, trivial⟩ fun u79 e80 => ?_)))
 show _ = _
 rw [ah, am, ← Nt.cmp_mk al ai]
 rfl
theorem k_ratNeg {u w : World} {r1 : RL} {x : Rat} {K : Nat} (d : Dat u w) (hr1 : RatV u r1 x K) (hK : K ≤ 200000000) : Calls Tryz.prog 79 #[r1.v] w (Post u w fun v u' => ∃ r : RL, v = r.v ∧ RatN u' r (-x) K) := by
 refine zzm (args := [r1.v]) Tryz.func79 rfl Tryz.ntmps79 (rs := [.cell 2 32]) Tryz.results79 (le_b rfl) (le_b rfl) d ?_
 refine sq9 (zzk 1 ⟨32, r1.cs⟩ (zzk 2 ⟨32, zw3⟩ (zzb (sq9 (zzi 3 (.v (r1.v)) ty32 zze (zzg 4 153 _ fun _ _ ac ab => Post.mono (k_flip (r := r1) ab) ?_))))))
 rintro _ u12 ae rfl
 refine zzg 5 68 _ fun _ _ ah af => Post.mono (k_ratTrim af ((flip_rat (hr1.ext (ac.t ae.ext))).ext ah) xq) ?_
 rintro _ u18 g19 ⟨aa, rfl, ag⟩
 refine zzj ⟨32, aa.cs⟩ ty32 ?_
 refine zzb (zzo (ret0 [aa.v] ⟨zzr ty32 zze, trivial⟩ fun u21 ad => ?_))
 refine ⟨aa, rfl, RatN.more (K := K) ?_ xq⟩
 exact (ag.ext ad)
theorem k_ratAbs {u w : World} {r1 : RL} {x : Rat} {K : Nat} (d : Dat u w) (hr1 : RatV u r1 x K) (hK : K ≤ 200000000) : Calls Tryz.prog 65 #[r1.v] w (Post u w fun v u' => ∃ r : RL, v = r.v ∧ RatN u' r (Nt.absQ x) K) := by
 refine zzm (args := [r1.v]) Tryz.func65 rfl Tryz.ntmps65 (rs := [.cell 2 32]) Tryz.results65 (le_b rfl) (le_b rfl) d ?_
 refine sq9 (zzk 1 ⟨32, r1.cs⟩ (zzk 2 ⟨32, zw3⟩ (zzb (sq9 (zza 3 (.adr 1 0) (zza 4 (.adr 1 1) (zzi 5 (.v (r1.m.v)) ty28 zzl (zza 6 (.v (.agg #[.bool false, r1.m.v])) (zza 7 (.adr 1 2) (zzi 8 (.v (r1.d.v)) ty28 zzl (zza 9 (.v (.agg #[.bool false, r1.m.v, r1.d.v])) ?_)))))))))))
 refine zzg 10 68 _ fun _ _ ad ab => Post.mono (k_ratTrim ab ((abs_rat hr1).ext ad) xq) ?_
 rintro _ u14 g15 ⟨aa, rfl, ae⟩
 refine zzj ⟨32, aa.cs⟩ ty32 ?_
 refine zzb (zzo (ret0 [aa.v] ⟨zzr ty32 zze, trivial⟩ fun u17 ac => ?_))
 refine ⟨aa, rfl, RatN.more (K := K) ?_ xq⟩
 exact (ae.ext ac)
set_option maxHeartbeats 1000000 in
theorem k_ratAdd {u w : World} {r1 : RL} {x : Rat} {K : Nat} {r2 : RL} {y : Rat} {L : Nat} (d : Dat u w) (hr1 : RatV u r1 x K) (hr2 : RatV u r2 y L) (hK : K ≤ 200000000) (hL : L ≤ 200000000) : Calls Tryz.prog 112 #[r1.v, r2.v] w (Post u w fun v u' => ∃ r : RL, v = r.v ∧ RatN u' r (x + y) (K + L + 1)) := by
 refine zzm (args := [r1.v, r2.v]) Tryz.func112 rfl Tryz.ntmps112 (rs := [.cell 4 32]) Tryz.results112 (le_b rfl) (le_b rfl) d ?_
 refine sq9 (zzk 2 ⟨32, r1.cs⟩ (zzk 3 ⟨32, r2.cs⟩ (zzk 4 ⟨32, zw3⟩ (zzb (zzd (zzz [0, 1, 0, 7, 0, 0, 63, 127] [(0, []), (2, []), (4, []), (5, []), (1, []), (3, []), (6, []), (7, [])] xj xj (zzi 8 (.v (r1.v)) ty32 zze (zzi 10 (.v (r2.v)) ty32 zze (zzk 5 ⟨197, [.bool false, .slice none 0 0, .slice none 0 0, .bool false]⟩ (zzk 6 ⟨197, [.bool false, .slice none 0 0, .slice none 0 0, .bool false]⟩ (zzg 9 148 _ fun _ _ bx bQ => Post.mono (k_read bQ (hr1.ext bx)) ?_)))))))))))
 rintro _ u13 bJ ⟨aa, af, rfl, z12, aM, ar, ae, ad, ao, a3, ci⟩
 refine zzg 11 148 _ fun _ _ ag bT => Post.mono (k_read bT (hr2.ext (bx.t (bJ.t ag)))) ?_
 rintro _ u18 ah ⟨ab, ac, rfl, z17, D17, av, ai, aB, ax, bc, cg⟩
 refine zzj ⟨197, aa.cs ++ [.bool af]⟩ ty197 ?_
 refine zzj ⟨197, ab.cs ++ [.bool ac]⟩ ty197 ?_
 refine zzb (zzd (sq9 (zza 12 (.adr 5 3) (zzi 13 (zB af) ty4 zzl ?_))))
 rcases Bool.eq_false_or_eq_true af with hs21 | hs21
 ·refine zyq 14 (x := zB af) (zB true) (by rw [hs21]) (zza 15 (.adr 6 3) ?_ (hw := w1 2 true 14))
  refine zzi 16 (zB ac) ty4 zzl ?_ (hw := w1 2 true 14)
  refine zza 17 (zB ac) (zzb (zzu (b := ac) xj (fun ap => ?_) (fun ap => ?_)))
  ·replace ap : ac = true := ap
   refine sq9 (zza 18 (.adr 5 0) (zza 19 (.adr 5 0) (zzi 20 (.v (.agg #[.bool aa.s, aa.m.v])) ty30 zze (zza 21 (.adr 6 0) (zza 22 (.adr 6 0) (zzi 23 (.v (.agg #[.bool ab.s, ab.m.v])) ty30 zze (zzg 24 165 _ fun _ _ bA cf => Post.mono (k_intAdd cf (ar.ext (ag.t (ah.t bA))) (av.ext bA) xq xq) ?_)))))))
   rintro _ u26 g27 ⟨aL, rfl, bS⟩
   refine zzg 25 164 _ fun _ _ bK cl => Post.mono (k_whole (i := aL) cl) ?_
   rintro _ u32 bD ⟨br, rfl, bP⟩
   refine zzj ⟨32, aL.cs ++ [br.v]⟩ ty32 ?_
   refine zzb (zzo (zzw (ret0 [.agg #[.bool aL.s, aL.m.v, br.v]] ⟨zzr ty32 zze, trivial⟩ fun u35 bB => ?_)))
   refine ⟨(⟨aL.s, aL.m, br⟩ : RL), rfl, RatN.more (K := (max (max K L + 1) 1)) ?_ xq⟩
   rw [ao, ax, a3 (by assumption), bc (by assumption), Nt.mk_one, Nt.mk_one, ← Rat.intCast_add]
   exact ((whole_rat (bS.ext (bK.t bD.ext)) bP).ext bB)
  replace ap : ac = false := ap
  refine zzs (zzp ?_)
  refine zzd (sq9 (zza 26 (.adr 5 0) (zza 27 (.adr 5 2) (zzi 28 (.v (aa.d.v)) ty28 zzl (zza 29 (.adr 6 0) (zza 30 (.adr 6 2) (zzi 31 (.v (ab.d.v)) ty28 zzl (zzg 32 166 _ fun _ _ ay cb => Post.mono (k_natCompare cb (ae.ext (ag.t (ah.t ay))) (ai.ext ay)) ?_))))))))
  rintro _ u38 aC rfl
  refine zza 33 (zB ((Nt.cmpS aM D17) == 0)) (zzb (zzu (b := (Nt.cmpS aM D17) == 0) xj (fun aX => ?_) (fun aX => ?_)))
  ·refine zzd (zzz [0, 1, 3, 0, 8, 24, 63, 0, 128, 384, 1023, 2047, 4095] [(0, []), (1, []), (2, []), (3, []), (4, []), (5, []), (7, []), (8, []), (9, []), (6, []), (10, []), (11, []), (12, [])] xj xj (zza 34 (.adr 5 0) (zza 35 (.adr 5 0) (zzi 36 (.v (.agg #[.bool aa.s, aa.m.v])) ty30 zze (zza 37 (.adr 6 0) (zza 38 (.adr 6 0) (zzi 39 (.v (.agg #[.bool ab.s, ab.m.v])) ty30 zze (zza 41 (.adr 5 0) (zza 42 (.adr 5 2) (zzi 43 (.v (aa.d.v)) ty28 zzl (zzg 40 165 _ fun _ _ bh b6 => Post.mono (k_intAdd b6 (ar.ext (ag.t (ah.t (ay.t (aC.t bh))))) (av.ext (ay.t (aC.t bh))) xq xq) ?_)))))))))))
   rintro _ u45 b3 ⟨bz, rfl, cm⟩
   refine zza 44 (.v (.agg #[.bool bz.s, bz.m.v, aa.d.v])) (zzg 45 149 _ fun _ _ bv bM => Post.mono (k_lowest bM (cm.ext bv).raw (ae.ext (ag.t (ah.t (ay.t (aC.t (bh.t (b3.t bv))))))) ad xq xq) ?_)
   rintro _ u51 g52 ⟨aZ, rfl, bZ⟩
   refine zzj ⟨32, aZ.cs⟩ ty32 ?_
   refine zzc 73 [(4, .adr 4 0)] [(4, ⟨32, aZ.cs⟩)] (zzo (zzw (ret0 [aZ.v] ⟨zzr ty32 zze, trivial⟩ fun u54 bV => ?_)))
   refine ⟨aZ, rfl, RatN.more (K := (max (max K L + 1) K)) ?_ xq⟩
   have hD : aM = D17 := Nt.cmp_natE aX
   rw [ao, ax, ← hD, ← Nt.add_same ad]
   exact (bZ.ext bV)
  refine zzs (zzp ?_)
  refine zzd (zzz [0, 1, 3, 0, 8, 24, 56, 127, 0, 256, 768, 0, 2048, 6144, 14591, 32767, 65535, 0, 262143] [(0, []), (1, []), (2, []), (3, []), (4, []), (5, []), (8, []), (9, []), (10, []), (11, []), (12, []), (13, []), (17, []), (6, []), (7, []), (14, []), (15, []), (16, []), (18, [])] xj xj (zza 46 (.adr 5 0) (zza 47 (.adr 5 0) (zzi 48 (.v (.agg #[.bool aa.s, aa.m.v])) ty30 zze (zza 49 (.adr 6 0) (zza 50 (.adr 6 2) (zzi 51 (.v (ab.d.v)) ty28 zzl (zza 54 (.adr 6 0) (zza 55 (.adr 6 0) (zzi 56 (.v (.agg #[.bool ab.s, ab.m.v])) ty30 zze (zza 57 (.adr 5 0) ?_)))))))))))
  refine zza 58 (.adr 5 2) (zzi 59 (.v (aa.d.v)) ty28 zzl (zzk 7 ⟨30, [.bool false, .slice none 0 0]⟩ (zzg 52 152 _ fun _ _ aK b4 => Post.mono (k_natural (x := ab.d) b4) ?_)))
  rintro _ u57 aO rfl
  refine zzg 53 143 _ fun _ _ aN b1 => Post.mono (k_intMul b1 (ar.ext (ag.t (ah.t (ay.t (aC.t (aK.t (aO.t aN))))))) (nat_int (ai.ext (ay.t (aC.t (aK.t (aO.t aN)))))) xq xq) ?_
  rintro _ u63 a0 ⟨i61, rfl, bU⟩
  refine zzg 60 152 _ fun _ _ aW bX => Post.mono (k_natural (x := aa.d) bX) ?_
  rintro _ u67 aQ rfl
  refine zzg 61 143 _ fun _ _ aP ca => Post.mono (k_intMul ca (av.ext (ay.t (aC.t (aK.t (aO.t (aN.t (a0.t (aW.t (aQ.t aP))))))))) (nat_int (ae.ext (ag.t (ah.t (ay.t (aC.t (aK.t (aO.t (aN.t (a0.t (aW.t (aQ.t aP)))))))))))) xq xq) ?_
  rintro _ u73 a5 ⟨i71, rfl, cp⟩
  refine zzg 62 165 _ fun _ _ a1 b2 => Post.mono (k_intAdd b2 (bU.ext (aW.t (aQ.t (aP.t (a5.t a1))))).raw (cp.ext a1).raw xq xq) ?_
  rintro _ u79 bu ⟨aR, rfl, bR⟩
  refine zzj ⟨30, aR.cs⟩ ty30 ?_
  refine zzc 73 [(4, .adr 4 0), (5, .adr 5 0), (6, .adr 6 0), (7, .adr 7 0)] [(4, ⟨32, zw3⟩), (5, ⟨197, aa.cs ++ [.bool af]⟩), (6, ⟨197, ab.cs ++ [.bool ac]⟩), (7, ⟨30, aR.cs⟩)] (zzd (zzz [0, 0, 2, 6, 0, 16, 48, 126, 255, 511, 1023] [(0, []), (1, []), (2, []), (3, []), (4, []), (5, []), (6, []), (7, []), (8, []), (9, []), (10, [])] xj xj (zzi 63 (.v (aR.v)) ty30 zze (zza 64 (.adr 5 0) (zza 65 (.adr 5 2) (zzi 66 (.v (aa.d.v)) ty28 zzl (zza 67 (.adr 6 0) (zza 68 (.adr 6 2) (zzi 69 (.v (ab.d.v)) ty28 zzl (zzg 70 167 _ fun _ _ a8 cc => Post.mono (k_natMul cc (ae.ext (ag.t (ah.t (ay.t (aC.t (aK.t (aO.t (aN.t (a0.t (aW.t (aQ.t (aP.t (a5.t (a1.t (bu.t a8))))))))))))))) (ai.ext (ay.t (aC.t (aK.t (aO.t (aN.t (a0.t (aW.t (aQ.t (aP.t (a5.t (a1.t (bu.t a8))))))))))))) xq xq) ?_))))))))))
  rintro _ u85 bO ⟨bH, rfl, b5⟩
  refine zza 71 (.v (.agg #[.bool aR.s, aR.m.v, bH.v])) (zzg 72 149 _ fun _ _ bw bC => Post.mono (k_lowest bC (bR.ext (a8.t (bO.t bw))).raw (b5.ext bw).raw (Nat.mul_pos ad aB) xq xq) ?_)
  rintro _ u91 g92 ⟨bj, rfl, b9⟩
  refine zzj ⟨32, bj.cs⟩ ty32 ?_
  refine zzb (zzo (ret0 [bj.v] ⟨zzr ty32 zze, trivial⟩ fun u94 cn => ?_))
  refine ⟨bj, rfl, RatN.more (K := (max (max (K + L) (L + K) + 1) (K + L))) ?_ xq⟩
  rw [ao, ax, ← Nt.add_mk ad aB]
  exact (b9.ext cn)
 refine zyq 14 (x := zB af) (zB false) (by rw [hs21]) (zzn 15 (uw 2 true false 14) (zzn 16 (uw 2 true false 14) (zza 17 (zB false) (zzb (zys xj (zzs (zzp ?_)))))))
 refine zzd (sq9 (zza 26 (.adr 5 0) (zza 27 (.adr 5 2) (zzi 28 (.v (aa.d.v)) ty28 zzl (zza 29 (.adr 6 0) (zza 30 (.adr 6 2) (zzi 31 (.v (ab.d.v)) ty28 zzl (zzg 32 166 _ fun _ _ au bL => Post.mono (k_natCompare bL (ae.ext (ag.t (ah.t au))) (ai.ext au)) ?_))))))))
 rintro _ u97 aE rfl
 refine zza 33 (zB ((Nt.cmpS aM D17) == 0)) (zzb (zzu (b := (Nt.cmpS aM D17) == 0) xj (fun aF => ?_) (fun aF => ?_)))
 ·refine zzd (zzz [0, 1, 3, 0, 8, 24, 63, 0, 128, 384, 1023, 2047, 4095] [(0, []), (1, []), (2, []), (3, []), (4, []), (5, []), (7, []), (8, []), (9, []), (6, []), (10, []), (11, []), (12, [])] xj xj (zza 34 (.adr 5 0) (zza 35 (.adr 5 0) (zzi 36 (.v (.agg #[.bool aa.s, aa.m.v])) ty30 zze (zza 37 (.adr 6 0) (zza 38 (.adr 6 0) (zzi 39 (.v (.agg #[.bool ab.s, ab.m.v])) ty30 zze (zza 41 (.adr 5 0) (zza 42 (.adr 5 2) (zzi 43 (.v (aa.d.v)) ty28 zzl (zzg 40 165 _ fun _ _ aI bs => Post.mono (k_intAdd bs (ar.ext (ag.t (ah.t (au.t (aE.t aI))))) (av.ext (au.t (aE.t aI))) xq xq) ?_)))))))))))
  rintro _ cd a9 ⟨aV, rfl, bo⟩
  refine zza 44 (.v (.agg #[.bool aV.s, aV.m.v, aa.d.v])) (zzg 45 149 _ fun _ _ aT a6 => Post.mono (k_lowest a6 (bo.ext aT).raw (ae.ext (ag.t (ah.t (au.t (aE.t (aI.t (a9.t aT))))))) ad xq xq) ?_)
  rintro _ cj ce ⟨aA, rfl, bd⟩
  refine zzj ⟨32, aA.cs⟩ ty32 ?_
  refine zzc 73 [(4, .adr 4 0)] [(4, ⟨32, aA.cs⟩)] (zzo (zzw (ret0 [aA.v] ⟨zzr ty32 zze, trivial⟩ fun b8 bb => ?_)))
  refine ⟨aA, rfl, RatN.more (K := (max (max K L + 1) K)) ?_ xq⟩
  have hD : aM = D17 := Nt.cmp_natE aF
  rw [ao, ax, ← hD, ← Nt.add_same ad]
  exact (bd.ext bb)
 refine zzs (zzp ?_)
 refine zzd (zzz [0, 1, 3, 0, 8, 24, 56, 127, 0, 256, 768, 0, 2048, 6144, 14591, 32767, 65535, 0, 262143] [(0, []), (1, []), (2, []), (3, []), (4, []), (5, []), (8, []), (9, []), (10, []), (11, []), (12, []), (13, []), (17, []), (6, []), (7, []), (14, []), (15, []), (16, []), (18, [])] xj xj (zza 46 (.adr 5 0) (zza 47 (.adr 5 0) (zzi 48 (.v (.agg #[.bool aa.s, aa.m.v])) ty30 zze (zza 49 (.adr 6 0) (zza 50 (.adr 6 2) (zzi 51 (.v (ab.d.v)) ty28 zzl (zza 54 (.adr 6 0) (zza 55 (.adr 6 0) (zzi 56 (.v (.agg #[.bool ab.s, ab.m.v])) ty30 zze (zza 57 (.adr 5 0) ?_)))))))))))
 refine zza 58 (.adr 5 2) (zzi 59 (.v (aa.d.v)) ty28 zzl (zzk 7 ⟨30, [.bool false, .slice none 0 0]⟩ (zzg 52 152 _ fun _ _ al be => Post.mono (k_natural (x := ab.d) be) ?_)))
 rintro _ bG ak rfl
 refine zzg 53 143 _ fun _ _ aj a2 => Post.mono (k_intMul a2 (ar.ext (ag.t (ah.t (au.t (aE.t (al.t (ak.t aj))))))) (nat_int (ai.ext (au.t (aE.t (al.t (ak.t aj)))))) xq xq) ?_
 rintro _ ch az ⟨ck, rfl, bt⟩
 refine zzg 60 152 _ fun _ _ aw a7 => Post.mono (k_natural (x := aa.d) a7) ?_
 rintro _ bE am rfl
 refine zzg 61 143 _ fun _ _ aq bi => Post.mono (k_intMul bi (av.ext (au.t (aE.t (al.t (ak.t (aj.t (az.t (aw.t (am.t aq))))))))) (nat_int (ae.ext (ag.t (ah.t (au.t (aE.t (al.t (ak.t (aj.t (az.t (aw.t (am.t aq)))))))))))) xq xq) ?_
 rintro _ bW aH ⟨bF, rfl, bf⟩
 refine zzg 62 165 _ fun _ _ aD bp => Post.mono (k_intAdd bp (bt.ext (aw.t (am.t (aq.t (aH.t aD))))).raw (bf.ext aD).raw xq xq) ?_
 rintro _ b7 aU ⟨an, rfl, bn⟩
 refine zzj ⟨30, an.cs⟩ ty30 ?_
 refine zzc 73 [(4, .adr 4 0), (5, .adr 5 0), (6, .adr 6 0), (7, .adr 7 0)] [(4, ⟨32, zw3⟩), (5, ⟨197, aa.cs ++ [.bool af]⟩), (6, ⟨197, ab.cs ++ [.bool ac]⟩), (7, ⟨30, an.cs⟩)] (zzd (zzz [0, 0, 2, 6, 0, 16, 48, 126, 255, 511, 1023] [(0, []), (1, []), (2, []), (3, []), (4, []), (5, []), (6, []), (7, []), (8, []), (9, []), (10, [])] xj xj (zzi 63 (.v (an.v)) ty30 zze (zza 64 (.adr 5 0) (zza 65 (.adr 5 2) (zzi 66 (.v (aa.d.v)) ty28 zzl (zza 67 (.adr 6 0) (zza 68 (.adr 6 2) (zzi 69 (.v (ab.d.v)) ty28 zzl (zzg 70 167 _ fun _ _ aG bl => Post.mono (k_natMul bl (ae.ext (ag.t (ah.t (au.t (aE.t (al.t (ak.t (aj.t (az.t (aw.t (am.t (aq.t (aH.t (aD.t (aU.t aG))))))))))))))) (ai.ext (au.t (aE.t (al.t (ak.t (aj.t (az.t (aw.t (am.t (aq.t (aH.t (aD.t (aU.t aG))))))))))))) xq xq) ?_))))))))))
 rintro _ bN bg ⟨bm, rfl, a4⟩
 refine zza 71 (.v (.agg #[.bool an.s, an.m.v, bm.v])) (zzg 72 149 _ fun _ _ aY bk => Post.mono (k_lowest bk (bn.ext (aG.t (bg.t aY))).raw (a4.ext aY).raw (Nat.mul_pos ad aB) xq xq) ?_)
 rintro _ bI bY ⟨aJ, rfl, ba⟩
 refine zzj ⟨32, aJ.cs⟩ ty32 ?_
 refine zzb (zzo (ret0 [aJ.v] ⟨zzr ty32 zze, trivial⟩ fun b0 bq => ?_))
 refine ⟨aJ, rfl, RatN.more (K := (max (max (K + L) (L + K) + 1) (K + L))) ?_ xq⟩
 rw [ao, ax, ← Nt.add_mk ad aB]
 exact (ba.ext bq)
theorem k_ratSub {u w : World} {r1 : RL} {x : Rat} {K : Nat} {r2 : RL} {y : Rat} {L : Nat} (d : Dat u w) (hr1 : RatV u r1 x K) (hr2 : RatV u r2 y L) (hK : K ≤ 200000000) (hL : L ≤ 200000000) : Calls Tryz.prog 139 #[r1.v, r2.v] w (Post u w fun v u' => ∃ r : RL, v = r.v ∧ RatN u' r (x - y) (K + L + 1)) := by
 refine zzm (args := [r1.v, r2.v]) Tryz.func139 rfl Tryz.ntmps139 (rs := [.cell 4 32]) Tryz.results139 (le_b rfl) (le_b rfl) d ?_
 refine sq9 (zzk 2 ⟨32, r1.cs⟩ (zzk 3 ⟨32, r2.cs⟩ (zzk 4 ⟨32, zw3⟩ (zzb (zzd (zzz [0, 0, 2, 7, 15] [(0, []), (1, []), (2, []), (3, []), (4, [])] xj xj (zzi 5 (.v (r1.v)) ty32 zze (zzi 6 (.v (r2.v)) ty32 zze (zzg 7 153 _ fun _ _ ab ae => Post.mono (k_flip (r := r2) ae) ?_)))))))))
 rintro _ u12 ac rfl
 refine zzg 8 112 _ fun _ _ ad ag => Post.mono (k_ratAdd ag (hr1.ext (ab.t (ac.t ad))) ((flip_rat (hr2.ext (ab.t ac.ext))).ext ad) xq xq) ?_
 rintro _ u18 g19 ⟨aa, rfl, ah⟩
 refine zzj ⟨32, aa.cs⟩ ty32 ?_
 refine zzb (zzo (ret0 [aa.v] ⟨zzr ty32 zze, trivial⟩ fun u21 af => ?_))
 refine ⟨aa, rfl, RatN.more (K := (K + L + 1)) ?_ xq⟩
 rw [Rat.sub_eq_add_neg]
 exact (ah.ext af)
set_option maxHeartbeats 1000000 in
theorem k_ratMul {u w : World} {r1 : RL} {x : Rat} {K : Nat} {r2 : RL} {y : Rat} {L : Nat} (d : Dat u w) (hr1 : RatV u r1 x K) (hr2 : RatV u r2 y L) (hK : K ≤ 200000000) (hL : L ≤ 200000000) : Calls Tryz.prog 113 #[r1.v, r2.v] w (Post u w fun v u' => ∃ r : RL, v = r.v ∧ RatN u' r (x * y) (K + L)) := by
 refine zzm (args := [r1.v, r2.v]) Tryz.func113 rfl Tryz.ntmps113 (rs := [.cell 4 32]) Tryz.results113 (le_b rfl) (le_b rfl) d ?_
 refine sq9 (zzk 2 ⟨32, r1.cs⟩ (zzk 3 ⟨32, r2.cs⟩ (zzk 4 ⟨32, zw3⟩ (zzb (zzd (zzz [0, 1, 0, 7, 0, 0, 63, 127] [(0, []), (2, []), (4, []), (5, []), (1, []), (3, []), (6, []), (7, [])] xj xj (zzi 8 (.v (r1.v)) ty32 zze (zzi 10 (.v (r2.v)) ty32 zze (zzk 5 ⟨197, [.bool false, .slice none 0 0, .slice none 0 0, .bool false]⟩ (zzk 6 ⟨197, [.bool false, .slice none 0 0, .slice none 0 0, .bool false]⟩ (zzg 9 148 _ fun _ _ aE aG => Post.mono (k_read aG (hr1.ext aE)) ?_)))))))))))
 rintro _ u13 aT ⟨ai, ac, rfl, z12, D12, aB, ah, aj, af, au, aI⟩
 refine zzg 11 148 _ fun _ _ aq aL => Post.mono (k_read aL (hr2.ext (aE.t (aT.t aq)))) ?_
 rintro _ u18 ar ⟨al, ab, rfl, z17, D17, av, am, ak, ae, aw, aH⟩
 refine zzj ⟨197, ai.cs ++ [.bool ac]⟩ ty197 ?_
 refine zzj ⟨197, al.cs ++ [.bool ab]⟩ ty197 ?_
 refine zzb (sq9 (zza 12 (.adr 5 0) (zza 13 (.adr 5 0) (zzi 14 (.v (.agg #[.bool ai.s, ai.m.v])) ty30 zze (zza 15 (.adr 6 0) (zza 16 (.adr 6 0) (zzi 17 (.v (.agg #[.bool al.s, al.m.v])) ty30 zze (zzg 18 143 _ fun _ _ ag aX => Post.mono (k_intMul aX (aB.ext (aq.t (ar.t ag))) (av.ext ag) xq xq) ?_))))))))
 rintro _ u24 ao ⟨aa, rfl, ax⟩
 refine zzk 7 ⟨30, [.bool false, .slice none 0 0]⟩ (zzj ⟨30, aa.cs⟩ ty30 ?_)
 refine zzb (zzd (sq9 (zza 19 (.adr 5 3) (zzi 20 (zB ac) ty4 zzl ?_))))
 rcases Bool.eq_false_or_eq_true ac with hs27 | hs27
 ·refine zyq 21 (x := zB ac) (zB true) (by rw [hs27]) (zza 22 (.adr 6 3) ?_ (hw := w1 2 true 21))
  refine zzi 23 (zB ab) ty4 zzl ?_ (hw := w1 2 true 21)
  refine zza 24 (zB ab) (zzb (zzu (b := ab) xj (fun ad => ?_) (fun ad => ?_)))
  ·replace ad : ab = true := ad
   refine sq9 (zzi 25 (.v (aa.v)) ty30 zze (zzg 26 164 _ fun _ _ aU aR => Post.mono (k_whole (i := aa) aR) ?_))
   rintro _ u32 aN ⟨ay, rfl, a2⟩
   refine zzj ⟨32, aa.cs ++ [ay.v]⟩ ty32 ?_
   refine zzb (zzo (zzw (ret0 [.agg #[.bool aa.s, aa.m.v, ay.v]] ⟨zzr ty32 zze, trivial⟩ fun u35 aF => ?_)))
   refine ⟨(⟨aa.s, aa.m, ay⟩ : RL), rfl, RatN.more (K := (max (K + L) 1)) ?_ xq⟩
   rw [af, ae, au (by assumption), aw (by assumption), Nt.mk_one, Nt.mk_one, ← Rat.intCast_mul]
   exact ((whole_rat (ax.ext (aU.t aN.ext)) a2).ext aF)
  replace ad : ab = false := ad
  refine zzs (zzp ?_)
  refine zzd (zzz [0, 0, 2, 6, 0, 16, 48, 126, 255, 511, 1023] [(0, []), (1, []), (2, []), (3, []), (4, []), (5, []), (6, []), (7, []), (8, []), (9, []), (10, [])] xj xj (zzi 27 (.v (aa.v)) ty30 zze (zza 28 (.adr 5 0) (zza 29 (.adr 5 2) (zzi 30 (.v (ai.d.v)) ty28 zzl (zza 31 (.adr 6 0) (zza 32 (.adr 6 2) (zzi 33 (.v (al.d.v)) ty28 zzl (zzg 34 167 _ fun _ _ az aZ => Post.mono (k_natMul aZ (ah.ext (aq.t (ar.t (ag.t (ao.t az))))) (am.ext (ag.t (ao.t az))) xq xq) ?_)))))))))
  rintro _ u40 aP ⟨aV, rfl, aJ⟩
  refine zza 35 (.v (.agg #[.bool aa.s, aa.m.v, aV.v])) (zzg 36 149 _ fun _ _ aC aY => Post.mono (k_lowest aY (ax.ext (az.t (aP.t aC))).raw (aJ.ext aC).raw (Nat.mul_pos aj ak) xq xq) ?_)
  rintro _ u46 g47 ⟨ap, rfl, aM⟩
  refine zzj ⟨32, ap.cs⟩ ty32 ?_
  refine zzc 37 [(4, .adr 4 0)] [(4, ⟨32, ap.cs⟩)] (zzo (ret0 [ap.v] ⟨zzr ty32 zze, trivial⟩ fun u49 a0 => ?_))
  refine ⟨ap, rfl, RatN.more (K := (max (K + L) (K + L))) ?_ xq⟩
  rw [af, ae, ← Nt.mul_mk]
  exact (aM.ext a0)
 refine zyq 21 (x := zB ac) (zB false) (by rw [hs27]) (zzn 22 (uw 2 true false 21) (zzn 23 (uw 2 true false 21) (zza 24 (zB false) (zzb (zys xj (zzs (zzp ?_)))))))
 refine zzd (zzz [0, 0, 2, 6, 0, 16, 48, 126, 255, 511, 1023] [(0, []), (1, []), (2, []), (3, []), (4, []), (5, []), (6, []), (7, []), (8, []), (9, []), (10, [])] xj xj (zzi 27 (.v (aa.v)) ty30 zze (zza 28 (.adr 5 0) (zza 29 (.adr 5 2) (zzi 30 (.v (ai.d.v)) ty28 zzl (zza 31 (.adr 6 0) (zza 32 (.adr 6 2) (zzi 33 (.v (al.d.v)) ty28 zzl (zzg 34 167 _ fun _ _ aA aO => Post.mono (k_natMul aO (ah.ext (aq.t (ar.t (ag.t (ao.t aA))))) (am.ext (ag.t (ao.t aA))) xq xq) ?_)))))))))
 rintro _ u54 a1 ⟨aQ, rfl, aK⟩
 refine zza 35 (.v (.agg #[.bool aa.s, aa.m.v, aQ.v])) (zzg 36 149 _ fun _ _ aD a4 => Post.mono (k_lowest a4 (ax.ext (aA.t (a1.t aD))).raw (aK.ext aD).raw (Nat.mul_pos aj ak) xq xq) ?_)
 rintro _ u60 g61 ⟨an, rfl, a3⟩
 refine zzj ⟨32, an.cs⟩ ty32 ?_
 refine zzc 37 [(4, .adr 4 0)] [(4, ⟨32, an.cs⟩)] (zzo (ret0 [an.v] ⟨zzr ty32 zze, trivial⟩ fun u63 aW => ?_))
 refine ⟨an, rfl, RatN.more (K := (max (K + L) (K + L))) ?_ xq⟩
 rw [af, ae, ← Nt.mul_mk]
 exact (a3.ext aW)
theorem k_ratFrac {u w : World} {a b : Int} (d : Dat u w) (ha0 : -9223372036854775808 ≤ a) (ha1 : a ≤ 9223372036854775807) (hb0 : -9223372036854775808 ≤ b) (hb1 : b ≤ 9223372036854775807) : Calls Tryz.prog 114 #[.int .i64 a, .int .i64 b] w (Post u w fun v u' => ∃ r : RL, v = r.v ∧ RatN u' r ((a : Rat) / (b : Rat)) 2) := by
 refine zzm (args := [.int .i64 a, .int .i64 b]) Tryz.func114 rfl Tryz.ntmps114 (rs := [.cell 4 32]) Tryz.results114 (le_b rfl) (le_b rfl) d ?_
 refine sq9 (zzk 4 ⟨32, zw3⟩ (zzb (zzd (sq9 (zza 5 (zI b) (zza 6 (zB (b == 0)) (zzb (zzu (b := b == 0) xj (fun aa => ?_) (fun aa => ?_)))))))))
 ·refine sq9 (zzg 7 109 _ fun _ _ _ au => Post.mono (k_ratOf au (z := 0) xq xq) ?_)
  rintro _ u15 g16 ⟨ab, rfl, ao⟩
  refine zzj ⟨32, ab.cs⟩ ty32 ?_
  refine zzb (zzo (zzw (ret0 [ab.v] ⟨zzr ty32 zze, trivial⟩ fun u18 ar => ?_)))
  refine ⟨ab, rfl, RatN.more (K := 2) ?_ xq⟩
  have hb0 : b = 0 := by simpa using aa
  rw [hb0]; simp [Rat.div_def]; exact (ao.ext ar)
 have hb0 : 0 < b.natAbs := by simp at aa; omega
 refine zzs (zzp ?_)
 refine sq9 (zza 8 (zI a) (zzg 9 140 _ fun _ _ _ aq => Post.mono (k_intOf aq (z := a) xq xq) ?_))
 rintro _ u23 g24 ⟨ah, rfl, ak⟩
 refine zza 10 (zI b) (zzg 11 140 _ fun _ _ am al => Post.mono (k_intOf al (z := b) xq xq) ?_)
 rintro _ u29 ai ⟨ap, rfl, ag⟩
 refine zzg 12 168 _ fun _ _ ad av => Post.mono (k_quotient (i := ah) (j := ap) av) ?_
 rintro _ u33 ae rfl
 refine zzg 13 149 _ fun _ _ af an => Post.mono (k_lowest an ((quot_int (ak.ext (am.t (ai.t (ad.t ae.ext)))) (ag.ext (ad.t ae.ext))).ext af) ((int_mag (ag.ext (ad.t ae.ext))).ext af).raw hb0 xq xq) ?_
 rintro _ u39 g40 ⟨ac, rfl, aw⟩
 refine zzj ⟨32, ac.cs⟩ ty32 ?_
 refine zzb (zzo (ret0 [ac.v] ⟨zzr ty32 zze, trivial⟩ fun u42 aj => ?_))
 refine ⟨ac, rfl, RatN.more (K := (max 2 2)) ?_ xq⟩
 rw [← Nt.div_mk2 xq]
 exact (aw.ext aj)
def DivR (x y : Rat) (K : Nat) (v : Value) (u : World) : Prop := (v = .tuple #[.agg #[.bool false, .slice none 0 0, .slice none 0 0], .int .i64 3] ∧ y = 0) ∨ (y ≠ 0 ∧ ∃ r : RL, v = .tuple #[r.v, .int .i64 0] ∧ RatN u r (x / y) K)
set_option maxHeartbeats 1000000 in
theorem k_ratDiv {u w : World} {r1 : RL} {x : Rat} {K : Nat} {r2 : RL} {y : Rat} {L : Nat} (d : Dat u w) (hr1 : RatV u r1 x K) (hr2 : RatV u r2 y L) (hK : K ≤ 200000000) (hL : L ≤ 200000000) : Calls Tryz.prog 138 #[r1.v, r2.v] w (Post u w fun v u' => DivR x y (K + L) v u') := by
 refine zzm (args := [r1.v, r2.v]) Tryz.func138 rfl Tryz.ntmps138 (rs := [.cell 4 32, .tmp 5]) Tryz.results138 (le_b rfl) (le_b rfl) d ?_
 refine sq9 (zzk 2 ⟨32, r1.cs⟩ (zzk 3 ⟨32, r2.cs⟩ (zzk 4 ⟨32, zw3⟩ (zza 5 (zI 0) (zzb (zzd (zzz [0, 1, 0, 7, 0, 0, 63, 127] [(0, []), (2, []), (4, []), (5, []), (1, []), (3, []), (6, []), (7, [])] xj xj (zzi 10 (.v (r1.v)) ty32 zze (zzi 12 (.v (r2.v)) ty32 zze (zzk 6 ⟨197, [.bool false, .slice none 0 0, .slice none 0 0, .bool false]⟩ (zzk 7 ⟨197, [.bool false, .slice none 0 0, .slice none 0 0, .bool false]⟩ ?_)))))))))))
 refine zzg 11 148 _ fun _ _ aI aL => Post.mono (k_read aL (hr1.ext aI)) ?_
 rintro _ u13 aW ⟨ad, ao, rfl, z12, aQ, aE, ap, ar, aw, aP, aN⟩
 refine zzg 13 148 _ fun _ _ aA aO => Post.mono (k_read aO (hr2.ext (aI.t (aW.t aA)))) ?_
 rintro _ u18 aF ⟨ac, ax, rfl, ai, D17, ae, aC, az, aa, aR, aM⟩
 refine zzj ⟨197, ad.cs ++ [.bool ao]⟩ ty197 ?_
 refine zzj ⟨197, ac.cs ++ [.bool ax]⟩ ty197 ?_
 refine zzb (zzd (sq9 (zza 14 (.adr 7 0) (zza 15 (.adr 7 0) (zzi 16 (.v (.agg #[.bool ac.s, ac.m.v])) ty30 zze (zzg 17 147 _ fun _ _ af a0 => Post.mono (k_intSign a0 (ae.ext af)) ?_))))))
 rintro _ u22 al rfl
 refine zza 18 (zB ((Nt.cmpS ai 0) == 0)) (zzb (zzu (b := (Nt.cmpS ai 0) == 0) xj (fun ab => ?_) (fun ab => ?_)))
 ·refine sq9 (zza 19 (.v (.agg #[.bool false, .slice none 0 0, .slice none 0 0])) (zzj ⟨32, zw3⟩ ty32 ?_))
  refine zza 5 (zI 3) (zzb (zzo (zzw (ret0 [.agg #[.bool false, .slice none 0 0, .slice none 0 0], .int .i64 3] ⟨zzr ty32 zze, zzq, trivial⟩ fun u26 e27 => ?_))))
  left
  exact ⟨rfl, by rw [aa, Nt.cmp_eq0 ab, Rat.zero_mkRat]⟩
 have au : ai ≠ 0 := Nt.cmp_ne0 ab
 have hpp : 0 < ((aQ : Int) * ai : Int).natAbs := Int.natAbs_pos.2 (Int.mul_ne_zero xq au)
 refine zzs (zzp ?_)
 refine zzd (zzz [0, 1, 3, 0, 8, 24, 56, 127, 0, 511] [(0, []), (1, []), (2, []), (3, []), (4, []), (5, []), (8, []), (6, []), (7, []), (9, [])] xj xj (zza 20 (.adr 6 0) (zza 21 (.adr 6 0) (zzi 22 (.v (.agg #[.bool ad.s, ad.m.v])) ty30 zze (zza 23 (.adr 7 0) (zza 24 (.adr 7 2) (zzi 25 (.v (ac.d.v)) ty28 zzl (zzk 8 ⟨30, [.bool false, .slice none 0 0]⟩ (zzg 26 152 _ fun _ _ aj a1 => Post.mono (k_natural (x := ac.d) a1) ?_)))))))))
 rintro _ u29 ah rfl
 refine zzg 27 143 _ fun _ _ ak aZ => Post.mono (k_intMul aZ (aE.ext (aA.t (aF.t (af.t (al.t (aj.t (ah.t ak))))))) (nat_int (aC.ext (af.t (al.t (aj.t (ah.t ak)))))) xq xq) ?_
 rintro _ u35 aH ⟨am, rfl, aT⟩
 refine zzj ⟨30, am.cs⟩ ty30 ?_
 refine zzb (zzd (zzz [0, 1, 3, 7, 0, 16, 48, 127, 0, 511] [(0, []), (1, []), (2, []), (4, []), (5, []), (6, []), (8, []), (3, []), (7, []), (9, [])] xj xj (zza 28 (.adr 6 0) (zza 29 (.adr 6 2) (zzi 30 (.v (ad.d.v)) ty28 zzl (zza 32 (.adr 7 0) (zza 33 (.adr 7 0) (zzi 34 (.v (.agg #[.bool ac.s, ac.m.v])) ty30 zze (zzk 9 ⟨30, [.bool false, .slice none 0 0]⟩ (zzg 31 152 _ fun _ _ aD a2 => Post.mono (k_natural (x := ad.d) a2) ?_))))))))))
 rintro _ u39 an rfl
 refine zzg 35 143 _ fun _ _ aB aX => Post.mono (k_intMul aX (nat_int (ap.ext (aA.t (aF.t (af.t (al.t (aj.t (ah.t (ak.t (aH.t (aD.t (an.t aB)))))))))))) (ae.ext (af.t (al.t (aj.t (ah.t (ak.t (aH.t (aD.t (an.t aB))))))))) xq xq) ?_
 rintro _ u45 aU ⟨ag, rfl, aG⟩
 refine zzj ⟨30, ag.cs⟩ ty30 ?_
 refine zzc 40 [(4, .adr 4 0), (8, .adr 8 0), (9, .adr 9 0)] [(4, ⟨32, zw3⟩), (8, ⟨30, am.cs⟩), (9, ⟨30, ag.cs⟩)] (sq9 (zzi 36 (.v (am.v)) ty30 zze (zzi 37 (.v (ag.v)) ty30 zze (zzg 38 168 _ fun _ _ aq aY => Post.mono (k_quotient (i := am) (j := ag) aY) ?_))))
 rintro _ u49 ay rfl
 refine zzg 39 149 _ fun _ _ aJ a3 => Post.mono (k_lowest a3 ((quot_int (aT.ext (aD.t (an.t (aB.t (aU.t (aq.t ay.ext)))))) (aG.ext (aq.t ay.ext))).ext aJ) ((int_mag (aG.ext (aq.t ay.ext))).ext aJ).raw hpp xq xq) ?_
 rintro _ u55 g56 ⟨av, rfl, aV⟩
 refine zzj ⟨32, av.cs⟩ ty32 ?_
 refine zza 5 (zI 0) (zzb (zzo (ret0 [av.v, .int .i64 0] ⟨zzr ty32 zze, zzq, trivial⟩ fun u58 aK => ?_)))
 right
 refine ⟨?_, av, rfl, RatN.more (K := (max (K + L) (K + L))) ?_ xq⟩
 ·rw [aa]; exact (Rat.mkRat_ne_zero xq).2 au
 rw [aw, aa, ← Nt.quo_mk ar az au, ← Nt.div_mk2 xq]
 exact (aV.ext aK)
theorem k_ratDiv1 {u w : World} {r1 r2 : RL} {x y : Rat} {K L : Nat} (d : Dat u w) (hr1 : RatV u r1 x K) (hr2 : RatV u r2 y L) (hy : y ≠ 0) (hK : K ≤ 200000000) (hL : L ≤ 200000000) : Calls Tryz.prog 138 #[r1.v, r2.v] w (Post u w fun v u' => ∃ r : RL, v = .tuple #[r.v, .int .i64 0] ∧ RatN u' r (x / y) (K + L)) :=
 Post.mono (k_ratDiv d hr1 hr2 hK hL) fun v u' _ h => h.elim (fun h => absurd h.2 hy) (fun h => h.2)
theorem k_cut {u w : World} {x : Sl} {l : List Rat} {K : Nat} (d : Dat u w) (hx : PolV u x l K) (hK : K ≤ 100000000) (hx9 : l.length ≤ 1000000000) : Calls Tryz.prog 151 #[x.v] w (Post u w fun v u' => v = .slice x.a (Nt.trimQ l).length x.c) := by
 have hlen := hx.len
 refine zzm (args := [x.v]) Tryz.func151 rfl Tryz.ntmps151 (rs := [.tmp 2]) Tryz.results151 (le_b rfl) (le_b rfl) d ?_
 refine sq9 (zza 2 (.v (.slice none 0 0)) (zzb (sq9 (zza 4 (.v (x.v)) (zza 5 (zI x.n) (zza 3 (zI x.n) (zzb (zzd (zzt (zyn (I := fun ah S' u' => ∃ (n : Nat), (ah = n) ∧ (n ≤ l.length) ∧ (∀ i, n ≤ i → Nt.co l i = 0) ∧ (S' = St.of 22 [(0, .v (x.v)), (3, zI n)] []) ∧ (Ext u u')) (fun m S u1 u2 e h => by obtain ⟨n, hm, p0, p1, hS, hE⟩ := h; exact ⟨n, hm, p0, p1, hS, hE.trans e⟩) _ yw ⟨x.n, rfl, by omega, fun i hi => Nt.co_ge xq, rfl, (Ext.refl _)⟩ ?_))))))))))
 rintro ah _ u11 ⟨n, ak, hn, hz, rfl, aa⟩
 refine zzd (sq9 (zza 6 (zI n) (zza 7 (zB (decide ((0 : Int) < (n : Int)))) ?_)))
 rcases Bool.eq_false_or_eq_true (decide ((0 : Int) < (n : Int))) with hs12 | hs12
 ·refine zyq 8 (x := zB (decide ((0 : Int) < (n : Int)))) (zB true) (by rw [hs12]) ?_
  have qhs12 := of_decide_eq_true hs12
  refine zza 9 (.v (x.v)) ?_ (hw := w1 2 true 8)
  refine zza 10 (zI n) ?_ (hw := w1 2 true 8)
  refine zyq 11 (x := zI (IntKind.i64.wrap ((n : Int) - 1))) (zI (n - 1 : Nat)) (eqI yq) ?_ (hw := w1 2 true 8)
  have hl13 := (hx.ext aa).len
  obtain ⟨al, b13, ai, ag, ae, ad⟩ := pol_at (hx.ext aa) (i := n - 1) xq
  refine zya 12 (ai + (n - 1) * 3) (n := x.n) (off := ai) (sz := 3) (i := ((n - 1 : Nat) : Int)) xq ag xq xq sl27 ?_ (hw := w1 2 true 8)
  refine zym 13 al.cs ae ty32 ?_ (hw := w1 2 true 8)
  refine zzg 14 66 _ (fun _ _ ac aj => Post.mono (k_ratSign aj (ad.ext ac)) ?_) (hw := w1 2 true 8)
  rintro _ u15 af rfl
  refine zza 15 (zB ((Nt.sgQ (l.getD (n - 1) 0)) == 0)) ?_ (hw := w1 2 true 8)
  refine zza 16 (zB ((Nt.sgQ (l.getD (n - 1) 0)) == 0)) (zzb (zzu (b := (Nt.sgQ (l.getD (n - 1) 0)) == 0) xj (fun ab => ?_) (fun ab => ?_)))
  ·refine zzs (zzp ?_)
   refine zzt (zzf (zza 17 (zI n) (zyq 18 (x := zI (IntKind.i64.wrap ((n : Int) - 1))) (zI (n - 1 : Nat)) (eqI yq) (zza 3 (zI (n - 1 : Nat)) (zzx ?_)))))
   refine ⟨_, ?_, _, by exact zzv _ _ _, n - 1, rfl, by omega, (fun i hi => by by_cases e : i = n - 1; (rw [e]; have h9 := ab; rw [Nt.sgQ_eq] at h9; exact of_decide_eq_true h9); exact hz i xq), rfl, (aa.t (ac.t af.ext))⟩
   omega
  refine zyc (zzp (sq9 (zza 19 (.v (x.v)) (zza 20 (zI n) ?_))))
  have hl19 := (hx.ext (aa.t (ac.t af.ext))).len
  have hc19 := (hx.ext (aa.t (ac.t af.ext))).cap
  refine sy_front 21 (n := x.n) (c := x.c) n sl27 rfl xq ?_
  refine zza 2 (.v (.slice x.a n x.c)) (zzb (zzo (ret0 [.slice x.a n x.c] ⟨zzq, trivial⟩ fun u20 e21 => ?_)))
  have e := Nt.trim_len_of (l := l) hn hz (fun _ h => by have h9 := ab; rw [Nt.sgQ_eq] at h9; exact of_decide_eq_false h9 h)
  show Value.slice _ _ _ = Value.slice _ _ _
  rw [e]
 refine zyq 8 (x := zB (decide ((0 : Int) < (n : Int)))) (zB false) (by rw [hs12]) ?_
 have qhs12 := of_decide_eq_false hs12
 refine zzn 9 (uw 2 true false 8) (zzn 10 (uw 2 true false 8) (zzn 11 (uw 2 true false 8) (zzn 12 (uw 2 true false 8) (zzn 13 (uw 2 true false 8) (zzn 14 (uw 2 true false 8) (zzn 15 (uw 2 true false 8) (zza 16 (zB false) (zzb (zys xj (zyc (zzp ?_)))))))))))
 refine sq9 (zza 19 (.v (x.v)) (zza 20 (zI n) ?_))
 have hl22 := (hx.ext aa).len
 have hc22 := (hx.ext aa).cap
 refine sy_front 21 (n := x.n) (c := x.c) n sl27 rfl xq ?_
 refine zza 2 (.v (.slice x.a n x.c)) (zzb (zzo (ret0 [.slice x.a n x.c] ⟨zzq, trivial⟩ fun u23 e24 => ?_)))
 have e := Nt.trim_len_of (l := l) hn hz (fun h => absurd h xq)
 show Value.slice _ _ _ = Value.slice _ _ _
 rw [e]
def NewR (u : World) (n : Nat) (t : List Rat) (K : Nat) (v : Value) (u' : World) : Prop := ∃ (b : Nat) (L : List RL), v = .slice (some ⟨b, 0, none⟩) n n ∧ u.heap.size ≤ b ∧ u'.heap[b]? = some (.cells (rcs L).toArray 32 (0, 0)) ∧ L.length = n ∧ RatsN u' L t K
theorem k_poScale {u w : World} {x : Sl} {l : List Rat} {r : RL} {q : Rat} {K M : Nat} (d : Dat u w) (hx : PolV u x l K) (hr : RatV u r q M) (hK : K ≤ 50000000) (hx9 : l.length ≤ 1000000000) (hM : M ≤ 50000000) : Calls Tryz.prog 116 #[x.v, r.v] w (Post u w fun v u' => ∃ y : Sl, v = y.v ∧ PolN u' y (Nt.trimQ (l.map (· * q))) (K + M)) := by
 have hlen := hx.len
 refine zzm (args := [x.v, r.v]) Tryz.func116 rfl Tryz.ntmps116 (rs := [.tmp 4]) Tryz.results116 (le_b rfl) (le_b rfl) d ?_
 refine sq9 (zzk 3 ⟨32, r.cs⟩ (zza 4 (.v (.slice none 0 0)) (zzb (sq9 (zza 7 (.v (x.v)) (zza 8 (zI x.n) (sy_make 9 (T := 27) (E := 32) (z := .agg #[.bool false, .slice none 0 0, .slice none 0 0]) (size := 3) (bytes := 56) x.n (rcs (List.replicate x.n rl0)) xj xj rfl rfl xq yv (made_rcs _) ?_)))))))
 refine zza 5 (.slc 9 0 x.n x.n) (zzc 27 [(0, .v (x.v)), (3, .adr 3 0), (5, .slc 9 0 x.n x.n)] [(3, ⟨32, r.cs⟩), (9, ⟨32, rcs (List.replicate x.n rl0)⟩)] (zzd (sq9 (zza 10 (.slc 9 0 x.n x.n) (zza 11 (zI x.n) (zza 12 (zI 0) (zzc 27 [(0, .v (x.v)), (3, .adr 3 0), (5, .slc 9 0 x.n x.n), (11, zI x.n), (12, zI 0)] [(3, ⟨32, r.cs⟩), (9, ⟨32, rcs (List.replicate x.n rl0)⟩)] (zzt (zyn (I := fun an S' u' => ∃ (i : Nat) (L : List RL), (an = x.n - i) ∧ (i ≤ x.n) ∧ (L.length = x.n) ∧ (S' = St.of 27 [(0, .v (x.v)), (3, .adr 3 0), (5, .slc 9 0 x.n x.n), (11, zI x.n), (12, zI i)] [(3, ⟨32, r.cs⟩), (9, ⟨32, rcs L⟩)]) ∧ (Ext u u') ∧ (RatsN u' (L.take i) ((l.map (· * q)).take i) (K + M))) (fun m S u1 u2 e h => by obtain ⟨i, L, hm, p0, p1, hS, hE, f0⟩ := h; exact ⟨i, L, hm, p0, p1, hS, hE.trans e, f0.ext e⟩) _ yw ⟨0, List.replicate x.n rl0, rfl, by omega, by simp, rfl, (Ext.refl _), RatsN.tnil _ _ _ _⟩ ?_)))))))))
 rintro an _ u11 ⟨i, L, av, hi, hL, rfl, ae, hR⟩
 refine sq9 (zza 13 (zB (decide ((i : Int) < (x.n : Int)))) (zzb (zzd (zzu (b := decide ((i : Int) < (x.n : Int))) xj (fun aa => ?_) (fun aa => ?_)))))
 ·have qhb12 := of_decide_eq_true aa
  refine zzs (zzp ?_)
  refine zzd (zzt (sq9 (zza 14 (zI i) (zza 6 (zI i) (zzb (zzz [0, 0, 0, 0, 12, 28, 0, 124, 255, 511] [(0, []), (1, []), (2, []), (3, []), (4, []), (5, []), (6, []), (7, []), (8, []), (9, [])] xj xj (zza 15 (.slc 9 0 x.n x.n) (zza 16 (zI i) (zza 17 (.v (x.v)) (zza 18 (zI i) ?_))))))))))
  have hl13 := (hx.ext ae).len
  obtain ⟨aw, b13, ao, aj, ah, ag⟩ := pol_at (hx.ext ae) (i := i) xq
  refine zya 19 (ao + i * 3) (n := x.n) (off := ao) (sz := 3) (i := (i : Int)) xq aj xq xq sl27 (zym 20 aw.cs ah ty32 (zzi 21 (.v (r.v)) ty32 zze (zzg 22 113 _ fun _ _ ad aq => Post.mono (k_ratMul aq (ag.ext ad) (hr.ext (ae.trans ad)) xq xq) ?_)))
  rintro _ u17 am ⟨ai, rfl, ar⟩
  refine zyw 23 (off' := i * 3) (n := x.n) (off := 0) (sz := 3) (i := (i : Int)) sl27 xq xq xq ?_
  refine zyv (V := ⟨32, rcs L⟩) (off := i * 3) (rcs ((L).set i ai)) ty32 zv (zyx (r := ai) (i := i) yy rfl) ?_
  refine zzx ?_
  refine zzp (zzf (zyq 24 (x := zI (IntKind.i64.wrap ((i : Int) + 1))) (zI (i + 1 : Nat)) (eqI yq) (zza 12 (zI (i + 1 : Nat)) (zzx ?_))))
  have ak : i < (l.map (· * q)).length := by simp; omega
  refine ⟨_, ?_, _, by exact zzv _ _ _, i + 1, (L).set i ai, rfl, by omega, by simpa using hL, rfl, (ae.t (ad.t am.ext)), RatsN.tstep (hR.ext (ad.t am.ext)) xq ak (RatN.more (K := (K + M)) ar xq) (by simp [List.getElem?_eq_getElem (show i < l.length by omega)])⟩
  omega
 have qhb12 := of_decide_eq_false aa
 refine zyc (zzp (zzd (zyp (r := 5) (t := 9) [5, 9] xw xj zk zk xj (fun ac az ap aA af => ?_))))
 have ab : PolN az ⟨some ⟨ac, 0, none⟩, x.n, x.n⟩ (l.map (· * q)) (K + M) := pol_data1 af yv (RatsN.tdone (hR.ext ap) xq zx) xq
 refine zzf (zza 25 (.v (.slice (some ⟨ac, 0, none⟩) x.n x.n)) (zzg 26 151 _ fun _ _ al au => Post.mono (k_cut au (ab.ext al).raw xq xk) ?_))
 rintro _ u28 ay rfl
 refine zza 4 (.v (.slice (some ⟨ac, 0, none⟩) (Nt.trimQ (l.map (· * q))).length x.n)) (zzb (zzo (ret0 [.slice (some ⟨ac, 0, none⟩) (Nt.trimQ (l.map (· * q))).length x.n] ⟨zzq, trivial⟩ fun u31 ax => ?_)))
 refine ⟨(⟨some ⟨ac, 0, none⟩, (Nt.trimQ (l.map (· * q))).length, x.n⟩ : Sl), rfl, ?_⟩
 exact ((cut_N (ab.ext (al.t ay.ext))).ext ax)
theorem k_poTrim {u w : World} {x : Sl} {l : List Rat} {K : Nat} (d : Dat u w) (hx : PolV u x l K) (hK : K ≤ 50000000) (hx9 : l.length ≤ 1000000000) : Calls Tryz.prog 117 #[x.v] w (Post u w fun v u' => ∃ y : Sl, v = y.v ∧ PolN u' y (Nt.trimQ l) K) := by
 have hlen := hx.len
 have htl := Nt.zzh l
 refine zzm (args := [x.v]) Tryz.func117 rfl Tryz.ntmps117 (rs := [.tmp 2]) Tryz.results117 (le_b rfl) (le_b rfl) d ?_
 refine sq9 (zza 2 (.v (.slice none 0 0)) (zzb (sq9 (zza 5 (.v (x.v)) (zzg 6 151 _ fun _ _ ak aq => Post.mono (k_cut aq (hx.ext ak) xq xk) ?_)))))
 rintro _ aB an rfl
 refine zza 7 (zI (((Nt.trimQ l).length : Nat) : Int)) (sy_make 8 (T := 27) (E := 32) (z := .agg #[.bool false, .slice none 0 0, .slice none 0 0]) (size := 3) (bytes := 56) ((Nt.trimQ l).length) (rcs (List.replicate ((Nt.trimQ l).length) rl0)) xj xj rfl rfl xq yv (made_rcs _) ?_)
 refine zza 3 (.slc 8 0 ((Nt.trimQ l).length) ((Nt.trimQ l).length)) (zzc 24 [(0, .v (x.v)), (3, .slc 8 0 ((Nt.trimQ l).length) ((Nt.trimQ l).length))] [(8, ⟨32, rcs (List.replicate ((Nt.trimQ l).length) rl0)⟩)] (zzd (sq9 (zza 9 (.slc 8 0 ((Nt.trimQ l).length) ((Nt.trimQ l).length)) (zza 10 (zI (((Nt.trimQ l).length : Nat) : Int)) (zza 11 (zI 0) (zzc 24 [(0, .v (x.v)), (3, .slc 8 0 ((Nt.trimQ l).length) ((Nt.trimQ l).length)), (10, zI (((Nt.trimQ l).length : Nat) : Int)), (11, zI 0)] [(8, ⟨32, rcs (List.replicate ((Nt.trimQ l).length) rl0)⟩)] (zzt (zyn (I := fun ap S' u' => ∃ (i : Nat) (L : List RL), (ap = ((Nt.trimQ l).length) - i) ∧ (i ≤ (Nt.trimQ l).length) ∧ (L.length = (Nt.trimQ l).length) ∧ (S' = St.of 24 [(0, .v (x.v)), (3, .slc 8 0 ((Nt.trimQ l).length) ((Nt.trimQ l).length)), (10, zI (((Nt.trimQ l).length : Nat) : Int)), (11, zI i)] [(8, ⟨32, rcs L⟩)]) ∧ (Ext aB u') ∧ (RatsN u' (L.take i) ((Nt.trimQ l).take i) K)) (fun m S u1 u2 e h => by obtain ⟨i, L, hm, p0, p1, hS, hE, f0⟩ := h; exact ⟨i, L, hm, p0, p1, hS, hE.trans e, f0.ext e⟩) _ yw ⟨0, List.replicate ((Nt.trimQ l).length) rl0, rfl, by omega, by simp, rfl, (Ext.refl _), RatsN.tnil _ _ _ _⟩ ?_)))))))))
 rintro ap _ u15 ⟨i, L, aA, hi, hL, rfl, ah, hR⟩
 refine sq9 (zza 12 (zB (decide ((i : Int) < (((Nt.trimQ l).length : Nat) : Int)))) (zzb (zzd (zzu (b := decide ((i : Int) < (((Nt.trimQ l).length : Nat) : Int))) xj (fun aa => ?_) (fun aa => ?_)))))
 ·have qhb16 := of_decide_eq_true aa
  refine zzs (zzp ?_)
  refine zzd (zzt (sq9 (zza 13 (zI i) (zza 4 (zI i) (zzb (zzf (zza 14 (.slc 8 0 ((Nt.trimQ l).length) ((Nt.trimQ l).length)) (zza 15 (zI i) (zza 16 (.v (x.v)) (zza 17 (zI i) ?_))))))))))
  have hl17 := (hx.ext (ak.t (an.t ah))).len
  obtain ⟨az, b17, am, ai, af, ac⟩ := pol_at (hx.ext (ak.t (an.t ah))) (i := i) xq
  refine zya 18 (am + i * 3) (n := x.n) (off := am) (sz := 3) (i := (i : Int)) xq ai xq xq sl27 (zym 19 az.cs af ty32 (zzg 20 68 _ fun _ _ aj aw => Post.mono (k_ratTrim aw (ac.ext aj) xq) ?_))
  rintro _ u21 ao ⟨ag, rfl, au⟩
  refine zyw 21 (off' := i * 3) (n := (Nt.trimQ l).length) (off := 0) (sz := 3) (i := (i : Int)) sl27 xq xq xq ?_
  refine zyv (V := ⟨32, rcs L⟩) (off := i * 3) (rcs ((L).set i ag)) ty32 zv (zyx (r := ag) (i := i) yy rfl) ?_
  refine zzx ?_
  refine zzp (zzf (zyq 22 (x := zI (IntKind.i64.wrap ((i : Int) + 1))) (zI (i + 1 : Nat)) (eqI yq) (zza 11 (zI (i + 1 : Nat)) (zzx ?_))))
  have ae : i < (Nt.trimQ l).length := by skip; omega
  refine ⟨_, ?_, _, by exact zzv _ _ _, i + 1, (L).set i ag, rfl, by omega, by simpa using hL, rfl, (ah.t (aj.t ao.ext)), RatsN.tstep (hR.ext (aj.t ao.ext)) xq ae (RatN.more (K := K) au xq) (Nt.trim_co l i).symm⟩
  omega
 have qhb16 := of_decide_eq_false aa
 refine zyc (zzp (zzd (zyp (r := 3) (t := 8) [3, 8] xw xj zk zk xj (fun ab ay ar av ad => ?_))))
 have al : PolN ay ⟨some ⟨ab, 0, none⟩, (Nt.trimQ l).length, (Nt.trimQ l).length⟩ (Nt.trimQ l) K := pol_data1 ad yv (RatsN.tdone (hR.ext ar) xq (by skip; omega)) xq
 refine zzf (zza 23 (.v (.slice (some ⟨ab, 0, none⟩) ((Nt.trimQ l).length) ((Nt.trimQ l).length))) (zza 2 (.v (.slice (some ⟨ab, 0, none⟩) ((Nt.trimQ l).length) ((Nt.trimQ l).length))) (zzb (zzo (ret0 [.slice (some ⟨ab, 0, none⟩) ((Nt.trimQ l).length) ((Nt.trimQ l).length)] ⟨zzq, trivial⟩ fun u31 ax => ?_)))))
 refine ⟨(⟨some ⟨ab, 0, none⟩, (Nt.trimQ l).length, (Nt.trimQ l).length⟩ : Sl), rfl, ?_⟩
 exact (al.ext ax)
theorem k_poAdd {u w : World} {x : Sl} {l : List Rat} {y : Sl} {m : List Rat} {K M : Nat} (d : Dat u w) (hx : PolV u x l K) (hy : PolV u y m M) (hK : K ≤ 40000000) (hM : M ≤ 40000000) (hx9 : l.length ≤ 1000000000) (hy9 : m.length ≤ 1000000000) : Calls Tryz.prog 115 #[x.v, y.v] w (Post u w fun v u' => ∃ y : Sl, v = y.v ∧ PolN u' y (Nt.trimQ (Nt.addQ l m)) (K + M + 1)) := by
 have hlen := hx.len
 have hlen2 := hy.len
 refine zzm (args := [x.v, y.v]) Tryz.func115 rfl Tryz.ntmps115 (rs := [.tmp 4]) Tryz.results115 (le_b rfl) (le_b rfl) d ?_
 refine sq9 (zza 4 (.v (.slice none 0 0)) (zzb (zzd (sq9 (zza 7 (.v (x.v)) (zza 8 (zI x.n) (zza 9 (.v (y.v)) (zza 10 (zI y.n) (zza 11 (zB (decide ((x.n : Int) < (y.n : Int)))) (zzb (zzu (b := decide ((x.n : Int) < (y.n : Int))) xj (fun ae => ?_) (fun ae => ?_))))))))))))
 ·have qhb11 := of_decide_eq_true ae
  refine zzf (zza 12 (.v (y.v)) (zza 13 (.v (x.v)) (zza 0 (.v (y.v)) (zza 1 (.v (x.v)) (zzb (sq9 (zza 14 (.v (y.v)) (zza 15 (zI y.n) (sy_make 16 (T := 27) (E := 32) (z := .agg #[.bool false, .slice none 0 0, .slice none 0 0]) (size := 3) (bytes := 56) y.n (rcs (List.replicate y.n rl0)) xj xj rfl rfl xq yv (made_rcs _) ?_)))))))))
  refine zza 5 (.slc 16 0 y.n y.n) (zzc 49 [(0, .v (y.v)), (1, .v (x.v)), (5, .slc 16 0 y.n y.n)] [(16, ⟨32, rcs (List.replicate y.n rl0)⟩)] (zzd (sq9 (zza 17 (.slc 16 0 y.n y.n) (zza 18 (zI y.n) (zza 19 (zI 0) (zzc 49 [(0, .v (y.v)), (1, .v (x.v)), (5, .slc 16 0 y.n y.n), (18, zI y.n), (19, zI 0)] [(16, ⟨32, rcs (List.replicate y.n rl0)⟩)] (zzt (zyn (I := fun a3 S' u' => ∃ (i : Nat) (L : List RL), (a3 = y.n - i) ∧ (i ≤ y.n) ∧ (L.length = y.n) ∧ (S' = St.of 49 [(0, .v (y.v)), (1, .v (x.v)), (5, .slc 16 0 y.n y.n), (18, zI y.n), (19, zI i)] [(16, ⟨32, rcs L⟩)]) ∧ (Ext u u') ∧ (RatsN u' (L.take i) ((Nt.addQ l m).take i) (K + M + 1))) (fun m S u1 u2 e h => by obtain ⟨i, L, hm, p0, p1, hS, hE, f0⟩ := h; exact ⟨i, L, hm, p0, p1, hS, hE.trans e, f0.ext e⟩) _ yw ⟨0, List.replicate y.n rl0, rfl, by omega, by simp, rfl, (Ext.refl _), RatsN.tnil _ _ _ _⟩ ?_)))))))))
  rintro a3 _ u12 ⟨i, L, bm, hi, hL, rfl, aa, hR⟩
  refine sq9 (zza 20 (zB (decide ((i : Int) < (y.n : Int)))) (zzb (zzd (zzu (b := decide ((i : Int) < (y.n : Int))) xj (fun af => ?_) (fun af => ?_)))))
  ·have qhb13 := of_decide_eq_true af
   refine zzs (zzp ?_)
   refine zzd (zzt (sq9 (zza 21 (zI i) (zza 6 (zI i) (zzb (sq9 (zza 22 (zI i) (zza 23 (.v (x.v)) (zza 24 (zI x.n) (zza 25 (zB (decide ((i : Int) < (x.n : Int)))) (zzb ?_)))))))))))
   refine zzu (b := decide ((i : Int) < (x.n : Int))) xj (fun ad => ?_) (fun ad => ?_)
   ·have qhb14 := of_decide_eq_true ad
    refine zzz [0, 0, 0, 0, 12, 28, 0, 0, 192, 448, 1020, 2047, 4095] [(0, []), (1, []), (2, []), (3, []), (4, []), (5, []), (6, []), (7, []), (8, []), (9, []), (10, []), (11, []), (12, [])] xj xj (zza 26 (.slc 16 0 y.n y.n) (zza 27 (zI i) (zza 28 (.v (y.v)) (zza 29 (zI i) ?_))))
    have hl15 := (hy.ext aa).len
    obtain ⟨bx, b15, a1, ax, ar, aA⟩ := pol_at (hy.ext aa) (i := i) xq
    refine zya 30 (a1 + i * 3) (n := y.n) (off := a1) (sz := 3) (i := (i : Int)) xq ax xq xq sl27 (zym 31 bx.cs ar ty32 (zza 32 (.v (x.v)) (zza 33 (zI i) ?_)))
    have hl16 := (hx.ext aa).len
    obtain ⟨bp, b16, aZ, aQ, az, aJ⟩ := pol_at (hx.ext aa) (i := i) xq
    refine zya 34 (aZ + i * 3) (n := x.n) (off := aZ) (sz := 3) (i := (i : Int)) xq aQ xq xq sl27 (zym 35 bp.cs az ty32 (zzg 36 112 _ fun _ _ am bd => Post.mono (k_ratAdd bd (aA.ext am) (aJ.ext am) xq xq) ?_))
    rintro _ u20 aY ⟨av, rfl, be⟩
    refine zyw 37 (off' := i * 3) (n := y.n) (off := 0) (sz := 3) (i := (i : Int)) sl27 xq xq xq ?_
    refine zyv (V := ⟨32, rcs L⟩) (off := i * 3) (rcs ((L).set i av)) ty32 zv (zyx (r := av) (i := i) yy rfl) ?_
    refine zzx ?_
    refine zzp (zzf (zyq 46 (x := zI (IntKind.i64.wrap ((i : Int) + 1))) (zI (i + 1 : Nat)) (eqI yq) (zza 19 (zI (i + 1 : Nat)) (zzx ?_))))
    have aD : i < (Nt.addQ l m).length := by rw [Nt.addQ_len]; omega
    refine ⟨_, ?_, _, by exact zzv _ _ _, i + 1, (L).set i av, rfl, by omega, by simpa using hL, rfl, (aa.t (am.t aY.ext)), RatsN.tstep (hR.ext (am.t aY.ext)) xq aD (RatN.more (K := (M + K + 1)) be xq) (by have h9 := Nt.addQ_co l m i; unfold Nt.co at h9; show _ = List.getD _ _ _; rw [h9]; exact Rat.add_comm _ _)⟩
    omega
   have qhb14 := of_decide_eq_false ad
   refine zzf (zza 38 (.slc 16 0 y.n y.n) (zza 39 (zI i) (zza 40 (.v (y.v)) (zza 41 (zI i) ?_))))
   have hl24 := (hy.ext aa).len
   obtain ⟨bo, b24, aV, aH, aE, aT⟩ := pol_at (hy.ext aa) (i := i) xq
   refine zya 42 (aV + i * 3) (n := y.n) (off := aV) (sz := 3) (i := (i : Int)) xq aH xq xq sl27 (zym 43 bo.cs aE ty32 (zzg 44 68 _ fun _ _ aR bj => Post.mono (k_ratTrim bj (aT.ext aR) xq) ?_))
   rintro _ u28 a6 ⟨au, rfl, br⟩
   refine zyw 45 (off' := i * 3) (n := y.n) (off := 0) (sz := 3) (i := (i : Int)) sl27 xq xq xq ?_
   refine zyv (V := ⟨32, rcs L⟩) (off := i * 3) (rcs ((L).set i au)) ty32 zv (zyx (r := au) (i := i) yy rfl) ?_
   refine zzx ?_
   refine zzp (zzf (zyq 46 (x := zI (IntKind.i64.wrap ((i : Int) + 1))) (zI (i + 1 : Nat)) (eqI yq) (zza 19 (zI (i + 1 : Nat)) (zzx ?_))))
   have aN : i < (Nt.addQ l m).length := by rw [Nt.addQ_len]; omega
   refine ⟨_, ?_, _, by exact zzv _ _ _, i + 1, (L).set i au, rfl, by omega, by simpa using hL, rfl, (aa.t (aR.t a6.ext)), RatsN.tstep (hR.ext (aR.t a6.ext)) xq aN (RatN.more (K := M) br xq) (by have h9 := Nt.addQ_co l m i; unfold Nt.co at h9; show _ = List.getD _ _ _; rw [h9]; rw [show l.getD i 0 = 0 from Nt.co_ge xq]; grind)⟩
   omega
  have qhb13 := of_decide_eq_false af
  refine zyc (zzp (zzd (zyp (r := 5) (t := 16) [5, 16] xw xj zk zk xj (fun ah bn ba bh aK => ?_))))
  have aj : PolN bn ⟨some ⟨ah, 0, none⟩, y.n, y.n⟩ (Nt.addQ l m) (K + M + 1) := pol_data1 aK yv (RatsN.tdone (hR.ext ba) xq (by rw [Nt.addQ_len]; omega)) xq
  refine zzf (zza 47 (.v (.slice (some ⟨ah, 0, none⟩) y.n y.n)) (zzg 48 151 _ fun _ _ a4 bw => Post.mono (k_cut bw (aj.ext a4).raw xq xk) ?_))
  rintro _ u39 a8 rfl
  refine zza 4 (.v (.slice (some ⟨ah, 0, none⟩) (Nt.trimQ (Nt.addQ l m)).length y.n)) (zzb (zzo (ret0 [.slice (some ⟨ah, 0, none⟩) (Nt.trimQ (Nt.addQ l m)).length y.n] ⟨zzq, trivial⟩ fun u42 bz => ?_)))
  refine ⟨(⟨some ⟨ah, 0, none⟩, (Nt.trimQ (Nt.addQ l m)).length, y.n⟩ : Sl), rfl, ?_⟩
  exact ((cut_N (aj.ext (a4.t a8.ext))).ext bz)
 have qhb11 := of_decide_eq_false ae
 refine zzs (zzp ?_)
 refine sq9 (zza 14 (.v (x.v)) (zza 15 (zI x.n) (sy_make 16 (T := 27) (E := 32) (z := .agg #[.bool false, .slice none 0 0, .slice none 0 0]) (size := 3) (bytes := 56) x.n (rcs (List.replicate x.n rl0)) xj xj rfl rfl xq yv (made_rcs _) ?_)))
 refine zza 5 (.slc 16 0 x.n x.n) (zzc 49 [(0, .v (x.v)), (1, .v (y.v)), (5, .slc 16 0 x.n x.n)] [(16, ⟨32, rcs (List.replicate x.n rl0)⟩)] (zzd (sq9 (zza 17 (.slc 16 0 x.n x.n) (zza 18 (zI x.n) (zza 19 (zI 0) (zzc 49 [(0, .v (x.v)), (1, .v (y.v)), (5, .slc 16 0 x.n x.n), (18, zI x.n), (19, zI 0)] [(16, ⟨32, rcs (List.replicate x.n rl0)⟩)] (zzt (zyn (I := fun a2 S' u' => ∃ (i : Nat) (L : List RL), (a2 = x.n - i) ∧ (i ≤ x.n) ∧ (L.length = x.n) ∧ (S' = St.of 49 [(0, .v (x.v)), (1, .v (y.v)), (5, .slc 16 0 x.n x.n), (18, zI x.n), (19, zI i)] [(16, ⟨32, rcs L⟩)]) ∧ (Ext u u') ∧ (RatsN u' (L.take i) ((Nt.addQ l m).take i) (K + M + 1))) (fun m S u1 u2 e h => by obtain ⟨i, L, hm, p0, p1, hS, hE, f0⟩ := h; exact ⟨i, L, hm, p0, p1, hS, hE.trans e, f0.ext e⟩) _ yw ⟨0, List.replicate x.n rl0, rfl, by omega, by simp, rfl, (Ext.refl _), RatsN.tnil _ _ _ _⟩ ?_)))))))))
 rintro a2 _ u44 ⟨i, L, bl, hi, hL, rfl, ab, hR⟩
 refine sq9 (zza 20 (zB (decide ((i : Int) < (x.n : Int)))) (zzb (zzd (zzu (b := decide ((i : Int) < (x.n : Int))) xj (fun ac => ?_) (fun ac => ?_)))))
 ·have qhb45 := of_decide_eq_true ac
  refine zzs (zzp ?_)
  refine zzd (zzt (sq9 (zza 21 (zI i) (zza 6 (zI i) (zzb (sq9 (zza 22 (zI i) (zza 23 (.v (y.v)) (zza 24 (zI y.n) (zza 25 (zB (decide ((i : Int) < (y.n : Int)))) (zzb ?_)))))))))))
  refine zzu (b := decide ((i : Int) < (y.n : Int))) xj (fun ag => ?_) (fun ag => ?_)
  ·have qhb46 := of_decide_eq_true ag
   refine zzz [0, 0, 0, 0, 12, 28, 0, 0, 192, 448, 1020, 2047, 4095] [(0, []), (1, []), (2, []), (3, []), (4, []), (5, []), (6, []), (7, []), (8, []), (9, []), (10, []), (11, []), (12, [])] xj xj (zza 26 (.slc 16 0 x.n x.n) (zza 27 (zI i) (zza 28 (.v (x.v)) (zza 29 (zI i) ?_))))
   have hl47 := (hx.ext ab).len
   obtain ⟨bi, b47, a7, aB, aG, aL⟩ := pol_at (hx.ext ab) (i := i) xq
   refine zya 30 (a7 + i * 3) (n := x.n) (off := a7) (sz := 3) (i := (i : Int)) xq aB xq xq sl27 (zym 31 bi.cs aG ty32 (zza 32 (.v (y.v)) (zza 33 (zI i) ?_)))
   have hl48 := (hy.ext ab).len
   obtain ⟨bb, b48, aW, ay, aI, ao⟩ := pol_at (hy.ext ab) (i := i) xq
   refine zya 34 (aW + i * 3) (n := y.n) (off := aW) (sz := 3) (i := (i : Int)) xq ay xq xq sl27 (zym 35 bb.cs aI ty32 (zzg 36 112 _ fun _ _ al bg => Post.mono (k_ratAdd bg (aL.ext al) (ao.ext al) xq xq) ?_))
   rintro _ u52 aX ⟨an, rfl, bu⟩
   refine zyw 37 (off' := i * 3) (n := x.n) (off := 0) (sz := 3) (i := (i : Int)) sl27 xq xq xq ?_
   refine zyv (V := ⟨32, rcs L⟩) (off := i * 3) (rcs ((L).set i an)) ty32 zv (zyx (r := an) (i := i) yy rfl) ?_
   refine zzx ?_
   refine zzp (zzf (zyq 46 (x := zI (IntKind.i64.wrap ((i : Int) + 1))) (zI (i + 1 : Nat)) (eqI yq) (zza 19 (zI (i + 1 : Nat)) (zzx ?_))))
   have ap : i < (Nt.addQ l m).length := by rw [Nt.addQ_len]; omega
   refine ⟨_, ?_, _, by exact zzv _ _ _, i + 1, (L).set i an, rfl, by omega, by simpa using hL, rfl, (ab.t (al.t aX.ext)), RatsN.tstep (hR.ext (al.t aX.ext)) xq ap (RatN.more (K := (K + M + 1)) bu xq) (by have h9 := Nt.addQ_co l m i; unfold Nt.co at h9; show _ = List.getD _ _ _; rw [h9])⟩
   omega
  have qhb46 := of_decide_eq_false ag
  refine zzf (zza 38 (.slc 16 0 x.n x.n) (zza 39 (zI i) (zza 40 (.v (x.v)) (zza 41 (zI i) ?_))))
  have hl56 := (hx.ext ab).len
  obtain ⟨a9, b56, a5, aF, aw, aM⟩ := pol_at (hx.ext ab) (i := i) xq
  refine zya 42 (a5 + i * 3) (n := x.n) (off := a5) (sz := 3) (i := (i : Int)) xq aF xq xq sl27 (zym 43 a9.cs aw ty32 (zzg 44 68 _ fun _ _ aq bf => Post.mono (k_ratTrim bf (aM.ext aq) xq) ?_))
  rintro _ u60 a0 ⟨aC, rfl, bv⟩
  refine zyw 45 (off' := i * 3) (n := x.n) (off := 0) (sz := 3) (i := (i : Int)) sl27 xq xq xq ?_
  refine zyv (V := ⟨32, rcs L⟩) (off := i * 3) (rcs ((L).set i aC)) ty32 zv (zyx (r := aC) (i := i) yy rfl) ?_
  refine zzx ?_
  refine zzp (zzf (zyq 46 (x := zI (IntKind.i64.wrap ((i : Int) + 1))) (zI (i + 1 : Nat)) (eqI yq) (zza 19 (zI (i + 1 : Nat)) (zzx ?_))))
  have aO : i < (Nt.addQ l m).length := by rw [Nt.addQ_len]; omega
  refine ⟨_, ?_, _, by exact zzv _ _ _, i + 1, (L).set i aC, rfl, by omega, by simpa using hL, rfl, (ab.t (aq.t a0.ext)), RatsN.tstep (hR.ext (aq.t a0.ext)) xq aO (RatN.more (K := K) bv xq) (by have h9 := Nt.addQ_co l m i; unfold Nt.co at h9; show _ = List.getD _ _ _; rw [h9]; rw [show m.getD i 0 = 0 from Nt.co_ge xq]; grind)⟩
  omega
 have qhb45 := of_decide_eq_false ac
 refine zyc (zzp (zzd (zyp (r := 5) (t := 16) [5, 16] xw xj zk zk xj (fun ak bq bs bc aP => ?_))))
 have ai : PolN bq ⟨some ⟨ak, 0, none⟩, x.n, x.n⟩ (Nt.addQ l m) (K + M + 1) := pol_data1 aP yv (RatsN.tdone (hR.ext bs) xq (by rw [Nt.addQ_len]; omega)) xq
 refine zzf (zza 47 (.v (.slice (some ⟨ak, 0, none⟩) x.n x.n)) (zzg 48 151 _ fun _ _ aU bt => Post.mono (k_cut bt (ai.ext aU).raw xq xk) ?_))
 rintro _ u71 bk rfl
 refine zza 4 (.v (.slice (some ⟨ak, 0, none⟩) (Nt.trimQ (Nt.addQ l m)).length x.n)) (zzb (zzo (ret0 [.slice (some ⟨ak, 0, none⟩) (Nt.trimQ (Nt.addQ l m)).length x.n] ⟨zzq, trivial⟩ fun u74 bA => ?_)))
 refine ⟨(⟨some ⟨ak, 0, none⟩, (Nt.trimQ (Nt.addQ l m)).length, x.n⟩ : Sl), rfl, ?_⟩
 exact ((cut_N (ai.ext (aU.t bk.ext))).ext bA)
set_option maxHeartbeats 2000000 in
theorem k_r5Trim {u w : World} {x : Sl} {l : List Rat} {K : Nat} (d : Dat u w) (hx : PolV u x l K) (hK : K ≤ 50000000) (hx9 : l.length ≤ 1000000000) : Calls Tryz.prog 83 #[x.v] w (Post u w fun v u' => ∃ y : Sl, v = y.v ∧ PolN u' y (Nt.trimQ l) K) := by
 have hlen := hx.len
 have htl := Nt.zzh l
 refine zzm (args := [x.v]) Tryz.func83 rfl Tryz.ntmps83 (rs := [.tmp 2]) Tryz.results83 (le_b rfl) (le_b rfl) d ?_
 refine sq9 (zza 2 (.v (.slice none 0 0)) (zzb (sq9 (zza 7 (.v (x.v)) (zza 8 (zI x.n) (zza 3 (zI x.n) (zzb (zzd (zzt (zyn (I := fun bI S' u' => ∃ (n : Nat), (bI = n) ∧ (n ≤ l.length) ∧ (∀ i, n ≤ i → Nt.co l i = 0) ∧ (S' = St.of 37 [(0, .v (x.v)), (3, zI n)] []) ∧ (Ext u u')) (fun m S u1 u2 e h => by obtain ⟨n, hm, p0, p1, hS, hE⟩ := h; exact ⟨n, hm, p0, p1, hS, hE.trans e⟩) _ yw ⟨x.n, rfl, by omega, fun i hi => Nt.co_ge xq, rfl, (Ext.refl _)⟩ ?_))))))))))
 rintro bI _ bT ⟨n, cm, hn, hz, rfl, aa⟩
 refine zzd (sq9 (zza 9 (zI n) (zza 10 (zB (decide ((0 : Int) < (n : Int)))) ?_)))
 rcases Bool.eq_false_or_eq_true (decide ((0 : Int) < (n : Int))) with hs12 | hs12
 ·refine zyq 11 (x := zB (decide ((0 : Int) < (n : Int)))) (zB true) (by rw [hs12]) ?_
  have qhs12 := of_decide_eq_true hs12
  refine zza 12 (.v (x.v)) ?_ (hw := w1 2 true 11)
  refine zza 13 (zI n) ?_ (hw := w1 2 true 11)
  refine zyq 14 (x := zI (IntKind.i64.wrap ((n : Int) - 1))) (zI (n - 1 : Nat)) (eqI yq) ?_ (hw := w1 2 true 11)
  have hl13 := (hx.ext aa).len
  obtain ⟨cn, b13, bN, bm, aR, aQ⟩ := pol_at (hx.ext aa) (i := n - 1) xq
  refine zya 15 (bN + (n - 1) * 3) (n := x.n) (off := bN) (sz := 3) (i := ((n - 1 : Nat) : Int)) xq bm xq xq sl27 ?_ (hw := w1 2 true 11)
  refine zym 16 cn.cs aR ty32 ?_ (hw := w1 2 true 11)
  refine zzg 17 32 _ (fun _ _ ab cA => Post.mono (k_rqSign cA (aQ.ext ab) xq) ?_) (hw := w1 2 true 11)
  rintro _ bU ac rfl
  refine zza 18 (zB ((Nt.sgQ (l.getD (n - 1) 0)) == 0)) ?_ (hw := w1 2 true 11)
  refine zza 19 (zB ((Nt.sgQ (l.getD (n - 1) 0)) == 0)) (zzb (zzu (b := (Nt.sgQ (l.getD (n - 1) 0)) == 0) xj (fun ag => ?_) (fun ag => ?_)))
  ·refine zzs (zzp ?_)
   refine zzt (zzf (zza 20 (zI n) (zyq 21 (x := zI (IntKind.i64.wrap ((n : Int) - 1))) (zI (n - 1 : Nat)) (eqI yq) (zza 3 (zI (n - 1 : Nat)) (zzx ?_)))))
   refine ⟨_, ?_, _, by exact zzv _ _ _, n - 1, rfl, by omega, (fun i hi => by by_cases e : i = n - 1; (rw [e]; have h9 := ag; rw [Nt.sgQ_eq] at h9; exact of_decide_eq_true h9); exact hz i xq), rfl, (aa.t (ab.t ac.ext))⟩
   omega
  refine zyc (zzp (zzd ?_))
  have he9 := Nt.trim_len_of (l := l) hn hz (fun _ h => by have h9 := ag; rw [Nt.sgQ_eq] at h9; exact of_decide_eq_false h9 h)
  clear hz
  refine zzf (zza 4 (.v (.slice none 0 0)) (zzb (zzd (sq9 (zza 22 (.v (x.v)) (zza 23 (zI n) ?_))))))
  have hl19 := (hx.ext (aa.t (ab.t ac.ext))).len
  have hc19 := (hx.ext (aa.t (ab.t ac.ext))).cap
  refine sy_front 24 (n := x.n) (c := x.c) n sl27 rfl xq ?_
  refine zza 25 (zI n) (zza 26 (zI 0) (zzb (zzt (zyn (I := fun bi S' u' => (bi = n ∧ S' = St.of 37 [(4, .v (.slice none 0 0)), (24, .v (.slice x.a n x.c)), (25, zI n), (26, zI 0)] [] ∧ Ext bU u') ∨ (∃ (i : Nat) (L : List RL) (cs : List Value) (cp : Nat), bi = n - i ∧ i ≤ n ∧ 0 < i ∧ L.length = i ∧ cs.length = cp * 3 ∧ i ≤ cp ∧ cp ≤ maxLen ∧ cs.take (i * 3) = rcs L ∧ S' = St.of 37 [(4, .slc 34 0 i cp), (24, .v (.slice x.a n x.c)), (25, zI n), (26, zI i)] [(34, ⟨32, cs⟩)] ∧ Ext bU u' ∧ RatsN u' L ((Nt.trimQ l).take i) K)) (fun m S u1 u2 e h => by rcases h with ⟨a, b, c⟩ | ⟨a1, a2, a3, a4, b1, b2, b3, b4, b5, b6, b7, b8, b9, b10, b11⟩; exact .inl ⟨a, b, c.trans e⟩; exact .inr ⟨a1, a2, a3, a4, b1, b2, b3, b4, b5, b6, b7, b8, b9, b10.trans e, b11.ext e⟩) _ yw (.inl ⟨rfl, rfl, Ext.refl _⟩) ?_))))
  rintro bi _ cF (⟨bh, rfl, ae⟩ | ⟨i, L, cs, cp, bh, hi, hp, hL, hc, hle, hmx, ht, rfl, ae, hR⟩)
  ·change SW _ _ _ _ (St.of 37 [(4, .v (.slice none 0 0)), (24, .v (.slice x.a n x.c)), (25, .v (.int .i64 (n : Int))), (26, .v (.int .i64 0))] []) _ _
   refine sq9 (zza 27 (zB (decide ((0 : Int) < (n : Int)))) (zzb (zzd (zzu (b := decide ((0 : Int) < (n : Int))) xj (fun ad => ?_) (fun ad => ?_)))))
   ·have qhb21 := of_decide_eq_true ad
    refine zzs (zzp ?_)
    refine zzd (zzt (sq9 ?_))
    have hl22 := ((pol_take (hx.ext (aa.t (ab.t ac.ext))) xq).ext ae).len
    change n = _ at hl22
    obtain ⟨aL, b22, bX, a7, a6, aD⟩ := pol_at ((pol_take (hx.ext (aa.t (ab.t ac.ext))) xq).ext ae) (i := 0) xq
    refine zya 28 (bX + 0 * 3) (n := n) (off := bX) (sz := 3) (i := 0) xq a7 xq xq sl27 (zym 29 aL.cs a6 ty32 (zzk 6 ⟨32, zw3⟩ (zzj ⟨32, aL.cs⟩ ty32 ?_)))
    refine zzb (zzf (zza 30 (.v (.slice none 0 0)) (zzi 31 (.v (aL.v)) ty32 zze (zzg 32 80 _ fun _ _ bR cz => Post.mono (k_rqTrim cz (aD.ext bR) xq) ?_))))
    rintro _ u26 cd ⟨ao, rfl, bB⟩
    refine zxx 33 ⟨32, ao.cs⟩ 1 (fun bP cl br bW => ?_)
    have cj : PolN cl (⟨some ⟨bP, 0, none⟩, 1, 1⟩ : Sl) [((l.take n).getD 0 0)] K := pol_lit (L := [ao]) bW (rats1 (bB.ext br)) rfl yz
    refine sy_app0 34 (T := 27) (E := 32) (z := .agg #[.bool false, .slice none 0 0, .slice none 0 0]) (size := 3) (bytes := 56) (b := bP) (off := 0) (m := 1) ao.cs xj xj xj yz rfl (lit_news ((Ext.refl _).cells bW)) (rl_one ao) yz yz yz ?_
    intro bv aZ cD a5 a9 aM
    refine zza 4 (.slc 34 0 1 bv) (zzx ?_)
    refine zzp (zzf (zza 35 (zI 1) (zza 26 (zI 1) (zzx ?_))))
    have aI : 0 < (Nt.trimQ l).length := by skip; omega
    refine ⟨_, ?_, _, by exact zzv _ _ _, .inr ⟨1, [ao], aZ, bv, rfl, by omega, by omega, by simp, a9, by omega, a5, aM, rfl, (ae.t (bR.t (cd.t br))), (app_first (RatN.more (K := K) (bB.ext br) xq) aI (by rw [List.getD_eq_getElem?_getD, List.getElem?_take_of_lt xq, ← List.getD_eq_getElem?_getD]; exact (Nt.trim_co l 0).symm))⟩⟩
    omega
   have qhb21 := of_decide_eq_false ad
   refine zyc (zzp (zzd ?_))
   have bt : PolN cF ⟨none, 0, 0⟩ (Nt.trimQ l) K := by have h9 : Nt.trimQ l = [] := List.eq_nil_of_length_eq_zero (by skip; omega); rw [h9]; exact pol_nil _ _
   refine zzf (zza 36 (.v (.slice none 0 0)) (zza 2 (.v (.slice none 0 0)) (zzb (zzo (ret0 [.slice none 0 0] ⟨zzq, trivial⟩ fun u37 cy => ?_)))))
   refine ⟨⟨none, 0, 0⟩, rfl, ?_⟩
   exact (bt.ext cy)
  change SW _ _ _ _ (St.of 37 [(4, .slc 34 0 i cp), (24, .v (.slice x.a n x.c)), (25, .v (.int .i64 (n : Int))), (26, .v (.int .i64 (i : Int)))] [(34, ⟨32, cs⟩)]) _ _
  refine sq9 (zza 27 (zB (decide ((i : Int) < (n : Int)))) (zzb (zzd (zzu (b := decide ((i : Int) < (n : Int))) xj (fun af => ?_) (fun af => ?_)))))
  ·have qhb39 := of_decide_eq_true af
   refine zzs (zzp ?_)
   refine zzd (zzt (sq9 ?_))
   have hl40 := ((pol_take (hx.ext (aa.t (ab.t ac.ext))) xq).ext ae).len
   change n = _ at hl40
   obtain ⟨aA, b40, bJ, bj, a0, aE⟩ := pol_at ((pol_take (hx.ext (aa.t (ab.t ac.ext))) xq).ext ae) (i := i) xq
   refine zya 28 (bJ + i * 3) (n := n) (off := bJ) (sz := 3) (i := (i : Int)) xq bj xq xq sl27 (zym 29 aA.cs a0 ty32 (zzk 6 ⟨32, zw3⟩ (zzj ⟨32, aA.cs⟩ ty32 ?_)))
   refine zzb (zzf (zza 30 (.slc 34 0 i cp) (zzi 31 (.v (aA.v)) ty32 zze (zzg 32 80 _ fun _ _ aT cx => Post.mono (k_rqTrim cx (aE.ext aT) xq) ?_))))
   rintro _ u44 bx ⟨ak, rfl, bw⟩
   refine zxx 33 ⟨32, ak.cs⟩ 1 (fun bG bY ax bD => ?_)
   have ct : PolN bY (⟨some ⟨bG, 0, none⟩, 1, 1⟩ : Sl) [((l.take n).getD i 0)] K := pol_lit (L := [ak]) bD (rats1 (bw.ext ax)) rfl yz
   refine sy_app1 34 (T := 27) (E := 32) (z := .agg #[.bool false, .slice none 0 0, .slice none 0 0]) (size := 3) (bytes := 56) (b := bG) (off := 0) (m := 1) (n := i) (cap := cp) (t := 34) (cs0 := cs) [4, 30, 34] ak.cs xj xj xj yz rfl (lit_news ((Ext.refl _).cells bD)) (rl_one ak) yz yv xq xq xq xq xw ?_
   intro bK aq ck bq aO aU
   have an : aq.take ((i + 1) * 3) = rcs (L ++ [ak]) := by rw [aU, ht, rcs_app]; rfl
   refine zza 4 (.slc 34 0 (i + 1) bK) (zzx ?_)
   refine zzp (zzf (zyq 35 (x := zI (IntKind.i64.wrap ((i : Int) + 1))) (zI (i + 1 : Nat)) (eqI yq) (zza 26 (zI (i + 1 : Nat)) (zzx ?_))))
   have aG : i < (Nt.trimQ l).length := by skip; omega
   refine ⟨_, ?_, _, by exact zzv _ _ _, .inr ⟨i + 1, L ++ [ak], aq, bK, rfl, by omega, by omega, by simp; omega, aO, by omega, bq, an, rfl, (ae.t (aT.t (bx.t ax))), (app_next (hR.ext (aT.t (bx.t ax))) (RatN.more (K := K) (bw.ext ax) xq) aG (by rw [List.getD_eq_getElem?_getD, List.getElem?_take_of_lt xq, ← List.getD_eq_getElem?_getD]; exact (Nt.trim_co l i).symm))⟩⟩
   omega
  have qhb39 := of_decide_eq_false af
  refine zyc (zzp (zzd (zyp (r := 4) (t := 34) [4, 34] xw xj zk zk xj (fun ar cb b0 ch ba => ?_))))
  have bn : PolN cb ⟨some ⟨ar, 0, none⟩, i, cp⟩ (Nt.trimQ l) K := by have h8 := pol_data ba ht hc hle hmx (hR.ext b0); rw [List.take_of_length_le (l := Nt.trimQ l) (by skip; omega)] at h8; exact h8
  refine zzf (zza 36 (.v (.slice (some ⟨ar, 0, none⟩) i cp)) (zza 2 (.v (.slice (some ⟨ar, 0, none⟩) i cp)) (zzb (zzo (ret0 [.slice (some ⟨ar, 0, none⟩) i cp] ⟨zzq, trivial⟩ fun u60 ca => ?_)))))
  refine ⟨(⟨some ⟨ar, 0, none⟩, i, cp⟩ : Sl), rfl, ?_⟩
  exact (bn.ext ca)
 refine zyq 11 (x := zB (decide ((0 : Int) < (n : Int)))) (zB false) (by rw [hs12]) ?_
 have qhs12 := of_decide_eq_false hs12
 refine zzn 12 (uw 2 true false 11) (zzn 13 (uw 2 true false 11) (zzn 14 (uw 2 true false 11) (zzn 15 (uw 2 true false 11) (zzn 16 (uw 2 true false 11) (zzn 17 (uw 2 true false 11) (zzn 18 (uw 2 true false 11) (zza 19 (zB false) (zzb (zys xj (zyc (zzp ?_)))))))))))
 refine zzd ?_
 have he9 := Nt.trim_len_of (l := l) hn hz (fun h => absurd h xq)
 clear hz
 refine zzf (zza 4 (.v (.slice none 0 0)) (zzb (zzd (sq9 (zza 22 (.v (x.v)) (zza 23 (zI n) ?_))))))
 have hl62 := (hx.ext aa).len
 have hc62 := (hx.ext aa).cap
 refine sy_front 24 (n := x.n) (c := x.c) n sl27 rfl xq ?_
 refine zza 25 (zI n) (zza 26 (zI 0) (zzb (zzt (zyn (I := fun aH S' u' => (aH = n ∧ S' = St.of 37 [(4, .v (.slice none 0 0)), (24, .v (.slice x.a n x.c)), (25, zI n), (26, zI 0)] [] ∧ Ext bT u') ∨ (∃ (i : Nat) (L : List RL) (cs : List Value) (cp : Nat), aH = n - i ∧ i ≤ n ∧ 0 < i ∧ L.length = i ∧ cs.length = cp * 3 ∧ i ≤ cp ∧ cp ≤ maxLen ∧ cs.take (i * 3) = rcs L ∧ S' = St.of 37 [(4, .slc 34 0 i cp), (24, .v (.slice x.a n x.c)), (25, zI n), (26, zI i)] [(34, ⟨32, cs⟩)] ∧ Ext bT u' ∧ RatsN u' L ((Nt.trimQ l).take i) K)) (fun m S u1 u2 e h => by rcases h with ⟨a, b, c⟩ | ⟨a1, a2, a3, a4, b1, b2, b3, b4, b5, b6, b7, b8, b9, b10, b11⟩; exact .inl ⟨a, b, c.trans e⟩; exact .inr ⟨a1, a2, a3, a4, b1, b2, b3, b4, b5, b6, b7, b8, b9, b10.trans e, b11.ext e⟩) _ yw (.inl ⟨rfl, rfl, Ext.refl _⟩) ?_))))
 rintro aH _ cG (⟨aK, rfl, ah⟩ | ⟨i, L, cs, cp, aK, hi, hp, hL, hc, hle, hmx, ht, rfl, ah, hR⟩)
 ·change SW _ _ _ _ (St.of 37 [(4, .v (.slice none 0 0)), (24, .v (.slice x.a n x.c)), (25, .v (.int .i64 (n : Int))), (26, .v (.int .i64 0))] []) _ _
  refine sq9 (zza 27 (zB (decide ((0 : Int) < (n : Int)))) (zzb (zzd (zzu (b := decide ((0 : Int) < (n : Int))) xj (fun ai => ?_) (fun ai => ?_)))))
  ·have qhb64 := of_decide_eq_true ai
   refine zzs (zzp ?_)
   refine zzd (zzt (sq9 ?_))
   have hl65 := ((pol_take (hx.ext aa) xq).ext ah).len
   change n = _ at hl65
   obtain ⟨bo, b65, bL, aJ, aX, aY⟩ := pol_at ((pol_take (hx.ext aa) xq).ext ah) (i := 0) xq
   refine zya 28 (bL + 0 * 3) (n := n) (off := bL) (sz := 3) (i := 0) xq aJ xq xq sl27 (zym 29 bo.cs aX ty32 (zzk 6 ⟨32, zw3⟩ (zzj ⟨32, bo.cs⟩ ty32 ?_)))
   refine zzb (zzf (zza 30 (.v (.slice none 0 0)) (zzi 31 (.v (bo.v)) ty32 zze (zzg 32 80 _ fun _ _ bM cf => Post.mono (k_rqTrim cf (aY.ext bM) xq) ?_))))
   rintro _ u69 ce ⟨aw, rfl, bu⟩
   refine zxx 33 ⟨32, aw.cs⟩ 1 (fun bC cw bs bS => ?_)
   have cB : PolN cw (⟨some ⟨bC, 0, none⟩, 1, 1⟩ : Sl) [((l.take n).getD 0 0)] K := pol_lit (L := [aw]) bS (rats1 (bu.ext bs)) rfl yz
   refine sy_app0 34 (T := 27) (E := 32) (z := .agg #[.bool false, .slice none 0 0, .slice none 0 0]) (size := 3) (bytes := 56) (b := bC) (off := 0) (m := 1) aw.cs xj xj xj yz rfl (lit_news ((Ext.refl _).cells bS)) (rl_one aw) yz yz yz ?_
   intro bH be cq bg aB bl
   refine zza 4 (.slc 34 0 1 bH) (zzx ?_)
   refine zzp (zzf (zza 35 (zI 1) (zza 26 (zI 1) (zzx ?_))))
   have bp : 0 < (Nt.trimQ l).length := by skip; omega
   refine ⟨_, ?_, _, by exact zzv _ _ _, .inr ⟨1, [aw], be, bH, rfl, by omega, by omega, by simp, aB, by omega, bg, bl, rfl, (ah.t (bM.t (ce.t bs))), (app_first (RatN.more (K := K) (bu.ext bs) xq) bp (by rw [List.getD_eq_getElem?_getD, List.getElem?_take_of_lt xq, ← List.getD_eq_getElem?_getD]; exact (Nt.trim_co l 0).symm))⟩⟩
   omega
  have qhb64 := of_decide_eq_false ai
  refine zyc (zzp (zzd ?_))
  have aP : PolN cG ⟨none, 0, 0⟩ (Nt.trimQ l) K := by have h9 : Nt.trimQ l = [] := List.eq_nil_of_length_eq_zero (by skip; omega); rw [h9]; exact pol_nil _ _
  refine zzf (zza 36 (.v (.slice none 0 0)) (zza 2 (.v (.slice none 0 0)) (zzb (zzo (ret0 [.slice none 0 0] ⟨zzq, trivial⟩ fun u80 cE => ?_)))))
  refine ⟨⟨none, 0, 0⟩, rfl, ?_⟩
  exact (aP.ext cE)
 change SW _ _ _ _ (St.of 37 [(4, .slc 34 0 i cp), (24, .v (.slice x.a n x.c)), (25, .v (.int .i64 (n : Int))), (26, .v (.int .i64 (i : Int)))] [(34, ⟨32, cs⟩)]) _ _
 refine sq9 (zza 27 (zB (decide ((i : Int) < (n : Int)))) (zzb (zzd (zzu (b := decide ((i : Int) < (n : Int))) xj (fun aj => ?_) (fun aj => ?_)))))
 ·have qhb82 := of_decide_eq_true aj
  refine zzs (zzp ?_)
  refine zzd (zzt (sq9 ?_))
  have hl83 := ((pol_take (hx.ext aa) xq).ext ah).len
  change n = _ at hl83
  obtain ⟨az, b83, bA, bk, a8, bd⟩ := pol_at ((pol_take (hx.ext aa) xq).ext ah) (i := i) xq
  refine zya 28 (bA + i * 3) (n := n) (off := bA) (sz := 3) (i := (i : Int)) xq bk xq xq sl27 (zym 29 az.cs a8 ty32 (zzk 6 ⟨32, zw3⟩ (zzj ⟨32, az.cs⟩ ty32 ?_)))
  refine zzb (zzf (zza 30 (.slc 34 0 i cp) (zzi 31 (.v (az.v)) ty32 zze (zzg 32 80 _ fun _ _ aC cH => Post.mono (k_rqTrim cH (bd.ext aC) xq) ?_))))
  rintro _ u87 bQ ⟨al, rfl, bE⟩
  refine zxx 33 ⟨32, al.cs⟩ 1 (fun bz bZ ay bV => ?_)
  have cc : PolN bZ (⟨some ⟨bz, 0, none⟩, 1, 1⟩ : Sl) [((l.take n).getD i 0)] K := pol_lit (L := [al]) bV (rats1 (bE.ext ay)) rfl yz
  refine sy_app1 34 (T := 27) (E := 32) (z := .agg #[.bool false, .slice none 0 0, .slice none 0 0]) (size := 3) (bytes := 56) (b := bz) (off := 0) (m := 1) (n := i) (cap := cp) (t := 34) (cs0 := cs) [4, 30, 34] al.cs xj xj xj yz rfl (lit_news ((Ext.refl _).cells bV)) (rl_one al) yz yv xq xq xq xq xw ?_
  intro bO au cg bb aN bc
  have av : au.take ((i + 1) * 3) = rcs (L ++ [al]) := by rw [bc, ht, rcs_app]; rfl
  refine zza 4 (.slc 34 0 (i + 1) bO) (zzx ?_)
  refine zzp (zzf (zyq 35 (x := zI (IntKind.i64.wrap ((i : Int) + 1))) (zI (i + 1 : Nat)) (eqI yq) (zza 26 (zI (i + 1 : Nat)) (zzx ?_))))
  have aF : i < (Nt.trimQ l).length := by skip; omega
  refine ⟨_, ?_, _, by exact zzv _ _ _, .inr ⟨i + 1, L ++ [al], au, bO, rfl, by omega, by omega, by simp; omega, aN, by omega, bb, av, rfl, (ah.t (aC.t (bQ.t ay))), (app_next (hR.ext (aC.t (bQ.t ay))) (RatN.more (K := K) (bE.ext ay) xq) aF (by rw [List.getD_eq_getElem?_getD, List.getElem?_take_of_lt xq, ← List.getD_eq_getElem?_getD]; exact (Nt.trim_co l i).symm))⟩⟩
  omega
 have qhb82 := of_decide_eq_false aj
 refine zyc (zzp (zzd (zyp (r := 4) (t := 34) [4, 34] xw xj zk zk xj (fun ap cC bf bF am => ?_))))
 have aW : PolN cC ⟨some ⟨ap, 0, none⟩, i, cp⟩ (Nt.trimQ l) K := by have h8 := pol_data am ht hc hle hmx (hR.ext bf); rw [List.take_of_length_le (l := Nt.trimQ l) (by skip; omega)] at h8; exact h8
 refine zzf (zza 36 (.v (.slice (some ⟨ap, 0, none⟩) i cp)) (zza 2 (.v (.slice (some ⟨ap, 0, none⟩) i cp)) (zzb (zzo (ret0 [.slice (some ⟨ap, 0, none⟩) i cp] ⟨zzq, trivial⟩ fun ci aV => ?_)))))
 refine ⟨(⟨some ⟨ap, 0, none⟩, i, cp⟩ : Sl), rfl, ?_⟩
 exact (aW.ext aV)
theorem k_poDegree {u w : World} {x : Sl} {l : List Rat} {K : Nat} (d : Dat u w) (hx : PolV u x l K) (hK : K ≤ 100000000) (hx9 : l.length ≤ 1000000000) : Calls Tryz.prog 76 #[x.v] w (Post u w fun v u' => v = .int .i64 (((Nt.trimQ l).length : Int) - 1)) := by
 have hlen := hx.len
 have htl := Nt.zzh l
 refine zzm (args := [x.v]) Tryz.func76 rfl Tryz.ntmps76 (rs := [.tmp 2]) Tryz.results76 (le_b rfl) (le_b rfl) d ?_
 refine sq9 (zza 2 (zI 0) (zzb (sq9 (zza 3 (.v (x.v)) (zzg 4 151 _ fun _ _ ab aa => Post.mono (k_cut aa (hx.ext ab) xq xk) ?_)))))
 rintro _ u12 g13 rfl
 refine zza 5 (zI (((Nt.trimQ l).length : Nat) : Int)) (zyq 6 (x := zI (IntKind.i64.wrap (((Nt.trimQ l).length : Int) - 1))) (zI (((Nt.trimQ l).length : Int) - 1)) zq (zza 2 (zI (((Nt.trimQ l).length : Int) - 1)) (zzb (zzo (ret0 [.int .i64 (((Nt.trimQ l).length : Int) - 1)] ⟨zzq, trivial⟩ fun u15 e16 => ?_)))))
 rfl
set_option maxHeartbeats 1000000 in
theorem k_sameList {u w : World} {x : Sl} {l : List Rat} {y : Sl} {m : List Rat} {K M : Nat} (d : Dat u w) (hx : PolN u x l K) (hy : PolN u y m M) (hx9 : l.length ≤ 1000000000) (hy9 : m.length ≤ 1000000000) : Calls Tryz.prog 73 #[x.v, y.v] w (Post u w fun v u' => v = .bool (decide (l = m))) := by
 have hlen := hx.len
 have hlen2 := hy.len
 refine zzm (args := [x.v, y.v]) Tryz.func73 rfl Tryz.ntmps73 (rs := [.tmp 4]) Tryz.results73 (le_b rfl) (le_b rfl) d ?_
 refine sq9 (zza 4 (zB false) (zzb (zzd (sq9 (zza 6 (.v (x.v)) (zza 7 (zI x.n) (zza 8 (.v (y.v)) (zza 9 (zI y.n) (zza 10 (zB ((x.n : Int) != (y.n : Int))) (zzb (zzu (b := (x.n : Int) != (y.n : Int)) xj (fun ac => ?_) (fun ac => ?_))))))))))))
 ·refine sq9 (zza 4 (zB false) (zzb (zzo (zzw (ret0 [.bool false] ⟨zzq, trivial⟩ fun u12 e13 => ?_)))))
  have e9 : l ≠ m := by intro e; have h9 := congrArg List.length e; have h8 := ac; simp at h8; omega
  show Value.bool false = Value.bool _
  rw [decide_eq_false e9]
 have hnn : x.n = y.n := by have h9 : (x.n : Int) = (y.n : Int) := (by simpa using ac); omega
 refine zzs (zzp ?_)
 refine zzd (sq9 (zza 5 (zI 0) (zzb (zzt (zyn (I := fun an S' u' => ∃ (i : Nat), (an = x.n - i) ∧ (i ≤ x.n) ∧ (∀ j, j < i → l.getD j 0 = m.getD j 0) ∧ (S' = St.of 27 [(0, .v (x.v)), (1, .v (y.v)), (5, zI i)] []) ∧ (Ext u u')) (fun m S u1 u2 e h => by obtain ⟨i, hm, p0, p1, hS, hE⟩ := h; exact ⟨i, hm, p0, p1, hS, hE.trans e⟩) _ yw ⟨0, rfl, by omega, fun j hj => by omega, rfl, (Ext.refl _)⟩ ?_)))))
 rintro an _ u14 ⟨i, ar, hi, hz, rfl, ad⟩
 refine zzd (sq9 (zza 11 (zI i) (zza 12 (.v (x.v)) (zza 13 (zI x.n) (zza 14 (zB (decide ((i : Int) < (x.n : Int)))) (zzb (zzu (b := decide ((i : Int) < (x.n : Int))) xj (fun ab => ?_) (fun ab => ?_))))))))
 ·have qhb15 := of_decide_eq_true ab
  refine zzs (zzp ?_)
  refine zzd (zzt (zzd (zzz [0, 0, 3, 7, 0, 0, 48, 112, 255, 511] [(0, []), (1, []), (2, []), (3, []), (4, []), (5, []), (6, []), (7, []), (8, []), (9, [])] xj xj (zza 17 (.v (x.v)) (zza 18 (zI i) ?_)))))
  have hl16 := (hx.ext ad).len
  obtain ⟨ao, b16, am, ah, ae, ak⟩ := pol_atN (hx.ext ad) (i := i) xq
  refine zya 19 (am + i * 3) (n := x.n) (off := am) (sz := 3) (i := (i : Int)) xq ah xq xq sl26 (zym 20 ao.cs ae ty32 (zza 21 (.v (y.v)) (zza 22 (zI i) ?_)))
  have hl17 := (hy.ext ad).len
  obtain ⟨au, b17, al, ai, ag, af⟩ := pol_atN (hy.ext ad) (i := i) xq
  refine zya 23 (al + i * 3) (n := y.n) (off := al) (sz := 3) (i := (i : Int)) xq ai xq xq sl26 (zym 24 au.cs ag ty32 (zzg 25 16 _ fun _ _ aj aq => Post.mono (k_rqSame aq (ak.ext aj) (af.ext aj)) ?_))
  rintro _ u19 ap rfl
  refine zza 26 (zB (!(decide ((l.getD i 0) = (m.getD i 0))))) (zzb (zzu (b := !(decide ((l.getD i 0) = (m.getD i 0)))) xj (fun aa => ?_) (fun aa => ?_)))
  ·refine sq9 (zza 4 (zB false) (zzb (zzo (zyu (zzw (zyt (zyu (zzw (ret0 [.bool false] ⟨zzq, trivial⟩ fun u23 e24 => ?_)))))))))
   have e9 : l ≠ m := by intro e; have h9 := aa; rw [e] at h9; simp at h9
   show Value.bool false = Value.bool _
   rw [decide_eq_false e9]
  refine zzs (zzp ?_)
  refine zzf (zza 15 (zI i) (zyq 16 (x := zI (IntKind.i64.wrap ((i : Int) + 1))) (zI (i + 1 : Nat)) (eqI yq) (zza 5 (zI (i + 1 : Nat)) (zzx ?_))))
  refine ⟨_, ?_, _, by exact zzv _ _ _, i + 1, rfl, by omega, (fun j hj => by by_cases e : j = i; (rw [e]; have h9 := aa; simpa using h9); exact hz j xq), rfl, (ad.t (aj.t ap.ext))⟩
  omega
 have qhb15 := of_decide_eq_false ab
 refine zyc (zzp (sq9 (zza 4 (zB true) (zzb (zzo (ret0 [.bool true] ⟨zzq, trivial⟩ fun u25 e26 => ?_))))))
 have e9 : l = m := Nt.list_ext xq (fun j => by by_cases hj : j < i; exact hz j hj; rw [Nt.co_ge xq, Nt.co_ge xq])
 show Value.bool true = Value.bool _
 rw [decide_eq_true e9]
theorem k_r5Equal {u w : World} {x : Sl} {l : List Rat} {y : Sl} {m : List Rat} {K M : Nat} (d : Dat u w) (hx : PolN u x l K) (hy : PolN u y m M) (hx9 : l.length ≤ 1000000000) (hy9 : m.length ≤ 1000000000) : Calls Tryz.prog 15 #[x.v, y.v] w (Post u w fun v u' => v = .bool (decide (l = m))) := by
 have hlen := hx.len
 have hlen2 := hy.len
 refine zzm (args := [x.v, y.v]) Tryz.func15 rfl Tryz.ntmps15 (rs := [.tmp 4]) Tryz.results15 (le_b rfl) (le_b rfl) d ?_
 refine sq9 (zza 4 (zB false) (zzb (sq9 (zza 5 (.v (x.v)) (zza 6 (.v (y.v)) (zzg 7 73 _ fun _ _ aa ab => Post.mono (k_sameList ab (hx.ext aa) (hy.ext aa) xk xk) ?_))))))
 rintro _ u12 g13 rfl
 refine zza 4 (zB (decide (l = m))) (zzb (zzo (ret0 [.bool (decide (l = m))] ⟨zzq, trivial⟩ fun u15 e16 => ?_)))
 rfl
set_option maxHeartbeats 2000000 in
theorem k_poSub {u w : World} {x : Sl} {l : List Rat} {y : Sl} {m : List Rat} {K M : Nat} (d : Dat u w) (hx : PolV u x l K) (hy : PolV u y m M) (hK : K ≤ 40000000) (hM : M ≤ 40000000) (hx9 : l.length ≤ 1000000000) (hy9 : m.length ≤ 1000000000) : Calls Tryz.prog 131 #[x.v, y.v] w (Post u w fun v u' => ∃ y : Sl, v = y.v ∧ PolN u' y (Nt.trimQ (Nt.addQ l (m.map (fun z => -z)))) (K + M + 1)) := by
 have hlen := hx.len
 have hlen2 := hy.len
 refine zzm (args := [x.v, y.v]) Tryz.func131 rfl Tryz.ntmps131 (rs := [.tmp 4]) Tryz.results131 (le_b rfl) (le_b rfl) d ?_
 refine sq9 (zza 4 (.v (.slice none 0 0)) (zzb (sq9 (zza 7 (.v (y.v)) (zza 8 (zI y.n) (sy_make 9 (T := 27) (E := 32) (z := .agg #[.bool false, .slice none 0 0, .slice none 0 0]) (size := 3) (bytes := 56) y.n (rcs (List.replicate y.n rl0)) xj xj rfl rfl xq yv (made_rcs _) ?_))))))
 refine zza 5 (.slc 9 0 y.n y.n) (zzc 27 [(0, .v (x.v)), (1, .v (y.v)), (5, .slc 9 0 y.n y.n)] [(9, ⟨32, rcs (List.replicate y.n rl0)⟩)] (zzd (sq9 (zza 10 (.slc 9 0 y.n y.n) (zza 11 (zI y.n) (zza 12 (zI 0) (zzc 27 [(0, .v (x.v)), (1, .v (y.v)), (5, .slc 9 0 y.n y.n), (11, zI y.n), (12, zI 0)] [(9, ⟨32, rcs (List.replicate y.n rl0)⟩)] (zzt (zyn (I := fun ap S' u' => ∃ (i : Nat) (L : List RL), (ap = y.n - i) ∧ (i ≤ y.n) ∧ (L.length = y.n) ∧ (S' = St.of 27 [(0, .v (x.v)), (1, .v (y.v)), (5, .slc 9 0 y.n y.n), (11, zI y.n), (12, zI i)] [(9, ⟨32, rcs L⟩)]) ∧ (Ext u u') ∧ (RatsN u' (L.take i) ((m.map (fun z => -z)).take i) M)) (fun m S u1 u2 e h => by obtain ⟨i, L, hm, p0, p1, hS, hE, f0⟩ := h; exact ⟨i, L, hm, p0, p1, hS, hE.trans e, f0.ext e⟩) _ yw ⟨0, List.replicate y.n rl0, rfl, by omega, by simp, rfl, (Ext.refl _), RatsN.tnil _ _ _ _⟩ ?_)))))))))
 rintro ap _ u11 ⟨i, L, ax, hi, hL, rfl, ab, hR⟩
 refine sq9 (zza 13 (zB (decide ((i : Int) < (y.n : Int)))) (zzb (zzd (zzu (b := decide ((i : Int) < (y.n : Int))) xj (fun aa => ?_) (fun aa => ?_)))))
 ·have qhb12 := of_decide_eq_true aa
  refine zzs (zzp ?_)
  refine zzd (zzt (sq9 (zza 14 (zI i) (zza 6 (zI i) (zzb (zzf (zza 15 (.slc 9 0 y.n y.n) (zza 16 (zI i) (zza 17 (.v (y.v)) (zza 18 (zI i) ?_))))))))))
  have hl13 := (hy.ext ab).len
  obtain ⟨ay, b13, ar, ah, ae, ad⟩ := pol_at (hy.ext ab) (i := i) xq
  refine zya 19 (ar + i * 3) (n := y.n) (off := ar) (sz := 3) (i := (i : Int)) xq ah xq xq sl27 (zym 20 ay.cs ae ty32 (zzg 21 79 _ fun _ _ aj au => Post.mono (k_ratNeg au (ad.ext aj) xq) ?_))
  rintro _ u17 ao ⟨ag, rfl, av⟩
  refine zyw 22 (off' := i * 3) (n := y.n) (off := 0) (sz := 3) (i := (i : Int)) sl27 xq xq xq ?_
  refine zyv (V := ⟨32, rcs L⟩) (off := i * 3) (rcs ((L).set i ag)) ty32 zv (zyx (r := ag) (i := i) yy rfl) ?_
  refine zzx ?_
  refine zzp (zzf (zyq 23 (x := zI (IntKind.i64.wrap ((i : Int) + 1))) (zI (i + 1 : Nat)) (eqI yq) (zza 12 (zI (i + 1 : Nat)) (zzx ?_))))
  have ak : i < (m.map (fun z => -z)).length := by rw [List.length_map]; omega
  refine ⟨_, ?_, _, by exact zzv _ _ _, i + 1, (L).set i ag, rfl, by omega, by simpa using hL, rfl, (ab.t (aj.t ao.ext)), RatsN.tstep (hR.ext (aj.t ao.ext)) xq ak (RatN.more (K := M) av xq) (by simp [List.getElem?_eq_getElem (show i < m.length by omega)])⟩
  omega
 have qhb12 := of_decide_eq_false aa
 refine zyc (zzp (zzd (zyp (r := 5) (t := 9) [5, 9] xw xj zk zk xj (fun aq aA an aB ac => ?_))))
 have af : PolN aA ⟨some ⟨aq, 0, none⟩, y.n, y.n⟩ (m.map (fun z => -z)) M := pol_data1 ac yv (RatsN.tdone (hR.ext an) xq (by rw [List.length_map]; omega)) xq
 refine zzf (zza 24 (.v (x.v)) (zza 25 (.v (.slice (some ⟨aq, 0, none⟩) y.n y.n)) (zzg 26 115 _ fun _ _ am aw => Post.mono (k_poAdd aw (hx.ext (ab.trans (an.trans am))) (af.ext am).raw xq xq xk xk) ?_)))
 rintro _ u30 g31 ⟨ai, rfl, al⟩
 have hly28 := al.len
 refine zza 4 (.v (ai.v)) (zzb (zzo (ret0 [ai.v] ⟨zzq, trivial⟩ fun u33 az => ?_)))
 refine ⟨ai, rfl, ?_⟩
 exact (al.ext az)
set_option maxHeartbeats 1000000 in
theorem k_r5Same {u w : World} {x : Sl} {l : List Rat} {y : Sl} {m : List Rat} {K M : Nat} (d : Dat u w) (hx : PolV u x l K) (hy : PolV u y m M) (hK : K ≤ 40000000) (hM : M ≤ 40000000) (hx9 : l.length ≤ 1000000000) (hy9 : m.length ≤ 1000000000) : Calls Tryz.prog 37 #[x.v, y.v] w (Post u w fun v u' => v = .bool (decide (Nt.trimQ l = Nt.trimQ m))) := by
 have hlen := hx.len
 have hlen2 := hy.len
 have htl := Nt.zzh l
 have htm := Nt.zzh m
 refine zzm (args := [x.v, y.v]) Tryz.func37 rfl Tryz.ntmps37 (rs := [.tmp 4]) Tryz.results37 (le_b rfl) (le_b rfl) d ?_
 refine sq9 (zza 4 (zB false) (zzb (sq9 (zza 5 (.v (x.v)) (zzg 6 83 _ fun _ _ aa ag => Post.mono (k_r5Trim ag (hx.ext aa) xq xk) ?_)))))
 rintro _ u14 af ⟨y12, rfl, ac⟩
 have hly12 := ac.len
 refine zza 7 (.v (y.v)) (zzg 8 83 _ fun _ _ ad ai => Post.mono (k_r5Trim ai (hy.ext (aa.t (af.t ad))) xq xk) ?_)
 rintro _ u20 aj ⟨y18, rfl, ae⟩
 have hly18 := ae.len
 refine zzg 9 15 _ fun _ _ ab ah => Post.mono (k_r5Equal ah (ac.ext (ad.t (aj.t ab))) (ae.ext ab) xk xk) ?_
 rintro _ u24 g25 rfl
 refine zza 4 (zB (decide ((Nt.trimQ l) = (Nt.trimQ m)))) (zzb (zzo (ret0 [.bool (decide ((Nt.trimQ l) = (Nt.trimQ m)))] ⟨zzq, trivial⟩ fun u27 e28 => ?_)))
 rfl
theorem k_mode {u w : World} {r : Int} (d : Dat u w) (h1 : 1 ≤ r) (h2 : r ≤ 3) : Calls Tryz.prog 161 #[.int .i64 r] w (Post u w fun v _ => v = .bool true) := by
 refine zzm (args := [.int .i64 r]) Tryz.func161 rfl Tryz.ntmps161 (rs := [.tmp 2]) Tryz.results161 (le_b rfl) (le_b rfl) d ?_
 refine sq9 (zza 2 (zB false) (zzb (sq9 (zza 3 (zI r) (zza 4 (zB (decide ((1 : Int) ≤ r))) (zyq 5 (x := zB (decide ((1 : Int) ≤ r))) (zB true) (by rw [show (decide ((1 : Int) ≤ r)) = true from decide_eq_true xq]) (zza 6 (zI r) ?_ (hw := w1 2 true 5))))))))
 refine zza 7 (zB (decide (r ≤ 3))) ?_ (hw := w1 2 true 5)
 refine zza 8 (zB (decide (r ≤ 3))) (zza 2 (zB (decide (r ≤ 3))) (zzb (zzo (ret0 [.bool (decide (r ≤ 3))] ⟨zzq, trivial⟩ fun u12 e13 => ?_))))
 show Value.bool _ = Value.bool _
 rw [show (decide (r ≤ 3)) = true from decide_eq_true xq]
theorem k_fxValid {u w : World} {W : WL} (d : Dat u w) (hW : WdOK W) : Calls Tryz.prog 103 #[W.v] w (Post u w fun v _ => v = .bool true) := by
 obtain ⟨hw1, hw2, hw3, hw4, hw5, hw6, hw7, hw8⟩ := id hW
 refine zzm (args := [.agg #[.int .i64 W.b, .int .i64 W.f, .int .i64 W.r, .int .i64 W.o]]) Tryz.func103 rfl Tryz.ntmps103 (rs := [.tmp 2]) Tryz.results103 (le_b rfl) (le_b rfl) d ?_
 refine sq9 (zzk 1 ⟨66, W.cs⟩ (zza 2 (zB false) (zzb (zzd (sq9 (zza 3 (.adr 1 0) (zzi 4 (zI W.b) ty3 zzl (zza 5 (zB (decide (W.b < 4))) (zyq 6 (x := zB (decide (W.b < 4))) (zB false) (by rw [show (decide (W.b < 4)) = false from decide_eq_false xq]) (zza 7 (.adr 1 0) ?_ (hw := w1 3 false 6)))))))))))
 refine zzi 8 (zI W.b) ty3 zzl ?_ (hw := w1 3 false 6)
 refine zza 9 (zB (decide ((24 : Int) < W.b))) ?_ (hw := w1 3 false 6)
 refine zza 10 (zB (decide ((24 : Int) < W.b))) (zyq 11 (x := zB (decide ((24 : Int) < W.b))) (zB false) (by rw [show (decide ((24 : Int) < W.b)) = false from decide_eq_false xq]) (zza 12 (.adr 1 1) ?_ (hw := w1 8 false 11)))
 refine zzi 13 (zI W.f) ty3 zzl ?_ (hw := w1 8 false 11)
 refine zza 14 (zB (decide (W.f < 0))) ?_ (hw := w1 8 false 11)
 refine zza 15 (zB (decide (W.f < 0))) (zyq 16 (x := zB (decide (W.f < 0))) (zB false) (by rw [show (decide (W.f < 0)) = false from decide_eq_false xq]) (zza 17 (.adr 1 1) ?_ (hw := w1 13 false 16)))
 refine zzi 18 (zI W.f) ty3 zzl ?_ (hw := w1 13 false 16)
 refine zza 19 (.adr 1 0) ?_ (hw := w1 13 false 16)
 refine zzi 20 (zI W.b) ty3 zzl ?_ (hw := w1 13 false 16)
 refine zza 21 (zB (decide (W.b ≤ W.f))) ?_ (hw := w1 13 false 16)
 refine zza 22 (zB (decide (W.b ≤ W.f))) (zzb (zzu (b := decide (W.b ≤ W.f)) xj (fun hb => ?_) (fun hb => ?_)))
 ·exact absurd hb (by rw [show (decide (W.b ≤ W.f)) = false from decide_eq_false xq]; decide)
 clear hb
 refine zzs (zzp ?_)
 refine sq9 (zza 23 (.adr 1 2) (zzi 24 (zI W.r) ty3 zzl (zzg 25 161 _ fun _ _ _ aa => Post.mono (k_mode (r := W.r) aa xq xq) ?_)))
 rintro _ u15 g16 rfl
 refine zza 26 (zB true) (zza 27 (.adr 1 3) ?_ (hw := w1 3 true 26))
 refine zzi 28 (zI W.o) ty3 zzl ?_ (hw := w1 3 true 26)
 refine zza 29 (zB (W.o == 1)) ?_ (hw := w1 3 true 26)
 rcases Bool.eq_false_or_eq_true (W.o == 1) with hs18 | hs18
 ·refine zyq 30 (x := zB (W.o == 1)) (zB true) (by rw [hs18]) ?_ (hw := w1 3 true 26)
  refine zzn 31 (uw 7 false true 30) (zzn 32 (uw 7 false true 30) (zzn 33 (uw 7 false true 30) (zza 34 (zB true) ?_ (hw := w1 3 true 26))))
  refine zza 35 (zB true) (zza 2 (zB true) (zzc 36 [(2, zB true)] [] (zzo (ret0 [.bool true] ⟨zzq, trivial⟩ fun u19 e20 => ?_))))
  rfl
 refine zyq 30 (x := zB (W.o == 1)) (zB false) (by rw [hs18]) ?_ (hw := w1 3 true 26)
 refine zza 31 (.adr 1 3) ?_ (hw := w1 7 false 30)
 refine zzi 32 (zI W.o) ty3 zzl ?_ (hw := w1 7 false 30)
 refine zza 33 (zB (W.o == 2)) ?_ (hw := w1 7 false 30)
 refine zza 34 (zB (W.o == 2)) ?_ (hw := w1 3 true 26)
 refine zza 35 (zB (W.o == 2)) (zza 2 (zB (W.o == 2)) (zzc 36 [(2, zB (W.o == 2))] [] (zzo (ret0 [.bool (W.o == 2)] ⟨zzq, trivial⟩ fun u21 e22 => ?_))))
 show Value.bool _ = Value.bool _
 rw [show (W.o == 2) = true from (by have hz := hs18; simp at hz ⊢; omega)]
theorem k_fxLow {u w : World} {W : WL} (d : Dat u w) (hW : WdOK W) : Calls Tryz.prog 207 #[W.v] w (Post u w fun v _ => v = .int .i64 (-Nt.p2i (W.b - 1))) := by
 obtain ⟨hw1, hw2, hw3, hw4, hw5, hw6, hw7, hw8⟩ := id hW
 have hp1 := Nt.zxp (W.b - 1)
 have hp2 := Nt.p2i_24 (n := W.b - 1) xq
 refine zzm (args := [.agg #[.int .i64 W.b, .int .i64 W.f, .int .i64 W.r, .int .i64 W.o]]) Tryz.func207 rfl Tryz.ntmps207 (rs := [.tmp 2]) Tryz.results207 (le_b rfl) (le_b rfl) d ?_
 refine sq9 (zzk 1 ⟨66, W.cs⟩ (zza 2 (zI 0) (zzb (zzd (sq9 (zzi 3 (.v (W.v)) ty66 zze (zzg 4 103 _ fun _ _ _ aa => Post.mono (k_fxValid (W := W) aa hW) ?_)))))))
 rintro _ u12 g13 rfl
 refine zza 5 (zB false) (zzb (zys xj (zzs (zzp ?_))))
 refine sq9 (zza 6 (.adr 1 0) (zzi 7 (zI W.b) ty3 zzl (zyq 8 (x := zI (IntKind.i64.wrap (W.b - 1))) (zI (W.b - 1)) zq (sy_shl 9 (k := .i64) (s := W.b - 1) (Nt.p2i (W.b - 1)) xq zw (shl_one xq xq) ?_))))
 refine zyq 10 (x := zI (IntKind.i64.wrap (0 - Nt.p2i (W.b - 1)))) (zI (-Nt.p2i (W.b - 1))) (by rw [show (IntKind.i64.wrap (0 - Nt.p2i (W.b - 1))) = (-Nt.p2i (W.b - 1)) from yq]) (zza 2 (zI (-Nt.p2i (W.b - 1))) (zzb (zzo (ret0 [.int .i64 (-Nt.p2i (W.b - 1))] ⟨zzq, trivial⟩ fun u15 e16 => ?_))))
 rfl
theorem k_fxHigh {u w : World} {W : WL} (d : Dat u w) (hW : WdOK W) : Calls Tryz.prog 208 #[W.v] w (Post u w fun v _ => v = .int .i64 (Nt.p2i (W.b - 1) - 1)) := by
 obtain ⟨hw1, hw2, hw3, hw4, hw5, hw6, hw7, hw8⟩ := id hW
 have hp1 := Nt.zxp (W.b - 1)
 have hp2 := Nt.p2i_24 (n := W.b - 1) xq
 refine zzm (args := [.agg #[.int .i64 W.b, .int .i64 W.f, .int .i64 W.r, .int .i64 W.o]]) Tryz.func208 rfl Tryz.ntmps208 (rs := [.tmp 2]) Tryz.results208 (le_b rfl) (le_b rfl) d ?_
 refine sq9 (zzk 1 ⟨66, W.cs⟩ (zza 2 (zI 0) (zzb (zzd (sq9 (zzi 3 (.v (W.v)) ty66 zze (zzg 4 103 _ fun _ _ _ aa => Post.mono (k_fxValid (W := W) aa hW) ?_)))))))
 rintro _ u12 g13 rfl
 refine zza 5 (zB false) (zzb (zys xj (zzs (zzp ?_))))
 refine sq9 (zza 6 (.adr 1 0) (zzi 7 (zI W.b) ty3 zzl (zyq 8 (x := zI (IntKind.i64.wrap (W.b - 1))) (zI (W.b - 1)) zq (sy_shl 9 (k := .i64) (s := W.b - 1) (Nt.p2i (W.b - 1)) xq zw (shl_one xq xq) ?_))))
 refine zyq 10 (x := zI (IntKind.i64.wrap ((Nt.p2i (W.b - 1)) - 1))) (zI ((Nt.p2i (W.b - 1)) - 1)) zq (zza 2 (zI ((Nt.p2i (W.b - 1)) - 1)) (zzb (zzo (ret0 [.int .i64 ((Nt.p2i (W.b - 1)) - 1)] ⟨zzq, trivial⟩ fun u15 e16 => ?_))))
 rfl
theorem k_fxFits {u w : World} {W : WL} {z : Int} (d : Dat u w) (hW : WdOK W) (h0 : -Nt.p2i (W.b - 1) ≤ z) (h1 : z < Nt.p2i (W.b - 1)) : Calls Tryz.prog 162 #[W.v, .int .i64 z] w (Post u w fun v _ => v = .bool true) := by
 obtain ⟨hw1, hw2, hw3, hw4, hw5, hw6, hw7, hw8⟩ := id hW
 refine zzm (args := [.agg #[.int .i64 W.b, .int .i64 W.f, .int .i64 W.r, .int .i64 W.o], .int .i64 z]) Tryz.func162 rfl Tryz.ntmps162 (rs := [.tmp 4]) Tryz.results162 (le_b rfl) (le_b rfl) d ?_
 refine sq9 (zzk 2 ⟨66, W.cs⟩ (zza 4 (zB false) (zzb (sq9 (zzi 5 (.v (W.v)) ty66 zze (zzg 6 103 _ fun _ _ _ aa => Post.mono (k_fxValid (W := W) aa hW) ?_))))))
 rintro _ u12 g13 rfl
 refine zza 7 (zB true) (zza 8 (zI z) ?_ (hw := w1 2 true 7))
 refine zzi 9 (.v (W.v)) ty66 zze ?_ (hw := w1 2 true 7)
 refine zzg 10 207 _ (fun _ _ _ ab => Post.mono (k_fxLow (W := W) ab hW) ?_) (hw := w1 2 true 7)
 rintro _ u16 g17 rfl
 refine zza 11 (zB (decide ((-Nt.p2i (W.b - 1)) ≤ z))) ?_ (hw := w1 2 true 7)
 refine zza 12 (zB (decide ((-Nt.p2i (W.b - 1)) ≤ z))) (zyq 13 (x := zB (decide ((-Nt.p2i (W.b - 1)) ≤ z))) (zB true) (by rw [show (decide ((-Nt.p2i (W.b - 1)) ≤ z)) = true from decide_eq_true xq]) (zza 14 (zI z) ?_ (hw := w1 8 true 13)))
 refine zzi 15 (.v (W.v)) ty66 zze ?_ (hw := w1 8 true 13)
 refine zzg 16 208 _ (fun _ _ _ ac => Post.mono (k_fxHigh (W := W) ac hW) ?_) (hw := w1 8 true 13)
 rintro _ u21 g22 rfl
 refine zza 17 (zB (decide (z ≤ (Nt.p2i (W.b - 1) - 1)))) ?_ (hw := w1 8 true 13)
 refine zza 18 (zB (decide (z ≤ (Nt.p2i (W.b - 1) - 1)))) (zza 4 (zB (decide (z ≤ (Nt.p2i (W.b - 1) - 1)))) (zzb (zzo (ret0 [.bool (decide (z ≤ (Nt.p2i (W.b - 1) - 1)))] ⟨zzq, trivial⟩ fun u24 e25 => ?_))))
 show Value.bool _ = Value.bool _
 rw [show (decide (z ≤ (Nt.p2i (W.b - 1) - 1))) = true from decide_eq_true xq]
theorem k_fxValue {u w : World} {W : WL} {z : Int} (d : Dat u w) (hW : WdOK W) (h0 : -16777216 ≤ z) (h1 : z ≤ 16777216) : Calls Tryz.prog 118 #[W.v, .int .i64 z] w (Post u w fun v u' => ∃ r : RL, v = r.v ∧ RatN u' r (((z : Int) : Rat) / ((Nt.p2i W.f : Int) : Rat)) 2) := by
 obtain ⟨hw1, hw2, hw3, hw4, hw5, hw6, hw7, hw8⟩ := id hW
 have hp1 := Nt.zxp W.f
 have hp2 := Nt.p2i_24 (n := W.f) xq
 refine zzm (args := [.agg #[.int .i64 W.b, .int .i64 W.f, .int .i64 W.r, .int .i64 W.o], .int .i64 z]) Tryz.func118 rfl Tryz.ntmps118 (rs := [.cell 4 32]) Tryz.results118 (le_b rfl) (le_b rfl) d ?_
 refine sq9 (zzk 2 ⟨66, W.cs⟩ (zzk 4 ⟨32, zw3⟩ (zzb (zzd (sq9 (zzi 5 (.v (W.v)) ty66 zze (zzg 6 103 _ fun _ _ _ ab => Post.mono (k_fxValid (W := W) ab hW) ?_)))))))
 rintro _ u12 g13 rfl
 refine zza 7 (zB false) (zzb (zys xj (zzs (zzp ?_))))
 refine sq9 (zza 9 (zI z) (zza 10 (.adr 2 1) (zzi 11 (zI W.f) ty3 zzl (sy_shl 12 (k := .i64) (s := W.f) (Nt.p2i W.f) xq zw (shl_one xq xq) ?_))))
 refine zzg 13 114 _ fun _ _ _ ad => Post.mono (k_ratFrac ad (a := z) (b := Nt.p2i W.f) xq xq xq xq) ?_
 rintro _ u18 g19 ⟨aa, rfl, ae⟩
 refine zzj ⟨32, aa.cs⟩ ty32 ?_
 refine zzb (zzo (ret0 [aa.v] ⟨zzr ty32 zze, trivial⟩ fun u21 ac => ?_))
 exact ⟨aa, rfl, (ae.ext ac)⟩
theorem k_within {u w : World} {n m : Int} (d : Dat u w) (hm : 1 ≤ m) (hm2 : m ≤ 4611686018427387904) (hn0 : -9223372036854775808 ≤ n) (hn1 : n ≤ 9223372036854775807) : Calls Tryz.prog 100 #[.int .i64 n, .int .i64 m] w (Post u w fun v _ => v = .int .i64 (n % m)) := by
 refine zzm (args := [.int .i64 n, .int .i64 m]) Tryz.func100 rfl Tryz.ntmps100 (rs := [.tmp 4]) Tryz.results100 (le_b rfl) (le_b rfl) d ?_
 refine sq9 (zza 4 (zI 0) (zzb (zzd (sq9 (zza 5 (zI m) (zyq 6 (x := zB (decide (m < 1))) (zB false) (by rw [show (decide (m < 1)) = false from zx]) (zzb (zys xj (zzs (zzp ?_))))))))))
 refine sq9 (zza 7 (zI n) (zza 8 (zI m) (sy_rem 9 (Int.tmod n m) xq rfl ?_)))
 refine zza 0 (zI (Int.tmod n m)) (zzb (zzd (sq9 (zza 10 (zI (Int.tmod n m)) (zza 11 (zB (decide ((Int.tmod n m) < 0))) (zzb (zzu (b := decide ((Int.tmod n m) < 0)) xj (fun aa => ?_) (fun aa => ?_))))))))
 ·have qhb11 := of_decide_eq_true aa
  refine zzf (zza 12 (zI (Int.tmod n m)) (zza 13 (zI m) (zyq 14 (x := zI (IntKind.i64.wrap (Int.tmod n m + m))) (zI (Int.tmod n m + m)) (by rw [show (IntKind.i64.wrap (Int.tmod n m + m)) = (Int.tmod n m + m) from (IntWalk.i64_in _ (by have h2 := Int.lt_tmod_of_pos n (show 0 < m by omega); have h3 := Int.tmod_lt_of_pos n (show 0 < m by omega); omega))]) (zza 0 (zI (Int.tmod n m + m)) (zzb (sq9 (zza 15 (zI (Int.tmod n m + m)) (zza 4 (zI (Int.tmod n m + m)) (zzb (zzo (ret0 [.int .i64 (Int.tmod n m + m)] ⟨zzq, trivial⟩ fun u12 e13 => ?_)))))))))))
  show Value.int _ _ = Value.int _ _
  rw [mod_neg9 m hm n aa]
 have qhb11 := of_decide_eq_false aa
 refine zzs (zzp ?_)
 refine sq9 (zza 15 (zI (Int.tmod n m)) (zza 4 (zI (Int.tmod n m)) (zzb (zzo (ret0 [.int .i64 (Int.tmod n m)] ⟨zzq, trivial⟩ fun u14 e15 => ?_)))))
 show Value.int _ _ = Value.int _ _
 rw [mod_pos9 m hm n aa]
theorem k_wunit {u w : World} {W : WL} (d : Dat u w) (hW : WdOK W) : Calls Tryz.prog 102 #[W.v] w (Post u w fun v _ => v = .int .i64 (Nt.p2i W.f)) := by
 obtain ⟨hw1, hw2, hw3, hw4, hw5, hw6, hw7, hw8⟩ := id hW
 refine zzm (args := [.agg #[.int .i64 W.b, .int .i64 W.f, .int .i64 W.r, .int .i64 W.o]]) Tryz.func102 rfl Tryz.ntmps102 (rs := [.tmp 2]) Tryz.results102 (le_b rfl) (le_b rfl) d ?_
 refine sq9 (zzk 1 ⟨66, W.cs⟩ (zza 2 (zI 0) (zzb (sq9 (zza 3 (.adr 1 1) (zzi 4 (zI W.f) ty3 zzl (sy_conv 5 W.f (fun w => by kernel_rfl) (IntWalk.u64_in _ xq) ?_)))))))
 refine sy_shl 6 (k := .i64) (s := W.f) (Nt.p2i W.f) xq zw (shl_one xq xq) ?_
 refine zza 2 (zI (Nt.p2i W.f)) (zzb (zzo (ret0 [.int .i64 (Nt.p2i W.f)] ⟨zzq, trivial⟩ fun u11 e12 => ?_)))
 rfl
namespace Nt
def smallQ (q : Rat) : Bool := decide (absQ q < ((1 : Int) : Rat))
def upS (l : List Rat) (q : Rat) (m : Nat) : List Rat := (List.range l.length).map fun j => l.getD j 0 + q * l.getD (m + 1 - j) 0
def upL (k : List Rat) : Nat → List Rat
 | 0 => [((1 : Int) : Rat)]
 | i + 1 => upS (upL k i ++ [((0 : Int) : Rat)]) (k.getD i 0) i
theorem upS_len (l : List Rat) (q : Rat) (m : Nat) : (upS l q m).length = l.length := by unfold upS; simp
theorem upL_len (k : List Rat) (i : Nat) : (upL k i).length = i + 1 := by
 induction i with
 | zero => rfl
 | succ i ih => show (upS _ _ _).length = _; rw [upS_len, List.length_append, ih]; rfl
theorem getD_app0 (l : List Rat) (j : Nat) : (l ++ [((0 : Int) : Rat)]).getD j 0 = l.getD j 0 := by
 rw [List.getD_eq_getElem?_getD, List.getD_eq_getElem?_getD]
 by_cases h : j < l.length
 ·rw [List.getElem?_append_left h]
 rw [List.getElem?_append_right xq, List.getElem?_eq_none (l := l) xq]
 cases e : j - l.length with
 | zero => rfl
 | succ n => rfl
theorem upS_at (l : List Rat) (q : Rat) (m j : Nat) (h : j < l.length) : (upS l q m).getD j 0 = l.getD j 0 + q * l.getD (m + 1 - j) 0 := by
 unfold upS
 rw [List.getD_eq_getElem?_getD (l := List.map _ _), List.getElem?_map, List.getElem?_range h]
 rfl
def upK (i : Nat) : Nat := 32 * 2 ^ i - 16
theorem upK_succ (i : Nat) : upK (i + 1) = 2 * upK i + 16 ∧ 16 ≤ upK i := by
 unfold upK
 have := Nat.one_le_two_pow (n := i)
 rw [Nat.pow_succ]
 omega
theorem upK_le {i : Nat} (h : i ≤ 6) : upK i ≤ 2032 := by
 unfold upK
 have := Nat.pow_le_pow_right (n := 2) yz h
 omega
theorem upK_le8 {i : Nat} (h : i ≤ 8) : upK i ≤ 8176 := by
 unfold upK
 have := Nat.pow_le_pow_right (n := 2) yz h
 omega
end Nt
set_option maxHeartbeats 1000000 in
theorem k_up1 {u w : World} {x : Sl} {l : List Rat} {r v : RL} {q y : Rat} {K M m j : Nat} {b6 b7 b8 : Nat} (d : Dat u w) (hx : PolN u x l K) (hr : RatV u r q M) (hv : RatN u v y K) (h8 : u.heap[b8]? = some (.cells r.cs.toArray 32 (0, 0))) (h6 : u.heap[b6]? = some (.cells [Value.slice x.a x.n x.c].toArray 26 (0, 0))) (h7 : u.heap[b7]? = some (.cells [Value.int .i64 (m : Int)].toArray 3 (0, 0))) (hm : m + 2 = l.length) (hj : j < l.length) (hK : K ≤ 10000000) (hM : M ≤ 10000000) (hl : l.length ≤ 1000000) : Calls Tryz.prog 171 #[.int .i64 (j : Int), v.v, .pointer (some ⟨b8, 0, none⟩), .pointer (some ⟨b6, 0, none⟩), .pointer (some ⟨b7, 0, none⟩)] w (Post u w fun v u' => ∃ r : RL, v = r.v ∧ RatN u' r (y + q * l.getD (m + 1 - j) 0) (2 * K + M + 1)) := by
 have hlen := hx.len
 refine zzm (args := [.int .i64 j, v.v, .pointer (some ⟨b8, 0, none⟩), .pointer (some ⟨b6, 0, none⟩), .pointer (some ⟨b7, 0, none⟩)]) Tryz.func171 rfl Tryz.ntmps171 (rs := [.cell 7 32]) Tryz.results171 (le_b rfl) (le_b rfl) d ?_
 refine sq9 (zzk 6 ⟨32, v.cs⟩ (zzk 7 ⟨32, zw3⟩ (zzb (zzd (zzz [0, 0, 0, 0, 8, 0, 56, 124, 252, 510, 1023, 2047] [(0, []), (1, []), (2, []), (3, []), (4, []), (5, []), (6, []), (7, []), (8, []), (9, []), (10, []), (11, [])] xj xj (zzi 8 (.v (v.v)) ty32 zze (zym 9 (r.cs) (var_cells h8) ty32 (zyl 10 (x.v) (var_cell1 h6) ty26 (zyl 11 (.int .i64 m) (var_cell1 h7) ty3 (zyq 12 (x := zI (IntKind.i64.wrap ((m : Int) + 1))) (zI (m + 1 : Nat)) (eqI yq) (zza 13 (zI j) ?_)))))))))))
 refine zyq 14 (x := zI (IntKind.i64.wrap (((m + 1 : Nat) : Int) - (j : Int)))) (zI (((m + 1) - j : Nat) : Int)) (eqI yq) ?_
 have hl11 := hx.len
 obtain ⟨aj, b11, af, ad, ac, ae⟩ := pol_atN hx (i := (m + 1) - j) xq
 refine zya 15 (af + ((m + 1) - j) * 3) (n := x.n) (off := af) (sz := 3) (i := (((m + 1) - j : Nat) : Int)) xq ad xq xq sl26 (zym 16 aj.cs ac ty32 (zzg 17 113 _ fun _ _ aa am => Post.mono (k_ratMul am (hr.ext aa) (ae.ext aa).raw xq xq) ?_))
 rintro _ u15 ah ⟨r13, rfl, al⟩
 refine zzg 18 112 _ fun _ _ ag ak => Post.mono (k_ratAdd ak (hv.ext (aa.t (ah.t ag))).raw (al.ext ag).raw xq xq) ?_
 rintro _ u21 g22 ⟨ab, rfl, ai⟩
 refine zzj ⟨32, ab.cs⟩ ty32 ?_
 refine zzb (zzo (ret0 [ab.v] ⟨zzr ty32 zze, trivial⟩ fun u24 an => ?_))
 exact ⟨ab, rfl, RatN.more (K := (K + (M + K) + 1)) (ai.ext an) xq⟩
set_option maxHeartbeats 2000000 in
theorem k_mapUp {u w : World} {x : Sl} {l : List Rat} {r : RL} {q : Rat} {K M m : Nat} {b6 b7 b8 : Nat} (d : Dat u w) (hx : PolN u x l K) (hr : RatV u r q M) (h8 : u.heap[b8]? = some (.cells r.cs.toArray 32 (0, 0))) (h6 : u.heap[b6]? = some (.cells [Value.slice x.a x.n x.c].toArray 26 (0, 0))) (h7 : u.heap[b7]? = some (.cells [Value.int .i64 (m : Int)].toArray 3 (0, 0))) (hm : m + 2 = l.length) (hK : K ≤ 10000000) (hM : M ≤ 10000000) (hl : l.length ≤ 1000000) : Calls Tryz.prog 170 #[x.v, .func (.func 171) #[] #[.pointer (some ⟨b8, 0, none⟩), .pointer (some ⟨b6, 0, none⟩), .pointer (some ⟨b7, 0, none⟩)]] w (Post u w fun v u' => NewR u x.n (Nt.upS l q m) (2 * K + M + 1) v u') := by
 have hlen := hx.len
 have hul := Nt.upS_len l q m
 refine zzm (args := [x.v, .func (.func 171) #[] #[.pointer (some ⟨b8, 0, none⟩), .pointer (some ⟨b6, 0, none⟩), .pointer (some ⟨b7, 0, none⟩)]]) Tryz.func170 rfl Tryz.ntmps170 (rs := [.tmp 4]) Tryz.results170 (le_b rfl) (le_b rfl) d ?_
 refine sq9 (zza 4 (.v (.slice none 0 0)) (zzb (sq9 (zza 8 (.v (x.v)) (zza 9 (zI x.n) (sy_make 10 (T := 26) (E := 32) (z := .agg #[.bool false, .slice none 0 0, .slice none 0 0]) (size := 3) (bytes := 56) x.n (rcs (List.replicate x.n rl0)) xj xj rfl rfl xq yv (made_rcs _) ?_))))))
 refine zza 5 (.slc 10 0 x.n x.n) (zzc 27 [(0, .v (x.v)), (1, .v (.func (.func 171) #[] #[.pointer (some ⟨b8, 0, none⟩), .pointer (some ⟨b6, 0, none⟩), .pointer (some ⟨b7, 0, none⟩)])), (5, .slc 10 0 x.n x.n)] [(10, ⟨32, rcs (List.replicate x.n rl0)⟩)] (zzd (sq9 (zza 11 (.v (x.v)) (zza 12 (zI x.n) (zza 13 (zI 0) (zzb (zzt (zyn (I := fun ap S' u' => ∃ (i : Nat) (L : List RL), (ap = x.n - i) ∧ (i ≤ x.n) ∧ (L.length = x.n) ∧ (S' = St.of 27 [(1, .v (.func (.func 171) #[] #[.pointer (some ⟨b8, 0, none⟩), .pointer (some ⟨b6, 0, none⟩), .pointer (some ⟨b7, 0, none⟩)])), (5, .slc 10 0 x.n x.n), (11, .v (x.v)), (12, zI x.n), (13, zI i)] [(10, ⟨32, rcs L⟩)]) ∧ (Ext u u') ∧ (RatsN u' (L.take i) ((Nt.upS l q m).take i) (2 * K + M + 1))) (fun m S u1 u2 e h => by obtain ⟨i, L, hm, p0, p1, hS, hE, f0⟩ := h; exact ⟨i, L, hm, p0, p1, hS, hE.trans e, f0.ext e⟩) _ yw ⟨0, List.replicate x.n rl0, rfl, by omega, by simp, rfl, (Ext.refl _), RatsN.tnil _ _ _ _⟩ ?_)))))))))
 rintro ap _ u11 ⟨i, L, aw, hi, hL, rfl, ab, hR⟩
 refine sq9 (zza 14 (zB (decide ((i : Int) < (x.n : Int)))) (zzb (zzd (zzu (b := decide ((i : Int) < (x.n : Int))) xj (fun ac => ?_) (fun ac => ?_)))))
 ·have qhb12 := of_decide_eq_true ac
  refine zzs (zzp ?_)
  refine zzd (zzt (sq9 (zza 15 (zI i) ?_)))
  have hl13 := (hx.ext ab).len
  obtain ⟨ai, b13, aq, aj, ag, af⟩ := pol_atN (hx.ext ab) (i := i) xq
  refine zya 16 (aq + i * 3) (n := x.n) (off := aq) (sz := 3) (i := (i : Int)) xq aj xq xq sl26 (zym 17 ai.cs ag ty32 (zzk 7 ⟨32, zw3⟩ (zza 6 (zI i) (zzj ⟨32, ai.cs⟩ ty32 ?_))))
  refine zzb (zzf (zza 18 (.slc 10 0 x.n x.n) (zza 19 (zI i) (zza 20 (.v (.func (.func 171) #[] #[.pointer (some ⟨b8, 0, none⟩), .pointer (some ⟨b6, 0, none⟩), .pointer (some ⟨b7, 0, none⟩)])) (zza 21 (zI i) (zzi 22 (.v (ai.v)) ty32 zze (zzg 23 171 _ fun _ _ aa ar => Post.mono (k_up1 (j := i) ar (hx.ext (ab.trans aa)) (hr.ext (ab.trans aa)) (af.ext aa) ((ab.trans aa).cells h8) ((ab.trans aa).cells h6) ((ab.trans aa).cells h7) hm xq xq xq xq) ?_)))))))
  rintro _ u17 ao ⟨ah, rfl, au⟩
  refine zyw 24 (off' := i * 3) (n := x.n) (off := 0) (sz := 3) (i := (i : Int)) sl26 xq xq xq ?_
  refine zyv (V := ⟨32, rcs L⟩) (off := i * 3) (rcs ((L).set i ah)) ty32 zv (zyx (r := ah) (i := i) yy rfl) ?_
  refine zzx ?_
  refine zzp (zzf (zyq 25 (x := zI (IntKind.i64.wrap ((i : Int) + 1))) (zI (i + 1 : Nat)) (eqI yq) (zza 13 (zI (i + 1 : Nat)) (zzx ?_))))
  have ak : i < (Nt.upS l q m).length := by rw [hul]; omega
  refine ⟨_, ?_, _, by exact zzv _ _ _, i + 1, (L).set i ah, rfl, by omega, by simpa using hL, rfl, (ab.t (aa.t ao.ext)), RatsN.tstep (hR.ext (aa.t ao.ext)) xq ak (RatN.more (K := (2 * K + M + 1)) au xq) (by rw [← Nt.upS_at l q m i xq])⟩
  omega
 have qhb12 := of_decide_eq_false ac
 refine zyc (zzp (zzd (zyp (r := 5) (t := 10) [5, 10] xw xj zk zk xj (fun ae ax am al ad => ?_))))
 have av : PolN ax ⟨some ⟨ae, 0, none⟩, x.n, x.n⟩ (Nt.upS l q m) (2 * K + M + 1) := pol_data1 ad yv (RatsN.tdone (hR.ext am) xq (by rw [hul]; omega)) xq
 refine zzf (zza 26 (.v (.slice (some ⟨ae, 0, none⟩) x.n x.n)) (zza 4 (.v (.slice (some ⟨ae, 0, none⟩) x.n x.n)) (zzb (zzo (ret0 [.slice (some ⟨ae, 0, none⟩) x.n x.n] ⟨zzq, trivial⟩ fun u27 an => ?_)))))
 exact ⟨ae, L, rfl, al, an.cells ad, by omega, (RatsN.tdone (hR.ext (am.trans an)) xq (by rw [hul]; omega))⟩
theorem k_small {u w : World} {r : RL} {q : Rat} {K : Nat} (d : Dat u w) (hr : RatV u r q K) (hK : K ≤ 10000000) : Calls Tryz.prog 169 #[r.v] w (Post u w fun v u' => v = .bool (Nt.smallQ q)) := by
 refine zzm (args := [r.v]) Tryz.func169 rfl Tryz.ntmps169 (rs := [.tmp 2]) Tryz.results169 (le_b rfl) (le_b rfl) d ?_
 refine sq9 (zzk 1 ⟨32, r.cs⟩ (zza 2 (zB false) (zzb (sq9 (zzi 3 (.v (r.v)) ty32 zze (zzg 4 65 _ fun _ _ ad ab => Post.mono (k_ratAbs ab (hr.ext ad) xq) ?_))))))
 rintro _ u14 g15 ⟨r12, rfl, ag⟩
 refine zzg 5 109 _ fun _ _ ah ae => Post.mono (k_ratOf ae (z := 1) xq xq) ?_
 rintro _ u20 af ⟨r18, rfl, ai⟩
 refine zzg 6 78 _ fun _ _ aa ac => Post.mono (k_ratCompare ac (ag.ext (ah.t (af.t aa))).raw (ai.ext aa).raw xq xq) ?_
 rintro _ u24 g25 rfl
 refine zza 7 (zB (decide ((Nt.cmpQ (Nt.absQ q) ((1 : Int) : Rat)) < 0))) (zza 2 (zB (decide ((Nt.cmpQ (Nt.absQ q) ((1 : Int) : Rat)) < 0))) (zzb (zzo (ret0 [.bool (decide ((Nt.cmpQ (Nt.absQ q) ((1 : Int) : Rat)) < 0))] ⟨zzq, trivial⟩ fun u27 e28 => ?_))))
 show Value.bool (decide (Nt.cmpQ _ _ < 0)) = Value.bool (Nt.smallQ q)
 unfold Nt.smallQ
 rw [← Nt.cmpQ_lt]
def UpV (l : List Rat) (v : Value) (u' : World) : Prop := (∃ i, i < l.length ∧ Nt.smallQ (l.getD i 0) = false ∧ v = .tuple #[.slice none 0 0, .int .i64 14]) ∨ ((∀ i, i < l.length → Nt.smallQ (l.getD i 0) = true) ∧ ∃ y : Sl, v = .tuple #[y.v, .int .i64 0] ∧ PolN u' y (Nt.trimQ (Nt.upL l l.length)) (Nt.upK l.length))
set_option maxHeartbeats 4000000 in
theorem k_stepUp {u w : World} {x : Sl} {l : List Rat} {M : Nat} (d : Dat u w) (hx : PolV u x l M) (hl : l.length ≤ 8) (hM : M ≤ 4) : Calls Tryz.prog 120 #[x.v] w (Post u w (UpV l)) := by
 have hlen := hx.len
 refine zzm (args := [x.v]) Tryz.func120 rfl Tryz.ntmps120 (rs := [.tmp 2, .tmp 3]) Tryz.results120 (le_b rfl) (le_b rfl) d ?_
 refine sq9 (zza 2 (.v (.slice none 0 0)) (zza 3 (zI 0) (zzb (zzd (sq9 (zza 9 (.v (x.v)) (zza 10 (zI x.n) (zza 11 (zB (decide ((48 : Int) < (x.n : Int)))) (zzb (zzu (b := decide ((48 : Int) < (x.n : Int))) xj (fun hb => ?_) (fun hb => ?_)))))))))))
 ·exact absurd hb (by rw [show (decide ((48 : Int) < (x.n : Int))) = false from decide_eq_false xq]; decide)
 clear hb
 refine zzs (zzp ?_)
 refine zzd (sq9 (zza 12 (.v (x.v)) (zza 13 (zI x.n) (zza 14 (zI 0) (zzb (zzt (zyn (I := fun ba S' u' => ∃ (i : Nat), (ba = l.length - i) ∧ (i ≤ l.length) ∧ (∀ j, j < i → Nt.smallQ (l.getD j 0) = true) ∧ (S' = St.of 41 [(0, .v (x.v)), (12, .v (x.v)), (13, zI x.n), (14, zI i)] []) ∧ (Ext u u')) (fun m S u1 u2 e h => by obtain ⟨i, hm, p0, p1, hS, hE⟩ := h; exact ⟨i, hm, p0, p1, hS, hE.trans e⟩) _ yw ⟨0, rfl, Nat.zero_le _, fun j hj => absurd hj (Nat.not_lt_zero j), rfl, (Ext.refl _)⟩ ?_)))))))
 rintro ba _ u11 ⟨i, br, hi, hz, rfl, aj⟩
 refine sq9 (zza 15 (zB (decide ((i : Int) < (x.n : Int)))) (zzb (zzd (zzu (b := decide ((i : Int) < (x.n : Int))) xj (fun ad => ?_) (fun ad => ?_)))))
 ·have qhb12 := of_decide_eq_true ad
  refine zzs (zzp ?_)
  refine zzd (zzt (sq9 ?_))
  have hl13 := (hx.ext aj).len
  obtain ⟨aN, b13, bb, aU, aB, aA⟩ := pol_at (hx.ext aj) (i := i) xq
  refine zya 16 (bb + i * 3) (n := x.n) (off := bb) (sz := 3) (i := (i : Int)) xq aU xq xq sl26 (zym 17 aN.cs aB ty32 (zzk 5 ⟨32, zw3⟩ (zzj ⟨32, aN.cs⟩ ty32 ?_)))
  refine zzb (sq9 (zzi 18 (.v (aN.v)) ty32 zze (zzg 19 169 _ fun _ _ a9 bu => Post.mono (k_small bu (aA.ext a9) xq) ?_)))
  rintro _ u15 bg rfl
  refine zza 20 (zB (!(Nt.smallQ (l.getD i 0)))) (zzb (zzu (b := !(Nt.smallQ (l.getD i 0))) xj (fun ae => ?_) (fun ae => ?_)))
  ·refine sq9 (zza 2 (.v (.slice none 0 0)) (zza 3 (zI 14) (zzb (zzo (zyu (zzw (zyt (zyu (zzw (ret0 [.slice none 0 0, .int .i64 14] ⟨zzq, zzq, trivial⟩ fun u19 e20 => ?_))))))))))
   exact .inl ⟨i, by omega, by simpa using ae, rfl⟩
  refine zzs (zzp ?_)
  refine zzf (zyq 21 (x := zI (IntKind.i64.wrap ((i : Int) + 1))) (zI (i + 1 : Nat)) (eqI yq) (zza 14 (zI (i + 1 : Nat)) (zzx ?_)))
  refine ⟨_, ?_, _, by exact zzv _ _ _, i + 1, rfl, by omega, (fun j hj => by by_cases e : j = i; (rw [e]; simpa using ae); exact hz j xq), rfl, (aj.t (a9.t bg.ext))⟩
  omega
 have qhb12 := of_decide_eq_false ad
 refine zyc (zzp (sq9 (zzg 22 109 _ fun _ _ a4 bo => Post.mono (k_ratOf bo (z := 1) xq xq) ?_)))
 rintro _ u24 bd ⟨a5, rfl, bq⟩
 refine zxx 23 ⟨32, a5.cs⟩ 1 (fun aE a3 ar bk => ?_)
 have ap : PolN a3 (⟨some ⟨aE, 0, none⟩, 1, 1⟩ : Sl) [((1 : Int) : Rat)] 2 := pol_lit (L := [a5]) bk (rats1 (bq.ext ar)) rfl yz
 refine zzk 6 ⟨26, [.slice none 0 0]⟩ (zzj ⟨26, [.slice (some ⟨aE, 0, none⟩) 1 1]⟩ ty26 ?_)
 refine zzb (zzd (sq9 (zza 24 (.v (x.v)) (zza 25 (zI x.n) (zza 26 (zI 0) (zzb (zzt ?_)))))))
 have hzs : ∀ j, j < l.length → Nt.smallQ (l.getD j 0) = true := fun j hj => hz j xq
 refine zyn (I := fun a8 S' u' => ∃ (i : Nat) (c : Sl), (a8 = l.length - i) ∧ (i ≤ l.length) ∧ (c.c = c.n) ∧ (S' = St.of 41 [(6, .adr 6 0), (24, .v (x.v)), (25, zI x.n), (26, zI i)] [(6, ⟨26, [c.v]⟩)]) ∧ (Ext a3 u') ∧ (PolN u' c (Nt.upL l i) (Nt.upK i))) (fun m S u1 u2 e h => by obtain ⟨i, c, hm, p0, p1, hS, hE, f0⟩ := h; exact ⟨i, c, hm, p0, p1, hS, hE.trans e, f0.ext e⟩) _ yw ⟨0, (⟨some ⟨aE, 0, none⟩, 1, 1⟩ : Sl), rfl, Nat.zero_le _, rfl, rfl, (Ext.refl _), (PolN.more ap yz)⟩ ?_
 rintro a8 _ u32 ⟨i, c, bv, hi, hcc, rfl, aG, hC⟩
 have hcl := hC.len
 have hul := Nt.upL_len l i
 have huk := Nt.upK_succ i
 have huk2 := Nt.upK_le8 (show i ≤ 8 by omega)
 refine sq9 (zza 27 (zB (decide ((i : Int) < (x.n : Int)))) (zzb (zzd (zzu (b := decide ((i : Int) < (x.n : Int))) xj (fun ac => ?_) (fun ac => ?_)))))
 ·have qhb33 := of_decide_eq_true ac
  refine zzs (zzp ?_)
  refine zzd (zzt (sq9 (zza 28 (zI i) ?_)))
  have hl34 := (hx.ext (aj.t (a4.t (bd.t (ar.trans aG))))).len
  obtain ⟨a7, b34, bc, aW, aO, aP⟩ := pol_at (hx.ext (aj.t (a4.t (bd.t (ar.trans aG))))) (i := i) xq
  refine zya 29 (bc + i * 3) (n := x.n) (off := bc) (sz := 3) (i := (i : Int)) xq aW xq xq sl26 (zym 30 a7.cs aO ty32 (zzk 7 ⟨3, [.int .i64 0]⟩ (zzk 8 ⟨32, zw3⟩ (zzj ⟨3, [.int .i64 i]⟩ ty3 ?_))))
  refine zzj ⟨32, a7.cs⟩ ty32 ?_
  refine zzb (zzd (zzz [0, 0, 2, 7, 15] [(0, []), (1, []), (2, []), (3, []), (4, [])] xj xj (zzi 31 (.v (c.v)) ty26 zzl (zzg 32 109 _ fun _ _ aQ bp => Post.mono (k_ratOf bp (z := 0) xq xq) ?_))))
  rintro _ u38 av ⟨am, rfl, bx⟩
  refine sy_lit 33 ⟨32, am.cs⟩ 1 ?_
  obtain ⟨ag, ah, ay⟩ := id (hC.ext (aQ.t av.ext))
  obtain ⟨a1, aF, a0, ax⟩ := ah.2.2.2 xq
  refine sy_appG 34 (T := 26) (E := 32) (z := .agg #[.bool false, .slice none 0 0, .slice none 0 0]) (size := 3) (bytes := 56) (m := 1) (n := c.n) (cap := c.c) (t2 := 33) (b := a1) (off := aF) (cs0 := rcs ag) am.cs a0 xj xj xj yz rfl (rl_one am) yz yv xq xq ah.1 (fun j v hv => by have h9 := ax j (List.getElem?_eq_some_iff.1 hv).1; rw [h9]; exact hv) ?_
  intro aM aY bz bn al bl aq aX aR ao aK
  have aT : PolN bn ⟨some ⟨aM, 0, none⟩, c.n + 1, aY⟩ ((Nt.upL l i) ++ [((0 : Int) : Rat)]) (Nt.upK i) := pol_data (L := ag ++ [am]) aK (by rw [ao, rcs_app]; rfl) aR aq aX (RatsN.snoc (ay.ext al) (RatN.more (K := 2) (bx.ext al) xq))
  refine zzj ⟨26, [.slice (some ⟨aM, 0, none⟩) (c.n + 1) aY]⟩ ty26 ?_
  refine zzb (sw_pubA (r := 8) (t := 8) [8] xw xj zk zk xj (fun bD u44 aH bw bj aC => ?_))
  refine sw_pubA (r := 7) (t := 7) [7] xw xj zk zk xj (fun bt u50 ak bA bi a2 => ?_)
  refine sw_pubA (r := 6) (t := 6) [6] xw xj zk zk xj (fun bs u56 af aI az aa => ?_)
  refine sw_cut 3 ?_
  refine zyl 35 (.slice (some ⟨aM, 0, none⟩) (c.n + 1) aY) (var_cell1 aa) ty26 (sy_fun 36 [.pointer (some ⟨bD, 0, none⟩), .pointer (some ⟨bs, 0, none⟩), .pointer (some ⟨bt, 0, none⟩)] ?_)
  refine zzg 37 170 _ fun _ _ ab bh => Post.mono (k_mapUp (m := i) bh (aT.ext (aH.trans (ak.trans (af.trans ab)))) (aP.ext (aQ.t (av.t (al.trans (aH.trans (ak.trans (af.trans ab))))))) ((ak.trans (af.trans ab)).cells aC) (ab.cells aa) ((af.trans ab).cells a2) (by simp [Nt.upL_len]) xq xq (by simp [Nt.upL_len]; omega)) ?_
  rintro _ u68 aJ ⟨aD, L63, rfl, aV, aw, aL, an⟩
  refine zzx ?_
  refine sl_adoptA (r := 6) (k := 6) zk ((ab.t aJ.ext).cells aa) aI xj (fun bm ai => ?_)
  have au : PolN bm (⟨some ⟨aD, 0, none⟩, c.n + 1, c.n + 1⟩ : Sl) (Nt.upS ((Nt.upL l i) ++ [((0 : Int) : Rat)]) (l.getD i 0) i) (2 * (Nt.upK i) + M + 1) := newR_adopt aV ((Ext.refl _).cells aw) aL (an.ext (Ext.refl _)) yv (ab.cells aa) ((ab.t aJ.ext).cells aa) zz ai
  refine sl_sym ?_
  refine zzj ⟨26, [.slice (some ⟨aD, 0, none⟩) (c.n + 1) (c.n + 1)]⟩ ty26 ?_
  refine zzx ?_
  refine zzp (zzf (zyq 38 (x := zI (IntKind.i64.wrap ((i : Int) + 1))) (zI (i + 1 : Nat)) (eqI yq) (zza 26 (zI (i + 1 : Nat)) (zzx ?_))))
  refine ⟨_, ?_, _, by exact zzv _ _ _, i + 1, (⟨some ⟨aD, 0, none⟩, c.n + 1, c.n + 1⟩ : Sl), rfl, by omega, rfl, rfl, (aG.t (aQ.t (av.t (al.trans (aH.trans (ak.trans (ExtB.old2 ai (af.t (ab.t aJ.ext)) az))))))), (show PolN _ _ (Nt.upL l (i + 1)) _ from PolN.more (K := (2 * (Nt.upK i) + M + 1)) au xq)⟩
  omega
 have qhb33 := of_decide_eq_false ac
 refine zyc (zzp (sq9 (zzi 39 (.v (c.v)) ty26 zzl (zzg 40 117 _ fun _ _ bB bf => Post.mono (k_poTrim bf (hC.ext bB).raw xq xk) ?_))))
 rintro _ u77 g78 ⟨aZ, rfl, a6⟩
 have hly75 := a6.len
 refine zza 2 (.v (aZ.v)) (zza 3 (zI 0) (zzb (zzo (ret0 [aZ.v, .int .i64 0] ⟨zzq, zzq, trivial⟩ fun u80 bC => ?_))))
 have be : i = l.length := by omega
 refine .inr ⟨hzs, aZ, rfl, ?_⟩
 have h9 := (a6.ext bC)
 rw [be] at h9
 exact h9
namespace Nt
def divS (l : List Rat) (q : Rat) : List Rat := l.map (· / q)
theorem divS_len (l : List Rat) (q : Rat) : (divS l q).length = l.length := by unfold divS; simp
theorem divS_at (l : List Rat) (q : Rat) {j : Nat} (h : j < l.length) : (divS l q).getD j 0 = l.getD j 0 / q := by
 unfold divS
 rw [List.getD_eq_getElem?_getD, List.getElem?_map, List.getD_eq_getElem?_getD, List.getElem?_eq_getElem h]; rfl
def dnS (l : List Rat) (m : Nat) : List Rat := (List.range m).map fun j => (l.getD j 0 - l.getD m 0 * l.getD (m - j) 0) / (((1 : Int) : Rat) - l.getD m 0 * l.getD m 0)
theorem dnS_len (l : List Rat) (m : Nat) : (dnS l m).length = m := by unfold dnS; simp
theorem dnS_at (l : List Rat) {m j : Nat} (h : j < m) : (dnS l m).getD j 0 = (l.getD j 0 - l.getD m 0 * l.getD (m - j) 0) / (((1 : Int) : Rat) - l.getD m 0 * l.getD m 0) := by
 unfold dnS
 rw [List.getD_eq_getElem?_getD, List.getElem?_map, List.getElem?_range h]; rfl
def refL (D : Nat → List Rat) (n : Nat) : List Rat := (List.range n).map fun i => (D (i + 1)).getD (i + 1) 0
theorem refL_len (D : Nat → List Rat) (n : Nat) : (refL D n).length = n := by unfold refL; simp
theorem refL_at (D : Nat → List Rat) {n i : Nat} (h : i < n) : (refL D n).getD i 0 = (D (i + 1)).getD (i + 1) 0 := by
 unfold refL
 rw [List.getD_eq_getElem?_getD, List.getElem?_map, List.getElem?_range h]; rfl
theorem small_iff {q : Rat} : smallQ q = true ↔ -1 < q ∧ q < 1 := by
 have e1 : ((1 : Int) : Rat) = 1 := rfl
 unfold smallQ absQ
 rw [e1]
 split <;> rw [decide_eq_true_iff] <;> grind
theorem small_nz {q : Rat} (h : smallQ q = true) : ((1 : Int) : Rat) - q * q ≠ 0 := by
 have h := small_iff.1 h
 have e1 : ((1 : Int) : Rat) = 1 := rfl
 rw [e1]
 intro e
 have e2 : (1 - q) * (1 + q) = 0 := by grind
 rcases Rat.mul_eq_zero.1 e2 with h3 | h3 <;> grind
theorem divI (l : List Rat) : divS l ((1 : Int) : Rat) = l := by
 unfold divS
 have : (fun x : Rat => x / ((1 : Int) : Rat)) = id := by
  funext x
  show x / 1 = x
  grind
 rw [this, List.map_id]
structure Down (l : List Rat) (D : Nat → List Rat) (n S : Nat) : Prop where
 len : l.length = n + 1
 nz : l.getD 0 0 ≠ 0
 top : D n = divS l (l.getD 0 0)
 dlen : ∀ m, m ≤ n → (D m).length = m + 1
 step : ∀ m, m < n → D m = dnS (D (m + 1)) (m + 1)
 small : ∀ m, 1 ≤ m → m ≤ n → smallQ ((D m).getD m 0) = true
 sm : ∀ m, m ≤ n → ∃ E A, Sm (D m) E A ∧ E ≤ 2 ^ A ∧ dg A ≤ S
end Nt
theorem Nt.Down.fit {l : List Rat} {D : Nat → List Rat} {n S m K : Nat} {u : World} {x : Sl} (h : Nt.Down l D n S) (hm : m ≤ n) (hx : PolN u x (D m) K) : PolN u x (D m) S := by
 obtain ⟨E, A, h1, h2, h3⟩ := h.sm m hm
 exact (hx.fitS h1 h2).more h3
theorem getD_drop {α : Type} (l : List α) (m i : Nat) (z : α) : (l.drop m).getD i z = l.getD (m + i) z := by
 rw [List.getD_eq_getElem?_getD, List.getD_eq_getElem?_getD, List.getElem?_drop]
theorem RatsN.dstep {u : World} {L : List RL} {T : List Rat} {r : RL} {m K : Nat} (h : RatsN u (L.drop m) (T.drop m) K) (hm : 1 ≤ m) (hL : m ≤ L.length) (ht : L.length = T.length) (hr : RatN u r (T.getD (m - 1) 0) K) : RatsN u ((L.set (m - 1) r).drop (m - 1)) (T.drop (m - 1)) K := by
 refine ⟨by simp [ht], fun i hi => ?_⟩
 rw [getD_drop, getD_drop]
 simp at hi
 cases i with
 | zero =>
  rw [Nat.add_zero]
  have e : (L.set (m - 1) r).getD (m - 1) rl0 = r := by
   rw [List.getD_eq_getElem?_getD, List.getElem?_set_self xq]; rfl
  rw [e]; exact hr
 | succ i =>
  have e : (L.set (m - 1) r).getD (m - 1 + (i + 1)) rl0 = L.getD (m + i) rl0 := by
   rw [show m - 1 + (i + 1) = m + i by omega, List.getD_eq_getElem?_getD, List.getD_eq_getElem?_getD, List.getElem?_set_ne xq]
  have h9 := h.2 i zx
  rw [getD_drop, getD_drop] at h9
  rw [e, show m - 1 + (i + 1) = m + i by omega]
  exact h9
theorem RatsN.dnil {u : World} {L : List RL} {T : List Rat} {m K : Nat} (hL : L.length = m) (ht : T.length = m) : RatsN u (L.drop m) (T.drop m) K := by
 rw [List.drop_of_length_le xq, List.drop_of_length_le xq]; exact RatsN.nil u K
theorem RatsN.dall {u : World} {L : List RL} {T : List Rat} {m K : Nat} (h : RatsN u (L.drop m) (T.drop m) K) (hm : m = 0) : RatsN u L T K := by subst hm; exact h
namespace Nt
theorem wq_small {z f : Int} (h0 : -p2i f < z) (h1 : z < p2i f) : -1 < wq z f ∧ wq z f < 1 := by
 have hF := zxp f
 have hP : (0 : Rat) < ((p2i f : Int) : Rat) := Rat.intCast_pos.2 hF
 have k0 : -((p2i f : Int) : Rat) < (z : Rat) := by rw [← Rat.intCast_neg]; exact Rat.intCast_lt_intCast.2 h0
 have k1 : (z : Rat) < ((p2i f : Int) : Rat) := Rat.intCast_lt_intCast.2 h1
 have e : wq z f * ((p2i f : Int) : Rat) = (z : Rat) := by unfold wq; exact Rat.div_mul_cancel (Ne.symm (Rat.ne_of_lt hP))
 generalize ((p2i f : Int) : Rat) = P at *
 generalize wq z f = q at *
 constructor
 ·refine Rat.not_le.1 fun hc => ?_
  have := Rat.mul_le_mul_of_nonneg_right hc (Rat.le_of_lt hP)
  grind
 refine Rat.not_le.1 fun hc => ?_
 have := Rat.mul_le_mul_of_nonneg_right hc (Rat.le_of_lt hP)
 grind
end Nt
theorem pol_take3 {u : World} {x : Sl} {l : List Rat} {K n : Nat} (h : PolV u x l K) (hn : n ≤ l.length) : PolV u ⟨x.a, n, n⟩ (l.take n) K := by
 obtain ⟨L, ⟨h1, h2, h3, h4⟩, h5⟩ := pol_take h hn
 exact ⟨L, ⟨h1, Nat.le_refl n, Nat.le_trans h2 h3, h4⟩, h5⟩
namespace Nt
theorem upL_at (l : List Rat) {i j : Nat} (h : j < i + 2) : (upL l (i + 1)).getD j 0 = (upL l i).getD j 0 + l.getD i 0 * (upL l i).getD (i + 1 - j) 0 := by
 show (upS _ _ _).getD j 0 = _
 rw [upS_at _ _ _ _ (by rw [List.length_append, upL_len]; simpa using h), getD_app0, getD_app0]
theorem upL_take (k : List Rat) {n i : Nat} (h : i ≤ n) : upL (k.take n) i = upL k i := by
 induction i with
 | zero => rfl
 | succ i ih =>
  show upS _ _ _ = upS _ _ _
  rw [ih xq]
  congr 1
  rw [List.getD_eq_getElem?_getD, List.getD_eq_getElem?_getD, List.getElem?_take_of_lt xq]
theorem small_take {k : List Rat} (h : ∀ i, i < k.length → smallQ (k.getD i 0) = true) (n : Nat) : ∀ i, i < (k.take n).length → smallQ ((k.take n).getD i 0) = true := fun i hi => by
 rw [List.length_take] at hi
 rw [List.getD_eq_getElem?_getD, List.getElem?_take_of_lt xq, ← List.getD_eq_getElem?_getD]
 exact h i xq
def revL (k : List Rat) (i : Nat) : List Rat := (List.range (i + 1)).map fun j => (upL k i).getD (i - j) 0
theorem revL_len (k : List Rat) (i : Nat) : (revL k i).length = i + 1 := by unfold revL; simp
theorem revL_at (k : List Rat) {i j : Nat} (h : j ≤ i) : (revL k i).getD j 0 = (upL k i).getD (i - j) 0 := by
 unfold revL
 rw [List.getD_eq_getElem?_getD, List.getElem?_map, List.getElem?_range xq]
 rfl
theorem cmpQ_self (q : Rat) : (cmpQ q q != 0) = false := by
 have h : (cmpQ q q == (0 : Int)) = true := by rw [cmpQ_eq, decide_eq_true rfl]
 show (!(cmpQ q q == (0 : Int))) = false
 rw [h]; rfl
theorem trimD (l : List Rat) (i : Nat) : (trimQ l).getD i 0 = l.getD i 0 := trim_co l i
end Nt
theorem k_stepUpG {u w : World} {x : Sl} {l : List Rat} {M : Nat} (d : Dat u w) (hx : PolV u x l M) (hl : l.length ≤ 8) (hM : M ≤ 4) (hz : ∀ i, i < l.length → Nt.smallQ (l.getD i 0) = true) : Calls Tryz.prog 120 #[x.v] w (Post u w fun v u' => ∃ y : Sl, v = .tuple #[y.v, .int .i64 0] ∧ PolN u' y (Nt.trimQ (Nt.upL l l.length)) (Nt.upK l.length)) :=
 Post.mono (k_stepUp d hx hl hM) fun v u' _ h => by
  rcases h with ⟨i, h1, h2, _⟩ | ⟨_, h⟩
  ·rw [hz i h1] at h2; cases h2
  exact h
set_option maxHeartbeats 2000000 in
theorem k_reversed {u w : World} {x : Sl} {l : List Rat} {M i : Nat} (d : Dat u w) (hx : PolV u x l M) (hl : l.length ≤ 8) (hM : M ≤ 4) (hz : ∀ i, i < l.length → Nt.smallQ (l.getD i 0) = true) (hi : i ≤ l.length) : Calls Tryz.prog 119 #[x.v, .int .i64 (i : Int)] w (Post u w fun v u' => ∃ y : Sl, v = y.v ∧ PolN u' y (Nt.revL l i) (Nt.upK i)) := by
 have hlen := hx.len
 have huk := Nt.upK_succ i
 refine zzm (args := [x.v, .int .i64 i]) Tryz.func119 rfl Tryz.ntmps119 (rs := [.tmp 4]) Tryz.results119 (le_b rfl) (le_b rfl) d ?_
 refine sq9 (zza 4 (.v (.slice none 0 0)) (zzb (sq9 (zza 10 (.v (x.v)) (zza 11 (zI i) (zza 12 (zI i) ?_))))))
 have hl11 := hx.len
 have hc11 := hx.cap
 refine sy_front3 13 (n := x.n) (c := x.c) i sl26 rfl rfl xq ?_
 refine zzg 14 120 _ fun _ _ aw aD => Post.mono (k_stepUpG aD ((pol_take3 hx xq).ext aw) (by rw [List.length_take]; omega) xq (Nt.small_take hz i)) ?_
 rintro _ aB g16 ⟨aa, rfl, ai⟩
 rw [List.length_take, Nat.min_eq_left xq, Nt.upL_take _ (Nat.le_refl _)] at ai
 have hly13 := ai.len
 have hmy13 := Nt.zzh (Nt.upL l i)
 rw [Nt.upL_len] at hmy13
 have hky13 := Nt.upK_le8 (show i ≤ 8 by omega)
 refine zza 9 (.v (.tuple #[aa.v, .int .i64 0])) (zza 15 (.v (aa.v)) (zza 16 (zI 0) (zza 5 (.v (aa.v)) (zza 6 (zI 0) (zzb (sq9 (zza 17 (zI i) (zyq 18 (x := zI (IntKind.i64.wrap ((i : Int) + 1))) (zI (i + 1 : Nat)) (eqI yq) (sy_make 19 (T := 27) (E := 32) (z := .agg #[.bool false, .slice none 0 0, .slice none 0 0]) (size := 3) (bytes := 56) (i + 1) (rcs (List.replicate (i + 1) rl0)) xj xj rfl rfl xq yv (made_rcs _) ?_)))))))))
 refine zza 7 (.slc 19 0 (i + 1) (i + 1)) (zzc 46 [(1, zI i), (5, .v (aa.v)), (7, .slc 19 0 (i + 1) (i + 1))] [(19, ⟨32, rcs (List.replicate (i + 1) rl0)⟩)] (zzd (sq9 (zza 20 (.slc 19 0 (i + 1) (i + 1)) (zza 21 (zI (i + 1 : Nat)) (zza 22 (zI 0) (zzc 46 [(1, zI i), (5, .v (aa.v)), (7, .slc 19 0 (i + 1) (i + 1)), (21, zI (i + 1 : Nat)), (22, zI 0)] [(19, ⟨32, rcs (List.replicate (i + 1) rl0)⟩)] (zzt (zyn (I := fun ar S' u' => ∃ (j : Nat) (L : List RL), (ar = i + 1 - j) ∧ (j ≤ i + 1) ∧ (L.length = i + 1) ∧ (S' = St.of 46 [(1, zI i), (5, .v (aa.v)), (7, .slc 19 0 (i + 1) (i + 1)), (21, zI (i + 1 : Nat)), (22, zI j)] [(19, ⟨32, rcs L⟩)]) ∧ (Ext aB u') ∧ (RatsN u' (L.take j) ((Nt.revL l i).take j) (Nt.upK i))) (fun m S u1 u2 e h => by obtain ⟨j, L, hm, p0, p1, hS, hE, f0⟩ := h; exact ⟨j, L, hm, p0, p1, hS, hE.trans e, f0.ext e⟩) _ yw ⟨0, List.replicate (i + 1) rl0, rfl, by omega, by simp, rfl, (Ext.refl _), RatsN.tnil _ _ _ _⟩ ?_)))))))))
 rintro ar _ u18 ⟨j, L, av, hj, hL, rfl, aj, hR⟩
 refine sq9 (zza 23 (zB (decide ((j : Int) < ((i + 1 : Nat) : Int)))) (zzb (zzd (zzu (b := decide ((j : Int) < ((i + 1 : Nat) : Int))) xj (fun ac => ?_) (fun ac => ?_)))))
 ·have qhb19 := of_decide_eq_true ac
  refine zzs (zzp ?_)
  refine zzd (zzt (sq9 (zza 24 (zI j) (zza 8 (zI j) (zzb (sq9 (zza 25 (.slc 19 0 (i + 1) (i + 1)) (zza 26 (zI j) (zzg 27 109 _ fun _ _ ae aC => Post.mono (k_ratOf aC (z := 0) xq xq) ?_)))))))))
  rintro _ u23 ad ⟨ag, rfl, ax⟩
  refine zyw 28 (off' := j * 3) (n := i + 1) (off := 0) (sz := 3) (i := (j : Int)) sl27 xq xq xq ?_
  refine zyv (V := ⟨32, rcs L⟩) (off := j * 3) (rcs ((L).set j ag)) ty32 zv (zyx (r := ag) (i := j) yy rfl) ?_
  refine zzc 46 [(1, zI i), (5, .v (aa.v)), (7, .slc 19 0 (i + 1) (i + 1)), (8, zI j), (21, zI (i + 1 : Nat)), (22, zI j)] [(19, ⟨32, rcs ((L).set j ag)⟩)] (sq9 (zza 29 (zI i) (zza 30 (zI j) (zyq 31 (x := zI (IntKind.i64.wrap ((i : Int) - (j : Int)))) (zI (i - j : Nat)) (eqI yq) (zza 32 (.v (aa.v)) (zza 33 (zI aa.n) (zza 34 (zB (decide (((i - j : Nat) : Int) < (aa.n : Int)))) (zzb (zzu (b := decide (((i - j : Nat) : Int) < (aa.n : Int))) xj (fun ab => ?_) (fun ab => ?_))))))))))
  ·have qhb26 := of_decide_eq_true ab
   refine zzf (zza 35 (.slc 19 0 (i + 1) (i + 1)) (zza 36 (zI j) (zza 37 (.v (aa.v)) (zza 38 (zI i) (zza 39 (zI j) (zyq 40 (x := zI (IntKind.i64.wrap ((i : Int) - (j : Int)))) (zI (i - j : Nat)) (eqI yq) ?_))))))
   have hl27 := (ai.ext (aj.t (ae.t ad.ext))).len
   obtain ⟨ah, b27, aq, an, al, ak⟩ := pol_atN (ai.ext (aj.t (ae.t ad.ext))) (i := i - j) xq
   refine zya 41 (aq + (i - j) * 3) (n := aa.n) (off := aq) (sz := 3) (i := ((i - j : Nat) : Int)) xq an xq xq sl27 (zym 42 ah.cs al ty32 (zyw 43 (off' := j * 3) (n := i + 1) (off := 0) (sz := 3) (i := (j : Int)) sl27 xq xq xq ?_))
   refine zyv (V := ⟨32, rcs ((L).set j ag)⟩) (off := j * 3) (rcs ((L).set j ah)) ty32 zv ((zyx (r := ah) (i := j) yy rfl).trans (by rw [List.set_set])) ?_
   refine zzx ?_
   refine zzp (zzf (zyq 44 (x := zI (IntKind.i64.wrap ((j : Int) + 1))) (zI (j + 1 : Nat)) (eqI yq) (zza 22 (zI (j + 1 : Nat)) (zzx ?_))))
   have ao : j < (Nt.revL l i).length := by rw [Nt.revL_len]; omega
   refine ⟨_, ?_, _, by exact zzv _ _ _, j + 1, (L).set j ah, rfl, by omega, by simpa using hL, rfl, (aj.t (ae.t ad.ext)), RatsN.tstep (hR.ext (ae.t ad.ext)) xq ao (RatN.more (K := (Nt.upK i)) ak xq) (by rw [Nt.revL_at l xq]; exact Nt.trimD _ _)⟩
   omega
  have qhb26 := of_decide_eq_false ab
  refine zzs (zzp ?_)
  refine zzf (zyq 44 (x := zI (IntKind.i64.wrap ((j : Int) + 1))) (zI (j + 1 : Nat)) (eqI yq) (zza 22 (zI (j + 1 : Nat)) (zzx ?_)))
  have ao : j < (Nt.revL l i).length := by rw [Nt.revL_len]; omega
  refine ⟨_, ?_, _, by exact zzv _ _ _, j + 1, (L).set j ag, rfl, by omega, by simpa using hL, rfl, (aj.t (ae.t ad.ext)), RatsN.tstep (hR.ext (ae.t ad.ext)) xq ao (RatN.more (K := 2) ax xq) (by rw [Nt.revL_at l xq, ← Nt.trimD]; exact (Nt.co_ge xq).symm)⟩
  omega
 have qhb19 := of_decide_eq_false ac
 refine zyc (zzp (zzd (zyp (r := 7) (t := 19) [7, 19] xw xj zk zk xj (fun af ay aA az ap => ?_))))
 have am : PolN ay ⟨some ⟨af, 0, none⟩, i + 1, i + 1⟩ (Nt.revL l i) (Nt.upK i) := pol_data1 ap yv (RatsN.tdone (hR.ext aA) xq (by rw [Nt.revL_len]; omega)) xq
 refine zzf (zza 45 (.v (.slice (some ⟨af, 0, none⟩) (i + 1) (i + 1))) (zza 4 (.v (.slice (some ⟨af, 0, none⟩) (i + 1) (i + 1))) (zzb (zzo (ret0 [.slice (some ⟨af, 0, none⟩) (i + 1) (i + 1)] ⟨zzq, trivial⟩ fun u34 au => ?_)))))
 exact ⟨(⟨some ⟨af, 0, none⟩, i + 1, i + 1⟩ : Sl), rfl, (am.ext au)⟩
theorem k_sameRats {u w : World} {x y : Sl} {l : List Rat} {K M : Nat} (d : Dat u w) (hx : PolV u x l K) (hy : PolV u y l M) (hK : K ≤ 10000000) (hM : M ≤ 10000000) : Calls Tryz.prog 123 #[x.v, y.v] w (Post u w fun v u' => v = .bool true) := by
 have hlen := hx.len
 have hlen2 := hy.len
 have hmx := hx.max
 unfold maxLen at hmx
 refine zzm (args := [x.v, y.v]) Tryz.func123 rfl Tryz.ntmps123 (rs := [.tmp 4]) Tryz.results123 (le_b rfl) (le_b rfl) d ?_
 refine sq9 (zza 4 (zB false) (zzb (zzd (sq9 (zza 6 (.v (x.v)) (zza 7 (zI x.n) (zza 8 (.v (y.v)) (zza 9 (zI y.n) (zza 10 (zB ((x.n : Int) != (y.n : Int))) (zzb (zzu (b := (x.n : Int) != (y.n : Int)) xj (fun hb => ?_) (fun hb => ?_))))))))))))
 ·exact absurd hb (by rw [show ((x.n : Int) != (y.n : Int)) = false from (by rw [hlen, hlen2]; simp)]; decide)
 clear hb
 refine zzs (zzp ?_)
 refine zzd (sq9 (zza 5 (zI 0) (zzb (zzt (zyn (I := fun aj S' u' => ∃ (i : Nat), (aj = l.length - i) ∧ (i ≤ l.length) ∧ (S' = St.of 27 [(0, .v (x.v)), (1, .v (y.v)), (5, zI i)] []) ∧ (Ext u u')) (fun m S u1 u2 e h => by obtain ⟨i, hm, p0, hS, hE⟩ := h; exact ⟨i, hm, p0, hS, hE.trans e⟩) _ yw ⟨0, rfl, Nat.zero_le _, rfl, (Ext.refl _)⟩ ?_)))))
 rintro aj _ u11 ⟨i, an, hi, rfl, ab⟩
 refine zzd (sq9 (zza 11 (zI i) (zza 12 (.v (x.v)) (zza 13 (zI x.n) (zza 14 (zB (decide ((i : Int) < (x.n : Int)))) (zzb (zzu (b := decide ((i : Int) < (x.n : Int))) xj (fun aa => ?_) (fun aa => ?_))))))))
 ·have qhb12 := of_decide_eq_true aa
  refine zzs (zzp ?_)
  refine zzd (zzt (zzd (zzz [0, 0, 3, 7, 0, 0, 48, 112, 255, 511] [(0, []), (1, []), (2, []), (3, []), (4, []), (5, []), (6, []), (7, []), (8, []), (9, [])] xj xj (zza 17 (.v (x.v)) (zza 18 (zI i) ?_)))))
  have hl13 := (hx.ext ab).len
  obtain ⟨ao, b13, ak, ag, ae, ad⟩ := pol_at (hx.ext ab) (i := i) xq
  refine zya 19 (ak + i * 3) (n := x.n) (off := ak) (sz := 3) (i := (i : Int)) xq ag xq xq sl26 (zym 20 ao.cs ae ty32 (zza 21 (.v (y.v)) (zza 22 (zI i) ?_)))
  have hl14 := (hy.ext ab).len
  obtain ⟨aq, b14, al, ac, af, ai⟩ := pol_at (hy.ext ab) (i := i) xq
  refine zya 23 (al + i * 3) (n := y.n) (off := al) (sz := 3) (i := (i : Int)) xq ac xq xq sl26 (zym 24 aq.cs af ty32 (zzg 25 70 _ fun _ _ ah am => Post.mono (k_rqCompare am (ad.ext ah) (ai.ext ah) xq xq) ?_))
  rintro _ u16 ap rfl
  refine zza 26 (zB ((Nt.cmpQ (l.getD i 0) (l.getD i 0)) != 0)) (zzb (zzu (b := (Nt.cmpQ (l.getD i 0) (l.getD i 0)) != 0) xj (fun hb => ?_) (fun hb => ?_)))
  ·exact absurd hb (by rw [show ((Nt.cmpQ (l.getD i 0) (l.getD i 0)) != 0) = false from (Nt.cmpQ_self _)]; decide)
  clear hb
  refine zzs (zzp ?_)
  refine zzf (zza 15 (zI i) (zyq 16 (x := zI (IntKind.i64.wrap ((i : Int) + 1))) (zI (i + 1 : Nat)) (eqI yq) (zza 5 (zI (i + 1 : Nat)) (zzx ?_))))
  refine ⟨_, ?_, _, by exact zzv _ _ _, i + 1, rfl, by omega, rfl, (ab.t (ah.t ap.ext))⟩
  omega
 have qhb12 := of_decide_eq_false aa
 refine zyc (zzp (sq9 (zza 4 (zB true) (zzb (zzo (ret0 [.bool true] ⟨zzq, trivial⟩ fun u19 e20 => ?_))))))
 rfl
namespace Nt
def tapR (b k : List Rat) : Nat → List Rat
 | 0 => trimQ b
 | t + 1 => if (tapR b k t).length = k.length - t + 1 then trimQ (addQ (tapR b k t) ((trimQ ((revL k (k.length - t)).map (· * (tapR b k t).getD (k.length - t) 0))).map (fun z => -z))) else tapR b k t
def tapV (b k : List Rat) (t : Nat) : Rat := if (tapR b k t).length = k.length - t + 1 then (tapR b k t).getD (k.length - t) 0 else ((0 : Int) : Rat)
def tapL (b k : List Rat) : List Rat := (List.range (k.length + 1)).map fun i => tapV b k (k.length - i)
def tapE (b k : List Rat) : Int := if k.all smallQ then (if k.length + 1 < (trimQ b).length then 12 else 0) else 14
def tapO (b k : List Rat) : List Rat := if tapE b k = 0 then tapL b k else []
def tapK (t : Nat) : Nat := 2104 * 2 ^ t - 2100
theorem tapK_succ (t : Nat) : tapK (t + 1) = 2 * tapK t + 2100 ∧ 4 ≤ tapK t := by
 unfold tapK
 have := Nat.one_le_two_pow (n := t)
 rw [Nat.pow_succ]
 omega
theorem tapK_le {t : Nat} (h : t ≤ 7) : tapK t ≤ 270000 := by
 unfold tapK
 have := Nat.pow_le_pow_right (n := 2) yz h
 omega
theorem tapL_len (b k : List Rat) : (tapL b k).length = k.length + 1 := by unfold tapL; simp
theorem tapL_at (b k : List Rat) {t : Nat} (h : t ≤ k.length) : (tapL b k).getD (k.length - t) 0 = tapV b k t := by
 unfold tapL
 rw [List.getD_eq_getElem?_getD, List.getElem?_map, List.getElem?_range xq]
 show tapV b k (k.length - (k.length - t)) = _
 rw [show k.length - (k.length - t) = t by omega]
theorem all_small {k : List Rat} (h : ∀ i, i < k.length → smallQ (k.getD i 0) = true) : k.all smallQ = true := by
 rw [List.all_eq_true]
 intro q hq
 obtain ⟨i, hi, rfl⟩ := List.getElem_of_mem hq
 have := h i hi
 rwa [List.getD_eq_getElem?_getD, List.getElem?_eq_getElem hi] at this
theorem not_all {k : List Rat} {i : Nat} (hi : i < k.length) (h : smallQ (k.getD i 0) = false) : k.all smallQ = false := by
 cases e : k.all smallQ with
 | false => rfl
 | true =>
  rw [List.all_eq_true] at e
  have h9 := e (k[i]) (List.getElem_mem hi)
  rw [List.getD_eq_getElem?_getD, List.getElem?_eq_getElem hi] at h
  have h : smallQ (k[i]) = false := h
  rw [h9] at h; cases h
theorem tapE_bad {b k : List Rat} {i : Nat} (hi : i < k.length) (h : smallQ (k.getD i 0) = false) : tapE b k = 14 ∧ tapO b k = [] := by
 have e : tapE b k = 14 := by unfold tapE; rw [not_all hi h]; rfl
 exact ⟨e, by unfold tapO; rw [e]; rfl⟩
theorem tapE_deg {b k : List Rat} (hz : ∀ i, i < k.length → smallQ (k.getD i 0) = true) (h : k.length + 1 < (trimQ b).length) : tapE b k = 12 ∧ tapO b k = [] := by
 have e : tapE b k = 12 := by unfold tapE; rw [all_small hz, if_pos rfl, if_pos h]
 exact ⟨e, by unfold tapO; rw [e]; rfl⟩
theorem tapE_ok {b k : List Rat} (hz : ∀ i, i < k.length → smallQ (k.getD i 0) = true) (h : (trimQ b).length ≤ k.length + 1) : tapE b k = 0 ∧ tapO b k = tapL b k := by
 have e : tapE b k = 0 := by unfold tapE; rw [all_small hz, if_pos rfl, if_neg xq]
 exact ⟨e, by unfold tapO; rw [e]; rfl⟩
theorem tapR_trim (b k : List Rat) (t : Nat) : trimQ (tapR b k t) = tapR b k t := by
 induction t with
 | zero => exact trim_trim _
 | succ t ih =>
  unfold tapR
  split
  ·exact trim_trim _
  exact ih
theorem tapR_len (b k : List Rat) (t : Nat) : (tapR b k t).length ≤ b.length + k.length + 1 := by
 induction t with
 | zero => have h9 := zzh b; show (trimQ b).length ≤ _; omega
 | succ t ih =>
  unfold tapR
  split
  ·refine Nat.le_trans (zzh _) ?_
   rw [addQ_len, List.length_map]
   have h9 : (trimQ ((revL k (k.length - t)).map (· * (tapR b k t).getD (k.length - t) 0))).length ≤ k.length - t + 1 := map_lenQ (Nat.le_of_eq (revL_len _ _))
   omega
  exact ih
theorem tapR_yes {b k : List Rat} {t : Nat} (h : (tapR b k t).length = k.length - t + 1) : trimQ (addQ (tapR b k t) ((trimQ ((revL k (k.length - t)).map (· * (tapR b k t).getD (k.length - t) 0))).map (fun z => -z))) = tapR b k (t + 1) := by
 rw [tapR, if_pos h]
theorem tapR_no {b k : List Rat} {t : Nat} (h : (tapR b k t).length ≠ k.length - t + 1) : tapR b k t = tapR b k (t + 1) := by
 rw [tapR, if_neg h]
theorem tapV_yes {b k : List Rat} {t : Nat} (h : (tapR b k t).length = k.length - t + 1) : (tapR b k t).getD (k.length - t) 0 = tapV b k t := by
 unfold tapV; rw [if_pos h]
theorem tapV_no {b k : List Rat} {t : Nat} (h : (tapR b k t).length ≠ k.length - t + 1) : ((0 : Int) : Rat) = tapV b k t := by
 unfold tapV; rw [if_neg h]
end Nt
def RatsTop (u : World) (L : List RL) (l : List Rat) (s K : Nat) : Prop := ∀ j, s ≤ j → j < l.length → RatN u (L.getD j rl0) (l.getD j 0) K
theorem RatsTop.ext {u u' : World} {L : List RL} {l : List Rat} {s K : Nat} (h : RatsTop u L l s K) (e : Ext u u') : RatsTop u' L l s K := fun j h1 h2 => (h j h1 h2).ext e
theorem RatsTop.set {u : World} {L : List RL} {l : List Rat} {s s2 s3 K : Nat} {r : RL} (h : RatsTop u L l s2 K) (hs : s2 = s + 1) (hs3 : s3 = s) (hl : s < L.length) (hr : RatN u r (l.getD s 0) K) : RatsTop u (L.set s r) l s3 K := fun j h1 h2 => by
 subst hs3
 by_cases e : j = s3
 ·subst e; rw [rl_set_same hl]; exact hr
 have h9 := h j xq h2
 rw [List.getD_eq_getElem?_getD, List.getElem?_set_ne xq, ← List.getD_eq_getElem?_getD]
 exact h9
theorem RatsTop.none {u : World} {L : List RL} {l : List Rat} {s K : Nat} (h : l.length ≤ s) : RatsTop u L l s K := fun j h1 h2 => by omega
theorem RatsTop.done {u : World} {L : List RL} {l : List Rat} {s K : Nat} (h : RatsTop u L l s K) (hs : s = 0) (hL : L.length = l.length) : RatsN u L l K := ⟨hL, fun i hi => by
 first
 | exact h i xq hi
 | exact h i xq xq⟩
set_option maxHeartbeats 8000000 in
theorem k_taps {u w : World} {x y : Sl} {p l : List Rat} {K M : Nat} (d : Dat u w) (hx : PolV u x p K) (hy : PolV u y l M) (hl : l.length ≤ 6) (hM : M ≤ 4) (hK : K ≤ 4) (hp9 : p.length ≤ 1000) : Calls Tryz.prog 122 #[x.v, y.v] w (Post u w fun v u' => ∃ y : Sl, v = .tuple #[y.v, .int .i64 (Nt.tapE p l)] ∧ PolN u' y (Nt.tapO p l) 270000) := by
 have hlen := hx.len
 have hlen2 := hy.len
 have htp := Nt.zzh p
 refine zzm (args := [x.v, y.v]) Tryz.func122 rfl Tryz.ntmps122 (rs := [.tmp 4, .tmp 5]) Tryz.results122 (le_b rfl) (le_b rfl) d ?_
 refine sq9 (zza 4 (.v (.slice none 0 0)) (zza 5 (zI 0) (zzb (zzd (sq9 (zza 12 (.v (y.v)) (zzg 13 120 _ fun _ _ av aT => Post.mono (k_stepUp aT (hy.ext av) xq xq) ?_)))))))
 rintro _ u13 aD (⟨i12, ao, an, rfl⟩ | ⟨ab, aF, rfl, aw⟩)
 ·skip
  refine zza 11 (.v (.tuple #[.slice none 0 0, .int .i64 14])) (zza 14 (.v (.slice none 0 0)) (zza 15 (zI 14) (zza 6 (.v (.slice none 0 0)) (zza 7 (zI 14) (zzb (sq9 (zza 16 (zI 14) (zza 17 (zB true) (zzb (zyr xj (sq9 ?_)))))))))))
  refine zza 18 (zI 14) (zza 4 (.v (.slice none 0 0)) (zza 5 (zI 14) (zzb (zzo (zzw (ret0 [.slice none 0 0, .int .i64 14] ⟨zzq, zzq, trivial⟩ fun u16 e17 => ?_))))))
  refine ⟨⟨none, 0, 0⟩, by rw [(Nt.tapE_bad ao an).1]; rfl, by rw [(Nt.tapE_bad ao an).2]; exact pol_nil _ _⟩
 have hly12 := aw.len
 have hmy12 := Nt.zzh (Nt.upL l l.length)
 rw [Nt.upL_len] at hmy12
 have hky12 := Nt.upK_le (show l.length ≤ 6 by omega)
 refine zza 11 (.v (.tuple #[aF.v, .int .i64 0])) (zza 14 (.v (aF.v)) (zza 15 (zI 0) (zza 6 (.v (aF.v)) (zza 7 (zI 0) (zzb (sq9 (zza 16 (zI 0) (zza 17 (zB false) (zzb (zys xj (zzs (zzp ?_))))))))))))
 refine zzd (sq9 (zza 19 (.v (x.v)) (zzg 20 76 _ fun _ _ aG a3 => Post.mono (k_poDegree a3 (hx.ext (av.t (aD.t aG))) xq xk) ?_)))
 rintro _ u19 aI rfl
 refine zza 21 (.v (y.v)) (zza 22 (zI y.n) (zza 23 (zB (decide ((y.n : Int) < (((Nt.trimQ p).length : Int) - 1)))) (zzb (zzu (b := decide ((y.n : Int) < (((Nt.trimQ p).length : Int) - 1))) xj (fun ae => ?_) (fun ae => ?_)))))
 ·have qhb22 := of_decide_eq_true ae
  refine sq9 (zza 4 (.v (.slice none 0 0)) (zza 5 (zI 12) (zzb (zzo (zzw (ret0 [.slice none 0 0, .int .i64 12] ⟨zzq, zzq, trivial⟩ fun u23 e24 => ?_))))))
  refine ⟨⟨none, 0, 0⟩, by rw [(Nt.tapE_deg ab xq).1]; rfl, by rw [(Nt.tapE_deg ab xq).2]; exact pol_nil _ _⟩
 have qhb22 := of_decide_eq_false ae
 refine zzs (zzp ?_)
 refine sq9 (zza 24 (.v (x.v)) (zzg 25 117 _ fun _ _ aR a1 => Post.mono (k_poTrim a1 (hx.ext (av.t (aD.t (aG.t (aI.t aR))))) xq xk) ?_))
 rintro _ a0 a8 ⟨aA, rfl, aO⟩
 have hly26 := aO.len
 refine zza 8 (.v (aA.v)) (zzb (sq9 (zza 26 (.v (y.v)) (zza 27 (zI y.n) (zyq 28 (x := zI (IntKind.i64.wrap ((y.n : Int) + 1))) (zI (y.n + 1 : Nat)) (eqI yq) (sy_make 29 (T := 26) (E := 32) (z := .agg #[.bool false, .slice none 0 0, .slice none 0 0]) (size := 3) (bytes := 56) (y.n + 1) (rcs (List.replicate (y.n + 1) rl0)) xj xj rfl rfl xq yv (made_rcs _) ?_))))))
 refine zza 9 (.slc 29 0 (y.n + 1) (y.n + 1)) (zzc 64 [(1, .v (y.v)), (8, .v (aA.v)), (9, .slc 29 0 (y.n + 1) (y.n + 1))] [(29, ⟨32, rcs (List.replicate (y.n + 1) rl0)⟩)] (zzd (sq9 (zza 30 (.v (y.v)) (zza 31 (zI y.n) (zza 10 (zI y.n) (zzb (zzt ?_))))))))
 rw [show ((y.n : Nat) : Int) = ((l.length : Nat) : Int) by omega]
 have hz := ab
 refine zyn (I := fun aP S' u' => ∃ (t : Nat) (L : List RL) (r : Sl), (aP = l.length + 1 - t) ∧ (t ≤ l.length + 1) ∧ (L.length = l.length + 1) ∧ (S' = St.of 64 [(1, .v (y.v)), (8, .v (r.v)), (9, .slc 29 0 (y.n + 1) (y.n + 1)), (10, zI ((l.length : Int) - ((t : Nat) : Int)))] [(29, ⟨32, rcs L⟩)]) ∧ (Ext a0 u') ∧ (PolN u' r (Nt.tapR p l t) (Nt.tapK t)) ∧ (RatsTop u' L (Nt.tapL p l) (l.length + 1 - t) 270000)) (fun m S u1 u2 e h => by obtain ⟨t, L, r, hm, p0, p1, hS, hE, f0, f1⟩ := h; exact ⟨t, L, r, hm, p0, p1, hS, hE.trans e, f0.ext e, f1.ext e⟩) _ yw ⟨0, List.replicate (y.n + 1) rl0, aA, rfl, Nat.zero_le _, by simp; omega, rfl, (Ext.refl _), (PolN.more aO (by have h9 : Nt.tapK 0 = 4 := yz; omega)), (RatsTop.none (by rw [Nt.tapL_len]; omega))⟩ ?_
 rintro aP _ u31 ⟨t, L, r, aY, ht, hL, rfl, aE, hF, hR⟩
 have hrl := hF.len
 have htk := Nt.tapK_succ t
 have htk2 := Nt.tapK_le (show t ≤ 7 by omega)
 have hrb := Nt.tapR_len p l t
 have hrt := congrArg List.length (Nt.tapR_trim p l t)
 refine zzd (sq9 (zza 32 (zI ((l.length : Int) - ((t : Nat) : Int))) (zza 33 (zB (decide ((0 : Int) ≤ ((l.length : Int) - ((t : Nat) : Int))))) (zzb (zzu (b := decide ((0 : Int) ≤ ((l.length : Int) - ((t : Nat) : Int)))) xj (fun ag => ?_) (fun ag => ?_))))))
 ·have qhb32 := of_decide_eq_true ag
  refine zzs (zzp ?_)
  refine zzd (zzt (zzd ?_))
  rw [show (l.length : Int) - ((t : Nat) : Int) = ((l.length - t : Nat) : Int) by omega]
  refine zzf (zza 36 (.slc 29 0 (y.n + 1) (y.n + 1)) (zza 37 (zI (l.length - t : Nat)) (zzg 38 109 _ fun _ _ ad aV => Post.mono (k_ratOf aV (z := 0) xq xq) ?_)))
  rintro _ u36 ac ⟨aq, rfl, aW⟩
  refine zyw 39 (off' := (l.length - t) * 3) (n := y.n + 1) (off := 0) (sz := 3) (i := ((l.length - t : Nat) : Int)) sl26 xq xq xq ?_
  refine zyv (V := ⟨32, rcs L⟩) (off := (l.length - t) * 3) (rcs ((L).set (l.length - t) aq)) ty32 zv (zyx (r := aq) (i := l.length - t) yy rfl) ?_
  refine zzc 64 [(1, .v (y.v)), (8, .v (r.v)), (9, .slc 29 0 (y.n + 1) (y.n + 1)), (10, zI (l.length - t : Nat))] [(29, ⟨32, rcs ((L).set (l.length - t) aq)⟩)] (sq9 (zza 40 (.v (r.v)) (zza 41 (zI r.n) (zza 42 (zI (l.length - t : Nat)) (zyq 43 (x := zI (IntKind.i64.wrap (((l.length - t : Nat) : Int) + 1))) (zI (((l.length - t) + 1 : Nat) : Int)) (eqI yq) (zza 44 (zB ((r.n : Int) == (((l.length - t) + 1 : Nat) : Int))) (zzb (zzu (b := (r.n : Int) == (((l.length - t) + 1 : Nat) : Int)) xj (fun ah => ?_) (fun ah => ?_)))))))))
  ·have aa : (Nt.tapR p l t).length = l.length - t + 1 := by have h9 := eq_of_beq ah; omega
   refine sq9 (zza 45 (.slc 29 0 (y.n + 1) (y.n + 1)) (zza 46 (zI (l.length - t : Nat)) (zza 47 (.v (r.v)) (zza 48 (zI (l.length - t : Nat)) ?_))))
   have hl40 := (hF.ext (ad.t ac.ext)).len
   obtain ⟨aU, b40, aQ, aB, aC, az⟩ := pol_atN (hF.ext (ad.t ac.ext)) (i := l.length - t) xq
   refine zya 49 (aQ + (l.length - t) * 3) (n := r.n) (off := aQ) (sz := 3) (i := ((l.length - t : Nat) : Int)) xq aB xq xq sl27 (zym 50 aU.cs aC ty32 (zzg 51 68 _ fun _ _ am a7 => Post.mono (k_ratTrim a7 (az.ext am).raw xq) ?_))
   rintro _ u44 au ⟨af, rfl, aM⟩
   refine zyw 52 (off' := (l.length - t) * 3) (n := y.n + 1) (off := 0) (sz := 3) (i := ((l.length - t : Nat) : Int)) sl26 xq xq xq ?_
   refine zyv (V := ⟨32, rcs ((L).set (l.length - t) aq)⟩) (off := (l.length - t) * 3) (rcs ((L).set (l.length - t) af)) ty32 zv ((zyx (r := af) (i := l.length - t) yy rfl).trans (by rw [List.set_set])) ?_
   refine zzc 64 [(1, .v (y.v)), (8, .v (r.v)), (9, .slc 29 0 (y.n + 1) (y.n + 1)), (10, zI (l.length - t : Nat))] [(29, ⟨32, rcs ((L).set (l.length - t) af)⟩)] (zzz [0, 0, 0, 6, 0, 0, 48, 112, 254, 511, 1023] [(0, []), (1, []), (2, []), (4, []), (5, []), (6, []), (7, []), (3, []), (8, []), (9, []), (10, [])] xj xj (zza 53 (.v (r.v)) (zza 54 (.v (y.v)) (zza 55 (zI (l.length - t : Nat)) (zza 57 (.slc 29 0 (y.n + 1) (y.n + 1)) (zza 58 (zI (l.length - t : Nat)) (zyw 59 (off' := (l.length - t) * 3) (n := y.n + 1) (off := 0) (sz := 3) (i := ((l.length - t : Nat) : Int)) sl26 xq xq xq ?_)))))))
   refine zzi 60 (V := ⟨32, rcs ((L).set (l.length - t) af)⟩) (off := (l.length - t) * 3) (.v af.v) ty32 (by have h9 := part_rcs (L := (L).set (l.length - t) af) (i := l.length - t) (off := (l.length - t) * 3) yy rfl; rw [rl_set_same yy] at h9; exact h9) (zzg 56 119 _ fun _ _ ai a9 => Post.mono ((show Calls _ _ #[_, .int .i64 (l.length - t : Nat)] _ _ from k_reversed (i := l.length - t) a9 (hy.ext (av.t (aD.t (aG.t (aI.t (aR.t (a8.t (aE.t (ad.t (ac.t (am.t (au.t ai)))))))))))) xq xq hz xq)) ?_)
   rintro _ u50 al ⟨y48, rfl, aN⟩
   have hly48 := aN.len
   have hmy48 := Nt.revL_len l (l.length - t)
   have hky48 := Nt.upK_le (show l.length - t ≤ 6 by omega)
   refine zzg 61 116 _ fun _ _ aj a5 => Post.mono (k_poScale a5 (aN.ext aj).raw (aM.ext (ai.t (al.t aj))).raw xq xk xq) ?_
   rintro _ u56 ar ⟨y54, rfl, aL⟩
   have hly54 := aL.len
   refine zzg 62 131 _ fun _ _ ak aX => Post.mono (k_poSub aX (hF.ext (ad.t (ac.t (am.t (au.t (ai.t (al.t (aj.t (ar.t ak))))))))).raw (aL.ext ak).raw xq xq xk xk) ?_
   rintro _ u62 aH ⟨aJ, rfl, aK⟩
   have hly60 := aK.len
   refine zza 8 (.v (aJ.v)) (zzx ?_)
   refine zzp (zzf (zza 34 (zI (l.length - t : Nat)) (zyq 35 (x := zI (IntKind.i64.wrap (((l.length - t : Nat) : Int) - 1))) (zI ((l.length : Int) - ((t + 1 : Nat) : Int))) (eqI yq) (zza 10 (zI ((l.length : Int) - ((t + 1 : Nat) : Int))) (zzx ?_)))))
   have he9 := Nt.tapR_yes aa
   refine ⟨_, ?_, _, by exact zzv _ _ _, t + 1, (L).set (l.length - t) af, aJ, rfl, by omega, by simpa using hL, rfl, (aE.t (ad.t (ac.t (am.t (au.t (ai.t (al.t (aj.t (ar.t (ak.t aH.ext)))))))))), (by rw [← he9]; exact PolN.more (K := ((Nt.tapK t) + ((Nt.upK (l.length - t)) + (Nt.tapK t)) + 1)) aK xq), (RatsTop.set (s := l.length - t) (hR.ext (ad.t (ac.t (am.t (au.t (ai.t (al.t (aj.t (ar.t (ak.t aH.ext)))))))))) xq xq xq (by rw [Nt.tapL_at p l xq, ← Nt.tapV_yes aa]; exact RatN.more (K := (Nt.tapK t)) (aM.ext (ai.t (al.t (aj.t (ar.t (ak.t aH.ext)))))) xq))⟩
   omega
  have aa : (Nt.tapR p l t).length ≠ l.length - t + 1 := by have h9 := ne_of_beq_false ah; omega
  refine zzs (zzp ?_)
  refine zzf (zza 34 (zI (l.length - t : Nat)) (zyq 35 (x := zI (IntKind.i64.wrap (((l.length - t : Nat) : Int) - 1))) (zI ((l.length : Int) - ((t + 1 : Nat) : Int))) (eqI yq) (zza 10 (zI ((l.length : Int) - ((t + 1 : Nat) : Int))) (zzx ?_))))
  have he9 := Nt.tapR_no aa
  refine ⟨_, ?_, _, by exact zzv _ _ _, t + 1, (L).set (l.length - t) aq, r, rfl, by omega, by simpa using hL, rfl, (aE.t (ad.t ac.ext)), (by rw [← he9]; exact PolN.more (K := (Nt.tapK t)) (hF.ext (ad.t ac.ext)) xq), (RatsTop.set (s := l.length - t) (hR.ext (ad.t ac.ext)) xq xq xq (by rw [Nt.tapL_at p l xq, ← Nt.tapV_no aa]; exact RatN.more (K := 2) aW xq))⟩
  omega
 have qhb32 := of_decide_eq_false ag
 refine zyc (zzp (zzd (zyp (r := 9) (t := 29) [9, 29] xw xj zk zk xj (fun ap a6 a2 aZ ax => ?_))))
 have ay : PolN a6 ⟨some ⟨ap, 0, none⟩, y.n + 1, y.n + 1⟩ (Nt.tapL p l) 270000 := pol_data1 ax yv (RatsTop.done (hR.ext a2) xq (by rw [Nt.tapL_len]; omega)) xq
 refine zzf (zza 63 (.v (.slice (some ⟨ap, 0, none⟩) (y.n + 1) (y.n + 1))) (zza 4 (.v (.slice (some ⟨ap, 0, none⟩) (y.n + 1) (y.n + 1))) (zza 5 (zI 0) (zzb (zzo (ret0 [.slice (some ⟨ap, 0, none⟩) (y.n + 1) (y.n + 1), .int .i64 0] ⟨zzq, zzq, trivial⟩ fun u71 a4 => ?_))))))
 refine ⟨(⟨some ⟨ap, 0, none⟩, y.n + 1, y.n + 1⟩ : Sl), by rw [(Nt.tapE_ok ab xq).1]; rfl, by rw [(Nt.tapE_ok ab xq).2]; exact (ay.ext a4)⟩
namespace Nt
theorem upL_zero (k : List Rat) (i : Nat) : (upL k i).getD 0 0 = 1 := by
 induction i with
 | zero => rfl
 | succ i ih =>
  rw [upL_at k xq, ih]
  have h : (upL k i).getD (i + 1 - 0) 0 = 0 := co_ge (by rw [upL_len]; omega)
  rw [h, Rat.mul_zero, Rat.add_zero]
end Nt
namespace Nt
def lastN (k : List Rat) : Nat → Nat
 | 0 => 0
 | n + 1 => if k.getD n 0 = 0 then lastN k n else n + 1
theorem lastN_le (k : List Rat) (n : Nat) : lastN k n ≤ n := by
 induction n with
 | zero => exact Nat.le_refl _
 | succ n ih => unfold lastN; split <;> omega
theorem upL_top (k : List Rat) (m : Nat) : (upL k (m + 1)).getD (m + 1) 0 = k.getD m 0 := by
 rw [upL_at k xq, Nat.sub_self, upL_zero]
 have h : (upL k m).getD (m + 1) 0 = 0 := co_ge (by rw [upL_len]; omega)
 rw [h]; grind
theorem trim_up (k : List Rat) (n : Nat) : trimQ (upL k n) = upL k (lastN k n) := by
 induction n with
 | zero => exact (by decide +kernel : trimQ [((1 : Int) : Rat)] = [((1 : Int) : Rat)])
 | succ n ih =>
  unfold lastN
  split
  ·rename_i h
   rw [← ih]
   refine trim_ext fun i => ?_
   rcases Nat.lt_or_ge i (n + 2) with hl | hl
   ·show (upL k (n + 1)).getD i 0 = (upL k n).getD i 0
    rw [upL_at k hl, h]; grind
   rw [co_ge (by rw [upL_len]; omega), co_ge (by rw [upL_len]; omega)]
  rename_i h
  have e : (trimQ (upL k (n + 1))).length = n + 2 := trim_len_of (by rw [upL_len]; omega) (fun i hi => co_ge (by rw [upL_len]; omega)) (fun _ => by
   show (upL k (n + 1)).getD (n + 2 - 1) 0 ≠ 0
   rw [show n + 2 - 1 = n + 1 by omega, upL_top]; exact h)
  have h2 := trim_take (upL k (n + 1))
  rw [e, List.take_of_length_le (by rw [upL_len]; omega)] at h2
  exact h2.symm
theorem list_eq {l m : List Rat} (h : l.length = m.length) (k : ∀ i, i < l.length → l.getD i 0 = m.getD i 0) : l = m := by
 refine List.ext_getElem h fun i h1 h2 => ?_
 have := k i h1
 rw [List.getD_eq_getElem?_getD, List.getD_eq_getElem?_getD, List.getElem?_eq_getElem h1, List.getElem?_eq_getElem h2] at this
 exact this
theorem up_down (k : List Rat) {m : Nat} (h : smallQ (k.getD m 0) = true) : upL k m = dnS (upL k (m + 1)) (m + 1) := by
 refine list_eq (by rw [upL_len, dnS_len]) fun j hj => ?_
 rw [upL_len] at hj
 rw [dnS_at _ hj, upL_top, upL_at k xq, upL_at k (j := m + 1 - j) xq, show m + 1 - (m + 1 - j) = j by omega]
 have hz := small_nz h
 have e1 : ((1 : Int) : Rat) = 1 := rfl
 rw [e1] at *
 generalize (upL k m).getD j 0 = a
 generalize (upL k m).getD (m + 1 - j) 0 = b
 generalize k.getD m 0 = r at *
 have : a + r * b - r * (b + r * a) = a * (1 - r * r) := by grind
 rw [this]; grind
theorem up_sm {k : List Rat} {P b : Nat} (hP : 0 < P) (hk : ∀ i, Wh (k.getD i 0 * ((P : Int) : Rat)) b) (hPb : P ≤ 2 ^ b) (m : Nat) : Sm (upL k m) (P ^ m) ((b + 1) * m) ∧ P ^ m ≤ 2 ^ ((b + 1) * m) := by
 induction m with
 | zero => exact ⟨(Sm.ofInts (zs := [1]) (A := 0) yz).more (Nat.zero_le _), Nat.le_refl _⟩
 | succ m ih =>
  obtain ⟨ih, ihP⟩ := ih
  have wP : Wh ((P : Int) : Rat) b := whNat hPb
  have eA : (b + 1) * (m + 1) = b + (b + 1) * m + 1 := by rw [Nat.mul_succ]; omega
  refine ⟨⟨Nat.pow_pos hP, fun j => ?_⟩, ?_⟩
  ·rw [eA]
   rcases Nat.lt_or_ge j (m + 2) with hl | hl
   ·show Wh ((upL k (m + 1)).getD j 0 * _) _
    rw [upL_at k hl]
    have e : ((upL k m).getD j 0 + k.getD m 0 * (upL k m).getD (m + 1 - j) 0) * (((P ^ (m + 1) : Nat) : Int) : Rat) = ((P : Int) : Rat) * ((upL k m).getD j 0 * (((P ^ m : Nat) : Int) : Rat)) + (k.getD m 0 * ((P : Int) : Rat)) * ((upL k m).getD (m + 1 - j) 0 * (((P ^ m : Nat) : Int) : Rat)) := by
     have e2 : (((P ^ (m + 1) : Nat) : Int) : Rat) = ((P : Int) : Rat) * (((P ^ m : Nat) : Int) : Rat) := by rw [Nat.pow_succ, Nat.mul_comm, ← Rat.intCast_mul]; simp
     rw [e2]; grind
    rw [e]
    exact (wP.mul (ih.2 j)).add ((hk m).mul (ih.2 (m + 1 - j)))
   rw [co_ge (by rw [upL_len]; omega), Rat.zero_mul]; exact Wh.zero _
  rw [Nat.pow_succ, eA, Nat.pow_succ, Nat.pow_add, Nat.mul_comm]
  refine Nat.le_trans (Nat.mul_le_mul hPb ihP) ?_
  omega
theorem up_Down {k : List Rat} {n P b S : Nat} (hz : ∀ i, i < n → smallQ (k.getD i 0) = true) (hP : 0 < P) (hk : ∀ i, Wh (k.getD i 0 * ((P : Int) : Rat)) b) (hPb : P ≤ 2 ^ b) (hS : dg ((b + 1) * n) ≤ S) : Down (trimQ (upL k n)) (upL k) (lastN k n) S := by
 have hl := lastN_le k n
 rw [trim_up]
 generalize lastN k n = e at *
 refine ⟨by rw [upL_len], ?_, ?_, fun m _ => by rw [upL_len], fun m hm => up_down k (hz m xq), fun m h1 h2 => ?_, fun m hm => ?_⟩
 ·rw [upL_zero]; decide +kernel
 ·rw [upL_zero, show (1 : Rat) = ((1 : Int) : Rat) from rfl, divI]
 ·obtain ⟨j, rfl⟩ : ∃ j, m = j + 1 := ⟨m - 1, by omega⟩
  rw [upL_top]; exact hz j xq
 obtain ⟨h1, h2⟩ := up_sm hP hk hPb m
 exact ⟨_, _, h1, h2, Nat.le_trans (dg_mono (Nat.mul_le_mul_left _ xq)) hS⟩
end Nt
theorem ints_nil {u : World} : SlR .i64 u none 0 0 [] := ⟨rfl, Nat.le_refl _, Nat.zero_le _, fun h => absurd h (Nat.lt_irrefl 0)⟩
theorem all_nil {b : Int} : ∀ z ∈ ([] : List Int), -b ≤ z ∧ z ≤ b := fun z hz => by cases hz
theorem all_snoc {b : Int} {L : List Int} {z : Int} (h : ∀ z ∈ L, -b ≤ z ∧ z ≤ b) (h1 : -b ≤ z) (h2 : z ≤ b) : ∀ y ∈ L ++ [z], -b ≤ y ∧ y ≤ b := fun y hy => by
 rcases List.mem_append.1 hy with hy | hy
 ·exact h y hy
 simp at hy; subst hy; exact ⟨h1, h2⟩
theorem all_at {b : Int} {L : List Int} (h : ∀ z ∈ L, -b ≤ z ∧ z ≤ b) (hb : 0 ≤ b) (i : Nat) : -b ≤ L.getD i 0 ∧ L.getD i 0 ≤ b := ints_bd h ⟨by omega, hb⟩ i
namespace Nt
def wqL (f : Int) (l : List Int) : List Rat := l.map fun z => wq z f
theorem wqL_len (f : Int) (l : List Int) : (wqL f l).length = l.length := by unfold wqL; simp
theorem wqL_at (f : Int) (l : List Int) {i : Nat} (h : i < l.length) : (wqL f l).getD i 0 = wq (l.getD i 0) f := by
 unfold wqL
 rw [List.getD_eq_getElem?_getD, List.getElem?_map, List.getD_eq_getElem?_getD, List.getElem?_eq_getElem h]; rfl
theorem wqL_ge (f : Int) (l : List Int) {i : Nat} (h : l.length ≤ i) : (wqL f l).getD i 0 = 0 := co_ge (by rw [wqL_len]; exact h)
theorem wqL_small {f : Int} {l : List Int} (h : ∀ z ∈ l, -(p2i f - 1) ≤ z ∧ z ≤ p2i f - 1) : ∀ i, i < (wqL f l).length → smallQ ((wqL f l).getD i 0) = true := fun i hi => by
 rw [wqL_len] at hi
 rw [wqL_at f l hi]
 have hz := all_at h (by have := zxp f; omega) i
 exact small_iff.2 (wq_small xq xq)
theorem wqL_wh {f : Int} {l : List Int} {b : Nat} (hb : p2i f ≤ ((2 ^ b : Nat) : Int)) (h : ∀ z ∈ l, -(p2i f - 1) ≤ z ∧ z ≤ p2i f - 1) : ∀ i, Wh ((wqL f l).getD i 0 * ((((p2i f).toNat : Nat) : Int) : Rat)) b := fun i => by
 have hp := zxp f
 rw [Int.toNat_of_nonneg (Int.le_of_lt hp)]
 rcases Nat.lt_or_ge i l.length with hl | hl
 ·rw [wqL_at f l hl]
  have hz := all_at h xq i
  refine ⟨l.getD i 0, ?_, by omega⟩
  unfold wq
  exact Rat.div_mul_cancel (fun e => by have : p2i f = 0 := Rat.intCast_inj.1 e; omega)
 rw [wqL_ge f l hl, Rat.zero_mul]; exact Wh.zero _
def liS (f : Int) (k m : List Int) : Nat → List Rat
 | 0 => []
 | i + 1 => trimQ (addQ (liS f k m i) (trimQ ((revL (wqL f k) i).map (· * wq (m.getD i 0) f))))
theorem liS_len (f : Int) (k m : List Int) (n : Nat) : (liS f k m n).length ≤ n := by
 induction n with
 | zero => exact Nat.le_refl _
 | succ n ih =>
  have h9 : (trimQ ((revL (wqL f k) n).map (· * wq (m.getD n 0) f))).length ≤ n + 1 := map_lenQ (Nat.le_of_eq (revL_len _ _))
  refine Nat.le_trans (zzh _) ?_
  rw [addQ_len]
  omega
theorem li_down {f : Int} {k : List Int} (hf : f ≤ 8) (hk : k.length ≤ 6) (h : ∀ z ∈ k, -(p2i f - 1) ≤ z ∧ z ≤ p2i f - 1) : Down (trimQ (trimQ (upL (wqL f k) (wqL f k).length))) (upL (wqL f k)) (lastN (wqL f k) (wqL f k).length) 4 := by
 have hp := zxp f
 have hp8 : p2i f ≤ ((2 ^ 8 : Nat) : Int) := zwe (b := 8) hf
 rw [trim_trim]
 refine up_Down (P := (p2i f).toNat) (b := 8) (wqL_small h) xq (wqL_wh hp8 h) xq (Nat.le_trans (dg_mono (Nat.mul_le_mul_left _ (show (wqL f k).length ≤ 6 by rw [wqL_len]; exact hk))) yz)
end Nt
end Go.Proofs.YtgmkhhfbckjaeaaGreat
