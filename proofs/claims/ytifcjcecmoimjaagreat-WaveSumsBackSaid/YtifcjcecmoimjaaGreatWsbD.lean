/- Parts of the proof: contracts of functions, each walked once, and plain laws. -/
import Derived.Test.YtifcjcecmoimjaaGreatWsbC
namespace Go.Proofs.YtifcjcecmoimjaaGreat
open Go.RowKit
set_option linter.unusedVariables false
theorem k_natural {u w : World} {x : Sl} (d : Dat u w) : Calls Tryz.prog 110 #[x.v] w (Post u w fun v _ => v = .agg #[.bool false, x.v]) := by
 refine zzm (args := [.slice x.a x.n x.c]) Tryz.func110 rfl Tryz.ntmps110 (rs := [.cell 2 72]) Tryz.results110 (le_b rfl) (le_b rfl) d ?_
 refine sq9 (zzk 2 ⟨72, [.bool false, .slice none 0 0]⟩ (zzb (sq9 (zza 3 (.v x.v) (zza 4 (.v (.agg #[.bool false, x.v])) (zzj ⟨72, [.bool false, x.v]⟩ ty72 ?_))))))
 refine zzb (zzo (ret0 [.agg #[.bool false, .slice x.a x.n x.c]] ⟨zzr ty72 zze, trivial⟩ fun u11 e12 => ?_))
 exact rfl
theorem k_whole {u w : World} {i : IL} (d : Dat u w) : Calls Tryz.prog 87 #[i.v] w (Post u w fun v u' => ∃ y : Sl, v = .agg #[.bool i.s, i.m.v, y.v] ∧ NatN u' y 1 1) := by
 refine zzm (args := [i.v]) Tryz.func87 rfl Tryz.ntmps87 (rs := [.cell 2 74]) Tryz.results87 (le_b rfl) (le_b rfl) d ?_
 refine sq9 (zzk 1 ⟨72, i.cs⟩ (zzk 2 ⟨74, [.bool false, .slice none 0 0, .slice none 0 0]⟩ (zzb (sq9 (zzi 3 (.v (i.v)) ty72 zze (zxz 4 ⟨159, [.int .u32 1]⟩ 1 (fun b11 u12 e13 h14 => ?_)))))))
 refine zza 5 (.v (.agg #[.bool i.s, i.m.v, .slice (some ⟨b11, 0, none⟩) 1 1])) (zzj ⟨74, i.cs ++ [.slice (some ⟨b11, 0, none⟩) 1 1]⟩ ty74 ?_)
 refine zzb (zzo (ret0 [.agg #[.bool i.s, .slice i.m.a i.m.n i.m.c, .slice (some ⟨b11, 0, none⟩) 1 1]] ⟨zzr ty74 zze, trivial⟩ fun u15 e16 => ?_))
 exact ⟨_, rfl, ((one_data h14).ext e16)⟩
theorem k_quotient {u w : World} {i j : IL} (d : Dat u w) : Calls Tryz.prog 112 #[i.v, j.v] w (Post u w fun v _ => v = .agg #[.bool (!(i.s == j.s)), i.m.v, j.m.v]) := by
 refine zzm (args := [i.v, j.v]) Tryz.func112 rfl Tryz.ntmps112 (rs := [.cell 4 171]) Tryz.results112 (le_b rfl) (le_b rfl) d ?_
 refine sq9 (zzk 2 ⟨72, i.cs⟩ (zzk 3 ⟨72, j.cs⟩ (zzk 4 ⟨171, [.bool false, .slice none 0 0, .slice none 0 0]⟩ (zzb (sq9 (zza 5 (.adr 2 0) (zzi 6 (zB i.s) ty4 zzl (zza 7 (.adr 3 0) (zzi 8 (zB j.s) ty4 zzl (zza 9 (zB (!(i.s == j.s))) (zza 10 (.adr 2 1) ?_)))))))))))
 refine zzi 11 (.v i.m.v) ty70 zzl (zza 12 (.v (.agg #[.bool (!(i.s == j.s)), i.m.v])) (zza 13 (.adr 3 1) (zzi 14 (.v j.m.v) ty70 zzl (zza 15 (.v (.agg #[.bool (!(i.s == j.s)), i.m.v, j.m.v])) (zzj ⟨171, [.bool (!(i.s == j.s)), i.m.v, j.m.v]⟩ ty171 ?_)))))
 refine zzb (zzo (ret0 [.agg #[.bool (!(i.s == j.s)), .slice i.m.a i.m.n i.m.c, .slice j.m.a j.m.n j.m.c]] ⟨zzr ty171 zze, trivial⟩ fun u11 e12 => ?_))
 exact rfl
theorem k_flip {u w : World} {r : RL} (d : Dat u w) : Calls Tryz.prog 153 #[r.v] w (Post u w fun v _ => v = .agg #[.bool (!r.s), r.m.v, r.d.v]) := by
 refine zzm (args := [r.v]) Tryz.func153 rfl Tryz.ntmps153 (rs := [.cell 2 74]) Tryz.results153 (le_b rfl) (le_b rfl) d ?_
 refine sq9 (zzk 1 ⟨74, r.cs⟩ (zzk 2 ⟨74, [.bool false, .slice none 0 0, .slice none 0 0]⟩ (zzb (sq9 (zza 3 (.adr 1 0) (zza 4 (.adr 1 0) (zzi 5 (zB r.s) ty4 zzl (zza 6 (zB (!r.s)) (zza 7 (.adr 1 0) (zza 8 (.adr 1 1) (zzi 9 (.v r.m.v) ty70 zzl ?_)))))))))))
 refine zza 10 (.v (.agg #[.bool (!r.s), r.m.v])) (zza 11 (.adr 1 2) (zzi 12 (.v r.d.v) ty70 zzl (zza 13 (.v (.agg #[.bool (!r.s), r.m.v, r.d.v])) (zzj ⟨74, [.bool (!r.s), r.m.v, r.d.v]⟩ ty74 ?_))))
 refine zzb (zzo (ret0 [.agg #[.bool (!r.s), .slice r.m.a r.m.n r.m.c, .slice r.d.a r.d.n r.d.c]] ⟨zzr ty74 zze, trivial⟩ fun u11 e12 => ?_))
 exact rfl
set_option maxHeartbeats 1000000 in
theorem k_read {u w : World} {r : RL} {q : Rat} {K : Nat} (d : Dat u w) (h : RatV u r q K) : Calls Tryz.prog 105 #[r.v] w (Post u w fun v u' => ∃ (r' : RL) (wh : Bool), v = .agg #[.bool r'.s, r'.m.v, r'.d.v, .bool wh] ∧ NumV u' r' wh q K) := by
 obtain ⟨⟨z, D, hi, hd, hq⟩, hK⟩ := h
 change IntV u ⟨r.s, r.m⟩ z K at hi
 change NatV u r.d D K at hd
 by_cases hn : r.d.n = 1
 ·obtain ⟨b, o, ha, hc⟩ := nat_digit hd hn
  by_cases hD : D = 1
  ·refine zzm (args := [r.v]) Tryz.func105 rfl Tryz.ntmps105 (rs := [.cell 2 173]) Tryz.results105 (le_b rfl) (le_b rfl) d ?_
   refine sq9 (zzk 1 ⟨74, r.cs⟩ (zzk 2 ⟨173, [.bool false, .slice none 0 0, .slice none 0 0, .bool false]⟩ (zzb (zzd (sq9 (zza 3 (.adr 1 2) (zzi 4 (.v r.d.v) ty70 zzl (zza 5 (zI r.d.n) (zyq 6 (x := zB ((r.d.n : Int) == 1)) (zB true) (by rw [show ((r.d.n : Int) == 1) = true from (by simp [hn])]) (zza 7 (zB true) (zza 8 (.adr 1 2) ?_ (hw := w1 4 true 7))))))))))))
   refine zzi 9 (.v r.d.v) ty70 zzl ?_ (hw := w1 4 true 7)
   refine zya 10 o (i := 0) (n := r.d.n) zq ha xq (by rw [hn]; decide) sl70 ?_ (hw := w1 4 true 7)
   refine zyl 11 (.int .u32 D) ((Ext.refl _).cell hc) ty159 ?_ (hw := w1 4 true 7)
   refine zyq 12 (x := zB ((D : Int) == 1)) (zB true) (by rw [show ((D : Int) == 1) = true from (by simp [hD])]) ?_ (hw := w1 4 true 7)
   refine zza 13 (zB true) (zzb (zyr xj (sq9 (zza 14 (.adr 1 0) (zzi 15 (.v (.agg #[.bool r.s, r.m.v])) ty72 zze (zza 16 (.adr 1 2) (zzi 17 (.v r.d.v) ty70 zzl (zza 18 (.v (r.v)) (zza 19 (.v (.agg #[.bool r.s, r.m.v, r.d.v, .bool true])) (zzj ⟨173, r.cs ++ [.bool true]⟩ ty173 ?_))))))))))
   refine zzb (zzo (zzw (ret0 [.agg #[.bool r.s, .slice r.m.a r.m.n r.m.c, .slice r.d.a r.d.n r.d.c, .bool true]] ⟨zzr ty173 zze, trivial⟩ fun u11 e12 => ?_)))
   exact ⟨r, true, rfl, z, D, hi.ext e12, hd.ext e12, by omega, hq, fun _ => hD, hK⟩
  ·refine zzm (args := [r.v]) Tryz.func105 rfl Tryz.ntmps105 (rs := [.cell 2 173]) Tryz.results105 (le_b rfl) (le_b rfl) d ?_
   refine sq9 (zzk 1 ⟨74, r.cs⟩ (zzk 2 ⟨173, [.bool false, .slice none 0 0, .slice none 0 0, .bool false]⟩ (zzb (zzd (sq9 (zza 3 (.adr 1 2) (zzi 4 (.v r.d.v) ty70 zzl (zza 5 (zI r.d.n) (zyq 6 (x := zB ((r.d.n : Int) == 1)) (zB true) (by rw [show ((r.d.n : Int) == 1) = true from (by simp [hn])]) (zza 7 (zB true) (zza 8 (.adr 1 2) ?_ (hw := w1 4 true 7))))))))))))
   refine zzi 9 (.v r.d.v) ty70 zzl ?_ (hw := w1 4 true 7)
   refine zya 10 o (i := 0) (n := r.d.n) zq ha xq (by rw [hn]; decide) sl70 ?_ (hw := w1 4 true 7)
   refine zyl 11 (.int .u32 D) ((Ext.refl _).cell hc) ty159 ?_ (hw := w1 4 true 7)
   refine zyq 12 (x := zB ((D : Int) == 1)) (zB false) (by rw [show ((D : Int) == 1) = false from yy]) ?_ (hw := w1 4 true 7)
   refine zza 13 (zB false) (zzb (zys xj (zzs (zzp ?_))))
   refine zzd (sq9 (zza 20 (.adr 1 2) (zzi 21 (.v r.d.v) ty70 zzl (zzg 22 108 [r.d.v, .slice none 0 0] ?_))))
   intro w11 u11 e11 d11
   have k14 := k_natCompare d11 (hd.ext e11) (nat_nil _ 1)
   with_reducible refine zPm k14 ?_
   rintro _ u12 g13 rfl
   refine zza 23 (zB ((Nt.cmpS D 0) == 0)) (zzb (zzu (b := (Nt.cmpS D 0) == 0) xj (fun hb15 => ?_) (fun hb15 => ?_)))
   ·replace hb15 : ((Nt.cmpS D 0) == 0) = true := hb15
    refine sq9 (zza 24 (.v (.agg #[.bool false, .slice none 0 0])) (zxz 25 ⟨159, [.int .u32 1]⟩ 1 (fun b16 u17 e18 h19 => ?_)))
    refine zza 26 (.v (.agg #[.bool false, .slice none 0 0, .slice (some ⟨b16, 0, none⟩) 1 1])) (zza 27 (.v (.agg #[.bool false, .slice none 0 0, .slice (some ⟨b16, 0, none⟩) 1 1, .bool true])) (zzj ⟨173, [.bool false, .slice none 0 0, .slice (some ⟨b16, 0, none⟩) 1 1, .bool true]⟩ ty173 ?_))
    refine zzb (zzo (zzw (ret0 [.agg #[.bool false, .slice none 0 0, .slice (some ⟨b16, 0, none⟩) 1 1, .bool true]] ⟨zzr ty173 zze, trivial⟩ fun u20 e21 => ?_)))
    have hD0 : D = 0 := (Nt.cmp_nat0 hb15).1 rfl
    refine ⟨⟨false, ⟨none, 0, 0⟩, (⟨some ⟨b16, 0, none⟩, 1, 1⟩ : Sl)⟩, true, rfl, 0, 1, (⟨0, nat_nil _ K, rfl⟩ : IntV _ ⟨false, ⟨none, 0, 0⟩⟩ 0 K), ((one_data h19).ext e21).raw.more hK, by omega, ?_, fun _ => rfl, hK⟩
    rw [hq, hD0]; simp
   ·replace hb15 : ((Nt.cmpS D 0) == 0) = false := hb15
    refine zzs (zzp ?_)
    refine sq9 (zza 28 (.adr 1 0) (zzi 29 (.v (.agg #[.bool r.s, r.m.v])) ty72 zze (zza 30 (.adr 1 2) (zzi 31 (.v r.d.v) ty70 zzl (zza 32 (.v (r.v)) (zza 33 (.v (.agg #[.bool r.s, r.m.v, r.d.v, .bool false])) (zzj ⟨173, r.cs ++ [.bool false]⟩ ty173 ?_)))))))
    refine zzb (zzo (ret0 [.agg #[.bool r.s, .slice r.m.a r.m.n r.m.c, .slice r.d.a r.d.n r.d.c, .bool false]] ⟨zzr ty173 zze, trivial⟩ fun u22 e23 => ?_))
    have hD0 : 0 < D := (Nt.cmp_nat0 hb15).2 rfl
    exact ⟨r, false, rfl, z, D, hi.ext (e11.trans (g13.ext.trans e23)), hd.ext (e11.trans (g13.ext.trans e23)), hD0, hq, (fun k => by cases k), hK⟩
 ·refine zzm (args := [r.v]) Tryz.func105 rfl Tryz.ntmps105 (rs := [.cell 2 173]) Tryz.results105 (le_b rfl) (le_b rfl) d ?_
  refine sq9 (zzk 1 ⟨74, r.cs⟩ (zzk 2 ⟨173, [.bool false, .slice none 0 0, .slice none 0 0, .bool false]⟩ (zzb (zzd (sq9 (zza 3 (.adr 1 2) (zzi 4 (.v r.d.v) ty70 zzl (zza 5 (zI r.d.n) (zyq 6 (x := zB ((r.d.n : Int) == 1)) (zB false) (by rw [show ((r.d.n : Int) == 1) = false from yy]) (zza 7 (zB false) (zzn 8 (uw 4 true false 7) ?_)))))))))))
  refine zzn 9 (uw 4 true false 7) (zzn 10 (uw 4 true false 7) (zzn 11 (uw 4 true false 7) (zzn 12 (uw 4 true false 7) (zza 13 (zB false) (zzb (zys xj (zzs (zzp ?_))))))))
  refine zzd (sq9 (zza 20 (.adr 1 2) (zzi 21 (.v r.d.v) ty70 zzl (zzg 22 108 [r.d.v, .slice none 0 0] ?_))))
  intro w11 u11 e11 d11
  have k14 := k_natCompare d11 (hd.ext e11) (nat_nil _ 1)
  with_reducible refine zPm k14 ?_
  rintro _ u12 g13 rfl
  refine zza 23 (zB ((Nt.cmpS D 0) == 0)) (zzb (zzu (b := (Nt.cmpS D 0) == 0) xj (fun hb15 => ?_) (fun hb15 => ?_)))
  ·replace hb15 : ((Nt.cmpS D 0) == 0) = true := hb15
   refine sq9 (zza 24 (.v (.agg #[.bool false, .slice none 0 0])) (zxz 25 ⟨159, [.int .u32 1]⟩ 1 (fun b16 u17 e18 h19 => ?_)))
   refine zza 26 (.v (.agg #[.bool false, .slice none 0 0, .slice (some ⟨b16, 0, none⟩) 1 1])) (zza 27 (.v (.agg #[.bool false, .slice none 0 0, .slice (some ⟨b16, 0, none⟩) 1 1, .bool true])) (zzj ⟨173, [.bool false, .slice none 0 0, .slice (some ⟨b16, 0, none⟩) 1 1, .bool true]⟩ ty173 ?_))
   refine zzb (zzo (zzw (ret0 [.agg #[.bool false, .slice none 0 0, .slice (some ⟨b16, 0, none⟩) 1 1, .bool true]] ⟨zzr ty173 zze, trivial⟩ fun u20 e21 => ?_)))
   have hD0 : D = 0 := (Nt.cmp_nat0 hb15).1 rfl
   refine ⟨⟨false, ⟨none, 0, 0⟩, (⟨some ⟨b16, 0, none⟩, 1, 1⟩ : Sl)⟩, true, rfl, 0, 1, (⟨0, nat_nil _ K, rfl⟩ : IntV _ ⟨false, ⟨none, 0, 0⟩⟩ 0 K), ((one_data h19).ext e21).raw.more hK, by omega, ?_, fun _ => rfl, hK⟩
   rw [hq, hD0]; simp
  ·replace hb15 : ((Nt.cmpS D 0) == 0) = false := hb15
   refine zzs (zzp ?_)
   refine sq9 (zza 28 (.adr 1 0) (zzi 29 (.v (.agg #[.bool r.s, r.m.v])) ty72 zze (zza 30 (.adr 1 2) (zzi 31 (.v r.d.v) ty70 zzl (zza 32 (.v (r.v)) (zza 33 (.v (.agg #[.bool r.s, r.m.v, r.d.v, .bool false])) (zzj ⟨173, r.cs ++ [.bool false]⟩ ty173 ?_)))))))
   refine zzb (zzo (ret0 [.agg #[.bool r.s, .slice r.m.a r.m.n r.m.c, .slice r.d.a r.d.n r.d.c, .bool false]] ⟨zzr ty173 zze, trivial⟩ fun u22 e23 => ?_))
   have hD0 : 0 < D := (Nt.cmp_nat0 hb15).2 rfl
   exact ⟨r, false, rfl, z, D, hi.ext (e11.trans (g13.ext.trans e23)), hd.ext (e11.trans (g13.ext.trans e23)), hD0, hq, (fun k => by cases k), hK⟩
theorem k_isOne {u w : World} {x : Sl} {N K : Nat} (d : Dat u w) (h : NatN u x N K) : Calls Tryz.prog 145 #[x.v] w (Post u w fun v _ => v = .bool (decide (N = 1))) := by
 by_cases hn : x.n = 1
 ·obtain ⟨b, o, ha, hc⟩ := nat_digit h.raw hn
  refine zzm (args := [.slice x.a x.n x.c]) Tryz.func145 rfl Tryz.ntmps145 (rs := [.tmp 2]) Tryz.results145 (le_b rfl) (le_b rfl) d ?_
  refine sq9 (zza 2 (zB false) (zzb (sq9 (zza 3 (.v x.v) (zza 4 (zI x.n) (zyq 5 (x := zB ((x.n : Int) == 1)) (zB true) (by rw [show ((x.n : Int) == 1) = true from (by simp [hn])]) (zza 6 (zB true) (zza 7 (.v x.v) ?_ (hw := w1 3 true 6)))))))))
  refine zya 8 o (i := 0) (n := x.n) zq ha xq (by rw [hn]; decide) sl70 ?_ (hw := w1 3 true 6)
  refine zyl 9 (.int .u32 N) ((Ext.refl _).cell hc) ty159 ?_ (hw := w1 3 true 6)
  refine zza 10 (zB ((N : Int) == 1)) ?_ (hw := w1 3 true 6)
  refine zza 11 (zB ((N : Int) == 1)) (zza 2 (zB ((N : Int) == 1)) (zzb (zzo (ret0 [.bool ((N : Int) == 1)] ⟨zzq, trivial⟩ fun u11 e12 => ?_))))
  show Value.bool _ = Value.bool _
  congr 1
  rw [Bool.eq_iff_iff]
  simp <;> omega
 ·have hN : N ≠ 1 := fun e => hn (by rw [h.1, e, Nt.dl_one])
  refine zzm (args := [.slice x.a x.n x.c]) Tryz.func145 rfl Tryz.ntmps145 (rs := [.tmp 2]) Tryz.results145 (le_b rfl) (le_b rfl) d ?_
  refine sq9 (zza 2 (zB false) (zzb (sq9 (zza 3 (.v x.v) (zza 4 (zI x.n) (zyq 5 (x := zB ((x.n : Int) == 1)) (zB false) (by rw [show ((x.n : Int) == 1) = false from yy]) (zza 6 (zB false) (zzn 7 (uw 3 true false 6) (zzn 8 (uw 3 true false 6) (zzn 9 (uw 3 true false 6) (zzn 10 (uw 3 true false 6) ?_)))))))))))
  refine zza 11 (zB false) (zza 2 (zB false) (zzb (zzo (ret0 [.bool false] ⟨zzq, trivial⟩ fun u11 e12 => ?_))))
  show _ = _
  simp [tupV]
  exact hN
set_option maxHeartbeats 1000000 in
theorem k_lowest {u w : World} {i : IL} {z : Int} {y : Sl} {D K L : Nat} (d : Dat u w) (h1 : IntV u i z K) (hD : NatV u y D L) (hp : 0 < D) (hK : K ≤ 500000000) (hL : L ≤ 500000000) : Calls Tryz.prog 106 #[.agg #[.bool i.s, i.m.v, y.v]] w (Post u w fun v u' => ∃ r : RL, v = r.v ∧ RatN u' r (mkRat z D) (max K L)) := by
 obtain ⟨N, hN, hz⟩ := h1
 have hL1 : 1 ≤ L := by have h2 := hD.size; have h3 := Nt.dl_mono (x := D) (y := 1) xq; rw [Nt.dl_one] at h3; omega
 refine zzm (args := [.agg #[.bool i.s, .slice i.m.a i.m.n i.m.c, .slice y.a y.n y.c]]) Tryz.func106 rfl Tryz.ntmps106 (rs := [.cell 2 74]) Tryz.results106 (le_b rfl) (le_b rfl) d ?_
 refine sq9 (zzk 1 ⟨171, i.cs ++ [y.v]⟩ (zzk 2 ⟨74, [.bool false, .slice none 0 0, .slice none 0 0]⟩ (zzb (sq9 (zza 14 (.adr 1 0) (zza 15 (.adr 1 1) (zzi 16 (.v i.m.v) ty70 zzl (zza 17 (.adr 1 2) (zzi 18 (.v y.v) ty70 zzl (zzg 19 142 [i.m.v, y.v] ?_))))))))))
 intro w11 u11 e11 d11
 have k18 := k_natDivMod d11 (hN.ext e11) (hD.ext e11) hp xq xq
 with_reducible refine zPm k18 ?_
 rintro _ u16 g17 ⟨x12, x13, rfl, h14, h15⟩
 refine zza 13 (.v (.tuple #[x12.v, x13.v, .int .i64 0])) (zza 20 (.v x12.v) (zza 21 (.v x13.v) (zza 22 (zI 0) (zza 3 (.v x12.v) (zza 4 (.v x13.v) (zza 5 (zI 0) (zzb (zzd (sq9 (zza 23 (.v x13.v) (zza 24 (zI x13.n) ?_)))))))))))
 refine zza 25 (zB ((x13.n : Int) == 0)) (zzb (zzu (b := (x13.n : Int) == 0) xj (fun hb19 => ?_) (fun hb19 => ?_)))
 ·replace hb19 : ((x13.n : Int) == 0) = true := hb19
  have qhb19 : (x13.n : Int) = 0 := by simpa using hb19
  have hr : N % D = 0 := by have h7 := (h15).pos; simp at hb19; omega
  refine sq9 (zza 26 (.adr 1 0) (zza 27 (.adr 1 0) (zzi 28 (zB i.s) ty4 zzl (zza 29 (.v x12.v) (zza 30 (.v (.agg #[.bool i.s, x12.v])) (zzg 31 143 [.agg #[.bool i.s, x12.v]] ?_))))))
  intro w20 u20 e20 d20
  have k25 := k_intTrim d20 (IntV.same (s := i.s) (h14.ext e20).raw) xq
  with_reducible refine zPm k25 ?_
  rintro _ u23 g24 ⟨i21, rfl, h22⟩
  refine zzg 32 87 [i21.v] ?_
  intro w26 u26 e26 d26
  have k31 := k_whole (i := i21) d26
  with_reducible refine zPm k31 ?_
  rintro _ u29 g30 ⟨y27, rfl, h28⟩
  refine zzj ⟨74, i21.cs ++ [y27.v]⟩ ty74 ?_
  refine zzb (zzo (zzw (ret0 [.agg #[.bool i21.s, .slice i21.m.a i21.m.n i21.m.c, .slice y27.a y27.n y27.c]] ⟨zzr ty74 zze, trivial⟩ fun u32 e33 => ?_)))
  refine ⟨(⟨i21.s, i21.m, y27⟩ : RL), rfl, RatN.more (K := (max K 1)) ?_ xq⟩
  rw [hz, ← low1 hp hr]
  exact ((whole_rat (h22.ext (e26.trans g30.ext)) h28).ext e33)
 ·replace hb19 : ((x13.n : Int) == 0) = false := hb19
  have qhb19 : ¬ ((x13.n : Int) = 0) := by simpa using hb19
  have hr : N % D ≠ 0 := by have h7 := (h15).pos; simp at hb19; omega
  refine zzs (zzp ?_)
  refine sq9 (zza 33 (.adr 1 2) (zzi 34 (.v y.v) ty70 zzl (zza 35 (.v x13.v) (zzg 36 144 [y.v, x13.v] ?_))))
  intro w34 u34 e34 d34
  have k39 := k_natGcd d34 (hD.ext (e11.trans (g17.ext.trans e34))) (h15.ext e34).raw xq xq
  with_reducible refine zPm k39 ?_
  rintro _ u37 g38 ⟨x35, rfl, h36⟩
  refine zza 6 (.v x35.v) (zzb (zzd (sq9 (zza 37 (.v x35.v) (zzg 38 145 [x35.v] ?_)))))
  intro w40 u40 e40 d40
  have k43 := k_isOne d40 (h36.ext e40)
  with_reducible refine zPm k43 ?_
  rintro _ u41 g42 rfl
  refine zzb (zzu (b := decide ((Nat.gcd D (N % D)) = 1)) xj (fun hb44 => ?_) (fun hb44 => ?_))
  ·replace hb44 : (decide ((Nat.gcd D (N % D)) = 1)) = true := hb44
   have qhb44 := of_decide_eq_true hb44
   have hg : Nat.gcd D (N % D) = 1 := by simpa using hb44
   have hgp : 0 < Nat.gcd D (N % D) := Nat.gcd_pos_of_pos_left _ hp
   refine zzd (zzz [0, 1, 3, 0, 8, 31, 63, 127] [(0, []), (1, []), (3, []), (4, []), (2, []), (5, []), (6, []), (7, [])] xj xj (zza 39 (.adr 1 0) (zzi 40 (.v (i.v)) ty72 zze (zza 42 (.adr 1 2) (zzi 43 (.v y.v) ty70 zzl (zzg 41 143 [i.v] ?_))))))
   intro w45 u45 e45 d45
   have k50 := k_intTrim d45 (IntV.same (s := i.s) (hN.ext (e11.trans (g17.ext.trans (e34.trans (g38.ext.trans (e40.trans (g42.ext.trans e45)))))))) xq
   with_reducible refine zPm k50 ?_
   rintro _ u48 g49 ⟨i46, rfl, h47⟩
   refine zzg 44 129 [y.v] ?_
   intro w51 u51 e51 d51
   have k56 := k_natTrim d51 (hD.ext (e11.trans (g17.ext.trans (e34.trans (g38.ext.trans (e40.trans (g42.ext.trans (e45.trans (g49.ext.trans e51))))))))) xq
   with_reducible refine zPm k56 ?_
   rintro _ u54 g55 ⟨x52, rfl, h53⟩
   refine zza 45 (.v (.agg #[.bool i46.s, i46.m.v, x52.v])) (zzj ⟨74, i46.cs ++ [x52.v]⟩ ty74 ?_)
   refine zzc 70 [(2, .adr 2 0)] [(2, ⟨74, i46.cs ++ [x52.v]⟩)] (zzo (zzw (ret0 [.agg #[.bool i46.s, .slice i46.m.a i46.m.n i46.m.c, .slice x52.a x52.n x52.c]] ⟨zzr ty74 zze, trivial⟩ fun u57 e58 => ?_)))
   refine ⟨(⟨i46.s, i46.m, x52⟩ : RL), rfl, ?_⟩
   rw [hz]
   exact low2 hp hg (h47.ext (e51.trans (g55.ext.trans e58))) (h53.ext e58)
  ·replace hb44 : (decide ((Nat.gcd D (N % D)) = 1)) = false := hb44
   have qhb44 := of_decide_eq_false hb44
   have hg : ¬ Nat.gcd D (N % D) = 1 := by simpa using hb44
   have hgp : 0 < Nat.gcd D (N % D) := Nat.gcd_pos_of_pos_left _ hp
   refine zzs (zzp ?_)
   refine sq9 (zza 47 (.adr 1 0) (zza 48 (.adr 1 1) (zzi 49 (.v i.m.v) ty70 zzl (zza 50 (.v x35.v) (zzg 51 142 [i.m.v, x35.v] ?_)))))
   intro w59 u59 e59 d59
   have k66 := k_natDivMod d59 (hN.ext (e11.trans (g17.ext.trans (e34.trans (g38.ext.trans (e40.trans (g42.ext.trans e59))))))) (h36.ext (e40.trans (g42.ext.trans e59))).raw hgp xq xq
   with_reducible refine zPm k66 ?_
   rintro _ u64 g65 ⟨x60, x61, rfl, h62, h63⟩
   refine zza 46 (.v (.tuple #[x60.v, x61.v, .int .i64 0])) (zza 52 (.v x60.v) (zza 53 (.v x61.v) (zza 54 (zI 0) (zza 7 (.v x60.v) (zza 8 (.v x61.v) (zza 9 (zI 0) (zzc 70 [(1, .adr 1 0), (2, .adr 2 0), (6, .v x35.v), (7, .v x60.v)] [(1, ⟨171, i.cs ++ [y.v]⟩), (2, ⟨74, [.bool false, .slice none 0 0, .slice none 0 0]⟩)] (sq9 (zza 56 (.adr 1 2) (zzi 57 (.v y.v) ty70 zzl (zza 58 (.v x35.v) ?_)))))))))))
   refine zzg 59 142 [y.v, x35.v] ?_
   intro w67 u67 e67 d67
   have k74 := k_natDivMod d67 (hD.ext (e11.trans (g17.ext.trans (e34.trans (g38.ext.trans (e40.trans (g42.ext.trans (e59.trans (g65.ext.trans e67))))))))) (h36.ext (e40.trans (g42.ext.trans (e59.trans (g65.ext.trans e67))))).raw hgp xq xq
   with_reducible refine zPm k74 ?_
   rintro _ u72 g73 ⟨x68, x69, rfl, h70, h71⟩
   refine zza 55 (.v (.tuple #[x68.v, x69.v, .int .i64 0])) (zza 60 (.v x68.v) (zza 61 (.v x69.v) (zza 62 (zI 0) (zza 10 (.v x68.v) (zza 11 (.v x69.v) (zza 12 (zI 0) (zzb (sq9 (zza 63 (.adr 1 0) (zza 64 (.adr 1 0) (zzi 65 (zB i.s) ty4 zzl ?_)))))))))))
   refine zza 66 (.v x60.v) (zza 67 (.v (.agg #[.bool i.s, x60.v])) (zza 68 (.v x68.v) (zza 69 (.v (.agg #[.bool i.s, x60.v, x68.v])) (zzj ⟨74, [.bool i.s, x60.v, x68.v]⟩ ty74 ?_))))
   refine zzb (zzo (ret0 [.agg #[.bool i.s, .slice x60.a x60.n x60.c, .slice x68.a x68.n x68.c]] ⟨zzr ty74 zze, trivial⟩ fun u75 e76 => ?_))
   refine ⟨(⟨i.s, x60, x68⟩ : RL), rfl, RatN.more (K := max K L) ?_ xq⟩
   rw [hz]
   exact low3 hp hr (h62.ext (e67.trans (g73.ext.trans e76))) (h70.ext e76)
theorem k_ratTrim {u w : World} {r1 : RL} {x : Rat} {K : Nat} (d : Dat u w) (hr1 : RatV u r1 x K) (hK : K ≤ 200000000) : Calls Tryz.prog 67 #[r1.v] w (Post u w fun v u' => ∃ r : RL, v = r.v ∧ RatN u' r x K) := by
 refine zzm (args := [r1.v]) Tryz.func67 rfl Tryz.ntmps67 (rs := [.cell 2 74]) Tryz.results67 (le_b rfl) (le_b rfl) d ?_
 refine sq9 (zzk 1 ⟨74, r1.cs⟩ (zzk 2 ⟨74, [.bool false, .slice none 0 0, .slice none 0 0]⟩ (zzb (sq9 (zzi 3 (.v (r1.v)) ty74 zze (zzg 4 105 [r1.v] ?_))))))
 intro w11 u11 e11 d11
 have k15 := k_read d11 (hr1.ext e11)
 with_reducible refine zPm k15 ?_
 rintro _ u13 g14 ⟨r12, wh12, rfl, z12, D12, hi12, hd12, hp12, hq12, hw12, hk12⟩
 refine zza 5 (.v (r12.v)) (zzg 6 106 [r12.v] ?_)
 intro w16 u16 e16 d16
 have k21 := k_lowest d16 (hi12.ext e16) (hd12.ext e16) hp12 xq xq
 with_reducible refine zPm k21 ?_
 rintro _ u19 g20 ⟨r17, rfl, h18⟩
 refine zzj ⟨74, r17.cs⟩ ty74 ?_
 refine zzb (zzo (ret0 [r17.v] ⟨zzr ty74 zze, trivial⟩ fun u22 e23 => ?_))
 refine ⟨r17, rfl, RatN.more (K := (max K K)) ?_ xq⟩
 rw [hq12]; exact (h18.ext e23)
theorem k_ratOf {u w : World} {z : Int} (d : Dat u w) (h0 : -9223372036854775808 ≤ z) (h1 : z ≤ 9223372036854775807) : Calls Tryz.prog 46 #[.int .i64 z] w (Post u w fun v u' => ∃ r : RL, v = r.v ∧ RatN u' r (z : Rat) 2) := by
 refine zzm (args := [.int .i64 z]) Tryz.func46 rfl Tryz.ntmps46 (rs := [.cell 2 74]) Tryz.results46 (le_b rfl) (le_b rfl) d ?_
 refine sq9 (zzk 2 ⟨74, [.bool false, .slice none 0 0, .slice none 0 0]⟩ (zzb (sq9 (zza 3 (zI z) (zzg 4 88 [.int .i64 z] ?_)))))
 intro w11 u11 e11 d11
 have k16 := k_intOf d11 (z := z) xq xq
 with_reducible refine zPm k16 ?_
 rintro _ u14 g15 ⟨i12, rfl, h13⟩
 refine zzg 5 87 [i12.v] ?_
 intro w17 u17 e17 d17
 have k22 := k_whole (i := i12) d17
 with_reducible refine zPm k22 ?_
 rintro _ u20 g21 ⟨y18, rfl, h19⟩
 refine zzj ⟨74, i12.cs ++ [y18.v]⟩ ty74 ?_
 refine zzb (zzo (ret0 [.agg #[.bool i12.s, .slice i12.m.a i12.m.n i12.m.c, .slice y18.a y18.n y18.c]] ⟨zzr ty74 zze, trivial⟩ fun u23 e24 => ?_))
 refine ⟨(⟨i12.s, i12.m, y18⟩ : RL), rfl, RatN.more (K := (max 2 1)) ?_ xq⟩
 exact ((whole_rat (h13.ext (e17.trans g21.ext)) h19).ext e24)
theorem k_ratSign {u w : World} {r1 : RL} {x : Rat} {K : Nat} (d : Dat u w) (hr1 : RatV u r1 x K)  : Calls Tryz.prog 103 #[r1.v] w (Post u w fun v u' => v = .int .i64 (Nt.sgQ x)) := by
 refine zzm (args := [r1.v]) Tryz.func103 rfl Tryz.ntmps103 (rs := [.tmp 2]) Tryz.results103 (le_b rfl) (le_b rfl) d ?_
 refine sq9 (zzk 1 ⟨74, r1.cs⟩ (zza 2 (zI 0) (zzb (sq9 (zzi 3 (.v (r1.v)) ty74 zze (zzg 4 105 [r1.v] ?_))))))
 intro w11 u11 e11 d11
 have k15 := k_read d11 (hr1.ext e11)
 with_reducible refine zPm k15 ?_
 rintro _ u13 g14 ⟨r12, wh12, rfl, z12, D12, hi12, hd12, hp12, hq12, hw12, hk12⟩
 refine zza 5 (.v (r12.v)) (zza 6 (.v (.agg #[.bool r12.s, r12.m.v])) (zzg 7 141 [.agg #[.bool r12.s, r12.m.v]] ?_))
 intro w16 u16 e16 d16
 have k19 := k_intSign d16 (hi12.ext e16)
 with_reducible refine zPm k19 ?_
 rintro _ u17 g18 rfl
 refine zza 2 (zI (Nt.cmpS z12 0)) (zzb (zzo (ret0 [.int .i64 (Nt.cmpS z12 0)] ⟨zzq, trivial⟩ fun u20 e21 => ?_)))
 show _ = _
 rw [hq12, ← Nt.sg_mk hp12]
 rfl
theorem k_ratNeg {u w : World} {r1 : RL} {x : Rat} {K : Nat} (d : Dat u w) (hr1 : RatV u r1 x K) (hK : K ≤ 200000000) : Calls Tryz.prog 123 #[r1.v] w (Post u w fun v u' => ∃ r : RL, v = r.v ∧ RatN u' r (-x) K) := by
 refine zzm (args := [r1.v]) Tryz.func123 rfl Tryz.ntmps123 (rs := [.cell 2 74]) Tryz.results123 (le_b rfl) (le_b rfl) d ?_
 refine sq9 (zzk 1 ⟨74, r1.cs⟩ (zzk 2 ⟨74, [.bool false, .slice none 0 0, .slice none 0 0]⟩ (zzb (sq9 (zzi 3 (.v (r1.v)) ty74 zze (zzg 4 153 [r1.v] ?_))))))
 intro w11 u11 e11 d11
 have k14 := k_flip (r := r1) d11
 with_reducible refine zPm k14 ?_
 rintro _ u12 g13 rfl
 refine zzg 5 67 [.agg #[.bool (!r1.s), r1.m.v, r1.d.v]] ?_
 intro w15 u15 e15 d15
 have k20 := k_ratTrim d15 ((flip_rat (hr1.ext (e11.trans g13.ext))).ext e15) xq
 with_reducible refine zPm k20 ?_
 rintro _ u18 g19 ⟨r16, rfl, h17⟩
 refine zzj ⟨74, r16.cs⟩ ty74 ?_
 refine zzb (zzo (ret0 [r16.v] ⟨zzr ty74 zze, trivial⟩ fun u21 e22 => ?_))
 refine ⟨r16, rfl, RatN.more (K := K) ?_ xq⟩
 exact (h17.ext e22)
theorem k_ratAbs {u w : World} {r1 : RL} {x : Rat} {K : Nat} (d : Dat u w) (hr1 : RatV u r1 x K) (hK : K ≤ 200000000) : Calls Tryz.prog 152 #[r1.v] w (Post u w fun v u' => ∃ r : RL, v = r.v ∧ RatN u' r (Nt.absQ x) K) := by
 refine zzm (args := [r1.v]) Tryz.func152 rfl Tryz.ntmps152 (rs := [.cell 2 74]) Tryz.results152 (le_b rfl) (le_b rfl) d ?_
 refine sq9 (zzk 1 ⟨74, r1.cs⟩ (zzk 2 ⟨74, [.bool false, .slice none 0 0, .slice none 0 0]⟩ (zzb (sq9 (zza 3 (.adr 1 0) (zza 4 (.adr 1 1) (zzi 5 (.v r1.m.v) ty70 zzl (zza 6 (.v (.agg #[.bool false, r1.m.v])) (zza 7 (.adr 1 2) (zzi 8 (.v r1.d.v) ty70 zzl (zza 9 (.v (.agg #[.bool false, r1.m.v, r1.d.v])) ?_)))))))))))
 refine zzg 10 67 [.agg #[.bool false, r1.m.v, r1.d.v]] ?_
 intro w11 u11 e11 d11
 have k16 := k_ratTrim d11 ((abs_rat hr1).ext e11) xq
 with_reducible refine zPm k16 ?_
 rintro _ u14 g15 ⟨r12, rfl, h13⟩
 refine zzj ⟨74, r12.cs⟩ ty74 ?_
 refine zzb (zzo (ret0 [r12.v] ⟨zzr ty74 zze, trivial⟩ fun u17 e18 => ?_))
 refine ⟨r12, rfl, RatN.more (K := K) ?_ xq⟩
 exact (h13.ext e18)
set_option maxHeartbeats 1000000 in
theorem k_ratAdd {u w : World} {r1 : RL} {x : Rat} {K : Nat} {r2 : RL} {y : Rat} {L : Nat} (d : Dat u w) (hr1 : RatV u r1 x K) (hr2 : RatV u r2 y L) (hK : K ≤ 200000000) (hL : L ≤ 200000000) : Calls Tryz.prog 71 #[r1.v, r2.v] w (Post u w fun v u' => ∃ r : RL, v = r.v ∧ RatN u' r (x + y) (K + L + 1)) := by
 refine zzm (args := [r1.v, r2.v]) Tryz.func71 rfl Tryz.ntmps71 (rs := [.cell 4 74]) Tryz.results71 (le_b rfl) (le_b rfl) d ?_
 refine sq9 (zzk 2 ⟨74, r1.cs⟩ (zzk 3 ⟨74, r2.cs⟩ (zzk 4 ⟨74, [.bool false, .slice none 0 0, .slice none 0 0]⟩ (zzb (zzd (zzz [0, 1, 0, 7, 0, 0, 63, 127] [(0, []), (2, []), (4, []), (5, []), (1, []), (3, []), (6, []), (7, [])] xj xj (zzi 8 (.v (r1.v)) ty74 zze (zzi 10 (.v (r2.v)) ty74 zze (zzk 5 ⟨173, [.bool false, .slice none 0 0, .slice none 0 0, .bool false]⟩ (zzk 6 ⟨173, [.bool false, .slice none 0 0, .slice none 0 0, .bool false]⟩ (zzg 9 105 [r1.v] ?_)))))))))))
 intro w11 u11 e11 d11
 have k15 := k_read d11 (hr1.ext e11)
 with_reducible refine zPm k15 ?_
 rintro _ u13 g14 ⟨r12, wh12, rfl, z12, D12, hi12, hd12, hp12, hq12, hw12, hk12⟩
 refine zzg 11 105 [r2.v] ?_
 intro w16 u16 e16 d16
 have k20 := k_read d16 (hr2.ext (e11.trans (g14.ext.trans e16)))
 with_reducible refine zPm k20 ?_
 rintro _ u18 g19 ⟨r17, wh17, rfl, z17, D17, hi17, hd17, hp17, hq17, hw17, hk17⟩
 refine zzj ⟨173, r12.cs ++ [.bool wh12]⟩ ty173 ?_
 refine zzj ⟨173, r17.cs ++ [.bool wh17]⟩ ty173 ?_
 refine zzb (zzd (sq9 (zza 12 (.adr 5 3) (zzi 13 (zB wh12) ty4 zzl ?_))))
 rcases Bool.eq_false_or_eq_true wh12 with hs21 | hs21
 ·refine zyq 14 (x := zB wh12) (zB true) (by rw [hs21]) (zza 15 (.adr 6 3) ?_ (hw := w1 2 true 14))
  refine zzi 16 (zB wh17) ty4 zzl ?_ (hw := w1 2 true 14)
  refine zza 17 (zB wh17) (zzb (zzu (b := wh17) xj (fun hb22 => ?_) (fun hb22 => ?_)))
  ·replace hb22 : wh17 = true := hb22
   refine sq9 (zza 18 (.adr 5 0) (zza 19 (.adr 5 0) (zzi 20 (.v (.agg #[.bool r12.s, r12.m.v])) ty72 zze (zza 21 (.adr 6 0) (zza 22 (.adr 6 0) (zzi 23 (.v (.agg #[.bool r17.s, r17.m.v])) ty72 zze (zzg 24 107 [.agg #[.bool r12.s, r12.m.v], .agg #[.bool r17.s, r17.m.v]] ?_)))))))
   intro w23 u23 e23 d23
   have k28 := k_intAdd d23 (hi12.ext (e16.trans (g19.ext.trans e23))) (hi17.ext e23) xq xq
   with_reducible refine zPm k28 ?_
   rintro _ u26 g27 ⟨i24, rfl, h25⟩
   refine zzg 25 87 [i24.v] ?_
   intro w29 u29 e29 d29
   have k34 := k_whole (i := i24) d29
   with_reducible refine zPm k34 ?_
   rintro _ u32 g33 ⟨y30, rfl, h31⟩
   refine zzj ⟨74, i24.cs ++ [y30.v]⟩ ty74 ?_
   refine zzb (zzo (zzw (ret0 [.agg #[.bool i24.s, .slice i24.m.a i24.m.n i24.m.c, .slice y30.a y30.n y30.c]] ⟨zzr ty74 zze, trivial⟩ fun u35 e36 => ?_)))
   refine ⟨(⟨i24.s, i24.m, y30⟩ : RL), rfl, RatN.more (K := (max (max K L + 1) 1)) ?_ xq⟩
   rw [hq12, hq17, hw12 (by assumption), hw17 (by assumption), Nt.mk_one, Nt.mk_one, ← Rat.intCast_add]
   exact ((whole_rat (h25.ext (e29.trans g33.ext)) h31).ext e36)
  ·replace hb22 : wh17 = false := hb22
   refine zzs (zzp ?_)
   refine zzd (sq9 (zza 26 (.adr 5 0) (zza 27 (.adr 5 2) (zzi 28 (.v r12.d.v) ty70 zzl (zza 29 (.adr 6 0) (zza 30 (.adr 6 2) (zzi 31 (.v r17.d.v) ty70 zzl (zzg 32 108 [r12.d.v, r17.d.v] ?_))))))))
   intro w37 u37 e37 d37
   have k40 := k_natCompare d37 (hd12.ext (e16.trans (g19.ext.trans e37))) (hd17.ext e37)
   with_reducible refine zPm k40 ?_
   rintro _ u38 g39 rfl
   refine zza 33 (zB ((Nt.cmpS D12 D17) == 0)) (zzb (zzu (b := (Nt.cmpS D12 D17) == 0) xj (fun hb41 => ?_) (fun hb41 => ?_)))
   ·replace hb41 : ((Nt.cmpS D12 D17) == 0) = true := hb41
    refine zzd (zzz [0, 1, 3, 0, 8, 24, 63, 0, 128, 384, 1023, 2047, 4095] [(0, []), (1, []), (2, []), (3, []), (4, []), (5, []), (7, []), (8, []), (9, []), (6, []), (10, []), (11, []), (12, [])] xj xj (zza 34 (.adr 5 0) (zza 35 (.adr 5 0) (zzi 36 (.v (.agg #[.bool r12.s, r12.m.v])) ty72 zze (zza 37 (.adr 6 0) (zza 38 (.adr 6 0) (zzi 39 (.v (.agg #[.bool r17.s, r17.m.v])) ty72 zze (zza 41 (.adr 5 0) (zza 42 (.adr 5 2) (zzi 43 (.v r12.d.v) ty70 zzl (zzg 40 107 [.agg #[.bool r12.s, r12.m.v], .agg #[.bool r17.s, r17.m.v]] ?_)))))))))))
    intro w42 u42 e42 d42
    have k47 := k_intAdd d42 (hi12.ext (e16.trans (g19.ext.trans (e37.trans (g39.ext.trans e42))))) (hi17.ext (e37.trans (g39.ext.trans e42))) xq xq
    with_reducible refine zPm k47 ?_
    rintro _ u45 g46 ⟨i43, rfl, h44⟩
    refine zza 44 (.v (.agg #[.bool i43.s, i43.m.v, r12.d.v])) (zzg 45 106 [.agg #[.bool i43.s, i43.m.v, r12.d.v]] ?_)
    intro w48 u48 e48 d48
    have k53 := k_lowest d48 (h44.ext e48).raw (hd12.ext (e16.trans (g19.ext.trans (e37.trans (g39.ext.trans (e42.trans (g46.ext.trans e48))))))) hp12 xq xq
    with_reducible refine zPm k53 ?_
    rintro _ u51 g52 ⟨r49, rfl, h50⟩
    refine zzj ⟨74, r49.cs⟩ ty74 ?_
    refine zzc 73 [(4, .adr 4 0)] [(4, ⟨74, r49.cs⟩)] (zzo (zzw (ret0 [r49.v] ⟨zzr ty74 zze, trivial⟩ fun u54 e55 => ?_)))
    refine ⟨r49, rfl, RatN.more (K := (max (max K L + 1) K)) ?_ xq⟩
    have hD : D12 = D17 := Nt.cmp_natE hb41
    rw [hq12, hq17, ← hD, ← Nt.add_same hp12]
    exact (h50.ext e55)
   ·replace hb41 : ((Nt.cmpS D12 D17) == 0) = false := hb41
    refine zzs (zzp ?_)
    refine zzd (zzz [0, 1, 3, 0, 8, 24, 56, 127, 0, 256, 768, 0, 2048, 6144, 14591, 32767, 65535, 0, 262143] [(0, []), (1, []), (2, []), (3, []), (4, []), (5, []), (8, []), (9, []), (10, []), (11, []), (12, []), (13, []), (17, []), (6, []), (7, []), (14, []), (15, []), (16, []), (18, [])] xj xj (zza 46 (.adr 5 0) (zza 47 (.adr 5 0) (zzi 48 (.v (.agg #[.bool r12.s, r12.m.v])) ty72 zze (zza 49 (.adr 6 0) (zza 50 (.adr 6 2) (zzi 51 (.v r17.d.v) ty70 zzl (zza 54 (.adr 6 0) (zza 55 (.adr 6 0) (zzi 56 (.v (.agg #[.bool r17.s, r17.m.v])) ty72 zze (zza 57 (.adr 5 0) ?_)))))))))))
    refine zza 58 (.adr 5 2) (zzi 59 (.v r12.d.v) ty70 zzl (zzk 7 ⟨72, [.bool false, .slice none 0 0]⟩ (zzg 52 110 [r17.d.v] ?_)))
    intro w56 u56 e56 d56
    have k59 := k_natural (x := r17.d) d56
    with_reducible refine zPm k59 ?_
    rintro _ u57 g58 rfl
    refine zzg 53 109 [.agg #[.bool r12.s, r12.m.v], .agg #[.bool false, r17.d.v]] ?_
    intro w60 u60 e60 d60
    have k65 := k_intMul d60 (hi12.ext (e16.trans (g19.ext.trans (e37.trans (g39.ext.trans (e56.trans (g58.ext.trans e60))))))) (nat_int (hd17.ext (e37.trans (g39.ext.trans (e56.trans (g58.ext.trans e60)))))) xq xq
    with_reducible refine zPm k65 ?_
    rintro _ u63 g64 ⟨i61, rfl, h62⟩
    refine zzg 60 110 [r12.d.v] ?_
    intro w66 u66 e66 d66
    have k69 := k_natural (x := r12.d) d66
    with_reducible refine zPm k69 ?_
    rintro _ u67 g68 rfl
    refine zzg 61 109 [.agg #[.bool r17.s, r17.m.v], .agg #[.bool false, r12.d.v]] ?_
    intro w70 u70 e70 d70
    have k75 := k_intMul d70 (hi17.ext (e37.trans (g39.ext.trans (e56.trans (g58.ext.trans (e60.trans (g64.ext.trans (e66.trans (g68.ext.trans e70))))))))) (nat_int (hd12.ext (e16.trans (g19.ext.trans (e37.trans (g39.ext.trans (e56.trans (g58.ext.trans (e60.trans (g64.ext.trans (e66.trans (g68.ext.trans e70)))))))))))) xq xq
    with_reducible refine zPm k75 ?_
    rintro _ u73 g74 ⟨i71, rfl, h72⟩
    refine zzg 62 107 [i61.v, i71.v] ?_
    intro w76 u76 e76 d76
    have k81 := k_intAdd d76 (h62.ext (e66.trans (g68.ext.trans (e70.trans (g74.ext.trans e76))))).raw (h72.ext e76).raw xq xq
    with_reducible refine zPm k81 ?_
    rintro _ u79 g80 ⟨i77, rfl, h78⟩
    refine zzj ⟨72, i77.cs⟩ ty72 ?_
    refine zzc 73 [(4, .adr 4 0), (5, .adr 5 0), (6, .adr 6 0), (7, .adr 7 0)] [(4, ⟨74, [.bool false, .slice none 0 0, .slice none 0 0]⟩), (5, ⟨173, r12.cs ++ [.bool wh12]⟩), (6, ⟨173, r17.cs ++ [.bool wh17]⟩), (7, ⟨72, i77.cs⟩)] (zzd (zzz [0, 0, 2, 6, 0, 16, 48, 126, 255, 511, 1023] [(0, []), (1, []), (2, []), (3, []), (4, []), (5, []), (6, []), (7, []), (8, []), (9, []), (10, [])] xj xj (zzi 63 (.v (i77.v)) ty72 zze (zza 64 (.adr 5 0) (zza 65 (.adr 5 2) (zzi 66 (.v r12.d.v) ty70 zzl (zza 67 (.adr 6 0) (zza 68 (.adr 6 2) (zzi 69 (.v r17.d.v) ty70 zzl (zzg 70 111 [r12.d.v, r17.d.v] ?_))))))))))
    intro w82 u82 e82 d82
    have k87 := k_natMul d82 (hd12.ext (e16.trans (g19.ext.trans (e37.trans (g39.ext.trans (e56.trans (g58.ext.trans (e60.trans (g64.ext.trans (e66.trans (g68.ext.trans (e70.trans (g74.ext.trans (e76.trans (g80.ext.trans e82))))))))))))))) (hd17.ext (e37.trans (g39.ext.trans (e56.trans (g58.ext.trans (e60.trans (g64.ext.trans (e66.trans (g68.ext.trans (e70.trans (g74.ext.trans (e76.trans (g80.ext.trans e82))))))))))))) xq xq
    with_reducible refine zPm k87 ?_
    rintro _ u85 g86 ⟨x83, rfl, h84⟩
    refine zza 71 (.v (.agg #[.bool i77.s, i77.m.v, x83.v])) (zzg 72 106 [.agg #[.bool i77.s, i77.m.v, x83.v]] ?_)
    intro w88 u88 e88 d88
    have k93 := k_lowest d88 (h78.ext (e82.trans (g86.ext.trans e88))).raw (h84.ext e88).raw (Nat.mul_pos hp12 hp17) xq xq
    with_reducible refine zPm k93 ?_
    rintro _ u91 g92 ⟨r89, rfl, h90⟩
    refine zzj ⟨74, r89.cs⟩ ty74 ?_
    refine zzb (zzo (ret0 [r89.v] ⟨zzr ty74 zze, trivial⟩ fun u94 e95 => ?_))
    refine ⟨r89, rfl, RatN.more (K := (max (max (K + L) (L + K) + 1) (K + L))) ?_ xq⟩
    rw [hq12, hq17, ← Nt.add_mk hp12 hp17]
    exact (h90.ext e95)
 ·refine zyq 14 (x := zB wh12) (zB false) (by rw [hs21]) (zzn 15 (uw 2 true false 14) (zzn 16 (uw 2 true false 14) (zza 17 (zB false) (zzb (zys xj (zzs (zzp ?_)))))))
  refine zzd (sq9 (zza 26 (.adr 5 0) (zza 27 (.adr 5 2) (zzi 28 (.v r12.d.v) ty70 zzl (zza 29 (.adr 6 0) (zza 30 (.adr 6 2) (zzi 31 (.v r17.d.v) ty70 zzl (zzg 32 108 [r12.d.v, r17.d.v] ?_))))))))
  intro w96 u96 e96 d96
  have k99 := k_natCompare d96 (hd12.ext (e16.trans (g19.ext.trans e96))) (hd17.ext e96)
  with_reducible refine zPm k99 ?_
  rintro _ u97 g98 rfl
  refine zza 33 (zB ((Nt.cmpS D12 D17) == 0)) (zzb (zzu (b := (Nt.cmpS D12 D17) == 0) xj (fun hb100 => ?_) (fun hb100 => ?_)))
  ·replace hb100 : ((Nt.cmpS D12 D17) == 0) = true := hb100
   refine zzd (zzz [0, 1, 3, 0, 8, 24, 63, 0, 128, 384, 1023, 2047, 4095] [(0, []), (1, []), (2, []), (3, []), (4, []), (5, []), (7, []), (8, []), (9, []), (6, []), (10, []), (11, []), (12, [])] xj xj (zza 34 (.adr 5 0) (zza 35 (.adr 5 0) (zzi 36 (.v (.agg #[.bool r12.s, r12.m.v])) ty72 zze (zza 37 (.adr 6 0) (zza 38 (.adr 6 0) (zzi 39 (.v (.agg #[.bool r17.s, r17.m.v])) ty72 zze (zza 41 (.adr 5 0) (zza 42 (.adr 5 2) (zzi 43 (.v r12.d.v) ty70 zzl (zzg 40 107 [.agg #[.bool r12.s, r12.m.v], .agg #[.bool r17.s, r17.m.v]] ?_)))))))))))
   intro w101 u101 e101 d101
   have k106 := k_intAdd d101 (hi12.ext (e16.trans (g19.ext.trans (e96.trans (g98.ext.trans e101))))) (hi17.ext (e96.trans (g98.ext.trans e101))) xq xq
   with_reducible refine zPm k106 ?_
   rintro _ u104 g105 ⟨i102, rfl, h103⟩
   refine zza 44 (.v (.agg #[.bool i102.s, i102.m.v, r12.d.v])) (zzg 45 106 [.agg #[.bool i102.s, i102.m.v, r12.d.v]] ?_)
   intro w107 u107 e107 d107
   have k112 := k_lowest d107 (h103.ext e107).raw (hd12.ext (e16.trans (g19.ext.trans (e96.trans (g98.ext.trans (e101.trans (g105.ext.trans e107))))))) hp12 xq xq
   with_reducible refine zPm k112 ?_
   rintro _ u110 g111 ⟨r108, rfl, h109⟩
   refine zzj ⟨74, r108.cs⟩ ty74 ?_
   refine zzc 73 [(4, .adr 4 0)] [(4, ⟨74, r108.cs⟩)] (zzo (zzw (ret0 [r108.v] ⟨zzr ty74 zze, trivial⟩ fun u113 e114 => ?_)))
   refine ⟨r108, rfl, RatN.more (K := (max (max K L + 1) K)) ?_ xq⟩
   have hD : D12 = D17 := Nt.cmp_natE hb100
   rw [hq12, hq17, ← hD, ← Nt.add_same hp12]
   exact (h109.ext e114)
  ·replace hb100 : ((Nt.cmpS D12 D17) == 0) = false := hb100
   refine zzs (zzp ?_)
   refine zzd (zzz [0, 1, 3, 0, 8, 24, 56, 127, 0, 256, 768, 0, 2048, 6144, 14591, 32767, 65535, 0, 262143] [(0, []), (1, []), (2, []), (3, []), (4, []), (5, []), (8, []), (9, []), (10, []), (11, []), (12, []), (13, []), (17, []), (6, []), (7, []), (14, []), (15, []), (16, []), (18, [])] xj xj (zza 46 (.adr 5 0) (zza 47 (.adr 5 0) (zzi 48 (.v (.agg #[.bool r12.s, r12.m.v])) ty72 zze (zza 49 (.adr 6 0) (zza 50 (.adr 6 2) (zzi 51 (.v r17.d.v) ty70 zzl (zza 54 (.adr 6 0) (zza 55 (.adr 6 0) (zzi 56 (.v (.agg #[.bool r17.s, r17.m.v])) ty72 zze (zza 57 (.adr 5 0) ?_)))))))))))
   refine zza 58 (.adr 5 2) (zzi 59 (.v r12.d.v) ty70 zzl (zzk 7 ⟨72, [.bool false, .slice none 0 0]⟩ (zzg 52 110 [r17.d.v] ?_)))
   intro w115 u115 e115 d115
   have k118 := k_natural (x := r17.d) d115
   with_reducible refine zPm k118 ?_
   rintro _ u116 g117 rfl
   refine zzg 53 109 [.agg #[.bool r12.s, r12.m.v], .agg #[.bool false, r17.d.v]] ?_
   intro w119 u119 e119 d119
   have k124 := k_intMul d119 (hi12.ext (e16.trans (g19.ext.trans (e96.trans (g98.ext.trans (e115.trans (g117.ext.trans e119))))))) (nat_int (hd17.ext (e96.trans (g98.ext.trans (e115.trans (g117.ext.trans e119)))))) xq xq
   with_reducible refine zPm k124 ?_
   rintro _ u122 g123 ⟨i120, rfl, h121⟩
   refine zzg 60 110 [r12.d.v] ?_
   intro w125 u125 e125 d125
   have k128 := k_natural (x := r12.d) d125
   with_reducible refine zPm k128 ?_
   rintro _ u126 g127 rfl
   refine zzg 61 109 [.agg #[.bool r17.s, r17.m.v], .agg #[.bool false, r12.d.v]] ?_
   intro w129 u129 e129 d129
   have k134 := k_intMul d129 (hi17.ext (e96.trans (g98.ext.trans (e115.trans (g117.ext.trans (e119.trans (g123.ext.trans (e125.trans (g127.ext.trans e129))))))))) (nat_int (hd12.ext (e16.trans (g19.ext.trans (e96.trans (g98.ext.trans (e115.trans (g117.ext.trans (e119.trans (g123.ext.trans (e125.trans (g127.ext.trans e129)))))))))))) xq xq
   with_reducible refine zPm k134 ?_
   rintro _ u132 g133 ⟨i130, rfl, h131⟩
   refine zzg 62 107 [i120.v, i130.v] ?_
   intro w135 u135 e135 d135
   have k140 := k_intAdd d135 (h121.ext (e125.trans (g127.ext.trans (e129.trans (g133.ext.trans e135))))).raw (h131.ext e135).raw xq xq
   with_reducible refine zPm k140 ?_
   rintro _ u138 g139 ⟨i136, rfl, h137⟩
   refine zzj ⟨72, i136.cs⟩ ty72 ?_
   refine zzc 73 [(4, .adr 4 0), (5, .adr 5 0), (6, .adr 6 0), (7, .adr 7 0)] [(4, ⟨74, [.bool false, .slice none 0 0, .slice none 0 0]⟩), (5, ⟨173, r12.cs ++ [.bool wh12]⟩), (6, ⟨173, r17.cs ++ [.bool wh17]⟩), (7, ⟨72, i136.cs⟩)] (zzd (zzz [0, 0, 2, 6, 0, 16, 48, 126, 255, 511, 1023] [(0, []), (1, []), (2, []), (3, []), (4, []), (5, []), (6, []), (7, []), (8, []), (9, []), (10, [])] xj xj (zzi 63 (.v (i136.v)) ty72 zze (zza 64 (.adr 5 0) (zza 65 (.adr 5 2) (zzi 66 (.v r12.d.v) ty70 zzl (zza 67 (.adr 6 0) (zza 68 (.adr 6 2) (zzi 69 (.v r17.d.v) ty70 zzl (zzg 70 111 [r12.d.v, r17.d.v] ?_))))))))))
   intro w141 u141 e141 d141
   have k146 := k_natMul d141 (hd12.ext (e16.trans (g19.ext.trans (e96.trans (g98.ext.trans (e115.trans (g117.ext.trans (e119.trans (g123.ext.trans (e125.trans (g127.ext.trans (e129.trans (g133.ext.trans (e135.trans (g139.ext.trans e141))))))))))))))) (hd17.ext (e96.trans (g98.ext.trans (e115.trans (g117.ext.trans (e119.trans (g123.ext.trans (e125.trans (g127.ext.trans (e129.trans (g133.ext.trans (e135.trans (g139.ext.trans e141))))))))))))) xq xq
   with_reducible refine zPm k146 ?_
   rintro _ u144 g145 ⟨x142, rfl, h143⟩
   refine zza 71 (.v (.agg #[.bool i136.s, i136.m.v, x142.v])) (zzg 72 106 [.agg #[.bool i136.s, i136.m.v, x142.v]] ?_)
   intro w147 u147 e147 d147
   have k152 := k_lowest d147 (h137.ext (e141.trans (g145.ext.trans e147))).raw (h143.ext e147).raw (Nat.mul_pos hp12 hp17) xq xq
   with_reducible refine zPm k152 ?_
   rintro _ u150 g151 ⟨r148, rfl, h149⟩
   refine zzj ⟨74, r148.cs⟩ ty74 ?_
   refine zzb (zzo (ret0 [r148.v] ⟨zzr ty74 zze, trivial⟩ fun u153 e154 => ?_))
   refine ⟨r148, rfl, RatN.more (K := (max (max (K + L) (L + K) + 1) (K + L))) ?_ xq⟩
   rw [hq12, hq17, ← Nt.add_mk hp12 hp17]
   exact (h149.ext e154)
theorem k_ratSub {u w : World} {r1 : RL} {x : Rat} {K : Nat} {r2 : RL} {y : Rat} {L : Nat} (d : Dat u w) (hr1 : RatV u r1 x K) (hr2 : RatV u r2 y L) (hK : K ≤ 200000000) (hL : L ≤ 200000000) : Calls Tryz.prog 119 #[r1.v, r2.v] w (Post u w fun v u' => ∃ r : RL, v = r.v ∧ RatN u' r (x - y) (K + L + 1)) := by
 refine zzm (args := [r1.v, r2.v]) Tryz.func119 rfl Tryz.ntmps119 (rs := [.cell 4 74]) Tryz.results119 (le_b rfl) (le_b rfl) d ?_
 refine sq9 (zzk 2 ⟨74, r1.cs⟩ (zzk 3 ⟨74, r2.cs⟩ (zzk 4 ⟨74, [.bool false, .slice none 0 0, .slice none 0 0]⟩ (zzb (zzd (zzz [0, 0, 2, 7, 15] [(0, []), (1, []), (2, []), (3, []), (4, [])] xj xj (zzi 5 (.v (r1.v)) ty74 zze (zzi 6 (.v (r2.v)) ty74 zze (zzg 7 153 [r2.v] ?_)))))))))
 intro w11 u11 e11 d11
 have k14 := k_flip (r := r2) d11
 with_reducible refine zPm k14 ?_
 rintro _ u12 g13 rfl
 refine zzg 8 71 [r1.v, .agg #[.bool (!r2.s), r2.m.v, r2.d.v]] ?_
 intro w15 u15 e15 d15
 have k20 := k_ratAdd d15 (hr1.ext (e11.trans (g13.ext.trans e15))) ((flip_rat (hr2.ext (e11.trans g13.ext))).ext e15) xq xq
 with_reducible refine zPm k20 ?_
 rintro _ u18 g19 ⟨r16, rfl, h17⟩
 refine zzj ⟨74, r16.cs⟩ ty74 ?_
 refine zzb (zzo (ret0 [r16.v] ⟨zzr ty74 zze, trivial⟩ fun u21 e22 => ?_))
 refine ⟨r16, rfl, RatN.more (K := (K + L + 1)) ?_ xq⟩
 rw [Rat.sub_eq_add_neg]
 exact (h17.ext e22)
set_option maxHeartbeats 1000000 in
theorem k_ratMul {u w : World} {r1 : RL} {x : Rat} {K : Nat} {r2 : RL} {y : Rat} {L : Nat} (d : Dat u w) (hr1 : RatV u r1 x K) (hr2 : RatV u r2 y L) (hK : K ≤ 200000000) (hL : L ≤ 200000000) : Calls Tryz.prog 72 #[r1.v, r2.v] w (Post u w fun v u' => ∃ r : RL, v = r.v ∧ RatN u' r (x * y) (K + L)) := by
 refine zzm (args := [r1.v, r2.v]) Tryz.func72 rfl Tryz.ntmps72 (rs := [.cell 4 74]) Tryz.results72 (le_b rfl) (le_b rfl) d ?_
 refine sq9 (zzk 2 ⟨74, r1.cs⟩ (zzk 3 ⟨74, r2.cs⟩ (zzk 4 ⟨74, [.bool false, .slice none 0 0, .slice none 0 0]⟩ (zzb (zzd (zzz [0, 1, 0, 7, 0, 0, 63, 127] [(0, []), (2, []), (4, []), (5, []), (1, []), (3, []), (6, []), (7, [])] xj xj (zzi 8 (.v (r1.v)) ty74 zze (zzi 10 (.v (r2.v)) ty74 zze (zzk 5 ⟨173, [.bool false, .slice none 0 0, .slice none 0 0, .bool false]⟩ (zzk 6 ⟨173, [.bool false, .slice none 0 0, .slice none 0 0, .bool false]⟩ (zzg 9 105 [r1.v] ?_)))))))))))
 intro w11 u11 e11 d11
 have k15 := k_read d11 (hr1.ext e11)
 with_reducible refine zPm k15 ?_
 rintro _ u13 g14 ⟨r12, wh12, rfl, z12, D12, hi12, hd12, hp12, hq12, hw12, hk12⟩
 refine zzg 11 105 [r2.v] ?_
 intro w16 u16 e16 d16
 have k20 := k_read d16 (hr2.ext (e11.trans (g14.ext.trans e16)))
 with_reducible refine zPm k20 ?_
 rintro _ u18 g19 ⟨r17, wh17, rfl, z17, D17, hi17, hd17, hp17, hq17, hw17, hk17⟩
 refine zzj ⟨173, r12.cs ++ [.bool wh12]⟩ ty173 ?_
 refine zzj ⟨173, r17.cs ++ [.bool wh17]⟩ ty173 ?_
 refine zzb (sq9 (zza 12 (.adr 5 0) (zza 13 (.adr 5 0) (zzi 14 (.v (.agg #[.bool r12.s, r12.m.v])) ty72 zze (zza 15 (.adr 6 0) (zza 16 (.adr 6 0) (zzi 17 (.v (.agg #[.bool r17.s, r17.m.v])) ty72 zze (zzg 18 109 [.agg #[.bool r12.s, r12.m.v], .agg #[.bool r17.s, r17.m.v]] ?_))))))))
 intro w21 u21 e21 d21
 have k26 := k_intMul d21 (hi12.ext (e16.trans (g19.ext.trans e21))) (hi17.ext e21) xq xq
 with_reducible refine zPm k26 ?_
 rintro _ u24 g25 ⟨i22, rfl, h23⟩
 refine zzk 7 ⟨72, [.bool false, .slice none 0 0]⟩ (zzj ⟨72, i22.cs⟩ ty72 ?_)
 refine zzb (zzd (sq9 (zza 19 (.adr 5 3) (zzi 20 (zB wh12) ty4 zzl ?_))))
 rcases Bool.eq_false_or_eq_true wh12 with hs27 | hs27
 ·refine zyq 21 (x := zB wh12) (zB true) (by rw [hs27]) (zza 22 (.adr 6 3) ?_ (hw := w1 2 true 21))
  refine zzi 23 (zB wh17) ty4 zzl ?_ (hw := w1 2 true 21)
  refine zza 24 (zB wh17) (zzb (zzu (b := wh17) xj (fun hb28 => ?_) (fun hb28 => ?_)))
  ·replace hb28 : wh17 = true := hb28
   refine sq9 (zzi 25 (.v (i22.v)) ty72 zze (zzg 26 87 [i22.v] ?_))
   intro w29 u29 e29 d29
   have k34 := k_whole (i := i22) d29
   with_reducible refine zPm k34 ?_
   rintro _ u32 g33 ⟨y30, rfl, h31⟩
   refine zzj ⟨74, i22.cs ++ [y30.v]⟩ ty74 ?_
   refine zzb (zzo (zzw (ret0 [.agg #[.bool i22.s, .slice i22.m.a i22.m.n i22.m.c, .slice y30.a y30.n y30.c]] ⟨zzr ty74 zze, trivial⟩ fun u35 e36 => ?_)))
   refine ⟨(⟨i22.s, i22.m, y30⟩ : RL), rfl, RatN.more (K := (max (K + L) 1)) ?_ xq⟩
   rw [hq12, hq17, hw12 (by assumption), hw17 (by assumption), Nt.mk_one, Nt.mk_one, ← Rat.intCast_mul]
   exact ((whole_rat (h23.ext (e29.trans g33.ext)) h31).ext e36)
  ·replace hb28 : wh17 = false := hb28
   refine zzs (zzp ?_)
   refine zzd (zzz [0, 0, 2, 6, 0, 16, 48, 126, 255, 511, 1023] [(0, []), (1, []), (2, []), (3, []), (4, []), (5, []), (6, []), (7, []), (8, []), (9, []), (10, [])] xj xj (zzi 27 (.v (i22.v)) ty72 zze (zza 28 (.adr 5 0) (zza 29 (.adr 5 2) (zzi 30 (.v r12.d.v) ty70 zzl (zza 31 (.adr 6 0) (zza 32 (.adr 6 2) (zzi 33 (.v r17.d.v) ty70 zzl (zzg 34 111 [r12.d.v, r17.d.v] ?_)))))))))
   intro w37 u37 e37 d37
   have k42 := k_natMul d37 (hd12.ext (e16.trans (g19.ext.trans (e21.trans (g25.ext.trans e37))))) (hd17.ext (e21.trans (g25.ext.trans e37))) xq xq
   with_reducible refine zPm k42 ?_
   rintro _ u40 g41 ⟨x38, rfl, h39⟩
   refine zza 35 (.v (.agg #[.bool i22.s, i22.m.v, x38.v])) (zzg 36 106 [.agg #[.bool i22.s, i22.m.v, x38.v]] ?_)
   intro w43 u43 e43 d43
   have k48 := k_lowest d43 (h23.ext (e37.trans (g41.ext.trans e43))).raw (h39.ext e43).raw (Nat.mul_pos hp12 hp17) xq xq
   with_reducible refine zPm k48 ?_
   rintro _ u46 g47 ⟨r44, rfl, h45⟩
   refine zzj ⟨74, r44.cs⟩ ty74 ?_
   refine zzc 37 [(4, .adr 4 0)] [(4, ⟨74, r44.cs⟩)] (zzo (ret0 [r44.v] ⟨zzr ty74 zze, trivial⟩ fun u49 e50 => ?_))
   refine ⟨r44, rfl, RatN.more (K := (max (K + L) (K + L))) ?_ xq⟩
   rw [hq12, hq17, ← Nt.mul_mk]
   exact (h45.ext e50)
 ·refine zyq 21 (x := zB wh12) (zB false) (by rw [hs27]) (zzn 22 (uw 2 true false 21) (zzn 23 (uw 2 true false 21) (zza 24 (zB false) (zzb (zys xj (zzs (zzp ?_)))))))
  refine zzd (zzz [0, 0, 2, 6, 0, 16, 48, 126, 255, 511, 1023] [(0, []), (1, []), (2, []), (3, []), (4, []), (5, []), (6, []), (7, []), (8, []), (9, []), (10, [])] xj xj (zzi 27 (.v (i22.v)) ty72 zze (zza 28 (.adr 5 0) (zza 29 (.adr 5 2) (zzi 30 (.v r12.d.v) ty70 zzl (zza 31 (.adr 6 0) (zza 32 (.adr 6 2) (zzi 33 (.v r17.d.v) ty70 zzl (zzg 34 111 [r12.d.v, r17.d.v] ?_)))))))))
  intro w51 u51 e51 d51
  have k56 := k_natMul d51 (hd12.ext (e16.trans (g19.ext.trans (e21.trans (g25.ext.trans e51))))) (hd17.ext (e21.trans (g25.ext.trans e51))) xq xq
  with_reducible refine zPm k56 ?_
  rintro _ u54 g55 ⟨x52, rfl, h53⟩
  refine zza 35 (.v (.agg #[.bool i22.s, i22.m.v, x52.v])) (zzg 36 106 [.agg #[.bool i22.s, i22.m.v, x52.v]] ?_)
  intro w57 u57 e57 d57
  have k62 := k_lowest d57 (h23.ext (e51.trans (g55.ext.trans e57))).raw (h53.ext e57).raw (Nat.mul_pos hp12 hp17) xq xq
  with_reducible refine zPm k62 ?_
  rintro _ u60 g61 ⟨r58, rfl, h59⟩
  refine zzj ⟨74, r58.cs⟩ ty74 ?_
  refine zzc 37 [(4, .adr 4 0)] [(4, ⟨74, r58.cs⟩)] (zzo (ret0 [r58.v] ⟨zzr ty74 zze, trivial⟩ fun u63 e64 => ?_))
  refine ⟨r58, rfl, RatN.more (K := (max (K + L) (K + L))) ?_ xq⟩
  rw [hq12, hq17, ← Nt.mul_mk]
  exact (h59.ext e64)
theorem k_ratFrac {u w : World} {a b : Int} (d : Dat u w) (ha0 : -9223372036854775808 ≤ a) (ha1 : a ≤ 9223372036854775807) (hb0 : -9223372036854775808 ≤ b) (hb1 : b ≤ 9223372036854775807) : Calls Tryz.prog 73 #[.int .i64 a, .int .i64 b] w (Post u w fun v u' => ∃ r : RL, v = r.v ∧ RatN u' r ((a : Rat) / (b : Rat)) 2) := by
 refine zzm (args := [.int .i64 a, .int .i64 b]) Tryz.func73 rfl Tryz.ntmps73 (rs := [.cell 4 74]) Tryz.results73 (le_b rfl) (le_b rfl) d ?_
 refine sq9 (zzk 4 ⟨74, [.bool false, .slice none 0 0, .slice none 0 0]⟩ (zzb (zzd (sq9 (zza 5 (zI b) (zza 6 (zB (b == 0)) (zzb (zzu (b := b == 0) xj (fun hb11 => ?_) (fun hb11 => ?_)))))))))
 ·replace hb11 : (b == 0) = true := hb11
  refine sq9 (zzg 7 46 [.int .i64 0] ?_)
  intro w12 u12 e12 d12
  have k17 := k_ratOf d12 (z := 0) xq xq
  with_reducible refine zPm k17 ?_
  rintro _ u15 g16 ⟨r13, rfl, h14⟩
  refine zzj ⟨74, r13.cs⟩ ty74 ?_
  refine zzb (zzo (zzw (ret0 [r13.v] ⟨zzr ty74 zze, trivial⟩ fun u18 e19 => ?_)))
  refine ⟨r13, rfl, RatN.more (K := 2) ?_ xq⟩
  have hb0 : b = 0 := by simpa using hb11
  rw [hb0]; simp [Rat.div_def]; exact (h14.ext e19)
 ·replace hb11 : (b == 0) = false := hb11
  have hb0 : 0 < b.natAbs := by simp at hb11; omega
  refine zzs (zzp ?_)
  refine sq9 (zza 8 (zI a) (zzg 9 88 [.int .i64 a] ?_))
  intro w20 u20 e20 d20
  have k25 := k_intOf d20 (z := a) xq xq
  with_reducible refine zPm k25 ?_
  rintro _ u23 g24 ⟨i21, rfl, h22⟩
  refine zza 10 (zI b) (zzg 11 88 [.int .i64 b] ?_)
  intro w26 u26 e26 d26
  have k31 := k_intOf d26 (z := b) xq xq
  with_reducible refine zPm k31 ?_
  rintro _ u29 g30 ⟨i27, rfl, h28⟩
  refine zzg 12 112 [i21.v, i27.v] ?_
  intro w32 u32 e32 d32
  have k35 := k_quotient (i := i21) (j := i27) d32
  with_reducible refine zPm k35 ?_
  rintro _ u33 g34 rfl
  refine zzg 13 106 [.agg #[.bool (!(i21.s == i27.s)), i21.m.v, i27.m.v]] ?_
  intro w36 u36 e36 d36
  have k41 := k_lowest d36 ((quot_int (h22.ext (e26.trans (g30.ext.trans (e32.trans g34.ext)))) (h28.ext (e32.trans g34.ext))).ext e36) ((int_mag (h28.ext (e32.trans g34.ext))).ext e36).raw hb0 xq xq
  with_reducible refine zPm k41 ?_
  rintro _ u39 g40 ⟨r37, rfl, h38⟩
  refine zzj ⟨74, r37.cs⟩ ty74 ?_
  refine zzb (zzo (ret0 [r37.v] ⟨zzr ty74 zze, trivial⟩ fun u42 e43 => ?_))
  refine ⟨r37, rfl, RatN.more (K := (max 2 2)) ?_ xq⟩
  rw [← Nt.div_mk2 xq]
  exact (h38.ext e43)
def DivR (x y : Rat) (K : Nat) (v : Value) (u : World) : Prop := (v = .tuple #[.agg #[.bool false, .slice none 0 0, .slice none 0 0], .int .i64 3] ∧ y = 0) ∨ (y ≠ 0 ∧ ∃ r : RL, v = .tuple #[r.v, .int .i64 0] ∧ RatN u r (x / y) K)
set_option maxHeartbeats 1000000 in
theorem k_ratDiv {u w : World} {r1 : RL} {x : Rat} {K : Nat} {r2 : RL} {y : Rat} {L : Nat} (d : Dat u w) (hr1 : RatV u r1 x K) (hr2 : RatV u r2 y L) (hK : K ≤ 200000000) (hL : L ≤ 200000000) : Calls Tryz.prog 104 #[r1.v, r2.v] w (Post u w fun v u' => DivR x y (K + L) v u') := by
 refine zzm (args := [r1.v, r2.v]) Tryz.func104 rfl Tryz.ntmps104 (rs := [.cell 4 74, .tmp 5]) Tryz.results104 (le_b rfl) (le_b rfl) d ?_
 refine sq9 (zzk 2 ⟨74, r1.cs⟩ (zzk 3 ⟨74, r2.cs⟩ (zzk 4 ⟨74, [.bool false, .slice none 0 0, .slice none 0 0]⟩ (zza 5 (zI 0) (zzb (zzd (zzz [0, 1, 0, 7, 0, 0, 63, 127] [(0, []), (2, []), (4, []), (5, []), (1, []), (3, []), (6, []), (7, [])] xj xj (zzi 10 (.v (r1.v)) ty74 zze (zzi 12 (.v (r2.v)) ty74 zze (zzk 6 ⟨173, [.bool false, .slice none 0 0, .slice none 0 0, .bool false]⟩ (zzk 7 ⟨173, [.bool false, .slice none 0 0, .slice none 0 0, .bool false]⟩ ?_)))))))))))
 refine zzg 11 105 [r1.v] ?_
 intro w11 u11 e11 d11
 have k15 := k_read d11 (hr1.ext e11)
 with_reducible refine zPm k15 ?_
 rintro _ u13 g14 ⟨r12, wh12, rfl, z12, D12, hi12, hd12, hp12, hq12, hw12, hk12⟩
 refine zzg 13 105 [r2.v] ?_
 intro w16 u16 e16 d16
 have k20 := k_read d16 (hr2.ext (e11.trans (g14.ext.trans e16)))
 with_reducible refine zPm k20 ?_
 rintro _ u18 g19 ⟨r17, wh17, rfl, z17, D17, hi17, hd17, hp17, hq17, hw17, hk17⟩
 refine zzj ⟨173, r12.cs ++ [.bool wh12]⟩ ty173 ?_
 refine zzj ⟨173, r17.cs ++ [.bool wh17]⟩ ty173 ?_
 refine zzb (zzd (sq9 (zza 14 (.adr 7 0) (zza 15 (.adr 7 0) (zzi 16 (.v (.agg #[.bool r17.s, r17.m.v])) ty72 zze (zzg 17 141 [.agg #[.bool r17.s, r17.m.v]] ?_))))))
 intro w21 u21 e21 d21
 have k24 := k_intSign d21 (hi17.ext e21)
 with_reducible refine zPm k24 ?_
 rintro _ u22 g23 rfl
 refine zza 18 (zB ((Nt.cmpS z17 0) == 0)) (zzb (zzu (b := (Nt.cmpS z17 0) == 0) xj (fun hb25 => ?_) (fun hb25 => ?_)))
 ·replace hb25 : ((Nt.cmpS z17 0) == 0) = true := hb25
  refine sq9 (zza 19 (.v (.agg #[.bool false, .slice none 0 0, .slice none 0 0])) (zzj ⟨74, [.bool false, .slice none 0 0, .slice none 0 0]⟩ ty74 ?_))
  refine zza 5 (zI 3) (zzb (zzo (zzw (ret0 [.agg #[.bool false, .slice none 0 0, .slice none 0 0], .int .i64 3] ⟨zzr ty74 zze, zzq, trivial⟩ fun u26 e27 => ?_))))
  left
  exact ⟨rfl, by rw [hq17, Nt.cmp_eq0 hb25, Rat.zero_mkRat]⟩
 ·replace hb25 : ((Nt.cmpS z17 0) == 0) = false := hb25
  have hz0 : z17 ≠ 0 := Nt.cmp_ne0 hb25
  have hpp : 0 < ((D12 : Int) * z17 : Int).natAbs := Int.natAbs_pos.2 (Int.mul_ne_zero xq hz0)
  refine zzs (zzp ?_)
  refine zzd (zzz [0, 1, 3, 0, 8, 24, 56, 127, 0, 511] [(0, []), (1, []), (2, []), (3, []), (4, []), (5, []), (8, []), (6, []), (7, []), (9, [])] xj xj (zza 20 (.adr 6 0) (zza 21 (.adr 6 0) (zzi 22 (.v (.agg #[.bool r12.s, r12.m.v])) ty72 zze (zza 23 (.adr 7 0) (zza 24 (.adr 7 2) (zzi 25 (.v r17.d.v) ty70 zzl (zzk 8 ⟨72, [.bool false, .slice none 0 0]⟩ (zzg 26 110 [r17.d.v] ?_)))))))))
  intro w28 u28 e28 d28
  have k31 := k_natural (x := r17.d) d28
  with_reducible refine zPm k31 ?_
  rintro _ u29 g30 rfl
  refine zzg 27 109 [.agg #[.bool r12.s, r12.m.v], .agg #[.bool false, r17.d.v]] ?_
  intro w32 u32 e32 d32
  have k37 := k_intMul d32 (hi12.ext (e16.trans (g19.ext.trans (e21.trans (g23.ext.trans (e28.trans (g30.ext.trans e32))))))) (nat_int (hd17.ext (e21.trans (g23.ext.trans (e28.trans (g30.ext.trans e32)))))) xq xq
  with_reducible refine zPm k37 ?_
  rintro _ u35 g36 ⟨i33, rfl, h34⟩
  refine zzj ⟨72, i33.cs⟩ ty72 ?_
  refine zzb (zzd (zzz [0, 1, 3, 7, 0, 16, 48, 127, 0, 511] [(0, []), (1, []), (2, []), (4, []), (5, []), (6, []), (8, []), (3, []), (7, []), (9, [])] xj xj (zza 28 (.adr 6 0) (zza 29 (.adr 6 2) (zzi 30 (.v r12.d.v) ty70 zzl (zza 32 (.adr 7 0) (zza 33 (.adr 7 0) (zzi 34 (.v (.agg #[.bool r17.s, r17.m.v])) ty72 zze (zzk 9 ⟨72, [.bool false, .slice none 0 0]⟩ (zzg 31 110 [r12.d.v] ?_))))))))))
  intro w38 u38 e38 d38
  have k41 := k_natural (x := r12.d) d38
  with_reducible refine zPm k41 ?_
  rintro _ u39 g40 rfl
  refine zzg 35 109 [.agg #[.bool false, r12.d.v], .agg #[.bool r17.s, r17.m.v]] ?_
  intro w42 u42 e42 d42
  have k47 := k_intMul d42 (nat_int (hd12.ext (e16.trans (g19.ext.trans (e21.trans (g23.ext.trans (e28.trans (g30.ext.trans (e32.trans (g36.ext.trans (e38.trans (g40.ext.trans e42)))))))))))) (hi17.ext (e21.trans (g23.ext.trans (e28.trans (g30.ext.trans (e32.trans (g36.ext.trans (e38.trans (g40.ext.trans e42))))))))) xq xq
  with_reducible refine zPm k47 ?_
  rintro _ u45 g46 ⟨i43, rfl, h44⟩
  refine zzj ⟨72, i43.cs⟩ ty72 ?_
  refine zzc 40 [(4, .adr 4 0), (8, .adr 8 0), (9, .adr 9 0)] [(4, ⟨74, [.bool false, .slice none 0 0, .slice none 0 0]⟩), (8, ⟨72, i33.cs⟩), (9, ⟨72, i43.cs⟩)] (sq9 (zzi 36 (.v (i33.v)) ty72 zze (zzi 37 (.v (i43.v)) ty72 zze (zzg 38 112 [i33.v, i43.v] ?_))))
  intro w48 u48 e48 d48
  have k51 := k_quotient (i := i33) (j := i43) d48
  with_reducible refine zPm k51 ?_
  rintro _ u49 g50 rfl
  refine zzg 39 106 [.agg #[.bool (!(i33.s == i43.s)), i33.m.v, i43.m.v]] ?_
  intro w52 u52 e52 d52
  have k57 := k_lowest d52 ((quot_int (h34.ext (e38.trans (g40.ext.trans (e42.trans (g46.ext.trans (e48.trans g50.ext)))))) (h44.ext (e48.trans g50.ext))).ext e52) ((int_mag (h44.ext (e48.trans g50.ext))).ext e52).raw hpp xq xq
  with_reducible refine zPm k57 ?_
  rintro _ u55 g56 ⟨r53, rfl, h54⟩
  refine zzj ⟨74, r53.cs⟩ ty74 ?_
  refine zza 5 (zI 0) (zzb (zzo (ret0 [r53.v, .int .i64 0] ⟨zzr ty74 zze, zzq, trivial⟩ fun u58 e59 => ?_)))
  right
  refine ⟨?_, r53, rfl, RatN.more (K := (max (K + L) (K + L))) ?_ xq⟩
  ·rw [hq17]; exact (Rat.mkRat_ne_zero xq).2 hz0
  ·rw [hq12, hq17, ← Nt.quo_mk hp12 hp17 hz0, ← Nt.div_mk2 xq]
   exact (h54.ext e59)
theorem k_ratDiv1 {u w : World} {r1 r2 : RL} {x y : Rat} {K L : Nat} (d : Dat u w) (hr1 : RatV u r1 x K) (hr2 : RatV u r2 y L) (hy : y ≠ 0) (hK : K ≤ 200000000) (hL : L ≤ 200000000) : Calls Tryz.prog 104 #[r1.v, r2.v] w (Post u w fun v u' => ∃ r : RL, v = .tuple #[r.v, .int .i64 0] ∧ RatN u' r (x / y) (K + L)) :=
 Post.mono (k_ratDiv d hr1 hr2 hK hL) fun v u' _ h => h.elim (fun h => absurd h.2 hy) (fun h => h.2)
theorem k_cut {u w : World} {x : Sl} {l : List Rat} {K : Nat} (d : Dat u w) (hx : PolV u x l K) (hK : K ≤ 100000000) (hx9 : l.length ≤ 1000000000) : Calls Tryz.prog 113 #[x.v] w (Post u w fun v u' => v = .slice x.a (Nt.trimQ l).length x.c) := by
 have hlen := hx.len
 refine zzm (args := [.slice x.a x.n x.c]) Tryz.func113 rfl Tryz.ntmps113 (rs := [.tmp 2]) Tryz.results113 (le_b rfl) (le_b rfl) d ?_
 refine sq9 (zza 2 (.v (.slice none 0 0)) (zzb (sq9 (zza 4 (.v x.v) (zza 5 (zI x.n) (zza 3 (zI x.n) (zzb (zzd (zzt (zyn (I := fun m11 S' u' => ∃ (n : Nat), (m11 = n) ∧ (n ≤ l.length) ∧ (∀ i, n ≤ i → Nt.co l i = 0) ∧ (S' = St.of 22 [(0, .v (.slice x.a x.n x.c)), (3, zI n)] []) ∧ (Ext u u')) (fun m S u1 u2 e h => by obtain ⟨n, hm, p0, p1, hS, hE⟩ := h; exact ⟨n, hm, p0, p1, hS, hE.trans e⟩) _ yz ⟨x.n, rfl, by omega, fun i hi => Nt.co_ge xq, rfl, (Ext.refl _)⟩ ?_))))))))))
 rintro m11 _ u11 ⟨n, hm11, hn, hz, rfl, e11⟩
 refine zzd (sq9 (zza 6 (zI n) (zza 7 (zB (decide ((0 : Int) < (n : Int)))) ?_)))
 rcases Bool.eq_false_or_eq_true (decide ((0 : Int) < (n : Int))) with hs12 | hs12
 ·refine zyq 8 (x := zB (decide ((0 : Int) < (n : Int)))) (zB true) (by rw [hs12]) ?_
  have qhs12 := of_decide_eq_true hs12
  refine zza 9 (.v x.v) ?_ (hw := w1 2 true 8)
  refine zza 10 (zI n) ?_ (hw := w1 2 true 8)
  refine zyq 11 (x := zI (IntKind.i64.wrap ((n : Int) - 1))) (zI (n - 1 : Nat)) (eqI xz) ?_ (hw := w1 2 true 8)
  have hl13 := (hx.ext e11).len
  obtain ⟨r13, b13, o13, hA13, hc13, hr13⟩ := pol_at (hx.ext e11) (i := n - 1) xq
  refine zya 12 (o13 + (n - 1) * 3) (n := x.n) (off := o13) (sz := 3) (i := ((n - 1 : Nat) : Int)) xq hA13 xq xq sl40 ?_ (hw := w1 2 true 8)
  refine zym 13 r13.cs hc13 ty74 ?_ (hw := w1 2 true 8)
  refine zzg 14 103 [r13.v] ?_ (hw := w1 2 true 8)
  intro w14 u14 e14 d14
  have k17 := k_ratSign d14 (hr13.ext e14)
  with_reducible refine zPm k17 ?_
  rintro _ u15 g16 rfl
  refine zza 15 (zB ((Nt.sgQ (l.getD (n - 1) 0)) == 0)) ?_ (hw := w1 2 true 8)
  refine zza 16 (zB ((Nt.sgQ (l.getD (n - 1) 0)) == 0)) (zzb (zzu (b := (Nt.sgQ (l.getD (n - 1) 0)) == 0) xj (fun hb18 => ?_) (fun hb18 => ?_)))
  ·replace hb18 : ((Nt.sgQ (l.getD (n - 1) 0)) == 0) = true := hb18
   refine zzs (zzp ?_)
   refine zzt (zzf (zza 17 (zI n) (zyq 18 (x := zI (IntKind.i64.wrap ((n : Int) - 1))) (zI (n - 1 : Nat)) (eqI xz) (zza 3 (zI (n - 1 : Nat)) (zzx ?_)))))
   refine ⟨_, ?_, _, by exact zzv _ _ _, n - 1, rfl, by omega, (fun i hi => by by_cases e : i = n - 1; (rw [e]; have h9 := hb18; rw [Nt.sgQ_eq] at h9; exact of_decide_eq_true h9); exact hz i xq), rfl, (e11.trans (e14.trans g16.ext))⟩
   omega
  ·replace hb18 : ((Nt.sgQ (l.getD (n - 1) 0)) == 0) = false := hb18
   refine zyc (zzp (sq9 (zza 19 (.v x.v) (zza 20 (zI n) ?_))))
   have hl19 := (hx.ext (e11.trans (e14.trans g16.ext))).len
   have hc19 := (hx.ext (e11.trans (e14.trans g16.ext))).cap
   refine sy_front 21 (n := x.n) (c := x.c) n sl40 rfl xq ?_
   refine zza 2 (.v (.slice x.a n x.c)) (zzb (zzo (ret0 [.slice x.a n x.c] ⟨zzq, trivial⟩ fun u20 e21 => ?_)))
   have e := Nt.trim_len_of (l := l) hn hz (fun _ h => by have h9 := hb18; rw [Nt.sgQ_eq] at h9; exact of_decide_eq_false h9 h)
   show Value.slice _ _ _ = Value.slice _ _ _
   rw [e]
 ·refine zyq 8 (x := zB (decide ((0 : Int) < (n : Int)))) (zB false) (by rw [hs12]) ?_
  have qhs12 := of_decide_eq_false hs12
  refine zzn 9 (uw 2 true false 8) (zzn 10 (uw 2 true false 8) (zzn 11 (uw 2 true false 8) (zzn 12 (uw 2 true false 8) (zzn 13 (uw 2 true false 8) (zzn 14 (uw 2 true false 8) (zzn 15 (uw 2 true false 8) (zza 16 (zB false) (zzb (zys xj (zyc (zzp ?_)))))))))))
  refine sq9 (zza 19 (.v x.v) (zza 20 (zI n) ?_))
  have hl22 := (hx.ext e11).len
  have hc22 := (hx.ext e11).cap
  refine sy_front 21 (n := x.n) (c := x.c) n sl40 rfl xq ?_
  refine zza 2 (.v (.slice x.a n x.c)) (zzb (zzo (ret0 [.slice x.a n x.c] ⟨zzq, trivial⟩ fun u23 e24 => ?_)))
  have e := Nt.trim_len_of (l := l) hn hz (fun h => absurd h xq)
  show Value.slice _ _ _ = Value.slice _ _ _
  rw [e]
def NewR (u : World) (n : Nat) (t : List Rat) (K : Nat) (v : Value) (u' : World) : Prop := ∃ (b : Nat) (L : List RL), v = .slice (some ⟨b, 0, none⟩) n n ∧ u.heap.size ≤ b ∧ u'.heap[b]? = some (.cells (rcs L).toArray 74 (0, 0)) ∧ L.length = n ∧ RatsN u' L t K
theorem k_zeros {u w : World} {n : Nat} (d : Dat u w) (hn9 : n ≤ 1000000000) : Calls Tryz.prog 90 #[.int .i64 (n : Int)] w (Post u w fun v u' => NewR u n (List.replicate n 0) 2 v u') := by
 refine zzm (args := [.int .i64 n]) Tryz.func90 rfl Tryz.ntmps90 (rs := [.tmp 2]) Tryz.results90 (le_b rfl) (le_b rfl) d ?_
 refine sq9 (zza 2 (.v (.slice none 0 0)) (zzb (sq9 (zza 5 (zI n) (sy_make 6 (T := 40) (E := 74) (z := .agg #[.bool false, .slice none 0 0, .slice none 0 0]) (size := 3) (bytes := 56) n (rcs (List.replicate n rl0)) xj xj rfl rfl xq yj (made_rcs _) ?_)))))
 refine zza 3 (.slc 6 0 n n) (zzc 18 [(3, .slc 6 0 n n)] [(6, ⟨74, rcs (List.replicate n rl0)⟩)] (zzd (sq9 (zza 7 (.slc 6 0 n n) (zza 8 (zI n) (zza 9 (zI 0) (zzc 18 [(3, .slc 6 0 n n), (8, zI n), (9, zI 0)] [(6, ⟨74, rcs (List.replicate n rl0)⟩)] (zzt (zyn (I := fun m11 S' u' => ∃ (i : Nat) (L : List RL), (m11 = n - i) ∧ (i ≤ n) ∧ (L.length = n) ∧ (S' = St.of 18 [(3, .slc 6 0 n n), (8, zI n), (9, zI i)] [(6, ⟨74, rcs L⟩)]) ∧ (Ext u u') ∧ (RatsN u' (L.take i) ((List.replicate n (0 : Rat)).take i) 2)) (fun m S u1 u2 e h => by obtain ⟨i, L, hm, p0, p1, hS, hE, f0⟩ := h; exact ⟨i, L, hm, p0, p1, hS, hE.trans e, f0.ext e⟩) _ yz ⟨0, List.replicate n rl0, rfl, by omega, by simp, rfl, (Ext.refl _), RatsN.tnil _ _ _ _⟩ ?_)))))))))
 rintro m11 _ u11 ⟨i, L, hm11, hi, hL, rfl, e11, hR⟩
 refine sq9 (zza 10 (zB (decide ((i : Int) < (n : Int)))) (zzb (zzd (zzu (b := decide ((i : Int) < (n : Int))) xj (fun hb12 => ?_) (fun hb12 => ?_)))))
 ·replace hb12 : (decide ((i : Int) < (n : Int))) = true := hb12
  have qhb12 := of_decide_eq_true hb12
  refine zzs (zzp ?_)
  refine zzd (zzt (sq9 (zza 11 (zI i) (zza 4 (zI i) (zzb (zzf (zza 12 (.slc 6 0 n n) (zza 13 (zI i) (zzg 14 46 [.int .i64 0] ?_)))))))))
  intro w13 u13 e13 d13
  have k18 := k_ratOf d13 (z := 0) xq xq
  with_reducible refine zPm k18 ?_
  rintro _ u16 g17 ⟨r14, rfl, h15⟩
  refine zyw 15 (off' := i * 3) (n := n) (off := 0) (sz := 3) (i := (i : Int)) sl40 xq xq xq ?_
  refine zyv (V := ⟨74, rcs L⟩) (off := i * 3) (rcs ((L).set i r14)) ty74 zk (zyx (r := r14) (i := i) zv rfl) ?_
  refine zzx ?_
  refine zzp (zzf (zyq 16 (x := zI (IntKind.i64.wrap ((i : Int) + 1))) (zI (i + 1 : Nat)) (eqI xz) (zza 9 (zI (i + 1 : Nat)) (zzx ?_))))
  have ht19 : i < (List.replicate n (0 : Rat)).length := by simp; omega
  refine ⟨_, ?_, _, by exact zzv _ _ _, i + 1, (L).set i r14, rfl, by omega, by simpa using hL, rfl, (e11.trans (e13.trans g17.ext)), RatsN.tstep (hR.ext (e13.trans g17.ext)) xq ht19 (RatN.more (K := 2) h15 xq) (by rw [List.getD_eq_getElem?_getD, List.getElem?_replicate]; split <;> rfl)⟩
  omega
 ·replace hb12 : (decide ((i : Int) < (n : Int))) = false := hb12
  have qhb12 := of_decide_eq_false hb12
  refine zyc (zzp (zzd (zyp (r := 3) (t := 6) [3, 6] xk xj zj zj xj (fun b20 u21 e22 hb23 hh24 => ?_))))
  have hp25 : PolN u21 ⟨some ⟨b20, 0, none⟩, n, n⟩ (List.replicate n (0 : Rat)) 2 := pol_data1 hh24 yj (RatsN.tdone (hR.ext e22) xq yy) xq
  refine zzf (zza 17 (.v (.slice (some ⟨b20, 0, none⟩) n n)) (zza 2 (.v (.slice (some ⟨b20, 0, none⟩) n n)) (zzb (zzo (ret0 [.slice (some ⟨b20, 0, none⟩) n n] ⟨zzq, trivial⟩ fun u26 e27 => ?_)))))
  exact ⟨b20, L, rfl, hb23, e27.cells hh24, by omega, (RatsN.tdone (hR.ext (e22.trans e27)) xq yy)⟩
theorem k_poScale {u w : World} {x : Sl} {l : List Rat} {r : RL} {q : Rat} {K M : Nat} (d : Dat u w) (hx : PolV u x l K) (hr : RatV u r q M) (hK : K ≤ 50000000) (hx9 : l.length ≤ 1000000000) (hM : M ≤ 50000000) : Calls Tryz.prog 75 #[x.v, r.v] w (Post u w fun v u' => ∃ y : Sl, v = y.v ∧ PolN u' y (Nt.trimQ (l.map (· * q))) (K + M)) := by
 have hlen := hx.len
 refine zzm (args := [.slice x.a x.n x.c, r.v]) Tryz.func75 rfl Tryz.ntmps75 (rs := [.tmp 4]) Tryz.results75 (le_b rfl) (le_b rfl) d ?_
 refine sq9 (zzk 3 ⟨74, r.cs⟩ (zza 4 (.v (.slice none 0 0)) (zzb (sq9 (zza 7 (.v x.v) (zza 8 (zI x.n) (sy_make 9 (T := 40) (E := 74) (z := .agg #[.bool false, .slice none 0 0, .slice none 0 0]) (size := 3) (bytes := 56) x.n (rcs (List.replicate x.n rl0)) xj xj rfl rfl xq yj (made_rcs _) ?_)))))))
 refine zza 5 (.slc 9 0 x.n x.n) (zzc 27 [(0, .v x.v), (3, .adr 3 0), (5, .slc 9 0 x.n x.n)] [(3, ⟨74, r.cs⟩), (9, ⟨74, rcs (List.replicate x.n rl0)⟩)] (zzd (sq9 (zza 10 (.slc 9 0 x.n x.n) (zza 11 (zI x.n) (zza 12 (zI 0) (zzc 27 [(0, .v x.v), (3, .adr 3 0), (5, .slc 9 0 x.n x.n), (11, zI x.n), (12, zI 0)] [(3, ⟨74, r.cs⟩), (9, ⟨74, rcs (List.replicate x.n rl0)⟩)] (zzt (zyn (I := fun m11 S' u' => ∃ (i : Nat) (L : List RL), (m11 = x.n - i) ∧ (i ≤ x.n) ∧ (L.length = x.n) ∧ (S' = St.of 27 [(0, .v (.slice x.a x.n x.c)), (3, .adr 3 0), (5, .slc 9 0 x.n x.n), (11, zI x.n), (12, zI i)] [(3, ⟨74, r.cs⟩), (9, ⟨74, rcs L⟩)]) ∧ (Ext u u') ∧ (RatsN u' (L.take i) ((l.map (· * q)).take i) (K + M))) (fun m S u1 u2 e h => by obtain ⟨i, L, hm, p0, p1, hS, hE, f0⟩ := h; exact ⟨i, L, hm, p0, p1, hS, hE.trans e, f0.ext e⟩) _ yz ⟨0, List.replicate x.n rl0, rfl, by omega, by simp, rfl, (Ext.refl _), RatsN.tnil _ _ _ _⟩ ?_)))))))))
 rintro m11 _ u11 ⟨i, L, hm11, hi, hL, rfl, e11, hR⟩
 refine sq9 (zza 13 (zB (decide ((i : Int) < (x.n : Int)))) (zzb (zzd (zzu (b := decide ((i : Int) < (x.n : Int))) xj (fun hb12 => ?_) (fun hb12 => ?_)))))
 ·replace hb12 : (decide ((i : Int) < (x.n : Int))) = true := hb12
  have qhb12 := of_decide_eq_true hb12
  refine zzs (zzp ?_)
  refine zzd (zzt (sq9 (zza 14 (zI i) (zza 6 (zI i) (zzb (zzz [0, 0, 0, 0, 12, 28, 0, 124, 255, 511] [(0, []), (1, []), (2, []), (3, []), (4, []), (5, []), (6, []), (7, []), (8, []), (9, [])] xj xj (zza 15 (.slc 9 0 x.n x.n) (zza 16 (zI i) (zza 17 (.v x.v) (zza 18 (zI i) ?_))))))))))
  have hl13 := (hx.ext e11).len
  obtain ⟨r13, b13, o13, hA13, hc13, hr13⟩ := pol_at (hx.ext e11) (i := i) xq
  refine zya 19 (o13 + i * 3) (n := x.n) (off := o13) (sz := 3) (i := (i : Int)) xq hA13 xq xq sl40 (zym 20 r13.cs hc13 ty74 (zzi 21 (.v (r.v)) ty74 zze (zzg 22 72 [r13.v, r.v] ?_)))
  intro w14 u14 e14 d14
  have k19 := k_ratMul d14 (hr13.ext e14) (hr.ext (e11.trans e14)) xq xq
  with_reducible refine zPm k19 ?_
  rintro _ u17 g18 ⟨r15, rfl, h16⟩
  refine zyw 23 (off' := i * 3) (n := x.n) (off := 0) (sz := 3) (i := (i : Int)) sl40 xq xq xq ?_
  refine zyv (V := ⟨74, rcs L⟩) (off := i * 3) (rcs ((L).set i r15)) ty74 zk (zyx (r := r15) (i := i) zv rfl) ?_
  refine zzx ?_
  refine zzp (zzf (zyq 24 (x := zI (IntKind.i64.wrap ((i : Int) + 1))) (zI (i + 1 : Nat)) (eqI xz) (zza 12 (zI (i + 1 : Nat)) (zzx ?_))))
  have ht20 : i < (l.map (· * q)).length := by simp; omega
  refine ⟨_, ?_, _, by exact zzv _ _ _, i + 1, (L).set i r15, rfl, by omega, by simpa using hL, rfl, (e11.trans (e14.trans g18.ext)), RatsN.tstep (hR.ext (e14.trans g18.ext)) xq ht20 (RatN.more (K := (K + M)) h16 xq) (by simp [List.getElem?_eq_getElem (show i < l.length by omega)])⟩
  omega
 ·replace hb12 : (decide ((i : Int) < (x.n : Int))) = false := hb12
  have qhb12 := of_decide_eq_false hb12
  refine zyc (zzp (zzd (zyp (r := 5) (t := 9) [5, 9] xk xj zj zj xj (fun b21 u22 e23 hb24 hh25 => ?_))))
  have hp26 : PolN u22 ⟨some ⟨b21, 0, none⟩, x.n, x.n⟩ (l.map (· * q)) (K + M) := pol_data1 hh25 yj (RatsN.tdone (hR.ext e23) xq yy) xq
  refine zzf (zza 25 (.v (.slice (some ⟨b21, 0, none⟩) x.n x.n)) (zzg 26 113 [.slice (some ⟨b21, 0, none⟩) x.n x.n] ?_))
  intro w27 u27 e27 d27
  have k30 := k_cut d27 (hp26.ext e27).raw xq xw
  with_reducible refine zPm k30 ?_
  rintro _ u28 g29 rfl
  refine zza 4 (.v (.slice (some ⟨b21, 0, none⟩) (Nt.trimQ (l.map (· * q))).length x.n)) (zzb (zzo (ret0 [.slice (some ⟨b21, 0, none⟩) (Nt.trimQ (l.map (· * q))).length x.n] ⟨zzq, trivial⟩ fun u31 e32 => ?_)))
  refine ⟨(⟨some ⟨b21, 0, none⟩, (Nt.trimQ (l.map (· * q))).length, x.n⟩ : Sl), rfl, ?_⟩
  exact ((cut_N (hp26.ext (e27.trans g29.ext))).ext e32)
theorem k_poTrim {u w : World} {x : Sl} {l : List Rat} {K : Nat} (d : Dat u w) (hx : PolV u x l K) (hK : K ≤ 50000000) (hx9 : l.length ≤ 1000000000) : Calls Tryz.prog 76 #[x.v] w (Post u w fun v u' => ∃ y : Sl, v = y.v ∧ PolN u' y (Nt.trimQ l) K) := by
 have hlen := hx.len
 have htl := Nt.zzh l
 refine zzm (args := [.slice x.a x.n x.c]) Tryz.func76 rfl Tryz.ntmps76 (rs := [.tmp 2]) Tryz.results76 (le_b rfl) (le_b rfl) d ?_
 refine sq9 (zza 2 (.v (.slice none 0 0)) (zzb (sq9 (zza 5 (.v x.v) (zzg 6 113 [x.v] ?_)))))
 intro w11 u11 e11 d11
 have k14 := k_cut d11 (hx.ext e11) xq xw
 with_reducible refine zPm k14 ?_
 rintro _ u12 g13 rfl
 refine zza 7 (zI (((Nt.trimQ l).length : Nat) : Int)) (sy_make 8 (T := 40) (E := 74) (z := .agg #[.bool false, .slice none 0 0, .slice none 0 0]) (size := 3) (bytes := 56) ((Nt.trimQ l).length) (rcs (List.replicate ((Nt.trimQ l).length) rl0)) xj xj rfl rfl xq yj (made_rcs _) ?_)
 refine zza 3 (.slc 8 0 ((Nt.trimQ l).length) ((Nt.trimQ l).length)) (zzc 24 [(0, .v x.v), (3, .slc 8 0 ((Nt.trimQ l).length) ((Nt.trimQ l).length))] [(8, ⟨74, rcs (List.replicate ((Nt.trimQ l).length) rl0)⟩)] (zzd (sq9 (zza 9 (.slc 8 0 ((Nt.trimQ l).length) ((Nt.trimQ l).length)) (zza 10 (zI (((Nt.trimQ l).length : Nat) : Int)) (zza 11 (zI 0) (zzc 24 [(0, .v x.v), (3, .slc 8 0 ((Nt.trimQ l).length) ((Nt.trimQ l).length)), (10, zI (((Nt.trimQ l).length : Nat) : Int)), (11, zI 0)] [(8, ⟨74, rcs (List.replicate ((Nt.trimQ l).length) rl0)⟩)] (zzt (zyn (I := fun m15 S' u' => ∃ (i : Nat) (L : List RL), (m15 = ((Nt.trimQ l).length) - i) ∧ (i ≤ (Nt.trimQ l).length) ∧ (L.length = (Nt.trimQ l).length) ∧ (S' = St.of 24 [(0, .v (.slice x.a x.n x.c)), (3, .slc 8 0 ((Nt.trimQ l).length) ((Nt.trimQ l).length)), (10, zI (((Nt.trimQ l).length : Nat) : Int)), (11, zI i)] [(8, ⟨74, rcs L⟩)]) ∧ (Ext u12 u') ∧ (RatsN u' (L.take i) ((Nt.trimQ l).take i) K)) (fun m S u1 u2 e h => by obtain ⟨i, L, hm, p0, p1, hS, hE, f0⟩ := h; exact ⟨i, L, hm, p0, p1, hS, hE.trans e, f0.ext e⟩) _ yz ⟨0, List.replicate ((Nt.trimQ l).length) rl0, rfl, by omega, by simp, rfl, (Ext.refl _), RatsN.tnil _ _ _ _⟩ ?_)))))))))
 rintro m15 _ u15 ⟨i, L, hm15, hi, hL, rfl, e15, hR⟩
 refine sq9 (zza 12 (zB (decide ((i : Int) < (((Nt.trimQ l).length : Nat) : Int)))) (zzb (zzd (zzu (b := decide ((i : Int) < (((Nt.trimQ l).length : Nat) : Int))) xj (fun hb16 => ?_) (fun hb16 => ?_)))))
 ·replace hb16 : (decide ((i : Int) < (((Nt.trimQ l).length : Nat) : Int))) = true := hb16
  have qhb16 := of_decide_eq_true hb16
  refine zzs (zzp ?_)
  refine zzd (zzt (sq9 (zza 13 (zI i) (zza 4 (zI i) (zzb (zzf (zza 14 (.slc 8 0 ((Nt.trimQ l).length) ((Nt.trimQ l).length)) (zza 15 (zI i) (zza 16 (.v x.v) (zza 17 (zI i) ?_))))))))))
  have hl17 := (hx.ext (e11.trans (g13.ext.trans e15))).len
  obtain ⟨r17, b17, o17, hA17, hc17, hr17⟩ := pol_at (hx.ext (e11.trans (g13.ext.trans e15))) (i := i) xq
  refine zya 18 (o17 + i * 3) (n := x.n) (off := o17) (sz := 3) (i := (i : Int)) xq hA17 xq xq sl40 (zym 19 r17.cs hc17 ty74 (zzg 20 67 [r17.v] ?_))
  intro w18 u18 e18 d18
  have k23 := k_ratTrim d18 (hr17.ext e18) xq
  with_reducible refine zPm k23 ?_
  rintro _ u21 g22 ⟨r19, rfl, h20⟩
  refine zyw 21 (off' := i * 3) (n := (Nt.trimQ l).length) (off := 0) (sz := 3) (i := (i : Int)) sl40 xq xq xq ?_
  refine zyv (V := ⟨74, rcs L⟩) (off := i * 3) (rcs ((L).set i r19)) ty74 zk (zyx (r := r19) (i := i) zv rfl) ?_
  refine zzx ?_
  refine zzp (zzf (zyq 22 (x := zI (IntKind.i64.wrap ((i : Int) + 1))) (zI (i + 1 : Nat)) (eqI xz) (zza 11 (zI (i + 1 : Nat)) (zzx ?_))))
  have ht24 : i < (Nt.trimQ l).length := by skip; omega
  refine ⟨_, ?_, _, by exact zzv _ _ _, i + 1, (L).set i r19, rfl, by omega, by simpa using hL, rfl, (e15.trans (e18.trans g22.ext)), RatsN.tstep (hR.ext (e18.trans g22.ext)) xq ht24 (RatN.more (K := K) h20 xq) (Nt.trim_co l i).symm⟩
  omega
 ·replace hb16 : (decide ((i : Int) < (((Nt.trimQ l).length : Nat) : Int))) = false := hb16
  have qhb16 := of_decide_eq_false hb16
  refine zyc (zzp (zzd (zyp (r := 3) (t := 8) [3, 8] xk xj zj zj xj (fun b25 u26 e27 hb28 hh29 => ?_))))
  have hp30 : PolN u26 ⟨some ⟨b25, 0, none⟩, (Nt.trimQ l).length, (Nt.trimQ l).length⟩ (Nt.trimQ l) K := pol_data1 hh29 yj (RatsN.tdone (hR.ext e27) xq (by skip; omega)) xq
  refine zzf (zza 23 (.v (.slice (some ⟨b25, 0, none⟩) ((Nt.trimQ l).length) ((Nt.trimQ l).length))) (zza 2 (.v (.slice (some ⟨b25, 0, none⟩) ((Nt.trimQ l).length) ((Nt.trimQ l).length))) (zzb (zzo (ret0 [.slice (some ⟨b25, 0, none⟩) ((Nt.trimQ l).length) ((Nt.trimQ l).length)] ⟨zzq, trivial⟩ fun u31 e32 => ?_)))))
  refine ⟨(⟨some ⟨b25, 0, none⟩, (Nt.trimQ l).length, (Nt.trimQ l).length⟩ : Sl), rfl, ?_⟩
  exact (hp30.ext e32)
theorem k_poAdd {u w : World} {x : Sl} {l : List Rat} {y : Sl} {m : List Rat} {K M : Nat} (d : Dat u w) (hx : PolV u x l K) (hy : PolV u y m M) (hK : K ≤ 40000000) (hM : M ≤ 40000000) (hx9 : l.length ≤ 1000000000) (hy9 : m.length ≤ 1000000000) : Calls Tryz.prog 74 #[x.v, y.v] w (Post u w fun v u' => ∃ y : Sl, v = y.v ∧ PolN u' y (Nt.trimQ (Nt.addQ l m)) (K + M + 1)) := by
 have hlen := hx.len
 have hlen2 := hy.len
 refine zzm (args := [.slice x.a x.n x.c, .slice y.a y.n y.c]) Tryz.func74 rfl Tryz.ntmps74 (rs := [.tmp 4]) Tryz.results74 (le_b rfl) (le_b rfl) d ?_
 refine sq9 (zza 4 (.v (.slice none 0 0)) (zzb (zzd (sq9 (zza 7 (.v x.v) (zza 8 (zI x.n) (zza 9 (.v y.v) (zza 10 (zI y.n) (zza 11 (zB (decide ((x.n : Int) < (y.n : Int)))) (zzb (zzu (b := decide ((x.n : Int) < (y.n : Int))) xj (fun hb11 => ?_) (fun hb11 => ?_))))))))))))
 ·replace hb11 : (decide ((x.n : Int) < (y.n : Int))) = true := hb11
  have qhb11 := of_decide_eq_true hb11
  refine zzf (zza 12 (.v y.v) (zza 13 (.v x.v) (zza 0 (.v y.v) (zza 1 (.v x.v) (zzb (sq9 (zza 14 (.v y.v) (zza 15 (zI y.n) (sy_make 16 (T := 40) (E := 74) (z := .agg #[.bool false, .slice none 0 0, .slice none 0 0]) (size := 3) (bytes := 56) y.n (rcs (List.replicate y.n rl0)) xj xj rfl rfl xq yj (made_rcs _) ?_)))))))))
  refine zza 5 (.slc 16 0 y.n y.n) (zzc 49 [(0, .v y.v), (1, .v x.v), (5, .slc 16 0 y.n y.n)] [(16, ⟨74, rcs (List.replicate y.n rl0)⟩)] (zzd (sq9 (zza 17 (.slc 16 0 y.n y.n) (zza 18 (zI y.n) (zza 19 (zI 0) (zzc 49 [(0, .v y.v), (1, .v x.v), (5, .slc 16 0 y.n y.n), (18, zI y.n), (19, zI 0)] [(16, ⟨74, rcs (List.replicate y.n rl0)⟩)] (zzt (zyn (I := fun m12 S' u' => ∃ (i : Nat) (L : List RL), (m12 = y.n - i) ∧ (i ≤ y.n) ∧ (L.length = y.n) ∧ (S' = St.of 49 [(0, .v (.slice y.a y.n y.c)), (1, .v (.slice x.a x.n x.c)), (5, .slc 16 0 y.n y.n), (18, zI y.n), (19, zI i)] [(16, ⟨74, rcs L⟩)]) ∧ (Ext u u') ∧ (RatsN u' (L.take i) ((Nt.addQ l m).take i) (K + M + 1))) (fun m S u1 u2 e h => by obtain ⟨i, L, hm, p0, p1, hS, hE, f0⟩ := h; exact ⟨i, L, hm, p0, p1, hS, hE.trans e, f0.ext e⟩) _ yz ⟨0, List.replicate y.n rl0, rfl, by omega, by simp, rfl, (Ext.refl _), RatsN.tnil _ _ _ _⟩ ?_)))))))))
  rintro m12 _ u12 ⟨i, L, hm12, hi, hL, rfl, e12, hR⟩
  refine sq9 (zza 20 (zB (decide ((i : Int) < (y.n : Int)))) (zzb (zzd (zzu (b := decide ((i : Int) < (y.n : Int))) xj (fun hb13 => ?_) (fun hb13 => ?_)))))
  ·replace hb13 : (decide ((i : Int) < (y.n : Int))) = true := hb13
   have qhb13 := of_decide_eq_true hb13
   refine zzs (zzp ?_)
   refine zzd (zzt (sq9 (zza 21 (zI i) (zza 6 (zI i) (zzb (sq9 (zza 22 (zI i) (zza 23 (.v x.v) (zza 24 (zI x.n) (zza 25 (zB (decide ((i : Int) < (x.n : Int)))) (zzb ?_)))))))))))
   refine zzu (b := decide ((i : Int) < (x.n : Int))) xj (fun hb14 => ?_) (fun hb14 => ?_)
   ·replace hb14 : (decide ((i : Int) < (x.n : Int))) = true := hb14
    have qhb14 := of_decide_eq_true hb14
    refine zzz [0, 0, 0, 0, 12, 28, 0, 0, 192, 448, 1020, 2047, 4095] [(0, []), (1, []), (2, []), (3, []), (4, []), (5, []), (6, []), (7, []), (8, []), (9, []), (10, []), (11, []), (12, [])] xj xj (zza 26 (.slc 16 0 y.n y.n) (zza 27 (zI i) (zza 28 (.v y.v) (zza 29 (zI i) ?_))))
    have hl15 := (hy.ext e12).len
    obtain ⟨r15, b15, o15, hA15, hc15, hr15⟩ := pol_at (hy.ext e12) (i := i) xq
    refine zya 30 (o15 + i * 3) (n := y.n) (off := o15) (sz := 3) (i := (i : Int)) xq hA15 xq xq sl40 (zym 31 r15.cs hc15 ty74 (zza 32 (.v x.v) (zza 33 (zI i) ?_)))
    have hl16 := (hx.ext e12).len
    obtain ⟨r16, b16, o16, hA16, hc16, hr16⟩ := pol_at (hx.ext e12) (i := i) xq
    refine zya 34 (o16 + i * 3) (n := x.n) (off := o16) (sz := 3) (i := (i : Int)) xq hA16 xq xq sl40 (zym 35 r16.cs hc16 ty74 (zzg 36 71 [r15.v, r16.v] ?_))
    intro w17 u17 e17 d17
    have k22 := k_ratAdd d17 (hr15.ext e17) (hr16.ext e17) xq xq
    with_reducible refine zPm k22 ?_
    rintro _ u20 g21 ⟨r18, rfl, h19⟩
    refine zyw 37 (off' := i * 3) (n := y.n) (off := 0) (sz := 3) (i := (i : Int)) sl40 xq xq xq ?_
    refine zyv (V := ⟨74, rcs L⟩) (off := i * 3) (rcs ((L).set i r18)) ty74 zk (zyx (r := r18) (i := i) zv rfl) ?_
    refine zzx ?_
    refine zzp (zzf (zyq 46 (x := zI (IntKind.i64.wrap ((i : Int) + 1))) (zI (i + 1 : Nat)) (eqI xz) (zza 19 (zI (i + 1 : Nat)) (zzx ?_))))
    have ht23 : i < (Nt.addQ l m).length := by rw [Nt.addQ_len]; omega
    refine ⟨_, ?_, _, by exact zzv _ _ _, i + 1, (L).set i r18, rfl, by omega, by simpa using hL, rfl, (e12.trans (e17.trans g21.ext)), RatsN.tstep (hR.ext (e17.trans g21.ext)) xq ht23 (RatN.more (K := (M + K + 1)) h19 xq) (by have h9 := Nt.addQ_co l m i; unfold Nt.co at h9; show _ = List.getD _ _ _; rw [h9]; exact Rat.add_comm _ _)⟩
    omega
   ·replace hb14 : (decide ((i : Int) < (x.n : Int))) = false := hb14
    have qhb14 := of_decide_eq_false hb14
    refine zzf (zza 38 (.slc 16 0 y.n y.n) (zza 39 (zI i) (zza 40 (.v y.v) (zza 41 (zI i) ?_))))
    have hl24 := (hy.ext e12).len
    obtain ⟨r24, b24, o24, hA24, hc24, hr24⟩ := pol_at (hy.ext e12) (i := i) xq
    refine zya 42 (o24 + i * 3) (n := y.n) (off := o24) (sz := 3) (i := (i : Int)) xq hA24 xq xq sl40 (zym 43 r24.cs hc24 ty74 (zzg 44 67 [r24.v] ?_))
    intro w25 u25 e25 d25
    have k30 := k_ratTrim d25 (hr24.ext e25) xq
    with_reducible refine zPm k30 ?_
    rintro _ u28 g29 ⟨r26, rfl, h27⟩
    refine zyw 45 (off' := i * 3) (n := y.n) (off := 0) (sz := 3) (i := (i : Int)) sl40 xq xq xq ?_
    refine zyv (V := ⟨74, rcs L⟩) (off := i * 3) (rcs ((L).set i r26)) ty74 zk (zyx (r := r26) (i := i) zv rfl) ?_
    refine zzx ?_
    refine zzp (zzf (zyq 46 (x := zI (IntKind.i64.wrap ((i : Int) + 1))) (zI (i + 1 : Nat)) (eqI xz) (zza 19 (zI (i + 1 : Nat)) (zzx ?_))))
    have ht31 : i < (Nt.addQ l m).length := by rw [Nt.addQ_len]; omega
    refine ⟨_, ?_, _, by exact zzv _ _ _, i + 1, (L).set i r26, rfl, by omega, by simpa using hL, rfl, (e12.trans (e25.trans g29.ext)), RatsN.tstep (hR.ext (e25.trans g29.ext)) xq ht31 (RatN.more (K := M) h27 xq) (by have h9 := Nt.addQ_co l m i; unfold Nt.co at h9; show _ = List.getD _ _ _; rw [h9]; rw [show l.getD i 0 = 0 from Nt.co_ge xq]; grind)⟩
    omega
  ·replace hb13 : (decide ((i : Int) < (y.n : Int))) = false := hb13
   have qhb13 := of_decide_eq_false hb13
   refine zyc (zzp (zzd (zyp (r := 5) (t := 16) [5, 16] xk xj zj zj xj (fun b32 u33 e34 hb35 hh36 => ?_))))
   have hp37 : PolN u33 ⟨some ⟨b32, 0, none⟩, y.n, y.n⟩ (Nt.addQ l m) (K + M + 1) := pol_data1 hh36 yj (RatsN.tdone (hR.ext e34) xq (by rw [Nt.addQ_len]; omega)) xq
   refine zzf (zza 47 (.v (.slice (some ⟨b32, 0, none⟩) y.n y.n)) (zzg 48 113 [.slice (some ⟨b32, 0, none⟩) y.n y.n] ?_))
   intro w38 u38 e38 d38
   have k41 := k_cut d38 (hp37.ext e38).raw xq xw
   with_reducible refine zPm k41 ?_
   rintro _ u39 g40 rfl
   refine zza 4 (.v (.slice (some ⟨b32, 0, none⟩) (Nt.trimQ (Nt.addQ l m)).length y.n)) (zzb (zzo (ret0 [.slice (some ⟨b32, 0, none⟩) (Nt.trimQ (Nt.addQ l m)).length y.n] ⟨zzq, trivial⟩ fun u42 e43 => ?_)))
   refine ⟨(⟨some ⟨b32, 0, none⟩, (Nt.trimQ (Nt.addQ l m)).length, y.n⟩ : Sl), rfl, ?_⟩
   exact ((cut_N (hp37.ext (e38.trans g40.ext))).ext e43)
 ·replace hb11 : (decide ((x.n : Int) < (y.n : Int))) = false := hb11
  have qhb11 := of_decide_eq_false hb11
  refine zzs (zzp ?_)
  refine sq9 (zza 14 (.v x.v) (zza 15 (zI x.n) (sy_make 16 (T := 40) (E := 74) (z := .agg #[.bool false, .slice none 0 0, .slice none 0 0]) (size := 3) (bytes := 56) x.n (rcs (List.replicate x.n rl0)) xj xj rfl rfl xq yj (made_rcs _) ?_)))
  refine zza 5 (.slc 16 0 x.n x.n) (zzc 49 [(0, .v x.v), (1, .v y.v), (5, .slc 16 0 x.n x.n)] [(16, ⟨74, rcs (List.replicate x.n rl0)⟩)] (zzd (sq9 (zza 17 (.slc 16 0 x.n x.n) (zza 18 (zI x.n) (zza 19 (zI 0) (zzc 49 [(0, .v x.v), (1, .v y.v), (5, .slc 16 0 x.n x.n), (18, zI x.n), (19, zI 0)] [(16, ⟨74, rcs (List.replicate x.n rl0)⟩)] (zzt (zyn (I := fun m44 S' u' => ∃ (i : Nat) (L : List RL), (m44 = x.n - i) ∧ (i ≤ x.n) ∧ (L.length = x.n) ∧ (S' = St.of 49 [(0, .v (.slice x.a x.n x.c)), (1, .v (.slice y.a y.n y.c)), (5, .slc 16 0 x.n x.n), (18, zI x.n), (19, zI i)] [(16, ⟨74, rcs L⟩)]) ∧ (Ext u u') ∧ (RatsN u' (L.take i) ((Nt.addQ l m).take i) (K + M + 1))) (fun m S u1 u2 e h => by obtain ⟨i, L, hm, p0, p1, hS, hE, f0⟩ := h; exact ⟨i, L, hm, p0, p1, hS, hE.trans e, f0.ext e⟩) _ yz ⟨0, List.replicate x.n rl0, rfl, by omega, by simp, rfl, (Ext.refl _), RatsN.tnil _ _ _ _⟩ ?_)))))))))
  rintro m44 _ u44 ⟨i, L, hm44, hi, hL, rfl, e44, hR⟩
  refine sq9 (zza 20 (zB (decide ((i : Int) < (x.n : Int)))) (zzb (zzd (zzu (b := decide ((i : Int) < (x.n : Int))) xj (fun hb45 => ?_) (fun hb45 => ?_)))))
  ·replace hb45 : (decide ((i : Int) < (x.n : Int))) = true := hb45
   have qhb45 := of_decide_eq_true hb45
   refine zzs (zzp ?_)
   refine zzd (zzt (sq9 (zza 21 (zI i) (zza 6 (zI i) (zzb (sq9 (zza 22 (zI i) (zza 23 (.v y.v) (zza 24 (zI y.n) (zza 25 (zB (decide ((i : Int) < (y.n : Int)))) (zzb ?_)))))))))))
   refine zzu (b := decide ((i : Int) < (y.n : Int))) xj (fun hb46 => ?_) (fun hb46 => ?_)
   ·replace hb46 : (decide ((i : Int) < (y.n : Int))) = true := hb46
    have qhb46 := of_decide_eq_true hb46
    refine zzz [0, 0, 0, 0, 12, 28, 0, 0, 192, 448, 1020, 2047, 4095] [(0, []), (1, []), (2, []), (3, []), (4, []), (5, []), (6, []), (7, []), (8, []), (9, []), (10, []), (11, []), (12, [])] xj xj (zza 26 (.slc 16 0 x.n x.n) (zza 27 (zI i) (zza 28 (.v x.v) (zza 29 (zI i) ?_))))
    have hl47 := (hx.ext e44).len
    obtain ⟨r47, b47, o47, hA47, hc47, hr47⟩ := pol_at (hx.ext e44) (i := i) xq
    refine zya 30 (o47 + i * 3) (n := x.n) (off := o47) (sz := 3) (i := (i : Int)) xq hA47 xq xq sl40 (zym 31 r47.cs hc47 ty74 (zza 32 (.v y.v) (zza 33 (zI i) ?_)))
    have hl48 := (hy.ext e44).len
    obtain ⟨r48, b48, o48, hA48, hc48, hr48⟩ := pol_at (hy.ext e44) (i := i) xq
    refine zya 34 (o48 + i * 3) (n := y.n) (off := o48) (sz := 3) (i := (i : Int)) xq hA48 xq xq sl40 (zym 35 r48.cs hc48 ty74 (zzg 36 71 [r47.v, r48.v] ?_))
    intro w49 u49 e49 d49
    have k54 := k_ratAdd d49 (hr47.ext e49) (hr48.ext e49) xq xq
    with_reducible refine zPm k54 ?_
    rintro _ u52 g53 ⟨r50, rfl, h51⟩
    refine zyw 37 (off' := i * 3) (n := x.n) (off := 0) (sz := 3) (i := (i : Int)) sl40 xq xq xq ?_
    refine zyv (V := ⟨74, rcs L⟩) (off := i * 3) (rcs ((L).set i r50)) ty74 zk (zyx (r := r50) (i := i) zv rfl) ?_
    refine zzx ?_
    refine zzp (zzf (zyq 46 (x := zI (IntKind.i64.wrap ((i : Int) + 1))) (zI (i + 1 : Nat)) (eqI xz) (zza 19 (zI (i + 1 : Nat)) (zzx ?_))))
    have ht55 : i < (Nt.addQ l m).length := by rw [Nt.addQ_len]; omega
    refine ⟨_, ?_, _, by exact zzv _ _ _, i + 1, (L).set i r50, rfl, by omega, by simpa using hL, rfl, (e44.trans (e49.trans g53.ext)), RatsN.tstep (hR.ext (e49.trans g53.ext)) xq ht55 (RatN.more (K := (K + M + 1)) h51 xq) (by have h9 := Nt.addQ_co l m i; unfold Nt.co at h9; show _ = List.getD _ _ _; rw [h9])⟩
    omega
   ·replace hb46 : (decide ((i : Int) < (y.n : Int))) = false := hb46
    have qhb46 := of_decide_eq_false hb46
    refine zzf (zza 38 (.slc 16 0 x.n x.n) (zza 39 (zI i) (zza 40 (.v x.v) (zza 41 (zI i) ?_))))
    have hl56 := (hx.ext e44).len
    obtain ⟨r56, b56, o56, hA56, hc56, hr56⟩ := pol_at (hx.ext e44) (i := i) xq
    refine zya 42 (o56 + i * 3) (n := x.n) (off := o56) (sz := 3) (i := (i : Int)) xq hA56 xq xq sl40 (zym 43 r56.cs hc56 ty74 (zzg 44 67 [r56.v] ?_))
    intro w57 u57 e57 d57
    have k62 := k_ratTrim d57 (hr56.ext e57) xq
    with_reducible refine zPm k62 ?_
    rintro _ u60 g61 ⟨r58, rfl, h59⟩
    refine zyw 45 (off' := i * 3) (n := x.n) (off := 0) (sz := 3) (i := (i : Int)) sl40 xq xq xq ?_
    refine zyv (V := ⟨74, rcs L⟩) (off := i * 3) (rcs ((L).set i r58)) ty74 zk (zyx (r := r58) (i := i) zv rfl) ?_
    refine zzx ?_
    refine zzp (zzf (zyq 46 (x := zI (IntKind.i64.wrap ((i : Int) + 1))) (zI (i + 1 : Nat)) (eqI xz) (zza 19 (zI (i + 1 : Nat)) (zzx ?_))))
    have ht63 : i < (Nt.addQ l m).length := by rw [Nt.addQ_len]; omega
    refine ⟨_, ?_, _, by exact zzv _ _ _, i + 1, (L).set i r58, rfl, by omega, by simpa using hL, rfl, (e44.trans (e57.trans g61.ext)), RatsN.tstep (hR.ext (e57.trans g61.ext)) xq ht63 (RatN.more (K := K) h59 xq) (by have h9 := Nt.addQ_co l m i; unfold Nt.co at h9; show _ = List.getD _ _ _; rw [h9]; rw [show m.getD i 0 = 0 from Nt.co_ge xq]; grind)⟩
    omega
  ·replace hb45 : (decide ((i : Int) < (x.n : Int))) = false := hb45
   have qhb45 := of_decide_eq_false hb45
   refine zyc (zzp (zzd (zyp (r := 5) (t := 16) [5, 16] xk xj zj zj xj (fun b64 u65 e66 hb67 hh68 => ?_))))
   have hp69 : PolN u65 ⟨some ⟨b64, 0, none⟩, x.n, x.n⟩ (Nt.addQ l m) (K + M + 1) := pol_data1 hh68 yj (RatsN.tdone (hR.ext e66) xq (by rw [Nt.addQ_len]; omega)) xq
   refine zzf (zza 47 (.v (.slice (some ⟨b64, 0, none⟩) x.n x.n)) (zzg 48 113 [.slice (some ⟨b64, 0, none⟩) x.n x.n] ?_))
   intro w70 u70 e70 d70
   have k73 := k_cut d70 (hp69.ext e70).raw xq xw
   with_reducible refine zPm k73 ?_
   rintro _ u71 g72 rfl
   refine zza 4 (.v (.slice (some ⟨b64, 0, none⟩) (Nt.trimQ (Nt.addQ l m)).length x.n)) (zzb (zzo (ret0 [.slice (some ⟨b64, 0, none⟩) (Nt.trimQ (Nt.addQ l m)).length x.n] ⟨zzq, trivial⟩ fun u74 e75 => ?_)))
   refine ⟨(⟨some ⟨b64, 0, none⟩, (Nt.trimQ (Nt.addQ l m)).length, x.n⟩ : Sl), rfl, ?_⟩
   exact ((cut_N (hp69.ext (e70.trans g72.ext))).ext e75)
theorem k_poParts {u w : World} {r : RL} (d : Dat u w) : Calls Tryz.prog 159 #[r.v] w (Post u w fun v u' => ∃ y : Sl, v = .tuple #[.agg #[.bool r.s, r.m.v, y.v], .agg #[.bool false, r.d.v, y.v]] ∧ NatN u' y 1 1) := by
 refine zzm (args := [r.v]) Tryz.func159 rfl Tryz.ntmps159 (rs := [.cell 2 74, .cell 3 74]) Tryz.results159 (le_b rfl) (le_b rfl) d ?_
 refine sq9 (zzk 1 ⟨74, r.cs⟩ (zzk 2 ⟨74, [.bool false, .slice none 0 0, .slice none 0 0]⟩ (zzk 3 ⟨74, [.bool false, .slice none 0 0, .slice none 0 0]⟩ (zzb (sq9 (zxz 5 ⟨159, [.int .u32 1]⟩ 1 (fun b11 u12 e13 h14 => ?_)))))))
 refine zza 4 (.v (.slice (some ⟨b11, 0, none⟩) 1 1)) (zzb (zzd (zzz [0, 1, 0, 7, 0, 16, 48, 0, 240, 15, 1023] [(0, []), (1, []), (2, []), (3, []), (4, []), (5, []), (6, []), (7, []), (8, []), (9, [10]), (10, [])] xj xj (zza 6 (.adr 1 0) (zzi 7 (.v (.agg #[.bool r.s, r.m.v])) ty72 zze (zza 8 (.v (.slice (some ⟨b11, 0, none⟩) 1 1)) (zza 9 (.v (.agg #[.bool r.s, r.m.v, .slice (some ⟨b11, 0, none⟩) 1 1])) (zza 10 (.adr 1 2) (zzi 11 (.v r.d.v) ty70 zzl (zza 12 (.v (.agg #[.bool false, r.d.v])) (zza 13 (.v (.slice (some ⟨b11, 0, none⟩) 1 1)) ?_)))))))))))
 refine zza 14 (.v (.agg #[.bool false, r.d.v, .slice (some ⟨b11, 0, none⟩) 1 1])) (zzj ⟨74, [.bool r.s, r.m.v, .slice (some ⟨b11, 0, none⟩) 1 1]⟩ ty74 ?_)
 refine zzj ⟨74, [.bool false, r.d.v, .slice (some ⟨b11, 0, none⟩) 1 1]⟩ ty74 ?_
 refine zzb (zzo (ret0 [.agg #[.bool r.s, .slice r.m.a r.m.n r.m.c, .slice (some ⟨b11, 0, none⟩) 1 1], .agg #[.bool false, .slice r.d.a r.d.n r.d.c, .slice (some ⟨b11, 0, none⟩) 1 1]] ⟨zzr ty74 zze, zzr ty74 zze, trivial⟩ fun u15 e16 => ?_))
 exact ⟨(⟨some ⟨b11, 0, none⟩, 1, 1⟩ : Sl), rfl, ((one_data h14).ext e16)⟩
set_option maxHeartbeats 1000000 in
theorem k_common {u w : World} {r1 r2 : RL} {x y : Rat} {K M : Nat} (d : Dat u w) (h1 : RatN u r1 x K) (h2 : RatV u r2 y M) (hK : K ≤ 40000000) (hM : M ≤ 40000000) : Calls Tryz.prog 130 #[r1.v, r2.v] w (Post u w fun v u' => ∃ r : RL, v = r.v ∧ RatN u' r (Nt.cmn x y) (K + M)) := by
 refine zzm (args := [r1.v, r2.v]) Tryz.func130 rfl Tryz.ntmps130 (rs := [.cell 4 74]) Tryz.results130 (le_b rfl) (le_b rfl) d ?_
 refine sq9 (zzk 2 ⟨74, r1.cs⟩ (zzk 3 ⟨74, r2.cs⟩ (zzk 4 ⟨74, [.bool false, .slice none 0 0, .slice none 0 0]⟩ (zzb (zzd (sq9 (zzi 11 (.v (r1.v)) ty74 zze (zzg 12 103 [r1.v] ?_))))))))
 intro w11 u11 e11 d11
 have k14 := k_ratSign d11 (h1.ext e11).raw
 with_reducible refine zPm k14 ?_
 rintro _ u12 g13 rfl
 refine zza 13 (zB ((Nt.sgQ x) == 0)) (zzb (zzu (b := (Nt.sgQ x) == 0) xj (fun hb15 => ?_) (fun hb15 => ?_)))
 ·replace hb15 : ((Nt.sgQ x) == 0) = true := hb15
  have hx0 : x = 0 := by have h9 := hb15; rw [Nt.sgQ_eq] at h9; simpa using h9
  refine sq9 (zzi 14 (.v (r2.v)) ty74 zze (zzg 15 152 [r2.v] ?_))
  intro w16 u16 e16 d16
  have k21 := k_ratAbs d16 (h2.ext (e11.trans (g13.ext.trans e16))) xq
  with_reducible refine zPm k21 ?_
  rintro _ u19 g20 ⟨r17, rfl, h18⟩
  refine zzj ⟨74, r17.cs⟩ ty74 ?_
  refine zzb (zzo (zzw (ret0 [r17.v] ⟨zzr ty74 zze, trivial⟩ fun u22 e23 => ?_)))
  have e9 : Nt.cmn x y = (Nt.absQ y) := by unfold Nt.cmn; rw [if_pos hx0]
  have hs := Nt.rs_cmn x y
  have hs1 := h1.rs
  have hs2 := h2.rs
  refine ⟨r17, rfl, RatN.fit (K := M) ?_ xq⟩
  rw [e9]
  exact (h18.ext e23)
 ·replace hb15 : ((Nt.sgQ x) == 0) = false := hb15
  have hx0 : ¬ x = 0 := by have h9 := hb15; rw [Nt.sgQ_eq] at h9; simpa using h9
  refine zzs (zzp ?_)
  refine sq9 (zzi 17 (.v (r1.v)) ty74 zze (zzi 18 (.v (r2.v)) ty74 zze (zzg 19 104 [r1.v, r2.v] ?_)))
  intro w24 u24 e24 d24
  have k30 := k_ratDiv d24 (h1.ext (e11.trans (g13.ext.trans e24))).raw (h2.ext (e11.trans (g13.ext.trans e24))) xq xq
  with_reducible refine zPm k30 ?_
  rintro _ u28 g29 (⟨rfl, hz27⟩ | ⟨hz27, r25, rfl, h26⟩)
  ·skip
   refine zza 16 (.v (.tuple #[.agg #[.bool false, .slice none 0 0, .slice none 0 0], .int .i64 3])) (zza 20 (.v (.agg #[.bool false, .slice none 0 0, .slice none 0 0])) (zza 21 (zI 3) (zzk 5 ⟨74, [.bool false, .slice none 0 0, .slice none 0 0]⟩ (zzj ⟨74, [.bool false, .slice none 0 0, .slice none 0 0]⟩ ty74 ?_))))
   refine zza 6 (zI 3) (zzb (zzd (sq9 (zza 22 (zI 3) (zza 23 (zB true) (zzb (zyr xj (sq9 (zzi 24 (.v (r1.v)) ty74 zze (zzj ⟨74, r1.cs⟩ ty74 ?_))))))))))
   refine zzb (zzo (zzw (ret0 [r1.v] ⟨zzr ty74 zze, trivial⟩ fun u31 e32 => ?_)))
   have e9 : Nt.cmn x y = x := by unfold Nt.cmn; rw [if_neg hx0, if_pos hz27]
   have hs := Nt.rs_cmn x y
   have hs1 := h1.rs
   have hs2 := h2.rs
   refine ⟨r1, rfl, RatN.fit (K := K) ?_ xq⟩
   rw [e9]
   exact (h1.ext (e11.trans (g13.ext.trans (e24.trans (g29.ext.trans e32)))))
  ·skip
   refine zza 16 (.v (.tuple #[r25.v, .int .i64 0])) (zza 20 (.v (r25.v)) (zza 21 (zI 0) (zzk 5 ⟨74, [.bool false, .slice none 0 0, .slice none 0 0]⟩ (zzj ⟨74, r25.cs⟩ ty74 ?_))))
   refine zza 6 (zI 0) (zzb (zzd (sq9 (zza 22 (zI 0) (zza 23 (zB false) (zzb (zys xj (zzs (zzp ?_)))))))))
   refine sq9 (zzi 26 (.v (r25.v)) ty74 zze (zzg 27 159 [r25.v] ?_))
   intro w33 u33 e33 d33
   have k38 := k_poParts (r := r25) d33
   with_reducible refine zPm k38 ?_
   rintro _ u36 g37 ⟨y34, rfl, h35⟩
   refine zza 25 (.v (.tuple #[.agg #[.bool r25.s, r25.m.v, y34.v], .agg #[.bool false, r25.d.v, y34.v]])) (zza 28 (.v (.agg #[.bool r25.s, r25.m.v, y34.v])) (zza 29 (.v (.agg #[.bool false, r25.d.v, y34.v])) (zzk 7 ⟨74, [.bool false, .slice none 0 0, .slice none 0 0]⟩ (zzk 8 ⟨74, [.bool false, .slice none 0 0, .slice none 0 0]⟩ (zzj ⟨74, [.bool r25.s, r25.m.v, y34.v]⟩ ty74 ?_)))))
   refine zzj ⟨74, [.bool false, r25.d.v, y34.v]⟩ ty74 ?_
   refine zzb (sq9 (zzi 31 (.v (r1.v)) ty74 zze (zzi 32 (.v (.agg #[.bool r25.s, r25.m.v, y34.v])) ty74 zze (zzg 33 104 [r1.v, .agg #[.bool r25.s, r25.m.v, y34.v]] ?_))))
   intro w39 u39 e39 d39
   have k44 := k_ratDiv1 d39 (h1.ext (e11.trans (g13.ext.trans (e24.trans (g29.ext.trans (e33.trans (g37.ext.trans e39))))))).raw ((whole_rat (RatN.num (h26.ext (e33.trans g37.ext))) h35).ext e39).raw (Nt.num_ne (Nt.div_ne hx0 hz27)) xq xq
   with_reducible refine zPm k44 ?_
   rintro _ u42 g43 ⟨r40, rfl, h41⟩
   refine zza 30 (.v (.tuple #[r40.v, .int .i64 0])) (zza 34 (.v (r40.v)) (zza 35 (zI 0) (zzk 9 ⟨74, [.bool false, .slice none 0 0, .slice none 0 0]⟩ (zzj ⟨74, r40.cs⟩ ty74 ?_))))
   refine zza 10 (zI 0) (zzc 38 [(4, .adr 4 0), (9, .adr 9 0)] [(4, ⟨74, [.bool false, .slice none 0 0, .slice none 0 0]⟩), (9, ⟨74, r40.cs⟩)] (sq9 (zzi 36 (.v (r40.v)) ty74 zze (zzg 37 152 [r40.v] ?_))))
   intro w45 u45 e45 d45
   have k50 := k_ratAbs d45 (h41.ext e45).raw xq
   with_reducible refine zPm k50 ?_
   rintro _ u48 g49 ⟨r46, rfl, h47⟩
   refine zzj ⟨74, r46.cs⟩ ty74 ?_
   refine zzb (zzo (ret0 [r46.v] ⟨zzr ty74 zze, trivial⟩ fun u51 e52 => ?_))
   have e9 : Nt.cmn x y = (Nt.absQ (x / (((x / y).num : Int) : Rat))) := by unfold Nt.cmn; rw [if_neg hx0, if_neg hz27]
   have hs := Nt.rs_cmn x y
   have hs1 := h1.rs
   have hs2 := h2.rs
   refine ⟨r46, rfl, RatN.fit (K := (K + (max (K + M) 1))) ?_ xq⟩
   rw [e9]
   exact (h47.ext e52)
set_option maxHeartbeats 1000000 in
theorem k_split {u w : World} {x : Sl} {l : List Rat} {K : Nat} (d : Dat u w) (hx : PolV u x l K) (hK : (l.length + 1) * K ≤ 30000000) (hx9 : l.length ≤ 1000000000) : Calls Tryz.prog 89 #[x.v] w (Post u w fun v u' => ∃ (r : RL) (y : Sl), v = .tuple #[r.v, y.v] ∧ RatN u' r (Nt.msr (Nt.trimQ l)) ((Nt.trimQ l).length * K + 2) ∧ PolN u' y ((Nt.trimQ l).map (· / Nt.msr (Nt.trimQ l))) (K + ((Nt.trimQ l).length * K + 2))) := by
 have hlen := hx.len
 have htl := Nt.zzh l
 have hKK : (Nt.trimQ l).length * K ≤ l.length * K := Nat.mul_le_mul_right _ htl
 rw [Nat.add_mul] at hK
 refine zzm (args := [.slice x.a x.n x.c]) Tryz.func89 rfl Tryz.ntmps89 (rs := [.cell 2 74, .tmp 3]) Tryz.results89 (le_b rfl) (le_b rfl) d ?_
 refine sq9 (zzk 2 ⟨74, [.bool false, .slice none 0 0, .slice none 0 0]⟩ (zza 3 (.v (.slice none 0 0)) (zzb (sq9 (zza 10 (.v x.v) (zzg 11 113 [x.v] ?_))))))
 intro w11 u11 e11 d11
 have k14 := k_cut d11 (hx.ext e11) xq xw
 with_reducible refine zPm k14 ?_
 rintro _ u12 g13 rfl
 refine zza 0 (.v (.slice x.a (Nt.trimQ l).length x.c)) (zzb (sq9 (zzg 12 46 [.int .i64 0] ?_)))
 intro w15 u15 e15 d15
 have k20 := k_ratOf d15 (z := 0) xq xq
 with_reducible refine zPm k20 ?_
 rintro _ u18 g19 ⟨r16, rfl, h17⟩
 refine zzk 4 ⟨74, [.bool false, .slice none 0 0, .slice none 0 0]⟩ (zzj ⟨74, r16.cs⟩ ty74 ?_)
 refine zzb (zzd (sq9 (zza 13 (.v (.slice x.a (Nt.trimQ l).length x.c)) (zza 14 (zI (((Nt.trimQ l).length : Nat) : Int)) (zza 15 (zI 0) (zzb (zzt (zyn (I := fun m21 S' u' => ∃ (i : Nat) (r : RL), (m21 = (Nt.trimQ l).length - i) ∧ (i ≤ (Nt.trimQ l).length) ∧ (S' = St.of 45 [(0, .v (.slice x.a (Nt.trimQ l).length x.c)), (2, .adr 2 0), (4, .adr 4 0), (13, .v (.slice x.a (Nt.trimQ l).length x.c)), (14, zI (((Nt.trimQ l).length : Nat) : Int)), (15, zI i)] [(2, ⟨74, [.bool false, .slice none 0 0, .slice none 0 0]⟩), (4, ⟨74, r.cs⟩)]) ∧ (Ext u18 u') ∧ (RatN u' r (Nt.msr ((Nt.trimQ l).take i)) (i * K + 2))) (fun m S u1 u2 e h => by obtain ⟨i, r, hm, p0, hS, hE, f0⟩ := h; exact ⟨i, r, hm, p0, hS, hE.trans e, f0.ext e⟩) _ yz ⟨0, r16, rfl, by omega, rfl, (Ext.refl _), (RatN.more (K := 2) h17 xq)⟩ ?_))))))))
 rintro m21 _ u21 ⟨i, r, hm21, hi, rfl, e21, hM⟩
 have hiK : i * K ≤ (Nt.trimQ l).length * K := Nat.mul_le_mul_right _ hi
 refine sq9 (zza 16 (zB (decide ((i : Int) < (((Nt.trimQ l).length : Nat) : Int)))) (zzb (zzd (zzu (b := decide ((i : Int) < (((Nt.trimQ l).length : Nat) : Int))) xj (fun hb22 => ?_) (fun hb22 => ?_)))))
 ·replace hb22 : (decide ((i : Int) < (((Nt.trimQ l).length : Nat) : Int))) = true := hb22
  have qhb22 := of_decide_eq_true hb22
  refine zzs (zzp ?_)
  refine zzd (zzt (sq9 ?_))
  have hl23 := ((cut_V (hx.ext (e11.trans g13.ext))).ext (e15.trans (g19.ext.trans e21))).len
  change (Nt.trimQ l).length = _ at hl23
  obtain ⟨r23, b23, o23, hA23, hc23, hr23⟩ := pol_at ((cut_V (hx.ext (e11.trans g13.ext))).ext (e15.trans (g19.ext.trans e21))) (i := i) xq
  refine zya 17 (o23 + i * 3) (n := (Nt.trimQ l).length) (off := o23) (sz := 3) (i := (i : Int)) xq hA23 xq xq sl40 (zym 18 r23.cs hc23 ty74 (zzk 6 ⟨74, [.bool false, .slice none 0 0, .slice none 0 0]⟩ (zzj ⟨74, r23.cs⟩ ty74 ?_)))
  refine zzb (zzf (zzi 19 (.v (r.v)) ty74 zze (zzi 20 (.v (r23.v)) ty74 zze (zzg 21 130 [r.v, r23.v] ?_))))
  intro w24 u24 e24 d24
  have k29 := k_common d24 (hM.ext e24) (hr23.ext e24) xq xq
  with_reducible refine zPm k29 ?_
  rintro _ u27 g28 ⟨r25, rfl, h26⟩
  refine zzj ⟨74, r25.cs⟩ ty74 ?_
  refine zzx ?_
  refine zzp (zzf (zyq 22 (x := zI (IntKind.i64.wrap ((i : Int) + 1))) (zI (i + 1 : Nat)) (eqI xz) (zza 15 (zI (i + 1 : Nat)) (zzx ?_))))
  refine ⟨_, ?_, _, by exact zzv _ _ _, i + 1, r25, rfl, by omega, rfl, (e21.trans (e24.trans g28.ext)), (RatN.more (K := ((i * K + 2) + K)) (by rw [Nt.msr_take xq]; exact h26) (by rw [Nat.add_mul]; omega))⟩
  omega
 ·replace hb22 : (decide ((i : Int) < (((Nt.trimQ l).length : Nat) : Int))) = false := hb22
  have qhb22 := of_decide_eq_false hb22
  refine zyc (zzp (zzd ?_))
  have hi9 : i = (Nt.trimQ l).length := by omega
  have hms : RatN u21 r (Nt.msr (Nt.trimQ l)) ((Nt.trimQ l).length * K + 2) := by have h9 := hM; rw [hi9, List.take_length] at h9; exact h9
  clear hi9
  refine zzf (zza 23 (.v (.slice x.a (Nt.trimQ l).length x.c)) (zza 24 (zI (((Nt.trimQ l).length : Nat) : Int)) (sy_make 25 (T := 40) (E := 74) (z := .agg #[.bool false, .slice none 0 0, .slice none 0 0]) (size := 3) (bytes := 56) ((Nt.trimQ l).length) (rcs (List.replicate ((Nt.trimQ l).length) rl0)) xj xj rfl rfl xq yj (made_rcs _) ?_)))
  refine zza 7 (.slc 25 0 ((Nt.trimQ l).length) ((Nt.trimQ l).length)) (zzc 45 [(0, .v (.slice x.a (Nt.trimQ l).length x.c)), (2, .adr 2 0), (4, .adr 4 0), (7, .slc 25 0 ((Nt.trimQ l).length) ((Nt.trimQ l).length))] [(2, ⟨74, [.bool false, .slice none 0 0, .slice none 0 0]⟩), (4, ⟨74, r.cs⟩), (25, ⟨74, rcs (List.replicate ((Nt.trimQ l).length) rl0)⟩)] (zzd (sq9 (zza 26 (.v (.slice x.a (Nt.trimQ l).length x.c)) (zza 27 (zI (((Nt.trimQ l).length : Nat) : Int)) (zza 28 (zI 0) (zzb (zzt (zyn (I := fun m30 S' u' => ∃ (i2 : Nat) (L2 : List RL), (m30 = ((Nt.trimQ l).length) - i2) ∧ (i2 ≤ (Nt.trimQ l).length) ∧ (L2.length = (Nt.trimQ l).length) ∧ (S' = St.of 45 [(2, .adr 2 0), (4, .adr 4 0), (7, .slc 25 0 ((Nt.trimQ l).length) ((Nt.trimQ l).length)), (26, .v (.slice x.a (Nt.trimQ l).length x.c)), (27, zI (((Nt.trimQ l).length : Nat) : Int)), (28, zI i2)] [(2, ⟨74, [.bool false, .slice none 0 0, .slice none 0 0]⟩), (4, ⟨74, r.cs⟩), (25, ⟨74, rcs L2⟩)]) ∧ (Ext u21 u') ∧ (RatsN u' (L2.take i2) (((Nt.trimQ l).map (· / Nt.msr (Nt.trimQ l))).take i2) (K + ((Nt.trimQ l).length * K + 2)))) (fun m S u1 u2 e h => by obtain ⟨i2, L2, hm, p0, p1, hS, hE, f0⟩ := h; exact ⟨i2, L2, hm, p0, p1, hS, hE.trans e, f0.ext e⟩) _ yz ⟨0, List.replicate ((Nt.trimQ l).length) rl0, rfl, by omega, by simp, rfl, (Ext.refl _), RatsN.tnil _ _ _ _⟩ ?_)))))))))
  rintro m30 _ u30 ⟨i2, L2, hm30, hi2, hL2, rfl, e30, hR2⟩
  refine sq9 (zza 29 (zB (decide ((i2 : Int) < (((Nt.trimQ l).length : Nat) : Int)))) (zzb (zzd (zzu (b := decide ((i2 : Int) < (((Nt.trimQ l).length : Nat) : Int))) xj (fun hb31 => ?_) (fun hb31 => ?_)))))
  ·replace hb31 : (decide ((i2 : Int) < (((Nt.trimQ l).length : Nat) : Int))) = true := hb31
   have qhb31 := of_decide_eq_true hb31
   refine zzs (zzp ?_)
   refine zzd (zzt (sq9 (zza 30 (zI i2) ?_)))
   have hl32 := ((cut_V (hx.ext (e11.trans g13.ext))).ext (e15.trans (g19.ext.trans (e21.trans e30)))).len
   change (Nt.trimQ l).length = _ at hl32
   obtain ⟨r32, b32, o32, hA32, hc32, hr32⟩ := pol_at ((cut_V (hx.ext (e11.trans g13.ext))).ext (e15.trans (g19.ext.trans (e21.trans e30)))) (i := i2) xq
   refine zya 31 (o32 + i2 * 3) (n := (Nt.trimQ l).length) (off := o32) (sz := 3) (i := (i2 : Int)) xq hA32 xq xq sl40 (zym 32 r32.cs hc32 ty74 (zzk 9 ⟨74, [.bool false, .slice none 0 0, .slice none 0 0]⟩ (zza 8 (zI i2) (zzj ⟨74, r32.cs⟩ ty74 ?_))))
   refine zzb (zzf (zza 34 (.slc 25 0 ((Nt.trimQ l).length) ((Nt.trimQ l).length)) (zza 35 (zI i2) (zzi 36 (.v (r32.v)) ty74 zze (zzi 37 (.v (r.v)) ty74 zze (zzg 38 104 [r32.v, r.v] ?_))))))
   intro w33 u33 e33 d33
   have k38 := k_ratDiv1 d33 (hr32.ext e33) (hms.ext (e30.trans e33)).raw (Nt.msr_ne (Nt.trim_nrm l) xq) xq xq
   with_reducible refine zPm k38 ?_
   rintro _ u36 g37 ⟨r34, rfl, h35⟩
   refine zza 33 (.v (.tuple #[r34.v, .int .i64 0])) (zza 39 (.v (r34.v)) (zza 40 (zI 0) (zyw 41 (off' := i2 * 3) (n := (Nt.trimQ l).length) (off := 0) (sz := 3) (i := (i2 : Int)) sl40 xq xq xq ?_)))
   refine zyv (V := ⟨74, rcs L2⟩) (off := i2 * 3) (rcs ((L2).set i2 r34)) ty74 zk (zyx (r := r34) (i := i2) zv rfl) ?_
   refine zzx ?_
   refine zzp (zzf (zyq 42 (x := zI (IntKind.i64.wrap ((i2 : Int) + 1))) (zI (i2 + 1 : Nat)) (eqI xz) (zza 28 (zI (i2 + 1 : Nat)) (zzx ?_))))
   have ht39 : i2 < ((Nt.trimQ l).map (· / Nt.msr (Nt.trimQ l))).length := by simp; omega
   refine ⟨_, ?_, _, by exact zzv _ _ _, i2 + 1, (L2).set i2 r34, rfl, by omega, by simpa using hL2, rfl, (e30.trans (e33.trans g37.ext)), RatsN.tstep (hR2.ext (e33.trans g37.ext)) xq ht39 (RatN.more (K := (K + ((Nt.trimQ l).length * K + 2))) h35 xq) (by simp [List.getElem?_eq_getElem (show i2 < (Nt.trimQ l).length by omega)])⟩
   omega
  ·replace hb31 : (decide ((i2 : Int) < (((Nt.trimQ l).length : Nat) : Int))) = false := hb31
   have qhb31 := of_decide_eq_false hb31
   refine zyc (zzp (zzd (zyp (r := 7) (t := 25) [7, 25] xk xj zj zj xj (fun b40 u41 e42 hb43 hh44 => ?_))))
   have hp45 : PolN u41 ⟨some ⟨b40, 0, none⟩, (Nt.trimQ l).length, (Nt.trimQ l).length⟩ ((Nt.trimQ l).map (· / Nt.msr (Nt.trimQ l))) (K + ((Nt.trimQ l).length * K + 2)) := pol_data1 hh44 yj (RatsN.tdone (hR2.ext e42) xq yy) xq
   refine zzf (zzi 43 (.v (r.v)) ty74 zze (zza 44 (.v (.slice (some ⟨b40, 0, none⟩) ((Nt.trimQ l).length) ((Nt.trimQ l).length))) (zzj ⟨74, r.cs⟩ ty74 ?_)))
   refine zza 3 (.v (.slice (some ⟨b40, 0, none⟩) ((Nt.trimQ l).length) ((Nt.trimQ l).length))) (zzb (zzo (ret0 [r.v, .slice (some ⟨b40, 0, none⟩) ((Nt.trimQ l).length) ((Nt.trimQ l).length)] ⟨zzr ty74 zze, zzq, trivial⟩ fun u46 e47 => ?_)))
   exact ⟨r, (⟨some ⟨b40, 0, none⟩, (Nt.trimQ l).length, (Nt.trimQ l).length⟩ : Sl), rfl, (hms.ext (e30.trans (e42.trans e47))), (hp45.ext e47)⟩
set_option maxHeartbeats 4000000 in
theorem k_poMul {u w : World} {x : Sl} {l : List Rat} {y : Sl} {m : List Rat} {K M : Nat} (d : Dat u w) (hx : PolV u x l K) (hy : PolV u y m M) (hB : Nt.mlK l.length m.length K M ≤ 30000000) (hK1 : (l.length + 1) * K ≤ 20000000) (hM1 : (m.length + 1) * M ≤ 20000000) (hx9 : l.length ≤ 100000000) (hy9 : m.length ≤ 100000000) : Calls Tryz.prog 48 #[x.v, y.v] w (Post u w fun v u' => ∃ y : Sl, v = y.v ∧ PolN u' y (Nt.trimQ (Nt.mulQ l m)) (Nt.mlK l.length m.length K M)) := by
 have hlen := hx.len
 have hlen2 := hy.len
 have htl := Nt.zzh l
 have htm := Nt.zzh m
 have hB2 := Nat.le_trans (Nt.mlK_mono htl htm (Nat.le_refl K) (Nat.le_refl M)) hB
 have hB3 : Nt.kk ((K + ((Nt.trimQ l).length * K + 2)) + (M + ((Nt.trimQ m).length * M + 2)) + 1) ((Nt.trimQ l).length * (Nt.trimQ m).length) + (((Nt.trimQ l).length * K + 2) + ((Nt.trimQ m).length * M + 2)) ≤ 30000000 := hB2
 have hK2 := hK1
 have hM2 := hM1
 rw [Nat.add_mul] at hK2 hM2
 have hKK : (Nt.trimQ l).length * K ≤ l.length * K := Nat.mul_le_mul_right _ htl
 have hMM : (Nt.trimQ m).length * M ≤ m.length * M := Nat.mul_le_mul_right _ htm
 refine zzm (args := [.slice x.a x.n x.c, .slice y.a y.n y.c]) Tryz.func48 rfl Tryz.ntmps48 (rs := [.tmp 4]) Tryz.results48 (le_b rfl) (le_b rfl) d ?_
 refine sq9 (zza 4 (.v (.slice none 0 0)) (zzb (sq9 (zza 15 (.v x.v) (zzg 16 89 [x.v] ?_)))))
 intro w11 u11 e11 d11
 have k18 := k_split d11 (hx.ext e11) xq xw
 with_reducible refine zPm k18 ?_
 rintro _ u16 g17 ⟨r12, y14, rfl, h13, h15⟩
 have hly14 : y14.n = (Nt.trimQ l).length := by have h9 := h15.len; simpa using h9
 refine zza 14 (.v (.tuple #[r12.v, y14.v])) (zza 17 (.v (r12.v)) (zza 18 (.v y14.v) (zzk 5 ⟨74, [.bool false, .slice none 0 0, .slice none 0 0]⟩ (zzj ⟨74, r12.cs⟩ ty74 ?_))))
 refine zza 6 (.v y14.v) (zzb (sq9 (zza 20 (.v y.v) (zzg 21 89 [y.v] ?_))))
 intro w19 u19 e19 d19
 have k26 := k_split d19 (hy.ext (e11.trans (g17.ext.trans e19))) xq xw
 with_reducible refine zPm k26 ?_
 rintro _ u24 g25 ⟨r20, y22, rfl, h21, h23⟩
 have hly22 : y22.n = (Nt.trimQ m).length := by have h9 := h23.len; simpa using h9
 refine zza 19 (.v (.tuple #[r20.v, y22.v])) (zza 22 (.v (r20.v)) (zza 23 (.v y22.v) (zzk 7 ⟨74, [.bool false, .slice none 0 0, .slice none 0 0]⟩ (zzj ⟨74, r20.cs⟩ ty74 ?_))))
 refine zza 8 (.v y22.v) (zzb (zzd (sq9 (zza 24 (.v y14.v) (zza 25 (zI y14.n) (zza 26 (zB ((y14.n : Int) == 0)) ?_))))))
 rcases Bool.eq_false_or_eq_true ((y14.n : Int) == 0) with hs27 | hs27
 ·refine zyq 27 (x := zB ((y14.n : Int) == 0)) (zB true) (by rw [hs27]) ?_
  have qhs27 : (y14.n : Int) = 0 := by simpa using hs27
  refine zzn 28 (uw 3 false true 27) (zzn 29 (uw 3 false true 27) (zzn 30 (uw 3 false true 27) (zza 31 (zB true) (zzb (zyr xj (sq9 (zza 4 (.v (.slice none 0 0)) (zzb (zzo (zzw (ret0 [.slice none 0 0] ⟨zzq, trivial⟩ fun u28 e29 => ?_)))))))))))
  have e9 : Nt.trimQ l = [] := List.eq_nil_of_length_eq_zero xq
  rw [Nt.mul_nil (.inl e9)]
  exact ⟨⟨none, 0, 0⟩, rfl, pol_nil _ _⟩
 ·refine zyq 27 (x := zB ((y14.n : Int) == 0)) (zB false) (by rw [hs27]) ?_
  have qhs27 : ¬ ((y14.n : Int) = 0) := by simpa using hs27
  refine zza 28 (.v y22.v) ?_ (hw := w1 3 false 27)
  refine zza 29 (zI y22.n) ?_ (hw := w1 3 false 27)
  refine zza 30 (zB ((y22.n : Int) == 0)) ?_ (hw := w1 3 false 27)
  refine zza 31 (zB ((y22.n : Int) == 0)) (zzb (zzu (b := (y22.n : Int) == 0) xj (fun hb30 => ?_) (fun hb30 => ?_)))
  ·replace hb30 : ((y22.n : Int) == 0) = true := hb30
   have qhb30 : (y22.n : Int) = 0 := by simpa using hb30
   refine sq9 (zza 4 (.v (.slice none 0 0)) (zzb (zzo (zzw (ret0 [.slice none 0 0] ⟨zzq, trivial⟩ fun u31 e32 => ?_)))))
   have e9 : Nt.trimQ m = [] := List.eq_nil_of_length_eq_zero xq
   rw [Nt.mul_nil (.inr e9)]
   exact ⟨⟨none, 0, 0⟩, rfl, pol_nil _ _⟩
  ·replace hb30 : ((y22.n : Int) == 0) = false := hb30
   have qhb30 : ¬ ((y22.n : Int) = 0) := by simpa using hb30
   refine zzs (zzp ?_)
   refine sq9 (zza 32 (.v y14.v) (zza 33 (zI y14.n) (zza 34 (.v y22.v) (zza 35 (zI y22.n) (zyq 36 (x := zI (IntKind.i64.wrap ((y14.n : Int) + (y22.n : Int)))) (zI (y14.n + y22.n : Nat)) (eqI xz) (zyq 37 (x := zI (IntKind.i64.wrap (((y14.n + y22.n : Nat) : Int) - 1))) (zI (((y14.n + y22.n) - 1 : Nat) : Int)) (eqI xz) (zzg 38 90 [.int .i64 (((y14.n + y22.n) - 1 : Nat) : Int)] ?_)))))))
   intro w33 u33 e33 d33
   have k42 := k_zeros (n := (y14.n + y22.n) - 1) d33 xq
   with_reducible refine zPm k42 ?_
   rintro _ u40 g41 ⟨b34, L35, rfl, hb36, hh37, hL38, hR39⟩
   refine zza 9 (.v (.slice (some ⟨b34, 0, none⟩) ((y14.n + y22.n) - 1) ((y14.n + y22.n) - 1))) (zzc 75 [(5, .adr 5 0), (6, .v y14.v), (7, .adr 7 0), (8, .v y22.v), (9, .v (.slice (some ⟨b34, 0, none⟩) ((y14.n + y22.n) - 1) ((y14.n + y22.n) - 1)))] [(5, ⟨74, r12.cs⟩), (7, ⟨74, r20.cs⟩)] (zzd (zzd (sw_adopt (r := 9) (k := 9) zj ((Ext.refl _).cells hh37) (Nat.le_trans ((e11.trans (g17.ext.trans (e19.trans (g25.ext.trans e33)))).size) hb36) xj (fun u43 eB44 => ?_)))))
   replace hR39 := (hR39.ext (Ext.refl _)).extB ((Ext.refl _).cells hh37) eB44
   refine zzf (zza 39 (.v y14.v) (zza 40 (zI y14.n) (zza 41 (zI 0) (zzb (zzt (zyn (I := fun m45 S' u' => ∃ (i : Nat) (L : List RL), (m45 = (Nt.trimQ l).length - i) ∧ (i ≤ (Nt.trimQ l).length) ∧ (L.length = ((Nt.trimQ l).length + (Nt.trimQ m).length - 1)) ∧ (S' = St.of 75 [(5, .adr 5 0), (7, .adr 7 0), (8, .v (.slice y22.a y22.n y22.c)), (9, .slc 9 0 ((y14.n + y22.n) - 1) ((y14.n + y22.n) - 1)), (39, .v (.slice y14.a y14.n y14.c)), (40, zI y14.n), (41, zI i)] [(5, ⟨74, r12.cs⟩), (7, ⟨74, r20.cs⟩), (9, ⟨74, rcs L⟩)]) ∧ (Ext u43 u') ∧ (RatsN u' L (Nt.outQ ((Nt.trimQ l).map (· / Nt.msr (Nt.trimQ l))) ((Nt.trimQ m).map (· / Nt.msr (Nt.trimQ m))) ((Nt.trimQ l).length + (Nt.trimQ m).length - 1) i) (Nt.kk ((K + ((Nt.trimQ l).length * K + 2)) + (M + ((Nt.trimQ m).length * M + 2)) + 1) (i * (Nt.trimQ m).length)))) (fun m S u1 u2 e h => by obtain ⟨i, L, hm, p0, p1, hS, hE, f0⟩ := h; exact ⟨i, L, hm, p0, p1, hS, hE.trans e, f0.ext e⟩) _ yz ⟨0, L35, rfl, by omega, by omega, rfl, (Ext.refl _), (RatsN.more (K := 2) (by have h9 := hR39; rw [hly14, hly22] at h9; exact h9) (by unfold Nt.kk; omega))⟩ ?_))))))
   rintro m45 _ u45 ⟨i, L, hm45, hi, hL, rfl, e45, hR⟩
   refine sq9 (zza 42 (zB (decide ((i : Int) < (y14.n : Int)))) (zzb (zzd (zzu (b := decide ((i : Int) < (y14.n : Int))) xj (fun hb46 => ?_) (fun hb46 => ?_)))))
   ·replace hb46 : (decide ((i : Int) < (y14.n : Int))) = true := hb46
    have qhb46 := of_decide_eq_true hb46
    refine zzs (zzp ?_)
    refine zzd (zzt (sq9 (zza 43 (zI i) ?_)))
    have hl47 := (h15.ext (e19.trans (g25.ext.trans (e33.trans ((ExtB.old eB44 g41.ext hb36).trans e45))))).len
    obtain ⟨r47, b47, o47, hA47, hc47, hr47⟩ := pol_atN (h15.ext (e19.trans (g25.ext.trans (e33.trans ((ExtB.old eB44 g41.ext hb36).trans e45))))) (i := i) xq
    refine zya 44 (o47 + i * 3) (n := y14.n) (off := o47) (sz := 3) (i := (i : Int)) xq hA47 xq xq sl40 (zym 45 r47.cs hc47 ty74 (zzk 11 ⟨74, [.bool false, .slice none 0 0, .slice none 0 0]⟩ (zza 10 (zI i) (zzj ⟨74, r47.cs⟩ ty74 ?_))))
    refine zzb (sq9 (zza 46 (.v y22.v) (zza 47 (zI y22.n) (zza 48 (zI 0) (zzb (zzt (zyn (I := fun m48 S' u' => ∃ (j : Nat) (M9 : List RL), (m48 = (Nt.trimQ m).length - j) ∧ (j ≤ (Nt.trimQ m).length) ∧ (M9.length = ((Nt.trimQ l).length + (Nt.trimQ m).length - 1)) ∧ (S' = St.of 75 [(5, .adr 5 0), (7, .adr 7 0), (8, .v (.slice y22.a y22.n y22.c)), (9, .slc 9 0 ((y14.n + y22.n) - 1) ((y14.n + y22.n) - 1)), (10, zI i), (11, .adr 11 0), (39, .v (.slice y14.a y14.n y14.c)), (40, zI y14.n), (41, zI i), (46, .v (.slice y22.a y22.n y22.c)), (47, zI y22.n), (48, zI j)] [(5, ⟨74, r12.cs⟩), (7, ⟨74, r20.cs⟩), (9, ⟨74, rcs M9⟩), (11, ⟨74, r47.cs⟩)]) ∧ (Ext u45 u') ∧ (RatsN u' M9 (Nt.inn (Nt.outQ ((Nt.trimQ l).map (· / Nt.msr (Nt.trimQ l))) ((Nt.trimQ m).map (· / Nt.msr (Nt.trimQ m))) ((Nt.trimQ l).length + (Nt.trimQ m).length - 1) i) i (((Nt.trimQ l).map (· / Nt.msr (Nt.trimQ l))).getD i 0) ((Nt.trimQ m).map (· / Nt.msr (Nt.trimQ m))) j) (Nt.kk ((K + ((Nt.trimQ l).length * K + 2)) + (M + ((Nt.trimQ m).length * M + 2)) + 1) (i * (Nt.trimQ m).length + j)))) (fun m S u1 u2 e h => by obtain ⟨j, M9, hm, p0, p1, hS, hE, f0⟩ := h; exact ⟨j, M9, hm, p0, p1, hS, hE.trans e, f0.ext e⟩) _ yz ⟨0, L, rfl, by omega, by omega, rfl, (Ext.refl _), hR⟩ ?_)))))))
    rintro m48 _ u48 ⟨j, M9, hm48, hj, hM9, rfl, e48, hQ⟩
    have hmm := Nat.mul_le_mul_right (Nt.trimQ m).length (show i + 1 ≤ (Nt.trimQ l).length by omega)
    rw [Nat.add_mul] at hmm
    have hkk := Nt.kk_mono (W := ((K + ((Nt.trimQ l).length * K + 2)) + (M + ((Nt.trimQ m).length * M + 2)) + 1)) (t := i * (Nt.trimQ m).length + j) (t' := (Nt.trimQ l).length * (Nt.trimQ m).length) (Nat.le_refl _) xq
    have hk2 := Nt.kk_succ ((K + ((Nt.trimQ l).length * K + 2)) + (M + ((Nt.trimQ m).length * M + 2)) + 1) (i * (Nt.trimQ m).length + j)
    refine sq9 (zza 49 (zB (decide ((j : Int) < (y22.n : Int)))) (zzb (zzd (zzu (b := decide ((j : Int) < (y22.n : Int))) xj (fun hb49 => ?_) (fun hb49 => ?_)))))
    ·replace hb49 : (decide ((j : Int) < (y22.n : Int))) = true := hb49
     have qhb49 := of_decide_eq_true hb49
     refine zzs (zzp ?_)
     refine zzd (zzt (sq9 (zza 50 (zI j) ?_)))
     have hl50 := (h23.ext (e33.trans ((ExtB.old eB44 g41.ext hb36).trans (e45.trans e48)))).len
     obtain ⟨r50, b50, o50, hA50, hc50, hr50⟩ := pol_atN (h23.ext (e33.trans ((ExtB.old eB44 g41.ext hb36).trans (e45.trans e48)))) (i := j) xq
     refine zya 51 (o50 + j * 3) (n := y22.n) (off := o50) (sz := 3) (i := (j : Int)) xq hA50 xq xq sl40 (zym 52 r50.cs hc50 ty74 (zzk 13 ⟨74, [.bool false, .slice none 0 0, .slice none 0 0]⟩ (zza 12 (zI j) (zzj ⟨74, r50.cs⟩ ty74 ?_))))
     refine zzb (zzz [0, 0, 0, 6, 0, 0, 0, 96, 240, 496, 0, 0, 3072, 8176, 16383, 32767] [(0, []), (1, []), (2, []), (3, []), (4, []), (5, []), (6, []), (7, []), (8, []), (9, []), (10, []), (11, []), (12, []), (13, []), (14, []), (15, [])] xj xj (zza 53 (.slc 9 0 ((y14.n + y22.n) - 1) ((y14.n + y22.n) - 1)) (zza 54 (zI i) (zza 55 (zI j) (zyq 56 (x := zI (IntKind.i64.wrap ((i : Int) + (j : Int)))) (zI (i + j : Nat)) (eqI xz) (zza 57 (.slc 9 0 ((y14.n + y22.n) - 1) ((y14.n + y22.n) - 1)) (zza 58 (zI i) (zza 59 (zI j) (zyq 60 (x := zI (IntKind.i64.wrap ((i : Int) + (j : Int)))) (zI (i + j : Nat)) (eqI xz) (zyw 61 (off' := (i + j) * 3) (n := (y14.n + y22.n) - 1) (off := 0) (sz := 3) (i := ((i + j : Nat) : Int)) sl40 xq xq xq ?_))))))))))
     obtain ⟨r51, hrr51⟩ : ∃ r : RL, (M9).getD (i + j) rl0 = r := ⟨_, rfl⟩
     refine zzi 62 (V := ⟨74, rcs M9⟩) (off := (i + j) * 3) (.v r51.v) ty74 (by have h9 := part_rcs (L := M9) (i := i + j) (off := (i + j) * 3) zv rfl; rw [hrr51] at h9; exact h9) ?_
     have h52 := hQ.2 (i + j) zv
     rw [hrr51] at h52
     refine zzi 63 (.v (r47.v)) ty74 zze (zzi 64 (.v (r50.v)) ty74 zze (zzg 65 72 [r47.v, r50.v] ?_))
     intro w53 u53 e53 d53
     have k58 := k_ratMul d53 (hr47.ext (e48.trans e53)).raw (hr50.ext e53).raw xq xq
     with_reducible refine zPm k58 ?_
     rintro _ u56 g57 ⟨r54, rfl, h55⟩
     refine zzg 66 71 [r51.v, r54.v] ?_
     intro w59 u59 e59 d59
     have k64 := k_ratAdd d59 (h52.ext (e53.trans (g57.ext.trans e59))).raw (h55.ext e59).raw xq xq
     with_reducible refine zPm k64 ?_
     rintro _ u62 g63 ⟨r60, rfl, h61⟩
     refine zyw 67 (off' := (i + j) * 3) (n := (y14.n + y22.n) - 1) (off := 0) (sz := 3) (i := ((i + j : Nat) : Int)) sl40 xq xq xq ?_
     refine zyv (V := ⟨74, rcs M9⟩) (off := (i + j) * 3) (rcs ((M9).set (i + j) r60)) ty74 zk (zyx (r := r60) (i := i + j) zv rfl) ?_
     refine zzx ?_
     refine zzp (zzf (zyq 68 (x := zI (IntKind.i64.wrap ((j : Int) + 1))) (zI (j + 1 : Nat)) (eqI xz) (zza 48 (zI (j + 1 : Nat)) (zzx ?_))))
     refine ⟨_, ?_, _, by exact zzv _ _ _, j + 1, (M9).set (i + j) r60, rfl, by omega, by simp; omega, rfl, (e48.trans (e53.trans (g57.ext.trans (e59.trans g63.ext)))), (RatsN.set (i := i + j) (RatsN.more (K := Nt.kk ((K + ((Nt.trimQ l).length * K + 2)) + (M + ((Nt.trimQ m).length * M + 2)) + 1) (i * (Nt.trimQ m).length + j)) (hQ.ext (e53.trans (g57.ext.trans (e59.trans g63.ext)))) (by show _ ≤ Nt.kk _ (i * (Nt.trimQ m).length + j + 1); omega)) yy (RatN.more (K := ((Nt.kk ((K + ((Nt.trimQ l).length * K + 2)) + (M + ((Nt.trimQ m).length * M + 2)) + 1) (i * (Nt.trimQ m).length + j)) + ((K + ((Nt.trimQ l).length * K + 2)) + (M + ((Nt.trimQ m).length * M + 2))) + 1)) h61 (by show _ ≤ Nt.kk _ (i * (Nt.trimQ m).length + j + 1); omega)))⟩
     omega
    ·replace hb49 : (decide ((j : Int) < (y22.n : Int))) = false := hb49
     have qhb49 := of_decide_eq_false hb49
     refine zyc (zzp (zzf (zyq 69 (x := zI (IntKind.i64.wrap ((i : Int) + 1))) (zI (i + 1 : Nat)) (eqI xz) (zza 41 (zI (i + 1 : Nat)) (zzx ?_)))))
     have hj9 : j = (Nt.trimQ m).length := by omega
     refine ⟨_, ?_, _, by exact zzv _ _ _, i + 1, M9, rfl, by omega, by omega, rfl, (e45.trans e48), (by have h9 := hQ; rw [hj9, ← Nat.succ_mul] at h9; have e9 : ((Nt.trimQ m).map (· / Nt.msr (Nt.trimQ m))).length = (Nt.trimQ m).length := zq; show RatsN _ _ (Nt.inn _ _ _ _ ((Nt.trimQ m).map (· / Nt.msr (Nt.trimQ m))).length) _; rw [e9]; exact h9)⟩
     omega
   ·replace hb46 : (decide ((i : Int) < (y14.n : Int))) = false := hb46
    have qhb46 := of_decide_eq_false hb46
    refine zyc (zzp (zzd ?_))
    have hi9 : i = (Nt.trimQ l).length := by omega
    have hR2 : RatsN u45 L (Nt.outQ ((Nt.trimQ l).map (· / Nt.msr (Nt.trimQ l))) ((Nt.trimQ m).map (· / Nt.msr (Nt.trimQ m))) ((Nt.trimQ l).length + (Nt.trimQ m).length - 1) ((Nt.trimQ l).length)) (Nt.kk ((K + ((Nt.trimQ l).length * K + 2)) + (M + ((Nt.trimQ m).length * M + 2)) + 1) ((Nt.trimQ l).length * (Nt.trimQ m).length)) := by have h9 := hR; rw [hi9] at h9; exact h9
    refine zyp (r := 9) (t := 9) [9] xk xj zj zj xj (fun b65 u66 e67 hb68 hh69 => ?_)
    have hp70 : PolN u66 ⟨some ⟨b65, 0, none⟩, (y14.n + y22.n) - 1, (y14.n + y22.n) - 1⟩ (Nt.outQ ((Nt.trimQ l).map (· / Nt.msr (Nt.trimQ l))) ((Nt.trimQ m).map (· / Nt.msr (Nt.trimQ m))) ((Nt.trimQ l).length + (Nt.trimQ m).length - 1) ((Nt.trimQ l).length)) (Nt.kk ((K + ((Nt.trimQ l).length * K + 2)) + (M + ((Nt.trimQ m).length * M + 2)) + 1) ((Nt.trimQ l).length * (Nt.trimQ m).length)) := pol_data1 hh69 yj (hR2.ext e67) xq
    refine zzf (zza 70 (.v (.slice (some ⟨b65, 0, none⟩) ((y14.n + y22.n) - 1) ((y14.n + y22.n) - 1))) (zzi 71 (.v (r12.v)) ty74 zze (zzi 72 (.v (r20.v)) ty74 zze (zzg 73 72 [r12.v, r20.v] ?_))))
    intro w71 u71 e71 d71
    have k76 := k_ratMul d71 (h13.ext (e19.trans (g25.ext.trans (e33.trans ((ExtB.old eB44 g41.ext hb36).trans (e45.trans (e67.trans e71))))))).raw (h21.ext (e33.trans ((ExtB.old eB44 g41.ext hb36).trans (e45.trans (e67.trans e71))))).raw xq xq
    with_reducible refine zPm k76 ?_
    rintro _ u74 g75 ⟨r72, rfl, h73⟩
    refine zzg 74 75 [.slice (some ⟨b65, 0, none⟩) ((y14.n + y22.n) - 1) ((y14.n + y22.n) - 1), r72.v] ?_
    intro w77 u77 e77 d77
    have k82 := k_poScale d77 (hp70.ext (e71.trans (g75.ext.trans e77))).raw (h73.ext e77).raw xq xw xq
    with_reducible refine zPm k82 ?_
    rintro _ u80 g81 ⟨y78, rfl, h79⟩
    have hly78 := h79.len
    refine zza 4 (.v y78.v) (zzb (zzo (ret0 [.slice y78.a y78.n y78.c] ⟨zzq, trivial⟩ fun u83 e84 => ?_)))
    have h8 := Nt.mul_parts (Nt.msr_ne (Nt.trim_nrm l) xq) (Nt.msr_ne (Nt.trim_nrm m) xq) (l := (Nt.trimQ l)) (m := (Nt.trimQ m)) xq xq
    refine ⟨y78, rfl, PolN.more (K := ((Nt.kk ((K + ((Nt.trimQ l).length * K + 2)) + (M + ((Nt.trimQ m).length * M + 2)) + 1) ((Nt.trimQ l).length * (Nt.trimQ m).length)) + (((Nt.trimQ l).length * K + 2) + ((Nt.trimQ m).length * M + 2)))) ?_ ?_⟩
    ·rw [← Nt.mul_trim, ← h8]
     exact (h79.ext e84)
    ·exact Nat.le_trans (Nat.add_le_add_left (Nat.le_refl _) _) (Nt.mlK_mono (n := (Nt.trimQ l).length) (m := (Nt.trimQ m).length) htl htm (Nat.le_refl K) (Nat.le_refl M))
set_option maxHeartbeats 2000000 in
theorem k_r5Trim {u w : World} {x : Sl} {l : List Rat} {K : Nat} (d : Dat u w) (hx : PolV u x l K) (hK : K ≤ 50000000) (hx9 : l.length ≤ 1000000000) : Calls Tryz.prog 92 #[x.v] w (Post u w fun v u' => ∃ y : Sl, v = y.v ∧ PolN u' y (Nt.trimQ l) K) := by
 have hlen := hx.len
 have htl := Nt.zzh l
 refine zzm (args := [.slice x.a x.n x.c]) Tryz.func92 rfl Tryz.ntmps92 (rs := [.tmp 2]) Tryz.results92 (le_b rfl) (le_b rfl) d ?_
 refine sq9 (zza 2 (.v (.slice none 0 0)) (zzb (sq9 (zza 7 (.v x.v) (zza 8 (zI x.n) (zza 3 (zI x.n) (zzb (zzd (zzt (zyn (I := fun m11 S' u' => ∃ (n : Nat), (m11 = n) ∧ (n ≤ l.length) ∧ (∀ i, n ≤ i → Nt.co l i = 0) ∧ (S' = St.of 37 [(0, .v (.slice x.a x.n x.c)), (3, zI n)] []) ∧ (Ext u u')) (fun m S u1 u2 e h => by obtain ⟨n, hm, p0, p1, hS, hE⟩ := h; exact ⟨n, hm, p0, p1, hS, hE.trans e⟩) _ yz ⟨x.n, rfl, by omega, fun i hi => Nt.co_ge xq, rfl, (Ext.refl _)⟩ ?_))))))))))
 rintro m11 _ u11 ⟨n, hm11, hn, hz, rfl, e11⟩
 refine zzd (sq9 (zza 9 (zI n) (zza 10 (zB (decide ((0 : Int) < (n : Int)))) ?_)))
 rcases Bool.eq_false_or_eq_true (decide ((0 : Int) < (n : Int))) with hs12 | hs12
 ·refine zyq 11 (x := zB (decide ((0 : Int) < (n : Int)))) (zB true) (by rw [hs12]) ?_
  have qhs12 := of_decide_eq_true hs12
  refine zza 12 (.v x.v) ?_ (hw := w1 2 true 11)
  refine zza 13 (zI n) ?_ (hw := w1 2 true 11)
  refine zyq 14 (x := zI (IntKind.i64.wrap ((n : Int) - 1))) (zI (n - 1 : Nat)) (eqI xz) ?_ (hw := w1 2 true 11)
  have hl13 := (hx.ext e11).len
  obtain ⟨r13, b13, o13, hA13, hc13, hr13⟩ := pol_at (hx.ext e11) (i := n - 1) xq
  refine zya 15 (o13 + (n - 1) * 3) (n := x.n) (off := o13) (sz := 3) (i := ((n - 1 : Nat) : Int)) xq hA13 xq xq sl40 ?_ (hw := w1 2 true 11)
  refine zym 16 r13.cs hc13 ty74 ?_ (hw := w1 2 true 11)
  refine zzg 17 132 [r13.v] ?_ (hw := w1 2 true 11)
  intro w14 u14 e14 d14
  have k17 := k_rqSign d14 (hr13.ext e14) xq
  with_reducible refine zPm k17 ?_
  rintro _ u15 g16 rfl
  refine zza 18 (zB ((Nt.sgQ (l.getD (n - 1) 0)) == 0)) ?_ (hw := w1 2 true 11)
  refine zza 19 (zB ((Nt.sgQ (l.getD (n - 1) 0)) == 0)) (zzb (zzu (b := (Nt.sgQ (l.getD (n - 1) 0)) == 0) xj (fun hb18 => ?_) (fun hb18 => ?_)))
  ·replace hb18 : ((Nt.sgQ (l.getD (n - 1) 0)) == 0) = true := hb18
   refine zzs (zzp ?_)
   refine zzt (zzf (zza 20 (zI n) (zyq 21 (x := zI (IntKind.i64.wrap ((n : Int) - 1))) (zI (n - 1 : Nat)) (eqI xz) (zza 3 (zI (n - 1 : Nat)) (zzx ?_)))))
   refine ⟨_, ?_, _, by exact zzv _ _ _, n - 1, rfl, by omega, (fun i hi => by by_cases e : i = n - 1; (rw [e]; have h9 := hb18; rw [Nt.sgQ_eq] at h9; exact of_decide_eq_true h9); exact hz i xq), rfl, (e11.trans (e14.trans g16.ext))⟩
   omega
  ·replace hb18 : ((Nt.sgQ (l.getD (n - 1) 0)) == 0) = false := hb18
   refine zyc (zzp (zzd ?_))
   have he9 := Nt.trim_len_of (l := l) hn hz (fun _ h => by have h9 := hb18; rw [Nt.sgQ_eq] at h9; exact of_decide_eq_false h9 h)
   clear hz
   refine zzf (zza 4 (.v (.slice none 0 0)) (zzb (zzd (sq9 (zza 22 (.v x.v) (zza 23 (zI n) ?_))))))
   have hl19 := (hx.ext (e11.trans (e14.trans g16.ext))).len
   have hc19 := (hx.ext (e11.trans (e14.trans g16.ext))).cap
   refine sy_front 24 (n := x.n) (c := x.c) n sl40 rfl xq ?_
   refine zza 25 (zI n) (zza 26 (zI 0) (zzb (zzt (zyn (I := fun m20 S' u' => (m20 = n ∧ S' = St.of 37 [(4, .v (.slice none 0 0)), (24, .v (.slice x.a n x.c)), (25, zI n), (26, zI 0)] [] ∧ Ext u15 u') ∨ (∃ (i : Nat) (L : List RL) (cs : List Value) (cp : Nat), m20 = n - i ∧ i ≤ n ∧ 0 < i ∧ L.length = i ∧ cs.length = cp * 3 ∧ i ≤ cp ∧ cp ≤ maxLen ∧ cs.take (i * 3) = rcs L ∧ S' = St.of 37 [(4, .slc 34 0 i cp), (24, .v (.slice x.a n x.c)), (25, zI n), (26, zI i)] [(34, ⟨74, cs⟩)] ∧ Ext u15 u' ∧ RatsN u' L ((Nt.trimQ l).take i) K)) (fun m S u1 u2 e h => by rcases h with ⟨a, b, c⟩ | ⟨a1, a2, a3, a4, b1, b2, b3, b4, b5, b6, b7, b8, b9, b10, b11⟩; exact .inl ⟨a, b, c.trans e⟩; exact .inr ⟨a1, a2, a3, a4, b1, b2, b3, b4, b5, b6, b7, b8, b9, b10.trans e, b11.ext e⟩) _ yz (.inl ⟨rfl, rfl, Ext.refl _⟩) ?_))))
   rintro m20 _ u20 (⟨hm20, rfl, e20⟩ | ⟨i, L, cs, cp, hm20, hi, hp, hL, hc, hle, hmx, ht, rfl, e20, hR⟩)
   ·change SW _ _ _ _ (St.of 37 [(4, .v (.slice none 0 0)), (24, .v (.slice x.a n x.c)), (25, .v (.int .i64 (n : Int))), (26, .v (.int .i64 0))] []) _ _
    refine sq9 (zza 27 (zB (decide ((0 : Int) < (n : Int)))) (zzb (zzd (zzu (b := decide ((0 : Int) < (n : Int))) xj (fun hb21 => ?_) (fun hb21 => ?_)))))
    ·replace hb21 : (decide ((0 : Int) < (n : Int))) = true := hb21
     have qhb21 := of_decide_eq_true hb21
     refine zzs (zzp ?_)
     refine zzd (zzt (sq9 ?_))
     have hl22 := ((pol_take (hx.ext (e11.trans (e14.trans g16.ext))) xq).ext e20).len
     change n = _ at hl22
     obtain ⟨r22, b22, o22, hA22, hc22, hr22⟩ := pol_at ((pol_take (hx.ext (e11.trans (e14.trans g16.ext))) xq).ext e20) (i := 0) xq
     refine zya 28 (o22 + 0 * 3) (n := n) (off := o22) (sz := 3) (i := 0) xq hA22 xq xq sl40 (zym 29 r22.cs hc22 ty74 (zzk 6 ⟨74, [.bool false, .slice none 0 0, .slice none 0 0]⟩ (zzj ⟨74, r22.cs⟩ ty74 ?_)))
     refine zzb (zzf (zza 30 (.v (.slice none 0 0)) (zzi 31 (.v (r22.v)) ty74 zze (zzg 32 133 [r22.v] ?_))))
     intro w23 u23 e23 d23
     have k28 := k_rqTrim d23 (hr22.ext e23) xq
     with_reducible refine zPm k28 ?_
     rintro _ u26 g27 ⟨r24, rfl, h25⟩
     refine zxz 33 ⟨74, r24.cs⟩ 1 (fun b29 u30 e31 h32 => ?_)
     have hp33 : PolN u30 (⟨some ⟨b29, 0, none⟩, 1, 1⟩ : Sl) [((l.take n).getD 0 0)] K := pol_lit (L := [r24]) h32 (rats1 (h25.ext e31)) rfl yv
     refine sy_app0 34 (T := 40) (E := 74) (z := .agg #[.bool false, .slice none 0 0, .slice none 0 0]) (size := 3) (bytes := 56) (b := b29) (off := 0) (m := 1) r24.cs xj xj xj yv rfl (lit_news ((Ext.refl _).cells h32)) (rl_one r24) yv yv yv ?_
     intro c34 cs34 ha34 hb34 hc34 hd34
     refine zza 4 (.slc 34 0 1 c34) (zzx ?_)
     refine zzp (zzf (zza 35 (zI 1) (zza 26 (zI 1) (zzx ?_))))
     have ht35 : 0 < (Nt.trimQ l).length := by skip; omega
     refine ⟨_, ?_, _, by exact zzv _ _ _, .inr ⟨1, [r24], cs34, c34, rfl, by omega, by omega, by simp, hc34, by omega, hb34, hd34, rfl, (e20.trans (e23.trans (g27.ext.trans e31))), (app_first (RatN.more (K := K) (h25.ext e31) xq) ht35 (by rw [List.getD_eq_getElem?_getD, List.getElem?_take_of_lt xq, ← List.getD_eq_getElem?_getD]; exact (Nt.trim_co l 0).symm))⟩⟩
     omega
    ·replace hb21 : (decide ((0 : Int) < (n : Int))) = false := hb21
     have qhb21 := of_decide_eq_false hb21
     refine zyc (zzp (zzd ?_))
     have hp36 : PolN u20 ⟨none, 0, 0⟩ (Nt.trimQ l) K := by have h9 : Nt.trimQ l = [] := List.eq_nil_of_length_eq_zero (by skip; omega); rw [h9]; exact pol_nil _ _
     refine zzf (zza 36 (.v (.slice none 0 0)) (zza 2 (.v (.slice none 0 0)) (zzb (zzo (ret0 [.slice none 0 0] ⟨zzq, trivial⟩ fun u37 e38 => ?_)))))
     refine ⟨⟨none, 0, 0⟩, rfl, ?_⟩
     exact (hp36.ext e38)
   ·change SW _ _ _ _ (St.of 37 [(4, .slc 34 0 i cp), (24, .v (.slice x.a n x.c)), (25, .v (.int .i64 (n : Int))), (26, .v (.int .i64 (i : Int)))] [(34, ⟨74, cs⟩)]) _ _
    refine sq9 (zza 27 (zB (decide ((i : Int) < (n : Int)))) (zzb (zzd (zzu (b := decide ((i : Int) < (n : Int))) xj (fun hb39 => ?_) (fun hb39 => ?_)))))
    ·replace hb39 : (decide ((i : Int) < (n : Int))) = true := hb39
     have qhb39 := of_decide_eq_true hb39
     refine zzs (zzp ?_)
     refine zzd (zzt (sq9 ?_))
     have hl40 := ((pol_take (hx.ext (e11.trans (e14.trans g16.ext))) xq).ext e20).len
     change n = _ at hl40
     obtain ⟨r40, b40, o40, hA40, hc40, hr40⟩ := pol_at ((pol_take (hx.ext (e11.trans (e14.trans g16.ext))) xq).ext e20) (i := i) xq
     refine zya 28 (o40 + i * 3) (n := n) (off := o40) (sz := 3) (i := (i : Int)) xq hA40 xq xq sl40 (zym 29 r40.cs hc40 ty74 (zzk 6 ⟨74, [.bool false, .slice none 0 0, .slice none 0 0]⟩ (zzj ⟨74, r40.cs⟩ ty74 ?_)))
     refine zzb (zzf (zza 30 (.slc 34 0 i cp) (zzi 31 (.v (r40.v)) ty74 zze (zzg 32 133 [r40.v] ?_))))
     intro w41 u41 e41 d41
     have k46 := k_rqTrim d41 (hr40.ext e41) xq
     with_reducible refine zPm k46 ?_
     rintro _ u44 g45 ⟨r42, rfl, h43⟩
     refine zxz 33 ⟨74, r42.cs⟩ 1 (fun b47 u48 e49 h50 => ?_)
     have hp51 : PolN u48 (⟨some ⟨b47, 0, none⟩, 1, 1⟩ : Sl) [((l.take n).getD i 0)] K := pol_lit (L := [r42]) h50 (rats1 (h43.ext e49)) rfl yv
     refine sy_app1 34 (T := 40) (E := 74) (z := .agg #[.bool false, .slice none 0 0, .slice none 0 0]) (size := 3) (bytes := 56) (b := b47) (off := 0) (m := 1) (n := i) (cap := cp) (t := 34) (cs0 := cs) [4, 30, 34] r42.cs xj xj xj yv rfl (lit_news ((Ext.refl _).cells h50)) (rl_one r42) yv yj xq xq xq xq xk ?_
     intro c52 cs52 ha52 hb52 hc52 hd52
     have hd52r : cs52.take ((i + 1) * 3) = rcs (L ++ [r42]) := by rw [hd52, ht, rcs_app]; rfl
     refine zza 4 (.slc 34 0 (i + 1) c52) (zzx ?_)
     refine zzp (zzf (zyq 35 (x := zI (IntKind.i64.wrap ((i : Int) + 1))) (zI (i + 1 : Nat)) (eqI xz) (zza 26 (zI (i + 1 : Nat)) (zzx ?_))))
     have ht53 : i < (Nt.trimQ l).length := by skip; omega
     refine ⟨_, ?_, _, by exact zzv _ _ _, .inr ⟨i + 1, L ++ [r42], cs52, c52, rfl, by omega, by omega, by simp; omega, hc52, by omega, hb52, hd52r, rfl, (e20.trans (e41.trans (g45.ext.trans e49))), (app_next (hR.ext (e41.trans (g45.ext.trans e49))) (RatN.more (K := K) (h43.ext e49) xq) ht53 (by rw [List.getD_eq_getElem?_getD, List.getElem?_take_of_lt xq, ← List.getD_eq_getElem?_getD]; exact (Nt.trim_co l i).symm))⟩⟩
     omega
    ·replace hb39 : (decide ((i : Int) < (n : Int))) = false := hb39
     have qhb39 := of_decide_eq_false hb39
     refine zyc (zzp (zzd (zyp (r := 4) (t := 34) [4, 34] xk xj zj zj xj (fun b55 u56 e57 hb58 hh59 => ?_))))
     have hp54 : PolN u56 ⟨some ⟨b55, 0, none⟩, i, cp⟩ (Nt.trimQ l) K := by have h8 := pol_data hh59 ht hc hle hmx (hR.ext e57); rw [List.take_of_length_le (l := Nt.trimQ l) (by skip; omega)] at h8; exact h8
     refine zzf (zza 36 (.v (.slice (some ⟨b55, 0, none⟩) i cp)) (zza 2 (.v (.slice (some ⟨b55, 0, none⟩) i cp)) (zzb (zzo (ret0 [.slice (some ⟨b55, 0, none⟩) i cp] ⟨zzq, trivial⟩ fun u60 e61 => ?_)))))
     refine ⟨(⟨some ⟨b55, 0, none⟩, i, cp⟩ : Sl), rfl, ?_⟩
     exact (hp54.ext e61)
 ·refine zyq 11 (x := zB (decide ((0 : Int) < (n : Int)))) (zB false) (by rw [hs12]) ?_
  have qhs12 := of_decide_eq_false hs12
  refine zzn 12 (uw 2 true false 11) (zzn 13 (uw 2 true false 11) (zzn 14 (uw 2 true false 11) (zzn 15 (uw 2 true false 11) (zzn 16 (uw 2 true false 11) (zzn 17 (uw 2 true false 11) (zzn 18 (uw 2 true false 11) (zza 19 (zB false) (zzb (zys xj (zyc (zzp ?_)))))))))))
  refine zzd ?_
  have he9 := Nt.trim_len_of (l := l) hn hz (fun h => absurd h xq)
  clear hz
  refine zzf (zza 4 (.v (.slice none 0 0)) (zzb (zzd (sq9 (zza 22 (.v x.v) (zza 23 (zI n) ?_))))))
  have hl62 := (hx.ext e11).len
  have hc62 := (hx.ext e11).cap
  refine sy_front 24 (n := x.n) (c := x.c) n sl40 rfl xq ?_
  refine zza 25 (zI n) (zza 26 (zI 0) (zzb (zzt (zyn (I := fun m63 S' u' => (m63 = n ∧ S' = St.of 37 [(4, .v (.slice none 0 0)), (24, .v (.slice x.a n x.c)), (25, zI n), (26, zI 0)] [] ∧ Ext u11 u') ∨ (∃ (i : Nat) (L : List RL) (cs : List Value) (cp : Nat), m63 = n - i ∧ i ≤ n ∧ 0 < i ∧ L.length = i ∧ cs.length = cp * 3 ∧ i ≤ cp ∧ cp ≤ maxLen ∧ cs.take (i * 3) = rcs L ∧ S' = St.of 37 [(4, .slc 34 0 i cp), (24, .v (.slice x.a n x.c)), (25, zI n), (26, zI i)] [(34, ⟨74, cs⟩)] ∧ Ext u11 u' ∧ RatsN u' L ((Nt.trimQ l).take i) K)) (fun m S u1 u2 e h => by rcases h with ⟨a, b, c⟩ | ⟨a1, a2, a3, a4, b1, b2, b3, b4, b5, b6, b7, b8, b9, b10, b11⟩; exact .inl ⟨a, b, c.trans e⟩; exact .inr ⟨a1, a2, a3, a4, b1, b2, b3, b4, b5, b6, b7, b8, b9, b10.trans e, b11.ext e⟩) _ yz (.inl ⟨rfl, rfl, Ext.refl _⟩) ?_))))
  rintro m63 _ u63 (⟨hm63, rfl, e63⟩ | ⟨i, L, cs, cp, hm63, hi, hp, hL, hc, hle, hmx, ht, rfl, e63, hR⟩)
  ·change SW _ _ _ _ (St.of 37 [(4, .v (.slice none 0 0)), (24, .v (.slice x.a n x.c)), (25, .v (.int .i64 (n : Int))), (26, .v (.int .i64 0))] []) _ _
   refine sq9 (zza 27 (zB (decide ((0 : Int) < (n : Int)))) (zzb (zzd (zzu (b := decide ((0 : Int) < (n : Int))) xj (fun hb64 => ?_) (fun hb64 => ?_)))))
   ·replace hb64 : (decide ((0 : Int) < (n : Int))) = true := hb64
    have qhb64 := of_decide_eq_true hb64
    refine zzs (zzp ?_)
    refine zzd (zzt (sq9 ?_))
    have hl65 := ((pol_take (hx.ext e11) xq).ext e63).len
    change n = _ at hl65
    obtain ⟨r65, b65, o65, hA65, hc65, hr65⟩ := pol_at ((pol_take (hx.ext e11) xq).ext e63) (i := 0) xq
    refine zya 28 (o65 + 0 * 3) (n := n) (off := o65) (sz := 3) (i := 0) xq hA65 xq xq sl40 (zym 29 r65.cs hc65 ty74 (zzk 6 ⟨74, [.bool false, .slice none 0 0, .slice none 0 0]⟩ (zzj ⟨74, r65.cs⟩ ty74 ?_)))
    refine zzb (zzf (zza 30 (.v (.slice none 0 0)) (zzi 31 (.v (r65.v)) ty74 zze (zzg 32 133 [r65.v] ?_))))
    intro w66 u66 e66 d66
    have k71 := k_rqTrim d66 (hr65.ext e66) xq
    with_reducible refine zPm k71 ?_
    rintro _ u69 g70 ⟨r67, rfl, h68⟩
    refine zxz 33 ⟨74, r67.cs⟩ 1 (fun b72 u73 e74 h75 => ?_)
    have hp76 : PolN u73 (⟨some ⟨b72, 0, none⟩, 1, 1⟩ : Sl) [((l.take n).getD 0 0)] K := pol_lit (L := [r67]) h75 (rats1 (h68.ext e74)) rfl yv
    refine sy_app0 34 (T := 40) (E := 74) (z := .agg #[.bool false, .slice none 0 0, .slice none 0 0]) (size := 3) (bytes := 56) (b := b72) (off := 0) (m := 1) r67.cs xj xj xj yv rfl (lit_news ((Ext.refl _).cells h75)) (rl_one r67) yv yv yv ?_
    intro c77 cs77 ha77 hb77 hc77 hd77
    refine zza 4 (.slc 34 0 1 c77) (zzx ?_)
    refine zzp (zzf (zza 35 (zI 1) (zza 26 (zI 1) (zzx ?_))))
    have ht78 : 0 < (Nt.trimQ l).length := by skip; omega
    refine ⟨_, ?_, _, by exact zzv _ _ _, .inr ⟨1, [r67], cs77, c77, rfl, by omega, by omega, by simp, hc77, by omega, hb77, hd77, rfl, (e63.trans (e66.trans (g70.ext.trans e74))), (app_first (RatN.more (K := K) (h68.ext e74) xq) ht78 (by rw [List.getD_eq_getElem?_getD, List.getElem?_take_of_lt xq, ← List.getD_eq_getElem?_getD]; exact (Nt.trim_co l 0).symm))⟩⟩
    omega
   ·replace hb64 : (decide ((0 : Int) < (n : Int))) = false := hb64
    have qhb64 := of_decide_eq_false hb64
    refine zyc (zzp (zzd ?_))
    have hp79 : PolN u63 ⟨none, 0, 0⟩ (Nt.trimQ l) K := by have h9 : Nt.trimQ l = [] := List.eq_nil_of_length_eq_zero (by skip; omega); rw [h9]; exact pol_nil _ _
    refine zzf (zza 36 (.v (.slice none 0 0)) (zza 2 (.v (.slice none 0 0)) (zzb (zzo (ret0 [.slice none 0 0] ⟨zzq, trivial⟩ fun u80 e81 => ?_)))))
    refine ⟨⟨none, 0, 0⟩, rfl, ?_⟩
    exact (hp79.ext e81)
  ·change SW _ _ _ _ (St.of 37 [(4, .slc 34 0 i cp), (24, .v (.slice x.a n x.c)), (25, .v (.int .i64 (n : Int))), (26, .v (.int .i64 (i : Int)))] [(34, ⟨74, cs⟩)]) _ _
   refine sq9 (zza 27 (zB (decide ((i : Int) < (n : Int)))) (zzb (zzd (zzu (b := decide ((i : Int) < (n : Int))) xj (fun hb82 => ?_) (fun hb82 => ?_)))))
   ·replace hb82 : (decide ((i : Int) < (n : Int))) = true := hb82
    have qhb82 := of_decide_eq_true hb82
    refine zzs (zzp ?_)
    refine zzd (zzt (sq9 ?_))
    have hl83 := ((pol_take (hx.ext e11) xq).ext e63).len
    change n = _ at hl83
    obtain ⟨r83, b83, o83, hA83, hc83, hr83⟩ := pol_at ((pol_take (hx.ext e11) xq).ext e63) (i := i) xq
    refine zya 28 (o83 + i * 3) (n := n) (off := o83) (sz := 3) (i := (i : Int)) xq hA83 xq xq sl40 (zym 29 r83.cs hc83 ty74 (zzk 6 ⟨74, [.bool false, .slice none 0 0, .slice none 0 0]⟩ (zzj ⟨74, r83.cs⟩ ty74 ?_)))
    refine zzb (zzf (zza 30 (.slc 34 0 i cp) (zzi 31 (.v (r83.v)) ty74 zze (zzg 32 133 [r83.v] ?_))))
    intro w84 u84 e84 d84
    have k89 := k_rqTrim d84 (hr83.ext e84) xq
    with_reducible refine zPm k89 ?_
    rintro _ u87 g88 ⟨r85, rfl, h86⟩
    refine zxz 33 ⟨74, r85.cs⟩ 1 (fun b90 u91 e92 h93 => ?_)
    have hp94 : PolN u91 (⟨some ⟨b90, 0, none⟩, 1, 1⟩ : Sl) [((l.take n).getD i 0)] K := pol_lit (L := [r85]) h93 (rats1 (h86.ext e92)) rfl yv
    refine sy_app1 34 (T := 40) (E := 74) (z := .agg #[.bool false, .slice none 0 0, .slice none 0 0]) (size := 3) (bytes := 56) (b := b90) (off := 0) (m := 1) (n := i) (cap := cp) (t := 34) (cs0 := cs) [4, 30, 34] r85.cs xj xj xj yv rfl (lit_news ((Ext.refl _).cells h93)) (rl_one r85) yv yj xq xq xq xq xk ?_
    intro c95 cs95 ha95 hb95 hc95 hd95
    have hd95r : cs95.take ((i + 1) * 3) = rcs (L ++ [r85]) := by rw [hd95, ht, rcs_app]; rfl
    refine zza 4 (.slc 34 0 (i + 1) c95) (zzx ?_)
    refine zzp (zzf (zyq 35 (x := zI (IntKind.i64.wrap ((i : Int) + 1))) (zI (i + 1 : Nat)) (eqI xz) (zza 26 (zI (i + 1 : Nat)) (zzx ?_))))
    have ht96 : i < (Nt.trimQ l).length := by skip; omega
    refine ⟨_, ?_, _, by exact zzv _ _ _, .inr ⟨i + 1, L ++ [r85], cs95, c95, rfl, by omega, by omega, by simp; omega, hc95, by omega, hb95, hd95r, rfl, (e63.trans (e84.trans (g88.ext.trans e92))), (app_next (hR.ext (e84.trans (g88.ext.trans e92))) (RatN.more (K := K) (h86.ext e92) xq) ht96 (by rw [List.getD_eq_getElem?_getD, List.getElem?_take_of_lt xq, ← List.getD_eq_getElem?_getD]; exact (Nt.trim_co l i).symm))⟩⟩
    omega
   ·replace hb82 : (decide ((i : Int) < (n : Int))) = false := hb82
    have qhb82 := of_decide_eq_false hb82
    refine zyc (zzp (zzd (zyp (r := 4) (t := 34) [4, 34] xk xj zj zj xj (fun b98 u99 e100 hb101 hh102 => ?_))))
    have hp97 : PolN u99 ⟨some ⟨b98, 0, none⟩, i, cp⟩ (Nt.trimQ l) K := by have h8 := pol_data hh102 ht hc hle hmx (hR.ext e100); rw [List.take_of_length_le (l := Nt.trimQ l) (by skip; omega)] at h8; exact h8
    refine zzf (zza 36 (.v (.slice (some ⟨b98, 0, none⟩) i cp)) (zza 2 (.v (.slice (some ⟨b98, 0, none⟩) i cp)) (zzb (zzo (ret0 [.slice (some ⟨b98, 0, none⟩) i cp] ⟨zzq, trivial⟩ fun u103 e104 => ?_)))))
    refine ⟨(⟨some ⟨b98, 0, none⟩, i, cp⟩ : Sl), rfl, ?_⟩
    exact (hp97.ext e104)
set_option maxHeartbeats 1000000 in
theorem k_sameList {u w : World} {x : Sl} {l : List Rat} {y : Sl} {m : List Rat} {K M : Nat} (d : Dat u w) (hx : PolN u x l K) (hy : PolN u y m M) (hx9 : l.length ≤ 1000000000) (hy9 : m.length ≤ 1000000000) : Calls Tryz.prog 131 #[x.v, y.v] w (Post u w fun v u' => v = .bool (decide (l = m))) := by
 have hlen := hx.len
 have hlen2 := hy.len
 refine zzm (args := [.slice x.a x.n x.c, .slice y.a y.n y.c]) Tryz.func131 rfl Tryz.ntmps131 (rs := [.tmp 4]) Tryz.results131 (le_b rfl) (le_b rfl) d ?_
 refine sq9 (zza 4 (zB false) (zzb (zzd (sq9 (zza 6 (.v x.v) (zza 7 (zI x.n) (zza 8 (.v y.v) (zza 9 (zI y.n) (zza 10 (zB ((x.n : Int) != (y.n : Int))) (zzb (zzu (b := (x.n : Int) != (y.n : Int)) xj (fun hb11 => ?_) (fun hb11 => ?_))))))))))))
 ·replace hb11 : ((x.n : Int) != (y.n : Int)) = true := hb11
  refine sq9 (zza 4 (zB false) (zzb (zzo (zzw (ret0 [.bool false] ⟨zzq, trivial⟩ fun u12 e13 => ?_)))))
  have e9 : l ≠ m := by intro e; have h9 := congrArg List.length e; have h8 := hb11; simp at h8; omega
  show Value.bool false = Value.bool _
  rw [decide_eq_false e9]
 ·replace hb11 : ((x.n : Int) != (y.n : Int)) = false := hb11
  have hnn : x.n = y.n := by have h9 : (x.n : Int) = (y.n : Int) := (by simpa using hb11); omega
  refine zzs (zzp ?_)
  refine zzd (sq9 (zza 5 (zI 0) (zzb (zzt (zyn (I := fun m14 S' u' => ∃ (i : Nat), (m14 = x.n - i) ∧ (i ≤ x.n) ∧ (∀ j, j < i → l.getD j 0 = m.getD j 0) ∧ (S' = St.of 27 [(0, .v (.slice x.a x.n x.c)), (1, .v (.slice y.a y.n y.c)), (5, zI i)] []) ∧ (Ext u u')) (fun m S u1 u2 e h => by obtain ⟨i, hm, p0, p1, hS, hE⟩ := h; exact ⟨i, hm, p0, p1, hS, hE.trans e⟩) _ yz ⟨0, rfl, by omega, fun j hj => by omega, rfl, (Ext.refl _)⟩ ?_)))))
  rintro m14 _ u14 ⟨i, hm14, hi, hz, rfl, e14⟩
  refine zzd (sq9 (zza 11 (zI i) (zza 12 (.v x.v) (zza 13 (zI x.n) (zza 14 (zB (decide ((i : Int) < (x.n : Int)))) (zzb (zzu (b := decide ((i : Int) < (x.n : Int))) xj (fun hb15 => ?_) (fun hb15 => ?_))))))))
  ·replace hb15 : (decide ((i : Int) < (x.n : Int))) = true := hb15
   have qhb15 := of_decide_eq_true hb15
   refine zzs (zzp ?_)
   refine zzd (zzt (zzd (zzz [0, 0, 3, 7, 0, 0, 48, 112, 255, 511] [(0, []), (1, []), (2, []), (3, []), (4, []), (5, []), (6, []), (7, []), (8, []), (9, [])] xj xj (zza 17 (.v x.v) (zza 18 (zI i) ?_)))))
   have hl16 := (hx.ext e14).len
   obtain ⟨r16, b16, o16, hA16, hc16, hr16⟩ := pol_atN (hx.ext e14) (i := i) xq
   refine zya 19 (o16 + i * 3) (n := x.n) (off := o16) (sz := 3) (i := (i : Int)) xq hA16 xq xq sl39 (zym 20 r16.cs hc16 ty74 (zza 21 (.v y.v) (zza 22 (zI i) ?_)))
   have hl17 := (hy.ext e14).len
   obtain ⟨r17, b17, o17, hA17, hc17, hr17⟩ := pol_atN (hy.ext e14) (i := i) xq
   refine zya 23 (o17 + i * 3) (n := y.n) (off := o17) (sz := 3) (i := (i : Int)) xq hA17 xq xq sl39 (zym 24 r17.cs hc17 ty74 (zzg 25 160 [r16.v, r17.v] ?_))
   intro w18 u18 e18 d18
   have k21 := k_rqSame d18 (hr16.ext e18) (hr17.ext e18)
   with_reducible refine zPm k21 ?_
   rintro _ u19 g20 rfl
   refine zza 26 (zB (!(decide ((l.getD i 0) = (m.getD i 0))))) (zzb (zzu (b := !(decide ((l.getD i 0) = (m.getD i 0)))) xj (fun hb22 => ?_) (fun hb22 => ?_)))
   ·replace hb22 : (!(decide ((l.getD i 0) = (m.getD i 0)))) = true := hb22
    refine sq9 (zza 4 (zB false) (zzb (zzo (zyu (zzw (zyt (zyu (zzw (ret0 [.bool false] ⟨zzq, trivial⟩ fun u23 e24 => ?_)))))))))
    have e9 : l ≠ m := by intro e; have h9 := hb22; rw [e] at h9; simp at h9
    show Value.bool false = Value.bool _
    rw [decide_eq_false e9]
   ·replace hb22 : (!(decide ((l.getD i 0) = (m.getD i 0)))) = false := hb22
    refine zzs (zzp ?_)
    refine zzf (zza 15 (zI i) (zyq 16 (x := zI (IntKind.i64.wrap ((i : Int) + 1))) (zI (i + 1 : Nat)) (eqI xz) (zza 5 (zI (i + 1 : Nat)) (zzx ?_))))
    refine ⟨_, ?_, _, by exact zzv _ _ _, i + 1, rfl, by omega, (fun j hj => by by_cases e : j = i; (rw [e]; have h9 := hb22; simpa using h9); exact hz j xq), rfl, (e14.trans (e18.trans g20.ext))⟩
    omega
  ·replace hb15 : (decide ((i : Int) < (x.n : Int))) = false := hb15
   have qhb15 := of_decide_eq_false hb15
   refine zyc (zzp (sq9 (zza 4 (zB true) (zzb (zzo (ret0 [.bool true] ⟨zzq, trivial⟩ fun u25 e26 => ?_))))))
   have e9 : l = m := Nt.list_ext xq (fun j => by by_cases hj : j < i; exact hz j hj; rw [Nt.co_ge xq, Nt.co_ge xq])
   show Value.bool true = Value.bool _
   rw [decide_eq_true e9]
theorem k_r5Equal {u w : World} {x : Sl} {l : List Rat} {y : Sl} {m : List Rat} {K M : Nat} (d : Dat u w) (hx : PolN u x l K) (hy : PolN u y m M) (hx9 : l.length ≤ 1000000000) (hy9 : m.length ≤ 1000000000) : Calls Tryz.prog 91 #[x.v, y.v] w (Post u w fun v u' => v = .bool (decide (l = m))) := by
 have hlen := hx.len
 have hlen2 := hy.len
 refine zzm (args := [.slice x.a x.n x.c, .slice y.a y.n y.c]) Tryz.func91 rfl Tryz.ntmps91 (rs := [.tmp 4]) Tryz.results91 (le_b rfl) (le_b rfl) d ?_
 refine sq9 (zza 4 (zB false) (zzb (sq9 (zza 5 (.v x.v) (zza 6 (.v y.v) (zzg 7 131 [x.v, y.v] ?_))))))
 intro w11 u11 e11 d11
 have k14 := k_sameList d11 (hx.ext e11) (hy.ext e11) xw xw
 with_reducible refine zPm k14 ?_
 rintro _ u12 g13 rfl
 refine zza 4 (zB (decide (l = m))) (zzb (zzo (ret0 [.bool (decide (l = m))] ⟨zzq, trivial⟩ fun u15 e16 => ?_)))
 rfl
namespace Nt
namespace Pol
theorem monic_zero : (0 : Pol).monic = 0 := by unfold monic; rw [mul_zero]
theorem IsGcd.mul {p q g : Pol} (h : IsGcd p q g) (r : Pol) : IsGcd (p * r) (q * r) (g * r).monic := by
 obtain ⟨u1, e1⟩ := h.l
 obtain ⟨u2, e2⟩ := h.r
 obtain ⟨s, t, e3⟩ := h.s
 by_cases h0 : g * r = 0
 ·rw [h0, monic_zero]
  exact ⟨.inl rfl, ⟨0, by rw [e1]; grind⟩, ⟨0, by rw [e2]; grind⟩, ⟨0, 0, by grind⟩⟩
 ·have h1 := lead_ne h0
  have h2 := C_inv h1
  refine ⟨.inr (monic_lead h0), ⟨C (g * r).lead * u1, ?_⟩, ⟨C (g * r).lead * u2, ?_⟩, ⟨C (1 / (g * r).lead) * s, C (1 / (g * r).lead) * t, ?_⟩⟩
  ·unfold monic; grind
  ·unfold monic; grind
  ·unfold monic; grind
theorem npow_zero (p : Pol) : npow p 0 = 1 := rfl
theorem npow_succ (p : Pol) (n : Nat) : npow p (n + 1) = npow p n * p := rfl
end Pol
section
variable {l m : List Rat} {D E A B n : Nat}
theorem Sm.npow (h : Sm l D A) (n : Nat) : Sm (Pol.npow (Pol.mk' l) n).l (D ^ n) (n * (A + l.length)) := by
 induction n with
 | zero =>
  rw [Pol.npow_zero, Nat.pow_zero, Nat.zero_mul]
  exact (show Sm (List.map (fun z : Int => (z : Rat)) [1]) 1 0 from Sm.ofInts yv).trim
 | succ n ih =>
  rw [Pol.npow_succ, Nat.pow_succ, Nat.add_mul, Nat.one_mul]
  have h9 := (ih.mulR (h.trim : Sm (Pol.mk' l).l D A)).trim.more (B := n * (A + l.length) + (A + l.length)) (by have h8 := zzh l; change _ + A + (trimQ l).length ≤ _; omega)
  exact h9
theorem len_of_co {a : Nat} (h : ∀ i, a ≤ i → Nt.co l i = 0) : (trimQ l).length ≤ a := Pol.len_le (p := Pol.mk' l) fun i hi => by rw [Pol.mk_c]; exact h i hi
theorem zxv {a b : Nat} (h1 : l.length ≤ a) (h2 : m.length ≤ b) : (trimQ (mulQ l m)).length ≤ a + b - 1 := len_of_co fun i hi => mulQ_far xq
theorem add_lenQ {a b : Nat} (h1 : l.length ≤ a) (h2 : m.length ≤ b) : (trimQ (addQ l m)).length ≤ max a b := Nat.le_trans (zzh _) (by rw [addQ_len]; omega)
theorem map_lenQ {a : Nat} {f : Rat → Rat} (h1 : l.length ≤ a) : (trimQ (l.map f)).length ≤ a := Nat.le_trans (zzh _) (by rw [List.length_map]; omega)
end
end Nt
namespace Nt
section
variable {p q : List Rat} {u v x y : Pol}
end
end Nt
end Go.Proofs.YtifcjcecmoimjaaGreat
namespace Go.Proofs.YtifcjcecmoimjaaGreat.Nt
open Go.RowKit
open Pol
set_option linter.unusedVariables false
section
variable {P q ps qs l m p : List Rat} {A B D E F a b K : Nat} {c x y : Rat}
def nxQ (q ps : List Rat) : List Rat := subN (ps.length - q.length) (ps.getD (ps.length - 1) 0 / q.getD (q.length - 1) 0) q (ps.take (ps.length - 1)) (q.length - 1)
theorem nx_co (hn : q.length ≤ ps.length) (hm : 0 < q.length) (hq : co q (q.length - 1) ≠ 0) (i : Nat) :
  co (nxQ q ps) i = co ps i - (if ps.length - q.length ≤ i then co ps (ps.length - 1) / co q (q.length - 1) * co q (i - (ps.length - q.length)) else 0) := by
 unfold nxQ
 rw [subN_co (by rw [List.length_take]; omega)]
 change _ - (if _ then co ps (ps.length - 1) / co q (q.length - 1) * _ else 0) = _
 obtain ⟨c, hc⟩ : ∃ c, co ps (ps.length - 1) / co q (q.length - 1) = c := ⟨_, rfl⟩
 rw [hc]
 by_cases h1 : i < ps.length - 1
 ·rw [co_take h1]
  change co ps i - _ = _
  by_cases h2 : ps.length - q.length ≤ i
  ·rw [if_pos h2, if_pos xq]
  ·rw [if_neg h2, if_neg xq]
 ·rw [co_ge (l := ps.take _) (by rw [List.length_take]; omega), if_neg xq, if_pos xq]
  by_cases h2 : i = ps.length - 1
  ·rw [h2, show ps.length - 1 - (ps.length - q.length) = q.length - 1 by omega, ← hc]; grind
  ·rw [co_ge xq, co_ge (l := q) xq]; grind
theorem nx_len (hn : q.length ≤ ps.length) (hm : 0 < q.length) : (trimQ (nxQ q ps)).length < ps.length := by
 have h9 := zzh (nxQ q ps)
 unfold nxQ at h9 ⊢
 rw [subN_len, List.length_take] at h9
 omega
structure RefI (P q qs ps : List Rat) : Prop where
 ql : qs.length = P.length + 1 - q.length
 pl : ps.length ≤ P.length
 qz : ∀ j, j + q.length ≤ ps.length → co qs j = 0
 eq : ∀ i, co P i = co (mulQ qs q) i + co ps i
theorem RefI.begin (P q : List Rat) : RefI P q (List.replicate (P.length + 1 - q.length) 0) P := by
 have h0 : ∀ j, co (List.replicate (P.length + 1 - q.length) 0) j = 0 := fun j => by
  unfold co; rw [List.getD_eq_getElem?_getD, List.getElem?_replicate]; split <;> rfl
 exact ⟨by simp, Nat.le_refl _, fun j _ => h0 j, fun i => by rw [mulQ_zero h0]; grind⟩
theorem RefI.step (h : RefI P q qs ps) (hn : q.length ≤ ps.length) (hm : 0 < q.length) (hq : co q (q.length - 1) ≠ 0) :
  RefI P q (qs.set (ps.length - q.length) (ps.getD (ps.length - 1) 0 / q.getD (q.length - 1) 0)) (trimQ (nxQ q ps)) := by
 have hl := nx_len hn hm
 have hp := h.pl
 have hk : ps.length - q.length < qs.length := by rw [h.ql]; omega
 refine ⟨by rw [List.length_set]; exact h.ql, by omega, fun j hj => ?_, fun i => ?_⟩
 ·rw [co_set hk, if_neg xq]
  exact h.qz j xq
 ·rw [mulQ_set hk (h.qz _ xq), trim_co, nx_co hn hm hq, h.eq i]
  change _ = _ + (if _ then co ps (ps.length - 1) / co q (q.length - 1) * _ else 0) + _
  split <;> grind
theorem RefI.done (h : RefI P q qs ps) : Pol.mk' P = Pol.mk' qs * Pol.mk' q + Pol.mk' ps := by
 refine Pol.ext fun i => ?_
 rw [c_add, ← mk_mul, mk_c, mk_c, mk_c]
 exact h.eq i
theorem div_go (hB : WhL q b) (hq : 0 < q.length) (hl : co q (q.length - 1) ≠ 0) : ∀ (n k : Nat) (s t : List Rat) (f : Rat), k + n = p.length → (k = 0 ∨ q.length ≤ n + 1) → DivI p q n s t f → WhL t (a + k * (b + 1)) →
  ∃ s t f, DivR p q s t f ∧ WhL t (a + (p.length - q.length + 1) * (b + 1)) := by
 intro n
 have stop : ∀ (n k : Nat) (s t : List Rat) (f : Rat), k + n = p.length → (k = 0 ∨ q.length ≤ n + 1) → n < q.length → DivI p q n s t f → WhL t (a + k * (b + 1)) → ∃ s t f, DivR p q s t f ∧ WhL t (a + (p.length - q.length + 1) * (b + 1)) := by
  intro n k s t f hk hs h hD hW
  refine ⟨s, _, f, hD.done h, (hW.take _).more (Nat.add_le_add_left (Nat.mul_le_mul_right _ ?_) _)⟩
  omega
 induction n with
 | zero =>
  intro k s t f hk hs hD hW
  exact stop 0 k s t f hk hs hq hD hW
 | succ n ih =>
  intro k s t f hk hs hD hW
  by_cases h : n + 1 < q.length
  ·exact stop (n + 1) k s t f hk hs h hD hW
  ·have h1 := hD.step xq xq hq hl (x := co t n) (d := co q (q.length - 1)) hl rfl
   refine ih (k + 1) _ _ _ xq (.inr xq) h1 ?_
   have hd : Wh (co q (q.length - 1)) b := hB _
   refine WhL.more (WhL.subN (hW.map hd) (fun i => (hW n).mul (hB i)) (by rw [List.length_map, hD.tl]; omega)) ?_
   rw [Nat.add_mul]; omega
theorem div_exists (hA : WhL p a) (hB : WhL q b) (hq : Nrm q) (hq0 : 0 < q.length) : ∃ s t f, DivR p q s t f ∧ WhL t (a + (p.length - q.length + 1) * (b + 1)) :=
 div_go hB hq0 (nrm_last hq (by rintro rfl; simp at hq0)) p.length 0 _ _ _ xq (.inl rfl) (DivI.begin p q) (by rw [Nat.zero_mul]; exact hA)
theorem monic_Cmul {k : Rat} (hk : k ≠ 0) (r : Pol) : (C k * r).monic = r.monic := by
 by_cases h0 : r = 0
 ·rw [h0, mul_zero]
 ·have h1 := lead_ne h0
  have h2 : (C k * r).lead = k * r.lead := by rw [lead_mul (C_ne hk) h0, lead_C hk]
  unfold monic
  rw [h2, ← mul_assoc, ← C_mul]
  congr 2
  grind
theorem C_unit {k : Rat} (hk : k ≠ 0) : C k * C (1 / k) = 1 := C_inv hk
structure GcdI (l m p q pa pb : List Rat) (A H : Nat) : Prop where
 ep : p = (mk' pa).monic.l
 eq : q = (mk' pb).monic.l
 nb : Nrm pb
 wa : WhL pa A
 wb : WhL pb A
 pt : (A + 1) * (A + 1) * 3 ^ pot pa.length pb.length ≤ H * H
 s : Same (mk' l) (mk' m) (mk' pa) (mk' pb)
theorem GcdI.begin {H : Nat} (hA : WhL (prim l) A) (hB : WhL (prim m) A) (hH : (A + 1) * (A + 1) * 3 ^ pot (trimQ l).length (trimQ m).length ≤ H * H) :
  GcdI l m (mk' l).monic.l (mk' m).monic.l (prim l) (prim m) A H := by
 have e : ∀ l, (mk' l).monic.l = (mk' (prim l)).monic.l := fun l => by
  obtain ⟨k, hk, e⟩ := prim_mk' l
  rw [e, monic_Cmul hk]
 exact ⟨e l, e m, prim_nrm m, hA, hB, by rw [prim_len, prim_len]; exact hH, prim_same l m⟩
theorem monic_nz {r : Pol} (h : r ≠ 0) : ∃ k : Rat, k ≠ 0 ∧ r.monic = C k * r := by
 have h1 := lead_ne h
 exact ⟨1 / r.lead, by intro k; have : (1 : Rat) = (1 / r.lead) * r.lead := by grind
                       rw [k] at this; grind, rfl⟩
theorem GcdI.step {pa pb : List Rat} {H : Nat} {u r : Pol} (h : GcdI l m p q pa pb A H) (hq : 0 < q.length) (e : mk' p = u * mk' q + r) (hr : r.len < (mk' q).len) :
  ∃ pc A', GcdI l m q r.monic.l pb pc A' H := by
 have hb0 : mk' pb ≠ 0 := by
  intro e0
  rw [h.eq, e0, monic_zero, zero_l] at hq
  simp at hq
 have hpb : 0 < pb.length := by
  cases hp : pb with
  | nil => exact absurd (by rw [hp]; rfl) hb0
  | cons x y => simp
 obtain ⟨s, t, f, hD, hW⟩ := div_exists h.wa h.wb h.nb hpb
 obtain ⟨β, hβ, eβ⟩ := monic_nz hb0
 have hpol := hD.pol
 have h2 : (prim t).length < pb.length := by rw [prim_len]; exact Nat.lt_of_le_of_lt (zzh t) hD.lt
 have h3 : (prim t).length ≤ pa.length := by rw [prim_len]; exact Nat.le_trans (zzh t) hD.tl
 refine ⟨prim t, A + (pa.length - pb.length + 1) * (A + 1), h.eq, ?_, prim_nrm t, h.wb.more xq, prim_of_wh hW, pot_step h.pt h2 h3, same_step h.s hD⟩
 have hf := C_unit hD.f0
 have hmq : mk' q = C β * mk' pb := by rw [h.eq, mk_l, eβ]
 have hCβ := C_unit hβ
 obtain ⟨α, hα, eα⟩ : ∃ α : Rat, α ≠ 0 ∧ mk' p = C α * mk' pa := by
  rw [h.ep, mk_l]
  by_cases h0 : mk' pa = 0
  ·exact ⟨1, by decide, by rw [h0, monic_zero, mul_zero]⟩
  ·obtain ⟨k, hk, e⟩ := monic_nz h0
   exact ⟨k, hk, e⟩
 have e2 : u * mk' q + r = (C (1 / f) * C α * mk' s * C (1 / β)) * mk' q + C (1 / f * α) * mk' t := by
  rw [← e, eα, hmq, C_mul]; grind
 have hκ : 1 / f * α ≠ 0 := by
  have := hD.f0
  intro k
  have h7 : α = f * (1 / f * α) := by grind
  rw [k] at h7; grind
 have hlt : (C (1 / f * α) * mk' t).len < (mk' q).len := by
  rw [len_Cmul hκ, hmq, len_Cmul hβ, mk_len_nrm h.nb]
  exact Nat.lt_of_le_of_lt (mk_len t) hD.lt
 have h5 := div_unique e2 hr hlt
 obtain ⟨k, hk, e3⟩ := prim_mk' t
 rw [h5.2, monic_Cmul hκ, e3, monic_Cmul hk]
theorem GcdI.done {pa pb : List Rat} {H : Nat} (h : GcdI l m p q pa pb A H) (hq : q.length = 0) : IsGcd (mk' l) (mk' m) (mk' p) ∧ (∃ k : Rat, k ≠ 0 ∧ ∀ i, co p i = k * co pa i) ∧ WhL pa H := by
 have hb0 : mk' pb = 0 := by
  apply Classical.byContradiction
  intro k
  have h1 := monic_lead k
  have h2 : (mk' pb).monic ≠ 0 := by intro e; rw [e] at h1; unfold lead at h1; rw [c_zero] at h1; exact absurd h1 yv
  have h3 := len_pos h2
  rw [h.eq] at hq
  unfold len at h3
  omega
 have hs := h.s
 rw [hb0] at hs
 refine ⟨by rw [h.ep, mk_l]; exact hs.gcd, by rw [h.ep]; exact monic_scaled pa, h.wa.more ?_⟩
 have := pot_le h.pt; omega
theorem GcdI.le {pa pb : List Rat} {H : Nat} (h : GcdI l m p q pa pb A H) : A ≤ H := by have := pot_le h.pt; omega
theorem GcdI.steps {pa pb : List Rat} {H : Nat} (h : GcdI l m p q pa pb A H) (hq : 0 < q.length) : A + ((trimQ p).length - (trimQ q).length + 1) * (A + 1) ≤ H := by
 have h1 := pot_step h.pt (lr := 0)
 have hp : (trimQ p).length ≤ pa.length := by
  refine Nat.le_trans (zzh p) ?_
  rw [h.ep]
  refine Nat.le_trans (?_ : (mk' pa).monic.l.length ≤ (mk' pa).len) (mk_len pa)
  by_cases h0 : mk' pa = 0
  ·rw [h0, monic_zero]; exact Nat.le_refl _
  ·obtain ⟨k, hk, e⟩ := monic_nz h0
   rw [e]; exact Nat.le_of_eq (len_Cmul hk _)
 have hb0 : mk' pb ≠ 0 := by
  intro e0
  rw [h.eq, e0, monic_zero, zero_l] at hq
  simp at hq
 have hq2 : (trimQ q).length = pb.length := by
  rw [show trimQ q = q by rw [h.eq]; exact (mk' pb).monic.h, h.eq]
  obtain ⟨k, hk, e⟩ := monic_nz hb0
  rw [e]
  exact (len_Cmul hk (mk' pb)).trans (mk_len_nrm h.nb)
 have hpb : 0 < pb.length := by
  cases hp : pb with
  | nil => exact absurd (by rw [hp]; rfl) hb0
  | cons x y => simp
 have h2 := pot_le (h1 hpb (Nat.zero_le _))
 have h3 : ((trimQ p).length - (trimQ q).length + 1) * (A + 1) ≤ (pa.length - pb.length + 1) * (A + 1) := Nat.mul_le_mul_right _ xq
 omega
end
end Go.Proofs.YtifcjcecmoimjaaGreat.Nt
namespace Go.Proofs.YtifcjcecmoimjaaGreat
open Go.RowKit
set_option linter.unusedVariables false
end Go.Proofs.YtifcjcecmoimjaaGreat
namespace Go.Proofs.YtifcjcecmoimjaaGreat
open Go.RowKit
set_option linter.unusedVariables false
set_option maxHeartbeats 2000000 in
theorem k_poSub {u w : World} {x : Sl} {l : List Rat} {y : Sl} {m : List Rat} {K M : Nat} (d : Dat u w) (hx : PolV u x l K) (hy : PolV u y m M) (hK : K ≤ 40000000) (hM : M ≤ 40000000) (hx9 : l.length ≤ 1000000000) (hy9 : m.length ≤ 1000000000) : Calls Tryz.prog 83 #[x.v, y.v] w (Post u w fun v u' => ∃ y : Sl, v = y.v ∧ PolN u' y (Nt.trimQ (Nt.addQ l (m.map (fun z => -z)))) (K + M + 1)) := by
 have hlen := hx.len
 have hlen2 := hy.len
 refine zzm (args := [.slice x.a x.n x.c, .slice y.a y.n y.c]) Tryz.func83 rfl Tryz.ntmps83 (rs := [.tmp 4]) Tryz.results83 (le_b rfl) (le_b rfl) d ?_
 refine sq9 (zza 4 (.v (.slice none 0 0)) (zzb (sq9 (zza 7 (.v y.v) (zza 8 (zI y.n) (sy_make 9 (T := 40) (E := 74) (z := .agg #[.bool false, .slice none 0 0, .slice none 0 0]) (size := 3) (bytes := 56) y.n (rcs (List.replicate y.n rl0)) xj xj rfl rfl xq yj (made_rcs _) ?_))))))
 refine zza 5 (.slc 9 0 y.n y.n) (zzc 27 [(0, .v x.v), (1, .v y.v), (5, .slc 9 0 y.n y.n)] [(9, ⟨74, rcs (List.replicate y.n rl0)⟩)] (zzd (sq9 (zza 10 (.slc 9 0 y.n y.n) (zza 11 (zI y.n) (zza 12 (zI 0) (zzc 27 [(0, .v x.v), (1, .v y.v), (5, .slc 9 0 y.n y.n), (11, zI y.n), (12, zI 0)] [(9, ⟨74, rcs (List.replicate y.n rl0)⟩)] (zzt (zyn (I := fun m11 S' u' => ∃ (i : Nat) (L : List RL), (m11 = y.n - i) ∧ (i ≤ y.n) ∧ (L.length = y.n) ∧ (S' = St.of 27 [(0, .v (.slice x.a x.n x.c)), (1, .v (.slice y.a y.n y.c)), (5, .slc 9 0 y.n y.n), (11, zI y.n), (12, zI i)] [(9, ⟨74, rcs L⟩)]) ∧ (Ext u u') ∧ (RatsN u' (L.take i) ((m.map (fun z => -z)).take i) M)) (fun m S u1 u2 e h => by obtain ⟨i, L, hm, p0, p1, hS, hE, f0⟩ := h; exact ⟨i, L, hm, p0, p1, hS, hE.trans e, f0.ext e⟩) _ yz ⟨0, List.replicate y.n rl0, rfl, by omega, by simp, rfl, (Ext.refl _), RatsN.tnil _ _ _ _⟩ ?_)))))))))
 rintro m11 _ u11 ⟨i, L, hm11, hi, hL, rfl, e11, hR⟩
 refine sq9 (zza 13 (zB (decide ((i : Int) < (y.n : Int)))) (zzb (zzd (zzu (b := decide ((i : Int) < (y.n : Int))) xj (fun hb12 => ?_) (fun hb12 => ?_)))))
 ·replace hb12 : (decide ((i : Int) < (y.n : Int))) = true := hb12
  have qhb12 := of_decide_eq_true hb12
  refine zzs (zzp ?_)
  refine zzd (zzt (sq9 (zza 14 (zI i) (zza 6 (zI i) (zzb (zzf (zza 15 (.slc 9 0 y.n y.n) (zza 16 (zI i) (zza 17 (.v y.v) (zza 18 (zI i) ?_))))))))))
  have hl13 := (hy.ext e11).len
  obtain ⟨r13, b13, o13, hA13, hc13, hr13⟩ := pol_at (hy.ext e11) (i := i) xq
  refine zya 19 (o13 + i * 3) (n := y.n) (off := o13) (sz := 3) (i := (i : Int)) xq hA13 xq xq sl40 (zym 20 r13.cs hc13 ty74 (zzg 21 123 [r13.v] ?_))
  intro w14 u14 e14 d14
  have k19 := k_ratNeg d14 (hr13.ext e14) xq
  with_reducible refine zPm k19 ?_
  rintro _ u17 g18 ⟨r15, rfl, h16⟩
  refine zyw 22 (off' := i * 3) (n := y.n) (off := 0) (sz := 3) (i := (i : Int)) sl40 xq xq xq ?_
  refine zyv (V := ⟨74, rcs L⟩) (off := i * 3) (rcs ((L).set i r15)) ty74 zk (zyx (r := r15) (i := i) zv rfl) ?_
  refine zzx ?_
  refine zzp (zzf (zyq 23 (x := zI (IntKind.i64.wrap ((i : Int) + 1))) (zI (i + 1 : Nat)) (eqI xz) (zza 12 (zI (i + 1 : Nat)) (zzx ?_))))
  have ht20 : i < (m.map (fun z => -z)).length := by rw [List.length_map]; omega
  refine ⟨_, ?_, _, by exact zzv _ _ _, i + 1, (L).set i r15, rfl, by omega, by simpa using hL, rfl, (e11.trans (e14.trans g18.ext)), RatsN.tstep (hR.ext (e14.trans g18.ext)) xq ht20 (RatN.more (K := M) h16 xq) (by simp [List.getElem?_eq_getElem (show i < m.length by omega)])⟩
  omega
 ·replace hb12 : (decide ((i : Int) < (y.n : Int))) = false := hb12
  have qhb12 := of_decide_eq_false hb12
  refine zyc (zzp (zzd (zyp (r := 5) (t := 9) [5, 9] xk xj zj zj xj (fun b21 u22 e23 hb24 hh25 => ?_))))
  have hp26 : PolN u22 ⟨some ⟨b21, 0, none⟩, y.n, y.n⟩ (m.map (fun z => -z)) M := pol_data1 hh25 yj (RatsN.tdone (hR.ext e23) xq (by rw [List.length_map]; omega)) xq
  refine zzf (zza 24 (.v x.v) (zza 25 (.v (.slice (some ⟨b21, 0, none⟩) y.n y.n)) (zzg 26 74 [x.v, .slice (some ⟨b21, 0, none⟩) y.n y.n] ?_)))
  intro w27 u27 e27 d27
  have k32 := k_poAdd d27 (hx.ext (e11.trans (e23.trans e27))) (hp26.ext e27).raw xq xq xw xw
  with_reducible refine zPm k32 ?_
  rintro _ u30 g31 ⟨y28, rfl, h29⟩
  have hly28 := h29.len
  refine zza 4 (.v y28.v) (zzb (zzo (ret0 [.slice y28.a y28.n y28.c] ⟨zzq, trivial⟩ fun u33 e34 => ?_)))
  refine ⟨y28, rfl, ?_⟩
  exact (h29.ext e34)
set_option maxHeartbeats 1000000 in
theorem k_r5Same {u w : World} {x : Sl} {l : List Rat} {y : Sl} {m : List Rat} {K M : Nat} (d : Dat u w) (hx : PolV u x l K) (hy : PolV u y m M) (hK : K ≤ 40000000) (hM : M ≤ 40000000) (hx9 : l.length ≤ 1000000000) (hy9 : m.length ≤ 1000000000) : Calls Tryz.prog 49 #[x.v, y.v] w (Post u w fun v u' => v = .bool (decide (Nt.trimQ l = Nt.trimQ m))) := by
 have hlen := hx.len
 have hlen2 := hy.len
 have htl := Nt.zzh l
 have htm := Nt.zzh m
 refine zzm (args := [.slice x.a x.n x.c, .slice y.a y.n y.c]) Tryz.func49 rfl Tryz.ntmps49 (rs := [.tmp 4]) Tryz.results49 (le_b rfl) (le_b rfl) d ?_
 refine sq9 (zza 4 (zB false) (zzb (sq9 (zza 5 (.v x.v) (zzg 6 92 [x.v] ?_)))))
 intro w11 u11 e11 d11
 have k16 := k_r5Trim d11 (hx.ext e11) xq xw
 with_reducible refine zPm k16 ?_
 rintro _ u14 g15 ⟨y12, rfl, h13⟩
 have hly12 := h13.len
 refine zza 7 (.v y.v) (zzg 8 92 [y.v] ?_)
 intro w17 u17 e17 d17
 have k22 := k_r5Trim d17 (hy.ext (e11.trans (g15.ext.trans e17))) xq xw
 with_reducible refine zPm k22 ?_
 rintro _ u20 g21 ⟨y18, rfl, h19⟩
 have hly18 := h19.len
 refine zzg 9 91 [y12.v, y18.v] ?_
 intro w23 u23 e23 d23
 have k26 := k_r5Equal d23 (h13.ext (e17.trans (g21.ext.trans e23))) (h19.ext e23) xw xw
 with_reducible refine zPm k26 ?_
 rintro _ u24 g25 rfl
 refine zza 4 (zB (decide ((Nt.trimQ l) = (Nt.trimQ m)))) (zzb (zzo (ret0 [.bool (decide ((Nt.trimQ l) = (Nt.trimQ m)))] ⟨zzq, trivial⟩ fun u27 e28 => ?_)))
 rfl
end Go.Proofs.YtifcjcecmoimjaaGreat
namespace Go.Proofs.YtifcjcecmoimjaaGreat.Nt
open Go.RowKit
open Pol
set_option linter.unusedVariables false
def RSz (l : List Rat) (j : Nat) : Prop := l.length ≤ 1 + j ∧ ∃ D, D ≤ 2 ^ (2 + 6 * j) ∧ Sm l D (2 + 6 * j)
theorem RSz.more {l : List Rat} {i j : Nat} (h : RSz l i) (k : i ≤ j) : RSz l j := by
 obtain ⟨h1, D, h2, h3⟩ := h
 exact ⟨by omega, D, Nat.le_trans h2 (Nat.pow_le_pow_right xq xq), h3.more xq⟩
theorem RSz.one {z : Nat} (hz : z < 3) : RSz [(((1 + z : Nat) : Int) : Rat)] 0 :=
 ⟨by simp, 1, by decide, Sm.ofAll xq (fun x hx => by
  rw [List.mem_singleton.1 hx, show ((((1 : Nat) : Int)) : Rat) = 1 from rfl, Rat.mul_one]
  exact whNat xq)⟩
theorem RSz.neg {l : List Rat} {j : Nat} (h : RSz l j) : RSz (trimQ (l.map (· * (((-1) : Int) : Rat)))) j := by
 obtain ⟨h1, D, h2, h3⟩ := h
 refine ⟨map_lenQ h1, D, h2, Sm.trim ⟨h3.1, fun i => ?_⟩⟩
 rw [co_map (fun x => x * (((-1) : Int) : Rat)) (Rat.zero_mul _)]
 obtain ⟨z, hz, hb⟩ := h3.2 i
 refine ⟨-z, ?_, by rw [Int.natAbs_neg]; exact hb⟩
 rw [Rat.intCast_neg (a := z), ← hz]
 have e1 : (((-1) : Int) : Rat) = -1 := by decide +kernel
 rw [e1]; grind
theorem lin_sm {r : Rat} (h : Wh (r * (((12 : Nat) : Int) : Rat)) 4) : Sm [-r, ((1 : Int) : Rat)] 12 4 := Sm.ofAll xq (fun x hx => by
 rcases List.mem_cons.1 hx with rfl | hx
 ·obtain ⟨z, hz, hb⟩ := h
  exact ⟨-z, by rw [Rat.intCast_neg, ← hz]; grind, by rw [Int.natAbs_neg]; exact hb⟩
 ·rw [List.mem_singleton.1 hx]
  exact ⟨12, by decide +kernel, by decide⟩)
theorem RSz.lin {l : List Rat} {j : Nat} {r : Rat} (h : RSz l j) (hr : Wh (r * (((12 : Nat) : Int) : Rat)) 4) : RSz (trimQ (mulQ l [-r, ((1 : Int) : Rat)])) (j + 1) := by
 obtain ⟨h1, D, h2, h3⟩ := h
 refine ⟨Nat.le_trans (zxv h1 (Nat.le_refl _)) yy, D * 12, ?_, ((h3.mulR (lin_sm hr)).trim).more yy⟩
 rw [show 2 + 6 * (j + 1) = (2 + 6 * j) + 6 by omega, Nat.pow_add]
 exact Nat.mul_le_mul h2 yv
def RFin (l : List Rat) : Prop := l.length ≤ 12 ∧ ∃ D, D ≤ 2 ^ 63 ∧ Sm l D 63
theorem RSz.fin {l : List Rat} (h : RSz l 9) : RFin l := by
 obtain ⟨h1, D, h2, h3⟩ := h
 exact ⟨by omega, D, Nat.le_trans h2 yv, h3.more yv⟩
end Go.Proofs.YtifcjcecmoimjaaGreat.Nt
namespace Go.Proofs.YtifcjcecmoimjaaGreat.Nt
open Go.RowKit
open Pol
set_option linter.unusedVariables false
def lin (r : Rat) : Pol := mk' [-r, ((1 : Int) : Rat)]
def Cop (a b : Pol) : Prop := ∃ u v, u * a + v * b = 1
theorem Cop.symm {a b : Pol} (h : Cop a b) : Cop b a := by obtain ⟨u, v, e⟩ := h; exact ⟨v, u, by grind⟩
theorem Cop.mul {a b c : Pol} (h : Cop a c) (k : Cop b c) : Cop (a * b) c := by
 obtain ⟨u, v, e⟩ := h
 obtain ⟨u', v', e'⟩ := k
 refine ⟨u * u', u * a * v' + v * u' * b + v * v' * c, ?_⟩
 have : (u * a + v * c) * (u' * b + v' * c) = 1 := by rw [e, e', one_mul]
 grind
theorem Cop.mulR {a b c : Pol} (h : Cop c a) (k : Cop c b) : Cop c (a * b) := (h.symm.mul k.symm).symm
theorem Cop.add {a b : Pol} (h : Cop a b) (k : Pol) : Cop a (b + k * a) := by
 obtain ⟨u, v, e⟩ := h
 exact ⟨u - v * k, v, by grind⟩
theorem Cop.one (b : Pol) : Cop 1 b := ⟨1, 0, by grind⟩
def prA : List (Rat × Nat) → Pol
 | [] => 1
 | f :: fs => prA fs * npow (lin f.1) f.2
structure QOK (Q : Pol) (rs : List Rat) : Prop where
 ne : Q ≠ 0
 d : Cop Q Q.D
 r : ∀ r ∈ rs, Q.ev r ≠ 0
structure MadeF (P : Pol) (rs : List Rat) : Prop where
 nd : rs.Nodup
 wh : ∀ r ∈ rs, Wh (r * (((12 : Nat) : Int) : Rat)) 4
 ex : ∃ (c : Rat) (fs : List (Rat × Nat)), c ≠ 0 ∧ (∀ f ∈ fs, 1 ≤ f.2) ∧ fs.map (·.1) = rs.reverse ∧ P = C c * prA fs
theorem MadeF.begin (z : Nat) : MadeF (mk' [(((1 + z : Nat) : Int) : Rat)]) [] :=
 ⟨List.nodup_nil, (fun r hr => by cases hr), _, [], dz (show 0 < 1 + z by omega), (fun f hf => by cases hf), rfl, (mul_one _).symm⟩
theorem MadeF.neg {l : List Rat} (h : MadeF (mk' l) []) : MadeF (mk' (trimQ (l.map (· * (((-1) : Int) : Rat))))) [] := by
 obtain ⟨h1, h2, c, fs, h3, h4, h5, h6⟩ := h
 refine ⟨h1, h2, (((-1) : Int) : Rat) * c, fs, ?_, h4, h5, ?_⟩
 ·intro e
  rcases Rat.mul_eq_zero.1 e with e | e
  ·exact absurd e (by decide +kernel)
  ·exact h3 e
 ·rw [mk_trim, mk_map, h6, C_mul]; grind
theorem MadeF.step {P : Pol} {rs : List Rat} {r : Rat} {k : Nat} (h : MadeF P rs) (hr : r ∉ rs) (hk : 1 ≤ k) (hw : Wh (r * (((12 : Nat) : Int) : Rat)) 4) : MadeF (P * npow (lin r) k) (rs ++ [r]) := by
 obtain ⟨h1, h2, c, fs, h3, h4, h5, h6⟩ := h
 refine ⟨?_, ?_, c, (r, k) :: fs, h3, ?_, ?_, ?_⟩
 ·rw [List.nodup_append]
  refine ⟨h1, by simp, fun a ha b hb e => ?_⟩
  rw [List.mem_singleton.1 hb] at e
  exact hr (e ▸ ha)
 ·intro y hy
  rcases List.mem_append.1 hy with hy | hy
  ·exact h2 y hy
  ·rw [List.mem_singleton.1 hy]; exact hw
 ·intro f hf
  rcases List.mem_cons.1 hf with rfl | hf
  ·exact hk
  ·exact h4 f hf
 ·rw [List.map_cons, h5, List.reverse_append]; rfl
 ·show _ = C c * (prA fs * npow (lin r) k)
  rw [h6]; grind
end Go.Proofs.YtifcjcecmoimjaaGreat.Nt
namespace Go.Proofs.YtifcjcecmoimjaaGreat
set_option linter.unusedVariables false
namespace Nt
section
variable {a1 a2 b1 b2 c1 c2 d1 d2 : Rat}
def hl (a b c d : Rat) : Rat := lo (lo a b) (lo c d)
def hh (a b c d : Rat) : Rat := hi (hi a b) (hi c d)
end
end Nt
end Go.Proofs.YtifcjcecmoimjaaGreat
namespace Go.Proofs.YtifcjcecmoimjaaGreat.Nt
open Go.RowKit
open Pol
set_option linter.unusedVariables false
section
variable {l : List Rat} {x a b c : Rat} {i n D A B K : Nat} {q : Pol}
theorem evL_trim (l : List Rat) (x : Rat) : evL (trimQ l) x = evL l x := evL_congr (trim_co l) x
end
end Go.Proofs.YtifcjcecmoimjaaGreat.Nt
namespace Go.Proofs.YtifcjcecmoimjaaGreat.Nt
open Go.RowKit
open Pol
set_option linter.unusedVariables false
section
variable {l m W : List Rat} {x q : Rat} {i A B C : Nat}
def hp (q : Rat) (i : Nat) : Rat := (((q.den ^ (i - 1) : Nat) : Int) : Rat)
def hs (W : List Rat) (q : Rat) (i : Nat) : Rat := hp q i * evL (W.drop (W.length - i)) q
theorem ev_mulL (l m : List Rat) (x : Rat) : evL (trimQ (mulQ l m)) x = evL l x * evL m x := by
 rw [evL_trim, ← mk_ev, mk_mul, ev_mul, mk_ev, mk_ev]
theorem Sm.mem {D : Nat} (h : Sm l D A) : ∀ y ∈ l, Wh (y * ((D : Int) : Rat)) A := fun y hy => by
 obtain ⟨j, hj, e⟩ := List.getElem_of_mem hy
 have h9 := h.2 j
 unfold Nt.co at h9
 rw [List.getD_eq_getElem?_getD, List.getElem?_eq_getElem hj, Option.getD_some, e] at h9
 exact h9
end
end Go.Proofs.YtifcjcecmoimjaaGreat.Nt
namespace Go.Proofs.YtifcjcecmoimjaaGreat.Nt
open Go.RowKit
open Pol
set_option linter.unusedVariables false
def AP (B A : List Rat) : Prop := ∀ z w : Rat, z * w = 1 → evL B z * evL B w = evL A z * evL A w
theorem AP.one : AP [((1 : Int) : Rat)] [((1 : Int) : Rat)] := fun z w _ => rfl
theorem AP.mul {B A B' A' : List Rat} (h : AP B A) (k : AP B' A') : AP (trimQ (mulQ B B')) (trimQ (mulQ A A')) := fun z w e => by
 rw [ev_mulL, ev_mulL, ev_mulL, ev_mulL]
 have h1 := h z w e
 have h2 := k z w e
 grind
theorem AP.trim {B A : List Rat} (h : AP B A) : AP (trimQ B) (trimQ A) := fun z w e => by rw [evL_trim, evL_trim, evL_trim, evL_trim]; exact h z w e
end Go.Proofs.YtifcjcecmoimjaaGreat.Nt
namespace Go.Proofs.YtifcjcecmoimjaaGreat
open Go.RowKit
set_option linter.unusedVariables false
theorem k_mode {u w : World} {r : Int} (d : Dat u w) (h1 : 1 ≤ r) (h2 : r ≤ 3) : Calls Tryz.prog 98 #[.int .i64 r] w (Post u w fun v _ => v = .bool true) := by
 refine zzm (args := [.int .i64 r]) Tryz.func98 rfl Tryz.ntmps98 (rs := [.tmp 2]) Tryz.results98 (le_b rfl) (le_b rfl) d ?_
 refine sq9 (zza 2 (zB false) (zzb (sq9 (zza 3 (zI r) (zza 4 (zB (decide ((1 : Int) ≤ r))) (zyq 5 (x := zB (decide ((1 : Int) ≤ r))) (zB true) (by rw [show (decide ((1 : Int) ≤ r)) = true from decide_eq_true xq]) (zza 6 (zI r) ?_ (hw := w1 2 true 5))))))))
 refine zza 7 (zB (decide (r ≤ 3))) ?_ (hw := w1 2 true 5)
 refine zza 8 (zB (decide (r ≤ 3))) (zza 2 (zB (decide (r ≤ 3))) (zzb (zzo (ret0 [.bool (decide (r ≤ 3))] ⟨zzq, trivial⟩ fun u12 e13 => ?_))))
 show Value.bool _ = Value.bool _
 rw [show (decide (r ≤ 3)) = true from decide_eq_true xq]
theorem k_fxValid {u w : World} {W : WL} (d : Dat u w) (hW : WdOK W) : Calls Tryz.prog 54 #[W.v] w (Post u w fun v _ => v = .bool true) := by
 obtain ⟨hw1, hw2, hw3, hw4, hw5, hw6, hw7, hw8⟩ := id hW
 refine zzm (args := [.agg #[.int .i64 W.b, .int .i64 W.f, .int .i64 W.r, .int .i64 W.o]]) Tryz.func54 rfl Tryz.ntmps54 (rs := [.tmp 2]) Tryz.results54 (le_b rfl) (le_b rfl) d ?_
 refine sq9 (zzk 1 ⟨34, W.cs⟩ (zza 2 (zB false) (zzb (zzd (sq9 (zza 3 (.adr 1 0) (zzi 4 (zI W.b) ty3 zzl (zza 5 (zB (decide (W.b < 4))) (zyq 6 (x := zB (decide (W.b < 4))) (zB false) (by rw [show (decide (W.b < 4)) = false from decide_eq_false xq]) (zza 7 (.adr 1 0) ?_ (hw := w1 3 false 6)))))))))))
 refine zzi 8 (zI W.b) ty3 zzl ?_ (hw := w1 3 false 6)
 refine zza 9 (zB (decide ((24 : Int) < W.b))) ?_ (hw := w1 3 false 6)
 refine zza 10 (zB (decide ((24 : Int) < W.b))) (zyq 11 (x := zB (decide ((24 : Int) < W.b))) (zB false) (by rw [show (decide ((24 : Int) < W.b)) = false from decide_eq_false xq]) (zza 12 (.adr 1 1) ?_ (hw := w1 8 false 11)))
 refine zzi 13 (zI W.f) ty3 zzl ?_ (hw := w1 8 false 11)
 refine zza 14 (zB (decide (W.f < 0))) ?_ (hw := w1 8 false 11)
 refine zza 15 (zB (decide (W.f < 0))) (zyq 16 (x := zB (decide (W.f < 0))) (zB false) (by rw [show (decide (W.f < 0)) = false from decide_eq_false xq]) (zza 17 (.adr 1 1) ?_ (hw := w1 13 false 16)))
 refine zzi 18 (zI W.f) ty3 zzl ?_ (hw := w1 13 false 16)
 refine zza 19 (.adr 1 0) ?_ (hw := w1 13 false 16)
 refine zzi 20 (zI W.b) ty3 zzl ?_ (hw := w1 13 false 16)
 refine zza 21 (zB (decide (W.b ≤ W.f))) ?_ (hw := w1 13 false 16)
 refine zza 22 (zB (decide (W.b ≤ W.f))) (zzb (zzu (b := decide (W.b ≤ W.f)) xj (fun hb => ?_) (fun hb => ?_)))
 ·exact absurd hb (by rw [show (decide (W.b ≤ W.f)) = false from decide_eq_false xq]; decide)
 ·clear hb
  refine zzs (zzp ?_)
  refine sq9 (zza 23 (.adr 1 2) (zzi 24 (zI W.r) ty3 zzl (zzg 25 98 [.int .i64 W.r] ?_)))
  intro w14 u14 e14 d14
  have k17 := k_mode (r := W.r) d14 xq xq
  with_reducible refine zPm k17 ?_
  rintro _ u15 g16 rfl
  refine zza 26 (zB true) (zza 27 (.adr 1 3) ?_ (hw := w1 3 true 26))
  refine zzi 28 (zI W.o) ty3 zzl ?_ (hw := w1 3 true 26)
  refine zza 29 (zB (W.o == 1)) ?_ (hw := w1 3 true 26)
  rcases Bool.eq_false_or_eq_true (W.o == 1) with hs18 | hs18
  ·refine zyq 30 (x := zB (W.o == 1)) (zB true) (by rw [hs18]) ?_ (hw := w1 3 true 26)
   refine zzn 31 (uw 7 false true 30) (zzn 32 (uw 7 false true 30) (zzn 33 (uw 7 false true 30) (zza 34 (zB true) ?_ (hw := w1 3 true 26))))
   refine zza 35 (zB true) (zza 2 (zB true) (zzc 36 [(2, zB true)] [] (zzo (ret0 [.bool true] ⟨zzq, trivial⟩ fun u19 e20 => ?_))))
   rfl
  ·refine zyq 30 (x := zB (W.o == 1)) (zB false) (by rw [hs18]) ?_ (hw := w1 3 true 26)
   refine zza 31 (.adr 1 3) ?_ (hw := w1 7 false 30)
   refine zzi 32 (zI W.o) ty3 zzl ?_ (hw := w1 7 false 30)
   refine zza 33 (zB (W.o == 2)) ?_ (hw := w1 7 false 30)
   refine zza 34 (zB (W.o == 2)) ?_ (hw := w1 3 true 26)
   refine zza 35 (zB (W.o == 2)) (zza 2 (zB (W.o == 2)) (zzc 36 [(2, zB (W.o == 2))] [] (zzo (ret0 [.bool (W.o == 2)] ⟨zzq, trivial⟩ fun u21 e22 => ?_))))
   show Value.bool _ = Value.bool _
   rw [show (W.o == 2) = true from (by have hz := hs18; simp at hz ⊢; omega)]
theorem k_fxLow {u w : World} {W : WL} (d : Dat u w) (hW : WdOK W) : Calls Tryz.prog 126 #[W.v] w (Post u w fun v _ => v = .int .i64 (-Nt.p2i (W.b - 1))) := by
 obtain ⟨hw1, hw2, hw3, hw4, hw5, hw6, hw7, hw8⟩ := id hW
 have hp1 := Nt.zxq (W.b - 1)
 have hp2 := Nt.p2i_24 (n := W.b - 1) xq
 refine zzm (args := [.agg #[.int .i64 W.b, .int .i64 W.f, .int .i64 W.r, .int .i64 W.o]]) Tryz.func126 rfl Tryz.ntmps126 (rs := [.tmp 2]) Tryz.results126 (le_b rfl) (le_b rfl) d ?_
 refine sq9 (zzk 1 ⟨34, W.cs⟩ (zza 2 (zI 0) (zzb (zzd (sq9 (zzi 3 (.v (W.v)) ty34 zze (zzg 4 54 [W.v] ?_)))))))
 intro w11 u11 e11 d11
 have k14 := k_fxValid (W := W) d11 hW
 with_reducible refine zPm k14 ?_
 rintro _ u12 g13 rfl
 refine zza 5 (zB false) (zzb (zys xj (zzs (zzp ?_))))
 refine sq9 (zza 6 (.adr 1 0) (zzi 7 (zI W.b) ty3 zzl (zyq 8 (x := zI (IntKind.i64.wrap (W.b - 1))) (zI (W.b - 1)) yq (sy_shl 9 (k := .i64) (s := W.b - 1) (Nt.p2i (W.b - 1)) xq yw (shl_one xq xq) ?_))))
 refine zyq 10 (x := zI (IntKind.i64.wrap (0 - Nt.p2i (W.b - 1)))) (zI (-Nt.p2i (W.b - 1))) (by rw [show (IntKind.i64.wrap (0 - Nt.p2i (W.b - 1))) = (-Nt.p2i (W.b - 1)) from xz]) (zza 2 (zI (-Nt.p2i (W.b - 1))) (zzb (zzo (ret0 [.int .i64 (-Nt.p2i (W.b - 1))] ⟨zzq, trivial⟩ fun u15 e16 => ?_))))
 rfl
theorem k_fxHigh {u w : World} {W : WL} (d : Dat u w) (hW : WdOK W) : Calls Tryz.prog 127 #[W.v] w (Post u w fun v _ => v = .int .i64 (Nt.p2i (W.b - 1) - 1)) := by
 obtain ⟨hw1, hw2, hw3, hw4, hw5, hw6, hw7, hw8⟩ := id hW
 have hp1 := Nt.zxq (W.b - 1)
 have hp2 := Nt.p2i_24 (n := W.b - 1) xq
 refine zzm (args := [.agg #[.int .i64 W.b, .int .i64 W.f, .int .i64 W.r, .int .i64 W.o]]) Tryz.func127 rfl Tryz.ntmps127 (rs := [.tmp 2]) Tryz.results127 (le_b rfl) (le_b rfl) d ?_
 refine sq9 (zzk 1 ⟨34, W.cs⟩ (zza 2 (zI 0) (zzb (zzd (sq9 (zzi 3 (.v (W.v)) ty34 zze (zzg 4 54 [W.v] ?_)))))))
 intro w11 u11 e11 d11
 have k14 := k_fxValid (W := W) d11 hW
 with_reducible refine zPm k14 ?_
 rintro _ u12 g13 rfl
 refine zza 5 (zB false) (zzb (zys xj (zzs (zzp ?_))))
 refine sq9 (zza 6 (.adr 1 0) (zzi 7 (zI W.b) ty3 zzl (zyq 8 (x := zI (IntKind.i64.wrap (W.b - 1))) (zI (W.b - 1)) yq (sy_shl 9 (k := .i64) (s := W.b - 1) (Nt.p2i (W.b - 1)) xq yw (shl_one xq xq) ?_))))
 refine zyq 10 (x := zI (IntKind.i64.wrap ((Nt.p2i (W.b - 1)) - 1))) (zI ((Nt.p2i (W.b - 1)) - 1)) yq (zza 2 (zI ((Nt.p2i (W.b - 1)) - 1)) (zzb (zzo (ret0 [.int .i64 ((Nt.p2i (W.b - 1)) - 1)] ⟨zzq, trivial⟩ fun u15 e16 => ?_))))
 rfl
theorem k_fxFits {u w : World} {W : WL} {z : Int} (d : Dat u w) (hW : WdOK W) (h0 : -Nt.p2i (W.b - 1) ≤ z) (h1 : z < Nt.p2i (W.b - 1)) : Calls Tryz.prog 86 #[W.v, .int .i64 z] w (Post u w fun v _ => v = .bool true) := by
 obtain ⟨hw1, hw2, hw3, hw4, hw5, hw6, hw7, hw8⟩ := id hW
 refine zzm (args := [.agg #[.int .i64 W.b, .int .i64 W.f, .int .i64 W.r, .int .i64 W.o], .int .i64 z]) Tryz.func86 rfl Tryz.ntmps86 (rs := [.tmp 4]) Tryz.results86 (le_b rfl) (le_b rfl) d ?_
 refine sq9 (zzk 2 ⟨34, W.cs⟩ (zza 4 (zB false) (zzb (sq9 (zzi 5 (.v (W.v)) ty34 zze (zzg 6 54 [W.v] ?_))))))
 intro w11 u11 e11 d11
 have k14 := k_fxValid (W := W) d11 hW
 with_reducible refine zPm k14 ?_
 rintro _ u12 g13 rfl
 refine zza 7 (zB true) (zza 8 (zI z) ?_ (hw := w1 2 true 7))
 refine zzi 9 (.v (W.v)) ty34 zze ?_ (hw := w1 2 true 7)
 refine zzg 10 126 [W.v] ?_ (hw := w1 2 true 7)
 intro w15 u15 e15 d15
 have k18 := k_fxLow (W := W) d15 hW
 with_reducible refine zPm k18 ?_
 rintro _ u16 g17 rfl
 refine zza 11 (zB (decide ((-Nt.p2i (W.b - 1)) ≤ z))) ?_ (hw := w1 2 true 7)
 refine zza 12 (zB (decide ((-Nt.p2i (W.b - 1)) ≤ z))) (zyq 13 (x := zB (decide ((-Nt.p2i (W.b - 1)) ≤ z))) (zB true) (by rw [show (decide ((-Nt.p2i (W.b - 1)) ≤ z)) = true from decide_eq_true xq]) (zza 14 (zI z) ?_ (hw := w1 8 true 13)))
 refine zzi 15 (.v (W.v)) ty34 zze ?_ (hw := w1 8 true 13)
 refine zzg 16 127 [W.v] ?_ (hw := w1 8 true 13)
 intro w20 u20 e20 d20
 have k23 := k_fxHigh (W := W) d20 hW
 with_reducible refine zPm k23 ?_
 rintro _ u21 g22 rfl
 refine zza 17 (zB (decide (z ≤ (Nt.p2i (W.b - 1) - 1)))) ?_ (hw := w1 8 true 13)
 refine zza 18 (zB (decide (z ≤ (Nt.p2i (W.b - 1) - 1)))) (zza 4 (zB (decide (z ≤ (Nt.p2i (W.b - 1) - 1)))) (zzb (zzo (ret0 [.bool (decide (z ≤ (Nt.p2i (W.b - 1) - 1)))] ⟨zzq, trivial⟩ fun u24 e25 => ?_))))
 show Value.bool _ = Value.bool _
 rw [show (decide (z ≤ (Nt.p2i (W.b - 1) - 1))) = true from decide_eq_true xq]
theorem k_fxValue {u w : World} {W : WL} {z : Int} (d : Dat u w) (hW : WdOK W) (h0 : -16777216 ≤ z) (h1 : z ≤ 16777216) : Calls Tryz.prog 47 #[W.v, .int .i64 z] w (Post u w fun v u' => ∃ r : RL, v = r.v ∧ RatN u' r (((z : Int) : Rat) / ((Nt.p2i W.f : Int) : Rat)) 2) := by
 obtain ⟨hw1, hw2, hw3, hw4, hw5, hw6, hw7, hw8⟩ := id hW
 have hp1 := Nt.zxq W.f
 have hp2 := Nt.p2i_24 (n := W.f) xq
 refine zzm (args := [.agg #[.int .i64 W.b, .int .i64 W.f, .int .i64 W.r, .int .i64 W.o], .int .i64 z]) Tryz.func47 rfl Tryz.ntmps47 (rs := [.cell 4 74]) Tryz.results47 (le_b rfl) (le_b rfl) d ?_
 refine sq9 (zzk 2 ⟨34, W.cs⟩ (zzk 4 ⟨74, [.bool false, .slice none 0 0, .slice none 0 0]⟩ (zzb (zzd (sq9 (zzi 5 (.v (W.v)) ty34 zze (zzg 6 54 [W.v] ?_)))))))
 intro w11 u11 e11 d11
 have k14 := k_fxValid (W := W) d11 hW
 with_reducible refine zPm k14 ?_
 rintro _ u12 g13 rfl
 refine zza 7 (zB false) (zzb (zys xj (zzs (zzp ?_))))
 refine sq9 (zza 9 (zI z) (zza 10 (.adr 2 1) (zzi 11 (zI W.f) ty3 zzl (sy_shl 12 (k := .i64) (s := W.f) (Nt.p2i W.f) xq yw (shl_one xq xq) ?_))))
 refine zzg 13 73 [.int .i64 z, .int .i64 (Nt.p2i W.f)] ?_
 intro w15 u15 e15 d15
 have k20 := k_ratFrac d15 (a := z) (b := Nt.p2i W.f) xq xq xq xq
 with_reducible refine zPm k20 ?_
 rintro _ u18 g19 ⟨r16, rfl, h17⟩
 refine zzj ⟨74, r16.cs⟩ ty74 ?_
 refine zzb (zzo (ret0 [r16.v] ⟨zzr ty74 zze, trivial⟩ fun u21 e22 => ?_))
 exact ⟨r16, rfl, (h17.ext e22)⟩
theorem k_within {u w : World} {n m : Int} (d : Dat u w) (hm : 1 ≤ m) (hm2 : m ≤ 4611686018427387904) (hn0 : -9223372036854775808 ≤ n) (hn1 : n ≤ 9223372036854775807) : Calls Tryz.prog 43 #[.int .i64 n, .int .i64 m] w (Post u w fun v _ => v = .int .i64 (n % m)) := by
 refine zzm (args := [.int .i64 n, .int .i64 m]) Tryz.func43 rfl Tryz.ntmps43 (rs := [.tmp 4]) Tryz.results43 (le_b rfl) (le_b rfl) d ?_
 refine sq9 (zza 4 (zI 0) (zzb (zzd (sq9 (zza 5 (zI m) (zyq 6 (x := zB (decide (m < 1))) (zB false) (by rw [show (decide (m < 1)) = false from yy]) (zzb (zys xj (zzs (zzp ?_))))))))))
 refine sq9 (zza 7 (zI n) (zza 8 (zI m) (sy_rem 9 (Int.tmod n m) xq rfl ?_)))
 refine zza 0 (zI (Int.tmod n m)) (zzb (zzd (sq9 (zza 10 (zI (Int.tmod n m)) (zza 11 (zB (decide ((Int.tmod n m) < 0))) (zzb (zzu (b := decide ((Int.tmod n m) < 0)) xj (fun hb11 => ?_) (fun hb11 => ?_))))))))
 ·replace hb11 : (decide ((Int.tmod n m) < 0)) = true := hb11
  have qhb11 := of_decide_eq_true hb11
  refine zzf (zza 12 (zI (Int.tmod n m)) (zza 13 (zI m) (zyq 14 (x := zI (IntKind.i64.wrap (Int.tmod n m + m))) (zI (Int.tmod n m + m)) (by rw [show (IntKind.i64.wrap (Int.tmod n m + m)) = (Int.tmod n m + m) from (IntWalk.i64_in _ (by have h2 := Int.lt_tmod_of_pos n (show 0 < m by omega); have h3 := Int.tmod_lt_of_pos n (show 0 < m by omega); omega))]) (zza 0 (zI (Int.tmod n m + m)) (zzb (sq9 (zza 15 (zI (Int.tmod n m + m)) (zza 4 (zI (Int.tmod n m + m)) (zzb (zzo (ret0 [.int .i64 (Int.tmod n m + m)] ⟨zzq, trivial⟩ fun u12 e13 => ?_)))))))))))
  show Value.int _ _ = Value.int _ _
  rw [mod_neg9 m hm n hb11]
 ·replace hb11 : (decide ((Int.tmod n m) < 0)) = false := hb11
  have qhb11 := of_decide_eq_false hb11
  refine zzs (zzp ?_)
  refine sq9 (zza 15 (zI (Int.tmod n m)) (zza 4 (zI (Int.tmod n m)) (zzb (zzo (ret0 [.int .i64 (Int.tmod n m)] ⟨zzq, trivial⟩ fun u14 e15 => ?_)))))
  show Value.int _ _ = Value.int _ _
  rw [mod_pos9 m hm n hb11]
theorem k_wunit {u w : World} {W : WL} (d : Dat u w) (hW : WdOK W) : Calls Tryz.prog 63 #[W.v] w (Post u w fun v _ => v = .int .i64 (Nt.p2i W.f)) := by
 obtain ⟨hw1, hw2, hw3, hw4, hw5, hw6, hw7, hw8⟩ := id hW
 refine zzm (args := [.agg #[.int .i64 W.b, .int .i64 W.f, .int .i64 W.r, .int .i64 W.o]]) Tryz.func63 rfl Tryz.ntmps63 (rs := [.tmp 2]) Tryz.results63 (le_b rfl) (le_b rfl) d ?_
 refine sq9 (zzk 1 ⟨34, W.cs⟩ (zza 2 (zI 0) (zzb (sq9 (zza 3 (.adr 1 1) (zzi 4 (zI W.f) ty3 zzl (sy_conv 5 W.f (fun w => by kernel_rfl) (IntWalk.u64_in _ xq) ?_)))))))
 refine sy_shl 6 (k := .i64) (s := W.f) (Nt.p2i W.f) xq yw (shl_one xq xq) ?_
 refine zza 2 (zI (Nt.p2i W.f)) (zzb (zzo (ret0 [.int .i64 (Nt.p2i W.f)] ⟨zzq, trivial⟩ fun u11 e12 => ?_)))
 rfl
end Go.Proofs.YtifcjcecmoimjaaGreat
namespace Go.Proofs.YtifcjcecmoimjaaGreat
open Go.RowKit
set_option linter.unusedVariables false
def PasOK (f : Int) (p : PL) : Prop := (p.o = 1 ∧ p.h = 0 ∨ p.o = 2) ∧ -Nt.p2i f < p.g ∧ p.g < Nt.p2i f ∧ -Nt.p2i f < p.h ∧ p.h < Nt.p2i f
namespace Nt
def wq (z f : Int) : Rat := ((z : Int) : Rat) / ((p2i f : Int) : Rat)
def secB (f : Int) (p : PL) : List Rat := if p.o = 1 then [-wq p.g f, ((1 : Int) : Rat)] else [-wq p.g f, wq p.h f * (wq p.g f - ((1 : Int) : Rat)), ((1 : Int) : Rat)]
def secA (f : Int) (p : PL) : List Rat := if p.o = 1 then [((1 : Int) : Rat), -wq p.g f] else [((1 : Int) : Rat), wq p.h f * (wq p.g f - ((1 : Int) : Rat)), -wq p.g f]
theorem sec_len (f : Int) (p : PL) : (secB f p).length ≤ 3 ∧ (secA f p).length ≤ 3 := by
 unfold secB secA
 split <;> exact ⟨by simp, by simp⟩
def prodB (f : Int) (L : List PL) : Nat → List Rat
 | 0 => [((1 : Int) : Rat)]
 | i + 1 => trimQ (mulQ (prodB f L i) (trimQ (secB f (L.getD i pl0))))
def prodA (f : Int) (L : List PL) : Nat → List Rat
 | 0 => [((1 : Int) : Rat)]
 | i + 1 => trimQ (mulQ (prodA f L i) (trimQ (secA f (L.getD i pl0))))
theorem zwg (f : Int) (L : List PL) (n : Nat) : (prodB f L n).length ≤ 2 * n + 1 ∧ (prodA f L n).length ≤ 2 * n + 1 := by
 induction n with
 | zero => exact ⟨by simp [prodB], by simp [prodA]⟩
 | succ n ih =>
  have h := sec_len f (L.getD n pl0)
  refine ⟨Nat.le_trans (zxv ih.1 (Nat.le_trans (zzh _) h.1)) xq, Nat.le_trans (zxv ih.2 (Nat.le_trans (zzh _) h.2)) xq⟩
def wD (f : Int) : Nat := (p2i f * p2i f).toNat
theorem wD_eq (f : Int) : ((wD f : Nat) : Int) = p2i f * p2i f := by
 have := Int.mul_pos (zxq f) (zxq f)
 unfold wD; omega
theorem wD_le {f : Int} (hf : f ≤ 24) : 0 < wD f ∧ wD f ≤ 2 ^ 48 := by
 have h0 := wD_eq f
 have h1 := Int.mul_pos (zxq f) (zxq f)
 have h2 : p2i f * p2i f ≤ 16777216 * 16777216 := Int.mul_le_mul (p2i_24 hf) (p2i_24 hf) (Int.le_of_lt (zxq f)) yv
 omega
theorem wh_of {x : Rat} {f z : Int} (h : x * ((p2i f * p2i f : Int) : Rat) = (z : Rat)) (hz : z.natAbs ≤ 2 ^ 49) : Wh (x * ((wD f : Int) : Rat)) 49 := ⟨z, by rw [wD_eq]; exact h, hz⟩
theorem sec_sm {f : Int} {p : PL} (hf : f ≤ 24) (hp : PasOK f p) : Sm (secB f p) (wD f) 49 ∧ Sm (secA f p) (wD f) 49 := by
 obtain ⟨_, g0, g1, h0, h1⟩ := hp
 have hF := zxq f
 have hF2 := p2i_24 hf
 have hD := (wD_le hf).1
 have hne : ((p2i f : Int) : Rat) ≠ 0 := fun e => by have : p2i f = 0 := Rat.intCast_inj.1 e; omega
 have k1 : Wh (-wq p.g f * ((wD f : Int) : Rat)) 49 := wh_of (z := -p.g * p2i f) (by
  unfold wq; rw [Rat.intCast_mul, Rat.intCast_mul, Rat.intCast_neg]; grind) (by
  rw [Int.natAbs_mul]
  have := Nat.mul_le_mul (show (-p.g).natAbs ≤ 16777216 by omega) (show (p2i f).natAbs ≤ 16777216 by omega)
  omega)
 have k2 : Wh (((1 : Int) : Rat) * ((wD f : Int) : Rat)) 49 := wh_of (z := p2i f * p2i f) (by rw [Rat.intCast_mul]; grind) (by
  rw [Int.natAbs_mul]
  have := Nat.mul_le_mul (show (p2i f).natAbs ≤ 16777216 by omega) (show (p2i f).natAbs ≤ 16777216 by omega)
  omega)
 have k3 : Wh (wq p.h f * (wq p.g f - ((1 : Int) : Rat)) * ((wD f : Int) : Rat)) 49 := wh_of (z := p.h * (p.g - p2i f)) (by
  unfold wq; rw [Rat.intCast_mul, Rat.intCast_mul, Rat.intCast_sub]; grind) (by
  rw [Int.natAbs_mul]
  have := Nat.mul_le_mul (show p.h.natAbs ≤ 16777216 by omega) (show (p.g - p2i f).natAbs ≤ 33554432 by omega)
  omega)
 constructor
 ·refine Sm.ofAll hD fun x hx => ?_
  unfold secB at hx
  split at hx <;> simp at hx
  ·rcases hx with rfl | rfl
   ·exact k1
   ·exact k2
  ·rcases hx with rfl | rfl | rfl
   ·exact k1
   ·exact k3
   ·exact k2
 ·refine Sm.ofAll hD fun x hx => ?_
  unfold secA at hx
  split at hx <;> simp at hx
  ·rcases hx with rfl | rfl
   ·exact k2
   ·exact k1
  ·rcases hx with rfl | rfl | rfl
   ·exact k2
   ·exact k3
   ·exact k1
theorem prod_sm {f : Int} {L : List PL} (hf : f ≤ 24) (hL : ∀ p ∈ L, PasOK f p) (n : Nat) (hn : n ≤ L.length) : Sm (prodB f L n) (wD f ^ n) (52 * n) ∧ Sm (prodA f L n) (wD f ^ n) (52 * n) := by
 induction n with
 | zero =>
  have h : Sm [((1 : Int) : Rat)] 1 0 := Sm.ofInts (zs := [1]) yv
  exact ⟨h, h⟩
 | succ n ih =>
  have ih := ih xq
  have hp : PasOK f (L.getD n pl0) := hL _ (by rw [List.getD_eq_getElem?_getD, List.getElem?_eq_getElem xq]; exact List.getElem_mem _)
  have hs := sec_sm hf hp
  have hl := sec_len f (L.getD n pl0)
  have t1 := Nat.le_trans (zzh (secB f (L.getD n pl0))) hl.1
  have t2 := Nat.le_trans (zzh (secA f (L.getD n pl0))) hl.2
  exact ⟨((ih.1.mulR hs.1.trim).trim).more xq, ((ih.2.mulR hs.2.trim).trim).more xq⟩
theorem wD_pow {f : Int} (hf : f ≤ 24) {n N : Nat} (hn : n ≤ N) : wD f ^ n ≤ 2 ^ (52 * N) := by
 have h := wD_le hf
 calc wD f ^ n ≤ (2 ^ 48) ^ n := Nat.pow_le_pow_left h.2 n
  _ = 2 ^ (48 * n) := by rw [← Nat.pow_mul]
  _ ≤ 2 ^ (52 * N) := Nat.pow_le_pow_right yv xq
end Nt
end Go.Proofs.YtifcjcecmoimjaaGreat
