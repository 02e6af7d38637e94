/- Parts of the proof: contracts of functions, each walked once, and plain laws. -/
import Derived.Test.YtifcjcecmoimjaaGreatCpaC
namespace Go.Proofs.YtifcjcecmoimjaaGreat
open Go.RowKit
set_option linter.unusedVariables false
theorem k_natural {u w : World} {x : Sl} (d : Dat u w) : Calls Tryz.prog 110 #[x.v] w (Post u w fun v _ => v = .agg #[.bool false, x.v]) := by
 refine zzm (args := [.slice x.a x.n x.c]) Tryz.func110 rfl Tryz.ntmps110 (rs := [.cell 2 72]) Tryz.results110 (le_b rfl) (le_b rfl) d ?_
 refine sq9 (zzk 2 ⟨72, [.bool false, .slice none 0 0]⟩ (zzb (sq9 (zza 3 (.v x.v) (zza 4 (.v (.agg #[.bool false, x.v])) (zzj ⟨72, [.bool false, x.v]⟩ ty72 ?_))))))
 refine zzb (zzo (ret0 [.agg #[.bool false, .slice x.a x.n x.c]] ⟨zzr ty72 zze, trivial⟩ fun u11 e12 => ?_))
 exact rfl
theorem k_whole {u w : World} {i : IL} (d : Dat u w) : Calls Tryz.prog 87 #[i.v] w (Post u w fun v u' => ∃ y : Sl, v = .agg #[.bool i.s, i.m.v, y.v] ∧ NatN u' y 1 1) := by
 refine zzm (args := [i.v]) Tryz.func87 rfl Tryz.ntmps87 (rs := [.cell 2 74]) Tryz.results87 (le_b rfl) (le_b rfl) d ?_
 refine sq9 (zzk 1 ⟨72, i.cs⟩ (zzk 2 ⟨74, [.bool false, .slice none 0 0, .slice none 0 0]⟩ (zzb (sq9 (zzi 3 (.v (i.v)) ty72 zze (zxy 4 ⟨159, [.int .u32 1]⟩ 1 (fun b11 u12 e13 h14 => ?_)))))))
 refine zza 5 (.v (.agg #[.bool i.s, i.m.v, .slice (some ⟨b11, 0, none⟩) 1 1])) (zzj ⟨74, i.cs ++ [.slice (some ⟨b11, 0, none⟩) 1 1]⟩ ty74 ?_)
 refine zzb (zzo (ret0 [.agg #[.bool i.s, .slice i.m.a i.m.n i.m.c, .slice (some ⟨b11, 0, none⟩) 1 1]] ⟨zzr ty74 zze, trivial⟩ fun u15 e16 => ?_))
 exact ⟨_, rfl, ((one_data h14).ext e16)⟩
theorem k_quotient {u w : World} {i j : IL} (d : Dat u w) : Calls Tryz.prog 112 #[i.v, j.v] w (Post u w fun v _ => v = .agg #[.bool (!(i.s == j.s)), i.m.v, j.m.v]) := by
 refine zzm (args := [i.v, j.v]) Tryz.func112 rfl Tryz.ntmps112 (rs := [.cell 4 171]) Tryz.results112 (le_b rfl) (le_b rfl) d ?_
 refine sq9 (zzk 2 ⟨72, i.cs⟩ (zzk 3 ⟨72, j.cs⟩ (zzk 4 ⟨171, [.bool false, .slice none 0 0, .slice none 0 0]⟩ (zzb (sq9 (zza 5 (.adr 2 0) (zzi 6 (zB i.s) ty4 zzl (zza 7 (.adr 3 0) (zzi 8 (zB j.s) ty4 zzl (zza 9 (zB (!(i.s == j.s))) (zza 10 (.adr 2 1) ?_)))))))))))
 refine zzi 11 (.v i.m.v) ty70 zzl (zza 12 (.v (.agg #[.bool (!(i.s == j.s)), i.m.v])) (zza 13 (.adr 3 1) (zzi 14 (.v j.m.v) ty70 zzl (zza 15 (.v (.agg #[.bool (!(i.s == j.s)), i.m.v, j.m.v])) (zzj ⟨171, [.bool (!(i.s == j.s)), i.m.v, j.m.v]⟩ ty171 ?_)))))
 refine zzb (zzo (ret0 [.agg #[.bool (!(i.s == j.s)), .slice i.m.a i.m.n i.m.c, .slice j.m.a j.m.n j.m.c]] ⟨zzr ty171 zze, trivial⟩ fun u11 e12 => ?_))
 exact rfl
set_option maxHeartbeats 1000000 in
theorem k_read {u w : World} {r : RL} {q : Rat} {K : Nat} (d : Dat u w) (h : RatV u r q K) : Calls Tryz.prog 105 #[r.v] w (Post u w fun v u' => ∃ (r' : RL) (wh : Bool), v = .agg #[.bool r'.s, r'.m.v, r'.d.v, .bool wh] ∧ NumV u' r' wh q K) := by
 obtain ⟨⟨z, D, hi, hd, hq⟩, hK⟩ := h
 change IntV u ⟨r.s, r.m⟩ z K at hi
 change NatV u r.d D K at hd
 by_cases hn : r.d.n = 1
 ·obtain ⟨b, o, ha, hc⟩ := nat_digit hd hn
  by_cases hD : D = 1
  ·refine zzm (args := [r.v]) Tryz.func105 rfl Tryz.ntmps105 (rs := [.cell 2 173]) Tryz.results105 (le_b rfl) (le_b rfl) d ?_
   refine sq9 (zzk 1 ⟨74, r.cs⟩ (zzk 2 ⟨173, [.bool false, .slice none 0 0, .slice none 0 0, .bool false]⟩ (zzb (zzd (sq9 (zza 3 (.adr 1 2) (zzi 4 (.v r.d.v) ty70 zzl (zza 5 (zI r.d.n) (zyq 6 (x := zB ((r.d.n : Int) == 1)) (zB true) (by rw [show ((r.d.n : Int) == 1) = true from (by simp [hn])]) (zza 7 (zB true) (zza 8 (.adr 1 2) ?_ (hw := w1 4 true 7))))))))))))
   refine zzi 9 (.v r.d.v) ty70 zzl ?_ (hw := w1 4 true 7)
   refine zya 10 o (i := 0) (n := r.d.n) yy ha xq (by rw [hn]; decide) sl70 ?_ (hw := w1 4 true 7)
   refine zyl 11 (.int .u32 D) ((Ext.refl _).cell hc) ty159 ?_ (hw := w1 4 true 7)
   refine zyq 12 (x := zB ((D : Int) == 1)) (zB true) (by rw [show ((D : Int) == 1) = true from (by simp [hD])]) ?_ (hw := w1 4 true 7)
   refine zza 13 (zB true) (zzb (zyr xj (sq9 (zza 14 (.adr 1 0) (zzi 15 (.v (.agg #[.bool r.s, r.m.v])) ty72 zze (zza 16 (.adr 1 2) (zzi 17 (.v r.d.v) ty70 zzl (zza 18 (.v (r.v)) (zza 19 (.v (.agg #[.bool r.s, r.m.v, r.d.v, .bool true])) (zzj ⟨173, r.cs ++ [.bool true]⟩ ty173 ?_))))))))))
   refine zzb (zzo (zzw (ret0 [.agg #[.bool r.s, .slice r.m.a r.m.n r.m.c, .slice r.d.a r.d.n r.d.c, .bool true]] ⟨zzr ty173 zze, trivial⟩ fun u11 e12 => ?_)))
   exact ⟨r, true, rfl, z, D, hi.ext e12, hd.ext e12, by omega, hq, fun _ => hD, hK⟩
  ·refine zzm (args := [r.v]) Tryz.func105 rfl Tryz.ntmps105 (rs := [.cell 2 173]) Tryz.results105 (le_b rfl) (le_b rfl) d ?_
   refine sq9 (zzk 1 ⟨74, r.cs⟩ (zzk 2 ⟨173, [.bool false, .slice none 0 0, .slice none 0 0, .bool false]⟩ (zzb (zzd (sq9 (zza 3 (.adr 1 2) (zzi 4 (.v r.d.v) ty70 zzl (zza 5 (zI r.d.n) (zyq 6 (x := zB ((r.d.n : Int) == 1)) (zB true) (by rw [show ((r.d.n : Int) == 1) = true from (by simp [hn])]) (zza 7 (zB true) (zza 8 (.adr 1 2) ?_ (hw := w1 4 true 7))))))))))))
   refine zzi 9 (.v r.d.v) ty70 zzl ?_ (hw := w1 4 true 7)
   refine zya 10 o (i := 0) (n := r.d.n) yy ha xq (by rw [hn]; decide) sl70 ?_ (hw := w1 4 true 7)
   refine zyl 11 (.int .u32 D) ((Ext.refl _).cell hc) ty159 ?_ (hw := w1 4 true 7)
   refine zyq 12 (x := zB ((D : Int) == 1)) (zB false) (by rw [show ((D : Int) == 1) = false from yw]) ?_ (hw := w1 4 true 7)
   refine zza 13 (zB false) (zzb (zys xj (zzs (zzp ?_))))
   refine zzd (sq9 (zza 20 (.adr 1 2) (zzi 21 (.v r.d.v) ty70 zzl (zzg 22 108 [r.d.v, .slice none 0 0] ?_))))
   intro w11 u11 e11 d11
   have k14 := k_natCompare d11 (hd.ext e11) (nat_nil _ 1)
   with_reducible refine zPm k14 ?_
   rintro _ u12 g13 rfl
   refine zza 23 (zB ((Nt.cmpS D 0) == 0)) (zzb (zzu (b := (Nt.cmpS D 0) == 0) xj (fun hb15 => ?_) (fun hb15 => ?_)))
   ·replace hb15 : ((Nt.cmpS D 0) == 0) = true := hb15
    refine sq9 (zza 24 (.v (.agg #[.bool false, .slice none 0 0])) (zxy 25 ⟨159, [.int .u32 1]⟩ 1 (fun b16 u17 e18 h19 => ?_)))
    refine zza 26 (.v (.agg #[.bool false, .slice none 0 0, .slice (some ⟨b16, 0, none⟩) 1 1])) (zza 27 (.v (.agg #[.bool false, .slice none 0 0, .slice (some ⟨b16, 0, none⟩) 1 1, .bool true])) (zzj ⟨173, [.bool false, .slice none 0 0, .slice (some ⟨b16, 0, none⟩) 1 1, .bool true]⟩ ty173 ?_))
    refine zzb (zzo (zzw (ret0 [.agg #[.bool false, .slice none 0 0, .slice (some ⟨b16, 0, none⟩) 1 1, .bool true]] ⟨zzr ty173 zze, trivial⟩ fun u20 e21 => ?_)))
    have hD0 : D = 0 := (Nt.cmp_nat0 hb15).1 rfl
    refine ⟨⟨false, ⟨none, 0, 0⟩, (⟨some ⟨b16, 0, none⟩, 1, 1⟩ : Sl)⟩, true, rfl, 0, 1, (⟨0, nat_nil _ K, rfl⟩ : IntV _ ⟨false, ⟨none, 0, 0⟩⟩ 0 K), ((one_data h19).ext e21).raw.more hK, by omega, ?_, fun _ => rfl, hK⟩
    rw [hq, hD0]; simp
   ·replace hb15 : ((Nt.cmpS D 0) == 0) = false := hb15
    refine zzs (zzp ?_)
    refine sq9 (zza 28 (.adr 1 0) (zzi 29 (.v (.agg #[.bool r.s, r.m.v])) ty72 zze (zza 30 (.adr 1 2) (zzi 31 (.v r.d.v) ty70 zzl (zza 32 (.v (r.v)) (zza 33 (.v (.agg #[.bool r.s, r.m.v, r.d.v, .bool false])) (zzj ⟨173, r.cs ++ [.bool false]⟩ ty173 ?_)))))))
    refine zzb (zzo (ret0 [.agg #[.bool r.s, .slice r.m.a r.m.n r.m.c, .slice r.d.a r.d.n r.d.c, .bool false]] ⟨zzr ty173 zze, trivial⟩ fun u22 e23 => ?_))
    have hD0 : 0 < D := (Nt.cmp_nat0 hb15).2 rfl
    exact ⟨r, false, rfl, z, D, hi.ext (e11.trans (g13.ext.trans e23)), hd.ext (e11.trans (g13.ext.trans e23)), hD0, hq, (fun k => by cases k), hK⟩
 ·refine zzm (args := [r.v]) Tryz.func105 rfl Tryz.ntmps105 (rs := [.cell 2 173]) Tryz.results105 (le_b rfl) (le_b rfl) d ?_
  refine sq9 (zzk 1 ⟨74, r.cs⟩ (zzk 2 ⟨173, [.bool false, .slice none 0 0, .slice none 0 0, .bool false]⟩ (zzb (zzd (sq9 (zza 3 (.adr 1 2) (zzi 4 (.v r.d.v) ty70 zzl (zza 5 (zI r.d.n) (zyq 6 (x := zB ((r.d.n : Int) == 1)) (zB false) (by rw [show ((r.d.n : Int) == 1) = false from yw]) (zza 7 (zB false) (zzn 8 (uw 4 true false 7) ?_)))))))))))
  refine zzn 9 (uw 4 true false 7) (zzn 10 (uw 4 true false 7) (zzn 11 (uw 4 true false 7) (zzn 12 (uw 4 true false 7) (zza 13 (zB false) (zzb (zys xj (zzs (zzp ?_))))))))
  refine zzd (sq9 (zza 20 (.adr 1 2) (zzi 21 (.v r.d.v) ty70 zzl (zzg 22 108 [r.d.v, .slice none 0 0] ?_))))
  intro w11 u11 e11 d11
  have k14 := k_natCompare d11 (hd.ext e11) (nat_nil _ 1)
  with_reducible refine zPm k14 ?_
  rintro _ u12 g13 rfl
  refine zza 23 (zB ((Nt.cmpS D 0) == 0)) (zzb (zzu (b := (Nt.cmpS D 0) == 0) xj (fun hb15 => ?_) (fun hb15 => ?_)))
  ·replace hb15 : ((Nt.cmpS D 0) == 0) = true := hb15
   refine sq9 (zza 24 (.v (.agg #[.bool false, .slice none 0 0])) (zxy 25 ⟨159, [.int .u32 1]⟩ 1 (fun b16 u17 e18 h19 => ?_)))
   refine zza 26 (.v (.agg #[.bool false, .slice none 0 0, .slice (some ⟨b16, 0, none⟩) 1 1])) (zza 27 (.v (.agg #[.bool false, .slice none 0 0, .slice (some ⟨b16, 0, none⟩) 1 1, .bool true])) (zzj ⟨173, [.bool false, .slice none 0 0, .slice (some ⟨b16, 0, none⟩) 1 1, .bool true]⟩ ty173 ?_))
   refine zzb (zzo (zzw (ret0 [.agg #[.bool false, .slice none 0 0, .slice (some ⟨b16, 0, none⟩) 1 1, .bool true]] ⟨zzr ty173 zze, trivial⟩ fun u20 e21 => ?_)))
   have hD0 : D = 0 := (Nt.cmp_nat0 hb15).1 rfl
   refine ⟨⟨false, ⟨none, 0, 0⟩, (⟨some ⟨b16, 0, none⟩, 1, 1⟩ : Sl)⟩, true, rfl, 0, 1, (⟨0, nat_nil _ K, rfl⟩ : IntV _ ⟨false, ⟨none, 0, 0⟩⟩ 0 K), ((one_data h19).ext e21).raw.more hK, by omega, ?_, fun _ => rfl, hK⟩
   rw [hq, hD0]; simp
  ·replace hb15 : ((Nt.cmpS D 0) == 0) = false := hb15
   refine zzs (zzp ?_)
   refine sq9 (zza 28 (.adr 1 0) (zzi 29 (.v (.agg #[.bool r.s, r.m.v])) ty72 zze (zza 30 (.adr 1 2) (zzi 31 (.v r.d.v) ty70 zzl (zza 32 (.v (r.v)) (zza 33 (.v (.agg #[.bool r.s, r.m.v, r.d.v, .bool false])) (zzj ⟨173, r.cs ++ [.bool false]⟩ ty173 ?_)))))))
   refine zzb (zzo (ret0 [.agg #[.bool r.s, .slice r.m.a r.m.n r.m.c, .slice r.d.a r.d.n r.d.c, .bool false]] ⟨zzr ty173 zze, trivial⟩ fun u22 e23 => ?_))
   have hD0 : 0 < D := (Nt.cmp_nat0 hb15).2 rfl
   exact ⟨r, false, rfl, z, D, hi.ext (e11.trans (g13.ext.trans e23)), hd.ext (e11.trans (g13.ext.trans e23)), hD0, hq, (fun k => by cases k), hK⟩
theorem k_isOne {u w : World} {x : Sl} {N K : Nat} (d : Dat u w) (h : NatN u x N K) : Calls Tryz.prog 145 #[x.v] w (Post u w fun v _ => v = .bool (decide (N = 1))) := by
 by_cases hn : x.n = 1
 ·obtain ⟨b, o, ha, hc⟩ := nat_digit h.raw hn
  refine zzm (args := [.slice x.a x.n x.c]) Tryz.func145 rfl Tryz.ntmps145 (rs := [.tmp 2]) Tryz.results145 (le_b rfl) (le_b rfl) d ?_
  refine sq9 (zza 2 (zB false) (zzb (sq9 (zza 3 (.v x.v) (zza 4 (zI x.n) (zyq 5 (x := zB ((x.n : Int) == 1)) (zB true) (by rw [show ((x.n : Int) == 1) = true from (by simp [hn])]) (zza 6 (zB true) (zza 7 (.v x.v) ?_ (hw := w1 3 true 6)))))))))
  refine zya 8 o (i := 0) (n := x.n) yy ha xq (by rw [hn]; decide) sl70 ?_ (hw := w1 3 true 6)
  refine zyl 9 (.int .u32 N) ((Ext.refl _).cell hc) ty159 ?_ (hw := w1 3 true 6)
  refine zza 10 (zB ((N : Int) == 1)) ?_ (hw := w1 3 true 6)
  refine zza 11 (zB ((N : Int) == 1)) (zza 2 (zB ((N : Int) == 1)) (zzb (zzo (ret0 [.bool ((N : Int) == 1)] ⟨zzq, trivial⟩ fun u11 e12 => ?_))))
  show Value.bool _ = Value.bool _
  congr 1
  rw [Bool.eq_iff_iff]
  simp <;> omega
 ·have hN : N ≠ 1 := fun e => hn (by rw [h.1, e, Nt.dl_one])
  refine zzm (args := [.slice x.a x.n x.c]) Tryz.func145 rfl Tryz.ntmps145 (rs := [.tmp 2]) Tryz.results145 (le_b rfl) (le_b rfl) d ?_
  refine sq9 (zza 2 (zB false) (zzb (sq9 (zza 3 (.v x.v) (zza 4 (zI x.n) (zyq 5 (x := zB ((x.n : Int) == 1)) (zB false) (by rw [show ((x.n : Int) == 1) = false from yw]) (zza 6 (zB false) (zzn 7 (uw 3 true false 6) (zzn 8 (uw 3 true false 6) (zzn 9 (uw 3 true false 6) (zzn 10 (uw 3 true false 6) ?_)))))))))))
  refine zza 11 (zB false) (zza 2 (zB false) (zzb (zzo (ret0 [.bool false] ⟨zzq, trivial⟩ fun u11 e12 => ?_))))
  show _ = _
  simp [tupV]
  exact hN
set_option maxHeartbeats 1000000 in
theorem k_lowest {u w : World} {i : IL} {z : Int} {y : Sl} {D K L : Nat} (d : Dat u w) (h1 : IntV u i z K) (hD : NatV u y D L) (hp : 0 < D) (hK : K ≤ 500000000) (hL : L ≤ 500000000) : Calls Tryz.prog 106 #[.agg #[.bool i.s, i.m.v, y.v]] w (Post u w fun v u' => ∃ r : RL, v = r.v ∧ RatN u' r (mkRat z D) (max K L)) := by
 obtain ⟨N, hN, hz⟩ := h1
 have hL1 : 1 ≤ L := by have h2 := hD.size; have h3 := Nt.dl_mono (x := D) (y := 1) xq; rw [Nt.dl_one] at h3; omega
 refine zzm (args := [.agg #[.bool i.s, .slice i.m.a i.m.n i.m.c, .slice y.a y.n y.c]]) Tryz.func106 rfl Tryz.ntmps106 (rs := [.cell 2 74]) Tryz.results106 (le_b rfl) (le_b rfl) d ?_
 refine sq9 (zzk 1 ⟨171, i.cs ++ [y.v]⟩ (zzk 2 ⟨74, [.bool false, .slice none 0 0, .slice none 0 0]⟩ (zzb (sq9 (zza 14 (.adr 1 0) (zza 15 (.adr 1 1) (zzi 16 (.v i.m.v) ty70 zzl (zza 17 (.adr 1 2) (zzi 18 (.v y.v) ty70 zzl (zzg 19 142 [i.m.v, y.v] ?_))))))))))
 intro w11 u11 e11 d11
 have k18 := k_natDivMod d11 (hN.ext e11) (hD.ext e11) hp xq xq
 with_reducible refine zPm k18 ?_
 rintro _ u16 g17 ⟨x12, x13, rfl, h14, h15⟩
 refine zza 13 (.v (.tuple #[x12.v, x13.v, .int .i64 0])) (zza 20 (.v x12.v) (zza 21 (.v x13.v) (zza 22 (zI 0) (zza 3 (.v x12.v) (zza 4 (.v x13.v) (zza 5 (zI 0) (zzb (zzd (sq9 (zza 23 (.v x13.v) (zza 24 (zI x13.n) ?_)))))))))))
 refine zza 25 (zB ((x13.n : Int) == 0)) (zzb (zzu (b := (x13.n : Int) == 0) xj (fun hb19 => ?_) (fun hb19 => ?_)))
 ·replace hb19 : ((x13.n : Int) == 0) = true := hb19
  have qhb19 : (x13.n : Int) = 0 := by simpa using hb19
  have hr : N % D = 0 := by have h7 := (h15).pos; simp at hb19; omega
  refine sq9 (zza 26 (.adr 1 0) (zza 27 (.adr 1 0) (zzi 28 (zB i.s) ty4 zzl (zza 29 (.v x12.v) (zza 30 (.v (.agg #[.bool i.s, x12.v])) (zzg 31 143 [.agg #[.bool i.s, x12.v]] ?_))))))
  intro w20 u20 e20 d20
  have k25 := k_intTrim d20 (IntV.same (s := i.s) (h14.ext e20).raw) xq
  with_reducible refine zPm k25 ?_
  rintro _ u23 g24 ⟨i21, rfl, h22⟩
  refine zzg 32 87 [i21.v] ?_
  intro w26 u26 e26 d26
  have k31 := k_whole (i := i21) d26
  with_reducible refine zPm k31 ?_
  rintro _ u29 g30 ⟨y27, rfl, h28⟩
  refine zzj ⟨74, i21.cs ++ [y27.v]⟩ ty74 ?_
  refine zzb (zzo (zzw (ret0 [.agg #[.bool i21.s, .slice i21.m.a i21.m.n i21.m.c, .slice y27.a y27.n y27.c]] ⟨zzr ty74 zze, trivial⟩ fun u32 e33 => ?_)))
  refine ⟨(⟨i21.s, i21.m, y27⟩ : RL), rfl, RatN.more (K := (max K 1)) ?_ xq⟩
  rw [hz, ← low1 hp hr]
  exact ((whole_rat (h22.ext (e26.trans g30.ext)) h28).ext e33)
 ·replace hb19 : ((x13.n : Int) == 0) = false := hb19
  have qhb19 : ¬ ((x13.n : Int) = 0) := by simpa using hb19
  have hr : N % D ≠ 0 := by have h7 := (h15).pos; simp at hb19; omega
  refine zzs (zzp ?_)
  refine sq9 (zza 33 (.adr 1 2) (zzi 34 (.v y.v) ty70 zzl (zza 35 (.v x13.v) (zzg 36 144 [y.v, x13.v] ?_))))
  intro w34 u34 e34 d34
  have k39 := k_natGcd d34 (hD.ext (e11.trans (g17.ext.trans e34))) (h15.ext e34).raw xq xq
  with_reducible refine zPm k39 ?_
  rintro _ u37 g38 ⟨x35, rfl, h36⟩
  refine zza 6 (.v x35.v) (zzb (zzd (sq9 (zza 37 (.v x35.v) (zzg 38 145 [x35.v] ?_)))))
  intro w40 u40 e40 d40
  have k43 := k_isOne d40 (h36.ext e40)
  with_reducible refine zPm k43 ?_
  rintro _ u41 g42 rfl
  refine zzb (zzu (b := decide ((Nat.gcd D (N % D)) = 1)) xj (fun hb44 => ?_) (fun hb44 => ?_))
  ·replace hb44 : (decide ((Nat.gcd D (N % D)) = 1)) = true := hb44
   have qhb44 := of_decide_eq_true hb44
   have hg : Nat.gcd D (N % D) = 1 := by simpa using hb44
   have hgp : 0 < Nat.gcd D (N % D) := Nat.gcd_pos_of_pos_left _ hp
   refine zzd (zzz [0, 1, 3, 0, 8, 31, 63, 127] [(0, []), (1, []), (3, []), (4, []), (2, []), (5, []), (6, []), (7, [])] xj xj (zza 39 (.adr 1 0) (zzi 40 (.v (i.v)) ty72 zze (zza 42 (.adr 1 2) (zzi 43 (.v y.v) ty70 zzl (zzg 41 143 [i.v] ?_))))))
   intro w45 u45 e45 d45
   have k50 := k_intTrim d45 (IntV.same (s := i.s) (hN.ext (e11.trans (g17.ext.trans (e34.trans (g38.ext.trans (e40.trans (g42.ext.trans e45)))))))) xq
   with_reducible refine zPm k50 ?_
   rintro _ u48 g49 ⟨i46, rfl, h47⟩
   refine zzg 44 129 [y.v] ?_
   intro w51 u51 e51 d51
   have k56 := k_natTrim d51 (hD.ext (e11.trans (g17.ext.trans (e34.trans (g38.ext.trans (e40.trans (g42.ext.trans (e45.trans (g49.ext.trans e51))))))))) xq
   with_reducible refine zPm k56 ?_
   rintro _ u54 g55 ⟨x52, rfl, h53⟩
   refine zza 45 (.v (.agg #[.bool i46.s, i46.m.v, x52.v])) (zzj ⟨74, i46.cs ++ [x52.v]⟩ ty74 ?_)
   refine zzc 70 [(2, .adr 2 0)] [(2, ⟨74, i46.cs ++ [x52.v]⟩)] (zzo (zzw (ret0 [.agg #[.bool i46.s, .slice i46.m.a i46.m.n i46.m.c, .slice x52.a x52.n x52.c]] ⟨zzr ty74 zze, trivial⟩ fun u57 e58 => ?_)))
   refine ⟨(⟨i46.s, i46.m, x52⟩ : RL), rfl, ?_⟩
   rw [hz]
   exact low2 hp hg (h47.ext (e51.trans (g55.ext.trans e58))) (h53.ext e58)
  ·replace hb44 : (decide ((Nat.gcd D (N % D)) = 1)) = false := hb44
   have qhb44 := of_decide_eq_false hb44
   have hg : ¬ Nat.gcd D (N % D) = 1 := by simpa using hb44
   have hgp : 0 < Nat.gcd D (N % D) := Nat.gcd_pos_of_pos_left _ hp
   refine zzs (zzp ?_)
   refine sq9 (zza 47 (.adr 1 0) (zza 48 (.adr 1 1) (zzi 49 (.v i.m.v) ty70 zzl (zza 50 (.v x35.v) (zzg 51 142 [i.m.v, x35.v] ?_)))))
   intro w59 u59 e59 d59
   have k66 := k_natDivMod d59 (hN.ext (e11.trans (g17.ext.trans (e34.trans (g38.ext.trans (e40.trans (g42.ext.trans e59))))))) (h36.ext (e40.trans (g42.ext.trans e59))).raw hgp xq xq
   with_reducible refine zPm k66 ?_
   rintro _ u64 g65 ⟨x60, x61, rfl, h62, h63⟩
   refine zza 46 (.v (.tuple #[x60.v, x61.v, .int .i64 0])) (zza 52 (.v x60.v) (zza 53 (.v x61.v) (zza 54 (zI 0) (zza 7 (.v x60.v) (zza 8 (.v x61.v) (zza 9 (zI 0) (zzc 70 [(1, .adr 1 0), (2, .adr 2 0), (6, .v x35.v), (7, .v x60.v)] [(1, ⟨171, i.cs ++ [y.v]⟩), (2, ⟨74, [.bool false, .slice none 0 0, .slice none 0 0]⟩)] (sq9 (zza 56 (.adr 1 2) (zzi 57 (.v y.v) ty70 zzl (zza 58 (.v x35.v) ?_)))))))))))
   refine zzg 59 142 [y.v, x35.v] ?_
   intro w67 u67 e67 d67
   have k74 := k_natDivMod d67 (hD.ext (e11.trans (g17.ext.trans (e34.trans (g38.ext.trans (e40.trans (g42.ext.trans (e59.trans (g65.ext.trans e67))))))))) (h36.ext (e40.trans (g42.ext.trans (e59.trans (g65.ext.trans e67))))).raw hgp xq xq
   with_reducible refine zPm k74 ?_
   rintro _ u72 g73 ⟨x68, x69, rfl, h70, h71⟩
   refine zza 55 (.v (.tuple #[x68.v, x69.v, .int .i64 0])) (zza 60 (.v x68.v) (zza 61 (.v x69.v) (zza 62 (zI 0) (zza 10 (.v x68.v) (zza 11 (.v x69.v) (zza 12 (zI 0) (zzb (sq9 (zza 63 (.adr 1 0) (zza 64 (.adr 1 0) (zzi 65 (zB i.s) ty4 zzl ?_)))))))))))
   refine zza 66 (.v x60.v) (zza 67 (.v (.agg #[.bool i.s, x60.v])) (zza 68 (.v x68.v) (zza 69 (.v (.agg #[.bool i.s, x60.v, x68.v])) (zzj ⟨74, [.bool i.s, x60.v, x68.v]⟩ ty74 ?_))))
   refine zzb (zzo (ret0 [.agg #[.bool i.s, .slice x60.a x60.n x60.c, .slice x68.a x68.n x68.c]] ⟨zzr ty74 zze, trivial⟩ fun u75 e76 => ?_))
   refine ⟨(⟨i.s, x60, x68⟩ : RL), rfl, RatN.more (K := max K L) ?_ xq⟩
   rw [hz]
   exact low3 hp hr (h62.ext (e67.trans (g73.ext.trans e76))) (h70.ext e76)
theorem k_ratTrim {u w : World} {r1 : RL} {x : Rat} {K : Nat} (d : Dat u w) (hr1 : RatV u r1 x K) (hK : K ≤ 200000000) : Calls Tryz.prog 67 #[r1.v] w (Post u w fun v u' => ∃ r : RL, v = r.v ∧ RatN u' r x K) := by
 refine zzm (args := [r1.v]) Tryz.func67 rfl Tryz.ntmps67 (rs := [.cell 2 74]) Tryz.results67 (le_b rfl) (le_b rfl) d ?_
 refine sq9 (zzk 1 ⟨74, r1.cs⟩ (zzk 2 ⟨74, [.bool false, .slice none 0 0, .slice none 0 0]⟩ (zzb (sq9 (zzi 3 (.v (r1.v)) ty74 zze (zzg 4 105 [r1.v] ?_))))))
 intro w11 u11 e11 d11
 have k15 := k_read d11 (hr1.ext e11)
 with_reducible refine zPm k15 ?_
 rintro _ u13 g14 ⟨r12, wh12, rfl, z12, D12, hi12, hd12, hp12, hq12, hw12, hk12⟩
 refine zza 5 (.v (r12.v)) (zzg 6 106 [r12.v] ?_)
 intro w16 u16 e16 d16
 have k21 := k_lowest d16 (hi12.ext e16) (hd12.ext e16) hp12 xq xq
 with_reducible refine zPm k21 ?_
 rintro _ u19 g20 ⟨r17, rfl, h18⟩
 refine zzj ⟨74, r17.cs⟩ ty74 ?_
 refine zzb (zzo (ret0 [r17.v] ⟨zzr ty74 zze, trivial⟩ fun u22 e23 => ?_))
 refine ⟨r17, rfl, RatN.more (K := (max K K)) ?_ xq⟩
 rw [hq12]; exact (h18.ext e23)
theorem k_ratOf {u w : World} {z : Int} (d : Dat u w) (h0 : -9223372036854775808 ≤ z) (h1 : z ≤ 9223372036854775807) : Calls Tryz.prog 46 #[.int .i64 z] w (Post u w fun v u' => ∃ r : RL, v = r.v ∧ RatN u' r (z : Rat) 2) := by
 refine zzm (args := [.int .i64 z]) Tryz.func46 rfl Tryz.ntmps46 (rs := [.cell 2 74]) Tryz.results46 (le_b rfl) (le_b rfl) d ?_
 refine sq9 (zzk 2 ⟨74, [.bool false, .slice none 0 0, .slice none 0 0]⟩ (zzb (sq9 (zza 3 (zI z) (zzg 4 88 [.int .i64 z] ?_)))))
 intro w11 u11 e11 d11
 have k16 := k_intOf d11 (z := z) xq xq
 with_reducible refine zPm k16 ?_
 rintro _ u14 g15 ⟨i12, rfl, h13⟩
 refine zzg 5 87 [i12.v] ?_
 intro w17 u17 e17 d17
 have k22 := k_whole (i := i12) d17
 with_reducible refine zPm k22 ?_
 rintro _ u20 g21 ⟨y18, rfl, h19⟩
 refine zzj ⟨74, i12.cs ++ [y18.v]⟩ ty74 ?_
 refine zzb (zzo (ret0 [.agg #[.bool i12.s, .slice i12.m.a i12.m.n i12.m.c, .slice y18.a y18.n y18.c]] ⟨zzr ty74 zze, trivial⟩ fun u23 e24 => ?_))
 refine ⟨(⟨i12.s, i12.m, y18⟩ : RL), rfl, RatN.more (K := (max 2 1)) ?_ xq⟩
 exact ((whole_rat (h13.ext (e17.trans g21.ext)) h19).ext e24)
theorem k_ratSign {u w : World} {r1 : RL} {x : Rat} {K : Nat} (d : Dat u w) (hr1 : RatV u r1 x K)  : Calls Tryz.prog 103 #[r1.v] w (Post u w fun v u' => v = .int .i64 (Nt.sgQ x)) := by
 refine zzm (args := [r1.v]) Tryz.func103 rfl Tryz.ntmps103 (rs := [.tmp 2]) Tryz.results103 (le_b rfl) (le_b rfl) d ?_
 refine sq9 (zzk 1 ⟨74, r1.cs⟩ (zza 2 (zI 0) (zzb (sq9 (zzi 3 (.v (r1.v)) ty74 zze (zzg 4 105 [r1.v] ?_))))))
 intro w11 u11 e11 d11
 have k15 := k_read d11 (hr1.ext e11)
 with_reducible refine zPm k15 ?_
 rintro _ u13 g14 ⟨r12, wh12, rfl, z12, D12, hi12, hd12, hp12, hq12, hw12, hk12⟩
 refine zza 5 (.v (r12.v)) (zza 6 (.v (.agg #[.bool r12.s, r12.m.v])) (zzg 7 141 [.agg #[.bool r12.s, r12.m.v]] ?_))
 intro w16 u16 e16 d16
 have k19 := k_intSign d16 (hi12.ext e16)
 with_reducible refine zPm k19 ?_
 rintro _ u17 g18 rfl
 refine zza 2 (zI (Nt.cmpS z12 0)) (zzb (zzo (ret0 [.int .i64 (Nt.cmpS z12 0)] ⟨zzq, trivial⟩ fun u20 e21 => ?_)))
 show _ = _
 rw [hq12, ← Nt.sg_mk hp12]
 rfl
theorem k_ratAbs {u w : World} {r1 : RL} {x : Rat} {K : Nat} (d : Dat u w) (hr1 : RatV u r1 x K) (hK : K ≤ 200000000) : Calls Tryz.prog 152 #[r1.v] w (Post u w fun v u' => ∃ r : RL, v = r.v ∧ RatN u' r (Nt.absQ x) K) := by
 refine zzm (args := [r1.v]) Tryz.func152 rfl Tryz.ntmps152 (rs := [.cell 2 74]) Tryz.results152 (le_b rfl) (le_b rfl) d ?_
 refine sq9 (zzk 1 ⟨74, r1.cs⟩ (zzk 2 ⟨74, [.bool false, .slice none 0 0, .slice none 0 0]⟩ (zzb (sq9 (zza 3 (.adr 1 0) (zza 4 (.adr 1 1) (zzi 5 (.v r1.m.v) ty70 zzl (zza 6 (.v (.agg #[.bool false, r1.m.v])) (zza 7 (.adr 1 2) (zzi 8 (.v r1.d.v) ty70 zzl (zza 9 (.v (.agg #[.bool false, r1.m.v, r1.d.v])) ?_)))))))))))
 refine zzg 10 67 [.agg #[.bool false, r1.m.v, r1.d.v]] ?_
 intro w11 u11 e11 d11
 have k16 := k_ratTrim d11 ((abs_rat hr1).ext e11) xq
 with_reducible refine zPm k16 ?_
 rintro _ u14 g15 ⟨r12, rfl, h13⟩
 refine zzj ⟨74, r12.cs⟩ ty74 ?_
 refine zzb (zzo (ret0 [r12.v] ⟨zzr ty74 zze, trivial⟩ fun u17 e18 => ?_))
 refine ⟨r12, rfl, RatN.more (K := K) ?_ xq⟩
 exact (h13.ext e18)
set_option maxHeartbeats 1000000 in
theorem k_ratAdd {u w : World} {r1 : RL} {x : Rat} {K : Nat} {r2 : RL} {y : Rat} {L : Nat} (d : Dat u w) (hr1 : RatV u r1 x K) (hr2 : RatV u r2 y L) (hK : K ≤ 200000000) (hL : L ≤ 200000000) : Calls Tryz.prog 71 #[r1.v, r2.v] w (Post u w fun v u' => ∃ r : RL, v = r.v ∧ RatN u' r (x + y) (K + L + 1)) := by
 refine zzm (args := [r1.v, r2.v]) Tryz.func71 rfl Tryz.ntmps71 (rs := [.cell 4 74]) Tryz.results71 (le_b rfl) (le_b rfl) d ?_
 refine sq9 (zzk 2 ⟨74, r1.cs⟩ (zzk 3 ⟨74, r2.cs⟩ (zzk 4 ⟨74, [.bool false, .slice none 0 0, .slice none 0 0]⟩ (zzb (zzd (zzz [0, 1, 0, 7, 0, 0, 63, 127] [(0, []), (2, []), (4, []), (5, []), (1, []), (3, []), (6, []), (7, [])] xj xj (zzi 8 (.v (r1.v)) ty74 zze (zzi 10 (.v (r2.v)) ty74 zze (zzk 5 ⟨173, [.bool false, .slice none 0 0, .slice none 0 0, .bool false]⟩ (zzk 6 ⟨173, [.bool false, .slice none 0 0, .slice none 0 0, .bool false]⟩ (zzg 9 105 [r1.v] ?_)))))))))))
 intro w11 u11 e11 d11
 have k15 := k_read d11 (hr1.ext e11)
 with_reducible refine zPm k15 ?_
 rintro _ u13 g14 ⟨r12, wh12, rfl, z12, D12, hi12, hd12, hp12, hq12, hw12, hk12⟩
 refine zzg 11 105 [r2.v] ?_
 intro w16 u16 e16 d16
 have k20 := k_read d16 (hr2.ext (e11.trans (g14.ext.trans e16)))
 with_reducible refine zPm k20 ?_
 rintro _ u18 g19 ⟨r17, wh17, rfl, z17, D17, hi17, hd17, hp17, hq17, hw17, hk17⟩
 refine zzj ⟨173, r12.cs ++ [.bool wh12]⟩ ty173 ?_
 refine zzj ⟨173, r17.cs ++ [.bool wh17]⟩ ty173 ?_
 refine zzb (zzd (sq9 (zza 12 (.adr 5 3) (zzi 13 (zB wh12) ty4 zzl ?_))))
 rcases Bool.eq_false_or_eq_true wh12 with hs21 | hs21
 ·refine zyq 14 (x := zB wh12) (zB true) (by rw [hs21]) (zza 15 (.adr 6 3) ?_ (hw := w1 2 true 14))
  refine zzi 16 (zB wh17) ty4 zzl ?_ (hw := w1 2 true 14)
  refine zza 17 (zB wh17) (zzb (zzu (b := wh17) xj (fun hb22 => ?_) (fun hb22 => ?_)))
  ·replace hb22 : wh17 = true := hb22
   refine sq9 (zza 18 (.adr 5 0) (zza 19 (.adr 5 0) (zzi 20 (.v (.agg #[.bool r12.s, r12.m.v])) ty72 zze (zza 21 (.adr 6 0) (zza 22 (.adr 6 0) (zzi 23 (.v (.agg #[.bool r17.s, r17.m.v])) ty72 zze (zzg 24 107 [.agg #[.bool r12.s, r12.m.v], .agg #[.bool r17.s, r17.m.v]] ?_)))))))
   intro w23 u23 e23 d23
   have k28 := k_intAdd d23 (hi12.ext (e16.trans (g19.ext.trans e23))) (hi17.ext e23) xq xq
   with_reducible refine zPm k28 ?_
   rintro _ u26 g27 ⟨i24, rfl, h25⟩
   refine zzg 25 87 [i24.v] ?_
   intro w29 u29 e29 d29
   have k34 := k_whole (i := i24) d29
   with_reducible refine zPm k34 ?_
   rintro _ u32 g33 ⟨y30, rfl, h31⟩
   refine zzj ⟨74, i24.cs ++ [y30.v]⟩ ty74 ?_
   refine zzb (zzo (zzw (ret0 [.agg #[.bool i24.s, .slice i24.m.a i24.m.n i24.m.c, .slice y30.a y30.n y30.c]] ⟨zzr ty74 zze, trivial⟩ fun u35 e36 => ?_)))
   refine ⟨(⟨i24.s, i24.m, y30⟩ : RL), rfl, RatN.more (K := (max (max K L + 1) 1)) ?_ xq⟩
   rw [hq12, hq17, hw12 (by assumption), hw17 (by assumption), Nt.mk_one, Nt.mk_one, ← Rat.intCast_add]
   exact ((whole_rat (h25.ext (e29.trans g33.ext)) h31).ext e36)
  ·replace hb22 : wh17 = false := hb22
   refine zzs (zzp ?_)
   refine zzd (sq9 (zza 26 (.adr 5 0) (zza 27 (.adr 5 2) (zzi 28 (.v r12.d.v) ty70 zzl (zza 29 (.adr 6 0) (zza 30 (.adr 6 2) (zzi 31 (.v r17.d.v) ty70 zzl (zzg 32 108 [r12.d.v, r17.d.v] ?_))))))))
   intro w37 u37 e37 d37
   have k40 := k_natCompare d37 (hd12.ext (e16.trans (g19.ext.trans e37))) (hd17.ext e37)
   with_reducible refine zPm k40 ?_
   rintro _ u38 g39 rfl
   refine zza 33 (zB ((Nt.cmpS D12 D17) == 0)) (zzb (zzu (b := (Nt.cmpS D12 D17) == 0) xj (fun hb41 => ?_) (fun hb41 => ?_)))
   ·replace hb41 : ((Nt.cmpS D12 D17) == 0) = true := hb41
    refine zzd (zzz [0, 1, 3, 0, 8, 24, 63, 0, 128, 384, 1023, 2047, 4095] [(0, []), (1, []), (2, []), (3, []), (4, []), (5, []), (7, []), (8, []), (9, []), (6, []), (10, []), (11, []), (12, [])] xj xj (zza 34 (.adr 5 0) (zza 35 (.adr 5 0) (zzi 36 (.v (.agg #[.bool r12.s, r12.m.v])) ty72 zze (zza 37 (.adr 6 0) (zza 38 (.adr 6 0) (zzi 39 (.v (.agg #[.bool r17.s, r17.m.v])) ty72 zze (zza 41 (.adr 5 0) (zza 42 (.adr 5 2) (zzi 43 (.v r12.d.v) ty70 zzl (zzg 40 107 [.agg #[.bool r12.s, r12.m.v], .agg #[.bool r17.s, r17.m.v]] ?_)))))))))))
    intro w42 u42 e42 d42
    have k47 := k_intAdd d42 (hi12.ext (e16.trans (g19.ext.trans (e37.trans (g39.ext.trans e42))))) (hi17.ext (e37.trans (g39.ext.trans e42))) xq xq
    with_reducible refine zPm k47 ?_
    rintro _ u45 g46 ⟨i43, rfl, h44⟩
    refine zza 44 (.v (.agg #[.bool i43.s, i43.m.v, r12.d.v])) (zzg 45 106 [.agg #[.bool i43.s, i43.m.v, r12.d.v]] ?_)
    intro w48 u48 e48 d48
    have k53 := k_lowest d48 (h44.ext e48).raw (hd12.ext (e16.trans (g19.ext.trans (e37.trans (g39.ext.trans (e42.trans (g46.ext.trans e48))))))) hp12 xq xq
    with_reducible refine zPm k53 ?_
    rintro _ u51 g52 ⟨r49, rfl, h50⟩
    refine zzj ⟨74, r49.cs⟩ ty74 ?_
    refine zzc 73 [(4, .adr 4 0)] [(4, ⟨74, r49.cs⟩)] (zzo (zzw (ret0 [r49.v] ⟨zzr ty74 zze, trivial⟩ fun u54 e55 => ?_)))
    refine ⟨r49, rfl, RatN.more (K := (max (max K L + 1) K)) ?_ xq⟩
    have hD : D12 = D17 := Nt.cmp_natE hb41
    rw [hq12, hq17, ← hD, ← Nt.add_same hp12]
    exact (h50.ext e55)
   ·replace hb41 : ((Nt.cmpS D12 D17) == 0) = false := hb41
    refine zzs (zzp ?_)
    refine zzd (zzz [0, 1, 3, 0, 8, 24, 56, 127, 0, 256, 768, 0, 2048, 6144, 14591, 32767, 65535, 0, 262143] [(0, []), (1, []), (2, []), (3, []), (4, []), (5, []), (8, []), (9, []), (10, []), (11, []), (12, []), (13, []), (17, []), (6, []), (7, []), (14, []), (15, []), (16, []), (18, [])] xj xj (zza 46 (.adr 5 0) (zza 47 (.adr 5 0) (zzi 48 (.v (.agg #[.bool r12.s, r12.m.v])) ty72 zze (zza 49 (.adr 6 0) (zza 50 (.adr 6 2) (zzi 51 (.v r17.d.v) ty70 zzl (zza 54 (.adr 6 0) (zza 55 (.adr 6 0) (zzi 56 (.v (.agg #[.bool r17.s, r17.m.v])) ty72 zze (zza 57 (.adr 5 0) ?_)))))))))))
    refine zza 58 (.adr 5 2) (zzi 59 (.v r12.d.v) ty70 zzl (zzk 7 ⟨72, [.bool false, .slice none 0 0]⟩ (zzg 52 110 [r17.d.v] ?_)))
    intro w56 u56 e56 d56
    have k59 := k_natural (x := r17.d) d56
    with_reducible refine zPm k59 ?_
    rintro _ u57 g58 rfl
    refine zzg 53 109 [.agg #[.bool r12.s, r12.m.v], .agg #[.bool false, r17.d.v]] ?_
    intro w60 u60 e60 d60
    have k65 := k_intMul d60 (hi12.ext (e16.trans (g19.ext.trans (e37.trans (g39.ext.trans (e56.trans (g58.ext.trans e60))))))) (nat_int (hd17.ext (e37.trans (g39.ext.trans (e56.trans (g58.ext.trans e60)))))) xq xq
    with_reducible refine zPm k65 ?_
    rintro _ u63 g64 ⟨i61, rfl, h62⟩
    refine zzg 60 110 [r12.d.v] ?_
    intro w66 u66 e66 d66
    have k69 := k_natural (x := r12.d) d66
    with_reducible refine zPm k69 ?_
    rintro _ u67 g68 rfl
    refine zzg 61 109 [.agg #[.bool r17.s, r17.m.v], .agg #[.bool false, r12.d.v]] ?_
    intro w70 u70 e70 d70
    have k75 := k_intMul d70 (hi17.ext (e37.trans (g39.ext.trans (e56.trans (g58.ext.trans (e60.trans (g64.ext.trans (e66.trans (g68.ext.trans e70))))))))) (nat_int (hd12.ext (e16.trans (g19.ext.trans (e37.trans (g39.ext.trans (e56.trans (g58.ext.trans (e60.trans (g64.ext.trans (e66.trans (g68.ext.trans e70)))))))))))) xq xq
    with_reducible refine zPm k75 ?_
    rintro _ u73 g74 ⟨i71, rfl, h72⟩
    refine zzg 62 107 [i61.v, i71.v] ?_
    intro w76 u76 e76 d76
    have k81 := k_intAdd d76 (h62.ext (e66.trans (g68.ext.trans (e70.trans (g74.ext.trans e76))))).raw (h72.ext e76).raw xq xq
    with_reducible refine zPm k81 ?_
    rintro _ u79 g80 ⟨i77, rfl, h78⟩
    refine zzj ⟨72, i77.cs⟩ ty72 ?_
    refine zzc 73 [(4, .adr 4 0), (5, .adr 5 0), (6, .adr 6 0), (7, .adr 7 0)] [(4, ⟨74, [.bool false, .slice none 0 0, .slice none 0 0]⟩), (5, ⟨173, r12.cs ++ [.bool wh12]⟩), (6, ⟨173, r17.cs ++ [.bool wh17]⟩), (7, ⟨72, i77.cs⟩)] (zzd (zzz [0, 0, 2, 6, 0, 16, 48, 126, 255, 511, 1023] [(0, []), (1, []), (2, []), (3, []), (4, []), (5, []), (6, []), (7, []), (8, []), (9, []), (10, [])] xj xj (zzi 63 (.v (i77.v)) ty72 zze (zza 64 (.adr 5 0) (zza 65 (.adr 5 2) (zzi 66 (.v r12.d.v) ty70 zzl (zza 67 (.adr 6 0) (zza 68 (.adr 6 2) (zzi 69 (.v r17.d.v) ty70 zzl (zzg 70 111 [r12.d.v, r17.d.v] ?_))))))))))
    intro w82 u82 e82 d82
    have k87 := k_natMul d82 (hd12.ext (e16.trans (g19.ext.trans (e37.trans (g39.ext.trans (e56.trans (g58.ext.trans (e60.trans (g64.ext.trans (e66.trans (g68.ext.trans (e70.trans (g74.ext.trans (e76.trans (g80.ext.trans e82))))))))))))))) (hd17.ext (e37.trans (g39.ext.trans (e56.trans (g58.ext.trans (e60.trans (g64.ext.trans (e66.trans (g68.ext.trans (e70.trans (g74.ext.trans (e76.trans (g80.ext.trans e82))))))))))))) xq xq
    with_reducible refine zPm k87 ?_
    rintro _ u85 g86 ⟨x83, rfl, h84⟩
    refine zza 71 (.v (.agg #[.bool i77.s, i77.m.v, x83.v])) (zzg 72 106 [.agg #[.bool i77.s, i77.m.v, x83.v]] ?_)
    intro w88 u88 e88 d88
    have k93 := k_lowest d88 (h78.ext (e82.trans (g86.ext.trans e88))).raw (h84.ext e88).raw (Nat.mul_pos hp12 hp17) xq xq
    with_reducible refine zPm k93 ?_
    rintro _ u91 g92 ⟨r89, rfl, h90⟩
    refine zzj ⟨74, r89.cs⟩ ty74 ?_
    refine zzb (zzo (ret0 [r89.v] ⟨zzr ty74 zze, trivial⟩ fun u94 e95 => ?_))
    refine ⟨r89, rfl, RatN.more (K := (max (max (K + L) (L + K) + 1) (K + L))) ?_ xq⟩
    rw [hq12, hq17, ← Nt.add_mk hp12 hp17]
    exact (h90.ext e95)
 ·refine zyq 14 (x := zB wh12) (zB false) (by rw [hs21]) (zzn 15 (uw 2 true false 14) (zzn 16 (uw 2 true false 14) (zza 17 (zB false) (zzb (zys xj (zzs (zzp ?_)))))))
  refine zzd (sq9 (zza 26 (.adr 5 0) (zza 27 (.adr 5 2) (zzi 28 (.v r12.d.v) ty70 zzl (zza 29 (.adr 6 0) (zza 30 (.adr 6 2) (zzi 31 (.v r17.d.v) ty70 zzl (zzg 32 108 [r12.d.v, r17.d.v] ?_))))))))
  intro w96 u96 e96 d96
  have k99 := k_natCompare d96 (hd12.ext (e16.trans (g19.ext.trans e96))) (hd17.ext e96)
  with_reducible refine zPm k99 ?_
  rintro _ u97 g98 rfl
  refine zza 33 (zB ((Nt.cmpS D12 D17) == 0)) (zzb (zzu (b := (Nt.cmpS D12 D17) == 0) xj (fun hb100 => ?_) (fun hb100 => ?_)))
  ·replace hb100 : ((Nt.cmpS D12 D17) == 0) = true := hb100
   refine zzd (zzz [0, 1, 3, 0, 8, 24, 63, 0, 128, 384, 1023, 2047, 4095] [(0, []), (1, []), (2, []), (3, []), (4, []), (5, []), (7, []), (8, []), (9, []), (6, []), (10, []), (11, []), (12, [])] xj xj (zza 34 (.adr 5 0) (zza 35 (.adr 5 0) (zzi 36 (.v (.agg #[.bool r12.s, r12.m.v])) ty72 zze (zza 37 (.adr 6 0) (zza 38 (.adr 6 0) (zzi 39 (.v (.agg #[.bool r17.s, r17.m.v])) ty72 zze (zza 41 (.adr 5 0) (zza 42 (.adr 5 2) (zzi 43 (.v r12.d.v) ty70 zzl (zzg 40 107 [.agg #[.bool r12.s, r12.m.v], .agg #[.bool r17.s, r17.m.v]] ?_)))))))))))
   intro w101 u101 e101 d101
   have k106 := k_intAdd d101 (hi12.ext (e16.trans (g19.ext.trans (e96.trans (g98.ext.trans e101))))) (hi17.ext (e96.trans (g98.ext.trans e101))) xq xq
   with_reducible refine zPm k106 ?_
   rintro _ u104 g105 ⟨i102, rfl, h103⟩
   refine zza 44 (.v (.agg #[.bool i102.s, i102.m.v, r12.d.v])) (zzg 45 106 [.agg #[.bool i102.s, i102.m.v, r12.d.v]] ?_)
   intro w107 u107 e107 d107
   have k112 := k_lowest d107 (h103.ext e107).raw (hd12.ext (e16.trans (g19.ext.trans (e96.trans (g98.ext.trans (e101.trans (g105.ext.trans e107))))))) hp12 xq xq
   with_reducible refine zPm k112 ?_
   rintro _ u110 g111 ⟨r108, rfl, h109⟩
   refine zzj ⟨74, r108.cs⟩ ty74 ?_
   refine zzc 73 [(4, .adr 4 0)] [(4, ⟨74, r108.cs⟩)] (zzo (zzw (ret0 [r108.v] ⟨zzr ty74 zze, trivial⟩ fun u113 e114 => ?_)))
   refine ⟨r108, rfl, RatN.more (K := (max (max K L + 1) K)) ?_ xq⟩
   have hD : D12 = D17 := Nt.cmp_natE hb100
   rw [hq12, hq17, ← hD, ← Nt.add_same hp12]
   exact (h109.ext e114)
  ·replace hb100 : ((Nt.cmpS D12 D17) == 0) = false := hb100
   refine zzs (zzp ?_)
   refine zzd (zzz [0, 1, 3, 0, 8, 24, 56, 127, 0, 256, 768, 0, 2048, 6144, 14591, 32767, 65535, 0, 262143] [(0, []), (1, []), (2, []), (3, []), (4, []), (5, []), (8, []), (9, []), (10, []), (11, []), (12, []), (13, []), (17, []), (6, []), (7, []), (14, []), (15, []), (16, []), (18, [])] xj xj (zza 46 (.adr 5 0) (zza 47 (.adr 5 0) (zzi 48 (.v (.agg #[.bool r12.s, r12.m.v])) ty72 zze (zza 49 (.adr 6 0) (zza 50 (.adr 6 2) (zzi 51 (.v r17.d.v) ty70 zzl (zza 54 (.adr 6 0) (zza 55 (.adr 6 0) (zzi 56 (.v (.agg #[.bool r17.s, r17.m.v])) ty72 zze (zza 57 (.adr 5 0) ?_)))))))))))
   refine zza 58 (.adr 5 2) (zzi 59 (.v r12.d.v) ty70 zzl (zzk 7 ⟨72, [.bool false, .slice none 0 0]⟩ (zzg 52 110 [r17.d.v] ?_)))
   intro w115 u115 e115 d115
   have k118 := k_natural (x := r17.d) d115
   with_reducible refine zPm k118 ?_
   rintro _ u116 g117 rfl
   refine zzg 53 109 [.agg #[.bool r12.s, r12.m.v], .agg #[.bool false, r17.d.v]] ?_
   intro w119 u119 e119 d119
   have k124 := k_intMul d119 (hi12.ext (e16.trans (g19.ext.trans (e96.trans (g98.ext.trans (e115.trans (g117.ext.trans e119))))))) (nat_int (hd17.ext (e96.trans (g98.ext.trans (e115.trans (g117.ext.trans e119)))))) xq xq
   with_reducible refine zPm k124 ?_
   rintro _ u122 g123 ⟨i120, rfl, h121⟩
   refine zzg 60 110 [r12.d.v] ?_
   intro w125 u125 e125 d125
   have k128 := k_natural (x := r12.d) d125
   with_reducible refine zPm k128 ?_
   rintro _ u126 g127 rfl
   refine zzg 61 109 [.agg #[.bool r17.s, r17.m.v], .agg #[.bool false, r12.d.v]] ?_
   intro w129 u129 e129 d129
   have k134 := k_intMul d129 (hi17.ext (e96.trans (g98.ext.trans (e115.trans (g117.ext.trans (e119.trans (g123.ext.trans (e125.trans (g127.ext.trans e129))))))))) (nat_int (hd12.ext (e16.trans (g19.ext.trans (e96.trans (g98.ext.trans (e115.trans (g117.ext.trans (e119.trans (g123.ext.trans (e125.trans (g127.ext.trans e129)))))))))))) xq xq
   with_reducible refine zPm k134 ?_
   rintro _ u132 g133 ⟨i130, rfl, h131⟩
   refine zzg 62 107 [i120.v, i130.v] ?_
   intro w135 u135 e135 d135
   have k140 := k_intAdd d135 (h121.ext (e125.trans (g127.ext.trans (e129.trans (g133.ext.trans e135))))).raw (h131.ext e135).raw xq xq
   with_reducible refine zPm k140 ?_
   rintro _ u138 g139 ⟨i136, rfl, h137⟩
   refine zzj ⟨72, i136.cs⟩ ty72 ?_
   refine zzc 73 [(4, .adr 4 0), (5, .adr 5 0), (6, .adr 6 0), (7, .adr 7 0)] [(4, ⟨74, [.bool false, .slice none 0 0, .slice none 0 0]⟩), (5, ⟨173, r12.cs ++ [.bool wh12]⟩), (6, ⟨173, r17.cs ++ [.bool wh17]⟩), (7, ⟨72, i136.cs⟩)] (zzd (zzz [0, 0, 2, 6, 0, 16, 48, 126, 255, 511, 1023] [(0, []), (1, []), (2, []), (3, []), (4, []), (5, []), (6, []), (7, []), (8, []), (9, []), (10, [])] xj xj (zzi 63 (.v (i136.v)) ty72 zze (zza 64 (.adr 5 0) (zza 65 (.adr 5 2) (zzi 66 (.v r12.d.v) ty70 zzl (zza 67 (.adr 6 0) (zza 68 (.adr 6 2) (zzi 69 (.v r17.d.v) ty70 zzl (zzg 70 111 [r12.d.v, r17.d.v] ?_))))))))))
   intro w141 u141 e141 d141
   have k146 := k_natMul d141 (hd12.ext (e16.trans (g19.ext.trans (e96.trans (g98.ext.trans (e115.trans (g117.ext.trans (e119.trans (g123.ext.trans (e125.trans (g127.ext.trans (e129.trans (g133.ext.trans (e135.trans (g139.ext.trans e141))))))))))))))) (hd17.ext (e96.trans (g98.ext.trans (e115.trans (g117.ext.trans (e119.trans (g123.ext.trans (e125.trans (g127.ext.trans (e129.trans (g133.ext.trans (e135.trans (g139.ext.trans e141))))))))))))) xq xq
   with_reducible refine zPm k146 ?_
   rintro _ u144 g145 ⟨x142, rfl, h143⟩
   refine zza 71 (.v (.agg #[.bool i136.s, i136.m.v, x142.v])) (zzg 72 106 [.agg #[.bool i136.s, i136.m.v, x142.v]] ?_)
   intro w147 u147 e147 d147
   have k152 := k_lowest d147 (h137.ext (e141.trans (g145.ext.trans e147))).raw (h143.ext e147).raw (Nat.mul_pos hp12 hp17) xq xq
   with_reducible refine zPm k152 ?_
   rintro _ u150 g151 ⟨r148, rfl, h149⟩
   refine zzj ⟨74, r148.cs⟩ ty74 ?_
   refine zzb (zzo (ret0 [r148.v] ⟨zzr ty74 zze, trivial⟩ fun u153 e154 => ?_))
   refine ⟨r148, rfl, RatN.more (K := (max (max (K + L) (L + K) + 1) (K + L))) ?_ xq⟩
   rw [hq12, hq17, ← Nt.add_mk hp12 hp17]
   exact (h149.ext e154)
set_option maxHeartbeats 1000000 in
theorem k_ratMul {u w : World} {r1 : RL} {x : Rat} {K : Nat} {r2 : RL} {y : Rat} {L : Nat} (d : Dat u w) (hr1 : RatV u r1 x K) (hr2 : RatV u r2 y L) (hK : K ≤ 200000000) (hL : L ≤ 200000000) : Calls Tryz.prog 72 #[r1.v, r2.v] w (Post u w fun v u' => ∃ r : RL, v = r.v ∧ RatN u' r (x * y) (K + L)) := by
 refine zzm (args := [r1.v, r2.v]) Tryz.func72 rfl Tryz.ntmps72 (rs := [.cell 4 74]) Tryz.results72 (le_b rfl) (le_b rfl) d ?_
 refine sq9 (zzk 2 ⟨74, r1.cs⟩ (zzk 3 ⟨74, r2.cs⟩ (zzk 4 ⟨74, [.bool false, .slice none 0 0, .slice none 0 0]⟩ (zzb (zzd (zzz [0, 1, 0, 7, 0, 0, 63, 127] [(0, []), (2, []), (4, []), (5, []), (1, []), (3, []), (6, []), (7, [])] xj xj (zzi 8 (.v (r1.v)) ty74 zze (zzi 10 (.v (r2.v)) ty74 zze (zzk 5 ⟨173, [.bool false, .slice none 0 0, .slice none 0 0, .bool false]⟩ (zzk 6 ⟨173, [.bool false, .slice none 0 0, .slice none 0 0, .bool false]⟩ (zzg 9 105 [r1.v] ?_)))))))))))
 intro w11 u11 e11 d11
 have k15 := k_read d11 (hr1.ext e11)
 with_reducible refine zPm k15 ?_
 rintro _ u13 g14 ⟨r12, wh12, rfl, z12, D12, hi12, hd12, hp12, hq12, hw12, hk12⟩
 refine zzg 11 105 [r2.v] ?_
 intro w16 u16 e16 d16
 have k20 := k_read d16 (hr2.ext (e11.trans (g14.ext.trans e16)))
 with_reducible refine zPm k20 ?_
 rintro _ u18 g19 ⟨r17, wh17, rfl, z17, D17, hi17, hd17, hp17, hq17, hw17, hk17⟩
 refine zzj ⟨173, r12.cs ++ [.bool wh12]⟩ ty173 ?_
 refine zzj ⟨173, r17.cs ++ [.bool wh17]⟩ ty173 ?_
 refine zzb (sq9 (zza 12 (.adr 5 0) (zza 13 (.adr 5 0) (zzi 14 (.v (.agg #[.bool r12.s, r12.m.v])) ty72 zze (zza 15 (.adr 6 0) (zza 16 (.adr 6 0) (zzi 17 (.v (.agg #[.bool r17.s, r17.m.v])) ty72 zze (zzg 18 109 [.agg #[.bool r12.s, r12.m.v], .agg #[.bool r17.s, r17.m.v]] ?_))))))))
 intro w21 u21 e21 d21
 have k26 := k_intMul d21 (hi12.ext (e16.trans (g19.ext.trans e21))) (hi17.ext e21) xq xq
 with_reducible refine zPm k26 ?_
 rintro _ u24 g25 ⟨i22, rfl, h23⟩
 refine zzk 7 ⟨72, [.bool false, .slice none 0 0]⟩ (zzj ⟨72, i22.cs⟩ ty72 ?_)
 refine zzb (zzd (sq9 (zza 19 (.adr 5 3) (zzi 20 (zB wh12) ty4 zzl ?_))))
 rcases Bool.eq_false_or_eq_true wh12 with hs27 | hs27
 ·refine zyq 21 (x := zB wh12) (zB true) (by rw [hs27]) (zza 22 (.adr 6 3) ?_ (hw := w1 2 true 21))
  refine zzi 23 (zB wh17) ty4 zzl ?_ (hw := w1 2 true 21)
  refine zza 24 (zB wh17) (zzb (zzu (b := wh17) xj (fun hb28 => ?_) (fun hb28 => ?_)))
  ·replace hb28 : wh17 = true := hb28
   refine sq9 (zzi 25 (.v (i22.v)) ty72 zze (zzg 26 87 [i22.v] ?_))
   intro w29 u29 e29 d29
   have k34 := k_whole (i := i22) d29
   with_reducible refine zPm k34 ?_
   rintro _ u32 g33 ⟨y30, rfl, h31⟩
   refine zzj ⟨74, i22.cs ++ [y30.v]⟩ ty74 ?_
   refine zzb (zzo (zzw (ret0 [.agg #[.bool i22.s, .slice i22.m.a i22.m.n i22.m.c, .slice y30.a y30.n y30.c]] ⟨zzr ty74 zze, trivial⟩ fun u35 e36 => ?_)))
   refine ⟨(⟨i22.s, i22.m, y30⟩ : RL), rfl, RatN.more (K := (max (K + L) 1)) ?_ xq⟩
   rw [hq12, hq17, hw12 (by assumption), hw17 (by assumption), Nt.mk_one, Nt.mk_one, ← Rat.intCast_mul]
   exact ((whole_rat (h23.ext (e29.trans g33.ext)) h31).ext e36)
  ·replace hb28 : wh17 = false := hb28
   refine zzs (zzp ?_)
   refine zzd (zzz [0, 0, 2, 6, 0, 16, 48, 126, 255, 511, 1023] [(0, []), (1, []), (2, []), (3, []), (4, []), (5, []), (6, []), (7, []), (8, []), (9, []), (10, [])] xj xj (zzi 27 (.v (i22.v)) ty72 zze (zza 28 (.adr 5 0) (zza 29 (.adr 5 2) (zzi 30 (.v r12.d.v) ty70 zzl (zza 31 (.adr 6 0) (zza 32 (.adr 6 2) (zzi 33 (.v r17.d.v) ty70 zzl (zzg 34 111 [r12.d.v, r17.d.v] ?_)))))))))
   intro w37 u37 e37 d37
   have k42 := k_natMul d37 (hd12.ext (e16.trans (g19.ext.trans (e21.trans (g25.ext.trans e37))))) (hd17.ext (e21.trans (g25.ext.trans e37))) xq xq
   with_reducible refine zPm k42 ?_
   rintro _ u40 g41 ⟨x38, rfl, h39⟩
   refine zza 35 (.v (.agg #[.bool i22.s, i22.m.v, x38.v])) (zzg 36 106 [.agg #[.bool i22.s, i22.m.v, x38.v]] ?_)
   intro w43 u43 e43 d43
   have k48 := k_lowest d43 (h23.ext (e37.trans (g41.ext.trans e43))).raw (h39.ext e43).raw (Nat.mul_pos hp12 hp17) xq xq
   with_reducible refine zPm k48 ?_
   rintro _ u46 g47 ⟨r44, rfl, h45⟩
   refine zzj ⟨74, r44.cs⟩ ty74 ?_
   refine zzc 37 [(4, .adr 4 0)] [(4, ⟨74, r44.cs⟩)] (zzo (ret0 [r44.v] ⟨zzr ty74 zze, trivial⟩ fun u49 e50 => ?_))
   refine ⟨r44, rfl, RatN.more (K := (max (K + L) (K + L))) ?_ xq⟩
   rw [hq12, hq17, ← Nt.mul_mk]
   exact (h45.ext e50)
 ·refine zyq 21 (x := zB wh12) (zB false) (by rw [hs27]) (zzn 22 (uw 2 true false 21) (zzn 23 (uw 2 true false 21) (zza 24 (zB false) (zzb (zys xj (zzs (zzp ?_)))))))
  refine zzd (zzz [0, 0, 2, 6, 0, 16, 48, 126, 255, 511, 1023] [(0, []), (1, []), (2, []), (3, []), (4, []), (5, []), (6, []), (7, []), (8, []), (9, []), (10, [])] xj xj (zzi 27 (.v (i22.v)) ty72 zze (zza 28 (.adr 5 0) (zza 29 (.adr 5 2) (zzi 30 (.v r12.d.v) ty70 zzl (zza 31 (.adr 6 0) (zza 32 (.adr 6 2) (zzi 33 (.v r17.d.v) ty70 zzl (zzg 34 111 [r12.d.v, r17.d.v] ?_)))))))))
  intro w51 u51 e51 d51
  have k56 := k_natMul d51 (hd12.ext (e16.trans (g19.ext.trans (e21.trans (g25.ext.trans e51))))) (hd17.ext (e21.trans (g25.ext.trans e51))) xq xq
  with_reducible refine zPm k56 ?_
  rintro _ u54 g55 ⟨x52, rfl, h53⟩
  refine zza 35 (.v (.agg #[.bool i22.s, i22.m.v, x52.v])) (zzg 36 106 [.agg #[.bool i22.s, i22.m.v, x52.v]] ?_)
  intro w57 u57 e57 d57
  have k62 := k_lowest d57 (h23.ext (e51.trans (g55.ext.trans e57))).raw (h53.ext e57).raw (Nat.mul_pos hp12 hp17) xq xq
  with_reducible refine zPm k62 ?_
  rintro _ u60 g61 ⟨r58, rfl, h59⟩
  refine zzj ⟨74, r58.cs⟩ ty74 ?_
  refine zzc 37 [(4, .adr 4 0)] [(4, ⟨74, r58.cs⟩)] (zzo (ret0 [r58.v] ⟨zzr ty74 zze, trivial⟩ fun u63 e64 => ?_))
  refine ⟨r58, rfl, RatN.more (K := (max (K + L) (K + L))) ?_ xq⟩
  rw [hq12, hq17, ← Nt.mul_mk]
  exact (h59.ext e64)
theorem k_ratFrac {u w : World} {a b : Int} (d : Dat u w) (ha0 : -9223372036854775808 ≤ a) (ha1 : a ≤ 9223372036854775807) (hb0 : -9223372036854775808 ≤ b) (hb1 : b ≤ 9223372036854775807) : Calls Tryz.prog 73 #[.int .i64 a, .int .i64 b] w (Post u w fun v u' => ∃ r : RL, v = r.v ∧ RatN u' r ((a : Rat) / (b : Rat)) 2) := by
 refine zzm (args := [.int .i64 a, .int .i64 b]) Tryz.func73 rfl Tryz.ntmps73 (rs := [.cell 4 74]) Tryz.results73 (le_b rfl) (le_b rfl) d ?_
 refine sq9 (zzk 4 ⟨74, [.bool false, .slice none 0 0, .slice none 0 0]⟩ (zzb (zzd (sq9 (zza 5 (zI b) (zza 6 (zB (b == 0)) (zzb (zzu (b := b == 0) xj (fun hb11 => ?_) (fun hb11 => ?_)))))))))
 ·replace hb11 : (b == 0) = true := hb11
  refine sq9 (zzg 7 46 [.int .i64 0] ?_)
  intro w12 u12 e12 d12
  have k17 := k_ratOf d12 (z := 0) xq xq
  with_reducible refine zPm k17 ?_
  rintro _ u15 g16 ⟨r13, rfl, h14⟩
  refine zzj ⟨74, r13.cs⟩ ty74 ?_
  refine zzb (zzo (zzw (ret0 [r13.v] ⟨zzr ty74 zze, trivial⟩ fun u18 e19 => ?_)))
  refine ⟨r13, rfl, RatN.more (K := 2) ?_ xq⟩
  have hb0 : b = 0 := by simpa using hb11
  rw [hb0]; simp [Rat.div_def]; exact (h14.ext e19)
 ·replace hb11 : (b == 0) = false := hb11
  have hb0 : 0 < b.natAbs := by simp at hb11; omega
  refine zzs (zzp ?_)
  refine sq9 (zza 8 (zI a) (zzg 9 88 [.int .i64 a] ?_))
  intro w20 u20 e20 d20
  have k25 := k_intOf d20 (z := a) xq xq
  with_reducible refine zPm k25 ?_
  rintro _ u23 g24 ⟨i21, rfl, h22⟩
  refine zza 10 (zI b) (zzg 11 88 [.int .i64 b] ?_)
  intro w26 u26 e26 d26
  have k31 := k_intOf d26 (z := b) xq xq
  with_reducible refine zPm k31 ?_
  rintro _ u29 g30 ⟨i27, rfl, h28⟩
  refine zzg 12 112 [i21.v, i27.v] ?_
  intro w32 u32 e32 d32
  have k35 := k_quotient (i := i21) (j := i27) d32
  with_reducible refine zPm k35 ?_
  rintro _ u33 g34 rfl
  refine zzg 13 106 [.agg #[.bool (!(i21.s == i27.s)), i21.m.v, i27.m.v]] ?_
  intro w36 u36 e36 d36
  have k41 := k_lowest d36 ((quot_int (h22.ext (e26.trans (g30.ext.trans (e32.trans g34.ext)))) (h28.ext (e32.trans g34.ext))).ext e36) ((int_mag (h28.ext (e32.trans g34.ext))).ext e36).raw hb0 xq xq
  with_reducible refine zPm k41 ?_
  rintro _ u39 g40 ⟨r37, rfl, h38⟩
  refine zzj ⟨74, r37.cs⟩ ty74 ?_
  refine zzb (zzo (ret0 [r37.v] ⟨zzr ty74 zze, trivial⟩ fun u42 e43 => ?_))
  refine ⟨r37, rfl, RatN.more (K := (max 2 2)) ?_ xq⟩
  rw [← Nt.div_mk2 xq]
  exact (h38.ext e43)
def DivR (x y : Rat) (K : Nat) (v : Value) (u : World) : Prop := (v = .tuple #[.agg #[.bool false, .slice none 0 0, .slice none 0 0], .int .i64 3] ∧ y = 0) ∨ (y ≠ 0 ∧ ∃ r : RL, v = .tuple #[r.v, .int .i64 0] ∧ RatN u r (x / y) K)
set_option maxHeartbeats 1000000 in
theorem k_ratDiv {u w : World} {r1 : RL} {x : Rat} {K : Nat} {r2 : RL} {y : Rat} {L : Nat} (d : Dat u w) (hr1 : RatV u r1 x K) (hr2 : RatV u r2 y L) (hK : K ≤ 200000000) (hL : L ≤ 200000000) : Calls Tryz.prog 104 #[r1.v, r2.v] w (Post u w fun v u' => DivR x y (K + L) v u') := by
 refine zzm (args := [r1.v, r2.v]) Tryz.func104 rfl Tryz.ntmps104 (rs := [.cell 4 74, .tmp 5]) Tryz.results104 (le_b rfl) (le_b rfl) d ?_
 refine sq9 (zzk 2 ⟨74, r1.cs⟩ (zzk 3 ⟨74, r2.cs⟩ (zzk 4 ⟨74, [.bool false, .slice none 0 0, .slice none 0 0]⟩ (zza 5 (zI 0) (zzb (zzd (zzz [0, 1, 0, 7, 0, 0, 63, 127] [(0, []), (2, []), (4, []), (5, []), (1, []), (3, []), (6, []), (7, [])] xj xj (zzi 10 (.v (r1.v)) ty74 zze (zzi 12 (.v (r2.v)) ty74 zze (zzk 6 ⟨173, [.bool false, .slice none 0 0, .slice none 0 0, .bool false]⟩ (zzk 7 ⟨173, [.bool false, .slice none 0 0, .slice none 0 0, .bool false]⟩ ?_)))))))))))
 refine zzg 11 105 [r1.v] ?_
 intro w11 u11 e11 d11
 have k15 := k_read d11 (hr1.ext e11)
 with_reducible refine zPm k15 ?_
 rintro _ u13 g14 ⟨r12, wh12, rfl, z12, D12, hi12, hd12, hp12, hq12, hw12, hk12⟩
 refine zzg 13 105 [r2.v] ?_
 intro w16 u16 e16 d16
 have k20 := k_read d16 (hr2.ext (e11.trans (g14.ext.trans e16)))
 with_reducible refine zPm k20 ?_
 rintro _ u18 g19 ⟨r17, wh17, rfl, z17, D17, hi17, hd17, hp17, hq17, hw17, hk17⟩
 refine zzj ⟨173, r12.cs ++ [.bool wh12]⟩ ty173 ?_
 refine zzj ⟨173, r17.cs ++ [.bool wh17]⟩ ty173 ?_
 refine zzb (zzd (sq9 (zza 14 (.adr 7 0) (zza 15 (.adr 7 0) (zzi 16 (.v (.agg #[.bool r17.s, r17.m.v])) ty72 zze (zzg 17 141 [.agg #[.bool r17.s, r17.m.v]] ?_))))))
 intro w21 u21 e21 d21
 have k24 := k_intSign d21 (hi17.ext e21)
 with_reducible refine zPm k24 ?_
 rintro _ u22 g23 rfl
 refine zza 18 (zB ((Nt.cmpS z17 0) == 0)) (zzb (zzu (b := (Nt.cmpS z17 0) == 0) xj (fun hb25 => ?_) (fun hb25 => ?_)))
 ·replace hb25 : ((Nt.cmpS z17 0) == 0) = true := hb25
  refine sq9 (zza 19 (.v (.agg #[.bool false, .slice none 0 0, .slice none 0 0])) (zzj ⟨74, [.bool false, .slice none 0 0, .slice none 0 0]⟩ ty74 ?_))
  refine zza 5 (zI 3) (zzb (zzo (zzw (ret0 [.agg #[.bool false, .slice none 0 0, .slice none 0 0], .int .i64 3] ⟨zzr ty74 zze, zzq, trivial⟩ fun u26 e27 => ?_))))
  left
  exact ⟨rfl, by rw [hq17, Nt.cmp_eq0 hb25, Rat.zero_mkRat]⟩
 ·replace hb25 : ((Nt.cmpS z17 0) == 0) = false := hb25
  have hz0 : z17 ≠ 0 := Nt.cmp_ne0 hb25
  have hpp : 0 < ((D12 : Int) * z17 : Int).natAbs := Int.natAbs_pos.2 (Int.mul_ne_zero xq hz0)
  refine zzs (zzp ?_)
  refine zzd (zzz [0, 1, 3, 0, 8, 24, 56, 127, 0, 511] [(0, []), (1, []), (2, []), (3, []), (4, []), (5, []), (8, []), (6, []), (7, []), (9, [])] xj xj (zza 20 (.adr 6 0) (zza 21 (.adr 6 0) (zzi 22 (.v (.agg #[.bool r12.s, r12.m.v])) ty72 zze (zza 23 (.adr 7 0) (zza 24 (.adr 7 2) (zzi 25 (.v r17.d.v) ty70 zzl (zzk 8 ⟨72, [.bool false, .slice none 0 0]⟩ (zzg 26 110 [r17.d.v] ?_)))))))))
  intro w28 u28 e28 d28
  have k31 := k_natural (x := r17.d) d28
  with_reducible refine zPm k31 ?_
  rintro _ u29 g30 rfl
  refine zzg 27 109 [.agg #[.bool r12.s, r12.m.v], .agg #[.bool false, r17.d.v]] ?_
  intro w32 u32 e32 d32
  have k37 := k_intMul d32 (hi12.ext (e16.trans (g19.ext.trans (e21.trans (g23.ext.trans (e28.trans (g30.ext.trans e32))))))) (nat_int (hd17.ext (e21.trans (g23.ext.trans (e28.trans (g30.ext.trans e32)))))) xq xq
  with_reducible refine zPm k37 ?_
  rintro _ u35 g36 ⟨i33, rfl, h34⟩
  refine zzj ⟨72, i33.cs⟩ ty72 ?_
  refine zzb (zzd (zzz [0, 1, 3, 7, 0, 16, 48, 127, 0, 511] [(0, []), (1, []), (2, []), (4, []), (5, []), (6, []), (8, []), (3, []), (7, []), (9, [])] xj xj (zza 28 (.adr 6 0) (zza 29 (.adr 6 2) (zzi 30 (.v r12.d.v) ty70 zzl (zza 32 (.adr 7 0) (zza 33 (.adr 7 0) (zzi 34 (.v (.agg #[.bool r17.s, r17.m.v])) ty72 zze (zzk 9 ⟨72, [.bool false, .slice none 0 0]⟩ (zzg 31 110 [r12.d.v] ?_))))))))))
  intro w38 u38 e38 d38
  have k41 := k_natural (x := r12.d) d38
  with_reducible refine zPm k41 ?_
  rintro _ u39 g40 rfl
  refine zzg 35 109 [.agg #[.bool false, r12.d.v], .agg #[.bool r17.s, r17.m.v]] ?_
  intro w42 u42 e42 d42
  have k47 := k_intMul d42 (nat_int (hd12.ext (e16.trans (g19.ext.trans (e21.trans (g23.ext.trans (e28.trans (g30.ext.trans (e32.trans (g36.ext.trans (e38.trans (g40.ext.trans e42)))))))))))) (hi17.ext (e21.trans (g23.ext.trans (e28.trans (g30.ext.trans (e32.trans (g36.ext.trans (e38.trans (g40.ext.trans e42))))))))) xq xq
  with_reducible refine zPm k47 ?_
  rintro _ u45 g46 ⟨i43, rfl, h44⟩
  refine zzj ⟨72, i43.cs⟩ ty72 ?_
  refine zzc 40 [(4, .adr 4 0), (8, .adr 8 0), (9, .adr 9 0)] [(4, ⟨74, [.bool false, .slice none 0 0, .slice none 0 0]⟩), (8, ⟨72, i33.cs⟩), (9, ⟨72, i43.cs⟩)] (sq9 (zzi 36 (.v (i33.v)) ty72 zze (zzi 37 (.v (i43.v)) ty72 zze (zzg 38 112 [i33.v, i43.v] ?_))))
  intro w48 u48 e48 d48
  have k51 := k_quotient (i := i33) (j := i43) d48
  with_reducible refine zPm k51 ?_
  rintro _ u49 g50 rfl
  refine zzg 39 106 [.agg #[.bool (!(i33.s == i43.s)), i33.m.v, i43.m.v]] ?_
  intro w52 u52 e52 d52
  have k57 := k_lowest d52 ((quot_int (h34.ext (e38.trans (g40.ext.trans (e42.trans (g46.ext.trans (e48.trans g50.ext)))))) (h44.ext (e48.trans g50.ext))).ext e52) ((int_mag (h44.ext (e48.trans g50.ext))).ext e52).raw hpp xq xq
  with_reducible refine zPm k57 ?_
  rintro _ u55 g56 ⟨r53, rfl, h54⟩
  refine zzj ⟨74, r53.cs⟩ ty74 ?_
  refine zza 5 (zI 0) (zzb (zzo (ret0 [r53.v, .int .i64 0] ⟨zzr ty74 zze, zzq, trivial⟩ fun u58 e59 => ?_)))
  right
  refine ⟨?_, r53, rfl, RatN.more (K := (max (K + L) (K + L))) ?_ xq⟩
  ·rw [hq17]; exact (Rat.mkRat_ne_zero xq).2 hz0
  ·rw [hq12, hq17, ← Nt.quo_mk hp12 hp17 hz0, ← Nt.div_mk2 xq]
   exact (h54.ext e59)
theorem k_ratDiv1 {u w : World} {r1 r2 : RL} {x y : Rat} {K L : Nat} (d : Dat u w) (hr1 : RatV u r1 x K) (hr2 : RatV u r2 y L) (hy : y ≠ 0) (hK : K ≤ 200000000) (hL : L ≤ 200000000) : Calls Tryz.prog 104 #[r1.v, r2.v] w (Post u w fun v u' => ∃ r : RL, v = .tuple #[r.v, .int .i64 0] ∧ RatN u' r (x / y) (K + L)) :=
 Post.mono (k_ratDiv d hr1 hr2 hK hL) fun v u' _ h => h.elim (fun h => absurd h.2 hy) (fun h => h.2)
theorem k_cut {u w : World} {x : Sl} {l : List Rat} {K : Nat} (d : Dat u w) (hx : PolV u x l K) (hK : K ≤ 100000000) (hx9 : l.length ≤ 1000000000) : Calls Tryz.prog 113 #[x.v] w (Post u w fun v u' => v = .slice x.a (Nt.trimQ l).length x.c) := by
 have hlen := hx.len
 refine zzm (args := [.slice x.a x.n x.c]) Tryz.func113 rfl Tryz.ntmps113 (rs := [.tmp 2]) Tryz.results113 (le_b rfl) (le_b rfl) d ?_
 refine sq9 (zza 2 (.v (.slice none 0 0)) (zzb (sq9 (zza 4 (.v x.v) (zza 5 (zI x.n) (zza 3 (zI x.n) (zzb (zzd (zzt (zyn (I := fun m11 S' u' => ∃ (n : Nat), (m11 = n) ∧ (n ≤ l.length) ∧ (∀ i, n ≤ i → Nt.co l i = 0) ∧ (S' = St.of 22 [(0, .v (.slice x.a x.n x.c)), (3, zI n)] []) ∧ (Ext u u')) (fun m S u1 u2 e h => by obtain ⟨n, hm, p0, p1, hS, hE⟩ := h; exact ⟨n, hm, p0, p1, hS, hE.trans e⟩) _ yj ⟨x.n, rfl, by omega, fun i hi => Nt.co_ge xq, rfl, (Ext.refl _)⟩ ?_))))))))))
 rintro m11 _ u11 ⟨n, hm11, hn, hz, rfl, e11⟩
 refine zzd (sq9 (zza 6 (zI n) (zza 7 (zB (decide ((0 : Int) < (n : Int)))) ?_)))
 rcases Bool.eq_false_or_eq_true (decide ((0 : Int) < (n : Int))) with hs12 | hs12
 ·refine zyq 8 (x := zB (decide ((0 : Int) < (n : Int)))) (zB true) (by rw [hs12]) ?_
  have qhs12 := of_decide_eq_true hs12
  refine zza 9 (.v x.v) ?_ (hw := w1 2 true 8)
  refine zza 10 (zI n) ?_ (hw := w1 2 true 8)
  refine zyq 11 (x := zI (IntKind.i64.wrap ((n : Int) - 1))) (zI (n - 1 : Nat)) (eqI xw) ?_ (hw := w1 2 true 8)
  have hl13 := (hx.ext e11).len
  obtain ⟨r13, b13, o13, hA13, hc13, hr13⟩ := pol_at (hx.ext e11) (i := n - 1) xq
  refine zya 12 (o13 + (n - 1) * 3) (n := x.n) (off := o13) (sz := 3) (i := ((n - 1 : Nat) : Int)) xq hA13 xq xq sl40 ?_ (hw := w1 2 true 8)
  refine zym 13 r13.cs hc13 ty74 ?_ (hw := w1 2 true 8)
  refine zzg 14 103 [r13.v] ?_ (hw := w1 2 true 8)
  intro w14 u14 e14 d14
  have k17 := k_ratSign d14 (hr13.ext e14)
  with_reducible refine zPm k17 ?_
  rintro _ u15 g16 rfl
  refine zza 15 (zB ((Nt.sgQ (l.getD (n - 1) 0)) == 0)) ?_ (hw := w1 2 true 8)
  refine zza 16 (zB ((Nt.sgQ (l.getD (n - 1) 0)) == 0)) (zzb (zzu (b := (Nt.sgQ (l.getD (n - 1) 0)) == 0) xj (fun hb18 => ?_) (fun hb18 => ?_)))
  ·replace hb18 : ((Nt.sgQ (l.getD (n - 1) 0)) == 0) = true := hb18
   refine zzs (zzp ?_)
   refine zzt (zzf (zza 17 (zI n) (zyq 18 (x := zI (IntKind.i64.wrap ((n : Int) - 1))) (zI (n - 1 : Nat)) (eqI xw) (zza 3 (zI (n - 1 : Nat)) (zzx ?_)))))
   refine ⟨_, ?_, _, by exact zzv _ _ _, n - 1, rfl, by omega, (fun i hi => by by_cases e : i = n - 1; (rw [e]; have h9 := hb18; rw [Nt.sgQ_eq] at h9; exact of_decide_eq_true h9); exact hz i xq), rfl, (e11.trans (e14.trans g16.ext))⟩
   omega
  ·replace hb18 : ((Nt.sgQ (l.getD (n - 1) 0)) == 0) = false := hb18
   refine zyc (zzp (sq9 (zza 19 (.v x.v) (zza 20 (zI n) ?_))))
   have hl19 := (hx.ext (e11.trans (e14.trans g16.ext))).len
   have hc19 := (hx.ext (e11.trans (e14.trans g16.ext))).cap
   refine sy_front 21 (n := x.n) (c := x.c) n sl40 rfl xq ?_
   refine zza 2 (.v (.slice x.a n x.c)) (zzb (zzo (ret0 [.slice x.a n x.c] ⟨zzq, trivial⟩ fun u20 e21 => ?_)))
   have e := Nt.trim_len_of (l := l) hn hz (fun _ h => by have h9 := hb18; rw [Nt.sgQ_eq] at h9; exact of_decide_eq_false h9 h)
   show Value.slice _ _ _ = Value.slice _ _ _
   rw [e]
 ·refine zyq 8 (x := zB (decide ((0 : Int) < (n : Int)))) (zB false) (by rw [hs12]) ?_
  have qhs12 := of_decide_eq_false hs12
  refine zzn 9 (uw 2 true false 8) (zzn 10 (uw 2 true false 8) (zzn 11 (uw 2 true false 8) (zzn 12 (uw 2 true false 8) (zzn 13 (uw 2 true false 8) (zzn 14 (uw 2 true false 8) (zzn 15 (uw 2 true false 8) (zza 16 (zB false) (zzb (zys xj (zyc (zzp ?_)))))))))))
  refine sq9 (zza 19 (.v x.v) (zza 20 (zI n) ?_))
  have hl22 := (hx.ext e11).len
  have hc22 := (hx.ext e11).cap
  refine sy_front 21 (n := x.n) (c := x.c) n sl40 rfl xq ?_
  refine zza 2 (.v (.slice x.a n x.c)) (zzb (zzo (ret0 [.slice x.a n x.c] ⟨zzq, trivial⟩ fun u23 e24 => ?_)))
  have e := Nt.trim_len_of (l := l) hn hz (fun h => absurd h xq)
  show Value.slice _ _ _ = Value.slice _ _ _
  rw [e]
def NewR (u : World) (n : Nat) (t : List Rat) (K : Nat) (v : Value) (u' : World) : Prop := ∃ (b : Nat) (L : List RL), v = .slice (some ⟨b, 0, none⟩) n n ∧ u.heap.size ≤ b ∧ u'.heap[b]? = some (.cells (rcs L).toArray 74 (0, 0)) ∧ L.length = n ∧ RatsN u' L t K
theorem k_zeros {u w : World} {n : Nat} (d : Dat u w) (hn9 : n ≤ 1000000000) : Calls Tryz.prog 90 #[.int .i64 (n : Int)] w (Post u w fun v u' => NewR u n (List.replicate n 0) 2 v u') := by
 refine zzm (args := [.int .i64 n]) Tryz.func90 rfl Tryz.ntmps90 (rs := [.tmp 2]) Tryz.results90 (le_b rfl) (le_b rfl) d ?_
 refine sq9 (zza 2 (.v (.slice none 0 0)) (zzb (sq9 (zza 5 (zI n) (sy_make 6 (T := 40) (E := 74) (z := .agg #[.bool false, .slice none 0 0, .slice none 0 0]) (size := 3) (bytes := 56) n (rcs (List.replicate n rl0)) xj xj rfl rfl xq yv (made_rcs _) ?_)))))
 refine zza 3 (.slc 6 0 n n) (zzc 18 [(3, .slc 6 0 n n)] [(6, ⟨74, rcs (List.replicate n rl0)⟩)] (zzd (sq9 (zza 7 (.slc 6 0 n n) (zza 8 (zI n) (zza 9 (zI 0) (zzc 18 [(3, .slc 6 0 n n), (8, zI n), (9, zI 0)] [(6, ⟨74, rcs (List.replicate n rl0)⟩)] (zzt (zyn (I := fun m11 S' u' => ∃ (i : Nat) (L : List RL), (m11 = n - i) ∧ (i ≤ n) ∧ (L.length = n) ∧ (S' = St.of 18 [(3, .slc 6 0 n n), (8, zI n), (9, zI i)] [(6, ⟨74, rcs L⟩)]) ∧ (Ext u u') ∧ (RatsN u' (L.take i) ((List.replicate n (0 : Rat)).take i) 2)) (fun m S u1 u2 e h => by obtain ⟨i, L, hm, p0, p1, hS, hE, f0⟩ := h; exact ⟨i, L, hm, p0, p1, hS, hE.trans e, f0.ext e⟩) _ yj ⟨0, List.replicate n rl0, rfl, by omega, by simp, rfl, (Ext.refl _), RatsN.tnil _ _ _ _⟩ ?_)))))))))
 rintro m11 _ u11 ⟨i, L, hm11, hi, hL, rfl, e11, hR⟩
 refine sq9 (zza 10 (zB (decide ((i : Int) < (n : Int)))) (zzb (zzd (zzu (b := decide ((i : Int) < (n : Int))) xj (fun hb12 => ?_) (fun hb12 => ?_)))))
 ·replace hb12 : (decide ((i : Int) < (n : Int))) = true := hb12
  have qhb12 := of_decide_eq_true hb12
  refine zzs (zzp ?_)
  refine zzd (zzt (sq9 (zza 11 (zI i) (zza 4 (zI i) (zzb (zzf (zza 12 (.slc 6 0 n n) (zza 13 (zI i) (zzg 14 46 [.int .i64 0] ?_)))))))))
  intro w13 u13 e13 d13
  have k18 := k_ratOf d13 (z := 0) xq xq
  with_reducible refine zPm k18 ?_
  rintro _ u16 g17 ⟨r14, rfl, h15⟩
  refine zyw 15 (off' := i * 3) (n := n) (off := 0) (sz := 3) (i := (i : Int)) sl40 xq xq xq ?_
  refine zyv (V := ⟨74, rcs L⟩) (off := i * 3) (rcs ((L).set i r14)) ty74 (by rw [zyy]; first|omega|(simp;omega)) (zyx (r := r14) (i := i) (by first|omega|(simp;omega)) rfl) ?_
  refine zzx ?_
  refine zzp (zzf (zyq 16 (x := zI (IntKind.i64.wrap ((i : Int) + 1))) (zI (i + 1 : Nat)) (eqI xw) (zza 9 (zI (i + 1 : Nat)) (zzx ?_))))
  have ht19 : i < (List.replicate n (0 : Rat)).length := by simp; omega
  refine ⟨_, ?_, _, by exact zzv _ _ _, i + 1, (L).set i r14, rfl, by omega, by simpa using hL, rfl, (e11.trans (e13.trans g17.ext)), RatsN.tstep (hR.ext (e13.trans g17.ext)) xq ht19 (RatN.more (K := 2) h15 xq) (by rw [List.getD_eq_getElem?_getD, List.getElem?_replicate]; split <;> rfl)⟩
  omega
 ·replace hb12 : (decide ((i : Int) < (n : Int))) = false := hb12
  have qhb12 := of_decide_eq_false hb12
  refine zyc (zzp (zzd (zyp (r := 3) (t := 6) [3, 6] xk xj (by rfl) (by rfl) xj (fun b20 u21 e22 hb23 hh24 => ?_))))
  have hp25 : PolN u21 ⟨some ⟨b20, 0, none⟩, n, n⟩ (List.replicate n (0 : Rat)) 2 := pol_data1 hh24 yv (RatsN.tdone (hR.ext e22) xq yw) xq
  refine zzf (zza 17 (.v (.slice (some ⟨b20, 0, none⟩) n n)) (zza 2 (.v (.slice (some ⟨b20, 0, none⟩) n n)) (zzb (zzo (ret0 [.slice (some ⟨b20, 0, none⟩) n n] ⟨zzq, trivial⟩ fun u26 e27 => ?_)))))
  exact ⟨b20, L, rfl, hb23, e27.cells hh24, by omega, (RatsN.tdone (hR.ext (e22.trans e27)) xq yw)⟩
theorem k_poScale {u w : World} {x : Sl} {l : List Rat} {r : RL} {q : Rat} {K M : Nat} (d : Dat u w) (hx : PolV u x l K) (hr : RatV u r q M) (hK : K ≤ 50000000) (hx9 : l.length ≤ 1000000000) (hM : M ≤ 50000000) : Calls Tryz.prog 75 #[x.v, r.v] w (Post u w fun v u' => ∃ y : Sl, v = y.v ∧ PolN u' y (Nt.trimQ (l.map (· * q))) (K + M)) := by
 have hlen := hx.len
 refine zzm (args := [.slice x.a x.n x.c, r.v]) Tryz.func75 rfl Tryz.ntmps75 (rs := [.tmp 4]) Tryz.results75 (le_b rfl) (le_b rfl) d ?_
 refine sq9 (zzk 3 ⟨74, r.cs⟩ (zza 4 (.v (.slice none 0 0)) (zzb (sq9 (zza 7 (.v x.v) (zza 8 (zI x.n) (sy_make 9 (T := 40) (E := 74) (z := .agg #[.bool false, .slice none 0 0, .slice none 0 0]) (size := 3) (bytes := 56) x.n (rcs (List.replicate x.n rl0)) xj xj rfl rfl xq yv (made_rcs _) ?_)))))))
 refine zza 5 (.slc 9 0 x.n x.n) (zzc 27 [(0, .v x.v), (3, .adr 3 0), (5, .slc 9 0 x.n x.n)] [(3, ⟨74, r.cs⟩), (9, ⟨74, rcs (List.replicate x.n rl0)⟩)] (zzd (sq9 (zza 10 (.slc 9 0 x.n x.n) (zza 11 (zI x.n) (zza 12 (zI 0) (zzc 27 [(0, .v x.v), (3, .adr 3 0), (5, .slc 9 0 x.n x.n), (11, zI x.n), (12, zI 0)] [(3, ⟨74, r.cs⟩), (9, ⟨74, rcs (List.replicate x.n rl0)⟩)] (zzt (zyn (I := fun m11 S' u' => ∃ (i : Nat) (L : List RL), (m11 = x.n - i) ∧ (i ≤ x.n) ∧ (L.length = x.n) ∧ (S' = St.of 27 [(0, .v (.slice x.a x.n x.c)), (3, .adr 3 0), (5, .slc 9 0 x.n x.n), (11, zI x.n), (12, zI i)] [(3, ⟨74, r.cs⟩), (9, ⟨74, rcs L⟩)]) ∧ (Ext u u') ∧ (RatsN u' (L.take i) ((l.map (· * q)).take i) (K + M))) (fun m S u1 u2 e h => by obtain ⟨i, L, hm, p0, p1, hS, hE, f0⟩ := h; exact ⟨i, L, hm, p0, p1, hS, hE.trans e, f0.ext e⟩) _ yj ⟨0, List.replicate x.n rl0, rfl, by omega, by simp, rfl, (Ext.refl _), RatsN.tnil _ _ _ _⟩ ?_)))))))))
 rintro m11 _ u11 ⟨i, L, hm11, hi, hL, rfl, e11, hR⟩
 refine sq9 (zza 13 (zB (decide ((i : Int) < (x.n : Int)))) (zzb (zzd (zzu (b := decide ((i : Int) < (x.n : Int))) xj (fun hb12 => ?_) (fun hb12 => ?_)))))
 ·replace hb12 : (decide ((i : Int) < (x.n : Int))) = true := hb12
  have qhb12 := of_decide_eq_true hb12
  refine zzs (zzp ?_)
  refine zzd (zzt (sq9 (zza 14 (zI i) (zza 6 (zI i) (zzb (zzz [0, 0, 0, 0, 12, 28, 0, 124, 255, 511] [(0, []), (1, []), (2, []), (3, []), (4, []), (5, []), (6, []), (7, []), (8, []), (9, [])] xj xj (zza 15 (.slc 9 0 x.n x.n) (zza 16 (zI i) (zza 17 (.v x.v) (zza 18 (zI i) ?_))))))))))
  have hl13 := (hx.ext e11).len
  obtain ⟨r13, b13, o13, hA13, hc13, hr13⟩ := pol_at (hx.ext e11) (i := i) xq
  refine zya 19 (o13 + i * 3) (n := x.n) (off := o13) (sz := 3) (i := (i : Int)) xq hA13 xq xq sl40 (zym 20 r13.cs hc13 ty74 (zzi 21 (.v (r.v)) ty74 zze (zzg 22 72 [r13.v, r.v] ?_)))
  intro w14 u14 e14 d14
  have k19 := k_ratMul d14 (hr13.ext e14) (hr.ext (e11.trans e14)) xq xq
  with_reducible refine zPm k19 ?_
  rintro _ u17 g18 ⟨r15, rfl, h16⟩
  refine zyw 23 (off' := i * 3) (n := x.n) (off := 0) (sz := 3) (i := (i : Int)) sl40 xq xq xq ?_
  refine zyv (V := ⟨74, rcs L⟩) (off := i * 3) (rcs ((L).set i r15)) ty74 (by rw [zyy]; first|omega|(simp;omega)) (zyx (r := r15) (i := i) (by first|omega|(simp;omega)) rfl) ?_
  refine zzx ?_
  refine zzp (zzf (zyq 24 (x := zI (IntKind.i64.wrap ((i : Int) + 1))) (zI (i + 1 : Nat)) (eqI xw) (zza 12 (zI (i + 1 : Nat)) (zzx ?_))))
  have ht20 : i < (l.map (· * q)).length := by simp; omega
  refine ⟨_, ?_, _, by exact zzv _ _ _, i + 1, (L).set i r15, rfl, by omega, by simpa using hL, rfl, (e11.trans (e14.trans g18.ext)), RatsN.tstep (hR.ext (e14.trans g18.ext)) xq ht20 (RatN.more (K := (K + M)) h16 xq) (by simp [List.getElem?_eq_getElem (show i < l.length by omega)])⟩
  omega
 ·replace hb12 : (decide ((i : Int) < (x.n : Int))) = false := hb12
  have qhb12 := of_decide_eq_false hb12
  refine zyc (zzp (zzd (zyp (r := 5) (t := 9) [5, 9] xk xj (by rfl) (by rfl) xj (fun b21 u22 e23 hb24 hh25 => ?_))))
  have hp26 : PolN u22 ⟨some ⟨b21, 0, none⟩, x.n, x.n⟩ (l.map (· * q)) (K + M) := pol_data1 hh25 yv (RatsN.tdone (hR.ext e23) xq yw) xq
  refine zzf (zza 25 (.v (.slice (some ⟨b21, 0, none⟩) x.n x.n)) (zzg 26 113 [.slice (some ⟨b21, 0, none⟩) x.n x.n] ?_))
  intro w27 u27 e27 d27
  have k30 := k_cut d27 (hp26.ext e27).raw xq xz
  with_reducible refine zPm k30 ?_
  rintro _ u28 g29 rfl
  refine zza 4 (.v (.slice (some ⟨b21, 0, none⟩) (Nt.trimQ (l.map (· * q))).length x.n)) (zzb (zzo (ret0 [.slice (some ⟨b21, 0, none⟩) (Nt.trimQ (l.map (· * q))).length x.n] ⟨zzq, trivial⟩ fun u31 e32 => ?_)))
  refine ⟨(⟨some ⟨b21, 0, none⟩, (Nt.trimQ (l.map (· * q))).length, x.n⟩ : Sl), rfl, ?_⟩
  exact ((cut_N (hp26.ext (e27.trans g29.ext))).ext e32)
theorem k_poParts {u w : World} {r : RL} (d : Dat u w) : Calls Tryz.prog 159 #[r.v] w (Post u w fun v u' => ∃ y : Sl, v = .tuple #[.agg #[.bool r.s, r.m.v, y.v], .agg #[.bool false, r.d.v, y.v]] ∧ NatN u' y 1 1) := by
 refine zzm (args := [r.v]) Tryz.func159 rfl Tryz.ntmps159 (rs := [.cell 2 74, .cell 3 74]) Tryz.results159 (le_b rfl) (le_b rfl) d ?_
 refine sq9 (zzk 1 ⟨74, r.cs⟩ (zzk 2 ⟨74, [.bool false, .slice none 0 0, .slice none 0 0]⟩ (zzk 3 ⟨74, [.bool false, .slice none 0 0, .slice none 0 0]⟩ (zzb (sq9 (zxy 5 ⟨159, [.int .u32 1]⟩ 1 (fun b11 u12 e13 h14 => ?_)))))))
 refine zza 4 (.v (.slice (some ⟨b11, 0, none⟩) 1 1)) (zzb (zzd (zzz [0, 1, 0, 7, 0, 16, 48, 0, 240, 15, 1023] [(0, []), (1, []), (2, []), (3, []), (4, []), (5, []), (6, []), (7, []), (8, []), (9, [10]), (10, [])] xj xj (zza 6 (.adr 1 0) (zzi 7 (.v (.agg #[.bool r.s, r.m.v])) ty72 zze (zza 8 (.v (.slice (some ⟨b11, 0, none⟩) 1 1)) (zza 9 (.v (.agg #[.bool r.s, r.m.v, .slice (some ⟨b11, 0, none⟩) 1 1])) (zza 10 (.adr 1 2) (zzi 11 (.v r.d.v) ty70 zzl (zza 12 (.v (.agg #[.bool false, r.d.v])) (zza 13 (.v (.slice (some ⟨b11, 0, none⟩) 1 1)) ?_)))))))))))
 refine zza 14 (.v (.agg #[.bool false, r.d.v, .slice (some ⟨b11, 0, none⟩) 1 1])) (zzj ⟨74, [.bool r.s, r.m.v, .slice (some ⟨b11, 0, none⟩) 1 1]⟩ ty74 ?_)
 refine zzj ⟨74, [.bool false, r.d.v, .slice (some ⟨b11, 0, none⟩) 1 1]⟩ ty74 ?_
 refine zzb (zzo (ret0 [.agg #[.bool r.s, .slice r.m.a r.m.n r.m.c, .slice (some ⟨b11, 0, none⟩) 1 1], .agg #[.bool false, .slice r.d.a r.d.n r.d.c, .slice (some ⟨b11, 0, none⟩) 1 1]] ⟨zzr ty74 zze, zzr ty74 zze, trivial⟩ fun u15 e16 => ?_))
 exact ⟨(⟨some ⟨b11, 0, none⟩, 1, 1⟩ : Sl), rfl, ((one_data h14).ext e16)⟩
set_option maxHeartbeats 1000000 in
theorem k_common {u w : World} {r1 r2 : RL} {x y : Rat} {K M : Nat} (d : Dat u w) (h1 : RatN u r1 x K) (h2 : RatV u r2 y M) (hK : K ≤ 40000000) (hM : M ≤ 40000000) : Calls Tryz.prog 130 #[r1.v, r2.v] w (Post u w fun v u' => ∃ r : RL, v = r.v ∧ RatN u' r (Nt.cmn x y) (K + M)) := by
 refine zzm (args := [r1.v, r2.v]) Tryz.func130 rfl Tryz.ntmps130 (rs := [.cell 4 74]) Tryz.results130 (le_b rfl) (le_b rfl) d ?_
 refine sq9 (zzk 2 ⟨74, r1.cs⟩ (zzk 3 ⟨74, r2.cs⟩ (zzk 4 ⟨74, [.bool false, .slice none 0 0, .slice none 0 0]⟩ (zzb (zzd (sq9 (zzi 11 (.v (r1.v)) ty74 zze (zzg 12 103 [r1.v] ?_))))))))
 intro w11 u11 e11 d11
 have k14 := k_ratSign d11 (h1.ext e11).raw
 with_reducible refine zPm k14 ?_
 rintro _ u12 g13 rfl
 refine zza 13 (zB ((Nt.sgQ x) == 0)) (zzb (zzu (b := (Nt.sgQ x) == 0) xj (fun hb15 => ?_) (fun hb15 => ?_)))
 ·replace hb15 : ((Nt.sgQ x) == 0) = true := hb15
  have hx0 : x = 0 := by have h9 := hb15; rw [Nt.sgQ_eq] at h9; simpa using h9
  refine sq9 (zzi 14 (.v (r2.v)) ty74 zze (zzg 15 152 [r2.v] ?_))
  intro w16 u16 e16 d16
  have k21 := k_ratAbs d16 (h2.ext (e11.trans (g13.ext.trans e16))) xq
  with_reducible refine zPm k21 ?_
  rintro _ u19 g20 ⟨r17, rfl, h18⟩
  refine zzj ⟨74, r17.cs⟩ ty74 ?_
  refine zzb (zzo (zzw (ret0 [r17.v] ⟨zzr ty74 zze, trivial⟩ fun u22 e23 => ?_)))
  have e9 : Nt.cmn x y = (Nt.absQ y) := by unfold Nt.cmn; rw [if_pos hx0]
  have hs := Nt.rs_cmn x y
  have hs1 := h1.rs
  have hs2 := h2.rs
  refine ⟨r17, rfl, RatN.fit (K := M) ?_ xq⟩
  rw [e9]
  exact (h18.ext e23)
 ·replace hb15 : ((Nt.sgQ x) == 0) = false := hb15
  have hx0 : ¬ x = 0 := by have h9 := hb15; rw [Nt.sgQ_eq] at h9; simpa using h9
  refine zzs (zzp ?_)
  refine sq9 (zzi 17 (.v (r1.v)) ty74 zze (zzi 18 (.v (r2.v)) ty74 zze (zzg 19 104 [r1.v, r2.v] ?_)))
  intro w24 u24 e24 d24
  have k30 := k_ratDiv d24 (h1.ext (e11.trans (g13.ext.trans e24))).raw (h2.ext (e11.trans (g13.ext.trans e24))) xq xq
  with_reducible refine zPm k30 ?_
  rintro _ u28 g29 (⟨rfl, hz27⟩ | ⟨hz27, r25, rfl, h26⟩)
  ·skip
   refine zza 16 (.v (.tuple #[.agg #[.bool false, .slice none 0 0, .slice none 0 0], .int .i64 3])) (zza 20 (.v (.agg #[.bool false, .slice none 0 0, .slice none 0 0])) (zza 21 (zI 3) (zzk 5 ⟨74, [.bool false, .slice none 0 0, .slice none 0 0]⟩ (zzj ⟨74, [.bool false, .slice none 0 0, .slice none 0 0]⟩ ty74 ?_))))
   refine zza 6 (zI 3) (zzb (zzd (sq9 (zza 22 (zI 3) (zza 23 (zB true) (zzb (zyr xj (sq9 (zzi 24 (.v (r1.v)) ty74 zze (zzj ⟨74, r1.cs⟩ ty74 ?_))))))))))
   refine zzb (zzo (zzw (ret0 [r1.v] ⟨zzr ty74 zze, trivial⟩ fun u31 e32 => ?_)))
   have e9 : Nt.cmn x y = x := by unfold Nt.cmn; rw [if_neg hx0, if_pos hz27]
   have hs := Nt.rs_cmn x y
   have hs1 := h1.rs
   have hs2 := h2.rs
   refine ⟨r1, rfl, RatN.fit (K := K) ?_ xq⟩
   rw [e9]
   exact (h1.ext (e11.trans (g13.ext.trans (e24.trans (g29.ext.trans e32)))))
  ·skip
   refine zza 16 (.v (.tuple #[r25.v, .int .i64 0])) (zza 20 (.v (r25.v)) (zza 21 (zI 0) (zzk 5 ⟨74, [.bool false, .slice none 0 0, .slice none 0 0]⟩ (zzj ⟨74, r25.cs⟩ ty74 ?_))))
   refine zza 6 (zI 0) (zzb (zzd (sq9 (zza 22 (zI 0) (zza 23 (zB false) (zzb (zys xj (zzs (zzp ?_)))))))))
   refine sq9 (zzi 26 (.v (r25.v)) ty74 zze (zzg 27 159 [r25.v] ?_))
   intro w33 u33 e33 d33
   have k38 := k_poParts (r := r25) d33
   with_reducible refine zPm k38 ?_
   rintro _ u36 g37 ⟨y34, rfl, h35⟩
   refine zza 25 (.v (.tuple #[.agg #[.bool r25.s, r25.m.v, y34.v], .agg #[.bool false, r25.d.v, y34.v]])) (zza 28 (.v (.agg #[.bool r25.s, r25.m.v, y34.v])) (zza 29 (.v (.agg #[.bool false, r25.d.v, y34.v])) (zzk 7 ⟨74, [.bool false, .slice none 0 0, .slice none 0 0]⟩ (zzk 8 ⟨74, [.bool false, .slice none 0 0, .slice none 0 0]⟩ (zzj ⟨74, [.bool r25.s, r25.m.v, y34.v]⟩ ty74 ?_)))))
   refine zzj ⟨74, [.bool false, r25.d.v, y34.v]⟩ ty74 ?_
   refine zzb (sq9 (zzi 31 (.v (r1.v)) ty74 zze (zzi 32 (.v (.agg #[.bool r25.s, r25.m.v, y34.v])) ty74 zze (zzg 33 104 [r1.v, .agg #[.bool r25.s, r25.m.v, y34.v]] ?_))))
   intro w39 u39 e39 d39
   have k44 := k_ratDiv1 d39 (h1.ext (e11.trans (g13.ext.trans (e24.trans (g29.ext.trans (e33.trans (g37.ext.trans e39))))))).raw ((whole_rat (RatN.num (h26.ext (e33.trans g37.ext))) h35).ext e39).raw (Nt.num_ne (Nt.div_ne hx0 hz27)) xq xq
   with_reducible refine zPm k44 ?_
   rintro _ u42 g43 ⟨r40, rfl, h41⟩
   refine zza 30 (.v (.tuple #[r40.v, .int .i64 0])) (zza 34 (.v (r40.v)) (zza 35 (zI 0) (zzk 9 ⟨74, [.bool false, .slice none 0 0, .slice none 0 0]⟩ (zzj ⟨74, r40.cs⟩ ty74 ?_))))
   refine zza 10 (zI 0) (zzc 38 [(4, .adr 4 0), (9, .adr 9 0)] [(4, ⟨74, [.bool false, .slice none 0 0, .slice none 0 0]⟩), (9, ⟨74, r40.cs⟩)] (sq9 (zzi 36 (.v (r40.v)) ty74 zze (zzg 37 152 [r40.v] ?_))))
   intro w45 u45 e45 d45
   have k50 := k_ratAbs d45 (h41.ext e45).raw xq
   with_reducible refine zPm k50 ?_
   rintro _ u48 g49 ⟨r46, rfl, h47⟩
   refine zzj ⟨74, r46.cs⟩ ty74 ?_
   refine zzb (zzo (ret0 [r46.v] ⟨zzr ty74 zze, trivial⟩ fun u51 e52 => ?_))
   have e9 : Nt.cmn x y = (Nt.absQ (x / (((x / y).num : Int) : Rat))) := by unfold Nt.cmn; rw [if_neg hx0, if_neg hz27]
   have hs := Nt.rs_cmn x y
   have hs1 := h1.rs
   have hs2 := h2.rs
   refine ⟨r46, rfl, RatN.fit (K := (K + (max (K + M) 1))) ?_ xq⟩
   rw [e9]
   exact (h47.ext e52)
set_option maxHeartbeats 1000000 in
theorem k_split {u w : World} {x : Sl} {l : List Rat} {K : Nat} (d : Dat u w) (hx : PolV u x l K) (hK : (l.length + 1) * K ≤ 30000000) (hx9 : l.length ≤ 1000000000) : Calls Tryz.prog 89 #[x.v] w (Post u w fun v u' => ∃ (r : RL) (y : Sl), v = .tuple #[r.v, y.v] ∧ RatN u' r (Nt.msr (Nt.trimQ l)) ((Nt.trimQ l).length * K + 2) ∧ PolN u' y ((Nt.trimQ l).map (· / Nt.msr (Nt.trimQ l))) (K + ((Nt.trimQ l).length * K + 2))) := by
 have hlen := hx.len
 have htl := Nt.zzh l
 have hKK : (Nt.trimQ l).length * K ≤ l.length * K := Nat.mul_le_mul_right _ htl
 rw [Nat.add_mul] at hK
 refine zzm (args := [.slice x.a x.n x.c]) Tryz.func89 rfl Tryz.ntmps89 (rs := [.cell 2 74, .tmp 3]) Tryz.results89 (le_b rfl) (le_b rfl) d ?_
 refine sq9 (zzk 2 ⟨74, [.bool false, .slice none 0 0, .slice none 0 0]⟩ (zza 3 (.v (.slice none 0 0)) (zzb (sq9 (zza 10 (.v x.v) (zzg 11 113 [x.v] ?_))))))
 intro w11 u11 e11 d11
 have k14 := k_cut d11 (hx.ext e11) xq xz
 with_reducible refine zPm k14 ?_
 rintro _ u12 g13 rfl
 refine zza 0 (.v (.slice x.a (Nt.trimQ l).length x.c)) (zzb (sq9 (zzg 12 46 [.int .i64 0] ?_)))
 intro w15 u15 e15 d15
 have k20 := k_ratOf d15 (z := 0) xq xq
 with_reducible refine zPm k20 ?_
 rintro _ u18 g19 ⟨r16, rfl, h17⟩
 refine zzk 4 ⟨74, [.bool false, .slice none 0 0, .slice none 0 0]⟩ (zzj ⟨74, r16.cs⟩ ty74 ?_)
 refine zzb (zzd (sq9 (zza 13 (.v (.slice x.a (Nt.trimQ l).length x.c)) (zza 14 (zI (((Nt.trimQ l).length : Nat) : Int)) (zza 15 (zI 0) (zzb (zzt (zyn (I := fun m21 S' u' => ∃ (i : Nat) (r : RL), (m21 = (Nt.trimQ l).length - i) ∧ (i ≤ (Nt.trimQ l).length) ∧ (S' = St.of 45 [(0, .v (.slice x.a (Nt.trimQ l).length x.c)), (2, .adr 2 0), (4, .adr 4 0), (13, .v (.slice x.a (Nt.trimQ l).length x.c)), (14, zI (((Nt.trimQ l).length : Nat) : Int)), (15, zI i)] [(2, ⟨74, [.bool false, .slice none 0 0, .slice none 0 0]⟩), (4, ⟨74, r.cs⟩)]) ∧ (Ext u18 u') ∧ (RatN u' r (Nt.msr ((Nt.trimQ l).take i)) (i * K + 2))) (fun m S u1 u2 e h => by obtain ⟨i, r, hm, p0, hS, hE, f0⟩ := h; exact ⟨i, r, hm, p0, hS, hE.trans e, f0.ext e⟩) _ yj ⟨0, r16, rfl, by omega, rfl, (Ext.refl _), (RatN.more (K := 2) h17 xq)⟩ ?_))))))))
 rintro m21 _ u21 ⟨i, r, hm21, hi, rfl, e21, hM⟩
 have hiK : i * K ≤ (Nt.trimQ l).length * K := Nat.mul_le_mul_right _ hi
 refine sq9 (zza 16 (zB (decide ((i : Int) < (((Nt.trimQ l).length : Nat) : Int)))) (zzb (zzd (zzu (b := decide ((i : Int) < (((Nt.trimQ l).length : Nat) : Int))) xj (fun hb22 => ?_) (fun hb22 => ?_)))))
 ·replace hb22 : (decide ((i : Int) < (((Nt.trimQ l).length : Nat) : Int))) = true := hb22
  have qhb22 := of_decide_eq_true hb22
  refine zzs (zzp ?_)
  refine zzd (zzt (sq9 ?_))
  have hl23 := ((cut_V (hx.ext (e11.trans g13.ext))).ext (e15.trans (g19.ext.trans e21))).len
  change (Nt.trimQ l).length = _ at hl23
  obtain ⟨r23, b23, o23, hA23, hc23, hr23⟩ := pol_at ((cut_V (hx.ext (e11.trans g13.ext))).ext (e15.trans (g19.ext.trans e21))) (i := i) xq
  refine zya 17 (o23 + i * 3) (n := (Nt.trimQ l).length) (off := o23) (sz := 3) (i := (i : Int)) xq hA23 xq xq sl40 (zym 18 r23.cs hc23 ty74 (zzk 6 ⟨74, [.bool false, .slice none 0 0, .slice none 0 0]⟩ (zzj ⟨74, r23.cs⟩ ty74 ?_)))
  refine zzb (zzf (zzi 19 (.v (r.v)) ty74 zze (zzi 20 (.v (r23.v)) ty74 zze (zzg 21 130 [r.v, r23.v] ?_))))
  intro w24 u24 e24 d24
  have k29 := k_common d24 (hM.ext e24) (hr23.ext e24) xq xq
  with_reducible refine zPm k29 ?_
  rintro _ u27 g28 ⟨r25, rfl, h26⟩
  refine zzj ⟨74, r25.cs⟩ ty74 ?_
  refine zzx ?_
  refine zzp (zzf (zyq 22 (x := zI (IntKind.i64.wrap ((i : Int) + 1))) (zI (i + 1 : Nat)) (eqI xw) (zza 15 (zI (i + 1 : Nat)) (zzx ?_))))
  refine ⟨_, ?_, _, by exact zzv _ _ _, i + 1, r25, rfl, by omega, rfl, (e21.trans (e24.trans g28.ext)), (RatN.more (K := ((i * K + 2) + K)) (by rw [Nt.msr_take xq]; exact h26) (by rw [Nat.add_mul]; omega))⟩
  omega
 ·replace hb22 : (decide ((i : Int) < (((Nt.trimQ l).length : Nat) : Int))) = false := hb22
  have qhb22 := of_decide_eq_false hb22
  refine zyc (zzp (zzd ?_))
  have hi9 : i = (Nt.trimQ l).length := by omega
  have hms : RatN u21 r (Nt.msr (Nt.trimQ l)) ((Nt.trimQ l).length * K + 2) := by have h9 := hM; rw [hi9, List.take_length] at h9; exact h9
  clear hi9
  refine zzf (zza 23 (.v (.slice x.a (Nt.trimQ l).length x.c)) (zza 24 (zI (((Nt.trimQ l).length : Nat) : Int)) (sy_make 25 (T := 40) (E := 74) (z := .agg #[.bool false, .slice none 0 0, .slice none 0 0]) (size := 3) (bytes := 56) ((Nt.trimQ l).length) (rcs (List.replicate ((Nt.trimQ l).length) rl0)) xj xj rfl rfl xq yv (made_rcs _) ?_)))
  refine zza 7 (.slc 25 0 ((Nt.trimQ l).length) ((Nt.trimQ l).length)) (zzc 45 [(0, .v (.slice x.a (Nt.trimQ l).length x.c)), (2, .adr 2 0), (4, .adr 4 0), (7, .slc 25 0 ((Nt.trimQ l).length) ((Nt.trimQ l).length))] [(2, ⟨74, [.bool false, .slice none 0 0, .slice none 0 0]⟩), (4, ⟨74, r.cs⟩), (25, ⟨74, rcs (List.replicate ((Nt.trimQ l).length) rl0)⟩)] (zzd (sq9 (zza 26 (.v (.slice x.a (Nt.trimQ l).length x.c)) (zza 27 (zI (((Nt.trimQ l).length : Nat) : Int)) (zza 28 (zI 0) (zzb (zzt (zyn (I := fun m30 S' u' => ∃ (i2 : Nat) (L2 : List RL), (m30 = ((Nt.trimQ l).length) - i2) ∧ (i2 ≤ (Nt.trimQ l).length) ∧ (L2.length = (Nt.trimQ l).length) ∧ (S' = St.of 45 [(2, .adr 2 0), (4, .adr 4 0), (7, .slc 25 0 ((Nt.trimQ l).length) ((Nt.trimQ l).length)), (26, .v (.slice x.a (Nt.trimQ l).length x.c)), (27, zI (((Nt.trimQ l).length : Nat) : Int)), (28, zI i2)] [(2, ⟨74, [.bool false, .slice none 0 0, .slice none 0 0]⟩), (4, ⟨74, r.cs⟩), (25, ⟨74, rcs L2⟩)]) ∧ (Ext u21 u') ∧ (RatsN u' (L2.take i2) (((Nt.trimQ l).map (· / Nt.msr (Nt.trimQ l))).take i2) (K + ((Nt.trimQ l).length * K + 2)))) (fun m S u1 u2 e h => by obtain ⟨i2, L2, hm, p0, p1, hS, hE, f0⟩ := h; exact ⟨i2, L2, hm, p0, p1, hS, hE.trans e, f0.ext e⟩) _ yj ⟨0, List.replicate ((Nt.trimQ l).length) rl0, rfl, by omega, by simp, rfl, (Ext.refl _), RatsN.tnil _ _ _ _⟩ ?_)))))))))
  rintro m30 _ u30 ⟨i2, L2, hm30, hi2, hL2, rfl, e30, hR2⟩
  refine sq9 (zza 29 (zB (decide ((i2 : Int) < (((Nt.trimQ l).length : Nat) : Int)))) (zzb (zzd (zzu (b := decide ((i2 : Int) < (((Nt.trimQ l).length : Nat) : Int))) xj (fun hb31 => ?_) (fun hb31 => ?_)))))
  ·replace hb31 : (decide ((i2 : Int) < (((Nt.trimQ l).length : Nat) : Int))) = true := hb31
   have qhb31 := of_decide_eq_true hb31
   refine zzs (zzp ?_)
   refine zzd (zzt (sq9 (zza 30 (zI i2) ?_)))
   have hl32 := ((cut_V (hx.ext (e11.trans g13.ext))).ext (e15.trans (g19.ext.trans (e21.trans e30)))).len
   change (Nt.trimQ l).length = _ at hl32
   obtain ⟨r32, b32, o32, hA32, hc32, hr32⟩ := pol_at ((cut_V (hx.ext (e11.trans g13.ext))).ext (e15.trans (g19.ext.trans (e21.trans e30)))) (i := i2) xq
   refine zya 31 (o32 + i2 * 3) (n := (Nt.trimQ l).length) (off := o32) (sz := 3) (i := (i2 : Int)) xq hA32 xq xq sl40 (zym 32 r32.cs hc32 ty74 (zzk 9 ⟨74, [.bool false, .slice none 0 0, .slice none 0 0]⟩ (zza 8 (zI i2) (zzj ⟨74, r32.cs⟩ ty74 ?_))))
   refine zzb (zzf (zza 34 (.slc 25 0 ((Nt.trimQ l).length) ((Nt.trimQ l).length)) (zza 35 (zI i2) (zzi 36 (.v (r32.v)) ty74 zze (zzi 37 (.v (r.v)) ty74 zze (zzg 38 104 [r32.v, r.v] ?_))))))
   intro w33 u33 e33 d33
   have k38 := k_ratDiv1 d33 (hr32.ext e33) (hms.ext (e30.trans e33)).raw (Nt.msr_ne (Nt.trim_nrm l) xq) xq xq
   with_reducible refine zPm k38 ?_
   rintro _ u36 g37 ⟨r34, rfl, h35⟩
   refine zza 33 (.v (.tuple #[r34.v, .int .i64 0])) (zza 39 (.v (r34.v)) (zza 40 (zI 0) (zyw 41 (off' := i2 * 3) (n := (Nt.trimQ l).length) (off := 0) (sz := 3) (i := (i2 : Int)) sl40 xq xq xq ?_)))
   refine zyv (V := ⟨74, rcs L2⟩) (off := i2 * 3) (rcs ((L2).set i2 r34)) ty74 (by rw [zyy]; first|omega|(simp;omega)) (zyx (r := r34) (i := i2) (by first|omega|(simp;omega)) rfl) ?_
   refine zzx ?_
   refine zzp (zzf (zyq 42 (x := zI (IntKind.i64.wrap ((i2 : Int) + 1))) (zI (i2 + 1 : Nat)) (eqI xw) (zza 28 (zI (i2 + 1 : Nat)) (zzx ?_))))
   have ht39 : i2 < ((Nt.trimQ l).map (· / Nt.msr (Nt.trimQ l))).length := by simp; omega
   refine ⟨_, ?_, _, by exact zzv _ _ _, i2 + 1, (L2).set i2 r34, rfl, by omega, by simpa using hL2, rfl, (e30.trans (e33.trans g37.ext)), RatsN.tstep (hR2.ext (e33.trans g37.ext)) xq ht39 (RatN.more (K := (K + ((Nt.trimQ l).length * K + 2))) h35 xq) (by simp [List.getElem?_eq_getElem (show i2 < (Nt.trimQ l).length by omega)])⟩
   omega
  ·replace hb31 : (decide ((i2 : Int) < (((Nt.trimQ l).length : Nat) : Int))) = false := hb31
   have qhb31 := of_decide_eq_false hb31
   refine zyc (zzp (zzd (zyp (r := 7) (t := 25) [7, 25] xk xj (by rfl) (by rfl) xj (fun b40 u41 e42 hb43 hh44 => ?_))))
   have hp45 : PolN u41 ⟨some ⟨b40, 0, none⟩, (Nt.trimQ l).length, (Nt.trimQ l).length⟩ ((Nt.trimQ l).map (· / Nt.msr (Nt.trimQ l))) (K + ((Nt.trimQ l).length * K + 2)) := pol_data1 hh44 yv (RatsN.tdone (hR2.ext e42) xq yw) xq
   refine zzf (zzi 43 (.v (r.v)) ty74 zze (zza 44 (.v (.slice (some ⟨b40, 0, none⟩) ((Nt.trimQ l).length) ((Nt.trimQ l).length))) (zzj ⟨74, r.cs⟩ ty74 ?_)))
   refine zza 3 (.v (.slice (some ⟨b40, 0, none⟩) ((Nt.trimQ l).length) ((Nt.trimQ l).length))) (zzb (zzo (ret0 [r.v, .slice (some ⟨b40, 0, none⟩) ((Nt.trimQ l).length) ((Nt.trimQ l).length)] ⟨zzr ty74 zze, zzq, trivial⟩ fun u46 e47 => ?_)))
   exact ⟨r, (⟨some ⟨b40, 0, none⟩, (Nt.trimQ l).length, (Nt.trimQ l).length⟩ : Sl), rfl, (hms.ext (e30.trans (e42.trans e47))), (hp45.ext e47)⟩
set_option maxHeartbeats 4000000 in
theorem k_poMul {u w : World} {x : Sl} {l : List Rat} {y : Sl} {m : List Rat} {K M : Nat} (d : Dat u w) (hx : PolV u x l K) (hy : PolV u y m M) (hB : Nt.mlK l.length m.length K M ≤ 30000000) (hK1 : (l.length + 1) * K ≤ 20000000) (hM1 : (m.length + 1) * M ≤ 20000000) (hx9 : l.length ≤ 100000000) (hy9 : m.length ≤ 100000000) : Calls Tryz.prog 48 #[x.v, y.v] w (Post u w fun v u' => ∃ y : Sl, v = y.v ∧ PolN u' y (Nt.trimQ (Nt.mulQ l m)) (Nt.mlK l.length m.length K M)) := by
 have hlen := hx.len
 have hlen2 := hy.len
 have htl := Nt.zzh l
 have htm := Nt.zzh m
 have hB2 := Nat.le_trans (Nt.mlK_mono htl htm (Nat.le_refl K) (Nat.le_refl M)) hB
 have hB3 : Nt.kk ((K + ((Nt.trimQ l).length * K + 2)) + (M + ((Nt.trimQ m).length * M + 2)) + 1) ((Nt.trimQ l).length * (Nt.trimQ m).length) + (((Nt.trimQ l).length * K + 2) + ((Nt.trimQ m).length * M + 2)) ≤ 30000000 := hB2
 have hK2 := hK1
 have hM2 := hM1
 rw [Nat.add_mul] at hK2 hM2
 have hKK : (Nt.trimQ l).length * K ≤ l.length * K := Nat.mul_le_mul_right _ htl
 have hMM : (Nt.trimQ m).length * M ≤ m.length * M := Nat.mul_le_mul_right _ htm
 refine zzm (args := [.slice x.a x.n x.c, .slice y.a y.n y.c]) Tryz.func48 rfl Tryz.ntmps48 (rs := [.tmp 4]) Tryz.results48 (le_b rfl) (le_b rfl) d ?_
 refine sq9 (zza 4 (.v (.slice none 0 0)) (zzb (sq9 (zza 15 (.v x.v) (zzg 16 89 [x.v] ?_)))))
 intro w11 u11 e11 d11
 have k18 := k_split d11 (hx.ext e11) xq xz
 with_reducible refine zPm k18 ?_
 rintro _ u16 g17 ⟨r12, y14, rfl, h13, h15⟩
 have hly14 : y14.n = (Nt.trimQ l).length := by have h9 := h15.len; simpa using h9
 refine zza 14 (.v (.tuple #[r12.v, y14.v])) (zza 17 (.v (r12.v)) (zza 18 (.v y14.v) (zzk 5 ⟨74, [.bool false, .slice none 0 0, .slice none 0 0]⟩ (zzj ⟨74, r12.cs⟩ ty74 ?_))))
 refine zza 6 (.v y14.v) (zzb (sq9 (zza 20 (.v y.v) (zzg 21 89 [y.v] ?_))))
 intro w19 u19 e19 d19
 have k26 := k_split d19 (hy.ext (e11.trans (g17.ext.trans e19))) xq xz
 with_reducible refine zPm k26 ?_
 rintro _ u24 g25 ⟨r20, y22, rfl, h21, h23⟩
 have hly22 : y22.n = (Nt.trimQ m).length := by have h9 := h23.len; simpa using h9
 refine zza 19 (.v (.tuple #[r20.v, y22.v])) (zza 22 (.v (r20.v)) (zza 23 (.v y22.v) (zzk 7 ⟨74, [.bool false, .slice none 0 0, .slice none 0 0]⟩ (zzj ⟨74, r20.cs⟩ ty74 ?_))))
 refine zza 8 (.v y22.v) (zzb (zzd (sq9 (zza 24 (.v y14.v) (zza 25 (zI y14.n) (zza 26 (zB ((y14.n : Int) == 0)) ?_))))))
 rcases Bool.eq_false_or_eq_true ((y14.n : Int) == 0) with hs27 | hs27
 ·refine zyq 27 (x := zB ((y14.n : Int) == 0)) (zB true) (by rw [hs27]) ?_
  have qhs27 : (y14.n : Int) = 0 := by simpa using hs27
  refine zzn 28 (uw 3 false true 27) (zzn 29 (uw 3 false true 27) (zzn 30 (uw 3 false true 27) (zza 31 (zB true) (zzb (zyr xj (sq9 (zza 4 (.v (.slice none 0 0)) (zzb (zzo (zzw (ret0 [.slice none 0 0] ⟨zzq, trivial⟩ fun u28 e29 => ?_)))))))))))
  have e9 : Nt.trimQ l = [] := List.eq_nil_of_length_eq_zero xq
  rw [Nt.mul_nil (.inl e9)]
  exact ⟨⟨none, 0, 0⟩, rfl, pol_nil _ _⟩
 ·refine zyq 27 (x := zB ((y14.n : Int) == 0)) (zB false) (by rw [hs27]) ?_
  have qhs27 : ¬ ((y14.n : Int) = 0) := by simpa using hs27
  refine zza 28 (.v y22.v) ?_ (hw := w1 3 false 27)
  refine zza 29 (zI y22.n) ?_ (hw := w1 3 false 27)
  refine zza 30 (zB ((y22.n : Int) == 0)) ?_ (hw := w1 3 false 27)
  refine zza 31 (zB ((y22.n : Int) == 0)) (zzb (zzu (b := (y22.n : Int) == 0) xj (fun hb30 => ?_) (fun hb30 => ?_)))
  ·replace hb30 : ((y22.n : Int) == 0) = true := hb30
   have qhb30 : (y22.n : Int) = 0 := by simpa using hb30
   refine sq9 (zza 4 (.v (.slice none 0 0)) (zzb (zzo (zzw (ret0 [.slice none 0 0] ⟨zzq, trivial⟩ fun u31 e32 => ?_)))))
   have e9 : Nt.trimQ m = [] := List.eq_nil_of_length_eq_zero xq
   rw [Nt.mul_nil (.inr e9)]
   exact ⟨⟨none, 0, 0⟩, rfl, pol_nil _ _⟩
  ·replace hb30 : ((y22.n : Int) == 0) = false := hb30
   have qhb30 : ¬ ((y22.n : Int) = 0) := by simpa using hb30
   refine zzs (zzp ?_)
   refine sq9 (zza 32 (.v y14.v) (zza 33 (zI y14.n) (zza 34 (.v y22.v) (zza 35 (zI y22.n) (zyq 36 (x := zI (IntKind.i64.wrap ((y14.n : Int) + (y22.n : Int)))) (zI (y14.n + y22.n : Nat)) (eqI xw) (zyq 37 (x := zI (IntKind.i64.wrap (((y14.n + y22.n : Nat) : Int) - 1))) (zI (((y14.n + y22.n) - 1 : Nat) : Int)) (eqI xw) (zzg 38 90 [.int .i64 (((y14.n + y22.n) - 1 : Nat) : Int)] ?_)))))))
   intro w33 u33 e33 d33
   have k42 := k_zeros (n := (y14.n + y22.n) - 1) d33 xq
   with_reducible refine zPm k42 ?_
   rintro _ u40 g41 ⟨b34, L35, rfl, hb36, hh37, hL38, hR39⟩
   refine zza 9 (.v (.slice (some ⟨b34, 0, none⟩) ((y14.n + y22.n) - 1) ((y14.n + y22.n) - 1))) (zzc 75 [(5, .adr 5 0), (6, .v y14.v), (7, .adr 7 0), (8, .v y22.v), (9, .v (.slice (some ⟨b34, 0, none⟩) ((y14.n + y22.n) - 1) ((y14.n + y22.n) - 1)))] [(5, ⟨74, r12.cs⟩), (7, ⟨74, r20.cs⟩)] (zzd (zzd (sw_adopt (r := 9) (k := 9) (by rfl) ((Ext.refl _).cells hh37) (Nat.le_trans ((e11.trans (g17.ext.trans (e19.trans (g25.ext.trans e33)))).size) hb36) xj (fun u43 eB44 => ?_)))))
   replace hR39 := (hR39.ext (Ext.refl _)).extB ((Ext.refl _).cells hh37) eB44
   refine zzf (zza 39 (.v y14.v) (zza 40 (zI y14.n) (zza 41 (zI 0) (zzb (zzt (zyn (I := fun m45 S' u' => ∃ (i : Nat) (L : List RL), (m45 = (Nt.trimQ l).length - i) ∧ (i ≤ (Nt.trimQ l).length) ∧ (L.length = ((Nt.trimQ l).length + (Nt.trimQ m).length - 1)) ∧ (S' = St.of 75 [(5, .adr 5 0), (7, .adr 7 0), (8, .v (.slice y22.a y22.n y22.c)), (9, .slc 9 0 ((y14.n + y22.n) - 1) ((y14.n + y22.n) - 1)), (39, .v (.slice y14.a y14.n y14.c)), (40, zI y14.n), (41, zI i)] [(5, ⟨74, r12.cs⟩), (7, ⟨74, r20.cs⟩), (9, ⟨74, rcs L⟩)]) ∧ (Ext u43 u') ∧ (RatsN u' L (Nt.outQ ((Nt.trimQ l).map (· / Nt.msr (Nt.trimQ l))) ((Nt.trimQ m).map (· / Nt.msr (Nt.trimQ m))) ((Nt.trimQ l).length + (Nt.trimQ m).length - 1) i) (Nt.kk ((K + ((Nt.trimQ l).length * K + 2)) + (M + ((Nt.trimQ m).length * M + 2)) + 1) (i * (Nt.trimQ m).length)))) (fun m S u1 u2 e h => by obtain ⟨i, L, hm, p0, p1, hS, hE, f0⟩ := h; exact ⟨i, L, hm, p0, p1, hS, hE.trans e, f0.ext e⟩) _ yj ⟨0, L35, rfl, by omega, by omega, rfl, (Ext.refl _), (RatsN.more (K := 2) (by have h9 := hR39; rw [hly14, hly22] at h9; exact h9) (by unfold Nt.kk; omega))⟩ ?_))))))
   rintro m45 _ u45 ⟨i, L, hm45, hi, hL, rfl, e45, hR⟩
   refine sq9 (zza 42 (zB (decide ((i : Int) < (y14.n : Int)))) (zzb (zzd (zzu (b := decide ((i : Int) < (y14.n : Int))) xj (fun hb46 => ?_) (fun hb46 => ?_)))))
   ·replace hb46 : (decide ((i : Int) < (y14.n : Int))) = true := hb46
    have qhb46 := of_decide_eq_true hb46
    refine zzs (zzp ?_)
    refine zzd (zzt (sq9 (zza 43 (zI i) ?_)))
    have hl47 := (h15.ext (e19.trans (g25.ext.trans (e33.trans ((ExtB.old eB44 g41.ext hb36).trans e45))))).len
    obtain ⟨r47, b47, o47, hA47, hc47, hr47⟩ := pol_atN (h15.ext (e19.trans (g25.ext.trans (e33.trans ((ExtB.old eB44 g41.ext hb36).trans e45))))) (i := i) xq
    refine zya 44 (o47 + i * 3) (n := y14.n) (off := o47) (sz := 3) (i := (i : Int)) xq hA47 xq xq sl40 (zym 45 r47.cs hc47 ty74 (zzk 11 ⟨74, [.bool false, .slice none 0 0, .slice none 0 0]⟩ (zza 10 (zI i) (zzj ⟨74, r47.cs⟩ ty74 ?_))))
    refine zzb (sq9 (zza 46 (.v y22.v) (zza 47 (zI y22.n) (zza 48 (zI 0) (zzb (zzt (zyn (I := fun m48 S' u' => ∃ (j : Nat) (M9 : List RL), (m48 = (Nt.trimQ m).length - j) ∧ (j ≤ (Nt.trimQ m).length) ∧ (M9.length = ((Nt.trimQ l).length + (Nt.trimQ m).length - 1)) ∧ (S' = St.of 75 [(5, .adr 5 0), (7, .adr 7 0), (8, .v (.slice y22.a y22.n y22.c)), (9, .slc 9 0 ((y14.n + y22.n) - 1) ((y14.n + y22.n) - 1)), (10, zI i), (11, .adr 11 0), (39, .v (.slice y14.a y14.n y14.c)), (40, zI y14.n), (41, zI i), (46, .v (.slice y22.a y22.n y22.c)), (47, zI y22.n), (48, zI j)] [(5, ⟨74, r12.cs⟩), (7, ⟨74, r20.cs⟩), (9, ⟨74, rcs M9⟩), (11, ⟨74, r47.cs⟩)]) ∧ (Ext u45 u') ∧ (RatsN u' M9 (Nt.inn (Nt.outQ ((Nt.trimQ l).map (· / Nt.msr (Nt.trimQ l))) ((Nt.trimQ m).map (· / Nt.msr (Nt.trimQ m))) ((Nt.trimQ l).length + (Nt.trimQ m).length - 1) i) i (((Nt.trimQ l).map (· / Nt.msr (Nt.trimQ l))).getD i 0) ((Nt.trimQ m).map (· / Nt.msr (Nt.trimQ m))) j) (Nt.kk ((K + ((Nt.trimQ l).length * K + 2)) + (M + ((Nt.trimQ m).length * M + 2)) + 1) (i * (Nt.trimQ m).length + j)))) (fun m S u1 u2 e h => by obtain ⟨j, M9, hm, p0, p1, hS, hE, f0⟩ := h; exact ⟨j, M9, hm, p0, p1, hS, hE.trans e, f0.ext e⟩) _ yj ⟨0, L, rfl, by omega, by omega, rfl, (Ext.refl _), hR⟩ ?_)))))))
    rintro m48 _ u48 ⟨j, M9, hm48, hj, hM9, rfl, e48, hQ⟩
    have hmm := Nat.mul_le_mul_right (Nt.trimQ m).length (show i + 1 ≤ (Nt.trimQ l).length by omega)
    rw [Nat.add_mul] at hmm
    have hkk := Nt.kk_mono (W := ((K + ((Nt.trimQ l).length * K + 2)) + (M + ((Nt.trimQ m).length * M + 2)) + 1)) (t := i * (Nt.trimQ m).length + j) (t' := (Nt.trimQ l).length * (Nt.trimQ m).length) (Nat.le_refl _) xq
    have hk2 := Nt.kk_succ ((K + ((Nt.trimQ l).length * K + 2)) + (M + ((Nt.trimQ m).length * M + 2)) + 1) (i * (Nt.trimQ m).length + j)
    refine sq9 (zza 49 (zB (decide ((j : Int) < (y22.n : Int)))) (zzb (zzd (zzu (b := decide ((j : Int) < (y22.n : Int))) xj (fun hb49 => ?_) (fun hb49 => ?_)))))
    ·replace hb49 : (decide ((j : Int) < (y22.n : Int))) = true := hb49
     have qhb49 := of_decide_eq_true hb49
     refine zzs (zzp ?_)
     refine zzd (zzt (sq9 (zza 50 (zI j) ?_)))
     have hl50 := (h23.ext (e33.trans ((ExtB.old eB44 g41.ext hb36).trans (e45.trans e48)))).len
     obtain ⟨r50, b50, o50, hA50, hc50, hr50⟩ := pol_atN (h23.ext (e33.trans ((ExtB.old eB44 g41.ext hb36).trans (e45.trans e48)))) (i := j) xq
     refine zya 51 (o50 + j * 3) (n := y22.n) (off := o50) (sz := 3) (i := (j : Int)) xq hA50 xq xq sl40 (zym 52 r50.cs hc50 ty74 (zzk 13 ⟨74, [.bool false, .slice none 0 0, .slice none 0 0]⟩ (zza 12 (zI j) (zzj ⟨74, r50.cs⟩ ty74 ?_))))
     refine zzb (zzz [0, 0, 0, 6, 0, 0, 0, 96, 240, 496, 0, 0, 3072, 8176, 16383, 32767] [(0, []), (1, []), (2, []), (3, []), (4, []), (5, []), (6, []), (7, []), (8, []), (9, []), (10, []), (11, []), (12, []), (13, []), (14, []), (15, [])] xj xj (zza 53 (.slc 9 0 ((y14.n + y22.n) - 1) ((y14.n + y22.n) - 1)) (zza 54 (zI i) (zza 55 (zI j) (zyq 56 (x := zI (IntKind.i64.wrap ((i : Int) + (j : Int)))) (zI (i + j : Nat)) (eqI xw) (zza 57 (.slc 9 0 ((y14.n + y22.n) - 1) ((y14.n + y22.n) - 1)) (zza 58 (zI i) (zza 59 (zI j) (zyq 60 (x := zI (IntKind.i64.wrap ((i : Int) + (j : Int)))) (zI (i + j : Nat)) (eqI xw) (zyw 61 (off' := (i + j) * 3) (n := (y14.n + y22.n) - 1) (off := 0) (sz := 3) (i := ((i + j : Nat) : Int)) sl40 xq xq xq ?_))))))))))
     obtain ⟨r51, hrr51⟩ : ∃ r : RL, (M9).getD (i + j) rl0 = r := ⟨_, rfl⟩
     refine zzi 62 (V := ⟨74, rcs M9⟩) (off := (i + j) * 3) (.v r51.v) ty74 (by have h9 := part_rcs (L := M9) (i := i + j) (off := (i + j) * 3) (by first|omega|(simp;omega)) rfl; rw [hrr51] at h9; exact h9) ?_
     have h52 := hQ.2 (i + j) (by first|omega|(simp;omega))
     rw [hrr51] at h52
     refine zzi 63 (.v (r47.v)) ty74 zze (zzi 64 (.v (r50.v)) ty74 zze (zzg 65 72 [r47.v, r50.v] ?_))
     intro w53 u53 e53 d53
     have k58 := k_ratMul d53 (hr47.ext (e48.trans e53)).raw (hr50.ext e53).raw xq xq
     with_reducible refine zPm k58 ?_
     rintro _ u56 g57 ⟨r54, rfl, h55⟩
     refine zzg 66 71 [r51.v, r54.v] ?_
     intro w59 u59 e59 d59
     have k64 := k_ratAdd d59 (h52.ext (e53.trans (g57.ext.trans e59))).raw (h55.ext e59).raw xq xq
     with_reducible refine zPm k64 ?_
     rintro _ u62 g63 ⟨r60, rfl, h61⟩
     refine zyw 67 (off' := (i + j) * 3) (n := (y14.n + y22.n) - 1) (off := 0) (sz := 3) (i := ((i + j : Nat) : Int)) sl40 xq xq xq ?_
     refine zyv (V := ⟨74, rcs M9⟩) (off := (i + j) * 3) (rcs ((M9).set (i + j) r60)) ty74 (by rw [zyy]; first|omega|(simp;omega)) (zyx (r := r60) (i := i + j) (by first|omega|(simp;omega)) rfl) ?_
     refine zzx ?_
     refine zzp (zzf (zyq 68 (x := zI (IntKind.i64.wrap ((j : Int) + 1))) (zI (j + 1 : Nat)) (eqI xw) (zza 48 (zI (j + 1 : Nat)) (zzx ?_))))
     refine ⟨_, ?_, _, by exact zzv _ _ _, j + 1, (M9).set (i + j) r60, rfl, by omega, by simp; omega, rfl, (e48.trans (e53.trans (g57.ext.trans (e59.trans g63.ext)))), (RatsN.set (i := i + j) (RatsN.more (K := Nt.kk ((K + ((Nt.trimQ l).length * K + 2)) + (M + ((Nt.trimQ m).length * M + 2)) + 1) (i * (Nt.trimQ m).length + j)) (hQ.ext (e53.trans (g57.ext.trans (e59.trans g63.ext)))) (by show _ ≤ Nt.kk _ (i * (Nt.trimQ m).length + j + 1); omega)) yw (RatN.more (K := ((Nt.kk ((K + ((Nt.trimQ l).length * K + 2)) + (M + ((Nt.trimQ m).length * M + 2)) + 1) (i * (Nt.trimQ m).length + j)) + ((K + ((Nt.trimQ l).length * K + 2)) + (M + ((Nt.trimQ m).length * M + 2))) + 1)) h61 (by show _ ≤ Nt.kk _ (i * (Nt.trimQ m).length + j + 1); omega)))⟩
     omega
    ·replace hb49 : (decide ((j : Int) < (y22.n : Int))) = false := hb49
     have qhb49 := of_decide_eq_false hb49
     refine zyc (zzp (zzf (zyq 69 (x := zI (IntKind.i64.wrap ((i : Int) + 1))) (zI (i + 1 : Nat)) (eqI xw) (zza 41 (zI (i + 1 : Nat)) (zzx ?_)))))
     have hj9 : j = (Nt.trimQ m).length := by omega
     refine ⟨_, ?_, _, by exact zzv _ _ _, i + 1, M9, rfl, by omega, by omega, rfl, (e45.trans e48), (by have h9 := hQ; rw [hj9, ← Nat.succ_mul] at h9; have e9 : ((Nt.trimQ m).map (· / Nt.msr (Nt.trimQ m))).length = (Nt.trimQ m).length := yy; show RatsN _ _ (Nt.inn _ _ _ _ ((Nt.trimQ m).map (· / Nt.msr (Nt.trimQ m))).length) _; rw [e9]; exact h9)⟩
     omega
   ·replace hb46 : (decide ((i : Int) < (y14.n : Int))) = false := hb46
    have qhb46 := of_decide_eq_false hb46
    refine zyc (zzp (zzd ?_))
    have hi9 : i = (Nt.trimQ l).length := by omega
    have hR2 : RatsN u45 L (Nt.outQ ((Nt.trimQ l).map (· / Nt.msr (Nt.trimQ l))) ((Nt.trimQ m).map (· / Nt.msr (Nt.trimQ m))) ((Nt.trimQ l).length + (Nt.trimQ m).length - 1) ((Nt.trimQ l).length)) (Nt.kk ((K + ((Nt.trimQ l).length * K + 2)) + (M + ((Nt.trimQ m).length * M + 2)) + 1) ((Nt.trimQ l).length * (Nt.trimQ m).length)) := by have h9 := hR; rw [hi9] at h9; exact h9
    refine zyp (r := 9) (t := 9) [9] xk xj (by rfl) (by rfl) xj (fun b65 u66 e67 hb68 hh69 => ?_)
    have hp70 : PolN u66 ⟨some ⟨b65, 0, none⟩, (y14.n + y22.n) - 1, (y14.n + y22.n) - 1⟩ (Nt.outQ ((Nt.trimQ l).map (· / Nt.msr (Nt.trimQ l))) ((Nt.trimQ m).map (· / Nt.msr (Nt.trimQ m))) ((Nt.trimQ l).length + (Nt.trimQ m).length - 1) ((Nt.trimQ l).length)) (Nt.kk ((K + ((Nt.trimQ l).length * K + 2)) + (M + ((Nt.trimQ m).length * M + 2)) + 1) ((Nt.trimQ l).length * (Nt.trimQ m).length)) := pol_data1 hh69 yv (hR2.ext e67) xq
    refine zzf (zza 70 (.v (.slice (some ⟨b65, 0, none⟩) ((y14.n + y22.n) - 1) ((y14.n + y22.n) - 1))) (zzi 71 (.v (r12.v)) ty74 zze (zzi 72 (.v (r20.v)) ty74 zze (zzg 73 72 [r12.v, r20.v] ?_))))
    intro w71 u71 e71 d71
    have k76 := k_ratMul d71 (h13.ext (e19.trans (g25.ext.trans (e33.trans ((ExtB.old eB44 g41.ext hb36).trans (e45.trans (e67.trans e71))))))).raw (h21.ext (e33.trans ((ExtB.old eB44 g41.ext hb36).trans (e45.trans (e67.trans e71))))).raw xq xq
    with_reducible refine zPm k76 ?_
    rintro _ u74 g75 ⟨r72, rfl, h73⟩
    refine zzg 74 75 [.slice (some ⟨b65, 0, none⟩) ((y14.n + y22.n) - 1) ((y14.n + y22.n) - 1), r72.v] ?_
    intro w77 u77 e77 d77
    have k82 := k_poScale d77 (hp70.ext (e71.trans (g75.ext.trans e77))).raw (h73.ext e77).raw xq xz xq
    with_reducible refine zPm k82 ?_
    rintro _ u80 g81 ⟨y78, rfl, h79⟩
    have hly78 := h79.len
    refine zza 4 (.v y78.v) (zzb (zzo (ret0 [.slice y78.a y78.n y78.c] ⟨zzq, trivial⟩ fun u83 e84 => ?_)))
    have h8 := Nt.mul_parts (Nt.msr_ne (Nt.trim_nrm l) xq) (Nt.msr_ne (Nt.trim_nrm m) xq) (l := (Nt.trimQ l)) (m := (Nt.trimQ m)) xq xq
    refine ⟨y78, rfl, PolN.more (K := ((Nt.kk ((K + ((Nt.trimQ l).length * K + 2)) + (M + ((Nt.trimQ m).length * M + 2)) + 1) ((Nt.trimQ l).length * (Nt.trimQ m).length)) + (((Nt.trimQ l).length * K + 2) + ((Nt.trimQ m).length * M + 2)))) ?_ ?_⟩
    ·rw [← Nt.mul_trim, ← h8]
     exact (h79.ext e84)
    ·exact Nat.le_trans (Nat.add_le_add_left (Nat.le_refl _) _) (Nt.mlK_mono (n := (Nt.trimQ l).length) (m := (Nt.trimQ m).length) htl htm (Nat.le_refl K) (Nat.le_refl M))
set_option maxHeartbeats 2000000 in
theorem k_r5Trim {u w : World} {x : Sl} {l : List Rat} {K : Nat} (d : Dat u w) (hx : PolV u x l K) (hK : K ≤ 50000000) (hx9 : l.length ≤ 1000000000) : Calls Tryz.prog 92 #[x.v] w (Post u w fun v u' => ∃ y : Sl, v = y.v ∧ PolN u' y (Nt.trimQ l) K) := by
 have hlen := hx.len
 have htl := Nt.zzh l
 refine zzm (args := [.slice x.a x.n x.c]) Tryz.func92 rfl Tryz.ntmps92 (rs := [.tmp 2]) Tryz.results92 (le_b rfl) (le_b rfl) d ?_
 refine sq9 (zza 2 (.v (.slice none 0 0)) (zzb (sq9 (zza 7 (.v x.v) (zza 8 (zI x.n) (zza 3 (zI x.n) (zzb (zzd (zzt (zyn (I := fun m11 S' u' => ∃ (n : Nat), (m11 = n) ∧ (n ≤ l.length) ∧ (∀ i, n ≤ i → Nt.co l i = 0) ∧ (S' = St.of 37 [(0, .v (.slice x.a x.n x.c)), (3, zI n)] []) ∧ (Ext u u')) (fun m S u1 u2 e h => by obtain ⟨n, hm, p0, p1, hS, hE⟩ := h; exact ⟨n, hm, p0, p1, hS, hE.trans e⟩) _ yj ⟨x.n, rfl, by omega, fun i hi => Nt.co_ge xq, rfl, (Ext.refl _)⟩ ?_))))))))))
 rintro m11 _ u11 ⟨n, hm11, hn, hz, rfl, e11⟩
 refine zzd (sq9 (zza 9 (zI n) (zza 10 (zB (decide ((0 : Int) < (n : Int)))) ?_)))
 rcases Bool.eq_false_or_eq_true (decide ((0 : Int) < (n : Int))) with hs12 | hs12
 ·refine zyq 11 (x := zB (decide ((0 : Int) < (n : Int)))) (zB true) (by rw [hs12]) ?_
  have qhs12 := of_decide_eq_true hs12
  refine zza 12 (.v x.v) ?_ (hw := w1 2 true 11)
  refine zza 13 (zI n) ?_ (hw := w1 2 true 11)
  refine zyq 14 (x := zI (IntKind.i64.wrap ((n : Int) - 1))) (zI (n - 1 : Nat)) (eqI xw) ?_ (hw := w1 2 true 11)
  have hl13 := (hx.ext e11).len
  obtain ⟨r13, b13, o13, hA13, hc13, hr13⟩ := pol_at (hx.ext e11) (i := n - 1) xq
  refine zya 15 (o13 + (n - 1) * 3) (n := x.n) (off := o13) (sz := 3) (i := ((n - 1 : Nat) : Int)) xq hA13 xq xq sl40 ?_ (hw := w1 2 true 11)
  refine zym 16 r13.cs hc13 ty74 ?_ (hw := w1 2 true 11)
  refine zzg 17 132 [r13.v] ?_ (hw := w1 2 true 11)
  intro w14 u14 e14 d14
  have k17 := k_rqSign d14 (hr13.ext e14) xq
  with_reducible refine zPm k17 ?_
  rintro _ u15 g16 rfl
  refine zza 18 (zB ((Nt.sgQ (l.getD (n - 1) 0)) == 0)) ?_ (hw := w1 2 true 11)
  refine zza 19 (zB ((Nt.sgQ (l.getD (n - 1) 0)) == 0)) (zzb (zzu (b := (Nt.sgQ (l.getD (n - 1) 0)) == 0) xj (fun hb18 => ?_) (fun hb18 => ?_)))
  ·replace hb18 : ((Nt.sgQ (l.getD (n - 1) 0)) == 0) = true := hb18
   refine zzs (zzp ?_)
   refine zzt (zzf (zza 20 (zI n) (zyq 21 (x := zI (IntKind.i64.wrap ((n : Int) - 1))) (zI (n - 1 : Nat)) (eqI xw) (zza 3 (zI (n - 1 : Nat)) (zzx ?_)))))
   refine ⟨_, ?_, _, by exact zzv _ _ _, n - 1, rfl, by omega, (fun i hi => by by_cases e : i = n - 1; (rw [e]; have h9 := hb18; rw [Nt.sgQ_eq] at h9; exact of_decide_eq_true h9); exact hz i xq), rfl, (e11.trans (e14.trans g16.ext))⟩
   omega
  ·replace hb18 : ((Nt.sgQ (l.getD (n - 1) 0)) == 0) = false := hb18
   refine zyc (zzp (zzd ?_))
   have he9 := Nt.trim_len_of (l := l) hn hz (fun _ h => by have h9 := hb18; rw [Nt.sgQ_eq] at h9; exact of_decide_eq_false h9 h)
   clear hz
   refine zzf (zza 4 (.v (.slice none 0 0)) (zzb (zzd (sq9 (zza 22 (.v x.v) (zza 23 (zI n) ?_))))))
   have hl19 := (hx.ext (e11.trans (e14.trans g16.ext))).len
   have hc19 := (hx.ext (e11.trans (e14.trans g16.ext))).cap
   refine sy_front 24 (n := x.n) (c := x.c) n sl40 rfl xq ?_
   refine zza 25 (zI n) (zza 26 (zI 0) (zzb (zzt (zyn (I := fun m20 S' u' => (m20 = n ∧ S' = St.of 37 [(4, .v (.slice none 0 0)), (24, .v (.slice x.a n x.c)), (25, zI n), (26, zI 0)] [] ∧ Ext u15 u') ∨ (∃ (i : Nat) (L : List RL) (cs : List Value) (cp : Nat), m20 = n - i ∧ i ≤ n ∧ 0 < i ∧ L.length = i ∧ cs.length = cp * 3 ∧ i ≤ cp ∧ cp ≤ maxLen ∧ cs.take (i * 3) = rcs L ∧ S' = St.of 37 [(4, .slc 34 0 i cp), (24, .v (.slice x.a n x.c)), (25, zI n), (26, zI i)] [(34, ⟨74, cs⟩)] ∧ Ext u15 u' ∧ RatsN u' L ((Nt.trimQ l).take i) K)) (fun m S u1 u2 e h => by rcases h with ⟨a, b, c⟩ | ⟨a1, a2, a3, a4, b1, b2, b3, b4, b5, b6, b7, b8, b9, b10, b11⟩; exact .inl ⟨a, b, c.trans e⟩; exact .inr ⟨a1, a2, a3, a4, b1, b2, b3, b4, b5, b6, b7, b8, b9, b10.trans e, b11.ext e⟩) _ yj (.inl ⟨rfl, rfl, Ext.refl _⟩) ?_))))
   rintro m20 _ u20 (⟨hm20, rfl, e20⟩ | ⟨i, L, cs, cp, hm20, hi, hp, hL, hc, hle, hmx, ht, rfl, e20, hR⟩)
   ·change SW _ _ _ _ (St.of 37 [(4, .v (.slice none 0 0)), (24, .v (.slice x.a n x.c)), (25, .v (.int .i64 (n : Int))), (26, .v (.int .i64 0))] []) _ _
    refine sq9 (zza 27 (zB (decide ((0 : Int) < (n : Int)))) (zzb (zzd (zzu (b := decide ((0 : Int) < (n : Int))) xj (fun hb21 => ?_) (fun hb21 => ?_)))))
    ·replace hb21 : (decide ((0 : Int) < (n : Int))) = true := hb21
     have qhb21 := of_decide_eq_true hb21
     refine zzs (zzp ?_)
     refine zzd (zzt (sq9 ?_))
     have hl22 := ((pol_take (hx.ext (e11.trans (e14.trans g16.ext))) xq).ext e20).len
     change n = _ at hl22
     obtain ⟨r22, b22, o22, hA22, hc22, hr22⟩ := pol_at ((pol_take (hx.ext (e11.trans (e14.trans g16.ext))) xq).ext e20) (i := 0) xq
     refine zya 28 (o22 + 0 * 3) (n := n) (off := o22) (sz := 3) (i := 0) xq hA22 xq xq sl40 (zym 29 r22.cs hc22 ty74 (zzk 6 ⟨74, [.bool false, .slice none 0 0, .slice none 0 0]⟩ (zzj ⟨74, r22.cs⟩ ty74 ?_)))
     refine zzb (zzf (zza 30 (.v (.slice none 0 0)) (zzi 31 (.v (r22.v)) ty74 zze (zzg 32 133 [r22.v] ?_))))
     intro w23 u23 e23 d23
     have k28 := k_rqTrim d23 (hr22.ext e23) xq
     with_reducible refine zPm k28 ?_
     rintro _ u26 g27 ⟨r24, rfl, h25⟩
     refine zxy 33 ⟨74, r24.cs⟩ 1 (fun b29 u30 e31 h32 => ?_)
     have hp33 : PolN u30 (⟨some ⟨b29, 0, none⟩, 1, 1⟩ : Sl) [((l.take n).getD 0 0)] K := pol_lit (L := [r24]) h32 (rats1 (h25.ext e31)) rfl yq
     refine sy_app0 34 (T := 40) (E := 74) (z := .agg #[.bool false, .slice none 0 0, .slice none 0 0]) (size := 3) (bytes := 56) (b := b29) (off := 0) (m := 1) r24.cs xj xj xj yq rfl (lit_news ((Ext.refl _).cells h32)) (rl_one r24) yq yq yq ?_
     intro c34 cs34 ha34 hb34 hc34 hd34
     refine zza 4 (.slc 34 0 1 c34) (zzx ?_)
     refine zzp (zzf (zza 35 (zI 1) (zza 26 (zI 1) (zzx ?_))))
     have ht35 : 0 < (Nt.trimQ l).length := by skip; omega
     refine ⟨_, ?_, _, by exact zzv _ _ _, .inr ⟨1, [r24], cs34, c34, rfl, by omega, by omega, by simp, hc34, by omega, hb34, hd34, rfl, (e20.trans (e23.trans (g27.ext.trans e31))), (app_first (RatN.more (K := K) (h25.ext e31) xq) ht35 (by rw [List.getD_eq_getElem?_getD, List.getElem?_take_of_lt xq, ← List.getD_eq_getElem?_getD]; exact (Nt.trim_co l 0).symm))⟩⟩
     omega
    ·replace hb21 : (decide ((0 : Int) < (n : Int))) = false := hb21
     have qhb21 := of_decide_eq_false hb21
     refine zyc (zzp (zzd ?_))
     have hp36 : PolN u20 ⟨none, 0, 0⟩ (Nt.trimQ l) K := by have h9 : Nt.trimQ l = [] := List.eq_nil_of_length_eq_zero (by skip; omega); rw [h9]; exact pol_nil _ _
     refine zzf (zza 36 (.v (.slice none 0 0)) (zza 2 (.v (.slice none 0 0)) (zzb (zzo (ret0 [.slice none 0 0] ⟨zzq, trivial⟩ fun u37 e38 => ?_)))))
     refine ⟨⟨none, 0, 0⟩, rfl, ?_⟩
     exact (hp36.ext e38)
   ·change SW _ _ _ _ (St.of 37 [(4, .slc 34 0 i cp), (24, .v (.slice x.a n x.c)), (25, .v (.int .i64 (n : Int))), (26, .v (.int .i64 (i : Int)))] [(34, ⟨74, cs⟩)]) _ _
    refine sq9 (zza 27 (zB (decide ((i : Int) < (n : Int)))) (zzb (zzd (zzu (b := decide ((i : Int) < (n : Int))) xj (fun hb39 => ?_) (fun hb39 => ?_)))))
    ·replace hb39 : (decide ((i : Int) < (n : Int))) = true := hb39
     have qhb39 := of_decide_eq_true hb39
     refine zzs (zzp ?_)
     refine zzd (zzt (sq9 ?_))
     have hl40 := ((pol_take (hx.ext (e11.trans (e14.trans g16.ext))) xq).ext e20).len
     change n = _ at hl40
     obtain ⟨r40, b40, o40, hA40, hc40, hr40⟩ := pol_at ((pol_take (hx.ext (e11.trans (e14.trans g16.ext))) xq).ext e20) (i := i) xq
     refine zya 28 (o40 + i * 3) (n := n) (off := o40) (sz := 3) (i := (i : Int)) xq hA40 xq xq sl40 (zym 29 r40.cs hc40 ty74 (zzk 6 ⟨74, [.bool false, .slice none 0 0, .slice none 0 0]⟩ (zzj ⟨74, r40.cs⟩ ty74 ?_)))
     refine zzb (zzf (zza 30 (.slc 34 0 i cp) (zzi 31 (.v (r40.v)) ty74 zze (zzg 32 133 [r40.v] ?_))))
     intro w41 u41 e41 d41
     have k46 := k_rqTrim d41 (hr40.ext e41) xq
     with_reducible refine zPm k46 ?_
     rintro _ u44 g45 ⟨r42, rfl, h43⟩
     refine zxy 33 ⟨74, r42.cs⟩ 1 (fun b47 u48 e49 h50 => ?_)
     have hp51 : PolN u48 (⟨some ⟨b47, 0, none⟩, 1, 1⟩ : Sl) [((l.take n).getD i 0)] K := pol_lit (L := [r42]) h50 (rats1 (h43.ext e49)) rfl yq
     refine sy_app1 34 (T := 40) (E := 74) (z := .agg #[.bool false, .slice none 0 0, .slice none 0 0]) (size := 3) (bytes := 56) (b := b47) (off := 0) (m := 1) (n := i) (cap := cp) (t := 34) (cs0 := cs) [4, 30, 34] r42.cs xj xj xj yq rfl (lit_news ((Ext.refl _).cells h50)) (rl_one r42) yq yv xq xq xq xq xk ?_
     intro c52 cs52 ha52 hb52 hc52 hd52
     have hd52r : cs52.take ((i + 1) * 3) = rcs (L ++ [r42]) := by rw [hd52, ht, rcs_app]; rfl
     refine zza 4 (.slc 34 0 (i + 1) c52) (zzx ?_)
     refine zzp (zzf (zyq 35 (x := zI (IntKind.i64.wrap ((i : Int) + 1))) (zI (i + 1 : Nat)) (eqI xw) (zza 26 (zI (i + 1 : Nat)) (zzx ?_))))
     have ht53 : i < (Nt.trimQ l).length := by skip; omega
     refine ⟨_, ?_, _, by exact zzv _ _ _, .inr ⟨i + 1, L ++ [r42], cs52, c52, rfl, by omega, by omega, by simp; omega, hc52, by omega, hb52, hd52r, rfl, (e20.trans (e41.trans (g45.ext.trans e49))), (app_next (hR.ext (e41.trans (g45.ext.trans e49))) (RatN.more (K := K) (h43.ext e49) xq) ht53 (by rw [List.getD_eq_getElem?_getD, List.getElem?_take_of_lt xq, ← List.getD_eq_getElem?_getD]; exact (Nt.trim_co l i).symm))⟩⟩
     omega
    ·replace hb39 : (decide ((i : Int) < (n : Int))) = false := hb39
     have qhb39 := of_decide_eq_false hb39
     refine zyc (zzp (zzd (zyp (r := 4) (t := 34) [4, 34] xk xj (by rfl) (by rfl) xj (fun b55 u56 e57 hb58 hh59 => ?_))))
     have hp54 : PolN u56 ⟨some ⟨b55, 0, none⟩, i, cp⟩ (Nt.trimQ l) K := by have h8 := pol_data hh59 ht hc hle hmx (hR.ext e57); rw [List.take_of_length_le (l := Nt.trimQ l) (by skip; omega)] at h8; exact h8
     refine zzf (zza 36 (.v (.slice (some ⟨b55, 0, none⟩) i cp)) (zza 2 (.v (.slice (some ⟨b55, 0, none⟩) i cp)) (zzb (zzo (ret0 [.slice (some ⟨b55, 0, none⟩) i cp] ⟨zzq, trivial⟩ fun u60 e61 => ?_)))))
     refine ⟨(⟨some ⟨b55, 0, none⟩, i, cp⟩ : Sl), rfl, ?_⟩
     exact (hp54.ext e61)
 ·refine zyq 11 (x := zB (decide ((0 : Int) < (n : Int)))) (zB false) (by rw [hs12]) ?_
  have qhs12 := of_decide_eq_false hs12
  refine zzn 12 (uw 2 true false 11) (zzn 13 (uw 2 true false 11) (zzn 14 (uw 2 true false 11) (zzn 15 (uw 2 true false 11) (zzn 16 (uw 2 true false 11) (zzn 17 (uw 2 true false 11) (zzn 18 (uw 2 true false 11) (zza 19 (zB false) (zzb (zys xj (zyc (zzp ?_)))))))))))
  refine zzd ?_
  have he9 := Nt.trim_len_of (l := l) hn hz (fun h => absurd h xq)
  clear hz
  refine zzf (zza 4 (.v (.slice none 0 0)) (zzb (zzd (sq9 (zza 22 (.v x.v) (zza 23 (zI n) ?_))))))
  have hl62 := (hx.ext e11).len
  have hc62 := (hx.ext e11).cap
  refine sy_front 24 (n := x.n) (c := x.c) n sl40 rfl xq ?_
  refine zza 25 (zI n) (zza 26 (zI 0) (zzb (zzt (zyn (I := fun m63 S' u' => (m63 = n ∧ S' = St.of 37 [(4, .v (.slice none 0 0)), (24, .v (.slice x.a n x.c)), (25, zI n), (26, zI 0)] [] ∧ Ext u11 u') ∨ (∃ (i : Nat) (L : List RL) (cs : List Value) (cp : Nat), m63 = n - i ∧ i ≤ n ∧ 0 < i ∧ L.length = i ∧ cs.length = cp * 3 ∧ i ≤ cp ∧ cp ≤ maxLen ∧ cs.take (i * 3) = rcs L ∧ S' = St.of 37 [(4, .slc 34 0 i cp), (24, .v (.slice x.a n x.c)), (25, zI n), (26, zI i)] [(34, ⟨74, cs⟩)] ∧ Ext u11 u' ∧ RatsN u' L ((Nt.trimQ l).take i) K)) (fun m S u1 u2 e h => by rcases h with ⟨a, b, c⟩ | ⟨a1, a2, a3, a4, b1, b2, b3, b4, b5, b6, b7, b8, b9, b10, b11⟩; exact .inl ⟨a, b, c.trans e⟩; exact .inr ⟨a1, a2, a3, a4, b1, b2, b3, b4, b5, b6, b7, b8, b9, b10.trans e, b11.ext e⟩) _ yj (.inl ⟨rfl, rfl, Ext.refl _⟩) ?_))))
  rintro m63 _ u63 (⟨hm63, rfl, e63⟩ | ⟨i, L, cs, cp, hm63, hi, hp, hL, hc, hle, hmx, ht, rfl, e63, hR⟩)
  ·change SW _ _ _ _ (St.of 37 [(4, .v (.slice none 0 0)), (24, .v (.slice x.a n x.c)), (25, .v (.int .i64 (n : Int))), (26, .v (.int .i64 0))] []) _ _
   refine sq9 (zza 27 (zB (decide ((0 : Int) < (n : Int)))) (zzb (zzd (zzu (b := decide ((0 : Int) < (n : Int))) xj (fun hb64 => ?_) (fun hb64 => ?_)))))
   ·replace hb64 : (decide ((0 : Int) < (n : Int))) = true := hb64
    have qhb64 := of_decide_eq_true hb64
    refine zzs (zzp ?_)
    refine zzd (zzt (sq9 ?_))
    have hl65 := ((pol_take (hx.ext e11) xq).ext e63).len
    change n = _ at hl65
    obtain ⟨r65, b65, o65, hA65, hc65, hr65⟩ := pol_at ((pol_take (hx.ext e11) xq).ext e63) (i := 0) xq
    refine zya 28 (o65 + 0 * 3) (n := n) (off := o65) (sz := 3) (i := 0) xq hA65 xq xq sl40 (zym 29 r65.cs hc65 ty74 (zzk 6 ⟨74, [.bool false, .slice none 0 0, .slice none 0 0]⟩ (zzj ⟨74, r65.cs⟩ ty74 ?_)))
    refine zzb (zzf (zza 30 (.v (.slice none 0 0)) (zzi 31 (.v (r65.v)) ty74 zze (zzg 32 133 [r65.v] ?_))))
    intro w66 u66 e66 d66
    have k71 := k_rqTrim d66 (hr65.ext e66) xq
    with_reducible refine zPm k71 ?_
    rintro _ u69 g70 ⟨r67, rfl, h68⟩
    refine zxy 33 ⟨74, r67.cs⟩ 1 (fun b72 u73 e74 h75 => ?_)
    have hp76 : PolN u73 (⟨some ⟨b72, 0, none⟩, 1, 1⟩ : Sl) [((l.take n).getD 0 0)] K := pol_lit (L := [r67]) h75 (rats1 (h68.ext e74)) rfl yq
    refine sy_app0 34 (T := 40) (E := 74) (z := .agg #[.bool false, .slice none 0 0, .slice none 0 0]) (size := 3) (bytes := 56) (b := b72) (off := 0) (m := 1) r67.cs xj xj xj yq rfl (lit_news ((Ext.refl _).cells h75)) (rl_one r67) yq yq yq ?_
    intro c77 cs77 ha77 hb77 hc77 hd77
    refine zza 4 (.slc 34 0 1 c77) (zzx ?_)
    refine zzp (zzf (zza 35 (zI 1) (zza 26 (zI 1) (zzx ?_))))
    have ht78 : 0 < (Nt.trimQ l).length := by skip; omega
    refine ⟨_, ?_, _, by exact zzv _ _ _, .inr ⟨1, [r67], cs77, c77, rfl, by omega, by omega, by simp, hc77, by omega, hb77, hd77, rfl, (e63.trans (e66.trans (g70.ext.trans e74))), (app_first (RatN.more (K := K) (h68.ext e74) xq) ht78 (by rw [List.getD_eq_getElem?_getD, List.getElem?_take_of_lt xq, ← List.getD_eq_getElem?_getD]; exact (Nt.trim_co l 0).symm))⟩⟩
    omega
   ·replace hb64 : (decide ((0 : Int) < (n : Int))) = false := hb64
    have qhb64 := of_decide_eq_false hb64
    refine zyc (zzp (zzd ?_))
    have hp79 : PolN u63 ⟨none, 0, 0⟩ (Nt.trimQ l) K := by have h9 : Nt.trimQ l = [] := List.eq_nil_of_length_eq_zero (by skip; omega); rw [h9]; exact pol_nil _ _
    refine zzf (zza 36 (.v (.slice none 0 0)) (zza 2 (.v (.slice none 0 0)) (zzb (zzo (ret0 [.slice none 0 0] ⟨zzq, trivial⟩ fun u80 e81 => ?_)))))
    refine ⟨⟨none, 0, 0⟩, rfl, ?_⟩
    exact (hp79.ext e81)
  ·change SW _ _ _ _ (St.of 37 [(4, .slc 34 0 i cp), (24, .v (.slice x.a n x.c)), (25, .v (.int .i64 (n : Int))), (26, .v (.int .i64 (i : Int)))] [(34, ⟨74, cs⟩)]) _ _
   refine sq9 (zza 27 (zB (decide ((i : Int) < (n : Int)))) (zzb (zzd (zzu (b := decide ((i : Int) < (n : Int))) xj (fun hb82 => ?_) (fun hb82 => ?_)))))
   ·replace hb82 : (decide ((i : Int) < (n : Int))) = true := hb82
    have qhb82 := of_decide_eq_true hb82
    refine zzs (zzp ?_)
    refine zzd (zzt (sq9 ?_))
    have hl83 := ((pol_take (hx.ext e11) xq).ext e63).len
    change n = _ at hl83
    obtain ⟨r83, b83, o83, hA83, hc83, hr83⟩ := pol_at ((pol_take (hx.ext e11) xq).ext e63) (i := i) xq
    refine zya 28 (o83 + i * 3) (n := n) (off := o83) (sz := 3) (i := (i : Int)) xq hA83 xq xq sl40 (zym 29 r83.cs hc83 ty74 (zzk 6 ⟨74, [.bool false, .slice none 0 0, .slice none 0 0]⟩ (zzj ⟨74, r83.cs⟩ ty74 ?_)))
    refine zzb (zzf (zza 30 (.slc 34 0 i cp) (zzi 31 (.v (r83.v)) ty74 zze (zzg 32 133 [r83.v] ?_))))
    intro w84 u84 e84 d84
    have k89 := k_rqTrim d84 (hr83.ext e84) xq
    with_reducible refine zPm k89 ?_
    rintro _ u87 g88 ⟨r85, rfl, h86⟩
    refine zxy 33 ⟨74, r85.cs⟩ 1 (fun b90 u91 e92 h93 => ?_)
    have hp94 : PolN u91 (⟨some ⟨b90, 0, none⟩, 1, 1⟩ : Sl) [((l.take n).getD i 0)] K := pol_lit (L := [r85]) h93 (rats1 (h86.ext e92)) rfl yq
    refine sy_app1 34 (T := 40) (E := 74) (z := .agg #[.bool false, .slice none 0 0, .slice none 0 0]) (size := 3) (bytes := 56) (b := b90) (off := 0) (m := 1) (n := i) (cap := cp) (t := 34) (cs0 := cs) [4, 30, 34] r85.cs xj xj xj yq rfl (lit_news ((Ext.refl _).cells h93)) (rl_one r85) yq yv xq xq xq xq xk ?_
    intro c95 cs95 ha95 hb95 hc95 hd95
    have hd95r : cs95.take ((i + 1) * 3) = rcs (L ++ [r85]) := by rw [hd95, ht, rcs_app]; rfl
    refine zza 4 (.slc 34 0 (i + 1) c95) (zzx ?_)
    refine zzp (zzf (zyq 35 (x := zI (IntKind.i64.wrap ((i : Int) + 1))) (zI (i + 1 : Nat)) (eqI xw) (zza 26 (zI (i + 1 : Nat)) (zzx ?_))))
    have ht96 : i < (Nt.trimQ l).length := by skip; omega
    refine ⟨_, ?_, _, by exact zzv _ _ _, .inr ⟨i + 1, L ++ [r85], cs95, c95, rfl, by omega, by omega, by simp; omega, hc95, by omega, hb95, hd95r, rfl, (e63.trans (e84.trans (g88.ext.trans e92))), (app_next (hR.ext (e84.trans (g88.ext.trans e92))) (RatN.more (K := K) (h86.ext e92) xq) ht96 (by rw [List.getD_eq_getElem?_getD, List.getElem?_take_of_lt xq, ← List.getD_eq_getElem?_getD]; exact (Nt.trim_co l i).symm))⟩⟩
    omega
   ·replace hb82 : (decide ((i : Int) < (n : Int))) = false := hb82
    have qhb82 := of_decide_eq_false hb82
    refine zyc (zzp (zzd (zyp (r := 4) (t := 34) [4, 34] xk xj (by rfl) (by rfl) xj (fun b98 u99 e100 hb101 hh102 => ?_))))
    have hp97 : PolN u99 ⟨some ⟨b98, 0, none⟩, i, cp⟩ (Nt.trimQ l) K := by have h8 := pol_data hh102 ht hc hle hmx (hR.ext e100); rw [List.take_of_length_le (l := Nt.trimQ l) (by skip; omega)] at h8; exact h8
    refine zzf (zza 36 (.v (.slice (some ⟨b98, 0, none⟩) i cp)) (zza 2 (.v (.slice (some ⟨b98, 0, none⟩) i cp)) (zzb (zzo (ret0 [.slice (some ⟨b98, 0, none⟩) i cp] ⟨zzq, trivial⟩ fun u103 e104 => ?_)))))
    refine ⟨(⟨some ⟨b98, 0, none⟩, i, cp⟩ : Sl), rfl, ?_⟩
    exact (hp97.ext e104)
set_option maxHeartbeats 1000000 in
theorem k_sameList {u w : World} {x : Sl} {l : List Rat} {y : Sl} {m : List Rat} {K M : Nat} (d : Dat u w) (hx : PolN u x l K) (hy : PolN u y m M) (hx9 : l.length ≤ 1000000000) (hy9 : m.length ≤ 1000000000) : Calls Tryz.prog 131 #[x.v, y.v] w (Post u w fun v u' => v = .bool (decide (l = m))) := by
 have hlen := hx.len
 have hlen2 := hy.len
 refine zzm (args := [.slice x.a x.n x.c, .slice y.a y.n y.c]) Tryz.func131 rfl Tryz.ntmps131 (rs := [.tmp 4]) Tryz.results131 (le_b rfl) (le_b rfl) d ?_
 refine sq9 (zza 4 (zB false) (zzb (zzd (sq9 (zza 6 (.v x.v) (zza 7 (zI x.n) (zza 8 (.v y.v) (zza 9 (zI y.n) (zza 10 (zB ((x.n : Int) != (y.n : Int))) (zzb (zzu (b := (x.n : Int) != (y.n : Int)) xj (fun hb11 => ?_) (fun hb11 => ?_))))))))))))
 ·replace hb11 : ((x.n : Int) != (y.n : Int)) = true := hb11
  refine sq9 (zza 4 (zB false) (zzb (zzo (zzw (ret0 [.bool false] ⟨zzq, trivial⟩ fun u12 e13 => ?_)))))
  have e9 : l ≠ m := by intro e; have h9 := congrArg List.length e; have h8 := hb11; simp at h8; omega
  show Value.bool false = Value.bool _
  rw [decide_eq_false e9]
 ·replace hb11 : ((x.n : Int) != (y.n : Int)) = false := hb11
  have hnn : x.n = y.n := by have h9 : (x.n : Int) = (y.n : Int) := (by simpa using hb11); omega
  refine zzs (zzp ?_)
  refine zzd (sq9 (zza 5 (zI 0) (zzb (zzt (zyn (I := fun m14 S' u' => ∃ (i : Nat), (m14 = x.n - i) ∧ (i ≤ x.n) ∧ (∀ j, j < i → l.getD j 0 = m.getD j 0) ∧ (S' = St.of 27 [(0, .v (.slice x.a x.n x.c)), (1, .v (.slice y.a y.n y.c)), (5, zI i)] []) ∧ (Ext u u')) (fun m S u1 u2 e h => by obtain ⟨i, hm, p0, p1, hS, hE⟩ := h; exact ⟨i, hm, p0, p1, hS, hE.trans e⟩) _ yj ⟨0, rfl, by omega, fun j hj => by omega, rfl, (Ext.refl _)⟩ ?_)))))
  rintro m14 _ u14 ⟨i, hm14, hi, hz, rfl, e14⟩
  refine zzd (sq9 (zza 11 (zI i) (zza 12 (.v x.v) (zza 13 (zI x.n) (zza 14 (zB (decide ((i : Int) < (x.n : Int)))) (zzb (zzu (b := decide ((i : Int) < (x.n : Int))) xj (fun hb15 => ?_) (fun hb15 => ?_))))))))
  ·replace hb15 : (decide ((i : Int) < (x.n : Int))) = true := hb15
   have qhb15 := of_decide_eq_true hb15
   refine zzs (zzp ?_)
   refine zzd (zzt (zzd (zzz [0, 0, 3, 7, 0, 0, 48, 112, 255, 511] [(0, []), (1, []), (2, []), (3, []), (4, []), (5, []), (6, []), (7, []), (8, []), (9, [])] xj xj (zza 17 (.v x.v) (zza 18 (zI i) ?_)))))
   have hl16 := (hx.ext e14).len
   obtain ⟨r16, b16, o16, hA16, hc16, hr16⟩ := pol_atN (hx.ext e14) (i := i) xq
   refine zya 19 (o16 + i * 3) (n := x.n) (off := o16) (sz := 3) (i := (i : Int)) xq hA16 xq xq sl39 (zym 20 r16.cs hc16 ty74 (zza 21 (.v y.v) (zza 22 (zI i) ?_)))
   have hl17 := (hy.ext e14).len
   obtain ⟨r17, b17, o17, hA17, hc17, hr17⟩ := pol_atN (hy.ext e14) (i := i) xq
   refine zya 23 (o17 + i * 3) (n := y.n) (off := o17) (sz := 3) (i := (i : Int)) xq hA17 xq xq sl39 (zym 24 r17.cs hc17 ty74 (zzg 25 160 [r16.v, r17.v] ?_))
   intro w18 u18 e18 d18
   have k21 := k_rqSame d18 (hr16.ext e18) (hr17.ext e18)
   with_reducible refine zPm k21 ?_
   rintro _ u19 g20 rfl
   refine zza 26 (zB (!(decide ((l.getD i 0) = (m.getD i 0))))) (zzb (zzu (b := !(decide ((l.getD i 0) = (m.getD i 0)))) xj (fun hb22 => ?_) (fun hb22 => ?_)))
   ·replace hb22 : (!(decide ((l.getD i 0) = (m.getD i 0)))) = true := hb22
    refine sq9 (zza 4 (zB false) (zzb (zzo (zyu (zzw (zyt (zyu (zzw (ret0 [.bool false] ⟨zzq, trivial⟩ fun u23 e24 => ?_)))))))))
    have e9 : l ≠ m := by intro e; have h9 := hb22; rw [e] at h9; simp at h9
    show Value.bool false = Value.bool _
    rw [decide_eq_false e9]
   ·replace hb22 : (!(decide ((l.getD i 0) = (m.getD i 0)))) = false := hb22
    refine zzs (zzp ?_)
    refine zzf (zza 15 (zI i) (zyq 16 (x := zI (IntKind.i64.wrap ((i : Int) + 1))) (zI (i + 1 : Nat)) (eqI xw) (zza 5 (zI (i + 1 : Nat)) (zzx ?_))))
    refine ⟨_, ?_, _, by exact zzv _ _ _, i + 1, rfl, by omega, (fun j hj => by by_cases e : j = i; (rw [e]; have h9 := hb22; simpa using h9); exact hz j xq), rfl, (e14.trans (e18.trans g20.ext))⟩
    omega
  ·replace hb15 : (decide ((i : Int) < (x.n : Int))) = false := hb15
   have qhb15 := of_decide_eq_false hb15
   refine zyc (zzp (sq9 (zza 4 (zB true) (zzb (zzo (ret0 [.bool true] ⟨zzq, trivial⟩ fun u25 e26 => ?_))))))
   have e9 : l = m := Nt.list_ext xq (fun j => by by_cases hj : j < i; exact hz j hj; rw [Nt.co_ge xq, Nt.co_ge xq])
   show Value.bool true = Value.bool _
   rw [decide_eq_true e9]
theorem k_r5Equal {u w : World} {x : Sl} {l : List Rat} {y : Sl} {m : List Rat} {K M : Nat} (d : Dat u w) (hx : PolN u x l K) (hy : PolN u y m M) (hx9 : l.length ≤ 1000000000) (hy9 : m.length ≤ 1000000000) : Calls Tryz.prog 91 #[x.v, y.v] w (Post u w fun v u' => v = .bool (decide (l = m))) := by
 have hlen := hx.len
 have hlen2 := hy.len
 refine zzm (args := [.slice x.a x.n x.c, .slice y.a y.n y.c]) Tryz.func91 rfl Tryz.ntmps91 (rs := [.tmp 4]) Tryz.results91 (le_b rfl) (le_b rfl) d ?_
 refine sq9 (zza 4 (zB false) (zzb (sq9 (zza 5 (.v x.v) (zza 6 (.v y.v) (zzg 7 131 [x.v, y.v] ?_))))))
 intro w11 u11 e11 d11
 have k14 := k_sameList d11 (hx.ext e11) (hy.ext e11) xz xz
 with_reducible refine zPm k14 ?_
 rintro _ u12 g13 rfl
 refine zza 4 (zB (decide (l = m))) (zzb (zzo (ret0 [.bool (decide (l = m))] ⟨zzq, trivial⟩ fun u15 e16 => ?_)))
 rfl
set_option maxHeartbeats 1000000 in
theorem k_r5Same {u w : World} {x : Sl} {l : List Rat} {y : Sl} {m : List Rat} {K M : Nat} (d : Dat u w) (hx : PolV u x l K) (hy : PolV u y m M) (hK : K ≤ 40000000) (hM : M ≤ 40000000) (hx9 : l.length ≤ 1000000000) (hy9 : m.length ≤ 1000000000) : Calls Tryz.prog 49 #[x.v, y.v] w (Post u w fun v u' => v = .bool (decide (Nt.trimQ l = Nt.trimQ m))) := by
 have hlen := hx.len
 have hlen2 := hy.len
 have htl := Nt.zzh l
 have htm := Nt.zzh m
 refine zzm (args := [.slice x.a x.n x.c, .slice y.a y.n y.c]) Tryz.func49 rfl Tryz.ntmps49 (rs := [.tmp 4]) Tryz.results49 (le_b rfl) (le_b rfl) d ?_
 refine sq9 (zza 4 (zB false) (zzb (sq9 (zza 5 (.v x.v) (zzg 6 92 [x.v] ?_)))))
 intro w11 u11 e11 d11
 have k16 := k_r5Trim d11 (hx.ext e11) xq xz
 with_reducible refine zPm k16 ?_
 rintro _ u14 g15 ⟨y12, rfl, h13⟩
 have hly12 := h13.len
 refine zza 7 (.v y.v) (zzg 8 92 [y.v] ?_)
 intro w17 u17 e17 d17
 have k22 := k_r5Trim d17 (hy.ext (e11.trans (g15.ext.trans e17))) xq xz
 with_reducible refine zPm k22 ?_
 rintro _ u20 g21 ⟨y18, rfl, h19⟩
 have hly18 := h19.len
 refine zzg 9 91 [y12.v, y18.v] ?_
 intro w23 u23 e23 d23
 have k26 := k_r5Equal d23 (h13.ext (e17.trans (g21.ext.trans e23))) (h19.ext e23) xz xz
 with_reducible refine zPm k26 ?_
 rintro _ u24 g25 rfl
 refine zza 4 (zB (decide ((Nt.trimQ l) = (Nt.trimQ m)))) (zzb (zzo (ret0 [.bool (decide ((Nt.trimQ l) = (Nt.trimQ m)))] ⟨zzq, trivial⟩ fun u27 e28 => ?_)))
 rfl
theorem k_mode {u w : World} {r : Int} (d : Dat u w) (h1 : 1 ≤ r) (h2 : r ≤ 3) : Calls Tryz.prog 98 #[.int .i64 r] w (Post u w fun v _ => v = .bool true) := by
 refine zzm (args := [.int .i64 r]) Tryz.func98 rfl Tryz.ntmps98 (rs := [.tmp 2]) Tryz.results98 (le_b rfl) (le_b rfl) d ?_
 refine sq9 (zza 2 (zB false) (zzb (sq9 (zza 3 (zI r) (zza 4 (zB (decide ((1 : Int) ≤ r))) (zyq 5 (x := zB (decide ((1 : Int) ≤ r))) (zB true) (by rw [show (decide ((1 : Int) ≤ r)) = true from decide_eq_true xq]) (zza 6 (zI r) ?_ (hw := w1 2 true 5))))))))
 refine zza 7 (zB (decide (r ≤ 3))) ?_ (hw := w1 2 true 5)
 refine zza 8 (zB (decide (r ≤ 3))) (zza 2 (zB (decide (r ≤ 3))) (zzb (zzo (ret0 [.bool (decide (r ≤ 3))] ⟨zzq, trivial⟩ fun u12 e13 => ?_))))
 show Value.bool _ = Value.bool _
 rw [show (decide (r ≤ 3)) = true from decide_eq_true xq]
theorem k_fxValid {u w : World} {W : WL} (d : Dat u w) (hW : WdOK W) : Calls Tryz.prog 54 #[W.v] w (Post u w fun v _ => v = .bool true) := by
 obtain ⟨hw1, hw2, hw3, hw4, hw5, hw6, hw7, hw8⟩ := id hW
 refine zzm (args := [.agg #[.int .i64 W.b, .int .i64 W.f, .int .i64 W.r, .int .i64 W.o]]) Tryz.func54 rfl Tryz.ntmps54 (rs := [.tmp 2]) Tryz.results54 (le_b rfl) (le_b rfl) d ?_
 refine sq9 (zzk 1 ⟨34, W.cs⟩ (zza 2 (zB false) (zzb (zzd (sq9 (zza 3 (.adr 1 0) (zzi 4 (zI W.b) ty3 zzl (zza 5 (zB (decide (W.b < 4))) (zyq 6 (x := zB (decide (W.b < 4))) (zB false) (by rw [show (decide (W.b < 4)) = false from decide_eq_false xq]) (zza 7 (.adr 1 0) ?_ (hw := w1 3 false 6)))))))))))
 refine zzi 8 (zI W.b) ty3 zzl ?_ (hw := w1 3 false 6)
 refine zza 9 (zB (decide ((24 : Int) < W.b))) ?_ (hw := w1 3 false 6)
 refine zza 10 (zB (decide ((24 : Int) < W.b))) (zyq 11 (x := zB (decide ((24 : Int) < W.b))) (zB false) (by rw [show (decide ((24 : Int) < W.b)) = false from decide_eq_false xq]) (zza 12 (.adr 1 1) ?_ (hw := w1 8 false 11)))
 refine zzi 13 (zI W.f) ty3 zzl ?_ (hw := w1 8 false 11)
 refine zza 14 (zB (decide (W.f < 0))) ?_ (hw := w1 8 false 11)
 refine zza 15 (zB (decide (W.f < 0))) (zyq 16 (x := zB (decide (W.f < 0))) (zB false) (by rw [show (decide (W.f < 0)) = false from decide_eq_false xq]) (zza 17 (.adr 1 1) ?_ (hw := w1 13 false 16)))
 refine zzi 18 (zI W.f) ty3 zzl ?_ (hw := w1 13 false 16)
 refine zza 19 (.adr 1 0) ?_ (hw := w1 13 false 16)
 refine zzi 20 (zI W.b) ty3 zzl ?_ (hw := w1 13 false 16)
 refine zza 21 (zB (decide (W.b ≤ W.f))) ?_ (hw := w1 13 false 16)
 refine zza 22 (zB (decide (W.b ≤ W.f))) (zzb (zzu (b := decide (W.b ≤ W.f)) xj (fun hb => ?_) (fun hb => ?_)))
 ·exact absurd hb (by rw [show (decide (W.b ≤ W.f)) = false from decide_eq_false xq]; decide)
 ·clear hb
  refine zzs (zzp ?_)
  refine sq9 (zza 23 (.adr 1 2) (zzi 24 (zI W.r) ty3 zzl (zzg 25 98 [.int .i64 W.r] ?_)))
  intro w14 u14 e14 d14
  have k17 := k_mode (r := W.r) d14 xq xq
  with_reducible refine zPm k17 ?_
  rintro _ u15 g16 rfl
  refine zza 26 (zB true) (zza 27 (.adr 1 3) ?_ (hw := w1 3 true 26))
  refine zzi 28 (zI W.o) ty3 zzl ?_ (hw := w1 3 true 26)
  refine zza 29 (zB (W.o == 1)) ?_ (hw := w1 3 true 26)
  rcases Bool.eq_false_or_eq_true (W.o == 1) with hs18 | hs18
  ·refine zyq 30 (x := zB (W.o == 1)) (zB true) (by rw [hs18]) ?_ (hw := w1 3 true 26)
   refine zzn 31 (uw 7 false true 30) (zzn 32 (uw 7 false true 30) (zzn 33 (uw 7 false true 30) (zza 34 (zB true) ?_ (hw := w1 3 true 26))))
   refine zza 35 (zB true) (zza 2 (zB true) (zzc 36 [(2, zB true)] [] (zzo (ret0 [.bool true] ⟨zzq, trivial⟩ fun u19 e20 => ?_))))
   rfl
  ·refine zyq 30 (x := zB (W.o == 1)) (zB false) (by rw [hs18]) ?_ (hw := w1 3 true 26)
   refine zza 31 (.adr 1 3) ?_ (hw := w1 7 false 30)
   refine zzi 32 (zI W.o) ty3 zzl ?_ (hw := w1 7 false 30)
   refine zza 33 (zB (W.o == 2)) ?_ (hw := w1 7 false 30)
   refine zza 34 (zB (W.o == 2)) ?_ (hw := w1 3 true 26)
   refine zza 35 (zB (W.o == 2)) (zza 2 (zB (W.o == 2)) (zzc 36 [(2, zB (W.o == 2))] [] (zzo (ret0 [.bool (W.o == 2)] ⟨zzq, trivial⟩ fun u21 e22 => ?_))))
   show Value.bool _ = Value.bool _
   rw [show (W.o == 2) = true from (by have hz := hs18; simp at hz ⊢; omega)]
theorem k_fxLow {u w : World} {W : WL} (d : Dat u w) (hW : WdOK W) : Calls Tryz.prog 126 #[W.v] w (Post u w fun v _ => v = .int .i64 (-Nt.p2i (W.b - 1))) := by
 obtain ⟨hw1, hw2, hw3, hw4, hw5, hw6, hw7, hw8⟩ := id hW
 have hp1 := Nt.zxp (W.b - 1)
 have hp2 := Nt.p2i_24 (n := W.b - 1) xq
 refine zzm (args := [.agg #[.int .i64 W.b, .int .i64 W.f, .int .i64 W.r, .int .i64 W.o]]) Tryz.func126 rfl Tryz.ntmps126 (rs := [.tmp 2]) Tryz.results126 (le_b rfl) (le_b rfl) d ?_
 refine sq9 (zzk 1 ⟨34, W.cs⟩ (zza 2 (zI 0) (zzb (zzd (sq9 (zzi 3 (.v (W.v)) ty34 zze (zzg 4 54 [W.v] ?_)))))))
 intro w11 u11 e11 d11
 have k14 := k_fxValid (W := W) d11 hW
 with_reducible refine zPm k14 ?_
 rintro _ u12 g13 rfl
 refine zza 5 (zB false) (zzb (zys xj (zzs (zzp ?_))))
 refine sq9 (zza 6 (.adr 1 0) (zzi 7 (zI W.b) ty3 zzl (zyq 8 (x := zI (IntKind.i64.wrap (W.b - 1))) (zI (W.b - 1)) yz (sy_shl 9 (k := .i64) (s := W.b - 1) (Nt.p2i (W.b - 1)) xq (by show _ ≤ (64 : Int); omega) (shl_one xq xq) ?_))))
 refine zyq 10 (x := zI (IntKind.i64.wrap (0 - Nt.p2i (W.b - 1)))) (zI (-Nt.p2i (W.b - 1))) (by rw [show (IntKind.i64.wrap (0 - Nt.p2i (W.b - 1))) = (-Nt.p2i (W.b - 1)) from xw]) (zza 2 (zI (-Nt.p2i (W.b - 1))) (zzb (zzo (ret0 [.int .i64 (-Nt.p2i (W.b - 1))] ⟨zzq, trivial⟩ fun u15 e16 => ?_))))
 rfl
theorem k_fxHigh {u w : World} {W : WL} (d : Dat u w) (hW : WdOK W) : Calls Tryz.prog 127 #[W.v] w (Post u w fun v _ => v = .int .i64 (Nt.p2i (W.b - 1) - 1)) := by
 obtain ⟨hw1, hw2, hw3, hw4, hw5, hw6, hw7, hw8⟩ := id hW
 have hp1 := Nt.zxp (W.b - 1)
 have hp2 := Nt.p2i_24 (n := W.b - 1) xq
 refine zzm (args := [.agg #[.int .i64 W.b, .int .i64 W.f, .int .i64 W.r, .int .i64 W.o]]) Tryz.func127 rfl Tryz.ntmps127 (rs := [.tmp 2]) Tryz.results127 (le_b rfl) (le_b rfl) d ?_
 refine sq9 (zzk 1 ⟨34, W.cs⟩ (zza 2 (zI 0) (zzb (zzd (sq9 (zzi 3 (.v (W.v)) ty34 zze (zzg 4 54 [W.v] ?_)))))))
 intro w11 u11 e11 d11
 have k14 := k_fxValid (W := W) d11 hW
 with_reducible refine zPm k14 ?_
 rintro _ u12 g13 rfl
 refine zza 5 (zB false) (zzb (zys xj (zzs (zzp ?_))))
 refine sq9 (zza 6 (.adr 1 0) (zzi 7 (zI W.b) ty3 zzl (zyq 8 (x := zI (IntKind.i64.wrap (W.b - 1))) (zI (W.b - 1)) yz (sy_shl 9 (k := .i64) (s := W.b - 1) (Nt.p2i (W.b - 1)) xq (by show _ ≤ (64 : Int); omega) (shl_one xq xq) ?_))))
 refine zyq 10 (x := zI (IntKind.i64.wrap ((Nt.p2i (W.b - 1)) - 1))) (zI ((Nt.p2i (W.b - 1)) - 1)) yz (zza 2 (zI ((Nt.p2i (W.b - 1)) - 1)) (zzb (zzo (ret0 [.int .i64 ((Nt.p2i (W.b - 1)) - 1)] ⟨zzq, trivial⟩ fun u15 e16 => ?_))))
 rfl
theorem k_fxValue {u w : World} {W : WL} {z : Int} (d : Dat u w) (hW : WdOK W) (h0 : -16777216 ≤ z) (h1 : z ≤ 16777216) : Calls Tryz.prog 47 #[W.v, .int .i64 z] w (Post u w fun v u' => ∃ r : RL, v = r.v ∧ RatN u' r (((z : Int) : Rat) / ((Nt.p2i W.f : Int) : Rat)) 2) := by
 obtain ⟨hw1, hw2, hw3, hw4, hw5, hw6, hw7, hw8⟩ := id hW
 have hp1 := Nt.zxp W.f
 have hp2 := Nt.p2i_24 (n := W.f) xq
 refine zzm (args := [.agg #[.int .i64 W.b, .int .i64 W.f, .int .i64 W.r, .int .i64 W.o], .int .i64 z]) Tryz.func47 rfl Tryz.ntmps47 (rs := [.cell 4 74]) Tryz.results47 (le_b rfl) (le_b rfl) d ?_
 refine sq9 (zzk 2 ⟨34, W.cs⟩ (zzk 4 ⟨74, [.bool false, .slice none 0 0, .slice none 0 0]⟩ (zzb (zzd (sq9 (zzi 5 (.v (W.v)) ty34 zze (zzg 6 54 [W.v] ?_)))))))
 intro w11 u11 e11 d11
 have k14 := k_fxValid (W := W) d11 hW
 with_reducible refine zPm k14 ?_
 rintro _ u12 g13 rfl
 refine zza 7 (zB false) (zzb (zys xj (zzs (zzp ?_))))
 refine sq9 (zza 9 (zI z) (zza 10 (.adr 2 1) (zzi 11 (zI W.f) ty3 zzl (sy_shl 12 (k := .i64) (s := W.f) (Nt.p2i W.f) xq (by show _ ≤ (64 : Int); omega) (shl_one xq xq) ?_))))
 refine zzg 13 73 [.int .i64 z, .int .i64 (Nt.p2i W.f)] ?_
 intro w15 u15 e15 d15
 have k20 := k_ratFrac d15 (a := z) (b := Nt.p2i W.f) xq xq xq xq
 with_reducible refine zPm k20 ?_
 rintro _ u18 g19 ⟨r16, rfl, h17⟩
 refine zzj ⟨74, r16.cs⟩ ty74 ?_
 refine zzb (zzo (ret0 [r16.v] ⟨zzr ty74 zze, trivial⟩ fun u21 e22 => ?_))
 exact ⟨r16, rfl, (h17.ext e22)⟩
theorem k_within {u w : World} {n m : Int} (d : Dat u w) (hm : 1 ≤ m) (hm2 : m ≤ 4611686018427387904) (hn0 : -9223372036854775808 ≤ n) (hn1 : n ≤ 9223372036854775807) : Calls Tryz.prog 43 #[.int .i64 n, .int .i64 m] w (Post u w fun v _ => v = .int .i64 (n % m)) := by
 refine zzm (args := [.int .i64 n, .int .i64 m]) Tryz.func43 rfl Tryz.ntmps43 (rs := [.tmp 4]) Tryz.results43 (le_b rfl) (le_b rfl) d ?_
 refine sq9 (zza 4 (zI 0) (zzb (zzd (sq9 (zza 5 (zI m) (zyq 6 (x := zB (decide (m < 1))) (zB false) (by rw [show (decide (m < 1)) = false from yw]) (zzb (zys xj (zzs (zzp ?_))))))))))
 refine sq9 (zza 7 (zI n) (zza 8 (zI m) (sy_rem 9 (Int.tmod n m) xq rfl ?_)))
 refine zza 0 (zI (Int.tmod n m)) (zzb (zzd (sq9 (zza 10 (zI (Int.tmod n m)) (zza 11 (zB (decide ((Int.tmod n m) < 0))) (zzb (zzu (b := decide ((Int.tmod n m) < 0)) xj (fun hb11 => ?_) (fun hb11 => ?_))))))))
 ·replace hb11 : (decide ((Int.tmod n m) < 0)) = true := hb11
  have qhb11 := of_decide_eq_true hb11
  refine zzf (zza 12 (zI (Int.tmod n m)) (zza 13 (zI m) (zyq 14 (x := zI (IntKind.i64.wrap (Int.tmod n m + m))) (zI (Int.tmod n m + m)) (by rw [show (IntKind.i64.wrap (Int.tmod n m + m)) = (Int.tmod n m + m) from (IntWalk.i64_in _ (by have h2 := Int.lt_tmod_of_pos n (show 0 < m by omega); have h3 := Int.tmod_lt_of_pos n (show 0 < m by omega); omega))]) (zza 0 (zI (Int.tmod n m + m)) (zzb (sq9 (zza 15 (zI (Int.tmod n m + m)) (zza 4 (zI (Int.tmod n m + m)) (zzb (zzo (ret0 [.int .i64 (Int.tmod n m + m)] ⟨zzq, trivial⟩ fun u12 e13 => ?_)))))))))))
  show Value.int _ _ = Value.int _ _
  rw [mod_neg9 m hm n hb11]
 ·replace hb11 : (decide ((Int.tmod n m) < 0)) = false := hb11
  have qhb11 := of_decide_eq_false hb11
  refine zzs (zzp ?_)
  refine sq9 (zza 15 (zI (Int.tmod n m)) (zza 4 (zI (Int.tmod n m)) (zzb (zzo (ret0 [.int .i64 (Int.tmod n m)] ⟨zzq, trivial⟩ fun u14 e15 => ?_)))))
  show Value.int _ _ = Value.int _ _
  rw [mod_pos9 m hm n hb11]
namespace Nt
end Nt
namespace Nt
def smallQ (q : Rat) : Bool := decide (absQ q < ((1 : Int) : Rat))
end Nt
namespace Nt
def divS (l : List Rat) (q : Rat) : List Rat := l.map (· / q)
def dnS (l : List Rat) (m : Nat) : List Rat := (List.range m).map fun j => (l.getD j 0 - l.getD m 0 * l.getD (m - j) 0) / (((1 : Int) : Rat) - l.getD m 0 * l.getD m 0)
structure Down (l : List Rat) (D : Nat → List Rat) (n S : Nat) : Prop where
 len : l.length = n + 1
 nz : l.getD 0 0 ≠ 0
 top : D n = divS l (l.getD 0 0)
 dlen : ∀ m, m ≤ n → (D m).length = m + 1
 step : ∀ m, m < n → D m = dnS (D (m + 1)) (m + 1)
 small : ∀ m, 1 ≤ m → m ≤ n → smallQ ((D m).getD m 0) = true
 sm : ∀ m, m ≤ n → ∃ E A, Sm (D m) E A ∧ E ≤ 2 ^ A ∧ dg A ≤ S
end Nt
theorem Nt.Down.fit {l : List Rat} {D : Nat → List Rat} {n S m K : Nat} {u : World} {x : Sl} (h : Nt.Down l D n S) (hm : m ≤ n) (hx : PolN u x (D m) K) : PolN u x (D m) S := by
 obtain ⟨E, A, h1, h2, h3⟩ := h.sm m hm
 exact (hx.fitS h1 h2).more h3
namespace Nt
end Nt
namespace Nt
end Nt
namespace Nt
end Nt
def RatsTop (u : World) (L : List RL) (l : List Rat) (s K : Nat) : Prop := ∀ j, s ≤ j → j < l.length → RatN u (L.getD j rl0) (l.getD j 0) K
theorem RatsTop.ext {u u' : World} {L : List RL} {l : List Rat} {s K : Nat} (h : RatsTop u L l s K) (e : Ext u u') : RatsTop u' L l s K := fun j h1 h2 => (h j h1 h2).ext e
theorem RatsTop.set {u : World} {L : List RL} {l : List Rat} {s s2 s3 K : Nat} {r : RL} (h : RatsTop u L l s2 K) (hs : s2 = s + 1) (hs3 : s3 = s) (hl : s < L.length) (hr : RatN u r (l.getD s 0) K) : RatsTop u (L.set s r) l s3 K := fun j h1 h2 => by
 subst hs3
 by_cases e : j = s3
 ·subst e; rw [rl_set_same hl]; exact hr
 ·have h9 := h j xq h2
  rw [List.getD_eq_getElem?_getD, List.getElem?_set_ne xq, ← List.getD_eq_getElem?_getD]
  exact h9
theorem RatsTop.none {u : World} {L : List RL} {l : List Rat} {s K : Nat} (h : l.length ≤ s) : RatsTop u L l s K := fun j h1 h2 => by omega
theorem RatsTop.done {u : World} {L : List RL} {l : List Rat} {s K : Nat} (h : RatsTop u L l s K) (hs : s = 0) (hL : L.length = l.length) : RatsN u L l K := ⟨hL, fun i hi => by
 first
 | exact h i xq hi
 | exact h i xq xq⟩
namespace Nt
end Nt
namespace Nt
end Nt
theorem ints_nil {u : World} : SlR .i64 u none 0 0 [] := ⟨rfl, Nat.le_refl _, Nat.zero_le _, fun h => absurd h (Nat.lt_irrefl 0)⟩
theorem all_nil {b : Int} : ∀ z ∈ ([] : List Int), -b ≤ z ∧ z ≤ b := fun z hz => by cases hz
theorem all_snoc {b : Int} {L : List Int} {z : Int} (h : ∀ z ∈ L, -b ≤ z ∧ z ≤ b) (h1 : -b ≤ z) (h2 : z ≤ b) : ∀ y ∈ L ++ [z], -b ≤ y ∧ y ≤ b := fun y hy => by
 rcases List.mem_append.1 hy with hy | hy
 ·exact h y hy
 ·simp at hy; subst hy; exact ⟨h1, h2⟩
namespace Nt
end Nt
theorem k_withinB {u w : World} {n m : Int} (d : Dat u w) (hm : 1 ≤ m) (hm2 : m ≤ 4611686018427387904) (hn0 : -9223372036854775808 ≤ n) (hn1 : n ≤ 9223372036854775807) : Calls Tryz.prog 43 #[.int .i64 n, .int .i64 m] w (Post u w fun v _ => ∃ z : Int, v = .int .i64 z ∧ 0 ≤ z ∧ z < m) :=
 Post.mono (k_within d hm hm2 hn0 hn1) fun v u' _ h => ⟨n % m, h, Int.emod_nonneg _ xq, Int.emod_lt_of_pos _ xq⟩
set_option maxHeartbeats 1000000 in
theorem k_word {u w : World} {k : Int} (d : Dat u w) (hk0 : -9223372036854775808 ≤ k) (hk1 : k ≤ 9223372036854775807) : Calls Tryz.prog 42 #[.int .i64 k, .int .i64 6, .int .i64 9, .int .i64 1] w (Post u w fun v _ => ∃ W : WL, v = W.v ∧ CoefOK W) := by
 refine zzm (args := [.int .i64 k, .int .i64 6, .int .i64 9, .int .i64 1]) Tryz.func42 rfl Tryz.ntmps42 (rs := [.cell 8 34]) Tryz.results42 (le_b rfl) (le_b rfl) d ?_
 refine sq9 (zzk 8 ⟨34, [.int .i64 0, .int .i64 0, .int .i64 0, .int .i64 0]⟩ (zzb (sq9 (zza 10 (zI k) (zzg 11 43 [.int .i64 k, .int .i64 1099511627776] ?_)))))
 intro w11 u11 e11 d11
 have k17 := (show Calls _ _ #[.int .i64 k, .int .i64 1099511627776] _ _ from k_withinB (n := k) (m := 1099511627776) d11 xq xq xq xq)
 with_reducible refine zPm k17 ?_
 rintro _ u15 g16 ⟨z12, rfl, h13, h14⟩
 refine zza 0 (zI z12) (zzb (sq9 (zza 12 (zI 6) (zza 13 (zI z12) (zza 14 (zI 9) (zza 15 (zI 6) (zza 16 (zI 3) (zza 17 (zI 4) (sy_rem 18 (n := z12) (m := 4) (z12 % 4) yq (Int.tmod_eq_emod_of_nonneg xq) ?_)))))))))
 refine zyq 19 (x := zI (IntKind.i64.wrap ((6 : Int) + (z12 % 4)))) (zI ((6 : Int) + (z12 % 4))) yz (zza 20 (.v (.agg #[.int .i64 ((6 : Int) + (z12 % 4)), .int .i64 0, .int .i64 0, .int .i64 0])) (zzk 9 ⟨34, [.int .i64 0, .int .i64 0, .int .i64 0, .int .i64 0]⟩ (zzj ⟨34, [.int .i64 ((6 : Int) + (z12 % 4)), .int .i64 0, .int .i64 0, .int .i64 0]⟩ ty34 ?_)))
 refine zzb (sq9 (zza 21 (zI z12) (zza 22 (zI 9) (zza 23 (zI 6) (zza 24 (zI 3) (zza 25 (zI 4) (sy_quo 26 (n := z12) (m := 4) (z12 / 4) yq (by rw [Int.tdiv_eq_ediv_of_nonneg xq]; exact IntWalk.i64_in _ xq) ?_)))))))
 refine zza 0 (zI (z12 / 4)) (zzb (sq9 (zza 27 (.adr 9 0) (zzi 28 (zI ((6 : Int) + (z12 % 4))) ty3 zzl (zyq 29 (x := zI (IntKind.i64.wrap (((6 : Int) + (z12 % 4)) - 1))) (zI (((6 : Int) + (z12 % 4)) - 1)) yz (zza 30 (zI 1) (zyq 31 (x := zI (IntKind.i64.wrap ((((6 : Int) + (z12 % 4)) - 1) - 1))) (zI ((((6 : Int) + (z12 % 4)) - 1) - 1)) yz (zza 32 (zI (z12 / 4)) (sy_rem 33 (n := z12 / 4) (m := 2) ((z12 / 4) % 2) yq (Int.tmod_eq_emod_of_nonneg xq) ?_)))))))))
 refine zyq 34 (x := zI (IntKind.i64.wrap (((((6 : Int) + (z12 % 4)) - 1) - 1) - ((z12 / 4) % 2)))) (zI (((((6 : Int) + (z12 % 4)) - 1) - 1) - ((z12 / 4) % 2))) yz (zza 35 (.adr 9 1) (zzj ⟨34, [.int .i64 ((6 : Int) + (z12 % 4)), .int .i64 (((((6 : Int) + (z12 % 4)) - 1) - 1) - ((z12 / 4) % 2)), .int .i64 0, .int .i64 0]⟩ ty3 ?_))
 refine zzc 52 [(0, zI (z12 / 4)), (8, .adr 8 0), (9, .adr 9 0)] [(8, ⟨34, [.int .i64 0, .int .i64 0, .int .i64 0, .int .i64 0]⟩), (9, ⟨34, [.int .i64 ((6 : Int) + (z12 % 4)), .int .i64 (((((6 : Int) + (z12 % 4)) - 1) - 1) - ((z12 / 4) % 2)), .int .i64 0, .int .i64 0]⟩)] (sq9 (zza 36 (zI (z12 / 4)) (sy_quo 37 (n := z12 / 4) (m := 2) ((z12 / 4) / 2) yq (by rw [Int.tdiv_eq_ediv_of_nonneg xq]; exact IntWalk.i64_in _ xq) ?_)))
 refine zza 0 (zI ((z12 / 4) / 2)) (zzb (sq9 (zza 38 (.adr 9 1) (zzi 39 (zI (((((6 : Int) + (z12 % 4)) - 1) - 1) - ((z12 / 4) % 2))) ty3 zzl (sy_max0 40 (n := ((((6 : Int) + (z12 % 4)) - 1) - 1) - ((z12 / 4) % 2)) (v := ((((6 : Int) + (z12 % 4)) - 1) - 1) - ((z12 / 4) % 2)) (by split <;> omega) ?_)))))
 refine zza 41 (.adr 9 1) (zzj ⟨34, [.int .i64 ((6 : Int) + (z12 % 4)), .int .i64 (((((6 : Int) + (z12 % 4)) - 1) - 1) - ((z12 / 4) % 2)), .int .i64 0, .int .i64 0]⟩ ty3 ?_)
 refine zzb (sq9 (zza 42 (zI ((z12 / 4) / 2)) (sy_rem 43 (n := (z12 / 4) / 2) (m := 3) (((z12 / 4) / 2) % 3) yq (Int.tmod_eq_emod_of_nonneg xq) ?_)))
 refine zyq 44 (x := zI (IntKind.i64.wrap ((1 : Int) + (((z12 / 4) / 2) % 3)))) (zI ((1 : Int) + (((z12 / 4) / 2) % 3))) yz (zza 45 (zI ((z12 / 4) / 2)) (sy_quo 46 (n := (z12 / 4) / 2) (m := 3) (((z12 / 4) / 2) / 3) yq (by rw [Int.tdiv_eq_ediv_of_nonneg xq]; exact IntWalk.i64_in _ xq) ?_))
 refine sy_rem 47 (n := ((z12 / 4) / 2) / 3) (m := 2) ((((z12 / 4) / 2) / 3) % 2) yq (Int.tmod_eq_emod_of_nonneg xq) ?_
 refine zyq 48 (x := zI (IntKind.i64.wrap ((1 : Int) + ((((z12 / 4) / 2) / 3) % 2)))) (zI ((1 : Int) + ((((z12 / 4) / 2) / 3) % 2))) yz (zza 49 (.adr 9 2) (zzj ⟨34, [.int .i64 ((6 : Int) + (z12 % 4)), .int .i64 (((((6 : Int) + (z12 % 4)) - 1) - 1) - ((z12 / 4) % 2)), .int .i64 ((1 : Int) + (((z12 / 4) / 2) % 3)), .int .i64 0]⟩ ty3 ?_))
 refine zza 50 (.adr 9 3) (zzj ⟨34, [.int .i64 ((6 : Int) + (z12 % 4)), .int .i64 (((((6 : Int) + (z12 % 4)) - 1) - 1) - ((z12 / 4) % 2)), .int .i64 ((1 : Int) + (((z12 / 4) / 2) % 3)), .int .i64 ((1 : Int) + ((((z12 / 4) / 2) / 3) % 2))]⟩ ty3 ?_)
 refine zzb (sq9 (zzi 51 (.v (.agg #[.int .i64 ((6 : Int) + (z12 % 4)), .int .i64 (((((6 : Int) + (z12 % 4)) - 1) - 1) - ((z12 / 4) % 2)), .int .i64 ((1 : Int) + (((z12 / 4) / 2) % 3)), .int .i64 ((1 : Int) + ((((z12 / 4) / 2) / 3) % 2))])) ty34 zze (zzj ⟨34, [.int .i64 ((6 : Int) + (z12 % 4)), .int .i64 (((((6 : Int) + (z12 % 4)) - 1) - 1) - ((z12 / 4) % 2)), .int .i64 ((1 : Int) + (((z12 / 4) / 2) % 3)), .int .i64 ((1 : Int) + ((((z12 / 4) / 2) / 3) % 2))]⟩ ty34 ?_)))
 refine zzb (zzo (ret0 [.agg #[.int .i64 ((6 : Int) + (z12 % 4)), .int .i64 (((((6 : Int) + (z12 % 4)) - 1) - 1) - ((z12 / 4) % 2)), .int .i64 ((1 : Int) + (((z12 / 4) / 2) % 3)), .int .i64 ((1 : Int) + ((((z12 / 4) / 2) / 3) % 2))]] ⟨zzr ty34 zze, trivial⟩ fun u18 e19 => ?_))
 exact ⟨⟨(6 : Int) + (z12 % 4), ((((6 : Int) + (z12 % 4)) - 1) - 1) - ((z12 / 4) % 2), (1 : Int) + (((z12 / 4) / 2) % 3), (1 : Int) + ((((z12 / 4) / 2) / 3) % 2)⟩, rfl, by unfold CoefOK; dsimp only; omega⟩
theorem k_coef {u w : World} {k : Int} (d : Dat u w) (hk0 : -9223372036854775808 ≤ k) (hk1 : k ≤ 9223372036854775807) : Calls Tryz.prog 11 #[.int .i64 k] w (Post u w fun v _ => ∃ W : WL, v = W.v ∧ CoefOK W) := by
 refine zzm (args := [.int .i64 k]) Tryz.func11 rfl Tryz.ntmps11 (rs := [.cell 2 34]) Tryz.results11 (le_b rfl) (le_b rfl) d ?_
 refine sq9 (zzk 2 ⟨34, [.int .i64 0, .int .i64 0, .int .i64 0, .int .i64 0]⟩ (zzb (sq9 (zza 3 (zI k) (zzg 4 42 [.int .i64 k, .int .i64 6, .int .i64 9, .int .i64 1] ?_)))))
 intro w11 u11 e11 d11
 have k16 := k_word (k := k) d11 xq xq
 with_reducible refine zPm k16 ?_
 rintro _ u14 g15 ⟨W12, rfl, hW13⟩
 have hw17 := hW13.ok
 have hw17f : 1 ≤ W12.f := by have h9 := hW13; unfold CoefOK at h9; omega
 have hw17g : W12.f ≤ 24 := by have h9 := hW13; unfold CoefOK at h9; omega
 refine zzj ⟨34, W12.cs⟩ ty34 ?_
 refine zzb (zzo (ret0 [.agg #[.int .i64 W12.b, .int .i64 W12.f, .int .i64 W12.r, .int .i64 W12.o]] ⟨zzr ty34 zze, trivial⟩ fun u18 e19 => ?_))
 exact ⟨W12, rfl, by assumption⟩
theorem k_wat {u w : World} {x : Sl} {l : List Int} {i : Nat} (d : Dat u w) (hx : SlR .i64 u x.a x.n x.c l) (hb : ∀ z ∈ l, -9223372036854775808 ≤ z ∧ z ≤ 9223372036854775807) (hi9 : i ≤ 1000000000) : Calls Tryz.prog 44 #[x.v, .int .i64 (i : Int)] w (Post u w fun v _ => v = .int .i64 (l.getD i 0)) := by
 have hlen : l.length = x.n := hx.1
 refine zzm (args := [.slice x.a x.n x.c, .int .i64 i]) Tryz.func44 rfl Tryz.ntmps44 (rs := [.tmp 4]) Tryz.results44 (le_b rfl) (le_b rfl) d ?_
 refine sq9 (zza 4 (zI 0) (zzb (zzd (sq9 (zza 5 (zI i) (zza 6 (zB (decide ((0 : Int) ≤ (i : Int)))) (zyq 7 (x := zB (decide ((0 : Int) ≤ (i : Int)))) (zB true) (by rw [show (decide ((0 : Int) ≤ (i : Int))) = true from decide_eq_true xq]) (zza 8 (zI i) ?_ (hw := w1 2 true 7)))))))))
 refine zza 9 (.v x.v) ?_ (hw := w1 2 true 7)
 refine zza 10 (zI x.n) ?_ (hw := w1 2 true 7)
 refine zza 11 (zB (decide ((i : Int) < (x.n : Int)))) ?_ (hw := w1 2 true 7)
 refine zza 12 (zB (decide ((i : Int) < (x.n : Int)))) (zzb (zzu (b := decide ((i : Int) < (x.n : Int))) xj (fun hb12 => ?_) (fun hb12 => ?_)))
 ·replace hb12 : (decide ((i : Int) < (x.n : Int))) = true := hb12
  have qhb12 := of_decide_eq_true hb12
  refine sq9 (zza 13 (.v x.v) (zza 14 (zI i) ?_))
  have hl13 := (hx).1
  obtain ⟨b13, o13, hA13, hc13⟩ := ints_at hx (i := i) xq
  have hz13 := ints_bd hb xq i
  refine zya 15 (o13 + i * 1) (n := x.n) (off := o13) (sz := 1) (i := (i : Int)) xq hA13 xq xq sl37 (zyl 16 (.int .i64 (l.getD i 0)) hc13 ty3 (zza 4 (zI (l.getD i 0)) (zzb (zzo (zzw (ret0 [.int .i64 (l.getD i 0)] ⟨zzq, trivial⟩ fun u14 e15 => ?_))))))
  rfl
 ·replace hb12 : (decide ((i : Int) < (x.n : Int))) = false := hb12
  have qhb12 := of_decide_eq_false hb12
  refine zzs (zzp ?_)
  refine sq9 (zza 4 (zI 0) (zzb (zzo (ret0 [.int .i64 0] ⟨zzq, trivial⟩ fun u16 e17 => ?_))))
  show Value.int _ _ = Value.int _ _
  rw [show l.getD i 0 = 0 by rw [List.getD_eq_getElem?_getD, List.getElem?_eq_none xq]; rfl]
set_option maxHeartbeats 2000000 in
theorem k_belowN {u w : World} {x : Sl} {l : List Int} {b : Int} {n : Nat} (d : Dat u w) (hx : SlR .i64 u x.a x.n x.c l) (hb : ∀ z ∈ l, -9223372036854775808 ≤ z ∧ z ≤ 9223372036854775807) (hb0 : 0 ≤ b) (hb1 : b ≤ 16777216) (hn : n ≤ 1000) : Calls Tryz.prog 12 #[.int .i64 b, x.v, .int .i64 (n : Int)] w (Post u w fun v u' => ∃ (y : Sl) (m : List Int), v = y.v ∧ m.length = n ∧ SlR .i64 u' y.a y.n y.c m ∧ (∀ z ∈ m, -b ≤ z ∧ z ≤ b)) := by
 refine zzm (args := [.int .i64 b, .slice x.a x.n x.c, .int .i64 n]) Tryz.func12 rfl Tryz.ntmps12 (rs := [.tmp 6]) Tryz.results12 (le_b rfl) (le_b rfl) d ?_
 refine sq9 (zza 6 (.v (.slice none 0 0)) (zzb (sq9 (zza 7 (.v (.slice none 0 0)) (zzb (zzd (sq9 (zza 8 (zI 0) (zzb (zzt (zyn (I := fun m11 S' u' => (m11 = n ∧ S' = St.of 29 [(0, zI b), (1, .v (.slice x.a x.n x.c)), (2, zI n), (7, .v (.slice none 0 0)), (8, zI 0)] [] ∧ Ext u u') ∨ (∃ (i : Nat) (L : List Int) (cs : List Value) (cp : Nat), m11 = n - i ∧ i ≤ n ∧ 0 < i ∧ L.length = i ∧ cs.length = cp * 1 ∧ i ≤ cp ∧ cp ≤ maxLen ∧ cs.take (i * 1) = L.map (Value.int .i64) ∧ S' = St.of 29 [(0, zI b), (1, .v (.slice x.a x.n x.c)), (2, zI n), (7, .slc 27 0 i cp), (8, zI i)] [(27, ⟨3, cs⟩)] ∧ Ext u u' ∧ (∀ z ∈ L, -b ≤ z ∧ z ≤ b))) (fun m S u1 u2 e h => by rcases h with ⟨a, b, c⟩ | ⟨a1, a2, a3, a4, b1, b2, b3, b4, b5, b6, b7, b8, b9, b10, b11⟩; exact .inl ⟨a, b, c.trans e⟩; exact .inr ⟨a1, a2, a3, a4, b1, b2, b3, b4, b5, b6, b7, b8, b9, b10.trans e, b11⟩) _ yj (.inl ⟨rfl, rfl, Ext.refl _⟩) ?_)))))))))))
 rintro m11 _ u11 (⟨hm11, rfl, e11⟩ | ⟨i, L, cs, cp, hm11, hi, hp, hL, hc, hle, hmx, ht, rfl, e11, hP⟩)
 ·change SW _ _ _ _ (St.of 29 [(0, .v (.int .i64 b)), (1, .v (.slice x.a x.n x.c)), (2, .v (.int .i64 (n : Int))), (7, .v (.slice none 0 0)), (8, .v (.int .i64 0))] []) _ _
  refine zzd (sq9 (zza 9 (zI 0) (zza 10 (zI n) (zza 11 (zB (decide ((0 : Int) < (n : Int)))) (zzb (zzu (b := decide ((0 : Int) < (n : Int))) xj (fun hb12 => ?_) (fun hb12 => ?_)))))))
  ·replace hb12 : (decide ((0 : Int) < (n : Int))) = true := hb12
   have qhb12 := of_decide_eq_true hb12
   refine zzs (zzp ?_)
   refine zzd (zzt (zzf (zza 14 (.v (.slice none 0 0)) (zza 15 (.v x.v) (zza 16 (zI 0) (zzg 17 44 [x.v, .int .i64 0] ?_))))))
   intro w13 u13 e13 d13
   have k16 := (show Calls _ _ #[_, .int .i64 0] _ _ from k_wat (x := x) (i := 0) d13 (hx.ext (e11.trans e13)) hb xq)
   with_reducible refine zPm k16 ?_
   rintro _ u14 g15 rfl
   have hz17 := ints_bd hb xq 0
   refine zza 18 (zI b) ?_
   obtain ⟨z18, hz18, ha18, hb18⟩ := wrap64_ex ((l.getD 0 0) + b)
   refine zyq 19 (x := zI (IntKind.i64.wrap ((l.getD 0 0) + b))) (zI z18) (eqI hz18) (zza 20 (zI b) (zyq 21 (x := zI (IntKind.i64.wrap ((2 : Int) * b))) (zI ((2 : Int) * b)) yz (zyq 22 (x := zI (IntKind.i64.wrap (((2 : Int) * b) + 1))) (zI (((2 : Int) * b) + 1)) yz (zzg 23 43 [.int .i64 z18, .int .i64 (((2 : Int) * b) + 1)] ?_))))
   intro w19 u19 e19 d19
   have k25 := (show Calls _ _ #[.int .i64 z18, .int .i64 (((2 : Int) * b) + 1)] _ _ from k_withinB (n := z18) (m := ((2 : Int) * b) + 1) d19 xq xq xq xq)
   with_reducible refine zPm k25 ?_
   rintro _ u23 g24 ⟨z20, rfl, h21, h22⟩
   refine zza 24 (zI b) ?_
   obtain ⟨g26, hg26⟩ : ∃ g, z20 - b = g := ⟨_, rfl⟩
   refine zyq 25 (x := zI (IntKind.i64.wrap (z20 - b))) (zI g26) (eqI (by rw [IntWalk.i64_in _ xq]; exact hg26)) (zxy 26 ⟨3, [.int .i64 g26]⟩ 1 (fun b27 u28 e29 h30 => ?_))
   refine sy_app0 27 (T := 37) (E := 3) (z := .int .i64 0) (size := 1) (bytes := 8) (b := b27) (off := 0) (m := 1) [.int .i64 g26] xj xj xj yq rfl (lit_news ((Ext.refl _).cells h30)) (int_one _) yq yq yq ?_
   intro c31 cs31 ha31 hb31 hc31 hd31
   have hd31r : cs31.take (1 * 1) = ([g26]).map (Value.int .i64) := hd31
   refine zza 7 (.slc 27 0 1 c31) (zzx ?_)
   refine zzp (zzf (zza 12 (zI 0) (zza 13 (zI 1) (zza 8 (zI 1) (zzx ?_)))))
   refine ⟨_, ?_, _, by exact zzv _ _ _, .inr ⟨1, [g26], cs31, c31, rfl, by omega, by omega, by simp, hc31, by omega, hb31, hd31r, rfl, (e11.trans (e13.trans (g15.ext.trans (e19.trans (g24.ext.trans e29))))), (all_snoc (L := []) all_nil xq xq)⟩⟩
   omega
  ·replace hb12 : (decide ((0 : Int) < (n : Int))) = false := hb12
   have qhb12 := of_decide_eq_false hb12
   refine zyc (zzp (zzd ?_))
   have hp32 : SlR .i64 u11 none 0 0 [] := ints_nil
   refine zzf (zza 28 (.v (.slice none 0 0)) (zza 6 (.v (.slice none 0 0)) (zzb (zzo (ret0 [.slice none 0 0] ⟨zzq, trivial⟩ fun u33 e34 => ?_)))))
   exact ⟨⟨none, 0, 0⟩, [], rfl, (by first|omega|(simp;omega)), (hp32.ext e34), all_nil⟩
 ·change SW _ _ _ _ (St.of 29 [(0, .v (.int .i64 b)), (1, .v (.slice x.a x.n x.c)), (2, .v (.int .i64 (n : Int))), (7, .slc 27 0 i cp), (8, .v (.int .i64 (i : Int)))] [(27, ⟨3, cs⟩)]) _ _
  refine zzd (sq9 (zza 9 (zI i) (zza 10 (zI n) (zza 11 (zB (decide ((i : Int) < (n : Int)))) (zzb (zzu (b := decide ((i : Int) < (n : Int))) xj (fun hb35 => ?_) (fun hb35 => ?_)))))))
  ·replace hb35 : (decide ((i : Int) < (n : Int))) = true := hb35
   have qhb35 := of_decide_eq_true hb35
   refine zzs (zzp ?_)
   refine zzd (zzt (zzf (zza 14 (.slc 27 0 i cp) (zza 15 (.v x.v) (zza 16 (zI i) (zzg 17 44 [x.v, .int .i64 i] ?_))))))
   intro w36 u36 e36 d36
   have k39 := (show Calls _ _ #[_, .int .i64 (i : Int)] _ _ from k_wat (x := x) (i := i) d36 (hx.ext (e11.trans e36)) hb xq)
   with_reducible refine zPm k39 ?_
   rintro _ u37 g38 rfl
   have hz40 := ints_bd hb xq i
   refine zza 18 (zI b) ?_
   obtain ⟨z41, hz41, ha41, hb41⟩ := wrap64_ex ((l.getD i 0) + b)
   refine zyq 19 (x := zI (IntKind.i64.wrap ((l.getD i 0) + b))) (zI z41) (eqI hz41) (zza 20 (zI b) (zyq 21 (x := zI (IntKind.i64.wrap ((2 : Int) * b))) (zI ((2 : Int) * b)) yz (zyq 22 (x := zI (IntKind.i64.wrap (((2 : Int) * b) + 1))) (zI (((2 : Int) * b) + 1)) yz (zzg 23 43 [.int .i64 z41, .int .i64 (((2 : Int) * b) + 1)] ?_))))
   intro w42 u42 e42 d42
   have k48 := (show Calls _ _ #[.int .i64 z41, .int .i64 (((2 : Int) * b) + 1)] _ _ from k_withinB (n := z41) (m := ((2 : Int) * b) + 1) d42 xq xq xq xq)
   with_reducible refine zPm k48 ?_
   rintro _ u46 g47 ⟨z43, rfl, h44, h45⟩
   refine zza 24 (zI b) ?_
   obtain ⟨g49, hg49⟩ : ∃ g, z43 - b = g := ⟨_, rfl⟩
   refine zyq 25 (x := zI (IntKind.i64.wrap (z43 - b))) (zI g49) (eqI (by rw [IntWalk.i64_in _ xq]; exact hg49)) (zxy 26 ⟨3, [.int .i64 g49]⟩ 1 (fun b50 u51 e52 h53 => ?_))
   refine sy_app1 27 (T := 37) (E := 3) (z := .int .i64 0) (size := 1) (bytes := 8) (b := b50) (off := 0) (m := 1) (n := i) (cap := cp) (t := 27) (cs0 := cs) [7, 14, 27] [.int .i64 g49] xj xj xj yq rfl (lit_news ((Ext.refl _).cells h53)) (int_one _) yq yv xq xq xq xq xk ?_
   intro c54 cs54 ha54 hb54 hc54 hd54
   have hd54r : cs54.take ((i + 1) * 1) = (L ++ [g49]).map (Value.int .i64) := by rw [hd54, ht, List.map_append]; rfl
   refine zza 7 (.slc 27 0 (i + 1) c54) (zzx ?_)
   refine zzp (zzf (zza 12 (zI i) (zyq 13 (x := zI (IntKind.i64.wrap ((i : Int) + 1))) (zI (i + 1 : Nat)) (eqI xw) (zza 8 (zI (i + 1 : Nat)) (zzx ?_)))))
   refine ⟨_, ?_, _, by exact zzv _ _ _, .inr ⟨i + 1, L ++ [g49], cs54, c54, rfl, by omega, by omega, by simp; omega, hc54, by omega, hb54, hd54r, rfl, (e11.trans (e36.trans (g38.ext.trans (e42.trans (g47.ext.trans e52))))), (all_snoc (L := L) hP xq xq)⟩⟩
   omega
  ·replace hb35 : (decide ((i : Int) < (n : Int))) = false := hb35
   have qhb35 := of_decide_eq_false hb35
   refine zyc (zzp (zzd (zyp (r := 7) (t := 27) [7, 27] xk xj (by rfl) (by rfl) xj (fun b56 u57 e58 hb59 hh60 => ?_))))
   have hp55 : SlR .i64 u57 (some ⟨b56, 0, none⟩) i cp L := ints_data hh60 (by have h9 := ht; rw [Nat.mul_one] at h9; exact h9) (by have h9 := hc; rw [Nat.mul_one] at h9; exact h9) hle hmx
   refine zzf (zza 28 (.v (.slice (some ⟨b56, 0, none⟩) i cp)) (zza 6 (.v (.slice (some ⟨b56, 0, none⟩) i cp)) (zzb (zzo (ret0 [.slice (some ⟨b56, 0, none⟩) i cp] ⟨zzq, trivial⟩ fun u61 e62 => ?_)))))
   exact ⟨(⟨some ⟨b56, 0, none⟩, i, cp⟩ : Sl), L, rfl, (by first|omega|(simp;omega)), (hp55.ext e62), hP⟩
theorem k_in {u w : World} {z a b : Int} (d : Dat u w) : Calls Tryz.prog 38 #[.int .i64 z, .int .i64 a, .int .i64 b] w (Post u w fun v _ => v = .bool (decide (a ≤ z) && decide (z ≤ b))) := by
 refine zzm (args := [.int .i64 z, .int .i64 a, .int .i64 b]) Tryz.func38 rfl Tryz.ntmps38 (rs := [.tmp 6]) Tryz.results38 (le_b rfl) (le_b rfl) d ?_
 refine sq9 (zza 6 (zB false) (zzb (sq9 (zza 7 (zI z) (zza 8 (zI a) (zza 9 (zB (decide (a ≤ z))) ?_))))))
 rcases Bool.eq_false_or_eq_true (decide (a ≤ z)) with hs11 | hs11
 ·refine zyq 10 (x := zB (decide (a ≤ z))) (zB true) (by rw [hs11]) ?_
  have qhs11 := of_decide_eq_true hs11
  refine zza 11 (zI z) ?_ (hw := w1 3 true 10)
  refine zza 12 (zI b) ?_ (hw := w1 3 true 10)
  refine zza 13 (zB (decide (z ≤ b))) ?_ (hw := w1 3 true 10)
  refine zza 14 (zB (decide (z ≤ b))) (zza 6 (zB (decide (z ≤ b))) (zzb (zzo (ret0 [.bool (decide (z ≤ b))] ⟨zzq, trivial⟩ fun u12 e13 => ?_))))
  show Value.bool _ = Value.bool _
  rw [hs11]
  rfl
 ·refine zyq 10 (x := zB (decide (a ≤ z))) (zB false) (by rw [hs11]) ?_
  have qhs11 := of_decide_eq_false hs11
  refine zzn 11 (uw 3 true false 10) (zzn 12 (uw 3 true false 10) (zzn 13 (uw 3 true false 10) (zza 14 (zB false) (zza 6 (zB false) (zzb (zzo (ret0 [.bool false] ⟨zzq, trivial⟩ fun u14 e15 => ?_)))))))
  show Value.bool _ = Value.bool _
  rw [hs11]
  rfl
instance wdDec (W : WL) : Decidable (WdOK W) := by unfold WdOK; exact inferInstance
namespace Nt
def fitB (W : WL) (z : Int) : Bool := decide (-p2i (W.b - 1) ≤ z) && decide (z ≤ p2i (W.b - 1) - 1)
theorem fit_iff {W : WL} {z : Int} : fitB W z = true ↔ -p2i (W.b - 1) ≤ z ∧ z ≤ p2i (W.b - 1) - 1 := by unfold fitB; simp
variable {W : WL} {l m : List Int} {i : Nat}
end Nt
theorem k_modeG {u w : World} {r : Int} (d : Dat u w) : Calls Tryz.prog 98 #[.int .i64 r] w (Post u w fun v _ => v = .bool (decide (1 ≤ r) && decide (r ≤ 3))) := by
 refine zzm (args := [.int .i64 r]) Tryz.func98 rfl Tryz.ntmps98 (rs := [.tmp 2]) Tryz.results98 (le_b rfl) (le_b rfl) d ?_
 refine sq9 (zza 2 (zB false) (zzb (sq9 (zza 3 (zI r) (zza 4 (zB (decide ((1 : Int) ≤ r))) ?_)))))
 rcases Bool.eq_false_or_eq_true (decide ((1 : Int) ≤ r)) with hs11 | hs11
 ·refine zyq 5 (x := zB (decide ((1 : Int) ≤ r))) (zB true) (by rw [hs11]) ?_
  have qhs11 := of_decide_eq_true hs11
  refine zza 6 (zI r) ?_ (hw := w1 2 true 5)
  refine zza 7 (zB (decide (r ≤ 3))) ?_ (hw := w1 2 true 5)
  refine zza 8 (zB (decide (r ≤ 3))) (zza 2 (zB (decide (r ≤ 3))) (zzb (zzo (ret0 [.bool (decide (r ≤ 3))] ⟨zzq, trivial⟩ fun u12 e13 => ?_))))
  show Value.bool _ = Value.bool _
  congr 1
  rw [Bool.eq_iff_iff]
  simp
  omega
 ·refine zyq 5 (x := zB (decide ((1 : Int) ≤ r))) (zB false) (by rw [hs11]) ?_
  have qhs11 := of_decide_eq_false hs11
  refine zzn 6 (uw 2 true false 5) (zzn 7 (uw 2 true false 5) (zza 8 (zB false) (zza 2 (zB false) (zzb (zzo (ret0 [.bool false] ⟨zzq, trivial⟩ fun u14 e15 => ?_))))))
  show Value.bool _ = Value.bool _
  congr 1
  rw [Bool.eq_iff_iff]
  simp
  omega
theorem k_fxValidG {u w : World} {W : WL} (d : Dat u w) : Calls Tryz.prog 54 #[W.v] w (Post u w fun v _ => v = .bool (decide (WdOK W))) := by
 refine zzm (args := [.agg #[.int .i64 W.b, .int .i64 W.f, .int .i64 W.r, .int .i64 W.o]]) Tryz.func54 rfl Tryz.ntmps54 (rs := [.tmp 2]) Tryz.results54 (le_b rfl) (le_b rfl) d ?_
 refine sq9 (zzk 1 ⟨34, W.cs⟩ (zza 2 (zB false) (zzb (zzd (sq9 (zza 3 (.adr 1 0) (zzi 4 (zI W.b) ty3 zzl (zza 5 (zB (decide (W.b < 4))) ?_))))))))
 rcases Bool.eq_false_or_eq_true (decide (W.b < 4)) with hs11 | hs11
 ·refine zyq 6 (x := zB (decide (W.b < 4))) (zB true) (by rw [hs11]) ?_
  have qhs11 := of_decide_eq_true hs11
  refine zzn 7 (uw 3 false true 6) (zzn 8 (uw 3 false true 6) (zzn 9 (uw 3 false true 6) (zza 10 (zB true) (zza 11 (zB true) (zzn 12 (uw 8 false true 11) (zzn 13 (uw 8 false true 11) (zzn 14 (uw 8 false true 11) (zza 15 (zB true) (zza 16 (zB true) (zzn 17 (uw 13 false true 16) (zzn 18 (uw 13 false true 16) ?_)))))))))))
  refine zzn 19 (uw 13 false true 16) (zzn 20 (uw 13 false true 16) (zzn 21 (uw 13 false true 16) (zza 22 (zB true) (zzb (zyr xj (sq9 (zza 2 (zB false) (zzb (zzo (zzw (ret0 [.bool false] ⟨zzq, trivial⟩ fun u12 e13 => ?_)))))))))))
  show Value.bool _ = Value.bool _
  congr 1
  exact (decide_eq_false (by unfold WdOK; omega)).symm
 ·refine zyq 6 (x := zB (decide (W.b < 4))) (zB false) (by rw [hs11]) ?_
  have qhs11 := of_decide_eq_false hs11
  refine zza 7 (.adr 1 0) ?_ (hw := w1 3 false 6)
  refine zzi 8 (zI W.b) ty3 zzl ?_ (hw := w1 3 false 6)
  refine zza 9 (zB (decide ((24 : Int) < W.b))) ?_ (hw := w1 3 false 6)
  refine zza 10 (zB (decide ((24 : Int) < W.b))) ?_
  rcases Bool.eq_false_or_eq_true (decide ((24 : Int) < W.b)) with hs14 | hs14
  ·refine zyq 11 (x := zB (decide ((24 : Int) < W.b))) (zB true) (by rw [hs14]) ?_
   have qhs14 := of_decide_eq_true hs14
   refine zzn 12 (uw 8 false true 11) (zzn 13 (uw 8 false true 11) (zzn 14 (uw 8 false true 11) (zza 15 (zB true) (zza 16 (zB true) (zzn 17 (uw 13 false true 16) (zzn 18 (uw 13 false true 16) (zzn 19 (uw 13 false true 16) (zzn 20 (uw 13 false true 16) (zzn 21 (uw 13 false true 16) (zza 22 (zB true) (zzb ?_)))))))))))
   refine zyr xj (sq9 (zza 2 (zB false) (zzb (zzo (zzw (ret0 [.bool false] ⟨zzq, trivial⟩ fun u15 e16 => ?_))))))
   show Value.bool _ = Value.bool _
   congr 1
   exact (decide_eq_false (by unfold WdOK; omega)).symm
  ·refine zyq 11 (x := zB (decide ((24 : Int) < W.b))) (zB false) (by rw [hs14]) ?_
   have qhs14 := of_decide_eq_false hs14
   refine zza 12 (.adr 1 1) ?_ (hw := w1 8 false 11)
   refine zzi 13 (zI W.f) ty3 zzl ?_ (hw := w1 8 false 11)
   refine zza 14 (zB (decide (W.f < 0))) ?_ (hw := w1 8 false 11)
   refine zza 15 (zB (decide (W.f < 0))) ?_
   rcases Bool.eq_false_or_eq_true (decide (W.f < 0)) with hs17 | hs17
   ·refine zyq 16 (x := zB (decide (W.f < 0))) (zB true) (by rw [hs17]) ?_
    have qhs17 := of_decide_eq_true hs17
    refine zzn 17 (uw 13 false true 16) (zzn 18 (uw 13 false true 16) (zzn 19 (uw 13 false true 16) (zzn 20 (uw 13 false true 16) (zzn 21 (uw 13 false true 16) (zza 22 (zB true) (zzb (zyr xj (sq9 (zza 2 (zB false) (zzb (zzo (zzw (ret0 [.bool false] ⟨zzq, trivial⟩ fun u18 e19 => ?_)))))))))))))
    show Value.bool _ = Value.bool _
    congr 1
    exact (decide_eq_false (by unfold WdOK; omega)).symm
   ·refine zyq 16 (x := zB (decide (W.f < 0))) (zB false) (by rw [hs17]) ?_
    have qhs17 := of_decide_eq_false hs17
    refine zza 17 (.adr 1 1) ?_ (hw := w1 13 false 16)
    refine zzi 18 (zI W.f) ty3 zzl ?_ (hw := w1 13 false 16)
    refine zza 19 (.adr 1 0) ?_ (hw := w1 13 false 16)
    refine zzi 20 (zI W.b) ty3 zzl ?_ (hw := w1 13 false 16)
    refine zza 21 (zB (decide (W.b ≤ W.f))) ?_ (hw := w1 13 false 16)
    refine zza 22 (zB (decide (W.b ≤ W.f))) (zzb (zzu (b := decide (W.b ≤ W.f)) xj (fun hb20 => ?_) (fun hb20 => ?_)))
    ·replace hb20 : (decide (W.b ≤ W.f)) = true := hb20
     have qhb20 := of_decide_eq_true hb20
     refine sq9 (zza 2 (zB false) (zzb (zzo (zzw (ret0 [.bool false] ⟨zzq, trivial⟩ fun u21 e22 => ?_)))))
     show Value.bool _ = Value.bool _
     congr 1
     exact (decide_eq_false (by unfold WdOK; omega)).symm
    ·replace hb20 : (decide (W.b ≤ W.f)) = false := hb20
     have qhb20 := of_decide_eq_false hb20
     refine zzs (zzp ?_)
     refine sq9 (zza 23 (.adr 1 2) (zzi 24 (zI W.r) ty3 zzl (zzg 25 98 [.int .i64 W.r] ?_)))
     intro w23 u23 e23 d23
     have k26 := k_modeG d23 (r := W.r)
     with_reducible refine zPm k26 ?_
     rintro _ u24 g25 rfl
     rcases Bool.eq_false_or_eq_true (decide (1 ≤ W.r) && decide (W.r ≤ 3)) with hs27 | hs27
     ·refine zyq 26 (x := zB (decide (1 ≤ W.r) && decide (W.r ≤ 3))) (zB true) (by rw [hs27]) ?_
      have qhs27 := hs27
      simp at qhs27
      refine zza 27 (.adr 1 3) ?_ (hw := w1 3 true 26)
      refine zzi 28 (zI W.o) ty3 zzl ?_ (hw := w1 3 true 26)
      refine zza 29 (zB (W.o == 1)) ?_ (hw := w1 3 true 26)
      rcases Bool.eq_false_or_eq_true (W.o == 1) with hs28 | hs28
      ·refine zyq 30 (x := zB (W.o == 1)) (zB true) (by rw [hs28]) ?_ (hw := w1 3 true 26)
       have qhs28 := hs28
       simp at qhs28
       refine zzn 31 (uw 7 false true 30) (zzn 32 (uw 7 false true 30) (zzn 33 (uw 7 false true 30) (zza 34 (zB true) ?_ (hw := w1 3 true 26))))
       refine zza 35 (zB true) (zza 2 (zB true) (zzc 36 [(2, zB true)] [] (zzo (ret0 [.bool true] ⟨zzq, trivial⟩ fun u29 e30 => ?_))))
       show Value.bool _ = Value.bool _
       congr 1
       exact (decide_eq_true (by unfold WdOK; omega)).symm
      ·refine zyq 30 (x := zB (W.o == 1)) (zB false) (by rw [hs28]) ?_ (hw := w1 3 true 26)
       have qhs28 := hs28
       simp at qhs28
       refine zza 31 (.adr 1 3) ?_ (hw := w1 7 false 30)
       refine zzi 32 (zI W.o) ty3 zzl ?_ (hw := w1 7 false 30)
       refine zza 33 (zB (W.o == 2)) ?_ (hw := w1 7 false 30)
       refine zza 34 (zB (W.o == 2)) ?_ (hw := w1 3 true 26)
       refine zza 35 (zB (W.o == 2)) (zza 2 (zB (W.o == 2)) (zzc 36 [(2, zB (W.o == 2))] [] (zzo (ret0 [.bool (W.o == 2)] ⟨zzq, trivial⟩ fun u31 e32 => ?_))))
       show Value.bool _ = Value.bool _
       congr 1
       rw [Bool.eq_iff_iff]
       simp
       unfold WdOK
       omega
     ·refine zyq 26 (x := zB (decide (1 ≤ W.r) && decide (W.r ≤ 3))) (zB false) (by rw [hs27]) ?_
      have qhs27 := hs27
      simp at qhs27
      refine zzn 27 (uw 3 true false 26) (zzn 28 (uw 3 true false 26) (zzn 29 (uw 3 true false 26) (zzn 30 (uw 3 true false 26) (zzn 31 (unwantedU (g := 7) (b := false) (t := 30) xj xj xj) (zzn 32 (unwantedU (g := 7) (b := false) (t := 30) xj xj xj) (zzn 33 (unwantedU (g := 7) (b := false) (t := 30) xj xj xj) (zzn 34 (uw 3 true false 26) (zza 35 (zB false) (zza 2 (zB false) (zzc 36 [(2, zB false)] [] (zzo (ret0 [.bool false] ⟨zzq, trivial⟩ fun u33 e34 => ?_))))))))))))
      show Value.bool _ = Value.bool _
      congr 1
      exact (decide_eq_false (by unfold WdOK; omega)).symm
theorem k_fxFitsG {u w : World} {W : WL} {z : Int} (d : Dat u w) (hW : WdOK W) : Calls Tryz.prog 86 #[W.v, .int .i64 z] w (Post u w fun v _ => v = .bool (Nt.fitB W z)) := by
 obtain ⟨hw1, hw2, hw3, hw4, hw5, hw6, hw7, hw8⟩ := id hW
 refine zzm (args := [.agg #[.int .i64 W.b, .int .i64 W.f, .int .i64 W.r, .int .i64 W.o], .int .i64 z]) Tryz.func86 rfl Tryz.ntmps86 (rs := [.tmp 4]) Tryz.results86 (le_b rfl) (le_b rfl) d ?_
 refine sq9 (zzk 2 ⟨34, W.cs⟩ (zza 4 (zB false) (zzb (sq9 (zzi 5 (.v (W.v)) ty34 zze (zzg 6 54 [W.v] ?_))))))
 intro w11 u11 e11 d11
 have k14 := k_fxValid (W := W) d11 hW
 with_reducible refine zPm k14 ?_
 rintro _ u12 g13 rfl
 refine zza 7 (zB true) (zza 8 (zI z) ?_ (hw := w1 2 true 7))
 refine zzi 9 (.v (W.v)) ty34 zze ?_ (hw := w1 2 true 7)
 refine zzg 10 126 [W.v] ?_ (hw := w1 2 true 7)
 intro w15 u15 e15 d15
 have k18 := k_fxLow (W := W) d15 hW
 with_reducible refine zPm k18 ?_
 rintro _ u16 g17 rfl
 refine zza 11 (zB (decide ((-Nt.p2i (W.b - 1)) ≤ z))) ?_ (hw := w1 2 true 7)
 refine zza 12 (zB (decide ((-Nt.p2i (W.b - 1)) ≤ z))) ?_
 rcases Bool.eq_false_or_eq_true (decide ((-Nt.p2i (W.b - 1)) ≤ z)) with hs19 | hs19
 ·refine zyq 13 (x := zB (decide ((-Nt.p2i (W.b - 1)) ≤ z))) (zB true) (by rw [hs19]) ?_
  have qhs19 := of_decide_eq_true hs19
  refine zza 14 (zI z) ?_ (hw := w1 8 true 13)
  refine zzi 15 (.v (W.v)) ty34 zze ?_ (hw := w1 8 true 13)
  refine zzg 16 127 [W.v] ?_ (hw := w1 8 true 13)
  intro w20 u20 e20 d20
  have k23 := k_fxHigh (W := W) d20 hW
  with_reducible refine zPm k23 ?_
  rintro _ u21 g22 rfl
  refine zza 17 (zB (decide (z ≤ (Nt.p2i (W.b - 1) - 1)))) ?_ (hw := w1 8 true 13)
  refine zza 18 (zB (decide (z ≤ (Nt.p2i (W.b - 1) - 1)))) (zza 4 (zB (decide (z ≤ (Nt.p2i (W.b - 1) - 1)))) (zzb (zzo (ret0 [.bool (decide (z ≤ (Nt.p2i (W.b - 1) - 1)))] ⟨zzq, trivial⟩ fun u24 e25 => ?_))))
  show Value.bool _ = Value.bool _
  first | rfl | (congr 1; rw [Bool.eq_iff_iff, Nt.fit_iff]; first | (simp; done) | (simp; omega))
 ·refine zyq 13 (x := zB (decide ((-Nt.p2i (W.b - 1)) ≤ z))) (zB false) (by rw [hs19]) ?_
  have qhs19 := of_decide_eq_false hs19
  refine zzn 14 (uw 8 true false 13) (zzn 15 (uw 8 true false 13) (zzn 16 (uw 8 true false 13) (zzn 17 (uw 8 true false 13) (zza 18 (zB false) (zza 4 (zB false) (zzb (zzo (ret0 [.bool false] ⟨zzq, trivial⟩ fun u26 e27 => ?_))))))))
  show Value.bool _ = Value.bool _
  first | rfl | (congr 1; rw [Bool.eq_iff_iff, Nt.fit_iff]; first | (simp; done) | (simp; omega))
namespace Nt
end Nt
section
variable {P : Program} {ops : Array Oper} {w0 : Base} {u0 : World} {S : St} {u : World} {o : Oper} {p : List Tmp} {seq : Bool} {rest : List (Oper × List Tmp)} {K : St → World → Prop}
end
namespace Nt
structure NetOK (D W : WL) (s : Nat) (N : List (List TL)) (nx : List Int) (q : Int) : Prop where
 hd : WdOK D
 hw : WdOK W
 hs : s ≤ 64
 hn : N.length ≤ 64
 hx : nx.length = s
 ht : ∀ k, k < N.length → (N.getD k []).length ≤ 64 ∧ ∀ j, j < (N.getD k []).length → 0 ≤ ((N.getD k []).getD j tl0).f ∧ ((N.getD k []).getD j tl0).f ≤ s + k ∧ (((N.getD k []).getD j tl0).c = p2i W.f ∨ fitB W ((N.getD k []).getD j tl0).c = true)
 hr : ∀ j, j < nx.length → 0 ≤ nx.getD j 0 ∧ nx.getD j 0 ≤ s + N.length
 hq : 0 ≤ q ∧ q ≤ s + N.length
variable {D W : WL} {s : Nat} {N : List (List TL)} {nx v0 st xs vals : List Int} {q : Int} {k j : Nat} {T : List TL}
end Nt
namespace Nt
def secFit (W : WL) (p : List Int) : Bool := fitB W (p.getD 0 0) && fitB W (p.getD 1 0) && fitB W (p.getD 2 0) && (fitB W (p.getD 3 0) && fitB W (-p.getD 3 0)) && (fitB W (p.getD 4 0) && fitB W (-p.getD 4 0))
def csE (W : WL) (L : List (List Int)) : Int :=
 if ¬ WdOK W then 2 else if L.length < 1 ∨ 8 < L.length then 1 else if ∀ i, i < L.length → secFit W (L.getD i []) = true then 0 else 17
variable {D W : WL} {L : List (List Int)} {i j n k : Nat}
theorem csE_2 (h : ¬ WdOK W) : csE W L = 2 := by unfold csE; rw [if_pos h]
theorem csE_1 (hW : WdOK W) (h : L.length < 1 ∨ 8 < L.length) : csE W L = 1 := by unfold csE; rw [if_neg (not_not_intro hW), if_pos h]
theorem csE_17 (hW : WdOK W) (h1 : 1 ≤ L.length) (h8 : L.length ≤ 8) (hi : i < L.length) (h : secFit W (L.getD i []) = false) : csE W L = 17 := by
 unfold csE
 rw [if_neg (not_not_intro hW), if_neg xq, if_neg (fun k => by rw [k i hi] at h; cases h)]
theorem csE_0 (hW : WdOK W) (h1 : 1 ≤ L.length) (h8 : L.length ≤ 8) (h : ∀ i, i < L.length → secFit W (L.getD i []) = true) : csE W L = 0 := by
 unfold csE
 rw [if_neg (not_not_intro hW), if_neg xq, if_pos h]
theorem csE_ok (h : csE W L = 0) : WdOK W ∧ 1 ≤ L.length ∧ L.length ≤ 8 ∧ ∀ i, i < L.length → secFit W (L.getD i []) = true := by
 unfold csE at h
 by_cases hW : WdOK W
 ·rw [if_neg (not_not_intro hW)] at h
  by_cases hl : L.length < 1 ∨ 8 < L.length
  ·rw [if_pos hl] at h; cases h
  ·rw [if_neg hl] at h
   by_cases ha : ∀ i, i < L.length → secFit W (L.getD i []) = true
   ·exact ⟨hW, by omega, by omega, ha⟩
   ·rw [if_neg ha] at h; cases h
 ·rw [if_pos hW] at h; cases h
theorem secFit_ok (h : secFit W (L.getD i []) = true) : ∀ j, j < 5 → -p2i (W.b - 1) ≤ gi L i j ∧ gi L i j ≤ p2i (W.b - 1) - 1 := by
 unfold secFit at h
 simp only [Bool.and_eq_true] at h
 obtain ⟨⟨⟨⟨h0, h1⟩, h2⟩, h3, _⟩, h4, _⟩ := h
 intro j hj
 obtain rfl | rfl | rfl | rfl | rfl : j = 0 ∨ j = 1 ∨ j = 2 ∨ j = 3 ∨ j = 4 := by omega
 ·exact fit_iff.1 h0
 ·exact fit_iff.1 h1
 ·exact fit_iff.1 h2
 ·exact fit_iff.1 h3
 ·exact fit_iff.1 h4
end Nt
end Go.Proofs.YtifcjcecmoimjaaGreat
