/- Parts of the proof: contracts of functions, each walked once, and plain laws. -/
import Derived.Test.YtgmkhhfbckjaeaaGreatXchG
import Derived.Laws.CopyRow
set_option linter.unusedVariables false
set_option maxHeartbeats 8000000
namespace Go.Proofs.YtgmkhhfbckjaeaaGreat
open Nt
open Go.RowKit
theorem Nt.sg_no {V : List Rat} {N i : Nat} (h : Nt.GrOK V N) (hi : i < N) : decide (Nt.sgQ (Nt.gW V i) ≤ (0 : Int)) = false := by
 have h9 := h.gr.pos i hi
 unfold Nt.sgQ
 rw [Nt.cmpQ_le]
 exact decide_eq_false (fun h => by grind)
theorem Nt.cmp_no {V : List Rat} {N i : Nat} (h : Nt.GrOK V N) (hi : i < N) (h0 : 0 < i) : decide ((0 : Int) ≤ Nt.cmpQ (Nt.gX V (i - 1)) (Nt.gX V i)) = false := by
 have h9 := h.asc (i - 1) i xq hi
 unfold Nt.cmpQ
 rw [if_pos h9]; rfl
theorem Nt.less_yes {V : List Rat} {N i : Nat} (h : Nt.GrOK V N) (hi : i < N) (h0 : 0 < i) : decide (Nt.gX V (i - 1) < Nt.gX V i) = true := decide_eq_true (h.asc (i - 1) i xq hi)
theorem k_lsqValid {u w : World} {x : Sl} {N : Nat} {V : List Rat} (d : Dat u w) (hg : GrN u x N V 1) (ho : Nt.GrOK V N) : qyc 89 #[x.v] w (Post u w fun v _ => v = .bool true) := by
 have hxn : x.n = N := hg.len
 have hN12 := ho.n12
 have hN1 := ho.n1
 refine zzm Tryz.func89 rfl Tryz.ntmps89 Tryz.results89 d ?_
 refine sq9 (zza 2 (zB false) (zzb (zzd (sq9 (zza 5 (.v (x.v)) (zza 6 (zI x.n) (zza 7 (zB (decide ((x.n : Int) < 1))) (zyq 8 (x := zB (decide ((x.n : Int) < 1))) (zB false) (by rw [show (decide ((x.n : Int) < 1)) = false from (decide_eq_false xq)]) (zza 9 (.v (x.v)) ?_ (hw := w1 3 false 8))))))))))
 refine zza 10 (zI x.n) ?_ (hw := w1 3 false 8)
 refine zza 11 (zB (decide ((200 : Int) < (x.n : Int)))) ?_ (hw := w1 3 false 8)
 refine zza 12 (zB (decide ((200 : Int) < (x.n : Int)))) (zzb (zzu (b := decide ((200 : Int) < (x.n : Int))) xj (fun hb => ?_) (fun hb => ?_)))
 ·exact absurd hb (by rw [show (decide ((200 : Int) < (x.n : Int))) = false from (decide_eq_false xq)]; decide)
 clear hb
 refine zzs (zzp ?_)
 refine zzd (sq9 (zza 13 (.v (x.v)) (zza 14 (zI x.n) (zza 15 (zI 0) (zzb (zzt (zyn (I := fun ax S' u' => ∃ (i : Nat), (ax = N - i) ∧ (i ≤ N) ∧ (S' = St.of 41 [(0, .v (x.v)), (13, .v (x.v)), (14, zI x.n), (15, zI i)] []) ∧ (Ext u u')) (fun m S u1 u2 e h => by obtain ⟨i, hm, p0, hS, hE⟩ := h; exact ⟨i, hm, p0, hS, hE.trans e⟩) _ yz ⟨0, rfl, by omega, rfl, (Ext.refl _)⟩ ?_)))))))
 rintro ax _ u12 ⟨i, aG, hi, rfl, af⟩
 refine sq9 (zza 16 (zB (decide ((i : Int) < (x.n : Int)))) (zzb (zzd (zzu (b := decide ((i : Int) < (x.n : Int))) xj (fun ad => ?_) (fun ad => ?_)))))
 ·have qhb13 := qyt ad
  refine zzs (zzp ?_)
  refine zzd (zzt (sq9 (zza 17 (zI i) ?_)))
  have aH : x.n = N := GrN.len (hg.ext af)
  obtain ⟨ac, ak, aa, b14, ay, au, ai, al, ao, ah, az, am⟩ := gr_at (hg.ext af) (i := i) xq
  refine zya 18 (ay + i * 9) (n := x.n) (off := ay) (sz := 9) (i := (i : Int)) xq au xq (by first | omega | (have h9 : i < N := xq; omega)) sl23 (zym 19 (ac.cs ++ ak.cs ++ aa.cs) (gr_pt ai al ao) ty56 (zzk 4 ⟨56, [.bool false, qyn, qyn, .bool false, qyn, qyn, .bool false, qyn, qyn]⟩ (zza 3 (zI i) (zzj ⟨56, ac.cs ++ ak.cs ++ aa.cs⟩ ty56 ?_))))
  refine zzb (zzd (zzz [0, 1, 3, 7, 15, 31, 63, 127, 255, 255, 767, 2047, 4095, 8191, 255, 16639, 65535, 131071, 262143, 524287] [(0, []), (1, []), (2, []), (3, []), (4, []), (5, []), (6, []), (7, []), (8, []), (9, []), (10, []), (11, []), (12, []), (13, []), (14, []), (15, []), (16, []), (17, []), (18, []), (19, [])] xj xj (zza 20 (.adr 4 6) (zzi 21 (.v (aa.v)) ty32 zze (zzg 22 66 _ fun _ _ ae aK => qym (k_ratSign aK (am.ext ae).raw) ?_)))))
  rintro _ u16 an rfl
  refine zza 23 (zB (decide ((Nt.sgQ (Nt.gW V i)) ≤ 0))) (zyq 24 (x := zB (decide ((Nt.sgQ (Nt.gW V i)) ≤ 0))) (zB false) (by rw [show (decide ((Nt.sgQ (Nt.gW V i)) ≤ 0)) = false from (Nt.sg_no ho xq)]) (zza 25 (zI i) ?_ (hw := w1 4 false 24)))
  refine zza 26 (zB (decide ((0 : Int) < (i : Int)))) ?_ (hw := w1 4 false 24)
  rcases Bool.eq_false_or_eq_true (decide ((0 : Int) < (i : Int))) with hs20 | hs20
  ·refine qbi 27 hs20 ?_ (hw := w1 4 false 24)
   have qhs20 := qyt hs20
   refine zza 28 (.v (x.v)) ?_ (hw := w1 7 true 27)
   refine zza 29 (zI i) ?_ (hw := w1 7 true 27)
   refine qwi 30 ((i : Int) - 1) (i - 1 : Nat) xz ?_ (hw := w1 7 true 27)
   have aI : x.n = N := GrN.len (hg.ext (af.t (ae.t an.ext)))
   obtain ⟨ap, aD, aJ, aL, ar, aq, ag, aC, aA, aj, aw, aB⟩ := gr_at (hg.ext (af.t (ae.t an.ext))) (i := i - 1) xq
   refine zya 31 (ar + (i - 1) * 9) (n := x.n) (off := ar) (sz := 9) (i := ((i - 1 : Nat) : Int)) xq aq xq (by first | omega | (have h9 : i - 1 < N := xq; omega)) sl23 ?_ (hw := w1 7 true 27)
   refine zza 32 (.v (.pointer (some ⟨aL, ar + (i - 1) * 9, none⟩))) ?_ (hw := w1 7 true 27)
   refine zym 33 (ap.cs) ag ty32 ?_ (hw := w1 7 true 27)
   refine zza 34 (.adr 4 0) ?_ (hw := w1 7 true 27)
   refine zzi 35 (.v (ac.v)) ty32 zze ?_ (hw := w1 7 true 27)
   refine zzg 36 78 _ (fun _ _ av aF => qym (k_ratCompare aF (aj.ext av).raw (ah.ext (ae.t (an.t av))).raw xq xq) ?_) (hw := w1 7 true 27)
   rintro _ u23 aE rfl
   refine zza 37 (zB (decide ((0 : Int) ≤ (Nt.cmpQ (Nt.gX V (i - 1)) (Nt.gX V i))))) ?_ (hw := w1 7 true 27)
   refine zza 38 (zB (decide ((0 : Int) ≤ (Nt.cmpQ (Nt.gX V (i - 1)) (Nt.gX V i))))) ?_ (hw := w1 4 false 24)
   refine zza 39 (zB (decide ((0 : Int) ≤ (Nt.cmpQ (Nt.gX V (i - 1)) (Nt.gX V i))))) (zzc 41 [(0, .v (x.v)), (13, .v (x.v)), (14, zI x.n), (15, zI i), (39, zB (decide ((0 : Int) ≤ (Nt.cmpQ (Nt.gX V (i - 1)) (Nt.gX V i)))))] [] (zzu (b := decide ((0 : Int) ≤ (Nt.cmpQ (Nt.gX V (i - 1)) (Nt.gX V i)))) xj (fun hb => ?_) (fun hb => ?_)))
   ·exact absurd hb (by rw [show (decide ((0 : Int) ≤ (Nt.cmpQ (Nt.gX V (i - 1)) (Nt.gX V i)))) = false from (Nt.cmp_no ho xq xq)]; decide)
   clear hb
   refine zzs (zzp ?_)
   refine zzf (qwi 40 ((i : Int) + 1) (i + 1 : Nat) xz (zza 15 (zI (i + 1 : Nat)) (zzx ?_)))
   refine ⟨_, ?_, _, by exact zzv _ _ _, i + 1, rfl, by omega, rfl, (af.t (ae.t (an.t (av.t aE.ext))))⟩
   omega
  refine qbi 27 hs20 ?_ (hw := w1 4 false 24)
  have qhs20 := qyf hs20
  refine zzn 28 (uw 7 true false 27) (zzn 29 (uw 7 true false 27) (zzn 30 (uw 7 true false 27) (zzn 31 (uw 7 true false 27) (zzn 32 (uw 7 true false 27) (zzn 33 (uw 7 true false 27) (zzn 34 (uw 7 true false 27) (zzn 35 (uw 7 true false 27) (zzn 36 (uw 7 true false 27) (zzn 37 (uw 7 true false 27) (zza 38 (zB false) ?_ (hw := w1 4 false 24)))))))))))
  refine zza 39 (zB false) (zzc 41 [(0, .v (x.v)), (13, .v (x.v)), (14, zI x.n), (15, zI i), (39, zB false)] [] (zys xj (zzs (zzp ?_))))
  refine zzf (qwi 40 ((i : Int) + 1) (i + 1 : Nat) xz (zza 15 (zI (i + 1 : Nat)) (zzx ?_)))
  refine ⟨_, ?_, _, by exact zzv _ _ _, i + 1, rfl, by omega, rfl, (af.t (ae.t an.ext))⟩
  omega
 have qhb13 := qyf ad
 refine zyc (zzp (sq9 (zza 2 (zB true) (zzb (zzo (ret0 [.bool true] ⟨zzq, trivial⟩ fun u26 e27 => ?_))))))
 rfl
theorem k_r14Valid {u w : World} {x : Sl} {N : Nat} {V : List Rat} (d : Dat u w) (hg : GrN u x N V 1) (ho : Nt.GrOK V N) : qyc 69 #[x.v] w (Post u w fun v _ => v = .bool true) := by
 have hxn : x.n = N := hg.len
 have hN12 := ho.n12
 have hN1 := ho.n1
 refine zzm Tryz.func69 rfl Tryz.ntmps69 Tryz.results69 d ?_
 refine sq9 (zza 2 (zB false) (zzb (zzd (sq9 (zza 5 (.v (x.v)) (zza 6 (zI x.n) (zza 7 (zB (decide ((x.n : Int) < 1))) (zyq 8 (x := zB (decide ((x.n : Int) < 1))) (zB false) (by rw [show (decide ((x.n : Int) < 1)) = false from (decide_eq_false xq)]) (zza 9 (.v (x.v)) ?_ (hw := w1 3 false 8))))))))))
 refine zza 10 (zI x.n) ?_ (hw := w1 3 false 8)
 refine zza 11 (zB (decide ((200 : Int) < (x.n : Int)))) ?_ (hw := w1 3 false 8)
 refine zza 12 (zB (decide ((200 : Int) < (x.n : Int)))) (zzb (zzu (b := decide ((200 : Int) < (x.n : Int))) xj (fun hb => ?_) (fun hb => ?_)))
 ·exact absurd hb (by rw [show (decide ((200 : Int) < (x.n : Int))) = false from (decide_eq_false xq)]; decide)
 clear hb
 refine zzs (zzp ?_)
 refine zzd (sq9 (zza 13 (.v (x.v)) (zza 14 (zI x.n) (zza 15 (zI 0) (zzb (zzt (zyn (I := fun ax S' u' => ∃ (i : Nat), (ax = N - i) ∧ (i ≤ N) ∧ (S' = St.of 41 [(0, .v (x.v)), (13, .v (x.v)), (14, zI x.n), (15, zI i)] []) ∧ (Ext u u')) (fun m S u1 u2 e h => by obtain ⟨i, hm, p0, hS, hE⟩ := h; exact ⟨i, hm, p0, hS, hE.trans e⟩) _ yz ⟨0, rfl, by omega, rfl, (Ext.refl _)⟩ ?_)))))))
 rintro ax _ u12 ⟨i, aG, hi, rfl, af⟩
 refine sq9 (zza 16 (zB (decide ((i : Int) < (x.n : Int)))) (zzb (zzd (zzu (b := decide ((i : Int) < (x.n : Int))) xj (fun ad => ?_) (fun ad => ?_)))))
 ·have qhb13 := qyt ad
  refine zzs (zzp ?_)
  refine zzd (zzt (sq9 (zza 17 (zI i) ?_)))
  have aH : x.n = N := GrN.len (hg.ext af)
  obtain ⟨ac, ak, aa, b14, ay, au, ai, al, ao, ah, az, am⟩ := gr_at (hg.ext af) (i := i) xq
  refine zya 18 (ay + i * 9) (n := x.n) (off := ay) (sz := 9) (i := (i : Int)) xq au xq (by first | omega | (have h9 : i < N := xq; omega)) sl23 (zym 19 (ac.cs ++ ak.cs ++ aa.cs) (gr_pt ai al ao) ty56 (zzk 4 ⟨56, [.bool false, qyn, qyn, .bool false, qyn, qyn, .bool false, qyn, qyn]⟩ (zza 3 (zI i) (zzj ⟨56, ac.cs ++ ak.cs ++ aa.cs⟩ ty56 ?_))))
  refine zzb (zzd (zzz [0, 1, 3, 7, 15, 31, 63, 127, 255, 255, 767, 2047, 4095, 8191, 255, 16639, 65535, 131071, 262143, 524287] [(0, []), (1, []), (2, []), (3, []), (4, []), (5, []), (6, []), (7, []), (8, []), (9, []), (10, []), (11, []), (12, []), (13, []), (14, []), (15, []), (16, []), (17, []), (18, []), (19, [])] xj xj (zza 20 (.adr 4 6) (zzi 21 (.v (aa.v)) ty32 zze (zzg 22 32 _ fun _ _ ae aK => qym (k_rqSign aK (am.ext ae).raw xq) ?_)))))
  rintro _ u16 an rfl
  refine zza 23 (zB (decide ((Nt.sgQ (Nt.gW V i)) ≤ 0))) (zyq 24 (x := zB (decide ((Nt.sgQ (Nt.gW V i)) ≤ 0))) (zB false) (by rw [show (decide ((Nt.sgQ (Nt.gW V i)) ≤ 0)) = false from (Nt.sg_no ho xq)]) (zza 25 (zI i) ?_ (hw := w1 4 false 24)))
  refine zza 26 (zB (decide ((0 : Int) < (i : Int)))) ?_ (hw := w1 4 false 24)
  rcases Bool.eq_false_or_eq_true (decide ((0 : Int) < (i : Int))) with hs20 | hs20
  ·refine qbi 27 hs20 ?_ (hw := w1 4 false 24)
   have qhs20 := qyt hs20
   refine zza 28 (.v (x.v)) ?_ (hw := w1 7 true 27)
   refine zza 29 (zI i) ?_ (hw := w1 7 true 27)
   refine qwi 30 ((i : Int) - 1) (i - 1 : Nat) xz ?_ (hw := w1 7 true 27)
   have aI : x.n = N := GrN.len (hg.ext (af.t (ae.t an.ext)))
   obtain ⟨ap, aD, aJ, aL, ar, aq, ag, aC, aA, aj, aw, aB⟩ := gr_at (hg.ext (af.t (ae.t an.ext))) (i := i - 1) xq
   refine zya 31 (ar + (i - 1) * 9) (n := x.n) (off := ar) (sz := 9) (i := ((i - 1 : Nat) : Int)) xq aq xq (by first | omega | (have h9 : i - 1 < N := xq; omega)) sl23 ?_ (hw := w1 7 true 27)
   refine zza 32 (.v (.pointer (some ⟨aL, ar + (i - 1) * 9, none⟩))) ?_ (hw := w1 7 true 27)
   refine zym 33 (ap.cs) ag ty32 ?_ (hw := w1 7 true 27)
   refine zza 34 (.adr 4 0) ?_ (hw := w1 7 true 27)
   refine zzi 35 (.v (ac.v)) ty32 zze ?_ (hw := w1 7 true 27)
   refine zzg 36 26 _ (fun _ _ av aF => qym (k_rqLess aF (aj.ext av).raw (ah.ext (ae.t (an.t av))).raw xq xq) ?_) (hw := w1 7 true 27)
   rintro _ u23 aE rfl
   refine zza 37 (zB (!(decide ((Nt.gX V (i - 1)) < (Nt.gX V i))))) ?_ (hw := w1 7 true 27)
   refine zza 38 (zB (!(decide ((Nt.gX V (i - 1)) < (Nt.gX V i))))) ?_ (hw := w1 4 false 24)
   refine zza 39 (zB (!(decide ((Nt.gX V (i - 1)) < (Nt.gX V i))))) (zzc 41 [(0, .v (x.v)), (13, .v (x.v)), (14, zI x.n), (15, zI i), (39, zB (!(decide ((Nt.gX V (i - 1)) < (Nt.gX V i)))))] [] (zzu (b := !(decide ((Nt.gX V (i - 1)) < (Nt.gX V i)))) xj (fun hb => ?_) (fun hb => ?_)))
   ·exact absurd hb (by rw [show (!(decide ((Nt.gX V (i - 1)) < (Nt.gX V i)))) = false from (by rw [Nt.less_yes ho xq xq]; rfl)]; decide)
   clear hb
   refine zzs (zzp ?_)
   refine zzf (qwi 40 ((i : Int) + 1) (i + 1 : Nat) xz (zza 15 (zI (i + 1 : Nat)) (zzx ?_)))
   refine ⟨_, ?_, _, by exact zzv _ _ _, i + 1, rfl, by omega, rfl, (af.t (ae.t (an.t (av.t aE.ext))))⟩
   omega
  refine qbi 27 hs20 ?_ (hw := w1 4 false 24)
  have qhs20 := qyf hs20
  refine zzn 28 (uw 7 true false 27) (zzn 29 (uw 7 true false 27) (zzn 30 (uw 7 true false 27) (zzn 31 (uw 7 true false 27) (zzn 32 (uw 7 true false 27) (zzn 33 (uw 7 true false 27) (zzn 34 (uw 7 true false 27) (zzn 35 (uw 7 true false 27) (zzn 36 (uw 7 true false 27) (zzn 37 (uw 7 true false 27) (zza 38 (zB false) ?_ (hw := w1 4 false 24)))))))))))
  refine zza 39 (zB false) (zzc 41 [(0, .v (x.v)), (13, .v (x.v)), (14, zI x.n), (15, zI i), (39, zB false)] [] (zys xj (zzs (zzp ?_))))
  refine zzf (qwi 40 ((i : Int) + 1) (i + 1 : Nat) xz (zza 15 (zI (i + 1 : Nat)) (zzx ?_)))
  refine ⟨_, ?_, _, by exact zzv _ _ _, i + 1, rfl, by omega, rfl, (af.t (ae.t an.ext))⟩
  omega
 have qhb13 := qyf ad
 refine zyc (zzp (sq9 (zza 2 (zB true) (zzb (zzo (ret0 [.bool true] ⟨zzq, trivial⟩ fun u26 e27 => ?_))))))
 rfl
def Nt.wrE (N : Nat) (d : Int) : Int := if d < 0 ∨ 50 < d then 12 else if (N : Int) < d + 2 then 1 else 0
theorem k_exWrong {u w : World} {D : Int} {x : Sl} {N : Nat} {V : List Rat} (d : Dat u w) (hg : GrN u x N V 1) (ho : Nt.GrOK V N) : qyc 59 #[x.v, .int .i64 D] w (Post u w fun v _ => v = .int .i64 (Nt.wrE N D)) := by
 have hxn : x.n = N := hg.len
 have hN12 := ho.n12
 have hN1 := ho.n1
 refine zzm Tryz.func59 rfl Tryz.ntmps59 Tryz.results59 d ?_
 refine sq9 (zza 4 (zI 0) (zzb (zzd (sq9 (zza 5 (.v (x.v)) (zzg 6 89 _ fun _ _ ae ad => qym (k_lsqValid ad (hg.ext ae) ho) ?_))))))
 rintro _ u12 g13 rfl
 refine zza 7 (zB false) (zzb (zys xj (zzs (zzp ?_))))
 refine zzd (sq9 (zza 8 (zI D) (zza 9 (zB (decide (D < 0))) ?_)))
 rcases Bool.eq_false_or_eq_true (decide (D < 0)) with hs15 | hs15
 ·refine qbi 10 hs15 ?_
  have qhs15 := qyt hs15
  refine zzn 11 (uw 2 false true 10) (zzn 12 (uw 2 false true 10) (zza 13 (zB true) (zzb (zyr xj (sq9 (zza 4 (zI 12) (zzb (zzo (zzw (ret0 [.int .i64 12] ⟨zzq, trivial⟩ fun u16 e17 => ?_))))))))))
  show Value.int .i64 12 = Value.int .i64 (Nt.wrE N D)
  simp only [decide_eq_true_eq] at hs15
  have h9 : Nt.wrE N D = 12 := by unfold Nt.wrE; (repeat split) <;> omega
  rw [h9]
 refine qbi 10 hs15 ?_
 have qhs15 := qyf hs15
 refine zza 11 (zI D) ?_ (hw := w1 2 false 10)
 refine zza 12 (zB (decide ((50 : Int) < D))) ?_ (hw := w1 2 false 10)
 refine zza 13 (zB (decide ((50 : Int) < D))) (zzb (zzu (b := decide ((50 : Int) < D)) xj (fun aa => ?_) (fun aa => ?_)))
 ·have qhb18 := qyt aa
  refine sq9 (zza 4 (zI 12) (zzb (zzo (zzw (ret0 [.int .i64 12] ⟨zzq, trivial⟩ fun u19 e20 => ?_)))))
  show Value.int .i64 12 = Value.int .i64 (Nt.wrE N D)
  simp only [decide_eq_false_iff_not] at hs15
  simp only [decide_eq_true_eq] at aa
  have h9 : Nt.wrE N D = 12 := by unfold Nt.wrE; (repeat split) <;> omega
  rw [h9]
 have qhb18 := qyf aa
 refine zzs (zzp ?_)
 refine zzd (sq9 (zza 14 (.v (x.v)) (zza 15 (zI x.n) (zza 16 (zI D) (zyq 17 (x := zI (IntKind.i64.wrap (D + 2))) (zI (D + 2)) zk (zza 18 (zB (decide ((x.n : Int) < (D + 2)))) (zzb (zzu (b := decide ((x.n : Int) < (D + 2))) xj (fun ac => ?_) (fun ac => ?_)))))))))
 ·have qhb21 := qyt ac
  refine sq9 (zza 4 (zI 1) (zzb (zzo (zzw (ret0 [.int .i64 1] ⟨zzq, trivial⟩ fun u22 e23 => ?_)))))
  show Value.int .i64 1 = Value.int .i64 (Nt.wrE N D)
  simp only [decide_eq_false_iff_not] at hs15
  simp only [decide_eq_false_iff_not] at aa
  simp only [decide_eq_true_eq] at ac
  have h9 : Nt.wrE N D = 1 := by unfold Nt.wrE; (repeat split) <;> omega
  rw [h9]
 have qhb21 := qyf ac
 refine zzs (zzp ?_)
 refine sq9 (zza 4 (zI 0) (zzb (zzo (ret0 [.int .i64 0] ⟨zzq, trivial⟩ fun u24 e25 => ?_))))
 show Value.int .i64 0 = Value.int .i64 (Nt.wrE N D)
 simp only [decide_eq_false_iff_not] at hs15
 simp only [decide_eq_false_iff_not] at aa
 simp only [decide_eq_false_iff_not] at ac
 have h9 : Nt.wrE N D = 0 := by unfold Nt.wrE; (repeat split) <;> omega
 rw [h9]
theorem k_exSize {u w : World} {r : RL} (d : Dat u w) : qyc 145 #[r.v] w (Post u w fun v _ => v = (⟨false, r.m, r.d⟩ : RL).v) := by
 refine zzm Tryz.func145 rfl Tryz.ntmps145 Tryz.results145 d ?_
 refine sq9 (zzk 1 ⟨32, r.cs⟩ (zzk 2 ⟨32, zw3⟩ (zzb (sq9 (zza 3 (.adr 1 0) (zza 4 (.adr 1 0) (zzj ⟨32, [.bool false, r.m.v, r.d.v]⟩ ty4 ?_)))))))
 refine zzb (sq9 (zzi 5 (.v (.agg #[.bool false, r.m.v, r.d.v])) ty32 zze (zzj ⟨32, [.bool false, r.m.v, r.d.v]⟩ ty32 ?_)))
 refine zzb (zzo (ret0 [.agg #[.bool false, r.m.v, r.d.v]] ⟨zzr ty32 zze, trivial⟩ fun u11 e12 => ?_))
 rfl
theorem k_exCompare {u w : World} {r1 r2 : RL} {x y : Rat} {K L : Nat} (d : Dat u w) (h1 : RatP u r1 x K) (h2 : RatP u r2 y L) (hK : K ≤ 100000000) (hL : L ≤ 100000000) : qyc 64 #[r1.v, r2.v] w (Post u w fun v _ => v = .int .i64 (Nt.cmpQ x y)) := by
 obtain ⟨⟨z1, D1, aq, aj, al, au⟩, hk1⟩ := h1
 obtain ⟨⟨z2, D2, ap, am, an, ak⟩, hk2⟩ := h2
 refine zzm Tryz.func64 rfl Tryz.ntmps64 Tryz.results64 d ?_
 refine sq9 (zzk 2 ⟨32, r1.cs⟩ (zzk 3 ⟨32, r2.cs⟩ (zza 4 (zI 0) (zzb (zzd (zzz [0, 1, 0, 4, 12, 31, 0, 64, 0, 256, 768, 2047, 4095, 8191] [(0, []), (1, []), (2, []), (3, []), (4, []), (6, []), (7, []), (8, []), (9, []), (10, []), (5, []), (11, []), (12, []), (13, [])] xj xj (zza 5 (.adr 2 0) (zzi 6 (.v (.agg #[.bool r1.s, r1.m.v])) ty30 zze (zza 7 (.adr 3 2) (zzi 8 (.v (r2.d.v)) ty28 zzl (zza 9 (.v (.agg #[.bool false, r2.d.v])) ?_)))))))))))
 refine zza 11 (.adr 3 0) (zzi 12 (.v (.agg #[.bool r2.s, r2.m.v])) ty30 zze (zza 13 (.adr 2 2) (zzi 14 (.v (r1.d.v)) ty28 zzl (zza 15 (.v (.agg #[.bool false, r1.d.v])) (zzg 10 143 _ fun _ _ aa ag => qym (k_intMul ag (aj.ext aa) (nat_int (an.ext aa)) xq xq) ?_)))))
 rintro _ u14 ae ⟨i12, rfl, ah⟩
 refine zzg 16 143 _ fun _ _ ac af => qym (k_intMul af (am.ext (aa.t (ae.t ac))) (nat_int (al.ext (aa.t (ae.t ac)))) xq xq) ?_
 rintro _ u20 ar ⟨i18, rfl, ao⟩
 refine zzg 17 146 _ fun _ _ ad ai => qym (k_intCompare ai (ah.ext (ac.t (ar.t ad))).raw (ao.ext ad).raw) ?_
 rintro _ u24 g25 rfl
 refine zza 4 (zI (Nt.cmpS (z1 * (D2 : Int)) (z2 * (D1 : Int)))) (zzb (zzo (ret0 [.int .i64 (Nt.cmpS (z1 * (D2 : Int)) (z2 * (D1 : Int)))] ⟨zzq, trivial⟩ fun u27 e28 => ?_)))
 show _ = _
 rw [au, ak, ← Nt.cmp_mk aq ap]
 rfl
theorem Nt.cmpg_y (x y : Rat) (h : decide ((0 : Int) < Nt.cmpQ x y) = true) : y < x := by rw [Nt.cmpQ_gt] at h; exact qyt h
theorem Nt.cmpg_n (x y : Rat) (h : decide ((0 : Int) < Nt.cmpQ x y) = false) : ¬ y < x := by rw [Nt.cmpQ_gt] at h; exact qyf h
theorem k_greatest {u w : World} {y : Sl} {E : List Rat} {n K : Nat} (d : Dat u w) (hE : PolP u y E K) (hn : E.length = n) (hn1 : 1 ≤ n) (hn9 : n ≤ 1000) (hK : K ≤ 100000000) : qyc 63 #[y.v] w (Post u w fun v u' => ∃ (r : RL) (a : Nat), v = .tuple #[r.v, .int .i64 (a : Int)] ∧ RatP u' r (Nt.absQ (E.getD a 0)) K ∧ Nt.Gst E n a) := by
 have hyn := hE.len
 refine zzm Tryz.func63 rfl Tryz.ntmps63 Tryz.results63 d ?_
 refine sq9 (zzk 2 ⟨32, zw3⟩ (zza 3 (zI 0) (zzb (sq9 (zza 8 (.v (y.v)) ?_)))))
 have hl11 := PolP.len hE
 obtain ⟨af, b11, aw, al, ao, am⟩ := polp_at hE (i := 0) xq
 refine zya 9 (aw + 0 * 3) (n := y.n) (off := aw) (sz := 3) (i := 0) xq al xq xq sl26 (zym 10 af.cs ao ty32 (zzg 11 145 _ fun _ _ ap aC => qym (k_exSize (r := af) aC) ?_))
 rintro _ aA an rfl
 refine zzk 4 ⟨32, zw3⟩ (zzj ⟨32, [.bool false, af.m.v, af.d.v]⟩ ty32 ?_)
 refine zza 5 (zI 0) (zzb (zzd (sq9 (zza 6 (zI 1) (zzb (zzt (zyn (I := fun au S' u' => ∃ (i : Nat) (a : Nat) (rw : RL), (au = n - i) ∧ (i ≤ n) ∧ (1 ≤ i) ∧ (Nt.Gst E i a) ∧ (S' = St.of 31 [(0, .v (y.v)), (2, .adr 2 0), (4, .adr 4 0), (5, zI a), (6, zI i)] [(2, ⟨32, zw3⟩), (4, ⟨32, rw.cs⟩)]) ∧ (Ext aA u') ∧ (RatP u' rw (Nt.absQ (E.getD a 0)) K)) (fun m S u1 u2 e h => by obtain ⟨i, a, rw, hm, p0, p1, p2, hS, hE, f0⟩ := h; exact ⟨i, a, rw, hm, p0, p1, p2, hS, hE.trans e, f0.ext e⟩) _ yz ⟨1, 0, (⟨false, af.m, af.d⟩ : RL), rfl, by omega, by omega, (Nt.gst_1 E), rfl, (Ext.refl _), ((RatP.abs (am.ext ap)).ext an.ext)⟩ ?_)))))))
 rintro au _ u16 ⟨i, a, rw, az, hi, hi1, hG, rfl, ak, hM⟩
 have ha9 := hG.lt
 refine zzd (sq9 (zza 12 (zI i) (zza 13 (.v (y.v)) (zza 14 (zI y.n) (zza 15 (zB (decide ((i : Int) < (y.n : Int)))) (zzb (zzu (b := decide ((i : Int) < (y.n : Int))) xj (fun ad => ?_) (fun ad => ?_))))))))
 ·have qhb17 := qyt ad
  refine zzs (zzp ?_)
  refine zzd (zzt (sq9 (zza 18 (.v (y.v)) (zza 19 (zI i) ?_))))
  have hl18 := PolP.len (hE.ext (ap.t (an.t ak)))
  obtain ⟨aa, b18, av, ar, aq, ai⟩ := polp_at (hE.ext (ap.t (an.t ak))) (i := i) xq
  refine zya 20 (av + i * 3) (n := y.n) (off := av) (sz := 3) (i := (i : Int)) xq ar xq xq sl26 (zym 21 aa.cs aq ty32 (zzg 22 145 _ fun _ _ ah aB => qym (k_exSize (r := aa) aB) ?_))
  rintro _ u20 ag rfl
  refine zzk 7 ⟨32, zw3⟩ (zzj ⟨32, [.bool false, aa.m.v, aa.d.v]⟩ ty32 ?_)
  refine zzb (sq9 (zzi 23 (.v (.agg #[.bool false, aa.m.v, aa.d.v])) ty32 zze (zzi 24 (.v (rw.v)) ty32 zze (zzg 25 64 _ fun _ _ ae ax => qym (k_exCompare ax ((RatP.abs (ai.ext ah)).ext (ag.t ae)) (hM.ext (ah.t (ag.t ae))) xq xq) ?_))))
  rintro _ u24 aj rfl
  refine zza 26 (zB (decide ((0 : Int) < (Nt.cmpQ (Nt.absQ (E.getD i 0)) (Nt.absQ (E.getD a 0)))))) (zzb (zzu (b := decide ((0 : Int) < (Nt.cmpQ (Nt.absQ (E.getD i 0)) (Nt.absQ (E.getD a 0))))) xj (fun ac => ?_) (fun ac => ?_)))
  ·have qhb27 := qyt ac
   refine zzf (zzi 27 (.v (.agg #[.bool false, aa.m.v, aa.d.v])) ty32 zze (zza 28 (zI i) (zzj ⟨32, [.bool false, aa.m.v, aa.d.v]⟩ ty32 ?_)))
   refine zza 5 (zI i) (zzx ?_)
   refine zzp (zzf (zza 16 (zI i) (qwi 17 ((i : Int) + 1) (i + 1 : Nat) xz (zza 6 (zI (i + 1 : Nat)) (zzx ?_)))))
   refine ⟨_, ?_, _, by exact zzv _ _ _, i + 1, i, (⟨false, aa.m, aa.d⟩ : RL), rfl, by omega, by omega, (Nt.Gst.up hG (Nt.cmpg_y _ _ ac)), rfl, (ak.t (ah.t (ag.t (ae.t aj.ext)))), ((RatP.abs (ai.ext ah)).ext (ag.t (ae.t aj.ext)))⟩
   omega
  have qhb27 := qyf ac
  refine zzs (zzp ?_)
  refine zzf (zza 16 (zI i) (qwi 17 ((i : Int) + 1) (i + 1 : Nat) xz (zza 6 (zI (i + 1 : Nat)) (zzx ?_))))
  refine ⟨_, ?_, _, by exact zzv _ _ _, i + 1, a, rw, rfl, by omega, by omega, (Nt.Gst.keep hG (Nt.cmpg_n _ _ ac)), rfl, (ak.t (ah.t (ag.t (ae.t aj.ext)))), (hM.ext (ah.t (ag.t (ae.t aj.ext))))⟩
  omega
 have qhb17 := qyf ad
 refine zyc (zzp (sq9 (zzi 29 (.v (rw.v)) ty32 zze (zza 30 (zI a) (zzj ⟨32, rw.cs⟩ ty32 ?_)))))
 refine zza 3 (zI a) (zzb (zzo (ret0 [rw.v, .int .i64 a] ⟨zzr ty32 zze, zzq, trivial⟩ fun u28 ay => ?_)))
 obtain rfl : i = n := by omega
 exact ⟨rw, a, rfl, (hM.ext ay), hG⟩
namespace Nt
theorem rdiv0 {s : Bool} {N D : Nat} (hD : 0 < D) (h : ¬ (s = true ∧ 0 < N % D)) : sg s N / (D : Int) = sg (!(s == false)) (N / D) ∧ sg s N % (D : Int) = sg false (N % D) := by
 have hm := Nat.mod_lt N hD
 have hk := Nat.div_add_mod N D
 have hk2 : (N : Int) = (D : Int) * ((N / D : Nat) : Int) + ((N % D : Nat) : Int) := by rw [← Int.natCast_mul, ← Int.natCast_add, hk]
 apply ediv_uniq xq
 ·unfold sg
  cases s
  ·simpa using hk2
  have h0 : N % D = 0 := by simp at h; omega
  rw [h0] at hk2 ⊢
  generalize N / D = Q at *
  simp [Int.mul_neg]
  omega
 ·unfold sg; simp; omega
 unfold sg; simp; omega
theorem rdiv1 {N D : Nat} (hD : 0 < D) (h : 0 < N % D) : sg true N / (D : Int) = sg (!(true == false)) (N / D + 1) ∧ sg true N % (D : Int) = sg false (D - N % D) := by
 have hm := Nat.mod_lt N hD
 have hk := Nat.div_add_mod N D
 have hk2 : (N : Int) = (D : Int) * ((N / D : Nat) : Int) + ((N % D : Nat) : Int) := by rw [← Int.natCast_mul, ← Int.natCast_add, hk]
 apply ediv_uniq xq
 ·unfold sg
  simp
  rw [show ((N : Int) / (D : Int)) = ((N / D : Nat) : Int) from rfl, show ((D - N % D : Nat) : Int) = (D : Int) - ((N % D : Nat) : Int) by omega, Int.mul_neg, Int.mul_add]
  omega
 ·unfold sg; simp
 unfold sg; simp; omega
end Nt
theorem k_intDivP {u w : World} {i1 : IL} {y : Sl} {zN : Int} {M K L : Nat} (d : Dat u w) (hi : IntV u i1 zN K) (hy : NatV u y M L) (hM : 0 < M) (hK : K ≤ 100000000) (hL : L ≤ 100000000) : qyc 141 #[i1.v, .agg #[.bool false, y.v]] w (Post u w fun v u' => ∃ i j : IL, v = .tuple #[i.v, j.v, .int .i64 0] ∧ IntN u' i (zN / (M : Int)) (K + 1) ∧ IntN u' j (zN % (M : Int)) L) := by
 have hL1 : 1 ≤ L := by have h2 := hy.size; have h3 := Nt.dl_mono (x := M) (y := 1) xq; rw [Nt.dl_one] at h3; omega
 obtain ⟨N, hN, hzN⟩ := hi
 refine zzm Tryz.func141 rfl Tryz.ntmps141 Tryz.results141 d ?_
 refine sq9 (zzk 2 ⟨30, i1.cs⟩ (zzk 3 ⟨30, [.bool false, y.v]⟩ (zzk 4 ⟨30, [.bool false, qyn]⟩ (zzk 5 ⟨30, [.bool false, qyn]⟩ (zza 6 (zI 0) (zzb (sq9 (zza 11 (.adr 2 1) (zzi 12 (.v (i1.m.v)) ty28 zzl (zza 13 (.adr 3 1) (zzi 14 (.v (y.v)) ty28 zzl ?_)))))))))))
 refine zzg 15 195 _ fun _ _ ar aE => qym (k_natDivMod aE (hN.ext ar) (hy.ext ar) hM xq xq) ?_
 rintro _ u16 aR ⟨ae, aa, rfl, ao, ad⟩
 refine zza 10 (.v (.tuple #[ae.v, aa.v, .int .i64 0])) (zza 16 (.v (ae.v)) (zza 17 (.v (aa.v)) (zza 18 (zI 0) (zza 7 (.v (ae.v)) (zza 8 (.v (aa.v)) (zza 9 (zI 0) (zzb (zzd (sq9 (zza 19 (zI 0) (zza 20 (zB false) ?_)))))))))))
 refine zzb (zys xj (zzs (zzp ?_)))
 refine zzd (sq9 (zza 24 (.adr 2 0) (zzi 25 (zB i1.s) ty4 zzl ?_)))
 rcases Bool.eq_false_or_eq_true i1.s with hs19 | hs19
 ·refine qbi 26 hs19 (zza 27 (.v (aa.v)) ?_ (hw := w1 2 true 26))
  refine zza 28 (zI aa.n) ?_ (hw := w1 2 true 26)
  refine zza 29 (zB (decide ((0 : Int) < (aa.n : Int)))) ?_ (hw := w1 2 true 26)
  refine zza 30 (zB (decide ((0 : Int) < (aa.n : Int)))) (zzb (zzu (b := decide ((0 : Int) < (aa.n : Int))) xj (fun ac => ?_) (fun ac => ?_)))
  ·have qhb20 := qyt ac
   refine sq9 (zza 31 (.v (ae.v)) (zxx 32 ⟨133, [.int .u32 1]⟩ 1 (fun b21 u22 am aV => ?_)))
   refine zzg 33 196 _ fun _ _ ag aY => qym (k_natAdd aY (ao.ext (am.trans ag)).raw ((one_data aV).ext ag).raw xq xq) ?_
   rintro _ u28 av ⟨ap, rfl, aH⟩
   refine zza 7 (.v (ap.v)) (zzb (zzf (zza 34 (.adr 3 1) (zzi 35 (.v (y.v)) ty28 zzl (zza 36 (.v (aa.v)) (zzg 37 197 _ fun _ _ ak aN => qym (k_natSub aN (hy.ext (ar.t (aR.t (am.t (ag.t (av.t ak)))))) (ad.ext (am.t (ag.t (av.t ak)))).raw xq xq) ?_))))))
   rintro _ u34 a2 ⟨an, rfl, aZ⟩
   refine zza 8 (.v (an.v)) (zzc 47 [(2, .adr 2 0), (3, .adr 3 0), (4, .adr 4 0), (5, .adr 5 0), (7, .v (ap.v)), (8, .v (an.v))] [(2, ⟨30, i1.cs⟩), (3, ⟨30, [.bool false, y.v]⟩), (4, ⟨30, [.bool false, qyn]⟩), (5, ⟨30, [.bool false, qyn]⟩)] (sq9 (zza 38 (.adr 2 0) (zzi 39 (zB i1.s) ty4 zzl (zza 40 (.adr 3 0) (zzi 41 (zB false) ty4 zzl (zza 42 (zB (!(i1.s == false))) (zza 43 (.v (ap.v)) (zzg 44 193 _ fun _ _ aw aQ => qym (k_signed aQ (s := !(i1.s == false)) (aH.ext (ak.t (a2.t aw)))) ?_)))))))))
   rintro _ u40 aM ⟨al, rfl, aJ⟩
   refine zza 45 (.v (an.v)) (zzg 46 193 _ fun _ _ ay aK => qym (k_signed aK (s := false) (aZ.ext (aw.t (aM.t ay)))) ?_)
   rintro _ u46 aL ⟨aq, rfl, a0⟩
   refine zzj ⟨30, al.cs⟩ ty30 ?_
   refine zzj ⟨30, aq.cs⟩ ty30 ?_
   refine zza 6 (zI 0) (zzb (zzo (ret0 [al.v, aq.v, .int .i64 0] ⟨zzr ty30 zze, zzr ty30 zze, zzq, trivial⟩ fun u49 aD => ?_)))
   have hrp := ad.pos
   have e9 := hs19
   have key := Nt.rdiv1 (N := N) hM xq
   have g1 := (aJ.ext (ay.t (aL.t aD)))
   have g2 := (a0.ext aD)
   rw [e9] at g1
   rw [e9] at hzN
   have hK1 : 1 ≤ K := by have h2 := hN.size; have h3 := (Nt.dl_pos (x := N)).2 (by rcases Nat.eq_zero_or_pos N with e | e; (rw [e, Nat.zero_mod] at hrp; omega); exact e); omega
   rw [hzN]
   refine ⟨al, aq, rfl, IntN.more (K := (max K 1 + 1)) ?_ xq, IntN.more (K := L) ?_ xq⟩
   ·rw [key.1]; exact g1
   rw [key.2]; exact g2
  have qhb20 := qyf ac
  refine zzs (zzp ?_)
  refine sq9 (zza 38 (.adr 2 0) (zzi 39 (zB i1.s) ty4 zzl (zza 40 (.adr 3 0) (zzi 41 (zB false) ty4 zzl (zza 42 (zB (!(i1.s == false))) (zza 43 (.v (ae.v)) (zzg 44 193 _ fun _ _ aB aP => qym (k_signed aP (s := !(i1.s == false)) (ao.ext aB)) ?_)))))))
  rintro _ u54 aI ⟨ai, rfl, aS⟩
  refine zza 45 (.v (aa.v)) (zzg 46 193 _ fun _ _ aC a1 => qym (k_signed a1 (s := false) (ad.ext (aB.t (aI.t aC)))) ?_)
  rintro _ u60 aX ⟨aj, rfl, aO⟩
  refine zzj ⟨30, ai.cs⟩ ty30 ?_
  refine zzj ⟨30, aj.cs⟩ ty30 ?_
  refine zza 6 (zI 0) (zzc 47 [(4, .adr 4 0), (5, .adr 5 0), (6, zI 0)] [(4, ⟨30, ai.cs⟩), (5, ⟨30, aj.cs⟩)] (zzo (ret0 [ai.v, aj.v, .int .i64 0] ⟨zzr ty30 zze, zzr ty30 zze, zzq, trivial⟩ fun u63 au => ?_)))
  have hrp := ad.pos
  have key := Nt.rdiv0 (s := i1.s) (N := N) hM (by rintro ⟨k1, k2⟩; omega)
  have g1 := (aS.ext (aC.t (aX.t au)))
  have g2 := (aO.ext au)
  rw [hzN]
  refine ⟨ai, aj, rfl, IntN.more (K := K) ?_ xq, IntN.more (K := L) ?_ xq⟩
  ·rw [key.1]; exact g1
  rw [key.2]; exact g2
 refine qbi 26 hs19 (zzn 27 (uw 2 true false 26) (zzn 28 (uw 2 true false 26) (zzn 29 (uw 2 true false 26) (zza 30 (zB false) (zzb (zys xj (zzs (zzp ?_))))))))
 refine sq9 (zza 38 (.adr 2 0) (zzi 39 (zB i1.s) ty4 zzl (zza 40 (.adr 3 0) (zzi 41 (zB false) ty4 zzl (zza 42 (zB (!(i1.s == false))) (zza 43 (.v (ae.v)) (zzg 44 193 _ fun _ _ ax aT => qym (k_signed aT (s := !(i1.s == false)) (ao.ext ax)) ?_)))))))
 rintro _ u68 aU ⟨af, rfl, aF⟩
 refine zza 45 (.v (aa.v)) (zzg 46 193 _ fun _ _ aA aG => qym (k_signed aG (s := false) (ad.ext (ax.t (aU.t aA)))) ?_)
 rintro _ u74 a3 ⟨ah, rfl, aW⟩
 refine zzj ⟨30, af.cs⟩ ty30 ?_
 refine zzj ⟨30, ah.cs⟩ ty30 ?_
 refine zza 6 (zI 0) (zzc 47 [(4, .adr 4 0), (5, .adr 5 0), (6, zI 0)] [(4, ⟨30, af.cs⟩), (5, ⟨30, ah.cs⟩)] (zzo (ret0 [af.v, ah.v, .int .i64 0] ⟨zzr ty30 zze, zzr ty30 zze, zzq, trivial⟩ fun u77 az => ?_)))
 have hrp := ad.pos
 have key := Nt.rdiv0 (s := i1.s) (N := N) hM (by rintro ⟨k1, k2⟩; rw [k1] at hs19; exact absurd hs19 yv)
 have g1 := (aF.ext (aA.t (a3.t az)))
 have g2 := (aW.ext az)
 rw [hzN]
 refine ⟨af, ah, rfl, IntN.more (K := K) ?_ xq, IntN.more (K := L) ?_ xq⟩
 ·rw [key.1]; exact g1
 rw [key.2]; exact g2
theorem k_intSub {u w : World} {i1 : IL} {zN : Int} {K : Nat} {i2 : IL} {zM : Int} {L : Nat} (d : Dat u w) (hi1 : IntV u i1 zN K) (hi2 : IntV u i2 zM L) (hK : K ≤ 400000000) (hL : L ≤ 400000000) : qyc 199 #[i1.v, i2.v] w (Post u w fun v u' => ∃ i : IL, v = i.v ∧ IntN u' i (zN - zM) (max K L + 1)) := by
 obtain ⟨N, hN, hzN⟩ := hi1
 obtain ⟨M, hM, hzM⟩ := hi2
 refine zzm Tryz.func199 rfl Tryz.ntmps199 Tryz.results199 d ?_
 refine sq9 (zzk 2 ⟨30, i1.cs⟩ (zzk 3 ⟨30, i2.cs⟩ (zzk 4 ⟨30, [.bool false, qyn]⟩ (zzb (sq9 (zzi 5 (.v (i1.v)) ty30 zze (zza 6 (.adr 3 0) (zzi 7 (zB i2.s) ty4 zzl (zza 8 (zB (!i2.s)) (zza 9 (.adr 3 1) (zzi 10 (.v (i2.m.v)) ty28 zzl ?_)))))))))))
 refine zza 11 (.v (.agg #[.bool (!i2.s), i2.m.v])) (zzg 12 165 _ fun _ _ ac ad => qym (k_intAdd ad (IntV.same (s := i1.s) (hN.ext ac)) (IntV.same (s := !i2.s) (hM.ext ac)) xq xq) ?_)
 rintro _ u14 g15 ⟨aa, rfl, ae⟩
 refine zzj ⟨30, aa.cs⟩ ty30 ?_
 refine zzb (zzo (ret0 [aa.v] ⟨zzr ty30 zze, trivial⟩ fun u17 af => ?_))
 refine ⟨aa, rfl, IntN.more (K := (max K L + 1)) ?_ xq⟩
 have e9 : zN - zM = Nt.sg i1.s N + Nt.sg (!i2.s) M := by rw [hzN, hzM]; unfold Nt.sg; cases i1.s <;> cases i2.s <;> simp <;> omega
 rw [e9]
 exact (ae.ext af)
theorem k_intGcd {u w : World} {i1 i2 : IL} {N M K L : Nat} (d : Dat u w) (h1 : NatV u i1.m N K) (h2 : NatV u i2.m M L) (hK : K ≤ 100000000) (hL : L ≤ 100000000) : qyc 142 #[i1.v, i2.v] w (Post u w fun v u' => ∃ i : IL, v = i.v ∧ IntN u' i (Nat.gcd N M : Nat) (max K L)) := by
 refine zzm Tryz.func142 rfl Tryz.ntmps142 Tryz.results142 d ?_
 refine sq9 (zzk 2 ⟨30, i1.cs⟩ (zzk 3 ⟨30, i2.cs⟩ (zzk 4 ⟨30, [.bool false, qyn]⟩ (zzb (sq9 (zza 5 (.adr 2 1) (zzi 6 (.v (i1.m.v)) ty28 zzl (zza 7 (.adr 3 1) (zzi 8 (.v (i2.m.v)) ty28 zzl (zzg 9 198 _ fun _ _ ac ae => qym (k_natGcd ae (h1.ext ac) (h2.ext ac) xq xq) ?_))))))))))
 rintro _ u14 g15 ⟨x12, rfl, ag⟩
 refine zzg 10 193 _ fun _ _ af ad => qym (k_signed ad (s := false) (ag.ext af)) ?_
 rintro _ u20 g21 ⟨aa, rfl, ah⟩
 refine zzj ⟨30, aa.cs⟩ ty30 ?_
 refine zzb (zzo (ret0 [aa.v] ⟨zzr ty30 zze, trivial⟩ fun u23 ai => ?_))
 refine ⟨aa, rfl, ?_⟩
 have h9 := (ah.ext ai)
 unfold Nt.sg at h9
 exact h9
theorem k_intDivI {u w : World} {i1 i2 : IL} {z D : Int} {K L : Nat} (d : Dat u w) (h1 : IntV u i1 z K) (h2 : IntN u i2 D L) (hD : 0 < D) (hK : K ≤ 100000000) (hL : L ≤ 100000000) : qyc 141 #[i1.v, i2.v] w (Post u w fun v u' => ∃ i j : IL, v = .tuple #[i.v, j.v, .int .i64 0] ∧ IntN u' i (z / D) (K + 1) ∧ IntN u' j (z % D) L) := by
 obtain ⟨s, y⟩ := i2
 have hs : s = false := by have h3 := h2.1; rw [decide_eq_false xq] at h3; exact h3
 subst hs
 have hd : ((D.natAbs : Nat) : Int) = D := by omega
 have := k_intDivP d h1 (y := y) (M := D.natAbs) h2.2.raw xq hK hL
 rw [hd] at this
 exact this
theorem Nt.num_den9 (x : Rat) : x * ((x.den : Int) : Rat) = (x.num : Rat) := by
 have h0 : ((x.den : Int) : Rat) ≠ 0 := fun e => by
  have := Rat.intCast_inj.1 (show ((x.den : Int) : Rat) = ((0 : Int) : Rat) from e); have := x.den_pos; omega
 have h1 : x = (x.num : Rat) / ((x.den : Int) : Rat) := by rw [Nt.mk_div, Rat.mkRat_self]
 have h2 : (x.num : Rat) / ((x.den : Int) : Rat) * ((x.den : Int) : Rat) = (x.num : Rat) := Rat.div_mul_cancel h0
 rw [← h1] at h2; exact h2
theorem Nt.miss_step {n1 n2 w : Int} {x c : Rat} {p : List Rat} {k : Nat} (h : (n1 : Rat) * ((x.den : Int) : Rat) = (n2 : Rat) * (c * Nt.Pol.evL (p.drop k) x)) (hk : 1 ≤ k) (hp : k ≤ p.length) (hw : (w : Rat) = p.getD (k - 1) 0 * c) : ((n1 * x.num + w * n2 : Int) : Rat) * ((x.den : Int) : Rat) = ((n2 * (x.den : Int) : Int) : Rat) * (c * Nt.Pol.evL (p.drop (k - 1)) x) := by
 have hd : p.drop (k - 1) = p.getD (k - 1) 0 :: p.drop k := by
  rw [List.drop_eq_getElem_cons (show k - 1 < p.length by omega), show k - 1 + 1 = k by omega, qyg, List.getElem?_eq_getElem (show k - 1 < p.length by omega)]; rfl
 have hx := Nt.num_den9 x
 rw [hd, Rat.intCast_add, Rat.intCast_mul, Rat.intCast_mul, Rat.intCast_mul, hw]
 show _ = _ * (c * (p.getD (k - 1) 0 + x * Nt.Pol.evL (p.drop k) x))
 rw [← hx]
 grind
theorem Nt.miss_end {n1 n2 c : Int} {x y w : Rat} {p : List Rat} (h : (n1 : Rat) * ((x.den : Int) : Rat) = (n2 : Rat) * ((c : Rat) * Nt.Pol.evL p x)) (h2 : 0 < n2) (hc : 0 < c) : 0 < (n2 * c * (y.den : Int) * (w.den : Int)).natAbs ∧ w * (y - Nt.Pol.evL p x) = mkRat ((y.num * (n2 * c) - n1 * (x.den : Int) * (y.den : Int)) * w.num) (n2 * c * (y.den : Int) * (w.den : Int)).natAbs := by
 have h9 : 0 < n2 * c * (y.den : Int) * (w.den : Int) := Int.mul_pos (Int.mul_pos (Int.mul_pos h2 hc) (by have := y.den_pos; omega)) (by have := w.den_pos; omega)
 refine ⟨by omega, ?_⟩
 have hy : (y.num : Rat) = y * ((y.den : Int) : Rat) := (Nt.num_den9 y).symm
 have hw : (w.num : Rat) = w * ((w.den : Int) : Rat) := (Nt.num_den9 w).symm
 have e : (((n2 * c * (y.den : Int) * (w.den : Int)).natAbs : Int)) = n2 * c * (y.den : Int) * (w.den : Int) := by omega
 have hne : ((n2 * c * (y.den : Int) * (w.den : Int) : Int) : Rat) ≠ 0 := fun e => by
  have := Rat.intCast_inj.1 (show ((n2 * c * (y.den : Int) * (w.den : Int) : Int) : Rat) = ((0 : Int) : Rat) from e); omega
 rw [← Nt.mk_div, e, eq_comm, Nt.div_eq_of hne]
 rw [Rat.intCast_mul, Rat.intCast_sub, Rat.intCast_mul, Rat.intCast_mul, Rat.intCast_mul, Rat.intCast_mul, Rat.intCast_mul, Rat.intCast_mul, Rat.intCast_mul, hy, hw, h]
 grind
theorem k_missAt {u w : World} {r0 r1 r2 : RL} {x y g : Rat} {s : Sl} {W : List Int} {ic : IL} {C : Int} {p : List Rat} {Kw Kc : Nat} (d : Dat u w) (hr0 : RatN u r0 x 1) (hr1 : RatN u r1 y 1) (hr2 : RatN u r2 g 1) (hS : ItsN u s W Kw) (hC : IntN u ic C Kc) (hC0 : 0 < C) (hl : W.length = p.length) (hW : ∀ j, j < p.length → ((W.getD j 0 : Int) : Rat) = p.getD j 0 * (C : Rat)) (hp : p.length ≤ 60) (hKw : Kw ≤ 20000000) (hKc : Kc ≤ 20000000) : qyc 144 #[.agg #[.bool r0.s, .slice r0.m.a r0.m.n r0.m.c, .slice r0.d.a r0.d.n r0.d.c, .bool r1.s, .slice r1.m.a r1.m.n r1.m.c, .slice r1.d.a r1.d.n r1.d.c, .bool r2.s, .slice r2.m.a r2.m.n r2.m.c, .slice r2.d.a r2.d.n r2.d.c], s.v, ic.v] w (Post u w fun v u' => ∃ r : RL, v = r.v ∧ RatP u' r (g * (y - Nt.Pol.evL p x)) (Kw + Kc + 2 * p.length + 10)) := by
 have hsn := hS.len
 refine zzm Tryz.func144 rfl Tryz.ntmps144 Tryz.results144 d ?_
 refine sq9 (zzk 3 ⟨56, r0.cs ++ r1.cs ++ r2.cs⟩ (zzk 5 ⟨30, ic.cs⟩ (zzk 6 ⟨32, zw3⟩ (zzb (zzd (zzz [0, 1, 3, 0, 8, 31, 0, 64, 255, 0, 0, 0, 4095, 8191, 16383] [(0, []), (1, []), (3, []), (4, []), (6, []), (7, []), (9, []), (10, []), (11, []), (2, []), (5, []), (8, []), (12, []), (13, []), (14, [])] xj xj (zza 15 (.adr 3 0) (zzi 16 (.v (r0.v)) ty32 zze (zza 18 (.adr 3 3) (zzi 19 (.v (r1.v)) ty32 zze (zza 21 (.adr 3 6) ?_)))))))))))
 refine zzi 22 (.v (r2.v)) ty32 zze (zzk 7 ⟨32, zw3⟩ (zzk 8 ⟨32, zw3⟩ (zzk 9 ⟨32, zw3⟩ (zzg 17 68 _ fun _ _ aD bB => qym (k_ratTrim bB (hr0.ext aD).raw xq) ?_))))
 rintro _ u14 aJ ⟨ad, rfl, a1⟩
 refine zzg 20 68 _ fun _ _ aq bm => qym (k_ratTrim bm (hr1.ext (aD.t (aJ.t aq))).raw xq) ?_
 rintro _ u20 av ⟨aj, rfl, aQ⟩
 refine zzg 23 68 _ fun _ _ ak bn => qym (k_ratTrim bn (hr2.ext (aD.t (aJ.t (aq.t (av.t ak))))).raw xq) ?_
 rintro _ u26 al ⟨aw, rfl, bf⟩
 refine zzj ⟨32, ad.cs⟩ ty32 ?_
 refine zzj ⟨32, aj.cs⟩ ty32 ?_
 refine zzj ⟨32, aw.cs⟩ ty32 ?_
 refine zzb (sq9 (zza 24 (.adr 7 2) (zzi 25 (.v (ad.d.v)) ty28 zzl (zza 26 (.v (.agg #[.bool false, ad.d.v])) (zzk 10 ⟨30, [.bool false, qyn]⟩ (zzj ⟨30, [.bool false, ad.d.v]⟩ ty30 ?_))))))
 refine zzb (sq9 (zzg 27 140 _ fun _ _ ai bz => qym (k_intOf bz (z := 0) xq xq) ?_))
 rintro _ u32 ah ⟨aU, rfl, bH⟩
 refine zzg 28 140 _ fun _ _ ag bt => qym (k_intOf bt (z := 1) xq xq) ?_
 rintro _ bp af ⟨aV, rfl, bl⟩
 refine zzk 11 ⟨30, [.bool false, qyn]⟩ (zzk 12 ⟨30, [.bool false, qyn]⟩ (zzj ⟨30, aU.cs⟩ ty30 ?_))
 refine zzj ⟨30, aV.cs⟩ ty30 ?_
 refine zzb (zzd (sq9 (zza 29 (.v (s.v)) (zza 30 (zI s.n) (qwi 31 (((s.n : Nat) : Int) - 1) (((s.n : Nat) : Int) - 1) (by rw [IntWalk.i64_in _ xq] <;> omega) (zza 13 (zI (((s.n : Nat) : Int) - 1)) (zzc 83 [(1, .v (s.v)), (5, .adr 5 0), (6, .adr 6 0), (7, .adr 7 0), (8, .adr 8 0), (9, .adr 9 0), (10, .adr 10 0), (11, .adr 11 0), (12, .adr 12 0), (13, zI (((s.n : Nat) : Int) - 1))] [(5, ⟨30, ic.cs⟩), (6, ⟨32, zw3⟩), (7, ⟨32, ad.cs⟩), (8, ⟨32, aj.cs⟩), (9, ⟨32, aw.cs⟩), (10, ⟨30, [.bool false, ad.d.v]⟩), (11, ⟨30, aU.cs⟩), (12, ⟨30, aV.cs⟩)] (zzt (zyn (I := fun be S' u' => ∃ (k : Nat) (j1 : IL) (j2 : IL) (n1 : Int) (n2 : Int), (be = k) ∧ (k ≤ p.length) ∧ (0 < n2) ∧ ((n1 : Rat) * ((x.den : Int) : Rat) = (n2 : Rat) * ((C : Rat) * Nt.Pol.evL (p.drop k) x)) ∧ (S' = St.of 83 [(1, .v (s.v)), (5, .adr 5 0), (6, .adr 6 0), (7, .adr 7 0), (8, .adr 8 0), (9, .adr 9 0), (10, .adr 10 0), (11, .adr 11 0), (12, .adr 12 0), (13, zI ((k : Int) - 1))] [(5, ⟨30, ic.cs⟩), (6, ⟨32, zw3⟩), (7, ⟨32, ad.cs⟩), (8, ⟨32, aj.cs⟩), (9, ⟨32, aw.cs⟩), (10, ⟨30, [.bool false, ad.d.v]⟩), (11, ⟨30, j1.cs⟩), (12, ⟨30, j2.cs⟩)]) ∧ (Ext bp u') ∧ (IntN u' j1 n1 (Kw + 2 * (p.length - k) + 2)) ∧ (IntN u' j2 n2 (p.length - k + 2))) (fun m S u1 u2 e h => by obtain ⟨k, j1, j2, n1, n2, hm, p0, p1, p2, hS, hE, f0, f1⟩ := h; exact ⟨k, j1, j2, n1, n2, hm, p0, p1, p2, hS, hE.trans e, f0.ext e, f1.ext e⟩) _ yz ⟨s.n, aU, aV, 0, 1, rfl, by omega, yv, (by rw [List.drop_of_length_le xq]; show _ = _ * (_ * 0); rw [Rat.mul_zero, Rat.mul_zero]; exact Rat.zero_mul _), rfl, (Ext.refl _), (IntN.more (K := 2) (bH.ext (ag.t af.ext)) xq), (IntN.more (K := 2) bl xq)⟩ ?_)))))))))
 rintro be _ u41 ⟨k, j1, j2, n1, n2, bh, hk, ba, hv, rfl, ae, f1, f2⟩
 refine zzd (sq9 (zza 32 (zI ((k : Int) - 1)) (zza 33 (zB (decide ((0 : Int) ≤ ((k : Int) - 1)))) (zzb (zzu (b := decide ((0 : Int) ≤ ((k : Int) - 1))) xj (fun au => ?_) (fun au => ?_))))))
 ·have qhb42 := qyt au
  refine zzs (zzp ?_)
  refine zzd (zzt (zzd (zzz [0, 0, 2, 7, 0, 0, 48, 112, 0, 511, 1023, 2047] [(0, []), (1, []), (2, []), (4, []), (5, []), (6, []), (7, []), (8, []), (3, []), (9, []), (10, []), (11, [])] xj xj (zzi 36 (.v (j1.v)) ty30 zze (zza 37 (.adr 7 0) (zzi 38 (.v (.agg #[.bool ad.s, ad.m.v])) ty30 zze (zza 40 (.v (s.v)) (zyq 41 (x := zI ((k : Int) - 1)) (zI (((k - 1 : Nat) : Int))) (eqI xq) ?_))))))))
  have hl43 := ItsN.len (hS.ext (aD.t (aJ.t (aq.t (av.t (ak.t (al.t (ai.t (ah.t (ag.t (af.t ae)))))))))))
  obtain ⟨bF, b43, a6, aS, aZ, a3⟩ := its_at (hS.ext (aD.t (aJ.t (aq.t (av.t (ak.t (al.t (ai.t (ah.t (ag.t (af.t ae))))))))))) (i := (k - 1)) xq
  refine zya 42 (a6 + (k - 1) * 2) (n := s.n) (off := a6) (sz := 2) (i := ((k - 1 : Nat) : Int)) xq aS xq xq sl191 (zym 43 bF.cs aZ ty30 (zzi 44 (.v (j2.v)) ty30 zze (zzg 39 143 _ fun _ _ ax bj => qym (k_intMul bj (f1.ext ax).raw ((RatN.num a1).ext (aq.t (av.t (ak.t (al.t (ai.t (ah.t (ag.t (af.t (ae.trans ax)))))))))).raw xq xq) ?_)))
  rintro _ u47 aM ⟨i45, rfl, bw⟩
  refine zzg 45 143 _ fun _ _ aB bC => qym (k_intMul bC (a3.ext (ax.t (aM.t aB))).raw (f2.ext (ax.t (aM.t aB))).raw xq xq) ?_
  rintro _ u53 aP ⟨i51, rfl, bM⟩
  refine zzg 46 165 _ fun _ _ aI bD => qym (k_intAdd bD (bw.ext (aB.t (aP.t aI))).raw (bM.ext aI).raw xq xq) ?_
  rintro _ u59 a0 ⟨a8, rfl, bA⟩
  refine zzj ⟨30, a8.cs⟩ ty30 ?_
  refine zzb (zzf (zzi 47 (.v (j2.v)) ty30 zze (zzi 48 (.v (.agg #[.bool false, ad.d.v])) ty30 zze (zzg 49 143 _ fun _ _ aO bg => qym (k_intMul bg (f2.ext (ax.t (aM.t (aB.t (aP.t (aI.t (a0.t aO))))))).raw (nat_int ((RatN.den a1).ext (aq.t (av.t (ak.t (al.t (ai.t (ah.t (ag.t (af.t (ae.t (ax.t (aM.t (aB.t (aP.t (aI.t (a0.t aO)))))))))))))))).raw) xq xq) ?_))))
  rintro _ u65 bc ⟨a7, rfl, bu⟩
  refine zzj ⟨30, a7.cs⟩ ty30 ?_
  refine zzx ?_
  refine zzp (zzf (zza 34 (zI ((k : Int) - 1)) (qwi 35 ((k : Int) - 1 - 1) (((k - 1 : Nat) : Int) - 1) (by rw [IntWalk.i64_in _ xq] <;> omega) (zza 13 (zI (((k - 1 : Nat) : Int) - 1)) (zzx ?_)))))
  refine ⟨_, ?_, _, by exact zzv _ _ _, k - 1, a8, a7, ((n1 * x.num) + ((W.getD (k - 1) 0) * n2)), (n2 * (x.den : Int)), rfl, by omega, (Int.mul_pos ba (by have h9 := x.den_pos; omega)), (Nt.miss_step hv xq hk (hW (k - 1) xq)), rfl, (ae.t (ax.t (aM.t (aB.t (aP.t (aI.t (a0.t (aO.t bc.ext)))))))), (IntN.more (K := (max ((Kw + 2 * (p.length - k) + 2) + 1) (Kw + (p.length - k + 2)) + 1)) (bA.ext (aO.t bc.ext)) xq), (IntN.more (K := ((p.length - k + 2) + 1)) bu xq)⟩
  omega
 have qhb42 := qyf au
 refine zyc (zzp (zzd (zzz [0, 0, 3, 0, 0, 31, 63, 127] [(0, []), (1, []), (3, []), (4, []), (2, []), (5, []), (6, []), (7, [])] xj xj (zzi 50 (.v (j1.v)) ty30 zze (zzi 51 (.v (.agg #[.bool false, ad.d.v])) ty30 zze (zzi 53 (.v (j2.v)) ty30 zze (zzi 54 (.v (ic.v)) ty30 zze (zzg 52 143 _ fun _ _ am bx => qym (k_intMul bx (f1.ext am).raw (nat_int ((RatN.den a1).ext (aq.t (av.t (ak.t (al.t (ai.t (ah.t (ag.t (af.t (ae.trans am)))))))))).raw) xq xq) ?_))))))))
 rintro _ u71 ar ⟨bd, rfl, bJ⟩
 refine zzg 55 143 _ fun _ _ ap bN => qym (k_intMul bN (f2.ext (am.t (ar.t ap))).raw (hC.ext (aD.t (aJ.t (aq.t (av.t (ak.t (al.t (ai.t (ah.t (ag.t (af.t (ae.t (am.t (ar.t ap)))))))))))))).raw xq xq) ?_
 rintro _ u77 aE ⟨aT, rfl, a9⟩
 refine zzj ⟨30, bd.cs⟩ ty30 ?_
 refine zzj ⟨30, aT.cs⟩ ty30 ?_
 refine zzb (sq9 (zza 56 (.adr 8 2) (zzi 57 (.v (aj.d.v)) ty28 zzl (zza 58 (.v (.agg #[.bool false, aj.d.v])) (zzk 14 ⟨30, [.bool false, qyn]⟩ (zzj ⟨30, [.bool false, aj.d.v]⟩ ty30 ?_))))))
 refine zzb (zzd (zzz [0, 1, 0, 7, 0, 0, 63, 127, 255] [(0, []), (1, []), (2, []), (4, []), (5, []), (3, []), (6, []), (7, []), (8, [])] xj xj (zza 59 (.adr 8 0) (zzi 60 (.v (.agg #[.bool aj.s, aj.m.v])) ty30 zze (zzi 61 (.v (aT.v)) ty30 zze (zzi 63 (.v (bd.v)) ty30 zze (zzi 64 (.v (.agg #[.bool false, aj.d.v])) ty30 zze (zzg 62 143 _ fun _ _ ao bi => qym (k_intMul bi ((RatN.num aQ).ext (ak.t (al.t (ai.t (ah.t (ag.t (af.t (ae.t (am.t (ar.t (ap.t (aE.t ao)))))))))))).raw (a9.ext ao).raw xq xq) ?_))))))))
 rintro _ u83 aC ⟨i81, rfl, br⟩
 refine zzg 65 143 _ fun _ _ aA bv => qym (k_intMul bv (bJ.ext (ap.t (aE.t (ao.t (aC.t aA))))).raw (nat_int ((RatN.den aQ).ext (ak.t (al.t (ai.t (ah.t (ag.t (af.t (ae.t (am.t (ar.t (ap.t (aE.t (ao.t (aC.t aA)))))))))))))).raw) xq xq) ?_
 rintro _ u89 aH ⟨i87, rfl, bL⟩
 refine zzg 66 199 _ fun _ _ aF bo => qym (k_intSub bo (br.ext (aA.t (aH.t aF))).raw (bL.ext aF).raw xq xq) ?_
 rintro _ u95 aN ⟨bb, rfl, bk⟩
 refine zzj ⟨30, bb.cs⟩ ty30 ?_
 refine zzb (sq9 (zzi 67 (.v (aT.v)) ty30 zze (zzi 68 (.v (.agg #[.bool false, aj.d.v])) ty30 zze (zzg 69 143 _ fun _ _ aL bG => qym (k_intMul bG (a9.ext (ao.t (aC.t (aA.t (aH.t (aF.t (aN.t aL))))))).raw (nat_int ((RatN.den aQ).ext (ak.t (al.t (ai.t (ah.t (ag.t (af.t (ae.t (am.t (ar.t (ap.t (aE.t (ao.t (aC.t (aA.t (aH.t (aF.t (aN.t aL)))))))))))))))))).raw) xq xq) ?_))))
 rintro _ bE ay ⟨a5, rfl, aW⟩
 refine zzj ⟨30, a5.cs⟩ ty30 ?_
 refine zzb (zzd (zzz [0, 0, 2, 7, 0, 0, 32, 96, 255, 511, 1023] [(0, []), (1, []), (2, []), (4, []), (5, []), (6, []), (7, []), (3, []), (8, []), (9, []), (10, [])] xj xj (zzi 70 (.v (bb.v)) ty30 zze (zza 71 (.adr 9 0) (zzi 72 (.v (.agg #[.bool aw.s, aw.m.v])) ty30 zze (zzi 74 (.v (a5.v)) ty30 zze (zza 75 (.adr 9 2) (zzi 76 (.v (aw.d.v)) ty28 zzl (zza 77 (.v (.agg #[.bool false, aw.d.v])) (zzg 73 143 _ fun _ _ an aX => qym (k_intMul aX (bk.ext (aL.t (ay.t an))).raw ((RatN.num bf).ext (ai.t (ah.t (ag.t (af.t (ae.t (am.t (ar.t (ap.t (aE.t (ao.t (aC.t (aA.t (aH.t (aF.t (aN.t (aL.t (ay.t an)))))))))))))))))).raw xq xq) ?_))))))))))
 rintro _ bI aK ⟨aa, rfl, aR⟩
 refine zzg 78 143 _ fun _ _ az a2 => qym (k_intMul a2 (aW.ext (an.t (aK.t az))).raw (nat_int ((RatN.den bf).ext (ai.t (ah.t (ag.t (af.t (ae.t (am.t (ar.t (ap.t (aE.t (ao.t (aC.t (aA.t (aH.t (aF.t (aN.t (aL.t (ay.t (an.t (aK.t az)))))))))))))))))))).raw) xq xq) ?_
 rintro _ bq aY ⟨ac, rfl, a4⟩
 refine zzj ⟨30, aa.cs⟩ ty30 ?_
 refine zzj ⟨30, ac.cs⟩ ty30 ?_
 refine zzc 83 [(6, .adr 6 0), (11, .adr 11 0), (12, .adr 12 0)] [(6, ⟨32, zw3⟩), (11, ⟨30, aa.cs⟩), (12, ⟨30, ac.cs⟩)] (sq9 (zzi 79 (.v (aa.v)) ty30 zze (zza 80 (.adr 12 1) (zzi 81 (.v (ac.m.v)) ty28 zzl (zza 82 (.v (.agg #[.bool aa.s, aa.m.v, ac.m.v])) (zzj ⟨32, aa.cs ++ [ac.m.v]⟩ ty32 ?_))))))
 refine zzb (zzo (ret0 [.agg #[.bool aa.s, aa.m.v, ac.m.v]] ⟨zzr ty32 zze, trivial⟩ fun bs aG => ?_))
 have bK : k = 0 := by omega
 have hv9 := hv
 rw [bK, List.drop_zero] at hv9
 have hend := Nt.miss_end (y := y) (w := g) hv9 ba hC0
 refine ⟨(⟨aa.s, aa.m, ac.m⟩ : RL), rfl, ⟨(((y.num * (n2 * C)) - ((n1 * (x.den : Int)) * (y.den : Int))) * g.num), _, hend.1, IntV.more (K := ((max (1 + ((p.length - k + 2) + Kc)) (((Kw + 2 * (p.length - k) + 2) + 1) + 1) + 1) + 1)) (aR.ext (az.t (aY.t aG))).raw xq, NatV.more (K := ((((p.length - k + 2) + Kc) + 1) + 1)) ((int_mag a4).ext aG).raw xq, hend.2⟩, by omega⟩
theorem Nt.den_step {C : Int} {p : List Rat} {i : Nat} (hC : 0 < C) (hD : ∀ j, j < i → ∃ t : Int, ((p.getD j 0).den : Int) * t = C) : 0 < C * (((p.getD i 0).den : Int) / ((Nat.gcd (p.getD i 0).den C.natAbs : Nat) : Int)) ∧ ∀ j, j < i + 1 → ∃ t : Int, ((p.getD j 0).den : Int) * t = C * (((p.getD i 0).den : Int) / ((Nat.gcd (p.getD i 0).den C.natAbs : Nat) : Int)) := by
 have hd0 := (p.getD i 0).den_pos
 obtain ⟨d, hd⟩ : ∃ d, (p.getD i 0).den = d := ⟨_, rfl⟩
 rw [hd] at hd0 ⊢
 have hg0 : 0 < Nat.gcd d C.natAbs := Nat.gcd_pos_of_pos_left _ hd0
 obtain ⟨a, ha⟩ := Nat.gcd_dvd_left d C.natAbs
 obtain ⟨b, hb⟩ := Nat.gcd_dvd_right d C.natAbs
 obtain ⟨g, hg⟩ : ∃ g, Nat.gcd d C.natAbs = g := ⟨_, rfl⟩
 rw [hg] at ha hb hg0 ⊢
 have hC' : C = (g : Int) * (b : Int) := by rw [← Int.natCast_mul, ← hb]; omega
 have hq : (d : Int) / (g : Int) = (a : Int) := by rw [ha, Int.natCast_mul]; exact Int.mul_ediv_cancel_left _ xq
 have ha0 : 0 < a := Nat.pos_of_ne_zero (fun e => by rw [e, Nat.mul_zero] at ha; omega)
 rw [hq]
 refine ⟨Int.mul_pos hC xq, fun j hj => ?_⟩
 by_cases e : j = i
 ·rw [e, hd]
  exact ⟨(b : Int), by rw [hC', ha, Int.natCast_mul]; grind⟩
 obtain ⟨t, ht⟩ := hD j xq
 exact ⟨t * (a : Int), by rw [← ht]; grind⟩
def Nt.whL (p : List Rat) (C : Int) : List Int := p.map fun q => q.num * (C / (q.den : Int))
theorem Nt.whL_len {p : List Rat} {C : Int} : (Nt.whL p C).length = p.length := List.length_map ..
theorem Nt.whL_at {p : List Rat} {C : Int} {j : Nat} (h : j < p.length) : (Nt.whL p C).getD j 0 = (p.getD j 0).num * (C / ((p.getD j 0).den : Int)) := by
 unfold Nt.whL
 rw [qyg, List.getElem?_map, qyg, List.getElem?_eq_getElem h]; rfl
theorem Nt.whL_ok {p : List Rat} {C : Int} (hD : ∀ j, j < p.length → ∃ t : Int, ((p.getD j 0).den : Int) * t = C) : ∀ j, j < p.length → (((Nt.whL p C).getD j 0 : Int) : Rat) = p.getD j 0 * (C : Rat) := fun j hj => by
 obtain ⟨t, ht⟩ := hD j hj
 have hd0 := (p.getD j 0).den_pos
 rw [Nt.whL_at hj, ← ht, Int.mul_ediv_cancel_left _ xq, Rat.intCast_mul, Rat.intCast_mul, ← Nt.num_den9]
 grind
theorem k_errorsOf {u w : World} {y : Sl} {l : List Rat} {K M : Nat} {x : Sl} {N : Nat} {V : List Rat} (d : Dat u w) (hg : GrN u x N V 1) (ho : Nt.GrOK V N) (hy : PolV u y l K) (hl : l.length ≤ 60) (hB : 2 * (l.length * (K + 1) + 2) + K + 2 * l.length + 11 ≤ M) (hM : M ≤ 20000000) : qyc 62 #[x.v, y.v] w (Post u w fun v u' => ∃ z : Sl, v = z.v ∧ PolP u' z (Nt.erL V l N) M) := by
 have hxn : x.n = N := hg.len
 have hN12 := ho.n12
 have hN1 := ho.n1
 have hyl := hy.len
 refine zzm Tryz.func62 rfl Tryz.ntmps62 Tryz.results62 d ?_
 refine sq9 (zza 4 (.v (qyn)) (zzb (sq9 (zza 21 (.v (y.v)) (zzg 22 117 _ fun _ _ aP bw => qym (k_poTrim bw (hy.ext aP) xq xk) ?_)))))
 rintro _ u14 a5 ⟨aa, rfl, ba⟩
 have hly12 := ba.len
 refine zza 1 (.v (aa.v)) (zzb (zzd ?_))
 obtain ⟨p, hpe⟩ : ∃ p, Nt.trimQ l = p := ⟨_, rfl⟩
 have hP := ba
 rw [hpe] at hP
 have hpn := hP.len
 have hpl : p.length ≤ l.length := by rw [← hpe]; exact zzh l
 have hpK : p.length * (K + 1) ≤ l.length * (K + 1) := Nat.mul_le_mul_right _ hpl
 refine zzf (zzg 23 140 _ fun _ _ an bp => qym (k_intOf bp (z := 1) xq xq) ?_)
 rintro _ bx ao ⟨a9, rfl, bj⟩
 refine zzk 5 ⟨30, [.bool false, qyn]⟩ (zzj ⟨30, a9.cs⟩ ty30 ?_)
 refine zzb (zzd (sq9 (zza 24 (.v (aa.v)) (zza 25 (zI aa.n) (zza 26 (zI 0) (zzb (zzt (zyn (I := fun bf S' u' => ∃ (i : Nat) (ic : IL) (C : Int), (bf = p.length - i) ∧ (i ≤ p.length) ∧ (0 < C) ∧ (∀ j, j < i → ∃ t : Int, ((p.getD j 0).den : Int) * t = C) ∧ (S' = St.of 92 [(0, .v (x.v)), (1, .v (aa.v)), (5, .adr 5 0), (24, .v (aa.v)), (25, zI aa.n), (26, zI i)] [(5, ⟨30, ic.cs⟩)]) ∧ (Ext bx u') ∧ (IntN u' ic C (i * (K + 1) + 2))) (fun m S u1 u2 e h => by obtain ⟨i, ic, C, hm, p0, p1, p2, hS, hE, f0⟩ := h; exact ⟨i, ic, C, hm, p0, p1, p2, hS, hE.trans e, f0.ext e⟩) _ yz ⟨0, a9, 1, rfl, by omega, yv, (fun j hj => absurd hj (Nat.not_lt_zero j)), rfl, (Ext.refl _), (IntN.more (K := 2) bj xq)⟩ ?_))))))))
 rintro bf _ be ⟨i, ic, C, bH, hi, hC, hD, rfl, al, f0⟩
 have hiK : i * (K + 1) ≤ p.length * (K + 1) := Nat.mul_le_mul_right _ hi
 refine sq9 (zza 27 (zB (decide ((i : Int) < (aa.n : Int)))) (zzb (zzd (zzu (b := decide ((i : Int) < (aa.n : Int))) xj (fun ag => ?_) (fun ag => ?_)))))
 ·have qhb24 := qyt ag
  refine zzs (zzp ?_)
  refine zzd (zzt (sq9 ?_))
  have hl25 := (hP.ext (an.t (ao.t al))).len
  obtain ⟨af, b25, bg, aL, aR, ar⟩ := pol_atN (hP.ext (an.t (ao.t al))) (i := i) xq
  refine zya 28 (bg + i * 3) (n := aa.n) (off := bg) (sz := 3) (i := (i : Int)) xq aL xq xq sl27 (zym 29 af.cs aR ty32 (zzk 7 ⟨32, zw3⟩ (zzj ⟨32, af.cs⟩ ty32 ?_)))
  refine zzb (sq9 (zza 30 (.adr 7 2) (zzi 31 (.v (af.d.v)) ty28 zzl (zza 32 (.v (.agg #[.bool false, af.d.v])) (zzk 8 ⟨30, [.bool false, qyn]⟩ (zzj ⟨30, [.bool false, af.d.v]⟩ ty30 ?_))))))
  refine zzb (zzd (zzz [0, 0, 0, 6, 15, 31, 63, 63, 63, 0, 0, 1663, 3839, 8191] [(0, []), (1, []), (2, []), (9, []), (10, []), (3, []), (4, []), (5, []), (6, []), (7, []), (8, []), (11, []), (12, []), (13, [])] xj xj (zzi 34 (.v (.agg #[.bool false, af.d.v])) ty30 zze (zzi 35 (.v (.agg #[.bool false, af.d.v])) ty30 zze (zzi 36 (.v (ic.v)) ty30 zze (zzk 9 ⟨30, [.bool false, qyn]⟩ (zzk 10 ⟨30, [.bool false, qyn]⟩ (zzg 37 142 _ fun _ _ ap bz => qym (k_intGcd (i1 := (⟨false, af.d⟩ : IL)) (i2 := ic) bz ((RatN.den ar).ext ap).raw ((int_mag f0).ext ap).raw xq xq) ?_))))))))
  rintro _ u29 aN ⟨bA, rfl, br⟩
  refine zzg 38 141 _ fun _ _ aE bC => qym (k_intDivI (i1 := (⟨false, af.d⟩ : IL)) (i2 := bA) bC (nat_int ((RatN.den ar).ext (ap.t (aN.t aE))).raw) (br.ext aE) (Int.ofNat_lt.2 (Nat.gcd_pos_of_pos_left _ (Rat.den_pos (p.getD i 0)))) xq xq) ?_
  rintro _ u37 a1 ⟨ax, aW, rfl, bF, h36⟩
  refine zza 33 (.v (.tuple #[ax.v, aW.v, .int .i64 0])) (zza 39 (.v (ax.v)) (zza 40 (.v (aW.v)) (zza 41 (zI 0) (zzj ⟨30, ax.cs⟩ ty30 ?_))))
  refine zzj ⟨30, aW.cs⟩ ty30 ?_
  refine zza 11 (zI 0) (zzc 92 [(0, .v (x.v)), (1, .v (aa.v)), (5, .adr 5 0), (9, .adr 9 0), (24, .v (aa.v)), (25, zI aa.n), (26, zI i)] [(5, ⟨30, ic.cs⟩), (9, ⟨30, ax.cs⟩)] (zzf (zzi 42 (.v (ic.v)) ty30 zze (zzi 43 (.v (ax.v)) ty30 zze (zzg 44 143 _ fun _ _ aQ bE => qym (k_intMul bE (f0.ext (ap.t (aN.t (aE.t (a1.t aQ))))).raw (bF.ext aQ).raw xq xq) ?_)))))
  rintro _ u43 bt ⟨a2, rfl, bB⟩
  refine zzj ⟨30, a2.cs⟩ ty30 ?_
  refine zzx ?_
  refine zzp (zzf (qwi 45 ((i : Int) + 1) (i + 1 : Nat) xz (zza 26 (zI (i + 1 : Nat)) (zzx ?_))))
  have hst := Nt.den_step (i := i) hC hD
  refine ⟨_, ?_, _, by exact zzv _ _ _, i + 1, a2, (C * (((p.getD i 0).den : Int) / ((Nat.gcd ((p.getD i 0).den) ((C : Int).natAbs) : Nat) : Int))), rfl, by omega, hst.1, hst.2, rfl, (al.t (ap.t (aN.t (aE.t (a1.t (aQ.t bt.ext)))))), (IntN.more (K := ((i * (K + 1) + 2) + (K + 1))) bB (by rw [Nat.succ_mul]; omega))⟩
  omega
 have qhb24 := qyf ag
 refine zyc (zzp (zzd ?_))
 obtain rfl : i = p.length := by omega
 have hWo := Nt.whL_ok hD
 have a3 : IntN be ic C (p.length * (K + 1) + 2) := f0
 refine zzf (zza 46 (.v (aa.v)) (zza 47 (zI aa.n) (sy_make 48 (T := 191) (E := 30) (z := .agg #[.bool false, qyn]) (size := 2) (bytes := 32) aa.n (ils (List.replicate aa.n il0)) xj xj rfl rfl xq yk (made_ils _) ?_)))
 refine zza 12 (.slc 48 0 aa.n aa.n) (zzc 92 [(0, .v (x.v)), (1, .v (aa.v)), (5, .adr 5 0), (12, .slc 48 0 aa.n aa.n)] [(5, ⟨30, ic.cs⟩), (48, ⟨30, ils (List.replicate aa.n il0)⟩)] (zzd (sq9 (zza 49 (.v (aa.v)) (zza 50 (zI aa.n) (zza 51 (zI 0) (zzb (zzt (zyn (I := fun bd S' u' => ∃ (k : Nat) (L : List IL), (bd = p.length - k) ∧ (k ≤ p.length) ∧ (L.length = p.length) ∧ (S' = St.of 92 [(0, .v (x.v)), (5, .adr 5 0), (12, .slc 48 0 aa.n aa.n), (49, .v (aa.v)), (50, zI aa.n), (51, zI k)] [(5, ⟨30, ic.cs⟩), (48, ⟨30, ils L⟩)]) ∧ (Ext be u') ∧ (IlsN u' (L.take k) ((Nt.whL p C).take k) (K + (p.length * (K + 1) + 2 + 1)))) (fun m S u1 u2 e h => by obtain ⟨k, L, hm, p0, p1, hS, hE, f0⟩ := h; exact ⟨k, L, hm, p0, p1, hS, hE.trans e, f0.ext e⟩) _ yz ⟨0, List.replicate aa.n il0, rfl, by omega, yw, rfl, (Ext.refl _), IlsN.tnil _ _ _ _⟩ ?_)))))))))
 rintro bd _ u46 ⟨k, L, bG, hk, hL, rfl, ak, g0⟩
 refine sq9 (zza 52 (zB (decide ((k : Int) < (aa.n : Int)))) (zzb (zzd (zzu (b := decide ((k : Int) < (aa.n : Int))) xj (fun aj => ?_) (fun aj => ?_)))))
 ·have qhb47 := qyt aj
  refine zzs (zzp ?_)
  refine zzd (zzt (sq9 (zza 53 (zI k) ?_)))
  have hl48 := (hP.ext (an.t (ao.t (al.trans ak)))).len
  obtain ⟨ah, b48, a7, aO, aY, az⟩ := pol_atN (hP.ext (an.t (ao.t (al.trans ak)))) (i := k) xq
  refine zya 54 (a7 + k * 3) (n := aa.n) (off := a7) (sz := 3) (i := (k : Int)) xq aO xq xq sl27 (zym 55 ah.cs aY ty32 (zzk 14 ⟨32, zw3⟩ (zza 13 (zI k) (zzj ⟨32, ah.cs⟩ ty32 ?_))))
  refine zzb (sq9 (zzi 57 (.v (ic.v)) ty30 zze (zza 58 (.adr 14 2) (zzi 59 (.v (ah.d.v)) ty28 zzl (zza 60 (.v (.agg #[.bool false, ah.d.v])) (zzg 61 141 _ fun _ _ aA bl => qym (k_intDivI (i1 := ic) (i2 := (⟨false, ah.d⟩ : IL)) bl (a3.ext (ak.trans aA)).raw (nat_intN ((RatN.den az).ext aA)) (Int.ofNat_lt.2 (Rat.den_pos (p.getD k 0))) xq xq) ?_))))))
  rintro _ u54 aS ⟨aH, aU, rfl, bi, h53⟩
  refine zza 56 (.v (.tuple #[aH.v, aU.v, .int .i64 0])) (zza 62 (.v (aH.v)) (zza 63 (.v (aU.v)) (zza 64 (zI 0) (zzk 15 ⟨30, [.bool false, qyn]⟩ (zzk 16 ⟨30, [.bool false, qyn]⟩ (zzj ⟨30, aH.cs⟩ ty30 ?_))))))
  refine zzj ⟨30, aU.cs⟩ ty30 ?_
  refine zza 17 (zI 0) (zzb (zzf (zza 65 (.slc 48 0 aa.n aa.n) (zza 66 (zI k) (zza 67 (.adr 14 0) (zzi 68 (.v (.agg #[.bool ah.s, ah.m.v])) ty30 zze (zzi 69 (.v (aH.v)) ty30 zze (zzg 70 143 _ fun _ _ aG bI => qym (k_intMul bI ((RatN.num az).ext (aA.t (aS.t aG))).raw (bi.ext aG).raw xq xq) ?_))))))))
  rintro _ u60 a6 ⟨a0, rfl, bk⟩
  refine zyw 71 (off' := k * 2) (n := aa.n) (off := 0) (sz := 2) (i := (k : Int)) sl191 xq xq xq ?_
  refine zyv (V := ⟨30, ils L⟩) (off := k * 2) (ils (L.set k a0)) ty30 (by rw [ils_len]; omega) (setL_ils (r := a0) (i := k) xq rfl) ?_
  refine zzx ?_
  refine zzp (zzf (qwi 72 ((k : Int) + 1) (k + 1 : Nat) xz (zza 51 (zI (k + 1 : Nat)) (zzx ?_))))
  refine ⟨_, ?_, _, by exact zzv _ _ _, k + 1, (L.set k a0), rfl, by omega, (by rw [List.length_set]; exact hL), rfl, (ak.t (aA.t (aS.t (aG.t a6.ext)))), (IlsN.tstep (g0.ext (aA.t (aS.t (aG.t a6.ext)))) xq (by rw [Nt.whL_len]; omega) (IntN.more (K := (K + ((p.length * (K + 1) + 2) + 1))) bk xq) (Nt.whL_at xq).symm)⟩
  omega
 have qhb47 := qyf aj
 refine zyc (zzp (zzd (zyp (r := 12) (t := 48) [12, 48] xw xj (by rfl) (by rfl) xj (fun aI a4 aF bo aZ => ?_))))
 have hLw := IlsN.tdone (g0.ext aF) xq (by rw [Nt.whL_len]; omega)
 have aX : ItsN a4 ⟨some ⟨aI, 0, none⟩, aa.n, aa.n⟩ (Nt.whL p C) (K + (p.length * (K + 1) + 2 + 1)) := its_data1 aZ yk hLw xq
 refine zzf (zza 73 (.v (x.v)) (zza 74 (zI x.n) (sy_make 75 (T := 26) (E := 32) (z := .agg #[.bool false, qyn, qyn]) (size := 3) (bytes := 56) x.n (rcs (List.replicate x.n rl0)) xj xj rfl rfl xq yk (made_rcs _) ?_)))
 refine zza 18 (.slc 75 0 x.n x.n) (zzc 92 [(0, .v (x.v)), (5, .adr 5 0), (12, .v (.slice (some ⟨aI, 0, none⟩) aa.n aa.n)), (18, .slc 75 0 x.n x.n)] [(5, ⟨30, ic.cs⟩), (75, ⟨32, rcs (List.replicate x.n rl0)⟩)] (zzd (sq9 (zza 76 (.v (x.v)) (zza 77 (zI x.n) (zza 78 (zI 0) (zzb (zzt (zyn (I := fun bb S' u' => ∃ (j : Nat) (L : List RL), (bb = N - j) ∧ (j ≤ N) ∧ (L.length = N) ∧ (S' = St.of 92 [(5, .adr 5 0), (12, .v (.slice (some ⟨aI, 0, none⟩) aa.n aa.n)), (18, .slc 75 0 x.n x.n), (76, .v (x.v)), (77, zI x.n), (78, zI j)] [(5, ⟨30, ic.cs⟩), (75, ⟨32, rcs L⟩)]) ∧ (Ext a4 u') ∧ (RtsP u' (L.take j) ((Nt.erL V l N).take j) M)) (fun m S u1 u2 e h => by obtain ⟨j, L, hm, p0, p1, hS, hE, f0⟩ := h; exact ⟨j, L, hm, p0, p1, hS, hE.trans e, f0.ext e⟩) _ yz ⟨0, List.replicate x.n rl0, rfl, by omega, yw, rfl, (Ext.refl _), RtsP.tnil _ _ _ _⟩ ?_)))))))))
 rintro bb _ u69 ⟨j, L, bu, hj, bm, rfl, au, e0⟩
 refine sq9 (zza 79 (zB (decide ((j : Int) < (x.n : Int)))) (zzb (zzd (zzu (b := decide ((j : Int) < (x.n : Int))) xj (fun ai => ?_) (fun ai => ?_)))))
 ·have qhb70 := qyt ai
  refine zzs (zzp ?_)
  refine zzd (zzt (sq9 (zza 80 (zI j) ?_)))
  have bq : x.n = N := GrN.len (hg.ext (aP.t (a5.t (an.t (ao.t (al.trans (ak.trans (aF.trans au))))))))
  obtain ⟨ac, ae, ad, b71, bc, aT, aC, av, ay, aq, aD, aw⟩ := gr_at (hg.ext (aP.t (a5.t (an.t (ao.t (al.trans (ak.trans (aF.trans au)))))))) (i := j) xq
  refine zya 81 (bc + j * 9) (n := x.n) (off := bc) (sz := 9) (i := (j : Int)) xq aT xq (by first | omega | (have h9 : j < N := xq; omega)) sl23 (zym 82 (ac.cs ++ ae.cs ++ ad.cs) (gr_pt aC av ay) ty56 (zzk 20 ⟨56, [.bool false, qyn, qyn, .bool false, qyn, qyn, .bool false, qyn, qyn]⟩ (zza 19 (zI j) (zzj ⟨56, ac.cs ++ ae.cs ++ ad.cs⟩ ty56 ?_))))
  refine zzb (zzf (zza 83 (.slc 75 0 x.n x.n) (zza 84 (zI j) (zzi 85 (.v (.agg #[.bool ac.s, ac.m.v, ac.d.v, .bool ae.s, ae.m.v, ae.d.v, .bool ad.s, ad.m.v, ad.d.v])) ty56 zze (zza 86 (.v (.slice (some ⟨aI, 0, none⟩) aa.n aa.n)) (zzi 87 (.v (ic.v)) ty30 zze (zzg 88 144 _ fun _ _ am bn => qym (k_missAt (r0 := ac) (r1 := ae) (r2 := ad) (p := p) bn (aq.ext am) (aD.ext am) (aw.ext am) (aX.ext (au.trans am)) (a3.ext (ak.trans (aF.trans (au.trans am)))) hC Nt.whL_len hWo xq xq xq) ?_)))))))
  rintro _ u75 a8 ⟨aM, rfl, aK⟩
  refine zyw 89 (off' := j * 3) (n := x.n) (off := 0) (sz := 3) (i := (j : Int)) sl26 xq xq xq ?_
  refine zyv (V := ⟨32, rcs L⟩) (off := j * 3) (rcs ((L).set j aM)) ty32 zq (zyx (r := aM) (i := j) zj rfl) ?_
  refine zzx ?_
  refine zzp (zzf (qwi 90 ((j : Int) + 1) (j + 1 : Nat) xz (zza 78 (zI (j + 1 : Nat)) (zzx ?_))))
  refine ⟨_, ?_, _, by exact zzv _ _ _, j + 1, (L).set j aM, rfl, by omega, (by rw [List.length_set]; exact bm), rfl, (au.t (am.t a8.ext)), (RtsP.tstep (e0.ext (am.t a8.ext)) xq (by rw [Nt.erL_len]; omega) (RatP.more (K := ((K + (p.length * (K + 1) + 2 + 1)) + (p.length * (K + 1) + 2) + 2 * p.length + 10)) aK xq) (by rw [Nt.erL_at xq]; unfold Nt.gE; rw [← hpe, Nt.evL_trim]))⟩
  omega
 have qhb70 := qyf ai
 refine zyc (zzp (zzd (zyp (r := 18) (t := 75) [18, 75] xw xj (by rfl) (by rfl) xj (fun aB bD bh bs aJ => ?_))))
 have hLp := RtsP.tdone (e0.ext bh) xq (by rw [Nt.erL_len]; omega)
 have aV : PolP bD ⟨some ⟨aB, 0, none⟩, x.n, x.n⟩ (Nt.erL V l N) M := polp_data1 aJ yk hLp xq
 refine zzf (zza 91 (.v (.slice (some ⟨aB, 0, none⟩) x.n x.n)) (zza 4 (.v (.slice (some ⟨aB, 0, none⟩) x.n x.n)) (zzb (zzo (ret0 [.slice (some ⟨aB, 0, none⟩) x.n x.n] ⟨zzq, trivial⟩ fun u84 bv => ?_)))))
 exact ⟨(⟨some ⟨aB, 0, none⟩, x.n, x.n⟩ : Sl), rfl, (aV.ext bv)⟩
section
variable {k lo lo' n c i j : Nat} {ty : TypeId} {u u' v : World} {w0 : Base} {u0 : World} {x y : Sl} {cs : List Value} {l : List Int} {z : Int} {a : Addr}
theorem nu_ics : ∀ v ∈ ics l, NU v := fun v hv => by
 obtain ⟨x, _, rfl⟩ := List.mem_map.1 hv
 exact nu_i64 x
theorem MutQ.elI (m : MutQ 1 ty lo u y (ics l)) (hj : j < l.length) : ∃ b, y.a = some ⟨b, 0, none⟩ ∧ u.cell? ⟨b, 0 + j * 1, none⟩ = some (.int .i64 (l.getD j 0)) := by
 obtain ⟨b, h1, h2⟩ := m.mutL.cell (j := j) (by rw [zwi]; exact hj)
 exact ⟨b, h1, by rw [Nat.mul_one, h2, ics_at hj]⟩
theorem setL_icsQ (h : j < l.length) : setL (ics l) (0 + j * 1) (Value.int .i64 z).cells.toList = ics (l.set j z) := by
 have := setL_cons (cs := ics l) (off := j) (v := .int .i64 z) (vs := []) (by rw [zwi]; exact h)
 rw [setL_nil] at this
 rw [Nat.zero_add, Nat.mul_one, ← ics_set]
 exact this.symm
theorem MutQ.slr (m : MutQ 1 ty lo u y (ics l)) : SlR .i64 u y.a y.n y.c l := by
 obtain ⟨h1, h2, h3, h4⟩ := id m
 rw [zwi, Nat.mul_one] at h1
 refine ⟨h1, h2, h3, fun h0 => ?_⟩
 rcases h4 with h4 | ⟨b, all, g1, g2, g3, g4, _, _⟩
 ·rw [h4] at h0; exact absurd h0 (Nat.lt_irrefl 0)
 refine ⟨b, 0, g1, zxa g2, fun i hi => ?_⟩
 obtain ⟨b2, e1, e2⟩ := m.elI (j := i) xq
 rw [g1] at e1
 injection e1 with e1; injection e1 with e1 _ _
 subst e1
 rw [Nat.mul_one] at e2
 rw [e2, qyg]
end
section
variable {P : Program} {ops : Array Oper} {w0 : Base} {u0 : World} {S : St} {u : World} {o : Oper} {p : List Tmp} {rest : List (Oper × List Tmp)} {K : St → World → Prop}
theorem sy_tailD {seq : Bool} (d : Tmp) {T : TypeId} {x g : Operand} {b off n c : Nat} {k : IntKind} {i : Int} (lo : Nat) {sz : Nat} (hT : SlIs P T sz) (hi : i = lo) (h1 : lo ≤ n) (h2 : n ≤ c) (h3 : c ≠ lo)
  (kk : sym P ops w0 u0 seq rest (S.set d (.v (.slice (some ⟨b, off + lo * sz, none⟩) (n - lo) (c - lo)))) u K) (hw : Wants ops o S := by exact zwf xj) (hd : o.dst = some d := by kernel_rfl) (hop : o.op = .slice T x (some g) none none := by rfl) (hf : freeB S d = true := by kernel_rfl)
  (hx : evO S x = some (.v (.slice (some ⟨b, off, none⟩) n c)) := by rfl) (hg : evO S g = some (.v (.int k i)) := by rfl) : sym P ops w0 u0 seq ((o, p) :: rest) S u K := by
 subst hi
 obtain ⟨E, agg, hu, hE⟩ := hT
 refine .inl ⟨by rw [hop]; exact (by decide : (0 : Nat) ≠ 2), .set (.v (.slice (some ⟨b, off + lo * sz, none⟩) (n - lo) (c - lo))), ⟨zxy hd hf, .inl ⟨(fun t ht => by cases ht), fun B a w u' hr he hdt => ⟨hw B a hr, ?_⟩⟩⟩, ?_⟩
 ·have e1 : (execOp a.eval o).run P w = (do pure (Next.value (← Instr.sliceAt T (a.eval x) (some (a.eval g)) none none)) : Sem Next).run P w := by unfold execOp; rw [hop]; rfl
  rw [e1, ev_eval hr hx, ev_eval hr hg]
  refine run_val ?_
  show (Instr.sliceAt T (.slice (some ⟨b, off, none⟩) n c) (some (.int k lo)) none none).run P w = .ok (.slice (some ⟨b, off + lo * sz, none⟩) (n - lo) (c - lo)) w
  have hs := (hE w).2
  simp [Instr.sliceAt, Instr.slice, Instr.sliceBounds, Instr.sliceBound, asIntOf, run_underlying hu, go_sem, hs, h1, h3, Addr.add]
 show sym P ops w0 u0 seq rest (S.put o.dst (some _)) u K
 rw [hd]; exact kk
end
namespace Nt
theorem up_no {N : Int} {L : List Int} {i : Nat} {z : Int} (hi : i < L.length) (hz : z = -1 ∧ i = 0 ∨ 0 < i ∧ z = L.getD (i - 1) 0) (h : L.getD i 0 ≤ z ∨ N ≤ L.getD i 0) : ¬ Up N L := fun hu => by
 have h1 := hu.1 i hi
 rcases h with h | h
 ·rcases hz with ⟨h2, h3⟩ | ⟨h2, h3⟩
  ·omega
  have := hu.2 (i - 1) i xq hi; omega
 omega
structure UpI (N : Int) (L : List Int) (i : Nat) : Prop where
 bd : ∀ j, j < i → 0 ≤ L.getD j 0 ∧ L.getD j 0 < N
 asc : ∀ a b, a < b → b < i → L.getD a 0 < L.getD b 0
theorem upI_0 (N : Int) (L : List Int) : UpI N L 0 := ⟨fun j hj => absurd hj (Nat.not_lt_zero j), fun a b _ hb => absurd hb (Nat.not_lt_zero b)⟩
theorem UpI.step {N : Int} {L : List Int} {i : Nat} {z : Int} (h : UpI N L i) (hz : z = -1 ∧ i = 0 ∨ 0 < i ∧ z = L.getD (i - 1) 0) (h1 : z < L.getD i 0) (h2 : L.getD i 0 < N) : UpI N L (i + 1) := by
 have hz1 : -1 ≤ z := by
  rcases hz with hz | hz
  ·omega
  have := h.bd (i - 1) xq; omega
 refine ⟨fun j hj => ?_, fun a b hab hb => ?_⟩
 ·by_cases e : j = i
  ·rw [e]; omega
  exact h.bd j xq
 by_cases e : b = i
 ·rw [e]
  rcases hz with hz | hz
  ·omega
  by_cases e2 : a = i - 1
  ·rw [e2]; omega
  have := h.asc a (i - 1) xq xq; omega
 exact h.asc a b hab xq
theorem UpI.done {N : Int} {L : List Int} (h : UpI N L L.length) : Up N L := ⟨h.bd, h.asc⟩
theorem up_no1 {N : Int} {L : List Int} {i : Nat} (hi : i < L.length) (h : L.getD i 0 < 0 ∨ N ≤ L.getD i 0 ∨ 0 < i ∧ L.getD i 0 ≤ L.getD (i - 1) 0) : ¬ Up N L := fun hu => by
 have h1 := hu.1 i hi
 rcases h with h | h | ⟨h, h2⟩
 ·omega
 ·omega
 have := hu.2 (i - 1) i xq hi; omega
theorem UpI.step1 {N : Int} {L : List Int} {i : Nat} (h : UpI N L i) (h0 : 0 ≤ L.getD i 0) (h2 : L.getD i 0 < N) (h1 : 0 < i → L.getD (i - 1) 0 < L.getD i 0) : UpI N L (i + 1) := by
 by_cases e : i = 0
 ·subst e; exact h.step (z := -1) (.inl ⟨rfl, rfl⟩) xq h2
 exact h.step (z := L.getD (i - 1) 0) (.inr ⟨by omega, rfl⟩) (h1 xq) h2
end Nt
theorem k_ascending {u w : World} {z : Sl} {L : List Int} (d : Dat u w) (hz : SlR .i64 u z.a z.n z.c L) (hb : ∀ x ∈ L, -9223372036854775808 ≤ x ∧ x ≤ 9223372036854775807) {N : Int} : qyc 77 #[z.v, .int .i64 N] w (Post u w fun v _ => ∃ b : Bool, v = .bool b ∧ (b = true ↔ Nt.Up N L)) := by
 have hzn : L.length = z.n := hz.1
 have hzm : z.n ≤ maxLen := Nat.le_trans hz.2.1 hz.2.2.1
 unfold maxLen at hzm
 refine zzm Tryz.func77 rfl Tryz.ntmps77 Tryz.results77 d ?_
 refine sq9 (zza 4 (zB false) (zzb (sq9 (zza 5 (zI (-1)) (zzb (zzd (sq9 (zza 8 (.v (z.v)) (zza 9 (zI z.n) (zza 10 (zI 0) (zzb ?_)))))))))))
 refine zzt (zyn (I := fun ah S' u' => ∃ (i : Nat) (zz : Int), (ah = L.length - i) ∧ (i ≤ L.length) ∧ (Nt.UpI N L i) ∧ (zz = -1 ∧ i = 0 ∨ 0 < i ∧ zz = L.getD (i - 1) 0) ∧ (-9223372036854775808 ≤ zz) ∧ (zz ≤ 9223372036854775807) ∧ (S' = St.of 24 [(1, zI N), (5, zI zz), (8, .v (z.v)), (9, zI z.n), (10, zI i)] []) ∧ (Ext u u')) (fun m S u1 u2 e h => by obtain ⟨i, zz, hm, p0, p1, p2, p3, p4, hS, hE⟩ := h; exact ⟨i, zz, hm, p0, p1, p2, p3, p4, hS, hE.trans e⟩) _ yz ⟨0, (-1), rfl, by omega, (Nt.upI_0 _ _), (.inl ⟨rfl, rfl⟩), by omega, by omega, rfl, (Ext.refl _)⟩ ?_)
 rintro ah _ u11 ⟨i, zz, ai, hi, hU, hzz, hb0, hb1, rfl, af⟩
 refine sq9 (zza 11 (zB (decide ((i : Int) < (z.n : Int)))) (zzb (zzd (zzu (b := decide ((i : Int) < (z.n : Int))) xj (fun aa => ?_) (fun aa => ?_)))))
 ·have qhb12 := qyt aa
  refine zzs (zzp ?_)
  refine zzd (zzt (sq9 ?_))
  have hl13 := ((hz.ext af)).1
  obtain ⟨b13, ag, ae, ad⟩ := ints_at (hz.ext af) (i := i) xq
  have hz13 := ints_bd hb xq i
  refine zya 12 (ag + i * 1) (n := z.n) (off := ag) (sz := 1) (i := (i : Int)) xq ae xq xq sl22 (zyl 13 (.int .i64 (L.getD i 0)) ad ty3 (zza 7 (zI (L.getD i 0)) (zzb (zzd (sq9 (zza 14 (zI (L.getD i 0)) (zza 15 (zI zz) (zza 16 (zB (decide ((L.getD i 0) ≤ zz))) ?_))))))))
  rcases Bool.eq_false_or_eq_true (decide ((L.getD i 0) ≤ zz)) with hs14 | hs14
  ·refine qbi 17 hs14 ?_
   have qhs14 := qyt hs14
   refine zzn 18 (uw 3 false true 17) (zzn 19 (uw 3 false true 17) (zzn 20 (uw 3 false true 17) (zza 21 (zB true) (zzb (zyr xj (sq9 (zza 4 (zB false) (zzb (zzo (zzw (zyu (zzw (zyt (zyu (zzw (ret0 [.bool false] ⟨zzq, trivial⟩ fun u15 e16 => ?_))))))))))))))))
   simp only [decide_eq_true_eq] at aa
   simp only [decide_eq_true_eq] at hs14
   exact ⟨false, rfl, ⟨fun h => absurd h yv, fun h => absurd h (Nt.up_no xq hzz xq)⟩⟩
  refine qbi 17 hs14 ?_
  have qhs14 := qyf hs14
  refine zza 18 (zI (L.getD i 0)) ?_ (hw := w1 3 false 17)
  refine zza 19 (zI N) ?_ (hw := w1 3 false 17)
  refine zza 20 (zB (decide (N ≤ (L.getD i 0)))) ?_ (hw := w1 3 false 17)
  refine zza 21 (zB (decide (N ≤ (L.getD i 0)))) (zzb (zzu (b := decide (N ≤ (L.getD i 0))) xj (fun ac => ?_) (fun ac => ?_)))
  ·have qhb17 := qyt ac
   refine sq9 (zza 4 (zB false) (zzb (zzo (zzw (zyu (zzw (zyt (zyu (zzw (ret0 [.bool false] ⟨zzq, trivial⟩ fun u18 e19 => ?_))))))))))
   simp only [decide_eq_true_eq] at aa
   simp only [decide_eq_false_iff_not] at hs14
   simp only [decide_eq_true_eq] at ac
   exact ⟨false, rfl, ⟨fun h => absurd h yv, fun h => absurd h (Nt.up_no xq hzz xq)⟩⟩
  have qhb17 := qyf ac
  refine zzs (zzp ?_)
  refine zzf (zza 22 (zI (L.getD i 0)) (zza 5 (zI (L.getD i 0)) (zzx ?_)))
  refine zzp (zzf (qwi 23 ((i : Int) + 1) (i + 1 : Nat) xz (zza 10 (zI (i + 1 : Nat)) (zzx ?_))))
  simp only [decide_eq_true_eq] at aa
  simp only [decide_eq_false_iff_not] at hs14
  simp only [decide_eq_false_iff_not] at ac
  refine ⟨_, ?_, _, by exact zzv _ _ _, i + 1, (L.getD i 0), rfl, by omega, (hU.step hzz xq xq), (.inr ⟨by omega, by rw [Nat.add_sub_cancel]⟩), (ints_bd hb xq i).1, (ints_bd hb xq i).2, rfl, af⟩
  omega
 have qhb12 := qyf aa
 refine zyc (zzp (sq9 (zza 4 (zB true) (zzb (zzo (ret0 [.bool true] ⟨zzq, trivial⟩ fun u20 e21 => ?_))))))
 have hie : i = L.length := by omega
 rw [hie] at hU
 exact ⟨true, rfl, ⟨fun _ => hU.done, fun _ => rfl⟩⟩
theorem k_ascends {u w : World} {z : Sl} {L : List Int} (d : Dat u w) (hz : SlR .i64 u z.a z.n z.c L) (hb : ∀ x ∈ L, -9223372036854775808 ≤ x ∧ x ≤ 9223372036854775807) {N : Int} : qyc 87 #[z.v, .int .i64 N] w (Post u w fun v _ => ∃ b : Bool, v = .bool b ∧ (b = true ↔ Nt.Up N L)) := by
 have hzn : L.length = z.n := hz.1
 have hzm : z.n ≤ maxLen := Nat.le_trans hz.2.1 hz.2.2.1
 unfold maxLen at hzm
 refine zzm Tryz.func87 rfl Tryz.ntmps87 Tryz.results87 d ?_
 refine sq9 (zza 4 (zB false) (zzb (zzd (sq9 (zza 7 (.v (z.v)) (zza 8 (zI z.n) (zza 9 (zI 0) (zzb (zzt (zyn (I := fun ak S' u' => ∃ (i : Nat), (ak = L.length - i) ∧ (i ≤ L.length) ∧ (Nt.UpI N L i) ∧ (S' = St.of 35 [(0, .v (z.v)), (1, zI N), (7, .v (z.v)), (8, zI z.n), (9, zI i)] []) ∧ (Ext u u')) (fun m S u1 u2 e h => by obtain ⟨i, hm, p0, p1, hS, hE⟩ := h; exact ⟨i, hm, p0, p1, hS, hE.trans e⟩) _ yz ⟨0, rfl, by omega, (Nt.upI_0 _ _), rfl, (Ext.refl _)⟩ ?_))))))))))
 rintro ak _ u11 ⟨i, al, hi, hU, rfl, ad⟩
 refine sq9 (zza 10 (zB (decide ((i : Int) < (z.n : Int)))) (zzb (zzd (zzu (b := decide ((i : Int) < (z.n : Int))) xj (fun aa => ?_) (fun aa => ?_)))))
 ·have qhb12 := qyt aa
  refine zzs (zzp ?_)
  refine zzd (zzt (sq9 (zza 11 (zI i) ?_)))
  have hl13 := ((hz.ext ad)).1
  obtain ⟨b13, aj, af, ae⟩ := ints_at (hz.ext ad) (i := i) xq
  have hz13 := ints_bd hb xq i
  refine zya 12 (aj + i * 1) (n := z.n) (off := aj) (sz := 1) (i := (i : Int)) xq af xq xq sl22 (zyl 13 (.int .i64 (L.getD i 0)) ae ty3 (zza 5 (zI i) (zza 6 (zI (L.getD i 0)) (zzb (sq9 (zza 14 (zI (L.getD i 0)) (zza 15 (zB (decide ((L.getD i 0) < 0))) ?_)))))))
  rcases Bool.eq_false_or_eq_true (decide ((L.getD i 0) < 0)) with hs14 | hs14
  ·refine qbi 16 hs14 ?_
   have qhs14 := qyt hs14
   refine zzn 17 (uw 2 false true 16) (zzn 18 (uw 2 false true 16) (zzn 19 (uw 2 false true 16) (zza 20 (zB true) (zza 21 (zB true) (zzn 22 (uw 7 false true 21) (zzn 23 (uw 7 false true 21) (zzn 24 (uw 7 false true 21) (zzn 25 (unwantedU (g := 10) (b := true) (t := 24) xj xj xj) (zzn 26 (unwantedU (g := 10) (b := true) (t := 24) xj xj xj) (zzn 27 (unwantedU (g := 10) (b := true) (t := 24) xj xj xj) (zzn 28 (unwantedU (g := 10) (b := true) (t := 24) xj xj xj) ?_)))))))))))
   refine zzn 29 (unwantedU (g := 10) (b := true) (t := 24) xj xj xj) (zzn 30 (unwantedU (g := 10) (b := true) (t := 24) xj xj xj) (zzn 31 (unwantedU (g := 10) (b := true) (t := 24) xj xj xj) (zzn 32 (uw 7 false true 21) (zza 33 (zB true) (zzb (zyr xj (sq9 (zza 4 (zB false) (zzc 35 [(4, zB false)] [] (zzo (zyu (zzw (zyt (zyu (zzw (ret0 [.bool false] ⟨zzq, trivial⟩ fun u15 e16 => ?_))))))))))))))))
   simp only [decide_eq_true_eq] at aa
   simp only [decide_eq_true_eq] at hs14
   exact ⟨false, rfl, ⟨fun h => absurd h yv, fun h => absurd h (Nt.up_no1 (i := i) xq xq)⟩⟩
  refine qbi 16 hs14 ?_
  have qhs14 := qyf hs14
  refine zza 17 (zI (L.getD i 0)) ?_ (hw := w1 2 false 16)
  refine zza 18 (zI N) ?_ (hw := w1 2 false 16)
  refine zza 19 (zB (decide (N ≤ (L.getD i 0)))) ?_ (hw := w1 2 false 16)
  refine zza 20 (zB (decide (N ≤ (L.getD i 0)))) ?_
  rcases Bool.eq_false_or_eq_true (decide (N ≤ (L.getD i 0))) with hs17 | hs17
  ·refine qbi 21 hs17 ?_
   have qhs17 := qyt hs17
   refine zzn 22 (uw 7 false true 21) (zzn 23 (uw 7 false true 21) (zzn 24 (uw 7 false true 21) (zzn 25 (unwantedU (g := 10) (b := true) (t := 24) xj xj xj) (zzn 26 (unwantedU (g := 10) (b := true) (t := 24) xj xj xj) (zzn 27 (unwantedU (g := 10) (b := true) (t := 24) xj xj xj) (zzn 28 (unwantedU (g := 10) (b := true) (t := 24) xj xj xj) (zzn 29 (unwantedU (g := 10) (b := true) (t := 24) xj xj xj) (zzn 30 (unwantedU (g := 10) (b := true) (t := 24) xj xj xj) (zzn 31 (unwantedU (g := 10) (b := true) (t := 24) xj xj xj) (zzn 32 (uw 7 false true 21) (zza 33 (zB true) ?_)))))))))))
   refine zzb (zyr xj (sq9 (zza 4 (zB false) (zzc 35 [(4, zB false)] [] (zzo (zyu (zzw (zyt (zyu (zzw (ret0 [.bool false] ⟨zzq, trivial⟩ fun u18 e19 => ?_)))))))))))
   simp only [decide_eq_true_eq] at aa
   simp only [decide_eq_false_iff_not] at hs14
   simp only [decide_eq_true_eq] at hs17
   exact ⟨false, rfl, ⟨fun h => absurd h yv, fun h => absurd h (Nt.up_no1 (i := i) xq xq)⟩⟩
  refine qbi 21 hs17 ?_
  have qhs17 := qyf hs17
  refine zza 22 (zI i) ?_ (hw := w1 7 false 21)
  refine zza 23 (zB (decide ((0 : Int) < (i : Int)))) ?_ (hw := w1 7 false 21)
  rcases Bool.eq_false_or_eq_true (decide ((0 : Int) < (i : Int))) with hs20 | hs20
  ·refine qbi 24 hs20 ?_ (hw := w1 7 false 21)
   have qhs20 := qyt hs20
   refine zza 25 (.v (z.v)) ?_ (hw := w1 10 true 24)
   refine zza 26 (zI i) ?_ (hw := w1 10 true 24)
   refine qwi 27 ((i : Int) - 1) (i - 1 : Nat) xz ?_ (hw := w1 10 true 24)
   have hl21 := ((hz.ext ad)).1
   obtain ⟨b21, ai, ag, ah⟩ := ints_at (hz.ext ad) (i := i - 1) xq
   have hz21 := ints_bd hb xq (i - 1)
   refine zya 28 (ai + (i - 1) * 1) (n := z.n) (off := ai) (sz := 1) (i := ((i - 1 : Nat) : Int)) xq ag xq xq sl22 ?_ (hw := w1 10 true 24)
   refine zyl 29 (.int .i64 (L.getD (i - 1) 0)) ah ty3 ?_ (hw := w1 10 true 24)
   refine zza 30 (zI (L.getD i 0)) ?_ (hw := w1 10 true 24)
   refine zza 31 (zB (decide ((L.getD i 0) ≤ (L.getD (i - 1) 0)))) ?_ (hw := w1 10 true 24)
   refine zza 32 (zB (decide ((L.getD i 0) ≤ (L.getD (i - 1) 0)))) ?_ (hw := w1 7 false 21)
   refine zza 33 (zB (decide ((L.getD i 0) ≤ (L.getD (i - 1) 0)))) (zzb (zzu (b := decide ((L.getD i 0) ≤ (L.getD (i - 1) 0))) xj (fun ac => ?_) (fun ac => ?_)))
   ·have qhb22 := qyt ac
    refine sq9 (zza 4 (zB false) (zzc 35 [(4, zB false)] [] (zzo (zyu (zzw (zyt (zyu (zzw (ret0 [.bool false] ⟨zzq, trivial⟩ fun u23 e24 => ?_)))))))))
    simp only [decide_eq_true_eq] at aa
    simp only [decide_eq_false_iff_not] at hs14
    simp only [decide_eq_false_iff_not] at hs17
    simp only [decide_eq_true_eq] at hs20
    simp only [decide_eq_true_eq] at ac
    exact ⟨false, rfl, ⟨fun h => absurd h yv, fun h => absurd h (Nt.up_no1 (i := i) xq xq)⟩⟩
   have qhb22 := qyf ac
   refine zzs (zzp ?_)
   refine zzf (qwi 34 ((i : Int) + 1) (i + 1 : Nat) xz (zza 9 (zI (i + 1 : Nat)) (zzx ?_)))
   simp only [decide_eq_true_eq] at aa
   simp only [decide_eq_false_iff_not] at hs14
   simp only [decide_eq_false_iff_not] at hs17
   simp only [decide_eq_true_eq] at hs20
   simp only [decide_eq_false_iff_not] at ac
   refine ⟨_, ?_, _, by exact zzv _ _ _, i + 1, rfl, by omega, (hU.step1 xq xq xq), rfl, ad⟩
   omega
  refine qbi 24 hs20 ?_ (hw := w1 7 false 21)
  have qhs20 := qyf hs20
  refine zzn 25 (uw 10 true false 24) (zzn 26 (uw 10 true false 24) (zzn 27 (uw 10 true false 24) (zzn 28 (uw 10 true false 24) (zzn 29 (uw 10 true false 24) (zzn 30 (uw 10 true false 24) (zzn 31 (uw 10 true false 24) (zza 32 (zB false) ?_ (hw := w1 7 false 21))))))))
  refine zza 33 (zB false) (zzb (zys xj (zzs (zzp ?_))))
  refine zzf (qwi 34 ((i : Int) + 1) (i + 1 : Nat) xz (zza 9 (zI (i + 1 : Nat)) (zzx ?_)))
  simp only [decide_eq_true_eq] at aa
  simp only [decide_eq_false_iff_not] at hs14
  simp only [decide_eq_false_iff_not] at hs17
  simp only [decide_eq_false_iff_not] at hs20
  refine ⟨_, ?_, _, by exact zzv _ _ _, i + 1, rfl, by omega, (hU.step1 xq xq xq), rfl, ad⟩
  omega
 have qhb12 := qyf aa
 refine zyc (zzp (sq9 (zza 4 (zB true) (zzb (zzo (ret0 [.bool true] ⟨zzq, trivial⟩ fun u25 e26 => ?_))))))
 have hie : i = L.length := by omega
 rw [hie] at hU
 exact ⟨true, rfl, ⟨fun _ => hU.done, fun _ => rfl⟩⟩
theorem k_spread {u w : World} {N k : Nat} (d : Dat u w) (hk2 : 2 ≤ k) (hkN : k ≤ N) (hN12 : N ≤ 12) : qyc 60 #[.int .i64 (N : Int), .int .i64 (k : Int)] w (Post u w fun v u' => ∃ (b : Nat) (l : List Nat), v = .slice (some ⟨b, 0, none⟩) k k ∧ u.heap.size ≤ b ∧ u'.heap[b]? = some (.cells (ics (Nt.inl l)).toArray 3 (0, 0)) ∧ Nt.Rf N l (k - 1)) := by
 refine zzm Tryz.func60 rfl Tryz.ntmps60 Tryz.results60 d ?_
 refine sq9 (zza 4 (.v (qyn)) (zzb (sq9 (zza 9 (zI k) (sy_make 10 (T := 22) (E := 3) (z := .int .i64 0) (size := 1) (bytes := 8) k (ics (List.replicate k 0) ++ []) xj xj rfl rfl xq yk (by rw [List.append_nil]; exact made_ints _) ?_)))))
 refine zza 5 (.slc 10 0 k k) (zzc 54 [(0, zI N), (1, zI k), (5, .slc 10 0 k k)] [(10, ⟨3, ics (List.replicate k (0 : Int)) ++ []⟩)] (sq9 (zza 11 (zI k) (qwi 12 ((k : Int) - 1) (k - 1 : Nat) xz (zza 6 (zI (k - 1 : Nat)) (zzb (zzd (sq9 (zza 7 (zI 1) (zzb (zzt ?_)))))))))))
 refine zyn (I := fun aA S' u' => ∃ (i : Nat) (L : List Int), (aA = k - i) ∧ (i ≤ k) ∧ (1 ≤ i) ∧ (Nt.SpI N k i L) ∧ (S' = St.of 54 [(0, zI N), (1, zI k), (5, .slc 10 0 k k), (6, zI (k - 1 : Nat)), (7, zI i)] [(10, ⟨3, ics L ++ []⟩)]) ∧ (Ext u u')) (fun m S u1 u2 e h => by obtain ⟨i, L, hm, p0, p1, p2, hS, hE⟩ := h; exact ⟨i, L, hm, p0, p1, p2, hS, hE.trans e⟩) _ yz ⟨1, (List.replicate k (0 : Int)), rfl, by omega, by omega, (Nt.spI_0 xq hkN), rfl, (Ext.refl _)⟩ ?_
 rintro aA _ u11 ⟨i, L, aD, hi, aB, hS, rfl, aE⟩
 have hSb := hS.bd (i - 1) xq
 have hSl := hS.len
 refine zzd (sq9 (zza 13 (zI i) (zza 14 (zI k) (zza 15 (zB (decide ((i : Int) < (k : Int)))) (zzb (zzu (b := decide ((i : Int) < (k : Int))) xj (fun ae => ?_) (fun ae => ?_)))))))
 ·have qhb12 := qyt ae
  refine zzs (zzp ?_)
  refine zzd (zzt (sq9 (zza 18 (zI N) (qwi 19 ((N : Int) - 1) (N - 1 : Nat) xz (zza 20 (zI i) ?_)))))
  obtain ⟨af, an⟩ : ∃ m : Nat, (N - 1) * i = m := ⟨_, rfl⟩
  have ay : af ≤ 121 := by rw [← an]; exact Nat.le_trans (Nat.mul_le_mul (show N - 1 ≤ 11 by omega) (show i ≤ 11 by omega)) yv
  have ak : ((N - 1 : Nat) : Int) * ((i : Nat) : Int) = (af : Int) := by rw [← an, Int.natCast_mul]
  refine qwi 21 (((N - 1 : Nat) : Int) * ((i : Nat) : Int)) af (by rw [ak, IntWalk.i64_in _ xq]) (zza 22 (zI i) ?_)
  obtain ⟨ag, ap⟩ : ∃ m : Nat, af * i = m := ⟨_, rfl⟩
  have az : ag ≤ 1331 := by rw [← ap]; exact Nat.le_trans (Nat.mul_le_mul (show af ≤ 121 by omega) (show i ≤ 11 by omega)) yv
  have al : ((af : Nat) : Int) * ((i : Nat) : Int) = (ag : Int) := by rw [← ap, Int.natCast_mul]
  refine qwi 23 (((af : Nat) : Int) * ((i : Nat) : Int)) ag (by rw [al, IntWalk.i64_in _ xq]) (zza 24 (zI (k - 1 : Nat)) (qwi 25 ((3 : Int) * ((k - 1 : Nat) : Int)) ((3 * (k - 1) : Nat) : Int) xz (zza 26 (zI i) (qwi 27 ((2 : Int) * (i : Int)) (2 * i : Nat) xz (qwi 28 (((3 * (k - 1) : Nat) : Int) - ((2 * i : Nat) : Int)) (((3 * (k - 1)) - (2 * i) : Nat) : Int) xz ?_)))))
  obtain ⟨m29, ai⟩ : ∃ m : Nat, ag * ((3 * (k - 1)) - (2 * i)) = m := ⟨_, rfl⟩
  have aw : m29 ≤ 43923 := by rw [← ai]; exact Nat.le_trans (Nat.mul_le_mul (show ag ≤ 1331 by omega) (show (3 * (k - 1)) - (2 * i) ≤ 33 by omega)) yv
  have ao : ((ag : Nat) : Int) * (((3 * (k - 1)) - (2 * i) : Nat) : Int) = (m29 : Int) := by rw [← ai, Int.natCast_mul]
  refine qwi 29 (((ag : Nat) : Int) * (((3 * (k - 1)) - (2 * i) : Nat) : Int)) m29 (by rw [ao, IntWalk.i64_in _ xq]) (zza 30 (zI (k - 1 : Nat)) (zza 31 (zI (k - 1 : Nat)) ?_))
  obtain ⟨ac, ad⟩ : ∃ m : Nat, (k - 1) * (k - 1) = m := ⟨_, rfl⟩
  have ax : ac ≤ 121 := by rw [← ad]; exact Nat.le_trans (Nat.mul_le_mul (show k - 1 ≤ 11 by omega) (show k - 1 ≤ 11 by omega)) yv
  have am : ((k - 1 : Nat) : Int) * ((k - 1 : Nat) : Int) = (ac : Int) := by rw [← ad, Int.natCast_mul]
  refine qwi 32 (((k - 1 : Nat) : Int) * ((k - 1 : Nat) : Int)) ac (by rw [am, IntWalk.i64_in _ xq]) (zza 33 (zI (k - 1 : Nat)) ?_)
  obtain ⟨ah, aa⟩ : ∃ m : Nat, ac * (k - 1) = m := ⟨_, rfl⟩
  have av : ah ≤ 1331 := by rw [← aa]; exact Nat.le_trans (Nat.mul_le_mul (show ac ≤ 121 by omega) (show k - 1 ≤ 11 by omega)) yv
  have aj : ((ac : Nat) : Int) * ((k - 1 : Nat) : Int) = (ah : Int) := by rw [← aa, Int.natCast_mul]
  refine qwi 34 (((ac : Nat) : Int) * ((k - 1 : Nat) : Int)) ah (by rw [aj, IntWalk.i64_in _ xq]) ?_
  have hq0 : ah ≠ 0 := fun e => by rw [e] at aa; have h9 := Nat.mul_pos (Nat.mul_pos (show 0 < k - 1 by omega) (show 0 < k - 1 by omega)) (show 0 < k - 1 by omega); rw [ad, aa] at h9; omega
  obtain ⟨pl, hpl⟩ : ∃ z : Int, (m29 : Int).tdiv (ah : Int) = z := ⟨_, rfl⟩
  have hplb : pl.natAbs ≤ m29 := by rw [← hpl, Int.natAbs_tdiv]; exact Nat.div_le_self _ _
  refine sy_quo 35 (n := (m29 : Int)) (m := (ah : Int)) pl xq (by rw [hpl]; exact IntWalk.i64_in _ xq) ?_
  refine zza 8 (zI pl) (zzb (zzf (zza 36 (.slc 10 0 k k) (zza 37 (zI i) (zza 38 (zI pl) (zza 39 (.slc 10 0 k k) (zza 40 (zI i) (qwi 41 ((i : Int) - 1) (i - 1 : Nat) xz (zyw 42 (off' := (i - 1) * 1) (n := k) (off := 0) (sz := 1) (i := ((i - 1 : Nat) : Int)) sl22 xq xq xq ?_)))))))))
  refine zzi 43 (V := ⟨3, ics L ++ []⟩) (off := (i - 1) * 1) (zI (L.getD (i - 1) 0)) ty3 (part_intsX (l := L) (i := i - 1) (by rw [hS.len]; omega) rfl) (zyq 44 (x := zI (IntKind.i64.wrap ((L.getD (i - 1) 0) + 1))) (zI ((L.getD (i - 1) 0) + 1)) zk (sy_maxN 45 (n := pl) (m := (L.getD (i - 1) 0) + 1) (v := max pl ((L.getD (i - 1) 0) + 1)) (by rw [Int.max_def]; split <;> split <;> omega) ?_))
  refine zza 46 (zI N) (zza 47 (zI k) (qwi 48 ((N : Int) - (k : Int)) (N - k : Nat) xz (zza 49 (zI i) (qwi 50 (((N - k : Nat) : Int) + (i : Int)) (((N - k) + i : Nat) : Int) xz (sy_minN 51 (n := max pl ((L.getD (i - 1) 0) + 1)) (m := (((N - k) + i : Nat) : Int)) (v := min (max pl ((L.getD (i - 1) 0) + 1)) ((N : Int) - k + i)) (by rw [Int.min_def]; split <;> split <;> omega) ?_)))))
  refine zyw 52 (off' := i * 1) (n := k) (off := 0) (sz := 1) (i := (i : Int)) sl22 xq xq xq ?_
  refine zyv (V := ⟨3, ics L ++ []⟩) (off := i * 1) (ics (L.set i (min (max pl ((L.getD (i - 1) 0) + 1)) ((N : Int) - k + i))) ++ []) ty3 (by rw [List.length_append, zwi, hS.len]; omega) (setL_intsX (z := min (max pl ((L.getD (i - 1) 0) + 1)) ((N : Int) - k + i)) (i := i) (by rw [hS.len]; omega) rfl) ?_
  refine zzx ?_
  refine zzp (zzf (zza 16 (zI i) (qwi 17 ((i : Int) + 1) (i + 1 : Nat) xz (zza 7 (zI (i + 1 : Nat)) (zzx ?_)))))
  refine ⟨_, ?_, _, by exact zzv _ _ _, i + 1, (L.set i (min (max pl ((L.getD (i - 1) 0) + 1)) ((N : Int) - k + i))), rfl, by omega, by omega, (hS.step xq aB hkN), rfl, aE⟩
  omega
 have qhb12 := qyf ae
 refine zyc (zzp (zzd (zyp (r := 5) (t := 10) [5, 10] xw xj (by rfl) (by rfl) xj (fun aq u14 e15 ar au => ?_))))
 refine zzf (zza 53 (.v (.slice (some ⟨aq, 0, none⟩) k k)) (zza 4 (.v (.slice (some ⟨aq, 0, none⟩) k k)) (zzb (zzo (ret0 [.slice (some ⟨aq, 0, none⟩) k k] ⟨zzq, trivial⟩ fun u18 aC => ?_)))))
 obtain rfl : i = k := by omega
 obtain ⟨l, hl, hR⟩ := Nt.up_inl (n := i - 1) (hS.up hkN) (by rw [hS.len]; omega)
 have h9 := aC.cells au
 rw [List.append_nil, hl] at h9
 exact ⟨aq, l, rfl, ar, h9, hR⟩
namespace Nt
theorem inl_app (l m : List Nat) : inl (l ++ m) = inl l ++ inl m := List.map_append
theorem inl_take (l : List Nat) (n : Nat) : inl (l.take n) = (inl l).take n := List.map_take
theorem inl_drop (l : List Nat) (n : Nat) : inl (l.drop n) = (inl l).drop n := List.map_drop
end Nt
namespace Nt
open Pol
def Bt (q : Rat) (B : Nat) : Prop := ∃ (z : Int) (D : Nat), 0 < D ∧ D ≤ 2 ^ B ∧ z.natAbs ≤ 2 ^ B ∧ q = mkRat z D
section
variable {p q : Rat} {A B : Nat}
theorem Bt.more (h : Bt q A) (k : A ≤ B) : Bt q B := by
 obtain ⟨z, D, h1, h2, h3, h4⟩ := h
 have := Nat.pow_le_pow_right (show 0 < 2 by omega) k
 exact ⟨z, D, h1, Nat.le_trans h2 this, Nat.le_trans h3 this, h4⟩
theorem Bt.rs (h : Bt q A) : Nt.rs q ≤ dg A := by
 obtain ⟨z, D, h1, h2, h3, h4⟩ := h
 rw [h4]
 exact rs_mk (dl_dg h3) (dl_dg h2) (by unfold dg; omega)
theorem Bt.mul (h : Bt p A) (k : Bt q B) : Bt (p * q) (A + B) := by
 obtain ⟨z, D, h1, h2, h3, h4⟩ := h
 obtain ⟨y, E, k1, k2, k3, k4⟩ := k
 refine ⟨z * y, D * E, Nat.mul_pos h1 k1, ?_, ?_, ?_⟩
 ·rw [Nat.pow_add]; exact Nat.mul_le_mul h2 k2
 ·rw [Int.natAbs_mul, Nat.pow_add]; exact Nat.mul_le_mul h3 k3
 rw [h4, k4, Rat.mkRat_mul_mkRat]
theorem Bt.neg (h : Bt q A) : Bt (-q) A := by
 obtain ⟨z, D, h1, h2, h3, h4⟩ := h
 exact ⟨-z, D, h1, h2, by rw [Int.natAbs_neg]; exact h3, by rw [h4, Rat.neg_mkRat]⟩
theorem Bt.add (h : Bt p A) (k : Bt q B) : Bt (p + q) (A + B + 1) := by
 obtain ⟨z, D, h1, h2, h3, h4⟩ := h
 obtain ⟨y, E, k1, k2, k3, k4⟩ := k
 refine ⟨z * E + y * D, D * E, Nat.mul_pos h1 k1, ?_, ?_, ?_⟩
 ·refine Nat.le_trans (Nat.mul_le_mul h2 k2) ?_
  rw [← Nat.pow_add]; exact Nat.pow_le_pow_right xq xq
 ·have e1 : (z * E).natAbs ≤ 2 ^ (A + B) := by rw [Int.natAbs_mul, Nat.pow_add]; exact Nat.mul_le_mul h3 k2
  have e2 : (y * D).natAbs ≤ 2 ^ (A + B) := by rw [Int.natAbs_mul, Nat.pow_add, Nat.mul_comm]; exact Nat.mul_le_mul h2 k3
  rw [Nat.pow_succ]
  omega
 rw [h4, k4, Rat.mkRat_add_mkRat _ _ xq xq]
theorem Bt.sub (h : Bt p A) (k : Bt q B) : Bt (p - q) (A + B + 1) := by rw [Rat.sub_eq_add_neg]; exact h.add k.neg
theorem Bt.zero (A : Nat) : Bt 0 A := ⟨0, 1, by omega, Nat.one_le_two_pow, by simp, by rw [Rat.zero_mkRat]⟩
theorem Bt.inv (h : Bt q A) : Bt q⁻¹ A := by
 obtain ⟨z, D, h1, h2, h3, h4⟩ := h
 by_cases hz : z = 0
 ·rw [h4, hz, Rat.zero_mkRat, Rat.inv_zero]; exact Bt.zero A
 have hD : ((D : Int) : Rat) ≠ 0 := dz h1
 have hzr : (z : Rat) ≠ 0 := fun e => hz (Rat.intCast_inj.1 (show (z : Rat) = ((0 : Int) : Rat) from e))
 refine ⟨z.sign * D, z.natAbs, Int.natAbs_pos.2 hz, h3, ?_, ?_⟩
 ·rw [Int.natAbs_mul, Int.natAbs_sign_of_ne_zero hz, Nat.one_mul]; exact h2
 rw [h4, ← mk_div, ← mk_div]
 rcases Int.lt_or_gt_of_ne hz with c | c
 ·have e1 : (z.natAbs : Int) = -z := by omega
  rw [Int.sign_eq_neg_one_of_neg c, e1, Rat.intCast_mul, Rat.intCast_neg, Rat.intCast_neg]
  rw [Rat.div_def, Rat.div_def, Rat.inv_mul_rev, Rat.inv_inv]
  have : (-(z : Rat))⁻¹ = -((z : Rat)⁻¹) := by
   have h1 : (-(z : Rat)) * (-((z : Rat)⁻¹)) = 1 := by have := Rat.mul_inv_cancel _ hzr; grind
   have h2 : (-(z : Rat)) ≠ 0 := by grind
   have h3 := Rat.mul_inv_cancel _ h2
   grind
  rw [this, show ((1 : Int) : Rat) = 1 from rfl]; grind
 have e1 : (z.natAbs : Int) = z := by omega
 rw [Int.sign_eq_one_of_pos c, e1, Int.one_mul, Rat.div_def, Rat.div_def, Rat.inv_mul_rev, Rat.inv_inv]
theorem Bt.div (h : Bt p A) (k : Bt q B) : Bt (p / q) (A + B) := by rw [Rat.div_def]; exact h.mul k.inv
theorem Bt.ofWh {D : Nat} (h0 : 0 < D) (h : Wh (q * ((D : Int) : Rat)) A) (hD : D ≤ 2 ^ A) : Bt q A := by
 obtain ⟨z, hz, hb⟩ := h
 exact ⟨z, D, h0, hD, hb, by rw [← mk_div, ← hz]; have := dz h0; grind⟩
end
def bZ : Nat → Nat
 | 0 => 14
 | o + 1 => 2 * bZ o + 7
theorem bZ_le : ∀ o n, o ≤ n → bZ o ≤ bZ n := fun o n h => by
 induction n with
 | zero => rw [show o = 0 by omega]; exact Nat.le_refl _
 | succ n ih =>
  by_cases e : o = n + 1
  ·rw [e]; exact Nat.le_refl _
  have := ih xq
  show _ ≤ 2 * bZ n + 7
  omega
theorem dd_Bt {x y : Nat → Rat} {n : Nat} (hx : ∀ i j, i ≤ n → j ≤ n → Bt (x i - x j) 6) (hy : ∀ i, i ≤ n → Bt (y i) 14) : ∀ o a, a + o ≤ n → Bt (dd x y o a) (bZ o)
 | 0, a, h => hy a h
 | o + 1, a, h => by
  have h1 := dd_Bt hx hy o (a + 1) xq
  have h2 := dd_Bt hx hy o a xq
  exact ((h1.sub h2).div (hx (a + o + 1) a xq xq)).more (by show _ ≤ 2 * bZ o + 7; omega)
theorem bt_common {c : Nat → Rat} {B : Nat} : ∀ n, (∀ i, i < n → Bt (c i) B) → ∃ D : Nat, 0 < D ∧ D ≤ 2 ^ (B * n) ∧ ∀ i, i < n → Wh (c i * ((D : Int) : Rat)) (B * n)
 | 0, _ => ⟨1, by omega, Nat.one_le_two_pow, fun i hi => absurd hi (Nat.not_lt_zero i)⟩
 | n + 1, h => by
  obtain ⟨D, h1, h2, h3⟩ := bt_common n (fun i hi => h i xq)
  obtain ⟨z, E, k1, k2, k3, k4⟩ := h n xq
  have e : B * (n + 1) = B * n + B := by rw [Nat.mul_succ]
  refine ⟨D * E, Nat.mul_pos h1 k1, by rw [e, Nat.pow_add]; exact Nat.mul_le_mul h2 k2, fun i hi => ?_⟩
  by_cases c : i = n
  ·subst c
   refine ⟨z * D, ?_, ?_⟩
   ·have := dz k1
    rw [k4, ← mk_div, Int.natCast_mul, Rat.intCast_mul, Rat.intCast_mul, Rat.div_def]
    have h9 := Rat.mul_inv_cancel _ this
    grind
   rw [Int.natAbs_mul, e, Nat.pow_add, Nat.mul_comm]; exact Nat.mul_le_mul h2 k3
  obtain ⟨y, g1, g2⟩ := h3 i xq
  refine ⟨y * E, ?_, ?_⟩
  ·rw [Int.natCast_mul, Rat.intCast_mul, Rat.intCast_mul, ← g1]; grind
  rw [Int.natAbs_mul, e, Nat.pow_add]; exact Nat.mul_le_mul g2 k2
theorem mul_lin_co (p : List Rat) (b : Rat) (k : Nat) : co (mulQ p [b, ((1 : Int) : Rat)]) k = b * co p k + sh (co p) k := by
 rw [mulQ_consR]
 congr 1
 have h : ∀ k, co (mulQ p [((1 : Int) : Rat)]) k = co p k := fun k => by
  rw [mulQ_consR]
  have h0 : ∀ k, co (mulQ p []) k = 0 := fun k => by rw [mulQ_comm, mulQ_nil] <;> exact co_nil k
  have : sh (co (mulQ p [])) k = 0 := by unfold sh; split <;> first | rfl | exact h0 _
  rw [this, show ((1 : Int) : Rat) = 1 from rfl]; grind
 unfold sh
 split
 ·rfl
 exact h _
theorem nwL_Wh {x c : Nat → Rat} {n D M : Nat} (hx : ∀ i, i < n → ∃ a : Int, x i * 12 = (a : Rat) ∧ a.natAbs ≤ 36) (hc : ∀ i, i < n → Wh (c i * ((D : Int) : Rat)) M) : ∀ j, j ≤ n → ∀ i, Wh (co (nwL x c n j) i * (((D * 12 ^ j : Nat) : Int) : Rat)) (M + 8 * j)
 | 0, _ => fun i => by
  show Wh (co [] i * _) _
  rw [co_nil, Rat.zero_mul]; exact Wh.zero _
 | j + 1, hj => fun i => by
  have ih := nwL_Wh hx hc j xq
  obtain ⟨a, ha, hb⟩ := hx (n - (j + 1)) xq
  have hcj := hc (n - (j + 1)) xq
  show Wh (co (trimQ (addQ (trimQ (mulQ (nwL x c n j) [-x (n - (j + 1)), ((1 : Int) : Rat)])) [c (n - (j + 1))])) i * _) _
  rw [trim_co, addQ_co, trim_co, mul_lin_co]
  have e : (((D * 12 ^ (j + 1) : Nat) : Int) : Rat) = (((D * 12 ^ j : Nat) : Int) : Rat) * 12 := by
   rw [Nat.pow_succ, ← Nat.mul_assoc, Int.natCast_mul (D * 12 ^ j), Rat.intCast_mul]; rfl
  have w1 : Wh (-x (n - (j + 1)) * co (nwL x c n j) i * (((D * 12 ^ (j + 1) : Nat) : Int) : Rat)) (M + 8 * j + 6) := by
   have : Wh (((-a : Int) : Rat) * (co (nwL x c n j) i * (((D * 12 ^ j : Nat) : Int) : Rat))) (6 + (M + 8 * j)) := Wh.mul ⟨-a, rfl, by rw [Int.natAbs_neg]; exact Nat.le_trans hb yv⟩ (ih i)
   rw [Rat.intCast_neg, ← ha] at this
   rw [e]
   have e2 : -x (n - (j + 1)) * co (nwL x c n j) i * ((((D * 12 ^ j : Nat) : Int) : Rat) * 12) = -(x (n - (j + 1)) * 12) * (co (nwL x c n j) i * (((D * 12 ^ j : Nat) : Int) : Rat)) := by grind
   rw [e2]; exact this.more xq
  have w2 : Wh (sh (co (nwL x c n j)) i * (((D * 12 ^ (j + 1) : Nat) : Int) : Rat)) (M + 8 * j + 6) := by
   unfold sh
   split
   ·rw [Rat.zero_mul]; exact Wh.zero _
   have : Wh (((12 : Int) : Rat) * (co (nwL x c n j) (i - 1) * (((D * 12 ^ j : Nat) : Int) : Rat))) (6 + (M + 8 * j)) := Wh.mul ⟨12, rfl, by decide⟩ (ih (i - 1))
   rw [e]
   have e2 : co (nwL x c n j) (i - 1) * ((((D * 12 ^ j : Nat) : Int) : Rat) * 12) = ((12 : Int) : Rat) * (co (nwL x c n j) (i - 1) * (((D * 12 ^ j : Nat) : Int) : Rat)) := by rw [show ((12 : Int) : Rat) = 12 from rfl]; grind
   rw [e2]; exact this.more xq
  have w3 : Wh (co [c (n - (j + 1))] i * (((D * 12 ^ (j + 1) : Nat) : Int) : Rat)) (M + 8 * j + 7) := by
   match i with
   | 0 =>
    show Wh (c (n - (j + 1)) * _) _
    have h12 : (12 : Nat) ^ (j + 1) ≤ 2 ^ (4 * (j + 1)) := by rw [Nat.pow_mul]; exact Nat.pow_le_pow_left xq _
    have : Wh ((c (n - (j + 1)) * ((D : Int) : Rat)) * (((12 ^ (j + 1) : Nat) : Int) : Rat)) (M + 4 * (j + 1)) := Wh.mul hcj ⟨((12 ^ (j + 1) : Nat) : Int), rfl, by rw [Int.natAbs_natCast]; exact h12⟩
    rw [Int.natCast_mul D, Rat.intCast_mul, ← Rat.mul_assoc]
    exact this.more xq
   | k + 1 =>
    show Wh (co [] k * _) _
    rw [co_nil, Rat.zero_mul]; exact Wh.zero _
  rw [Rat.add_mul, Rat.add_mul]
  exact ((w1.add w2).add w3).more xq
def xs (V : List Rat) (l : List Nat) (i : Nat) : Rat := gX V (l.getD i 0)
def ys (V : List Rat) (l : List Nat) (i : Nat) : Rat := gY V (l.getD i 0)
def ws (V : List Rat) (l : List Nat) (i : Nat) : Rat := gW V (l.getD i 0)
def sgw (V : List Rat) (l : List Nat) (i : Nat) : Rat := sg1 i / ws V l i
def eL (V : List Rat) (l : List Nat) : Rat := rE (gX V) (gW V) (gY V) l
def cL (V : List Rat) (l : List Nat) (i : Nat) : Rat := dT (xs V l) (ys V l) (l.length - 1) i - eL V l * dT (xs V l) (sgw V l) (l.length - 1) i
def pL (V : List Rat) (l : List Nat) : List Rat := nwL (xs V l) (cL V l) (l.length - 1) (l.length - 1)
section
variable {V : List Rat} {N n : Nat} {l : List Nat}
theorem GrOK.xB (h : GrOK V N) {a b : Nat} (ha : a < N) (hb : b < N) : Bt (gX V a - gX V b) 6 := by
 obtain ⟨z, e, h1, h2⟩ := h.x a ha
 obtain ⟨y, f, k1, k2⟩ := h.x b hb
 refine Bt.ofWh (D := 12) xq ⟨z - y, ?_, ?_⟩ yv
 ·rw [Rat.intCast_sub, ← e, ← f, show (((12 : Nat) : Int) : Rat) = 12 from rfl]; grind
 show _ ≤ 64; omega
theorem GrOK.yB (h : GrOK V N) {a : Nat} (ha : a < N) : Bt (gY V a) 14 := Bt.ofWh xq (h.y a ha) yv
theorem GrOK.wne (h : GrOK V N) {a : Nat} (ha : a < N) : gW V a ≠ 0 := by have := h.gr.pos a ha; grind
theorem GrOK.wB (h : GrOK V N) {a : Nat} (ha : a < N) (i : Nat) : Bt (sg1 i / gW V a) 14 := by
 obtain ⟨p, q, e, h1, h2, h3, h4⟩ := h.w a ha
 have hw : Bt (gW V a) 3 := by
  refine ⟨(p : Int), q, by omega, by show _ ≤ 8; omega, by show _ ≤ 8; omega, ?_⟩
  rw [← mk_div, ← show ((p : Nat) : Rat) = ((p : Int) : Rat) from rfl, ← e]
  have : ((q : Int) : Rat) ≠ 0 := dz xq
  have e2 : ((q : Nat) : Rat) = ((q : Int) : Rat) := rfl
  rw [e2]; grind
 have hs : Bt (sg1 i) 3 := by
  unfold sg1
  split
  ·exact ⟨1, 1, by omega, by decide, by decide, rfl⟩
  exact ⟨-1, 1, by omega, by decide, by decide, by decide +kernel⟩
 exact (hs.div hw).more xq
theorem Rf.n11 (h : Rf N l n) (hN : N ≤ 12) : n ≤ 11 := by
 have : ∀ i, i ≤ n → i ≤ l.getD i 0 := fun i => by
  induction i with
  | zero => intro _; omega
  | succ i ih => intro hi; have := ih xq; have := h.asc i (i + 1) xq hi; omega
 have := this n qyl; have := h.lt n qyl; omega
theorem eL_n (h : Rf N l n) : eL V l = lvE (xs V l) (ws V l) (ys V l) n := by
 unfold eL rE; rw [h.len, Nat.add_sub_cancel]; rfl
theorem lvl_c (g : GrOK V N) (h : Rf N l n) {i : Nat} (hi : i < n) : Bt (cL V l i) 172005 := by
 have hn := h.n11 g.n12
 have hb : bZ n ≤ 43001 := Nat.le_trans (bZ_le n 11 hn) yv
 have hx : ∀ i j, i ≤ n → j ≤ n → Bt (xs V l i - xs V l j) 6 := fun i j hi hj => g.xB (h.lt i hi) (h.lt j hj)
 have hy : ∀ i, i ≤ n → Bt (ys V l i) 14 := fun i hi => g.yB (h.lt i hi)
 have hs : ∀ i, i ≤ n → Bt (sgw V l i) 14 := fun i hi => g.wB (h.lt i hi) i
 have d1 := dd_Bt hx hy i 0 xq
 have d2 := dd_Bt hx hs i 0 xq
 have d3 := dd_Bt hx hy n 0 xq
 have d4 := dd_Bt hx hs n 0 xq
 have hbi := bZ_le i n xq
 have e : eL V l = dd (xs V l) (ys V l) n 0 / dd (xs V l) (sgw V l) n 0 := by rw [eL_n h]; rfl
 unfold cL
 rw [h.len, Nat.add_sub_cancel, dT_end xq, dT_end xq, e]
 exact (d1.sub ((d3.div d4).mul d2)).more xq
theorem eL_B (g : GrOK V N) (h : Rf N l n) : Nt.rs (eL V l) ≤ 2700 := by
 have hn := h.n11 g.n12
 have hb : bZ n ≤ 43001 := Nat.le_trans (bZ_le n 11 hn) yv
 have hx : ∀ i j, i ≤ n → j ≤ n → Bt (xs V l i - xs V l j) 6 := fun i j hi hj => g.xB (h.lt i hi) (h.lt j hj)
 have hy : ∀ i, i ≤ n → Bt (ys V l i) 14 := fun i hi => g.yB (h.lt i hi)
 have hs : ∀ i, i ≤ n → Bt (sgw V l i) 14 := fun i hi => g.wB (h.lt i hi) i
 have d3 := dd_Bt hx hy n 0 xq
 have d4 := dd_Bt hx hs n 0 xq
 have e : eL V l = dd (xs V l) (ys V l) n 0 / dd (xs V l) (sgw V l) n 0 := by rw [eL_n h]; rfl
 rw [e]
 exact Nat.le_trans (((d3.div d4).more (show _ ≤ 86002 by omega)).rs) yv
theorem lvl_rs (g : GrOK V N) (h : Rf N l n) {j : Nat} (hj : j ≤ n) (i : Nat) : Nt.rs (co (nwL (xs V l) (cL V l) n j) i) ≤ 60000 := by
 have hn := h.n11 g.n12
 obtain ⟨D, h1, h2, h3⟩ := bt_common n (fun i hi => lvl_c g h hi)
 have hw := nwL_Wh (x := xs V l) (c := cL V l) (n := n) (D := D) (M := 172005 * n) (fun i hi => by
  obtain ⟨z, e, k1, k2⟩ := g.x _ (h.lt i xq)
  exact ⟨z, e, by omega⟩) h3 j hj i
 have h12 : (12 : Nat) ^ j ≤ 2 ^ (4 * j) := by rw [Nat.pow_mul]; exact Nat.pow_le_pow_left xq _
 have hD : D * 12 ^ j ≤ 2 ^ (172005 * n + 8 * j) := by
  refine Nat.le_trans (Nat.mul_le_mul h2 h12) ?_
  rw [← Nat.pow_add]; exact Nat.pow_le_pow_right xq xq
 refine Nat.le_trans (wh_rs (Nat.mul_pos h1 (Nat.pow_pos xq)) hw hD) ?_
 unfold dg; omega
theorem lvl_len (h : Rf N l n) : (pL V l).length ≤ n := by unfold pL; rw [h.len, Nat.add_sub_cancel]; exact nwL_len n
theorem lvl_pL (h : Rf N l n) : pL V l = nwL (xs V l) (cL V l) n n := by unfold pL; rw [h.len, Nat.add_sub_cancel]
theorem lvl_at (g : GrOK V N) (h : Rf N l n) (h1 : 1 ≤ n) {m : Nat} (hm : m ≤ n) : gE (gX V) (gW V) (gY V) (pL V l) (l.getD m 0) = sg1 m * eL V l := by
 have hx := h.ascX g.gr
 have hw : ∀ i, i ≤ n → 0 < ws V l i := fun i hi => g.gr.pos _ (h.lt i hi)
 have := lvl_ok (x := xs V l) (w := ws V l) (y := ys V l) (c := cL V l) hx hw h1 (fun i hi => by
  unfold cL
  rw [h.len, Nat.add_sub_cancel, dT_end xq, dT_end xq, eL_n h]; rfl) hm
 rw [eL_n h, lvl_pL h]
 exact this
def sZ : Nat → Nat
 | 0 => 3
 | o + 1 => 2 * sZ o + 4
theorem sZ_le : ∀ o n, o ≤ n → sZ o ≤ sZ n := fun o n h => by
 induction n with
 | zero => rw [show o = 0 by omega]; exact Nat.le_refl _
 | succ n ih =>
  by_cases e : o = n + 1
  ·rw [e]; exact Nat.le_refl _
  have := ih xq
  show _ ≤ 2 * sZ n + 4
  omega
theorem sZ_bd {o : Nat} (h : o ≤ 11) : sZ o ≤ 14332 := Nat.le_trans (sZ_le o 11 h) yv
def fM (x y : Nat → Rat) (o i j : Nat) : Rat := if i < j then dT x y (o + 1) j else dT x y o j
def kM (o i j : Nat) : Nat := if i < j then sZ (o + 1) else sZ o
theorem GrOK.gap (g : GrOK V N) (h : Rf N l n) {i j : Nat} (hij : i < j) (hj : j ≤ n) : gX V (l.getD j 0) - gX V (l.getD i 0) ≠ 0 := by
 have := h.ascX g.gr i j hij hj
 have h9 : gX V (l.getD i 0) < gX V (l.getD j 0) := this
 grind
theorem GrOK.lvne (g : GrOK V N) (h : Rf N l n) : dT (xs V l) (sgw V l) n n ≠ 0 := by
 rw [dT_end (Nat.le_refl n)]
 exact lvS_ne (h.ascX g.gr) (fun i hi => g.gr.pos _ (h.lt i hi))
theorem lvl_e (h : Rf N l n) : dT (xs V l) (ys V l) n n / dT (xs V l) (sgw V l) n n = eL V l := by
 rw [dT_end (Nat.le_refl n), dT_end (Nat.le_refl n), eL_n h]; rfl
end
end Nt
section
variable {u u' : World} {L : List RL} {r : RL} {q : Rat} {m m' i k : Nat} {f f' : Nat → Rat} {K K' : Nat → Nat}
def RatG (u : World) (L : List RL) (f : Nat → Rat) (K : Nat → Nat) (m : Nat) : Prop := ∀ j, j < m → RatN u (L.getD j rl0) (f j) (K j)
theorem RatG.ext (h : RatG u L f K m) (e : Ext u u') : RatG u' L f K m := fun j hj => (h j hj).ext e
theorem RatG.nil : RatG u L f K 0 := fun j hj => absurd hj (Nat.not_lt_zero j)
theorem RatG.set (h : RatG u L f K m) (hi : i < L.length) (hr : RatN u r q k) (hn : ∀ j, j < m' → (j = i ∧ f' j = q ∧ k ≤ K' j) ∨ (j ≠ i ∧ j < m ∧ f' j = f j ∧ K j ≤ K' j)) : RatG u (L.set i r) f' K' m' := fun j hj => by
 rcases hn j hj with ⟨h1, h2, h3⟩ | ⟨h1, h2, h3, h4⟩
 ·subst h1
  rw [h2, qyg, List.getElem?_set_self hi]; exact hr.more h3
 rw [h3, qyg, List.getElem?_set_ne (Ne.symm h1), ← qyg]; exact (h j h2).more h4
theorem RatG.turn (h : RatG u L f K m) (e : ∀ j, j < m → f' j = f j ∧ K j ≤ K' j) : RatG u L f' K' m := fun j hj => by rw [(e j hj).1]; exact (h j hj).more (e j hj).2
end
end Go.Proofs.YtgmkhhfbckjaeaaGreat
