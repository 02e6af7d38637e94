/- ExchangeLevels. Printed by wip/sym/g_xv.py. -/
import Derived.Test.YtgmkhhfbckjaeaaGreatXleM
set_option linter.unusedVariables false
namespace Go.Proofs.YtgmkhhfbckjaeaaGreat
open Nt
open Go.RowKit
theorem wrapQ_ex (n : Int) : ∃ z, IntKind.i64.wrap n = z ∧ -9223372036854775808 ≤ z ∧ z ≤ 9223372036854775807 := ⟨_, rfl, by rw [IntKind.wrap_i64]; omega⟩
theorem two_lists {u u' : World} {b j : Nat} {ty : TypeId} {s1 s2 : Sl} {L1 L2 : List Int} (h : u.heap[b]? = some (.cells (List.toArray [s1.v, s2.v]) ty (0, 0))) (e : Ext u u') (h1 : SlR .i64 u' s1.a s1.n s1.c L1) (b1 : ∀ z ∈ L1, -9223372036854775808 ≤ z ∧ z ≤ 9223372036854775807) (h2 : SlR .i64 u' s2.a s2.n s2.c L2) (b2 : ∀ z ∈ L2, -9223372036854775808 ≤ z ∧ z ≤ 9223372036854775807) (hj : j < 2) : ∃ (z : Sl) (L : List Int), u'.cell? ⟨b, 0 + j * 1, none⟩ = some z.v ∧ SlR .i64 u' z.a z.n z.c L ∧ ∀ z ∈ L, -9223372036854775808 ≤ z ∧ z ≤ 9223372036854775807 := by
 have h' := e.cells h
 match j, hj with
 | 0, _ => exact ⟨s1, L1, by unfold World.cell?; rw [h']; rfl, h1, b1⟩
 | 1, _ => exact ⟨s2, L2, by unfold World.cell?; rw [h']; rfl, h2, b2⟩
theorem k_r15LevelE {u w : World} {x : Sl} {N : Nat} {V : List Rat} (d : Dat u w) (hg : GrN u x N V 1) (ho : Nt.GrOK V N) {z : Sl} {L : List Int} (hz : SlR .i64 u z.a z.n z.c L) (hb : ∀ x ∈ L, -9223372036854775808 ≤ x ∧ x ≤ 9223372036854775807) (hbad : L.length < 2 ∨ 52 < L.length ∨ ¬ Nt.Up (N : Int) L) : qyc 36 #[x.v, z.v] w (Post u w fun v _ => v = .tuple #[qyn, .agg #[.bool false, qyn, qyn], .int .i64 1]) := by
 have hxn : x.n = N := hg.len
 have hN12 := ho.n12
 have hN1 := ho.n1
 have hzn : L.length = z.n := hz.1
 have hzm : z.n ≤ maxLen := Nat.le_trans hz.2.1 hz.2.2.1
 unfold maxLen at hzm
 refine zzm (args := [x.v, z.v]) Tryz.func36 rfl Tryz.ntmps36 (rs := [.tmp 4, .cell 5 32, .tmp 6]) Tryz.results36 (le_b rfl) (le_b rfl) d ?_
 refine sq9 (zza 4 (.v (qyn)) (zzk 5 ⟨32, zw3⟩ (zza 6 (zI 0) (zzb (zzd (zzt (sq9 (zza 17 (.v (x.v)) (zzg 18 69 _ fun _ _ ae ai => qym (k_r14Valid ai (hg.ext ae) ho) ?_)))))))))
 rintro _ u12 ag rfl
 refine zza 19 (zB false) (zza 16 (zB false) (zzb (zys xj (sq9 (zza 22 (.v (z.v)) (zza 23 (zI z.n) (zza 24 (zB (decide ((z.n : Int) < 2))) ?_)))))))
 rcases Bool.eq_false_or_eq_true (decide ((z.n : Int) < 2)) with hs15 | hs15
 ·refine zyq 25 (x := zB (decide ((z.n : Int) < 2))) (zB true) (by rw [hs15]) ?_
  have qhs15 := qyt hs15
  refine zzn 26 (uw 3 false true 25) (zzn 27 (uw 3 false true 25) (zzn 28 (uw 3 false true 25) (zza 29 (zB true) (zza 30 (zB true) (zzn 31 (uw 8 false true 30) (zzn 32 (uw 8 false true 30) (zzn 33 (uw 8 false true 30) (zzn 34 (uw 8 false true 30) (zzn 35 (uw 8 false true 30) (zza 36 (zB true) (zza 21 (zB true) ?_)))))))))))
  refine zzb (zyr xj (sq9 (zza 37 (.v (.agg #[.bool false, qyn, qyn])) (zza 4 (.v (qyn)) (zzj ⟨32, zw3⟩ ty32 ?_)))))
  refine zza 6 (zI 1) (zzb (zzo (zyu (zzw (ret0 [qyn, .agg #[.bool false, qyn, qyn], .int .i64 1] ⟨zzq, zzr ty32 zze, zzq, trivial⟩ fun u16 e17 => ?_)))))
  rfl
 refine zyq 25 (x := zB (decide ((z.n : Int) < 2))) (zB false) (by rw [hs15]) ?_
 have qhs15 := qyf hs15
 refine zza 26 (.v (z.v)) ?_ (hw := w1 3 false 25)
 refine zza 27 (zI z.n) ?_ (hw := w1 3 false 25)
 refine zza 28 (zB (decide ((52 : Int) < (z.n : Int)))) ?_ (hw := w1 3 false 25)
 refine zza 29 (zB (decide ((52 : Int) < (z.n : Int)))) ?_
 rcases Bool.eq_false_or_eq_true (decide ((52 : Int) < (z.n : Int))) with hs18 | hs18
 ·refine zyq 30 (x := zB (decide ((52 : Int) < (z.n : Int)))) (zB true) (by rw [hs18]) ?_
  have qhs18 := qyt hs18
  refine zzn 31 (uw 8 false true 30) (zzn 32 (uw 8 false true 30) (zzn 33 (uw 8 false true 30) (zzn 34 (uw 8 false true 30) (zzn 35 (uw 8 false true 30) (zza 36 (zB true) (zza 21 (zB true) (zzb (zyr xj (sq9 (zza 37 (.v (.agg #[.bool false, qyn, qyn])) (zza 4 (.v (qyn)) ?_)))))))))))
  refine zzj ⟨32, zw3⟩ ty32 ?_
  refine zza 6 (zI 1) (zzb (zzo (zyu (zzw (ret0 [qyn, .agg #[.bool false, qyn, qyn], .int .i64 1] ⟨zzq, zzr ty32 zze, zzq, trivial⟩ fun u19 e20 => ?_)))))
  rfl
 refine zyq 30 (x := zB (decide ((52 : Int) < (z.n : Int)))) (zB false) (by rw [hs18]) ?_
 have qhs18 := qyf hs18
 refine zza 31 (.v (z.v)) ?_ (hw := w1 8 false 30)
 refine zza 32 (.v (x.v)) ?_ (hw := w1 8 false 30)
 refine zza 33 (zI x.n) ?_ (hw := w1 8 false 30)
 refine zzg 34 87 _ (fun _ _ af ah => qym (k_ascends (z := z) (N := (x.n : Int)) ah (hz.ext (ae.t (ag.t af))) hb) ?_) (hw := w1 8 false 30)
 rintro _ u24 g25 ⟨aa, rfl, ac⟩
 refine zza 35 (zB (!aa)) ?_ (hw := w1 8 false 30)
 refine zza 36 (zB (!aa)) (zza 21 (zB (!aa)) (zzb (zzu (b := !aa) xj (fun ad => ?_) (fun ad => ?_))))
 ·refine sq9 (zza 37 (.v (.agg #[.bool false, qyn, qyn])) (zza 4 (.v (qyn)) (zzj ⟨32, zw3⟩ ty32 ?_)))
  refine zza 6 (zI 1) (zzb (zzo (zyu (zzw (ret0 [qyn, .agg #[.bool false, qyn, qyn], .int .i64 1] ⟨zzq, zzr ty32 zze, zzq, trivial⟩ fun u28 e29 => ?_)))))
  rfl
 refine zzs (zzp ?_)
 refine zzd ?_
 have hU : Nt.Up (N : Int) L := by rw [hxn] at ac; exact ac.1 (by simpa using ad)
 try have qhs15 := qyf hs15
 try have qhs18 := qyf hs18
 rcases hbad with h9 | h9 | h9
 ·omega
 ·omega
 exact absurd hU h9
set_option maxHeartbeats 8000000 in
theorem w_exLevels {u w : World} {x1 x2 x3 x4 : Sl} {l m n : List Int} {p : List Rat} {K : Nat} (d : Dat u w) (hx1 : SlR .i64 u x1.a x1.n x1.c l) (hx1b : ∀ z ∈ l, -9223372036854775808 ≤ z ∧ z ≤ 9223372036854775807) (hp : PolV u x2 p K) (hx3 : SlR .i64 u x3.a x3.n x3.c m) (hx3b : ∀ z ∈ m, -9223372036854775808 ≤ z ∧ z ≤ 9223372036854775807) (hx4 : SlR .i64 u x4.a x4.n x4.c n) (hx4b : ∀ z ∈ n, -9223372036854775808 ≤ z ∧ z ≤ 9223372036854775807) : qyc 6 #[x1.v, x2.v, x3.v, x4.v] w (Post u w fun v _ => v = .bool true) := by
 have hpl := hp.len
 have bG : x4.n ≤ maxLen := Nat.le_trans hx4.2.1 hx4.2.2.1
 unfold maxLen at bG
 refine zzm (args := [x1.v, x2.v, x3.v, x4.v]) Tryz.func6 rfl Tryz.ntmps6 (rs := [.tmp 8]) Tryz.results6 (le_b rfl) (le_b rfl) d ?_
 refine sq9 (zza 8 (zB false) (zzb (zzd (sq9 (zza 28 (.v (x2.v)) (zzg 29 19 _ fun _ _ aA bA => qym (k_smallPoly bA (hp.ext aA)) ?_))))))
 rintro _ u13 ap (⟨rfl, bl, aD⟩ | rfl)
 ·skip
  refine zza 30 (zB false) (zza 31 (zB false) (zza 32 (.v (x3.v)) ?_ (hw := w1 3 false 31)))
  refine zza 33 (zI x3.n) ?_ (hw := w1 3 false 31)
  refine zza 34 (zB (decide ((60 : Int) < (x3.n : Int)))) ?_ (hw := w1 3 false 31)
  refine zza 35 (zB (decide ((60 : Int) < (x3.n : Int)))) (zzb (zzu (b := decide ((60 : Int) < (x3.n : Int))) xj (fun aw => ?_) (fun aw => ?_)))
  ·have qhb16 := qyt aw
   refine sq9 (zzg 36 18 _ fun _ _ _ bD => qym (k_awake15 bD) ?_)
   rintro _ u18 g19 rfl
   refine zza 8 (zB true) (zzb (zzo (zzw (ret0 [.bool true] ⟨zzq, trivial⟩ fun u21 e22 => ?_))))
   rfl
  have qhb16 := qyf aw
  refine zzs (zzp ?_)
  refine sq9 (zza 37 (.v (x1.v)) (zzg 38 11 _ fun _ _ av bw => qym (k_grid bw (hx1.ext (aA.t (ap.t av))) hx1b) ?_))
  rintro _ u25 az ⟨ad, N24, aa, rfl, af, ac⟩
  have a8 : ad.n = N24 := GrN.len af
  have hlnN24 := ac.n12
  have hlmN24 := ac.n1
  refine zza 9 (.v (ad.v)) (zzb (sq9 (zza 40 (.v (ad.v)) (zza 41 (.v (x2.v)) (zzg 42 34 _ fun _ _ ag bz => qym (k_exError (M := 10000) bz (af.ext ag) ac (aD.ext (ap.t (av.t (az.t ag)))) xq xq yv) ?_)))))
  rintro _ u30 aj ⟨aI, ae, rfl, aN, aE⟩
  have hgl29 := Nt.Gst.lt aE
  refine zza 39 (.v (.tuple #[aI.v, .int .i64 ae, .int .i64 0])) (zza 43 (.v (aI.v)) (zza 44 (zI ae) (zza 45 (zI 0) (zzk 10 ⟨32, zw3⟩ (zzj ⟨32, aI.cs⟩ ty32 ?_)))))
  refine zza 11 (zI ae) (zza 12 (zI 0) (zzb (sq9 (zza 47 (.v (ad.v)) (zza 48 (.v (x2.v)) (zzg 49 35 _ fun _ _ ah bJ => qym (k_r15Error (T := 10000) bJ (af.ext (ag.t (aj.t ah))) ac (aD.ext (ap.t (av.t (az.t (ag.t (aj.t ah)))))) xq xq xq xq) ?_))))))
  rintro _ u35 an ⟨aC, a34, rfl, aW, aH⟩
  have hgl34 := Nt.Gst.lt aH
  refine zza 46 (.v (.tuple #[aC.v, .int .i64 a34, .int .i64 0])) (zza 50 (.v (aC.v)) (zza 51 (zI a34) (zza 52 (zI 0) (zzk 13 ⟨32, zw3⟩ (zzj ⟨32, aC.cs⟩ ty32 ?_)))))
  refine zza 14 (zI a34) (zza 15 (zI 0) (zzc 131 [(2, .v (x3.v)), (3, .v (x4.v)), (9, .v (ad.v)), (10, .adr 10 0), (11, zI ae), (12, zI 0), (13, .adr 13 0), (14, zI a34), (15, zI 0)] [(10, ⟨32, aI.cs⟩), (13, ⟨32, aC.cs⟩)] (zzd (zzd ?_))))
  have hab : ae = a34 := Nt.Gst.uniq aE aH (fun _ _ => rfl)
  refine zzf (zza 53 (zI 0) (zza 54 (zI 0) (zza 55 (zB false) (zza 56 (zB false) (zza 57 (zI ae) ?_ (hw := w1 3 false 56))))))
  refine zza 58 (zI a34) ?_ (hw := w1 3 false 56)
  refine zza 59 (zB ((ae : Int) != (a34 : Int))) ?_ (hw := w1 3 false 56)
  refine zza 60 (zB ((ae : Int) != (a34 : Int))) (zyq 61 (x := zB ((ae : Int) != (a34 : Int))) (zB false) (by rw [show ((ae : Int) != (a34 : Int)) = false from (by rw [hab]; exact bne_self_eq_false _)]) (zzi 62 (.v (aI.v)) ty32 zze ?_ (hw := w1 8 false 61)))
  refine zzi 63 (.v (aC.v)) ty32 zze ?_ (hw := w1 8 false 61)
  refine zzg 64 16 _ (fun _ _ ak bm => qym (k_rqSame bm (aN.ext (ah.t (an.t ak))) (aW.ext ak)) ?_) (hw := w1 8 false 61)
  rintro _ aU ay rfl
  refine zza 65 (zB (!(decide ((Nt.absQ (Nt.gE (Nt.gX aa) (Nt.gW aa) (Nt.gY aa) p ae)) = (Nt.absQ (Nt.gE (Nt.gX aa) (Nt.gW aa) (Nt.gY aa) p a34)))))) ?_ (hw := w1 8 false 61)
  refine zza 66 (zB (!(decide ((Nt.absQ (Nt.gE (Nt.gX aa) (Nt.gW aa) (Nt.gY aa) p ae)) = (Nt.absQ (Nt.gE (Nt.gX aa) (Nt.gW aa) (Nt.gY aa) p a34)))))) (zzb (zzu (b := !(decide ((Nt.absQ (Nt.gE (Nt.gX aa) (Nt.gW aa) (Nt.gY aa) p ae)) = (Nt.absQ (Nt.gE (Nt.gX aa) (Nt.gW aa) (Nt.gY aa) p a34))))) xj (fun hb => ?_) (fun hb => ?_)))
  ·exact absurd hb (by rw [show (!(decide ((Nt.absQ (Nt.gE (Nt.gX aa) (Nt.gW aa) (Nt.gY aa) p ae)) = (Nt.absQ (Nt.gE (Nt.gX aa) (Nt.gW aa) (Nt.gY aa) p a34))))) = false from (by rw [(decide_eq_true (by rw [hab]))]; rfl)]; decide)
  clear hb
  refine zzs (zzp ?_)
  refine sq9 (zza 16 (.v (qyn)) (zzb (sq9 (zza 17 (zI (-1)) (zzb (zzd (sq9 (zza 67 (.v (x4.v)) (zza 68 (zI x4.n) (zza 69 (zI 0) (zzb ?_)))))))))))
  refine zzt (zyn (I := fun a2 S' u' => ∃ (i : Nat) (qa : Int) (yu : Sl) (U : List Int), (a2 = x4.n - i) ∧ (i ≤ x4.n) ∧ (-9223372036854775808 ≤ qa) ∧ (qa ≤ 9223372036854775807) ∧ (U.length ≤ 6) ∧ (∀ x ∈ U, -9223372036854775808 ≤ x ∧ x ≤ 9223372036854775807) ∧ (S' = St.of 131 [(2, .v (x3.v)), (9, .v (ad.v)), (16, .v (yu.v)), (17, zI qa), (67, .v (x4.v)), (68, zI x4.n), (69, zI i)] []) ∧ (Ext aU u') ∧ (MutQ 1 3 aU.heap.size u' yu (ics U))) (fun m S u1 u2 e h => by obtain ⟨i, qa, yu, U, hm, p0, p1, p2, p3, p4, hS, hE, f0⟩ := h; exact ⟨i, qa, yu, U, hm, p0, p1, p2, p3, p4, hS, hE.trans e, f0.ext e⟩) _ yz ⟨0, (-1), sl0, [], rfl, by omega, by omega, by omega, by simp, (fun x hx => absurd hx List.not_mem_nil), rfl, (Ext.refl _), (MutQ.nil _ _ _ _)⟩ ?_)
  rintro a2 _ u43 ⟨i, qa, yu, U, bh, hi, hq0, hq1, a6, hbU, rfl, ai, f0⟩
  have hUn : U.length = yu.n := by have h9 := f0.1; rw [zwi] at h9; omega
  refine sq9 (zza 70 (zB (decide ((i : Int) < (x4.n : Int)))) (zzb (zzd (zzu (b := decide ((i : Int) < (x4.n : Int))) xj (fun ax => ?_) (fun ax => ?_)))))
  ·have qhb44 := qyt ax
   refine zzs (zzp ?_)
   refine zzd (zzt (sq9 ?_))
   have hl45 := ((hx4.ext (aA.t (ap.t (av.t (az.t (ag.t (aj.t (ah.t (an.t (ak.t (ay.t ai)))))))))))).1
   obtain ⟨b45, a5, aV, aZ⟩ := ints_at (hx4.ext (aA.t (ap.t (av.t (az.t (ag.t (aj.t (ah.t (an.t (ak.t (ay.t ai))))))))))) (i := i) xq
   have hz45 := ints_bd hx4b xq i
   refine zya 71 (a5 + i * 1) (n := x4.n) (off := a5) (sz := 1) (i := (i : Int)) xq aV xq xq sl22 (zyl 72 (.int .i64 (n.getD i 0)) aZ ty3 (zza 19 (zI (n.getD i 0)) (zzb (sq9 (zza 73 (zI qa) (zza 74 (zI (n.getD i 0)) (zzg 75 12 _ fun _ _ au bb => qym (k_Mod bb (n := (n.getD i 0)) (m := 3) xq xq xq xq) ?_)))))))
   rintro _ u47 ao rfl
   refine zyq 76 (x := zI (IntKind.i64.wrap ((1 : Int) + ((n.getD i 0) % 3)))) (zI ((1 : Int) + ((n.getD i 0) % 3))) (by rw [IntWalk.i64_in _ xq]) ?_
   obtain ⟨qb, hqb, bE, br⟩ := wrapQ_ex (qa + ((1 : Int) + ((n.getD i 0) % 3)))
   refine zyq 77 (x := zI (IntKind.i64.wrap (qa + ((1 : Int) + ((n.getD i 0) % 3))))) (zI qb) (by rw [hqb]) (zza 17 (zI qb) (zzb (sq9 (zza 78 (zI qb) (zza 79 (.v (ad.v)) (zza 80 (zI ad.n) (zza 81 (zB (decide (qb < (ad.n : Int)))) ?_)))))))
   rcases Bool.eq_false_or_eq_true (decide (qb < (ad.n : Int))) with hs50 | hs50
   ·refine zyq 82 (x := zB (decide (qb < (ad.n : Int)))) (zB true) (by rw [hs50]) ?_
    have qhs50 := qyt hs50
    refine zza 83 (.v (yu.v)) ?_ (hw := w1 4 true 82)
    refine zza 84 (zI yu.n) ?_ (hw := w1 4 true 82)
    refine zza 85 (zB (decide ((yu.n : Int) < 6))) ?_ (hw := w1 4 true 82)
    refine zza 86 (zB (decide ((yu.n : Int) < 6))) (zzc 131 [(2, .v (x3.v)), (9, .v (ad.v)), (16, .v (yu.v)), (17, zI qb), (67, .v (x4.v)), (68, zI x4.n), (69, zI i), (86, zB (decide ((yu.n : Int) < 6)))] [] (zzu (b := decide ((yu.n : Int) < 6)) xj (fun ar => ?_) (fun ar => ?_)))
    ·have qhb51 := qyt ar
     refine zzf (zza 87 (.v (yu.v)) (zza 88 (zI qb) (sy_dataF 89 ⟨3, [.int .i64 qb]⟩ 1 (fun a4 bH a0 bu bc g52 => ?_))))
     have aL : MutQ 1 3 u.heap.size bH (⟨some ⟨a4, 0, none⟩, 1, 1⟩ : Sl) (ics [qb]) := MutQ.lit bu rfl yk bc nu_ics
     have hj52 := slr_cells (MutQ.slr aL)
     have hx53 := (f0.ext (au.t (ao.t a0)))
     refine sy_appQ 90 (T := 22) (E := 3) (z := .int .i64 0) (size := 1) (bytes := 8) (b2 := a4) (off := 0) (m := 1) (c := 1) yu (ics U) (ics [qb]) (MutQ.low hx53 (Ext.size (aA.t (ap.t (av.t (az.t (ag.t (aj.t (ah.t (an.t (ak.t ay.ext))))))))))) xj xj xj yv rfl (ics_news (fun j hj => ((Ext.refl _)).cell (hj52 j hj))) ics_one xq (by unfold maxLen; show yu.n + 1 ≤ _; omega) (by show (yu.n + 1) * 8 ≤ _; omega) nu_ics (nu_ics (l := [0])) (fun a1 bp hm53 be aM aS => ?_)
     replace hm53 := MutQ.up (v := u) hm53 hx53 aS (Ext.size (ai.t (au.t (ao.t a0))))
     have eR53 := ExtX.root aM (MutQ.mutL hx53) (ai.t (au.t (ao.t a0)))
     have aT : MutQ 1 3 aU.heap.size bp a1 (ics (U ++ [qb])) := by have h9 := hm53; rw [← ics_app] at h9; exact h9
     refine zza 16 (.v (a1.v)) (zzx ?_)
     refine zzp (zzf (zyq 91 (x := zI (IntKind.i64.wrap ((i : Int) + 1))) (zI (i + 1 : Nat)) (eqI xk) (zza 69 (zI (i + 1 : Nat)) (zzx ?_))))
     refine ⟨_, ?_, _, by exact zzv _ _ _, i + 1, qb, a1, (U ++ [qb]), rfl, by omega, by omega, by omega, (by rw [List.length_append]; show U.length + 1 ≤ 6; omega), (fun x hx => by rcases List.mem_append.1 hx with h9 | h9; exact hbU x h9; (rw [List.mem_singleton.1 h9]; omega)), rfl, eR53, aT⟩
     omega
    have qhb51 := qyf ar
    refine zzs (zzp ?_)
    refine zzf (zyq 91 (x := zI (IntKind.i64.wrap ((i : Int) + 1))) (zI (i + 1 : Nat)) (eqI xk) (zza 69 (zI (i + 1 : Nat)) (zzx ?_)))
    refine ⟨_, ?_, _, by exact zzv _ _ _, i + 1, qb, yu, U, rfl, by omega, by omega, by omega, a6, hbU, rfl, (ai.t (au.t ao.ext)), (f0.ext (au.t ao.ext))⟩
    omega
   refine zyq 82 (x := zB (decide (qb < (ad.n : Int)))) (zB false) (by rw [hs50]) ?_
   have qhs50 := qyf hs50
   refine zzn 83 (uw 4 true false 82) (zzn 84 (uw 4 true false 82) (zzn 85 (uw 4 true false 82) (zza 86 (zB false) (zzc 131 [(2, .v (x3.v)), (9, .v (ad.v)), (16, .v (yu.v)), (17, zI qb), (67, .v (x4.v)), (68, zI x4.n), (69, zI i), (86, zB false)] [] (zys xj (zzs (zzp ?_)))))))
   refine zzf (zyq 91 (x := zI (IntKind.i64.wrap ((i : Int) + 1))) (zI (i + 1 : Nat)) (eqI xk) (zza 69 (zI (i + 1 : Nat)) (zzx ?_)))
   refine ⟨_, ?_, _, by exact zzv _ _ _, i + 1, qb, yu, U, rfl, by omega, by omega, by omega, a6, hbU, rfl, (ai.t (au.t ao.ext)), (f0.ext (au.t ao.ext))⟩
   omega
  have qhb44 := qyf ax
  refine zyc (zzp (zzd (sq9 (zza 92 (.v (x3.v)) (zza 93 (.v (yu.v)) (sy_dataF 94 ⟨22, [x3.v, yu.v]⟩ 2 (fun aP bs aF bd f54 g54 => ?_)))))))
  have hsu := MutQ.slr (f0.ext aF)
  refine zza 95 (zI 2) (zza 96 (zI 0) (zzb (zzt (zyn (I := fun a3 S' u' => ∃ (j : Nat), (a3 = 2 - j) ∧ (j ≤ 2) ∧ (S' = St.of 131 [(9, .v (ad.v)), (94, .v (.slice (some ⟨aP, 0, none⟩) 2 2)), (95, zI 2), (96, zI j)] []) ∧ (Ext bs u')) (fun m S u1 u2 e h => by obtain ⟨j, hm, p0, hS, hE⟩ := h; exact ⟨j, hm, p0, hS, hE.trans e⟩) _ yz ⟨0, rfl, by omega, rfl, (Ext.refl _)⟩ ?_))))
  rintro a3 _ u55 ⟨j, bt, hj, rfl, al⟩
  refine sq9 (zza 97 (zB (decide ((j : Int) < 2))) (zzb (zzd (zzu (b := decide ((j : Int) < 2)) xj (fun aq => ?_) (fun aq => ?_)))))
  ·have qhb56 := qyt aq
   refine zzs (zzp ?_)
   refine zzd (zzt (sq9 (zya 98 (0 + j * 1) (n := 2) (off := 0) (sz := 1) (i := (j : Int)) xq rfl xq xq sl62 ?_)))
   obtain ⟨zj, Lj, hcj, hzj, hbj⟩ := two_lists (j := j) (s1 := x3) (s2 := yu) bd al (hx3.ext (aA.t (ap.t (av.t (az.t (ag.t (aj.t (ah.t (an.t (ak.t (ay.t (ai.trans (aF.trans al))))))))))))) hx3b (hsu.ext al) hbU xq
   refine zyl 99 (zj.v) hcj ty22 (zza 21 (.v (zj.v)) (zzb (sq9 (zza 101 (.v (ad.v)) (zza 102 (.v (zj.v)) (zzg 103 25 _ fun _ _ am bf => qym (k_exLevel (z := zj) bf (af.ext (ag.t (aj.t (ah.t (an.t (ak.t (ay.t (ai.trans (aF.trans (al.trans am)))))))))) ac (hzj.ext am) hbj) ?_))))))
   rintro _ u58 aB (⟨rfl, aJ⟩ | ⟨l9, n9, y9, r9, bB, aO, bq, rfl, a7, ba⟩)
   ·skip
    refine zza 100 (.v (.tuple #[qyn, .agg #[.bool false, qyn, qyn], .int .i64 1])) (zza 104 (.v (qyn)) (zza 105 (.v (.agg #[.bool false, qyn, qyn])) (zza 106 (zI 1) (zzk 23 ⟨32, zw3⟩ (zza 22 (.v (qyn)) (zzj ⟨32, zw3⟩ ty32 ?_))))))
    refine zza 24 (zI 1) (zzc 131 [(9, .v (ad.v)), (21, .v (zj.v)), (22, .v (qyn)), (23, .adr 23 0), (24, zI 1), (94, .v (.slice (some ⟨aP, 0, none⟩) 2 2)), (95, zI 2), (96, zI j)] [(23, ⟨32, zw3⟩)] (sq9 (zza 108 (.v (ad.v)) (zza 109 (.v (zj.v)) (zzg 110 36 _ fun _ _ aX bv => qym (k_r15LevelE (z := zj) bv (af.ext (ag.t (aj.t (ah.t (an.t (ak.t (ay.t (ai.t (aF.t (al.t (am.t (aB.t aX)))))))))))) ac (hzj.ext (am.t (aB.t aX))) hbj aJ) ?_)))))
    rintro _ u62 bL rfl
    refine zza 107 (.v (.tuple #[qyn, .agg #[.bool false, qyn, qyn], .int .i64 1])) (zza 111 (.v (qyn)) (zza 112 (.v (.agg #[.bool false, qyn, qyn])) (zza 113 (zI 1) (zzk 26 ⟨32, zw3⟩ (zza 25 (.v (qyn)) (zzj ⟨32, zw3⟩ ty32 ?_))))))
    refine zza 27 (zI 1) (zzb (sq9 (zza 114 (zI 1) (zza 115 (zI 1) (zza 116 (zB false) (zza 117 (zB false) (zza 118 (.v (qyn)) ?_ (hw := w1 3 false 117))))))))
    refine zza 119 (.v (qyn)) ?_ (hw := w1 3 false 117)
    refine zzg 120 15 _ (fun _ _ a9 bo => qym (k_r5Equal bo (pol_nil _ 1) (pol_nil _ 1) zv zv) ?_) (hw := w1 3 false 117)
    rintro _ u66 bI rfl
    refine zza 121 (zB (!(decide (([] : List Rat) = ([] : List Rat))))) ?_ (hw := w1 3 false 117)
    refine zza 122 (zB (!(decide (([] : List Rat) = ([] : List Rat))))) (zyq 123 (x := zB (!(decide (([] : List Rat) = ([] : List Rat))))) (zB false) (by rw [show (!(decide (([] : List Rat) = ([] : List Rat)))) = false from (by rw [(decide_eq_true rfl)]; rfl)]) (zzi 124 (.v (.agg #[.bool false, qyn, qyn])) ty32 zze ?_ (hw := w1 9 false 123)))
    refine zzi 125 (.v (.agg #[.bool false, qyn, qyn])) ty32 zze ?_ (hw := w1 9 false 123)
    refine zzg 126 16 _ (fun _ _ bF bC => qym (k_rqSameZ bC) ?_) (hw := w1 9 false 123)
    rintro _ u71 bx rfl
    refine zza 127 (zB false) ?_ (hw := w1 9 false 123)
    refine zza 128 (zB false) (zzb (zys xj (zzs (zzp ?_))))
    refine zzf (zyq 129 (x := zI (IntKind.i64.wrap ((j : Int) + 1))) (zI (j + 1 : Nat)) (eqI xk) (zza 96 (zI (j + 1 : Nat)) (zzx ?_)))
    refine ⟨_, ?_, _, by exact zzv _ _ _, j + 1, rfl, by omega, rfl, (al.t (am.t (aB.t (aX.t (bL.t (a9.t (bI.t (bF.t bx.ext))))))))⟩
    omega
   have hly9 := a7.len
   have hlly9 := Nt.lvl_len (V := aa) aO
   have hn9b := aO.n11 xq
   refine zza 100 (.v (.tuple #[y9.v, r9.v, .int .i64 0])) (zza 104 (.v (y9.v)) (zza 105 (.v (r9.v)) (zza 106 (zI 0) (zzk 23 ⟨32, zw3⟩ (zza 22 (.v (y9.v)) (zzj ⟨32, r9.cs⟩ ty32 ?_))))))
   refine zza 24 (zI 0) (zzc 131 [(9, .v (ad.v)), (21, .v (zj.v)), (22, .v (y9.v)), (23, .adr 23 0), (24, zI 0), (94, .v (.slice (some ⟨aP, 0, none⟩) 2 2)), (95, zI 2), (96, zI j)] [(23, ⟨32, r9.cs⟩)] (sq9 (zza 108 (.v (ad.v)) (zza 109 (.v (zj.v)) (zzg 110 36 _ fun _ _ aK bi => qym (k_r15Level (z := zj) (l := l9) (n := n9) bi (af.ext (ag.t (aj.t (ah.t (an.t (ak.t (ay.t (ai.t (aF.t (al.t (am.t (aB.t aK)))))))))))) ac (by rw [← bB]; exact (hzj.ext (am.t (aB.t aK)))) aO bq xq) ?_)))))
   rintro _ u75 aR ⟨ya, ra, rfl, hpa, hea⟩
   have hlya := hpa.len
   refine zza 107 (.v (.tuple #[ya.v, ra.v, .int .i64 0])) (zza 111 (.v (ya.v)) (zza 112 (.v (ra.v)) (zza 113 (zI 0) (zzk 26 ⟨32, zw3⟩ (zza 25 (.v (ya.v)) (zzj ⟨32, ra.cs⟩ ty32 ?_))))))
   refine zza 27 (zI 0) (zzb (sq9 (zza 114 (zI 0) (zza 115 (zI 0) (zza 116 (zB false) (zza 117 (zB false) (zza 118 (.v (y9.v)) ?_ (hw := w1 3 false 117))))))))
   refine zza 119 (.v (ya.v)) ?_ (hw := w1 3 false 117)
   refine zzg 120 15 _ (fun _ _ aG bk => qym (k_r5Equal bk (a7.ext (aK.t (aR.t aG))) (hpa.ext aG) xz xz) ?_) (hw := w1 3 false 117)
   rintro _ u79 aY rfl
   refine zza 121 (zB (!(decide ((Nt.pL aa l9) = (Nt.pL aa l9))))) ?_ (hw := w1 3 false 117)
   refine zza 122 (zB (!(decide ((Nt.pL aa l9) = (Nt.pL aa l9))))) (zyq 123 (x := zB (!(decide ((Nt.pL aa l9) = (Nt.pL aa l9))))) (zB false) (by rw [show (!(decide ((Nt.pL aa l9) = (Nt.pL aa l9)))) = false from (by rw [(decide_eq_true rfl)]; rfl)]) (zzi 124 (.v (r9.v)) ty32 zze ?_ (hw := w1 9 false 123)))
   refine zzi 125 (.v (ra.v)) ty32 zze ?_ (hw := w1 9 false 123)
   refine zzg 126 16 _ (fun _ _ aQ bn => qym (k_rqSame bn (ba.ext (aK.t (aR.t (aG.t (aY.t aQ))))) (hea.ext (aG.t (aY.t aQ)))) ?_) (hw := w1 9 false 123)
   rintro _ u84 bK rfl
   refine zza 127 (zB (!(decide ((Nt.eL aa l9) = (Nt.eL aa l9))))) ?_ (hw := w1 9 false 123)
   refine zza 128 (zB (!(decide ((Nt.eL aa l9) = (Nt.eL aa l9))))) (zzb (zzu (b := !(decide ((Nt.eL aa l9) = (Nt.eL aa l9)))) xj (fun hb => ?_) (fun hb => ?_)))
   ·exact absurd hb (by rw [show (!(decide ((Nt.eL aa l9) = (Nt.eL aa l9)))) = false from (by rw [(decide_eq_true rfl)]; rfl)]; decide)
   clear hb
   refine zzs (zzp ?_)
   refine zzf (zyq 129 (x := zI (IntKind.i64.wrap ((j : Int) + 1))) (zI (j + 1 : Nat)) (eqI xk) (zza 96 (zI (j + 1 : Nat)) (zzx ?_)))
   refine ⟨_, ?_, _, by exact zzv _ _ _, j + 1, rfl, by omega, rfl, (al.t (am.t (aB.t (aK.t (aR.t (aG.t (aY.t (aQ.t bK.ext))))))))⟩
   omega
  have qhb56 := qyf aq
  refine zyc (zzp (sq9 (zzg 130 18 _ fun _ _ _ bj => qym (k_awake15 bj) ?_)))
  rintro _ u88 g89 rfl
  refine zza 8 (zB true) (zzb (zzo (ret0 [.bool true] ⟨zzq, trivial⟩ fun u91 e92 => ?_)))
  rfl
 refine zza 30 (zB true) (zza 31 (zB true) (zzn 32 (uw 3 false true 31) (zzn 33 (uw 3 false true 31) (zzn 34 (uw 3 false true 31) (zza 35 (zB true) (zzb (zyr xj (sq9 (zzg 36 18 _ fun _ _ _ bg => qym (k_awake15 bg) ?_)))))))))
 rintro _ u94 g95 rfl
 refine zza 8 (zB true) (zzb (zzo (zzw (ret0 [.bool true] ⟨zzq, trivial⟩ fun u97 e98 => ?_))))
 rfl
end Go.Proofs.YtgmkhhfbckjaeaaGreat
