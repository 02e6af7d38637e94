/- Parts of the proof: contracts of functions, each walked once, and plain laws. -/
import Derived.Test.YtgmkhhfbckjaeaaGreatXvaD
import Derived.ScopeJumps
import Derived.Laws.CopyRow
set_option linter.unusedVariables false
namespace Go.Proofs.YtgmkhhfbckjaeaaGreat
open Go.RowKit
set_option maxHeartbeats 1000000 in
theorem k_r5At {u w : World} {x : Sl} {l : List Rat} {K i : Nat} (d : Dat u w) (hx : PolV u x l K) (hK : K ≤ 40000000) (hx9 : l.length ≤ 1000000000) (hi9 : i ≤ 1000000000) : Calls Tryz.prog 82 #[x.v, .int .i64 (i : Int)] w (Post u w fun v u' => ∃ r : RL, v = r.v ∧ RatN u' r (l.getD i 0) (K + 2)) := by
 have hlen := hx.len
 refine zzm (args := [x.v, .int .i64 i]) Tryz.func82 rfl Tryz.ntmps82 (rs := [.cell 4 32]) Tryz.results82 (le_b rfl) (le_b rfl) d ?_
 refine sq9 (zzk 4 ⟨32, zw3⟩ (zzb (zzd (sq9 (zza 5 (zI i) (zza 6 (zB (decide ((i : Int) < 0))) (zyq 7 (x := zB (decide ((i : Int) < 0))) (zB false) (by rw [show (decide ((i : Int) < 0)) = false from decide_eq_false xq]) (zza 8 (zI i) ?_ (hw := w1 2 false 7)))))))))
 refine zza 9 (.v (x.v)) ?_ (hw := w1 2 false 7)
 refine zza 10 (zI x.n) ?_ (hw := w1 2 false 7)
 refine zza 11 (zB (decide ((x.n : Int) ≤ (i : Int)))) ?_ (hw := w1 2 false 7)
 refine zza 12 (zB (decide ((x.n : Int) ≤ (i : Int)))) (zzb (zzu (b := decide ((x.n : Int) ≤ (i : Int))) xj (fun aa => ?_) (fun aa => ?_)))
 ·have qhb12 := of_decide_eq_true aa
  refine sq9 (zzg 13 30 _ fun _ _ _ ao => Post.mono (k_rqOf ao (z := 0) xq xq) ?_)
  rintro _ u16 g17 ⟨ad, rfl, ap⟩
  refine zzj ⟨32, ad.cs⟩ ty32 ?_
  refine zzb (zzo (zzw (ret0 [ad.v] ⟨zzr ty32 zze, trivial⟩ fun u19 aj => ?_)))
  have e9 : l.getD i 0 = ((0 : Int) : Rat) := Nt.co_ge xq
  rw [e9]
  exact ⟨ad, rfl, RatN.more (K := 2) (ap.ext aj) xq⟩
 have qhb12 := of_decide_eq_false aa
 refine zzs (zzp ?_)
 refine sq9 (zza 14 (.v (x.v)) (zza 15 (zI i) ?_))
 have hl21 := hx.len
 obtain ⟨ai, b21, ah, ag, ac, ae⟩ := pol_at hx (i := i) xq
 refine zya 16 (ah + i * 3) (n := x.n) (off := ah) (sz := 3) (i := (i : Int)) xq ag xq xq sl27 (zym 17 ai.cs ac ty32 (zzg 18 80 _ fun _ _ al an => Post.mono (k_rqTrim an (ae.ext al) xq) ?_))
 rintro _ u25 g26 ⟨af, rfl, am⟩
 refine zzj ⟨32, af.cs⟩ ty32 ?_
 refine zzb (zzo (ret0 [af.v] ⟨zzr ty32 zze, trivial⟩ fun u28 ak => ?_))
 exact ⟨af, rfl, RatN.more (K := K) (am.ext ak) xq⟩
set_option maxHeartbeats 4000000 in
theorem k_r5Add {u w : World} {x : Sl} {l : List Rat} {y : Sl} {m : List Rat} {K M : Nat} (d : Dat u w) (hx : PolV u x l K) (hy : PolV u y m M) (hK : K ≤ 20000000) (hM : M ≤ 20000000) (hx9 : l.length ≤ 1000000000) (hy9 : m.length ≤ 1000000000) : Calls Tryz.prog 22 #[x.v, y.v] w (Post u w fun v u' => ∃ y : Sl, v = y.v ∧ PolN u' y (Nt.trimQ (Nt.addQ l m)) (K + M + 6)) := by
 have hlen := hx.len
 have hlen2 := hy.len
 refine zzm (args := [x.v, y.v]) Tryz.func22 rfl Tryz.ntmps22 (rs := [.tmp 4]) Tryz.results22 (le_b rfl) (le_b rfl) d ?_
 refine sq9 (zza 4 (.v (.slice none 0 0)) (zzb (sq9 (zza 5 (.v (.slice none 0 0)) (zzb (zzd (sq9 (zza 6 (zI 0) (zzb (zzt (zyn (I := fun bh S' u' => (bh = max x.n y.n ∧ S' = St.of 31 [(0, .v (x.v)), (1, .v (y.v)), (5, .v (.slice none 0 0)), (6, zI 0)] [] ∧ Ext u u') ∨ (∃ (i : Nat) (L : List RL) (cs : List Value) (cp : Nat), bh = (max x.n y.n) - i ∧ i ≤ max x.n y.n ∧ 0 < i ∧ L.length = i ∧ cs.length = cp * 3 ∧ i ≤ cp ∧ cp ≤ maxLen ∧ cs.take (i * 3) = rcs L ∧ S' = St.of 31 [(0, .v (x.v)), (1, .v (y.v)), (5, .slc 28 0 i cp), (6, zI i)] [(28, ⟨32, cs⟩)] ∧ Ext u u' ∧ RatsN u' L ((Nt.addQ l m).take i) (K + M + 6))) (fun m S u1 u2 e h => by rcases h with ⟨a, b, c⟩ | ⟨a1, a2, a3, a4, b1, b2, b3, b4, b5, b6, b7, b8, b9, b10, b11⟩; exact .inl ⟨a, b, c.trans e⟩; exact .inr ⟨a1, a2, a3, a4, b1, b2, b3, b4, b5, b6, b7, b8, b9, b10.trans e, b11.ext e⟩) _ yk (.inl ⟨rfl, rfl, Ext.refl _⟩) ?_)))))))))))
 rintro bh _ ck (⟨aY, rfl, ac⟩ | ⟨i, L, cs, cp, aY, hi, hp, hL, hc, hle, hmx, ht, rfl, ac, hR⟩)
 ·change SW _ _ _ _ (St.of 31 [(0, .v (.slice x.a x.n x.c)), (1, .v (.slice y.a y.n y.c)), (5, .v (.slice none 0 0)), (6, .v (.int .i64 0))] []) _ _
  refine zzd (sq9 (zza 7 (zI 0) (zza 8 (.v (x.v)) (zza 9 (zI x.n) (zza 10 (zB (decide ((0 : Int) < (x.n : Int)))) ?_)))))
  rcases Bool.eq_false_or_eq_true (decide ((0 : Int) < (x.n : Int))) with hs12 | hs12
  ·refine zyq 11 (x := zB (decide ((0 : Int) < (x.n : Int)))) (zB true) (by rw [hs12]) ?_
   have qhs12 := of_decide_eq_true hs12
   refine zzn 12 (uw 4 false true 11) (zzn 13 (uw 4 false true 11) (zzn 14 (uw 4 false true 11) (zzn 15 (uw 4 false true 11) (zza 16 (zB true) (zzb (zyr xj (zzs (zzp ?_))))))))
   refine zzd (zzt (zzf (zza 19 (.v (.slice none 0 0)) (zza 20 (.v (x.v)) (zza 21 (zI 0) (zzg 22 82 _ fun _ _ a6 cw => Post.mono ((show Calls _ _ #[_, .int .i64 (0)] _ _ from k_r5At (i := 0) cw (hx.ext (ac.trans a6)) xq xk xq)) ?_))))))
   rintro _ u16 bB ⟨r14, rfl, cj⟩
   refine zza 23 (.v (y.v)) (zza 24 (zI 0) (zzg 25 82 _ fun _ _ bp bW => Post.mono ((show Calls _ _ #[_, .int .i64 (0)] _ _ from k_r5At (i := 0) bW (hy.ext (ac.t (a6.t (bB.t bp)))) xq xk xq)) ?_))
   rintro _ u22 bI ⟨r20, rfl, bY⟩
   refine zzg 26 58 _ fun _ _ a8 ca => Post.mono (k_rqAdd ca (cj.ext (bp.t (bI.t a8))).raw (bY.ext a8).raw xq xq) ?_
   rintro _ u28 cc ⟨ap, rfl, bD⟩
   refine zxx 27 ⟨32, ap.cs⟩ 1 (fun bA cz aS bG => ?_)
   have bV : PolN cz (⟨some ⟨bA, 0, none⟩, 1, 1⟩ : Sl) [((l.getD 0 0) + (m.getD 0 0))] ((K + 2) + (M + 2) + 2) := pol_lit (L := [ap]) bG (rats1 (bD.ext aS)) rfl yq
   refine sy_app0 28 (T := 27) (E := 32) (z := .agg #[.bool false, .slice none 0 0, .slice none 0 0]) (size := 3) (bytes := 56) (b := bA) (off := 0) (m := 1) ap.cs xj xj xj yq rfl (lit_news ((Ext.refl _).cells bG)) (rl_one ap) yq yq yq ?_
   intro bC bl cg aX a5 bc
   refine zza 5 (.slc 28 0 1 bC) (zzx ?_)
   refine zzp (zzf (zza 17 (zI 0) (zza 18 (zI 1) (zza 6 (zI 1) (zzx ?_)))))
   have bg : 0 < (Nt.addQ l m).length := by rw [Nt.addQ_len]; omega
   refine ⟨_, ?_, _, by exact zzv _ _ _, .inr ⟨1, [ap], bl, bC, rfl, by omega, by omega, by simp, a5, by omega, aX, bc, rfl, (ac.t (a6.t (bB.t (bp.t (bI.t (a8.t (cc.t aS))))))), (app_first (RatN.more (K := ((K + 2) + (M + 2) + 2)) (bD.ext aS) xq) bg (by have h9 := Nt.addQ_co l m (0); unfold Nt.co at h9; exact h9.symm))⟩⟩
   omega
  refine zyq 11 (x := zB (decide ((0 : Int) < (x.n : Int)))) (zB false) (by rw [hs12]) ?_
  have qhs12 := of_decide_eq_false hs12
  refine zza 12 (zI 0) ?_ (hw := w1 4 false 11)
  refine zza 13 (.v (y.v)) ?_ (hw := w1 4 false 11)
  refine zza 14 (zI y.n) ?_ (hw := w1 4 false 11)
  refine zza 15 (zB (decide ((0 : Int) < (y.n : Int)))) ?_ (hw := w1 4 false 11)
  refine zza 16 (zB (decide ((0 : Int) < (y.n : Int)))) (zzb (zzu (b := decide ((0 : Int) < (y.n : Int))) xj (fun aj => ?_) (fun aj => ?_)))
  ·have qhb38 := of_decide_eq_true aj
   refine zzs (zzp ?_)
   refine zzd (zzt (zzf (zza 19 (.v (.slice none 0 0)) (zza 20 (.v (x.v)) (zza 21 (zI 0) (zzg 22 82 _ fun _ _ aO cl => Post.mono ((show Calls _ _ #[_, .int .i64 (0)] _ _ from k_r5At (i := 0) cl (hx.ext (ac.trans aO)) xq xk xq)) ?_))))))
   rintro _ u42 bH ⟨r40, rfl, cn⟩
   refine zza 23 (.v (y.v)) (zza 24 (zI 0) (zzg 25 82 _ fun _ _ a9 cx => Post.mono ((show Calls _ _ #[_, .int .i64 (0)] _ _ from k_r5At (i := 0) cx (hy.ext (ac.t (aO.t (bH.t a9)))) xq xk xq)) ?_))
   rintro _ u48 bO ⟨r46, rfl, b0⟩
   refine zzg 26 58 _ fun _ _ aN bT => Post.mono (k_rqAdd bT (cn.ext (a9.t (bO.t aN))).raw (b0.ext aN).raw xq xq) ?_
   rintro _ u54 cb ⟨aE, rfl, bJ⟩
   refine zxx 27 ⟨32, aE.cs⟩ 1 (fun bu cf bf bx => ?_)
   have cA : PolN cf (⟨some ⟨bu, 0, none⟩, 1, 1⟩ : Sl) [((l.getD 0 0) + (m.getD 0 0))] ((K + 2) + (M + 2) + 2) := pol_lit (L := [aE]) bx (rats1 (bJ.ext bf)) rfl yq
   refine sy_app0 28 (T := 27) (E := 32) (z := .agg #[.bool false, .slice none 0 0, .slice none 0 0]) (size := 3) (bytes := 56) (b := bu) (off := 0) (m := 1) aE.cs xj xj xj yq rfl (lit_news ((Ext.refl _).cells bx)) (rl_one aE) yq yq yq ?_
   intro bF aZ bR bn aR aP
   refine zza 5 (.slc 28 0 1 bF) (zzx ?_)
   refine zzp (zzf (zza 17 (zI 0) (zza 18 (zI 1) (zza 6 (zI 1) (zzx ?_)))))
   have bs : 0 < (Nt.addQ l m).length := by rw [Nt.addQ_len]; omega
   refine ⟨_, ?_, _, by exact zzv _ _ _, .inr ⟨1, [aE], aZ, bF, rfl, by omega, by omega, by simp, aR, by omega, bn, aP, rfl, (ac.t (aO.t (bH.t (a9.t (bO.t (aN.t (cb.t bf))))))), (app_first (RatN.more (K := ((K + 2) + (M + 2) + 2)) (bJ.ext bf) xq) bs (by have h9 := Nt.addQ_co l m (0); unfold Nt.co at h9; exact h9.symm))⟩⟩
   omega
  have qhb38 := of_decide_eq_false aj
  refine zyc (zzp (zzd ?_))
  have aQ : PolN ck ⟨none, 0, 0⟩ (Nt.addQ l m) (K + M + 6) := by have h9 : Nt.addQ l m = [] := List.eq_nil_of_length_eq_zero (by rw [Nt.addQ_len]; omega); rw [h9]; exact pol_nil _ _
  refine zzf (zza 29 (.v (.slice none 0 0)) (zzg 30 83 _ fun _ _ ct bS => Post.mono (k_r5Trim bS (aQ.ext ct).raw xq xk) ?_))
  rintro _ u68 g69 ⟨bt, rfl, bN⟩
  have hly66 := bN.len
  refine zza 4 (.v (bt.v)) (zzb (zzo (ret0 [bt.v] ⟨zzq, trivial⟩ fun u71 cE => ?_)))
  refine ⟨bt, rfl, ?_⟩
  exact (bN.ext cE)
 change SW _ _ _ _ (St.of 31 [(0, .v (.slice x.a x.n x.c)), (1, .v (.slice y.a y.n y.c)), (5, .slc 28 0 i cp), (6, .v (.int .i64 (i : Int)))] [(28, ⟨32, cs⟩)]) _ _
 refine zzd (sq9 (zza 7 (zI i) (zza 8 (.v (x.v)) (zza 9 (zI x.n) (zza 10 (zB (decide ((i : Int) < (x.n : Int)))) ?_)))))
 rcases Bool.eq_false_or_eq_true (decide ((i : Int) < (x.n : Int))) with hs73 | hs73
 ·refine zyq 11 (x := zB (decide ((i : Int) < (x.n : Int)))) (zB true) (by rw [hs73]) ?_
  have qhs73 := of_decide_eq_true hs73
  refine zzn 12 (uw 4 false true 11) (zzn 13 (uw 4 false true 11) (zzn 14 (uw 4 false true 11) (zzn 15 (uw 4 false true 11) (zza 16 (zB true) (zzb (zyr xj (zzs (zzp ?_))))))))
  refine zzd (zzt (zzf (zza 19 (.slc 28 0 i cp) (zza 20 (.v (x.v)) (zza 21 (zI i) (zzg 22 82 _ fun _ _ aJ cy => Post.mono ((show Calls _ _ #[_, .int .i64 ((i : Int))] _ _ from k_r5At (i := i) cy (hx.ext (ac.trans aJ)) xq xk xq)) ?_))))))
  rintro _ u77 be ⟨r75, rfl, cq⟩
  refine zza 23 (.v (y.v)) (zza 24 (zI i) (zzg 25 82 _ fun _ _ aK cv => Post.mono ((show Calls _ _ #[_, .int .i64 ((i : Int))] _ _ from k_r5At (i := i) cv (hy.ext (ac.t (aJ.t (be.t aK)))) xq xk xq)) ?_))
  rintro _ u83 aU ⟨r81, rfl, cu⟩
  refine zzg 26 58 _ fun _ _ aL cD => Post.mono (k_rqAdd cD (cq.ext (aK.t (aU.t aL))).raw (cu.ext aL).raw xq xq) ?_
  rintro _ u89 bL ⟨ao, rfl, bK⟩
  refine zxx 27 ⟨32, ao.cs⟩ 1 (fun bv bU aI bw => ?_)
  have cr : PolN bU (⟨some ⟨bv, 0, none⟩, 1, 1⟩ : Sl) [((l.getD i 0) + (m.getD i 0))] ((K + 2) + (M + 2) + 2) := pol_lit (L := [ao]) bw (rats1 (bK.ext aI)) rfl yq
  refine sy_app1 28 (T := 27) (E := 32) (z := .agg #[.bool false, .slice none 0 0, .slice none 0 0]) (size := 3) (bytes := 56) (b := bv) (off := 0) (m := 1) (n := i) (cap := cp) (t := 28) (cs0 := cs) [5, 19, 28] ao.cs xj xj xj yq rfl (lit_news ((Ext.refl _).cells bw)) (rl_one ao) yq yv xq xq xq xq xw ?_
  intro bE av ci aW aM bb
  have aH : av.take ((i + 1) * 3) = rcs (L ++ [ao]) := by rw [bb, ht, rcs_app]; rfl
  refine zza 5 (.slc 28 0 (i + 1) bE) (zzx ?_)
  refine zzp (zzf (zza 17 (zI i) (zyq 18 (x := zI (IntKind.i64.wrap ((i : Int) + 1))) (zI (i + 1 : Nat)) (eqI xz) (zza 6 (zI (i + 1 : Nat)) (zzx ?_)))))
  have aT : i < (Nt.addQ l m).length := by rw [Nt.addQ_len]; omega
  refine ⟨_, ?_, _, by exact zzv _ _ _, .inr ⟨i + 1, L ++ [ao], av, bE, rfl, by omega, by omega, by simp; omega, aM, by omega, aW, aH, rfl, (ac.t (aJ.t (be.t (aK.t (aU.t (aL.t (bL.t aI))))))), (app_next (hR.ext (aJ.t (be.t (aK.t (aU.t (aL.t (bL.t aI))))))) (RatN.more (K := ((K + 2) + (M + 2) + 2)) (bK.ext aI) xq) aT (by have h9 := Nt.addQ_co l m (i); unfold Nt.co at h9; exact h9.symm))⟩⟩
  omega
 refine zyq 11 (x := zB (decide ((i : Int) < (x.n : Int)))) (zB false) (by rw [hs73]) ?_
 have qhs73 := of_decide_eq_false hs73
 refine zza 12 (zI i) ?_ (hw := w1 4 false 11)
 refine zza 13 (.v (y.v)) ?_ (hw := w1 4 false 11)
 refine zza 14 (zI y.n) ?_ (hw := w1 4 false 11)
 refine zza 15 (zB (decide ((i : Int) < (y.n : Int)))) ?_ (hw := w1 4 false 11)
 refine zza 16 (zB (decide ((i : Int) < (y.n : Int)))) (zzb (zzu (b := decide ((i : Int) < (y.n : Int))) xj (fun an => ?_) (fun an => ?_)))
 ·have qhb99 := of_decide_eq_true an
  refine zzs (zzp ?_)
  refine zzd (zzt (zzf (zza 19 (.slc 28 0 i cp) (zza 20 (.v (x.v)) (zza 21 (zI i) (zzg 22 82 _ fun _ _ ag bm => Post.mono ((show Calls _ _ #[_, .int .i64 ((i : Int))] _ _ from k_r5At (i := i) bm (hx.ext (ac.trans ag)) xq xk xq)) ?_))))))
  rintro _ cm am ⟨ce, rfl, bd⟩
  refine zza 23 (.v (y.v)) (zza 24 (zI i) (zzg 25 82 _ fun _ _ ad br => Post.mono ((show Calls _ _ #[_, .int .i64 ((i : Int))] _ _ from k_r5At (i := i) br (hy.ext (ac.t (ag.t (am.t ad)))) xq xk xq)) ?_))
  rintro _ cC al ⟨cd, rfl, bj⟩
  refine zzg 26 58 _ fun _ _ ae a7 => Post.mono (k_rqAdd a7 (bd.ext (ad.t (al.t ae))).raw (bj.ext ae).raw xq xq) ?_
  rintro _ ch az ⟨aa, rfl, ar⟩
  refine zxx 27 ⟨32, aa.cs⟩ 1 (fun aB bo af aD => ?_)
  have bM : PolN bo (⟨some ⟨aB, 0, none⟩, 1, 1⟩ : Sl) [((l.getD i 0) + (m.getD i 0))] ((K + 2) + (M + 2) + 2) := pol_lit (L := [aa]) aD (rats1 (ar.ext af)) rfl yq
  refine sy_app1 28 (T := 27) (E := 32) (z := .agg #[.bool false, .slice none 0 0, .slice none 0 0]) (size := 3) (bytes := 56) (b := aB) (off := 0) (m := 1) (n := i) (cap := cp) (t := 28) (cs0 := cs) [5, 19, 28] aa.cs xj xj xj yq rfl (lit_news ((Ext.refl _).cells aD)) (rl_one aa) yq yv xq xq xq xq xw ?_
  intro aG ah bz ax aA aC
  have ak : ah.take ((i + 1) * 3) = rcs (L ++ [aa]) := by rw [aC, ht, rcs_app]; rfl
  refine zza 5 (.slc 28 0 (i + 1) aG) (zzx ?_)
  refine zzp (zzf (zza 17 (zI i) (zyq 18 (x := zI (IntKind.i64.wrap ((i : Int) + 1))) (zI (i + 1 : Nat)) (eqI xz) (zza 6 (zI (i + 1 : Nat)) (zzx ?_)))))
  have aw : i < (Nt.addQ l m).length := by rw [Nt.addQ_len]; omega
  refine ⟨_, ?_, _, by exact zzv _ _ _, .inr ⟨i + 1, L ++ [aa], ah, aG, rfl, by omega, by omega, by simp; omega, aA, by omega, ax, ak, rfl, (ac.t (ag.t (am.t (ad.t (al.t (ae.t (az.t af))))))), (app_next (hR.ext (ag.t (am.t (ad.t (al.t (ae.t (az.t af))))))) (RatN.more (K := ((K + 2) + (M + 2) + 2)) (ar.ext af) xq) aw (by have h9 := Nt.addQ_co l m (i); unfold Nt.co at h9; exact h9.symm))⟩⟩
  omega
 have qhb99 := of_decide_eq_false an
 refine zyc (zzp (zzd (zyp (r := 5) (t := 28) [5, 28] xw xj (by rfl) (by rfl) xj (fun au bk ba bP ay => ?_))))
 have aF : PolN bk ⟨some ⟨au, 0, none⟩, i, cp⟩ (Nt.addQ l m) (K + M + 6) := by have h8 := pol_data ay ht hc hle hmx (hR.ext ba); rw [List.take_of_length_le (l := Nt.addQ l m) (by rw [Nt.addQ_len]; omega)] at h8; exact h8
 refine zzf (zza 29 (.v (.slice (some ⟨au, 0, none⟩) i cp)) (zzg 30 83 _ fun _ _ aV bi => Post.mono (k_r5Trim bi (aF.ext aV).raw xq xk) ?_))
 rintro _ cB bQ ⟨ai, rfl, aq⟩
 have hly132 := aq.len
 refine zza 4 (.v (ai.v)) (zzb (zzo (ret0 [ai.v] ⟨zzq, trivial⟩ fun bX bq => ?_)))
 refine ⟨ai, rfl, ?_⟩
 exact (aq.ext bq)
instance wdDec (W : WL) : Decidable (WdOK W) := by unfold WdOK; exact inferInstance
section
variable {P : Program} {ops : Array Oper} {w0 : Base} {u0 : World} {S : St} {u : World} {o : Oper} {p : List Tmp} {seq : Bool} {rest : List (Oper × List Tmp)} {K : St → World → Prop}
theorem sy_minN (d : Tmp) {x y : Operand} {k0 : IntKind} {n m v : Int} {tys : Array TypeId} (hv : (if m < n then m else n) = v)
  (k : sym P ops w0 u0 seq rest (S.set d (.v (.int k0 v))) u K)
  (hw : Wants ops o S := by exact zwf xj) (hd : o.dst = some d := by kernel_rfl) (hop : o.op = .call { callee := .builtin .min, args := #[x, y], argTypes := tys } := by rfl) (hf : freeB S d = true := by kernel_rfl)
  (hx : evO S x = some (.v (.int k0 n)) := by rfl) (hy : evO S y = some (.v (.int k0 m)) := by rfl) : sym P ops w0 u0 seq ((o, p) :: rest) S u K := by
 refine .inr (.inr (.inl ⟨.inr ⟨by rw [hop]; rfl, by rw [hop]; rfl⟩, fun B a w u' he hrep => ⟨hw B a hrep.regs, ?_⟩⟩))
 have hrun : ∀ ty w, (Builtin.min_ tys ty #[.int k0 n, .int k0 m]).run P w = .ok (.int k0 v) w := by
  intro ty w
  rw [← hv]
  rfl
 unfold Oper.wp execOp
 simp only [hop, resolve, invoke, builtin, Sem.run_bind, Sem.run_pure, Result.andThen_ok, List.map_toArray, List.map_cons, List.map_nil, ev_of hrep.regs hx, ev_of hrep.regs hy, SV.conc, hrun]
 have hr2 := hrep.set (d := o.dst) (x := some (.v (.int k0 v))) (v := .int k0 v) (fun s hs => (zxy hd hf s hs).1) (fun z e => by injection e with e; rw [← e]; rfl) (fun z t e ht => by injection e with e; rw [← e] at ht; cases ht)
 show ∃ S' B' u'' u2, Rep w0 u0 S' B' (a.put o.dst _) w u'' ∧ _
 refine ⟨_, B, u', u, hr2, fun _ => Ext.refl _, fun _ => Ext.refl _, he, ?_⟩
 rw [hd]; exact k
end
def mqB (x : Sl) (Rs : List Sl) : List Nat := (x :: Rs).filterMap fun s => s.a.map fun a => a.block
section
variable {w k lo lo' h b n c i j off : Nat} {tO tR : TypeId} {u u' u'' v : World} {w0 : Base} {u0 : World} {x y z : Sl} {Rs : List Sl} {Ls : List (List RL)} {L : List RL} {M : List (List Rat)} {l : List Rat} {r : RL} {q : Rat} {K K' : Nat} {a : Addr}
theorem mqB_x (h : x.a = some a) : a.block ∈ mqB x Rs := List.mem_filterMap.2 ⟨x, List.mem_cons_self .., by rw [h]; rfl⟩
end
namespace Nt
def gX (V : List Rat) (a : Nat) : Rat := V.getD (3 * a) 0
def gY (V : List Rat) (a : Nat) : Rat := V.getD (3 * a + 1) 0
def gW (V : List Rat) (a : Nat) : Rat := V.getD (3 * a + 2) 0
structure GrOK (V : List Rat) (N : Nat) : Prop where
 n1 : 1 ≤ N
 n12 : N ≤ 12
 len : V.length = 3 * N
 x : ∀ i, i < N → ∃ z : Int, gX V i * 12 = (z : Rat) ∧ -12 ≤ z ∧ z ≤ 36
 y : ∀ i, i < N → Wh (gY V i * (((840 : Nat) : Int) : Rat)) 14
 w : ∀ i, i < N → ∃ a b : Nat, gW V i * (b : Rat) = (a : Rat) ∧ 1 ≤ a ∧ a ≤ 8 ∧ 1 ≤ b ∧ b ≤ 4
 asc : ∀ a b, a < b → b < N → gX V a < gX V b
theorem GrOK.gr {V : List Rat} {N : Nat} (h : GrOK V N) : Gr (gX V) (gW V) N := by
 refine ⟨h.asc, fun a ha => ?_⟩
 obtain ⟨p, q, e, h1, _, h2, _⟩ := h.w a ha
 have hp : (0 : Rat) < (p : Rat) := by exact_mod_cast h1
 have hq : (0 : Rat) < (q : Rat) := by exact_mod_cast h2
 rw [← e] at hp
 exact pos_of_mul hq hp
structure GrP (V : List Rat) (i : Nat) (q : Rat) : Prop where
 len : V.length = 3 * i
 x : ∀ a, a < i → ∃ z : Int, gX V a * 12 = (z : Rat) ∧ -12 ≤ z ∧ z ≤ 36
 y : ∀ a, a < i → Wh (gY V a * (((840 : Nat) : Int) : Rat)) 14
 w : ∀ i', i' < i → ∃ a b : Nat, gW V i' * (b : Rat) = (a : Rat) ∧ 1 ≤ a ∧ a ≤ 8 ∧ 1 ≤ b ∧ b ≤ 4
 asc : ∀ a b, a < b → b < i → gX V a < gX V b
 lt : ∀ a, a < i → gX V a < q
 q : ∃ z : Int, q * 12 = (z : Rat) ∧ -12 ≤ z ∧ z ≤ -12 + 4 * (i : Int)
theorem gApp {V : List Rat} {i : Nat} {q y w : Rat} (h : V.length = 3 * i) {j t : Nat} (ht : t < 3) (hj : j ≤ i) : (V ++ [q, y, w]).getD (3 * j + t) 0 = if j < i then V.getD (3 * j + t) 0 else [q, y, w].getD t 0 := by
 rw [List.getD_eq_getElem?_getD]
 split
 ·rw [List.getElem?_append_left xq, ← List.getD_eq_getElem?_getD]
 rw [List.getElem?_append_right xq, show 3 * j + t - V.length = t by omega, ← List.getD_eq_getElem?_getD]
theorem grP_0 : GrP [] 0 ((-1 : Int) : Rat) := ⟨rfl, fun a h => by omega, fun a h => by omega, fun a h => by omega, fun a b h k => by omega, fun a h => by omega, -12, by decide +kernel, by omega, by omega⟩
theorem GrP.step {V : List Rat} {i : Nat} {q y w : Rat} {d : Int} (h : GrP V i q) (hi : i < 12) (hy : Wh (y * (((840 : Nat) : Int) : Rat)) 14) (hw : ∃ a b : Nat, w * (b : Rat) = (a : Rat) ∧ 1 ≤ a ∧ a ≤ 8 ∧ 1 ≤ b ∧ b ≤ 4) (h1 : 1 ≤ d) (h4 : d ≤ 4) : GrP (V ++ [q, y, w]) (i + 1) (q + (d : Rat) / ((12 : Int) : Rat)) := by
 have hX : ∀ j, j ≤ i → gX (V ++ [q, y, w]) j = if j < i then gX V j else q := fun j hj => gApp (t := 0) h.len xq hj
 have hY : ∀ j, j ≤ i → gY (V ++ [q, y, w]) j = if j < i then gY V j else y := fun j hj => gApp (t := 1) h.len xq hj
 have hW : ∀ j, j ≤ i → gW (V ++ [q, y, w]) j = if j < i then gW V j else w := fun j hj => gApp (t := 2) h.len xq hj
 obtain ⟨z, e, z1, z2⟩ := h.q
 have hd : (0 : Rat) < (d : Rat) := by exact_mod_cast (show (0 : Int) < d by omega)
 have h12 : ((12 : Int) : Rat) = 12 := rfl
 have hq' : q < q + (d : Rat) / ((12 : Int) : Rat) := by rw [h12, Rat.div_def]; grind
 refine ⟨by rw [List.length_append, h.len]; simp; omega, fun a ha => ?_, fun a ha => ?_, fun a ha => ?_, fun a b hab hb => ?_, fun a ha => ?_, z + d, ?_, by omega, by omega⟩
 ·rw [hX a xq]
  split
  ·rename_i c; exact h.x a c
  exact ⟨z, e, z1, by omega⟩
 ·rw [hY a xq]
  split
  ·rename_i c; exact h.y a c
  exact hy
 ·rw [hW a xq]
  split
  ·rename_i c; exact h.w a c
  exact hw
 ·rw [hX a xq, hX b xq, if_pos xq]
  split
  ·rename_i c; exact h.asc a b hab c
  exact h.lt a xq
 ·rw [hX a xq]
  split
  ·rename_i c; have := h.lt a c; grind
  exact hq'
 rw [Rat.intCast_add, ← e, h12, Rat.div_def]; grind
theorem GrP.done {V : List Rat} {i : Nat} {q : Rat} (h : GrP V i q) (h1 : 1 ≤ i) (h2 : i ≤ 12) : GrOK V i := ⟨h1, h2, h.len, h.x, h.y, h.w, h.asc⟩
theorem rs12 {q : Rat} {z : Int} (h : q * 12 = (z : Rat)) (h1 : -1000 ≤ z) (h2 : z ≤ 1000) : rs q ≤ 1 := by
 have := wh_rs (x := q) (D := 12) (A := 14) xq ⟨z, h, by omega⟩ yq
 exact this
theorem GrP.rs {V : List Rat} {i : Nat} {q : Rat} (h : GrP V i q) (hi : i ≤ 12) : Nt.rs q ≤ 1 := by
 obtain ⟨z, e, h1, h2⟩ := h.q
 exact rs12 e xq xq
theorem frW {a b : Nat} (ha : a < 8) (hb : b < 4) : (∃ p q : Nat, ((((1 + a : Nat) : Int) : Rat) / (((1 + b : Nat) : Int) : Rat)) * (q : Rat) = (p : Rat) ∧ 1 ≤ p ∧ p ≤ 8 ∧ 1 ≤ q ∧ q ≤ 4) ∧ Nt.rs ((((1 + a : Nat) : Int) : Rat) / (((1 + b : Nat) : Int) : Rat)) ≤ 1 := by
 obtain ⟨p, hp⟩ : ∃ p, 1 + a = p := ⟨_, rfl⟩
 obtain ⟨q, hq⟩ : ∃ q, 1 + b = q := ⟨_, rfl⟩
 rw [hp, hq]
 have hq0 : ((q : Int) : Rat) ≠ 0 := fun e => by
  have := Rat.intCast_inj.1 (show ((q : Int) : Rat) = ((0 : Int) : Rat) from e); omega
 refine ⟨⟨p, q, Rat.div_mul_cancel hq0, by omega, by omega, by omega, by omega⟩, ?_⟩
 obtain ⟨c, hc, hc1⟩ : ∃ c : Int, (((12 : Nat) : Int)) = (q : Int) * c ∧ c.natAbs ≤ 12 := by
  rcases (by omega : q = 1 ∨ q = 2 ∨ q = 3 ∨ q = 4) with e | e | e | e <;> rw [e]
  ·exact ⟨12, by decide, by decide⟩
  ·exact ⟨6, by decide, by decide⟩
  ·exact ⟨4, by decide, by decide⟩
  exact ⟨3, by decide, by decide⟩
 refine wh_rs (D := 12) (A := 14) xq ⟨(p : Int) * c, ?_, ?_⟩ yq
 ·rw [hc]; exact frac_mul xq
 rw [Int.natAbs_mul]
 exact Nat.le_trans (Nat.mul_le_mul (show (p : Int).natAbs ≤ 12 by omega) hc1) yq
def inl (l : List Nat) : List Int := l.map fun a : Nat => (a : Int)
theorem inl_len (l : List Nat) : (inl l).length = l.length := List.length_map ..
theorem inl_at (l : List Nat) (i : Nat) : (inl l).getD i 0 = ((l.getD i 0 : Nat) : Int) := by
 unfold inl
 rw [List.getD_eq_getElem?_getD, List.getElem?_map, List.getD_eq_getElem?_getD]
 cases l[i]? <;> rfl
theorem inl_set (l : List Nat) (i a : Nat) : inl (l.set i a) = (inl l).set i (a : Int) := by unfold inl; rw [List.map_set]
theorem inl_bd {l : List Nat} {N : Nat} (h : ∀ a ∈ l, a < N) (hN : N ≤ 1000) : ∀ z ∈ inl l, -9223372036854775808 ≤ z ∧ z ≤ 9223372036854775807 := fun z hz => by
 unfold inl at hz
 obtain ⟨a, ha, rfl⟩ := List.mem_map.1 hz
 have := h a ha
 omega
theorem inl_of {L : List Int} (h : ∀ z ∈ L, 0 ≤ z) : inl (L.map Int.toNat) = L := by
 unfold inl
 rw [List.map_map]
 calc L.map _ = L.map id := List.map_congr_left fun z hz => by simp; have := h z hz; omega
  _ = L := List.map_id L
def Up (N : Int) (L : List Int) : Prop := (∀ i, i < L.length → 0 ≤ L.getD i 0 ∧ L.getD i 0 < N) ∧ ∀ i j, i < j → j < L.length → L.getD i 0 < L.getD j 0
theorem up_inl {N n : Nat} {L : List Int} (h : Up N L) (hn : L.length = n + 1) : ∃ l : List Nat, L = inl l ∧ Rf N l n := by
 have h0 : ∀ z ∈ L, 0 ≤ z := fun z hz => by
  obtain ⟨i, hi, rfl⟩ := List.getElem_of_mem hz
  have := (h.1 i hi).1
  rw [List.getD_eq_getElem?_getD, List.getElem?_eq_getElem hi] at this
  exact this
 refine ⟨L.map Int.toNat, (inl_of h0).symm, ?_, fun i j hij hj => ?_, fun i hi => ?_⟩
 ·rw [List.length_map, hn]
 ·have h1 := h.2 i j hij xq
  rw [← inl_of h0, inl_at, inl_at] at h1
  omega
 have h1 := (h.1 i xq).2
 rw [← inl_of h0, inl_at] at h1
 omega
theorem Rf.up {N n : Nat} {l : List Nat} (h : Rf N l n) : Up N (inl l) := by
 refine ⟨fun i hi => ?_, fun i j hij hj => ?_⟩
 ·rw [inl_len, h.len] at hi
  have := h.lt i xq
  rw [inl_at]; omega
 rw [inl_len, h.len] at hj
 have := h.asc i j hij xq
 rw [inl_at, inl_at]; omega
structure SpI (N k i : Nat) (L : List Int) : Prop where
 len : L.length = k
 asc : ∀ a b, a < b → b < i → L.getD a 0 < L.getD b 0
 bd : ∀ a, a < i → 0 ≤ L.getD a 0 ∧ L.getD a 0 ≤ (N : Int) - k + a
theorem spI_0 {N k : Nat} (hk : 1 ≤ k) (hN : k ≤ N) : SpI N k 1 (List.replicate k 0) := by
 have e : ∀ a, (List.replicate k (0 : Int)).getD a 0 = 0 := fun a => by
  rw [List.getD_eq_getElem?_getD, List.getElem?_replicate]; split <;> rfl
 exact ⟨List.length_replicate .., fun a b h1 h2 => by omega, fun a ha => by rw [e]; omega⟩
theorem gsetI {L : List Int} {i j : Nat} {z : Int} (hj : j < L.length) : (L.set j z).getD i 0 = if i = j then z else L.getD i 0 := by
 rw [List.getD_eq_getElem?_getD, List.getD_eq_getElem?_getD]
 by_cases e : i = j
 ·subst e; rw [if_pos rfl, List.getElem?_set_self hj]; rfl
 rw [if_neg e, List.getElem?_set_ne (Ne.symm e)]
theorem SpI.step {N k i : Nat} {L : List Int} {p : Int} (h : SpI N k i L) (hi : i < k) (h1 : 1 ≤ i) (hN : k ≤ N) : SpI N k (i + 1) (L.set i (min (max p (L.getD (i - 1) 0 + 1)) ((N : Int) - k + i))) := by
 have hl := h.len
 have hb := h.bd (i - 1) xq
 refine ⟨by rw [List.length_set, hl], fun a b hab hb' => ?_, fun a ha => ?_⟩
 ·rw [gsetI xq, gsetI xq, if_neg xq]
  split
  ·rename_i e
   have h2 : L.getD a 0 ≤ L.getD (i - 1) 0 := by
    by_cases e2 : a = i - 1
    ·rw [e2]; omega
    have := h.asc a (i - 1) xq xq; omega
   omega
  exact h.asc a b hab xq
 rw [gsetI xq]
 split
 ·rename_i e; subst e; omega
 exact h.bd a xq
theorem SpI.up {N k : Nat} {L : List Int} (h : SpI N k k L) (hN : k ≤ N) : Up N L := ⟨fun i hi => by have := h.bd i (by rw [← h.len]; exact hi); have := h.len; omega, fun i j hij hj => h.asc i j hij (by rw [← h.len]; exact hj)⟩
structure Gst (E : List Rat) (n a : Nat) : Prop where
 lt : a < n
 le : ∀ j, j < n → ab (E.getD j 0) ≤ ab (E.getD a 0)
 fst : ∀ j, j < a → ab (E.getD j 0) < ab (E.getD a 0)
theorem gst_1 (E : List Rat) : Gst E 1 0 := ⟨by omega, fun j hj => by rw [show j = 0 by omega]; exact Rat.le_refl, fun j hj => by omega⟩
theorem Gst.up {E : List Rat} {n a : Nat} (h : Gst E n a) (hh : ab (E.getD a 0) < ab (E.getD n 0)) : Gst E (n + 1) n := by
 refine ⟨by omega, fun j hj => ?_, fun j hj => ?_⟩
 ·by_cases e : j = n
  ·rw [e]; exact Rat.le_refl
  have := h.le j xq; grind
 have := h.le j hj; grind
theorem Gst.keep {E : List Rat} {n a : Nat} (h : Gst E n a) (hh : ¬ ab (E.getD a 0) < ab (E.getD n 0)) : Gst E (n + 1) a := by
 refine ⟨by have := h.lt; omega, fun j hj => ?_, h.fst⟩
 by_cases e : j = n
 ·rw [e]; grind
 exact h.le j xq
theorem Gst.uniq {E F : List Rat} {n a b : Nat} (h : Gst E n a) (k : Gst F n b) (e : ∀ j, j < n → E.getD j 0 = F.getD j 0) : a = b := by
 have h1 := h.lt; have k1 := k.lt
 by_cases c : a < b
 ·have x := k.fst a c; have y := h.le b k1
  rw [← e a h1, ← e b k1] at x; grind
 by_cases c2 : b < a
 ·have x := h.fst b c2; have y := k.le a h1
  rw [← e a h1, ← e b k1] at y; grind
 omega
def erL (V p : List Rat) (N : Nat) : List Rat := (List.range N).map fun a => gE (gX V) (gW V) (gY V) p a
theorem erL_len {V p : List Rat} {N : Nat} : (erL V p N).length = N := by unfold erL; rw [List.length_map, List.length_range]
theorem erL_at {V p : List Rat} {N a : Nat} (h : a < N) : (erL V p N).getD a 0 = gE (gX V) (gW V) (gY V) p a := by
 unfold erL
 rw [List.getD_eq_getElem?_getD, List.getElem?_map, List.getElem?_range h]; rfl
end Nt
section
variable {u u' : World} {x : Sl} {n i c b : Nat} {V : List Rat} {K K' : Nat} {L : List RL}
def GrN (u : World) (x : Sl) (n : Nat) (V : List Rat) (K : Nat) : Prop := x.n = n ∧ n ≤ 1000000 ∧ x.n ≤ x.c ∧ x.c ≤ maxLen ∧ V.length = 3 * n ∧ PolN u ⟨x.a, 3 * n, 3 * n⟩ V K
theorem GrN.ext (h : GrN u x n V K) (e : Ext u u') : GrN u' x n V K := ⟨h.1, h.2.1, h.2.2.1, h.2.2.2.1, h.2.2.2.2.1, h.2.2.2.2.2.ext e⟩
theorem GrN.len (h : GrN u x n V K) : x.n = n := h.1
theorem gr_at (h : GrN u x n V K) (hi : i < n) : ∃ (r0 r1 r2 : RL) (b o : Nat), x.a = some ⟨b, o, none⟩ ∧ (∀ j, j < r0.cs.length → u.cell? ⟨b, o + i * 9 + j, none⟩ = r0.cs[j]?) ∧ (∀ j, j < r1.cs.length → u.cell? ⟨b, o + i * 9 + 3 + j, none⟩ = r1.cs[j]?) ∧ (∀ j, j < r2.cs.length → u.cell? ⟨b, o + i * 9 + 6 + j, none⟩ = r2.cs[j]?) ∧ RatN u r0 (Nt.gX V i) K ∧ RatN u r1 (Nt.gY V i) K ∧ RatN u r2 (Nt.gW V i) K := by
 obtain ⟨hn, hm, hc, hx, hl, hp⟩ := h
 obtain ⟨r0, b, o, e0, c0, q0⟩ := pol_atN hp (i := 3 * i) xq
 obtain ⟨r1, b1, o1, e1, c1, q1⟩ := pol_atN hp (i := 3 * i + 1) xq
 obtain ⟨r2, b2, o2, e2, c2, q2⟩ := pol_atN hp (i := 3 * i + 2) xq
 have f0 : x.a = some ⟨b, o, none⟩ := e0
 have f1 : x.a = some ⟨b1, o1, none⟩ := e1
 have f2 : x.a = some ⟨b2, o2, none⟩ := e2
 rw [f0] at f1 f2
 injection f1 with f1
 injection f1 with g1 g2 _
 injection f2 with f2
 injection f2 with g3 g4 _
 subst g1 g2 g3 g4
 refine ⟨r0, r1, r2, b, o, f0, fun j hj => ?_, fun j hj => ?_, fun j hj => ?_, q0, q1, q2⟩
 ·rw [← c0 j hj]; congr 2; omega
 ·rw [← c1 j hj]; congr 2; omega
 rw [← c2 j hj]; congr 2; omega
theorem gr_pt {r0 r1 r2 : RL} {o : Nat} (h0 : ∀ j, j < r0.cs.length → u.cell? ⟨b, o + j, none⟩ = r0.cs[j]?) (h1 : ∀ j, j < r1.cs.length → u.cell? ⟨b, o + 3 + j, none⟩ = r1.cs[j]?) (h2 : ∀ j, j < r2.cs.length → u.cell? ⟨b, o + 6 + j, none⟩ = r2.cs[j]?) : ∀ j, j < (r0.cs ++ r1.cs ++ r2.cs).length → u.cell? ⟨b, o + j, none⟩ = (r0.cs ++ r1.cs ++ r2.cs)[j]? := by
 intro j hj
 have e : ∀ r : RL, r.cs.length = 3 := fun r => rfl
 rw [List.length_append, List.length_append, e, e, e] at hj
 by_cases c0 : j < 3
 ·rw [h0 j c0, List.getElem?_append_left (by rw [List.length_append, e, e]; omega), List.getElem?_append_left (by rw [e]; omega)]
 by_cases c1 : j < 6
 ·rw [List.getElem?_append_left (by rw [List.length_append, e, e]; omega), List.getElem?_append_right (by rw [e]; omega), e, ← h1 (j - 3) (by rw [e]; omega)]
  congr 2; omega
 rw [List.getElem?_append_right (by rw [List.length_append, e, e]; omega), List.length_append, e, e, ← h2 (j - 6) (by rw [e]; omega)]
 congr 2; omega
theorem pt_one (r0 r1 r2 : RL) : ∀ v ∈ r0.cs ++ r1.cs ++ r2.cs, v.oneCell' = true := fun v hv => by
 rcases List.mem_append.1 hv with hv | hv
 ·rcases List.mem_append.1 hv with hv | hv
  ·exact rl_one r0 v hv
  exact rl_one r1 v hv
 exact rl_one r2 v hv
theorem gr_data {cs : List Value} {t : TypeId} (h : u.heap[b]? = some (.cells cs.toArray t (0, 0))) (hc : cs.take (n * 9) = rcs L) (hl : cs.length = c * 9) (hn : n ≤ c) (hx : c ≤ maxLen) (hm : n ≤ 1000000) (hV : V.length = 3 * n) (hL : RatsN u L V K) : GrN u ⟨some ⟨b, 0, none⟩, n, c⟩ n V K := by
 refine ⟨rfl, hm, hn, hx, hV, L, ⟨by rw [zyy, hL.1, hV], Nat.le_refl _, by unfold maxLen; show 3 * n ≤ _; omega, fun _ => ⟨b, 0, rfl, fun j hj => ?_⟩⟩, hL⟩
 rw [Nat.zero_add, cells_at h, ← hc] 
 rw [← hc, List.length_take] at hj
 rw [List.getElem?_take_of_lt xq]
 simp
theorem gr_lit {t : TypeId} (h : u.heap[b]? = some (.cells (rcs L).toArray t (0, 0))) (hL : RatsN u L V K) (hV : V.length = 3 * n) (hm : n ≤ 1000000) : GrN u ⟨some ⟨b, 0, none⟩, n, n⟩ n V K :=
 gr_data h (by rw [List.take_of_length_le (by rw [zyy, hL.1, hV]; omega)]) (by rw [zyy, hL.1, hV]; omega) (Nat.le_refl _) yv hm hV hL
end
section
variable {P : Program} {ops : Array Oper} {w0 : Base} {u0 : World} {S : St} {u : World} {Q : MP} {listed : Array Bool} {n : Nat}
theorem anyX_mono : Mono (fun S u => AnyX P w0 u0 ops listed n S u Q) := fun S u u1 e h B a w u' e2 hr => h B a w u' (e.trans e2) hr
theorem readyX (rs : List Nat) (hr : (Region.ready .any ops listed == rs && !rs.isEmpty && rs.all fun i => Nat.blt i ops.size) = true)
  (h : ∀ i ∈ rs, sym P ops w0 u0 true [(ops.getD i default, [])] S u (fun S' u' => AnyX P w0 u0 ops (listed.setIfInBounds i true) n S' u' Q)) : AnyX P w0 u0 ops listed (n + 1) S u Q := by
 intro B a w u' e hrep
 simp only [Bool.and_eq_true, beq_iff_eq, Bool.not_eq_true', List.all_eq_true] at hr
 obtain ⟨⟨h1, h2⟩, h3⟩ := hr
 refine wpAny_all h1 (fun e => by rw [e] at h2; cases h2) fun i hi => ?_
 have hg : ops[i]? = some (ops.getD i default) := get_op (Nat.le_of_ble_eq_true (h3 i hi))
 have hs := one_sound (Q := fun e a' w' => ∃ S' B' u'', Rep w0 u0 S' B' a' w' u'' ∧ Q.f e S' u'') (zwd anyX_mono) (h i hi) e hrep
 have hfin : ∀ a' w', (∃ S' B' u'', Rep w0 u0 S' B' a' w' u'' ∧ (true = false → Ext u' u'') ∧ sym P ops w0 u0 true [] S' u'' (fun S' u' => AnyX P w0 u0 ops (listed.setIfInBounds i true) n S' u' Q)) → wpAny P .any ops (fun e a' w' => ∃ S' B' u'', Rep w0 u0 S' B' a' w' u'' ∧ Q.f e S' u'') n (listed.setIfInBounds i true) a' w' := by
  rintro a' w' ⟨S', B', u'', g1, _, g3⟩
  exact g3 B' a' w' u'' (Ext.refl _) g1
 unfold wpOp
 rw [hg]
 show if Region.wanted (ops.getD i default) (yielded ops a.tmps) = true then _ else _
 split
 ·rename_i hw
  rw [if_pos hw] at hs
  exact .inl (Oper.wp_mono hfin hs)
 rename_i hw
 rw [if_neg hw] at hs
 exact hfin _ _ hs
theorem ready1 (i : Nat) (listed' : Array Bool) (h : sym P ops w0 u0 true [(ops.getD i default, [])] S u (fun S' u' => AnyX P w0 u0 ops listed' n S' u' Q)) (hr : (Region.ready .any ops listed == [i] && !([i] : List Nat).isEmpty && [i].all fun i => Nat.blt i ops.size) = true := by kernel_rfl) (hl : listed.setIfInBounds i true = listed' := by kernel_rfl) : AnyX P w0 u0 ops listed (n + 1) S u Q :=
 readyX [i] hr fun j hj => by rw [List.mem_singleton] at hj; subst hj; rw [hl]; exact h
theorem ready2 (i k : Nat) (li lk : Array Bool) (h1 : sym P ops w0 u0 true [(ops.getD i default, [])] S u (fun S' u' => AnyX P w0 u0 ops li n S' u' Q)) (h2 : sym P ops w0 u0 true [(ops.getD k default, [])] S u (fun S' u' => AnyX P w0 u0 ops lk n S' u' Q)) (hr : (Region.ready .any ops listed == [i, k] && !([i, k] : List Nat).isEmpty && [i, k].all fun i => Nat.blt i ops.size) = true := by kernel_rfl) (hl : listed.setIfInBounds i true = li := by kernel_rfl) (hl2 : listed.setIfInBounds k true = lk := by kernel_rfl) : AnyX P w0 u0 ops listed (n + 1) S u Q :=
 readyX [i, k] hr fun j hj => by
  rcases List.mem_cons.1 hj with rfl | hj
  ·rw [hl]; exact h1
  rw [List.mem_singleton] at hj; subst hj; rw [hl2]; exact h2
theorem takeXv (i d n : Nat) {r t : Tmp} {off : Nat} (listed' : Array Bool) (k : AnyX P w0 u0 ops listed' n (S.set d (.adr t off)) u Q) (hp : ∀ c S u, ¬ Q.f (.panic c) S u := by intro c S u h; exact h) (hl : listed.setIfInBounds i true = listed' := by kernel_rfl)
  (hs : (Region.noSelect ops && Region.free .any ops listed i && (Region.ready .any ops listed).contains i && Nat.blt i ops.size && (ops.getD i default).dst == some d && (ops.getD i default).guard.isNone && freeB S d) = true := by kernel_rfl)
  (hop : (ops.getD i default).op = .move (.tmp r) := by rfl) (hx : S.reg r = some (.adr t off) := by rfl) (hv : (S.var t).isSome = true := by rfl) : AnyX P w0 u0 ops listed (n + 1) S u Q :=
 takeXR i d n _ rfl listed' k hp hl hs hv (fun B a w hr => by unfold execOp; rw [hop]; show Sem.run P (pure (Next.value (a.eval (.tmp r)))) w = _; rw [hr.eval hx]; rfl)
theorem doneX (h : sym P ops w0 u0 true [] S u (Q.f .normal)) (hr : (Region.ready .any ops listed).isEmpty = true := by kernel_rfl) : AnyX P w0 u0 ops listed n S u Q := by
 intro B a w u' e hrep
 exact wpAny_done (by simpa using hr) ⟨S, B, u', hrep, Q.mono _ _ _ _ e h⟩ n
end
section
variable (P : Program) (w0 : Base) (u0 : World)
def MP.into (I : Nat → St → World → Prop) (Q : MP) (hI : ∀ m, Mono (I m)) : MP where
 f e S u := match e with | .normal => ∃ m T, Weak S T ∧ I m T u | .goto _ => False | e => Q.f e S u
 mono e := by
  cases e <;> first | exact Q.mono _ | skip
  ·rintro S u u' he ⟨m, T, h1, h2⟩
   exact ⟨m, T, h1, hI m T u u' he h2⟩
  exact fun S u u' he h => h
def MP.jump (l : Nat) (I : Nat → St → World → Prop) (n : Nat) (Q : MP) (hI : ∀ m, Mono (I m)) : MP where
 f e S u := match e with | .goto l' => l' = l ∧ ∃ m, m < n ∧ ∃ T, Weak S T ∧ I m T u | e => Q.f e S u
 mono e := by
  cases e <;> first | exact Q.mono _ | skip
  rintro S u u' he ⟨hl, m, hm, T, h1, h2⟩
  exact ⟨hl, m, hm, T, h1, hI m T u u' he h2⟩
end
section
variable {P : Program} {w0 : Base} {u0 : World} {S T : St} {B : Tmp → Nat} {a : Act} {w u u' : World} {Q : MP} {c d A R : Code}
theorem sw_goto {l : Nat} (h : Q.f (.goto l) S u) : SW P w0 u0 (.goto l) S u Q := fun B a w u' e hr => wp_goto ⟨S, B, u', hr, Q.mono _ _ _ _ e h⟩
theorem mpg_seq {l : Nat} {c : Code} {Q : MP} (h : Q.f (.goto l) S u) : (MP.seq P w0 u0 c Q).f (.goto l) S u := h
theorem mpg_jump {l n m : Nat} {I : Nat → St → World → Prop} {Q : MP} {hI : ∀ m, Mono (I m)} (hm : m < n) (hw : Weak S T) (h : I m T u) : (MP.jump l I n Q hI).f (.goto l) S u := ⟨rfl, m, hm, T, hw, h⟩
theorem mpr_jump {l n : Nat} {I : Nat → St → World → Prop} {Q : MP} {hI : ∀ m, Mono (I m)} (h : Q.f .ret S u) : (MP.jump l I n Q hI).f .ret S u := h
theorem mpi_into {m : Nat} {I : Nat → St → World → Prop} {Q : MP} {hI : ∀ m, Mono (I m)} (hw : Weak S T) (h : I m T u) : (MP.into I Q hI).f .normal S u := ⟨m, T, hw, h⟩
end
theorem sw_joinP {P : Program} {w0 : Base} {u0 u : World} {S : St} {r c : Code} {Q : MP} (I : St → World → Prop) (h1 : ∀ S' u1, Ext u u1 → I S' u1 → SW P w0 u0 c S' u1 Q) (h2 : (∀ S' u1, Ext u u1 → I S' u1 → SW P w0 u0 c S' u1 Q) → SW P w0 u0 r S u (MP.seq P w0 u0 c Q)) : SW P w0 u0 r S u (MP.seq P w0 u0 c Q) := h2 h1
theorem RatsN.app {u : World} {L M : List RL} {l m : List Rat} {K : Nat} (h : RatsN u L l K) (k : RatsN u M m K) : RatsN u (L ++ M) (l ++ m) K := by
 refine ⟨by rw [List.length_append, List.length_append, h.1, k.1], fun i hi => ?_⟩
 rw [List.length_append] at hi
 have hL := h.1
 by_cases c : i < l.length
 ·have := h.2 i c
  rw [List.getD_eq_getElem?_getD, List.getD_eq_getElem?_getD] at this ⊢
  rw [List.getElem?_append_left xq, List.getElem?_append_left c]; exact this
 have := k.2 (i - l.length) xq
 rw [List.getD_eq_getElem?_getD, List.getD_eq_getElem?_getD] at this ⊢
 rw [List.getElem?_append_right xq, List.getElem?_append_right xq, hL]; exact this
set_option maxHeartbeats 8000000 in
theorem k_grid {u w : World} {x : Sl} {l : List Int} (d : Dat u w) (hx : SlR .i64 u x.a x.n x.c l) (hb : ∀ z ∈ l, -9223372036854775808 ≤ z ∧ z ≤ 9223372036854775807) : Calls Tryz.prog 11 #[x.v] w (Post u w fun v u' => ∃ (y : Sl) (N : Nat) (V : List Rat), v = y.v ∧ GrN u' y N V 1 ∧ Nt.GrOK V N) := by
 have hlen : l.length = x.n := hx.1
 refine zzm (args := [x.v]) Tryz.func11 rfl Tryz.ntmps11 (rs := [.tmp 2]) Tryz.results11 (le_b rfl) (le_b rfl) d ?_
 refine sq9 (zza 2 (.v (.slice none 0 0)) (zzb (sq9 (zza 7 (.v (x.v)) (zza 8 (.v (.agg #[x.v, .int .i64 0])) (zzk 9 ⟨108, [x.v, .int .i64 0]⟩ (zza 3 (.adr 9 0) (zzb (sq9 (zzg 10 30 _ fun _ _ ap jC => Post.mono (k_rqOf jC (z := (-1)) xq xq) ?_))))))))))
 rintro _ jb an ⟨hE, rfl, ik⟩
 refine zzk 4 ⟨32, zw3⟩ (zzj ⟨32, hE.cs⟩ ty32 ?_)
 refine zzb (sq9 (zza 5 (.v (.slice none 0 0)) (zzb (zzd (sq9 (zza 11 (.adr 9 0) ?_))))))
 have kc18 := fun (g : Nat) (w u1 : World) (e : Ext jb u1) (d : Dat u1 w) (hg : w.heap[g]? = some (.cells (tpc x 0).toArray 108 (0, 0))) (hu : u1.heap[g]? = some hidO) => (show Calls Tryz.prog 56 (Value.pointer (some ⟨g, 0, none⟩) :: [.int .i64 12]).toArray w _ from k_tapeNext (m := 12) d hg hu (SlR.ext (hx.ext (ap.t an.ext)) e) hb (Nat.zero_le _) yq yq)
 refine sy_lendP 12 56 (t := 9) (V := ⟨108, [x.v, .int .i64 0]⟩) [.int .i64 12] xj kc18 ?_
 clear kc18
 rintro v17 V17 hH ao ⟨eh, iL, rfl, gj, rfl, hd⟩
 refine zyq 13 (x := zI (IntKind.i64.wrap ((1 : Int) + (eh : Int)))) (zI (1 + eh : Nat)) (eqI xz) (zza 6 (zI (1 + eh : Nat)) (zzb (zzt ?_)))
 obtain ⟨N, hN⟩ : ∃ N, 1 + eh = N := ⟨_, rfl⟩
 have hN1 : 1 ≤ N := by omega
 have hN2 : N ≤ 12 := by have h9 := gj; omega
 refine zyn (I := fun fP S' u' => (∃ (k : Nat) (rx : RL) (q : Rat) (a9 : Nat), fP = k ∧ k + 0 = N ∧ a9 ≤ x.n ∧ Nt.GrP [] 0 q ∧ S' = St.of 40 [(3, .adr 9 0), (4, .adr 4 0), (5, .v (.slice none 0 0)), (6, zI k)] [(4, ⟨32, rx.cs⟩), (9, ⟨108, [x.v, .int .i64 a9]⟩)] ∧ Ext hH u' ∧ RatN u' rx q 1) ∨ (∃ (k : Nat) (rx : RL) (q : Rat) (a9 i : Nat) (L : List RL) (V : List Rat) (cs : List Value) (cp : Nat), fP = k ∧ k + i = N ∧ a9 ≤ x.n ∧ Nt.GrP V i q ∧ 0 < i ∧ cs.take (i * 9) = rcs L ∧ cs.length = cp * 9 ∧ i ≤ cp ∧ cp ≤ maxLen ∧ S' = St.of 40 [(3, .adr 9 0), (4, .adr 4 0), (5, .slc 32 0 i cp), (6, zI k)] [(4, ⟨32, rx.cs⟩), (9, ⟨108, [x.v, .int .i64 a9]⟩), (32, ⟨56, cs⟩)] ∧ Ext hH u' ∧ RatN u' rx q 1 ∧ RatsN u' L V 1)) (fun m S u1 u2 e h => by rcases h with ⟨k, rx, q, a9, a1, a2, a3, a4, a5, a6, a7⟩ | ⟨k, rx, q, a9, i, L, V, cs, cp, a1, a2, a3, a4, a5, a6, a7, a8, a10, a11, a12, a13, a14⟩; exact .inl ⟨k, rx, q, a9, a1, a2, a3, a4, a5, a6.trans e, a7.ext e⟩; exact .inr ⟨k, rx, q, a9, i, L, V, cs, cp, a1, a2, a3, a4, a5, a6, a7, a8, a10, a11, a12.trans e, a13.ext e, a14.ext e⟩) _ yk (.inl ⟨1 + eh, hE, _, iL, rfl, by omega, hd, Nt.grP_0, rfl, (Ext.refl _), RatN.fit (K := 2) (ik.ext ao) (Nt.grP_0.rs xq)⟩) ?_
 rintro fP _ ft (⟨k, rx, q, a9, iG, hkN, eu, hG, rfl, ak, aq⟩ | ⟨k, rx, q, a9, i, L, V, cs, cp, iG, hkN, eu, hG, hi0, cO, iW, hr, gJ, rfl, ak, aq, c0⟩)
 ·change SW _ _ _ _ (St.of 40 [(3, .adr 9 0), (4, .adr 4 0), (5, .v (.slice none 0 0)), (6, .v (.int .i64 (k : Int)))] [(4, ⟨32, rx.cs⟩), (9, ⟨108, [.slice x.a x.n x.c, .int .i64 (a9 : Int)]⟩)]) _ _
  refine zzd (sq9 (zza 14 (zI k) (zza 15 (zB (decide ((0 : Int) < (k : Int)))) (zzb (zzu (b := decide ((0 : Int) < (k : Int))) xj (fun dn => ?_) (fun dn => ?_))))))
  ·have qhb20 := of_decide_eq_true dn
   refine zzs (zzp ?_)
   refine zzd (zzt (zzd (sw_joinP (I := fun S' u' => ∃ (a1 : Nat) (y1 : Rat) (w1 : Rat) (L1 : List RL) (aR : List Value) (aM : Nat), (a1 ≤ x.n) ∧ (Nt.Wh (y1 * (((840 : Nat) : Int) : Rat)) 14) ∧ (∃ a b : Nat, w1 * (b : Rat) = (a : Rat) ∧ 1 ≤ a ∧ a ≤ 8 ∧ 1 ≤ b ∧ b ≤ 4) ∧ (aR.take ((0 + 1) * 9) = rcs L1) ∧ (aR.length = aM * 9) ∧ (0 + 1 ≤ aM) ∧ (aM ≤ maxLen) ∧ (S' = St.of 40 [(3, .adr 9 0), (4, .adr 4 0), (5, .slc 32 0 (0 + 1) aM), (6, zI k)] [(4, ⟨32, rx.cs⟩), (9, ⟨108, [x.v, .int .i64 a1]⟩), (32, ⟨56, aR⟩)]) ∧ (RatsN u' L1 ([] ++ [q, y1, w1]) 1) ∧ (RatN u' rx q 1)) ?_ (fun am => ?_))))
   ·rintro _ ei b7 ⟨a1, y1, w1, L1, aR, aM, dA, dk, du, cZ, c5, aQ, aS, rfl, df, da⟩
    refine sw_anyX xj 7 rfl ?_
    refine takeXv 1 34 6 #[false, true, false, false, false, false, false] ?_
    refine ready2 0 2 #[true, true, false, false, false, false, false] #[false, true, true, false, false, false, false] ?_ ?_
    ·skip
     refine zzi 33 (.v (rx.v)) ty32 zze (zzx ?_)
     refine ready1 2 #[true, true, true, false, false, false, false] ?_
     have kc23 := fun (g : Nat) (w u1 : World) (e : Ext ei u1) (d : Dat u1 w) (hg : w.heap[g]? = some (.cells (tpc x a1).toArray 108 (0, 0))) (hu : u1.heap[g]? = some hidO) => (show Calls Tryz.prog 56 (Value.pointer (some ⟨g, 0, none⟩) :: [.int .i64 4]).toArray w _ from k_tapeNext (m := 4) d hg hu (SlR.ext (hx.ext (ap.t (an.t (ao.trans (ak.trans b7))))) e) hb dA yq yq)
     refine sy_lendP 35 56 (t := 9) (V := ⟨108, [x.v, .int .i64 a1]⟩) [.int .i64 4] xj kc23 ?_
     clear kc23
     rintro v22 V22 u22 hq ⟨fg, i4, rfl, eA, rfl, g9⟩
     refine zzx ?_
     refine takeXe 3 36 3 (x := .v (.int .i64 (IntKind.i64.wrap ((1 : Int) + (fg : Int))))) (.v (.int .i64 ((1 + fg : Nat) : Int))) (eqI xz) #[true, true, true, true, false, false, false] ?_
     refine ready1 4 #[true, true, true, true, true, false, false] ?_
     refine zzg 37 23 _ fun _ _ g1 iq => Post.mono (k_rqFrac iq (a := ((1 + fg : Nat) : Int)) (b := 12) xq xq xq xq) ?_
     rintro _ u27 gu ⟨r25, rfl, iw⟩
     refine zzx ?_
     refine ready1 5 #[true, true, true, true, true, true, false] ?_
     refine zzg 38 58 _ fun _ _ fz iz => Post.mono (k_rqAdd iz (da.ext (hq.t (g1.t (gu.t fz)))).raw (iw.ext fz).raw xq xq) ?_
     rintro _ u33 hP ⟨hS, rfl, jv⟩
     refine zzx ?_
     refine ready1 6 #[true, true, true, true, true, true, true] ?_
     refine zzj ⟨32, hS.cs⟩ ty32 ?_
     refine zzx ?_
     refine doneX ?_
     refine zzx ?_
     refine zzp (zzf (zza 16 (zI k) (zyq 17 (x := zI (IntKind.i64.wrap ((k : Int) - 1))) (zI (k - 1 : Nat)) (eqI xz) (zza 6 (zI (k - 1 : Nat)) (zzx ?_)))))
     have hGn : Nt.GrP ([] ++ [q, y1, w1]) (0 + 1) ((q + (((((1 + fg : Nat) : Int) : Int) : Rat) / ((12 : Int) : Rat)))) := Nt.GrP.step (d := ((1 + fg : Nat) : Int)) hG xq dk du (by have h9 := eA; omega) (by have h9 := eA; omega)
     refine ⟨_, ?_, _, by exact zzv _ _ _, .inr ⟨k - 1, hS, _, i4, 0 + 1, L1, _, aR, aM, rfl, by omega, g9, hGn, by omega, cZ, c5, aQ, aS, rfl, (ak.t (b7.t (hq.t (g1.t (gu.t (fz.t hP.ext)))))), RatN.fit (K := (1 + 3 + 2)) jv (hGn.rs xq), (df.ext (hq.t (g1.t (gu.t (fz.t hP.ext)))))⟩⟩
     omega
    have kc37 := fun (g : Nat) (w u1 : World) (e : Ext ei u1) (d : Dat u1 w) (hg : w.heap[g]? = some (.cells (tpc x a1).toArray 108 (0, 0))) (hu : u1.heap[g]? = some hidO) => (show Calls Tryz.prog 56 (Value.pointer (some ⟨g, 0, none⟩) :: [.int .i64 4]).toArray w _ from k_tapeNext (m := 4) d hg hu (SlR.ext (hx.ext (ap.t (an.t (ao.trans (ak.trans b7))))) e) hb dA yq yq)
    refine sy_lendP 35 56 (t := 9) (V := ⟨108, [x.v, .int .i64 a1]⟩) [.int .i64 4] xj kc37 ?_
    clear kc37
    rintro v36 V36 u36 dx ⟨cG, hC, rfl, cC, rfl, fb⟩
    refine zzx ?_
    refine takeXe 3 36 4 (x := .v (.int .i64 (IntKind.i64.wrap ((1 : Int) + (cG : Int))))) (.v (.int .i64 ((1 + cG : Nat) : Int))) (eqI xz) #[false, true, true, true, false, false, false] ?_
    refine ready2 0 4 #[true, true, true, true, false, false, false] #[false, true, true, true, true, false, false] ?_ ?_
    ·skip
     refine zzi 33 (.v (rx.v)) ty32 zze (zzx ?_)
     refine ready1 4 #[true, true, true, true, true, false, false] ?_
     refine zzg 37 23 _ fun _ _ gM hU => Post.mono (k_rqFrac hU (a := ((1 + cG : Nat) : Int)) (b := 12) xq xq xq xq) ?_
     rintro _ u41 g4 ⟨r39, rfl, jj⟩
     refine zzx ?_
     refine ready1 5 #[true, true, true, true, true, true, false] ?_
     refine zzg 38 58 _ fun _ _ fs iB => Post.mono (k_rqAdd iB (da.ext (dx.t (gM.t (g4.t fs)))).raw (jj.ext fs).raw xq xq) ?_
     rintro _ u47 hO ⟨hJ, rfl, h4⟩
     refine zzx ?_
     refine ready1 6 #[true, true, true, true, true, true, true] ?_
     refine zzj ⟨32, hJ.cs⟩ ty32 ?_
     refine zzx ?_
     refine doneX ?_
     refine zzx ?_
     refine zzp (zzf (zza 16 (zI k) (zyq 17 (x := zI (IntKind.i64.wrap ((k : Int) - 1))) (zI (k - 1 : Nat)) (eqI xz) (zza 6 (zI (k - 1 : Nat)) (zzx ?_)))))
     have hGn : Nt.GrP ([] ++ [q, y1, w1]) (0 + 1) ((q + (((((1 + cG : Nat) : Int) : Int) : Rat) / ((12 : Int) : Rat)))) := Nt.GrP.step (d := ((1 + cG : Nat) : Int)) hG xq dk du (by have h9 := cC; omega) (by have h9 := cC; omega)
     refine ⟨_, ?_, _, by exact zzv _ _ _, .inr ⟨k - 1, hJ, _, hC, 0 + 1, L1, _, aR, aM, rfl, by omega, fb, hGn, by omega, cZ, c5, aQ, aS, rfl, (ak.t (b7.t (dx.t (gM.t (g4.t (fs.t hO.ext)))))), RatN.fit (K := (1 + 3 + 2)) h4 (hGn.rs xq), (df.ext (dx.t (gM.t (g4.t (fs.t hO.ext)))))⟩⟩
     omega
    refine zzg 37 23 _ fun _ _ g6 iO => Post.mono (k_rqFrac iO (a := ((1 + cG : Nat) : Int)) (b := 12) xq xq xq xq) ?_
    rintro _ u53 gk ⟨r51, rfl, iV⟩
    refine zzx ?_
    refine ready1 0 #[true, true, true, true, true, false, false] ?_
    refine zzi 33 (.v (rx.v)) ty32 zze (zzx ?_)
    refine ready1 5 #[true, true, true, true, true, true, false] ?_
    refine zzg 38 58 _ fun _ _ fv iP => Post.mono (k_rqAdd iP (da.ext (dx.t (g6.t (gk.t fv)))).raw (iV.ext fv).raw xq xq) ?_
    rintro _ u59 hI ⟨hL, rfl, h8⟩
    refine zzx ?_
    refine ready1 6 #[true, true, true, true, true, true, true] ?_
    refine zzj ⟨32, hL.cs⟩ ty32 ?_
    refine zzx ?_
    refine doneX ?_
    refine zzx ?_
    refine zzp (zzf (zza 16 (zI k) (zyq 17 (x := zI (IntKind.i64.wrap ((k : Int) - 1))) (zI (k - 1 : Nat)) (eqI xz) (zza 6 (zI (k - 1 : Nat)) (zzx ?_)))))
    have hGn : Nt.GrP ([] ++ [q, y1, w1]) (0 + 1) ((q + (((((1 + cG : Nat) : Int) : Int) : Rat) / ((12 : Int) : Rat)))) := Nt.GrP.step (d := ((1 + cG : Nat) : Int)) hG xq dk du (by have h9 := cC; omega) (by have h9 := cC; omega)
    refine ⟨_, ?_, _, by exact zzv _ _ _, .inr ⟨k - 1, hL, _, hC, 0 + 1, L1, _, aR, aM, rfl, by omega, fb, hGn, by omega, cZ, c5, aQ, aS, rfl, (ak.t (b7.t (dx.t (g6.t (gk.t (fv.t hI.ext)))))), RatN.fit (K := (1 + 3 + 2)) h8 (hGn.rs xq), (df.ext (dx.t (g6.t (gk.t (fv.t hI.ext)))))⟩⟩
    omega
   refine sw_anyX xj 16 rfl ?_
   refine takeX 0 18 15 (.v (.slice none 0 0)) #[true, false, false, false, false, false, false, false, false, false, false, false, false, false, false, false] ?_
   refine takeXv 2 20 14 #[true, false, true, false, false, false, false, false, false, false, false, false, false, false, false, false] ?_
   refine takeXv 5 23 13 #[true, false, true, false, false, true, false, false, false, false, false, false, false, false, false, false] ?_
   refine takeXv 8 26 12 #[true, false, true, false, false, true, false, false, true, false, false, false, false, false, false, false] ?_
   refine ready2 1 3 #[true, true, true, false, false, true, false, false, true, false, false, false, false, false, false, false] #[true, false, true, true, false, true, false, false, true, false, false, false, false, false, false, false] ?_ ?_
   ·skip
    refine zzi 19 (.v (rx.v)) ty32 zze (zzx ?_)
    refine ready1 3 #[true, true, true, true, false, true, false, false, true, false, false, false, false, false, false, false] ?_
    have kc63 := fun (g : Nat) (w u1 : World) (e : Ext ft u1) (d : Dat u1 w) (hg : w.heap[g]? = some (.cells (tpc x a9).toArray 108 (0, 0))) (hu : u1.heap[g]? = some hidO) => (show Calls Tryz.prog 56 (Value.pointer (some ⟨g, 0, none⟩) :: [.int .i64 200]).toArray w _ from k_tapeNext (m := 200) d hg hu (SlR.ext (hx.ext (ap.t (an.t (ao.trans ak)))) e) hb eu yq yq)
    refine sy_lendP 21 56 (t := 9) (V := ⟨108, [x.v, .int .i64 a9]⟩) [.int .i64 200] xj kc63 ?_
    clear kc63
    rintro v62 V62 u62 dU ⟨ge, hT, rfl, h7, rfl, gV⟩
    refine zzx ?_
    refine ready1 4 #[true, true, true, true, true, true, false, false, true, false, false, false, false, false, false, false] ?_
    refine zzg 22 57 _ fun _ _ fj jk => Post.mono (k_mkRat jk (n := (ge : Int)) xq xq) ?_
    rintro _ h3 eE ⟨cd, rfl, ib⟩
    refine zzx ?_
    refine ready1 6 #[true, true, true, true, true, true, true, false, true, false, false, false, false, false, false, false] ?_
    have kc71 := fun (g : Nat) (w u1 : World) (e : Ext h3 u1) (d : Dat u1 w) (hg : w.heap[g]? = some (.cells (tpc x hT).toArray 108 (0, 0))) (hu : u1.heap[g]? = some hidO) => (show Calls Tryz.prog 56 (Value.pointer (some ⟨g, 0, none⟩) :: [.int .i64 8]).toArray w _ from k_tapeNext (m := 8) d hg hu (SlR.ext (hx.ext (ap.t (an.t (ao.t (ak.t (dU.t (fj.t eE.ext))))))) e) hb gV yq yq)
    refine sy_lendP 24 56 (t := 9) (V := ⟨108, [x.v, .int .i64 hT]⟩) [.int .i64 8] xj kc71 ?_
    clear kc71
    rintro v70 V70 jA em ⟨dQ, hR, rfl, fY, rfl, fQ⟩
    refine zzx ?_
    refine takeXe 7 25 7 (x := .v (.int .i64 (IntKind.i64.wrap ((1 : Int) + (dQ : Int))))) (.v (.int .i64 ((1 + dQ : Nat) : Int))) (eqI xz) #[true, true, true, true, true, true, true, true, true, false, false, false, false, false, false, false] ?_
    refine ready1 9 #[true, true, true, true, true, true, true, true, true, true, false, false, false, false, false, false] ?_
    have kc73 := fun (g : Nat) (w u1 : World) (e : Ext jA u1) (d : Dat u1 w) (hg : w.heap[g]? = some (.cells (tpc x hR).toArray 108 (0, 0))) (hu : u1.heap[g]? = some hidO) => (show Calls Tryz.prog 56 (Value.pointer (some ⟨g, 0, none⟩) :: [.int .i64 4]).toArray w _ from k_tapeNext (m := 4) d hg hu (SlR.ext (hx.ext (ap.t (an.t (ao.t (ak.t (dU.t (fj.t (eE.t em)))))))) e) hb fQ yq yq)
    refine sy_lendP 27 56 (t := 9) (V := ⟨108, [x.v, .int .i64 hR]⟩) [.int .i64 4] xj kc73 ?_
    clear kc73
    rintro v72 V72 u72 fA ⟨eX, hD, rfl, fD, rfl, gS⟩
    refine zzx ?_
    refine takeXe 10 28 5 (x := .v (.int .i64 (IntKind.i64.wrap ((1 : Int) + (eX : Int))))) (.v (.int .i64 ((1 + eX : Nat) : Int))) (eqI xz) #[true, true, true, true, true, true, true, true, true, true, true, false, false, false, false, false] ?_
    refine ready1 11 #[true, true, true, true, true, true, true, true, true, true, true, true, false, false, false, false] ?_
    refine zzg 29 23 _ fun _ _ fu i7 => Post.mono (k_rqFrac i7 (a := ((1 + dQ : Nat) : Int)) (b := ((1 + eX : Nat) : Int)) xq xq xq xq) ?_
    rintro _ u77 fx ⟨bC, rfl, jw⟩
    refine zzx ?_
    refine takeX 12 30 3 (.v (.agg #[.bool rx.s, rx.m.v, rx.d.v, .bool cd.s, cd.m.v, cd.d.v, .bool bC.s, bC.m.v, bC.d.v])) #[true, true, true, true, true, true, true, true, true, true, true, true, true, false, false, false] ?_
    refine ready1 13 #[true, true, true, true, true, true, true, true, true, true, true, true, true, true, false, false] ?_
    refine zxx 31 ⟨56, rx.cs ++ cd.cs ++ bC.cs⟩ 1 (fun hX jg dP iE => ?_)
    refine zzx ?_
    refine ready1 14 #[true, true, true, true, true, true, true, true, true, true, true, true, true, true, true, false] ?_
    refine sy_app0 32 (T := 23) (E := 56) (z := .agg #[.bool false, .slice none 0 0, .slice none 0 0, .bool false, .slice none 0 0, .slice none 0 0, .bool false, .slice none 0 0, .slice none 0 0]) (size := 9) (bytes := 168) (b := hX) (off := 0) (m := 1) (rx.cs ++ cd.cs ++ bC.cs) xj xj xj yq rfl (lit_news ((Ext.refl _).cells iE)) (pt_one rx cd bC) yq yq yq ?_
    intro hy cS fS fE gA gh
    have dZ : cS.take (1 * 9) = rcs [rx, cd, bC] := by rw [show rcs [rx, cd, bC] = (rx.cs ++ cd.cs ++ bC.cs) from by simp [rcs]]; exact gh
    refine zzx ?_
    refine ready1 15 #[true, true, true, true, true, true, true, true, true, true, true, true, true, true, true, true] ?_
    refine zza 5 (.slc 32 0 1 hy) (zzx ?_)
    refine doneX ?_
    have hfw := Nt.frW fY fD
    have hRn : RatsN jg ([rx, cd, bC]) ([] ++ [q, (Nt.mkR (ge : Int)), (((((1 + dQ : Nat) : Int) : Int) : Rat) / ((((1 + eX : Nat) : Int) : Int) : Rat))]) 1 := (rats3 (aq.ext (dU.t (fj.t (eE.t (em.t (fA.t (fu.t (fx.t dP)))))))) (ib.ext (em.t (fA.t (fu.t (fx.t dP))))) (RatN.fit (K := 3) (jw.ext dP) hfw.2))
    refine zzc 40 [(3, .adr 9 0), (4, .adr 4 0), (5, .slc 32 0 1 hy), (6, zI k)] [(4, ⟨32, rx.cs⟩), (9, ⟨108, [x.v, .int .i64 hD]⟩), (32, ⟨56, cS⟩)] ?_
    exact am _ _ (dU.t (fj.t (eE.t (em.t (fA.t (fu.t (fx.t dP))))))) ⟨hD, (Nt.mkR (ge : Int)), (((((1 + dQ : Nat) : Int) : Int) : Rat) / ((((1 + eX : Nat) : Int) : Int) : Rat)), [rx, cd, bC], cS, hy, gS, (Nt.mkR_wh _), hfw.1, dZ, gA, fS, fE, rfl, hRn, (aq.ext (dU.t (fj.t (eE.t (em.t (fA.t (fu.t (fx.t dP))))))))⟩
   have kc86 := fun (g : Nat) (w u1 : World) (e : Ext ft u1) (d : Dat u1 w) (hg : w.heap[g]? = some (.cells (tpc x a9).toArray 108 (0, 0))) (hu : u1.heap[g]? = some hidO) => (show Calls Tryz.prog 56 (Value.pointer (some ⟨g, 0, none⟩) :: [.int .i64 200]).toArray w _ from k_tapeNext (m := 200) d hg hu (SlR.ext (hx.ext (ap.t (an.t (ao.trans ak)))) e) hb eu yq yq)
   refine sy_lendP 21 56 (t := 9) (V := ⟨108, [x.v, .int .i64 a9]⟩) [.int .i64 200] xj kc86 ?_
   clear kc86
   rintro v85 V85 u85 aI ⟨bk, dy, rfl, iY, rfl, dj⟩
   refine zzx ?_
   refine ready2 1 4 #[true, true, true, true, false, true, false, false, true, false, false, false, false, false, false, false] #[true, false, true, true, true, true, false, false, true, false, false, false, false, false, false, false] ?_ ?_
   ·skip
    refine zzi 19 (.v (rx.v)) ty32 zze (zzx ?_)
    refine ready1 4 #[true, true, true, true, true, true, false, false, true, false, false, false, false, false, false, false] ?_
    refine zzg 22 57 _ fun _ _ ep hY => Post.mono (k_mkRat hY (n := (bk : Int)) xq xq) ?_
    rintro _ i0 dO ⟨bp, rfl, hV⟩
    refine zzx ?_
    refine ready1 6 #[true, true, true, true, true, true, true, false, true, false, false, false, false, false, false, false] ?_
    have kc94 := fun (g : Nat) (w u1 : World) (e : Ext i0 u1) (d : Dat u1 w) (hg : w.heap[g]? = some (.cells (tpc x dy).toArray 108 (0, 0))) (hu : u1.heap[g]? = some hidO) => (show Calls Tryz.prog 56 (Value.pointer (some ⟨g, 0, none⟩) :: [.int .i64 8]).toArray w _ from k_tapeNext (m := 8) d hg hu (SlR.ext (hx.ext (ap.t (an.t (ao.t (ak.t (aI.t (ep.t dO.ext))))))) e) hb dj yq yq)
    refine sy_lendP 24 56 (t := 9) (V := ⟨108, [x.v, .int .i64 dy]⟩) [.int .i64 8] xj kc94 ?_
    clear kc94
    rintro v93 V93 iN dS ⟨e2, hK, rfl, fZ, rfl, hj⟩
    refine zzx ?_
    refine takeXe 7 25 7 (x := .v (.int .i64 (IntKind.i64.wrap ((1 : Int) + (e2 : Int))))) (.v (.int .i64 ((1 + e2 : Nat) : Int))) (eqI xz) #[true, true, true, true, true, true, true, true, true, false, false, false, false, false, false, false] ?_
    refine ready1 9 #[true, true, true, true, true, true, true, true, true, true, false, false, false, false, false, false] ?_
    have kc96 := fun (g : Nat) (w u1 : World) (e : Ext iN u1) (d : Dat u1 w) (hg : w.heap[g]? = some (.cells (tpc x hK).toArray 108 (0, 0))) (hu : u1.heap[g]? = some hidO) => (show Calls Tryz.prog 56 (Value.pointer (some ⟨g, 0, none⟩) :: [.int .i64 4]).toArray w _ from k_tapeNext (m := 4) d hg hu (SlR.ext (hx.ext (ap.t (an.t (ao.t (ak.t (aI.t (ep.t (dO.t dS)))))))) e) hb hj yq yq)
    refine sy_lendP 27 56 (t := 9) (V := ⟨108, [x.v, .int .i64 hK]⟩) [.int .i64 4] xj kc96 ?_
    clear kc96
    rintro v95 V95 u95 fy ⟨e6, hB, rfl, f8, rfl, ho⟩
    refine zzx ?_
    refine takeXe 10 28 5 (x := .v (.int .i64 (IntKind.i64.wrap ((1 : Int) + (e6 : Int))))) (.v (.int .i64 ((1 + e6 : Nat) : Int))) (eqI xz) #[true, true, true, true, true, true, true, true, true, true, true, false, false, false, false, false] ?_
    refine ready1 11 #[true, true, true, true, true, true, true, true, true, true, true, true, false, false, false, false] ?_
    refine zzg 29 23 _ fun _ _ fw jB => Post.mono (k_rqFrac jB (a := ((1 + e2 : Nat) : Int)) (b := ((1 + e6 : Nat) : Int)) xq xq xq xq) ?_
    rintro _ i8 cj ⟨bv, rfl, iF⟩
    refine zzx ?_
    refine takeX 12 30 3 (.v (.agg #[.bool rx.s, rx.m.v, rx.d.v, .bool bp.s, bp.m.v, bp.d.v, .bool bv.s, bv.m.v, bv.d.v])) #[true, true, true, true, true, true, true, true, true, true, true, true, true, false, false, false] ?_
    refine ready1 13 #[true, true, true, true, true, true, true, true, true, true, true, true, true, true, false, false] ?_
    refine zxx 31 ⟨56, rx.cs ++ bp.cs ++ bv.cs⟩ 1 (fun gl f2 bA hc => ?_)
    refine zzx ?_
    refine ready1 14 #[true, true, true, true, true, true, true, true, true, true, true, true, true, true, true, false] ?_
    refine sy_app0 32 (T := 23) (E := 56) (z := .agg #[.bool false, .slice none 0 0, .slice none 0 0, .bool false, .slice none 0 0, .slice none 0 0, .bool false, .slice none 0 0, .slice none 0 0]) (size := 9) (bytes := 168) (b := gl) (off := 0) (m := 1) (rx.cs ++ bp.cs ++ bv.cs) xj xj xj yq rfl (lit_news ((Ext.refl _).cells hc)) (pt_one rx bp bv) yq yq yq ?_
    intro c7 bQ dD d7 ee eJ
    have dr : bQ.take (1 * 9) = rcs [rx, bp, bv] := by rw [show rcs [rx, bp, bv] = (rx.cs ++ bp.cs ++ bv.cs) from by simp [rcs]]; exact eJ
    refine zzx ?_
    refine ready1 15 #[true, true, true, true, true, true, true, true, true, true, true, true, true, true, true, true] ?_
    refine zza 5 (.slc 32 0 1 c7) (zzx ?_)
    refine doneX ?_
    have hfw := Nt.frW fZ f8
    have hRn : RatsN f2 ([rx, bp, bv]) ([] ++ [q, (Nt.mkR (bk : Int)), (((((1 + e2 : Nat) : Int) : Int) : Rat) / ((((1 + e6 : Nat) : Int) : Int) : Rat))]) 1 := (rats3 (aq.ext (aI.t (ep.t (dO.t (dS.t (fy.t (fw.t (cj.t bA)))))))) (hV.ext (dS.t (fy.t (fw.t (cj.t bA))))) (RatN.fit (K := 3) (iF.ext bA) hfw.2))
    refine zzc 40 [(3, .adr 9 0), (4, .adr 4 0), (5, .slc 32 0 1 c7), (6, zI k)] [(4, ⟨32, rx.cs⟩), (9, ⟨108, [x.v, .int .i64 hB]⟩), (32, ⟨56, bQ⟩)] ?_
    exact am _ _ (aI.t (ep.t (dO.t (dS.t (fy.t (fw.t (cj.t bA))))))) ⟨hB, (Nt.mkR (bk : Int)), (((((1 + e2 : Nat) : Int) : Int) : Rat) / ((((1 + e6 : Nat) : Int) : Int) : Rat)), [rx, bp, bv], bQ, c7, ho, (Nt.mkR_wh _), hfw.1, dr, ee, dD, d7, rfl, hRn, (aq.ext (aI.t (ep.t (dO.t (dS.t (fy.t (fw.t (cj.t bA))))))))⟩
   refine zzg 22 57 _ fun _ _ ah fW => Post.mono (k_mkRat fW (n := (bk : Int)) xq xq) ?_
   rintro _ eN ag ⟨ac, rfl, cz⟩
   refine zzx ?_
   refine ready2 1 6 #[true, true, true, true, true, true, false, false, true, false, false, false, false, false, false, false] #[true, false, true, true, true, true, true, false, true, false, false, false, false, false, false, false] ?_ ?_
   ·skip
    refine zzi 19 (.v (rx.v)) ty32 zze (zzx ?_)
    refine ready1 6 #[true, true, true, true, true, true, true, false, true, false, false, false, false, false, false, false] ?_
    have kc115 := fun (g : Nat) (w u1 : World) (e : Ext eN u1) (d : Dat u1 w) (hg : w.heap[g]? = some (.cells (tpc x dy).toArray 108 (0, 0))) (hu : u1.heap[g]? = some hidO) => (show Calls Tryz.prog 56 (Value.pointer (some ⟨g, 0, none⟩) :: [.int .i64 8]).toArray w _ from k_tapeNext (m := 8) d hg hu (SlR.ext (hx.ext (ap.t (an.t (ao.t (ak.t (aI.t (ah.t ag.ext))))))) e) hb dj yq yq)
    refine sy_lendP 24 56 (t := 9) (V := ⟨108, [x.v, .int .i64 dy]⟩) [.int .i64 8] xj kc115 ?_
    clear kc115
    rintro jp iv gf bB ⟨bG, fn, rfl, eY, rfl, dC⟩
    refine zzx ?_
    refine takeXe 7 25 7 (x := .v (.int .i64 (IntKind.i64.wrap ((1 : Int) + (bG : Int))))) (.v (.int .i64 ((1 + bG : Nat) : Int))) (eqI xz) #[true, true, true, true, true, true, true, true, true, false, false, false, false, false, false, false] ?_
    refine ready1 9 #[true, true, true, true, true, true, true, true, true, true, false, false, false, false, false, false] ?_
    have kc117 := fun (g : Nat) (w u1 : World) (e : Ext gf u1) (d : Dat u1 w) (hg : w.heap[g]? = some (.cells (tpc x fn).toArray 108 (0, 0))) (hu : u1.heap[g]? = some hidO) => (show Calls Tryz.prog 56 (Value.pointer (some ⟨g, 0, none⟩) :: [.int .i64 4]).toArray w _ from k_tapeNext (m := 4) d hg hu (SlR.ext (hx.ext (ap.t (an.t (ao.t (ak.t (aI.t (ah.t (ag.t bB)))))))) e) hb dC yq yq)
    refine sy_lendP 27 56 (t := 9) (V := ⟨108, [x.v, .int .i64 fn]⟩) [.int .i64 4] xj kc117 ?_
    clear kc117
    rintro ir iH jr cn ⟨bK, fo, rfl, dV, rfl, e1⟩
    refine zzx ?_
    refine takeXe 10 28 5 (x := .v (.int .i64 (IntKind.i64.wrap ((1 : Int) + (bK : Int))))) (.v (.int .i64 ((1 + bK : Nat) : Int))) (eqI xz) #[true, true, true, true, true, true, true, true, true, true, true, false, false, false, false, false] ?_
    refine ready1 11 #[true, true, true, true, true, true, true, true, true, true, true, true, false, false, false, false] ?_
    refine zzg 29 23 _ fun _ _ ct gt => Post.mono (k_rqFrac gt (a := ((1 + bG : Nat) : Int)) (b := ((1 + bK : Nat) : Int)) xq xq xq xq) ?_
    rintro _ jl cu ⟨aC, rfl, gp⟩
    refine zzx ?_
    refine takeX 12 30 3 (.v (.agg #[.bool rx.s, rx.m.v, rx.d.v, .bool ac.s, ac.m.v, ac.d.v, .bool aC.s, aC.m.v, aC.d.v])) #[true, true, true, true, true, true, true, true, true, true, true, true, true, false, false, false] ?_
    refine ready1 13 #[true, true, true, true, true, true, true, true, true, true, true, true, true, true, false, false] ?_
    refine zxx 31 ⟨56, rx.cs ++ ac.cs ++ aC.cs⟩ 1 (fun fK gD b4 gN => ?_)
    refine zzx ?_
    refine ready1 14 #[true, true, true, true, true, true, true, true, true, true, true, true, true, true, true, false] ?_
    refine sy_app0 32 (T := 23) (E := 56) (z := .agg #[.bool false, .slice none 0 0, .slice none 0 0, .bool false, .slice none 0 0, .slice none 0 0, .bool false, .slice none 0 0, .slice none 0 0]) (size := 9) (bytes := 168) (b := fK) (off := 0) (m := 1) (rx.cs ++ ac.cs ++ aC.cs) xj xj xj yq rfl (lit_news ((Ext.refl _).cells gN)) (pt_one rx ac aC) yq yq yq ?_
    intro dt br fa dL eR dH
    have de : br.take (1 * 9) = rcs [rx, ac, aC] := by rw [show rcs [rx, ac, aC] = (rx.cs ++ ac.cs ++ aC.cs) from by simp [rcs]]; exact dH
    refine zzx ?_
    refine ready1 15 #[true, true, true, true, true, true, true, true, true, true, true, true, true, true, true, true] ?_
    refine zza 5 (.slc 32 0 1 dt) (zzx ?_)
    refine doneX ?_
    have hfw := Nt.frW eY dV
    have hRn : RatsN gD ([rx, ac, aC]) ([] ++ [q, (Nt.mkR (bk : Int)), (((((1 + bG : Nat) : Int) : Int) : Rat) / ((((1 + bK : Nat) : Int) : Int) : Rat))]) 1 := (rats3 (aq.ext (aI.t (ah.t (ag.t (bB.t (cn.t (ct.t (cu.t b4)))))))) (cz.ext (bB.t (cn.t (ct.t (cu.t b4))))) (RatN.fit (K := 3) (gp.ext b4) hfw.2))
    refine zzc 40 [(3, .adr 9 0), (4, .adr 4 0), (5, .slc 32 0 1 dt), (6, zI k)] [(4, ⟨32, rx.cs⟩), (9, ⟨108, [x.v, .int .i64 fo]⟩), (32, ⟨56, br⟩)] ?_
    exact am _ _ (aI.t (ah.t (ag.t (bB.t (cn.t (ct.t (cu.t b4))))))) ⟨fo, (Nt.mkR (bk : Int)), (((((1 + bG : Nat) : Int) : Int) : Rat) / ((((1 + bK : Nat) : Int) : Int) : Rat)), [rx, ac, aC], br, dt, e1, (Nt.mkR_wh _), hfw.1, de, eR, fa, dL, rfl, hRn, (aq.ext (aI.t (ah.t (ag.t (bB.t (cn.t (ct.t (cu.t b4))))))))⟩
   have kc130 := fun (g : Nat) (w u1 : World) (e : Ext eN u1) (d : Dat u1 w) (hg : w.heap[g]? = some (.cells (tpc x dy).toArray 108 (0, 0))) (hu : u1.heap[g]? = some hidO) => (show Calls Tryz.prog 56 (Value.pointer (some ⟨g, 0, none⟩) :: [.int .i64 8]).toArray w _ from k_tapeNext (m := 8) d hg hu (SlR.ext (hx.ext (ap.t (an.t (ao.t (ak.t (aI.t (ah.t ag.ext))))))) e) hb dj yq yq)
   refine sy_lendP 24 56 (t := 9) (V := ⟨108, [x.v, .int .i64 dy]⟩) [.int .i64 8] xj kc130 ?_
   clear kc130
   rintro jt iu d8 al ⟨aB, cy, rfl, bP, rfl, cD⟩
   refine zzx ?_
   refine takeXe 7 25 8 (x := .v (.int .i64 (IntKind.i64.wrap ((1 : Int) + (aB : Int))))) (.v (.int .i64 ((1 + aB : Nat) : Int))) (eqI xz) #[true, false, true, true, true, true, true, true, true, false, false, false, false, false, false, false] ?_
   refine ready2 1 9 #[true, true, true, true, true, true, true, true, true, false, false, false, false, false, false, false] #[true, false, true, true, true, true, true, true, true, true, false, false, false, false, false, false] ?_ ?_
   ·skip
    refine zzi 19 (.v (rx.v)) ty32 zze (zzx ?_)
    refine ready1 9 #[true, true, true, true, true, true, true, true, true, true, false, false, false, false, false, false] ?_
    have kc132 := fun (g : Nat) (w u1 : World) (e : Ext d8 u1) (d : Dat u1 w) (hg : w.heap[g]? = some (.cells (tpc x cy).toArray 108 (0, 0))) (hu : u1.heap[g]? = some hidO) => (show Calls Tryz.prog 56 (Value.pointer (some ⟨g, 0, none⟩) :: [.int .i64 4]).toArray w _ from k_tapeNext (m := 4) d hg hu (SlR.ext (hx.ext (ap.t (an.t (ao.t (ak.t (aI.t (ah.t (ag.t al)))))))) e) hb cD yq yq)
    refine sy_lendP 27 56 (t := 9) (V := ⟨108, [x.v, .int .i64 cy]⟩) [.int .i64 4] xj kc132 ?_
    clear kc132
    rintro h1 jd iK cB ⟨bS, en, rfl, dY, rfl, d6⟩
    refine zzx ?_
    refine takeXe 10 28 5 (x := .v (.int .i64 (IntKind.i64.wrap ((1 : Int) + (bS : Int))))) (.v (.int .i64 ((1 + bS : Nat) : Int))) (eqI xz) #[true, true, true, true, true, true, true, true, true, true, true, false, false, false, false, false] ?_
    refine ready1 11 #[true, true, true, true, true, true, true, true, true, true, true, true, false, false, false, false] ?_
    refine zzg 29 23 _ fun _ _ cm gL => Post.mono (k_rqFrac gL (a := ((1 + aB : Nat) : Int)) (b := ((1 + bS : Nat) : Int)) xq xq xq xq) ?_
    rintro _ hZ cq ⟨aA, rfl, g2⟩
    refine zzx ?_
    refine takeX 12 30 3 (.v (.agg #[.bool rx.s, rx.m.v, rx.d.v, .bool ac.s, ac.m.v, ac.d.v, .bool aA.s, aA.m.v, aA.d.v])) #[true, true, true, true, true, true, true, true, true, true, true, true, true, false, false, false] ?_
    refine ready1 13 #[true, true, true, true, true, true, true, true, true, true, true, true, true, true, false, false] ?_
    refine zxx 31 ⟨56, rx.cs ++ ac.cs ++ aA.cs⟩ 1 (fun f0 gG bF fL => ?_)
    refine zzx ?_
    refine ready1 14 #[true, true, true, true, true, true, true, true, true, true, true, true, true, true, true, false] ?_
    refine sy_app0 32 (T := 23) (E := 56) (z := .agg #[.bool false, .slice none 0 0, .slice none 0 0, .bool false, .slice none 0 0, .slice none 0 0, .bool false, .slice none 0 0, .slice none 0 0]) (size := 9) (bytes := 168) (b := f0) (off := 0) (m := 1) (rx.cs ++ ac.cs ++ aA.cs) xj xj xj yq rfl (lit_news ((Ext.refl _).cells fL)) (pt_one rx ac aA) yq yq yq ?_
    intro di bI eK dR fm d3
    have dq : bI.take (1 * 9) = rcs [rx, ac, aA] := by rw [show rcs [rx, ac, aA] = (rx.cs ++ ac.cs ++ aA.cs) from by simp [rcs]]; exact d3
    refine zzx ?_
    refine ready1 15 #[true, true, true, true, true, true, true, true, true, true, true, true, true, true, true, true] ?_
    refine zza 5 (.slc 32 0 1 di) (zzx ?_)
    refine doneX ?_
    have hfw := Nt.frW bP dY
    have hRn : RatsN gG ([rx, ac, aA]) ([] ++ [q, (Nt.mkR (bk : Int)), (((((1 + aB : Nat) : Int) : Int) : Rat) / ((((1 + bS : Nat) : Int) : Int) : Rat))]) 1 := (rats3 (aq.ext (aI.t (ah.t (ag.t (al.t (cB.t (cm.t (cq.t bF)))))))) (cz.ext (al.t (cB.t (cm.t (cq.t bF))))) (RatN.fit (K := 3) (g2.ext bF) hfw.2))
    refine zzc 40 [(3, .adr 9 0), (4, .adr 4 0), (5, .slc 32 0 1 di), (6, zI k)] [(4, ⟨32, rx.cs⟩), (9, ⟨108, [x.v, .int .i64 en]⟩), (32, ⟨56, bI⟩)] ?_
    exact am _ _ (aI.t (ah.t (ag.t (al.t (cB.t (cm.t (cq.t bF))))))) ⟨en, (Nt.mkR (bk : Int)), (((((1 + aB : Nat) : Int) : Int) : Rat) / ((((1 + bS : Nat) : Int) : Int) : Rat)), [rx, ac, aA], bI, di, d6, (Nt.mkR_wh _), hfw.1, dq, fm, eK, dR, rfl, hRn, (aq.ext (aI.t (ah.t (ag.t (al.t (cB.t (cm.t (cq.t bF))))))))⟩
   have kc145 := fun (g : Nat) (w u1 : World) (e : Ext d8 u1) (d : Dat u1 w) (hg : w.heap[g]? = some (.cells (tpc x cy).toArray 108 (0, 0))) (hu : u1.heap[g]? = some hidO) => (show Calls Tryz.prog 56 (Value.pointer (some ⟨g, 0, none⟩) :: [.int .i64 4]).toArray w _ from k_tapeNext (m := 4) d hg hu (SlR.ext (hx.ext (ap.t (an.t (ao.t (ak.t (aI.t (ah.t (ag.t al)))))))) e) hb cD yq yq)
   refine sy_lendP 27 56 (t := 9) (V := ⟨108, [x.v, .int .i64 cy]⟩) [.int .i64 4] xj kc145 ?_
   clear kc145
   rintro it id i6 aN ⟨aL, cv, rfl, cN, rfl, cI⟩
   refine zzx ?_
   refine takeXe 10 28 6 (x := .v (.int .i64 (IntKind.i64.wrap ((1 : Int) + (aL : Int))))) (.v (.int .i64 ((1 + aL : Nat) : Int))) (eqI xz) #[true, false, true, true, true, true, true, true, true, true, true, false, false, false, false, false] ?_
   refine ready2 1 11 #[true, true, true, true, true, true, true, true, true, true, true, false, false, false, false, false] #[true, false, true, true, true, true, true, true, true, true, true, true, false, false, false, false] ?_ ?_
   ·skip
    refine zzi 19 (.v (rx.v)) ty32 zze (zzx ?_)
    refine ready1 11 #[true, true, true, true, true, true, true, true, true, true, true, true, false, false, false, false] ?_
    refine zzg 29 23 _ fun _ _ cl f7 => Post.mono (k_rqFrac f7 (a := ((1 + aB : Nat) : Int)) (b := ((1 + aL : Nat) : Int)) xq xq xq xq) ?_
    rintro _ ih cx ⟨ay, rfl, ht⟩
    refine zzx ?_
    refine takeX 12 30 3 (.v (.agg #[.bool rx.s, rx.m.v, rx.d.v, .bool ac.s, ac.m.v, ac.d.v, .bool ay.s, ay.m.v, ay.d.v])) #[true, true, true, true, true, true, true, true, true, true, true, true, true, false, false, false] ?_
    refine ready1 13 #[true, true, true, true, true, true, true, true, true, true, true, true, true, true, false, false] ?_
    refine zxx 31 ⟨56, rx.cs ++ ac.cs ++ ay.cs⟩ 1 (fun f5 gB cc gm => ?_)
    refine zzx ?_
    refine ready1 14 #[true, true, true, true, true, true, true, true, true, true, true, true, true, true, true, false] ?_
    refine sy_app0 32 (T := 23) (E := 56) (z := .agg #[.bool false, .slice none 0 0, .slice none 0 0, .bool false, .slice none 0 0, .slice none 0 0, .bool false, .slice none 0 0, .slice none 0 0]) (size := 9) (bytes := 168) (b := f5) (off := 0) (m := 1) (rx.cs ++ ac.cs ++ ay.cs) xj xj xj yq rfl (lit_news ((Ext.refl _).cells gm)) (pt_one rx ac ay) yq yq yq ?_
    intro c8 b9 eS eZ fe ej
    have c3 : b9.take (1 * 9) = rcs [rx, ac, ay] := by rw [show rcs [rx, ac, ay] = (rx.cs ++ ac.cs ++ ay.cs) from by simp [rcs]]; exact ej
    refine zzx ?_
    refine ready1 15 #[true, true, true, true, true, true, true, true, true, true, true, true, true, true, true, true] ?_
    refine zza 5 (.slc 32 0 1 c8) (zzx ?_)
    refine doneX ?_
    have hfw := Nt.frW bP cN
    have hRn : RatsN gB ([rx, ac, ay]) ([] ++ [q, (Nt.mkR (bk : Int)), (((((1 + aB : Nat) : Int) : Int) : Rat) / ((((1 + aL : Nat) : Int) : Int) : Rat))]) 1 := (rats3 (aq.ext (aI.t (ah.t (ag.t (al.t (aN.t (cl.t (cx.t cc)))))))) (cz.ext (al.t (aN.t (cl.t (cx.t cc))))) (RatN.fit (K := 3) (ht.ext cc) hfw.2))
    refine zzc 40 [(3, .adr 9 0), (4, .adr 4 0), (5, .slc 32 0 1 c8), (6, zI k)] [(4, ⟨32, rx.cs⟩), (9, ⟨108, [x.v, .int .i64 cv]⟩), (32, ⟨56, b9⟩)] ?_
    exact am _ _ (aI.t (ah.t (ag.t (al.t (aN.t (cl.t (cx.t cc))))))) ⟨cv, (Nt.mkR (bk : Int)), (((((1 + aB : Nat) : Int) : Int) : Rat) / ((((1 + aL : Nat) : Int) : Int) : Rat)), [rx, ac, ay], b9, c8, cI, (Nt.mkR_wh _), hfw.1, c3, fe, eS, eZ, rfl, hRn, (aq.ext (aI.t (ah.t (ag.t (al.t (aN.t (cl.t (cx.t cc))))))))⟩
   refine zzg 29 23 _ fun _ _ cg gH => Post.mono (k_rqFrac gH (a := ((1 + aB : Nat) : Int)) (b := ((1 + aL : Nat) : Int)) xq xq xq xq) ?_
   rintro _ i1 cw ⟨au, rfl, fH⟩
   refine zzx ?_
   refine ready1 1 #[true, true, true, true, true, true, true, true, true, true, true, true, false, false, false, false] ?_
   refine zzi 19 (.v (rx.v)) ty32 zze (zzx ?_)
   refine takeX 12 30 3 (.v (.agg #[.bool rx.s, rx.m.v, rx.d.v, .bool ac.s, ac.m.v, ac.d.v, .bool au.s, au.m.v, au.d.v])) #[true, true, true, true, true, true, true, true, true, true, true, true, true, false, false, false] ?_
   refine ready1 13 #[true, true, true, true, true, true, true, true, true, true, true, true, true, true, false, false] ?_
   refine zxx 31 ⟨56, rx.cs ++ ac.cs ++ au.cs⟩ 1 (fun f9 f4 bO g0 => ?_)
   refine zzx ?_
   refine ready1 14 #[true, true, true, true, true, true, true, true, true, true, true, true, true, true, true, false] ?_
   refine sy_app0 32 (T := 23) (E := 56) (z := .agg #[.bool false, .slice none 0 0, .slice none 0 0, .bool false, .slice none 0 0, .slice none 0 0, .bool false, .slice none 0 0, .slice none 0 0]) (size := 9) (bytes := 168) (b := f9) (off := 0) (m := 1) (rx.cs ++ ac.cs ++ au.cs) xj xj xj yq rfl (lit_news ((Ext.refl _).cells g0)) (pt_one rx ac au) yq yq yq ?_
   intro dp bE e5 e7 e4 ex
   have c6 : bE.take (1 * 9) = rcs [rx, ac, au] := by rw [show rcs [rx, ac, au] = (rx.cs ++ ac.cs ++ au.cs) from by simp [rcs]]; exact ex
   refine zzx ?_
   refine ready1 15 #[true, true, true, true, true, true, true, true, true, true, true, true, true, true, true, true] ?_
   refine zza 5 (.slc 32 0 1 dp) (zzx ?_)
   refine doneX ?_
   have hfw := Nt.frW bP cN
   have hRn : RatsN f4 ([rx, ac, au]) ([] ++ [q, (Nt.mkR (bk : Int)), (((((1 + aB : Nat) : Int) : Int) : Rat) / ((((1 + aL : Nat) : Int) : Int) : Rat))]) 1 := (rats3 (aq.ext (aI.t (ah.t (ag.t (al.t (aN.t (cg.t (cw.t bO)))))))) (cz.ext (al.t (aN.t (cg.t (cw.t bO))))) (RatN.fit (K := 3) (fH.ext bO) hfw.2))
   refine zzc 40 [(3, .adr 9 0), (4, .adr 4 0), (5, .slc 32 0 1 dp), (6, zI k)] [(4, ⟨32, rx.cs⟩), (9, ⟨108, [x.v, .int .i64 cv]⟩), (32, ⟨56, bE⟩)] ?_
   exact am _ _ (aI.t (ah.t (ag.t (al.t (aN.t (cg.t (cw.t bO))))))) ⟨cv, (Nt.mkR (bk : Int)), (((((1 + aB : Nat) : Int) : Int) : Rat) / ((((1 + aL : Nat) : Int) : Int) : Rat)), [rx, ac, au], bE, dp, cI, (Nt.mkR_wh _), hfw.1, c6, e4, e5, e7, rfl, hRn, (aq.ext (aI.t (ah.t (ag.t (al.t (aN.t (cg.t (cw.t bO))))))))⟩
  have qhb20 := of_decide_eq_false dn
  refine zyc (zzp (zzd ?_))
  exfalso; omega
 change SW _ _ _ _ (St.of 40 [(3, .adr 9 0), (4, .adr 4 0), (5, .slc 32 0 i cp), (6, .v (.int .i64 (k : Int)))] [(4, ⟨32, rx.cs⟩), (9, ⟨108, [.slice x.a x.n x.c, .int .i64 (a9 : Int)]⟩), (32, ⟨56, cs⟩)]) _ _
 refine zzd (sq9 (zza 14 (zI k) (zza 15 (zB (decide ((0 : Int) < (k : Int)))) (zzb (zzu (b := decide ((0 : Int) < (k : Int))) xj (fun bD => ?_) (fun bD => ?_))))))
 ·have qhb168 := of_decide_eq_true bD
  refine zzs (zzp ?_)
  refine zzd (zzt (zzd (sw_joinP (I := fun S' u' => ∃ (a1 : Nat) (y1 : Rat) (w1 : Rat) (L1 : List RL) (aR : List Value) (aM : Nat), (a1 ≤ x.n) ∧ (Nt.Wh (y1 * (((840 : Nat) : Int) : Rat)) 14) ∧ (∃ a b : Nat, w1 * (b : Rat) = (a : Rat) ∧ 1 ≤ a ∧ a ≤ 8 ∧ 1 ≤ b ∧ b ≤ 4) ∧ (aR.take ((i + 1) * 9) = rcs L1) ∧ (aR.length = aM * 9) ∧ (i + 1 ≤ aM) ∧ (aM ≤ maxLen) ∧ (S' = St.of 40 [(3, .adr 9 0), (4, .adr 4 0), (5, .slc 32 0 (i + 1) aM), (6, zI k)] [(4, ⟨32, rx.cs⟩), (9, ⟨108, [x.v, .int .i64 a1]⟩), (32, ⟨56, aR⟩)]) ∧ (RatsN u' L1 (V ++ [q, y1, w1]) 1) ∧ (RatN u' rx q 1)) ?_ (fun aj => ?_))))
  ·rintro _ cH aO ⟨a1, y1, w1, L1, aR, aM, dA, dk, du, cZ, c5, aQ, aS, rfl, df, da⟩
   refine sw_anyX xj 7 rfl ?_
   refine takeXv 1 34 6 #[false, true, false, false, false, false, false] ?_
   refine ready2 0 2 #[true, true, false, false, false, false, false] #[false, true, true, false, false, false, false] ?_ ?_
   ·skip
    refine zzi 33 (.v (rx.v)) ty32 zze (zzx ?_)
    refine ready1 2 #[true, true, true, false, false, false, false] ?_
    have kc171 := fun (g : Nat) (w u1 : World) (e : Ext cH u1) (d : Dat u1 w) (hg : w.heap[g]? = some (.cells (tpc x a1).toArray 108 (0, 0))) (hu : u1.heap[g]? = some hidO) => (show Calls Tryz.prog 56 (Value.pointer (some ⟨g, 0, none⟩) :: [.int .i64 4]).toArray w _ from k_tapeNext (m := 4) d hg hu (SlR.ext (hx.ext (ap.t (an.t (ao.trans (ak.trans aO))))) e) hb dA yq yq)
    refine sy_lendP 35 56 (t := 9) (V := ⟨108, [x.v, .int .i64 a1]⟩) [.int .i64 4] xj kc171 ?_
    clear kc171
    rintro iC iX jy cT ⟨b6, go, rfl, cJ, rfl, fr⟩
    refine zzx ?_
    refine takeXe 3 36 3 (x := .v (.int .i64 (IntKind.i64.wrap ((1 : Int) + (b6 : Int))))) (.v (.int .i64 ((1 + b6 : Nat) : Int))) (eqI xz) #[true, true, true, true, false, false, false] ?_
    refine ready1 4 #[true, true, true, true, true, false, false] ?_
    refine zzg 37 23 _ fun _ _ cR fJ => Post.mono (k_rqFrac fJ (a := ((1 + b6 : Nat) : Int)) (b := 12) xq xq xq xq) ?_
    rintro _ h6 c4 ⟨ij, rfl, g5⟩
    refine zzx ?_
    refine ready1 5 #[true, true, true, true, true, true, false] ?_
    refine zzg 38 58 _ fun _ _ ch fX => Post.mono (k_rqAdd fX (da.ext (cT.t (cR.t (c4.t ch)))).raw (g5.ext ch).raw xq xq) ?_
    rintro _ iD eV ⟨ff, rfl, fR⟩
    refine zzx ?_
    refine ready1 6 #[true, true, true, true, true, true, true] ?_
    refine zzj ⟨32, ff.cs⟩ ty32 ?_
    refine zzx ?_
    refine doneX ?_
    refine zzx ?_
    refine zzp (zzf (zza 16 (zI k) (zyq 17 (x := zI (IntKind.i64.wrap ((k : Int) - 1))) (zI (k - 1 : Nat)) (eqI xz) (zza 6 (zI (k - 1 : Nat)) (zzx ?_)))))
    have hGn : Nt.GrP (V ++ [q, y1, w1]) (i + 1) ((q + (((((1 + b6 : Nat) : Int) : Int) : Rat) / ((12 : Int) : Rat)))) := Nt.GrP.step (d := ((1 + b6 : Nat) : Int)) hG xq dk du (by have h9 := cJ; omega) (by have h9 := cJ; omega)
    refine ⟨_, ?_, _, by exact zzv _ _ _, .inr ⟨k - 1, ff, _, go, i + 1, L1, _, aR, aM, rfl, by omega, fr, hGn, by omega, cZ, c5, aQ, aS, rfl, (ak.t (aO.t (cT.t (cR.t (c4.t (ch.t eV.ext)))))), RatN.fit (K := (1 + 3 + 2)) fR (hGn.rs xq), (df.ext (cT.t (cR.t (c4.t (ch.t eV.ext)))))⟩⟩
    omega
   have kc185 := fun (g : Nat) (w u1 : World) (e : Ext cH u1) (d : Dat u1 w) (hg : w.heap[g]? = some (.cells (tpc x a1).toArray 108 (0, 0))) (hu : u1.heap[g]? = some hidO) => (show Calls Tryz.prog 56 (Value.pointer (some ⟨g, 0, none⟩) :: [.int .i64 4]).toArray w _ from k_tapeNext (m := 4) d hg hu (SlR.ext (hx.ext (ap.t (an.t (ao.trans (ak.trans aO))))) e) hb dA yq yq)
   refine sy_lendP 35 56 (t := 9) (V := ⟨108, [x.v, .int .i64 a1]⟩) [.int .i64 4] xj kc185 ?_
   clear kc185
   rintro i3 iT ig aX ⟨aK, d1, rfl, aT, rfl, cE⟩
   refine zzx ?_
   refine takeXe 3 36 4 (x := .v (.int .i64 (IntKind.i64.wrap ((1 : Int) + (aK : Int))))) (.v (.int .i64 ((1 + aK : Nat) : Int))) (eqI xz) #[false, true, true, true, false, false, false] ?_
   refine ready2 0 4 #[true, true, true, true, false, false, false] #[false, true, true, true, true, false, false] ?_ ?_
   ·skip
    refine zzi 33 (.v (rx.v)) ty32 zze (zzx ?_)
    refine ready1 4 #[true, true, true, true, true, false, false] ?_
    refine zzg 37 23 _ fun _ _ ds gx => Post.mono (k_rqFrac gx (a := ((1 + aK : Nat) : Int)) (b := 12) xq xq xq xq) ?_
    rintro _ ia dh ⟨jh, rfl, hv⟩
    refine zzx ?_
    refine ready1 5 #[true, true, true, true, true, true, false] ?_
    refine zzg 38 58 _ fun _ _ cr g3 => Post.mono (k_rqAdd g3 (da.ext (aX.t (ds.t (dh.t cr)))).raw (hv.ext cr).raw xq xq) ?_
    rintro _ i9 fi ⟨eb, rfl, gK⟩
    refine zzx ?_
    refine ready1 6 #[true, true, true, true, true, true, true] ?_
    refine zzj ⟨32, eb.cs⟩ ty32 ?_
    refine zzx ?_
    refine doneX ?_
    refine zzx ?_
    refine zzp (zzf (zza 16 (zI k) (zyq 17 (x := zI (IntKind.i64.wrap ((k : Int) - 1))) (zI (k - 1 : Nat)) (eqI xz) (zza 6 (zI (k - 1 : Nat)) (zzx ?_)))))
    have hGn : Nt.GrP (V ++ [q, y1, w1]) (i + 1) ((q + (((((1 + aK : Nat) : Int) : Int) : Rat) / ((12 : Int) : Rat)))) := Nt.GrP.step (d := ((1 + aK : Nat) : Int)) hG xq dk du (by have h9 := aT; omega) (by have h9 := aT; omega)
    refine ⟨_, ?_, _, by exact zzv _ _ _, .inr ⟨k - 1, eb, _, d1, i + 1, L1, _, aR, aM, rfl, by omega, cE, hGn, by omega, cZ, c5, aQ, aS, rfl, (ak.t (aO.t (aX.t (ds.t (dh.t (cr.t fi.ext)))))), RatN.fit (K := (1 + 3 + 2)) gK (hGn.rs xq), (df.ext (aX.t (ds.t (dh.t (cr.t fi.ext)))))⟩⟩
    omega
   refine zzg 37 23 _ fun _ _ cQ gy => Post.mono (k_rqFrac gy (a := ((1 + aK : Nat) : Int)) (b := 12) xq xq xq xq) ?_
   rintro _ je cX ⟨im, rfl, he⟩
   refine zzx ?_
   refine ready1 0 #[true, true, true, true, true, false, false] ?_
   refine zzi 33 (.v (rx.v)) ty32 zze (zzx ?_)
   refine ready1 5 #[true, true, true, true, true, true, false] ?_
   refine zzg 38 58 _ fun _ _ ci hf => Post.mono (k_rqAdd hf (da.ext (aX.t (cQ.t (cX.t ci)))).raw (he.ext ci).raw xq xq) ?_
   rintro _ io eQ ⟨d9, rfl, g7⟩
   refine zzx ?_
   refine ready1 6 #[true, true, true, true, true, true, true] ?_
   refine zzj ⟨32, d9.cs⟩ ty32 ?_
   refine zzx ?_
   refine doneX ?_
   refine zzx ?_
   refine zzp (zzf (zza 16 (zI k) (zyq 17 (x := zI (IntKind.i64.wrap ((k : Int) - 1))) (zI (k - 1 : Nat)) (eqI xz) (zza 6 (zI (k - 1 : Nat)) (zzx ?_)))))
   have hGn : Nt.GrP (V ++ [q, y1, w1]) (i + 1) ((q + (((((1 + aK : Nat) : Int) : Int) : Rat) / ((12 : Int) : Rat)))) := Nt.GrP.step (d := ((1 + aK : Nat) : Int)) hG xq dk du (by have h9 := aT; omega) (by have h9 := aT; omega)
   refine ⟨_, ?_, _, by exact zzv _ _ _, .inr ⟨k - 1, d9, _, d1, i + 1, L1, _, aR, aM, rfl, by omega, cE, hGn, by omega, cZ, c5, aQ, aS, rfl, (ak.t (aO.t (aX.t (cQ.t (cX.t (ci.t eQ.ext)))))), RatN.fit (K := (1 + 3 + 2)) g7 (hGn.rs xq), (df.ext (aX.t (cQ.t (cX.t (ci.t eQ.ext)))))⟩⟩
   omega
  refine sw_anyX xj 16 rfl ?_
  refine takeXm 0 18 15 #[true, false, false, false, false, false, false, false, false, false, false, false, false, false, false, false] ?_
  refine takeXv 2 20 14 #[true, false, true, false, false, false, false, false, false, false, false, false, false, false, false, false] ?_
  refine takeXv 5 23 13 #[true, false, true, false, false, true, false, false, false, false, false, false, false, false, false, false] ?_
  refine takeXv 8 26 12 #[true, false, true, false, false, true, false, false, true, false, false, false, false, false, false, false] ?_
  refine ready2 1 3 #[true, true, true, false, false, true, false, false, true, false, false, false, false, false, false, false] #[true, false, true, true, false, true, false, false, true, false, false, false, false, false, false, false] ?_ ?_
  ·skip
   refine zzi 19 (.v (rx.v)) ty32 zze (zzx ?_)
   refine ready1 3 #[true, true, true, true, false, true, false, false, true, false, false, false, false, false, false, false] ?_
   have kc211 := fun (g : Nat) (w u1 : World) (e : Ext ft u1) (d : Dat u1 w) (hg : w.heap[g]? = some (.cells (tpc x a9).toArray 108 (0, 0))) (hu : u1.heap[g]? = some hidO) => (show Calls Tryz.prog 56 (Value.pointer (some ⟨g, 0, none⟩) :: [.int .i64 200]).toArray w _ from k_tapeNext (m := 200) d hg hu (SlR.ext (hx.ext (ap.t (an.t (ao.trans ak)))) e) hb eu yq yq)
   refine sy_lendP 21 56 (t := 9) (V := ⟨108, [x.v, .int .i64 a9]⟩) [.int .i64 200] xj kc211 ?_
   clear kc211
   rintro iI iZ jc bg ⟨db, ea, rfl, hQ, rfl, fh⟩
   refine zzx ?_
   refine ready1 4 #[true, true, true, true, true, true, false, false, true, false, false, false, false, false, false, false] ?_
   refine zzg 22 57 _ fun _ _ bh fU => Post.mono (k_mkRat fU (n := (db : Int)) xq xq) ?_
   rintro _ hm aY ⟨aH, rfl, fB⟩
   refine zzx ?_
   refine ready1 6 #[true, true, true, true, true, true, true, false, true, false, false, false, false, false, false, false] ?_
   have kc219 := fun (g : Nat) (w u1 : World) (e : Ext hm u1) (d : Dat u1 w) (hg : w.heap[g]? = some (.cells (tpc x ea).toArray 108 (0, 0))) (hu : u1.heap[g]? = some hidO) => (show Calls Tryz.prog 56 (Value.pointer (some ⟨g, 0, none⟩) :: [.int .i64 8]).toArray w _ from k_tapeNext (m := 8) d hg hu (SlR.ext (hx.ext (ap.t (an.t (ao.t (ak.t (bg.t (bh.t aY.ext))))))) e) hb fh yq yq)
   refine sy_lendP 24 56 (t := 9) (V := ⟨108, [x.v, .int .i64 ea]⟩) [.int .i64 8] xj kc219 ?_
   clear kc219
   rintro h5 i2 gZ aU ⟨bY, e8, rfl, dJ, rfl, d0⟩
   refine zzx ?_
   refine takeXe 7 25 7 (x := .v (.int .i64 (IntKind.i64.wrap ((1 : Int) + (bY : Int))))) (.v (.int .i64 ((1 + bY : Nat) : Int))) (eqI xz) #[true, true, true, true, true, true, true, true, true, false, false, false, false, false, false, false] ?_
   refine ready1 9 #[true, true, true, true, true, true, true, true, true, true, false, false, false, false, false, false] ?_
   have kc221 := fun (g : Nat) (w u1 : World) (e : Ext gZ u1) (d : Dat u1 w) (hg : w.heap[g]? = some (.cells (tpc x e8).toArray 108 (0, 0))) (hu : u1.heap[g]? = some hidO) => (show Calls Tryz.prog 56 (Value.pointer (some ⟨g, 0, none⟩) :: [.int .i64 4]).toArray w _ from k_tapeNext (m := 4) d hg hu (SlR.ext (hx.ext (ap.t (an.t (ao.t (ak.t (bg.t (bh.t (aY.t aU)))))))) e) hb d0 yq yq)
   refine sy_lendP 27 56 (t := 9) (V := ⟨108, [x.v, .int .i64 e8]⟩) [.int .i64 4] xj kc221 ?_
   clear kc221
   rintro i5 iQ jx bU ⟨bN, fq, rfl, eF, rfl, eP⟩
   refine zzx ?_
   refine takeXe 10 28 5 (x := .v (.int .i64 (IntKind.i64.wrap ((1 : Int) + (bN : Int))))) (.v (.int .i64 ((1 + bN : Nat) : Int))) (eqI xz) #[true, true, true, true, true, true, true, true, true, true, true, false, false, false, false, false] ?_
   refine ready1 11 #[true, true, true, true, true, true, true, true, true, true, true, true, false, false, false, false] ?_
   refine zzg 29 23 _ fun _ _ bL gv => Post.mono (k_rqFrac gv (a := ((1 + bY : Nat) : Int)) (b := ((1 + bN : Nat) : Int)) xq xq xq xq) ?_
   rintro _ ji bT ⟨aE, rfl, fV⟩
   refine zzx ?_
   refine takeX 12 30 3 (.v (.agg #[.bool rx.s, rx.m.v, rx.d.v, .bool aH.s, aH.m.v, aH.d.v, .bool aE.s, aE.m.v, aE.d.v])) #[true, true, true, true, true, true, true, true, true, true, true, true, true, false, false, false] ?_
   refine ready1 13 #[true, true, true, true, true, true, true, true, true, true, true, true, true, true, false, false] ?_
   refine zxx 31 ⟨56, rx.cs ++ aH.cs ++ aE.cs⟩ 1 (fun gT ga bi gc => ?_)
   refine zzx ?_
   refine ready1 14 #[true, true, true, true, true, true, true, true, true, true, true, true, true, true, true, false] ?_
   refine sy_app1 32 (T := 23) (E := 56) (z := .agg #[.bool false, .slice none 0 0, .slice none 0 0, .bool false, .slice none 0 0, .slice none 0 0, .bool false, .slice none 0 0, .slice none 0 0]) (size := 9) (bytes := 168) (b := gT) (off := 0) (m := 1) (n := i) (cap := cp) (t := 32) (cs0 := cs) [5, 18, 32] (rx.cs ++ aH.cs ++ aE.cs) xj xj xj yq rfl (lit_news ((Ext.refl _).cells gc)) (pt_one rx aH aE) yq yv xq xq xq xq xw ?_
   intro c2 bm dG dW d4 dX
   have cY : bm.take ((i + 1) * 9) = rcs (L ++ [rx, aH, aE]) := by rw [dX, cO, rcs_app, show rcs [rx, aH, aE] = (rx.cs ++ aH.cs ++ aE.cs) from by simp [rcs]]
   refine zzx ?_
   refine ready1 15 #[true, true, true, true, true, true, true, true, true, true, true, true, true, true, true, true] ?_
   refine zza 5 (.slc 32 0 (i + 1) c2) (zzx ?_)
   refine doneX ?_
   have hfw := Nt.frW dJ eF
   have hRn : RatsN ga (L ++ [rx, aH, aE]) (V ++ [q, (Nt.mkR (db : Int)), (((((1 + bY : Nat) : Int) : Int) : Rat) / ((((1 + bN : Nat) : Int) : Int) : Rat))]) 1 := RatsN.app (c0.ext (bg.t (bh.t (aY.t (aU.t (bU.t (bL.t (bT.t bi)))))))) (rats3 (aq.ext (bg.t (bh.t (aY.t (aU.t (bU.t (bL.t (bT.t bi)))))))) (fB.ext (aU.t (bU.t (bL.t (bT.t bi))))) (RatN.fit (K := 3) (fV.ext bi) hfw.2))
   refine zzc 40 [(3, .adr 9 0), (4, .adr 4 0), (5, .slc 32 0 (i + 1) c2), (6, zI k)] [(4, ⟨32, rx.cs⟩), (9, ⟨108, [x.v, .int .i64 fq]⟩), (32, ⟨56, bm⟩)] ?_
   exact aj _ _ (bg.t (bh.t (aY.t (aU.t (bU.t (bL.t (bT.t bi))))))) ⟨fq, (Nt.mkR (db : Int)), (((((1 + bY : Nat) : Int) : Int) : Rat) / ((((1 + bN : Nat) : Int) : Int) : Rat)), L ++ [rx, aH, aE], bm, c2, eP, (Nt.mkR_wh _), hfw.1, cY, d4, dG, dW, rfl, hRn, (aq.ext (bg.t (bh.t (aY.t (aU.t (bU.t (bL.t (bT.t bi))))))))⟩
  have kc234 := fun (g : Nat) (w u1 : World) (e : Ext ft u1) (d : Dat u1 w) (hg : w.heap[g]? = some (.cells (tpc x a9).toArray 108 (0, 0))) (hu : u1.heap[g]? = some hidO) => (show Calls Tryz.prog 56 (Value.pointer (some ⟨g, 0, none⟩) :: [.int .i64 200]).toArray w _ from k_tapeNext (m := 200) d hg hu (SlR.ext (hx.ext (ap.t (an.t (ao.trans ak)))) e) hb eu yq yq)
  refine sy_lendP 21 56 (t := 9) (V := ⟨108, [x.v, .int .i64 a9]⟩) [.int .i64 200] xj kc234 ?_
  clear kc234
  rintro jD jo ie ad ⟨ar, bf, rfl, hM, rfl, bR⟩
  refine zzx ?_
  refine ready2 1 4 #[true, true, true, true, false, true, false, false, true, false, false, false, false, false, false, false] #[true, false, true, true, true, true, false, false, true, false, false, false, false, false, false, false] ?_ ?_
  ·skip
   refine zzi 19 (.v (rx.v)) ty32 zze (zzx ?_)
   refine ready1 4 #[true, true, true, true, true, true, false, false, true, false, false, false, false, false, false, false] ?_
   refine zzg 22 57 _ fun _ _ be gq => Post.mono (k_mkRat gq (n := (ar : Int)) xq xq) ?_
   rintro _ gU bb ⟨aw, rfl, gF⟩
   refine zzx ?_
   refine ready1 6 #[true, true, true, true, true, true, true, false, true, false, false, false, false, false, false, false] ?_
   have kc242 := fun (g : Nat) (w u1 : World) (e : Ext gU u1) (d : Dat u1 w) (hg : w.heap[g]? = some (.cells (tpc x bf).toArray 108 (0, 0))) (hu : u1.heap[g]? = some hidO) => (show Calls Tryz.prog 56 (Value.pointer (some ⟨g, 0, none⟩) :: [.int .i64 8]).toArray w _ from k_tapeNext (m := 8) d hg hu (SlR.ext (hx.ext (ap.t (an.t (ao.t (ak.t (ad.t (be.t bb.ext))))))) e) hb bR yq yq)
   refine sy_lendP 24 56 (t := 9) (V := ⟨108, [x.v, .int .i64 bf]⟩) [.int .i64 8] xj kc242 ?_
   clear kc242
   rintro iy iU fI aZ ⟨b0, eW, rfl, eO, rfl, ew⟩
   refine zzx ?_
   refine takeXe 7 25 7 (x := .v (.int .i64 (IntKind.i64.wrap ((1 : Int) + (b0 : Int))))) (.v (.int .i64 ((1 + b0 : Nat) : Int))) (eqI xz) #[true, true, true, true, true, true, true, true, true, false, false, false, false, false, false, false] ?_
   refine ready1 9 #[true, true, true, true, true, true, true, true, true, true, false, false, false, false, false, false] ?_
   have kc244 := fun (g : Nat) (w u1 : World) (e : Ext fI u1) (d : Dat u1 w) (hg : w.heap[g]? = some (.cells (tpc x eW).toArray 108 (0, 0))) (hu : u1.heap[g]? = some hidO) => (show Calls Tryz.prog 56 (Value.pointer (some ⟨g, 0, none⟩) :: [.int .i64 4]).toArray w _ from k_tapeNext (m := 4) d hg hu (SlR.ext (hx.ext (ap.t (an.t (ao.t (ak.t (ad.t (be.t (bb.t aZ)))))))) e) hb ew yq yq)
   refine sy_lendP 27 56 (t := 9) (V := ⟨108, [x.v, .int .i64 eW]⟩) [.int .i64 4] xj kc244 ?_
   clear kc244
   rintro il iM js bw ⟨bM, dE, rfl, ey, rfl, eH⟩
   refine zzx ?_
   refine takeXe 10 28 5 (x := .v (.int .i64 (IntKind.i64.wrap ((1 : Int) + (bM : Int))))) (.v (.int .i64 ((1 + bM : Nat) : Int))) (eqI xz) #[true, true, true, true, true, true, true, true, true, true, true, false, false, false, false, false] ?_
   refine ready1 11 #[true, true, true, true, true, true, true, true, true, true, true, true, false, false, false, false] ?_
   refine zzg 29 23 _ fun _ _ bH gd => Post.mono (k_rqFrac gd (a := ((1 + b0 : Nat) : Int)) (b := ((1 + bM : Nat) : Int)) xq xq xq xq) ?_
   rintro _ ix b2 ⟨aD, rfl, hz⟩
   refine zzx ?_
   refine takeX 12 30 3 (.v (.agg #[.bool rx.s, rx.m.v, rx.d.v, .bool aw.s, aw.m.v, aw.d.v, .bool aD.s, aD.m.v, aD.d.v])) #[true, true, true, true, true, true, true, true, true, true, true, true, true, false, false, false] ?_
   refine ready1 13 #[true, true, true, true, true, true, true, true, true, true, true, true, true, true, false, false] ?_
   refine zxx 31 ⟨56, rx.cs ++ aw.cs ++ aD.cs⟩ 1 (fun gI gR bd fG => ?_)
   refine zzx ?_
   refine ready1 14 #[true, true, true, true, true, true, true, true, true, true, true, true, true, true, true, false] ?_
   refine sy_app1 32 (T := 23) (E := 56) (z := .agg #[.bool false, .slice none 0 0, .slice none 0 0, .bool false, .slice none 0 0, .slice none 0 0, .bool false, .slice none 0 0, .slice none 0 0]) (size := 9) (bytes := 168) (b := gI) (off := 0) (m := 1) (n := i) (cap := cp) (t := 32) (cs0 := cs) [5, 18, 32] (rx.cs ++ aw.cs ++ aD.cs) xj xj xj yq rfl (lit_news ((Ext.refl _).cells fG)) (pt_one rx aw aD) yq yv xq xq xq xq xw ?_
   intro dv ca fp dF es dN
   have c1 : ca.take ((i + 1) * 9) = rcs (L ++ [rx, aw, aD]) := by rw [dN, cO, rcs_app, show rcs [rx, aw, aD] = (rx.cs ++ aw.cs ++ aD.cs) from by simp [rcs]]
   refine zzx ?_
   refine ready1 15 #[true, true, true, true, true, true, true, true, true, true, true, true, true, true, true, true] ?_
   refine zza 5 (.slc 32 0 (i + 1) dv) (zzx ?_)
   refine doneX ?_
   have hfw := Nt.frW eO ey
   have hRn : RatsN gR (L ++ [rx, aw, aD]) (V ++ [q, (Nt.mkR (ar : Int)), (((((1 + b0 : Nat) : Int) : Int) : Rat) / ((((1 + bM : Nat) : Int) : Int) : Rat))]) 1 := RatsN.app (c0.ext (ad.t (be.t (bb.t (aZ.t (bw.t (bH.t (b2.t bd)))))))) (rats3 (aq.ext (ad.t (be.t (bb.t (aZ.t (bw.t (bH.t (b2.t bd)))))))) (gF.ext (aZ.t (bw.t (bH.t (b2.t bd))))) (RatN.fit (K := 3) (hz.ext bd) hfw.2))
   refine zzc 40 [(3, .adr 9 0), (4, .adr 4 0), (5, .slc 32 0 (i + 1) dv), (6, zI k)] [(4, ⟨32, rx.cs⟩), (9, ⟨108, [x.v, .int .i64 dE]⟩), (32, ⟨56, ca⟩)] ?_
   exact aj _ _ (ad.t (be.t (bb.t (aZ.t (bw.t (bH.t (b2.t bd))))))) ⟨dE, (Nt.mkR (ar : Int)), (((((1 + b0 : Nat) : Int) : Int) : Rat) / ((((1 + bM : Nat) : Int) : Int) : Rat)), L ++ [rx, aw, aD], ca, dv, eH, (Nt.mkR_wh _), hfw.1, c1, es, fp, dF, rfl, hRn, (aq.ext (ad.t (be.t (bb.t (aZ.t (bw.t (bH.t (b2.t bd))))))))⟩
  refine zzg 22 57 _ fun _ _ ae fT => Post.mono (k_mkRat fT (n := (ar : Int)) xq xq) ?_
  rintro _ eo af ⟨aa, rfl, cf⟩
  refine zzx ?_
  refine ready2 1 6 #[true, true, true, true, true, true, false, false, true, false, false, false, false, false, false, false] #[true, false, true, true, true, true, true, false, true, false, false, false, false, false, false, false] ?_ ?_
  ·skip
   refine zzi 19 (.v (rx.v)) ty32 zze (zzx ?_)
   refine ready1 6 #[true, true, true, true, true, true, true, false, true, false, false, false, false, false, false, false] ?_
   have kc263 := fun (g : Nat) (w u1 : World) (e : Ext eo u1) (d : Dat u1 w) (hg : w.heap[g]? = some (.cells (tpc x bf).toArray 108 (0, 0))) (hu : u1.heap[g]? = some hidO) => (show Calls Tryz.prog 56 (Value.pointer (some ⟨g, 0, none⟩) :: [.int .i64 8]).toArray w _ from k_tapeNext (m := 8) d hg hu (SlR.ext (hx.ext (ap.t (an.t (ao.t (ak.t (ad.t (ae.t af.ext))))))) e) hb bR yq yq)
   refine sy_lendP 24 56 (t := 9) (V := ⟨108, [x.v, .int .i64 bf]⟩) [.int .i64 8] xj kc263 ?_
   clear kc263
   rintro iS ic gn ba ⟨bn, eU, rfl, el, rfl, eM⟩
   refine zzx ?_
   refine takeXe 7 25 7 (x := .v (.int .i64 (IntKind.i64.wrap ((1 : Int) + (bn : Int))))) (.v (.int .i64 ((1 + bn : Nat) : Int))) (eqI xz) #[true, true, true, true, true, true, true, true, true, false, false, false, false, false, false, false] ?_
   refine ready1 9 #[true, true, true, true, true, true, true, true, true, true, false, false, false, false, false, false] ?_
   have kc265 := fun (g : Nat) (w u1 : World) (e : Ext gn u1) (d : Dat u1 w) (hg : w.heap[g]? = some (.cells (tpc x eU).toArray 108 (0, 0))) (hu : u1.heap[g]? = some hidO) => (show Calls Tryz.prog 56 (Value.pointer (some ⟨g, 0, none⟩) :: [.int .i64 4]).toArray w _ from k_tapeNext (m := 4) d hg hu (SlR.ext (hx.ext (ap.t (an.t (ao.t (ak.t (ad.t (ae.t (af.t ba)))))))) e) hb eM yq yq)
   refine sy_lendP 27 56 (t := 9) (V := ⟨108, [x.v, .int .i64 eU]⟩) [.int .i64 4] xj kc265 ?_
   clear kc265
   rintro jq jz ii b5 ⟨cb, fk, rfl, e9, rfl, ef⟩
   refine zzx ?_
   refine takeXe 10 28 5 (x := .v (.int .i64 (IntKind.i64.wrap ((1 : Int) + (cb : Int))))) (.v (.int .i64 ((1 + cb : Nat) : Int))) (eqI xz) #[true, true, true, true, true, true, true, true, true, true, true, false, false, false, false, false] ?_
   refine ready1 11 #[true, true, true, true, true, true, true, true, true, true, true, true, false, false, false, false] ?_
   refine zzg 29 23 _ fun _ _ bx fC => Post.mono (k_rqFrac fC (a := ((1 + bn : Nat) : Int)) (b := ((1 + cb : Nat) : Int)) xq xq xq xq) ?_
   rintro _ iA bJ ⟨az, rfl, gi⟩
   refine zzx ?_
   refine takeX 12 30 3 (.v (.agg #[.bool rx.s, rx.m.v, rx.d.v, .bool aa.s, aa.m.v, aa.d.v, .bool az.s, az.m.v, az.d.v])) #[true, true, true, true, true, true, true, true, true, true, true, true, true, false, false, false] ?_
   refine ready1 13 #[true, true, true, true, true, true, true, true, true, true, true, true, true, true, false, false] ?_
   refine zxx 31 ⟨56, rx.cs ++ aa.cs ++ az.cs⟩ 1 (fun ha gb aV gC => ?_)
   refine zzx ?_
   refine ready1 14 #[true, true, true, true, true, true, true, true, true, true, true, true, true, true, true, false] ?_
   refine sy_app1 32 (T := 23) (E := 56) (z := .agg #[.bool false, .slice none 0 0, .slice none 0 0, .bool false, .slice none 0 0, .slice none 0 0, .bool false, .slice none 0 0, .slice none 0 0]) (size := 9) (bytes := 168) (b := ha) (off := 0) (m := 1) (n := i) (cap := cp) (t := 32) (cs0 := cs) [5, 18, 32] (rx.cs ++ aa.cs ++ az.cs) xj xj xj yq rfl (lit_news ((Ext.refl _).cells gC)) (pt_one rx aa az) yq yv xq xq xq xq xw ?_
   intro cP b1 dI fd dM eC
   have c9 : b1.take ((i + 1) * 9) = rcs (L ++ [rx, aa, az]) := by rw [eC, cO, rcs_app, show rcs [rx, aa, az] = (rx.cs ++ aa.cs ++ az.cs) from by simp [rcs]]
   refine zzx ?_
   refine ready1 15 #[true, true, true, true, true, true, true, true, true, true, true, true, true, true, true, true] ?_
   refine zza 5 (.slc 32 0 (i + 1) cP) (zzx ?_)
   refine doneX ?_
   have hfw := Nt.frW el e9
   have hRn : RatsN gb (L ++ [rx, aa, az]) (V ++ [q, (Nt.mkR (ar : Int)), (((((1 + bn : Nat) : Int) : Int) : Rat) / ((((1 + cb : Nat) : Int) : Int) : Rat))]) 1 := RatsN.app (c0.ext (ad.t (ae.t (af.t (ba.t (b5.t (bx.t (bJ.t aV)))))))) (rats3 (aq.ext (ad.t (ae.t (af.t (ba.t (b5.t (bx.t (bJ.t aV)))))))) (cf.ext (ba.t (b5.t (bx.t (bJ.t aV))))) (RatN.fit (K := 3) (gi.ext aV) hfw.2))
   refine zzc 40 [(3, .adr 9 0), (4, .adr 4 0), (5, .slc 32 0 (i + 1) cP), (6, zI k)] [(4, ⟨32, rx.cs⟩), (9, ⟨108, [x.v, .int .i64 fk]⟩), (32, ⟨56, b1⟩)] ?_
   exact aj _ _ (ad.t (ae.t (af.t (ba.t (b5.t (bx.t (bJ.t aV))))))) ⟨fk, (Nt.mkR (ar : Int)), (((((1 + bn : Nat) : Int) : Int) : Rat) / ((((1 + cb : Nat) : Int) : Int) : Rat)), L ++ [rx, aa, az], b1, cP, ef, (Nt.mkR_wh _), hfw.1, c9, dM, dI, fd, rfl, hRn, (aq.ext (ad.t (ae.t (af.t (ba.t (b5.t (bx.t (bJ.t aV))))))))⟩
  have kc278 := fun (g : Nat) (w u1 : World) (e : Ext eo u1) (d : Dat u1 w) (hg : w.heap[g]? = some (.cells (tpc x bf).toArray 108 (0, 0))) (hu : u1.heap[g]? = some hidO) => (show Calls Tryz.prog 56 (Value.pointer (some ⟨g, 0, none⟩) :: [.int .i64 8]).toArray w _ from k_tapeNext (m := 8) d hg hu (SlR.ext (hx.ext (ap.t (an.t (ao.t (ak.t (ad.t (ae.t af.ext))))))) e) hb bR yq yq)
  refine sy_lendP 24 56 (t := 9) (V := ⟨108, [x.v, .int .i64 bf]⟩) [.int .i64 8] xj kc278 ?_
  clear kc278
  rintro ju jm et ai ⟨av, ck, rfl, bt, rfl, cF⟩
  refine zzx ?_
  refine takeXe 7 25 8 (x := .v (.int .i64 (IntKind.i64.wrap ((1 : Int) + (av : Int))))) (.v (.int .i64 ((1 + av : Nat) : Int))) (eqI xz) #[true, false, true, true, true, true, true, true, true, false, false, false, false, false, false, false] ?_
  refine ready2 1 9 #[true, true, true, true, true, true, true, true, true, false, false, false, false, false, false, false] #[true, false, true, true, true, true, true, true, true, true, false, false, false, false, false, false] ?_ ?_
  ·skip
   refine zzi 19 (.v (rx.v)) ty32 zze (zzx ?_)
   refine ready1 9 #[true, true, true, true, true, true, true, true, true, true, false, false, false, false, false, false] ?_
   have kc280 := fun (g : Nat) (w u1 : World) (e : Ext et u1) (d : Dat u1 w) (hg : w.heap[g]? = some (.cells (tpc x ck).toArray 108 (0, 0))) (hu : u1.heap[g]? = some hidO) => (show Calls Tryz.prog 56 (Value.pointer (some ⟨g, 0, none⟩) :: [.int .i64 4]).toArray w _ from k_tapeNext (m := 4) d hg hu (SlR.ext (hx.ext (ap.t (an.t (ao.t (ak.t (ad.t (ae.t (af.t ai)))))))) e) hb cF yq yq)
   refine sy_lendP 27 56 (t := 9) (V := ⟨108, [x.v, .int .i64 ck]⟩) [.int .i64 4] xj kc280 ?_
   clear kc280
   rintro jE hW ip bq ⟨b8, ed, rfl, eG, rfl, fc⟩
   refine zzx ?_
   refine takeXe 10 28 5 (x := .v (.int .i64 (IntKind.i64.wrap ((1 : Int) + (b8 : Int))))) (.v (.int .i64 ((1 + b8 : Nat) : Int))) (eqI xz) #[true, true, true, true, true, true, true, true, true, true, true, false, false, false, false, false] ?_
   refine ready1 11 #[true, true, true, true, true, true, true, true, true, true, true, true, false, false, false, false] ?_
   refine zzg 29 23 _ fun _ _ bX gO => Post.mono (k_rqFrac gO (a := ((1 + av : Nat) : Int)) (b := ((1 + b8 : Nat) : Int)) xq xq xq xq) ?_
   rintro _ h0 bz ⟨aG, rfl, gs⟩
   refine zzx ?_
   refine takeX 12 30 3 (.v (.agg #[.bool rx.s, rx.m.v, rx.d.v, .bool aa.s, aa.m.v, aa.d.v, .bool aG.s, aG.m.v, aG.d.v])) #[true, true, true, true, true, true, true, true, true, true, true, true, true, false, false, false] ?_
   refine ready1 13 #[true, true, true, true, true, true, true, true, true, true, true, true, true, true, false, false] ?_
   refine zxx 31 ⟨56, rx.cs ++ aa.cs ++ aG.cs⟩ 1 (fun hw gw aW hn => ?_)
   refine zzx ?_
   refine ready1 14 #[true, true, true, true, true, true, true, true, true, true, true, true, true, true, true, false] ?_
   refine sy_app1 32 (T := 23) (E := 56) (z := .agg #[.bool false, .slice none 0 0, .slice none 0 0, .bool false, .slice none 0 0, .slice none 0 0, .bool false, .slice none 0 0, .slice none 0 0]) (size := 9) (bytes := 168) (b := hw) (off := 0) (m := 1) (n := i) (cap := cp) (t := 32) (cs0 := cs) [5, 18, 32] (rx.cs ++ aa.cs ++ aG.cs) xj xj xj yq rfl (lit_news ((Ext.refl _).cells hn)) (pt_one rx aa aG) yq yv xq xq xq xq xw ?_
   intro cV b3 eD ec e0 e3
   have dw : b3.take ((i + 1) * 9) = rcs (L ++ [rx, aa, aG]) := by rw [e3, cO, rcs_app, show rcs [rx, aa, aG] = (rx.cs ++ aa.cs ++ aG.cs) from by simp [rcs]]
   refine zzx ?_
   refine ready1 15 #[true, true, true, true, true, true, true, true, true, true, true, true, true, true, true, true] ?_
   refine zza 5 (.slc 32 0 (i + 1) cV) (zzx ?_)
   refine doneX ?_
   have hfw := Nt.frW bt eG
   have hRn : RatsN gw (L ++ [rx, aa, aG]) (V ++ [q, (Nt.mkR (ar : Int)), (((((1 + av : Nat) : Int) : Int) : Rat) / ((((1 + b8 : Nat) : Int) : Int) : Rat))]) 1 := RatsN.app (c0.ext (ad.t (ae.t (af.t (ai.t (bq.t (bX.t (bz.t aW)))))))) (rats3 (aq.ext (ad.t (ae.t (af.t (ai.t (bq.t (bX.t (bz.t aW)))))))) (cf.ext (ai.t (bq.t (bX.t (bz.t aW))))) (RatN.fit (K := 3) (gs.ext aW) hfw.2))
   refine zzc 40 [(3, .adr 9 0), (4, .adr 4 0), (5, .slc 32 0 (i + 1) cV), (6, zI k)] [(4, ⟨32, rx.cs⟩), (9, ⟨108, [x.v, .int .i64 ed]⟩), (32, ⟨56, b3⟩)] ?_
   exact aj _ _ (ad.t (ae.t (af.t (ai.t (bq.t (bX.t (bz.t aW))))))) ⟨ed, (Nt.mkR (ar : Int)), (((((1 + av : Nat) : Int) : Int) : Rat) / ((((1 + b8 : Nat) : Int) : Int) : Rat)), L ++ [rx, aa, aG], b3, cV, fc, (Nt.mkR_wh _), hfw.1, dw, e0, eD, ec, rfl, hRn, (aq.ext (ad.t (ae.t (af.t (ai.t (bq.t (bX.t (bz.t aW))))))))⟩
  have kc293 := fun (g : Nat) (w u1 : World) (e : Ext et u1) (d : Dat u1 w) (hg : w.heap[g]? = some (.cells (tpc x ck).toArray 108 (0, 0))) (hu : u1.heap[g]? = some hidO) => (show Calls Tryz.prog 56 (Value.pointer (some ⟨g, 0, none⟩) :: [.int .i64 4]).toArray w _ from k_tapeNext (m := 4) d hg hu (SlR.ext (hx.ext (ap.t (an.t (ao.t (ak.t (ad.t (ae.t (af.t ai)))))))) e) hb cF yq yq)
  refine sy_lendP 27 56 (t := 9) (V := ⟨108, [x.v, .int .i64 ck]⟩) [.int .i64 4] xj kc293 ?_
  clear kc293
  rintro jf iJ jn aJ ⟨aP, cA, rfl, cM, rfl, cK⟩
  refine zzx ?_
  refine takeXe 10 28 6 (x := .v (.int .i64 (IntKind.i64.wrap ((1 : Int) + (aP : Int))))) (.v (.int .i64 ((1 + aP : Nat) : Int))) (eqI xz) #[true, false, true, true, true, true, true, true, true, true, true, false, false, false, false, false] ?_
  refine ready2 1 11 #[true, true, true, true, true, true, true, true, true, true, true, false, false, false, false, false] #[true, false, true, true, true, true, true, true, true, true, true, true, false, false, false, false] ?_ ?_
  ·skip
   refine zzi 19 (.v (rx.v)) ty32 zze (zzx ?_)
   refine ready1 11 #[true, true, true, true, true, true, true, true, true, true, true, true, false, false, false, false] ?_
   refine zzg 29 23 _ fun _ _ ce gP => Post.mono (k_rqFrac gP (a := ((1 + av : Nat) : Int)) (b := ((1 + aP : Nat) : Int)) xq xq xq xq) ?_
   rintro _ iR bo ⟨ax, rfl, fN⟩
   refine zzx ?_
   refine takeX 12 30 3 (.v (.agg #[.bool rx.s, rx.m.v, rx.d.v, .bool aa.s, aa.m.v, aa.d.v, .bool ax.s, ax.m.v, ax.d.v])) #[true, true, true, true, true, true, true, true, true, true, true, true, true, false, false, false] ?_
   refine ready1 13 #[true, true, true, true, true, true, true, true, true, true, true, true, true, true, false, false] ?_
   refine zxx 31 ⟨56, rx.cs ++ aa.cs ++ ax.cs⟩ 1 (fun gg fO bj hA => ?_)
   refine zzx ?_
   refine ready1 14 #[true, true, true, true, true, true, true, true, true, true, true, true, true, true, true, false] ?_
   refine sy_app1 32 (T := 23) (E := 56) (z := .agg #[.bool false, .slice none 0 0, .slice none 0 0, .bool false, .slice none 0 0, .slice none 0 0, .bool false, .slice none 0 0, .slice none 0 0]) (size := 9) (bytes := 168) (b := gg) (off := 0) (m := 1) (n := i) (cap := cp) (t := 32) (cs0 := cs) [5, 18, 32] (rx.cs ++ aa.cs ++ ax.cs) xj xj xj yq rfl (lit_news ((Ext.refl _).cells hA)) (pt_one rx aa ax) yq yv xq xq xq xq xw ?_
   intro cW bs ek eg d2 d5
   have dm : bs.take ((i + 1) * 9) = rcs (L ++ [rx, aa, ax]) := by rw [d5, cO, rcs_app, show rcs [rx, aa, ax] = (rx.cs ++ aa.cs ++ ax.cs) from by simp [rcs]]
   refine zzx ?_
   refine ready1 15 #[true, true, true, true, true, true, true, true, true, true, true, true, true, true, true, true] ?_
   refine zza 5 (.slc 32 0 (i + 1) cW) (zzx ?_)
   refine doneX ?_
   have hfw := Nt.frW bt cM
   have hRn : RatsN fO (L ++ [rx, aa, ax]) (V ++ [q, (Nt.mkR (ar : Int)), (((((1 + av : Nat) : Int) : Int) : Rat) / ((((1 + aP : Nat) : Int) : Int) : Rat))]) 1 := RatsN.app (c0.ext (ad.t (ae.t (af.t (ai.t (aJ.t (ce.t (bo.t bj)))))))) (rats3 (aq.ext (ad.t (ae.t (af.t (ai.t (aJ.t (ce.t (bo.t bj)))))))) (cf.ext (ai.t (aJ.t (ce.t (bo.t bj))))) (RatN.fit (K := 3) (fN.ext bj) hfw.2))
   refine zzc 40 [(3, .adr 9 0), (4, .adr 4 0), (5, .slc 32 0 (i + 1) cW), (6, zI k)] [(4, ⟨32, rx.cs⟩), (9, ⟨108, [x.v, .int .i64 cA]⟩), (32, ⟨56, bs⟩)] ?_
   exact aj _ _ (ad.t (ae.t (af.t (ai.t (aJ.t (ce.t (bo.t bj))))))) ⟨cA, (Nt.mkR (ar : Int)), (((((1 + av : Nat) : Int) : Int) : Rat) / ((((1 + aP : Nat) : Int) : Int) : Rat)), L ++ [rx, aa, ax], bs, cW, cK, (Nt.mkR_wh _), hfw.1, dm, d2, ek, eg, rfl, hRn, (aq.ext (ad.t (ae.t (af.t (ai.t (aJ.t (ce.t (bo.t bj))))))))⟩
  refine zzg 29 23 _ fun _ _ bu gQ => Post.mono (k_rqFrac gQ (a := ((1 + av : Nat) : Int)) (b := ((1 + aP : Nat) : Int)) xq xq xq xq) ?_
  rintro _ ja bl ⟨aF, rfl, f3⟩
  refine zzx ?_
  refine ready1 1 #[true, true, true, true, true, true, true, true, true, true, true, true, false, false, false, false] ?_
  refine zzi 19 (.v (rx.v)) ty32 zze (zzx ?_)
  refine takeX 12 30 3 (.v (.agg #[.bool rx.s, rx.m.v, rx.d.v, .bool aa.s, aa.m.v, aa.d.v, .bool aF.s, aF.m.v, aF.d.v])) #[true, true, true, true, true, true, true, true, true, true, true, true, true, false, false, false] ?_
  refine ready1 13 #[true, true, true, true, true, true, true, true, true, true, true, true, true, true, false, false] ?_
  refine zxx 31 ⟨56, rx.cs ++ aa.cs ++ aF.cs⟩ 1 (fun gz g8 bc hk => ?_)
  refine zzx ?_
  refine ready1 14 #[true, true, true, true, true, true, true, true, true, true, true, true, true, true, true, false] ?_
  refine sy_app1 32 (T := 23) (E := 56) (z := .agg #[.bool false, .slice none 0 0, .slice none 0 0, .bool false, .slice none 0 0, .slice none 0 0, .bool false, .slice none 0 0, .slice none 0 0]) (size := 9) (bytes := 168) (b := gz) (off := 0) (m := 1) (n := i) (cap := cp) (t := 32) (cs0 := cs) [5, 18, 32] (rx.cs ++ aa.cs ++ aF.cs) xj xj xj yq rfl (lit_news ((Ext.refl _).cells hk)) (pt_one rx aa aF) yq yv xq xq xq xq xw ?_
  intro dc bW eB eT dB eI
  have cU : bW.take ((i + 1) * 9) = rcs (L ++ [rx, aa, aF]) := by rw [eI, cO, rcs_app, show rcs [rx, aa, aF] = (rx.cs ++ aa.cs ++ aF.cs) from by simp [rcs]]
  refine zzx ?_
  refine ready1 15 #[true, true, true, true, true, true, true, true, true, true, true, true, true, true, true, true] ?_
  refine zza 5 (.slc 32 0 (i + 1) dc) (zzx ?_)
  refine doneX ?_
  have hfw := Nt.frW bt cM
  have hRn : RatsN g8 (L ++ [rx, aa, aF]) (V ++ [q, (Nt.mkR (ar : Int)), (((((1 + av : Nat) : Int) : Int) : Rat) / ((((1 + aP : Nat) : Int) : Int) : Rat))]) 1 := RatsN.app (c0.ext (ad.t (ae.t (af.t (ai.t (aJ.t (bu.t (bl.t bc)))))))) (rats3 (aq.ext (ad.t (ae.t (af.t (ai.t (aJ.t (bu.t (bl.t bc)))))))) (cf.ext (ai.t (aJ.t (bu.t (bl.t bc))))) (RatN.fit (K := 3) (f3.ext bc) hfw.2))
  refine zzc 40 [(3, .adr 9 0), (4, .adr 4 0), (5, .slc 32 0 (i + 1) dc), (6, zI k)] [(4, ⟨32, rx.cs⟩), (9, ⟨108, [x.v, .int .i64 cA]⟩), (32, ⟨56, bW⟩)] ?_
  exact aj _ _ (ad.t (ae.t (af.t (ai.t (aJ.t (bu.t (bl.t bc))))))) ⟨cA, (Nt.mkR (ar : Int)), (((((1 + av : Nat) : Int) : Int) : Rat) / ((((1 + aP : Nat) : Int) : Int) : Rat)), L ++ [rx, aa, aF], bW, dc, cK, (Nt.mkR_wh _), hfw.1, cU, dB, eB, eT, rfl, hRn, (aq.ext (ad.t (ae.t (af.t (ai.t (aJ.t (bu.t (bl.t bc))))))))⟩
 have qhb168 := of_decide_eq_false bD
 refine zyc (zzp (zzd ?_))
 have hk0 : k = 0 := by omega
 refine zyp (r := 5) (t := 32) [5, 32] xw xj (by rfl) (by rfl) xj (fun bV f1 f6 hF dK => ?_)
 have ez : GrN f1 ⟨some ⟨bV, 0, none⟩, i, cp⟩ i V 1 := gr_data dK cO iW hr gJ xq hG.len (c0.ext f6)
 refine zzf (zza 39 (.v (.slice (some ⟨bV, 0, none⟩) i cp)) (zza 2 (.v (.slice (some ⟨bV, 0, none⟩) i cp)) (zzb (zzo (ret0 [.slice (some ⟨bV, 0, none⟩) i cp] ⟨zzq, trivial⟩ fun h2 fF => ?_)))))
 exact ⟨(⟨some ⟨bV, 0, none⟩, i, cp⟩ : Sl), i, V, rfl, (ez.ext fF), hG.done xq xq⟩
def il0 : IL := ⟨false, ⟨none, 0, 0⟩⟩
def ils (L : List IL) : List Value := L.flatMap IL.cs
section
variable {u u' w w' : World} {L M : List IL} {r : IL} {l m : List Int} {q : Int} {K K' n i c b off : Nat} {x y : Sl}
theorem ils_cons : ils (r :: L) = r.cs ++ ils L := rfl
theorem ils_app : ils (L ++ M) = ils L ++ ils M := by simp [ils]
theorem ils_len : (ils L).length = L.length * 2 := by
 induction L with
 | nil => rfl
 | cons r L ih => rw [ils_cons, List.length_append, ih, List.length_cons]; simp [IL.cs]; omega
theorem ils_drop (n : Nat) : (ils L).drop (n * 2) = ils (L.drop n) := by
 induction n generalizing L with
 | zero => simp
 | succ n ih =>
  cases L with
  | nil => simp [ils]
  | cons r L => rw [ils_cons, show (n + 1) * 2 = r.cs.length + n * 2 by simp [IL.cs]; omega, List.drop_append, Nat.add_sub_cancel_left, ih, List.drop_of_length_le xq]; simp
theorem ils_take (n : Nat) : (ils L).take (n * 2) = ils (L.take n) := by
 induction n generalizing L with
 | zero => simp [ils]
 | succ n ih =>
  cases L with
  | nil => simp [ils]
  | cons r L => rw [ils_cons, show (n + 1) * 2 = r.cs.length + n * 2 by simp [IL.cs]; omega, List.take_append, Nat.add_sub_cancel_left, ih, List.take_of_length_le xq]; simp [ils_cons]
theorem ils_get (h : i < L.length) : ((ils L).drop (i * 2)).take 2 = (L.getD i il0).cs := by
 rw [ils_drop, List.drop_eq_getElem_cons h, ils_cons]
 have : (L[i].cs).length = 2 := rfl
 rw [List.take_append_of_le_length xq, List.take_of_length_le xq]
 simp [h]
theorem setL_ils (h : i < L.length) {off : Nat} (ho : off = i * 2) : setL (ils L) off r.v.cells.toList = ils (L.set i r) := by
 subst ho
 have e : r.v.cells.toList = r.cs := rfl
 rw [e]
 unfold setL
 rw [ils_take, show i * 2 + r.cs.length = (i + 1) * 2 by simp [IL.cs]; omega, ils_drop, List.set_eq_take_append_cons_drop, if_pos h, ils_app, ils_cons, List.append_assoc]
theorem made_ils (n : Nat) : (madeCells (Value.agg #[.bool false, .slice none 0 0]).cells (n * 2)).toList = ils (List.replicate n il0) := by
 apply List.ext_getElem?
 intro j
 have hl : (ils (List.replicate n il0)).length = n * 2 := by rw [ils_len]; simp
 by_cases hj : j < n * 2
 ·have e1 : (madeCells (Value.agg #[.bool false, .slice none 0 0]).cells (n * 2)).toList[j]? = some ((Value.agg #[.bool false, .slice none 0 0]).cells[j % 2]!) := by
   simp [madeCells, hj, Value.cells]
  rw [e1]
  have h3 : j / 2 < (List.replicate n il0).length := by simp; omega
  have e2 := ils_get h3
  have e3 : (ils (List.replicate n il0))[j]? = (((ils (List.replicate n il0)).drop (j / 2 * 2)).take 2)[j % 2]? := by
   rw [List.getElem?_take_of_lt xq, List.getElem?_drop]; congr 1; omega
  rw [e3, e2]
  have e4 : (List.replicate n il0).getD (j / 2) il0 = il0 := by rw [List.getD_eq_getElem?_getD, List.getElem?_replicate]; split <;> rfl
  rw [e4]
  have : j % 2 = 0 ∨ j % 2 = 1 := by omega
  rcases this with h | h <;> rw [h] <;> rfl
 rw [List.getElem?_eq_none (by simp [madeCells]; omega), List.getElem?_eq_none xq]
def IlsN (u : World) (L : List IL) (l : List Int) (K : Nat) : Prop := L.length = l.length ∧ ∀ i, i < l.length → IntN u (L.getD i il0) (l.getD i 0) K
theorem IlsN.ext (h : IlsN u L l K) (e : Ext u u') : IlsN u' L l K := ⟨h.1, fun i hi => (h.2 i hi).ext e⟩
theorem IlsN.nil (u : World) (K : Nat) : IlsN u [] [] K := ⟨rfl, fun i hi => by cases hi⟩
theorem IlsN.snoc (h : IlsN u L l K) (hr : IntN u r q K) : IlsN u (L ++ [r]) (l ++ [q]) K := by
 refine ⟨by simp [h.1], fun i hi => ?_⟩
 simp at hi
 by_cases e : i < l.length
 ·have := h.2 i e
  rw [List.getD_eq_getElem?_getD, List.getElem?_append_left (by rw [h.1]; exact e), List.getD_eq_getElem?_getD (l := l ++ [q]), List.getElem?_append_left e]
  rw [List.getD_eq_getElem?_getD, List.getD_eq_getElem?_getD] at this
  exact this
 have : i = l.length := by omega
 subst this
 rw [List.getD_eq_getElem?_getD, List.getElem?_append_right (by rw [h.1]; exact Nat.le_refl _), List.getD_eq_getElem?_getD, List.getElem?_append_right (Nat.le_refl _)]
 simp [h.1]; exact hr
theorem IlsN.step (h : IlsN u (L.take i) l K) (hi : i < L.length) (hr : IntN u r q K) : IlsN u ((L.set i r).take (i + 1)) (l ++ [q]) K := by
 have e : (L.set i r).take (i + 1) = L.take i ++ [r] := by
  rw [List.take_set, List.take_succ_eq_append_getElem hi, List.set_append_right _ _ yz]
  simp [Nat.min_eq_left (Nat.le_of_lt hi)]
 rw [e]; exact h.snoc hr
theorem IlsN.tstep {t : List Int} (h : IlsN u (L.take i) (t.take i) K) (hi : i < L.length) (ht : i < t.length) (hr : IntN u r q K) (hq : q = t.getD i 0) : IlsN u ((L.set i r).take (i + 1)) (t.take (i + 1)) K := by
 have e : t.take i ++ [t.getD i 0] = t.take (i + 1) := by rw [List.take_succ_eq_append_getElem ht]; simp [ht]
 rw [← e, ← hq]; exact h.step hi hr
theorem IlsN.tnil (u : World) (L : List IL) (t : List Int) (K : Nat) : IlsN u (L.take 0) (t.take 0) K := IlsN.nil u K
theorem IlsN.tdone {t : List Int} (h : IlsN u (L.take i) (t.take i) K) (hi : i = L.length) (ht : i = t.length) : IlsN u L t K := by
 rw [hi, List.take_length, ← hi, ht, List.take_length] at h; exact h
def SlI (u : World) (x : Sl) (cs : List Value) : Prop := cs.length = x.n * 2 ∧ x.n ≤ x.c ∧ x.c ≤ maxLen ∧ (0 < x.n → ∃ b o, x.a = some ⟨b, o, none⟩ ∧ ∀ j, j < cs.length → u.cell? ⟨b, o + j, none⟩ = cs[j]?)
theorem SlI.ext {cs : List Value} (h : SlI u x cs) (e : Ext u u') : SlI u' x cs := by
 obtain ⟨h1, h2, h3, h4⟩ := h
 refine ⟨h1, h2, h3, fun hp => ?_⟩
 obtain ⟨b, o, e1, hc⟩ := h4 hp
 refine ⟨b, o, e1, fun j hj => ?_⟩
 have := hc j hj
 rw [List.getElem?_eq_getElem hj] at this ⊢
 exact e.cell this
def ItsN (u : World) (x : Sl) (l : List Int) (K : Nat) : Prop := ∃ L, SlI u x (ils L) ∧ IlsN u L l K
theorem ItsN.ext (h : ItsN u x l K) (e : Ext u u') : ItsN u' x l K := by obtain ⟨L, h1, h2⟩ := h; exact ⟨L, h1.ext e, h2.ext e⟩
theorem ItsN.len (h : ItsN u x l K) : x.n = l.length := by
 obtain ⟨L, h1, h2⟩ := h
 have := h1.1; rw [ils_len, h2.1] at this; omega
theorem its_at (h : ItsN u x l K) (hi : i < l.length) : ∃ (r : IL) (b o : Nat), x.a = some ⟨b, o, none⟩ ∧ (∀ j, j < r.cs.length → u.cell? ⟨b, o + i * 2 + j, none⟩ = r.cs[j]?) ∧ IntN u r (l.getD i 0) K := by
 have hn := h.len
 obtain ⟨L, ⟨h1, h2, h3, h4⟩, h5⟩ := h
 obtain ⟨b, o, e, hc⟩ := h4 xq
 have hL : i < L.length := by rw [h5.1]; exact hi
 refine ⟨L.getD i il0, b, o, e, fun j hj => ?_, h5.2 i hi⟩
 have hj : j < 2 := hj
 have := hc (i * 2 + j) (by rw [ils_len]; omega)
 rw [← Nat.add_assoc] at this
 rw [this, ← ils_get hL, List.getElem?_take_of_lt hj, List.getElem?_drop]
theorem its_data1 {t : TypeId} (h : u.heap[b]? = some (.cells (ils L).toArray t (0, 0))) (hm : L.length ≤ maxLen) (hL : IlsN u L l K) (hn : n = L.length) : ItsN u ⟨some ⟨b, 0, none⟩, n, n⟩ l K := by
 subst hn
 refine ⟨L, ⟨ils_len, Nat.le_refl _, hm, fun _ => ⟨b, 0, rfl, fun j hj => ?_⟩⟩, hL⟩
 rw [Nat.zero_add, cells_at h]; simp
end
section
variable {u u' : World} {r : RL} {q : Rat} {K K' n i c b : Nat} {x : Sl} {l : List Rat}
def RatP (u : World) (r : RL) (q : Rat) (K : Nat) : Prop := (∃ z D, 0 < D ∧ IntV u ⟨r.s, r.m⟩ z K ∧ NatV u r.d D K ∧ q = mkRat z D) ∧ 1 ≤ K
theorem RatP.raw (h : RatP u r q K) : RatV u r q K := by obtain ⟨⟨z, D, h0, h1, h2, h3⟩, h4⟩ := h; exact ⟨⟨z, D, h1, h2, h3⟩, h4⟩
theorem RatP.ext (h : RatP u r q K) (e : Ext u u') : RatP u' r q K := by obtain ⟨⟨z, D, h0, h1, h2, h3⟩, h4⟩ := h; exact ⟨⟨z, D, h0, h1.ext e, h2.ext e, h3⟩, h4⟩
theorem RatP.more (h : RatP u r q K) (k : K ≤ K') : RatP u r q K' := by obtain ⟨⟨z, D, h0, h1, h2, h3⟩, h4⟩ := h; exact ⟨⟨z, D, h0, h1.more k, h2.more k, h3⟩, by omega⟩
theorem RatN.toP (h : RatN u r q K) : RatP u r q K := by
 obtain ⟨⟨z, D, h1, h2, h3⟩, h4⟩ := h.raw
 exact ⟨⟨q.num, q.den, q.den_pos, h.1.raw, h.2.raw, (Rat.mkRat_self q).symm⟩, h4⟩
theorem Nt.absQ_mk {z : Int} {D : Nat} (h0 : 0 < D) : Nt.absQ (mkRat z D) = mkRat (z.natAbs : Int) D := by
 have hD : (0 : Rat) < ((D : Int) : Rat) := by exact_mod_cast (show (0 : Int) < (D : Int) by omega)
 unfold Nt.absQ
 rw [← Nt.mk_div, ← Nt.mk_div]
 have hz : ((z.natAbs : Int) : Rat) = if (z : Rat) < 0 then -(z : Rat) else (z : Rat) := by
  split
  ·rename_i h
   have h : z < 0 := by exact_mod_cast h
   rw [show (z.natAbs : Int) = -z by omega, Rat.intCast_neg]
  rename_i h
  have h : ¬ z < 0 := by exact_mod_cast h
  rw [show (z.natAbs : Int) = z by omega]
 have hi : (0 : Rat) < (((D : Int) : Rat))⁻¹ := Rat.inv_pos.2 hD
 have hdiv : (z : Rat) / ((D : Int) : Rat) < 0 ↔ (z : Rat) < 0 := by
  rw [Rat.div_def]
  constructor
  ·intro h
   by_cases c : (z : Rat) < 0
   ·exact c
   have := Rat.mul_nonneg (show (0 : Rat) ≤ (z : Rat) by grind) (Rat.le_of_lt hi); grind
  intro h
  have := Rat.mul_pos (show (0 : Rat) < -(z : Rat) by grind) hi
  grind
 rw [hz]
 by_cases c : (z : Rat) < 0
 ·rw [if_pos (hdiv.2 c), if_pos c, Rat.div_def, Rat.div_def]; grind
 rw [if_neg (fun h => c (hdiv.1 h)), if_neg c]
theorem RatP.abs (h : RatP u r q K) : RatP u ⟨false, r.m, r.d⟩ (Nt.absQ q) K := by
 obtain ⟨⟨z, D, h0, h1, h2, h3⟩, h4⟩ := h
 refine ⟨⟨(z.natAbs : Int), D, h0, nat_int (IntV.abs h1), h2, ?_⟩, h4⟩
 rw [h3, Nt.absQ_mk h0]
def RtsP (u : World) (L : List RL) (l : List Rat) (K : Nat) : Prop := L.length = l.length ∧ ∀ i, i < l.length → RatP u (L.getD i rl0) (l.getD i 0) K
def PolP (u : World) (x : Sl) (l : List Rat) (K : Nat) : Prop := ∃ L, SlC u x (rcs L) ∧ RtsP u L l K
theorem RtsP.ext {L : List RL} (h : RtsP u L l K) (e : Ext u u') : RtsP u' L l K := ⟨h.1, fun i hi => (h.2 i hi).ext e⟩
theorem PolP.ext (h : PolP u x l K) (e : Ext u u') : PolP u' x l K := by obtain ⟨L, h1, h2⟩ := h; exact ⟨L, h1.ext e, h2.ext e⟩
theorem PolP.raw (h : PolP u x l K) : PolV u x l K := by obtain ⟨L, h1, h2⟩ := h; exact ⟨L, h1, h2.1, fun i hi => (h2.2 i hi).raw⟩
theorem PolP.len (h : PolP u x l K) : x.n = l.length := h.raw.len
theorem polp_at (h : PolP u x l K) (hi : i < l.length) : ∃ (r : RL) (b o : Nat), x.a = some ⟨b, o, none⟩ ∧ (∀ j, j < r.cs.length → u.cell? ⟨b, o + i * 3 + j, none⟩ = r.cs[j]?) ∧ RatP u r (l.getD i 0) K := by
 have hn := h.len
 obtain ⟨L, ⟨h1, h2, h3, h4⟩, h5⟩ := h
 obtain ⟨b, o, e, hc⟩ := h4 xq
 have hL : i < L.length := by rw [h5.1]; exact hi
 refine ⟨L.getD i rl0, b, o, e, fun j hj => ?_, h5.2 i hi⟩
 have hj : j < 3 := hj
 have := hc (i * 3 + j) (by rw [zyy]; omega)
 rw [← Nat.add_assoc] at this
 rw [this, ← rcs_get hL, List.getElem?_take_of_lt hj, List.getElem?_drop]
theorem RtsP.tnil (u : World) (L : List RL) (t : List Rat) (K : Nat) : RtsP u (L.take 0) (t.take 0) K := ⟨rfl, fun i hi => by cases hi⟩
theorem RtsP.tstep {L : List RL} {t : List Rat} (h : RtsP u (L.take i) (t.take i) K) (hi : i < L.length) (ht : i < t.length) (hr : RatP u r q K) (hq : q = t.getD i 0) : RtsP u ((L.set i r).take (i + 1)) (t.take (i + 1)) K := by
 refine ⟨by simp; omega, fun j hj => ?_⟩
 rw [List.length_take] at hj
 have e1 : ((L.set i r).take (i + 1)).getD j rl0 = if j = i then r else (L.take i).getD j rl0 := by
  rw [List.getD_eq_getElem?_getD, List.getElem?_take_of_lt xq]
  by_cases e : j = i
  ·rw [if_pos e, e, List.getElem?_set_self hi]; rfl
  rw [if_neg e, List.getElem?_set_ne (Ne.symm e), List.getD_eq_getElem?_getD, List.getElem?_take_of_lt xq]
 have e2 : (t.take (i + 1)).getD j 0 = if j = i then q else (t.take i).getD j 0 := by
  rw [List.getD_eq_getElem?_getD, List.getElem?_take_of_lt xq]
  by_cases e : j = i
  ·rw [if_pos e, e, hq, List.getD_eq_getElem?_getD]
  rw [if_neg e, List.getD_eq_getElem?_getD, List.getElem?_take_of_lt xq]
 rw [e1, e2]
 split
 ·exact hr
 exact h.2 j (by rw [List.length_take]; omega)
theorem RtsP.tdone {L : List RL} {t : List Rat} (h : RtsP u (L.take i) (t.take i) K) (hi : i = L.length) (ht : i = t.length) : RtsP u L t K := by
 rw [hi, List.take_length, ← hi, ht, List.take_length] at h; exact h
theorem polp_data1 {L : List RL} {t : TypeId} (h : u.heap[b]? = some (.cells (rcs L).toArray t (0, 0))) (hm : L.length ≤ maxLen) (hL : RtsP u L l K) (hn : n = L.length) : PolP u ⟨some ⟨b, 0, none⟩, n, n⟩ l K := by
 subst hn
 refine ⟨L, ⟨zyy, Nat.le_refl _, hm, fun _ => ⟨b, 0, rfl, fun j hj => ?_⟩⟩, hL⟩
 rw [Nat.zero_add, cells_at h]; simp
end
theorem Nt.sg_no {V : List Rat} {N i : Nat} (h : Nt.GrOK V N) (hi : i < N) : decide (Nt.sgQ (Nt.gW V i) ≤ (0 : Int)) = false := by
 have h9 := h.gr.pos i hi
 unfold Nt.sgQ
 rw [Nt.cmpQ_le]
 exact decide_eq_false (fun h => by grind)
theorem Nt.cmp_no {V : List Rat} {N i : Nat} (h : Nt.GrOK V N) (hi : i < N) (h0 : 0 < i) : decide ((0 : Int) ≤ Nt.cmpQ (Nt.gX V (i - 1)) (Nt.gX V i)) = false := by
 have h9 := h.asc (i - 1) i xq hi
 unfold Nt.cmpQ
 rw [if_pos h9]; rfl
set_option maxHeartbeats 2000000 in
theorem k_lsqValid {u w : World} {x : Sl} {N : Nat} {V : List Rat} (d : Dat u w) (hg : GrN u x N V 1) (ho : Nt.GrOK V N) : Calls Tryz.prog 89 #[x.v] w (Post u w fun v _ => v = .bool true) := by
 have hxn : x.n = N := hg.len
 have hN12 := ho.n12
 have hN1 := ho.n1
 refine zzm (args := [x.v]) Tryz.func89 rfl Tryz.ntmps89 (rs := [.tmp 2]) Tryz.results89 (le_b rfl) (le_b rfl) d ?_
 refine sq9 (zza 2 (zB false) (zzb (zzd (sq9 (zza 5 (.v (x.v)) (zza 6 (zI x.n) (zza 7 (zB (decide ((x.n : Int) < 1))) (zyq 8 (x := zB (decide ((x.n : Int) < 1))) (zB false) (by rw [show (decide ((x.n : Int) < 1)) = false from (decide_eq_false xq)]) (zza 9 (.v (x.v)) ?_ (hw := w1 3 false 8))))))))))
 refine zza 10 (zI x.n) ?_ (hw := w1 3 false 8)
 refine zza 11 (zB (decide ((200 : Int) < (x.n : Int)))) ?_ (hw := w1 3 false 8)
 refine zza 12 (zB (decide ((200 : Int) < (x.n : Int)))) (zzb (zzu (b := decide ((200 : Int) < (x.n : Int))) xj (fun hb => ?_) (fun hb => ?_)))
 ·exact absurd hb (by rw [show (decide ((200 : Int) < (x.n : Int))) = false from (decide_eq_false xq)]; decide)
 clear hb
 refine zzs (zzp ?_)
 refine zzd (sq9 (zza 13 (.v (x.v)) (zza 14 (zI x.n) (zza 15 (zI 0) (zzb (zzt (zyn (I := fun aB S' u' => ∃ (i : Nat), (aB = N - i) ∧ (i ≤ N) ∧ (S' = St.of 41 [(0, .v (x.v)), (13, .v (x.v)), (14, zI x.n), (15, zI i)] []) ∧ (Ext u u')) (fun m S u1 u2 e h => by obtain ⟨i, hm, p0, hS, hE⟩ := h; exact ⟨i, hm, p0, hS, hE.trans e⟩) _ yk ⟨0, rfl, by omega, rfl, (Ext.refl _)⟩ ?_)))))))
 rintro aB _ u12 ⟨i, aD, hi, rfl, ae⟩
 refine sq9 (zza 16 (zB (decide ((i : Int) < (x.n : Int)))) (zzb (zzd (zzu (b := decide ((i : Int) < (x.n : Int))) xj (fun ac => ?_) (fun ac => ?_)))))
 ·have qhb13 := of_decide_eq_true ac
  refine zzs (zzp ?_)
  refine zzd (zzt (sq9 (zza 17 (zI i) ?_)))
  have aK : x.n = N := GrN.len (hg.ext ae)
  obtain ⟨ad, aj, aa, b14, aA, ar, am, ao, ah, ag, ay, ak⟩ := gr_at (hg.ext ae) (i := i) xq
  refine zya 18 (aA + i * 9) (n := x.n) (off := aA) (sz := 9) (i := (i : Int)) xq ar xq (by first | omega | (have h9 : i < N := xq; omega)) sl23 (zym 19 (ad.cs ++ aj.cs ++ aa.cs) (gr_pt am ao ah) ty56 (zzk 4 ⟨56, [.bool false, .slice none 0 0, .slice none 0 0, .bool false, .slice none 0 0, .slice none 0 0, .bool false, .slice none 0 0, .slice none 0 0]⟩ (zza 3 (zI i) (zzj ⟨56, ad.cs ++ aj.cs ++ aa.cs⟩ ty56 ?_))))
  refine zzb (zzd (zzz [0, 1, 3, 7, 15, 31, 63, 127, 255, 255, 767, 2047, 4095, 8191, 255, 16639, 65535, 131071, 262143, 524287] [(0, []), (1, []), (2, []), (3, []), (4, []), (5, []), (6, []), (7, []), (8, []), (9, []), (10, []), (11, []), (12, []), (13, []), (14, []), (15, []), (16, []), (17, []), (18, []), (19, [])] xj xj (zza 20 (.adr 4 6) (zzi 21 (.v (aa.v)) ty32 zze (zzg 22 66 _ fun _ _ af aL => Post.mono (k_ratSign aL (ak.ext af).raw) ?_)))))
  rintro _ u16 al rfl
  refine zza 23 (zB (decide ((Nt.sgQ (Nt.gW V i)) ≤ 0))) (zyq 24 (x := zB (decide ((Nt.sgQ (Nt.gW V i)) ≤ 0))) (zB false) (by rw [show (decide ((Nt.sgQ (Nt.gW V i)) ≤ 0)) = false from (Nt.sg_no ho xq)]) (zza 25 (zI i) ?_ (hw := w1 4 false 24)))
  refine zza 26 (zB (decide ((0 : Int) < (i : Int)))) ?_ (hw := w1 4 false 24)
  rcases Bool.eq_false_or_eq_true (decide ((0 : Int) < (i : Int))) with hs20 | hs20
  ·refine zyq 27 (x := zB (decide ((0 : Int) < (i : Int)))) (zB true) (by rw [hs20]) ?_ (hw := w1 4 false 24)
   have qhs20 := of_decide_eq_true hs20
   refine zza 28 (.v (x.v)) ?_ (hw := w1 7 true 27)
   refine zza 29 (zI i) ?_ (hw := w1 7 true 27)
   refine zyq 30 (x := zI (IntKind.i64.wrap ((i : Int) - 1))) (zI (i - 1 : Nat)) (eqI xz) ?_ (hw := w1 7 true 27)
   have aH : x.n = N := GrN.len (hg.ext (ae.t (af.t al.ext)))
   obtain ⟨aq, aI, aE, aF, au, av, an, ax, aw, ai, aC, az⟩ := gr_at (hg.ext (ae.t (af.t al.ext))) (i := i - 1) xq
   refine zya 31 (au + (i - 1) * 9) (n := x.n) (off := au) (sz := 9) (i := ((i - 1 : Nat) : Int)) xq av xq (by first | omega | (have h9 : i - 1 < N := xq; omega)) sl23 ?_ (hw := w1 7 true 27)
   refine zza 32 (.v (.pointer (some ⟨aF, au + (i - 1) * 9, none⟩))) ?_ (hw := w1 7 true 27)
   refine zym 33 (aq.cs) an ty32 ?_ (hw := w1 7 true 27)
   refine zza 34 (.adr 4 0) ?_ (hw := w1 7 true 27)
   refine zzi 35 (.v (ad.v)) ty32 zze ?_ (hw := w1 7 true 27)
   refine zzg 36 78 _ (fun _ _ ap aG => Post.mono (k_ratCompare aG (ai.ext ap).raw (ag.ext (af.t (al.t ap))).raw xq xq) ?_) (hw := w1 7 true 27)
   rintro _ u23 aJ rfl
   refine zza 37 (zB (decide ((0 : Int) ≤ (Nt.cmpQ (Nt.gX V (i - 1)) (Nt.gX V i))))) ?_ (hw := w1 7 true 27)
   refine zza 38 (zB (decide ((0 : Int) ≤ (Nt.cmpQ (Nt.gX V (i - 1)) (Nt.gX V i))))) ?_ (hw := w1 4 false 24)
   refine zza 39 (zB (decide ((0 : Int) ≤ (Nt.cmpQ (Nt.gX V (i - 1)) (Nt.gX V i))))) (zzc 41 [(0, .v (x.v)), (13, .v (x.v)), (14, zI x.n), (15, zI i), (39, zB (decide ((0 : Int) ≤ (Nt.cmpQ (Nt.gX V (i - 1)) (Nt.gX V i)))))] [] (zzu (b := decide ((0 : Int) ≤ (Nt.cmpQ (Nt.gX V (i - 1)) (Nt.gX V i)))) xj (fun hb => ?_) (fun hb => ?_)))
   ·exact absurd hb (by rw [show (decide ((0 : Int) ≤ (Nt.cmpQ (Nt.gX V (i - 1)) (Nt.gX V i)))) = false from (Nt.cmp_no ho xq xq)]; decide)
   clear hb
   refine zzs (zzp ?_)
   refine zzf (zyq 40 (x := zI (IntKind.i64.wrap ((i : Int) + 1))) (zI (i + 1 : Nat)) (eqI xz) (zza 15 (zI (i + 1 : Nat)) (zzx ?_)))
   refine ⟨_, ?_, _, by exact zzv _ _ _, i + 1, rfl, by omega, rfl, (ae.t (af.t (al.t (ap.t aJ.ext))))⟩
   omega
  refine zyq 27 (x := zB (decide ((0 : Int) < (i : Int)))) (zB false) (by rw [hs20]) ?_ (hw := w1 4 false 24)
  have qhs20 := of_decide_eq_false hs20
  refine zzn 28 (uw 7 true false 27) (zzn 29 (uw 7 true false 27) (zzn 30 (uw 7 true false 27) (zzn 31 (uw 7 true false 27) (zzn 32 (uw 7 true false 27) (zzn 33 (uw 7 true false 27) (zzn 34 (uw 7 true false 27) (zzn 35 (uw 7 true false 27) (zzn 36 (uw 7 true false 27) (zzn 37 (uw 7 true false 27) (zza 38 (zB false) ?_ (hw := w1 4 false 24)))))))))))
  refine zza 39 (zB false) (zzc 41 [(0, .v (x.v)), (13, .v (x.v)), (14, zI x.n), (15, zI i), (39, zB false)] [] (zys xj (zzs (zzp ?_))))
  refine zzf (zyq 40 (x := zI (IntKind.i64.wrap ((i : Int) + 1))) (zI (i + 1 : Nat)) (eqI xz) (zza 15 (zI (i + 1 : Nat)) (zzx ?_)))
  refine ⟨_, ?_, _, by exact zzv _ _ _, i + 1, rfl, by omega, rfl, (ae.t (af.t al.ext))⟩
  omega
 have qhb13 := of_decide_eq_false ac
 refine zyc (zzp (sq9 (zza 2 (zB true) (zzb (zzo (ret0 [.bool true] ⟨zzq, trivial⟩ fun u26 e27 => ?_))))))
 rfl
def Nt.wrE (N : Nat) (d : Int) : Int := if d < 0 ∨ 50 < d then 12 else if (N : Int) < d + 2 then 1 else 0
theorem k_exWrong {u w : World} {D : Int} {x : Sl} {N : Nat} {V : List Rat} (d : Dat u w) (hg : GrN u x N V 1) (ho : Nt.GrOK V N) : Calls Tryz.prog 59 #[x.v, .int .i64 D] w (Post u w fun v _ => v = .int .i64 (Nt.wrE N D)) := by
 have hxn : x.n = N := hg.len
 have hN12 := ho.n12
 have hN1 := ho.n1
 refine zzm (args := [x.v, .int .i64 D]) Tryz.func59 rfl Tryz.ntmps59 (rs := [.tmp 4]) Tryz.results59 (le_b rfl) (le_b rfl) d ?_
 refine sq9 (zza 4 (zI 0) (zzb (zzd (sq9 (zza 5 (.v (x.v)) (zzg 6 89 _ fun _ _ ae ad => Post.mono (k_lsqValid ad (hg.ext ae) ho) ?_))))))
 rintro _ u12 g13 rfl
 refine zza 7 (zB false) (zzb (zys xj (zzs (zzp ?_))))
 refine zzd (sq9 (zza 8 (zI D) (zza 9 (zB (decide (D < 0))) ?_)))
 rcases Bool.eq_false_or_eq_true (decide (D < 0)) with hs15 | hs15
 ·refine zyq 10 (x := zB (decide (D < 0))) (zB true) (by rw [hs15]) ?_
  have qhs15 := of_decide_eq_true hs15
  refine zzn 11 (uw 2 false true 10) (zzn 12 (uw 2 false true 10) (zza 13 (zB true) (zzb (zyr xj (sq9 (zza 4 (zI 12) (zzb (zzo (zzw (ret0 [.int .i64 12] ⟨zzq, trivial⟩ fun u16 e17 => ?_))))))))))
  show Value.int .i64 12 = Value.int .i64 (Nt.wrE N D)
  try simp only [decide_eq_true_eq] at hs15
  try simp only [decide_eq_false_iff_not] at hs15
  have h9 : Nt.wrE N D = 12 := by unfold Nt.wrE; (repeat split) <;> omega
  rw [h9]
 refine zyq 10 (x := zB (decide (D < 0))) (zB false) (by rw [hs15]) ?_
 have qhs15 := of_decide_eq_false hs15
 refine zza 11 (zI D) ?_ (hw := w1 2 false 10)
 refine zza 12 (zB (decide ((50 : Int) < D))) ?_ (hw := w1 2 false 10)
 refine zza 13 (zB (decide ((50 : Int) < D))) (zzb (zzu (b := decide ((50 : Int) < D)) xj (fun aa => ?_) (fun aa => ?_)))
 ·have qhb18 := of_decide_eq_true aa
  refine sq9 (zza 4 (zI 12) (zzb (zzo (zzw (ret0 [.int .i64 12] ⟨zzq, trivial⟩ fun u19 e20 => ?_)))))
  show Value.int .i64 12 = Value.int .i64 (Nt.wrE N D)
  try simp only [decide_eq_true_eq] at hs15
  try simp only [decide_eq_false_iff_not] at hs15
  try simp only [decide_eq_true_eq] at aa
  try simp only [decide_eq_false_iff_not] at aa
  have h9 : Nt.wrE N D = 12 := by unfold Nt.wrE; (repeat split) <;> omega
  rw [h9]
 have qhb18 := of_decide_eq_false aa
 refine zzs (zzp ?_)
 refine zzd (sq9 (zza 14 (.v (x.v)) (zza 15 (zI x.n) (zza 16 (zI D) (zyq 17 (x := zI (IntKind.i64.wrap (D + 2))) (zI (D + 2)) yw (zza 18 (zB (decide ((x.n : Int) < (D + 2)))) (zzb (zzu (b := decide ((x.n : Int) < (D + 2))) xj (fun ac => ?_) (fun ac => ?_)))))))))
 ·have qhb21 := of_decide_eq_true ac
  refine sq9 (zza 4 (zI 1) (zzb (zzo (zzw (ret0 [.int .i64 1] ⟨zzq, trivial⟩ fun u22 e23 => ?_)))))
  show Value.int .i64 1 = Value.int .i64 (Nt.wrE N D)
  try simp only [decide_eq_true_eq] at hs15
  try simp only [decide_eq_false_iff_not] at hs15
  try simp only [decide_eq_true_eq] at aa
  try simp only [decide_eq_false_iff_not] at aa
  try simp only [decide_eq_true_eq] at ac
  try simp only [decide_eq_false_iff_not] at ac
  have h9 : Nt.wrE N D = 1 := by unfold Nt.wrE; (repeat split) <;> omega
  rw [h9]
 have qhb21 := of_decide_eq_false ac
 refine zzs (zzp ?_)
 refine sq9 (zza 4 (zI 0) (zzb (zzo (ret0 [.int .i64 0] ⟨zzq, trivial⟩ fun u24 e25 => ?_))))
 show Value.int .i64 0 = Value.int .i64 (Nt.wrE N D)
 try simp only [decide_eq_true_eq] at hs15
 try simp only [decide_eq_false_iff_not] at hs15
 try simp only [decide_eq_true_eq] at aa
 try simp only [decide_eq_false_iff_not] at aa
 try simp only [decide_eq_true_eq] at ac
 try simp only [decide_eq_false_iff_not] at ac
 have h9 : Nt.wrE N D = 0 := by unfold Nt.wrE; (repeat split) <;> omega
 rw [h9]
theorem k_exSize {u w : World} {r : RL} (d : Dat u w) : Calls Tryz.prog 145 #[r.v] w (Post u w fun v _ => v = (⟨false, r.m, r.d⟩ : RL).v) := by
 refine zzm (args := [r.v]) Tryz.func145 rfl Tryz.ntmps145 (rs := [.cell 2 32]) Tryz.results145 (le_b rfl) (le_b rfl) d ?_
 refine sq9 (zzk 1 ⟨32, r.cs⟩ (zzk 2 ⟨32, zw3⟩ (zzb (sq9 (zza 3 (.adr 1 0) (zza 4 (.adr 1 0) (zzj ⟨32, [.bool false, r.m.v, r.d.v]⟩ ty4 ?_)))))))
 refine zzb (sq9 (zzi 5 (.v (.agg #[.bool false, r.m.v, r.d.v])) ty32 zze (zzj ⟨32, [.bool false, r.m.v, r.d.v]⟩ ty32 ?_)))
 refine zzb (zzo (ret0 [.agg #[.bool false, r.m.v, r.d.v]] ⟨zzr ty32 zze, trivial⟩ fun u11 e12 => ?_))
 rfl
set_option maxHeartbeats 1000000 in
theorem k_exCompare {u w : World} {r1 r2 : RL} {x y : Rat} {K L : Nat} (d : Dat u w) (h1 : RatP u r1 x K) (h2 : RatP u r2 y L) (hK : K ≤ 100000000) (hL : L ≤ 100000000) : Calls Tryz.prog 64 #[r1.v, r2.v] w (Post u w fun v _ => v = .int .i64 (Nt.cmpQ x y)) := by
 obtain ⟨⟨z1, D1, ah, aq, an, ar⟩, hk1⟩ := h1
 obtain ⟨⟨z2, D2, am, ai, aj, af⟩, hk2⟩ := h2
 refine zzm (args := [r1.v, r2.v]) Tryz.func64 rfl Tryz.ntmps64 (rs := [.tmp 4]) Tryz.results64 (le_b rfl) (le_b rfl) d ?_
 refine sq9 (zzk 2 ⟨32, r1.cs⟩ (zzk 3 ⟨32, r2.cs⟩ (zza 4 (zI 0) (zzb (zzd (zzz [0, 1, 0, 4, 12, 31, 0, 64, 0, 256, 768, 2047, 4095, 8191] [(0, []), (1, []), (2, []), (3, []), (4, []), (6, []), (7, []), (8, []), (9, []), (10, []), (5, []), (11, []), (12, []), (13, [])] xj xj (zza 5 (.adr 2 0) (zzi 6 (.v (.agg #[.bool r1.s, r1.m.v])) ty30 zze (zza 7 (.adr 3 2) (zzi 8 (.v (r2.d.v)) ty28 zzl (zza 9 (.v (.agg #[.bool false, r2.d.v])) ?_)))))))))))
 refine zza 11 (.adr 3 0) (zzi 12 (.v (.agg #[.bool r2.s, r2.m.v])) ty30 zze (zza 13 (.adr 2 2) (zzi 14 (.v (r1.d.v)) ty28 zzl (zza 15 (.v (.agg #[.bool false, r1.d.v])) (zzg 10 143 _ fun _ _ aa ap => Post.mono (k_intMul ap (aq.ext aa) (nat_int (aj.ext aa)) xq xq) ?_)))))
 rintro _ u14 ad ⟨i12, rfl, ag⟩
 refine zzg 16 143 _ fun _ _ ac al => Post.mono (k_intMul al (ai.ext (aa.t (ad.t ac))) (nat_int (an.ext (aa.t (ad.t ac)))) xq xq) ?_
 rintro _ u20 au ⟨i18, rfl, ak⟩
 refine zzg 17 146 _ fun _ _ ae ao => Post.mono (k_intCompare ao (ag.ext (ac.t (au.t ae))).raw (ak.ext ae).raw) ?_
 rintro _ u24 g25 rfl
 refine zza 4 (zI (Nt.cmpS (z1 * (D2 : Int)) (z2 * (D1 : Int)))) (zzb (zzo (ret0 [.int .i64 (Nt.cmpS (z1 * (D2 : Int)) (z2 * (D1 : Int)))] ⟨zzq, trivial⟩ fun u27 e28 => ?_)))
 show _ = _
 rw [ar, af, ← Nt.cmp_mk ah am]
 rfl
theorem Nt.cmpg_y (x y : Rat) (h : decide ((0 : Int) < Nt.cmpQ x y) = true) : y < x := by rw [Nt.cmpQ_gt] at h; exact of_decide_eq_true h
theorem Nt.cmpg_n (x y : Rat) (h : decide ((0 : Int) < Nt.cmpQ x y) = false) : ¬ y < x := by rw [Nt.cmpQ_gt] at h; exact of_decide_eq_false h
set_option maxHeartbeats 2000000 in
theorem k_greatest {u w : World} {y : Sl} {E : List Rat} {n K : Nat} (d : Dat u w) (hE : PolP u y E K) (hn : E.length = n) (hn1 : 1 ≤ n) (hn9 : n ≤ 1000) (hK : K ≤ 100000000) : Calls Tryz.prog 63 #[y.v] w (Post u w fun v u' => ∃ (r : RL) (a : Nat), v = .tuple #[r.v, .int .i64 (a : Int)] ∧ RatP u' r (Nt.absQ (E.getD a 0)) K ∧ Nt.Gst E n a) := by
 have hyn := hE.len
 refine zzm (args := [y.v]) Tryz.func63 rfl Tryz.ntmps63 (rs := [.cell 2 32, .tmp 3]) Tryz.results63 (le_b rfl) (le_b rfl) d ?_
 refine sq9 (zzk 2 ⟨32, zw3⟩ (zza 3 (zI 0) (zzb (sq9 (zza 8 (.v (y.v)) ?_)))))
 have hl11 := PolP.len hE
 obtain ⟨ae, b11, av, ar, al, aq⟩ := polp_at hE (i := 0) xq
 refine zya 9 (av + 0 * 3) (n := y.n) (off := av) (sz := 3) (i := 0) xq ar xq xq sl26 (zym 10 ae.cs al ty32 (zzg 11 145 _ fun _ _ am ax => Post.mono (k_exSize (r := ae) ax) ?_))
 rintro _ ay an rfl
 refine zzk 4 ⟨32, zw3⟩ (zzj ⟨32, [.bool false, ae.m.v, ae.d.v]⟩ ty32 ?_)
 refine zza 5 (zI 0) (zzb (zzd (sq9 (zza 6 (zI 1) (zzb (zzt (zyn (I := fun aw S' u' => ∃ (i : Nat) (a : Nat) (rw : RL), (aw = n - i) ∧ (i ≤ n) ∧ (1 ≤ i) ∧ (Nt.Gst E i a) ∧ (S' = St.of 31 [(0, .v (y.v)), (2, .adr 2 0), (4, .adr 4 0), (5, zI a), (6, zI i)] [(2, ⟨32, zw3⟩), (4, ⟨32, rw.cs⟩)]) ∧ (Ext ay u') ∧ (RatP u' rw (Nt.absQ (E.getD a 0)) K)) (fun m S u1 u2 e h => by obtain ⟨i, a, rw, hm, p0, p1, p2, hS, hE, f0⟩ := h; exact ⟨i, a, rw, hm, p0, p1, p2, hS, hE.trans e, f0.ext e⟩) _ yk ⟨1, 0, (⟨false, ae.m, ae.d⟩ : RL), rfl, by omega, by omega, (Nt.gst_1 E), rfl, (Ext.refl _), ((RatP.abs (aq.ext am)).ext an.ext)⟩ ?_)))))))
 rintro aw _ u16 ⟨i, a, rw, aB, hi, hi1, hG, rfl, aj, hM⟩
 have ha9 := hG.lt
 refine zzd (sq9 (zza 12 (zI i) (zza 13 (.v (y.v)) (zza 14 (zI y.n) (zza 15 (zB (decide ((i : Int) < (y.n : Int)))) (zzb (zzu (b := decide ((i : Int) < (y.n : Int))) xj (fun ad => ?_) (fun ad => ?_))))))))
 ·have qhb17 := of_decide_eq_true ad
  refine zzs (zzp ?_)
  refine zzd (zzt (sq9 (zza 18 (.v (y.v)) (zza 19 (zI i) ?_))))
  have hl18 := PolP.len (hE.ext (am.t (an.t aj)))
  obtain ⟨aa, b18, au, ao, ap, ai⟩ := polp_at (hE.ext (am.t (an.t aj))) (i := i) xq
  refine zya 20 (au + i * 3) (n := y.n) (off := au) (sz := 3) (i := (i : Int)) xq ao xq xq sl26 (zym 21 aa.cs ap ty32 (zzg 22 145 _ fun _ _ af aC => Post.mono (k_exSize (r := aa) aC) ?_))
  rintro _ u20 ah rfl
  refine zzk 7 ⟨32, zw3⟩ (zzj ⟨32, [.bool false, aa.m.v, aa.d.v]⟩ ty32 ?_)
  refine zzb (sq9 (zzi 23 (.v (.agg #[.bool false, aa.m.v, aa.d.v])) ty32 zze (zzi 24 (.v (rw.v)) ty32 zze (zzg 25 64 _ fun _ _ ag aA => Post.mono (k_exCompare aA ((RatP.abs (ai.ext af)).ext (ah.t ag)) (hM.ext (af.t (ah.t ag))) xq xq) ?_))))
  rintro _ u24 ak rfl
  refine zza 26 (zB (decide ((0 : Int) < (Nt.cmpQ (Nt.absQ (E.getD i 0)) (Nt.absQ (E.getD a 0)))))) (zzb (zzu (b := decide ((0 : Int) < (Nt.cmpQ (Nt.absQ (E.getD i 0)) (Nt.absQ (E.getD a 0))))) xj (fun ac => ?_) (fun ac => ?_)))
  ·have qhb27 := of_decide_eq_true ac
   refine zzf (zzi 27 (.v (.agg #[.bool false, aa.m.v, aa.d.v])) ty32 zze (zza 28 (zI i) (zzj ⟨32, [.bool false, aa.m.v, aa.d.v]⟩ ty32 ?_)))
   refine zza 5 (zI i) (zzx ?_)
   refine zzp (zzf (zza 16 (zI i) (zyq 17 (x := zI (IntKind.i64.wrap ((i : Int) + 1))) (zI (i + 1 : Nat)) (eqI xz) (zza 6 (zI (i + 1 : Nat)) (zzx ?_)))))
   refine ⟨_, ?_, _, by exact zzv _ _ _, i + 1, i, (⟨false, aa.m, aa.d⟩ : RL), rfl, by omega, by omega, (Nt.Gst.up hG (Nt.cmpg_y _ _ ac)), rfl, (aj.t (af.t (ah.t (ag.t ak.ext)))), ((RatP.abs (ai.ext af)).ext (ah.t (ag.t ak.ext)))⟩
   omega
  have qhb27 := of_decide_eq_false ac
  refine zzs (zzp ?_)
  refine zzf (zza 16 (zI i) (zyq 17 (x := zI (IntKind.i64.wrap ((i : Int) + 1))) (zI (i + 1 : Nat)) (eqI xz) (zza 6 (zI (i + 1 : Nat)) (zzx ?_))))
  refine ⟨_, ?_, _, by exact zzv _ _ _, i + 1, a, rw, rfl, by omega, by omega, (Nt.Gst.keep hG (Nt.cmpg_n _ _ ac)), rfl, (aj.t (af.t (ah.t (ag.t ak.ext)))), (hM.ext (af.t (ah.t (ag.t ak.ext))))⟩
  omega
 have qhb17 := of_decide_eq_false ad
 refine zyc (zzp (sq9 (zzi 29 (.v (rw.v)) ty32 zze (zza 30 (zI a) (zzj ⟨32, rw.cs⟩ ty32 ?_)))))
 refine zza 3 (zI a) (zzb (zzo (ret0 [rw.v, .int .i64 a] ⟨zzr ty32 zze, zzq, trivial⟩ fun u28 az => ?_)))
 obtain rfl : i = n := by omega
 exact ⟨rw, a, rfl, (hM.ext az), hG⟩
namespace Nt
theorem rdiv0 {s : Bool} {N D : Nat} (hD : 0 < D) (h : ¬ (s = true ∧ 0 < N % D)) : sg s N / (D : Int) = sg (!(s == false)) (N / D) ∧ sg s N % (D : Int) = sg false (N % D) := by
 have hm := Nat.mod_lt N hD
 have hk := Nat.div_add_mod N D
 have hk2 : (N : Int) = (D : Int) * ((N / D : Nat) : Int) + ((N % D : Nat) : Int) := by rw [← Int.natCast_mul, ← Int.natCast_add, hk]
 apply ediv_uniq xq
 ·unfold sg
  cases s
  ·simpa using hk2
  have h0 : N % D = 0 := by simp at h; omega
  rw [h0] at hk2 ⊢
  generalize N / D = Q at *
  simp [Int.mul_neg]
  omega
 ·unfold sg; simp; omega
 unfold sg; simp; omega
theorem rdiv1 {N D : Nat} (hD : 0 < D) (h : 0 < N % D) : sg true N / (D : Int) = sg (!(true == false)) (N / D + 1) ∧ sg true N % (D : Int) = sg false (D - N % D) := by
 have hm := Nat.mod_lt N hD
 have hk := Nat.div_add_mod N D
 have hk2 : (N : Int) = (D : Int) * ((N / D : Nat) : Int) + ((N % D : Nat) : Int) := by rw [← Int.natCast_mul, ← Int.natCast_add, hk]
 apply ediv_uniq xq
 ·unfold sg
  simp
  rw [show ((N : Int) / (D : Int)) = ((N / D : Nat) : Int) from rfl, show ((D - N % D : Nat) : Int) = (D : Int) - ((N % D : Nat) : Int) by omega, Int.mul_neg, Int.mul_add]
  omega
 ·unfold sg; simp
 unfold sg; simp; omega
end Nt
set_option maxHeartbeats 1000000 in
theorem k_intDivP {u w : World} {i1 : IL} {y : Sl} {zN : Int} {M K L : Nat} (d : Dat u w) (hi : IntV u i1 zN K) (hy : NatV u y M L) (hM : 0 < M) (hK : K ≤ 100000000) (hL : L ≤ 100000000) : Calls Tryz.prog 141 #[i1.v, .agg #[.bool false, y.v]] w (Post u w fun v u' => ∃ i j : IL, v = .tuple #[i.v, j.v, .int .i64 0] ∧ IntN u' i (zN / (M : Int)) (K + 1) ∧ IntN u' j (zN % (M : Int)) L) := by
 have hL1 : 1 ≤ L := by have h2 := hy.size; have h3 := Nt.dl_mono (x := M) (y := 1) xq; rw [Nt.dl_one] at h3; omega
 obtain ⟨N, hN, hzN⟩ := hi
 refine zzm (args := [i1.v, .agg #[.bool false, y.v]]) Tryz.func141 rfl Tryz.ntmps141 (rs := [.cell 4 30, .cell 5 30, .tmp 6]) Tryz.results141 (le_b rfl) (le_b rfl) d ?_
 refine sq9 (zzk 2 ⟨30, i1.cs⟩ (zzk 3 ⟨30, [.bool false, y.v]⟩ (zzk 4 ⟨30, [.bool false, .slice none 0 0]⟩ (zzk 5 ⟨30, [.bool false, .slice none 0 0]⟩ (zza 6 (zI 0) (zzb (sq9 (zza 11 (.adr 2 1) (zzi 12 (.v (i1.m.v)) ty28 zzl (zza 13 (.adr 3 1) (zzi 14 (.v (y.v)) ty28 zzl ?_)))))))))))
 refine zzg 15 195 _ fun _ _ am aV => Post.mono (k_natDivMod aV (hN.ext am) (hy.ext am) hM xq xq) ?_
 rintro _ u16 aP ⟨ad, aa, rfl, ar, ae⟩
 refine zza 10 (.v (.tuple #[ad.v, aa.v, .int .i64 0])) (zza 16 (.v (ad.v)) (zza 17 (.v (aa.v)) (zza 18 (zI 0) (zza 7 (.v (ad.v)) (zza 8 (.v (aa.v)) (zza 9 (zI 0) (zzb (zzd (sq9 (zza 19 (zI 0) (zza 20 (zB false) ?_)))))))))))
 refine zzb (zys xj (zzs (zzp ?_)))
 refine zzd (sq9 (zza 24 (.adr 2 0) (zzi 25 (zB i1.s) ty4 zzl ?_)))
 rcases Bool.eq_false_or_eq_true i1.s with hs19 | hs19
 ·refine zyq 26 (x := zB i1.s) (zB true) (by rw [hs19]) (zza 27 (.v (aa.v)) ?_ (hw := w1 2 true 26))
  refine zza 28 (zI aa.n) ?_ (hw := w1 2 true 26)
  refine zza 29 (zB (decide ((0 : Int) < (aa.n : Int)))) ?_ (hw := w1 2 true 26)
  refine zza 30 (zB (decide ((0 : Int) < (aa.n : Int)))) (zzb (zzu (b := decide ((0 : Int) < (aa.n : Int))) xj (fun ac => ?_) (fun ac => ?_)))
  ·have qhb20 := of_decide_eq_true ac
   refine sq9 (zza 31 (.v (ad.v)) (zxx 32 ⟨133, [.int .u32 1]⟩ 1 (fun b21 u22 al aQ => ?_)))
   refine zzg 33 196 _ fun _ _ aj aM => Post.mono (k_natAdd aM (ar.ext (al.trans aj)).raw ((one_data aQ).ext aj).raw xq xq) ?_
   rintro _ u28 aw ⟨aq, rfl, aT⟩
   refine zza 7 (.v (aq.v)) (zzb (zzf (zza 34 (.adr 3 1) (zzi 35 (.v (y.v)) ty28 zzl (zza 36 (.v (aa.v)) (zzg 37 197 _ fun _ _ ak a3 => Post.mono (k_natSub a3 (hy.ext (am.t (aP.t (al.t (aj.t (aw.t ak)))))) (ae.ext (al.t (aj.t (aw.t ak)))).raw xq xq) ?_))))))
   rintro _ u34 a1 ⟨ao, rfl, aF⟩
   refine zza 8 (.v (ao.v)) (zzc 47 [(2, .adr 2 0), (3, .adr 3 0), (4, .adr 4 0), (5, .adr 5 0), (7, .v (aq.v)), (8, .v (ao.v))] [(2, ⟨30, i1.cs⟩), (3, ⟨30, [.bool false, y.v]⟩), (4, ⟨30, [.bool false, .slice none 0 0]⟩), (5, ⟨30, [.bool false, .slice none 0 0]⟩)] (sq9 (zza 38 (.adr 2 0) (zzi 39 (zB i1.s) ty4 zzl (zza 40 (.adr 3 0) (zzi 41 (zB false) ty4 zzl (zza 42 (zB (!(i1.s == false))) (zza 43 (.v (aq.v)) (zzg 44 193 _ fun _ _ av aO => Post.mono (k_signed aO (s := !(i1.s == false)) (aT.ext (ak.t (a1.t av)))) ?_)))))))))
   rintro _ u40 aW ⟨ap, rfl, aK⟩
   refine zza 45 (.v (ao.v)) (zzg 46 193 _ fun _ _ aC aY => Post.mono (k_signed aY (s := false) (aF.ext (av.t (aW.t aC)))) ?_)
   rintro _ u46 aU ⟨an, rfl, a4⟩
   refine zzj ⟨30, ap.cs⟩ ty30 ?_
   refine zzj ⟨30, an.cs⟩ ty30 ?_
   refine zza 6 (zI 0) (zzb (zzo (ret0 [ap.v, an.v, .int .i64 0] ⟨zzr ty30 zze, zzr ty30 zze, zzq, trivial⟩ fun u49 ay => ?_)))
   have hrp := ae.pos
   have e9 := hs19
   have key := Nt.rdiv1 (N := N) hM xq
   have g1 := (aK.ext (aC.t (aU.t ay)))
   have g2 := (a4.ext ay)
   rw [e9] at g1
   rw [e9] at hzN
   have hK1 : 1 ≤ K := by have h2 := hN.size; have h3 := (Nt.dl_pos (x := N)).2 (by rcases Nat.eq_zero_or_pos N with e | e; (rw [e, Nat.zero_mod] at hrp; omega); exact e); omega
   rw [hzN]
   refine ⟨ap, an, rfl, IntN.more (K := (max K 1 + 1)) ?_ xq, IntN.more (K := L) ?_ xq⟩
   ·rw [key.1]; exact g1
   rw [key.2]; exact g2
  have qhb20 := of_decide_eq_false ac
  refine zzs (zzp ?_)
  refine sq9 (zza 38 (.adr 2 0) (zzi 39 (zB i1.s) ty4 zzl (zza 40 (.adr 3 0) (zzi 41 (zB false) ty4 zzl (zza 42 (zB (!(i1.s == false))) (zza 43 (.v (ad.v)) (zzg 44 193 _ fun _ _ au aL => Post.mono (k_signed aL (s := !(i1.s == false)) (ar.ext au)) ?_)))))))
  rintro _ u54 aN ⟨af, rfl, aX⟩
  refine zza 45 (.v (aa.v)) (zzg 46 193 _ fun _ _ aD aR => Post.mono (k_signed aR (s := false) (ae.ext (au.t (aN.t aD)))) ?_)
  rintro _ u60 a2 ⟨ag, rfl, aE⟩
  refine zzj ⟨30, af.cs⟩ ty30 ?_
  refine zzj ⟨30, ag.cs⟩ ty30 ?_
  refine zza 6 (zI 0) (zzc 47 [(4, .adr 4 0), (5, .adr 5 0), (6, zI 0)] [(4, ⟨30, af.cs⟩), (5, ⟨30, ag.cs⟩)] (zzo (ret0 [af.v, ag.v, .int .i64 0] ⟨zzr ty30 zze, zzr ty30 zze, zzq, trivial⟩ fun u63 aA => ?_)))
  have hrp := ae.pos
  have key := Nt.rdiv0 (s := i1.s) (N := N) hM (by rintro ⟨k1, k2⟩; omega)
  have g1 := (aX.ext (aD.t (a2.t aA)))
  have g2 := (aE.ext aA)
  rw [hzN]
  refine ⟨af, ag, rfl, IntN.more (K := K) ?_ xq, IntN.more (K := L) ?_ xq⟩
  ·rw [key.1]; exact g1
  rw [key.2]; exact g2
 refine zyq 26 (x := zB i1.s) (zB false) (by rw [hs19]) (zzn 27 (uw 2 true false 26) (zzn 28 (uw 2 true false 26) (zzn 29 (uw 2 true false 26) (zza 30 (zB false) (zzb (zys xj (zzs (zzp ?_))))))))
 refine sq9 (zza 38 (.adr 2 0) (zzi 39 (zB i1.s) ty4 zzl (zza 40 (.adr 3 0) (zzi 41 (zB false) ty4 zzl (zza 42 (zB (!(i1.s == false))) (zza 43 (.v (ad.v)) (zzg 44 193 _ fun _ _ az aI => Post.mono (k_signed aI (s := !(i1.s == false)) (ar.ext az)) ?_)))))))
 rintro _ u68 aH ⟨ah, rfl, aS⟩
 refine zza 45 (.v (aa.v)) (zzg 46 193 _ fun _ _ aB aG => Post.mono (k_signed aG (s := false) (ae.ext (az.t (aH.t aB)))) ?_)
 rintro _ u74 aJ ⟨ai, rfl, aZ⟩
 refine zzj ⟨30, ah.cs⟩ ty30 ?_
 refine zzj ⟨30, ai.cs⟩ ty30 ?_
 refine zza 6 (zI 0) (zzc 47 [(4, .adr 4 0), (5, .adr 5 0), (6, zI 0)] [(4, ⟨30, ah.cs⟩), (5, ⟨30, ai.cs⟩)] (zzo (ret0 [ah.v, ai.v, .int .i64 0] ⟨zzr ty30 zze, zzr ty30 zze, zzq, trivial⟩ fun u77 ax => ?_)))
 have hrp := ae.pos
 have key := Nt.rdiv0 (s := i1.s) (N := N) hM (by rintro ⟨k1, k2⟩; rw [k1] at hs19; exact absurd hs19 yq)
 have g1 := (aS.ext (aB.t (aJ.t ax)))
 have g2 := (aZ.ext ax)
 rw [hzN]
 refine ⟨ah, ai, rfl, IntN.more (K := K) ?_ xq, IntN.more (K := L) ?_ xq⟩
 ·rw [key.1]; exact g1
 rw [key.2]; exact g2
theorem k_intSub {u w : World} {i1 : IL} {zN : Int} {K : Nat} {i2 : IL} {zM : Int} {L : Nat} (d : Dat u w) (hi1 : IntV u i1 zN K) (hi2 : IntV u i2 zM L) (hK : K ≤ 400000000) (hL : L ≤ 400000000) : Calls Tryz.prog 199 #[i1.v, i2.v] w (Post u w fun v u' => ∃ i : IL, v = i.v ∧ IntN u' i (zN - zM) (max K L + 1)) := by
 obtain ⟨N, hN, hzN⟩ := hi1
 obtain ⟨M, hM, hzM⟩ := hi2
 refine zzm (args := [i1.v, i2.v]) Tryz.func199 rfl Tryz.ntmps199 (rs := [.cell 4 30]) Tryz.results199 (le_b rfl) (le_b rfl) d ?_
 refine sq9 (zzk 2 ⟨30, i1.cs⟩ (zzk 3 ⟨30, i2.cs⟩ (zzk 4 ⟨30, [.bool false, .slice none 0 0]⟩ (zzb (sq9 (zzi 5 (.v (i1.v)) ty30 zze (zza 6 (.adr 3 0) (zzi 7 (zB i2.s) ty4 zzl (zza 8 (zB (!i2.s)) (zza 9 (.adr 3 1) (zzi 10 (.v (i2.m.v)) ty28 zzl ?_)))))))))))
 refine zza 11 (.v (.agg #[.bool (!i2.s), i2.m.v])) (zzg 12 165 _ fun _ _ ac ad => Post.mono (k_intAdd ad (IntV.same (s := i1.s) (hN.ext ac)) (IntV.same (s := !i2.s) (hM.ext ac)) xq xq) ?_)
 rintro _ u14 g15 ⟨aa, rfl, ae⟩
 refine zzj ⟨30, aa.cs⟩ ty30 ?_
 refine zzb (zzo (ret0 [aa.v] ⟨zzr ty30 zze, trivial⟩ fun u17 af => ?_))
 refine ⟨aa, rfl, IntN.more (K := (max K L + 1)) ?_ xq⟩
 have e9 : zN - zM = Nt.sg i1.s N + Nt.sg (!i2.s) M := by rw [hzN, hzM]; unfold Nt.sg; cases i1.s <;> cases i2.s <;> simp <;> omega
 rw [e9]
 exact (ae.ext af)
theorem k_intGcd {u w : World} {i1 i2 : IL} {N M K L : Nat} (d : Dat u w) (h1 : NatV u i1.m N K) (h2 : NatV u i2.m M L) (hK : K ≤ 100000000) (hL : L ≤ 100000000) : Calls Tryz.prog 142 #[i1.v, i2.v] w (Post u w fun v u' => ∃ i : IL, v = i.v ∧ IntN u' i (Nat.gcd N M : Nat) (max K L)) := by
 refine zzm (args := [i1.v, i2.v]) Tryz.func142 rfl Tryz.ntmps142 (rs := [.cell 4 30]) Tryz.results142 (le_b rfl) (le_b rfl) d ?_
 refine sq9 (zzk 2 ⟨30, i1.cs⟩ (zzk 3 ⟨30, i2.cs⟩ (zzk 4 ⟨30, [.bool false, .slice none 0 0]⟩ (zzb (sq9 (zza 5 (.adr 2 1) (zzi 6 (.v (i1.m.v)) ty28 zzl (zza 7 (.adr 3 1) (zzi 8 (.v (i2.m.v)) ty28 zzl (zzg 9 198 _ fun _ _ ac ae => Post.mono (k_natGcd ae (h1.ext ac) (h2.ext ac) xq xq) ?_))))))))))
 rintro _ u14 g15 ⟨x12, rfl, af⟩
 refine zzg 10 193 _ fun _ _ ag ad => Post.mono (k_signed ad (s := false) (af.ext ag)) ?_
 rintro _ u20 g21 ⟨aa, rfl, ai⟩
 refine zzj ⟨30, aa.cs⟩ ty30 ?_
 refine zzb (zzo (ret0 [aa.v] ⟨zzr ty30 zze, trivial⟩ fun u23 ah => ?_))
 refine ⟨aa, rfl, ?_⟩
 have h9 := (ai.ext ah)
 unfold Nt.sg at h9
 exact h9
theorem k_intDivI {u w : World} {i1 i2 : IL} {z D : Int} {K L : Nat} (d : Dat u w) (h1 : IntV u i1 z K) (h2 : IntN u i2 D L) (hD : 0 < D) (hK : K ≤ 100000000) (hL : L ≤ 100000000) : Calls Tryz.prog 141 #[i1.v, i2.v] w (Post u w fun v u' => ∃ i j : IL, v = .tuple #[i.v, j.v, .int .i64 0] ∧ IntN u' i (z / D) (K + 1) ∧ IntN u' j (z % D) L) := by
 obtain ⟨s, y⟩ := i2
 have hs : s = false := by have h3 := h2.1; rw [decide_eq_false xq] at h3; exact h3
 subst hs
 have hd : ((D.natAbs : Nat) : Int) = D := by omega
 have := k_intDivP d h1 (y := y) (M := D.natAbs) h2.2.raw xq hK hL
 rw [hd] at this
 exact this
theorem Nt.num_den9 (x : Rat) : x * ((x.den : Int) : Rat) = (x.num : Rat) := by
 have h0 : ((x.den : Int) : Rat) ≠ 0 := fun e => by
  have := Rat.intCast_inj.1 (show ((x.den : Int) : Rat) = ((0 : Int) : Rat) from e); have := x.den_pos; omega
 have h1 : x = (x.num : Rat) / ((x.den : Int) : Rat) := by rw [Nt.mk_div, Rat.mkRat_self]
 have h2 : (x.num : Rat) / ((x.den : Int) : Rat) * ((x.den : Int) : Rat) = (x.num : Rat) := Rat.div_mul_cancel h0
 rw [← h1] at h2; exact h2
theorem Nt.miss_step {n1 n2 w : Int} {x c : Rat} {p : List Rat} {k : Nat} (h : (n1 : Rat) * ((x.den : Int) : Rat) = (n2 : Rat) * (c * Nt.Pol.evL (p.drop k) x)) (hk : 1 ≤ k) (hp : k ≤ p.length) (hw : (w : Rat) = p.getD (k - 1) 0 * c) : ((n1 * x.num + w * n2 : Int) : Rat) * ((x.den : Int) : Rat) = ((n2 * (x.den : Int) : Int) : Rat) * (c * Nt.Pol.evL (p.drop (k - 1)) x) := by
 have hd : p.drop (k - 1) = p.getD (k - 1) 0 :: p.drop k := by
  rw [List.drop_eq_getElem_cons (show k - 1 < p.length by omega), show k - 1 + 1 = k by omega, List.getD_eq_getElem?_getD, List.getElem?_eq_getElem (show k - 1 < p.length by omega)]; rfl
 have hx := Nt.num_den9 x
 rw [hd, Rat.intCast_add, Rat.intCast_mul, Rat.intCast_mul, Rat.intCast_mul, hw]
 show _ = _ * (c * (p.getD (k - 1) 0 + x * Nt.Pol.evL (p.drop k) x))
 rw [← hx]
 grind
theorem Nt.miss_end {n1 n2 c : Int} {x y w : Rat} {p : List Rat} (h : (n1 : Rat) * ((x.den : Int) : Rat) = (n2 : Rat) * ((c : Rat) * Nt.Pol.evL p x)) (h2 : 0 < n2) (hc : 0 < c) : 0 < (n2 * c * (y.den : Int) * (w.den : Int)).natAbs ∧ w * (y - Nt.Pol.evL p x) = mkRat ((y.num * (n2 * c) - n1 * (x.den : Int) * (y.den : Int)) * w.num) (n2 * c * (y.den : Int) * (w.den : Int)).natAbs := by
 have h9 : 0 < n2 * c * (y.den : Int) * (w.den : Int) := Int.mul_pos (Int.mul_pos (Int.mul_pos h2 hc) (by have := y.den_pos; omega)) (by have := w.den_pos; omega)
 refine ⟨by omega, ?_⟩
 have hy : (y.num : Rat) = y * ((y.den : Int) : Rat) := (Nt.num_den9 y).symm
 have hw : (w.num : Rat) = w * ((w.den : Int) : Rat) := (Nt.num_den9 w).symm
 have e : (((n2 * c * (y.den : Int) * (w.den : Int)).natAbs : Int)) = n2 * c * (y.den : Int) * (w.den : Int) := by omega
 have hne : ((n2 * c * (y.den : Int) * (w.den : Int) : Int) : Rat) ≠ 0 := fun e => by
  have := Rat.intCast_inj.1 (show ((n2 * c * (y.den : Int) * (w.den : Int) : Int) : Rat) = ((0 : Int) : Rat) from e); omega
 rw [← Nt.mk_div, e, eq_comm, Nt.div_eq_of hne]
 rw [Rat.intCast_mul, Rat.intCast_sub, Rat.intCast_mul, Rat.intCast_mul, Rat.intCast_mul, Rat.intCast_mul, Rat.intCast_mul, Rat.intCast_mul, Rat.intCast_mul, hy, hw, h]
 grind
set_option maxHeartbeats 4000000 in
theorem k_missAt {u w : World} {r0 r1 r2 : RL} {x y g : Rat} {s : Sl} {W : List Int} {ic : IL} {C : Int} {p : List Rat} {Kw Kc : Nat} (d : Dat u w) (hr0 : RatN u r0 x 1) (hr1 : RatN u r1 y 1) (hr2 : RatN u r2 g 1) (hS : ItsN u s W Kw) (hC : IntN u ic C Kc) (hC0 : 0 < C) (hl : W.length = p.length) (hW : ∀ j, j < p.length → ((W.getD j 0 : Int) : Rat) = p.getD j 0 * (C : Rat)) (hp : p.length ≤ 60) (hKw : Kw ≤ 20000000) (hKc : Kc ≤ 20000000) : Calls Tryz.prog 144 #[.agg #[.bool r0.s, .slice r0.m.a r0.m.n r0.m.c, .slice r0.d.a r0.d.n r0.d.c, .bool r1.s, .slice r1.m.a r1.m.n r1.m.c, .slice r1.d.a r1.d.n r1.d.c, .bool r2.s, .slice r2.m.a r2.m.n r2.m.c, .slice r2.d.a r2.d.n r2.d.c], s.v, ic.v] w (Post u w fun v u' => ∃ r : RL, v = r.v ∧ RatP u' r (g * (y - Nt.Pol.evL p x)) (Kw + Kc + 2 * p.length + 10)) := by
 have hsn := hS.len
 refine zzm (args := [.agg #[.bool r0.s, r0.m.v, r0.d.v, .bool r1.s, r1.m.v, r1.d.v, .bool r2.s, r2.m.v, r2.d.v], s.v, ic.v]) Tryz.func144 rfl Tryz.ntmps144 (rs := [.cell 6 32]) Tryz.results144 (le_b rfl) (le_b rfl) d ?_
 refine sq9 (zzk 3 ⟨56, r0.cs ++ r1.cs ++ r2.cs⟩ (zzk 5 ⟨30, ic.cs⟩ (zzk 6 ⟨32, zw3⟩ (zzb (zzd (zzz [0, 1, 3, 0, 8, 31, 0, 64, 255, 0, 0, 0, 4095, 8191, 16383] [(0, []), (1, []), (3, []), (4, []), (6, []), (7, []), (9, []), (10, []), (11, []), (2, []), (5, []), (8, []), (12, []), (13, []), (14, [])] xj xj (zza 15 (.adr 3 0) (zzi 16 (.v (r0.v)) ty32 zze (zza 18 (.adr 3 3) (zzi 19 (.v (r1.v)) ty32 zze (zza 21 (.adr 3 6) ?_)))))))))))
 refine zzi 22 (.v (r2.v)) ty32 zze (zzk 7 ⟨32, zw3⟩ (zzk 8 ⟨32, zw3⟩ (zzk 9 ⟨32, zw3⟩ (zzg 17 68 _ fun _ _ aF bK => Post.mono (k_ratTrim bK (hr0.ext aF).raw xq) ?_))))
 rintro _ u14 aK ⟨af, rfl, aQ⟩
 refine zzg 20 68 _ fun _ _ aq bH => Post.mono (k_ratTrim bH (hr1.ext (aF.t (aK.t aq))).raw xq) ?_
 rintro _ u20 aA ⟨aj, rfl, aR⟩
 refine zzg 23 68 _ fun _ _ ak bA => Post.mono (k_ratTrim bA (hr2.ext (aF.t (aK.t (aq.t (aA.t ak))))).raw xq) ?_
 rintro _ u26 al ⟨aw, rfl, a8⟩
 refine zzj ⟨32, af.cs⟩ ty32 ?_
 refine zzj ⟨32, aj.cs⟩ ty32 ?_
 refine zzj ⟨32, aw.cs⟩ ty32 ?_
 refine zzb (sq9 (zza 24 (.adr 7 2) (zzi 25 (.v (af.d.v)) ty28 zzl (zza 26 (.v (.agg #[.bool false, af.d.v])) (zzk 10 ⟨30, [.bool false, .slice none 0 0]⟩ (zzj ⟨30, [.bool false, af.d.v]⟩ ty30 ?_))))))
 refine zzb (sq9 (zzg 27 140 _ fun _ _ ah bE => Post.mono (k_intOf bE (z := 0) xq xq) ?_))
 rintro _ u32 ai ⟨a5, rfl, bs⟩
 refine zzg 28 140 _ fun _ _ ae bM => Post.mono (k_intOf bM (z := 1) xq xq) ?_
 rintro _ bp ad ⟨a3, rfl, bi⟩
 refine zzk 11 ⟨30, [.bool false, .slice none 0 0]⟩ (zzk 12 ⟨30, [.bool false, .slice none 0 0]⟩ (zzj ⟨30, a5.cs⟩ ty30 ?_))
 refine zzj ⟨30, a3.cs⟩ ty30 ?_
 refine zzb (zzd (sq9 (zza 29 (.v (s.v)) (zza 30 (zI s.n) (zyq 31 (x := zI (IntKind.i64.wrap (((s.n : Nat) : Int) - 1))) (zI (((s.n : Nat) : Int) - 1)) (eqI (by rw [IntWalk.i64_in _ xq] <;> omega)) (zza 13 (zI (((s.n : Nat) : Int) - 1)) (zzc 83 [(1, .v (s.v)), (5, .adr 5 0), (6, .adr 6 0), (7, .adr 7 0), (8, .adr 8 0), (9, .adr 9 0), (10, .adr 10 0), (11, .adr 11 0), (12, .adr 12 0), (13, zI (((s.n : Nat) : Int) - 1))] [(5, ⟨30, ic.cs⟩), (6, ⟨32, zw3⟩), (7, ⟨32, af.cs⟩), (8, ⟨32, aj.cs⟩), (9, ⟨32, aw.cs⟩), (10, ⟨30, [.bool false, af.d.v]⟩), (11, ⟨30, a5.cs⟩), (12, ⟨30, a3.cs⟩)] (zzt (zyn (I := fun bg S' u' => ∃ (k : Nat) (j1 : IL) (j2 : IL) (n1 : Int) (n2 : Int), (bg = k) ∧ (k ≤ p.length) ∧ (0 < n2) ∧ ((n1 : Rat) * ((x.den : Int) : Rat) = (n2 : Rat) * ((C : Rat) * Nt.Pol.evL (p.drop k) x)) ∧ (S' = St.of 83 [(1, .v (s.v)), (5, .adr 5 0), (6, .adr 6 0), (7, .adr 7 0), (8, .adr 8 0), (9, .adr 9 0), (10, .adr 10 0), (11, .adr 11 0), (12, .adr 12 0), (13, zI ((k : Int) - 1))] [(5, ⟨30, ic.cs⟩), (6, ⟨32, zw3⟩), (7, ⟨32, af.cs⟩), (8, ⟨32, aj.cs⟩), (9, ⟨32, aw.cs⟩), (10, ⟨30, [.bool false, af.d.v]⟩), (11, ⟨30, j1.cs⟩), (12, ⟨30, j2.cs⟩)]) ∧ (Ext bp u') ∧ (IntN u' j1 n1 (Kw + 2 * (p.length - k) + 2)) ∧ (IntN u' j2 n2 (p.length - k + 2))) (fun m S u1 u2 e h => by obtain ⟨k, j1, j2, n1, n2, hm, p0, p1, p2, hS, hE, f0, f1⟩ := h; exact ⟨k, j1, j2, n1, n2, hm, p0, p1, p2, hS, hE.trans e, f0.ext e, f1.ext e⟩) _ yk ⟨s.n, a5, a3, 0, 1, rfl, by omega, yq, (by rw [List.drop_of_length_le xq]; show _ = _ * (_ * 0); rw [Rat.mul_zero, Rat.mul_zero]; exact Rat.zero_mul _), rfl, (Ext.refl _), (IntN.more (K := 2) (bs.ext (ae.t ad.ext)) xq), (IntN.more (K := 2) bi xq)⟩ ?_)))))))))
 rintro bg _ u41 ⟨k, j1, j2, n1, n2, bo, hk, a6, hv, rfl, ag, f1, f2⟩
 refine zzd (sq9 (zza 32 (zI ((k : Int) - 1)) (zza 33 (zB (decide ((0 : Int) ≤ ((k : Int) - 1)))) (zzb (zzu (b := decide ((0 : Int) ≤ ((k : Int) - 1))) xj (fun av => ?_) (fun av => ?_))))))
 ·have qhb42 := of_decide_eq_true av
  refine zzs (zzp ?_)
  refine zzd (zzt (zzd (zzz [0, 0, 2, 7, 0, 0, 48, 112, 0, 511, 1023, 2047] [(0, []), (1, []), (2, []), (4, []), (5, []), (6, []), (7, []), (8, []), (3, []), (9, []), (10, []), (11, [])] xj xj (zzi 36 (.v (j1.v)) ty30 zze (zza 37 (.adr 7 0) (zzi 38 (.v (.agg #[.bool af.s, af.m.v])) ty30 zze (zza 40 (.v (s.v)) (zyq 41 (x := zI ((k : Int) - 1)) (zI (((k - 1 : Nat) : Int))) (eqI xq) ?_))))))))
  have hl43 := ItsN.len (hS.ext (aF.t (aK.t (aq.t (aA.t (ak.t (al.t (ah.t (ai.t (ae.t (ad.t ag)))))))))))
  obtain ⟨bn, b43, ba, aW, a1, a4⟩ := its_at (hS.ext (aF.t (aK.t (aq.t (aA.t (ak.t (al.t (ah.t (ai.t (ae.t (ad.t ag))))))))))) (i := (k - 1)) xq
  refine zya 42 (ba + (k - 1) * 2) (n := s.n) (off := ba) (sz := 2) (i := ((k - 1 : Nat) : Int)) xq aW xq xq sl191 (zym 43 bn.cs a1 ty30 (zzi 44 (.v (j2.v)) ty30 zze (zzg 39 143 _ fun _ _ ax bz => Post.mono (k_intMul bz (f1.ext ax).raw ((RatN.num aQ).ext (aq.t (aA.t (ak.t (al.t (ah.t (ai.t (ae.t (ad.t (ag.trans ax)))))))))).raw xq xq) ?_)))
  rintro _ u47 aG ⟨i45, rfl, bu⟩
  refine zzg 45 143 _ fun _ _ aC bk => Post.mono (k_intMul bk (a4.ext (ax.t (aG.t aC))).raw (f2.ext (ax.t (aG.t aC))).raw xq xq) ?_
  rintro _ u53 aO ⟨i51, rfl, br⟩
  refine zzg 46 165 _ fun _ _ aM bl => Post.mono (k_intAdd bl (bu.ext (aC.t (aO.t aM))).raw (br.ext aM).raw xq xq) ?_
  rintro _ u59 aV ⟨a7, rfl, bx⟩
  refine zzj ⟨30, a7.cs⟩ ty30 ?_
  refine zzb (zzf (zzi 47 (.v (j2.v)) ty30 zze (zzi 48 (.v (.agg #[.bool false, af.d.v])) ty30 zze (zzg 49 143 _ fun _ _ aN bq => Post.mono (k_intMul bq (f2.ext (ax.t (aG.t (aC.t (aO.t (aM.t (aV.t aN))))))).raw (nat_int ((RatN.den aQ).ext (aq.t (aA.t (ak.t (al.t (ah.t (ai.t (ae.t (ad.t (ag.t (ax.t (aG.t (aC.t (aO.t (aM.t (aV.t aN)))))))))))))))).raw) xq xq) ?_))))
  rintro _ u65 a9 ⟨bb, rfl, bv⟩
  refine zzj ⟨30, bb.cs⟩ ty30 ?_
  refine zzx ?_
  refine zzp (zzf (zza 34 (zI ((k : Int) - 1)) (zyq 35 (x := zI (IntKind.i64.wrap ((k : Int) - 1 - 1))) (zI (((k - 1 : Nat) : Int) - 1)) (eqI (by rw [IntWalk.i64_in _ xq] <;> omega)) (zza 13 (zI (((k - 1 : Nat) : Int) - 1)) (zzx ?_)))))
  refine ⟨_, ?_, _, by exact zzv _ _ _, k - 1, a7, bb, ((n1 * x.num) + ((W.getD (k - 1) 0) * n2)), (n2 * (x.den : Int)), rfl, by omega, (Int.mul_pos a6 (by have h9 := x.den_pos; omega)), (Nt.miss_step hv xq hk (hW (k - 1) xq)), rfl, (ag.t (ax.t (aG.t (aC.t (aO.t (aM.t (aV.t (aN.t a9.ext)))))))), (IntN.more (K := (max ((Kw + 2 * (p.length - k) + 2) + 1) (Kw + (p.length - k + 2)) + 1)) (bx.ext (aN.t a9.ext)) xq), (IntN.more (K := ((p.length - k + 2) + 1)) bv xq)⟩
  omega
 have qhb42 := of_decide_eq_false av
 refine zyc (zzp (zzd (zzz [0, 0, 3, 0, 0, 31, 63, 127] [(0, []), (1, []), (3, []), (4, []), (2, []), (5, []), (6, []), (7, [])] xj xj (zzi 50 (.v (j1.v)) ty30 zze (zzi 51 (.v (.agg #[.bool false, af.d.v])) ty30 zze (zzi 53 (.v (j2.v)) ty30 zze (zzi 54 (.v (ic.v)) ty30 zze (zzg 52 143 _ fun _ _ am bm => Post.mono (k_intMul bm (f1.ext am).raw (nat_int ((RatN.den aQ).ext (aq.t (aA.t (ak.t (al.t (ah.t (ai.t (ae.t (ad.t (ag.trans am)))))))))).raw) xq xq) ?_))))))))
 rintro _ u71 au ⟨be, rfl, bh⟩
 refine zzg 55 143 _ fun _ _ ao bD => Post.mono (k_intMul bD (f2.ext (am.t (au.t ao))).raw (hC.ext (aF.t (aK.t (aq.t (aA.t (ak.t (al.t (ah.t (ai.t (ae.t (ad.t (ag.t (am.t (au.t ao)))))))))))))).raw xq xq) ?_
 rintro _ u77 aD ⟨aS, rfl, bd⟩
 refine zzj ⟨30, be.cs⟩ ty30 ?_
 refine zzj ⟨30, aS.cs⟩ ty30 ?_
 refine zzb (sq9 (zza 56 (.adr 8 2) (zzi 57 (.v (aj.d.v)) ty28 zzl (zza 58 (.v (.agg #[.bool false, aj.d.v])) (zzk 14 ⟨30, [.bool false, .slice none 0 0]⟩ (zzj ⟨30, [.bool false, aj.d.v]⟩ ty30 ?_))))))
 refine zzb (zzd (zzz [0, 1, 0, 7, 0, 0, 63, 127, 255] [(0, []), (1, []), (2, []), (4, []), (5, []), (3, []), (6, []), (7, []), (8, [])] xj xj (zza 59 (.adr 8 0) (zzi 60 (.v (.agg #[.bool aj.s, aj.m.v])) ty30 zze (zzi 61 (.v (aS.v)) ty30 zze (zzi 63 (.v (be.v)) ty30 zze (zzi 64 (.v (.agg #[.bool false, aj.d.v])) ty30 zze (zzg 62 143 _ fun _ _ ap bC => Post.mono (k_intMul bC ((RatN.num aR).ext (ak.t (al.t (ah.t (ai.t (ae.t (ad.t (ag.t (am.t (au.t (ao.t (aD.t ap)))))))))))).raw (bd.ext ap).raw xq xq) ?_))))))))
 rintro _ u83 aB ⟨i81, rfl, bB⟩
 refine zzg 65 143 _ fun _ _ az bL => Post.mono (k_intMul bL (bh.ext (ao.t (aD.t (ap.t (aB.t az))))).raw (nat_int ((RatN.den aR).ext (ak.t (al.t (ah.t (ai.t (ae.t (ad.t (ag.t (am.t (au.t (ao.t (aD.t (ap.t (aB.t az)))))))))))))).raw) xq xq) ?_
 rintro _ u89 aL ⟨i87, rfl, bF⟩
 refine zzg 66 199 _ fun _ _ aE bG => Post.mono (k_intSub bG (bB.ext (az.t (aL.t aE))).raw (bF.ext aE).raw xq xq) ?_
 rintro _ u95 aP ⟨bf, rfl, bJ⟩
 refine zzj ⟨30, bf.cs⟩ ty30 ?_
 refine zzb (sq9 (zzi 67 (.v (aS.v)) ty30 zze (zzi 68 (.v (.agg #[.bool false, aj.d.v])) ty30 zze (zzg 69 143 _ fun _ _ aI bI => Post.mono (k_intMul bI (bd.ext (ap.t (aB.t (az.t (aL.t (aE.t (aP.t aI))))))).raw (nat_int ((RatN.den aR).ext (ak.t (al.t (ah.t (ai.t (ae.t (ad.t (ag.t (am.t (au.t (ao.t (aD.t (ap.t (aB.t (az.t (aL.t (aE.t (aP.t aI)))))))))))))))))).raw) xq xq) ?_))))
 rintro _ bw ar ⟨bc, rfl, aZ⟩
 refine zzj ⟨30, bc.cs⟩ ty30 ?_
 refine zzb (zzd (zzz [0, 0, 2, 7, 0, 0, 32, 96, 255, 511, 1023] [(0, []), (1, []), (2, []), (4, []), (5, []), (6, []), (7, []), (3, []), (8, []), (9, []), (10, [])] xj xj (zzi 70 (.v (bf.v)) ty30 zze (zza 71 (.adr 9 0) (zzi 72 (.v (.agg #[.bool aw.s, aw.m.v])) ty30 zze (zzi 74 (.v (bc.v)) ty30 zze (zza 75 (.adr 9 2) (zzi 76 (.v (aw.d.v)) ty28 zzl (zza 77 (.v (.agg #[.bool false, aw.d.v])) (zzg 73 143 _ fun _ _ an aT => Post.mono (k_intMul aT (bJ.ext (aI.t (ar.t an))).raw ((RatN.num a8).ext (ah.t (ai.t (ae.t (ad.t (ag.t (am.t (au.t (ao.t (aD.t (ap.t (aB.t (az.t (aL.t (aE.t (aP.t (aI.t (ar.t an)))))))))))))))))).raw xq xq) ?_))))))))))
 rintro _ bN aJ ⟨aa, rfl, aY⟩
 refine zzg 78 143 _ fun _ _ ay aU => Post.mono (k_intMul aU (aZ.ext (an.t (aJ.t ay))).raw (nat_int ((RatN.den a8).ext (ah.t (ai.t (ae.t (ad.t (ag.t (am.t (au.t (ao.t (aD.t (ap.t (aB.t (az.t (aL.t (aE.t (aP.t (aI.t (ar.t (an.t (aJ.t ay)))))))))))))))))))).raw) xq xq) ?_
 rintro _ bj aX ⟨ac, rfl, a2⟩
 refine zzj ⟨30, aa.cs⟩ ty30 ?_
 refine zzj ⟨30, ac.cs⟩ ty30 ?_
 refine zzc 83 [(6, .adr 6 0), (11, .adr 11 0), (12, .adr 12 0)] [(6, ⟨32, zw3⟩), (11, ⟨30, aa.cs⟩), (12, ⟨30, ac.cs⟩)] (sq9 (zzi 79 (.v (aa.v)) ty30 zze (zza 80 (.adr 12 1) (zzi 81 (.v (ac.m.v)) ty28 zzl (zza 82 (.v (.agg #[.bool aa.s, aa.m.v, ac.m.v])) (zzj ⟨32, aa.cs ++ [ac.m.v]⟩ ty32 ?_))))))
 refine zzb (zzo (ret0 [.agg #[.bool aa.s, aa.m.v, ac.m.v]] ⟨zzr ty32 zze, trivial⟩ fun bt aH => ?_))
 have bO : k = 0 := by omega
 have hv9 := hv
 rw [bO, List.drop_zero] at hv9
 have hend := Nt.miss_end (y := y) (w := g) hv9 a6 hC0
 refine ⟨(⟨aa.s, aa.m, ac.m⟩ : RL), rfl, ⟨(((y.num * (n2 * C)) - ((n1 * (x.den : Int)) * (y.den : Int))) * g.num), _, hend.1, IntV.more (K := ((max (1 + ((p.length - k + 2) + Kc)) (((Kw + 2 * (p.length - k) + 2) + 1) + 1) + 1) + 1)) (aY.ext (ay.t (aX.t aH))).raw xq, NatV.more (K := ((((p.length - k + 2) + Kc) + 1) + 1)) ((int_mag a2).ext aH).raw xq, hend.2⟩, by omega⟩
theorem Nt.den_step {C : Int} {p : List Rat} {i : Nat} (hC : 0 < C) (hD : ∀ j, j < i → ∃ t : Int, ((p.getD j 0).den : Int) * t = C) : 0 < C * (((p.getD i 0).den : Int) / ((Nat.gcd (p.getD i 0).den C.natAbs : Nat) : Int)) ∧ ∀ j, j < i + 1 → ∃ t : Int, ((p.getD j 0).den : Int) * t = C * (((p.getD i 0).den : Int) / ((Nat.gcd (p.getD i 0).den C.natAbs : Nat) : Int)) := by
 have hd0 := (p.getD i 0).den_pos
 obtain ⟨d, hd⟩ : ∃ d, (p.getD i 0).den = d := ⟨_, rfl⟩
 rw [hd] at hd0 ⊢
 have hg0 : 0 < Nat.gcd d C.natAbs := Nat.gcd_pos_of_pos_left _ hd0
 obtain ⟨a, ha⟩ := Nat.gcd_dvd_left d C.natAbs
 obtain ⟨b, hb⟩ := Nat.gcd_dvd_right d C.natAbs
 obtain ⟨g, hg⟩ : ∃ g, Nat.gcd d C.natAbs = g := ⟨_, rfl⟩
 rw [hg] at ha hb hg0 ⊢
 have hC' : C = (g : Int) * (b : Int) := by rw [← Int.natCast_mul, ← hb]; omega
 have hq : (d : Int) / (g : Int) = (a : Int) := by rw [ha, Int.natCast_mul]; exact Int.mul_ediv_cancel_left _ xq
 have ha0 : 0 < a := Nat.pos_of_ne_zero (fun e => by rw [e, Nat.mul_zero] at ha; omega)
 rw [hq]
 refine ⟨Int.mul_pos hC xq, fun j hj => ?_⟩
 by_cases e : j = i
 ·rw [e, hd]
  exact ⟨(b : Int), by rw [hC', ha, Int.natCast_mul]; grind⟩
 obtain ⟨t, ht⟩ := hD j xq
 exact ⟨t * (a : Int), by rw [← ht]; grind⟩
def Nt.whL (p : List Rat) (C : Int) : List Int := p.map fun q => q.num * (C / (q.den : Int))
theorem Nt.whL_len {p : List Rat} {C : Int} : (Nt.whL p C).length = p.length := List.length_map ..
theorem Nt.whL_at {p : List Rat} {C : Int} {j : Nat} (h : j < p.length) : (Nt.whL p C).getD j 0 = (p.getD j 0).num * (C / ((p.getD j 0).den : Int)) := by
 unfold Nt.whL
 rw [List.getD_eq_getElem?_getD, List.getElem?_map, List.getD_eq_getElem?_getD, List.getElem?_eq_getElem h]; rfl
theorem Nt.whL_ok {p : List Rat} {C : Int} (hD : ∀ j, j < p.length → ∃ t : Int, ((p.getD j 0).den : Int) * t = C) : ∀ j, j < p.length → (((Nt.whL p C).getD j 0 : Int) : Rat) = p.getD j 0 * (C : Rat) := fun j hj => by
 obtain ⟨t, ht⟩ := hD j hj
 have hd0 := (p.getD j 0).den_pos
 rw [Nt.whL_at hj, ← ht, Int.mul_ediv_cancel_left _ xq, Rat.intCast_mul, Rat.intCast_mul, ← Nt.num_den9]
 grind
set_option maxHeartbeats 8000000 in
theorem k_errorsOf {u w : World} {y : Sl} {l : List Rat} {K M : Nat} {x : Sl} {N : Nat} {V : List Rat} (d : Dat u w) (hg : GrN u x N V 1) (ho : Nt.GrOK V N) (hy : PolV u y l K) (hl : l.length ≤ 60) (hB : 2 * (l.length * (K + 1) + 2) + K + 2 * l.length + 11 ≤ M) (hM : M ≤ 20000000) : Calls Tryz.prog 62 #[x.v, y.v] w (Post u w fun v u' => ∃ z : Sl, v = z.v ∧ PolP u' z (Nt.erL V l N) M) := by
 have hxn : x.n = N := hg.len
 have hN12 := ho.n12
 have hN1 := ho.n1
 have hyl := hy.len
 refine zzm (args := [x.v, y.v]) Tryz.func62 rfl Tryz.ntmps62 (rs := [.tmp 4]) Tryz.results62 (le_b rfl) (le_b rfl) d ?_
 refine sq9 (zza 4 (.v (.slice none 0 0)) (zzb (sq9 (zza 21 (.v (y.v)) (zzg 22 117 _ fun _ _ a1 bF => Post.mono (k_poTrim bF (hy.ext a1) xq xk) ?_)))))
 rintro _ u14 bg ⟨aa, rfl, a2⟩
 have hly12 := a2.len
 refine zza 1 (.v (aa.v)) (zzb (zzd ?_))
 obtain ⟨p, hpe⟩ : ∃ p, Nt.trimQ l = p := ⟨_, rfl⟩
 have hP := a2
 rw [hpe] at hP
 have hpn := hP.len
 have hpl : p.length ≤ l.length := by rw [← hpe]; exact Nt.zzh l
 have hpK : p.length * (K + 1) ≤ l.length * (K + 1) := Nat.mul_le_mul_right _ hpl
 refine zzf (zzg 23 140 _ fun _ _ an bC => Post.mono (k_intOf bC (z := 1) xq xq) ?_)
 rintro _ bu ao ⟨ba, rfl, bk⟩
 refine zzk 5 ⟨30, [.bool false, .slice none 0 0]⟩ (zzj ⟨30, ba.cs⟩ ty30 ?_)
 refine zzb (zzd (sq9 (zza 24 (.v (aa.v)) (zza 25 (zI aa.n) (zza 26 (zI 0) (zzb (zzt (zyn (I := fun a3 S' u' => ∃ (i : Nat) (ic : IL) (C : Int), (a3 = p.length - i) ∧ (i ≤ p.length) ∧ (0 < C) ∧ (∀ j, j < i → ∃ t : Int, ((p.getD j 0).den : Int) * t = C) ∧ (S' = St.of 92 [(0, .v (x.v)), (1, .v (aa.v)), (5, .adr 5 0), (24, .v (aa.v)), (25, zI aa.n), (26, zI i)] [(5, ⟨30, ic.cs⟩)]) ∧ (Ext bu u') ∧ (IntN u' ic C (i * (K + 1) + 2))) (fun m S u1 u2 e h => by obtain ⟨i, ic, C, hm, p0, p1, p2, hS, hE, f0⟩ := h; exact ⟨i, ic, C, hm, p0, p1, p2, hS, hE.trans e, f0.ext e⟩) _ yk ⟨0, ba, 1, rfl, by omega, yq, (fun j hj => absurd hj (Nat.not_lt_zero j)), rfl, (Ext.refl _), (IntN.more (K := 2) bk xq)⟩ ?_))))))))
 rintro a3 _ bh ⟨i, ic, C, bD, hi, hC, hD, rfl, al, f0⟩
 have hiK : i * (K + 1) ≤ p.length * (K + 1) := Nat.mul_le_mul_right _ hi
 refine sq9 (zza 27 (zB (decide ((i : Int) < (aa.n : Int)))) (zzb (zzd (zzu (b := decide ((i : Int) < (aa.n : Int))) xj (fun aj => ?_) (fun aj => ?_)))))
 ·have qhb24 := of_decide_eq_true aj
  refine zzs (zzp ?_)
  refine zzd (zzt (sq9 ?_))
  have hl25 := (hP.ext (an.t (ao.t al))).len
  obtain ⟨af, b25, a6, aO, aP, av⟩ := pol_atN (hP.ext (an.t (ao.t al))) (i := i) xq
  refine zya 28 (a6 + i * 3) (n := aa.n) (off := a6) (sz := 3) (i := (i : Int)) xq aO xq xq sl27 (zym 29 af.cs aP ty32 (zzk 7 ⟨32, zw3⟩ (zzj ⟨32, af.cs⟩ ty32 ?_)))
  refine zzb (sq9 (zza 30 (.adr 7 2) (zzi 31 (.v (af.d.v)) ty28 zzl (zza 32 (.v (.agg #[.bool false, af.d.v])) (zzk 8 ⟨30, [.bool false, .slice none 0 0]⟩ (zzj ⟨30, [.bool false, af.d.v]⟩ ty30 ?_))))))
  refine zzb (zzd (zzz [0, 0, 0, 6, 15, 31, 63, 63, 63, 0, 0, 1663, 3839, 8191] [(0, []), (1, []), (2, []), (9, []), (10, []), (3, []), (4, []), (5, []), (6, []), (7, []), (8, []), (11, []), (12, []), (13, [])] xj xj (zzi 34 (.v (.agg #[.bool false, af.d.v])) ty30 zze (zzi 35 (.v (.agg #[.bool false, af.d.v])) ty30 zze (zzi 36 (.v (ic.v)) ty30 zze (zzk 9 ⟨30, [.bool false, .slice none 0 0]⟩ (zzk 10 ⟨30, [.bool false, .slice none 0 0]⟩ (zzg 37 142 _ fun _ _ au bn => Post.mono (k_intGcd (i1 := (⟨false, af.d⟩ : IL)) (i2 := ic) bn ((RatN.den av).ext au).raw ((int_mag f0).ext au).raw xq xq) ?_))))))))
  rintro _ u29 aZ ⟨bj, rfl, bm⟩
  refine zzg 38 141 _ fun _ _ aG bo => Post.mono (k_intDivI (i1 := (⟨false, af.d⟩ : IL)) (i2 := bj) bo (nat_int ((RatN.den av).ext (au.t (aZ.t aG))).raw) (bm.ext aG) (Int.ofNat_lt.2 (Nat.gcd_pos_of_pos_left _ (Rat.den_pos (p.getD i 0)))) xq xq) ?_
  rintro _ u37 be ⟨aw, aT, rfl, bv, h36⟩
  refine zza 33 (.v (.tuple #[aw.v, aT.v, .int .i64 0])) (zza 39 (.v (aw.v)) (zza 40 (.v (aT.v)) (zza 41 (zI 0) (zzj ⟨30, aw.cs⟩ ty30 ?_))))
  refine zzj ⟨30, aT.cs⟩ ty30 ?_
  refine zza 11 (zI 0) (zzc 92 [(0, .v (x.v)), (1, .v (aa.v)), (5, .adr 5 0), (9, .adr 9 0), (24, .v (aa.v)), (25, zI aa.n), (26, zI i)] [(5, ⟨30, ic.cs⟩), (9, ⟨30, aw.cs⟩)] (zzf (zzi 42 (.v (ic.v)) ty30 zze (zzi 43 (.v (aw.v)) ty30 zze (zzg 44 143 _ fun _ _ aQ bG => Post.mono (k_intMul bG (f0.ext (au.t (aZ.t (aG.t (be.t aQ))))).raw (bv.ext aQ).raw xq xq) ?_)))))
  rintro _ u43 bx ⟨bb, rfl, bi⟩
  refine zzj ⟨30, bb.cs⟩ ty30 ?_
  refine zzx ?_
  refine zzp (zzf (zyq 45 (x := zI (IntKind.i64.wrap ((i : Int) + 1))) (zI (i + 1 : Nat)) (eqI xz) (zza 26 (zI (i + 1 : Nat)) (zzx ?_))))
  have hst := Nt.den_step (i := i) hC hD
  refine ⟨_, ?_, _, by exact zzv _ _ _, i + 1, bb, (C * (((p.getD i 0).den : Int) / ((Nat.gcd ((p.getD i 0).den) ((C : Int).natAbs) : Nat) : Int))), rfl, by omega, hst.1, hst.2, rfl, (al.t (au.t (aZ.t (aG.t (be.t (aQ.t bx.ext)))))), (IntN.more (K := ((i * (K + 1) + 2) + (K + 1))) bi (by rw [Nat.succ_mul]; omega))⟩
  omega
 have qhb24 := of_decide_eq_false aj
 refine zyc (zzp (zzd ?_))
 obtain rfl : i = p.length := by omega
 have hWo := Nt.whL_ok hD
 have a5 : IntN bh ic C (p.length * (K + 1) + 2) := f0
 refine zzf (zza 46 (.v (aa.v)) (zza 47 (zI aa.n) (sy_make 48 (T := 191) (E := 30) (z := .agg #[.bool false, .slice none 0 0]) (size := 2) (bytes := 32) aa.n (ils (List.replicate aa.n il0)) xj xj rfl rfl xq yv (made_ils _) ?_)))
 refine zza 12 (.slc 48 0 aa.n aa.n) (zzc 92 [(0, .v (x.v)), (1, .v (aa.v)), (5, .adr 5 0), (12, .slc 48 0 aa.n aa.n)] [(5, ⟨30, ic.cs⟩), (48, ⟨30, ils (List.replicate aa.n il0)⟩)] (zzd (sq9 (zza 49 (.v (aa.v)) (zza 50 (zI aa.n) (zza 51 (zI 0) (zzb (zzt (zyn (I := fun a4 S' u' => ∃ (k : Nat) (L : List IL), (a4 = p.length - k) ∧ (k ≤ p.length) ∧ (L.length = p.length) ∧ (S' = St.of 92 [(0, .v (x.v)), (5, .adr 5 0), (12, .slc 48 0 aa.n aa.n), (49, .v (aa.v)), (50, zI aa.n), (51, zI k)] [(5, ⟨30, ic.cs⟩), (48, ⟨30, ils L⟩)]) ∧ (Ext bh u') ∧ (IlsN u' (L.take k) ((Nt.whL p C).take k) (K + (p.length * (K + 1) + 2 + 1)))) (fun m S u1 u2 e h => by obtain ⟨k, L, hm, p0, p1, hS, hE, f0⟩ := h; exact ⟨k, L, hm, p0, p1, hS, hE.trans e, f0.ext e⟩) _ yk ⟨0, List.replicate aa.n il0, rfl, by omega, yz, rfl, (Ext.refl _), IlsN.tnil _ _ _ _⟩ ?_)))))))))
 rintro a4 _ u46 ⟨k, L, bE, hk, hL, rfl, ai, g0⟩
 refine sq9 (zza 52 (zB (decide ((k : Int) < (aa.n : Int)))) (zzb (zzd (zzu (b := decide ((k : Int) < (aa.n : Int))) xj (fun ak => ?_) (fun ak => ?_)))))
 ·have qhb47 := of_decide_eq_true ak
  refine zzs (zzp ?_)
  refine zzd (zzt (sq9 (zza 53 (zI k) ?_)))
  have hl48 := (hP.ext (an.t (ao.t (al.trans ai)))).len
  obtain ⟨ag, b48, bd, aK, aW, az⟩ := pol_atN (hP.ext (an.t (ao.t (al.trans ai)))) (i := k) xq
  refine zya 54 (bd + k * 3) (n := aa.n) (off := bd) (sz := 3) (i := (k : Int)) xq aK xq xq sl27 (zym 55 ag.cs aW ty32 (zzk 14 ⟨32, zw3⟩ (zza 13 (zI k) (zzj ⟨32, ag.cs⟩ ty32 ?_))))
  refine zzb (sq9 (zzi 57 (.v (ic.v)) ty30 zze (zza 58 (.adr 14 2) (zzi 59 (.v (ag.d.v)) ty28 zzl (zza 60 (.v (.agg #[.bool false, ag.d.v])) (zzg 61 141 _ fun _ _ aC bs => Post.mono (k_intDivI (i1 := ic) (i2 := (⟨false, ag.d⟩ : IL)) bs (a5.ext (ai.trans aC)).raw (nat_intN ((RatN.den az).ext aC)) (Int.ofNat_lt.2 (Rat.den_pos (p.getD k 0))) xq xq) ?_))))))
  rintro _ u54 aR ⟨aI, aX, rfl, bB, h53⟩
  refine zza 56 (.v (.tuple #[aI.v, aX.v, .int .i64 0])) (zza 62 (.v (aI.v)) (zza 63 (.v (aX.v)) (zza 64 (zI 0) (zzk 15 ⟨30, [.bool false, .slice none 0 0]⟩ (zzk 16 ⟨30, [.bool false, .slice none 0 0]⟩ (zzj ⟨30, aI.cs⟩ ty30 ?_))))))
  refine zzj ⟨30, aX.cs⟩ ty30 ?_
  refine zza 17 (zI 0) (zzb (zzf (zza 65 (.slc 48 0 aa.n aa.n) (zza 66 (zI k) (zza 67 (.adr 14 0) (zzi 68 (.v (.agg #[.bool ag.s, ag.m.v])) ty30 zze (zzi 69 (.v (aI.v)) ty30 zze (zzg 70 143 _ fun _ _ aF bw => Post.mono (k_intMul bw ((RatN.num az).ext (aC.t (aR.t aF))).raw (bB.ext aF).raw xq xq) ?_))))))))
  rintro _ u60 bc ⟨aV, rfl, bJ⟩
  refine zyw 71 (off' := k * 2) (n := aa.n) (off := 0) (sz := 2) (i := (k : Int)) sl191 xq xq xq ?_
  refine zyv (V := ⟨30, ils L⟩) (off := k * 2) (ils (L.set k aV)) ty30 (by rw [ils_len]; omega) (setL_ils (r := aV) (i := k) xq rfl) ?_
  refine zzx ?_
  refine zzp (zzf (zyq 72 (x := zI (IntKind.i64.wrap ((k : Int) + 1))) (zI (k + 1 : Nat)) (eqI xz) (zza 51 (zI (k + 1 : Nat)) (zzx ?_))))
  refine ⟨_, ?_, _, by exact zzv _ _ _, k + 1, (L.set k aV), rfl, by omega, (by rw [List.length_set]; exact hL), rfl, (ai.t (aC.t (aR.t (aF.t bc.ext)))), (IlsN.tstep (g0.ext (aC.t (aR.t (aF.t bc.ext)))) xq (by rw [Nt.whL_len]; omega) (IntN.more (K := (K + ((p.length * (K + 1) + 2) + 1))) bJ xq) (Nt.whL_at xq).symm)⟩
  omega
 have qhb47 := of_decide_eq_false ak
 refine zyc (zzp (zzd (zyp (r := 12) (t := 48) [12, 48] xw xj (by rfl) (by rfl) xj (fun aE a9 aH bp aN => ?_))))
 have hLw := IlsN.tdone (g0.ext aH) xq (by rw [Nt.whL_len]; omega)
 have aJ : ItsN a9 ⟨some ⟨aE, 0, none⟩, aa.n, aa.n⟩ (Nt.whL p C) (K + (p.length * (K + 1) + 2 + 1)) := its_data1 aN yv hLw xq
 refine zzf (zza 73 (.v (x.v)) (zza 74 (zI x.n) (sy_make 75 (T := 26) (E := 32) (z := .agg #[.bool false, .slice none 0 0, .slice none 0 0]) (size := 3) (bytes := 56) x.n (rcs (List.replicate x.n rl0)) xj xj rfl rfl xq yv (made_rcs _) ?_)))
 refine zza 18 (.slc 75 0 x.n x.n) (zzc 92 [(0, .v (x.v)), (5, .adr 5 0), (12, .v (.slice (some ⟨aE, 0, none⟩) aa.n aa.n)), (18, .slc 75 0 x.n x.n)] [(5, ⟨30, ic.cs⟩), (75, ⟨32, rcs (List.replicate x.n rl0)⟩)] (zzd (sq9 (zza 76 (.v (x.v)) (zza 77 (zI x.n) (zza 78 (zI 0) (zzb (zzt (zyn (I := fun a8 S' u' => ∃ (j : Nat) (L : List RL), (a8 = N - j) ∧ (j ≤ N) ∧ (L.length = N) ∧ (S' = St.of 92 [(5, .adr 5 0), (12, .v (.slice (some ⟨aE, 0, none⟩) aa.n aa.n)), (18, .slc 75 0 x.n x.n), (76, .v (x.v)), (77, zI x.n), (78, zI j)] [(5, ⟨30, ic.cs⟩), (75, ⟨32, rcs L⟩)]) ∧ (Ext a9 u') ∧ (RtsP u' (L.take j) ((Nt.erL V l N).take j) M)) (fun m S u1 u2 e h => by obtain ⟨j, L, hm, p0, p1, hS, hE, f0⟩ := h; exact ⟨j, L, hm, p0, p1, hS, hE.trans e, f0.ext e⟩) _ yk ⟨0, List.replicate x.n rl0, rfl, by omega, yz, rfl, (Ext.refl _), RtsP.tnil _ _ _ _⟩ ?_)))))))))
 rintro a8 _ u69 ⟨j, L, bA, hj, bI, rfl, ap, e0⟩
 refine sq9 (zza 79 (zB (decide ((j : Int) < (x.n : Int)))) (zzb (zzd (zzu (b := decide ((j : Int) < (x.n : Int))) xj (fun ah => ?_) (fun ah => ?_)))))
 ·have qhb70 := of_decide_eq_true ah
  refine zzs (zzp ?_)
  refine zzd (zzt (sq9 (zza 80 (zI j) ?_)))
  have bH : x.n = N := GrN.len (hg.ext (a1.t (bg.t (an.t (ao.t (al.trans (ai.trans (aH.trans ap))))))))
  obtain ⟨ae, ad, ac, b71, a7, aY, aB, aq, aA, ax, ar, ay⟩ := gr_at (hg.ext (a1.t (bg.t (an.t (ao.t (al.trans (ai.trans (aH.trans ap)))))))) (i := j) xq
  refine zya 81 (a7 + j * 9) (n := x.n) (off := a7) (sz := 9) (i := (j : Int)) xq aY xq (by first | omega | (have h9 : _ := xq; omega)) sl23 (zym 82 (ae.cs ++ ad.cs ++ ac.cs) (gr_pt aB aq aA) ty56 (zzk 20 ⟨56, [.bool false, .slice none 0 0, .slice none 0 0, .bool false, .slice none 0 0, .slice none 0 0, .bool false, .slice none 0 0, .slice none 0 0]⟩ (zza 19 (zI j) (zzj ⟨56, ae.cs ++ ad.cs ++ ac.cs⟩ ty56 ?_))))
  refine zzb (zzf (zza 83 (.slc 75 0 x.n x.n) (zza 84 (zI j) (zzi 85 (.v (.agg #[.bool ae.s, ae.m.v, ae.d.v, .bool ad.s, ad.m.v, ad.d.v, .bool ac.s, ac.m.v, ac.d.v])) ty56 zze (zza 86 (.v (.slice (some ⟨aE, 0, none⟩) aa.n aa.n)) (zzi 87 (.v (ic.v)) ty30 zze (zzg 88 144 _ fun _ _ am bt => Post.mono (k_missAt (r0 := ae) (r1 := ad) (r2 := ac) (p := p) bt (ax.ext am) (ar.ext am) (ay.ext am) (aJ.ext (ap.trans am)) (a5.ext (ai.trans (aH.trans (ap.trans am)))) hC Nt.whL_len hWo xq xq xq) ?_)))))))
  rintro _ u75 bf ⟨aL, rfl, aU⟩
  refine zyw 89 (off' := j * 3) (n := x.n) (off := 0) (sz := 3) (i := (j : Int)) sl26 xq xq xq ?_
  refine zyv (V := ⟨32, rcs L⟩) (off := j * 3) (rcs ((L).set j aL)) ty32 yy (zyx (r := aL) (i := j) zq rfl) ?_
  refine zzx ?_
  refine zzp (zzf (zyq 90 (x := zI (IntKind.i64.wrap ((j : Int) + 1))) (zI (j + 1 : Nat)) (eqI xz) (zza 78 (zI (j + 1 : Nat)) (zzx ?_))))
  refine ⟨_, ?_, _, by exact zzv _ _ _, j + 1, (L).set j aL, rfl, by omega, (by rw [List.length_set]; exact bI), rfl, (ap.t (am.t bf.ext)), (RtsP.tstep (e0.ext (am.t bf.ext)) xq (by rw [Nt.erL_len]; omega) (RatP.more (K := ((K + (p.length * (K + 1) + 2 + 1)) + (p.length * (K + 1) + 2) + 2 * p.length + 10)) aU xq) (by rw [Nt.erL_at xq]; unfold Nt.gE; rw [← hpe, Nt.evL_trim]))⟩
  omega
 have qhb70 := of_decide_eq_false ah
 refine zyc (zzp (zzd (zyp (r := 18) (t := 75) [18, 75] xw xj (by rfl) (by rfl) xj (fun aD bl br bq aM => ?_))))
 have hLp := RtsP.tdone (e0.ext br) xq (by rw [Nt.erL_len]; omega)
 have aS : PolP bl ⟨some ⟨aD, 0, none⟩, x.n, x.n⟩ (Nt.erL V l N) M := polp_data1 aM yv hLp xq
 refine zzf (zza 91 (.v (.slice (some ⟨aD, 0, none⟩) x.n x.n)) (zza 4 (.v (.slice (some ⟨aD, 0, none⟩) x.n x.n)) (zzb (zzo (ret0 [.slice (some ⟨aD, 0, none⟩) x.n x.n] ⟨zzq, trivial⟩ fun u84 bz => ?_)))))
 exact ⟨(⟨some ⟨aD, 0, none⟩, x.n, x.n⟩ : Sl), rfl, (aS.ext bz)⟩
section
variable {k lo lo' n c i j : Nat} {ty : TypeId} {u u' v : World} {w0 : Base} {u0 : World} {x y : Sl} {cs : List Value} {l : List Int} {z : Int} {a : Addr}
theorem nu_ics : ∀ v ∈ ics l, NU v := fun v hv => by
 obtain ⟨x, _, rfl⟩ := List.mem_map.1 hv
 exact nu_i64 x
theorem MutQ.elI (m : MutQ 1 ty lo u y (ics l)) (hj : j < l.length) : ∃ b, y.a = some ⟨b, 0, none⟩ ∧ u.cell? ⟨b, 0 + j * 1, none⟩ = some (.int .i64 (l.getD j 0)) := by
 obtain ⟨b, h1, h2⟩ := m.mutL.cell (j := j) (by rw [zwi]; exact hj)
 exact ⟨b, h1, by rw [Nat.mul_one, h2, ics_at hj]⟩
theorem setL_icsQ (h : j < l.length) : setL (ics l) (0 + j * 1) (Value.int .i64 z).cells.toList = ics (l.set j z) := by
 have := setL_cons (cs := ics l) (off := j) (v := .int .i64 z) (vs := []) (by rw [zwi]; exact h)
 rw [setL_nil] at this
 rw [Nat.zero_add, Nat.mul_one, ← ics_set]
 exact this.symm
theorem MutQ.slr (m : MutQ 1 ty lo u y (ics l)) : SlR .i64 u y.a y.n y.c l := by
 obtain ⟨h1, h2, h3, h4⟩ := id m
 rw [zwi, Nat.mul_one] at h1
 refine ⟨h1, h2, h3, fun h0 => ?_⟩
 rcases h4 with h4 | ⟨b, all, g1, g2, g3, g4, _, _⟩
 ·rw [h4] at h0; exact absurd h0 (Nat.lt_irrefl 0)
 refine ⟨b, 0, g1, zxa g2, fun i hi => ?_⟩
 obtain ⟨b2, e1, e2⟩ := m.elI (j := i) xq
 rw [g1] at e1
 injection e1 with e1; injection e1 with e1 _ _
 subst e1
 rw [Nat.mul_one] at e2
 rw [e2, List.getD_eq_getElem?_getD]
theorem MutQ.blkF (m : MutQ k ty lo u y cs) {b : Nat} (hb : b ∈ mqB y []) : lo ≤ b ∧ ∃ ob, u.heap[b]? = some ob ∧ ob ≠ hidO := by
 obtain ⟨s, hs, e⟩ := List.mem_filterMap.1 hb
 rw [List.mem_singleton.1 hs] at e
 rcases m.2.2.2 with h1 | ⟨b', all, h1, h2, _, _, h5, _⟩
 ·rw [h1] at e; cases e
 rw [h1] at e; injection e with e; subst e
 exact ⟨h5, _, h2, cells_not_hid⟩
theorem MutQ.mayF (m : MutQ k ty lo u y cs) (hl : u0.heap.size ≤ lo) : ∀ b ∈ mqB y [], MayB w0 u0 b ∧ ∃ ob, u.heap[b]? = some ob ∧ ob ≠ hidO := fun b hb => ⟨.inl (Nat.le_trans hl (m.blkF hb).1), (m.blkF hb).2⟩
theorem ExtF.rootL (e : ExtF (mqB y []) u u') (m : MutQ k ty v.heap.size u y cs) (r : Ext v u) : Ext v u' :=
 ⟨Nat.le_trans r.size e.size, fun q o hq hh => e.vis q o (fun hm => by have h1 := (m.blkF hm).1; have h2 := zxa hq; omega) (r.vis q o hq hh) hh⟩
end
section
variable {P : Program} {ops : Array Oper} {w0 : Base} {u0 : World} {S : St} {u : World} {o : Oper} {p : List Tmp} {rest : List (Oper × List Tmp)} {K : St → World → Prop}
theorem sy_tailD {seq : Bool} (d : Tmp) {T : TypeId} {x g : Operand} {b off n c : Nat} {k : IntKind} {i : Int} (lo : Nat) {sz : Nat} (hT : SlIs P T sz) (hi : i = lo) (h1 : lo ≤ n) (h2 : n ≤ c) (h3 : c ≠ lo)
  (kk : sym P ops w0 u0 seq rest (S.set d (.v (.slice (some ⟨b, off + lo * sz, none⟩) (n - lo) (c - lo)))) u K) (hw : Wants ops o S := by exact zwf xj) (hd : o.dst = some d := by kernel_rfl) (hop : o.op = .slice T x (some g) none none := by rfl) (hf : freeB S d = true := by kernel_rfl)
  (hx : evO S x = some (.v (.slice (some ⟨b, off, none⟩) n c)) := by rfl) (hg : evO S g = some (.v (.int k i)) := by rfl) : sym P ops w0 u0 seq ((o, p) :: rest) S u K := by
 subst hi
 obtain ⟨E, agg, hu, hE⟩ := hT
 refine .inl ⟨by rw [hop]; exact (by decide : (0 : Nat) ≠ 2), .set (.v (.slice (some ⟨b, off + lo * sz, none⟩) (n - lo) (c - lo))), ⟨zxy hd hf, .inl ⟨(fun t ht => by cases ht), fun B a w u' hr he hdt => ⟨hw B a hr, ?_⟩⟩⟩, ?_⟩
 ·have e1 : (execOp a.eval o).run P w = (do pure (Next.value (← Instr.sliceAt T (a.eval x) (some (a.eval g)) none none)) : Sem Next).run P w := by unfold execOp; rw [hop]; rfl
  rw [e1, ev_eval hr hx, ev_eval hr hg]
  refine run_val ?_
  show (Instr.sliceAt T (.slice (some ⟨b, off, none⟩) n c) (some (.int k lo)) none none).run P w = .ok (.slice (some ⟨b, off + lo * sz, none⟩) (n - lo) (c - lo)) w
  have hs := (hE w).2
  simp [Instr.sliceAt, Instr.slice, Instr.sliceBounds, Instr.sliceBound, asIntOf, run_underlying hu, go_sem, hs, h1, h3, Addr.add]
 show sym P ops w0 u0 seq rest (S.put o.dst (some _)) u K
 rw [hd]; exact kk
theorem sy_copyD (d : Tmp) {T E : TypeId} {dx sx : Operand} {b off dn dc b2 off2 sn sc : Nat} {cs news : List Value} {ty : TypeId} (hub : u.heap[b]? = some (.cells cs.toArray ty (0, 0))) (hb : MayB w0 u0 b) (hT : P.underlying T = some (.slice E)) (hE : (P.info? E).map (·.size) = some 1)
  (hn : news.length = Nat.min sn dn) (hsrc : ∀ j v, news[j]? = some v → u.cell? ((⟨b2, off2, none⟩ : Addr).add j) = some v) (hl : off + news.length ≤ cs.length) (hone : ∀ v ∈ news, v.oneCell' = true)
  (k : ∀ u1, u1.heap[b]? = some (.cells (setL cs off news).toArray ty (0, 0)) → ExtB b u u1 → sym P ops w0 u0 true rest (S.set d (.v (goInt news.length))) u1 K)
  (hw : Wants ops o S := by exact zwf xj) (hd : o.dst = some d := by kernel_rfl) (hop : o.op = .call { callee := .builtin .copy, args := #[dx, sx], argTypes := #[T, T] } := by rfl) (hf : freeB S d = true := by kernel_rfl)
  (hx : evO S dx = some (.v (.slice (some ⟨b, off, none⟩) dn dc)) := by rfl) (hz : evO S sx = some (.v (.slice (some ⟨b2, off2, none⟩) sn sc)) := by rfl) : sym P ops w0 u0 true ((o, p) :: rest) S u K := by
 refine .inr (.inr (.inl ⟨.inl rfl, fun B a w u' he hrep => ⟨hw B a hrep.regs, ?_⟩⟩))
 have hub' := he.cells hub
 have hwb := hrep.dat.ext.cells hub'
 obtain ⟨w', k1, k2, k3⟩ := run_storeCells (P := P) (b := b) (ty := ty) (base := off) news 0 w cs hwb xq hone
 have hld := run_loadCells_list (P := P) (w := w) ⟨b2, off2, none⟩ news (fun j v hv => hrep.dat.ext.cell (he.cell (hsrc j v hv)))
 have hrun : (Builtin.copy_ #[T, T] o.type #[.slice (some ⟨b, off, none⟩) dn dc, .slice (some ⟨b2, off2, none⟩) sn sc]).run P w = .ok (goInt news.length) w' := by
  cases hq : P.info? E with
  | none => simp [hq] at hE
  | some i =>
   have hi : i.size = 1 := by simpa [hq] using hE
   simp [Builtin.copy_, run_underlying hT, Builtin.lenOf, Builtin.firstCells, sizeOf, typeInfo, hq, hi, ← hn, hld, k1]
 unfold Oper.wp execOp
 simp only [hop, resolve, invoke, builtin, Sem.run_bind, Sem.run_pure, Result.andThen_ok, List.map_toArray, List.map_cons, List.map_nil, ev_eval hrep.regs hx, ev_eval hrep.regs hz, SV.conc, hrun]
 simp only [Nat.add_zero] at k2
 have hlt := zxa hub'
 have hdat : Dat (setW u' b (.cells (setL cs off news).toArray ty (0, 0))) w' := setW_dat (cs := #[]) (ty := 0) hrep.dat k2 k3
 have hr2 := hrep.mut (F := [b]) (fun b' hm => by simp at hm; subst hm; exact ⟨hb, _, hub', by unfold hidO; intro e; cases e⟩) hdat (onlyB_bel k3) setW_growF
 have hr3 := hr2.set (d := some d) (x := some (.v (goInt news.length))) (v := goInt news.length) (fun s hs => (zxy hd hf s (by rw [hd]; exact hs)).1) (fun z e => by injection e with e; rw [← e]; rfl) (fun z t e ht => by injection e with e; rw [← e] at ht; cases ht)
 show ∃ S' B' u'' u2, Rep w0 u0 S' B' (a.put o.dst _) w' u'' ∧ _
 rw [hd]
 exact ⟨_, B, _, _, hr3, (fun e => by cases e), (fun e => by cases e), Ext.refl _, k _ (setW_eq hlt) (ExtF.toB (.pre he setW_growF.extF))⟩
theorem sy_copyJ (d : Tmp) {T E : TypeId} {dx sx : Operand} {b off dn dc off2 sn sc lo i j m : Nat} {l : List Int} {ty : TypeId} (y : Sl) (hm : MutQ 1 ty lo u y (ics l)) (hmay : ∀ a, y.a = some a → MayB w0 u0 a.block) (hb : y.a = some ⟨b, 0, none⟩) (hT : P.underlying T = some (.slice E)) (hE : (P.info? E).map (·.size) = some 1)
  (ho : off = 0 + j * 1) (ho2 : off2 = 0 + i * 1) (hn : m = Nat.min sn dn) (hi : i + m ≤ l.length) (hj : j + m ≤ l.length)
  (k : ∀ u1, MutQ 1 ty lo u1 y (ics (l.take j ++ (l.drop i).take m ++ l.drop (j + m))) → ExtX y u u1 → sym P ops w0 u0 true rest (S.set d (.v (goInt m))) u1 K)
  (hw : Wants ops o S := by exact zwf xj) (hd : o.dst = some d := by kernel_rfl) (hop : o.op = .call { callee := .builtin .copy, args := #[dx, sx], argTypes := #[T, T] } := by rfl) (hf : freeB S d = true := by kernel_rfl)
  (hx : evO S dx = some (.v (.slice (some ⟨b, off, none⟩) dn dc)) := by rfl) (hz : evO S sx = some (.v (.slice (some ⟨b, off2, none⟩) sn sc)) := by rfl) : sym P ops w0 u0 true ((o, p) :: rest) S u K := by
 obtain ⟨q1, q2, q3, q4⟩ := id hm
 have hlm : ((l.drop i).take m).length = m := by rw [List.length_take, List.length_drop]; omega
 rcases q4 with q4 | ⟨b', all, g1, g2, g3, g4, g5, g6⟩
 ·subst q4; cases hb
 have hmb := hmay _ g1
 rw [hb] at g1; injection g1 with g1; injection g1 with g1 _ _; subst g1
 rw [zwi] at q1
 have hnk : y.n * 1 ≤ all.length := by rw [g3]; exact Nat.mul_le_mul_right _ q2
 have hlen : (ics ((l.drop i).take m)).length = m := by rw [zwi, hlm]
 have e2 : ics (l.take j ++ (l.drop i).take m ++ l.drop (j + m)) = setL (ics l) (j * 1) (ics ((l.drop i).take m)) := by
  unfold setL
  rw [hlen]
  unfold ics
  rw [List.map_append, List.map_append, List.map_take, List.map_drop, Nat.mul_one]
 have hsrc : ∀ q v, (ics ((l.drop i).take m))[q]? = some v → u.cell? ((⟨b, off2, none⟩ : Addr).add q) = some v := fun q v hv => by
  have hq : q < m := by have := (List.getElem?_eq_some_iff.1 hv).1; omega
  obtain ⟨b2, z1, z2⟩ := hm.elI (j := i + q) xq
  rw [hb] at z1; injection z1 with z1; injection z1 with z1 _ _; subst z1
  have e3 : (⟨b, off2, none⟩ : Addr).add q = ⟨b, 0 + (i + q) * 1, none⟩ := by
   unfold Addr.add; rw [ho2]; simp <;> omega
  rw [e3, z2, ← hv]
  unfold ics
  rw [List.getElem?_map, List.getElem?_take_of_lt hq, List.getElem?_drop, List.getD_eq_getElem?_getD, List.getElem?_eq_getElem (show i + q < l.length by omega)]
  rfl
 refine sy_copyD (cs := all) (news := ics ((l.drop i).take m)) d g2 hmb hT hE (by rw [hlen]; exact hn) hsrc xq ics_one (fun u1 k1 k2 => ?_) hw hd hop hf hx hz
 rw [hlen]
 refine k u1 ?_ (k2.toX hb)
 rw [e2]
 have hjo : j * 1 = off := by omega
 rw [hjo]
 refine ⟨?_, q2, q3, .inr ⟨b, _, hb, k1, ?_, ?_, g5, nu_setL g6 nu_ics⟩⟩
 ·rw [setL_length (by rw [hlen, zwi]; omega), zwi]; exact q1
 ·rw [setL_length xq]; exact g3
 rw [setL_take xq hnk, g4]
end
namespace Nt
theorem cp_left {l : List Int} {a : Int} {n : Nat} (h : l.length = n + 1) : (l.take 1 ++ (l.drop 0).take n ++ l.drop (1 + n)).set 0 a = a :: l.take n := by
 match l, h with
 | x :: l, h =>
  have : l.length = n := by simpa using h
  have h2 : (x :: l).drop (1 + n) = [] := List.drop_of_length_le yz
  rw [h2, List.append_nil, List.drop_zero]
  simp
theorem cp_right {l : List Int} {a : Int} {n : Nat} (h : l.length = n + 1) : (l.take 0 ++ (l.drop 1).take n ++ l.drop (0 + n)).set n a = l.drop 1 ++ [a] := by
 have h1 : (l.drop 1).length = n := by rw [List.length_drop]; omega
 rw [List.take_zero, List.nil_append, List.take_of_length_le xq, Nat.zero_add]
 obtain ⟨x, hx⟩ : ∃ x, l.drop n = [x] := by
  match hd : l.drop n, (show (l.drop n).length = 1 by rw [List.length_drop]; omega) with
  | [x], _ => exact ⟨x, rfl⟩
 rw [hx, List.set_append_right _ _ xq, h1, Nat.sub_self]; rfl
end Nt
end Go.Proofs.YtgmkhhfbckjaeaaGreat
