/- Parts of the proof: contracts of functions, each walked once, and plain laws. -/
import Derived.Test.YtgmkhhfbckjaeaaGreatXchE
import Derived.ArgAppend
set_option linter.unusedVariables false
set_option maxHeartbeats 8000000
namespace Go.Proofs.YtgmkhhfbckjaeaaGreat
open Nt
open Go.RowKit
theorem k_r5Trim {u w : World} {x : Sl} {l : List Rat} {K : Nat} (d : Dat u w) (hx : PolV u x l K) (hK : K ≤ 50000000) (hx9 : l.length ≤ 1000000000) : qyc 83 #[x.v] w (Post u w fun v u' => ∃ y : Sl, v = y.v ∧ PolN u' y (Nt.trimQ l) K) := by
 have hlen := hx.len
 have htl := zzh l
 refine zzm Tryz.func83 rfl Tryz.ntmps83 Tryz.results83 d ?_
 refine sq9 (zza 2 (.v (qyn)) (zzb (sq9 (zza 7 (.v (x.v)) (zza 8 (zI x.n) (zza 3 (zI x.n) (zzb (zzd (zzt (zyn (I := fun bF S' u' => ∃ (n : Nat), (bF = n) ∧ (n ≤ l.length) ∧ (∀ i, n ≤ i → Nt.co l i = 0) ∧ (S' = St.of 37 [(0, .v (x.v)), (3, zI n)] []) ∧ (Ext u u')) (fun m S u1 u2 e h => by obtain ⟨n, hm, p0, p1, hS, hE⟩ := h; exact ⟨n, hm, p0, p1, hS, hE.trans e⟩) _ yz ⟨x.n, rfl, by omega, fun i hi => Nt.co_ge xq, rfl, (Ext.refl _)⟩ ?_))))))))))
 rintro bF _ bO ⟨n, cF, hn, hz, rfl, aa⟩
 refine zzd (sq9 (zza 9 (zI n) (zza 10 (zB (decide ((0 : Int) < (n : Int)))) ?_)))
 rcases Bool.eq_false_or_eq_true (decide ((0 : Int) < (n : Int))) with hs12 | hs12
 ·refine qbi 11 hs12 ?_
  have qhs12 := qyt hs12
  refine zza 12 (.v (x.v)) ?_ (hw := w1 2 true 11)
  refine zza 13 (zI n) ?_ (hw := w1 2 true 11)
  refine qwi 14 ((n : Int) - 1) (n - 1 : Nat) xz ?_ (hw := w1 2 true 11)
  have hl13 := (hx.ext aa).len
  obtain ⟨ct, b13, bW, aQ, a6, aL⟩ := pol_at (hx.ext aa) (i := n - 1) xq
  refine zya 15 (bW + (n - 1) * 3) (n := x.n) (off := bW) (sz := 3) (i := ((n - 1 : Nat) : Int)) xq aQ xq xq sl27 ?_ (hw := w1 2 true 11)
  refine zym 16 ct.cs a6 ty32 ?_ (hw := w1 2 true 11)
  refine zzg 17 32 _ (fun _ _ ac b0 => qym (k_rqSign b0 (aL.ext ac) xq) ?_) (hw := w1 2 true 11)
  rintro _ bE ag rfl
  refine zza 18 (zB ((Nt.sgQ (l.getD (n - 1) 0)) == 0)) ?_ (hw := w1 2 true 11)
  refine zza 19 (zB ((Nt.sgQ (l.getD (n - 1) 0)) == 0)) (zzb (zzu (b := (Nt.sgQ (l.getD (n - 1) 0)) == 0) xj (fun ae => ?_) (fun ae => ?_)))
  ·refine zzs (zzp ?_)
   refine zzt (zzf (zza 20 (zI n) (qwi 21 ((n : Int) - 1) (n - 1 : Nat) xz (zza 3 (zI (n - 1 : Nat)) (zzx ?_)))))
   refine ⟨_, ?_, _, by exact zzv _ _ _, n - 1, rfl, by omega, (fun i hi => by by_cases e : i = n - 1; (rw [e]; have h9 := ae; rw [Nt.sgQ_eq] at h9; exact qyt h9); exact hz i xq), rfl, (aa.t (ac.t ag.ext))⟩
   omega
  refine zyc (zzp (zzd ?_))
  have he9 := Nt.trim_len_of (l := l) hn hz (fun _ h => by have h9 := ae; rw [Nt.sgQ_eq] at h9; exact qyf h9 h)
  clear hz
  refine zzf (zza 4 (.v (qyn)) (zzb (zzd (sq9 (zza 22 (.v (x.v)) (zza 23 (zI n) ?_))))))
  have hl19 := (hx.ext (aa.t (ac.t ag.ext))).len
  have hc19 := (hx.ext (aa.t (ac.t ag.ext))).cap
  refine sy_front 24 (n := x.n) (c := x.c) n sl27 rfl xq ?_
  refine zza 25 (zI n) (zza 26 (zI 0) (zzb (zzt (zyn (I := fun aW S' u' => (aW = n ∧ S' = St.of 37 [(4, .v (qyn)), (24, .v (.slice x.a n x.c)), (25, zI n), (26, zI 0)] [] ∧ Ext bE u') ∨ (∃ (i : Nat) (L : List RL) (cs : List Value) (cp : Nat), aW = n - i ∧ i ≤ n ∧ 0 < i ∧ L.length = i ∧ cs.length = cp * 3 ∧ i ≤ cp ∧ cp ≤ maxLen ∧ cs.take (i * 3) = rcs L ∧ S' = St.of 37 [(4, .slc 34 0 i cp), (24, .v (.slice x.a n x.c)), (25, zI n), (26, zI i)] [(34, ⟨32, cs⟩)] ∧ Ext bE u' ∧ RatsN u' L ((Nt.trimQ l).take i) K)) (fun m S u1 u2 e h => by rcases h with ⟨a, b, c⟩ | ⟨a1, a2, a3, a4, b1, b2, b3, b4, b5, b6, b7, b8, b9, b10, b11⟩; exact .inl ⟨a, b, c.trans e⟩; exact .inr ⟨a1, a2, a3, a4, b1, b2, b3, b4, b5, b6, b7, b8, b9, b10.trans e, b11.ext e⟩) _ yz (.inl ⟨rfl, rfl, Ext.refl _⟩) ?_))))
  rintro aW _ cv (⟨a5, rfl, ak⟩ | ⟨i, L, cs, cp, a5, hi, hp, hL, hc, hle, hmx, ht, rfl, ak, hR⟩)
  ·change SW _ _ _ _ (St.of 37 [(4, .v (qyn)), (24, .v (.slice x.a n x.c)), (25, .v (.int .i64 (n : Int))), (26, .v (.int .i64 0))] []) _ _
   refine sq9 (zza 27 (zB (decide ((0 : Int) < (n : Int)))) (zzb (zzd (zzu (b := decide ((0 : Int) < (n : Int))) xj (fun af => ?_) (fun af => ?_)))))
   ·have qhb21 := qyt af
    refine zzs (zzp ?_)
    refine zzd (zzt (sq9 ?_))
    have hl22 := ((pol_take (n := n) (hx.ext (aa.t (ac.t ag.ext))) xq).ext ak).len
    change n = _ at hl22
    obtain ⟨aH, b22, bL, aT, aJ, aP⟩ := pol_at ((pol_take (n := n) (hx.ext (aa.t (ac.t ag.ext))) xq).ext ak) (i := 0) xq
    refine zya 28 (bL + 0 * 3) (n := n) (off := bL) (sz := 3) (i := 0) xq aT xq xq sl27 (zym 29 aH.cs aJ ty32 (zzk 6 ⟨32, zw3⟩ (zzj ⟨32, aH.cs⟩ ty32 ?_)))
    refine zzb (zzf (zza 30 (.v (qyn)) (zzi 31 (.v (aH.v)) ty32 zze (zzg 32 80 _ fun _ _ bS cn => qym (k_rqTrim cn (aP.ext bS) xq) ?_))))
    rintro _ u26 ca ⟨aq, rfl, bX⟩
    refine zxx 33 ⟨32, aq.cs⟩ 1 (fun bH ci aK bG => ?_)
    have cm : PolN ci (⟨some ⟨bH, 0, none⟩, 1, 1⟩ : Sl) [((l.take n).getD 0 0)] K := pol_lit (L := [aq]) bG (rats1 (bX.ext aK)) rfl yv
    refine sy_app0 34 (T := 27) (E := 32) (z := .agg #[.bool false, qyn, qyn]) (size := 3) (bytes := 56) (b := bH) (off := 0) (m := 1) aq.cs xj xj xj yv rfl (lit_news ((Ext.refl _).cells bG)) (rl_one aq) yv yv yv ?_
    intro bD aZ cy a7 bi br
    refine zza 4 (.slc 34 0 1 bD) (zzx ?_)
    refine zzp (zzf (zza 35 (zI 1) (zza 26 (zI 1) (zzx ?_))))
    have bg : 0 < (Nt.trimQ l).length := by skip; omega
    refine ⟨_, ?_, _, by exact zzv _ _ _, .inr ⟨1, [aq], aZ, bD, rfl, by omega, by omega, by simp, bi, by omega, a7, br, rfl, (ak.t (bS.t (ca.t aK))), (app_first (RatN.more (K := K) (bX.ext aK) xq) bg (by rw [qyg, List.getElem?_take_of_lt xq, ← qyg]; exact (Nt.trim_co l 0).symm))⟩⟩
    omega
   have qhb21 := qyf af
   refine zyc (zzp (zzd ?_))
   have bd : PolN cv ⟨none, 0, 0⟩ (Nt.trimQ l) K := by have h9 : Nt.trimQ l = [] := List.eq_nil_of_length_eq_zero (by skip; omega); rw [h9]; exact pol_nil _ _
   refine zzf (zza 36 (.v (qyn)) (zza 2 (.v (qyn)) (zzb (zzo (ret0 [qyn] ⟨zzq, trivial⟩ fun u37 ch => ?_)))))
   refine ⟨⟨none, 0, 0⟩, rfl, ?_⟩
   exact (bd.ext ch)
  change SW _ _ _ _ (St.of 37 [(4, .slc 34 0 i cp), (24, .v (.slice x.a n x.c)), (25, .v (.int .i64 (n : Int))), (26, .v (.int .i64 (i : Int)))] [(34, ⟨32, cs⟩)]) _ _
  refine sq9 (zza 27 (zB (decide ((i : Int) < (n : Int)))) (zzb (zzd (zzu (b := decide ((i : Int) < (n : Int))) xj (fun ah => ?_) (fun ah => ?_)))))
  ·have qhb39 := qyt ah
   refine zzs (zzp ?_)
   refine zzd (zzt (sq9 ?_))
   have hl40 := ((pol_take (n := n) (hx.ext (aa.t (ac.t ag.ext))) xq).ext ak).len
   change n = _ at hl40
   obtain ⟨aC, b40, bU, bh, ba, aD⟩ := pol_at ((pol_take (n := n) (hx.ext (aa.t (ac.t ag.ext))) xq).ext ak) (i := i) xq
   refine zya 28 (bU + i * 3) (n := n) (off := bU) (sz := 3) (i := (i : Int)) xq bh xq xq sl27 (zym 29 aC.cs ba ty32 (zzk 6 ⟨32, zw3⟩ (zzj ⟨32, aC.cs⟩ ty32 ?_)))
   refine zzb (zzf (zza 30 (.slc 34 0 i cp) (zzi 31 (.v (aC.v)) ty32 zze (zzg 32 80 _ fun _ _ bb cq => qym (k_rqTrim cq (aD.ext bb) xq) ?_))))
   rintro _ u44 bu ⟨am, rfl, bw⟩
   refine zxx 33 ⟨32, am.cs⟩ 1 (fun bv cb ay bB => ?_)
   have cw : PolN cb (⟨some ⟨bv, 0, none⟩, 1, 1⟩ : Sl) [((l.take n).getD i 0)] K := pol_lit (L := [am]) bB (rats1 (bw.ext ay)) rfl yv
   refine sy_app1 34 (T := 27) (E := 32) (z := .agg #[.bool false, qyn, qyn]) (size := 3) (bytes := 56) (b := bv) (off := 0) (m := 1) (n := i) (cap := cp) (t := 34) (cs0 := cs) [4, 30, 34] am.cs xj xj xj yv rfl (lit_news ((Ext.refl _).cells bB)) (rl_one am) yv yk xq xq xq xq xw ?_
   intro bK ax ce bl a0 aB
   have au : ax.take ((i + 1) * 3) = rcs (L ++ [am]) := by rw [aB, ht, rcs_app]; rfl
   refine zza 4 (.slc 34 0 (i + 1) bK) (zzx ?_)
   refine zzp (zzf (qwi 35 ((i : Int) + 1) (i + 1 : Nat) xz (zza 26 (zI (i + 1 : Nat)) (zzx ?_))))
   have bk : i < (Nt.trimQ l).length := by skip; omega
   refine ⟨_, ?_, _, by exact zzv _ _ _, .inr ⟨i + 1, L ++ [am], ax, bK, rfl, by omega, by omega, by simp; omega, a0, by omega, bl, au, rfl, (ak.t (bb.t (bu.t ay))), (app_next (hR.ext (bb.t (bu.t ay))) (RatN.more (K := K) (bw.ext ay) xq) bk (by rw [qyg, List.getElem?_take_of_lt xq, ← qyg]; exact (Nt.trim_co l i).symm))⟩⟩
   omega
  have qhb39 := qyf ah
  refine zyc (zzp (zzd (zyp (r := 4) (t := 34) [4, 34] xw xj (by rfl) (by rfl) xj (fun ap cE cA bY bq => ?_))))
  have bp : PolN cE ⟨some ⟨ap, 0, none⟩, i, cp⟩ (Nt.trimQ l) K := by have h8 := pol_data bq ht hc hle hmx (hR.ext cA); rw [List.take_of_length_le (l := Nt.trimQ l) (by skip; omega)] at h8; exact h8
  refine zzf (zza 36 (.v (.slice (some ⟨ap, 0, none⟩) i cp)) (zza 2 (.v (.slice (some ⟨ap, 0, none⟩) i cp)) (zzb (zzo (ret0 [.slice (some ⟨ap, 0, none⟩) i cp] ⟨zzq, trivial⟩ fun u60 cj => ?_)))))
  refine ⟨(⟨some ⟨ap, 0, none⟩, i, cp⟩ : Sl), rfl, ?_⟩
  exact (bp.ext cj)
 refine qbi 11 hs12 ?_
 have qhs12 := qyf hs12
 refine zzn 12 (uw 2 true false 11) (zzn 13 (uw 2 true false 11) (zzn 14 (uw 2 true false 11) (zzn 15 (uw 2 true false 11) (zzn 16 (uw 2 true false 11) (zzn 17 (uw 2 true false 11) (zzn 18 (uw 2 true false 11) (zza 19 (zB false) (zzb (zys xj (zyc (zzp ?_)))))))))))
 refine zzd ?_
 have he9 := Nt.trim_len_of (l := l) hn hz (fun h => absurd h xq)
 clear hz
 refine zzf (zza 4 (.v (qyn)) (zzb (zzd (sq9 (zza 22 (.v (x.v)) (zza 23 (zI n) ?_))))))
 have hl62 := (hx.ext aa).len
 have hc62 := (hx.ext aa).cap
 refine sy_front 24 (n := x.n) (c := x.c) n sl27 rfl xq ?_
 refine zza 25 (zI n) (zza 26 (zI 0) (zzb (zzt (zyn (I := fun aR S' u' => (aR = n ∧ S' = St.of 37 [(4, .v (qyn)), (24, .v (.slice x.a n x.c)), (25, zI n), (26, zI 0)] [] ∧ Ext bO u') ∨ (∃ (i : Nat) (L : List RL) (cs : List Value) (cp : Nat), aR = n - i ∧ i ≤ n ∧ 0 < i ∧ L.length = i ∧ cs.length = cp * 3 ∧ i ≤ cp ∧ cp ≤ maxLen ∧ cs.take (i * 3) = rcs L ∧ S' = St.of 37 [(4, .slc 34 0 i cp), (24, .v (.slice x.a n x.c)), (25, zI n), (26, zI i)] [(34, ⟨32, cs⟩)] ∧ Ext bO u' ∧ RatsN u' L ((Nt.trimQ l).take i) K)) (fun m S u1 u2 e h => by rcases h with ⟨a, b, c⟩ | ⟨a1, a2, a3, a4, b1, b2, b3, b4, b5, b6, b7, b8, b9, b10, b11⟩; exact .inl ⟨a, b, c.trans e⟩; exact .inr ⟨a1, a2, a3, a4, b1, b2, b3, b4, b5, b6, b7, b8, b9, b10.trans e, b11.ext e⟩) _ yz (.inl ⟨rfl, rfl, Ext.refl _⟩) ?_))))
 rintro aR _ cu (⟨aE, rfl, ai⟩ | ⟨i, L, cs, cp, aE, hi, hp, hL, hc, hle, hmx, ht, rfl, ai, hR⟩)
 ·change SW _ _ _ _ (St.of 37 [(4, .v (qyn)), (24, .v (.slice x.a n x.c)), (25, .v (.int .i64 (n : Int))), (26, .v (.int .i64 0))] []) _ _
  refine sq9 (zza 27 (zB (decide ((0 : Int) < (n : Int)))) (zzb (zzd (zzu (b := decide ((0 : Int) < (n : Int))) xj (fun ad => ?_) (fun ad => ?_)))))
  ·have qhb64 := qyt ad
   refine zzs (zzp ?_)
   refine zzd (zzt (sq9 ?_))
   have hl65 := ((pol_take (n := n) (hx.ext aa) xq).ext ai).len
   change n = _ at hl65
   obtain ⟨bf, b65, bM, bm, bt, bj⟩ := pol_at ((pol_take (n := n) (hx.ext aa) xq).ext ai) (i := 0) xq
   refine zya 28 (bM + 0 * 3) (n := n) (off := bM) (sz := 3) (i := 0) xq bm xq xq sl27 (zym 29 bf.cs bt ty32 (zzk 6 ⟨32, zw3⟩ (zzj ⟨32, bf.cs⟩ ty32 ?_)))
   refine zzb (zzf (zza 30 (.v (qyn)) (zzi 31 (.v (bf.v)) ty32 zze (zzg 32 80 _ fun _ _ bx cB => qym (k_rqTrim cB (bj.ext bx) xq) ?_))))
   rintro _ u69 cx ⟨aw, rfl, bC⟩
   refine zxx 33 ⟨32, aw.cs⟩ 1 (fun bQ ck aF bJ => ?_)
   have cC : PolN ck (⟨some ⟨bQ, 0, none⟩, 1, 1⟩ : Sl) [((l.take n).getD 0 0)] K := pol_lit (L := [aw]) bJ (rats1 (bC.ext aF)) rfl yv
   refine sy_app0 34 (T := 27) (E := 32) (z := .agg #[.bool false, qyn, qyn]) (size := 3) (bytes := 56) (b := bQ) (off := 0) (m := 1) aw.cs xj xj xj yv rfl (lit_news ((Ext.refl _).cells bJ)) (rl_one aw) yv yv yv ?_
   intro bP a9 cf aU aI aG
   refine zza 4 (.slc 34 0 1 bP) (zzx ?_)
   refine zzp (zzf (zza 35 (zI 1) (zza 26 (zI 1) (zzx ?_))))
   have aV : 0 < (Nt.trimQ l).length := by skip; omega
   refine ⟨_, ?_, _, by exact zzv _ _ _, .inr ⟨1, [aw], a9, bP, rfl, by omega, by omega, by simp, aI, by omega, aU, aG, rfl, (ai.t (bx.t (cx.t aF))), (app_first (RatN.more (K := K) (bC.ext aF) xq) aV (by rw [qyg, List.getElem?_take_of_lt xq, ← qyg]; exact (Nt.trim_co l 0).symm))⟩⟩
   omega
  have qhb64 := qyf ad
  refine zyc (zzp (zzd ?_))
  have be : PolN cu ⟨none, 0, 0⟩ (Nt.trimQ l) K := by have h9 : Nt.trimQ l = [] := List.eq_nil_of_length_eq_zero (by skip; omega); rw [h9]; exact pol_nil _ _
  refine zzf (zza 36 (.v (qyn)) (zza 2 (.v (qyn)) (zzb (zzo (ret0 [qyn] ⟨zzq, trivial⟩ fun u80 cg => ?_)))))
  refine ⟨⟨none, 0, 0⟩, rfl, ?_⟩
  exact (be.ext cg)
 change SW _ _ _ _ (St.of 37 [(4, .slc 34 0 i cp), (24, .v (.slice x.a n x.c)), (25, .v (.int .i64 (n : Int))), (26, .v (.int .i64 (i : Int)))] [(34, ⟨32, cs⟩)]) _ _
 refine sq9 (zza 27 (zB (decide ((i : Int) < (n : Int)))) (zzb (zzd (zzu (b := decide ((i : Int) < (n : Int))) xj (fun aj => ?_) (fun aj => ?_)))))
 ·have qhb82 := qyt aj
  refine zzs (zzp ?_)
  refine zzd (zzt (sq9 ?_))
  have hl83 := ((pol_take (n := n) (hx.ext aa) xq).ext ai).len
  change n = _ at hl83
  obtain ⟨aX, b83, bN, aN, aO, aM⟩ := pol_at ((pol_take (n := n) (hx.ext aa) xq).ext ai) (i := i) xq
  refine zya 28 (bN + i * 3) (n := n) (off := bN) (sz := 3) (i := (i : Int)) xq aN xq xq sl27 (zym 29 aX.cs aO ty32 (zzk 6 ⟨32, zw3⟩ (zzj ⟨32, aX.cs⟩ ty32 ?_)))
  refine zzb (zzf (zza 30 (.slc 34 0 i cp) (zzi 31 (.v (aX.v)) ty32 zze (zzg 32 80 _ fun _ _ aA cr => qym (k_rqTrim cr (aM.ext aA) xq) ?_))))
  rintro _ u87 bR ⟨al, rfl, bA⟩
  refine zxx 33 ⟨32, al.cs⟩ 1 (fun bz cz az bI => ?_)
  have cc : PolN cz (⟨some ⟨bz, 0, none⟩, 1, 1⟩ : Sl) [((l.take n).getD i 0)] K := pol_lit (L := [al]) bI (rats1 (bA.ext az)) rfl yv
  refine sy_app1 34 (T := 27) (E := 32) (z := .agg #[.bool false, qyn, qyn]) (size := 3) (bytes := 56) (b := bz) (off := 0) (m := 1) (n := i) (cap := cp) (t := 34) (cs0 := cs) [4, 30, 34] al.cs xj xj xj yv rfl (lit_news ((Ext.refl _).cells bI)) (rl_one al) yv yk xq xq xq xq xw ?_
  intro bT ar cl bs a8 bn
  have av : ar.take ((i + 1) * 3) = rcs (L ++ [al]) := by rw [bn, ht, rcs_app]; rfl
  refine zza 4 (.slc 34 0 (i + 1) bT) (zzx ?_)
  refine zzp (zzf (qwi 35 ((i : Int) + 1) (i + 1 : Nat) xz (zza 26 (zI (i + 1 : Nat)) (zzx ?_))))
  have bc : i < (Nt.trimQ l).length := by skip; omega
  refine ⟨_, ?_, _, by exact zzv _ _ _, .inr ⟨i + 1, L ++ [al], ar, bT, rfl, by omega, by omega, by simp; omega, a8, by omega, bs, av, rfl, (ai.t (aA.t (bR.t az))), (app_next (hR.ext (aA.t (bR.t az))) (RatN.more (K := K) (bA.ext az) xq) bc (by rw [qyg, List.getElem?_take_of_lt xq, ← qyg]; exact (Nt.trim_co l i).symm))⟩⟩
  omega
 have qhb82 := qyf aj
 refine zyc (zzp (zzd (zyp (r := 4) (t := 34) [4, 34] xw xj (by rfl) (by rfl) xj (fun ao cD bo bV an => ?_))))
 have aS : PolN cD ⟨some ⟨ao, 0, none⟩, i, cp⟩ (Nt.trimQ l) K := by have h8 := pol_data an ht hc hle hmx (hR.ext bo); rw [List.take_of_length_le (l := Nt.trimQ l) (by skip; omega)] at h8; exact h8
 refine zzf (zza 36 (.v (.slice (some ⟨ao, 0, none⟩) i cp)) (zza 2 (.v (.slice (some ⟨ao, 0, none⟩) i cp)) (zzb (zzo (ret0 [.slice (some ⟨ao, 0, none⟩) i cp] ⟨zzq, trivial⟩ fun cd aY => ?_)))))
 refine ⟨(⟨some ⟨ao, 0, none⟩, i, cp⟩ : Sl), rfl, ?_⟩
 exact (aS.ext aY)
theorem k_poDegree {u w : World} {x : Sl} {l : List Rat} {K : Nat} (d : Dat u w) (hx : PolV u x l K) (hK : K ≤ 100000000) (hx9 : l.length ≤ 1000000000) : qyc 76 #[x.v] w (Post u w fun v u' => v = .int .i64 (((Nt.trimQ l).length : Int) - 1)) := by
 have hlen := hx.len
 have htl := zzh l
 refine zzm Tryz.func76 rfl Tryz.ntmps76 Tryz.results76 d ?_
 refine sq9 (zza 2 (zI 0) (zzb (sq9 (zza 3 (.v (x.v)) (zzg 4 151 _ fun _ _ ac aa => qym (k_cut aa (hx.ext ac) xq xk) ?_)))))
 rintro _ u12 g13 rfl
 refine zza 5 (zI (((Nt.trimQ l).length : Nat) : Int)) (zyq 6 (x := zI (IntKind.i64.wrap (((Nt.trimQ l).length : Int) - 1))) (zI (((Nt.trimQ l).length : Int) - 1)) zk (zza 2 (zI (((Nt.trimQ l).length : Int) - 1)) (zzb (zzo (ret0 [.int .i64 (((Nt.trimQ l).length : Int) - 1)] ⟨zzq, trivial⟩ fun u15 e16 => ?_)))))
 rfl
theorem k_sameList {u w : World} {x : Sl} {l : List Rat} {y : Sl} {m : List Rat} {K M : Nat} (d : Dat u w) (hx : PolN u x l K) (hy : PolN u y m M) (hx9 : l.length ≤ 1000000000) (hy9 : m.length ≤ 1000000000) : qyc 73 #[x.v, y.v] w (Post u w fun v u' => v = .bool (decide (l = m))) := by
 have hlen := hx.len
 have hlen2 := hy.len
 refine zzm Tryz.func73 rfl Tryz.ntmps73 Tryz.results73 d ?_
 refine sq9 (zza 4 (zB false) (zzb (zzd (sq9 (zza 6 (.v (x.v)) (zza 7 (zI x.n) (zza 8 (.v (y.v)) (zza 9 (zI y.n) (zza 10 (zB ((x.n : Int) != (y.n : Int))) (zzb (zzu (b := (x.n : Int) != (y.n : Int)) xj (fun ac => ?_) (fun ac => ?_))))))))))))
 ·refine sq9 (zza 4 (zB false) (zzb (zzo (zzw (ret0 [.bool false] ⟨zzq, trivial⟩ fun u12 e13 => ?_)))))
  have e9 : l ≠ m := by intro e; have h9 := congrArg List.length e; have h8 := ac; simp at h8; omega
  show Value.bool false = Value.bool _
  rw [decide_eq_false e9]
 have hnn : x.n = y.n := by have h9 : (x.n : Int) = (y.n : Int) := (by simpa using ac); omega
 refine zzs (zzp ?_)
 refine zzd (sq9 (zza 5 (zI 0) (zzb (zzt (zyn (I := fun am S' u' => ∃ (i : Nat), (am = x.n - i) ∧ (i ≤ x.n) ∧ (∀ j, j < i → l.getD j 0 = m.getD j 0) ∧ (S' = St.of 27 [(0, .v (x.v)), (1, .v (y.v)), (5, zI i)] []) ∧ (Ext u u')) (fun m S u1 u2 e h => by obtain ⟨i, hm, p0, p1, hS, hE⟩ := h; exact ⟨i, hm, p0, p1, hS, hE.trans e⟩) _ yz ⟨0, rfl, by omega, fun j hj => by omega, rfl, (Ext.refl _)⟩ ?_)))))
 rintro am _ u14 ⟨i, au, hi, hz, rfl, ae⟩
 refine zzd (sq9 (zza 11 (zI i) (zza 12 (.v (x.v)) (zza 13 (zI x.n) (zza 14 (zB (decide ((i : Int) < (x.n : Int)))) (zzb (zzu (b := decide ((i : Int) < (x.n : Int))) xj (fun aa => ?_) (fun aa => ?_))))))))
 ·have qhb15 := qyt aa
  refine zzs (zzp ?_)
  refine zzd (zzt (zzd (zzz [0, 0, 3, 7, 0, 0, 48, 112, 255, 511] [(0, []), (1, []), (2, []), (3, []), (4, []), (5, []), (6, []), (7, []), (8, []), (9, [])] xj xj (zza 17 (.v (x.v)) (zza 18 (zI i) ?_)))))
  have hl16 := (hx.ext ae).len
  obtain ⟨av, b16, an, al, ak, ai⟩ := pol_atN (hx.ext ae) (i := i) xq
  refine zya 19 (an + i * 3) (n := x.n) (off := an) (sz := 3) (i := (i : Int)) xq al xq xq sl26 (zym 20 av.cs ak ty32 (zza 21 (.v (y.v)) (zza 22 (zI i) ?_)))
  have hl17 := (hy.ext ae).len
  obtain ⟨aq, b17, ao, ah, ag, aj⟩ := pol_atN (hy.ext ae) (i := i) xq
  refine zya 23 (ao + i * 3) (n := y.n) (off := ao) (sz := 3) (i := (i : Int)) xq ah xq xq sl26 (zym 24 aq.cs ag ty32 (zzg 25 16 _ fun _ _ af ar => qym (k_rqSame ar (ai.ext af) (aj.ext af)) ?_))
  rintro _ u19 ap rfl
  refine zza 26 (zB (!(decide ((l.getD i 0) = (m.getD i 0))))) (zzb (zzu (b := !(decide ((l.getD i 0) = (m.getD i 0)))) xj (fun ad => ?_) (fun ad => ?_)))
  ·refine sq9 (zza 4 (zB false) (zzb (zzo (zyu (zzw (zyt (zyu (zzw (ret0 [.bool false] ⟨zzq, trivial⟩ fun u23 e24 => ?_)))))))))
   have e9 : l ≠ m := by intro e; have h9 := ad; rw [e] at h9; simp at h9
   show Value.bool false = Value.bool _
   rw [decide_eq_false e9]
  refine zzs (zzp ?_)
  refine zzf (zza 15 (zI i) (qwi 16 ((i : Int) + 1) (i + 1 : Nat) xz (zza 5 (zI (i + 1 : Nat)) (zzx ?_))))
  refine ⟨_, ?_, _, by exact zzv _ _ _, i + 1, rfl, by omega, (fun j hj => by by_cases e : j = i; (rw [e]; have h9 := ad; simpa using h9); exact hz j xq), rfl, (ae.t (af.t ap.ext))⟩
  omega
 have qhb15 := qyf aa
 refine zyc (zzp (sq9 (zza 4 (zB true) (zzb (zzo (ret0 [.bool true] ⟨zzq, trivial⟩ fun u25 e26 => ?_))))))
 have e9 : l = m := Nt.list_ext xq (fun j => by by_cases hj : j < i; exact hz j hj; rw [Nt.co_ge xq, Nt.co_ge xq])
 show Value.bool true = Value.bool _
 rw [decide_eq_true e9]
theorem k_r5Equal {u w : World} {x : Sl} {l : List Rat} {y : Sl} {m : List Rat} {K M : Nat} (d : Dat u w) (hx : PolN u x l K) (hy : PolN u y m M) (hx9 : l.length ≤ 1000000000) (hy9 : m.length ≤ 1000000000) : qyc 15 #[x.v, y.v] w (Post u w fun v u' => v = .bool (decide (l = m))) := by
 have hlen := hx.len
 have hlen2 := hy.len
 refine zzm Tryz.func15 rfl Tryz.ntmps15 Tryz.results15 d ?_
 refine sq9 (zza 4 (zB false) (zzb (sq9 (zza 5 (.v (x.v)) (zza 6 (.v (y.v)) (zzg 7 73 _ fun _ _ aa ac => qym (k_sameList ac (hx.ext aa) (hy.ext aa) xk xk) ?_))))))
 rintro _ u12 g13 rfl
 refine zza 4 (zB (decide (l = m))) (zzb (zzo (ret0 [.bool (decide (l = m))] ⟨zzq, trivial⟩ fun u15 e16 => ?_)))
 rfl
namespace Nt
section
variable {l m : List Rat} {D E A B n : Nat}
theorem len_of_co {a : Nat} (h : ∀ i, a ≤ i → Nt.co l i = 0) : (trimQ l).length ≤ a := Pol.len_le (p := Pol.mk' l) fun i hi => by rw [Pol.mk_c]; exact h i hi
theorem zxt {a b : Nat} (h1 : l.length ≤ a) (h2 : m.length ≤ b) : (trimQ (mulQ l m)).length ≤ a + b - 1 := len_of_co fun i hi => mulQ_far xq
end
end Nt
namespace Nt
def mkR (n : Int) : Rat := (((n % 25 - 12 : Int)) : Rat) / (((1 + n.tdiv 25 % 8 : Int)) : Rat)
theorem frac_mul {a b c : Int} (hb : b ≠ 0) : (a : Rat) / (b : Rat) * ((b * c : Int) : Rat) = ((a * c : Int) : Rat) := by
 rw [Rat.intCast_mul, Rat.intCast_mul]
 have : (b : Rat) ≠ 0 := fun e => hb (Rat.intCast_inj.1 (show (b : Rat) = ((0 : Int) : Rat) from e))
 grind
theorem mkR_wh (n : Int) : Wh (mkR n * (((840 : Nat) : Int) : Rat)) 14 := by
 have h1 := Int.emod_nonneg n (show (25 : Int) ≠ 0 by decide)
 have h2 := Int.emod_lt_of_pos n (show (0 : Int) < 25 by decide)
 have h3 := Int.emod_nonneg (n.tdiv 25) (show (8 : Int) ≠ 0 by decide)
 have h4 := Int.emod_lt_of_pos (n.tdiv 25) (show (0 : Int) < 8 by decide)
 unfold mkR
 obtain ⟨a, ha⟩ : ∃ a, n % 25 - 12 = a := ⟨_, rfl⟩
 obtain ⟨b, hb⟩ : ∃ b, 1 + n.tdiv 25 % 8 = b := ⟨_, rfl⟩
 rw [ha, hb]
 obtain ⟨c, hc, hc1, hc2⟩ : ∃ c : Int, ((840 : Nat) : Int) = b * c ∧ 0 ≤ c ∧ c ≤ 840 := by
  rcases (by omega : b = 1 ∨ b = 2 ∨ b = 3 ∨ b = 4 ∨ b = 5 ∨ b = 6 ∨ b = 7 ∨ b = 8) with rfl | rfl | rfl | rfl | rfl | rfl | rfl | rfl
  ·exact ⟨840, by decide, by decide, by decide⟩
  ·exact ⟨420, by decide, by decide, by decide⟩
  ·exact ⟨280, by decide, by decide, by decide⟩
  ·exact ⟨210, by decide, by decide, by decide⟩
  ·exact ⟨168, by decide, by decide, by decide⟩
  ·exact ⟨140, by decide, by decide, by decide⟩
  ·exact ⟨120, by decide, by decide, by decide⟩
  exact ⟨105, by decide, by decide, by decide⟩
 refine ⟨a * c, ?_, ?_⟩
 ·rw [hc]; exact frac_mul xq
 rw [Int.natAbs_mul]
 exact Nat.le_trans (Nat.mul_le_mul (show a.natAbs ≤ 12 by omega) (show c.natAbs ≤ 840 by omega)) yv
theorem mkR_rs (n : Int) : rs (mkR n) ≤ 1 := wh_rs (A := 14) xq (mkR_wh n) yv
end Nt
section
variable {P : Program} {ops : Array Oper} {w0 : Base} {u0 : World} {S : St} {u u' w : World} {o : Oper} {p : List Tmp} {seq : Bool} {rest : List (Oper × List Tmp)} {K : St → World → Prop}
theorem unwantedU {g : Nat} {b : Bool} {t : Tmp} (h : o.guard = some (g, b)) (ht : (ops[g]?).bind (·.dst) = some t) (hS : S.reg t = some (.v undef)) : ∀ B a, RegOK S B a → Want ops o a false := fun B a hr => by
 have := hr.reg t _ hS
 simp [Want, Region.wanted, h, yielded, ht, this, SV.conc, undef]
end
section
variable {u u' : World} {A : Option Addr} {n c i : Nat} {l : List Int} {k : IntKind}
theorem ints_at (h : SlR k u A n c l) (hi : i < n) : ∃ b o, A = some ⟨b, o, none⟩ ∧ u.cell? ⟨b, o + i * 1, none⟩ = some (.int k (l.getD i 0)) := by
 obtain ⟨h1, h2, h3, h4⟩ := h
 obtain ⟨b, o, e, _, hc⟩ := h4 xq
 exact ⟨b, o, e, by rw [Nat.mul_one]; exact hc i hi⟩
theorem ints_bd {lo hi : Int} (h : ∀ z ∈ l, lo ≤ z ∧ z ≤ hi) (h0 : lo ≤ 0 ∧ 0 ≤ hi) (i : Nat) : lo ≤ l.getD i 0 ∧ l.getD i 0 ≤ hi := by
 rw [qyg]
 cases e : l[i]? with
 | none => exact h0
 | some z => exact h z (List.mem_of_getElem? e)
end
theorem tdiv25 {n : Int} (h0 : -9223372036854775808 ≤ n) (h1 : n ≤ 9223372036854775807) : -9223372036854775808 ≤ n.tdiv 25 ∧ n.tdiv 25 ≤ 9223372036854775807 := by
 have h := Int.natAbs_tdiv n 25
 change (n.tdiv 25).natAbs = n.natAbs / 25 at h
 omega
theorem k_mkRat {u w : World} {n : Int} (d : Dat u w) (hn0 : -9223372036854775808 ≤ n) (hn1 : n ≤ 9223372036854775807) : qyc 57 #[.int .i64 n] w (Post u w fun v u' => ∃ r : RL, v = r.v ∧ RatN u' r (Nt.mkR n) 1) := by
 have htd := tdiv25 hn0 hn1
 refine zzm Tryz.func57 rfl Tryz.ntmps57 Tryz.results57 d ?_
 refine sq9 (zzk 2 ⟨32, zw3⟩ (zzb (sq9 (zza 3 (zI n) (zzg 4 12 _ fun _ _ _ ac => qym (k_Mod ac (n := n) (m := 25) xq xq xq xq) ?_)))))
 rintro _ u12 g13 rfl
 refine zyq 5 (x := zI (IntKind.i64.wrap ((n % 25) - 12))) (zI ((n % 25) - 12)) zk (zza 6 (zI n) (sy_quo 7 (n.tdiv 25) yv (IntWalk.i64_in _ xq) ?_))
 refine zzg 8 12 _ fun _ _ _ ag => qym (k_Mod ag (n := Int.tdiv n 25) (m := 8) xq xq xq xq) ?_
 rintro _ u16 g17 rfl
 refine zyq 9 (x := zI (IntKind.i64.wrap ((1 : Int) + ((Int.tdiv n 25) % 8)))) (zI ((1 : Int) + ((Int.tdiv n 25) % 8))) zk (zzg 10 23 _ fun _ _ _ ad => qym (k_rqFrac ad (a := (n % 25) - 12) (b := (1 : Int) + ((Int.tdiv n 25) % 8)) xq xq xq xq) ?_)
 rintro _ u22 g23 ⟨aa, rfl, af⟩
 refine zzj ⟨32, aa.cs⟩ ty32 ?_
 refine zzb (zzo (ret0 [aa.v] ⟨zzr ty32 zze, trivial⟩ fun u25 ae => ?_))
 refine ⟨aa, rfl, RatN.fit (K := 3) ?_ (Nt.mkR_rs n)⟩
 exact (af.ext ae)
section
variable {P : Program} {u0 u u' w w' : World} {S : St} {B : Tmp → Nat} {a : Act} {c : Code} {w0 : Base}
def St.lentPI (n : Nat) (ty : TypeId) (cs : List Value) (args : List Value) : St := ⟨n, fun t => match t with | 0 => some (.adr n 0) | t + 1 => (args[t]?).map SV.v, upd (fun _ => none) n (some ⟨ty, cs⟩)⟩
def MP.lentP (P : Program) (ρ : ResultVar) (n : Nat) (Φ : Value → Vr → World → Prop) : MP where
 f e S u := match e with | .normal => ∃ V v, S.n = n ∧ S.var n = some V ∧ resAll P S [ρ] [.v v] ∧ ∀ u1, Ext u u1 → Φ v V u1 | .ret => ∃ V v, S.n = n ∧ S.var n = some V ∧ resAll P S [ρ] [.v v] ∧ ∀ u1, Ext u u1 → Φ v V u1 | _ => False
 mono e := by cases e <;> first | exact fun S u u' he ⟨V, m, h0, h1, h2, h3⟩ => ⟨V, m, h0, h1, h2, fun u1 e1 => h3 u1 (he.trans e1)⟩ | exact fun S u u' he h => h
def PostP (u w : World) (g : Nat) (Φ : Value → Vr → World → Prop) (e : Ending) (w' : World) : Prop :=
 ∃ u' V v, e = .returned v ∧ Dat u' w' ∧ Bel ⟨w, some (0, g), []⟩ w' ∧ Grow u u' ∧ w'.heap[g]? = some (.cells V.cs.toArray V.ty (0, 0)) ∧ Φ v V u'
theorem lentP_begin {fn : Func} {args : List Value} {n g : Nat} {ty : TypeId} {cs : List Value} {w : World} (hn : fn.ntmps = n) (hargs : args.length + 1 ≤ n) (d : Dat u0 w)
  (hgw : w.heap[g]? = some (.cells cs.toArray ty (0, 0))) (hgu : u0.heap[g]? = some hidO) {a : Act} (ha : a.tmps = (Value.pointer (some ⟨g, 0, none⟩) :: args).toArray ++ Array.replicate (fn.ntmps - (Value.pointer (some ⟨g, 0, none⟩) :: args).toArray.size) undef) (hdf : a.defers = []) :
  Rep ⟨w, some (n, g), []⟩ u0 (St.lentPI n ty cs args) (fun _ => g) a w u0 := by
 refine ⟨⟨fun t x hx => ?_, by rw [ha]; simp [St.lentPI, hn]; omega⟩, ⟨fun r x t hx ht => ?_⟩, hdf, (fun t V hV => ?_), (fun t t' V V' h1 h2 _ => ?_), d, d.size, GrowF.refl _ _, ⟨rfl, rfl, rfl, Nat.le_refl _, fun _ _ _ _ => rfl⟩⟩
 ·have key : ((Value.pointer (some ⟨g, 0, none⟩) :: args).toArray)[t]? = some (x.conc fun _ => g) := by
   cases t with
   | zero => simp only [St.lentPI] at hx; injection hx with hx; subst hx; rfl
   | succ t =>
    simp only [St.lentPI, Option.map_eq_some_iff] at hx
    obtain ⟨v, h1, rfl⟩ := hx
    simpa [SV.conc] using h1
  have hlt : t < (Value.pointer (some ⟨g, 0, none⟩) :: args).toArray.size := by
   rcases Nat.lt_or_ge t (Value.pointer (some ⟨g, 0, none⟩) :: args).toArray.size with h | h
   ·exact h
   rw [Array.getElem?_eq_none h] at key; cases key
  rw [ha, Array.getElem?_append_left hlt]
  exact key
 ·cases r with
  | zero => simp only [St.lentPI] at hx; injection hx with hx; subst hx; injection ht with ht; subst ht; exact ⟨⟨ty, cs⟩, by simp [St.lentPI, zxc]⟩
  | succ r =>
   simp only [St.lentPI, Option.map_eq_some_iff] at hx
   obtain ⟨v, h1, rfl⟩ := hx
   cases ht
 ·by_cases e : t = n
  ·subst e
   simp only [St.lentPI, zxc] at hV
   injection hV with hV
   subst hV
   exact ⟨hgw, hgu, fun e => absurd e (by simp [St.lentPI]), fun _ => rfl⟩
  simp only [St.lentPI, upd_ne _ _ e] at hV; cases hV
 have key : ∀ t V, (St.lentPI n ty cs args).var t = some V → t = n := fun t V hV => by
  by_cases e : t = n
  ·exact e
  simp only [St.lentPI, upd_ne _ _ e] at hV; cases hV
 rw [key t V h1, key t' V' h2]
theorem calls_lentP {f : FuncId} {fn : Func} {args : List Value} {Φ : Value → Vr → World → Prop} {ρ : ResultVar} {n g : Nat} {ty : TypeId} {cs : List Value} {w : World} (hf : P.funcs[f]? = some fn) (hb : fn.body = some c) (hn : fn.ntmps = n) (hrs : fn.results = #[ρ]) (hargs : args.length + 1 ≤ n) (d : Dat u0 w)
  (hgw : w.heap[g]? = some (.cells cs.toArray ty (0, 0))) (hgu : u0.heap[g]? = some hidO) (h : SW P ⟨w, some (n, g), []⟩ u0 c (St.lentPI n ty cs args) u0 (MP.lentP P ρ n Φ)) :
  Calls P f (Value.pointer (some ⟨g, 0, none⟩) :: args).toArray w (PostP u0 w g Φ) := by
 refine calls_of_wp hf hb (wp_mono (h (fun _ => g) _ w u0 (Ext.refl _) (lentP_begin hn hargs d hgw hgu rfl rfl)) ?_)
 rintro ex a' w' ⟨S', B', u'', r1, r3⟩
 have key : (∃ V v, S'.n = n ∧ S'.var n = some V ∧ resAll P S' [ρ] [.v v] ∧ ∀ u1, Ext u'' u1 → Φ v V u1) → a'.defers = [] ∧ ∃ v, (results fn a'.tmps).run P w' = .ok v w' ∧ PostP u0 w g Φ (.returned v) w' := by
  rintro ⟨V, m, k0, k1, k2, k3⟩
  obtain ⟨g1, g2, g3⟩ := r1.var n V k1
  have hp := lent_pin r1 k0 k1
  refine ⟨r1.defers, _, results_eq (rs := [ρ]) hrs k2 r1 zv, u'', V, m, ?_, r1.dat, lent_bel r1.bel, r1.grow.nil, ?_, k3 _ (Ext.refl _)⟩
  ·simp [tupV, SV.conc]
  rw [← hp]; exact g1
 cases ex with
 | ret => exact key r3
 | normal => exact key r3
 | _ => exact r3.elim
theorem lentP_ret {ρ : ResultVar} {n : Nat} {Φ : Value → Vr → World → Prop} {V : Vr} (v : Value) (hn : S.n = n) (hv : S.var n = some V) (hr : resV P S ρ (.v v)) (k : ∀ u1, Ext u u1 → Φ v V u1) : (MP.lentP P ρ n Φ).f .ret S u := ⟨V, v, hn, hv, ⟨hr, trivial⟩, k⟩
variable {ops : Array Oper} {o : Oper} {p : List Tmp} {rest : List (Oper × List Tmp)} {K : St → World → Prop}
theorem sy_lendP (d : Tmp) (f : FuncId) {t : Tmp} {V : Vr} (args : List Value) {Φ : Value → Vr → World → Prop} (hv : S.var t = some V)
  (kc : ∀ g w u1, Ext u u1 → Dat u1 w → w.heap[g]? = some (.cells V.cs.toArray V.ty (0, 0)) → u1.heap[g]? = some hidO → Calls P f (Value.pointer (some ⟨g, 0, none⟩) :: args).toArray w (PostP u1 w g Φ))
  (k : ∀ v V' u1, Ext u u1 → Φ v V' u1 → sym P ops w0 u0 true rest ((S.setVar t V').set d (.v v)) u1 K)
  (hw : Wants ops o S := by exact zwf xj) (hd : o.dst = some d := by kernel_rfl) (hf : (freeB S d && knownB S o) = true := by kernel_rfl) (hk : opK o.op ≠ 2 := by decide)
  (hrun : ∀ B w, (execOp (rho S B) o).run P w = .ok (.enter f (Value.pointer (some ⟨B t, 0, none⟩) :: args).toArray) w := by intro _ _; kernel_rfl) : sym P ops w0 u0 true ((o, p) :: rest) S u K := by
 simp only [Bool.and_eq_true] at hf
 refine .inr (.inr (.inl ⟨.inl rfl, fun B a w u' he hrep => ⟨hw B a hrep.regs, ?_⟩⟩))
 obtain ⟨v1, v2, v3⟩ := hrep.var t V hv
 unfold Oper.wp
 rw [exec_rho hrep.regs hf.2 hk, hrun B w]
 simp only [Oper.upon]
 refine Calls.mono (kc (B t) w u' he hrep.dat v1 v2) ?_
 rintro e w' ⟨u2, V', v, rfl, k1, k2, k3, k4, k5⟩
 have hr2 := hrep.lentBack hv k1 k2 k3 k4 (d := o.dst) (fun s hs => (zxy hd hf.1 s hs).1) v
 refine ⟨_, B, u2, u2, hr2, fun _ => k3.ext, fun _ => he.trans k3.ext, Ext.refl _, ?_⟩
 have := k v V' u2 (he.t k3.ext) k5
 rw [hd]; exact this
end
section
variable {u u' : World} {L : List RL} {l : List Rat} {q : Rat} {r : RL} {K i b n c : Nat} {x : Sl}
theorem RatsN.fitR {M : Nat} (h : RatsN u L l K) (k : ∀ i, Nt.rs (l.getD i 0) ≤ M) : RatsN u L l M := ⟨h.1, fun i hi => (h.2 i hi).fit (k i)⟩
theorem PolN.fitR {M : Nat} (h : PolN u x l K) (k : ∀ i, Nt.rs (l.getD i 0) ≤ M) : PolN u x l M := by obtain ⟨L, h1, h2⟩ := h; exact ⟨L, h1, h2.fitR k⟩
end
def tpc (x : Sl) (a : Nat) : List Value := [.slice x.a x.n x.c, .int .i64 (a : Int)]
theorem k_tapeNext {u w : World} {g : Nat} {x : Sl} {l : List Int} {a m : Nat} (d : Dat u w) (hg : w.heap[g]? = some (.cells (tpc x a).toArray 108 (0, 0))) (hu : u.heap[g]? = some hidO) (hx : SlR .i64 u x.a x.n x.c l) (hb : ∀ z ∈ l, -9223372036854775808 ≤ z ∧ z ≤ 9223372036854775807) (ha : a ≤ x.n) (hm : 1 ≤ m) (hm9 : m ≤ 1000) : qyc 56 #[.pointer (some ⟨g, 0, none⟩), .int .i64 (m : Int)] w (PostP u w g fun v V u' => ∃ z a' : Nat, v = .int .i64 (z : Int) ∧ z < m ∧ V = ⟨108, tpc x a'⟩ ∧ a' ≤ x.n) := by
 have hlen : l.length = x.n := hx.1
 have hmx : x.n ≤ maxLen := Nat.le_trans hx.2.1 hx.2.2.1
 unfold maxLen at hmx
 refine calls_lentP (args := [.int .i64 (m : Int)]) Tryz.func56 rfl Tryz.ntmps56 Tryz.results56 (le_b rfl) d hg hu ?_
 refine sq9 (zza 4 (zI 0) (zzb (zzd (zzd (zzz [0, 1, 3, 7, 0, 16, 48, 112, 240, 511] [(0, []), (1, []), (2, []), (3, []), (4, []), (5, []), (6, []), (7, []), (8, []), (9, [])] xj xj (zza 5 (.adr 35 0) (zza 6 (.adr 35 0) (zza 7 (.adr 35 1) (zzi 8 (zI a) ty3 zzl (zza 9 (.adr 35 0) (zza 10 (.adr 35 0) ?_)))))))))))
 refine zza 11 (.adr 35 0) (zzi 12 (.v (x.v)) ty22 zzl (zza 13 (zI x.n) (zza 14 (zB (decide ((x.n : Int) ≤ (a : Int)))) (zzb (zzu (b := decide ((x.n : Int) ≤ (a : Int))) xj (fun aa => ?_) (fun aa => ?_))))))
 ·have qhb11 := qyt aa
  refine sq9 (zza 4 (zI 0) (zzb (zzo (zzw (lentP_ret (V := ⟨108, [x.v, .int .i64 a]⟩) (.int .i64 0) rfl rfl zzq (fun _ _ => ⟨0, a, rfl, xq, rfl, ha⟩))))))
 have qhb11 := qyf aa
 refine zzs (zzp ?_)
 refine sq9 (zza 15 (.adr 35 0) (zza 16 (.adr 35 0) (zza 17 (.adr 35 1) (zzi 18 (zI a) ty3 zzl (qwi 19 ((a : Int) + 1) (a + 1 : Nat) xz (zza 20 (.adr 35 0) (zza 21 (.adr 35 1) (zzj ⟨108, [x.v, .int .i64 (a + 1 : Nat)]⟩ ty3 ?_))))))))
 refine zzb (zzd (zzz [0, 1, 3, 7, 0, 16, 48, 112, 240, 511, 1023, 0, 4095, 8191] [(0, []), (1, []), (2, []), (3, []), (4, []), (5, []), (6, []), (7, []), (8, []), (9, []), (10, []), (11, []), (12, []), (13, [])] xj xj (zza 22 (.adr 35 0) (zza 23 (.adr 35 0) (zza 24 (.adr 35 0) (zzi 25 (.v (x.v)) ty22 zzl (zza 26 (.adr 35 0) (zza 27 (.adr 35 0) (zza 28 (.adr 35 1) (zzi 29 (zI (a + 1 : Nat)) ty3 zzl (qwi 30 (((a + 1 : Nat) : Int) - 1) (((a + 1) - 1 : Nat) : Int) xz ?_)))))))))))
 have hl12 := (hx).1
 obtain ⟨b12, ae, ad, ac⟩ := ints_at hx (i := (a + 1) - 1) xq
 have hz12 := ints_bd hb xq ((a + 1) - 1)
 refine zya 31 (ae + ((a + 1) - 1) * 1) (n := x.n) (off := ae) (sz := 1) (i := (((a + 1) - 1 : Nat) : Int)) xq ad xq xq sl22 (zyl 32 (.int .i64 (l.getD ((a + 1) - 1) 0)) ac ty3 (zza 33 (zI m) (zzg 34 12 _ fun _ _ _ af => qym (k_Mod af (n := (l.getD ((a + 1) - 1) 0)) (m := (m : Int)) xq xq xq xq) ?_)))
 rintro _ u14 g15 rfl
 obtain ⟨zz, ah⟩ : ∃ zz : Nat, (zz : Int) = (l.getD ((a + 1) - 1) 0) % (m : Int) := ⟨((l.getD ((a + 1) - 1) 0) % (m : Int)).toNat, by have h9 := Int.emod_nonneg ((l.getD ((a + 1) - 1) 0)) (show (m : Int) ≠ 0 by omega); omega⟩
 have ag : zz < m := by have h9 := Int.emod_lt_of_pos ((l.getD ((a + 1) - 1) 0)) (show (0 : Int) < (m : Int) by omega); omega
 have hzz : Value.int .i64 ((l.getD ((a + 1) - 1) 0) % (m : Int)) = .int .i64 (zz : Int) := by rw [ah]
 refine zza 4 (zI ((l.getD ((a + 1) - 1) 0) % (m : Int))) (zzc 35 [(4, zI ((l.getD ((a + 1) - 1) 0) % (m : Int)))] [(35, ⟨108, [x.v, .int .i64 (a + 1 : Nat)]⟩)] (zzo (lentP_ret (V := ⟨108, [x.v, .int .i64 (a + 1 : Nat)]⟩) (.int .i64 ((l.getD ((a + 1) - 1) 0) % (m : Int))) rfl rfl zzq (fun _ _ => ⟨zz, (a + 1), hzz, ag, rfl, xq⟩))))
theorem pol_at_eq {u : World} {x : Sl} {L : List RL} {r : RL} {b o i : Nat} (hS : SlC u x (rcs L)) (hA : x.a = some ⟨b, o, none⟩) (hi : i < L.length) (hc : ∀ j, j < r.cs.length → u.cell? ⟨b, o + i * 3 + j, none⟩ = r.cs[j]?) : r = L.getD i rl0 := by
 obtain ⟨h1, h2, h3, h4⟩ := hS
 rw [zyy] at h1
 obtain ⟨b2, o2, e, h5⟩ := h4 xq
 rw [hA] at e
 injection e with e
 injection e with e1 e2 e3
 subst e1 e2
 have key : ∀ j, j < 3 → r.cs[j]? = (L.getD i rl0).cs[j]? := fun j hj => by
  rw [← hc j hj, ← rcs_ix hi hj, Nat.add_assoc]
  exact h5 (i * 3 + j) (by rw [zyy]; omega)
 have k0 := key 0 xq
 have k1 := key 1 xq
 have k2 := key 2 xq
 revert k0 k1 k2
 generalize L.getD i rl0 = s
 intro k0 k1 k2
 obtain ⟨rs, ⟨ra, rn, rc⟩, ⟨rda, rdn, rdc⟩⟩ := r
 obtain ⟨ss, ⟨sa, sn, sc⟩, ⟨sda, sdn, sdc⟩⟩ := s
 simp [RL.cs] at k0 k1 k2
 simp_all
theorem k_smallPoly {u w : World} {x : Sl} {l : List Rat} {K : Nat} (d : Dat u w) (hx : PolV u x l K) : qyc 19 #[x.v] w (Post u w fun v u' => (v = .bool true ∧ l.length ≤ 8 ∧ PolV u x l 2) ∨ v = .bool false) := by
 have hlen := hx.len
 obtain ⟨L, hS, hR⟩ := id hx
 have hLl := hR.1
 have hmx := hx.max
 unfold maxLen at hmx
 refine zzm Tryz.func19 rfl Tryz.ntmps19 Tryz.results19 d ?_
 refine sq9 (zza 2 (zB false) (zzb (zzd (sq9 (zza 5 (.v (x.v)) (zza 6 (zI x.n) (zza 7 (zB (decide ((8 : Int) < (x.n : Int)))) (zzb (zzu (b := decide ((8 : Int) < (x.n : Int))) xj (fun ae => ?_) (fun ae => ?_))))))))))
 ·have qhb11 := qyt ae
  refine sq9 (zza 2 (zB false) (zzb (zzo (zzw (ret0 [.bool false] ⟨zzq, trivial⟩ fun u12 e13 => ?_)))))
  exact .inr rfl
 have qhb11 := qyf ae
 refine zzs (zzp ?_)
 refine zzd (sq9 (zza 8 (.v (x.v)) (zza 9 (zI x.n) (zza 10 (zI 0) (zzb (zzt (zyn (I := fun ai S' u' => ∃ (i : Nat), (ai = x.n - i) ∧ (i ≤ x.n) ∧ (∀ j, j < i → (L.getD j rl0).m.n ≤ 2 ∧ (L.getD j rl0).d.n ≤ 2) ∧ (S' = St.of 26 [(8, .v (x.v)), (9, zI x.n), (10, zI i)] []) ∧ (Ext u u')) (fun m S u1 u2 e h => by obtain ⟨i, hm, p0, p1, hS, hE⟩ := h; exact ⟨i, hm, p0, p1, hS, hE.trans e⟩) _ yz ⟨0, rfl, by omega, fun j hj => absurd hj (Nat.not_lt_zero j), rfl, (Ext.refl _)⟩ ?_)))))))
 rintro ai _ u14 ⟨i, al, hi, hz, rfl, ah⟩
 refine sq9 (zza 11 (zB (decide ((i : Int) < (x.n : Int)))) (zzb (zzd (zzu (b := decide ((i : Int) < (x.n : Int))) xj (fun ad => ?_) (fun ad => ?_)))))
 ·have qhb15 := qyt ad
  refine zzs (zzp ?_)
  refine zzd (zzt (sq9 ?_))
  have hl16 := (hx.ext ah).len
  obtain ⟨aa, b16, aj, ag, af, ak⟩ := pol_at (hx.ext ah) (i := i) xq
  refine zya 12 (aj + i * 3) (n := x.n) (off := aj) (sz := 3) (i := (i : Int)) xq ag xq xq sl27 (zym 13 aa.cs af ty32 (zzk 4 ⟨32, zw3⟩ (zzj ⟨32, aa.cs⟩ ty32 ?_)))
  refine zzb (zzd ?_)
  have hre := pol_at_eq (hS.ext ah) ag xq af
  refine zzf (zza 14 (.adr 4 0) (zza 15 (.adr 4 1) (zzi 16 (.v (aa.m.v)) ty28 zzl (zza 17 (zI aa.m.n) (zza 18 (zB (decide ((2 : Int) < (aa.m.n : Int)))) ?_)))))
  rcases Bool.eq_false_or_eq_true (decide ((2 : Int) < (aa.m.n : Int))) with hs17 | hs17
  ·refine qbi 19 hs17 ?_
   have qhs17 := qyt hs17
   refine zzn 20 (uw 5 false true 19) (zzn 21 (uw 5 false true 19) (zzn 22 (uw 5 false true 19) (zzn 23 (uw 5 false true 19) (zza 24 (zB true) (zzb (zyr xj (sq9 (zza 2 (zB false) (zzb (zzo (zyu (zzw (zyt (zyu (zzw (ret0 [.bool false] ⟨zzq, trivial⟩ fun u18 e19 => ?_))))))))))))))))
   exact .inr rfl
  refine qbi 19 hs17 ?_
  have qhs17 := qyf hs17
  refine zza 20 (.adr 4 2) ?_ (hw := w1 5 false 19)
  refine zzi 21 (.v (aa.d.v)) ty28 zzl ?_ (hw := w1 5 false 19)
  refine zza 22 (zI aa.d.n) ?_ (hw := w1 5 false 19)
  refine zza 23 (zB (decide ((2 : Int) < (aa.d.n : Int)))) ?_ (hw := w1 5 false 19)
  refine zza 24 (zB (decide ((2 : Int) < (aa.d.n : Int)))) (zzb (zzu (b := decide ((2 : Int) < (aa.d.n : Int))) xj (fun ac => ?_) (fun ac => ?_)))
  ·have qhb20 := qyt ac
   refine sq9 (zza 2 (zB false) (zzb (zzo (zyu (zzw (zyt (zyu (zzw (ret0 [.bool false] ⟨zzq, trivial⟩ fun u21 e22 => ?_)))))))))
   exact .inr rfl
  have qhb20 := qyf ac
  refine zzs (zzp ?_)
  refine zzf (qwi 25 ((i : Int) + 1) (i + 1 : Nat) xz (zza 10 (zI (i + 1 : Nat)) (zzx ?_)))
  refine ⟨_, ?_, _, by exact zzv _ _ _, i + 1, rfl, by omega, (fun j hj => by by_cases e : j = i; (rw [e, ← hre]; exact ⟨by omega, by omega⟩); exact hz j xq), rfl, ah⟩
  omega
 have qhb15 := qyf ad
 refine zyc (zzp (sq9 (zza 2 (zB true) (zzb (zzo (ret0 [.bool true] ⟨zzq, trivial⟩ fun u23 e24 => ?_))))))
 exact .inl ⟨rfl, by omega, L, hS, hR.1, fun i hi => (hR.2 i hi).few (hz i xq).1 (hz i xq).2 yv⟩
end Go.Proofs.YtgmkhhfbckjaeaaGreat
namespace Go.Proofs.YtgmkhhfbckjaeaaGreat
open Nt
namespace Nt
def su (f : Nat → Rat) : Nat → Rat
 | 0 => 0
 | n + 1 => su f n + f n
section
variable {f g : Nat → Rat} {n m : Nat}
theorem su_s : su f (n + 1) = su f n + f n := rfl
theorem su_congr (h : ∀ i, i < n → f i = g i) : su f n = su g n := by
 induction n with
 | zero => rfl
 | succ n ih => rw [su_s, su_s, ih (fun i hi => h i xq), h n xq]
theorem su_add : su (fun i => f i + g i) n = su f n + su g n := by
 induction n with
 | zero => show (0 : Rat) = 0 + 0; grind
 | succ n ih => rw [su_s, su_s, su_s, ih]; grind
theorem su_mul (c : Rat) : su (fun i => c * f i) n = c * su f n := by
 induction n with
 | zero => show (0 : Rat) = c * 0; grind
 | succ n ih => rw [su_s, su_s, ih]; grind
theorem su_0 (h : ∀ i, i < n → f i = 0) : su f n = 0 := by
 induction n with
 | zero => rfl
 | succ n ih => rw [su_s, ih (fun i hi => h i xq), h n xq]; grind
theorem su_head : su f (n + 1) = f 0 + su (fun i => f (i + 1)) n := by
 induction n with
 | zero => show (0 : Rat) + f 0 = f 0 + 0; grind
 | succ n ih => rw [su_s, ih, su_s]; grind
theorem su_split (n m : Nat) : su f (n + m) = su f n + su (fun i => f (n + i)) m := by
 induction m with
 | zero => show su f n = su f n + 0; grind
 | succ m ih => rw [← Nat.add_assoc, su_s, ih, su_s]; grind
end
end Nt
namespace Nt
section
variable {a1 a2 b1 b2 c1 c2 d1 d2 : Rat}
def hl (a b c d : Rat) : Rat := lo (lo a b) (lo c d)
def hh (a b c d : Rat) : Rat := hi (hi a b) (hi c d)
end
end Nt
end Go.Proofs.YtgmkhhfbckjaeaaGreat
namespace Go.Proofs.YtgmkhhfbckjaeaaGreat.Nt
open Go.RowKit
open Pol
section
variable {l : List Rat} {x a b c : Rat} {i n D A B K : Nat} {q : Pol}
theorem evL_trim (l : List Rat) (x : Rat) : evL (trimQ l) x = evL l x := evL_congr (trim_co l) x
end
section
variable {l m W : List Rat} {x q : Rat} {i A B C : Nat}
def hp (q : Rat) (i : Nat) : Rat := (((q.den ^ (i - 1) : Nat) : Int) : Rat)
def hs (W : List Rat) (q : Rat) (i : Nat) : Rat := hp q i * evL (W.drop (W.length - i)) q
theorem ev_addL (l m : List Rat) (x : Rat) : evL (trimQ (addQ l m)) x = evL l x + evL m x := by
 rw [evL_trim, ← mk_ev, mk_add, ev_add, mk_ev, mk_ev]
theorem ev_mulL (l m : List Rat) (x : Rat) : evL (trimQ (mulQ l m)) x = evL l x * evL m x := by
 rw [evL_trim, ← mk_ev, mk_mul, ev_mul, mk_ev, mk_ev]
theorem ev_drop_all {k : Nat} (h : l.length ≤ k) : evL (l.drop k) x = ((0 : Int) : Rat) := by rw [List.drop_eq_nil_of_le h]; rfl
theorem ev_drop1 {k : Nat} (h : 0 < k) (h2 : k ≤ l.length) : evL (l.drop (k - 1)) x = evL (l.drop k) x * x + l.getD (k - 1) 0 := by
 rw [List.drop_eq_getElem_cons (show k - 1 < l.length by omega), show k - 1 + 1 = k by omega, qyg, List.getElem?_eq_getElem (show k - 1 < l.length by omega), Option.getD_some]
 show _ + x * _ = _
 grind
theorem ev_drop0 : evL (l.drop 0) x = evL l x := rfl
end
end Go.Proofs.YtgmkhhfbckjaeaaGreat.Nt
namespace Go.Proofs.YtgmkhhfbckjaeaaGreat
open Nt
namespace Nt
open Pol
def dd (x g : Nat → Rat) : Nat → Nat → Rat
 | 0, a => g a
 | n + 1, a => (dd x g n (a + 1) - dd x g n a) / (x (a + n + 1) - x a)
def sg1 (i : Nat) : Rat := if i % 2 = 0 then 1 else -1
theorem sg1_s (i : Nat) : sg1 (i + 1) = -sg1 i := by
 unfold sg1
 by_cases h : i % 2 = 0
 ·rw [if_pos h, if_neg xq]
 rw [if_neg h, if_pos xq]; grind
theorem sg1_sq (i : Nat) : sg1 i * sg1 i = 1 := by unfold sg1; split <;> grind
theorem div_mul_self {a b : Rat} (h : b ≠ 0) : a / b * b = a := Rat.div_mul_cancel h
theorem div_eq_of {a b c : Rat} (h : b ≠ 0) (e : a = c * b) : a / b = c := by
 rw [e, Rat.mul_div_cancel h]
section
variable {x g h : Nat → Rat} {n a m k N : Nat} {c : Rat} {p q : List Rat}
def Asc (x : Nat → Rat) (N : Nat) : Prop := ∀ i j, i < j → j ≤ N → x i < x j
theorem Asc.gap (hx : Asc x N) (h : a + n + 1 ≤ N) : 0 < x (a + n + 1) - x a := by
 have := hx a (a + n + 1) xq h
 grind
theorem dd_congr (e : ∀ i, a ≤ i → i ≤ a + n → g i = h i) : dd x g n a = dd x h n a := by
 induction n generalizing a with
 | zero => exact e a qyl qyl
 | succ n ih =>
  show (dd x g n (a + 1) - dd x g n a) / _ = (dd x h n (a + 1) - dd x h n a) / _
  rw [ih (fun i h1 h2 => e i xq xq), ih (fun i h1 h2 => e i h1 xq)]
theorem dd_lin : dd x (fun i => c * g i + h i) n a = c * dd x g n a + dd x h n a := by
 induction n generalizing a with
 | zero => rfl
 | succ n ih =>
  show (dd x (fun i => c * g i + h i) n (a + 1) - dd x (fun i => c * g i + h i) n a) / _ = c * ((dd x g n (a + 1) - dd x g n a) / _) + (dd x h n (a + 1) - dd x h n a) / _
  rw [ih, ih, Rat.div_def, Rat.div_def, Rat.div_def]; grind
theorem dd_const : dd x (fun _ => c) (n + 1) a = 0 := by
 induction n generalizing a with
 | zero => show (c - c) / _ = 0; rw [Rat.div_def]; grind
 | succ n ih =>
  show (dd x (fun _ => c) (n + 1) (a + 1) - dd x (fun _ => c) (n + 1) a) / _ = 0
  rw [ih, ih, Rat.div_def]; grind
theorem dd_leib (hx : Asc x N) : ∀ n a, a + n + 1 ≤ N → dd x (fun i => x i * g i) (n + 1) a = x a * dd x g (n + 1) a + dd x g n (a + 1) ∧ dd x (fun i => x i * g i) (n + 1) a = x (a + n + 1) * dd x g (n + 1) a + dd x g n a := by
 intro n
 induction n with
 | zero =>
  intro a ha
  have h1 := hx.gap (a := a) (n := 0) ha
  have h2 : dd x g 1 a * (x (a + 0 + 1) - x a) = dd x g 0 (a + 1) - dd x g 0 a := by
   show (_ / _) * _ = _
   exact div_mul_self (by grind)
  have key : dd x (fun i => x i * g i) 1 a = x a * dd x g 1 a + dd x g 0 (a + 1) := by
   show (x (a + 1) * g (a + 1) - x a * g a) / (x (a + 0 + 1) - x a) = _
   refine div_eq_of (by grind) ?_
   have e1 : dd x g 0 (a + 1) = g (a + 1) := rfl
   have e2 : dd x g 0 a = g a := rfl
   rw [e1, e2] at h2
   rw [e1]
   have e3 : x (a + 0 + 1) = x (a + 1) := rfl
   rw [e3] at h2 ⊢
   grind
  exact ⟨key, by rw [key]; grind⟩
 | succ n ih =>
  intro a ha
  have h1 := hx.gap (a := a) (n := n + 1) xq
  have h2 : dd x g (n + 2) a * (x (a + (n + 1) + 1) - x a) = dd x g (n + 1) (a + 1) - dd x g (n + 1) a := by
   show (_ / _) * _ = _
   exact div_mul_self (by grind)
  have i1 := (ih (a + 1) xq).2
  have i2 := (ih a xq).1
  have key : dd x (fun i => x i * g i) (n + 2) a = x a * dd x g (n + 2) a + dd x g (n + 1) (a + 1) := by
   show (dd x (fun i => x i * g i) (n + 1) (a + 1) - dd x (fun i => x i * g i) (n + 1) a) / (x (a + (n + 1) + 1) - x a) = _
   refine div_eq_of (by grind) ?_
   rw [i1, i2]
   have e3 : x (a + 1 + n + 1) = x (a + (n + 1) + 1) := by rw [show a + 1 + n + 1 = a + (n + 1) + 1 by omega]
   rw [e3]
   grind
  exact ⟨key, by rw [key]; grind⟩
theorem dd_poly (hx : Asc x N) : ∀ (n : Nat) (p : List Rat) (a : Nat), p.length ≤ n + 1 → a + n ≤ N → dd x (fun i => evL p (x i)) n a = p.getD n 0 := by
 intro n
 induction n with
 | zero =>
  intro p a hp _
  match p, hp with
  | [], _ => rfl
  | [c], _ => show c + x a * evL [] (x a) = c; have : evL [] (x a) = 0 := rfl; rw [this]; grind
 | succ n ih =>
  intro p a hp ha
  match p, hp with
  | [], _ =>
   have e : (fun i => evL [] (x i)) = fun _ => (0 : Rat) := funext fun i => rfl
   rw [e, dd_const]; rfl
  | c :: p, hp =>
   have hp : p.length ≤ n + 1 := by simpa using hp
   have e : (fun i => evL (c :: p) (x i)) = fun i => 1 * (x i * evL p (x i)) + c := funext fun i => by show c + x i * evL p (x i) = _; grind
   rw [e, dd_lin (g := fun i => x i * evL p (x i)) (h := fun _ => c), dd_const, (dd_leib hx n a xq).1, ih p (a + 1) hp xq]
   have e2 : dd x (fun i => evL p (x i)) (n + 1) a = 0 := by
    show (_ - _) / _ = _
    rw [ih p (a + 1) hp xq, ih p a hp xq, Rat.div_def]; grind
   have e3 : (c :: p).getD (n + 1) 0 = p.getD n 0 := by simp
   rw [e2, e3]; grind
theorem dd_low (hx : Asc x N) (hp : p.length ≤ n) (ha : a + n ≤ N) : dd x (fun i => evL p (x i)) n a = 0 := by
 rw [dd_poly hx n p a xq ha, qyg, List.getElem?_eq_none hp]; rfl
theorem div_nn9 {a b : Rat} (ha : 0 ≤ a) (hb : 0 < b) : 0 ≤ a / b := by rw [Rat.div_def]; exact Rat.mul_nonneg ha (Rat.le_of_lt (Rat.inv_pos.2 hb))
theorem div_pos9 {a b : Rat} (ha : 0 < a) (hb : 0 < b) : 0 < a / b := by rw [Rat.div_def]; exact Rat.mul_pos ha (Rat.inv_pos.2 hb)
theorem dd_step (hx : Asc x N) (ha : a + n + 1 ≤ N) : sg1 (a + n + 1) * dd x g (n + 1) a = (sg1 (a + 1 + n) * dd x g n (a + 1) + sg1 (a + n) * dd x g n a) / (x (a + n + 1) - x a) := by
 have e : sg1 (a + 1 + n) = sg1 (a + n + 1) := by rw [show a + 1 + n = a + n + 1 by omega]
 have e2 : dd x g (n + 1) a = (dd x g n (a + 1) - dd x g n a) / (x (a + n + 1) - x a) := rfl
 rw [e, sg1_s, e2, Rat.div_def, Rat.div_def]; grind
theorem dd_alt (hx : Asc x N) : ∀ n a, a + n ≤ N → (∀ i, a ≤ i → i ≤ a + n → 0 ≤ sg1 i * g i) → 0 ≤ sg1 (a + n) * dd x g n a := by
 intro n
 induction n with
 | zero => intro a _ h; exact h a qyl qyl
 | succ n ih =>
  intro a ha h
  have h1 := ih (a + 1) xq (fun i k1 k2 => h i xq xq)
  have h2 := ih a xq (fun i k1 k2 => h i k1 xq)
  rw [show a + (n + 1) = a + n + 1 from rfl, dd_step hx xq]
  exact div_nn9 (by grind) (hx.gap xq)
theorem dd_alts (hx : Asc x N) : ∀ n a, a + n ≤ N → (∀ i, a ≤ i → i ≤ a + n → 0 ≤ sg1 i * g i) → (∃ i, a ≤ i ∧ i ≤ a + n ∧ 0 < sg1 i * g i) → 0 < sg1 (a + n) * dd x g n a := by
 intro n
 induction n with
 | zero =>
  intro a _ _ ⟨i, h1, h2, h3⟩
  obtain rfl : i = a := by omega
  exact h3
 | succ n ih =>
  intro a ha h ⟨i, k1, k2, k3⟩
  have h1 := dd_alt hx n (a + 1) xq (fun i k1 k2 => h i xq xq)
  have h2 := dd_alt hx n a xq (fun i k1 k2 => h i k1 xq)
  rw [show a + (n + 1) = a + n + 1 from rfl, dd_step hx xq]
  refine div_pos9 ?_ (hx.gap xq)
  by_cases e : i ≤ a + n
  ·have := ih a xq (fun i k1 k2 => h i k1 xq) ⟨i, k1, e, k3⟩
   grind
  have := ih (a + 1) xq (fun i k1 k2 => h i xq xq) ⟨i, by omega, by omega, k3⟩
  grind
def om (x : Nat → Rat) (a : Nat) (z : Rat) : Nat → Rat
 | 0 => 1
 | n + 1 => om x a z n * (z - x (a + n))
theorem om_head (z : Rat) : om x a z (n + 1) = (z - x a) * om x (a + 1) z n := by
 induction n with
 | zero => show 1 * (z - x (a + 0)) = (z - x a) * 1; rw [Nat.add_zero]; grind
 | succ n ih =>
  show om x a z (n + 1) * (z - x (a + (n + 1))) = (z - x a) * (om x (a + 1) z n * (z - x (a + 1 + n)))
  rw [ih, show a + (n + 1) = a + 1 + n by omega]; grind
def nwt (x g : Nat → Rat) (a : Nat) (z : Rat) : Nat → Rat
 | 0 => g a
 | n + 1 => nwt x g a z n + dd x g (n + 1) a * om x a z (n + 1)
theorem nwt_shift (hx : Asc x N) (z : Rat) : ∀ n a, a + n + 1 ≤ N → nwt x g (a + 1) z n - nwt x g a z n = (dd x g n (a + 1) - dd x g n a) * om x (a + 1) z n := by
 intro n
 induction n with
 | zero => intro a _; show g (a + 1) - g a = (g (a + 1) - g a) * 1; grind
 | succ n ih =>
  intro a ha
  have i1 := ih a xq
  have h1 := hx.gap (a := a) (n := n) xq
  have h2 : dd x g (n + 1) a * (x (a + n + 1) - x a) = dd x g n (a + 1) - dd x g n a := by
   show (_ / _) * _ = _
   exact div_mul_self (by grind)
  show (nwt x g (a + 1) z n + dd x g (n + 1) (a + 1) * om x (a + 1) z (n + 1)) - (nwt x g a z n + dd x g (n + 1) a * om x a z (n + 1)) = _
  rw [om_head (a := a)]
  have e : om x (a + 1) z (n + 1) = om x (a + 1) z n * (z - x (a + n + 1)) := by
   show om x (a + 1) z n * (z - x (a + 1 + n)) = _
   rw [show a + 1 + n = a + n + 1 by omega]
  rw [e]
  grind
theorem nwt_at (hx : Asc x N) : ∀ n a m, a + n ≤ N → m ≤ n → nwt x g a (x (a + m)) n = g (a + m) := by
 intro n
 induction n with
 | zero => intro a m _ hm; obtain rfl : m = 0 := by omega
           rfl
 | succ n ih =>
  intro a m ha hm
  have h1 := hx.gap (a := a) (n := n) xq
  have s := nwt_shift (g := g) hx (x (a + m)) n a xq
  have h2 : dd x g (n + 1) a * (x (a + n + 1) - x a) = dd x g n (a + 1) - dd x g n a := by
   show (_ / _) * _ = _
   exact div_mul_self (by grind)
  show nwt x g a (x (a + m)) n + dd x g (n + 1) a * om x a (x (a + m)) (n + 1) = g (a + m)
  by_cases e : m ≤ n
  ·rw [ih a m xq e]
   have : om x a (x (a + m)) (n + 1) = 0 := by
    rw [om_head]
    clear s h2 h1 ih
    have : ∀ k a, m ≤ k → om x a (x (a + m)) (k + 1) = 0 := by
     intro k
     induction k with
     | zero => intro a hk; obtain rfl : m = 0 := by omega
               show 1 * (x (a + 0) - x (a + 0)) = 0; grind
     | succ k ih =>
      intro a hk
      show om x a (x (a + m)) (k + 1) * (x (a + m) - x (a + (k + 1))) = 0
      by_cases e2 : m ≤ k
      ·rw [ih a e2]; grind
      rw [show m = k + 1 by omega]; grind
    rw [← om_head]
    exact this n a e
   rw [this]; grind
  obtain rfl : m = n + 1 := by omega
  have e2 := ih (a + 1) n xq qyl
  rw [show a + 1 + n = a + (n + 1) by omega] at e2
  rw [e2] at s
  rw [om_head]
  have e3 : x (a + n + 1) = x (a + (n + 1)) := rfl
  rw [e3] at h2 h1
  grind
end
end Nt
end Go.Proofs.YtgmkhhfbckjaeaaGreat
namespace Go.Proofs.YtgmkhhfbckjaeaaGreat.Nt
open Go.RowKit
open Pol
theorem evL_map (l : List Rat) (c x : Rat) : evL (l.map (· * c)) x = evL l x * c := by
 induction l with
 | nil => show (0 : Rat) = 0 * c; grind
 | cons a l ih => show a * c + x * evL (l.map (· * c)) x = (a + x * evL l x) * c; rw [ih]; grind
end Go.Proofs.YtgmkhhfbckjaeaaGreat.Nt
namespace Go.Proofs.YtgmkhhfbckjaeaaGreat
open Nt
namespace Nt
open Pol
section
variable {x w y : Nat → Rat} {n i : Nat} {c e δ M E : Rat} {p q : List Rat}
def lvS (x w : Nat → Rat) (n : Nat) : Rat := dd x (fun i => sg1 i / w i) n 0
def lvE (x w y : Nat → Rat) (n : Nat) : Rat := dd x y n 0 / lvS x w n
def er (x w y : Nat → Rat) (q : List Rat) (i : Nat) : Rat := w i * (y i - evL q (x i))
theorem dd_null : dd x (fun _ => 0) n i = 0 := by
 cases n with
 | zero => rfl
 | succ n => exact dd_const
theorem lvS_pos (hx : Asc x n) (hw : ∀ i, i ≤ n → 0 < w i) : 0 < sg1 n * lvS x w n := by
 have h1 : ∀ i, i ≤ n → 0 < sg1 i * (sg1 i / w i) := fun i hi => by
  rw [Rat.div_def, ← Rat.mul_assoc, sg1_sq, Rat.one_mul]; exact Rat.inv_pos.2 (hw i hi)
 have h := dd_alts hx n 0 xq (g := fun i => sg1 i / w i) (fun i _ hi => Rat.le_of_lt (h1 i xq)) ⟨0, Nat.le_refl _, by omega, h1 0 (Nat.zero_le _)⟩
 rw [Nat.zero_add] at h
 exact h
theorem lvS_ne (hx : Asc x n) (hw : ∀ i, i ≤ n → 0 < w i) : lvS x w n ≠ 0 := fun h => by
 have := lvS_pos hx hw
 rw [h] at this; grind
theorem lvE_mul (hx : Asc x n) (hw : ∀ i, i ≤ n → 0 < w i) : lvE x w y n * lvS x w n = dd x y n 0 := Rat.div_mul_cancel (lvS_ne hx hw)
theorem lev_dd (hx : Asc x n) (hq : q.length ≤ n) : dd x (fun i => c * (sg1 i / w i) + e * (y i - evL q (x i))) n 0 = c * lvS x w n + e * dd x y n 0 := by
 have e1 : dd x (fun i => -1 * evL q (x i) + y i) n 0 = dd x y n 0 := by
  rw [dd_lin (c := -1) (g := fun i => evL q (x i)) (h := y), dd_low hx hq xq]; grind
 have e2 : dd x (fun i => e * (-1 * evL q (x i) + y i) + 0) n 0 = e * dd x y n 0 := by
  rw [dd_lin (c := e) (g := fun i => -1 * evL q (x i) + y i) (h := fun _ => 0), e1, dd_null]; grind
 have e3 : dd x (fun i => c * (sg1 i / w i) + (e * (-1 * evL q (x i) + y i) + 0)) n 0 = c * lvS x w n + e * dd x y n 0 := by
  rw [dd_lin (c := c) (g := fun i => sg1 i / w i) (h := fun i => e * (-1 * evL q (x i) + y i) + 0), e2]; rfl
 rw [← e3]
 exact dd_congr (fun i _ _ => by grind)
theorem sg_term (hw : 0 < w i) : sg1 i * (c * (sg1 i / w i) + e * (y i - evL q (x i))) = (c + e * (sg1 i * er x w y q i)) * (w i)⁻¹ := by
 have h1 := sg1_sq i
 have h2 : w i * (w i)⁻¹ = 1 := Rat.mul_inv_cancel _ (fun h => by rw [h] at hw; grind)
 unfold er
 rw [Rat.div_def]
 generalize (w i)⁻¹ = v at *
 generalize evL q (x i) = z
 have a1 : sg1 i * (c * (sg1 i * v) + e * (y i - z)) = c * v * (sg1 i * sg1 i) + e * sg1 i * (y i - z) := by grind
 have a2 : (c + e * (sg1 i * (w i * (y i - z)))) * v = c * v + e * sg1 i * (y i - z) * (w i * v) := by grind
 rw [a1, a2, h1, h2]; grind
theorem pos_of_mul {a b : Rat} (hb : 0 < b) (h : 0 < a * b) : 0 < a := by
 refine Rat.not_le.1 fun ha => ?_
 have := Rat.mul_le_mul_of_nonneg_right ha (Rat.le_of_lt hb)
 grind
theorem nn_of_mul {a b : Rat} (hb : 0 < b) (h : 0 ≤ a * b) : 0 ≤ a := by
 refine Rat.not_lt.1 fun ha => ?_
 have h1 := Rat.mul_pos (show 0 < -a by grind) hb
 grind
theorem lev0 (hx : Asc x n) (hw : ∀ i, i ≤ n → 0 < w i) (hq : q.length ≤ n) (h : ∀ i, i ≤ n → 0 ≤ c + e * (sg1 i * er x w y q i)) : 0 ≤ c + e * lvE x w y n := by
 have hS := lvS_pos hx hw
 have h1 := dd_alt hx n 0 xq (g := fun i => c * (sg1 i / w i) + e * (y i - evL q (x i))) (fun i _ hi => by
  show 0 ≤ sg1 i * (c * (sg1 i / w i) + e * (y i - evL q (x i)))
  rw [sg_term (hw i xq)]; exact Rat.mul_nonneg (h i xq) (Rat.le_of_lt (Rat.inv_pos.2 (hw i xq))))
 rw [lev_dd hx hq, ← lvE_mul hx hw, Nat.zero_add] at h1
 exact nn_of_mul hS (by grind)
theorem lev1 (hx : Asc x n) (hw : ∀ i, i ≤ n → 0 < w i) (hq : q.length ≤ n) (h : ∀ i, i ≤ n → 0 ≤ c + e * (sg1 i * er x w y q i)) (hs : ∃ i, i ≤ n ∧ 0 < c + e * (sg1 i * er x w y q i)) : 0 < c + e * lvE x w y n := by
 have hS := lvS_pos hx hw
 obtain ⟨j, hj, hp⟩ := hs
 have h1 := dd_alts hx n 0 xq (g := fun i => c * (sg1 i / w i) + e * (y i - evL q (x i))) (fun i _ hi => by
  show 0 ≤ sg1 i * (c * (sg1 i / w i) + e * (y i - evL q (x i)))
  rw [sg_term (hw i xq)]; exact Rat.mul_nonneg (h i xq) (Rat.le_of_lt (Rat.inv_pos.2 (hw i xq)))) ⟨j, Nat.zero_le _, by omega, by
  show 0 < sg1 j * (c * (sg1 j / w j) + e * (y j - evL q (x j)))
  rw [sg_term (hw j hj)]; exact Rat.mul_pos hp (Rat.inv_pos.2 (hw j hj))⟩
 rw [lev_dd hx hq, ← lvE_mul hx hw, Nat.zero_add] at h1
 exact pos_of_mul hS (by grind)
theorem le1 {a b : Rat} (h : a ≤ b) : 0 ≤ -a + 1 * b := by grind
theorem le2 {a b : Rat} (h : a ≤ -b) : 0 ≤ -a + -1 * b := by grind
theorem le3 {a b : Rat} (h : -a ≤ b) : 0 ≤ a + 1 * b := by grind
theorem le4 {a b : Rat} (h : b ≤ a) : 0 ≤ a + -1 * b := by grind
theorem le5 {a b : Rat} (h : - -a ≤ b) : 0 ≤ -a + 1 * b := by grind
theorem lt1 {a b : Rat} (h : a < b) : 0 < -a + 1 * b := by grind
theorem lt2 {a b : Rat} (h : a < -b) : 0 < -a + -1 * b := by grind
theorem lt4 {a b : Rat} (h : b < a) : 0 < a + -1 * b := by grind
theorem lev_max (hx : Asc x n) (hw : ∀ i, i ≤ n → 0 < w i) (hq : q.length ≤ n) (h : ∀ i, i ≤ n → -M ≤ er x w y q i ∧ er x w y q i ≤ M) : -M ≤ lvE x w y n ∧ lvE x w y n ≤ M := by
 have hs : ∀ i, i ≤ n → -M ≤ sg1 i * er x w y q i ∧ sg1 i * er x w y q i ≤ M := fun i hi => by
  have := h i hi
  unfold sg1; split <;> grind
 have h1 := lev0 (c := M) (e := 1) hx hw hq (fun i hi => le3 (hs i hi).1)
 have h2 := lev0 (c := M) (e := -1) hx hw hq (fun i hi => le4 (hs i hi).2)
 grind
theorem lev_eq (hx : Asc x n) (hw : ∀ i, i ≤ n → 0 < w i) (hq : q.length ≤ n) (h : ∀ i, i ≤ n → -M ≤ er x w y q i ∧ er x w y q i ≤ M) (hM : M = lvE x w y n ∨ M = -lvE x w y n) : ∀ i, i ≤ n → er x w y q i = sg1 i * lvE x w y n := by
 have hs : ∀ i, i ≤ n → -M ≤ sg1 i * er x w y q i ∧ sg1 i * er x w y q i ≤ M := fun i hi => by
  have := h i hi
  unfold sg1; split <;> grind
 have ht : ∀ i, i ≤ n → sg1 i * er x w y q i = lvE x w y n := fun i hi => by
  rcases hM with rfl | rfl
  ·refine Rat.le_antisymm (hs i hi).2 (Rat.not_lt.1 fun hc => ?_)
   have := lev1 (c := lvE x w y n) (e := -1) hx hw hq (fun i hi => le4 (hs i hi).2) ⟨i, hi, lt4 hc⟩
   grind
  refine Rat.le_antisymm (Rat.not_lt.1 fun hc => ?_) (Rat.le_trans (by rw [Rat.neg_neg]; exact Rat.le_refl) (hs i hi).1)
  have := lev1 (c := -lvE x w y n) (e := 1) hx hw hq (fun i hi => le5 (hs i hi).1) ⟨i, hi, lt1 hc⟩
  grind
 intro i hi
 rw [← ht i hi, ← Rat.mul_assoc, sg1_sq, Rat.one_mul]
theorem lev_grow (hx : Asc x n) (hw : ∀ i, i ≤ n → 0 < w i) (hq : q.length ≤ n) (h : ∀ i, i ≤ n → δ ≤ sg1 i * er x w y q i) (hs : ∃ i, i ≤ n ∧ δ < sg1 i * er x w y q i) : δ < lvE x w y n := by
 obtain ⟨j, hj, hp⟩ := hs
 have := lev1 (c := -δ) (e := 1) hx hw hq (fun i hi => le1 (h i hi)) ⟨j, hj, lt1 hp⟩
 grind
theorem lev_grow' (hx : Asc x n) (hw : ∀ i, i ≤ n → 0 < w i) (hq : q.length ≤ n) (h : ∀ i, i ≤ n → δ ≤ -(sg1 i * er x w y q i)) (hs : ∃ i, i ≤ n ∧ δ < -(sg1 i * er x w y q i)) : δ < -lvE x w y n := by
 obtain ⟨j, hj, hp⟩ := hs
 have := lev1 (c := -δ) (e := -1) hx hw hq (fun i hi => le2 (h i hi)) ⟨j, hj, lt2 hp⟩
 grind
theorem co_takeX {l : List Rat} (k : Nat) : co (l.take n) k = if k < n then co l k else 0 := by
 unfold co
 rw [qyg, qyg, List.getElem?_take]
 split <;> rfl
theorem known0 {N : Nat} (hx : Asc x N) : ∀ (n : Nat) (r : List Rat), r.length ≤ n → n ≤ N + 1 → (∀ i, i < n → evL r (x i) = 0) → ∀ k, co r k = 0
 | 0, r, hl, _, _, k => co_ge xq
 | n + 1, r, hl, hn, h, k => by
  have h1 : co r n = 0 := by
   have h2 := dd_poly hx n r 0 hl xq
   rw [dd_congr (h := fun _ => 0) (fun i _ hi => h i xq), dd_null] at h2
   exact h2.symm
  have h3 : ∀ i, co r i = co (r.take n) i := fun i => by
   rw [co_takeX]
   by_cases hi : i < n
   ·rw [if_pos hi]
   rw [if_neg hi]
   by_cases e : i = n
   ·rw [e]; exact h1
   exact co_ge xq
  rw [h3]
  exact known0 hx n (r.take n) (by rw [List.length_take]; omega) xq (fun i hi => by rw [← evL_congr h3]; exact h i xq) k
theorem poly_known {N : Nat} (hx : Asc x N) {n : Nat} {p q : List Rat} (hp : p.length ≤ n) (hq : q.length ≤ n) (hn : n ≤ N + 1) (h : ∀ i, i < n → evL p (x i) = evL q (x i)) (k : Nat) : co p k = co q k := by
 have h1 := known0 hx n (addQ p (q.map (· * (-1)))) (by rw [addQ_len, List.length_map]; omega) hn (fun i hi => by
  rw [← evL_trim, ev_addL, evL_map, h i hi]; grind) k
 rw [addQ_co, co_map (fun z => z * (-1)) (Rat.zero_mul _)] at h1
 grind
end
end Nt
namespace Nt
open Pol
def ab (x : Rat) : Rat := if x < 0 then -x else x
theorem ab_l1 {a x : Rat} (h : a < x) : a < ab x := by unfold ab; split <;> grind
theorem ab_l2 {a x : Rat} (h : a < -x) : a < ab x := by unfold ab; split <;> grind
theorem filter_lt {α : Type} {p q : α → Bool} (h : ∀ a, q a = true → p a = true) : ∀ {l : List α} {a : α}, a ∈ l → p a = true → q a = false → (l.filter q).length < (l.filter p).length := by
 have hle : ∀ l : List α, (l.filter q).length ≤ (l.filter p).length := fun l => by
  induction l with
  | nil => exact Nat.le_refl _
  | cons b l ih =>
   simp only [List.filter_cons]
   by_cases hq : q b = true
   ·rw [if_pos hq, if_pos (h b hq)]; simp only [List.length_cons]; omega
   rw [if_neg hq]; split
   ·simp only [List.length_cons]; omega
   exact ih
 intro l
 induction l with
 | nil => intro a ha; cases ha
 | cons b l ih =>
  intro a ha hp hq
  simp only [List.filter_cons]
  rcases List.mem_cons.1 ha with rfl | ha
  ·rw [if_pos hp, if_neg (by rw [hq]; decide)]
   have := hle l
   simp only [List.length_cons]; omega
  have h1 := ih ha hp hq
  by_cases hq9 : q b = true
  ·rw [if_pos hq9, if_pos (h b hq9)]; simp only [List.length_cons]; omega
  rw [if_neg hq9]; split
  ·simp only [List.length_cons]; omega
  exact h1
def allR (N : Nat) : Nat → List (List Nat)
 | 0 => [[]]
 | k + 1 => (List.range N).flatMap fun a => (allR N k).map (a :: ·)
theorem mem_allR {N : Nat} : ∀ (k : Nat) (l : List Nat), l.length = k → (∀ a ∈ l, a < N) → l ∈ allR N k
 | 0, l, hl, _ => by rw [List.eq_nil_of_length_eq_zero hl]; exact List.mem_singleton.2 rfl
 | k + 1, [], hl, _ => by cases hl
 | k + 1, a :: l, hl, h => by
  unfold allR
  refine List.mem_flatMap.2 ⟨a, List.mem_range.2 (h a List.mem_cons_self), List.mem_map.2 ⟨l, mem_allR k l (by simpa using hl) (fun b hb => h b (List.mem_cons_of_mem _ hb)), rfl⟩⟩
def exM (F : List Nat → Rat) (N k : Nat) (e : Rat) : Nat := ((allR N k).filter fun l => decide (e < F l)).length
theorem exM_lt {F : List Nat → Rat} {N k : Nat} {e : Rat} {l : List Nat} (hl : l.length = k) (h : ∀ a ∈ l, a < N) (he : e < F l) : exM F N k (F l) < exM F N k e := by
 refine filter_lt (fun m hm => by have h1 : F l < F m := qyt hm; exact decide_eq_true (by grind)) (mem_allR k l hl h) (decide_eq_true he) (decide_eq_false ?_)
 exact Rat.lt_irrefl
section
variable {X W Y : Nat → Rat} {N n at_ : Nat} {l : List Nat} {p q : List Rat} {E M : Rat}
structure Rf (N : Nat) (l : List Nat) (n : Nat) : Prop where
 len : l.length = n + 1
 asc : ∀ i j, i < j → j ≤ n → l.getD i 0 < l.getD j 0
 lt : ∀ i, i ≤ n → l.getD i 0 < N
def gE (X W Y : Nat → Rat) (q : List Rat) (a : Nat) : Rat := W a * (Y a - evL q (X a))
def rE (X W Y : Nat → Rat) (l : List Nat) : Rat := lvE (fun i => X (l.getD i 0)) (fun i => W (l.getD i 0)) (fun i => Y (l.getD i 0)) (l.length - 1)
structure Gr (X W : Nat → Rat) (N : Nat) : Prop where
 asc : ∀ a b, a < b → b < N → X a < X b
 pos : ∀ a, a < N → 0 < W a
theorem Rf.ascX (h : Rf N l n) (g : Gr X W N) : Asc (fun i => X (l.getD i 0)) n := fun i j hij hj => g.asc _ _ (h.asc i j hij hj) (h.lt j hj)
theorem Rf.mem (h : Rf N l n) : ∀ a ∈ l, a < N := fun a ha => by
 obtain ⟨i, hi, e⟩ := List.mem_iff_getElem.1 ha
 have h1 := h.lt i (by have := h.len; omega)
 rw [qyg, List.getElem?_eq_getElem hi] at h1
 rw [← e]; exact h1
theorem Rf.grow (h : Rf N l n) (g : Gr X W N) (hq : q.length ≤ n) (ha : (∀ i, i ≤ n → M ≤ sg1 i * gE X W Y q (l.getD i 0)) ∨ ∀ i, i ≤ n → M ≤ -(sg1 i * gE X W Y q (l.getD i 0))) (hs : ∃ i, i ≤ n ∧ M < ab (gE X W Y q (l.getD i 0))) (h0 : 0 ≤ M) : M < ab (rE X W Y l) := by
 have hn : l.length - 1 = n := by have := h.len; omega
 obtain ⟨j, hj, hp⟩ := hs
 unfold rE
 rw [hn]
 have hw : ∀ i, i ≤ n → 0 < (fun i => W (l.getD i 0)) i := fun i hi => g.pos _ (h.lt i hi)
 have key : ∀ z s : Rat, (s = 1 ∨ s = -1) → M < ab z → (M ≤ s * z → M < s * z) := fun z s hs h1 h2 => by
  unfold ab at h1
  rcases hs with rfl | rfl <;> split at h1 <;> grind
 have hsg : sg1 j = 1 ∨ sg1 j = -1 := by unfold sg1; split <;> simp
 rcases ha with ha | ha
 ·exact ab_l1 (lev_grow (h.ascX g) hw hq ha ⟨j, hj, key _ _ hsg hp (ha j hj)⟩)
 refine ab_l2 (lev_grow' (h.ascX g) hw hq ha ⟨j, hj, ?_⟩)
 have h1 := key (gE X W Y q (l.getD j 0)) (-sg1 j) (by rcases hsg with e | e <;> rw [e] <;> simp) hp (by have := ha j hj; rw [Rat.neg_mul]; exact this)
 rw [Rat.neg_mul] at h1
 exact h1
end
end Nt
namespace Nt
open Pol
section
variable {X W Y : Nat → Rat} {N n a pl : Nat} {l : List Nat} {p q : List Rat} {E M τ : Rat} {like : Bool}
def exL (l : List Nat) (a : Nat) (like : Bool) (pl : Nat) : List Nat :=
 if pl = 0 then (if like then a :: l.drop 1 else a :: l.take (l.length - 1))
 else if decide (pl % 2 = 1) = like then l.set (pl - 1) a
 else if pl < l.length then l.set pl a
 else l.drop 1 ++ [a]
structure ExS (l : List Nat) (a : Nat) (n : Nat) (m : List Nat) (j : Nat) (sh : Int) : Prop where
 len : m.length = n + 1
 jn : j ≤ n
 new : m.getD j 0 = a
 old : ∀ i, i ≤ n → i ≠ j → m.getD i 0 = l.getD (i + sh).toNat 0
theorem getD_set9 {l : List Nat} {i j : Nat} (hj : j < l.length) : (l.set j a).getD i 0 = if i = j then a else l.getD i 0 := by
 rw [qyg, List.getElem?_set]
 by_cases h : i = j
 ·subst h; rw [if_pos rfl, if_pos rfl, if_pos hj]; rfl
 rw [if_neg (fun e => h e.symm), if_neg h, qyg]
theorem ex_set (hl : l.length = n + 1) {j : Nat} (hj : j ≤ n) : ExS l a n (l.set j a) j 0 :=
 ⟨by rw [List.length_set]; exact hl, hj, by rw [getD_set9 xq, if_pos rfl], fun i hi hij => by rw [getD_set9 xq, if_neg hij, show ((i : Int) + 0).toNat = i by omega]⟩
theorem ex_front (hl : l.length = n + 1) : ExS l a n (a :: l.drop 1) 0 0 :=
 ⟨by simp; omega, Nat.zero_le _, rfl, fun i hi hij => by
  obtain ⟨k, rfl⟩ : ∃ k, i = k + 1 := ⟨i - 1, by omega⟩
  rw [show (((k + 1 : Nat) : Int) + 0).toNat = 1 + k by omega, List.getD_cons_succ, qyg, List.getElem?_drop, qyg]⟩
theorem ex_left (hl : l.length = n + 1) : ExS l a n (a :: l.take (l.length - 1)) 0 (-1) :=
 ⟨by simp; omega, Nat.zero_le _, rfl, fun i hi hij => by
  obtain ⟨k, rfl⟩ : ∃ k, i = k + 1 := ⟨i - 1, by omega⟩
  rw [show (((k + 1 : Nat) : Int) + -1).toNat = k by omega, List.getD_cons_succ, qyg, List.getElem?_take, if_pos xq, qyg]⟩
theorem ex_right (hl : l.length = n + 1) : ExS l a n (l.drop 1 ++ [a]) n 1 :=
 ⟨by simp; omega, Nat.le_refl _, by
  rw [qyg, List.getElem?_append_right yw, List.length_drop, hl, show n - (n + 1 - 1) = 0 by omega]; rfl, fun i hi hij => by
  rw [show ((i : Int) + 1).toNat = 1 + i by omega, qyg, List.getElem?_append_left yw, List.getElem?_drop, qyg]⟩
theorem exL_S (hl : l.length = n + 1) (hp : pl ≤ n + 1) : ∃ j sh, ExS l a n (exL l a like pl) j sh ∧ ((sh = 0 ∧ (pl = 0 ∧ j = 0 ∧ like = true ∨ 0 < pl ∧ j = pl - 1 ∧ decide (pl % 2 = 1) = like ∨ 0 < pl ∧ pl ≤ n ∧ j = pl ∧ decide (pl % 2 = 1) ≠ like)) ∨ (sh = -1 ∧ pl = 0 ∧ j = 0 ∧ like = false) ∨ (sh = 1 ∧ pl = n + 1 ∧ j = n ∧ decide (pl % 2 = 1) ≠ like)) := by
 unfold exL
 by_cases h0 : pl = 0
 ·rw [if_pos h0]
  cases like with
  | true => exact ⟨0, 0, ex_front hl, .inl ⟨rfl, .inl ⟨h0, rfl, rfl⟩⟩⟩
  | false => exact ⟨0, -1, ex_left hl, .inr (.inl ⟨rfl, h0, rfl, rfl⟩)⟩
 rw [if_neg h0]
 by_cases h1 : decide (pl % 2 = 1) = like
 ·rw [if_pos h1]; exact ⟨pl - 1, 0, ex_set hl xq, .inl ⟨rfl, .inr (.inl ⟨by omega, rfl, h1⟩)⟩⟩
 rw [if_neg h1]
 by_cases h2 : pl < l.length
 ·rw [if_pos h2]; exact ⟨pl, 0, ex_set hl xq, .inl ⟨rfl, .inr (.inr ⟨by omega, by omega, rfl, h1⟩)⟩⟩
 rw [if_neg h2]; exact ⟨n, 1, ex_right hl, .inr (.inr ⟨rfl, by omega, rfl, h1⟩)⟩
theorem exL_Rf (h : Rf N l n) (ha : a < N) (hp : pl ≤ n + 1) (h1 : ∀ i, i < pl → l.getD i 0 < a) (h2 : ∀ i, pl ≤ i → i ≤ n → a < l.getD i 0) : Rf N (exL l a like pl) n := by
 obtain ⟨j, sh, hS, hc⟩ := exL_S (like := like) (a := a) h.len hp
 have hlo : ∀ i, i < j → i ≤ n → (i + sh).toNat ≤ n ∧ l.getD (i + sh).toNat 0 < a := fun i hi hn => by
  refine ⟨by omega, h1 _ ?_⟩; omega
 have hhi : ∀ i, j < i → i ≤ n → (i + sh).toNat ≤ n ∧ a < l.getD (i + sh).toNat 0 := fun i hi hn => by
  refine ⟨by omega, h2 _ ?_ ?_⟩ <;> omega
 refine ⟨hS.len, fun i k hik hk => ?_, fun i hi => ?_⟩
 ·by_cases e1 : i = j
  ·subst e1
   rw [hS.new, hS.old k hk xq]; exact (hhi k hik hk).2
  by_cases e2 : k = j
  ·subst e2
   rw [hS.new, hS.old i xq e1]; exact (hlo i hik xq).2
  rw [hS.old i xq e1, hS.old k hk e2]
  have b1 : (k + sh).toNat ≤ n := by
   by_cases e3 : k < j
   ·exact (hlo k e3 hk).1
   exact (hhi k xq hk).1
  have b2 : (i + sh).toNat < (k + sh).toNat := by omega
  exact h.asc _ _ b2 b1
 by_cases e1 : i = j
 ·rw [e1, hS.new]; exact ha
 rw [hS.old i hi e1]
 by_cases e3 : i < j
 ·exact Nat.lt_trans (hlo i e3 hi).2 ha
 exact h.lt _ (hhi i xq hi).1
theorem sg_sh {i : Nat} {s : Int} (h : s = 1 ∨ s = -1) (hi : 0 ≤ i + s) : sg1 i * sg1 (i + s).toNat = -1 := by
 have e := sg1_sq
 rcases h with rfl | rfl
 ·rw [show ((i : Int) + 1).toNat = i + 1 by omega, sg1_s]; have := e i; grind
 obtain ⟨k, rfl⟩ : ∃ k, i = k + 1 := ⟨i - 1, by omega⟩
 rw [show (((k + 1 : Nat) : Int) + -1).toNat = k by omega, sg1_s]; have := e k; grind
theorem sg_even {i : Nat} (h : i % 2 = 0) : sg1 i = 1 := by unfold sg1; rw [if_pos h]
theorem sg_odd {i : Nat} (h : i % 2 = 1) : sg1 i = -1 := by unfold sg1; rw [if_neg xq]
theorem ab_of {z : Rat} (hτ : τ = 1 ∨ τ = -1) (h : 0 < τ * z) : τ * z = ab z := by
 unfold ab; rcases hτ with rfl | rfl <;> split <;> grind
theorem gr_pick {S : Nat → Rat} (hτ : τ = 1 ∨ τ = -1) (h : ∀ i, i ≤ n → M ≤ τ * S i) : (∀ i, i ≤ n → M ≤ S i) ∨ ∀ i, i ≤ n → M ≤ -S i := by
 rcases hτ with rfl | rfl
 ·exact .inl fun i hi => by have := h i hi; rw [Rat.one_mul] at this; exact this
 exact .inr fun i hi => by have := h i hi; rw [Rat.neg_mul, Rat.one_mul] at this; exact this
theorem exL_grow (h : Rf N l n) (g : Gr X W N) (ha : a < N) (hp : pl ≤ n + 1) (h1 : ∀ i, i < pl → l.getD i 0 < a) (h2 : ∀ i, pl ≤ i → i ≤ n → a < l.getD i 0) (hq : q.length ≤ n) (he : ∀ i, i ≤ n → gE X W Y q (l.getD i 0) = sg1 i * E) (hτ : τ = 1 ∨ τ = -1) (hE : τ * E = ab E) (hM : ab E < ab (gE X W Y q a)) (hl : if like then 0 < τ * gE X W Y q a else 0 < -τ * gE X W Y q a) : ab E < ab (rE X W Y (exL l a like pl)) := by
 have hR := exL_Rf (like := like) h ha hp h1 h2
 obtain ⟨j, sh, hS, hc⟩ := exL_S (like := like) (a := a) h.len hp
 have hE0 : 0 ≤ ab E := by unfold ab; split <;> grind
 have hnτ : -τ = 1 ∨ -τ = -1 := by rcases hτ with e | e <;> rw [e] <;> simp
 refine hR.grow (q := q) g hq ?_ ⟨j, hS.jn, by rw [hS.new]; exact hM⟩ hE0
 generalize hz : gE X W Y q a = z at *
 have hold : ∀ i, i ≤ n → i ≠ j → (i + sh).toNat ≤ n ∧ 0 ≤ i + sh := fun i hi hij => by omega
 rcases hc with ⟨hs, hc⟩ | hc
 ·refine gr_pick hτ fun i hi => ?_
  by_cases e : i = j
  ·subst e
   rw [hS.new, hz]
   have hsz : 0 < τ * (sg1 i * z) := by
    rcases hc with ⟨_, hj, hk⟩ | ⟨hj0, hj, hk⟩ | ⟨_, _, hj, hk⟩
    ·rw [hk, if_pos rfl] at hl; rw [hj, sg_even rfl, Rat.one_mul]; exact hl
    ·cases like with
     | true => rw [if_pos rfl] at hl; rw [sg_even (by have := qyt hk; omega), Rat.one_mul]; exact hl
     | false => rw [if_neg yv] at hl; rw [sg_odd (by have := qyf hk; omega)]; grind
    cases like with
    | true => rw [if_pos rfl] at hl; rw [sg_even (by have : ¬ pl % 2 = 1 := fun e => hk (decide_eq_true e); omega), Rat.one_mul]; exact hl
    | false => rw [if_neg yv] at hl; rw [sg_odd (by refine Classical.byContradiction fun e => hk (decide_eq_false xq))]; grind
   have hab : ab (sg1 i * z) = ab z := by unfold sg1 ab; split <;> split <;> split <;> grind
   rw [ab_of hτ hsz, hab]; exact Rat.le_of_lt hM
  rw [hS.old i hi e, hs, show ((i : Int) + 0).toNat = i by omega, he i hi, ← Rat.mul_assoc (sg1 i), sg1_sq, Rat.one_mul, hE]; exact Rat.le_refl
 refine gr_pick hnτ fun i hi => ?_
 have hs : sh = 1 ∨ sh = -1 := by rcases hc with hc | hc <;> simp [hc.1]
 by_cases e : i = j
 ·subst e
  rw [hS.new, hz]
  have hsz : 0 < -τ * (sg1 i * z) := by
   rcases hc with ⟨_, _, hj, hk⟩ | ⟨_, hpn, hj, hk⟩
   ·rw [hk, if_neg yv] at hl; rw [hj, sg_even rfl, Rat.one_mul]; exact hl
   cases like with
   | true => rw [if_pos rfl] at hl; rw [sg_odd (by have : ¬ pl % 2 = 1 := fun e => hk (decide_eq_true e); omega)]; grind
   | false => rw [if_neg yv] at hl; rw [sg_even (by have : pl % 2 = 1 := Classical.byContradiction fun e => hk (decide_eq_false e); omega), Rat.one_mul]; exact hl
  have hab : ab (sg1 i * z) = ab z := by unfold sg1 ab; split <;> split <;> split <;> grind
  rw [ab_of hnτ hsz, hab]; exact Rat.le_of_lt hM
 have hb := hold i hi e
 rw [hS.old i hi e, he _ hb.1, ← Rat.mul_assoc (sg1 i), sg_sh hs hb.2, ← hE]
 have : -τ * (-1 * E) = τ * E := by grind
 rw [this]; exact Rat.le_refl
end
end Nt
namespace Nt
open Pol
section
variable {X W Y : Nat → Rat} {N n a : Nat} {l m : List Nat} {p q : List Rat} {E M : Rat}
theorem ab_le {x : Rat} : -M ≤ x ∧ x ≤ M ↔ ab x ≤ M := by unfold ab; split <;> constructor <;> intro h <;> grind
theorem ab_pm (x : Rat) : ab x = x ∨ ab x = -x := by unfold ab; split <;> simp
theorem ab_nn (x : Rat) : 0 ≤ ab x := by unfold ab; split <;> grind
theorem rE_n (h : Rf N l n) : rE X W Y l = lvE (fun i => X (l.getD i 0)) (fun i => W (l.getD i 0)) (fun i => Y (l.getD i 0)) n := by
 unfold rE; rw [show l.length - 1 = n by have := h.len; omega]
theorem Rf.max (h : Rf N l n) (g : Gr X W N) (hq : q.length ≤ n) (hm : ∀ i, i ≤ n → ab (gE X W Y q (l.getD i 0)) ≤ M) : ab (rE X W Y l) ≤ M := by
 have hn : l.length - 1 = n := by have := h.len; omega
 unfold rE
 rw [hn]
 exact ab_le.1 (lev_max (h.ascX g) (fun i hi => g.pos _ (h.lt i hi)) hq (fun i hi => ab_le.2 (hm i hi)))
theorem Rf.eq (h : Rf N l n) (g : Gr X W N) (hq : q.length ≤ n) (hm : ∀ i, i ≤ n → ab (gE X W Y q (l.getD i 0)) ≤ ab (rE X W Y l)) : ∀ i, i ≤ n → gE X W Y q (l.getD i 0) = sg1 i * rE X W Y l := by
 have e := rE_n (X := X) (W := W) (Y := Y) h
 rw [e] at hm ⊢
 exact lev_eq (h.ascX g) (fun i hi => g.pos _ (h.lt i hi)) hq (fun i hi => ab_le.2 (hm i hi)) (ab_pm _)
theorem Rf.uniq (h : Rf N l n) (g : Gr X W N) (hp : p.length ≤ n) (hq : q.length ≤ n) (he : ∀ i, i ≤ n → gE X W Y p (l.getD i 0) = gE X W Y q (l.getD i 0)) (k : Nat) : co p k = co q k := by
 refine poly_known (h.ascX g) hp hq xq (fun i hi => ?_) k
 have hw := g.pos _ (h.lt i xq)
 have h1 := he i xq
 unfold gE at h1
 have h2 : Y (l.getD i 0) - evL p (X (l.getD i 0)) = Y (l.getD i 0) - evL q (X (l.getD i 0)) := by
  have h3 : W (l.getD i 0) * (W (l.getD i 0))⁻¹ = 1 := Rat.mul_inv_cancel _ (fun e => by rw [e] at hw; grind)
  generalize (W (l.getD i 0))⁻¹ = v at h3
  have h4 : ∀ z : Rat, z = v * (W (l.getD i 0) * z) := fun z => by
   rw [← Rat.mul_assoc, Rat.mul_comm v, h3, Rat.one_mul]
  rw [h4 (Y (l.getD i 0) - evL p (X (l.getD i 0))), h1, ← h4]
 grind
structure Bst (X W Y : Nat → Rat) (N n : Nat) (p : List Rat) (l : List Nat) : Prop where
 rf : Rf N l n
 len : p.length ≤ n
 max : ∀ a, a < N → ab (gE X W Y p a) ≤ ab (rE X W Y l)
theorem Bst.le (h : Bst X W Y N n p l) (g : Gr X W N) (hq : q.length ≤ n) (hm : ∀ a, a < N → ab (gE X W Y q a) ≤ M) : ab (rE X W Y l) ≤ M := h.rf.max g hq (fun i hi => hm _ (h.rf.lt i hi))
theorem Bst.uniq (h : Bst X W Y N n p l) (g : Gr X W N) (hq : q.length ≤ n) (hm : ∀ a, a < N → ab (gE X W Y q a) ≤ ab (rE X W Y l)) (k : Nat) : co p k = co q k := by
 have h1 := h.rf.eq g h.len (fun i hi => h.max _ (h.rf.lt i hi))
 have h2 := h.rf.eq g hq (fun i hi => hm _ (h.rf.lt i hi))
 exact h.rf.uniq g h.len hq (fun i hi => (h1 i hi).trans (h2 i hi).symm) k
theorem Bst.same (h : Bst X W Y N n p l) (h2 : Bst X W Y N n q m) (g : Gr X W N) : ab (rE X W Y l) = ab (rE X W Y m) ∧ ∀ k, co p k = co q k := by
 have e : ab (rE X W Y l) = ab (rE X W Y m) := Rat.le_antisymm (h.le g h2.len h2.max) (h2.le g h.len h.max)
 exact ⟨e, fun k => h.uniq g h2.len (fun a ha => by rw [e]; exact h2.max a ha) k⟩
theorem Bst.at (h : Bst X W Y N n p l) (g : Gr X W N) (i : Nat) (hi : i ≤ n) : gE X W Y p (l.getD i 0) = sg1 i * rE X W Y l := h.rf.eq g h.len (fun i hi => h.max _ (h.rf.lt i hi)) i hi
theorem ab_sg (i : Nat) (x : Rat) : ab (sg1 i * x) = ab x := by unfold sg1 ab; split <;> split <;> split <;> grind
theorem Bst.at_ab (h : Bst X W Y N n p l) (g : Gr X W N) (i : Nat) (hi : i ≤ n) : ab (gE X W Y p (l.getD i 0)) = ab (rE X W Y l) := by rw [h.at g i hi, ab_sg]
end
end Nt
namespace Nt
open Pol
section
variable {x w y g c : Nat → Rat} {n i j m : Nat} {z E : Rat}
def nP (x g : Nat → Rat) (z : Rat) : Nat → Rat
 | 0 => 0
 | i + 1 => nP x g z i + dd x g i 0 * om x 0 z i
theorem nP_nwt : ∀ n, nP x g z (n + 1) = nwt x g 0 z n
 | 0 => by show 0 + g 0 * 1 = g 0; grind
 | n + 1 => by
  show nP x g z (n + 1) + dd x g (n + 1) 0 * om x 0 z (n + 1) = _
  rw [nP_nwt n]; rfl
def nT (x c : Nat → Rat) (z : Rat) : Nat → Nat → Rat
 | 0, i => 0
 | j + 1, i => c i + (z - x i) * nT x c z j (i + 1)
theorem nP_nT : ∀ j i, nP x g z i + om x 0 z i * nT x (fun t => dd x g t 0) z j i = nP x g z (i + j)
 | 0, i => by show nP x g z i + om x 0 z i * 0 = nP x g z i; grind
 | j + 1, i => by
  have h := nP_nT j (i + 1)
  have e1 : nP x g z (i + 1) = nP x g z i + dd x g i 0 * om x 0 z i := rfl
  have e2 : om x 0 z (i + 1) = om x 0 z i * (z - x (0 + i)) := rfl
  rw [Nat.zero_add] at e2
  show nP x g z i + om x 0 z i * (dd x g i 0 + (z - x i) * nT x (fun t => dd x g t 0) z j (i + 1)) = _
  rw [show i + (j + 1) = i + 1 + j by omega, ← h, e1, e2]
  grind
def nwL (x c : Nat → Rat) (n : Nat) : Nat → List Rat
 | 0 => []
 | j + 1 => trimQ (addQ (trimQ (mulQ (nwL x c n j) [-x (n - (j + 1)), ((1 : Int) : Rat)])) [c (n - (j + 1))])
theorem nwL_len : ∀ j, (nwL x c n j).length ≤ j
 | 0 => Nat.le_refl _
 | j + 1 => Nat.le_trans (zzh _) (by
  rw [addQ_len]
  have h := zxt (nwL_len j) (show ([-x (n - (j + 1)), ((1 : Int) : Rat)] : List Rat).length ≤ 2 from Nat.le_refl 2)
  have h1 : ([c (n - (j + 1))] : List Rat).length = 1 := rfl
  omega)
theorem nwL_ev : ∀ j, j ≤ n → evL (nwL x c n j) z = nT x c z j (n - j)
 | 0, _ => rfl
 | j + 1, hj => by
  show evL (trimQ (addQ (trimQ (mulQ (nwL x c n j) [-x (n - (j + 1)), ((1 : Int) : Rat)])) [c (n - (j + 1))])) z = c (n - (j + 1)) + (z - x (n - (j + 1))) * nT x c z j (n - (j + 1) + 1)
  rw [ev_addL, ev_mulL, nwL_ev j xq, show n - (j + 1) + 1 = n - j by omega]
  have e1 : evL [-x (n - (j + 1)), ((1 : Int) : Rat)] z = z - x (n - (j + 1)) := by
   show -x (n - (j + 1)) + z * (((1 : Int) : Rat) + z * 0) = _
   rw [show ((1 : Int) : Rat) = 1 from rfl]; grind
  have e2 : evL [c (n - (j + 1))] z = c (n - (j + 1)) := by show _ + z * 0 = _; grind
  rw [e1, e2]; grind
theorem lvl_ok (hx : Asc x n) (hw : ∀ i, i ≤ n → 0 < w i) (h1 : 1 ≤ n) (hc : ∀ i, i < n → c i = dd x y i 0 - lvE x w y n * dd x (fun i => sg1 i / w i) i 0) (hm : m ≤ n) : w m * (y m - evL (nwL x c n n) (x m)) = sg1 m * lvE x w y n := by
 have hg : ∀ t, dd x (fun i => -lvE x w y n * (sg1 i / w i) + y i) t 0 = dd x y t 0 - lvE x w y n * dd x (fun i => sg1 i / w i) t 0 := fun t => by
  rw [dd_lin (c := -lvE x w y n) (g := fun i => sg1 i / w i) (h := y)]; grind
 have h0 : dd x (fun i => -lvE x w y n * (sg1 i / w i) + y i) n 0 = 0 := by
  rw [hg, ← lvE_mul hx hw]; unfold lvS; grind
 have hT : ∀ j i z, i + j ≤ n → nT x c z j i = nT x (fun t => dd x (fun i => -lvE x w y n * (sg1 i / w i) + y i) t 0) z j i := fun j => by
  induction j with
  | zero => intro i z _; rfl
  | succ j ih =>
   intro i z hi
   show c i + (z - x i) * nT x c z j (i + 1) = _
   rw [ih (i + 1) z xq, hc i xq, ← hg]; rfl
 have h2 : evL (nwL x c n n) (x m) = nwt x (fun i => -lvE x w y n * (sg1 i / w i) + y i) 0 (x m) n := by
  rw [nwL_ev n qyl, Nat.sub_self, hT n 0 _ xq]
  have h3 := nP_nT (x := x) (g := fun i => -lvE x w y n * (sg1 i / w i) + y i) (z := x m) n 0
  obtain ⟨k, rfl⟩ : ∃ k, n = k + 1 := ⟨n - 1, by omega⟩
  have h4 : nwt x (fun i => -lvE x w y (k + 1) * (sg1 i / w i) + y i) 0 (x m) (k + 1) = nwt x (fun i => -lvE x w y (k + 1) * (sg1 i / w i) + y i) 0 (x m) k := by
   show _ + dd x (fun i => -lvE x w y (k + 1) * (sg1 i / w i) + y i) (k + 1) 0 * _ = _
   rw [h0]; grind
  rw [Nat.zero_add] at h3
  rw [h4, ← nP_nwt, ← h3]
  show _ = 0 + 1 * _
  grind
 have h5 := nwt_at (g := fun i => -lvE x w y n * (sg1 i / w i) + y i) hx n 0 m xq hm
 rw [Nat.zero_add] at h5
 rw [h2, h5]
 have hp := hw m hm
 have h6 : w m * (w m)⁻¹ = 1 := Rat.mul_inv_cancel _ (fun e => by rw [e] at hp; grind)
 show w m * (y m - (-lvE x w y n * (sg1 m / w m) + y m)) = _
 rw [Rat.div_def]
 generalize (w m)⁻¹ = v at h6
 have : w m * (y m - (-lvE x w y n * (sg1 m * v) + y m)) = (w m * v) * (sg1 m * lvE x w y n) := by grind
 rw [this, h6, Rat.one_mul]
end
end Nt
namespace Nt
open Pol
section
variable {X W Y : Nat → Rat} {N n a i j : Nat} {l : List Nat} {q : List Rat}
theorem set_Rf (h : Rf N l n) (ha : a < N) (hj : j ≤ n) (hlo : ∀ i, i < j → l.getD i 0 < a) (hhi : ∀ i, j < i → i ≤ n → a < l.getD i 0) : Rf N (l.set j a) n := by
 have hl := h.len
 refine ⟨by rw [List.length_set]; exact hl, fun i k hik hk => ?_, fun i hi => ?_⟩
 ·rw [getD_set9 xq, getD_set9 xq]
  by_cases e1 : i = j
  ·rw [if_pos e1, if_neg xq]; exact hhi k xq hk
  rw [if_neg e1]
  by_cases e2 : k = j
  ·rw [if_pos e2]; exact hlo i xq
  rw [if_neg e2]; exact h.asc i k hik hk
 rw [getD_set9 xq]
 split
 ·exact ha
 exact h.lt i hi
theorem set_grow (h : Rf N l n) (g : Gr X W N) (ha : a < N) (hj : j ≤ n) (hlo : ∀ i, i < j → l.getD i 0 < a) (hhi : ∀ i, j < i → i ≤ n → a < l.getD i 0) (hq : q.length ≤ n) (he : ∀ i, i ≤ n → gE X W Y q (l.getD i 0) = 0) (hM : 0 < ab (gE X W Y q a)) : 0 < ab (rE X W Y (l.set j a)) := by
 have hl := h.len
 have hR := set_Rf h ha hj hlo hhi
 have hnew : (l.set j a).getD j 0 = a := by rw [getD_set9 xq, if_pos rfl]
 have hold : ∀ i, i ≤ n → i ≠ j → sg1 i * gE X W Y q ((l.set j a).getD i 0) = 0 := fun i hi hij => by
  rw [getD_set9 xq, if_neg hij, he i hi]; exact Rat.mul_zero _
 refine hR.grow (q := q) g hq ?_ ⟨j, hj, by rw [hnew]; exact hM⟩ Rat.le_refl
 by_cases hs : 0 ≤ sg1 j * gE X W Y q a
 ·refine .inl fun i hi => ?_
  by_cases e : i = j
  ·rw [e, hnew]; exact hs
  rw [hold i hi e]; exact Rat.le_refl
 refine .inr fun i hi => ?_
 by_cases e : i = j
 ·rw [e, hnew]; grind
 rw [hold i hi e]; grind
theorem first_step (hN : n + 1 ≤ N) (hn : 1 ≤ n) (i : Nat) : i * (N - 1) / n + 1 ≤ (i + 1) * (N - 1) / n := by
 rw [← Nat.add_div_right _ (show 0 < n by omega), Nat.succ_mul]
 exact Nat.div_le_div_right xq
theorem first_lt (hN : n + 1 ≤ N) (hn : 1 ≤ n) (i : Nat) : ∀ j, i < j → i * (N - 1) / n < j * (N - 1) / n
 | 0, h => by omega
 | j + 1, h => by
  have h1 := first_step hN hn j
  by_cases e : i = j
  ·subst e; omega
  have := first_lt hN hn i j xq; omega
theorem first_Rf (hN : n + 1 ≤ N) (hn : 1 ≤ n) : Rf N ((List.range (n + 1)).map fun i => i * (N - 1) / n) n := by
 have hat : ∀ i, i ≤ n → ((List.range (n + 1)).map fun i => i * (N - 1) / n).getD i 0 = i * (N - 1) / n := fun i hi => by
  rw [qyg, List.getElem?_map, List.getElem?_range xq]; rfl
 refine ⟨by simp, fun i j hij hj => ?_, fun i hi => ?_⟩
 ·rw [hat i xq, hat j hj]; exact first_lt hN hn i j hij
 rw [hat i hi]
 have h1 : i * (N - 1) / n ≤ N - 1 := by
  refine Nat.div_le_of_le_mul ?_
  exact Nat.mul_le_mul_right _ hi
 omega
end
end Nt
namespace Nt
section
variable {x y : Nat → Rat} {o i k : Nat}
def dT (x y : Nat → Rat) (o i : Nat) : Rat := dd x y (min o i) (i - min o i)
theorem dT_0 : dT x y 0 i = y i := by unfold dT; rw [Nat.zero_min]; rfl
theorem dT_s (h : o + 1 ≤ i) : dT x y (o + 1) i = (dT x y o i - dT x y o (i - 1)) / (x i - x (i - (o + 1))) := by
 unfold dT
 rw [Nat.min_eq_left h, Nat.min_eq_left (show o ≤ i by omega), Nat.min_eq_left (show o ≤ i - 1 by omega)]
 show (dd x y o (i - (o + 1) + 1) - dd x y o (i - (o + 1))) / (x (i - (o + 1) + o + 1) - x (i - (o + 1))) = _
 rw [show i - (o + 1) + 1 = i - o by omega, show i - (o + 1) + o + 1 = i by omega, show i - 1 - o = i - (o + 1) by omega]
theorem dT_keep (h : i ≤ o) : dT x y (o + 1) i = dT x y o i := by
 unfold dT; rw [Nat.min_eq_right (show i ≤ o + 1 by omega), Nat.min_eq_right h]
theorem dT_end (h : i ≤ k) : dT x y k i = dd x y i 0 := by
 unfold dT; rw [Nat.min_eq_right h, Nat.sub_self]
end
end Nt
open Go.RowKit
section
variable {P : Program} {ops : Array Oper} {w0 : Base} {u0 : World} {S T : St} {B : Tmp → Nat} {a : Act} {w w' u u' : World} {o : Oper} {p : List Tmp} {seq : Bool} {rest : List (Oper × List Tmp)} {K : St → World → Prop}
def SL (P : Program) (w0 : Base) (u0 : World) (ops : Array Oper) (l : List Oper) (S : St) (u : World) (Q : MP) : Prop :=
 ∀ B a w u', Ext u u' → Rep w0 u0 S B a w u' → wpList P ops (fun e a' w' => ∃ S' B' u'', Rep w0 u0 S' B' a' w' u'' ∧ Q.f e S' u'') l a w
theorem sl_key {Q : Exit → Act → World → Prop} (hK : Mono K) (l2 : List Oper) (hQ : ∀ S u, K S u → ∀ B a w, Rep w0 u0 S B a w u → wpList P ops Q l2 a w) :
  ∀ (l : List Oper) (S : St) (B : Tmp → Nat) (a : Act) (w u : World), Rep w0 u0 S B a w u → sym P ops w0 u0 true (l.map fun o => (o, [])) S u K → wpList P ops Q (l ++ l2) a w := by
 intro l
 induction l with
 | nil => intro S B a w u hr h; exact hQ S u h B a w hr
 | cons o l ih =>
  intro S B a w u hr h
  have hs := one_sound (Q := Q) (zwd hK) h (Ext.refl _) hr
  refine wpList_step fun K' hK' => ?_
  have hfin : ∀ a' w', (∃ S' B' u'', Rep w0 u0 S' B' a' w' u'' ∧ (true = false → Ext u u'') ∧ sym P ops w0 u0 true (l.map fun o => (o, [])) S' u'' K) → K' a' w' := by
   rintro a' w' ⟨S', B', u'', g1, _, g3⟩
   exact hK' _ _ (ih S' B' a' w' u'' g1 g3)
  show if Region.wanted o (yielded ops a.tmps) = true then _ else _
  split
  ·rename_i hw
   rw [if_pos hw] at hs
   exact Oper.wp_mono hfin hs
  rename_i hw
  rw [if_neg hw] at hs
  exact hfin _ _ hs
end
theorem sy_maxN {P : Program} {ops : Array Oper} {w0 : Base} {u0 : World} {S : St} {u : World} {seq : Bool} {o : Oper} {p : List Tmp} {rest : List (Oper × List Tmp)} {K : St → World → Prop} (d : Tmp) {x y : Operand} {k0 : IntKind} {n m v : Int} {tys : Array TypeId} (hv : (if m > n then m else n) = v)
  (k : sym P ops w0 u0 seq rest (S.set d (.v (.int k0 v))) u K)
  (hw : Wants ops o S := by exact zwf xj) (hd : o.dst = some d := by kernel_rfl) (hop : o.op = .call { callee := .builtin .max, args := #[x, y], argTypes := tys } := by rfl) (hf : freeB S d = true := by kernel_rfl)
  (hx : evO S x = some (.v (.int k0 n)) := by rfl) (hy : evO S y = some (.v (.int k0 m)) := by rfl) : sym P ops w0 u0 seq ((o, p) :: rest) S u K := by
 have hrun : ∀ ty w, (Builtin.max_ tys ty #[.int k0 n, .int k0 m]).run P w = .ok (.int k0 v) w := by
  intro ty w
  rw [← hv]
  rfl
 refine .inl ⟨by rw [hop]; exact (by decide : (0 : Nat) ≠ 2), .set (.v (.int k0 v)), ⟨zxy hd hf, .inl ⟨(fun t ht => by cases ht), fun B a w u' hr he hdt => ⟨hw B a hr, ?_⟩⟩⟩, ?_⟩
 ·unfold execOp
  simp only [hop, resolve, invoke, builtin, Sem.run_bind, Sem.run_pure, Result.andThen_ok, List.map_toArray, List.map_cons, List.map_nil, ev_of hr hx, ev_of hr hy, SV.conc, hrun]
 show sym P ops w0 u0 seq rest (S.put o.dst (some _)) u K
 rw [hd]; exact k
section
variable {u u' u1 : World} {L : List RL} {r : RL} {l : List Rat} {q : Rat} {K n b b6 : Nat} {cs : List Value} {t t6 : TypeId}
theorem SlR.extB0 {A : Option Addr} {m c : Nat} {z : List Int} (h : SlR .u32 u A m c z) (hb : u.heap[b]? = some (.cells cs.toArray t (0, 0))) (hn : ∀ v ∈ cs, ∀ y, v ≠ .int .u32 y) (e : ExtB b u u') : SlR .u32 u' A m c z := by
 obtain ⟨h1, h2, h3, h4⟩ := h
 refine ⟨h1, h2, h3, fun hp => ?_⟩
 obtain ⟨b', o, rfl, hlt, hc⟩ := h4 hp
 have hne : b' ≠ b := by
  rintro rfl
  have := hc 0 hp
  rw [cells_at hb] at this
  have h9 : cs[o + 0]? = some (.int .u32 (z[0]?.getD 0)) := by simpa using this
  exact hn _ (List.mem_of_getElem? h9) _ rfl
 refine ⟨b', o, rfl, Nat.lt_of_lt_of_le hlt e.size, fun i hi => ?_⟩
 have := hc i hi
 unfold World.cell? at this ⊢
 cases hb' : u.heap[b']? with
 | none => simp only [hb'] at this; cases this
 | some ob =>
  simp only [hb'] at this
  cases ob with
  | cells cs t' fr => rw [e.vis b' _ hne hb' (by unfold hidO; exact fun e => by cases e)]; exact this
  | _ => cases this
theorem RatN.extB0 (h : RatN u r q K) (hb : u.heap[b]? = some (.cells cs.toArray t (0, 0))) (hn : ∀ v ∈ cs, ∀ y, v ≠ .int .u32 y) (e : ExtB b u u') : RatN u' r q K :=
 ⟨⟨h.1.1, h.1.2.1, h.1.2.2.1.extB0 hb hn e, h.1.2.2.2⟩, h.2.1, h.2.2.1.extB0 hb hn e, h.2.2.2⟩
end
def setW (u : World) (b : Nat) (ob : Obj) : World := { u with heap := u.heap.setIfInBounds b ob }
structure ExtF (F : List Nat) (u u' : World) : Prop where
 size : u.heap.size ≤ u'.heap.size
 vis : ∀ (k : Nat) (o : Obj), k ∉ F → u.heap[k]? = some o → o ≠ hidO → u'.heap[k]? = some o
section
variable {P : Program} {ops : Array Oper} {w0 : Base} {u0 : World} {S T : St} {B : Tmp → Nat} {a : Act} {w w' u u' u'' v : World} {o : Oper} {p : List Tmp} {seq : Bool} {rest : List (Oper × List Tmp)} {K : St → World → Prop} {F : List Nat} {b : Nat} {ob : Obj}
theorem setW_size : (setW u b ob).heap.size = u.heap.size := by simp [setW]
theorem setW_ne {k : Nat} (h : k ≠ b) : (setW u b ob).heap[k]? = u.heap[k]? := by simp only [setW]; rw [Array.getElem?_setIfInBounds_ne (Ne.symm h)]
theorem setW_eq (h : b < u.heap.size) : (setW u b ob).heap[b]? = some ob := by simp [setW, h]
theorem ExtF.pre {u2 : World} (e : Ext u u') (h : ExtF F u' u2) : ExtF F u u2 := ⟨Nat.le_trans e.size h.size, fun k o hk ho hh => h.vis k o hk (e.vis k o ho hh) hh⟩
theorem ExtF.toB (h : ExtF [b] u u') : ExtB b u u' := ⟨h.size, fun k o hk ho hh => h.vis k o (by simpa using hk) ho hh⟩
theorem GrowF.extF (h : GrowF F u u') : ExtF F u u' := ⟨h.size, fun k o hk ho _ => (h.old k (zxa ho) hk).trans ho⟩
def MayB (w0 : Base) (u0 : World) (b : Nat) : Prop := u0.heap.size ≤ b ∨ b ∈ w0.free
theorem Rep.mut (h : Rep w0 u0 S B a w u) (hF : ∀ b ∈ F, MayB w0 u0 b ∧ ∃ ob, u.heap[b]? = some ob ∧ ob ≠ hidO) (hd : Dat u'' w') (hb : Bel ⟨w, none, F⟩ w') (hg : GrowF F u u'') : Rep w0 u0 S B a w' u'' := by
 have hno : ∀ b ∈ F, b < u0.heap.size → b ∈ w0.free := fun b hm hlt => by
  rcases (hF b hm).1 with h1 | h1
  ·omega
  exact h1
 refine ⟨h.regs, h.wf, h.defers, fun t V hV => ?_, h.inj, hd, h.base, ⟨Nat.le_trans h.grow.size hg.size, fun b hlt hf => ?_⟩, ?_⟩
 ·obtain ⟨v1, v2, v3⟩ := h.var t V hV
  have hn : B t ∉ F := fun hm => by
   obtain ⟨_, ob, e1, e2⟩ := hF _ hm
   rw [v2] at e1; injection e1 with e1; exact e2 e1.symm
  exact ⟨by rw [hb.block _ (zxa v1) (fun t e => by cases e) hn]; exact v1, by rw [hg.old _ (zxa v2) hn]; exact v2, v3⟩
 ·rw [hg.old b (Nat.lt_of_lt_of_le hlt h.grow.size) (fun hm => hf (hno b hm hlt))]
  exact h.grow.old b hlt hf
 have hbs := h.bel
 refine ⟨hb.os.trans hbs.os, hb.tape.trans hbs.tape, hb.output.trans hbs.output, Nat.le_trans hbs.size hb.size, fun k hk hl hf => ?_⟩
 rw [hb.block k (Nat.lt_of_lt_of_le hk hbs.size) (fun t e => by cases e) (fun hm => hf (hno k hm (by rw [h.base]; exact hk)))]
 exact hbs.block k hk hl hf
theorem setW_dat {cs : Array Value} {ty : TypeId} (h : Dat u w) (hw : w'.heap[b]? = some ob) (ho : OnlyB b w w') : Dat (setW u b ob) w' := by
 refine ⟨by rw [setW_size, h.size, ho.size], fun k o hk hh => ?_⟩
 by_cases e : k = b
 ·subst e
  have hlt := zxa hk
  rw [setW_size] at hlt
  rw [setW_eq hlt] at hk
  rw [hw]; exact hk
 rw [setW_ne e] at hk
 rw [ho.far k e]; exact h.vis k o hk hh
theorem setW_growF : GrowF [b] u (setW u b ob) := ⟨by rw [setW_size]; exact Nat.le_refl _, fun k hk hf => setW_ne (by simpa using hf)⟩
theorem onlyB_bel (h : OnlyB b w w') : Bel ⟨w, none, [b]⟩ w' := ⟨h.os, h.tape, h.output, Nat.le_of_eq h.size.symm, fun k hk _ hf => h.far k (by simpa using hf)⟩
theorem ev_any {z : Operand} {x : SV} (hr : RegOK S B a) (h : evO S z = some x) : a.eval z = x.conc B := ev_eval hr h
theorem sy_storeD {T : TypeId} {r : Tmp} {z : Operand} {v : Value} {agg : Bool} {n off : Nat} {cs : List Value} {ty : TypeId} (hub : u.heap[b]? = some (.cells cs.toArray ty (0, 0))) (hb : MayB w0 u0 b) (hT : TyIs P T agg n) (hl : off + n ≤ cs.length)
  (k : ∀ u1, u1.heap[b]? = some (.cells (setL cs off v.cells.toList).toArray ty (0, 0)) → ExtB b u u1 → sym P ops w0 u0 true rest S u1 K)
  (hw : Wants ops o S := by exact zwf xj) (hd : o.dst = none := by kernel_rfl) (hop : o.op = .store T (.tmp r) z := by rfl) (hr : S.reg r = some (.v (.pointer (some ⟨b, off, none⟩))) := by rfl) (hz : evO S z = some (.v v) := by rfl)
  (hn : v.cells.size = n := by kernel_rfl) (hone : v.cells.toList.all Value.oneCell' = true := by kernel_rfl) : sym P ops w0 u0 true ((o, p) :: rest) S u K := by
 refine .inr (.inr (.inl ⟨.inl rfl, fun B a w u' he hrep => ⟨hw B a hrep.regs, ?_⟩⟩))
 have hub' := he.cells hub
 have hwb := hrep.dat.ext.cells hub'
 obtain ⟨w', k1, k2, k3⟩ := run_storeCells (P := P) (b := b) (ty := ty) (base := off) v.cells.toList 0 w cs hwb yw (List.all_eq_true.1 hone)
 have hev : a.eval (.tmp r) = .pointer (some ⟨b, off, none⟩) := hrep.regs.eval hr
 have hez : a.eval z = v := ev_any hrep.regs hz
 have e2 : (Instr.storeAt T (.pointer (some ⟨b, off, none⟩)) v).run P w = .ok () w' := by
  have e3 : (Instr.storeAt T (.pointer (some ⟨b, off, none⟩)) v).run P w = (storeVar T ⟨b, off, none⟩ v).run P w := rfl
  rw [e3]
  unfold storeVar
  rw [run_bind_ok (hT w).2, if_neg (by simp [hn])]
  exact k1
 have e1 : (execOp a.eval o).run P w = .ok .skip w' := by
  have e4 : (execOp a.eval o).run P w = (do Instr.storeAt T (a.eval (.tmp r)) (a.eval z); pure Next.skip : Sem Next).run P w := by
   unfold execOp; rw [hop]
  rw [e4, hev, hez, run_bind_ok e2]
  rfl
 unfold Oper.wp
 rw [e1]
 simp only [Nat.add_zero] at k2
 have hlt := zxa hub'
 have hdat : Dat (setW u' b (.cells (setL cs off v.cells.toList).toArray ty (0, 0))) w' := setW_dat (cs := #[]) (ty := 0) hrep.dat k2 k3
 have hr2 := hrep.mut (F := [b]) (fun b' hm => by simp at hm; subst hm; exact ⟨hb, _, hub', by unfold hidO; intro e; cases e⟩) hdat (onlyB_bel k3) setW_growF
 refine ⟨S, B, _, _, ?_, (fun e => by cases e), (fun e => by cases e), Ext.refl _, k _ (setW_eq hlt) (ExtF.toB (.pre he setW_growF.extF))⟩
 rw [hd]; exact hr2
def grownW (u w' : World) (b g : Nat) (ob : Obj) : World := setW (setW (hide u w') b hidO) g ob
theorem grownW_size {g : Nat} (h : u.heap.size ≤ w'.heap.size) : (grownW u w' b g ob).heap.size = w'.heap.size := by unfold grownW; rw [setW_size, setW_size, zwq h]
theorem sy_dataN (d : Tmp) (V : Vr) (n : Nat) (k : ∀ b u1, Ext u u1 → u1.heap[b]? = some (.cells V.cs.toArray V.ty (0, 0)) → u0.heap.size ≤ b → u.heap.size ≤ b → sym P ops w0 u0 false rest (S.set d (.v (.slice (some ⟨b, 0, none⟩) n n))) u1 K) (hp : p ≠ [] := by exact List.cons_ne_nil _ _)
  (hw : Wants ops o S := by exact zwf xj) (hd : o.dst = some d := by kernel_rfl) (hk : opK o.op ≠ 2 := by decide) (hf : (freeB S d && knownB S o) = true := by kernel_rfl) (hv : S.var d = none := by kernel_rfl)
  (hrun : ∀ B w, (execOp (rho S B) o).run P w = .ok (.value (.slice (some ⟨w.heap.size, 0, none⟩) n n)) (w.alloc (.cells V.cs.toArray V.ty)) := by intro _ _; kernel_rfl) : sym P ops w0 u0 false ((o, p) :: rest) S u K := by
 simp only [Bool.and_eq_true] at hf
 refine .inr (.inr (.inr (.inr ⟨rfl, hp, hk, V, n, ⟨zxy hd hf.1, d, hd, hv, fun B a w hr => ⟨hw B a hr, ?_⟩⟩, fun b u1 e1 b1 b2 b3 => ?_⟩)))
 ·rw [exec_rho hr hf.2 hk]; exact hrun B w
 rw [hd]; exact k b u1 e1 b1 b2 b3
theorem sy_dataF (d : Tmp) (V : Vr) (n : Nat) (k : ∀ b u1, Ext u u1 → u1.heap[b]? = some (.cells V.cs.toArray V.ty (0, 0)) → u0.heap.size ≤ b → u.heap.size ≤ b → sym P ops w0 u0 true rest (S.set d (.v (.slice (some ⟨b, 0, none⟩) n n))) u1 K)
  (hw : Wants ops o S := by exact zwf xj) (hd : o.dst = some d := by kernel_rfl) (hk : opK o.op ≠ 2 := by decide) (hf : (freeB S d && knownB S o) = true := by kernel_rfl)
  (hrun : ∀ B w, (execOp (rho S B) o).run P w = .ok (.value (.slice (some ⟨w.heap.size, 0, none⟩) n n)) (w.alloc (.cells V.cs.toArray V.ty)) := by intro _ _; kernel_rfl) : sym P ops w0 u0 true ((o, p) :: rest) S u K := by
 simp only [Bool.and_eq_true] at hf
 refine .inr (.inr (.inl ⟨.inl rfl, fun B a w u' he hrep => ⟨hw B a hrep.regs, ?_⟩⟩))
 unfold Oper.wp
 rw [exec_rho hrep.regs hf.2 hk, hrun B w]
 have hs : u'.heap.size = w.heap.size := hrep.dat.size
 refine ⟨S.set d (.v (.slice (some ⟨w.heap.size, 0, none⟩) n n)), B, u'.alloc (.cells V.cs.toArray V.ty), u'.alloc (.cells V.cs.toArray V.ty), ?_, (fun e => by cases e), (fun e => by cases e), Ext.refl _, k _ _ (he.trans (zxu _ _).ext) (by rw [← hs]; exact zxq _ _) (by rw [← hs]; exact hrep.grow.size) (by rw [← hs]; exact he.size)⟩
 rw [hd]
 exact (hrep.vis _).set (d := some d) (x := some (.v (.slice (some ⟨w.heap.size, 0, none⟩) n n))) (fun t e => by injection e with e; subst e; exact (zxy hd hf.1 d hd).1) (fun z e => by injection e with e; rw [← e]; rfl) (fun z t e ht => by injection e with e; rw [← e] at ht; cases ht)
theorem zc_mem {z : Array Value} {n : Nat} {v : Value} (hz : 0 < z.size) (h : v ∈ (Builtin.zeroCells z n).toList) : v ∈ z.toList := by
 unfold Builtin.zeroCells at h
 rw [Array.toList_map, List.mem_map] at h
 obtain ⟨i, _, rfl⟩ := h
 have hi := Nat.mod_lt i hz
 rw [getElem!_pos z (i % z.size) hi]
 simp
theorem app_all {T E : TypeId} {z : Value} {size bytes n cap m c g c1 : Nat} {cs0 news : List Value} {ad : Addr} {ty : TypeId} {cs : Array Value} (q : Value → Prop) (hT : P.underlying T = some (.slice E)) (hi : (P.info? E).map (fun i => (i.zero, i.size, i.bytes)) = some (some z, size, bytes)) (hzs : z.cells.size = size) (hsz : 0 < size)
  (hub : w.heap[b]? = some (.cells cs0.toArray E (0, 0))) (hn : n ≤ cap) (hcl : cs0.length = cap * size) (hl : news.length = m * size) (hnews : ∀ j x, news[j]? = some x → w.cell? (ad.add j) = some x) (h1 : ∀ x ∈ news, x.oneCell' = true) (h63 : n + m ≤ maxLen) (hbytes : (n + m) * bytes ≤ 140737488355328)
  (hrun : (Builtin.append_ #[T, T] ty #[.slice (some ⟨b, 0, none⟩) n cap, .slice (some ad) m c]).run P w = .ok (.slice (some ⟨g, 0, none⟩) (n + m) c1) w') (hgv : w'.heap[g]? = some (.cells cs E (0, 0))) (q0 : ∀ v ∈ cs0, q v) (q1 : ∀ v ∈ news, q v) (q2 : ∀ v ∈ z.cells.toList, q v) : ∀ v ∈ cs.toList, q v := by
 obtain ⟨i, hi1, hz, hs, hby⟩ := info_parts hi
 have hle : n * size ≤ cs0.length := by rw [hcl]; exact Nat.mul_le_mul_right _ hn
 by_cases hroom : n + m ≤ cap
 ·have hr := run_append_room (P := P) w T ty E i hT hi1 b n cap cs0.toArray hub ad m c news (by rw [hs]; exact hl) hnews h1 hroom (by rw [hs, hl, List.size_toArray, hcl, ← Nat.add_mul]; exact Nat.mul_le_mul_right _ hroom)
  rw [hrun] at hr
  injection hr with hv hw2
  injection hv with ha _ _
  injection ha with ha
  injection ha with hg _ _
  subst hg
  subst hw2
  rw [setRow_heap w g cs0.toArray _ E _ hub] at hgv
  injection hgv with hgv
  injection hgv with hgv _ _
  intro v hv
  rw [← hgv] at hv
  simp only [List.mem_append] at hv
  rcases hv with (hv | hv) | hv
  ·exact q0 v (List.mem_of_mem_take hv)
  ·exact q1 v hv
  exact q0 v (List.mem_of_mem_drop hv)
 have hr := run_append_grow (P := P) w T ty E i z hT hi1 hz ⟨b, 0, none⟩ n cap (cs0.take (n * size)) (by rw [List.length_take, hs, Nat.min_eq_left hle]) (fun j x hx => by
   rw [addr_add, Nat.zero_add, cell_of_row w b j cs0.toArray E (0, 0) hub]
   rw [List.getElem?_take] at hx
   split at hx
   ·simpa using hx
   cases hx) ad m c news (by rw [hs]; exact hl) hnews xq (by unfold maxLen at h63; omega) (growslice_fits xq (by rw [hby]; exact hbytes))
 rw [hrun] at hr
 injection hr with hv hw2
 injection hv with ha _ _
 injection ha with ha
 injection ha with hg _ _
 subst hg
 subst hw2
 have h9 := zxq w.drew (.cells ((cs0.take (n * size)).toArray ++ news.toArray ++ Builtin.zeroCells z.cells (grownCap w (n + m) cap E - (n + m))) E)
 have h8 : w.drew.heap.size = w.heap.size := rfl
 rw [h8, hgv] at h9
 injection h9 with h9
 injection h9 with h9 _ _
 intro v hv
 rw [h9] at hv
 simp only [Array.toList_append, List.mem_append] at hv
 rcases hv with (hv | hv) | hv
 ·exact q0 v (List.mem_of_mem_take hv)
 ·exact q1 v hv
 exact q2 v (zc_mem xq hv)
theorem app_all0 {T E : TypeId} {z : Value} {size bytes m c g c1 : Nat} {news : List Value} {ad : Addr} {ty : TypeId} {cs : Array Value} (q : Value → Prop) (hT : P.underlying T = some (.slice E)) (hi : (P.info? E).map (fun i => (i.zero, i.size, i.bytes)) = some (some z, size, bytes)) (hzs : z.cells.size = size) (hsz : 0 < size)
  (hl : news.length = m * size) (hnews : ∀ j x, news[j]? = some x → w.cell? (ad.add j) = some x) (hm : 0 < m) (h63 : m ≤ maxLen) (hbytes : m * bytes ≤ 140737488355328)
  (hrun : (Builtin.append_ #[T, T] ty #[qyn, .slice (some ad) m c]).run P w = .ok (.slice (some ⟨g, 0, none⟩) m c1) w') (hgv : w'.heap[g]? = some (.cells cs E (0, 0))) (q1 : ∀ v ∈ news, q v) (q2 : ∀ v ∈ z.cells.toList, q v) : ∀ v ∈ cs.toList, q v := by
 obtain ⟨i, hi1, hz, hs, hby⟩ := info_parts hi
 have hr := run_append_nil (P := P) w T ty E i z hT hi1 hz ad m c news (by rw [hs]; exact hl) hnews hm (by unfold maxLen at h63; omega) (by rw [hby]; omega)
 rw [hrun] at hr
 injection hr with hv hw2
 injection hv with ha _ _
 injection ha with ha
 injection ha with hg _ _
 subst hg
 subst hw2
 have h9 := zxq w.drew (.cells (news.toArray ++ Builtin.zeroCells z.cells (grownCap w m 0 E - m)) E)
 have h8 : w.drew.heap.size = w.heap.size := rfl
 rw [h8, hgv] at h9
 injection h9 with h9
 injection h9 with h9 _ _
 intro v hv
 rw [h9] at hv
 simp only [Array.toList_append, List.mem_append] at hv
 rcases hv with hv | hv
 ·exact q1 v hv
 exact q2 v (zc_mem xq hv)
theorem sy_appDp (d : Tmp) {T E : TypeId} {s x : Operand} {z : Value} {size bytes : Nat} {b2 off m c n cap : Nat} {cs0 : List Value} (news : List Value) (hT : P.underlying T = some (.slice E)) (hi : (P.info? E).map (fun i => (i.zero, i.size, i.bytes)) = some (some z, size, bytes)) (hzs : z.cells.size = size) (hsz : 0 < size)
  (hl : news.length = m * size) (hnews : ∀ j v, news[j]? = some v → u.cell? ⟨b2, off + j, none⟩ = some v) (h1 : ∀ v ∈ news, v.oneCell' = true) (hm : 0 < m) (h63 : n + m ≤ maxLen) (hbytes : (n + m) * bytes ≤ 140737488355328)
  (hn : n ≤ cap) (hcap : cap ≤ maxLen) (hcl : cs0.length = cap * size) (hub : u.heap[b]? = some (.cells cs0.toArray E (0, 0))) (hb : MayB w0 u0 b)
  (k : ∀ (g c1 : Nat) (cs : List Value) (u1 : World), n + m ≤ c1 → c1 ≤ maxLen → cs.length = c1 * size → cs.take ((n + m) * size) = cs0.take (n * size) ++ news → u1.heap[g]? = some (.cells cs.toArray E (0, 0)) → (g = b ∨ u.heap.size ≤ g) → ExtB b u u1 → (∀ q : Value → Prop, (∀ v ∈ cs0, q v) → (∀ v ∈ news, q v) → (∀ v ∈ z.cells.toList, q v) → ∀ v ∈ cs, q v) → sym P ops w0 u0 true rest (S.set d (.v (.slice (some ⟨g, 0, none⟩) (n + m) c1))) u1 K)
  (hw : Wants ops o S := by exact zwf xj) (hd : o.dst = some d := by kernel_rfl) (hop : o.op = .call { callee := .builtin .append, args := #[s, x], argTypes := #[T, T] } := by rfl) (hf : freeB S d = true := by kernel_rfl)
  (hs : evO S s = some (.v (.slice (some ⟨b, 0, none⟩) n cap)) := by rfl) (hx : evO S x = some (.v (.slice (some ⟨b2, off, none⟩) m c)) := by rfl) : sym P ops w0 u0 true ((o, p) :: rest) S u K := by
 refine .inr (.inr (.inl ⟨.inl rfl, fun B a w u' he hrep => ⟨hw B a hrep.regs, ?_⟩⟩))
 have hub' := he.cells hub
 have hwb := hrep.dat.ext.cells hub'
 have hltu := zxa hub'
 have hus : u'.heap.size = w.heap.size := hrep.dat.size
 obtain ⟨g, c1, cs, w', hrun, hgv, k1, k2, k3, k4, k5, k6⟩ := run_app (P := P) (u0 := { w with heap := #[] }) (w := w) (v := .slice (some ⟨b, 0, none⟩) n cap) (n := n) (xs := cs0.take (n * size)) (ad := ⟨b2, off, none⟩) (c := c) hT hi hzs hsz
  ⟨by rw [List.length_take, hcl]; exact Nat.min_eq_left (Nat.mul_le_mul_right _ hn), .inr ⟨b, cap, cs0.toArray, rfl, Nat.zero_le _, hwb, hn, hcap, by simpa using hcl, by simp⟩⟩ hl (fun j v hv => by rw [addr_add]; exact hrep.dat.ext.cell (he.cell (hnews j v hv))) h1 hm h63 hbytes (Nat.zero_le _) o.type
 unfold Oper.wp execOp
 simp only [hop, resolve, invoke, builtin, Sem.run_bind, Sem.run_pure, Result.andThen_ok, List.map_toArray, List.map_cons, List.map_nil, ev_of hrep.regs hs, ev_of hrep.regs hx, SV.conc, hrun]
 have aa : u'.heap.size ≤ w'.heap.size := by rw [hus]; exact k5.size
 have hgb : g = b ∨ g = w.heap.size := by
  rcases k6 with k6 | k6
  ·have : some b = some g := k6
   injection this with this; exact .inl this.symm
  exact .inr k6
 have hgw := zxa hgv
 have hcs : w'.heap[g]? = some (.cells cs.toList.toArray E (0, 0)) := by simpa using hgv
 have hkey : ∀ k, k < u'.heap.size → k ≠ b → w'.heap[k]? = w.heap[k]? := fun k hk hne => k5.block k xq (fun e => hne (by have : some k = some b := e; injection this))
 have hbw : b < w'.heap.size := by omega
 have hgl : g < (setW (hide u' w') b hidO).heap.size := by rw [setW_size, zwq aa]; exact hgw
 have hold : ∀ k, k < u'.heap.size → k ≠ b → (grownW u' w' b g (.cells cs.toList.toArray E (0, 0))).heap[k]? = u'.heap[k]? := fun k hk hne => by
  unfold grownW
  rw [setW_ne (by rcases hgb with h | h <;> omega), setW_ne hne, hide_old hk]
 have hdat : Dat (grownW u' w' b g (.cells cs.toList.toArray E (0, 0))) w' := by
  refine ⟨grownW_size aa, fun k ob hk hh => ?_⟩
  by_cases e : k = g
  ·subst e
   unfold grownW at hk
   rw [setW_eq hgl] at hk
   rw [hcs]; exact hk
  unfold grownW at hk
  rw [setW_ne e] at hk
  by_cases e2 : k = b
  ·subst e2
   rw [setW_eq (by rw [zwq aa]; exact hbw)] at hk
   injection hk with hk; exact absurd hk.symm hh
  rw [setW_ne e2] at hk
  rcases Nat.lt_or_ge k u'.heap.size with hlt | hge
  ·rw [hide_old hlt] at hk
   rw [hkey k hlt e2]; exact hrep.dat.vis k ob hk hh
  have := zxa hk
  rw [zwq aa] at this
  rw [hide_new hge this] at hk
  injection hk with hk; exact absurd hk.symm hh
 have hgr : GrowF [b] u' (grownW u' w' b g (.cells cs.toList.toArray E (0, 0))) := ⟨by rw [grownW_size aa]; exact aa, fun k hk hf => hold k hk (by simpa using hf)⟩
 have hr1 := hrep.mut (F := [b]) (fun b' hm => by simp at hm; subst hm; exact ⟨hb, _, hub', by unfold hidO; intro e; cases e⟩) hdat ⟨k5.os, k5.tape, k5.output, k5.size, fun k hk _ hf => hkey k (by rw [hus]; exact hk) (by simpa using hf)⟩ hgr
 have hr2 := hr1.set (d := o.dst) (x := some (.v (.slice (some ⟨g, 0, none⟩) (n + m) c1))) (v := .slice (some ⟨g, 0, none⟩) (n + m) c1) (fun s hs => (zxy hd hf s hs).1) (fun z e => by injection e with e; rw [← e]; rfl) (fun z t e ht => by injection e with e; rw [← e] at ht; cases ht)
 show ∃ S' B' u'' u2, Rep w0 u0 S' B' (a.put o.dst _) w' u'' ∧ _
 refine ⟨_, B, _, _, hr2, (fun e => by cases e), (fun e => by cases e), Ext.refl _, ?_⟩
 rw [hd]
 exact k g c1 cs.toList _ k1 k2 k3 k4 (by unfold grownW; rw [setW_eq hgl]) (by have := he.size; omega) (ExtF.toB (.pre he hgr.extF)) (fun q q0 q1 q2 => app_all q hT hi hzs hsz hwb hn hcl hl (fun j v hv => by rw [addr_add]; exact hrep.dat.ext.cell (he.cell (hnews j v hv))) h1 h63 hbytes hrun hgv q0 q1 q2)
theorem sy_appD0p (d : Tmp) {T E : TypeId} {s x : Operand} {z : Value} {size bytes : Nat} {b2 off m c : Nat} (news : List Value) (hT : P.underlying T = some (.slice E)) (hi : (P.info? E).map (fun i => (i.zero, i.size, i.bytes)) = some (some z, size, bytes)) (hzs : z.cells.size = size) (hsz : 0 < size)
  (hl : news.length = m * size) (hnews : ∀ j v, news[j]? = some v → u.cell? ⟨b2, off + j, none⟩ = some v) (h1 : ∀ v ∈ news, v.oneCell' = true) (hm : 0 < m) (h63 : m ≤ maxLen) (hbytes : m * bytes ≤ 140737488355328)
  (k : ∀ (g c1 : Nat) (cs : List Value) (u1 : World), m ≤ c1 → c1 ≤ maxLen → cs.length = c1 * size → cs.take (m * size) = news → u1.heap[g]? = some (.cells cs.toArray E (0, 0)) → u.heap.size ≤ g → u0.heap.size ≤ g → Ext u u1 → (∀ q : Value → Prop, (∀ v ∈ news, q v) → (∀ v ∈ z.cells.toList, q v) → ∀ v ∈ cs, q v) → sym P ops w0 u0 true rest (S.set d (.v (.slice (some ⟨g, 0, none⟩) m c1))) u1 K)
  (hw : Wants ops o S := by exact zwf xj) (hd : o.dst = some d := by kernel_rfl) (hop : o.op = .call { callee := .builtin .append, args := #[s, x], argTypes := #[T, T] } := by rfl) (hf : freeB S d = true := by kernel_rfl)
  (hs : evO S s = some (.v (qyn)) := by rfl) (hx : evO S x = some (.v (.slice (some ⟨b2, off, none⟩) m c)) := by rfl) : sym P ops w0 u0 true ((o, p) :: rest) S u K := by
 refine .inr (.inr (.inl ⟨.inl rfl, fun B a w u' he hrep => ⟨hw B a hrep.regs, ?_⟩⟩))
 have hus : u'.heap.size = w.heap.size := hrep.dat.size
 obtain ⟨g, c1, cs, w', hrun, hgv, k1, k2, k3, k4, k5, k6⟩ := run_app (P := P) (u0 := { w with heap := #[] }) (w := w) (v := qyn) (n := 0) (xs := []) (ad := ⟨b2, off, none⟩) (c := c) hT hi hzs hsz
  ⟨by simp, .inl ⟨rfl, rfl⟩⟩ hl (fun j v hv => by rw [addr_add]; exact hrep.dat.ext.cell (he.cell (hnews j v hv))) h1 hm (by rw [Nat.zero_add]; exact h63) (by rw [Nat.zero_add]; exact hbytes) (Nat.zero_le _) o.type
 rw [Nat.zero_add] at hrun k1 k4
 unfold Oper.wp execOp
 simp only [hop, resolve, invoke, builtin, Sem.run_bind, Sem.run_pure, Result.andThen_ok, List.map_toArray, List.map_cons, List.map_nil, ev_of hrep.regs hs, ev_of hrep.regs hx, SV.conc, hrun]
 have aa : u'.heap.size ≤ w'.heap.size := by rw [hus]; exact k5.size
 have hge : g = w.heap.size := by
  rcases k6 with k6 | k6
  ·cases k6
  exact k6
 have hgw := zxa hgv
 have hcs : w'.heap[g]? = some (.cells cs.toList.toArray E (0, 0)) := by simpa using hgv
 have hkey : ∀ k, k < u'.heap.size → w'.heap[k]? = w.heap[k]? := fun k hk => k5.block k xq (fun e => by cases e)
 have hgl : g < (hide u' w').heap.size := by rw [zwq aa]; exact hgw
 have hold : ∀ k, k < u'.heap.size → (setW (hide u' w') g (.cells cs.toList.toArray E (0, 0))).heap[k]? = u'.heap[k]? := fun k hk => by
  rw [setW_ne xq, hide_old hk]
 have hdat : Dat (setW (hide u' w') g (.cells cs.toList.toArray E (0, 0))) w' := by
  refine ⟨by rw [setW_size, zwq aa], fun k ob hk hh => ?_⟩
  by_cases e : k = g
  ·subst e
   rw [setW_eq hgl] at hk
   rw [hcs]; exact hk
  rw [setW_ne e] at hk
  rcases Nat.lt_or_ge k u'.heap.size with hlt | hge
  ·rw [hide_old hlt] at hk
   rw [hkey k hlt]; exact hrep.dat.vis k ob hk hh
  have := zxa hk
  rw [zwq aa] at this
  rw [hide_new hge this] at hk
  injection hk with hk; exact absurd hk.symm hh
 have hgr : GrowF [] u' (setW (hide u' w') g (.cells cs.toList.toArray E (0, 0))) := ⟨by rw [setW_size, zwq aa]; exact aa, fun k hk _ => hold k hk⟩
 have hr1 := hrep.mut (F := []) (fun b' hm => by cases hm) hdat ⟨k5.os, k5.tape, k5.output, k5.size, fun k hk _ _ => hkey k (by rw [hus]; exact hk)⟩ hgr
 have hr2 := hr1.set (d := o.dst) (x := some (.v (.slice (some ⟨g, 0, none⟩) m c1))) (v := .slice (some ⟨g, 0, none⟩) m c1) (fun s hs => (zxy hd hf s hs).1) (fun z e => by injection e with e; rw [← e]; rfl) (fun z t e ht => by injection e with e; rw [← e] at ht; cases ht)
 show ∃ S' B' u'' u2, Rep w0 u0 S' B' (a.put o.dst _) w' u'' ∧ _
 refine ⟨_, B, _, _, hr2, (fun e => by cases e), (fun e => by cases e), Ext.refl _, ?_⟩
 rw [hd]
 have hs1 := he.size
 have hs2 := hrep.grow.size
 exact k g c1 cs.toList _ k1 k2 k3 (by simpa using k4) (setW_eq hgl) xq xq (he.trans hgr.nil.ext) (fun q q1 q2 => app_all0 q hT hi hzs hsz hl (fun j v hv => by rw [addr_add]; exact hrep.dat.ext.cell (he.cell (hnews j v hv))) hm h63 hbytes hrun hgv q1 q2)
def PostF (F : List Nat) (u w : World) (Φ : Value → World → Prop) (e : Ending) (w' : World) : Prop :=
 ∃ v u', e = .returned v ∧ Dat u' w' ∧ Bel ⟨w, none, F⟩ w' ∧ GrowF F u u' ∧ Φ v u'
theorem calls_symF {f : FuncId} {fn : Func} {args : List Value} {Φ : Value → World → Prop} {rs : List ResultVar} {n : Nat} {c : Code} (hf : P.funcs[f]? = some fn) (hb : fn.body = some c) (hn : fn.ntmps = n) (hrs : fn.results = rs.toArray) (hargs : args.length ≤ n) (hl : rs.length ≤ 4) {w0 : World} (d : Dat u0 w0) (h : SW P ⟨w0, none, F⟩ u0 c (St.init n args) u0 (MP.fin P rs Φ)) :
  Calls P f args.toArray w0 (PostF F u0 w0 Φ) := by
 refine calls_of_wp hf hb (wp_mono (h (fun _ => 0) _ w0 u0 (Ext.refl _) ?_) ?_)
 ·refine ⟨⟨fun t x hx => ?_, by simp [St.init, hn]; omega⟩, ⟨fun r x t hx ht => ?_⟩, rfl, (fun t V h => by cases h), (fun t t' V V' h => by cases h), d, d.size, GrowF.refl _ _, ⟨rfl, rfl, rfl, Nat.le_refl _, fun _ _ _ _ => rfl⟩⟩
  ·simp only [St.init, Option.map_eq_some_iff] at hx
   obtain ⟨v, h1, rfl⟩ := hx
   have hlt : t < args.toArray.size := by have := (List.getElem?_eq_some_iff.1 h1).1; simpa using this
   rw [Array.getElem?_append_left hlt]
   show args.toArray[t]? = some v
   simpa using h1
  simp only [St.init, Option.map_eq_some_iff] at hx
  obtain ⟨v, h1, rfl⟩ := hx
  cases ht
 rintro ex a' w' ⟨S', B', u'', r1, r3⟩
 have key : (∃ xs pubs, resAll P S' rs xs ∧ (∀ t ∈ pubs, ∃ V, S'.var t = some V) ∧ ∀ B u1, Ext u'' u1 → Visible S' B u1 pubs → Φ (tupV (xs.map (SV.conc B))) u1) → a'.defers = [] ∧ ∃ v, (results fn a'.tmps).run P w' = .ok v w' ∧ PostF F u0 w0 Φ (.returned v) w' := by
  rintro ⟨xs, pubs, k1, k2, k3⟩
  refine ⟨r1.defers, _, results_eq hrs k1 r1 hl, _, pubW u'' w' (pubs.map B'), rfl, pubW_dat r1.dat, ⟨r1.bel.os, r1.bel.tape, r1.bel.output, r1.bel.size, fun k hk hl hf => r1.bel.block k hk (fun t e => by cases e) hf⟩, pubW_grow r1.grow (fun b hb => ?_), k3 B' _ (pubW_ext r1.dat) (fun t ht V hV => ?_)⟩
  ·obtain ⟨t, ht, rfl⟩ := List.mem_map.1 hb
   obtain ⟨V, hV⟩ := k2 t ht
   have ho := (r1.var t V hV).2.2
   rcases Nat.lt_or_ge t S'.n with hs3 | hs3
   ·exact ho.1 hs3
   exact absurd (ho.2 hs3) zv
  obtain ⟨v1, v2, _⟩ := r1.var t V hV
  rw [pubW_in (List.mem_map_of_mem ht) (zxa v2) r1.dat.size]
  exact v1
 cases ex with
 | ret => exact key r3
 | normal => exact key r3
 | _ => exact r3.elim
theorem zwk (F : List Nat) (d : Tmp) (f : FuncId) (args : List Value) {Φ : Value → World → Prop} (hF : ∀ b ∈ F, MayB w0 u0 b ∧ ∃ ob, u.heap[b]? = some ob ∧ ob ≠ hidO)
  (kc : ∀ w u1, Ext u u1 → Dat u1 w → Calls P f args.toArray w (PostF F u1 w Φ))
  (k : ∀ v u2, ExtF F u u2 → Φ v u2 → sym P ops w0 u0 true rest (S.set d (.v v)) u2 K)
  (hw : Wants ops o S := by exact zwf xj) (hd : o.dst = some d := by kernel_rfl) (hf : (freeB S d && knownB S o) = true := by kernel_rfl) (hk : opK o.op ≠ 2 := by decide)
  (hrun : ∀ B w, (execOp (rho S B) o).run P w = .ok (.enter f args.toArray) w := by intro _ _; kernel_rfl) : sym P ops w0 u0 true ((o, p) :: rest) S u K := by
 simp only [Bool.and_eq_true] at hf
 refine .inr (.inr (.inl ⟨.inl rfl, fun B a w u' he hrep => ⟨hw B a hrep.regs, ?_⟩⟩))
 unfold Oper.wp
 rw [exec_rho hrep.regs hf.2 hk, hrun B w]
 simp only [Oper.upon]
 refine Calls.mono (kc w u' he hrep.dat) ?_
 rintro e w' ⟨v, u2, rfl, k1, k2, k3, k4⟩
 have hr1 := hrep.mut (F := F) (fun b hm => by obtain ⟨h1, ob, h2, h3⟩ := hF b hm; exact ⟨h1, ob, he.vis b ob h2 h3, h3⟩) k1 k2 k3
 have hr2 := hr1.set (d := o.dst) (x := some (.v v)) (v := v) (fun s hs => (zxy hd hf.1 s hs).1) (fun z e => by injection e with e; rw [← e]; rfl) (fun z t e ht => by injection e with e; rw [← e] at ht; cases ht)
 refine ⟨_, B, u2, u2, hr2, (fun e => by cases e), (fun e => by cases e), Ext.refl _, ?_⟩
 have := k v u2 (.pre he k3.extF) k4
 rw [hd]; exact this
theorem Left.step {M : List Nat} {pre post : List (Nat × List Tmp)} {y : Nat × List Tmp} {listed : Array Bool} (hL : Left ops M (pre ++ y :: post) listed) (hro : ∀ j, (M.getD y.1 0).testBit j = true → j ∉ (pre ++ y :: post).map (·.1)) : Left ops M (pre ++ post) (listed.setIfInBounds y.1 true) := by
 have hsub : (pre ++ post).Sublist (pre ++ y :: post) := List.Sublist.append_left (List.sublist_cons_self _ _) _
 have hyn : y.1 ∉ (pre ++ post).map (·.1) := by
  have := hL.nodup
  rw [List.map_append, List.map_cons] at this
  have h2 := List.nodup_append.1 this
  have h3 := (List.nodup_cons.1 h2.2.1).1
  intro hm
  rw [List.map_append] at hm
  rcases List.mem_append.1 hm with hm | hm
  ·exact h2.2.2 y.1 hm y.1 (List.mem_cons_self ..) rfl
  exact h3 hm
 have hmem : ∀ j, j ≠ y.1 → (j ∈ (pre ++ post).map (·.1) ↔ j ∈ (pre ++ y :: post).map (·.1)) := fun j hj => by simp [hj]
 refine ⟨hL.nodup.sublist (hsub.map _), hL.pair.sublist hsub, by simp [hL.size], fun j hj => ?_, fun x hx => hL.lt x (hsub.mem hx), fun x hx => hL.mask x (hsub.mem hx), fun j hj hjn x hx => ?_⟩
 ·by_cases e : j = y.1
  ·subst e
   constructor
   ·intro h
    simp [hL.size, hj] at h
   intro h; exact absurd h hyn
  rw [getD_set_ne true (Ne.symm e), hmem j e]
  exact hL.mem j hj
 intro hmx
 by_cases e : j = y.1
 ·subst e; exact hro x hx ((hsub.map _).mem hmx)
 exact hL.closed j hj (fun h => hjn ((hmem j e).2 h)) x hx ((hsub.map _).mem hmx)
def chainB (M : List Nat) : List (Nat × List Tmp) → Bool
 | [] => true
 | x :: l => l.all (fun y => (M.getD y.1 0).testBit x.1) && chainB M l
theorem any_chain {M : List Nat} {Q : Exit → Act → World → Prop} : ∀ (T : List (Nat × List Tmp)) (listed : Array Bool) (a : Act) (w : World), Left ops M T listed → chainB M T = true →
  wpList P ops Q (T.map fun x => ops.getD x.1 default) a w → wpAny P .any ops Q T.length listed a w := by
 intro T
 induction T with
 | nil =>
  intro listed a w hL _ h
  refine ⟨?_, h⟩
  cases e : Region.ready .any ops listed with
  | nil => rfl
  | cons i l =>
   have := (hL.ready_mem (i := i) (by rw [e]; exact List.mem_cons_self ..)).2.1
   simp at this
 | cons y T ih =>
  intro listed a w hL hc h
  simp only [chainB, Bool.and_eq_true] at hc
  refine ⟨fun e => ?_, fun i hi => ?_⟩
  ·have := hL.head_ready
   rw [e] at this
   cases this
  obtain ⟨hlt, hm, hout⟩ := hL.ready_mem hi
  obtain ⟨x, hx, rfl⟩ := List.mem_map.1 hm
  have hro := reach_out hL hx hout
  have hxy : x = y := by
   rcases List.mem_cons.1 hx with rfl | hx'
   ·rfl
   exact absurd (List.mem_map.2 ⟨y, List.mem_cons_self .., rfl⟩) (hro y.1 (List.all_eq_true.1 hc.1 x hx'))
  subst hxy
  have hL' : Left ops M T (listed.setIfInBounds x.1 true) := by
   have := Left.step (pre := []) (post := T) hL hro
   exact this
  have key : ops[x.1]? = some (opAt ops x).1 := get_op hlt
  simp only [wpOp, key]
  simp only [List.map_cons] at h
  unfold wpList at h
  have h : if Region.wanted (opAt ops x).1 (yielded ops a.tmps) = true then (opAt ops x).1.wp P a w (wpList P ops Q (T.map fun x => ops.getD x.1 default)) Q ∨ ((opAt ops x).1.asks P a w ∧ LetsOut Q) else wpList P ops Q (T.map fun x => ops.getD x.1 default) (a.put (opAt ops x).1.dst undef) w := h
  split
  ·rename_i hw
   rw [if_pos hw] at h
   exact h.imp (Oper.wp_mono fun a w h => ih _ a w hL' hc.2 h) id
  rename_i hw
  rw [if_neg hw] at h
  exact ih _ _ w hL' hc.2 h
theorem any_symT {M : List Nat} {T : List (Nat × List Tmp)} {Q : Exit → Act → World → Prop} (hK : Mono K) (hc : chainB M T = true) (hQ : ∀ S u, K S u → ∀ B a w, Rep w0 u0 S B a w u → wpList P ops Q (T.map fun x => ops.getD x.1 default) a w) :
  ∀ (fuel : Nat) (L : List (Nat × List Tmp)) (listed : Array Bool) (S : St) (B : Tmp → Nat) (a : Act) (w u : World), L.length = fuel → Left ops M (L ++ T) listed → (∀ x ∈ L, ∀ y ∈ T, (M.getD y.1 0).testBit x.1 = true) → Rep w0 u0 S B a w u →
   sym P ops w0 u0 false (L.map (opAt ops)) S u K → wpAny P .any ops Q (fuel + T.length) listed a w := by
 intro fuel
 induction fuel with
 | zero =>
  intro L listed S B a w u hl hL _ hr hs
  obtain rfl := List.length_eq_zero_iff.1 hl
  rw [Nat.zero_add]
  exact any_chain T listed a w hL hc (hQ S u hs B a w hr)
 | succ fuel ih =>
  intro L listed S B a w u hl hL hT hr hs
  rw [Nat.succ_add]
  refine ⟨fun e => ?_, fun i hi => ?_⟩
  ·cases L with
   | nil => cases hl
   | cons x L =>
    have := Left.head_ready (L := L ++ T) hL
    rw [e] at this
    cases this
  obtain ⟨hlt, hm, hout⟩ := hL.ready_mem hi
  obtain ⟨y, hy, rfl⟩ := List.mem_map.1 hm
  have hro := reach_out hL hy hout
  have hyL : y ∈ L := by
   rcases List.mem_append.1 hy with h | h
   ·exact h
   cases L with
   | nil => cases hl
   | cons x L => exact absurd zv (hro x.1 (hT x (List.mem_cons_self ..) y h))
  obtain ⟨pre, post, rfl⟩ := List.append_of_mem hyL
  have hsw : ∀ x ∈ pre.map (opAt ops), swapOk ops x (opAt ops y) = true := by
   intro x hx
   obtain ⟨x', hx', rfl⟩ := List.mem_map.1 hx
   have hp := hL.pair
   rw [List.append_assoc, List.cons_append] at hp
   have := (List.pairwise_append.1 hp).2.2 x' hx' y (List.mem_cons_self ..)
   simp only [pairOk, Bool.and_eq_true, Bool.or_eq_true] at this
   rcases this.1 with h1 | h1
   ·exact absurd (List.mem_map.2 ⟨x', by simp [hx'], rfl⟩) (hro x'.1 h1)
   exact h1
  rw [List.map_append, List.map_cons] at hs
  have hone := bubble hK (pre.map (opAt ops)) S u hr.wf hsw hs
  have hsound := one_sound (Q := Q) (zwd hK) hone (Ext.refl _) hr
  have hL' : Left ops M ((pre ++ post) ++ T) (listed.setIfInBounds y.1 true) := by
   have e1 : (pre ++ y :: post) ++ T = pre ++ y :: (post ++ T) := by simp
   rw [e1] at hL hro
   have := Left.step hL hro
   rw [List.append_assoc]; exact this
  have hfin : ∀ a' w', (∃ S' B' u'', Rep w0 u0 S' B' a' w' u'' ∧ (false = false → Ext u u'') ∧ sym P ops w0 u0 false (pre.map (opAt ops) ++ post.map (opAt ops)) S' u'' K) → wpAny P .any ops Q (fuel + T.length) (listed.setIfInBounds y.1 true) a' w' := by
   rintro a' w' ⟨S', B', u'', g1, _, g3⟩
   refine ih (pre ++ post) _ S' B' a' w' u'' (by simp at hl ⊢; omega) hL' (fun x hx => hT x (by simp at hx ⊢; rcases hx with h | h <;> simp [h])) g1 ?_
   rw [List.map_append]; exact g3
  have key : ops[y.1]? = some (opAt ops y).1 := get_op hlt
  simp only [wpOp, key]
  split
  ·rename_i hw
   rw [if_pos hw] at hsound
   exact .inl (Oper.wp_mono hfin hsound)
  rename_i hw
  rw [if_neg hw] at hsound
  exact hfin _ _ hsound
def tailB (M : List Nat) (L T : List (Nat × List Tmp)) : Bool := L.all (fun x => T.all fun y => (M.getD y.1 0).testBit x.1) && chainB M T
theorem sw_anyC {id : Nat} {Q : MP} (M : List Nat) (q T : List (Nat × List Tmp)) (hm : P.follows .mixedOrders = true) (hok : regOk ops M (q ++ T) = true) (ht : tailB M q T = true)
  (h : sym P ops w0 u0 false (q.map (opAt ops)) S u (fun S' u' => sym P ops w0 u0 true (T.map fun x => (ops.getD x.1 default, [])) S' u' (Q.f .normal))) : SW P w0 u0 (.region id ops true) S u Q := by
 intro B a w u' e hr
 simp only [regOk, Bool.and_eq_true, beq_iff_eq, List.all_eq_true] at hok
 obtain ⟨⟨⟨⟨h1, h2⟩, h5⟩, h3⟩, h4⟩ := hok
 simp only [tailB, Bool.and_eq_true, List.all_eq_true] at ht
 have hnd := nodupB_spec h2
 have hall : ∀ i, i < ops.size → i ∈ (q ++ T).map (·.1) := fun i hi => List.contains_iff_mem.1 (h5 i (by simpa using hi))
 have hK : Mono (fun S' u' => sym P ops w0 u0 true (T.map fun x => (ops.getD x.1 default, ([] : List Tmp))) S' u' (Q.f .normal)) := zwd (Q.mono _)
 have hs : ops.size = q.length + T.length := by rw [← h1, List.length_append]
 refine wp_region_any hm ?_
 rw [hs]
 have hlist : Left ops M (q ++ T) (Array.replicate (q.length + T.length) false) := by
  rw [← hs]
  refine ⟨hnd, pairsOk_spec h4, by simp, fun i hi => ?_, fun x hx => ?_, fun x hx => (h3 x hx).2, fun j hj hjn => absurd (hall j hj) hjn⟩
  ·simp only [Array.getD_eq_getD_getElem?]
   rw [Array.getElem?_eq_getElem (by simpa using hi)]
   simp only [Array.getElem_replicate, Option.getD_some, true_iff]
   exact hall i hi
  obtain ⟨⟨g1, g2⟩, g3⟩ := h3 x hx
  refine ⟨by simpa using g1, fun e he hb => ?_⟩
  simp only [Bool.not_eq_true', List.any_eq_false] at g2
  have := g2 e (by simpa using he)
  simp [hb] at this
  exact this
 refine any_symT hK ht.2 (fun S u'' h B a w hr => ?_) q.length q _ S B a _ u' rfl hlist (fun x hx y hy => ht.1 x hx y hy) hr.drew (zwd hK _ _ _ e h)
 have := sl_key (Q := fun e a' w' => ∃ S' B' u'', Rep w0 u0 S' B' a' w' u'' ∧ Q.f e S' u'') (K := Q.f .normal) (Q.mono _) [] (fun S u h B a w hr => by exact ⟨S, B, u, hr, h⟩) (T.map fun x => ops.getD x.1 default) S B a w u'' hr (by rw [List.map_map]; exact h)
 rw [List.append_nil] at this
 exact this
end
structure PL where
 o : Int
 g : Int
 h : Int
def PL.cs (p : PL) : List Value := [.int .i64 p.o, .int .i64 p.g, .int .i64 p.h]
@[reducible] def PL.v (p : PL) : Value := .agg #[.int .i64 p.o, .int .i64 p.g, .int .i64 p.h]
section
variable {u u' w w' : World} {L M : List PL} {p : PL} {n i c b off K : Nat} {x y : Sl}
theorem ints_data {cs : List Value} {t : TypeId} {l : List Int} (h : u.heap[b]? = some (.cells cs.toArray t (0, 0))) (hc : cs.take n = l.map (Value.int .i64)) (hl : cs.length = c) (hn : n ≤ c) (hm : c ≤ maxLen) : SlR .i64 u (some ⟨b, 0, none⟩) n c l := by
 have hlen : l.length = n := by have h9 := congrArg List.length hc; simp at h9; omega
 refine ⟨hlen, hn, hm, fun hp => ⟨b, 0, rfl, zxa h, fun i hi => ?_⟩⟩
 rw [Nat.zero_add, cells_at h]
 have h9 : (cs.take n)[i]? = (l.map (Value.int .i64))[i]? := by rw [hc]
 rw [List.getElem?_take_of_lt hi, List.getElem?_map, List.getElem?_eq_getElem (by omega : i < l.length)] at h9
 simp
 rw [h9, List.getElem?_eq_getElem (by omega : i < l.length)]
 rfl
end
structure WL where
 b : Int
 f : Int
 r : Int
 o : Int
@[reducible] def WL.v (w : WL) : Value := .agg #[.int .i64 w.b, .int .i64 w.f, .int .i64 w.r, .int .i64 w.o]
def WL.cs (w : WL) : List Value := [.int .i64 w.b, .int .i64 w.f, .int .i64 w.r, .int .i64 w.o]
def WdOK (w : WL) : Prop := 4 ≤ w.b ∧ w.b ≤ 24 ∧ 0 ≤ w.f ∧ w.f < w.b ∧ 1 ≤ w.r ∧ w.r ≤ 3 ∧ 1 ≤ w.o ∧ w.o ≤ 2
namespace Nt
def p2i (n : Int) : Int := 2 ^ n.toNat
end Nt
def MutL (k : Nat) (ty : TypeId) (lo : Nat) (u : World) (x : Sl) (cs : List Value) : Prop :=
 cs.length = x.n * k ∧ x.n ≤ x.c ∧ x.c ≤ maxLen ∧ (x = ⟨none, 0, 0⟩ ∨ ∃ b all, x.a = some ⟨b, 0, none⟩ ∧ u.heap[b]? = some (.cells (List.toArray all) ty (0, 0)) ∧ all.length = x.c * k ∧ all.take (x.n * k) = cs ∧ lo ≤ b)
def offB (x : Sl) (h : Nat) : Prop := ∀ a, x.a = some a → a.block ≠ h
structure ExtX (x : Sl) (u u' : World) : Prop where
 size : u.heap.size ≤ u'.heap.size
 vis : ∀ (k : Nat) (o : Obj), offB x k → u.heap[k]? = some o → o ≠ hidO → u'.heap[k]? = some o
structure ExtT (ty : TypeId) (u u' : World) : Prop where
 size : u.heap.size ≤ u'.heap.size
 vis : ∀ (k : Nat) (cs : Array Value) (t : TypeId), t ≠ ty → u.heap[k]? = some (.cells cs t (0, 0)) → u'.heap[k]? = some (.cells cs t (0, 0))
def sl0 : Sl := ⟨none, 0, 0⟩
structure TL where
 f : Int
 c : Int
def TL.cs (t : TL) : List Value := [.int .i64 t.f, .int .i64 t.c]
@[reducible] def TL.v (t : TL) : Value := .agg #[.int .i64 t.f, .int .i64 t.c]
def ics (l : List Int) : List Value := l.map (Value.int .i64)
section
variable {k lo lo' h b n c i : Nat} {ty t2 : TypeId} {u u' u'' v : World} {x y : Sl} {cs cs' : List Value}
theorem cells_not_hid {cs : Array Value} {t : TypeId} : Obj.cells cs t (0, 0) ≠ hidO := by unfold hidO; intro e; cases e
theorem ExtX.t {cs : List Value} (e : ExtX x u u') (m : MutL k ty lo u x cs) : ExtT ty u u' := ⟨e.size, fun q cs' t ht hq => by
 refine e.vis q _ (fun a ha hc => ?_) hq cells_not_hid
 rcases m.2.2.2 with h1 | ⟨b, all, h1, h2, _⟩
 ·rw [h1] at ha; cases ha
 rw [h1] at ha; injection ha with ha; subst ha
 rw [show b = q from hc, hq] at h2; injection h2 with h2; injection h2 with _ h2 _; exact ht h2⟩
theorem ExtX.root {cs : List Value} {u0 : World} (e : ExtX x u u') (m : MutL k ty u0.heap.size u x cs) (r : Ext u0 u) : Ext u0 u' := ⟨Nat.le_trans r.size e.size, fun q o hq hh => by
 refine e.vis q o (fun a ha hc => ?_) (r.vis q o hq hh) hh
 rcases m.2.2.2 with h1 | ⟨b, all, h1, _, _, _, h5⟩
 ·rw [h1] at ha; cases ha
 rw [h1] at ha; injection ha with ha; subst ha
 have := zxa hq
 have hc : b = q := hc
 omega⟩
theorem Ext.toX (e : Ext u u') (x : Sl) : ExtX x u u' := ⟨e.size, fun q o _ h1 h2 => e.vis q o h1 h2⟩
theorem ExtB.toX (e : ExtB b u u') (hx : x.a = some ⟨b, 0, none⟩) : ExtX x u u' := ⟨e.size, fun q o ho h1 h2 => e.vis q o (fun hc => ho _ hx hc.symm) h1 h2⟩
theorem MutL.lt {a : Addr} (m : MutL k ty lo u x cs) (ha : x.a = some a) : a.block < u.heap.size := by
 rcases m.2.2.2 with h1 | ⟨b, all, h1, h2, _⟩
 ·rw [h1] at ha; cases ha
 rw [h1] at ha; injection ha with ha; subst ha; exact zxa h2
theorem MutL.cell {j : Nat} (m : MutL k ty lo u x cs) (hj : j < cs.length) : ∃ b, x.a = some ⟨b, 0, none⟩ ∧ u.cell? ⟨b, 0 + j, none⟩ = cs[j]? := by
 obtain ⟨h1, h2, h3, h4⟩ := m
 rcases h4 with h4 | ⟨b, all, g1, g2, g3, g4, g5⟩
 ·subst h4
  simp at h1; subst h1; simp at hj
 refine ⟨b, g1, ?_⟩
 rw [Nat.zero_add, cells_at g2, ← g4, List.getElem?_take_of_lt xq]; simp
theorem zwi (l : List Int) : (ics l).length = l.length := by unfold ics; simp
theorem ics_app (l m : List Int) : ics (l ++ m) = ics l ++ ics m := by unfold ics; simp
theorem ics_at {l : List Int} (h : i < l.length) : (ics l)[i]? = some (.int .i64 (l.getD i 0)) := by
 unfold ics
 rw [List.getElem?_map, qyg, List.getElem?_eq_getElem h]; rfl
theorem ics_set (l : List Int) (i : Nat) (z : Int) : (ics l).set i (.int .i64 z) = ics (l.set i z) := by unfold ics; rw [List.map_set]
theorem made_ints (n : Nat) : (madeCells #[Value.int .i64 0] (n * 1)).toList = ics (List.replicate n 0) := by
 unfold madeCells ics
 rw [List.map_replicate]
 refine List.eq_replicate_iff.2 ⟨by simp, fun b hb => ?_⟩
 simp at hb
 obtain ⟨x, _, rfl⟩ := hb
 rw [Nat.mod_one]; rfl
theorem sl_one (x : Sl) : ∀ v ∈ [x.v], v.oneCell' = true := fun v hv => by
 simp at hv; subst hv; rfl
end
section
variable {lo h g : Nat} {u u' : World} {x y z : Sl} {N : List (List TL)} {cs : List Value}
def Sep (x y : Sl) : Prop := ∀ a b, x.a = some a → y.a = some b → a.block ≠ b.block
theorem Sep.symm (h : Sep x y) : Sep y x := fun a b ha hb e => h b a hb ha e.symm
theorem Sep.nil (y : Sl) : Sep ⟨none, 0, 0⟩ y := fun a b ha => by cases ha
theorem Sep.step {k : Nat} {ty : TypeId} (hs : Sep x y) (m : MutL k ty lo u x cs) (ho : ∀ a, z.a = some a → (y.a = some a ∨ u.heap.size ≤ a.block)) : Sep x z := fun a b ha hb e => by
 rcases ho b hb with h1 | h1
 ·exact hs a b ha h1 e
 have := m.lt ha
 omega
end
def NU (v : Value) : Prop := ∀ y, v ≠ .int .u32 y
def MutQ (k : Nat) (ty : TypeId) (lo : Nat) (u : World) (x : Sl) (cs : List Value) : Prop :=
 cs.length = x.n * k ∧ x.n ≤ x.c ∧ x.c ≤ maxLen ∧ (x = ⟨none, 0, 0⟩ ∨ ∃ b all, x.a = some ⟨b, 0, none⟩ ∧ u.heap[b]? = some (.cells (List.toArray all) ty (0, 0)) ∧ all.length = x.c * k ∧ all.take (x.n * k) = cs ∧ lo ≤ b ∧ ∀ v ∈ all, NU v)
section
variable {k lo lo' h b n c i j off : Nat} {ty t2 : TypeId} {u u' u'' v : World} {x y z : Sl} {cs cs' vs : List Value} {L : List RL} {r : RL} {q : Rat} {K : Nat}
theorem MutQ.mutL (m : MutQ k ty lo u x cs) : MutL k ty lo u x cs := ⟨m.1, m.2.1, m.2.2.1, m.2.2.2.imp id fun ⟨b, all, h1, h2, h3, h4, h5, _⟩ => ⟨b, all, h1, h2, h3, h4, h5⟩⟩
theorem MutQ.ext (m : MutQ k ty lo u x cs) (e : Ext u u') : MutQ k ty lo u' x cs :=
 ⟨m.1, m.2.1, m.2.2.1, m.2.2.2.imp id fun ⟨b, all, h1, h2, h3⟩ => ⟨b, all, h1, e.cells h2, h3⟩⟩
theorem MutQ.extT (m : MutQ k ty lo u x cs) (e : ExtT t2 u u') (ht : ty ≠ t2) : MutQ k ty lo u' x cs :=
 ⟨m.1, m.2.1, m.2.2.1, m.2.2.2.imp id fun ⟨b, all, h1, h2, h3⟩ => ⟨b, all, h1, e.vis _ _ _ ht h2, h3⟩⟩
theorem MutQ.extS (m : MutQ k ty lo u y cs) (e : ExtX x u u') (hs : Sep x y) : MutQ k ty lo u' y cs :=
 ⟨m.1, m.2.1, m.2.2.1, m.2.2.2.imp id fun ⟨b, all, h1, h2, h3⟩ => ⟨b, all, h1, e.vis _ _ (fun a ha hc => hs a _ ha h1 hc) h2 cells_not_hid, h3⟩⟩
theorem MutQ.low (m : MutQ k ty lo u x cs) (hl : lo' ≤ lo) : MutQ k ty lo' u x cs :=
 ⟨m.1, m.2.1, m.2.2.1, m.2.2.2.imp id fun ⟨b, all, h1, h2, h3, h4, h5, h6⟩ => ⟨b, all, h1, h2, h3, h4, Nat.le_trans hl h5, h6⟩⟩
theorem MutQ.nil (k : Nat) (ty : TypeId) (lo : Nat) (u : World) : MutQ k ty lo u sl0 [] := ⟨by simp [sl0], Nat.le_refl _, Nat.zero_le _, .inl rfl⟩
theorem MutQ.lit {cs : List Value} (hu : u.heap[b]? = some (.cells cs.toArray ty (0, 0))) (hl : cs.length = n * k) (hn : n ≤ maxLen) (hb : lo ≤ b) (hnu : ∀ v ∈ cs, NU v) : MutQ k ty lo u ⟨some ⟨b, 0, none⟩, n, n⟩ cs :=
 ⟨hl, Nat.le_refl _, hn, .inr ⟨b, cs, rfl, hu, hl, by rw [List.take_of_length_le (by show _ ≤ n * k; omega)], hb, hnu⟩⟩
theorem nu_bool (s : Bool) : NU (.bool s) := fun y e => by cases e
theorem nu_sl (a : Option Addr) (n c : Nat) : NU (.slice a n c) := fun y e => by cases e
theorem nu_i64 (z : Int) : NU (.int .i64 z) := fun y e => by cases e
theorem nu_rl (r : RL) : ∀ v ∈ r.cs, NU v := fun v hv => by
 simp [RL.cs] at hv
 rcases hv with rfl | rfl | rfl
 ·exact nu_bool _
 ·exact nu_sl _ _ _
 exact nu_sl _ _ _
theorem nu_app (h1 : ∀ v ∈ cs, NU v) (h2 : ∀ v ∈ vs, NU v) : ∀ v ∈ cs ++ vs, NU v := fun v hv => (List.mem_append.1 hv).elim (h1 v) (h2 v)
theorem nu_sls (Rs : List Sl) : ∀ v ∈ Rs.map Sl.v, NU v := fun v hv => by
 obtain ⟨x, _, rfl⟩ := List.mem_map.1 hv
 exact nu_sl _ _ _
theorem MutQ.keep (m : MutQ k ty lo u x cs) (e : ExtX x u u') (h : RatN u r q K) : RatN u' r q K := by
 rcases m.2.2.2 with h1 | ⟨b, all, h1, h2, _, _, _, h6⟩
 ·refine h.ext ⟨e.size, fun q o ho hh => e.vis q o (fun a ha => by rw [h1] at ha; cases ha) ho hh⟩
 exact h.extB0 h2 h6 ⟨e.size, fun q o hq ho hh => e.vis q o (fun a ha hc => by rw [h1] at ha; injection ha with ha; subst ha; exact hq hc.symm) ho hh⟩
theorem MutQ.keeps {l : List Rat} (m : MutQ k ty lo u x cs) (e : ExtX x u u') (h : RatsN u L l K) : RatsN u' L l K := ⟨h.1, fun i hi => m.keep e (h.2 i hi)⟩
theorem setL_take {cs : List Value} (h : off + vs.length ≤ n) (hn : n ≤ cs.length) : (setL cs off vs).take n = setL (cs.take n) off vs := by
 unfold setL
 rw [List.take_take, Nat.min_eq_left xq, List.take_append, List.take_of_length_le (l := cs.take off ++ vs) yw, List.drop_take]
 congr 2
 simp
 rw [Nat.min_eq_left xq]
theorem nu_setL (h1 : ∀ v ∈ cs, NU v) (h2 : ∀ v ∈ vs, NU v) : ∀ v ∈ setL cs off vs, NU v := fun v hv => by
 unfold setL at hv
 rcases List.mem_append.1 hv with hv | hv
 ·rcases List.mem_append.1 hv with hv | hv
  ·exact h1 v (List.mem_of_mem_take hv)
  exact h2 v hv
 exact h1 v (List.mem_of_mem_drop hv)
end
section
variable {P : Program} {ops : Array Oper} {w0 : Base} {u0 : World} {S T : St} {B : Tmp → Nat} {a : Act} {w w' u u' u'' v : World} {o : Oper} {p : List Tmp} {rest : List (Oper × List Tmp)} {K : St → World → Prop}
theorem sy_storeQ {T ty : TypeId} {r : Tmp} {z : Operand} {v : Value} {agg : Bool} {n k lo off b : Nat} {cs : List Value} (x : Sl) (hm : MutQ k ty lo u x cs) (hmay : ∀ a, x.a = some a → MayB w0 u0 a.block) (hb : x.a = some ⟨b, 0, none⟩) (hT : TyIs P T agg n) (hl : off + n ≤ cs.length) (hnu : ∀ y ∈ v.cells.toList, NU y)
  (kk : ∀ u1, MutQ k ty lo u1 x (setL cs off v.cells.toList) → ExtX x u u1 → sym P ops w0 u0 true rest S u1 K)
  (hw : Wants ops o S := by exact zwf xj) (hd : o.dst = none := by kernel_rfl) (hop : o.op = .store T (.tmp r) z := by rfl) (hr : S.reg r = some (.v (.pointer (some ⟨b, off, none⟩))) := by rfl) (hz : evO S z = some (.v v) := by rfl)
  (hn : v.cells.size = n := by kernel_rfl) (hone : v.cells.toList.all Value.oneCell' = true := by kernel_rfl) : sym P ops w0 u0 true ((o, p) :: rest) S u K := by
 obtain ⟨q1, q2, q3, q4⟩ := id hm
 rcases q4 with q4 | ⟨b', all, g1, g2, g3, g4, g5, g6⟩
 ·subst q4; cases hb
 have hmb := hmay _ g1
 rw [hb] at g1; injection g1 with g1; injection g1 with g1 _ _; subst g1
 have hlv : v.cells.toList.length = n := by simpa using hn
 have hnk : x.n * k ≤ all.length := by rw [g3]; exact Nat.mul_le_mul_right _ q2
 refine sy_storeD (b := b) (off := off) (cs := all) (n := n) g2 hmb hT xq (fun u1 k1 k2 => ?_) hw hd hop hr hz hn hone
 refine kk u1 ⟨?_, q2, q3, .inr ⟨b, _, hb, k1, ?_, ?_, g5, nu_setL g6 hnu⟩⟩ (k2.toX hb)
 ·rw [setL_length xq]; exact q1
 ·rw [setL_length xq]; exact g3
 rw [setL_take xq hnk, g4]
end
structure MatQ (w : Nat) (tO tR : TypeId) (lo : Nat) (u : World) (x : Sl) (Rs : List Sl) (Ls : List (List RL)) : Prop where
 out : MutQ 1 tO lo u x (Rs.map Sl.v)
 len : Rs.length = Ls.length
 row : ∀ i, i < Ls.length → MutQ (w * 3) tR lo u (Rs.getD i sl0) (rcs (Ls.getD i []))
 sep : ∀ i j, i < Ls.length → j < Ls.length → i ≠ j → Sep (Rs.getD i sl0) (Rs.getD j sl0)
def MatN (u : World) (Ls : List (List RL)) (M : List (List Rat)) (K : Nat) : Prop := Ls.length = M.length ∧ ∀ i, i < M.length → RatsN u (Ls.getD i []) (M.getD i []) K
section
variable {w k lo lo' h b n c i j off : Nat} {tO tR : TypeId} {u u' u'' v : World} {x y z : Sl} {Rs : List Sl} {Ls : List (List RL)} {L : List RL} {M : List (List Rat)} {l : List Rat} {r : RL} {q : Rat} {K K' : Nat}
theorem getD_map_v {Rs : List Sl} (h : i < Rs.length) : (Rs.map Sl.v)[i]? = some (Rs.getD i sl0).v := by
 rw [List.getElem?_map, qyg, List.getElem?_eq_getElem h]; rfl
theorem MatQ.ext (m : MatQ w tO tR lo u x Rs Ls) (e : Ext u u') : MatQ w tO tR lo u' x Rs Ls := ⟨m.out.ext e, m.len, fun i hi => (m.row i hi).ext e, m.sep⟩
theorem MatQ.low (m : MatQ w tO tR lo u x Rs Ls) (hl : lo' ≤ lo) : MatQ w tO tR lo' u x Rs Ls := ⟨m.out.low hl, m.len, fun i hi => (m.row i hi).low hl, m.sep⟩
theorem MatQ.rows (m : MatQ w tO tR lo u x Rs Ls) : x.n = Ls.length := by
 have := m.out.1
 rw [List.length_map, Nat.mul_one] at this
 have := m.len
 omega
theorem MatN.ext (h : MatN u Ls M K) (e : Ext u u') : MatN u' Ls M K := ⟨h.1, fun i hi => (h.2 i hi).ext e⟩
theorem MatQ.cell (m : MatQ w tO tR lo u x Rs Ls) (hi : i < Ls.length) : ∃ b, x.a = some ⟨b, 0, none⟩ ∧ u.cell? ⟨b, 0 + i * 1, none⟩ = some (Rs.getD i sl0).v := by
 obtain ⟨b, h1, h2⟩ := m.out.mutL.cell (j := i) (by rw [List.length_map, m.len]; exact hi)
 refine ⟨b, h1, ?_⟩
 rw [Nat.mul_one, h2, getD_map_v (by rw [m.len]; exact hi)]
theorem rcs_part {L : List RL} (h : j + n ≤ L.length) : ((rcs L).drop (j * 3)).take (n * 3) = rcs ((L.drop j).take n) := by
 have hd : ∀ (L : List RL) (j : Nat), (rcs L).drop (j * 3) = rcs (L.drop j) := by
  intro L
  induction L with
  | nil => intro j; simp [rcs]
  | cons r L ih =>
   intro j
   cases j with
   | zero => simp
   | succ j =>
    show (r.cs ++ rcs L).drop ((j + 1) * 3) = _
    rw [List.drop_succ_cons, ← ih j, Nat.succ_mul, Nat.add_comm, ← List.drop_drop]
    congr 1
 have ht : ∀ (L : List RL) (n : Nat), n ≤ L.length → (rcs L).take (n * 3) = rcs (L.take n) := by
  intro L
  induction L with
  | nil => intro n h; simp [rcs]
  | cons r L ih =>
   intro n h
   cases n with
   | zero => simp [rcs]
   | succ n =>
    show (r.cs ++ rcs L).take ((n + 1) * 3) = r.cs ++ rcs (L.take n)
    rw [List.take_append, List.take_of_length_le (by simp [RL.cs]; omega), ← ih n (by simpa using h)]
    congr 2
    simp [RL.cs]; omega
 rw [hd, ht _ _ (by rw [List.length_drop]; omega)]
theorem MutQ.el {ty : TypeId} (hw : 0 < w) (m : MutQ (w * 3) ty lo u y (rcs L)) (hj : j * w + w ≤ L.length) : ∃ b, y.a = some ⟨b, 0, none⟩ ∧ ∀ q, q < (rcs ((L.drop (j * w)).take w)).length → u.cell? ⟨b, 0 + j * (w * 3) + q, none⟩ = (rcs ((L.drop (j * w)).take w))[q]? := by
 have hl : (rcs L).length = L.length * 3 := zyy
 obtain ⟨b, h1, _⟩ := m.mutL.cell (j := 0) (by rw [hl]; omega)
 refine ⟨b, h1, fun q hq => ?_⟩
 have hq' : q < w * 3 := by
  rw [zyy, List.length_take, List.length_drop, Nat.min_eq_left xq] at hq; exact hq
 have hlt : j * (w * 3) + q < (rcs L).length := by
  rw [hl]
  have : j * (w * 3) = (j * w) * 3 := by rw [Nat.mul_assoc]
  omega
 obtain ⟨b2, h2, h3⟩ := m.mutL.cell (j := j * (w * 3) + q) hlt
 rw [h1] at h2; injection h2 with h2; injection h2 with h2 _ _; subst h2
 rw [Nat.add_assoc, h3, ← rcs_part hj, List.getElem?_take_of_lt hq', List.getElem?_drop, Nat.mul_assoc]
theorem getD_set_same {α : Type} {l : List α} {a z : α} (h : i < l.length) : (l.set i a).getD i z = a := by simp [h]
theorem getD_set_other {α : Type} {l : List α} {a z : α} (h : i ≠ j) : (l.set i a).getD j z = l.getD j z := by simp [h]
theorem MatQ.storeRow (hT : tO ≠ tR) (m : MatQ w tO tR lo u x Rs Ls) (hi : i < Ls.length) (h : MutQ (w * 3) tR lo u' (Rs.getD i sl0) (rcs L)) (e : ExtX (Rs.getD i sl0) u u') : MatQ w tO tR lo u' x Rs (Ls.set i L) := by
 refine ⟨m.out.extT (e.t (m.row i hi).mutL) hT, by rw [List.length_set]; exact m.len, fun j hj => ?_, fun a b ha hb => ?_⟩
 ·rw [List.length_set] at hj
  by_cases hij : i = j
  ·subst hij; rw [getD_set_same hj]; exact h
  rw [getD_set_other hij]; exact (m.row j hj).extS e (m.sep i j hi hj hij)
 rw [List.length_set] at ha hb; exact m.sep a b ha hb
theorem MatQ.swap {p t : Nat} (hT : tR ≠ tO) (m : MatQ w tO tR lo u x Rs Ls) (hp : p < Ls.length) (ht : t < Ls.length) (ho : MutQ 1 tO lo u' x (((Rs.set p (Rs.getD t sl0)).set t (Rs.getD p sl0)).map Sl.v)) (e : ExtX x u u') :
  MatQ w tO tR lo u' x ((Rs.set p (Rs.getD t sl0)).set t (Rs.getD p sl0)) ((Ls.set p (Ls.getD t [])).set t (Ls.getD p [])) := by
 have eT := e.t m.out.mutL
 have hl := m.len
 have key : ∀ {α : Type} (l : List α) (z : α), p < l.length → t < l.length → ∀ j, ((l.set p (l.getD t z)).set t (l.getD p z)).getD j z = l.getD (if j = t then p else if j = p then t else j) z := by
  intro α l z h1 h2 j
  by_cases hjt : j = t
  ·subst hjt; rw [if_pos rfl, getD_set_same (by simpa using h2)]
  rw [if_neg hjt, getD_set_other (Ne.symm hjt)]
  by_cases hjp : j = p
  ·subst hjp; rw [if_pos rfl, getD_set_same h1]
  rw [if_neg hjp, getD_set_other (Ne.symm hjp)]
 have hlt : ∀ j, j < Ls.length → (if j = t then p else if j = p then t else j) < Ls.length := fun j hj => by split <;> (try split) <;> omega
 refine ⟨ho, by simp [hl], fun j hj => ?_, fun a b ha hb hab => ?_⟩
 ·simp only [List.length_set] at hj
  rw [key Rs sl0 xq xq, key Ls [] hp ht]
  exact (m.row _ (hlt j hj)).extT eT hT
 simp only [List.length_set] at ha hb
 rw [key Rs sl0 xq xq, key Rs sl0 xq xq]
 refine m.sep _ _ (hlt a ha) (hlt b hb) ?_
 split <;> split <;> (try split) <;> (try split) <;> omega
theorem MatQ.fresh {n c : Nat} (m : MatQ w tO tR lo u x Rs Ls) (hb : u.heap.size ≤ b) : ∀ j, j < Ls.length → Sep ⟨some ⟨b, 0, none⟩, n, c⟩ (Rs.getD j sl0) := fun j hj a a' h1 h2 hc => by
 injection h1 with h1; subst h1
 have h3 := (m.row j hj).mutL.lt h2
 have hc : b = a'.block := hc
 omega
theorem MatN.keep {k : Nat} {ty : TypeId} {cs : List Value} (h : MatN u Ls M K) (m : MutQ k ty lo u y cs) (e : ExtX y u u') : MatN u' Ls M K := ⟨h.1, fun i hi => m.keeps e (h.2 i hi)⟩
theorem setL_map {Rs : List Sl} (h : i < Rs.length) : setL (Rs.map Sl.v) (0 + i * 1) (Value.slice y.a y.n y.c).cells.toList = (Rs.set i y).map Sl.v := by
 have := setL_cons (cs := Rs.map Sl.v) (off := i) (v := y.v) (vs := []) (by rw [List.length_map]; exact h)
 rw [setL_nil] at this
 rw [List.map_set, Nat.zero_add, Nat.mul_one]
 exact this.symm
theorem MutQ.el1 {ty : TypeId} (m : MutQ (1 * 3) ty lo u y (rcs L)) (hj : j < L.length) : ∃ b, y.a = some ⟨b, 0, none⟩ ∧ ∀ q, q < (L.getD j rl0).cs.length → u.cell? ⟨b, 0 + j * 3 + q, none⟩ = (L.getD j rl0).cs[q]? := by
 obtain ⟨b, h1, h2⟩ := m.el (j := j) yv xq
 refine ⟨b, h1, fun q hq => ?_⟩
 have e : (L.drop (j * 1)).take 1 = [L.getD j rl0] := by
  rw [Nat.mul_one, qyg, List.getElem?_eq_getElem hj, List.drop_eq_getElem_cons hj]; rfl
 rw [e] at h2
 have e2 : rcs [L.getD j rl0] = (L.getD j rl0).cs := by simp [rcs]
 rw [e2] at h2
 exact h2 q hq
end
section
variable {P : Program} {ops : Array Oper} {w0 : Base} {u0 : World} {S T : St} {B : Tmp → Nat} {a : Act} {w w' u u' u'' v : World} {o : Oper} {p : List Tmp} {rest : List (Oper × List Tmp)} {K : St → World → Prop}
theorem sy_appQ (d : Tmp) {T E : TypeId} {s src : Operand} {z : Value} {size bytes : Nat} {b2 off m c : Nat} (x : Sl) (cs news : List Value) (hm0 : MutQ size E u0.heap.size u x cs) (hT : P.underlying T = some (.slice E)) (hi : (P.info? E).map (fun i => (i.zero, i.size, i.bytes)) = some (some z, size, bytes)) (hzs : z.cells.size = size) (hsz : 0 < size)
  (hl : news.length = m * size) (hnews : ∀ j v, news[j]? = some v → u.cell? ⟨b2, off + j, none⟩ = some v) (h1 : ∀ v ∈ news, v.oneCell' = true) (hm : 0 < m) (h63 : x.n + m ≤ maxLen) (hbytes : (x.n + m) * bytes ≤ 140737488355328) (hnu : ∀ v ∈ news, NU v) (hnz : ∀ v ∈ z.cells.toList, NU v)
  (k : ∀ (y : Sl) (u1 : World), MutQ size E u0.heap.size u1 y (cs ++ news) → y.n = x.n + m → ExtX x u u1 → (∀ a, y.a = some a → (x.a = some a ∨ u.heap.size ≤ a.block)) → sym P ops w0 u0 true rest (S.set d (.v y.v)) u1 K)
  (hw : Wants ops o S := by exact zwf xj) (hd : o.dst = some d := by kernel_rfl) (hop : o.op = .call { callee := .builtin .append, args := #[s, src], argTypes := #[T, T] } := by rfl) (hf : freeB S d = true := by kernel_rfl)
  (hs : evO S s = some (.v x.v) := by rfl) (hx : evO S src = some (.v (.slice (some ⟨b2, off, none⟩) m c)) := by rfl) : sym P ops w0 u0 true ((o, p) :: rest) S u K := by
 obtain ⟨q1, q2, q3, q4⟩ := id hm0
 rcases q4 with q4 | ⟨b, all, g1, g2, g3, g4, g5, g6⟩
 ·subst q4
  have hcs : cs = [] := List.eq_nil_of_length_eq_zero (by rw [q1]; simp)
  subst hcs
  have h63' : m ≤ maxLen := by have h9 : 0 + m ≤ maxLen := h63; omega
  have hby' : m * bytes ≤ 140737488355328 := by have h9 : (0 + m) * bytes ≤ _ := hbytes; rwa [Nat.zero_add] at h9
  refine sy_appD0p d (E := E) (z := z) news hT hi hzs hsz hl hnews h1 hm h63' hby' (fun g c1 cs1 u1 k1 k2 k3 k4 k5 k6 k7 k8 k9 => ?_) hw hd hop hf hs hx
  refine k ⟨some ⟨g, 0, none⟩, m, c1⟩ u1 ⟨by simpa using hl, k1, k2, .inr ⟨g, cs1, rfl, k5, k3, by simpa using k4, k7, k9 NU hnu hnz⟩⟩ (by show m = 0 + m; omega) (k8.toX _) (fun a ha => .inr ?_)
  injection ha with ha; subst ha; exact k6
 have hs' : evO S s = some (.v (.slice (some ⟨b, 0, none⟩) x.n x.c)) := by rw [hs, ← g1]
 refine sy_appDp d (E := E) (z := z) (n := x.n) (cap := x.c) (cs0 := all) (b := b) news hT hi hzs hsz hl hnews h1 hm h63 hbytes q2 q3 g3 g2 (.inl g5) (fun g c1 cs1 u1 k1 k2 k3 k4 k5 k6 k7 k8 => ?_) hw hd hop hf hs' hx
 refine k ⟨some ⟨g, 0, none⟩, x.n + m, c1⟩ u1 ⟨by rw [List.length_append, q1, hl, Nat.add_mul], k1, k2, .inr ⟨g, cs1, rfl, k5, k3, by rw [k4, g4], ?_, k8 NU g6 hnu hnz⟩⟩ rfl (k7.toX g1) (fun a ha => ?_)
 ·rcases k6 with k6 | k6
  ·rw [k6]; exact g5
  have h8 := zxa g2
  omega
 injection ha with ha; subst ha
 rcases k6 with k6 | k6
 ·subst k6; exact .inl g1
 exact .inr k6
end
section
variable {w k lo lo' h b n c i j off : Nat} {tO tR : TypeId} {u u' u'' v : World} {x y z : Sl} {Rs : List Sl} {Ls : List (List RL)} {L : List RL} {M : List (List Rat)} {l : List Rat} {r : RL} {q : Rat} {K K' : Nat}
theorem MatQ.rest (hT : tO ≠ tR) (m : MatQ w tO tR lo u x Rs Ls) (hi : i < Ls.length) (e : ExtX (Rs.getD i sl0) u u') : MutQ 1 tO lo u' x (Rs.map Sl.v) ∧ ∀ j, j < Ls.length → j ≠ i → MutQ (w * 3) tR lo u' (Rs.getD j sl0) (rcs (Ls.getD j [])) :=
 ⟨m.out.extT (e.t (m.row i hi).mutL) hT, fun j hj hji => (m.row j hj).extS e (m.sep i j hi hj (Ne.symm hji))⟩
theorem MatQ.grown (hT : tO ≠ tR) (hT2 : tR ≠ tO) (m : MatQ w tO tR lo u x Rs Ls) (hi : i < Ls.length) (e : ExtX (Rs.getD i sl0) u u') (hy : MutQ (w * 3) tR lo u' y (rcs L)) (ho : ∀ a, y.a = some a → ((Rs.getD i sl0).a = some a ∨ u.heap.size ≤ a.block))
  (hout : MutQ 1 tO lo u'' x ((Rs.set i y).map Sl.v)) (e2 : ExtX x u' u'') : MatQ w tO tR lo u'' x (Rs.set i y) (Ls.set i L) := by
 obtain ⟨r1, r2⟩ := m.rest hT hi e
 have eT := e2.t r1.mutL
 have hir : i < Rs.length := by rw [m.len]; exact hi
 have hsep : ∀ j, j < Ls.length → j ≠ i → Sep (Rs.getD j sl0) y := fun j hj hji => (m.sep j i hj hi hji).step (m.row j hj).mutL ho
 refine ⟨hout, by rw [List.length_set, List.length_set]; exact m.len, fun j hj => ?_, fun a b ha hb hab => ?_⟩
 ·rw [List.length_set] at hj
  by_cases hij : i = j
  ·subst hij; rw [getD_set_same hj, getD_set_same hir]; exact hy.extT eT hT2
  rw [getD_set_other hij, getD_set_other hij]; exact (r2 j hj (Ne.symm hij)).extT eT hT2
 rw [List.length_set] at ha hb
 by_cases h1 : i = a
 ·subst h1
  rw [getD_set_same hir, getD_set_other hab]
  exact (hsep b hb (Ne.symm hab)).symm
 rw [getD_set_other h1]
 by_cases h2 : i = b
 ·subst h2; rw [getD_set_same hir]; exact hsep a ha (Ne.symm h1)
 rw [getD_set_other h2]; exact m.sep a b ha hb hab
end
namespace Nt
def wq (z f : Int) : Rat := ((z : Int) : Rat) / ((p2i f : Int) : Rat)
end Nt
end Go.Proofs.YtgmkhhfbckjaeaaGreat
