/- Parts of the proof: contracts of functions, each walked once, and plain laws. -/
import Derived.Test.YtgmkhhfbckjaeaaGreatXchM
set_option linter.unusedVariables false
set_option maxHeartbeats 8000000
namespace Go.Proofs.YtgmkhhfbckjaeaaGreat
open Nt
open Go.RowKit
theorem k_r15swap {u w : World} {V : List Rat} {l : List Nat} {n N a b0 o0 c0 : Nat} (d : Dat u w) (ho : Nt.GrOK V N) (hz : SlR .i64 u (some ⟨b0, o0, none⟩) (n + 1) c0 (Nt.inl l)) (hR : Nt.Rf N l n) (hn1 : 1 ≤ n) (ha : a < N) (hc : Nt.absQ (Nt.eL V l) < Nt.absQ (Nt.gE (Nt.gX V) (Nt.gW V) (Nt.gY V) (Nt.pL V l) a)) (he : Nt.eL V l = 0) : qyc 71 #[.slice (some ⟨b0, o0, none⟩) (n + 1) c0, .int .i64 (a : Int)] w (Post u w fun v u' => ∃ (y : Sl) (m : List Nat), v = y.v ∧ MutQ 1 3 u.heap.size u' y (ics (Nt.inl m)) ∧ Nt.Better V N n l m) := by
 have hll := hR.len
 have hzc := slr_cells hz
 have hn11 := hR.n11 ho.n12
 have hc0 : n + 1 ≤ c0 := hz.2.1
 have hN12 := ho.n12
 refine zzm Tryz.func71 rfl Tryz.ntmps71 Tryz.results71 d ?_
 refine sq9 (zza 4 (.v (qyn)) (zzb (sq9 (zza 7 (.v (.slice (some ⟨b0, o0, none⟩) (n + 1) c0)) ?_))))
 have ag : MutQ 1 3 u.heap.size u sl0 (ics []) := (MutQ.nil _ _ _ _)
 refine sy_appQ 8 (T := 22) (E := 3) (z := .int .i64 0) (size := 1) (bytes := 8) (b2 := b0) (off := o0) (m := (n + 1)) (c := c0) sl0 (ics []) (ics (Nt.inl l)) ag xj xj xj yv (by rw [zwi, Nat.mul_one]; rw [Nt.inl_len, hll]) (ics_news (fun j hj => ((Ext.refl _)).cell (hzc j hj))) ics_one xq (by unfold maxLen; show 0 + (n + 1) ≤ _; omega) (by show (0 + (n + 1)) * 8 ≤ _; omega) nu_ics (nu_ics (l := [0])) (fun aa au ap hn11 am az => ?_)
 have eR11 := ExtX.root am (MutQ.mutL ag) (Ext.refl _)
 have ad : MutQ 1 3 u.heap.size au aa (ics (Nt.inl l)) := by have h9 := ap; exact h9
 have aw : aa.n = n + 1 := by have h9 := ad.1; rw [zwi] at h9; have h8 : (Nt.inl l).length = n + 1 := (by rw [Nt.inl_len, hll]); omega
 refine zza 5 (.v (aa.v)) (zzb (sq9 (zza 6 (zI 0) (zzb (zzd (sw_joinP (I := fun S' u' => ∃ (k : Nat), (k ≤ n) ∧ (∀ i, i < k → l.getD i 0 < a) ∧ (k < n → a ≤ l.getD k 0) ∧ (S' = St.of 29 [(1, zI a), (5, .v (aa.v)), (6, zI k)] [])) ?_ (fun ae => ?_)))))))
 ·rintro _ av af ⟨k, hk, ai, aA, rfl⟩
  refine sq9 (zza 24 (.v (aa.v)) (zza 25 (zI k) (zza 26 (zI a) ?_)))
  obtain ⟨b13, ah, ay⟩ := MutQ.elI (j := k) (ad.ext af) (by rw [(show (Nt.inl l).length = n + 1 by rw [Nt.inl_len, hll])]; omega)
  refine zya 27 (0 + k * 1) (n := aa.n) (off := 0) (sz := 1) (i := (k : Int)) xq ah xq xq sl22 ?_
  have hq14 := (ad.ext af)
  refine sy_storeQ (v := .int .i64 a) (off := 0 + k * 1) (n := 1) aa hq14 (fun a9 h9 => .inl (MutQ.blkM ad a9 h9)) ah ty3 (by rw [zwi, (show (Nt.inl l).length = n + 1 by rw [Nt.inl_len, hll])]; omega) (nu_ics (l := [(a : Int)])) (fun aC ao aq => ?_)
  have an : MutQ 1 3 u.heap.size aC aa (ics ((Nt.inl l).set k (a : Int))) := by rw [← setL_icsQ (by rw [(show (Nt.inl l).length = n + 1 by rw [Nt.inl_len, hll])]; omega)]; exact ao
  have eX14r := ExtX.root aq (MutQ.mutL hq14) (eR11.trans af)
  refine zzb (sq9 (zza 28 (.v (aa.v)) (zza 4 (.v (aa.v)) (zzb (zzo (ret0 [aa.v] ⟨zzq, trivial⟩ fun u15 aB => ?_))))))
  have hh := (an.ext aB)
  rw [← Nt.inl_set] at hh
  exact ⟨aa, _, rfl, hh, Nt.swap_ok ho hR hn1 ha hc he xq ai aA⟩
 refine zzt (zyn (I := fun ar S' u' => ∃ (k : Nat), (ar = n - k) ∧ (k ≤ n) ∧ (∀ i, i < k → l.getD i 0 < a) ∧ (S' = St.of 29 [(1, zI a), (5, .v (aa.v)), (6, zI k)] []) ∧ (Ext au u')) (fun m S u1 u2 e h => by obtain ⟨k, hm, p0, p1, hS, hE⟩ := h; exact ⟨k, hm, p0, p1, hS, hE.trans e⟩) _ yz ⟨0, rfl, by omega, (fun i hi => absurd hi (Nat.not_lt_zero i)), rfl, (Ext.refl _)⟩ ?_)
 rintro ar _ u17 ⟨k, ax, hk, ai, rfl, aj⟩
 refine zzd (sq9 (zza 9 (zI k) (zza 10 (.v (aa.v)) (zza 11 (zI aa.n) (qwi 12 ((aa.n : Int) - 1) (aa.n - 1 : Nat) xz (zza 13 (zB (decide ((k : Int) < ((aa.n - 1 : Nat) : Int)))) ?_))))))
 rcases Bool.eq_false_or_eq_true (decide ((k : Int) < ((aa.n - 1 : Nat) : Int))) with hs18 | hs18
 ·refine qbi 14 hs18 ?_
  have qhs18 := qyt hs18
  refine zza 15 (.v (aa.v)) ?_ (hw := w1 5 true 14)
  refine zza 16 (zI k) ?_ (hw := w1 5 true 14)
  obtain ⟨b19, ak, al⟩ := MutQ.elI (j := k) (ad.ext aj) (by rw [(show (Nt.inl l).length = n + 1 by rw [Nt.inl_len, hll])]; omega)
  refine zya 17 (0 + k * 1) (n := aa.n) (off := 0) (sz := 1) (i := (k : Int)) xq ak xq xq sl22 ?_ (hw := w1 5 true 14)
  refine zyl 18 (.int .i64 ((Nt.inl l).getD k 0)) al ty3 ?_ (hw := w1 5 true 14)
  refine zza 19 (zI a) ?_ (hw := w1 5 true 14)
  refine zza 20 (zB (decide (((Nt.inl l).getD k 0) < (a : Int)))) ?_ (hw := w1 5 true 14)
  refine zza 21 (zB (decide (((Nt.inl l).getD k 0) < (a : Int)))) (zzb (zzu (b := decide (((Nt.inl l).getD k 0) < (a : Int))) xj (fun ac => ?_) (fun ac => ?_)))
  ·have qhb20 := qyt ac
   refine zzs (zzp ?_)
   refine zzt (zzf (zza 22 (zI k) (qwi 23 ((k : Int) + 1) (k + 1 : Nat) xz (zza 6 (zI (k + 1 : Nat)) (zzx ?_)))))
   simp only [decide_eq_true_eq] at hs18
   simp only [decide_eq_true_eq] at ac
   rw [Nt.inl_at] at ac
   refine ⟨_, ?_, _, by exact zzv _ _ _, k + 1, rfl, by omega, (fun i hi => by rcases Nat.lt_or_ge i k with h9 | h9; exact ai i h9; (obtain rfl : i = k := by omega); omega), rfl, aj⟩
   omega
  have qhb20 := qyf ac
  refine zyc (zzp ?_)
  simp only [decide_eq_true_eq] at hs18
  simp only [decide_eq_false_iff_not] at ac
  rw [Nt.inl_at] at ac
  refine sw_weak (T := St.of 29 [(1, zI a), (5, .v (aa.v)), (6, zI k)] []) yz ?_
  exact ae _ _ aj ⟨k, by omega, ai, (fun h9 => by omega), rfl⟩
 refine qbi 14 hs18 ?_
 have qhs18 := qyf hs18
 refine zzn 15 (uw 5 true false 14) (zzn 16 (uw 5 true false 14) (zzn 17 (uw 5 true false 14) (zzn 18 (uw 5 true false 14) (zzn 19 (uw 5 true false 14) (zzn 20 (uw 5 true false 14) (zza 21 (zB false) (zzb (zys xj (zyc (zzp ?_))))))))))
 simp only [decide_eq_false_iff_not] at hs18
 refine sw_weak (T := St.of 29 [(1, zI a), (5, .v (aa.v)), (6, zI k)] []) yz ?_
 exact ae _ _ aj ⟨k, by omega, ai, (fun h9 => by omega), rfl⟩
theorem k_r15put {u w : World} {y : Sl} {l : List Nat} {n a b0 o0 c0 : Nat} {x : Sl} {N : Nat} {V : List Rat} (d : Dat u w) (hg : GrN u x N V 1) (ho : Nt.GrOK V N) (hz : SlR .i64 u (some ⟨b0, o0, none⟩) (n + 1) c0 (Nt.inl l)) (hy : PolN u y (Nt.pL V l) 60000) (hR : Nt.Rf N l n) (hn1 : 1 ≤ n) (ha : a < N) (hc : Nt.absQ (Nt.eL V l) < Nt.absQ (Nt.gE (Nt.gX V) (Nt.gW V) (Nt.gY V) (Nt.pL V l) a)) (he : Nt.eL V l ≠ 0) : qyc 72 #[x.v, .slice (some ⟨b0, o0, none⟩) (n + 1) c0, y.v, .int .i64 (a : Int)] w (Post u w fun v u' => ∃ (y : Sl) (m : List Nat), v = y.v ∧ MutQ 1 3 u.heap.size u' y (ics (Nt.inl m)) ∧ Nt.Better V N n l m) := by
 have hxn : x.n = N := hg.len
 have hN12 := ho.n12
 have hN1 := ho.n1
 have hll := hR.len
 have hzc := slr_cells hz
 have hn11 := hR.n11 ho.n12
 have hc0 : n + 1 ≤ c0 := hz.2.1
 have hpl := Nt.lvl_len (V := V) hR
 refine zzm Tryz.func72 rfl Tryz.ntmps72 Tryz.results72 d ?_
 refine sq9 (zza 8 (.v (qyn)) (zzb (sq9 (zza 13 (.v (x.v)) (zza 14 (zI a) ?_)))))
 have cu : x.n = N := GrN.len hg
 obtain ⟨bf, ba, bp, b11, cr, bN, bw, bs, bg, bb, aM, aK⟩ := gr_at hg (i := a) xq
 refine zya 15 (cr + a * 9) (n := x.n) (off := cr) (sz := 9) (i := (a : Int)) xq bN xq (by first | omega | (have h9 : a < N := xq; omega)) sl23 (zym 16 (bf.cs ++ ba.cs ++ bp.cs) (gr_pt bw bs bg) ty56 (zza 17 (.v (y.v)) (zzg 18 31 _ fun _ _ ao cJ => qym (k_r15At (r0 := bf) (r1 := ba) (r2 := bp) (T := 4000000) cJ (bb.ext ao) (aM.ext ao) (aK.ext ao) (hy.ext ao).raw xq xq xq xq) ?_)))
 rintro _ u15 bA ⟨r13, rfl, cN⟩
 refine zzg 19 32 _ fun _ _ aL cx => qym (k_rqSign cx (cN.ext aL).raw xq) ?_
 rintro _ df bB rfl
 refine zza 9 (zI (Nt.sgQ ((Nt.gW V a) * ((Nt.gY V a) - Nt.Pol.evL (Nt.pL V l) (Nt.gX V a))))) (zzb (zzd ?_))
 obtain ⟨sa, hsa⟩ : ∃ z, Nt.sgQ ((Nt.gW V a) * ((Nt.gY V a) - Nt.Pol.evL (Nt.pL V l) (Nt.gX V a))) = z := ⟨_, rfl⟩
 rw [hsa]
 refine zzf (zza 10 (zI 0) (zzb (zzd (sw_joinP (I := fun S' u' => ∃ (k : Nat), (k ≤ n + 1) ∧ (∀ i, i < k → l.getD i 0 < a) ∧ (k < n + 1 → a ≤ l.getD k 0) ∧ (S' = St.of 111 [(0, .v (x.v)), (1, .v (.slice (some ⟨b0, o0, none⟩) (n + 1) c0)), (2, .v (y.v)), (3, zI a), (9, zI sa), (10, zI k)] [])) ?_ (fun af => ?_)))))
 ·rintro _ bH a4 ⟨k, hk, ak, ay, rfl⟩
  refine sq9 (zza 34 (.v (.slice (some ⟨b0, o0, none⟩) (n + 1) c0)) ?_)
  have aB : MutQ 1 3 u.heap.size bH sl0 (ics []) := (MutQ.nil _ _ _ _)
  refine sy_appQ 35 (T := 22) (E := 3) (z := .int .i64 0) (size := 1) (bytes := 8) (b2 := b0) (off := o0) (m := (n + 1)) (c := c0) sl0 (ics []) (ics (Nt.inl l)) aB xj xj xj yv (by rw [zwi, Nat.mul_one]; rw [Nt.inl_len, hll]) (ics_news (fun j hj => ((ao.t (bA.t (aL.t (bB.t a4))))).cell (hzc j hj))) ics_one xq (by unfold maxLen; show 0 + (n + 1) ≤ _; omega) (by show (0 + (n + 1)) * 8 ≤ _; omega) nu_ics (nu_ics (l := [0])) (fun aa dq cb cA bD c7 => ?_)
  have eR23 := ExtX.root bD (MutQ.mutL aB) (ao.t (bA.t (aL.t (bB.t a4))))
  have ac : MutQ 1 3 u.heap.size dq aa (ics (Nt.inl l)) := by have h9 := cb; exact h9
  have dh : aa.n = n + 1 := by have h9 := ac.1; rw [zwi] at h9; have h8 : (Nt.inl l).length = n + 1 := (by rw [Nt.inl_len, hll]); omega
  refine zza 11 (.v (aa.v)) (zzb (sq9 (zza 36 (.v (.slice (some ⟨b0, o0, none⟩) (n + 1) c0)) (zza 37 (zI (n + 1 : Nat)) (qwi 38 (((n + 1 : Nat) : Int) - 1) (n : Nat) xz (zza 12 (zI (n : Nat)) (zzb (zzd (zzt (sq9 (zza 45 (zI k) ?_)))))))))))
  refine zza 46 (zB ((k : Int) == 0)) (zza 44 (zB ((k : Int) == 0)) (zzb (zzu (b := (k : Int) == 0) xj (fun ad => ?_) (fun ad => ?_))))
  ·have aN : (k : Int) = 0 := by simpa using ad
   refine zzd ?_
   have hkk := hR.lt 0 xq
   refine zzf (zza 47 (zI sa) (zza 48 (.v (x.v)) (zza 49 (.v (.slice (some ⟨b0, o0, none⟩) (n + 1) c0)) ?_)))
   have b8 : (Nt.inl l).length = n + 1 := ((hz.ext eR23)).1
   rw [Nt.inl_len] at b8
   obtain ⟨b25, ct, bO, aZ⟩ := ints_at (hz.ext eR23) (i := 0) (by have h9 : 0 < l.length := xq; omega)
   rw [Nt.inl_at] at aZ
   refine zya 50 (ct + 0 * 1) (n := n + 1) (off := ct) (sz := 1) (i := 0) xq bO xq (by first | omega | (have h9 : 0 < l.length := xq; omega)) sl22 (zyl 51 (.int .i64 (((l.getD 0 0) : Nat) : Int)) aZ ty3 ?_)
   have cV : x.n = N := GrN.len (hg.ext eR23)
   obtain ⟨bu, bc, aV, b26, cp, bE, aJ, bx, aQ, bl, aT, aC⟩ := gr_at (hg.ext eR23) (i := (l.getD 0 0)) xq
   refine zya 52 (cp + (l.getD 0 0) * 9) (n := x.n) (off := cp) (sz := 9) (i := (((l.getD 0 0) : Nat) : Int)) xq bE xq (by first | omega | (have h9 : (l.getD 0 0) < N := xq; omega)) sl23 (zym 53 (bu.cs ++ bc.cs ++ aV.cs) (gr_pt aJ bx aQ) ty56 (zza 54 (.v (y.v)) (zzg 55 31 _ fun _ _ am cS => qym (k_r15At (r0 := bu) (r1 := bc) (r2 := aV) (T := 4000000) cS (bl.ext am) (aT.ext am) (aC.ext am) (hy.ext (eR23.trans am)).raw xq xq xq xq) ?_)))
   rintro _ u30 bn ⟨r28, rfl, cW⟩
   refine zzg 56 32 _ fun _ _ az cy => qym (k_rqSign cy (cW.ext az).raw xq) ?_
   rintro _ u34 bz rfl
   refine zza 57 (zB (sa == (Nt.sgQ ((Nt.gW V (l.getD 0 0)) * ((Nt.gY V (l.getD 0 0)) - Nt.Pol.evL (Nt.pL V l) (Nt.gX V (l.getD 0 0))))))) (zzb (zzu (b := sa == (Nt.sgQ ((Nt.gW V (l.getD 0 0)) * ((Nt.gY V (l.getD 0 0)) - Nt.Pol.evL (Nt.pL V l) (Nt.gX V (l.getD 0 0)))))) xj (fun ag => ?_) (fun ag => ?_)))
   ·refine zzf (zza 58 (.v (aa.v)) (zza 59 (zI a) ?_))
    obtain ⟨b38, aU, da⟩ := MutQ.elI (j := 0) (ac.ext (am.t (bn.t (az.t bz.ext)))) (by rw [(show (Nt.inl l).length = n + 1 by rw [Nt.inl_len, hll])]; omega)
    refine zya 60 (0 + 0 * 1) (n := aa.n) (off := 0) (sz := 1) (i := 0) xq aU xq xq sl22 ?_
    have hq39 := (ac.ext (am.t (bn.t (az.t bz.ext))))
    refine sy_storeQ (v := .int .i64 a) (off := 0 + 0 * 1) (n := 1) aa hq39 (fun a9 h9 => .inl (MutQ.blkM ac a9 h9)) aU ty3 (by rw [zwi, (show (Nt.inl l).length = n + 1 by rw [Nt.inl_len, hll])]; omega) (nu_ics (l := [(a : Int)])) (fun cT bV b7 => ?_)
    have bS : MutQ 1 3 u.heap.size cT aa (ics ((Nt.inl l).set 0 (a : Int))) := by rw [← setL_icsQ (by rw [(show (Nt.inl l).length = n + 1 by rw [Nt.inl_len, hll])]; omega)]; exact bV
    have eX39r := ExtX.root b7 (MutQ.mutL hq39) (eR23.t (am.t (bn.t (az.t bz.ext))))
    refine zzx ?_
    refine zzp (sq9 (zza 110 (.v (aa.v)) (zza 8 (.v (aa.v)) (zzb (zzo (ret0 [aa.v] ⟨zzq, trivial⟩ fun u40 cZ => ?_))))))
    simp only [beq_iff_eq] at ad
    simp only [beq_iff_eq] at ag
    subst hsa
    have hPH : Nt.PutH V N n l a k := ⟨ho, hR, hn1, ha, hc, he, by omega, ak, ay⟩
    have hh := (bS.ext cZ)
    obtain rfl : k = 0 := by omega
    rw [← Nt.inl_set] at hh
    exact ⟨aa, _, rfl, hh, Nt.put_1 hPH ag⟩
   refine zzf (zza 61 (zI a) (sy_dataF 62 ⟨3, [.int .i64 a]⟩ 1 (fun cc cg ch c4 cX g42 => ?_)))
   have aE : MutQ 1 3 u.heap.size cg (⟨some ⟨cc, 0, none⟩, 1, 1⟩ : Sl) (ics [(a : Int)]) := MutQ.lit c4 rfl yk cX nu_ics
   have hj42 := slr_cells (MutQ.slr aE)
   refine zza 63 (.v (.slice (some ⟨b0, o0, none⟩) (n + 1) c0)) (zza 64 (zI (n : Nat)) (sy_front 65 (n := n + 1) (c := c0) n sl22 rfl xq ?_))
   have be : MutQ 1 3 u.heap.size cg (⟨some ⟨cc, 0, none⟩, 1, 1⟩ : Sl) (ics [(a : Int)]) := aE
   refine sy_appQ 66 (T := 22) (E := 3) (z := .int .i64 0) (size := 1) (bytes := 8) (b2 := b0) (off := o0) (m := n) (c := c0) (⟨some ⟨cc, 0, none⟩, 1, 1⟩ : Sl) (ics [(a : Int)]) (ics ((Nt.inl l).take n)) be xj xj xj yv (by rw [zwi, Nat.mul_one]; rw [List.length_take, Nt.inl_len, hll]; omega) (ics_news (fun j hj => ((eR23.t (am.t (bn.t (az.t (bz.t ch)))))).cell (cells_take hzc j hj))) ics_one xq (by unfold maxLen; show 1 + n ≤ _; omega) (by show (1 + n) * 8 ≤ _; omega) nu_ics (nu_ics (l := [0])) (fun aq cH bQ cv bC c2 => ?_)
   have eR43 := ExtX.root bC (MutQ.mutL be) (eR23.t (am.t (bn.t (az.t (bz.t ch)))))
   have bk : MutQ 1 3 u.heap.size cH aq (ics ([(a : Int)] ++ (Nt.inl l).take n)) := by have h9 := bQ; rw [← ics_app] at h9; exact h9
   have c3 : aq.n = n + 1 := by have h9 := bk.1; rw [zwi] at h9; have h8 : ([(a : Int)] ++ (Nt.inl l).take n).length = n + 1 := (by rw [List.length_append, List.length_take, Nt.inl_len, hll]; show 1 + min n (n + 1) = n + 1; omega); omega
   refine zza 11 (.v (aq.v)) (zzx ?_)
   refine zzp (sq9 (zza 110 (.v (aq.v)) (zza 8 (.v (aq.v)) (zzb (zzo (ret0 [aq.v] ⟨zzq, trivial⟩ fun u44 cI => ?_))))))
   simp only [beq_iff_eq] at ad
   simp only [beq_eq_false_iff_ne] at ag
   subst hsa
   have hPH : Nt.PutH V N n l a k := ⟨ho, hR, hn1, ha, hc, he, by omega, ak, ay⟩
   have hh := (bk.ext cI)
   obtain rfl : k = 0 := by omega
   rw [← Nt.inl_take] at hh
   exact ⟨aq, a :: l.take n, rfl, hh, Nt.put_2 hPH ag⟩
  have aN : ¬ ((k : Int) = 0) := by simpa using ad
  refine sq9 (zza 68 (zI k) (zza 69 (zI (n : Nat)) (zza 70 (zB (decide (((n : Nat) : Int) < (k : Int)))) (zza 67 (zB (decide (((n : Nat) : Int) < (k : Int)))) (zzb (zzu (b := decide (((n : Nat) : Int) < (k : Int))) xj (fun ae => ?_) (fun ae => ?_)))))))
  ·have qhb46 := qyt ae
   refine zzd ?_
   have hkk := hR.lt n xq
   refine zzf (zza 71 (zI sa) (zza 72 (.v (x.v)) (zza 73 (.v (.slice (some ⟨b0, o0, none⟩) (n + 1) c0)) (zza 74 (zI (n : Nat)) ?_))))
   have bY : (Nt.inl l).length = n + 1 := ((hz.ext eR23)).1
   rw [Nt.inl_len] at bY
   obtain ⟨b47, ck, b4, aG⟩ := ints_at (hz.ext eR23) (i := (n)) (by have h9 : (n) < l.length := xq; omega)
   rw [Nt.inl_at] at aG
   refine zya 75 (ck + (n) * 1) (n := n + 1) (off := ck) (sz := 1) (i := ((n : Nat) : Int)) xq b4 xq (by first | omega | (have h9 : (n) < l.length := xq; omega)) sl22 (zyl 76 (.int .i64 (((l.getD (n) 0) : Nat) : Int)) aG ty3 ?_)
   have cD : x.n = N := GrN.len (hg.ext eR23)
   obtain ⟨aH, bh, a0, b48, cj, bR, aW, aY, aP, a6, aO, bo⟩ := gr_at (hg.ext eR23) (i := (l.getD (n) 0)) xq
   refine zya 77 (cj + (l.getD (n) 0) * 9) (n := x.n) (off := cj) (sz := 9) (i := (((l.getD (n) 0) : Nat) : Int)) xq bR xq (by first | omega | (have h9 : (l.getD (n) 0) < N := xq; omega)) sl23 (zym 78 (aH.cs ++ bh.cs ++ a0.cs) (gr_pt aW aY aP) ty56 (zza 79 (.v (y.v)) (zzg 80 31 _ fun _ _ an cB => qym (k_r15At (r0 := aH) (r1 := bh) (r2 := a0) (T := 4000000) cB (a6.ext an) (aO.ext an) (bo.ext an) (hy.ext (eR23.trans an)).raw xq xq xq xq) ?_)))
   rintro _ u52 bd ⟨r50, rfl, cw⟩
   refine zzg 81 32 _ fun _ _ av cP => qym (k_rqSign cP (cw.ext av).raw xq) ?_
   rintro _ dk a8 rfl
   refine zza 82 (zB (sa == (Nt.sgQ ((Nt.gW V (l.getD (n) 0)) * ((Nt.gY V (l.getD (n) 0)) - Nt.Pol.evL (Nt.pL V l) (Nt.gX V (l.getD (n) 0))))))) (zzb (zzu (b := sa == (Nt.sgQ ((Nt.gW V (l.getD (n) 0)) * ((Nt.gY V (l.getD (n) 0)) - Nt.Pol.evL (Nt.pL V l) (Nt.gX V (l.getD (n) 0)))))) xj (fun aj => ?_) (fun aj => ?_)))
   ·refine zzf (zza 83 (.v (aa.v)) (zza 84 (zI (n : Nat)) (zza 85 (zI a) ?_)))
    obtain ⟨b60, a7, dc⟩ := MutQ.elI (j := (n)) (ac.ext (an.t (bd.t (av.t a8.ext)))) (by rw [(show (Nt.inl l).length = n + 1 by rw [Nt.inl_len, hll])]; omega)
    refine zya 86 (0 + (n) * 1) (n := aa.n) (off := 0) (sz := 1) (i := ((n : Nat) : Int)) xq a7 xq xq sl22 ?_
    have hq61 := (ac.ext (an.t (bd.t (av.t a8.ext))))
    refine sy_storeQ (v := .int .i64 a) (off := 0 + (n) * 1) (n := 1) aa hq61 (fun a9 h9 => .inl (MutQ.blkM ac a9 h9)) a7 ty3 (by rw [zwi, (show (Nt.inl l).length = n + 1 by rw [Nt.inl_len, hll])]; omega) (nu_ics (l := [(a : Int)])) (fun c1 b6 b9 => ?_)
    have cd : MutQ 1 3 u.heap.size c1 aa (ics ((Nt.inl l).set (n) (a : Int))) := by rw [← setL_icsQ (by rw [(show (Nt.inl l).length = n + 1 by rw [Nt.inl_len, hll])]; omega)]; exact b6
    have eX61r := ExtX.root b9 (MutQ.mutL hq61) (eR23.t (an.t (bd.t (av.t a8.ext))))
    refine zzx ?_
    refine zzp (sq9 (zza 110 (.v (aa.v)) (zza 8 (.v (aa.v)) (zzb (zzo (ret0 [aa.v] ⟨zzq, trivial⟩ fun u62 c8 => ?_))))))
    simp only [beq_eq_false_iff_ne] at ad
    simp only [decide_eq_true_eq] at ae
    simp only [beq_iff_eq] at aj
    subst hsa
    have hPH : Nt.PutH V N n l a k := ⟨ho, hR, hn1, ha, hc, he, by omega, ak, ay⟩
    have hh := (cd.ext c8)
    obtain rfl : k = n + 1 := by omega
    rw [← Nt.inl_set] at hh
    exact ⟨aa, _, rfl, hh, Nt.put_3 hPH aj⟩
   refine zzf (zza 87 (.v (.slice (some ⟨b0, o0, none⟩) (n + 1) c0)) (sy_tailD 88 (b := b0) (off := o0) (i := 1) (n := n + 1) (c := c0) 1 sl22 rfl xq xq xq ?_))
   have aR : MutQ 1 3 u.heap.size dk sl0 (ics []) := (MutQ.nil _ _ _ _)
   refine sy_appQ 89 (T := 22) (E := 3) (z := .int .i64 0) (size := 1) (bytes := 8) (b2 := b0) (off := (o0 + 1 * 1)) (m := (n + 1 - 1)) (c := (c0 - 1)) sl0 (ics []) (ics ((Nt.inl l).drop 1)) aR xj xj xj yv (by rw [zwi, Nat.mul_one]; rw [List.length_drop, Nt.inl_len, hll]) (ics_news (fun j hj => ((eR23.t (an.t (bd.t (av.t a8.ext))))).cell (cells_drop hzc j hj))) ics_one xq (by unfold maxLen; show 0 + (n + 1 - 1) ≤ _; omega) (by show (0 + (n + 1 - 1)) * 8 ≤ _; omega) nu_ics (nu_ics (l := [0])) (fun ar cG bL cU bK cE => ?_)
   have eR64 := ExtX.root bK (MutQ.mutL aR) (eR23.t (an.t (bd.t (av.t a8.ext))))
   have aD : MutQ 1 3 u.heap.size cG ar (ics ((Nt.inl l).drop 1)) := by have h9 := bL; exact h9
   have c5 : ar.n = n := by have h9 := aD.1; rw [zwi] at h9; have h8 : ((Nt.inl l).drop 1).length = n := (by exact List.length_drop.trans (congrArg (· - 1) ((Nt.inl_len _).trans hll))); omega
   refine zza 90 (zI a) (sy_dataF 91 ⟨3, [.int .i64 a]⟩ 1 (fun cn cf cl cK cO g65 => ?_))
   have bT : MutQ 1 3 u.heap.size cf (⟨some ⟨cn, 0, none⟩, 1, 1⟩ : Sl) (ics [(a : Int)]) := MutQ.lit cK rfl yk cO nu_ics
   have hj65 := slr_cells (MutQ.slr bT)
   have hxl : ar.n = n := by omega
   have bq : MutQ 1 3 u.heap.size cf ar (ics ((Nt.inl l).drop 1)) := (aD.ext cl)
   refine sy_appQ 92 (T := 22) (E := 3) (z := .int .i64 0) (size := 1) (bytes := 8) (b2 := cn) (off := 0) (m := 1) (c := 1) ar (ics ((Nt.inl l).drop 1)) (ics [(a : Int)]) bq xj xj xj yv (by rw [zwi, Nat.mul_one]; rfl) (ics_news (fun j hj => ((Ext.refl _)).cell (hj65 j hj))) ics_one xq (by unfold maxLen; show ar.n + 1 ≤ _; omega) (by show (ar.n + 1) * 8 ≤ _; omega) nu_ics (nu_ics (l := [0])) (fun ap cR bJ dj bW dp => ?_)
   have eR66 := ExtX.root bW (MutQ.mutL bq) (eR64.trans cl)
   have aF : MutQ 1 3 u.heap.size cR ap (ics ((Nt.inl l).drop 1 ++ [(a : Int)])) := by have h9 := bJ; rw [← ics_app] at h9; exact h9
   have c9 : ap.n = n + 1 := by have h9 := aF.1; rw [zwi] at h9; have h8 : ((Nt.inl l).drop 1 ++ [(a : Int)]).length = n + 1 := (by rw [List.length_append, List.length_drop, Nt.inl_len, hll]; show n + 1 - 1 + 1 = n + 1; omega); omega
   refine zza 11 (.v (ap.v)) (zzx ?_)
   refine zzp (sq9 (zza 110 (.v (ap.v)) (zza 8 (.v (ap.v)) (zzb (zzo (ret0 [ap.v] ⟨zzq, trivial⟩ fun u67 cz => ?_))))))
   simp only [beq_eq_false_iff_ne] at ad
   simp only [decide_eq_true_eq] at ae
   simp only [beq_eq_false_iff_ne] at aj
   subst hsa
   have hPH : Nt.PutH V N n l a k := ⟨ho, hR, hn1, ha, hc, he, by omega, ak, ay⟩
   have hh := (aF.ext cz)
   obtain rfl : k = n + 1 := by omega
   rw [← Nt.inl_drop] at hh
   exact ⟨ap, l.drop 1 ++ [a], rfl, (by rw [Nt.inl_app]; exact hh), Nt.put_4 hPH aj⟩
  have qhb46 := qyf ae
  refine zzd ?_
  have hkk := hR.lt k (by have h9 := qyf ae; omega)
  refine zzf (zza 94 (zI sa) (zza 95 (.v (x.v)) (zza 96 (.v (.slice (some ⟨b0, o0, none⟩) (n + 1) c0)) (zza 97 (zI k) ?_))))
  have bU : (Nt.inl l).length = n + 1 := ((hz.ext eR23)).1
  rw [Nt.inl_len] at bU
  obtain ⟨b69, ci, b1, aA⟩ := ints_at (hz.ext eR23) (i := k) (by have h9 : k < l.length := xq; omega)
  rw [Nt.inl_at] at aA
  refine zya 98 (ci + k * 1) (n := n + 1) (off := ci) (sz := 1) (i := (k : Int)) xq b1 xq (by first | omega | (have h9 : k < l.length := xq; omega)) sl22 (zyl 99 (.int .i64 (((l.getD k 0) : Nat) : Int)) aA ty3 ?_)
  have de : x.n = N := GrN.len (hg.ext eR23)
  obtain ⟨bi, bm, a3, b70, ce, bP, a1, aI, aS, aX, bj, bv⟩ := gr_at (hg.ext eR23) (i := (l.getD k 0)) xq
  refine zya 100 (ce + (l.getD k 0) * 9) (n := x.n) (off := ce) (sz := 9) (i := (((l.getD k 0) : Nat) : Int)) xq bP xq (by first | omega | (have h9 : (l.getD k 0) < N := xq; omega)) sl23 (zym 101 (bi.cs ++ bm.cs ++ a3.cs) (gr_pt a1 aI aS) ty56 (zza 102 (.v (y.v)) (zzg 103 31 _ fun _ _ al cF => qym (k_r15At (r0 := bi) (r1 := bm) (r2 := a3) (T := 4000000) cF (aX.ext al) (bj.ext al) (bv.ext al) (hy.ext (eR23.trans al)).raw xq xq xq xq) ?_)))
  rintro _ u74 aw ⟨r72, rfl, dm⟩
  refine zzg 104 32 _ fun _ _ au di => qym (k_rqSign di (dm.ext au).raw xq) ?_
  rintro _ u78 ax rfl
  refine zza 105 (zB (sa == (Nt.sgQ ((Nt.gW V (l.getD k 0)) * ((Nt.gY V (l.getD k 0)) - Nt.Pol.evL (Nt.pL V l) (Nt.gX V (l.getD k 0))))))) (zza 93 (zB (sa == (Nt.sgQ ((Nt.gW V (l.getD k 0)) * ((Nt.gY V (l.getD k 0)) - Nt.Pol.evL (Nt.pL V l) (Nt.gX V (l.getD k 0))))))) (zzb (zzu (b := sa == (Nt.sgQ ((Nt.gW V (l.getD k 0)) * ((Nt.gY V (l.getD k 0)) - Nt.Pol.evL (Nt.pL V l) (Nt.gX V (l.getD k 0)))))) xj (fun ah => ?_) (fun ah => ?_))))
  ·refine zzf (zza 106 (.v (aa.v)) (zza 107 (zI k) (zza 108 (zI a) ?_)))
   obtain ⟨b82, bt, cM⟩ := MutQ.elI (j := k) (ac.ext (al.t (aw.t (au.t ax.ext)))) (by rw [(show (Nt.inl l).length = n + 1 by rw [Nt.inl_len, hll])]; omega)
   refine zya 109 (0 + k * 1) (n := aa.n) (off := 0) (sz := 1) (i := (k : Int)) xq bt xq xq sl22 ?_
   have hq83 := (ac.ext (al.t (aw.t (au.t ax.ext))))
   refine sy_storeQ (v := .int .i64 a) (off := 0 + k * 1) (n := 1) aa hq83 (fun a9 h9 => .inl (MutQ.blkM ac a9 h9)) bt ty3 (by rw [zwi, (show (Nt.inl l).length = n + 1 by rw [Nt.inl_len, hll])]; omega) (nu_ics (l := [(a : Int)])) (fun c6 bX b3 => ?_)
   have bI : MutQ 1 3 u.heap.size c6 aa (ics ((Nt.inl l).set k (a : Int))) := by rw [← setL_icsQ (by rw [(show (Nt.inl l).length = n + 1 by rw [Nt.inl_len, hll])]; omega)]; exact bX
   have eX83r := ExtX.root b3 (MutQ.mutL hq83) (eR23.t (al.t (aw.t (au.t ax.ext))))
   refine zzx ?_
   refine zzp (sq9 (zza 110 (.v (aa.v)) (zza 8 (.v (aa.v)) (zzb (zzo (ret0 [aa.v] ⟨zzq, trivial⟩ fun u84 cQ => ?_))))))
   simp only [beq_eq_false_iff_ne] at ad
   simp only [decide_eq_false_iff_not] at ae
   simp only [beq_iff_eq] at ah
   subst hsa
   have hPH : Nt.PutH V N n l a k := ⟨ho, hR, hn1, ha, hc, he, by omega, ak, ay⟩
   have hh := (bI.ext cQ)
   rw [← Nt.inl_set] at hh
   exact ⟨aa, _, rfl, hh, Nt.put_5 hPH xq xq ah⟩
  refine zzf (zza 39 (.v (aa.v)) (zza 40 (zI k) (qwi 41 ((k : Int) - 1) (k - 1 : Nat) xz (zza 42 (zI a) ?_))))
  obtain ⟨b86, a5, db⟩ := MutQ.elI (j := (k - 1)) (ac.ext (al.t (aw.t (au.t ax.ext)))) (by rw [(show (Nt.inl l).length = n + 1 by rw [Nt.inl_len, hll])]; omega)
  refine zya 43 (0 + (k - 1) * 1) (n := aa.n) (off := 0) (sz := 1) (i := ((k - 1 : Nat) : Int)) xq a5 xq xq sl22 ?_
  have hq87 := (ac.ext (al.t (aw.t (au.t ax.ext))))
  refine sy_storeQ (v := .int .i64 a) (off := 0 + (k - 1) * 1) (n := 1) aa hq87 (fun a9 h9 => .inl (MutQ.blkM ac a9 h9)) a5 ty3 (by rw [zwi, (show (Nt.inl l).length = n + 1 by rw [Nt.inl_len, hll])]; omega) (nu_ics (l := [(a : Int)])) (fun cC ca bF => ?_)
  have bM : MutQ 1 3 u.heap.size cC aa (ics ((Nt.inl l).set (k - 1) (a : Int))) := by rw [← setL_icsQ (by rw [(show (Nt.inl l).length = n + 1 by rw [Nt.inl_len, hll])]; omega)]; exact ca
  have eX87r := ExtX.root bF (MutQ.mutL hq87) (eR23.t (al.t (aw.t (au.t ax.ext))))
  refine zzx ?_
  refine zzp (sq9 (zza 110 (.v (aa.v)) (zza 8 (.v (aa.v)) (zzb (zzo (ret0 [aa.v] ⟨zzq, trivial⟩ fun u88 cY => ?_))))))
  simp only [beq_eq_false_iff_ne] at ad
  simp only [decide_eq_false_iff_not] at ae
  simp only [beq_eq_false_iff_ne] at ah
  subst hsa
  have hPH : Nt.PutH V N n l a k := ⟨ho, hR, hn1, ha, hc, he, by omega, ak, ay⟩
  have hh := (bM.ext cY)
  rw [← Nt.inl_set] at hh
  exact ⟨aa, _, rfl, hh, Nt.put_6 hPH xq xq ah⟩
 refine zzt (zyn (I := fun cq S' u' => ∃ (k : Nat), (cq = n + 1 - k) ∧ (k ≤ n + 1) ∧ (∀ i, i < k → l.getD i 0 < a) ∧ (S' = St.of 111 [(0, .v (x.v)), (1, .v (.slice (some ⟨b0, o0, none⟩) (n + 1) c0)), (2, .v (y.v)), (3, zI a), (9, zI sa), (10, zI k)] []) ∧ (Ext df u')) (fun m S u1 u2 e h => by obtain ⟨k, hm, p0, p1, hS, hE⟩ := h; exact ⟨k, hm, p0, p1, hS, hE.trans e⟩) _ yz ⟨0, rfl, by omega, (fun i hi => absurd hi (Nat.not_lt_zero i)), rfl, (Ext.refl _)⟩ ?_)
 rintro cq _ u90 ⟨k, dn, hk, ak, rfl, a2⟩
 refine zzd (sq9 (zza 20 (zI k) (zza 21 (.v (.slice (some ⟨b0, o0, none⟩) (n + 1) c0)) (zza 22 (zI (n + 1 : Nat)) (zza 23 (zB (decide ((k : Int) < ((n + 1 : Nat) : Int)))) ?_)))))
 rcases Bool.eq_false_or_eq_true (decide ((k : Int) < ((n + 1 : Nat) : Int))) with hs91 | hs91
 ·refine qbi 24 hs91 ?_
  have qhs91 := qyt hs91
  refine zza 25 (.v (.slice (some ⟨b0, o0, none⟩) (n + 1) c0)) ?_ (hw := w1 4 true 24)
  refine zza 26 (zI k) ?_ (hw := w1 4 true 24)
  have b5 : (Nt.inl l).length = n + 1 := ((hz.ext (ao.t (bA.t (aL.t (bB.t a2)))))).1
  rw [Nt.inl_len] at b5
  obtain ⟨b92, cm, bG, br⟩ := ints_at (hz.ext (ao.t (bA.t (aL.t (bB.t a2))))) (i := k) (by have h9 : k < l.length := xq; omega)
  rw [Nt.inl_at] at br
  refine zya 27 (cm + k * 1) (n := n + 1) (off := cm) (sz := 1) (i := (k : Int)) xq bG xq (by first | omega | (have h9 : k < l.length := xq; omega)) sl22 ?_ (hw := w1 4 true 24)
  refine zyl 28 (.int .i64 (((l.getD k 0) : Nat) : Int)) br ty3 ?_ (hw := w1 4 true 24)
  refine zza 29 (zI a) ?_ (hw := w1 4 true 24)
  refine zza 30 (zB (decide ((((l.getD k 0) : Nat) : Int) < (a : Int)))) ?_ (hw := w1 4 true 24)
  refine zza 31 (zB (decide ((((l.getD k 0) : Nat) : Int) < (a : Int)))) (zzb (zzu (b := decide ((((l.getD k 0) : Nat) : Int) < (a : Int))) xj (fun ai => ?_) (fun ai => ?_)))
  ·have qhb93 := qyt ai
   refine zzs (zzp ?_)
   refine zzt (zzf (zza 32 (zI k) (qwi 33 ((k : Int) + 1) (k + 1 : Nat) xz (zza 10 (zI (k + 1 : Nat)) (zzx ?_)))))
   simp only [decide_eq_true_eq] at hs91
   simp only [decide_eq_true_eq] at ai
   refine ⟨_, ?_, _, by exact zzv _ _ _, k + 1, rfl, by omega, (fun i hi => by rcases Nat.lt_or_ge i k with h9 | h9; exact ak i h9; (obtain rfl : i = k := by omega); omega), rfl, a2⟩
   omega
  have qhb93 := qyf ai
  refine zyc (zzp ?_)
  simp only [decide_eq_true_eq] at hs91
  simp only [decide_eq_false_iff_not] at ai
  refine sw_weak (T := St.of 111 [(0, .v (x.v)), (1, .v (.slice (some ⟨b0, o0, none⟩) (n + 1) c0)), (2, .v (y.v)), (3, zI a), (9, zI sa), (10, zI k)] []) yz ?_
  exact af _ _ a2 ⟨k, by omega, ak, (fun h9 => by omega), rfl⟩
 refine qbi 24 hs91 ?_
 have qhs91 := qyf hs91
 refine zzn 25 (uw 4 true false 24) (zzn 26 (uw 4 true false 24) (zzn 27 (uw 4 true false 24) (zzn 28 (uw 4 true false 24) (zzn 29 (uw 4 true false 24) (zzn 30 (uw 4 true false 24) (zza 31 (zB false) (zzb (zys xj (zyc (zzp ?_))))))))))
 simp only [decide_eq_false_iff_not] at hs91
 refine sw_weak (T := St.of 111 [(0, .v (x.v)), (1, .v (.slice (some ⟨b0, o0, none⟩) (n + 1) c0)), (2, .v (y.v)), (3, zI a), (9, zI sa), (10, zI k)] []) yz ?_
 exact af _ _ a2 ⟨k, by omega, ak, (fun h9 => by omega), rfl⟩
theorem k_r15putS {u w : World} {lo N n a : Nat} {V : List Rat} {z : Sl} {l : List Nat} {x y : Sl} (d : Dat u w) (hg : GrN u x N V 1) (ho : Nt.GrOK V N) (hz : MutQ 1 3 lo u z (ics (Nt.inl l))) (hy : PolN u y (Nt.pL V l) 60000) (hR : Nt.Rf N l n) (hn1 : 1 ≤ n) (ha : a < N) (hc : Nt.absQ (Nt.eL V l) < Nt.absQ (Nt.gE (Nt.gX V) (Nt.gW V) (Nt.gY V) (Nt.pL V l) a)) (he : Nt.eL V l ≠ 0) : qyc 72 #[x.v, z.v, y.v, .int .i64 (a : Int)] w (Post u w fun v u' => ∃ (y : Sl) (m : List Nat), v = y.v ∧ MutQ 1 3 u.heap.size u' y (ics (Nt.inl m)) ∧ Nt.Better V N n l m) := by
 obtain ⟨b, c, e, _⟩ := ints_some hz (by rw [Nt.inl_len, hR.len]; omega)
 rw [Nt.inl_len, hR.len] at e
 subst e
 exact k_r15put d hg ho (MutQ.slr hz) hy hR hn1 ha hc he
theorem k_r15swapS {u w : World} {lo N n a : Nat} {V : List Rat} {z : Sl} {l : List Nat} (d : Dat u w) (ho : Nt.GrOK V N) (hz : MutQ 1 3 lo u z (ics (Nt.inl l))) (hR : Nt.Rf N l n) (hn1 : 1 ≤ n) (ha : a < N) (hc : Nt.absQ (Nt.eL V l) < Nt.absQ (Nt.gE (Nt.gX V) (Nt.gW V) (Nt.gY V) (Nt.pL V l) a)) (he : Nt.eL V l = 0) : qyc 71 #[z.v, .int .i64 (a : Int)] w (Post u w fun v u' => ∃ (y : Sl) (m : List Nat), v = y.v ∧ MutQ 1 3 u.heap.size u' y (ics (Nt.inl m)) ∧ Nt.Better V N n l m) := by
 obtain ⟨b, c, e, _⟩ := ints_some hz (by rw [Nt.inl_len, hR.len]; omega)
 rw [Nt.inl_len, hR.len] at e
 subst e
 exact k_r15swap d ho (MutQ.slr hz) hR hn1 ha hc he
namespace Nt
section
variable {V : List Rat} {N n a : Nat} {l : List Nat} {f : Nat → Nat}
theorem end_ne (g : GrOK V N) (hR : Rf N l n) (h1 : 1 ≤ n) (hG : Gst (erL V (pL V l) N) N a) (hc : ¬ absQ (gE (gX V) (gW V) (gY V) (pL V l) a) = absQ (eL V l)) : absQ (eL V l) < absQ (gE (gX V) (gW V) (gY V) (pL V l) a) := by
 refine Decidable.byContradiction fun h => hc ?_
 exact (design_end g hR h1 hG h).2
theorem first_take {k m : Nat} (h : k < m) : ((List.range m).map f).take (k + 1) = ((List.range m).map f).take k ++ [f k] := by
 rw [List.take_succ_eq_append_getElem (by simp; exact h)]
 simp
end
end Nt
theorem k_r15Design {u w : World} {D : Nat} {x : Sl} {N : Nat} {V : List Rat} (d : Dat u w) (hg : GrN u x N V 1) (ho : Nt.GrOK V N) (hD : D + 2 ≤ N) (hD6 : D ≤ 6) : qyc 14 #[x.v, .int .i64 (D : Int)] w (Post u w fun v u' => ∃ (y : Sl) (r : RL) (z : Sl) (l : List Nat), v = .tuple #[.agg #[.slice y.a y.n y.c, .bool r.s, .slice r.m.a r.m.n r.m.c, .slice r.d.a r.d.n r.d.c, .slice z.a z.n z.c], .int .i64 0] ∧ PolN u' y (Nt.pL V l) 60000 ∧ RatN u' r (Nt.absQ (Nt.eL V l)) 4000000 ∧ MutQ 1 3 u.heap.size u' z (ics (Nt.inl l)) ∧ Nt.Bst (Nt.gX V) (Nt.gW V) (Nt.gY V) N (D + 1) (Nt.pL V l) l) := by
 have hxn : x.n = N := hg.len
 have hN12 := ho.n12
 have hN1 := ho.n1
 refine zzm Tryz.func14 rfl Tryz.ntmps14 Tryz.results14 d ?_
 refine sq9 (zzk 4 ⟨34, [qyn, .bool false, qyn, qyn, qyn]⟩ (zza 5 (zI 0) (zzb (zzd (zzt (sq9 (zza 15 (.v (x.v)) (zzg 16 69 _ fun _ _ aU a7 => qym (k_r14Valid a7 (hg.ext aU) ho) ?_))))))))
 rintro _ u12 a2 rfl
 refine zza 17 (zB false) (zza 14 (zB false) (zzb (zys xj (sq9 (zza 20 (zI D) (zza 21 (zB (decide ((D : Int) < 0))) (zyq 22 (x := zB (decide ((D : Int) < 0))) (zB false) (by rw [show (decide ((D : Int) < 0)) = false from decide_eq_false xq]) (zza 23 (zI D) ?_ (hw := w1 2 false 22)))))))))
 refine zza 24 (zB (decide ((50 : Int) < (D : Int)))) ?_ (hw := w1 2 false 22)
 refine zza 25 (zB (decide ((50 : Int) < (D : Int)))) (zza 19 (zB (decide ((50 : Int) < (D : Int)))) (zzb (zzu (b := decide ((50 : Int) < (D : Int))) xj (fun hb => ?_) (fun hb => ?_))))
 ·exact absurd hb (by rw [show (decide ((50 : Int) < (D : Int))) = false from decide_eq_false xq]; decide)
 clear hb
 refine sq9 (zza 28 (.v (x.v)) (zza 29 (zI x.n) (zza 30 (zI D) (qwi 31 ((D : Int) + 2) (D + 2 : Nat) xz (zza 32 (zB (decide ((x.n : Int) < ((D + 2 : Nat) : Int)))) (zza 27 (zB (decide ((x.n : Int) < ((D + 2 : Nat) : Int)))) (zzb (zzu (b := decide ((x.n : Int) < ((D + 2 : Nat) : Int))) xj (fun hb => ?_) (fun hb => ?_)))))))))
 ·exact absurd hb (by rw [show (decide ((x.n : Int) < ((D + 2 : Nat) : Int))) = false from decide_eq_false xq]; decide)
 clear hb
 refine zzs (zzp ?_)
 refine sq9 (zza 6 (.v (qyn)) (zzb (zzd (sq9 (zza 7 (zI 0) (zzb (zzt (zyn (I := fun aP S' u' => ∃ (i : Nat) (y6 : Sl), (aP = D + 2 - i) ∧ (i ≤ D + 2) ∧ (S' = St.of 85 [(0, .v (x.v)), (1, zI D), (4, .adr 4 0), (6, .v (y6.v)), (7, zI i)] [(4, ⟨34, [qyn, .bool false, qyn, qyn, qyn]⟩)]) ∧ (Ext u u') ∧ (MutQ 1 3 u.heap.size u' y6 (ics (Nt.inl (((List.range (D + 1 + 1)).map fun i => i * (N - 1) / (D + 1)).take i))))) (fun m S u1 u2 e h => by obtain ⟨i, y6, hm, p0, hS, hE, f0⟩ := h; exact ⟨i, y6, hm, p0, hS, hE.trans e, f0.ext e⟩) _ yz ⟨0, sl0, rfl, by omega, rfl, (aU.t a2.ext), (by rw [List.take_zero]; exact MutQ.nil _ _ _ _)⟩ ?_))))))))
 rintro aP _ u16 ⟨i, y6, a9, hi, rfl, aR, f0⟩
 have aB : y6.n = i := by have h9 := f0.1; rw [zwi, Nt.inl_len, List.length_take, List.length_map, List.length_range] at h9; omega
 refine zzd (sq9 (zza 34 (zI i) (zza 35 (zI D) (qwi 36 ((D : Int) + 2) (D + 2 : Nat) xz (zza 37 (zB (decide ((i : Int) < ((D + 2 : Nat) : Int)))) (zzb (zzu (b := decide ((i : Int) < ((D + 2 : Nat) : Int))) xj (fun au => ?_) (fun au => ?_))))))))
 ·have qhb17 := qyt au
  refine zzs (zzp ?_)
  refine zzd (zzt (zzf (zza 40 (.v (y6.v)) (zza 41 (zI i) (zza 42 (.v (x.v)) (zza 43 (zI x.n) (qwi 44 ((x.n : Int) - 1) (N - 1 : Nat) xz ?_)))))))
  obtain ⟨pz, hpz⟩ : ∃ m : Nat, i * (N - 1) = m := ⟨_, rfl⟩
  have hbpz : pz ≤ 144 := by rw [← hpz]; exact Nat.le_trans (Nat.mul_le_mul (show i ≤ 12 by omega) (show (N - 1) ≤ 12 by omega)) yv
  have hepz : ((i : Nat) : Int) * (((N - 1) : Nat) : Int) = (pz : Int) := by rw [← hpz, Int.natCast_mul]
  refine qwi 45 (((i : Nat) : Int) * (((N - 1) : Nat) : Int)) pz (by rw [hepz, IntWalk.i64_in _ xq]) (zza 46 (zI D) (qwi 47 ((D : Int) + 1) (D + 1 : Nat) xz ?_))
  obtain ⟨qz, hqz⟩ : ∃ q : Nat, pz / (D + 1) = q := ⟨_, rfl⟩
  have hqb : qz ≤ pz := by rw [← hqz]; exact Nat.div_le_self _ _
  refine sy_quo 48 (n := (pz : Int)) (m := ((D + 1 : Nat) : Int)) ((qz : Nat) : Int) xq (by rw [show ((pz : Nat) : Int).tdiv ((D + 1 : Nat) : Int) = ((pz / (D + 1) : Nat) : Int) from rfl, hqz]; exact IntWalk.i64_in _ xq) ?_
  refine sy_dataF 49 ⟨3, [.int .i64 qz]⟩ 1 (fun aV aQ aS bh bb g18 => ?_)
  have aJ : MutQ 1 3 u.heap.size aQ (⟨some ⟨aV, 0, none⟩, 1, 1⟩ : Sl) (ics [(qz : Int)]) := MutQ.lit bh rfl yk bb nu_ics
  have hj18 := slr_cells (MutQ.slr aJ)
  have hxl := aB
  have az : MutQ 1 3 u.heap.size aQ y6 (ics (Nt.inl (((List.range (D + 1 + 1)).map fun i => i * (N - 1) / (D + 1)).take i))) := (f0.ext aS)
  refine sy_appQ 50 (T := 22) (E := 3) (z := .int .i64 0) (size := 1) (bytes := 8) (b2 := aV) (off := 0) (m := 1) (c := 1) y6 (ics (Nt.inl (((List.range (D + 1 + 1)).map fun i => i * (N - 1) / (D + 1)).take i))) (ics [(qz : Int)]) az xj xj xj yv (by rw [zwi, Nat.mul_one]; rfl) (ics_news (fun j hj => ((Ext.refl _)).cell (hj18 j hj))) ics_one xq (by unfold maxLen; show y6.n + 1 ≤ _; omega) (by show (y6.n + 1) * 8 ≤ _; omega) nu_ics (nu_ics (l := [0])) (fun aH bg aM bf aI bd => ?_)
  have eR19 := ExtX.root aI (MutQ.mutL az) (aR.trans aS)
  have ax : MutQ 1 3 u.heap.size bg aH (ics (Nt.inl (((List.range (D + 1 + 1)).map fun i => i * (N - 1) / (D + 1)).take i) ++ [(qz : Int)])) := by have h9 := aM; rw [← ics_app] at h9; exact h9
  have a5 : aH.n = i + 1 := by have h9 := ax.1; rw [zwi] at h9; have h8 : (Nt.inl (((List.range (D + 1 + 1)).map fun i => i * (N - 1) / (D + 1)).take i) ++ [(qz : Int)]).length = i + 1 := (by rw [List.length_append, Nt.inl_len, List.length_take, List.length_map, List.length_range]; show min i (D + 1 + 1) + 1 = i + 1; omega); omega
  refine zza 6 (.v (aH.v)) (zzx ?_)
  refine zzp (zzf (zza 38 (zI i) (qwi 39 ((i : Int) + 1) (i + 1 : Nat) xz (zza 7 (zI (i + 1 : Nat)) (zzx ?_)))))
  refine ⟨_, ?_, _, by exact zzv _ _ _, i + 1, aH, rfl, by omega, rfl, eR19, (by rw [Nt.first_take xq, Nt.inl_app]; have h9 := ax; rw [← hqz, ← hpz] at h9; exact h9)⟩
  omega
 have qhb17 := qyf au
 refine zyc (zzp (zzt (zyn (I := fun aT S' u' => ∃ (y7 : Sl) (l : List Nat), (aT = Nt.exN V N (D + 1) l) ∧ (Nt.Rf N l (D + 1)) ∧ (S' = St.of 85 [(0, .v (x.v)), (4, .adr 4 0), (6, .v (y7.v))] [(4, ⟨34, [qyn, .bool false, qyn, qyn, qyn]⟩)]) ∧ (Ext u u') ∧ (MutQ 1 3 u.heap.size u' y7 (ics (Nt.inl l)))) (fun m S u1 u2 e h => by obtain ⟨y7, l, hm, p0, hS, hE, f0⟩ := h; exact ⟨y7, l, hm, p0, hS, hE.trans e, f0.ext e⟩) _ yz ⟨y6, ((List.range (D + 1 + 1)).map fun i => i * (N - 1) / (D + 1)), rfl, (Nt.first_Rf (n := D + 1) xq xq), rfl, aR, (by have h9 := f0; rw [List.take_of_length_le yy] at h9; exact h9)⟩ ?_)))
 rintro aT _ u20 ⟨y7, l, ba, hR, rfl, av, hm⟩
 have hpl9 := Nt.lvl_len (V := V) hR
 refine zzt (sq9 (zza 52 (.v (x.v)) (zza 53 (.v (y7.v)) (zzg 54 36 _ fun _ _ aj aZ => qym (k_r15Level (z := y7) (n := (D + 1)) aZ (hg.ext (av.trans aj)) ho (MutQ.slr (hm.ext aj)) hR xq xq) ?_))))
 rintro _ u23 ak ⟨ai, aw, rfl, am, aE⟩
 have hly22 := am.len
 have hlly22 := Nt.lvl_len (V := V) hR
 refine zza 51 (.v (.tuple #[ai.v, aw.v, .int .i64 0])) (zza 55 (.v (ai.v)) (zza 56 (.v (aw.v)) (zza 57 (zI 0) (zzk 9 ⟨32, zw3⟩ (zza 8 (.v (ai.v)) (zzj ⟨32, aw.cs⟩ ty32 ?_))))))
 refine zza 10 (zI 0) (zzc 85 [(0, .v (x.v)), (4, .adr 4 0), (6, .v (y7.v)), (8, .v (ai.v)), (9, .adr 9 0)] [(4, ⟨34, [qyn, .bool false, qyn, qyn, qyn]⟩), (9, ⟨32, aw.cs⟩)] (sq9 (zza 59 (.v (x.v)) (zza 60 (.v (ai.v)) (zzg 61 35 _ fun _ _ aa a8 => qym (k_r15Error (T := 4000000) a8 (hg.ext (av.t (aj.t (ak.t aa)))) ho (am.ext aa).raw xq xq xq xq) ?_)))))
 rintro _ u28 ag ⟨ae, ar, rfl, aG, al⟩
 have hgl27 := Nt.Gst.lt al
 refine zza 58 (.v (.tuple #[ae.v, .int .i64 ar, .int .i64 0])) (zza 62 (.v (ae.v)) (zza 63 (zI ar) (zza 64 (zI 0) (zzk 11 ⟨32, zw3⟩ (zzj ⟨32, ae.cs⟩ ty32 ?_)))))
 refine zza 12 (zI ar) (zza 13 (zI 0) (zzb (zzd (zzd (zzz [0, 0, 2, 7, 15] [(0, []), (1, []), (2, []), (3, []), (4, [])] xj xj (zzi 65 (.v (ae.v)) ty32 zze (zzi 66 (.v (aw.v)) ty32 zze (zzg 67 27 _ fun _ _ ad a3 => qym (k_rqAbs a3 (aE.ext (aa.t (ag.t ad))).raw xq) ?_))))))))
 rintro _ u34 af ⟨r32, rfl, a6⟩
 refine zzg 68 70 _ fun _ _ ac a4 => qym (k_rqCompare a4 (aG.ext (ad.t (af.t ac))).raw (a6.ext ac).raw xq xq) ?_
 rintro _ u38 ah rfl
 refine zza 69 (zB ((Nt.cmpQ (Nt.absQ (Nt.gE (Nt.gX V) (Nt.gW V) (Nt.gY V) (Nt.pL V l) ar)) (Nt.absQ (Nt.eL V l))) == 0)) (zzb (zzu (b := (Nt.cmpQ (Nt.absQ (Nt.gE (Nt.gX V) (Nt.gW V) (Nt.gY V) (Nt.pL V l) ar)) (Nt.absQ (Nt.eL V l))) == 0) xj (fun ao => ?_) (fun ao => ?_)))
 ·refine sq9 (zza 70 (.v (ai.v)) (zzi 71 (.v (ae.v)) ty32 zze (zza 72 (.v (y7.v)) (zza 73 (.v (.agg #[ai.v, .bool ae.s, ae.m.v, ae.d.v, y7.v])) (zzj ⟨34, [ai.v] ++ ae.cs ++ [y7.v]⟩ ty34 ?_)))))
  refine zza 5 (zI 0) (zzb (zzo (zzw (zyu (zyt (zyu (ret0 [.agg #[ai.v, .bool ae.s, ae.m.v, ae.d.v, y7.v], .int .i64 0] ⟨zzr ty34 zze, zzq, trivial⟩ fun u42 aL => ?_)))))))
  have hq9 := ao
  rw [Nt.cmpQ_eq] at hq9
  have hq8 := qyt hq9
  have hde := Nt.design_end ho hR xq al (by rw [hq8]; exact Rat.lt_irrefl)
  have h8 := (aG.ext (ad.t (af.t (ac.t (ah.t aL)))))
  rw [hde.2] at h8
  exact ⟨ai, ae, y7, l, rfl, (am.ext (aa.t (ag.t (ad.t (af.t (ac.t (ah.t aL))))))), RatN.more (K := 4000000) h8 xq, (hm.ext (aj.t (ak.t (aa.t (ag.t (ad.t (af.t (ac.t (ah.t aL))))))))), hde.1⟩
 refine zzs (zzp ?_)
 refine zzd (sq9 (zzi 74 (.v (aw.v)) ty32 zze (zzg 75 32 _ fun _ _ an aY => qym (k_rqSign aY (aE.ext (aa.t (ag.t (ad.t (af.t (ac.t (ah.t an))))))).raw xq) ?_)))
 rintro _ u45 ap rfl
 refine zza 76 (zB ((Nt.sgQ (Nt.eL V l)) == 0)) (zzb (zzu (b := (Nt.sgQ (Nt.eL V l)) == 0) xj (fun aq => ?_) (fun aq => ?_)))
 ·refine sq9 (zza 77 (.v (y7.v)) (zza 78 (zI ar) (zzg 79 71 _ fun _ _ aN aW => qym (k_r15swapS (V := V) (N := N) (n := D + 1) aW ho (hm.ext (aj.t (ak.t (aa.t (ag.t (ad.t (af.t (ac.t (ah.t (an.t (ap.t aN))))))))))) hR xq xq (Nt.end_ne ho hR xq al (by have h9 := ao; rw [Nt.cmpQ_eq] at h9; have h8 := qyf h9; exact h8)) (by have h9 := aq; rw [Nt.sgQ_eq] at h9; exact qyt h9)) ?_)))
  rintro _ u51 bc ⟨ay, a1, rfl, aK, aA⟩
  refine zza 6 (.v (ay.v)) (zzb (zyc ?_))
  have hB2 := aA.2
  refine ⟨_, ?_, _, by exact zzv _ _ _, ay, a1, rfl, aA.1, rfl, (av.t (aj.t (ak.t (aa.t (ag.t (ad.t (af.t (ac.t (ah.t (an.t (ap.t (aN.t bc.ext)))))))))))), (MutQ.low aK (Ext.size (av.t (aj.t (ak.t (aa.t (ag.t (ad.t (af.t (ac.t (ah.t (an.t (ap.t aN)))))))))))))⟩
  omega
 refine zzs (zzp ?_)
 refine zzf (zza 80 (.v (x.v)) (zza 81 (.v (y7.v)) (zza 82 (.v (ai.v)) (zza 83 (zI ar) (zzg 84 72 _ fun _ _ aD aX => qym (k_r15putS (n := D + 1) aX (hg.ext (av.t (aj.t (ak.t (aa.t (ag.t (ad.t (af.t (ac.t (ah.t (an.t (ap.t aD)))))))))))) ho (hm.ext (aj.t (ak.t (aa.t (ag.t (ad.t (af.t (ac.t (ah.t (an.t (ap.t aD))))))))))) (am.ext (aa.t (ag.t (ad.t (af.t (ac.t (ah.t (an.t (ap.t aD))))))))) hR xq xq (Nt.end_ne ho hR xq al (by have h9 := ao; rw [Nt.cmpQ_eq] at h9; have h8 := qyf h9; exact h8)) (by have h9 := aq; rw [Nt.sgQ_eq] at h9; exact qyf h9)) ?_)))))
 rintro _ u56 be ⟨aF, a0, rfl, aO, aC⟩
 refine zza 6 (.v (aF.v)) (zzx ?_)
 have hB2 := aC.2
 refine ⟨_, ?_, _, by exact zzv _ _ _, aF, a0, rfl, aC.1, rfl, (av.t (aj.t (ak.t (aa.t (ag.t (ad.t (af.t (ac.t (ah.t (an.t (ap.t (aD.t be.ext)))))))))))), (MutQ.low aO (Ext.size (av.t (aj.t (ak.t (aa.t (ag.t (ad.t (af.t (ac.t (ah.t (an.t (ap.t aD)))))))))))))⟩
 omega
theorem k_r15DesignE {u w : World} {D : Int} {x : Sl} {N : Nat} {V : List Rat} (d : Dat u w) (hg : GrN u x N V 1) (ho : Nt.GrOK V N) (hwr : Nt.wrE N D ≠ 0) (hD0 : -1 ≤ D) (hD1 : D ≤ 51) : qyc 14 #[x.v, .int .i64 D] w (Post u w fun v u' => v = .tuple #[.agg #[qyn, .bool false, qyn, qyn, qyn], .int .i64 (Nt.wrE N D)]) := by
 have hxn : x.n = N := hg.len
 have hN12 := ho.n12
 have hN1 := ho.n1
 refine zzm Tryz.func14 rfl Tryz.ntmps14 Tryz.results14 d ?_
 refine sq9 (zzk 4 ⟨34, [qyn, .bool false, qyn, qyn, qyn]⟩ (zza 5 (zI 0) (zzb (zzd (zzt (sq9 (zza 15 (.v (x.v)) (zzg 16 69 _ fun _ _ ae ad => qym (k_r14Valid ad (hg.ext ae) ho) ?_))))))))
 rintro _ u12 g13 rfl
 refine zza 17 (zB false) (zza 14 (zB false) (zzb (zys xj (sq9 (zza 20 (zI D) (zza 21 (zB (decide (D < 0))) ?_))))))
 rcases Bool.eq_false_or_eq_true (decide (D < 0)) with hs15 | hs15
 ·refine qbi 22 hs15 ?_
  have qhs15 := qyt hs15
  refine zzn 23 (uw 2 false true 22) (zzn 24 (uw 2 false true 22) (zza 25 (zB true) (zza 19 (zB true) (zzb (zyr xj (sq9 (zza 26 (.v (.agg #[qyn, .bool false, qyn, qyn, qyn])) (zzj ⟨34, [qyn, .bool false, qyn, qyn, qyn]⟩ ty34 ?_))))))))
  refine zza 5 (zI 12) (zzb (zzo (zyu (zzw (ret0 [.agg #[qyn, .bool false, qyn, qyn, qyn], .int .i64 12] ⟨zzr ty34 zze, zzq, trivial⟩ fun u16 e17 => ?_)))))
  simp only [decide_eq_true_eq] at hs15
  have h9 : Nt.wrE N D = 12 := by unfold Nt.wrE; (repeat split) <;> omega
  rw [h9]
  rfl
 refine qbi 22 hs15 ?_
 have qhs15 := qyf hs15
 refine zza 23 (zI D) ?_ (hw := w1 2 false 22)
 refine zza 24 (zB (decide ((50 : Int) < D))) ?_ (hw := w1 2 false 22)
 refine zza 25 (zB (decide ((50 : Int) < D))) (zza 19 (zB (decide ((50 : Int) < D))) (zzb (zzu (b := decide ((50 : Int) < D)) xj (fun aa => ?_) (fun aa => ?_))))
 ·have qhb18 := qyt aa
  refine sq9 (zza 26 (.v (.agg #[qyn, .bool false, qyn, qyn, qyn])) (zzj ⟨34, [qyn, .bool false, qyn, qyn, qyn]⟩ ty34 ?_))
  refine zza 5 (zI 12) (zzb (zzo (zyu (zzw (ret0 [.agg #[qyn, .bool false, qyn, qyn, qyn], .int .i64 12] ⟨zzr ty34 zze, zzq, trivial⟩ fun u19 e20 => ?_)))))
  simp only [decide_eq_false_iff_not] at hs15
  simp only [decide_eq_true_eq] at aa
  have h9 : Nt.wrE N D = 12 := by unfold Nt.wrE; (repeat split) <;> omega
  rw [h9]
  rfl
 have qhb18 := qyf aa
 refine sq9 (zza 28 (.v (x.v)) (zza 29 (zI x.n) (zza 30 (zI D) (zyq 31 (x := zI (IntKind.i64.wrap (D + 2))) (zI (D + 2)) zk (zza 32 (zB (decide ((x.n : Int) < (D + 2)))) (zza 27 (zB (decide ((x.n : Int) < (D + 2)))) (zzb (zzu (b := decide ((x.n : Int) < (D + 2))) xj (fun ac => ?_) (fun ac => ?_)))))))))
 ·have qhb21 := qyt ac
  refine sq9 (zza 33 (.v (.agg #[qyn, .bool false, qyn, qyn, qyn])) (zzj ⟨34, [qyn, .bool false, qyn, qyn, qyn]⟩ ty34 ?_))
  refine zza 5 (zI 1) (zzb (zzo (zyu (zzw (ret0 [.agg #[qyn, .bool false, qyn, qyn, qyn], .int .i64 1] ⟨zzr ty34 zze, zzq, trivial⟩ fun u22 e23 => ?_)))))
  simp only [decide_eq_false_iff_not] at hs15
  simp only [decide_eq_false_iff_not] at aa
  simp only [decide_eq_true_eq] at ac
  have h9 : Nt.wrE N D = 1 := by unfold Nt.wrE; (repeat split) <;> omega
  rw [h9]
  rfl
 have qhb21 := qyf ac
 refine zzs (zzp ?_)
 refine zzd ?_
 simp only [decide_eq_false_iff_not] at hs15
 simp only [decide_eq_false_iff_not] at aa
 simp only [decide_eq_false_iff_not] at ac
 exact absurd (show Nt.wrE N D = 0 by unfold Nt.wrE; (repeat split) <;> omega) hwr
theorem k_r15Alt {u w : World} {x y : Sl} {n : Nat} {V p : List Rat} {r : RL} {e : Rat} {K Ke T : Nat} (d : Dat u w) (hg : GrN u x n V 1) (hn : 1 ≤ n) (hn9 : n ≤ 1000) (hy : PolV u y p K) (hr : RatV u r e Ke) (hl : p.length ≤ 60) (hT : p.length * (K + 5) + 10 ≤ T) (hT9 : T ≤ 10000000) (hK : K ≤ 10000000) (hKe : Ke ≤ 10000000) : qyc 88 #[x.v, y.v, r.v] w (Post u w fun v _ => ∃ b : Bool, v = .bool b ∧ (b = true ↔ Nt.absQ (Nt.gE (Nt.gX V) (Nt.gW V) (Nt.gY V) p 0) = Nt.absQ e ∧ ∀ i, i < n → (Nt.gE (Nt.gX V) (Nt.gW V) (Nt.gY V) p i) = Nt.sg1 i * (Nt.gE (Nt.gX V) (Nt.gW V) (Nt.gY V) p 0))) := by
 have hxn := GrN.len hg
 have hyl := hy.len
 refine zzm Tryz.func88 rfl Tryz.ntmps88 Tryz.results88 d ?_
 refine sq9 (zzk 5 ⟨32, r.cs⟩ (zza 6 (zB false) (zzb (zzd (sq9 (zza 10 (.v (x.v)) (zza 11 (zI x.n) (zza 12 (zB ((x.n : Int) == 0)) (zzb (zzu (b := (x.n : Int) == 0) xj (fun hb => ?_) (fun hb => ?_)))))))))))
 ·exact absurd hb (by rw [show ((x.n : Int) == 0) = false from yw]; decide)
 clear hb
 refine zzs (zzp ?_)
 refine sq9 (zza 13 (.v (x.v)) ?_)
 have aV : x.n = n := GrN.len hg
 obtain ⟨ay, aw, aA, b11, aT, aJ, aD, aC, az, ax, an, am⟩ := gr_at hg (i := 0) xq
 refine zya 14 (aT + 0 * 9) (n := x.n) (off := aT) (sz := 9) (i := 0) xq aJ xq (by first | omega | (have h9 : 0 < n := xq; omega)) sl23 (zym 15 (ay.cs ++ aw.cs ++ aA.cs) (gr_pt aD aC az) ty56 (zza 16 (.v (y.v)) (zzg 17 31 _ fun _ _ ae aX => qym (k_r15At (r0 := ay) (r1 := aw) (r2 := aA) (T := T) aX (ax.ext ae) (an.ext ae) (am.ext ae) (hy.ext ae) xq xq xq xq) ?_)))
 rintro _ u15 aH ⟨aL, rfl, aQ⟩
 refine zzk 7 ⟨32, zw3⟩ (zzj ⟨32, aL.cs⟩ ty32 ?_)
 refine zzb (zzd (zzd (zzz [0, 1, 0, 7, 15, 31] [(0, []), (2, []), (1, []), (3, []), (4, []), (5, [])] xj xj (zzi 18 (.v (aL.v)) ty32 zze (zzi 20 (.v (r.v)) ty32 zze (zzg 19 27 _ fun _ _ aj aW => qym (k_rqAbs aW (aQ.ext aj).raw xq) ?_))))))
 rintro _ u21 aq ⟨r19, rfl, a7⟩
 refine zzg 21 27 _ fun _ _ al a1 => qym (k_rqAbs a1 (hr.ext (ae.t (aH.t (aj.t (aq.t al))))) xq) ?_
 rintro _ u27 au ⟨r25, rfl, aU⟩
 refine zzg 22 70 _ fun _ _ ak a8 => qym (k_rqCompare a8 (a7.ext (al.t (au.t ak))).raw (aU.ext ak).raw xq xq) ?_
 rintro _ a5 aG rfl
 refine zza 23 (zB ((Nt.cmpQ (Nt.absQ ((Nt.gW V 0) * ((Nt.gY V 0) - Nt.Pol.evL p (Nt.gX V 0)))) (Nt.absQ e)) != 0)) (zzb (zzu (b := (Nt.cmpQ (Nt.absQ ((Nt.gW V 0) * ((Nt.gY V 0) - Nt.Pol.evL p (Nt.gX V 0)))) (Nt.absQ e)) != 0) xj (fun ag => ?_) (fun ag => ?_)))
 ·refine sq9 (zza 6 (zB false) (zzb (zzo (zzw (ret0 [.bool false] ⟨zzq, trivial⟩ fun u35 e36 => ?_)))))
  exact ⟨false, rfl, ⟨fun h => absurd h yv, fun h => absurd h.1 (Nt.cmp_nz ag)⟩⟩
 refine zzs (zzp ?_)
 refine zzd (sq9 (zza 24 (.v (x.v)) (zza 25 (zI x.n) (zza 26 (zI 0) (zzb (zzt (zyn (I := fun aO S' u' => ∃ (i : Nat) (rw : RL), (aO = n - i) ∧ (i ≤ n) ∧ (∀ j, j < i → (Nt.gE (Nt.gX V) (Nt.gW V) (Nt.gY V) p j) = Nt.sg1 j * (Nt.gE (Nt.gX V) (Nt.gW V) (Nt.gY V) p 0)) ∧ (S' = St.of 39 [(1, .v (y.v)), (7, .adr 7 0), (24, .v (x.v)), (25, zI x.n), (26, zI i)] [(7, ⟨32, rw.cs⟩)]) ∧ (Ext a5 u') ∧ (RatN u' rw (Nt.sg1 i * (Nt.gE (Nt.gX V) (Nt.gW V) (Nt.gY V) p 0)) T)) (fun m S u1 u2 e h => by obtain ⟨i, rw, hm, p0, p1, hS, hE, f0⟩ := h; exact ⟨i, rw, hm, p0, p1, hS, hE.trans e, f0.ext e⟩) _ yz ⟨0, aL, rfl, by omega, (fun j hj => absurd hj (Nat.not_lt_zero j)), rfl, (Ext.refl _), (by rw [show Nt.sg1 0 = 1 from rfl, Rat.one_mul]; exact (aQ.ext (aj.t (aq.t (al.t (au.t (ak.t aG.ext)))))))⟩ ?_)))))))
 rintro aO _ u37 ⟨i, rw, a0, hi, hal, rfl, aF, fd⟩
 refine sq9 (zza 27 (zB (decide ((i : Int) < (x.n : Int)))) (zzb (zzd (zzu (b := decide ((i : Int) < (x.n : Int))) xj (fun ai => ?_) (fun ai => ?_)))))
 ·have qhb38 := qyt ai
  refine zzs (zzp ?_)
  refine zzd (zzt (sq9 ?_))
  have a4 : x.n = n := GrN.len (hg.ext (ae.t (aH.t (aj.t (aq.t (al.t (au.t (ak.t (aG.t aF)))))))))
  obtain ⟨ad, ac, aa, b39, aN, aM, aB, ao, ar, ap, av, aE⟩ := gr_at (hg.ext (ae.t (aH.t (aj.t (aq.t (al.t (au.t (ak.t (aG.t aF))))))))) (i := i) xq
  refine zya 28 (aN + i * 9) (n := x.n) (off := aN) (sz := 9) (i := (i : Int)) xq aM xq (by first | omega | (have h9 : i < n := xq; omega)) sl23 (zym 29 (ad.cs ++ ac.cs ++ aa.cs) (gr_pt aB ao ar) ty56 (zzk 9 ⟨56, [.bool false, qyn, qyn, .bool false, qyn, qyn, .bool false, qyn, qyn]⟩ (zzj ⟨56, ad.cs ++ ac.cs ++ aa.cs⟩ ty56 ?_)))
  refine zzb (zzd (zzd (zzz [0, 0, 3, 0, 15, 31] [(0, []), (1, []), (3, []), (2, []), (4, []), (5, [])] xj xj (zzi 30 (.v (.agg #[.bool ad.s, ad.m.v, ad.d.v, .bool ac.s, ac.m.v, ac.d.v, .bool aa.s, aa.m.v, aa.d.v])) ty56 zze (zza 31 (.v (y.v)) (zzi 33 (.v (rw.v)) ty32 zze (zzg 32 31 _ fun _ _ af a6 => qym (k_r15At (r0 := ad) (r1 := ac) (r2 := aa) (T := T) a6 (ap.ext af) (av.ext af) (aE.ext af) (hy.ext (ae.t (aH.t (aj.t (aq.t (al.t (au.t (ak.t (aG.t (aF.trans af)))))))))) xq xq xq xq) ?_)))))))
  rintro _ u43 aK ⟨r41, rfl, a2⟩
  refine zzg 34 70 _ fun _ _ aI a9 => qym (k_rqCompare a9 (a2.ext aI).raw (fd.ext (af.t (aK.t aI))).raw xq xq) ?_
  rintro _ u47 aR rfl
  refine zza 35 (zB ((Nt.cmpQ ((Nt.gW V i) * ((Nt.gY V i) - Nt.Pol.evL p (Nt.gX V i))) (Nt.sg1 i * (Nt.gE (Nt.gX V) (Nt.gW V) (Nt.gY V) p 0))) != 0)) (zzc 39 [(1, .v (y.v)), (7, .adr 7 0), (24, .v (x.v)), (25, zI x.n), (26, zI i), (35, zB ((Nt.cmpQ ((Nt.gW V i) * ((Nt.gY V i) - Nt.Pol.evL p (Nt.gX V i))) (Nt.sg1 i * (Nt.gE (Nt.gX V) (Nt.gW V) (Nt.gY V) p 0))) != 0))] [(7, ⟨32, rw.cs⟩)] (zzu (b := (Nt.cmpQ ((Nt.gW V i) * ((Nt.gY V i) - Nt.Pol.evL p (Nt.gX V i))) (Nt.sg1 i * (Nt.gE (Nt.gX V) (Nt.gW V) (Nt.gY V) p 0))) != 0) xj (fun ah => ?_) (fun ah => ?_)))
  ·refine sq9 (zza 6 (zB false) (zzb (zzo (zzw (zyu (zzw (zyt (zyu (zzw (ret0 [.bool false] ⟨zzq, trivial⟩ fun u51 e52 => ?_))))))))))
   exact ⟨false, rfl, ⟨fun h => absurd h yv, fun h => absurd (h.2 i xq) (Nt.cmp_nz ah)⟩⟩
  refine zzs (zzp ?_)
  refine zzf (zzi 36 (.v (rw.v)) ty32 zze (zzg 37 21 _ fun _ _ aS aZ => qym (k_rqNeg aZ (fd.ext (af.t (aK.t (aI.t (aR.t aS))))).raw xq) ?_))
  rintro _ u56 a3 ⟨aP, rfl, aY⟩
  refine zzj ⟨32, aP.cs⟩ ty32 ?_
  refine zzx ?_
  refine zzp (zzf (qwi 38 ((i : Int) + 1) (i + 1 : Nat) xz (zza 26 (zI (i + 1 : Nat)) (zzx ?_))))
  refine ⟨_, ?_, _, by exact zzv _ _ _, i + 1, aP, rfl, by omega, (fun j hj => by by_cases e9 : j = i; (rw [e9]; exact Nt.cmp_z ah); exact hal j xq), rfl, (aF.t (af.t (aK.t (aI.t (aR.t (aS.t a3.ext)))))), (by rw [← Nt.sg1_n]; exact aY)⟩
  omega
 have qhb38 := qyf ai
 refine zyc (zzp (sq9 (zza 6 (zB true) (zzb (zzo (ret0 [.bool true] ⟨zzq, trivial⟩ fun u59 e60 => ?_))))))
 obtain rfl : i = n := by omega
 exact ⟨true, rfl, ⟨fun _ => ⟨Nt.cmp_z ag, fun i hi => hal i hi⟩, fun _ => rfl⟩⟩
namespace Nt
def ptV (V : List Rat) (l : List Nat) : Nat → List Rat
 | 0 => []
 | m + 1 => ptV V l m ++ [gX V (l.getD m 0)] ++ [gY V (l.getD m 0)] ++ [gW V (l.getD m 0)]
section
variable {V p : List Rat} {N n m i a D : Nat} {l : List Nat} {e : Rat} {L : List Int}
theorem ptV_len : (ptV V l m).length = 3 * m := by
 induction m with
 | zero => rfl
 | succ m ih => unfold ptV; simp [ih]; omega
theorem ptV_at (h : i < m) : (ptV V l m).getD (3 * i) 0 = gX V (l.getD i 0) ∧ (ptV V l m).getD (3 * i + 1) 0 = gY V (l.getD i 0) ∧ (ptV V l m).getD (3 * i + 2) 0 = gW V (l.getD i 0) := by
 induction m with
 | zero => omega
 | succ m ih =>
  have hl := ptV_len (V := V) (l := l) (m := m)
  have e : ptV V l (m + 1) = ptV V l m ++ [gX V (l.getD m 0), gY V (l.getD m 0), gW V (l.getD m 0)] := by
   show ptV V l m ++ [_] ++ [_] ++ [_] = _
   simp
  rw [e]
  by_cases c : i = m
  ·subst c
   refine ⟨?_, ?_, ?_⟩
   ·rw [qyg, List.getElem?_append_right xq, hl, Nat.sub_self]; rfl
   ·rw [qyg, List.getElem?_append_right xq, hl, show 3 * i + 1 - 3 * i = 1 by omega]; rfl
   rw [qyg, List.getElem?_append_right xq, hl, show 3 * i + 2 - 3 * i = 2 by omega]; rfl
  obtain ⟨h1, h2, h3⟩ := ih xq
  refine ⟨?_, ?_, ?_⟩
  ·rw [qyg, List.getElem?_append_left xq, ← qyg]; exact h1
  ·rw [qyg, List.getElem?_append_left xq, ← qyg]; exact h2
  rw [qyg, List.getElem?_append_left xq, ← qyg]; exact h3
theorem ptV_gE (h : i < m) : gE (gX (ptV V l m)) (gW (ptV V l m)) (gY (ptV V l m)) p i = gE (gX V) (gW V) (gY V) p (l.getD i 0) := by
 obtain ⟨h1, h2, h3⟩ := ptV_at (V := V) (l := l) h
 unfold gE
 have e1 : gX (ptV V l m) i = gX V (l.getD i 0) := h1
 have e2 : gY (ptV V l m) i = gY V (l.getD i 0) := h2
 have e3 : gW (ptV V l m) i = gW V (l.getD i 0) := h3
 rw [e1, e2, e3]
theorem absQ_abs (x : Rat) : absQ (absQ x) = absQ x := by unfold absQ; split <;> (try split) <;> grind
theorem alt_pt (h : absQ (gE (gX (ptV V l m)) (gW (ptV V l m)) (gY (ptV V l m)) p 0) = absQ e ∧ ∀ i, i < m → gE (gX (ptV V l m)) (gW (ptV V l m)) (gY (ptV V l m)) p i = sg1 i * gE (gX (ptV V l m)) (gW (ptV V l m)) (gY (ptV V l m)) p 0) (hm : 0 < m) : absQ (gE (gX V) (gW V) (gY V) p (l.getD 0 0)) = absQ e ∧ ∀ i, i < m → gE (gX V) (gW V) (gY V) p (l.getD i 0) = sg1 i * gE (gX V) (gW V) (gY V) p (l.getD 0 0) := by
 obtain ⟨h1, h2⟩ := h
 rw [ptV_gE hm] at h1 h2
 exact ⟨h1, fun i hi => by rw [← ptV_gE hi]; exact h2 i hi⟩
theorem pt_alt (h : absQ (gE (gX V) (gW V) (gY V) p (l.getD 0 0)) = absQ e ∧ ∀ i, i < m → gE (gX V) (gW V) (gY V) p (l.getD i 0) = sg1 i * gE (gX V) (gW V) (gY V) p (l.getD 0 0)) (hm : 0 < m) : absQ (gE (gX (ptV V l m)) (gW (ptV V l m)) (gY (ptV V l m)) p 0) = absQ e ∧ ∀ i, i < m → gE (gX (ptV V l m)) (gW (ptV V l m)) (gY (ptV V l m)) p i = sg1 i * gE (gX (ptV V l m)) (gW (ptV V l m)) (gY (ptV V l m)) p 0 := by
 rw [ptV_gE hm]
 exact ⟨h.1, fun i hi => by rw [ptV_gE hi]; exact h.2 i hi⟩
end
end Nt
namespace Nt
section
variable {V p : List Rat} {N D a : Nat} {l : List Nat} {e : Rat} {L : List Int}
theorem chk_ref (hL : L = inl l) (hR : Rf N l (D + 1)) (hd : (trimQ p).length ≤ D + 1) (hG : Gst (erL V p N) N a) (he : absQ (gE (gX V) (gW V) (gY V) p a) = e) (h : absQ (gE (gX (ptV V l (D + 2))) (gW (ptV V l (D + 2))) (gY (ptV V l (D + 2))) p 0) = absQ e ∧ ∀ i, i < D + 2 → gE (gX (ptV V l (D + 2))) (gW (ptV V l (D + 2))) (gY (ptV V l (D + 2))) p i = sg1 i * gE (gX (ptV V l (D + 2))) (gW (ptV V l (D + 2))) (gY (ptV V l (D + 2))) p 0) : ChkOK V N D p e L := by
 obtain ⟨h1, h2⟩ := alt_pt h xq
 refine ⟨l, a, hL, hR, hd, hG, he, ?_, h2⟩
 rw [h1, ← he, absQ_abs]
theorem ref_chk (hL : L = inl l) (h : ChkOK V N D p e L) : absQ (gE (gX (ptV V l (D + 2))) (gW (ptV V l (D + 2))) (gY (ptV V l (D + 2))) p 0) = absQ e ∧ ∀ i, i < D + 2 → gE (gX (ptV V l (D + 2))) (gW (ptV V l (D + 2))) (gY (ptV V l (D + 2))) p i = sg1 i * gE (gX (ptV V l (D + 2))) (gW (ptV V l (D + 2))) (gY (ptV V l (D + 2))) p 0 := by
 obtain ⟨m, b, e1, _, _, _, h5, h6, h7⟩ := h
 have e2 : l = m := inl_inj (hL.symm.trans e1)
 subst e2
 exact pt_alt ⟨by rw [h6, ← h5, absQ_abs], h7⟩ xq
end
end Nt
theorem k_r15Check {u w : World} {D T : Nat} {y z : Sl} {r : RL} {p : List Rat} {e : Rat} {L : List Int} {K Ke M : Nat} {x : Sl} {N : Nat} {V : List Rat} (d : Dat u w) (hg : GrN u x N V 1) (ho : Nt.GrOK V N) (hy : PolV u y p K) (hr : RatV u r e Ke) (hz : SlR .i64 u z.a z.n z.c L) (hb : ∀ x ∈ L, -9223372036854775808 ≤ x ∧ x ≤ 9223372036854775807) (hl : p.length ≤ 60) (hB : 2 * (p.length * (K + 1) + 2) + K + 2 * p.length + 11 ≤ M) (hM : M ≤ 20000000) (hKe : Ke ≤ 20000000) (hD : D + 2 ≤ N) (hT : p.length * (K + 5) + 10 ≤ T) (hT9 : T ≤ 10000000) (hK9 : K ≤ 10000000) (hKe9 : Ke ≤ 10000000) : qyc 24 #[x.v, .int .i64 (D : Int), .agg #[.slice y.a y.n y.c, .bool r.s, .slice r.m.a r.m.n r.m.c, .slice r.d.a r.d.n r.d.c, .slice z.a z.n z.c]] w (Post u w fun v _ => (v = .int .i64 0 ∧ Nt.ChkOK V N D p e L) ∨ (v = .int .i64 22 ∧ ¬ Nt.ChkOK V N D p e L)) := by
 have hxn : x.n = N := hg.len
 have hN12 := ho.n12
 have hN1 := ho.n1
 have hyl := hy.len
 have htl := zzh p
 have hzn : L.length = z.n := hz.1
 have hzm : z.n ≤ maxLen := Nat.le_trans hz.2.1 hz.2.2.1
 unfold maxLen at hzm
 refine zzm Tryz.func24 rfl Tryz.ntmps24 Tryz.results24 d ?_
 refine sq9 (zzk 5 ⟨34, [y.v] ++ r.cs ++ [z.v]⟩ (zza 6 (zI 0) (zzb (zzd (zzt (sq9 (zza 14 (.v (x.v)) (zzg 15 69 _ fun _ _ aD a1 => qym (k_r14Valid a1 (hg.ext aD) ho) ?_))))))))
 rintro _ u12 aI rfl
 refine zza 16 (zB false) (zza 13 (zB false) (zzb (zys xj (sq9 (zza 18 (zI D) (zza 19 (zB (decide ((D : Int) < 0))) (zyq 20 (x := zB (decide ((D : Int) < 0))) (zB false) (by rw [show (decide ((D : Int) < 0)) = false from decide_eq_false xq]) (zza 21 (zI D) ?_ (hw := w1 2 false 20)))))))))
 refine zza 22 (zB (decide ((50 : Int) < (D : Int)))) ?_ (hw := w1 2 false 20)
 refine zza 23 (zB (decide ((50 : Int) < (D : Int)))) (zza 17 (zB (decide ((50 : Int) < (D : Int)))) (zzb (zzu (b := decide ((50 : Int) < (D : Int))) xj (fun hb => ?_) (fun hb => ?_))))
 ·exact absurd hb (by rw [show (decide ((50 : Int) < (D : Int))) = false from decide_eq_false xq]; decide)
 clear hb
 refine sq9 (zza 25 (.v (x.v)) (zza 26 (zI x.n) (zza 27 (zI D) (qwi 28 ((D : Int) + 2) (D + 2 : Nat) xz (zza 29 (zB (decide ((x.n : Int) < ((D + 2 : Nat) : Int)))) (zza 24 (zB (decide ((x.n : Int) < ((D + 2 : Nat) : Int)))) (zzb (zzu (b := decide ((x.n : Int) < ((D + 2 : Nat) : Int))) xj (fun hb => ?_) (fun hb => ?_)))))))))
 ·exact absurd hb (by rw [show (decide ((x.n : Int) < ((D + 2 : Nat) : Int))) = false from decide_eq_false xq]; decide)
 clear hb
 refine zzs (zzp ?_)
 refine zzd (sq9 (zza 30 (.adr 5 0) (zzi 31 (.v (y.v)) ty27 zzl (zzg 32 86 _ fun _ _ aE aZ => qym (k_r5Degree aZ (hy.ext (aD.t (aI.t aE))) xq xk) ?_))))
 rintro _ u17 aP rfl
 refine zza 33 (zI D) (zza 34 (zB (decide ((D : Int) < (((Nt.trimQ p).length : Int) - 1)))) ?_)
 rcases Bool.eq_false_or_eq_true (decide ((D : Int) < (((Nt.trimQ p).length : Int) - 1))) with hs20 | hs20
 ·refine qbi 35 hs20 ?_
  have qhs20 := qyt hs20
  refine zzn 36 (uw 5 false true 35) (zzn 37 (uw 5 false true 35) (zzn 38 (uw 5 false true 35) (zzn 39 (uw 5 false true 35) (zzn 40 (uw 5 false true 35) (zzn 41 (uw 5 false true 35) (zza 42 (zB true) (zza 43 (zB true) (zzn 44 (uw 13 false true 43) (zzn 45 (uw 13 false true 43) (zzn 46 (uw 13 false true 43) (zzn 47 (uw 13 false true 43) ?_)))))))))))
  refine zzn 48 (uw 13 false true 43) (zzn 49 (uw 13 false true 43) (zza 50 (zB true) (zzc 88 [(0, .v (x.v)), (5, .adr 5 0), (50, zB true)] [(5, ⟨34, [y.v] ++ r.cs ++ [z.v]⟩)] (zyr xj (sq9 (zza 6 (zI 22) (zzb (zzo (zzw (ret0 [.int .i64 22] ⟨zzq, trivial⟩ fun u21 e22 => ?_))))))))))
  exact .inr ⟨rfl, (Nt.chk_1 (by have h9 := qyt hs20; omega))⟩
 refine qbi 35 hs20 ?_
 have qhs20 := qyf hs20
 refine zza 36 (.adr 5 4) ?_ (hw := w1 5 false 35)
 refine zzi 37 (.v (z.v)) ty22 zzl ?_ (hw := w1 5 false 35)
 refine zza 38 (zI z.n) ?_ (hw := w1 5 false 35)
 refine zza 39 (zI D) ?_ (hw := w1 5 false 35)
 refine qwi 40 ((D : Int) + 2) (D + 2 : Nat) xz ?_ (hw := w1 5 false 35)
 refine zza 41 (zB ((z.n : Int) != ((D + 2 : Nat) : Int))) ?_ (hw := w1 5 false 35)
 refine zza 42 (zB ((z.n : Int) != ((D + 2 : Nat) : Int))) ?_
 rcases Bool.eq_false_or_eq_true ((z.n : Int) != ((D + 2 : Nat) : Int)) with hs23 | hs23
 ·refine qbi 43 hs23 (zzn 44 (uw 13 false true 43) (zzn 45 (uw 13 false true 43) (zzn 46 (uw 13 false true 43) (zzn 47 (uw 13 false true 43) (zzn 48 (uw 13 false true 43) (zzn 49 (uw 13 false true 43) (zza 50 (zB true) (zzc 88 [(0, .v (x.v)), (5, .adr 5 0), (50, zB true)] [(5, ⟨34, [y.v] ++ r.cs ++ [z.v]⟩)] (zyr xj (sq9 (zza 6 (zI 22) ?_)))))))))))
  refine zzb (zzo (zzw (ret0 [.int .i64 22] ⟨zzq, trivial⟩ fun u24 e25 => ?_)))
  exact .inr ⟨rfl, (Nt.chk_2 (fun e9 => by have h9 := hs23; rw [bne_iff_ne] at h9; exact h9 xq))⟩
 refine qbi 43 hs23 (zza 44 (.adr 5 4) ?_ (hw := w1 13 false 43))
 refine zzi 45 (.v (z.v)) ty22 zzl ?_ (hw := w1 13 false 43)
 refine zza 46 (.v (x.v)) ?_ (hw := w1 13 false 43)
 refine zza 47 (zI x.n) ?_ (hw := w1 13 false 43)
 refine zzg 48 87 _ (fun _ _ aN a2 => qym (k_ascends (z := z) (N := (x.n : Int)) a2 (hz.ext (aD.t (aI.t (aE.t (aP.t aN))))) hb) ?_) (hw := w1 13 false 43)
 rintro _ u29 aY ⟨af, rfl, ah⟩
 refine zza 49 (zB (!af)) ?_ (hw := w1 13 false 43)
 refine zza 50 (zB (!af)) (zzc 88 [(0, .v (x.v)), (5, .adr 5 0), (50, zB (!af))] [(5, ⟨34, [y.v] ++ r.cs ++ [z.v]⟩)] (zzu (b := !af) xj (fun am => ?_) (fun am => ?_)))
 ·refine sq9 (zza 6 (zI 22) (zzb (zzo (zzw (ret0 [.int .i64 22] ⟨zzq, trivial⟩ fun u33 e34 => ?_)))))
  exact .inr ⟨rfl, (Nt.chk_3 (fun hu => by have h9 : af = false := (by simpa using am); have h8 := ah.2 (by rw [hxn]; exact hu); rw [h9] at h8; exact absurd h8 yv))⟩
 refine zzs (zzp ?_)
 refine zzd ?_
 have hU : Nt.Up (N : Int) L := by rw [hxn] at ah; exact ah.1 (by simpa using am)
 have hLn : L.length = D + 2 := by have h9 := hs23; simp only [bne_eq_false_iff_eq] at h9; omega
 have hdg : (Nt.trimQ p).length ≤ D + 1 := by have h9 := qyf hs20; omega
 obtain ⟨l, hLl, hR⟩ := Nt.up_inl (n := D + 1) hU hLn
 have hzl := hz
 rw [hLl] at hzl
 have hlk : l.length = D + 2 := by have h9 := hR.len; omega
 have hlt : ∀ i, i < D + 2 → l.getD i 0 < N := fun i hi => hR.lt i xq
 have hlt0 := hlt 0 xq
 refine zzf (zza 7 (.v (qyn)) (zzb (zzd (sq9 (zza 51 (.adr 5 4) (zzi 52 (.v (z.v)) ty22 zzl (zza 53 (zI z.n) (zza 54 (zI 0) (zzb (zzt (zyn (I := fun aR S' u' => ∃ (i : Nat) (yp : Sl) (Lp : List RL), (aR = D + 2 - i) ∧ (i ≤ D + 2) ∧ (S' = St.of 88 [(0, .v (x.v)), (5, .adr 5 0), (7, .v (yp.v)), (52, .v (z.v)), (53, zI z.n), (54, zI i)] [(5, ⟨34, [y.v] ++ r.cs ++ [z.v]⟩)]) ∧ (Ext u u') ∧ (MutQ 9 56 u.heap.size u' yp (rcs Lp)) ∧ (RatsN u' Lp (Nt.ptV V l i) 1)) (fun m S u1 u2 e h => by obtain ⟨i, yp, Lp, hm, p0, hS, hE, f0, f1⟩ := h; exact ⟨i, yp, Lp, hm, p0, hS, hE.trans e, f0.ext e, f1.ext e⟩) _ yz ⟨0, sl0, [], rfl, by omega, rfl, (aD.t (aI.t (aE.t (aP.t (aN.t aY.ext))))), (MutQ.nil _ _ _ _), (RatsN.nil _ _)⟩ ?_)))))))))))
 rintro aR _ a5 ⟨i, yp, Lp, aV, hi, rfl, ai, f0, f1⟩
 have hpn : yp.n = i := by have h9 := f0.1; rw [zyy, f1.1, Nt.ptV_len] at h9; omega
 refine sq9 (zza 55 (zB (decide ((i : Int) < (z.n : Int)))) (zzb (zzd (zzu (b := decide ((i : Int) < (z.n : Int))) xj (fun an => ?_) (fun an => ?_)))))
 ·have qhb36 := qyt an
  refine zzs (zzp ?_)
  refine zzd (zzt (zzd ?_))
  have hlti := hlt i xq
  refine zzf ?_
  have aG : (Nt.inl l).length = z.n := ((hzl.ext ai)).1
  rw [Nt.inl_len] at aG
  obtain ⟨b37, aQ, aF, ay⟩ := ints_at (hzl.ext ai) (i := i) (by have h9 : i < l.length := xq; omega)
  rw [Nt.inl_at] at ay
  refine zya 56 (aQ + i * 1) (n := z.n) (off := aQ) (sz := 1) (i := (i : Int)) xq aF xq (by first | omega | (have h9 : i < l.length := xq; omega)) sl22 (zyl 57 (.int .i64 (((l.getD i 0) : Nat) : Int)) ay ty3 (zza 9 (zI (((l.getD i 0) : Nat) : Int)) (zzb (zzf (zza 58 (.v (yp.v)) (zza 59 (.v (x.v)) (zza 60 (zI (((l.getD i 0) : Nat) : Int)) ?_)))))))
  have a7 : x.n = N := GrN.len (hg.ext ai)
  obtain ⟨ac, aa, ad, b38, aT, aK, av, az, au, aA, aw, ar⟩ := gr_at (hg.ext ai) (i := (l.getD i 0)) xq
  refine zya 61 (aT + (l.getD i 0) * 9) (n := x.n) (off := aT) (sz := 9) (i := (((l.getD i 0) : Nat) : Int)) xq aK xq (by first | omega | (have h9 : (l.getD i 0) < N := xq; omega)) sl23 (zym 62 (ac.cs ++ aa.cs ++ ad.cs) (gr_pt av az au) ty56 (sy_dataF 63 ⟨56, ac.cs ++ aa.cs ++ ad.cs⟩ 1 (fun aX u39 ap a6 f39 g39 => ?_)))
  have hA40 := (f0.ext ap)
  have hN40 := (f1.ext ap)
  refine sy_appQ 64 (T := 23) (E := 56) (z := .agg #[.bool false, qyn, qyn, .bool false, qyn, qyn, .bool false, qyn, qyn]) (size := 9) (bytes := 168) (b2 := aX) (off := 0) (m := 1) yp (rcs Lp) (ac.cs ++ aa.cs ++ ad.cs) hA40 xj xj xj yv rfl (lit_news ((Ext.refl _).cells a6)) (pt_one ac aa ad) yv yk xq (nu_app (nu_app (nu_rl ac) (nu_rl aa)) (nu_rl ad)) (nu_app (nu_app (nu_rl rl0) (nu_rl rl0)) (nu_rl rl0)) (fun aL a3 aH a4 ag aU => ?_)
  have aM : MutQ 9 56 u.heap.size a3 aL (rcs (Lp ++ [ac] ++ [aa] ++ [ad])) := by rw [rcs_app, rcs_app, rcs_app]; have h9 := aH; rw [← List.append_assoc, ← List.append_assoc] at h9; simpa [rcs] using h9
  have hR40 := RatsN.snoc (RatsN.snoc (RatsN.snoc (MutQ.keeps hA40 ag hN40) (MutQ.keep hA40 ag (aA.ext ap))) (MutQ.keep hA40 ag (aw.ext ap))) (MutQ.keep hA40 ag (ar.ext ap))
  have eR40 := ExtX.root ag (MutQ.mutL hA40) (ai.trans ap)
  refine zza 7 (.v (aL.v)) (zzx ?_)
  refine zzp (zzf (qwi 65 ((i : Int) + 1) (i + 1 : Nat) xz (zza 54 (zI (i + 1 : Nat)) (zzx ?_))))
  refine ⟨_, ?_, _, by exact zzv _ _ _, i + 1, aL, (Lp ++ [ac] ++ [aa] ++ [ad]), rfl, by omega, rfl, eR40, aM, hR40⟩
  omega
 have qhb36 := qyf an
 refine zyc (zzp (zzd ?_))
 have hgp : GrN a5 yp (D + 2) (Nt.ptV V l (D + 2)) 1 := gr_mut f0 (by have h9 := f1; rw [show i = D + 2 by omega] at h9; exact h9) Nt.ptV_len xq xq
 refine zzf (zza 67 (.v (x.v)) (zza 68 (.adr 5 0) (zzi 69 (.v (y.v)) ty27 zzl (zzg 70 35 _ fun _ _ aq aW => qym (k_r15Error (T := T) aW (hg.ext (ai.trans aq)) ho (hy.ext (ai.trans aq)) xq xq xq xq) ?_))))
 rintro _ u43 aB ⟨aC, al, rfl, aJ, ak⟩
 have hgl42 := Nt.Gst.lt ak
 refine zza 66 (.v (.tuple #[aC.v, .int .i64 al, .int .i64 0])) (zza 71 (.v (aC.v)) (zza 72 (zI al) (zza 73 (zI 0) (zzk 10 ⟨32, zw3⟩ (zzj ⟨32, aC.cs⟩ ty32 ?_)))))
 refine zza 11 (zI al) (zza 12 (zI 0) (zzb (zzd (sq9 (zza 74 (.v (yp.v)) (zza 75 (.adr 5 0) (zzi 76 (.v (y.v)) ty27 zzl (zza 77 (.adr 5 1) (zzi 78 (.v (r.v)) ty32 zze (zzg 79 88 _ fun _ _ ax a8 => qym (k_r15Alt (y := y) (r := r) (T := T) a8 (hgp.ext (aq.t (aB.t ax))) xq xq (hy.ext (ai.t (aq.t (aB.t ax)))) (hr.ext (ai.t (aq.t (aB.t ax)))) xq xq xq xq xq) ?_))))))))))
 rintro _ u49 aS ⟨ae, rfl, aj⟩
 refine zza 80 (zB (!ae)) ?_
 rcases Bool.eq_false_or_eq_true (!ae) with hs52 | hs52
 ·refine qbi 81 hs52 (zzn 82 (uw 7 false true 81) (zzn 83 (uw 7 false true 81) (zzn 84 (uw 7 false true 81) (zzn 85 (uw 7 false true 81) (zzn 86 (uw 7 false true 81) (zza 87 (zB true) (zzc 88 [(87, zB true)] [] (zyr xj (sq9 (zza 6 (zI 22) (zzb ?_)))))))))))
  refine zzo (zzw (ret0 [.int .i64 22] ⟨zzq, trivial⟩ fun u53 e54 => ?_))
  exact .inr ⟨rfl, fun h9 => by have h8 : ae = false := (by simpa using hs52); have h7 := aj.2 (Nt.ref_chk hLl h9); rw [h8] at h7; exact absurd h7 yv⟩
 refine qbi 81 hs52 (zzi 82 (.v (aC.v)) ty32 zze ?_ (hw := w1 7 false 81))
 refine zza 83 (.adr 5 1) ?_ (hw := w1 7 false 81)
 refine zzi 84 (.v (r.v)) ty32 zze ?_ (hw := w1 7 false 81)
 refine zzg 85 70 _ (fun _ _ aO a0 => qym (k_rqCompare a0 (aJ.ext (ax.t (aS.t aO))).raw (hr.ext (ai.t (aq.t (aB.t (ax.t (aS.t aO)))))) xq xq) ?_) (hw := w1 7 false 81)
 rintro _ u56 g57 rfl
 refine zza 86 (zB ((Nt.cmpQ (Nt.absQ (Nt.gE (Nt.gX V) (Nt.gW V) (Nt.gY V) p al)) e) != 0)) ?_ (hw := w1 7 false 81)
 refine zza 87 (zB ((Nt.cmpQ (Nt.absQ (Nt.gE (Nt.gX V) (Nt.gW V) (Nt.gY V) p al)) e) != 0)) (zzc 88 [(87, zB ((Nt.cmpQ (Nt.absQ (Nt.gE (Nt.gX V) (Nt.gW V) (Nt.gY V) p al)) e) != 0))] [] (zzu (b := (Nt.cmpQ (Nt.absQ (Nt.gE (Nt.gX V) (Nt.gW V) (Nt.gY V) p al)) e) != 0) xj (fun ao => ?_) (fun ao => ?_)))
 ·refine sq9 (zza 6 (zI 22) (zzb (zzo (zzw (ret0 [.int .i64 22] ⟨zzq, trivial⟩ fun u60 e61 => ?_)))))
  exact .inr ⟨rfl, Nt.chk_4 ak (Nt.cmp_nz ao)⟩
 refine zzs (zzp ?_)
 refine sq9 (zza 6 (zI 0) (zzb (zzo (ret0 [.int .i64 0] ⟨zzq, trivial⟩ fun u62 e63 => ?_))))
 exact .inl ⟨rfl, Nt.chk_ref hLl hR hdg ak (Nt.cmp_z ao) (aj.1 (by simpa using hs52))⟩
theorem k_r15CheckE {u w : World} {D : Int} {y z : Sl} {r : RL} {x : Sl} {N : Nat} {V : List Rat} (d : Dat u w) (hg : GrN u x N V 1) (ho : Nt.GrOK V N) (hwr : Nt.wrE N D ≠ 0) (hD0 : -1 ≤ D) (hD1 : D ≤ 51) : qyc 24 #[x.v, .int .i64 D, .agg #[.slice y.a y.n y.c, .bool r.s, .slice r.m.a r.m.n r.m.c, .slice r.d.a r.d.n r.d.c, .slice z.a z.n z.c]] w (Post u w fun v _ => v = .int .i64 (Nt.wrE N D)) := by
 have hxn : x.n = N := hg.len
 have hN12 := ho.n12
 have hN1 := ho.n1
 refine zzm Tryz.func24 rfl Tryz.ntmps24 Tryz.results24 d ?_
 refine sq9 (zzk 5 ⟨34, [y.v] ++ r.cs ++ [z.v]⟩ (zza 6 (zI 0) (zzb (zzd (zzt (sq9 (zza 14 (.v (x.v)) (zzg 15 69 _ fun _ _ ae ad => qym (k_r14Valid ad (hg.ext ae) ho) ?_))))))))
 rintro _ u12 g13 rfl
 refine zza 16 (zB false) (zza 13 (zB false) (zzb (zys xj (sq9 (zza 18 (zI D) (zza 19 (zB (decide (D < 0))) ?_))))))
 rcases Bool.eq_false_or_eq_true (decide (D < 0)) with hs15 | hs15
 ·refine qbi 20 hs15 ?_
  have qhs15 := qyt hs15
  refine zzn 21 (uw 2 false true 20) (zzn 22 (uw 2 false true 20) (zza 23 (zB true) (zza 17 (zB true) (zzb (zyr xj (sq9 (zza 6 (zI 12) (zzb (zzo (zyu (zzw (ret0 [.int .i64 12] ⟨zzq, trivial⟩ fun u16 e17 => ?_))))))))))))
  simp only [decide_eq_true_eq] at hs15
  have h9 : Nt.wrE N D = 12 := by unfold Nt.wrE; (repeat split) <;> omega
  rw [h9]
  rfl
 refine qbi 20 hs15 ?_
 have qhs15 := qyf hs15
 refine zza 21 (zI D) ?_ (hw := w1 2 false 20)
 refine zza 22 (zB (decide ((50 : Int) < D))) ?_ (hw := w1 2 false 20)
 refine zza 23 (zB (decide ((50 : Int) < D))) (zza 17 (zB (decide ((50 : Int) < D))) (zzb (zzu (b := decide ((50 : Int) < D)) xj (fun aa => ?_) (fun aa => ?_))))
 ·have qhb18 := qyt aa
  refine sq9 (zza 6 (zI 12) (zzb (zzo (zyu (zzw (ret0 [.int .i64 12] ⟨zzq, trivial⟩ fun u19 e20 => ?_))))))
  simp only [decide_eq_false_iff_not] at hs15
  simp only [decide_eq_true_eq] at aa
  have h9 : Nt.wrE N D = 12 := by unfold Nt.wrE; (repeat split) <;> omega
  rw [h9]
  rfl
 have qhb18 := qyf aa
 refine sq9 (zza 25 (.v (x.v)) (zza 26 (zI x.n) (zza 27 (zI D) (zyq 28 (x := zI (IntKind.i64.wrap (D + 2))) (zI (D + 2)) zk (zza 29 (zB (decide ((x.n : Int) < (D + 2)))) (zza 24 (zB (decide ((x.n : Int) < (D + 2)))) (zzb (zzu (b := decide ((x.n : Int) < (D + 2))) xj (fun ac => ?_) (fun ac => ?_)))))))))
 ·have qhb21 := qyt ac
  refine sq9 (zza 6 (zI 1) (zzb (zzo (zyu (zzw (ret0 [.int .i64 1] ⟨zzq, trivial⟩ fun u22 e23 => ?_))))))
  simp only [decide_eq_false_iff_not] at hs15
  simp only [decide_eq_false_iff_not] at aa
  simp only [decide_eq_true_eq] at ac
  have h9 : Nt.wrE N D = 1 := by unfold Nt.wrE; (repeat split) <;> omega
  rw [h9]
  rfl
 have qhb21 := qyf ac
 refine zzs (zzp ?_)
 refine zzd (zzd ?_)
 simp only [decide_eq_false_iff_not] at hs15
 simp only [decide_eq_false_iff_not] at aa
 simp only [decide_eq_false_iff_not] at ac
 exact absurd (show Nt.wrE N D = 0 by unfold Nt.wrE; (repeat split) <;> omega) hwr
namespace Nt
theorem Rf.all {N n : Nat} {l : List Nat} (h : Rf N l n) (hN : N = n + 1) : ∀ i, i ≤ n → l.getD i 0 = i := by
 have h1 : ∀ i, i ≤ n → i ≤ l.getD i 0 := fun i => by
  induction i with
  | zero => intro _; omega
  | succ i ih => intro hi; have := h.asc i (i + 1) xq hi; have := ih xq; omega
 have h2 : ∀ k i, i + k = n → l.getD i 0 ≤ i := fun k => by
  induction k with
  | zero => intro i hi; have := h.lt i xq; omega
  | succ k ih => intro i hi; have := h.asc i (i + 1) xq xq; have := ih (i + 1) xq; omega
 intro i hi
 have := h1 i hi
 have := h2 (n - i) i xq
 omega
theorem all_lev {V : List Rat} {N n a : Nat} {l : List Nat} (g : GrOK V N) (h : Rf N l n) (h1 : 1 ≤ n) (hN : N = n + 1) (ha : a < N) : ¬ absQ (eL V l) < absQ (gE (gX V) (gW V) (gY V) (pL V l) a) := by
 have e := lvl_at g h h1 (m := a) xq
 rw [h.all hN a xq] at e
 rw [e]
 unfold sg1 absQ
 split <;> split <;> (try split) <;> grind
end Nt
theorem k_exDesignA {u w : World} {D : Nat} {x : Sl} {N : Nat} {V : List Rat} (d : Dat u w) (hg : GrN u x N V 1) (ho : Nt.GrOK V N) (hND : N = D + 2) : qyc 13 #[x.v, .int .i64 (D : Int)] w (Post u w fun v u' => ∃ (y : Sl) (r : RL) (b : Nat) (l : List Nat), v = .tuple #[.agg #[.slice y.a y.n y.c, .bool r.s, .slice r.m.a r.m.n r.m.c, .slice r.d.a r.d.n r.d.c, .slice (some ⟨b, 0, none⟩) (D + 2) (D + 2)], .int .i64 0] ∧ PolN u' y (Nt.pL V l) 60000 ∧ RatN u' r (Nt.absQ (Nt.eL V l)) 1400000 ∧ SlR .i64 u' (some ⟨b, 0, none⟩) (D + 2) (D + 2) (Nt.inl l) ∧ Nt.Bst (Nt.gX V) (Nt.gW V) (Nt.gY V) N (D + 1) (Nt.pL V l) l) := by
 have hxn : x.n = N := hg.len
 have hN12 := ho.n12
 have hN1 := ho.n1
 have hwr : Nt.wrE N (D : Int) = 0 := by unfold Nt.wrE; rw [if_neg xq, if_neg xq]
 refine zzm Tryz.func13 rfl Tryz.ntmps13 Tryz.results13 d ?_
 refine sq9 (zzk 4 ⟨34, [qyn, .bool false, qyn, qyn, qyn]⟩ (zza 5 (zI 0) (zzb (sw_scope2 (I := fun aK S' u' => ∃ (b : Nat) (l : List Nat), (aK = Nt.exN V N (D + 1) l) ∧ (Nt.Rf N l (D + 1)) ∧ (S' = St.of 64 [(0, .v (x.v)), (4, .adr 4 0), (7, .v (.slice (some ⟨b, 0, none⟩) (D + 2) (D + 2)))] [(4, ⟨34, [qyn, .bool false, qyn, qyn, qyn]⟩)]) ∧ (Ext u u') ∧ (MutQ 1 3 u.heap.size u' (⟨some ⟨b, 0, none⟩, D + 2, D + 2⟩ : Sl) (ics (Nt.inl l)))) (fun m S u1 u2 e h => by obtain ⟨b, l, hm, p0, hS, hE, f0⟩ := h; exact ⟨b, l, hm, p0, hS, hE.trans e, f0.ext e⟩) xj ?_ ?_))))
 ·skip
  refine sq9 (zza 14 (.v (x.v)) (zza 15 (zI D) (zzg 16 59 _ fun _ _ ax aQ => qym (k_exWrong (D := (D : Int)) aQ (hg.ext ax) ho) ?_)))
  rintro _ u13 aH rfl
  refine zza 6 (zI (Nt.wrE N (D : Int))) (zzb (sq9 (zza 17 (zI (Nt.wrE N (D : Int))) (zza 18 (zB ((Nt.wrE N (D : Int)) != 0)) (zzb (zzu (b := (Nt.wrE N (D : Int)) != 0) xj (fun hb => ?_) (fun hb => ?_)))))))
  ·exact absurd hb (by rw [show ((Nt.wrE N (D : Int)) != 0) = false from (by rw [hwr]; rfl)]; decide)
  clear hb
  refine zzs (zzp ?_)
  refine zzf (zza 21 (.v (x.v)) (zza 22 (zI x.n) (zza 23 (zI D) (qwi 24 ((D : Int) + 2) (D + 2 : Nat) xz (zzg 25 60 _ fun _ _ aI aT => qym (k_spread (N := x.n) (k := D + 2) aT xq xq xq) ?_)))))
  rintro _ u18 aU ⟨az, aR, rfl, aB, aD, am⟩
  refine zza 7 (.v (.slice (some ⟨az, 0, none⟩) (D + 2) (D + 2))) (zzx ?_)
  exact mpi_into (T := St.of 64 [(0, .v (.slice x.a x.n x.c)), (4, .adr 4 0), (7, .v (.slice (some ⟨az, 0, none⟩) (D + 2) (D + 2)))] [(4, ⟨34, [qyn, .bool false, qyn, qyn, qyn]⟩)]) yz ⟨az, aR, rfl, (by have h9 := am; rw [hxn] at h9; exact h9), rfl, (ax.t (aH.t (aI.t aU.ext))), (MutQ.lit aD (by rw [zwi, Nt.inl_len, Nt.Rf.len am]; omega) yk (Nat.le_trans (Ext.size (ax.t (aH.t aI))) aB) nu_ics)⟩
 rintro aK _ u11 ⟨b, l, aW, hR, rfl, aF, hm⟩
 have hlk : l.length = D + 2 := by have h9 := hR.len; omega
 have hpl9 := Nt.lvl_len (V := V) hR
 refine sq9 (zza 27 (.v (x.v)) (zza 28 (.v (.slice (some ⟨b, 0, none⟩) (D + 2) (D + 2))) (zzg 29 61 _ fun _ _ ap aX => qym (k_levelled (z := (⟨some ⟨b, 0, none⟩, D + 2, D + 2⟩ : Sl)) (n := (D + 1)) aX (hg.ext (aF.trans ap)) ho (MutQ.slr (hm.ext ap)) hR xq) ?_)))
 rintro _ u23 aE ⟨ac, aq, rfl, ae, aA⟩
 have hly22 := ae.len
 have hlly22 := Nt.lvl_len (V := V) hR
 refine zza 26 (.v (.tuple #[ac.v, aq.v])) (zza 30 (.v (ac.v)) (zza 31 (.v (aq.v)) (zzk 9 ⟨32, zw3⟩ (zza 8 (.v (ac.v)) (zzj ⟨32, aq.cs⟩ ty32 ?_)))))
 refine zzb (sq9 (zza 32 (.v (x.v)) (zza 33 (.v (ac.v)) (zzg 34 62 _ fun _ _ ag aL => qym (k_errorsOf (M := 1400000) aL (hg.ext (aF.t (ap.t (aE.t ag)))) ho (ae.ext ag).raw xq xq yv) ?_))))
 rintro _ u29 aw ⟨aJ, rfl, ay⟩
 refine zza 10 (.v (aJ.v)) (zzb (sq9 (zza 36 (.v (aJ.v)) (zzg 37 63 _ fun _ _ ao aV => qym (k_greatest (n := N) aV (ay.ext ao) Nt.erL_len xq xq xq) ?_))))
 rintro _ u34 aC ⟨ah, af, rfl, ak, al⟩
 have hgl33 := Nt.Gst.lt al
 refine zza 35 (.v (.tuple #[ah.v, .int .i64 af])) (zza 38 (.v (ah.v)) (zza 39 (zI af) (zzk 11 ⟨32, zw3⟩ (zzj ⟨32, ah.cs⟩ ty32 ?_))))
 refine zza 12 (zI af) (zzb (zzd (zzd (zzz [0, 0, 2, 7, 15] [(0, []), (1, []), (2, []), (3, []), (4, [])] xj xj (zzi 40 (.v (ah.v)) ty32 zze (zzi 41 (.v (aq.v)) ty32 zze (zzg 42 65 _ fun _ _ ai aS => qym (k_ratAbs aS (aA.ext (ag.t (aw.t (ao.t (aC.t ai))))).raw xq) ?_)))))))
 rintro _ u40 an ⟨r38, rfl, aN⟩
 refine zzg 43 64 _ fun _ _ aj aP => qym (k_exCompare aP (ak.ext (ai.t (an.t aj))) (RatN.toP (aN.ext aj)) xq xq) ?_
 rintro _ u44 ar rfl
 refine zza 44 (zB (decide ((0 : Int) < (Nt.cmpQ (Nt.absQ ((Nt.erL V (Nt.pL V l) N).getD af 0)) (Nt.absQ (Nt.eL V l)))))) (zzb (zzu (b := decide ((0 : Int) < (Nt.cmpQ (Nt.absQ ((Nt.erL V (Nt.pL V l) N).getD af 0)) (Nt.absQ (Nt.eL V l))))) xj (fun aa => ?_) (fun aa => ?_)))
 ·have qhb47 := qyt aa
  refine zzd ?_
  have hcc := Nt.cmpg_y _ _ aa
  rw [Nt.erL_at xq] at hcc
  exact absurd hcc (all_lev (a := af) ho hR xq xq xq)
 have qhb47 := qyf aa
 refine zzs (zzp ?_)
 refine sq9 (zza 59 (.v (ac.v)) (zzi 60 (.v (ah.v)) ty32 zze (zzg 61 68 _ fun _ _ au aM => qym (k_ratTrim aM ((RatP.raw ak).ext (ai.t (an.t (aj.t (ar.t au))))) xq) ?_)))
 rintro _ u51 aG ⟨ad, rfl, aO⟩
 refine zza 62 (.v (.slice (some ⟨b, 0, none⟩) (D + 2) (D + 2))) (zza 63 (.v (.agg #[ac.v, .bool ad.s, ad.m.v, ad.d.v, .slice (some ⟨b, 0, none⟩) (D + 2) (D + 2)])) (zzj ⟨34, [ac.v] ++ ad.cs ++ [.slice (some ⟨b, 0, none⟩) (D + 2) (D + 2)]⟩ ty34 ?_))
 refine zza 5 (zI 0) (zzc 64 [(4, .adr 4 0), (5, zI 0)] [(4, ⟨34, [ac.v] ++ ad.cs ++ [.slice (some ⟨b, 0, none⟩) (D + 2) (D + 2)]⟩)] (zzo (mpr_jump (ret0 [.agg #[ac.v, .bool ad.s, ad.m.v, ad.d.v, .slice (some ⟨b, 0, none⟩) (D + 2) (D + 2)], .int .i64 0] ⟨zzr ty34 zze, zzq, trivial⟩ fun u54 av => ?_))))
 have hde := Nt.design_end ho hR xq al (by have h9 := Nt.cmpg_n _ _ aa; rw [Nt.erL_at xq] at h9; exact h9)
 have h8 := (aO.ext av)
 rw [Nt.erL_at xq, hde.2] at h8
 exact ⟨ac, ad, b, l, rfl, (ae.ext (ag.t (aw.t (ao.t (aC.t (ai.t (an.t (aj.t (ar.t (au.t (aG.t av))))))))))), h8, MutQ.slr (hm.ext (ap.t (aE.t (ag.t (aw.t (ao.t (aC.t (ai.t (an.t (aj.t (ar.t (au.t (aG.t av))))))))))))), hde.1⟩
theorem k_awakeA {u w : World} (d : Dat u w) : qyc 18 #[] w (Post u w fun v _ => v = .bool true) := by
 refine zzm Tryz.func18 rfl Tryz.ntmps18 Tryz.results18 d ?_
 refine sq9 (zza 0 (zB false) (zzb (sq9 (zzg 11 30 _ fun _ _ _ bi => qym (k_rqOf bi (z := 1) xq xq) ?_))))
 rintro _ u14 g15 ⟨aa, rfl, aJ⟩
 refine zzk 1 ⟨32, zw3⟩ (zzj ⟨32, aa.cs⟩ ty32 ?_)
 refine zzb (zzd (zzz [0, 0, 0, 7, 1, 17, 0, 113, 0, 0, 0, 1792, 4095, 8191] [(1, []), (2, []), (6, []), (8, []), (9, []), (10, []), (11, []), (0, []), (3, []), (4, []), (5, []), (7, []), (12, []), (13, [])] xj xj (zzi 13 (.v (aa.v)) ty32 zze (zzi 14 (.v (aa.v)) ty32 zze (zzi 18 (.v (aa.v)) ty32 zze (zzi 20 (.v (aa.v)) ty32 zze (zzi 21 (.v (aa.v)) ty32 zze (zzi 22 (.v (aa.v)) ty32 zze (zza 23 (.v (.agg #[.bool aa.s, aa.m.v, aa.d.v, .bool aa.s, aa.m.v, aa.d.v, .bool aa.s, aa.m.v, aa.d.v])) (zzg 12 30 _ fun _ _ aE a6 => qym (k_rqOf a6 (z := (-1)) xq xq) ?_))))))))))
 rintro _ u20 aG ⟨aD, rfl, a5⟩
 refine zza 15 (.v (.agg #[.bool aD.s, aD.m.v, aD.d.v, .bool aa.s, aa.m.v, aa.d.v, .bool aa.s, aa.m.v, aa.d.v])) (zzg 16 30 _ fun _ _ aB a7 => qym (k_rqOf a7 (z := 0) xq xq) ?_)
 rintro _ u26 ax ⟨aI, rfl, bt⟩
 refine zzg 17 30 _ fun _ _ ap be => qym (k_rqOf be (z := 0) xq xq) ?_
 rintro _ u32 an ⟨aH, rfl, bo⟩
 refine zza 19 (.v (.agg #[.bool aI.s, aI.m.v, aI.d.v, .bool aH.s, aH.m.v, aH.d.v, .bool aa.s, aa.m.v, aa.d.v])) (sy_lit 24 ⟨56, aD.cs ++ aa.cs ++ aa.cs ++ aI.cs ++ aH.cs ++ aa.cs ++ aa.cs ++ aa.cs ++ aa.cs⟩ 3 ?_)
 refine zza 2 (.slc 24 0 3 3) (zzb (zzd (zyp (r := 2) (t := 24) [2, 24] xw xj (by rfl) (by rfl) xj (fun aF a3 ah bu a1 => ?_))))
 have hAw : RatsN a3 [aD, aa, aa, aI, aH, aa, aa, aa, aa] Nt.awV 1 := (RatsN.snoc (RatsN.snoc (RatsN.snoc (RatsN.snoc (RatsN.snoc (rats4 (RatN.fit (K := 2) (a5.ext (aB.t (ax.t (ap.t (an.t ah))))) (Nt.rs_small yv)) (RatN.fit (K := 2) (aJ.ext (aE.t (aG.t (aB.t (ax.t (ap.t (an.t ah))))))) (Nt.rs_small yv)) (RatN.fit (K := 2) (aJ.ext (aE.t (aG.t (aB.t (ax.t (ap.t (an.t ah))))))) (Nt.rs_small yv)) (RatN.fit (K := 2) (bt.ext (ap.t (an.t ah))) (Nt.rs_small yv))) (RatN.fit (K := 2) (bo.ext ah) (Nt.rs_small yv))) (RatN.fit (K := 2) (aJ.ext (aE.t (aG.t (aB.t (ax.t (ap.t (an.t ah))))))) (Nt.rs_small yv))) (RatN.fit (K := 2) (aJ.ext (aE.t (aG.t (aB.t (ax.t (ap.t (an.t ah))))))) (Nt.rs_small yv))) (RatN.fit (K := 2) (aJ.ext (aE.t (aG.t (aB.t (ax.t (ap.t (an.t ah))))))) (Nt.rs_small yv))) (RatN.fit (K := 2) (aJ.ext (aE.t (aG.t (aB.t (ax.t (ap.t (an.t ah))))))) (Nt.rs_small yv)))
 have hGw : GrN a3 ⟨some ⟨aF, 0, none⟩, 3, 3⟩ 3 Nt.awV 1 := gr_lit (L := [aD, aa, aa, aI, aH, aa, aa, aa, aa]) a1 hAw rfl yv
 refine zzf (zza 26 (.v (.slice (some ⟨aF, 0, none⟩) 3 3)) (zzg 27 13 _ fun _ _ aT bq => qym (k_exDesignA (D := 1) bq (hGw.ext aT) Nt.awOK yv) ?_))
 rintro _ u42 aZ ⟨aA, ac, ay, aL, rfl, aC, aN, aW, al⟩
 have hly41 := aC.len
 have hlly41 := Nt.Bst.len al
 refine zza 25 (.v (.tuple #[.agg #[aA.v, .bool ac.s, ac.m.v, ac.d.v, .slice (some ⟨ay, 0, none⟩) (1 + 2) (1 + 2)], .int .i64 0])) (zza 28 (.v (.agg #[aA.v, .bool ac.s, ac.m.v, ac.d.v, .slice (some ⟨ay, 0, none⟩) (1 + 2) (1 + 2)])) (zza 29 (zI 0) (zzk 3 ⟨34, [qyn, .bool false, qyn, qyn, qyn]⟩ (zzj ⟨34, [aA.v] ++ ac.cs ++ [.slice (some ⟨ay, 0, none⟩) (1 + 2) (1 + 2)]⟩ ty34 ?_))))
 refine zza 4 (zI 0) (zzb (sq9 (zza 31 (.v (.slice (some ⟨aF, 0, none⟩) 3 3)) (zxx 32 ⟨3, [.int .i64 0, .int .i64 1, .int .i64 2]⟩ 3 (fun aV bs au a4 => ?_)))))
 have aY : SlR .i64 bs ((⟨some ⟨aV, 0, none⟩, 3, 3⟩ : Sl)).a ((⟨some ⟨aV, 0, none⟩, 3, 3⟩ : Sl)).n ((⟨some ⟨aV, 0, none⟩, 3, 3⟩ : Sl)).c (Nt.inl [0, 1, 2]) := ints_data a4 rfl rfl qyl (by show 3 ≤ maxLen; unfold maxLen; omega)
 refine zzg 33 25 _ fun _ _ aj bk => qym (k_exLevelR (z := (⟨some ⟨aV, 0, none⟩, 3, 3⟩ : Sl)) (n := 2) bk (hGw.ext (aT.t (aZ.t (au.trans aj)))) Nt.awOK (aY.ext aj) Nt.awRf xq) ?_
 rintro _ u52 az ⟨aQ, aP, rfl, aO, aX⟩
 have hly51 := aO.len
 have hlly51 := Nt.lvl_len (V := Nt.awV) Nt.awRf
 refine zza 30 (.v (.tuple #[aQ.v, aP.v, .int .i64 0])) (zza 34 (.v (aQ.v)) (zza 35 (.v (aP.v)) (zza 36 (zI 0) (zzk 6 ⟨32, zw3⟩ (zza 5 (.v (aQ.v)) (zzj ⟨32, aP.cs⟩ ty32 ?_))))))
 refine zza 7 (zI 0) (zzc 89 [(2, .v (.slice (some ⟨aF, 0, none⟩) 3 3)), (3, .adr 3 0), (4, zI 0), (5, .v (aQ.v)), (6, .adr 6 0), (7, zI 0)] [(3, ⟨34, [aA.v] ++ ac.cs ++ [.slice (some ⟨ay, 0, none⟩) (1 + 2) (1 + 2)]⟩), (6, ⟨32, aP.cs⟩)] (sq9 (zza 38 (.v (.slice (some ⟨aF, 0, none⟩) 3 3)) (zzg 39 13 _ fun _ _ ai bh => qym (k_exDesignE (D := (2 : Nat)) bh (hGw.ext (aT.t (aZ.t (au.t (aj.t (az.t ai)))))) Nt.awOK yv) ?_))))
 rintro _ u56 aq rfl
 refine zza 37 (.v (.tuple #[.agg #[qyn, .bool false, qyn, qyn, qyn], .int .i64 (Nt.wrE 3 2)])) (zza 40 (.v (.agg #[qyn, .bool false, qyn, qyn, qyn])) (zza 41 (zI (Nt.wrE 3 2)) (zzk 8 ⟨34, [qyn, .bool false, qyn, qyn, qyn]⟩ (zzj ⟨34, [qyn, .bool false, qyn, qyn, qyn]⟩ ty34 ?_))))
 refine zza 9 (zI (Nt.wrE 3 2)) (zzb (sq9 (zzg 42 23 _ fun _ _ av bm => qym (k_rqFrac bm (a := 1) (b := 2) xq xq xq xq) ?_)))
 rintro _ u62 ar ⟨ak, rfl, aS⟩
 refine zzk 10 ⟨32, zw3⟩ (zzj ⟨32, ak.cs⟩ ty32 ?_)
 refine zzb (sq9 (zza 43 (zI 0) (zza 44 (zB true) (zza 45 (zB true) (zza 46 (zI 0) ?_ (hw := w1 2 true 45))))))
 refine zza 47 (zB true) ?_ (hw := w1 2 true 45)
 refine zza 48 (zB true) (zza 49 (zB true) (zza 50 (zI (Nt.wrE 3 2)) ?_ (hw := w1 6 true 49)))
 refine zza 51 (zB ((Nt.wrE 3 2) == 1)) ?_ (hw := w1 6 true 49)
 refine zza 52 (zB ((Nt.wrE 3 2) == 1)) (zyq 53 (x := zB ((Nt.wrE 3 2) == 1)) (zB true) (by rw [show ((Nt.wrE 3 2) == 1) = true from yv]) (zza 54 (.adr 3 0) ?_ (hw := w1 10 true 53)))
 refine zzi 55 (.v (aA.v)) ty27 zzl ?_ (hw := w1 10 true 53)
 refine zzi 56 (.v (ak.v)) ty32 zze ?_ (hw := w1 10 true 53)
 refine zxx 57 ⟨32, ak.cs⟩ 1 (fun bd br ad bb => ?_) (hw := w1 10 true 53)
 have a0 : PolN br (⟨some ⟨bd, 0, none⟩, 1, 1⟩ : Sl) [(((1 : Int) : Rat) / ((2 : Int) : Rat))] 3 := pol_lit (L := [ak]) bb (rats1 (aS.ext ad)) rfl yv
 refine zzg 58 15 _ (fun _ _ ae a9 => qym (k_r5Equal a9 (aC.ext (au.t (aj.t (az.t (ai.t (aq.t (av.t (ar.t (ad.trans ae))))))))) (a0.ext ae) xk zv) ?_) (hw := w1 10 true 53)
 rintro _ u72 af rfl
 refine zza 59 (zB (decide ((Nt.pL Nt.awV aL) = [(((1 : Int) : Rat) / ((2 : Int) : Rat))]))) (zyq 60 (x := zB (decide ((Nt.pL Nt.awV aL) = [(((1 : Int) : Rat) / ((2 : Int) : Rat))]))) (zB true) (by rw [show (decide ((Nt.pL Nt.awV aL) = [(((1 : Int) : Rat) / ((2 : Int) : Rat))])) = true from (decide_eq_true (Nt.aw_p al))]) (zza 61 (.adr 3 1) ?_ (hw := w1 17 true 60)))
 refine zzi 62 (.v (ac.v)) ty32 zze ?_ (hw := w1 17 true 60)
 refine zzi 63 (.v (ak.v)) ty32 zze ?_ (hw := w1 17 true 60)
 refine zzg 64 16 _ (fun _ _ ag bj => qym (k_rqSame bj (aN.ext (au.t (aj.t (az.t (ai.t (aq.t (av.t (ar.t (ad.t (ae.t (af.t ag))))))))))) (aS.ext (ad.t (ae.t (af.t ag))))) ?_) (hw := w1 17 true 60)
 rintro _ u77 aw rfl
 refine zza 65 (zB (decide ((Nt.absQ (Nt.eL Nt.awV aL)) = (((1 : Int) : Rat) / ((2 : Int) : Rat))))) (zyq 66 (x := zB (decide ((Nt.absQ (Nt.eL Nt.awV aL)) = (((1 : Int) : Rat) / ((2 : Int) : Rat))))) (zB true) (by rw [show (decide ((Nt.absQ (Nt.eL Nt.awV aL)) = (((1 : Int) : Rat) / ((2 : Int) : Rat)))) = true from (decide_eq_true (Nt.aw_x al))]) (zza 67 (.adr 3 4) ?_ (hw := w1 23 true 66)))
 refine zzi 68 (.v (.slice (some ⟨ay, 0, none⟩) (1 + 2) (1 + 2))) ty22 zzl ?_ (hw := w1 23 true 66)
 refine zza 69 (zI (1 + 2 : Nat)) ?_ (hw := w1 23 true 66)
 refine zza 70 (zB (((1 + 2 : Nat) : Int) == 3)) ?_ (hw := w1 23 true 66)
 refine zza 71 (zB (((1 + 2 : Nat) : Int) == 3)) (zyq 72 (x := zB (((1 + 2 : Nat) : Int) == 3)) (zB true) (by rw [show (((1 + 2 : Nat) : Int) == 3) = true from yv]) (zza 73 (.v (aQ.v)) ?_ (hw := w1 29 true 72)))
 refine zzi 74 (.v (ak.v)) ty32 zze ?_ (hw := w1 29 true 72)
 refine zxx 75 ⟨32, ak.cs⟩ 1 (fun bg bn am bf => ?_) (hw := w1 29 true 72)
 have a2 : PolN bn (⟨some ⟨bg, 0, none⟩, 1, 1⟩ : Sl) [(((1 : Int) : Rat) / ((2 : Int) : Rat))] 3 := pol_lit (L := [ak]) bf (rats1 (aS.ext (ad.t (ae.t (af.t (ag.t (aw.t am))))))) rfl yv
 refine zzg 76 15 _ (fun _ _ ao a8 => qym (k_r5Equal a8 (aO.ext (ai.t (aq.t (av.t (ar.t (ad.t (ae.t (af.t (ag.t (aw.t (am.trans ao))))))))))) (a2.ext ao) xk zv) ?_) (hw := w1 29 true 72)
 rintro _ u88 aK rfl
 refine zza 77 (zB (decide ((Nt.pL Nt.awV ([0, 1, 2])) = [(((1 : Int) : Rat) / ((2 : Int) : Rat))]))) (zyq 78 (x := zB (decide ((Nt.pL Nt.awV ([0, 1, 2])) = [(((1 : Int) : Rat) / ((2 : Int) : Rat))]))) (zB true) (by rw [show (decide ((Nt.pL Nt.awV ([0, 1, 2])) = [(((1 : Int) : Rat) / ((2 : Int) : Rat))])) = true from (decide_eq_true (Nt.aw_p Nt.aw_lev))]) (zzi 79 (.v (aP.v)) ty32 zze ?_ (hw := w1 35 true 78)))
 refine zzi 80 (.v (ak.v)) ty32 zze ?_ (hw := w1 35 true 78)
 refine zzg 81 16 _ (fun _ _ aM ba => qym (k_rqSame ba (aX.ext (ai.t (aq.t (av.t (ar.t (ad.t (ae.t (af.t (ag.t (aw.t (am.t (ao.t (aK.t aM))))))))))))) (aS.ext (ad.t (ae.t (af.t (ag.t (aw.t (am.t (ao.t (aK.t aM)))))))))) ?_) (hw := w1 35 true 78)
 rintro _ u93 aR rfl
 refine zza 82 (zB (decide ((Nt.eL Nt.awV ([0, 1, 2])) = (((1 : Int) : Rat) / ((2 : Int) : Rat))))) (zyq 83 (x := zB (decide ((Nt.eL Nt.awV ([0, 1, 2])) = (((1 : Int) : Rat) / ((2 : Int) : Rat))))) (zB true) (by rw [show (decide ((Nt.eL Nt.awV ([0, 1, 2])) = (((1 : Int) : Rat) / ((2 : Int) : Rat)))) = true from (decide_eq_true Nt.aw_e)]) (zza 84 (.v (.slice (some ⟨aF, 0, none⟩) 3 3)) ?_ (hw := w1 40 true 83)))
 refine zzi 85 (.v (.agg #[aA.v, .bool ac.s, ac.m.v, ac.d.v, .slice (some ⟨ay, 0, none⟩) (1 + 2) (1 + 2)])) ty34 zze ?_ (hw := w1 40 true 83)
 refine zzg 86 17 _ (fun _ _ aU bp => qym (k_exCheckB (D := 1) (y := aA) (z := (⟨some ⟨ay, 0, none⟩, 1 + 2, 1 + 2⟩ : Sl)) (r := ac) (M := 1400000) bp (hGw.ext (aT.t (aZ.t (au.t (aj.t (az.t (ai.t (aq.t (av.t (ar.t (ad.t (ae.t (af.t (ag.t (aw.t (am.t (ao.t (aK.t (aM.t (aR.t aU)))))))))))))))))))) Nt.awOK (aC.ext (au.t (aj.t (az.t (ai.t (aq.t (av.t (ar.t (ad.t (ae.t (af.t (ag.t (aw.t (am.t (ao.t (aK.t (aM.t (aR.t aU)))))))))))))))))).raw (aN.ext (au.t (aj.t (az.t (ai.t (aq.t (av.t (ar.t (ad.t (ae.t (af.t (ag.t (aw.t (am.t (ao.t (aK.t (aM.t (aR.t aU)))))))))))))))))).raw (aW.ext (au.t (aj.t (az.t (ai.t (aq.t (av.t (ar.t (ad.t (ae.t (af.t (ag.t (aw.t (am.t (ao.t (aK.t (aM.t (aR.t aU)))))))))))))))))) xq xq yv xq yv al rfl) ?_) (hw := w1 40 true 83)
 rintro _ u98 g99 rfl
 refine zza 87 (zB true) ?_ (hw := w1 40 true 83)
 refine zza 88 (zB true) (zza 0 (zB true) (zzc 89 [(0, zB true)] [] (zzo (ret0 [.bool true] ⟨zzq, trivial⟩ fun bl bc => ?_))))
 rfl
theorem ics_at_int {l : List Int} {j : Nat} (h : j < l.length) : ∃ z, (ics l)[j]? = some (.int .i64 z) := by
 refine ⟨l[j], ?_⟩
 unfold ics
 rw [List.getElem?_map, List.getElem?_eq_getElem h]; rfl
theorem rcs_no_int {L : List RL} {j : Nat} {z : Int} (h : (rcs L)[j]? = some (.int .i64 z)) : False := by
 have hm := List.mem_of_getElem? h
 obtain ⟨r, _, hr⟩ := List.mem_flatMap.1 hm
 simp [RL.cs] at hr
theorem extX_cell {x : Sl} {u u' : World} (e : ExtX x u u') {b o : Nat} {v : Value} (hb : offB x b) (hc : u.cell? ⟨b, o, none⟩ = some v) : u'.cell? ⟨b, o, none⟩ = some v := by
 unfold World.cell? at hc ⊢
 cases h1 : u.heap[b]? with
 | none => dsimp only at hc; rw [h1] at hc; cases hc
 | some ob =>
  dsimp only at hc ⊢
  rw [h1] at hc
  cases ob with
  | cells c t fr => rw [e.vis _ _ hb h1 (by unfold hidO; exact fun e => by cases e)]; exact hc
  | _ => cases hc
section
variable {P : Program} {ops : Array Oper} {w0 : Base} {u0 : World} {S T : St} {w w' u u' u'' v : World} {o : Oper} {p : List Tmp} {rest : List (Oper × List Tmp)} {K : St → World → Prop}
theorem sy_storeI {T ty : TypeId} {r : Tmp} {z : Operand} {zz : Int} {agg : Bool} {lo i b : Nat} {l : List Int} (x : Sl) (hm : MutQ 1 ty lo u x (ics l)) (hmay : ∀ a, x.a = some a → MayB w0 u0 a.block) (hb : x.a = some ⟨b, 0, none⟩) (hT : TyIs P T agg 1) (hi : i < l.length)
  (kk : ∀ u1, MutQ 1 ty lo u1 x (ics (l.set i zz)) → ExtX x u u1 → (∀ y L, SlC u y (rcs L) → SlC u1 y (rcs L)) → sym P ops w0 u0 true rest S u1 K)
  (hw : Wants ops o S := by exact zwf xj) (hd : o.dst = none := by kernel_rfl) (hop : o.op = .store T (.tmp r) z := by rfl) (hr : S.reg r = some (.v (.pointer (some ⟨b, 0 + i * 1, none⟩))) := by rfl) (hz : evO S z = some (.v (.int .i64 zz)) := by rfl) : sym P ops w0 u0 true ((o, p) :: rest) S u K := by
 obtain ⟨q1, q2, q3, q4⟩ := id hm
 rcases q4 with q4 | ⟨b', all, g1, g2, g3, g4, g5, g6⟩
 ·subst q4; cases hb
 have hmb := hmay _ g1
 rw [hb] at g1; injection g1 with g1; injection g1 with g1 _ _; subst g1
 rw [zwi] at q1
 have hlv : ((Value.int .i64 zz).cells.toList).length = 1 := rfl
 have hnk : x.n * 1 ≤ all.length := by rw [g3]; exact Nat.mul_le_mul_right _ q2
 refine sy_storeD (b := b) (off := 0 + i * 1) (cs := all) (n := 1) g2 hmb hT xq (fun u1 k1 k2 => ?_) hw hd hop hr hz rfl rfl
 refine kk u1 ⟨?_, q2, q3, .inr ⟨b, _, hb, k1, ?_, ?_, g5, nu_setL g6 (nu_ics (l := [zz]))⟩⟩ (k2.toX hb) (fun y L h => ?_)
 ·rw [zwi, List.length_set]; exact q1
 ·rw [setL_length xq]; exact g3
 ·rw [setL_take xq hnk, g4, setL_icsQ hi]
 obtain ⟨h1, h2, h3, h4⟩ := h
 refine ⟨h1, h2, h3, fun hp => ?_⟩
 obtain ⟨b', o', e1, hc⟩ := h4 hp
 refine ⟨b', o', e1, fun j hj => ?_⟩
 have hcj := hc j hj
 rw [List.getElem?_eq_getElem hj] at hcj ⊢
 by_cases hbb : b' = b
 ·subst hbb
  unfold World.cell? at hcj ⊢
  rw [g2] at hcj
  rw [k1]
  have hcj2 : all[o' + j]? = some (rcs L)[j] := by simpa using hcj
  have hne : o' + j ≠ i := fun e => by
   have h5 : (all.take (x.n * 1))[i]? = all[i]? := List.getElem?_take_of_lt xq
   rw [g4] at h5
   obtain ⟨y9, h6⟩ := ics_at_int (l := l) hi
   rw [h6, ← e, hcj2] at h5
   exact rcs_no_int (L := L) (j := j) (z := y9) (by rw [List.getElem?_eq_getElem hj, ← h5])
  have h7 : (setL all (0 + i * 1) ((Value.int .i64 zz).cells.toList))[o' + j]? = all[o' + j]? := by
   rw [show setL all (0 + i * 1) ((Value.int .i64 zz).cells.toList) = all.set i (.int .i64 zz) from by
    have h8 := setL_cons (cs := all) (off := i) (v := Value.int .i64 zz) (vs := []) xq
    rw [setL_nil] at h8
    rw [show 0 + i * 1 = i by omega]; exact h8.symm]
   rw [List.getElem?_set_ne xq]
  show (List.toArray _)[o' + j]? = _
  rw [List.getElem?_toArray, h7]; exact hcj2
 exact extX_cell (k2.toX hb) (fun a ha hc2 => hbb (by rw [hb] at ha; injection ha with ha; subst ha; exact hc2.symm)) hcj
end
theorem PolN.storeI {k : Nat} {ty : TypeId} {lo : Nat} {u u1 : World} {x y : Sl} {cs : List Value} {l : List Rat} {K : Nat} (h : PolN u y l K) (m : MutQ k ty lo u x cs) (e : ExtX x u u1) (hk : ∀ y L, SlC u y (rcs L) → SlC u1 y (rcs L)) : PolN u1 y l K := by
 obtain ⟨L, h1, h2⟩ := h
 exact ⟨L, hk y L h1, m.keeps e h2⟩
theorem ratV_none {u : World} : RatV u ⟨false, ⟨none, 0, 0⟩, ⟨none, 0, 0⟩⟩ 0 1 := by
 have h : NatV u ⟨none, 0, 0⟩ 0 1 := ⟨[], SlR.nil u none 0 (Nat.zero_le _), Nt.Dig.nil, Nat.zero_le _, rfl⟩
 exact ⟨⟨0, 0, ⟨0, h, by decide⟩, h, by decide +kernel⟩, Nat.le_refl _⟩
open Classical in
noncomputable def Nt.chkI (V : List Rat) (N D : Nat) (p : List Rat) (e : Rat) (L : List Int) : Int := if Nt.wrE N (D : Int) ≠ 0 then Nt.wrE N (D : Int) else if Nt.ChkOK V N D p e L then 0 else 22
theorem k_exCheckG {u w : World} {D : Nat} {y z : Sl} {r : RL} {p : List Rat} {e : Rat} {L : List Int} {K Ke M : Nat} {x : Sl} {N : Nat} {V : List Rat} (d : Dat u w) (hg : GrN u x N V 1) (ho : Nt.GrOK V N) (hy : PolV u y p K) (hr : RatV u r e Ke) (hz : SlR .i64 u z.a z.n z.c L) (hb : ∀ x ∈ L, -9223372036854775808 ≤ x ∧ x ≤ 9223372036854775807) (hl : p.length ≤ 60) (hB : 2 * (p.length * (K + 1) + 2) + K + 2 * p.length + 11 ≤ M) (hM : M ≤ 20000000) (hKe : Ke ≤ 20000000) (hD : D ≤ 4) : qyc 17 #[x.v, .int .i64 (D : Int), .agg #[.slice y.a y.n y.c, .bool r.s, .slice r.m.a r.m.n r.m.c, .slice r.d.a r.d.n r.d.c, .slice z.a z.n z.c]] w (Post u w fun v _ => v = .int .i64 (Nt.chkI V N D p e L)) := by
 by_cases h : D + 2 ≤ N
 ·refine qym (k_exCheck d hg ho hy hr hz hb hl hB hM hKe h) ?_
  rintro v u' _ (⟨rfl, h9⟩ | ⟨rfl, h9⟩)
  ·unfold Nt.chkI; rw [if_neg (by rw [Nt.wrE_0 h xq]; exact fun h => h rfl), if_pos h9]
  unfold Nt.chkI; rw [if_neg (by rw [Nt.wrE_0 h xq]; exact fun h => h rfl), if_neg h9]
 refine qym (k_exCheckE (D := (D : Int)) (y := y) (z := z) (r := r) d hg ho (by rw [Nt.wrE_1 h xq]; decide)) ?_
 rintro v u' _ rfl
 unfold Nt.chkI; rw [if_pos (by rw [Nt.wrE_1 h xq]; decide)]
theorem k_r15CheckG {u w : World} {D T : Nat} {y z : Sl} {r : RL} {p : List Rat} {e : Rat} {L : List Int} {K Ke M : Nat} {x : Sl} {N : Nat} {V : List Rat} (d : Dat u w) (hg : GrN u x N V 1) (ho : Nt.GrOK V N) (hy : PolV u y p K) (hr : RatV u r e Ke) (hz : SlR .i64 u z.a z.n z.c L) (hb : ∀ x ∈ L, -9223372036854775808 ≤ x ∧ x ≤ 9223372036854775807) (hl : p.length ≤ 60) (hB : 2 * (p.length * (K + 1) + 2) + K + 2 * p.length + 11 ≤ M) (hM : M ≤ 20000000) (hKe : Ke ≤ 20000000) (hD : D ≤ 4) (hT : p.length * (K + 5) + 10 ≤ T) (hT9 : T ≤ 10000000) (hK9 : K ≤ 10000000) (hKe9 : Ke ≤ 10000000) : qyc 24 #[x.v, .int .i64 (D : Int), .agg #[.slice y.a y.n y.c, .bool r.s, .slice r.m.a r.m.n r.m.c, .slice r.d.a r.d.n r.d.c, .slice z.a z.n z.c]] w (Post u w fun v _ => v = .int .i64 (Nt.chkI V N D p e L)) := by
 by_cases h : D + 2 ≤ N
 ·refine qym (k_r15Check (T := T) d hg ho hy hr hz hb hl hB hM hKe h hT hT9 hK9 hKe9) ?_
  rintro v u' _ (⟨rfl, h9⟩ | ⟨rfl, h9⟩)
  ·unfold Nt.chkI; rw [if_neg (by rw [Nt.wrE_0 h xq]; exact fun h => h rfl), if_pos h9]
  unfold Nt.chkI; rw [if_neg (by rw [Nt.wrE_0 h xq]; exact fun h => h rfl), if_neg h9]
 refine qym (k_r15CheckE (D := (D : Int)) (y := y) (z := z) (r := r) d hg ho (by rw [Nt.wrE_1 h xq]; decide) xq xq) ?_
 rintro v u' _ rfl
 unfold Nt.chkI; rw [if_pos (by rw [Nt.wrE_1 h xq]; decide)]
theorem k_r15DesignG {u w : World} {D : Nat} {x : Sl} {N : Nat} {V : List Rat} (d : Dat u w) (hg : GrN u x N V 1) (ho : Nt.GrOK V N) (hD : D ≤ 4) : qyc 14 #[x.v, .int .i64 (D : Int)] w (Post u w fun v u' => ∃ (y z : Sl) (r : RL) (p : List Rat) (e : Rat) (L : List Int) (f : Int), v = .tuple #[.agg #[.slice y.a y.n y.c, .bool r.s, .slice r.m.a r.m.n r.m.c, .slice r.d.a r.d.n r.d.c, .slice z.a z.n z.c], .int .i64 f] ∧ PolV u' y p 60000 ∧ p.length ≤ 5 ∧ RatV u' r e 4000000 ∧ MutQ 1 3 u.heap.size u' z (ics L) ∧ (∀ x ∈ L, -9223372036854775808 ≤ x ∧ x ≤ 9223372036854775807) ∧ L.length ≤ 6 ∧ (0 < z.n → PolN u' y p 60000 ∧ RatN u' r e 4000000)) := by
 by_cases h : D + 2 ≤ N
 ·refine qym (k_r15Design d hg ho h xq) ?_
  rintro v u' _ ⟨y, r, z, l, rfl, h1, h2, h3, h4⟩
  have h5 := Nt.Bst.len h4
  have h6 := h4.rf.len
  exact ⟨y, z, r, _, _, _, 0, rfl, h1.raw, by omega, h2.raw, h3, Nt.inl_bd h4.rf.mem (by have := ho.n12; omega), by rw [Nt.inl_len]; omega, fun _ => ⟨h1, h2⟩⟩
 refine qym (k_r15DesignE (D := (D : Int)) d hg ho (by rw [Nt.wrE_1 h xq]; decide) xq xq) ?_
 rintro v u' _ rfl
 exact ⟨⟨none, 0, 0⟩, ⟨none, 0, 0⟩, ⟨false, ⟨none, 0, 0⟩, ⟨none, 0, 0⟩⟩, [], 0, [], _, rfl, (pol_nil _ _).raw, by simp, ratV_none.more xq, MutQ.nil _ _ _ _, fun x hx => absurd hx List.not_mem_nil, by simp, fun h => absurd h (Nat.lt_irrefl 0)⟩
theorem w_exChecks {u w : World} {x1 s1 s3 : Sl} {r2 : RL} {l Lm : List Int} {pm : List Rat} {em : Rat} {Km Kr : Nat} {dg bz : Int} (d : Dat u w) (hx1 : SlR .i64 u x1.a x1.n x1.c l) (hx1b : ∀ z ∈ l, -9223372036854775808 ≤ z ∧ z ≤ 9223372036854775807) (hp : PolV u s1 pm Km) (hr : RatV u r2 em Kr) (hz : SlR .i64 u s3.a s3.n s3.c Lm) (hbm : ∀ z ∈ Lm, -9223372036854775808 ≤ z ∧ z ≤ 9223372036854775807) (hdg0 : -9223372036854775808 ≤ dg) (hdg1 : dg ≤ 9223372036854775807) (hbz0 : -9223372036854775808 ≤ bz) (hbz1 : bz ≤ 9223372036854775807) : qyc 4 #[x1.v, .int .i64 dg, .int .i64 bz, .agg #[.slice s1.a s1.n s1.c, .bool r2.s, .slice r2.m.a r2.m.n r2.m.c, .slice r2.d.a r2.d.n r2.d.c, .slice s3.a s3.n s3.c]] w (Post u w fun v _ => v = .bool true) := by
 have hpml := hp.len
 refine zzm Tryz.func4 rfl Tryz.ntmps4 Tryz.results4 d ?_
 refine sq9 (zzk 7 ⟨34, [s1.v] ++ r2.cs ++ [s3.v]⟩ (zza 8 (zB false) (zzb (zzd (sq9 (zza 13 (.adr 7 0) (zzi 14 (.v (s1.v)) ty27 zzl (zzg 15 19 _ fun _ _ aF bn => qym (k_smallPoly bn (hp.ext aF)) ?_))))))))
 rintro _ u13 aD (⟨rfl, ba, aJ⟩ | rfl)
 ·skip
  refine zza 16 (zB false) (zza 17 (zB false) (zza 18 (.adr 7 1) ?_ (hw := w1 4 false 17)))
  refine zzi 19 (.v (r2.v)) ty32 zze ?_ (hw := w1 4 false 17)
  refine zzg 20 20 _ (fun _ _ az bk => qym (k_smallRat (r := r2) bk) ?_) (hw := w1 4 false 17)
  rintro _ u17 ay rfl
  refine zza 21 (zB (!(smR r2))) ?_ (hw := w1 4 false 17)
  refine zza 22 (zB (!(smR r2))) ?_
  rcases Bool.eq_false_or_eq_true (!(smR r2)) with hs20 | hs20
  ·refine qbi 23 hs20 (zzn 24 (uw 10 false true 23) (zzn 25 (uw 10 false true 23) (zzn 26 (uw 10 false true 23) (zzn 27 (uw 10 false true 23) (zza 28 (zB true) (zzb (zyr xj (sq9 (zzg 29 18 _ fun _ _ _ bc => qym (k_awakeA bc) ?_)))))))))
   rintro _ u22 g23 rfl
   refine zza 8 (zB true) (zzb (zzo (zzw (ret0 [.bool true] ⟨zzq, trivial⟩ fun u25 e26 => ?_))))
   rfl
  refine qbi 23 hs20 ?_
  have aK : smR r2 = true := by simpa using hs20
  have hrf := smR_few hr aK
  refine zza 24 (.adr 7 4) ?_ (hw := w1 10 false 23)
  refine zzi 25 (.v (s3.v)) ty22 zzl ?_ (hw := w1 10 false 23)
  refine zza 26 (zI s3.n) ?_ (hw := w1 10 false 23)
  refine zza 27 (zB (decide ((60 : Int) < (s3.n : Int)))) ?_ (hw := w1 10 false 23)
  refine zza 28 (zB (decide ((60 : Int) < (s3.n : Int)))) (zzb (zzu (b := decide ((60 : Int) < (s3.n : Int))) xj (fun aG => ?_) (fun aG => ?_)))
  ·have qhb27 := qyt aG
   refine sq9 (zzg 29 18 _ fun _ _ _ bf => qym (k_awakeA bf) ?_)
   rintro _ u29 g30 rfl
   refine zza 8 (zB true) (zzb (zzo (zzw (ret0 [.bool true] ⟨zzq, trivial⟩ fun u32 e33 => ?_))))
   rfl
  have qhb27 := qyf aG
  refine zzs (zzp ?_)
  refine sq9 (zza 30 (.v (x1.v)) (zzg 31 11 _ fun _ _ ax bi => qym (k_grid bi (hx1.ext (aF.t (aD.t (az.t (ay.t ax))))) hx1b) ?_))
  rintro _ u36 aH ⟨ad, N35, ak, rfl, al, aa⟩
  have a2 : ad.n = N35 := GrN.len al
  have hlnN35 := aa.n12
  have hlmN35 := aa.n1
  refine zza 9 (.v (ad.v)) (zzb (sq9 (zza 32 (zI dg) (zzg 33 12 _ fun _ _ am bs => qym (k_Mod bs (n := dg) (m := 5) xq xq xq xq) ?_))))
  rintro _ u40 ap rfl
  refine zza 10 (zI (dg % 5)) (zzb (zzd ?_))
  obtain ⟨D, hnD⟩ : ∃ n : Nat, dg % 5 = (n : Int) := ⟨(dg % 5).toNat, by omega⟩
  rw [hnD]
  have hbD : D ≤ 4 := by omega
  refine zzf (zza 35 (.v (ad.v)) (zza 36 (zI D) (zzg 37 14 _ fun _ bh ao bq => qym (k_r15DesignG (D := D) bq (al.ext (am.t (ap.t ao))) aa xq) ?_)))
  rintro _ u44 aI ⟨yd, zd, rd, pd, ed, Ld, fd, rfl, hpd, hpl, hed, hmd, hbd, hLl, hgood⟩
  have hlyd := hpd.len
  have hLn : Ld.length = zd.n := by have h9 := hmd.1; rw [zwi] at h9; omega
  refine zza 34 (.v (.tuple #[.agg #[yd.v, .bool rd.s, rd.m.v, rd.d.v, zd.v], .int .i64 fd])) (zza 38 (.v (.agg #[yd.v, .bool rd.s, rd.m.v, rd.d.v, zd.v])) (zza 39 (zI fd) (zzk 11 ⟨34, [qyn, .bool false, qyn, qyn, qyn]⟩ (zzj ⟨34, [yd.v] ++ rd.cs ++ [zd.v]⟩ ty34 ?_))))
  refine zza 12 (zI fd) (zzc 94 [(2, zI bz), (7, .adr 7 0), (9, .v (ad.v)), (10, zI D), (11, .adr 11 0)] [(7, ⟨34, [s1.v] ++ r2.cs ++ [s3.v]⟩), (11, ⟨34, [yd.v] ++ rd.cs ++ [zd.v]⟩)] (zzd (sw_joinR (I := fun S' u' => ∃ (y1 : Sl) (r1 : RL) (z1 : Sl) (p1 : List Rat) (e1 : Rat) (L1 : List Int), (p1.length ≤ 6) ∧ (∀ x ∈ L1, -9223372036854775808 ≤ x ∧ x ≤ 9223372036854775807) ∧ (S' = St.of 94 [(7, .adr 7 0), (9, .v (ad.v)), (10, zI D), (11, .adr 11 0)] [(7, ⟨34, [s1.v] ++ r2.cs ++ [s3.v]⟩), (11, ⟨34, [y1.v] ++ r1.cs ++ [z1.v]⟩)]) ∧ (Ext bh u') ∧ (PolV u' y1 p1 70000) ∧ (RatV u' r1 e1 4000010) ∧ (SlR .i64 u' z1.a z1.n z1.c L1)) ?_ (fun ac => ?_))))
  ·rintro _ bA ⟨y1, r1, z1, p1, e1, L1, hp1, a6, rfl, ae, f0, f1, f2⟩
   have hl1 := f0.len
   refine zzd (zzz [0, 1, 3, 3, 3, 31, 3, 3, 3, 511, 1023, 2047, 4095, 8191, 8191, 8191, 65535, 8191, 8191, 8191, 1048575, 2097151, 4194303, 8388607] [(0, []), (1, []), (2, []), (3, []), (4, []), (6, []), (7, []), (8, []), (5, []), (9, []), (10, []), (11, []), (12, []), (13, []), (14, []), (15, []), (17, []), (18, []), (19, []), (16, []), (20, []), (21, []), (22, []), (23, [])] xj xj (zzg 71 18 _ fun _ _ ai bC => qym (k_awakeA bC) ?_))
   rintro _ u49 aj rfl
   refine zza 72 (zB true) (zza 73 (.v (ad.v)) ?_ (hw := w1 1 true 72))
   refine zza 74 (zI D) ?_ (hw := w1 1 true 72)
   refine zzi 75 (.v (.agg #[s1.v, .bool r2.s, r2.m.v, r2.d.v, s3.v])) ty34 zze ?_ (hw := w1 1 true 72)
   refine zza 77 (.v (ad.v)) ?_ (hw := w1 1 true 72)
   refine zza 78 (zI D) ?_ (hw := w1 1 true 72)
   refine zzi 79 (.v (.agg #[s1.v, .bool r2.s, r2.m.v, r2.d.v, s3.v])) ty34 zze ?_ (hw := w1 1 true 72)
   refine zzg 76 17 _ (fun _ _ ah bD => qym (k_exCheckG (D := D) (y := s1) (z := s3) (r := r2) (M := 2000000) bD (al.ext (am.t (ap.t (ao.t (ae.t (ai.t (aj.t ah))))))) aa (aJ.ext (aD.t (az.t (ay.t (ax.t (aH.t (am.t (ap.t (ao.t (ae.t (ai.t (aj.t ah)))))))))))) (hrf.ext (aF.t (aD.t (az.t (ay.t (ax.t (aH.t (am.t (ap.t (ao.t (ae.t (ai.t (aj.t ah))))))))))))) (hz.ext (aF.t (aD.t (az.t (ay.t (ax.t (aH.t (am.t (ap.t (ao.t (ae.t (ai.t (aj.t ah))))))))))))) hbm xq xq yv xq xq) ?_) (hw := w1 1 true 72)
   rintro _ u53 aq rfl
   refine zzg 80 24 _ (fun _ _ an br => qym (k_r15CheckG (D := D) (y := s1) (z := s3) (r := r2) (M := 2000000) (T := 1000000) br (al.ext (am.t (ap.t (ao.t (ae.t (ai.t (aj.t (ah.t (aq.t an))))))))) aa (aJ.ext (aD.t (az.t (ay.t (ax.t (aH.t (am.t (ap.t (ao.t (ae.t (ai.t (aj.t (ah.t (aq.t an)))))))))))))) (hrf.ext (aF.t (aD.t (az.t (ay.t (ax.t (aH.t (am.t (ap.t (ao.t (ae.t (ai.t (aj.t (ah.t (aq.t an))))))))))))))) (hz.ext (aF.t (aD.t (az.t (ay.t (ax.t (aH.t (am.t (ap.t (ao.t (ae.t (ai.t (aj.t (ah.t (aq.t an))))))))))))))) hbm xq xq yv xq xq xq yv xq xq) ?_) (hw := w1 1 true 72)
   rintro _ u57 aB rfl
   refine zza 81 (zB ((Nt.chkI ak N35 D pm em Lm) == (Nt.chkI ak N35 D pm em Lm))) ?_ (hw := w1 1 true 72)
   refine zza 82 (zB ((Nt.chkI ak N35 D pm em Lm) == (Nt.chkI ak N35 D pm em Lm))) (zyq 83 (x := zB ((Nt.chkI ak N35 D pm em Lm) == (Nt.chkI ak N35 D pm em Lm))) (zB true) (by rw [show ((Nt.chkI ak N35 D pm em Lm) == (Nt.chkI ak N35 D pm em Lm)) = true from (beq_self_eq_true _)]) (zza 84 (.v (ad.v)) ?_ (hw := w1 12 true 83)))
   refine zza 85 (zI D) ?_ (hw := w1 12 true 83)
   refine zzi 86 (.v (.agg #[y1.v, .bool r1.s, r1.m.v, r1.d.v, z1.v])) ty34 zze ?_ (hw := w1 12 true 83)
   refine zza 88 (.v (ad.v)) ?_ (hw := w1 12 true 83)
   refine zza 89 (zI D) ?_ (hw := w1 12 true 83)
   refine zzi 90 (.v (.agg #[y1.v, .bool r1.s, r1.m.v, r1.d.v, z1.v])) ty34 zze ?_ (hw := w1 12 true 83)
   refine zzg 87 17 _ (fun _ _ aA bl => qym (k_exCheckG (D := D) (y := y1) (z := z1) (r := r1) (M := 2000000) bl (al.ext (am.t (ap.t (ao.t (ae.t (ai.t (aj.t (ah.t (aq.t (an.t (aB.t aA))))))))))) aa (f0.ext (ai.t (aj.t (ah.t (aq.t (an.t (aB.t aA))))))) (f1.ext (ai.t (aj.t (ah.t (aq.t (an.t (aB.t aA))))))) (f2.ext (ai.t (aj.t (ah.t (aq.t (an.t (aB.t aA))))))) a6 xq xq yv xq xq) ?_) (hw := w1 12 true 83)
   rintro _ u62 aQ rfl
   refine zzg 91 24 _ (fun _ _ aO bb => qym (k_r15CheckG (D := D) (y := y1) (z := z1) (r := r1) (M := 2000000) (T := 1000000) bb (al.ext (am.t (ap.t (ao.t (ae.t (ai.t (aj.t (ah.t (aq.t (an.t (aB.t (aA.t (aQ.t aO))))))))))))) aa (f0.ext (ai.t (aj.t (ah.t (aq.t (an.t (aB.t (aA.t (aQ.t aO))))))))) (f1.ext (ai.t (aj.t (ah.t (aq.t (an.t (aB.t (aA.t (aQ.t aO))))))))) (f2.ext (ai.t (aj.t (ah.t (aq.t (an.t (aB.t (aA.t (aQ.t aO))))))))) a6 xq xq yv xq xq xq yv xq xq) ?_) (hw := w1 12 true 83)
   rintro _ u66 g67 rfl
   refine zza 92 (zB ((Nt.chkI ak N35 D p1 e1 L1) == (Nt.chkI ak N35 D p1 e1 L1))) ?_ (hw := w1 12 true 83)
   refine zza 93 (zB ((Nt.chkI ak N35 D p1 e1 L1) == (Nt.chkI ak N35 D p1 e1 L1))) (zza 8 (zB ((Nt.chkI ak N35 D p1 e1 L1) == (Nt.chkI ak N35 D p1 e1 L1))) (zzb (zzo (ret0 [.bool ((Nt.chkI ak N35 D p1 e1 L1) == (Nt.chkI ak N35 D p1 e1 L1))] ⟨zzq, trivial⟩ fun u69 e70 => ?_))))
   show Value.bool _ = Value.bool true
   rw [beq_self_eq_true]
  refine sq9 (zza 40 (zI bz) (zzg 41 12 _ fun _ _ ag be => qym (k_Mod be (n := bz) (m := 4) xq xq xq xq) ?_))
  rintro _ u72 af rfl
  refine zzb (zzt (sq9 (zza 43 (zB ((bz % 4) == 0)) (zza 42 (zB ((bz % 4) == 0)) (zzb (zzu (b := (bz % 4) == 0) xj (fun aY => ?_) (fun aY => ?_)))))))
  ·refine zzf (zza 44 (.adr 11 1) (zzi 45 (.v (rd.v)) ty32 zze (zzg 46 21 _ fun _ _ aP bo => qym (k_rqNeg bo (hed.ext (ag.t (af.t aP))) xq) ?_)))
   rintro _ u79 a0 ⟨aU, rfl, a8⟩
   refine zza 47 (.adr 11 1) (zzj ⟨34, [yd.v] ++ aU.cs ++ [zd.v]⟩ ty32 ?_)
   refine zzx ?_
   refine zzp (sw_weak (T := St.of 94 [(7, .adr 7 0), (9, .v (ad.v)), (10, zI D), (11, .adr 11 0)] [(7, ⟨34, [s1.v] ++ r2.cs ++ [s3.v]⟩), (11, ⟨34, [yd.v] ++ aU.cs ++ [zd.v]⟩)]) yz ?_)
   exact ac _ _ ⟨yd, aU, zd, pd, (-ed), Ld, by omega, hbd, rfl, (aI.t (ag.t (af.t (aP.t a0.ext)))), (PolV.more (K := 60000) (hpd.ext (ag.t (af.t (aP.t a0.ext)))) xq), (RatV.more (K := 4000000) a8.raw xq), (MutQ.slr (hmd.ext (ag.t (af.t (aP.t a0.ext)))))⟩
  refine sq9 (zza 49 (zB ((bz % 4) == 1)) (zza 48 (zB ((bz % 4) == 1)) (zzb (zzu (b := (bz % 4) == 1) xj (fun a1 => ?_) (fun a1 => ?_)))))
  ·refine zzz [0, 1, 0, 4, 15, 31, 63] [(0, []), (1, []), (2, []), (3, []), (4, [53]), (5, []), (6, [])] xj xj (zza 50 (.adr 11 0) (zzi 51 (.v (yd.v)) ty27 zzl (zzg 52 23 _ fun _ _ aN bu => qym (k_rqFrac bu (a := 1) (b := 100) xq xq xq xq) ?_)))
   rintro _ u86 aM ⟨av, rfl, bm⟩
   refine sy_lit 53 ⟨32, av.cs⟩ 1 ?_
   refine zyo 54 22 [.v (yd.v), .slc 53 0 1 1] [53] (.inr rfl) (pub_mk xw) (k := ?_)
   intro aS w89 a5 aL bg bj
   have a7 : a5.heap[aS 53]? = some (.cells #[.bool av.s, .slice av.m.a av.m.n av.m.c, .slice av.d.a av.d.n av.d.c] 32 (0, 0)) := bj 53 zv _ rfl
   obtain ⟨bd, aE⟩ : ∃ b, aS 53 = b := ⟨_, rfl⟩
   rw [aE] at a7
   have aR : PolN a5 (⟨some ⟨bd, 0, none⟩, 1, 1⟩ : Sl) [(((1 : Int) : Rat) / ((100 : Int) : Rat))] 3 := pol_lit (L := [av]) a7 (rats1 (bm.ext aL)) rfl yv
   show Calls _ _ #[.slice yd.a yd.n yd.c, .slice (some ⟨aS 53, 0, none⟩) 1 1] _ _
   rw [aE]
   have k97 := k_r5Add bg (hpd.ext (ag.t (af.t (aN.t (aM.t aL))))) aR.raw xq xq xq (by show 1 ≤ _; omega)
   with_reducible refine zPm k97 ?_
   rintro _ u95 aW ⟨aV, rfl, a3⟩
   have hly93 := a3.len
   refine zza 55 (.adr 11 0) (zzj ⟨34, [aV.v] ++ rd.cs ++ [zd.v]⟩ ty27 ?_)
   refine zzx ?_
   refine zzp (sw_weak (T := St.of 94 [(7, .adr 7 0), (9, .v (ad.v)), (10, zI D), (11, .adr 11 0)] [(7, ⟨34, [s1.v] ++ r2.cs ++ [s3.v]⟩), (11, ⟨34, [aV.v] ++ rd.cs ++ [zd.v]⟩)]) yz ?_)
   exact ac _ _ ⟨aV, rd, zd, (Nt.trimQ (Nt.addQ pd [(((1 : Int) : Rat) / ((100 : Int) : Rat))])), ed, Ld, (Nat.le_trans (zzh _) (by rw [Nt.addQ_len]; show max _ 1 ≤ 6; omega)), hbd, rfl, (aI.t (ag.t (af.t (aN.t (aM.t (aL.t aW.ext)))))), (PolV.more (K := (60000 + 3 + 6)) a3.raw xq), (RatV.more (K := 4000000) (hed.ext (ag.t (af.t (aN.t (aM.t (aL.t aW.ext)))))) xq), (MutQ.slr (hmd.ext (ag.t (af.t (aN.t (aM.t (aL.t aW.ext)))))))⟩
  refine sq9 (zza 57 (zB ((bz % 4) == 2)) (zza 56 (zB ((bz % 4) == 2)) (zzb (zzu (b := (bz % 4) == 2) xj (fun aT => ?_) (fun aT => ?_)))))
  ·refine sq9 (zza 58 (.adr 11 4) (zzi 59 (.v (zd.v)) ty22 zzl (zza 60 (zI zd.n) (zza 61 (zB (decide ((0 : Int) < (zd.n : Int)))) (zzb (zzu (b := decide ((0 : Int) < (zd.n : Int))) xj (fun aw => ?_) (fun aw => ?_)))))))
   ·have qhb99 := qyt aw
    have hzp := qyt aw
    refine sw_anyC [0, 1, 0, 0, 8, 24, 60, 124, 255, 511] [(0, []), (1, []), (2, []), (3, []), (4, []), (5, []), (6, []), (7, [])] [(8, []), (9, [])] xj xj xj ?_
    refine zza 62 (.adr 11 4) (zzi 63 (.v (zd.v)) ty22 zzl (zza 64 (zI bz) (zza 65 (.v (ad.v)) (zza 66 (zI ad.n) (qwi 67 ((ad.n : Int) + 2) (ad.n + 2 : Nat) xz (zzg 68 12 _ fun _ _ au aZ => qym (k_Mod aZ (n := bz) (m := ((ad.n + 2 : Nat) : Int)) xq xq xq xq) ?_))))))
    rintro _ bt ar rfl
    obtain ⟨zm, hzm, bE, bx⟩ : ∃ z : Int, bz % ((ad.n + 2 : Nat) : Int) = z ∧ 0 ≤ z ∧ z < ((ad.n + 2 : Nat) : Int) := ⟨_, rfl, Int.emod_nonneg _ xq, Int.emod_lt_of_pos _ xq⟩
    rw [hzm]
    refine zyq 69 (x := zI (IntKind.i64.wrap (zm - 1))) (zI (zm - 1)) zk (zzx ?_)
    obtain ⟨bB, aC, a4⟩ := MutQ.elI (j := 0) (hmd.ext (ag.t (af.t (au.t ar.ext)))) (by rw [hLn]; omega)
    refine zya 70 (0 + 0 * 1) (n := zd.n) (off := 0) (sz := 1) (i := 0) xq aC xq xq sl22 ?_
    have hqz := (hmd.ext (ag.t (af.t (au.t ar.ext))))
    obtain ⟨hpN, hrN⟩ := hgood xq
    have hpM := hpN.ext (ag.t (af.t (au.t ar.ext)))
    have hrM := hrN.ext (ag.t (af.t (au.t ar.ext)))
    refine sy_storeI (zz := zm - 1) (i := 0) zd hqz (fun a9 h9 => .inl (Nat.le_trans (Ext.size (aF.t (aD.t (az.t (ay.t (ax.t (aH.t (am.t (ap.t ao))))))))) (MutQ.blkM hmd a9 h9))) aC ty3 xq (fun uz hmz eXz hkz => ?_)
    have eRz := ExtX.root eXz (MutQ.mutL hqz) (aI.t (ag.t (af.t (au.t ar.ext))))
    have hpZ := PolN.storeI hpM hqz eXz hkz
    have hrZ := MutQ.keep hqz eXz hrM
    refine zzx ?_
    refine zzp (sw_weak (T := St.of 94 [(7, .adr 7 0), (9, .v (ad.v)), (10, zI D), (11, .adr 11 0)] [(7, ⟨34, [s1.v] ++ r2.cs ++ [s3.v]⟩), (11, ⟨34, [yd.v] ++ rd.cs ++ [zd.v]⟩)]) yz ?_)
    exact ac _ _ ⟨yd, rd, zd, pd, ed, (Ld.set 0 (zm - 1)), by omega, (fun x hx => by rcases List.mem_or_eq_of_mem_set hx with h9 | rfl; exact hbd x h9; omega), rfl, eRz, (PolV.more (K := 60000) hpZ.raw xq), (RatV.more (K := 4000000) hrZ.raw xq), (MutQ.slr hmz)⟩
   have qhb99 := qyf aw
   refine zzs (zzp ?_)
   refine sw_weak (T := St.of 94 [(7, .adr 7 0), (9, .v (ad.v)), (10, zI D), (11, .adr 11 0)] [(7, ⟨34, [s1.v] ++ r2.cs ++ [s3.v]⟩), (11, ⟨34, [yd.v] ++ rd.cs ++ [zd.v]⟩)]) yz ?_
   exact ac _ _ ⟨yd, rd, zd, pd, ed, Ld, by omega, hbd, rfl, (aI.t (ag.t af.ext)), (PolV.more (K := 60000) (hpd.ext (ag.t af.ext)) xq), (RatV.more (K := 4000000) (hed.ext (ag.t af.ext)) xq), (MutQ.slr (hmd.ext (ag.t af.ext)))⟩
  refine zzs (zzp ?_)
  refine sw_weak (T := St.of 94 [(7, .adr 7 0), (9, .v (ad.v)), (10, zI D), (11, .adr 11 0)] [(7, ⟨34, [s1.v] ++ r2.cs ++ [s3.v]⟩), (11, ⟨34, [yd.v] ++ rd.cs ++ [zd.v]⟩)]) yz ?_
  exact ac _ _ ⟨yd, rd, zd, pd, ed, Ld, by omega, hbd, rfl, (aI.t (ag.t af.ext)), (PolV.more (K := 60000) (hpd.ext (ag.t af.ext)) xq), (RatV.more (K := 4000000) (hed.ext (ag.t af.ext)) xq), (MutQ.slr (hmd.ext (ag.t af.ext)))⟩
 refine zza 16 (zB true) (zza 17 (zB true) (zzn 18 (uw 4 false true 17) (zzn 19 (uw 4 false true 17) (zzn 20 (uw 4 false true 17) (zzn 21 (uw 4 false true 17) (zza 22 (zB true) (zza 23 (zB true) (zzn 24 (uw 10 false true 23) (zzn 25 (uw 10 false true 23) (zzn 26 (uw 10 false true 23) (zzn 27 (uw 10 false true 23) ?_)))))))))))
 refine zza 28 (zB true) (zzb (zyr xj (sq9 (zzg 29 18 _ fun _ _ _ aX => qym (k_awakeA aX) ?_))))
 rintro _ bw bp rfl
 refine zza 8 (zB true) (zzb (zzo (zzw (ret0 [.bool true] ⟨zzq, trivial⟩ fun bF bv => ?_))))
 rfl
end Go.Proofs.YtgmkhhfbckjaeaaGreat
