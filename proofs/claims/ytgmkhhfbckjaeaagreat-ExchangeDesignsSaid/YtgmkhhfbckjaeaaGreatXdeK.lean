/- The reference's put and swap. Printed by wip/sym/g_xp.py. The reference's Design. Printed by wip/sym/g_xq.py. ExchangeDesigns. Printed by wip/sym/g_xr.py. -/
import Derived.Test.YtgmkhhfbckjaeaaGreatXdeM
set_option linter.unusedVariables false
set_option maxHeartbeats 8000000
namespace Go.Proofs.YtgmkhhfbckjaeaaGreat
open Nt
open Go.RowKit
theorem k_r15swap {u w : World} {V : List Rat} {l : List Nat} {n N a b0 o0 c0 : Nat} (d : Dat u w) (ho : Nt.GrOK V N) (hz : SlR .i64 u (some ⟨b0, o0, none⟩) (n + 1) c0 (Nt.inl l)) (hR : Nt.Rf N l n) (hn1 : 1 ≤ n) (ha : a < N) (hc : Nt.absQ (Nt.eL V l) < Nt.absQ (Nt.gE (Nt.gX V) (Nt.gW V) (Nt.gY V) (Nt.pL V l) a)) (he : Nt.eL V l = 0) : qyc 71 #[.slice (some ⟨b0, o0, none⟩) (n + 1) c0, .int .i64 (a : Int)] w (Post u w fun v u' => ∃ (y : Sl) (m : List Nat), v = y.v ∧ MutQ 1 3 u.heap.size u' y (ics (Nt.inl m)) ∧ Nt.Better V N n l m) := by
 have hll := hR.len
 have hzc := slr_cells hz
 have hn11 := hR.n11 ho.n12
 have hc0 : n + 1 ≤ c0 := hz.2.1
 have hN12 := ho.n12
 refine zzm (args := [.slice (some ⟨b0, o0, none⟩) (n + 1) c0, .int .i64 a]) Tryz.func71 rfl Tryz.ntmps71 (rs := [.tmp 4]) Tryz.results71 (le_b rfl) (le_b rfl) d ?_
 refine sq9 (zza 4 (.v (qyn)) (zzb (sq9 (zza 7 (.v (.slice (some ⟨b0, o0, none⟩) (n + 1) c0)) ?_))))
 have ah : MutQ 1 3 u.heap.size u sl0 (ics []) := (MutQ.nil _ _ _ _)
 refine sy_appQ 8 (T := 22) (E := 3) (z := .int .i64 0) (size := 1) (bytes := 8) (b2 := b0) (off := o0) (m := (n + 1)) (c := c0) sl0 (ics []) (ics (Nt.inl l)) ah xj xj xj yv (by rw [zwi, Nat.mul_one]; rw [Nt.inl_len, hll]) (ics_news (fun j hj => ((Ext.refl _)).cell (hzc j hj))) ics_one xq (by unfold maxLen; show 0 + (n + 1) ≤ _; omega) (by show (0 + (n + 1)) * 8 ≤ _; omega) nu_ics (nu_ics (l := [0])) (fun aa ar ap hn11 am aC => ?_)
 have eR11 := ExtX.root am (MutQ.mutL ah) (Ext.refl _)
 have ad : MutQ 1 3 u.heap.size ar aa (ics (Nt.inl l)) := by have h9 := ap; exact h9
 have aA : aa.n = n + 1 := by have h9 := ad.1; rw [zwi] at h9; have h8 : (Nt.inl l).length = n + 1 := (by rw [Nt.inl_len, hll]); omega
 refine zza 5 (.v (aa.v)) (zzb (sq9 (zza 6 (zI 0) (zzb (zzd (sw_joinP (I := fun S' u' => ∃ (k : Nat), (k ≤ n) ∧ (∀ i, i < k → l.getD i 0 < a) ∧ (k < n → a ≤ l.getD k 0) ∧ (S' = St.of 29 [(1, zI a), (5, .v (aa.v)), (6, zI k)] [])) ?_ (fun ae => ?_)))))))
 ·rintro _ av af ⟨k, hk, ai, aB, rfl⟩
  refine sq9 (zza 24 (.v (aa.v)) (zza 25 (zI k) (zza 26 (zI a) ?_)))
  obtain ⟨b13, ag, az⟩ := MutQ.elI (j := k) (ad.ext af) (by rw [(show (Nt.inl l).length = n + 1 by rw [Nt.inl_len, hll])]; omega)
  refine zya 27 (0 + k * 1) (n := aa.n) (off := 0) (sz := 1) (i := (k : Int)) xq ag xq xq sl22 ?_
  have hq14 := (ad.ext af)
  refine sy_storeQ (v := .int .i64 a) (off := 0 + k * 1) (n := 1) aa hq14 (fun a9 h9 => .inl (MutQ.blkM ad a9 h9)) ag ty3 (by rw [zwi, (show (Nt.inl l).length = n + 1 by rw [Nt.inl_len, hll])]; omega) (nu_ics (l := [(a : Int)])) (fun ay aq ak => ?_)
  have al : MutQ 1 3 u.heap.size ay aa (ics ((Nt.inl l).set k (a : Int))) := by rw [← setL_icsQ (by rw [(show (Nt.inl l).length = n + 1 by rw [Nt.inl_len, hll])]; omega)]; exact aq
  have eX14r := ExtX.root ak (MutQ.mutL hq14) (eR11.trans af)
  refine zzb (sq9 (zza 28 (.v (aa.v)) (zza 4 (.v (aa.v)) (zzb (zzo (ret0 [aa.v] ⟨zzq, trivial⟩ fun u15 aw => ?_))))))
  have hh := (al.ext aw)
  rw [← Nt.inl_set] at hh
  exact ⟨aa, _, rfl, hh, Nt.swap_ok ho hR hn1 ha hc he xq ai aB⟩
 refine zzt (zyn (I := fun au S' u' => ∃ (k : Nat), (au = n - k) ∧ (k ≤ n) ∧ (∀ i, i < k → l.getD i 0 < a) ∧ (S' = St.of 29 [(1, zI a), (5, .v (aa.v)), (6, zI k)] []) ∧ (Ext ar u')) (fun m S u1 u2 e h => by obtain ⟨k, hm, p0, p1, hS, hE⟩ := h; exact ⟨k, hm, p0, p1, hS, hE.trans e⟩) _ yz ⟨0, rfl, by omega, (fun i hi => absurd hi (Nat.not_lt_zero i)), rfl, (Ext.refl _)⟩ ?_)
 rintro au _ u17 ⟨k, ax, hk, ai, rfl, aj⟩
 refine zzd (sq9 (zza 9 (zI k) (zza 10 (.v (aa.v)) (zza 11 (zI aa.n) (zyq 12 (x := zI (IntKind.i64.wrap ((aa.n : Int) - 1))) (zI (aa.n - 1 : Nat)) (eqI xk) (zza 13 (zB (decide ((k : Int) < ((aa.n - 1 : Nat) : Int)))) ?_))))))
 rcases Bool.eq_false_or_eq_true (decide ((k : Int) < ((aa.n - 1 : Nat) : Int))) with hs18 | hs18
 ·refine zyq 14 (x := zB (decide ((k : Int) < ((aa.n - 1 : Nat) : Int)))) (zB true) (by rw [hs18]) ?_
  have qhs18 := qyt hs18
  refine zza 15 (.v (aa.v)) ?_ (hw := w1 5 true 14)
  refine zza 16 (zI k) ?_ (hw := w1 5 true 14)
  obtain ⟨b19, an, ao⟩ := MutQ.elI (j := k) (ad.ext aj) (by rw [(show (Nt.inl l).length = n + 1 by rw [Nt.inl_len, hll])]; omega)
  refine zya 17 (0 + k * 1) (n := aa.n) (off := 0) (sz := 1) (i := (k : Int)) xq an xq xq sl22 ?_ (hw := w1 5 true 14)
  refine zyl 18 (.int .i64 ((Nt.inl l).getD k 0)) ao ty3 ?_ (hw := w1 5 true 14)
  refine zza 19 (zI a) ?_ (hw := w1 5 true 14)
  refine zza 20 (zB (decide (((Nt.inl l).getD k 0) < (a : Int)))) ?_ (hw := w1 5 true 14)
  refine zza 21 (zB (decide (((Nt.inl l).getD k 0) < (a : Int)))) (zzb (zzu (b := decide (((Nt.inl l).getD k 0) < (a : Int))) xj (fun ac => ?_) (fun ac => ?_)))
  ·have qhb20 := qyt ac
   refine zzs (zzp ?_)
   refine zzt (zzf (zza 22 (zI k) (zyq 23 (x := zI (IntKind.i64.wrap ((k : Int) + 1))) (zI (k + 1 : Nat)) (eqI xk) (zza 6 (zI (k + 1 : Nat)) (zzx ?_)))))
   simp only [decide_eq_true_eq] at hs18
   simp only [decide_eq_true_eq] at ac
   rw [Nt.inl_at] at ac
   refine ⟨_, ?_, _, by exact zzv _ _ _, k + 1, rfl, by omega, (fun i hi => by rcases Nat.lt_or_ge i k with h9 | h9; exact ai i h9; (obtain rfl : i = k := by omega); omega), rfl, aj⟩
   omega
  have qhb20 := qyf ac
  refine zyc (zzp ?_)
  simp only [decide_eq_true_eq] at hs18
  simp only [decide_eq_false_iff_not] at ac
  rw [Nt.inl_at] at ac
  refine sw_weak (T := St.of 29 [(1, zI a), (5, .v (aa.v)), (6, zI k)] []) yz ?_
  exact ae _ _ aj ⟨k, by omega, ai, (fun h9 => by omega), rfl⟩
 refine zyq 14 (x := zB (decide ((k : Int) < ((aa.n - 1 : Nat) : Int)))) (zB false) (by rw [hs18]) ?_
 have qhs18 := qyf hs18
 refine zzn 15 (uw 5 true false 14) (zzn 16 (uw 5 true false 14) (zzn 17 (uw 5 true false 14) (zzn 18 (uw 5 true false 14) (zzn 19 (uw 5 true false 14) (zzn 20 (uw 5 true false 14) (zza 21 (zB false) (zzb (zys xj (zyc (zzp ?_))))))))))
 simp only [decide_eq_false_iff_not] at hs18
 refine sw_weak (T := St.of 29 [(1, zI a), (5, .v (aa.v)), (6, zI k)] []) yz ?_
 exact ae _ _ aj ⟨k, by omega, ai, (fun h9 => by omega), rfl⟩
theorem k_r15put {u w : World} {y : Sl} {l : List Nat} {n a b0 o0 c0 : Nat} {x : Sl} {N : Nat} {V : List Rat} (d : Dat u w) (hg : GrN u x N V 1) (ho : Nt.GrOK V N) (hz : SlR .i64 u (some ⟨b0, o0, none⟩) (n + 1) c0 (Nt.inl l)) (hy : PolN u y (Nt.pL V l) 60000) (hR : Nt.Rf N l n) (hn1 : 1 ≤ n) (ha : a < N) (hc : Nt.absQ (Nt.eL V l) < Nt.absQ (Nt.gE (Nt.gX V) (Nt.gW V) (Nt.gY V) (Nt.pL V l) a)) (he : Nt.eL V l ≠ 0) : qyc 72 #[x.v, .slice (some ⟨b0, o0, none⟩) (n + 1) c0, y.v, .int .i64 (a : Int)] w (Post u w fun v u' => ∃ (y : Sl) (m : List Nat), v = y.v ∧ MutQ 1 3 u.heap.size u' y (ics (Nt.inl m)) ∧ Nt.Better V N n l m) := by
 have hxn : x.n = N := hg.len
 have hN12 := ho.n12
 have hN1 := ho.n1
 have hll := hR.len
 have hzc := slr_cells hz
 have hn11 := hR.n11 ho.n12
 have hc0 : n + 1 ≤ c0 := hz.2.1
 have hpl := Nt.lvl_len (V := V) hR
 refine zzm (args := [x.v, .slice (some ⟨b0, o0, none⟩) (n + 1) c0, y.v, .int .i64 a]) Tryz.func72 rfl Tryz.ntmps72 (rs := [.tmp 8]) Tryz.results72 (le_b rfl) (le_b rfl) d ?_
 refine sq9 (zza 8 (.v (qyn)) (zzb (sq9 (zza 13 (.v (x.v)) (zza 14 (zI a) ?_)))))
 have dp : x.n = N := GrN.len hg
 obtain ⟨a2, aI, bb, b11, cn, bR, aH, aA, aL, aD, aP, bp⟩ := gr_at hg (i := a) xq
 refine zya 15 (cn + a * 9) (n := x.n) (off := cn) (sz := 9) (i := (a : Int)) xq bR xq (by first | omega | (have h9 : a < N := xq; omega)) sl23 (zym 16 (a2.cs ++ aI.cs ++ bb.cs) (gr_pt aH aA aL) ty56 (zza 17 (.v (y.v)) (zzg 18 31 _ fun _ _ ao db => qym (k_r15At (r0 := a2) (r1 := aI) (r2 := bb) (T := 4000000) db (aD.ext ao) (aP.ext ao) (bp.ext ao) (hy.ext ao).raw xq xq xq xq) ?_)))
 rintro _ u15 bA ⟨r13, rfl, cI⟩
 refine zzg 19 32 _ fun _ _ bu cv => qym (k_rqSign cv (cI.ext bu).raw xq) ?_
 rintro _ c4 bB rfl
 refine zza 9 (zI (Nt.sgQ ((Nt.gW V a) * ((Nt.gY V a) - Nt.Pol.evL (Nt.pL V l) (Nt.gX V a))))) (zzb (zzd ?_))
 obtain ⟨sa, hsa⟩ : ∃ z, Nt.sgQ ((Nt.gW V a) * ((Nt.gY V a) - Nt.Pol.evL (Nt.pL V l) (Nt.gX V a))) = z := ⟨_, rfl⟩
 rw [hsa]
 refine zzf (zza 10 (zI 0) (zzb (zzd (sw_joinP (I := fun S' u' => ∃ (k : Nat), (k ≤ n + 1) ∧ (∀ i, i < k → l.getD i 0 < a) ∧ (k < n + 1 → a ≤ l.getD k 0) ∧ (S' = St.of 111 [(0, .v (x.v)), (1, .v (.slice (some ⟨b0, o0, none⟩) (n + 1) c0)), (2, .v (y.v)), (3, zI a), (9, zI sa), (10, zI k)] [])) ?_ (fun ah => ?_)))))
 ·rintro _ bW aT ⟨k, hk, al, ay, rfl⟩
  refine sq9 (zza 34 (.v (.slice (some ⟨b0, o0, none⟩) (n + 1) c0)) ?_)
  have aB : MutQ 1 3 u.heap.size bW sl0 (ics []) := (MutQ.nil _ _ _ _)
  refine sy_appQ 35 (T := 22) (E := 3) (z := .int .i64 0) (size := 1) (bytes := 8) (b2 := b0) (off := o0) (m := (n + 1)) (c := c0) sl0 (ics []) (ics (Nt.inl l)) aB xj xj xj yv (by rw [zwi, Nat.mul_one]; rw [Nt.inl_len, hll]) (ics_news (fun j hj => ((ao.t (bA.t (bu.t (bB.t aT))))).cell (hzc j hj))) ics_one xq (by unfold maxLen; show 0 + (n + 1) ≤ _; omega) (by show (0 + (n + 1)) * 8 ≤ _; omega) nu_ics (nu_ics (l := [0])) (fun aa dn bD dq bL cB => ?_)
  have eR23 := ExtX.root bL (MutQ.mutL aB) (ao.t (bA.t (bu.t (bB.t aT))))
  have ac : MutQ 1 3 u.heap.size dn aa (ics (Nt.inl l)) := by have h9 := bD; exact h9
  have c6 : aa.n = n + 1 := by have h9 := ac.1; rw [zwi] at h9; have h8 : (Nt.inl l).length = n + 1 := (by rw [Nt.inl_len, hll]); omega
  refine zza 11 (.v (aa.v)) (zzb (sq9 (zza 36 (.v (.slice (some ⟨b0, o0, none⟩) (n + 1) c0)) (zza 37 (zI (n + 1 : Nat)) (zyq 38 (x := zI (IntKind.i64.wrap (((n + 1 : Nat) : Int) - 1))) (zI (n : Nat)) (eqI xk) (zza 12 (zI (n : Nat)) (zzb (zzd (zzt (sq9 (zza 45 (zI k) ?_)))))))))))
  refine zza 46 (zB ((k : Int) == 0)) (zza 44 (zB ((k : Int) == 0)) (zzb (zzu (b := (k : Int) == 0) xj (fun ad => ?_) (fun ad => ?_))))
  ·have a8 : (k : Int) = 0 := by simpa using ad
   refine zzd ?_
   have hkk := hR.lt 0 xq
   refine zzf (zza 47 (zI sa) (zza 48 (.v (x.v)) (zza 49 (.v (.slice (some ⟨b0, o0, none⟩) (n + 1) c0)) ?_)))
   have b5 : (Nt.inl l).length = n + 1 := ((hz.ext eR23)).1
   rw [Nt.inl_len] at b5
   obtain ⟨b25, ci, bU, a4⟩ := ints_at (hz.ext eR23) (i := 0) (by have h9 : 0 < l.length := xq; omega)
   rw [Nt.inl_at] at a4
   refine zya 50 (ci + 0 * 1) (n := n + 1) (off := ci) (sz := 1) (i := 0) xq bU xq (by first | omega | (have h9 : 0 < l.length := xq; omega)) sl22 (zyl 51 (.int .i64 (((l.getD 0 0) : Nat) : Int)) a4 ty3 ?_)
   have c9 : x.n = N := GrN.len (hg.ext eR23)
   obtain ⟨aC, aN, bx, b26, cf, b3, aQ, aS, a6, bq, bs, bh⟩ := gr_at (hg.ext eR23) (i := (l.getD 0 0)) xq
   refine zya 52 (cf + (l.getD 0 0) * 9) (n := x.n) (off := cf) (sz := 9) (i := (((l.getD 0 0) : Nat) : Int)) xq b3 xq (by first | omega | (have h9 : (l.getD 0 0) < N := xq; omega)) sl23 (zym 53 (aC.cs ++ aN.cs ++ bx.cs) (gr_pt aQ aS a6) ty56 (zza 54 (.v (y.v)) (zzg 55 31 _ fun _ _ am cx => qym (k_r15At (r0 := aC) (r1 := aN) (r2 := bx) (T := 4000000) cx (bq.ext am) (bs.ext am) (bh.ext am) (hy.ext (eR23.trans am)).raw xq xq xq xq) ?_)))
   rintro _ u30 aM ⟨r28, rfl, cO⟩
   refine zzg 56 32 _ fun _ _ az dm => qym (k_rqSign dm (cO.ext az).raw xq) ?_
   rintro _ u34 bl rfl
   refine zza 57 (zB (sa == (Nt.sgQ ((Nt.gW V (l.getD 0 0)) * ((Nt.gY V (l.getD 0 0)) - Nt.Pol.evL (Nt.pL V l) (Nt.gX V (l.getD 0 0))))))) (zzb (zzu (b := sa == (Nt.sgQ ((Nt.gW V (l.getD 0 0)) * ((Nt.gY V (l.getD 0 0)) - Nt.Pol.evL (Nt.pL V l) (Nt.gX V (l.getD 0 0)))))) xj (fun aj => ?_) (fun aj => ?_)))
   ·refine zzf (zza 58 (.v (aa.v)) (zza 59 (zI a) ?_))
    obtain ⟨b38, a1, dk⟩ := MutQ.elI (j := 0) (ac.ext (am.t (aM.t (az.t bl.ext)))) (by rw [(show (Nt.inl l).length = n + 1 by rw [Nt.inl_len, hll])]; omega)
    refine zya 60 (0 + 0 * 1) (n := aa.n) (off := 0) (sz := 1) (i := 0) xq a1 xq xq sl22 ?_
    have hq39 := (ac.ext (am.t (aM.t (az.t bl.ext))))
    refine sy_storeQ (v := .int .i64 a) (off := 0 + 0 * 1) (n := 1) aa hq39 (fun a9 h9 => .inl (MutQ.blkM ac a9 h9)) a1 ty3 (by rw [zwi, (show (Nt.inl l).length = n + 1 by rw [Nt.inl_len, hll])]; omega) (nu_ics (l := [(a : Int)])) (fun cJ b1 bF => ?_)
    have b6 : MutQ 1 3 u.heap.size cJ aa (ics ((Nt.inl l).set 0 (a : Int))) := by rw [← setL_icsQ (by rw [(show (Nt.inl l).length = n + 1 by rw [Nt.inl_len, hll])]; omega)]; exact b1
    have eX39r := ExtX.root bF (MutQ.mutL hq39) (eR23.t (am.t (aM.t (az.t bl.ext))))
    refine zzx ?_
    refine zzp (sq9 (zza 110 (.v (aa.v)) (zza 8 (.v (aa.v)) (zzb (zzo (ret0 [aa.v] ⟨zzq, trivial⟩ fun u40 cP => ?_))))))
    simp only [beq_iff_eq] at ad
    simp only [beq_iff_eq] at aj
    subst hsa
    have hPH : Nt.PutH V N n l a k := ⟨ho, hR, hn1, ha, hc, he, by omega, al, ay⟩
    have hh := (b6.ext cP)
    obtain rfl : k = 0 := by omega
    rw [← Nt.inl_set] at hh
    exact ⟨aa, _, rfl, hh, Nt.put_1 hPH aj⟩
   refine zzf (zza 61 (zI a) (sy_dataF 62 ⟨3, [.int .i64 a]⟩ 1 (fun bP ch cq cC cy g42 => ?_)))
   have bn : MutQ 1 3 u.heap.size ch (⟨some ⟨bP, 0, none⟩, 1, 1⟩ : Sl) (ics [(a : Int)]) := MutQ.lit cC rfl yk cy nu_ics
   have hj42 := slr_cells (MutQ.slr bn)
   refine zza 63 (.v (.slice (some ⟨b0, o0, none⟩) (n + 1) c0)) (zza 64 (zI (n : Nat)) (sy_front 65 (n := n + 1) (c := c0) n sl22 rfl xq ?_))
   have bm : MutQ 1 3 u.heap.size ch (⟨some ⟨bP, 0, none⟩, 1, 1⟩ : Sl) (ics [(a : Int)]) := bn
   refine sy_appQ 66 (T := 22) (E := 3) (z := .int .i64 0) (size := 1) (bytes := 8) (b2 := b0) (off := o0) (m := n) (c := c0) (⟨some ⟨bP, 0, none⟩, 1, 1⟩ : Sl) (ics [(a : Int)]) (ics ((Nt.inl l).take n)) bm xj xj xj yv (by rw [zwi, Nat.mul_one]; rw [List.length_take, Nt.inl_len, hll]; omega) (ics_news (fun j hj => ((eR23.t (am.t (aM.t (az.t (bl.t cq)))))).cell (cells_take hzc j hj))) ics_one xq (by unfold maxLen; show 1 + n ≤ _; omega) (by show (1 + n) * 8 ≤ _; omega) nu_ics (nu_ics (l := [0])) (fun au cE bY dh bV dj => ?_)
   have eR43 := ExtX.root bV (MutQ.mutL bm) (eR23.t (am.t (aM.t (az.t (bl.t cq)))))
   have bt : MutQ 1 3 u.heap.size cE au (ics ([(a : Int)] ++ (Nt.inl l).take n)) := by have h9 := bY; rw [← ics_app] at h9; exact h9
   have da : au.n = n + 1 := by have h9 := bt.1; rw [zwi] at h9; have h8 : ([(a : Int)] ++ (Nt.inl l).take n).length = n + 1 := (by rw [List.length_append, List.length_take, Nt.inl_len, hll]; show 1 + min n (n + 1) = n + 1; omega); omega
   refine zza 11 (.v (au.v)) (zzx ?_)
   refine zzp (sq9 (zza 110 (.v (au.v)) (zza 8 (.v (au.v)) (zzb (zzo (ret0 [au.v] ⟨zzq, trivial⟩ fun u44 cG => ?_))))))
   simp only [beq_iff_eq] at ad
   simp only [beq_eq_false_iff_ne] at aj
   subst hsa
   have hPH : Nt.PutH V N n l a k := ⟨ho, hR, hn1, ha, hc, he, by omega, al, ay⟩
   have hh := (bt.ext cG)
   obtain rfl : k = 0 := by omega
   rw [← Nt.inl_take] at hh
   exact ⟨au, a :: l.take n, rfl, hh, Nt.put_2 hPH aj⟩
  have a8 : ¬ ((k : Int) = 0) := by simpa using ad
  refine sq9 (zza 68 (zI k) (zza 69 (zI (n : Nat)) (zza 70 (zB (decide (((n : Nat) : Int) < (k : Int)))) (zza 67 (zB (decide (((n : Nat) : Int) < (k : Int)))) (zzb (zzu (b := decide (((n : Nat) : Int) < (k : Int))) xj (fun ae => ?_) (fun ae => ?_)))))))
  ·have qhb46 := qyt ae
   refine zzd ?_
   have hkk := hR.lt n xq
   refine zzf (zza 71 (zI sa) (zza 72 (.v (x.v)) (zza 73 (.v (.slice (some ⟨b0, o0, none⟩) (n + 1) c0)) (zza 74 (zI (n : Nat)) ?_))))
   have bN : (Nt.inl l).length = n + 1 := ((hz.ext eR23)).1
   rw [Nt.inl_len] at bN
   obtain ⟨b47, ce, bS, aJ⟩ := ints_at (hz.ext eR23) (i := (n)) (by have h9 : (n) < l.length := xq; omega)
   rw [Nt.inl_at] at aJ
   refine zya 75 (ce + (n) * 1) (n := n + 1) (off := ce) (sz := 1) (i := ((n : Nat) : Int)) xq bS xq (by first | omega | (have h9 : (n) < l.length := xq; omega)) sl22 (zyl 76 (.int .i64 (((l.getD (n) 0) : Nat) : Int)) aJ ty3 ?_)
   have cH : x.n = N := GrN.len (hg.ext eR23)
   obtain ⟨aK, bd, bw, b48, cp, b9, bk, bz, bi, bv, bc, a7⟩ := gr_at (hg.ext eR23) (i := (l.getD (n) 0)) xq
   refine zya 77 (cp + (l.getD (n) 0) * 9) (n := x.n) (off := cp) (sz := 9) (i := (((l.getD (n) 0) : Nat) : Int)) xq b9 xq (by first | omega | (have h9 : (l.getD (n) 0) < N := xq; omega)) sl23 (zym 78 (aK.cs ++ bd.cs ++ bw.cs) (gr_pt bk bz bi) ty56 (zza 79 (.v (y.v)) (zzg 80 31 _ fun _ _ an cF => qym (k_r15At (r0 := aK) (r1 := bd) (r2 := bw) (T := 4000000) cF (bv.ext an) (bc.ext an) (a7.ext an) (hy.ext (eR23.trans an)).raw xq xq xq xq) ?_)))
   rintro _ u52 aG ⟨r50, rfl, c1⟩
   refine zzg 81 32 _ fun _ _ ax cS => qym (k_rqSign cS (c1.ext ax).raw xq) ?_
   rintro _ cW bo rfl
   refine zza 82 (zB (sa == (Nt.sgQ ((Nt.gW V (l.getD (n) 0)) * ((Nt.gY V (l.getD (n) 0)) - Nt.Pol.evL (Nt.pL V l) (Nt.gX V (l.getD (n) 0))))))) (zzb (zzu (b := sa == (Nt.sgQ ((Nt.gW V (l.getD (n) 0)) * ((Nt.gY V (l.getD (n) 0)) - Nt.Pol.evL (Nt.pL V l) (Nt.gX V (l.getD (n) 0)))))) xj (fun af => ?_) (fun af => ?_)))
   ·refine zzf (zza 83 (.v (aa.v)) (zza 84 (zI (n : Nat)) (zza 85 (zI a) ?_)))
    obtain ⟨b60, aE, cz⟩ := MutQ.elI (j := (n)) (ac.ext (an.t (aG.t (ax.t bo.ext)))) (by rw [(show (Nt.inl l).length = n + 1 by rw [Nt.inl_len, hll])]; omega)
    refine zya 86 (0 + (n) * 1) (n := aa.n) (off := 0) (sz := 1) (i := ((n : Nat) : Int)) xq aE xq xq sl22 ?_
    have hq61 := (ac.ext (an.t (aG.t (ax.t bo.ext))))
    refine sy_storeQ (v := .int .i64 a) (off := 0 + (n) * 1) (n := 1) aa hq61 (fun a9 h9 => .inl (MutQ.blkM ac a9 h9)) aE ty3 (by rw [zwi, (show (Nt.inl l).length = n + 1 by rw [Nt.inl_len, hll])]; omega) (nu_ics (l := [(a : Int)])) (fun cT b8 bJ => ?_)
    have cd : MutQ 1 3 u.heap.size cT aa (ics ((Nt.inl l).set (n) (a : Int))) := by rw [← setL_icsQ (by rw [(show (Nt.inl l).length = n + 1 by rw [Nt.inl_len, hll])]; omega)]; exact b8
    have eX61r := ExtX.root bJ (MutQ.mutL hq61) (eR23.t (an.t (aG.t (ax.t bo.ext))))
    refine zzx ?_
    refine zzp (sq9 (zza 110 (.v (aa.v)) (zza 8 (.v (aa.v)) (zzb (zzo (ret0 [aa.v] ⟨zzq, trivial⟩ fun u62 cD => ?_))))))
    simp only [beq_eq_false_iff_ne] at ad
    simp only [decide_eq_true_eq] at ae
    simp only [beq_iff_eq] at af
    subst hsa
    have hPH : Nt.PutH V N n l a k := ⟨ho, hR, hn1, ha, hc, he, by omega, al, ay⟩
    have hh := (cd.ext cD)
    obtain rfl : k = n + 1 := by omega
    rw [← Nt.inl_set] at hh
    exact ⟨aa, _, rfl, hh, Nt.put_3 hPH af⟩
   refine zzf (zza 87 (.v (.slice (some ⟨b0, o0, none⟩) (n + 1) c0)) (sy_tailD 88 (b := b0) (off := o0) (i := 1) (n := n + 1) (c := c0) 1 sl22 rfl xq xq xq ?_))
   have aZ : MutQ 1 3 u.heap.size cW sl0 (ics []) := (MutQ.nil _ _ _ _)
   refine sy_appQ 89 (T := 22) (E := 3) (z := .int .i64 0) (size := 1) (bytes := 8) (b2 := b0) (off := (o0 + 1 * 1)) (m := (n + 1 - 1)) (c := (c0 - 1)) sl0 (ics []) (ics ((Nt.inl l).drop 1)) aZ xj xj xj yv (by rw [zwi, Nat.mul_one]; rw [List.length_drop, Nt.inl_len, hll]) (ics_news (fun j hj => ((eR23.t (an.t (aG.t (ax.t bo.ext))))).cell (cells_drop hzc j hj))) ics_one xq (by unfold maxLen; show 0 + (n + 1 - 1) ≤ _; omega) (by show (0 + (n + 1 - 1)) * 8 ≤ _; omega) nu_ics (nu_ics (l := [0])) (fun ar df b7 de b4 c5 => ?_)
   have eR64 := ExtX.root b4 (MutQ.mutL aZ) (eR23.t (an.t (aG.t (ax.t bo.ext))))
   have bg : MutQ 1 3 u.heap.size df ar (ics ((Nt.inl l).drop 1)) := by have h9 := b7; exact h9
   have c2 : ar.n = n := by have h9 := bg.1; rw [zwi] at h9; have h8 : ((Nt.inl l).drop 1).length = n := (by exact List.length_drop.trans (congrArg (· - 1) ((Nt.inl_len _).trans hll))); omega
   refine zza 90 (zI a) (sy_dataF 91 ⟨3, [.int .i64 a]⟩ 1 (fun ck cg cr cw cQ g65 => ?_))
   have bG : MutQ 1 3 u.heap.size cg (⟨some ⟨ck, 0, none⟩, 1, 1⟩ : Sl) (ics [(a : Int)]) := MutQ.lit cw rfl yk cQ nu_ics
   have hj65 := slr_cells (MutQ.slr bG)
   have hxl : ar.n = n := by omega
   have aX : MutQ 1 3 u.heap.size cg ar (ics ((Nt.inl l).drop 1)) := (bg.ext cr)
   refine sy_appQ 92 (T := 22) (E := 3) (z := .int .i64 0) (size := 1) (bytes := 8) (b2 := ck) (off := 0) (m := 1) (c := 1) ar (ics ((Nt.inl l).drop 1)) (ics [(a : Int)]) aX xj xj xj yv (by rw [zwi, Nat.mul_one]; rfl) (ics_news (fun j hj => ((Ext.refl _)).cell (hj65 j hj))) ics_one xq (by unfold maxLen; show ar.n + 1 ≤ _; omega) (by show (ar.n + 1) * 8 ≤ _; omega) nu_ics (nu_ics (l := [0])) (fun aq cK ca c7 bK dc => ?_)
   have eR66 := ExtX.root bK (MutQ.mutL aX) (eR64.trans cr)
   have bf : MutQ 1 3 u.heap.size cK aq (ics ((Nt.inl l).drop 1 ++ [(a : Int)])) := by have h9 := ca; rw [← ics_app] at h9; exact h9
   have cY : aq.n = n + 1 := by have h9 := bf.1; rw [zwi] at h9; have h8 : ((Nt.inl l).drop 1 ++ [(a : Int)]).length = n + 1 := (by rw [List.length_append, List.length_drop, Nt.inl_len, hll]; show n + 1 - 1 + 1 = n + 1; omega); omega
   refine zza 11 (.v (aq.v)) (zzx ?_)
   refine zzp (sq9 (zza 110 (.v (aq.v)) (zza 8 (.v (aq.v)) (zzb (zzo (ret0 [aq.v] ⟨zzq, trivial⟩ fun u67 cN => ?_))))))
   simp only [beq_eq_false_iff_ne] at ad
   simp only [decide_eq_true_eq] at ae
   simp only [beq_eq_false_iff_ne] at af
   subst hsa
   have hPH : Nt.PutH V N n l a k := ⟨ho, hR, hn1, ha, hc, he, by omega, al, ay⟩
   have hh := (bf.ext cN)
   obtain rfl : k = n + 1 := by omega
   rw [← Nt.inl_drop] at hh
   exact ⟨aq, l.drop 1 ++ [a], rfl, (by rw [Nt.inl_app]; exact hh), Nt.put_4 hPH af⟩
  have qhb46 := qyf ae
  refine zzd ?_
  have hkk := hR.lt k (by have h9 := qyf ae; omega)
  refine zzf (zza 94 (zI sa) (zza 95 (.v (x.v)) (zza 96 (.v (.slice (some ⟨b0, o0, none⟩) (n + 1) c0)) (zza 97 (zI k) ?_))))
  have bM : (Nt.inl l).length = n + 1 := ((hz.ext eR23)).1
  rw [Nt.inl_len] at bM
  obtain ⟨b69, ct, bI, aR⟩ := ints_at (hz.ext eR23) (i := k) (by have h9 : k < l.length := xq; omega)
  rw [Nt.inl_at] at aR
  refine zya 98 (ct + k * 1) (n := n + 1) (off := ct) (sz := 1) (i := (k : Int)) xq bI xq (by first | omega | (have h9 : k < l.length := xq; omega)) sl22 (zyl 99 (.int .i64 (((l.getD k 0) : Nat) : Int)) aR ty3 ?_)
  have cZ : x.n = N := GrN.len (hg.ext eR23)
  obtain ⟨aU, a0, bj, b70, cm, bQ, a5, aO, a3, aW, aV, aF⟩ := gr_at (hg.ext eR23) (i := (l.getD k 0)) xq
  refine zya 100 (cm + (l.getD k 0) * 9) (n := x.n) (off := cm) (sz := 9) (i := (((l.getD k 0) : Nat) : Int)) xq bQ xq (by first | omega | (have h9 : (l.getD k 0) < N := xq; omega)) sl23 (zym 101 (aU.cs ++ a0.cs ++ bj.cs) (gr_pt a5 aO a3) ty56 (zza 102 (.v (y.v)) (zzg 103 31 _ fun _ _ ak c3 => qym (k_r15At (r0 := aU) (r1 := a0) (r2 := bj) (T := 4000000) c3 (aW.ext ak) (aV.ext ak) (aF.ext ak) (hy.ext (eR23.trans ak)).raw xq xq xq xq) ?_)))
  rintro _ u74 aw ⟨r72, rfl, di⟩
  refine zzg 104 32 _ fun _ _ ap cu => qym (k_rqSign cu (di.ext ap).raw xq) ?_
  rintro _ u78 av rfl
  refine zza 105 (zB (sa == (Nt.sgQ ((Nt.gW V (l.getD k 0)) * ((Nt.gY V (l.getD k 0)) - Nt.Pol.evL (Nt.pL V l) (Nt.gX V (l.getD k 0))))))) (zza 93 (zB (sa == (Nt.sgQ ((Nt.gW V (l.getD k 0)) * ((Nt.gY V (l.getD k 0)) - Nt.Pol.evL (Nt.pL V l) (Nt.gX V (l.getD k 0))))))) (zzb (zzu (b := sa == (Nt.sgQ ((Nt.gW V (l.getD k 0)) * ((Nt.gY V (l.getD k 0)) - Nt.Pol.evL (Nt.pL V l) (Nt.gX V (l.getD k 0)))))) xj (fun ag => ?_) (fun ag => ?_))))
  ·refine zzf (zza 106 (.v (aa.v)) (zza 107 (zI k) (zza 108 (zI a) ?_)))
   obtain ⟨b82, be, cR⟩ := MutQ.elI (j := k) (ac.ext (ak.t (aw.t (ap.t av.ext)))) (by rw [(show (Nt.inl l).length = n + 1 by rw [Nt.inl_len, hll])]; omega)
   refine zya 109 (0 + k * 1) (n := aa.n) (off := 0) (sz := 1) (i := (k : Int)) xq be xq xq sl22 ?_
   have hq83 := (ac.ext (ak.t (aw.t (ap.t av.ext))))
   refine sy_storeQ (v := .int .i64 a) (off := 0 + k * 1) (n := 1) aa hq83 (fun a9 h9 => .inl (MutQ.blkM ac a9 h9)) be ty3 (by rw [zwi, (show (Nt.inl l).length = n + 1 by rw [Nt.inl_len, hll])]; omega) (nu_ics (l := [(a : Int)])) (fun c8 cb bT => ?_)
   have cc : MutQ 1 3 u.heap.size c8 aa (ics ((Nt.inl l).set k (a : Int))) := by rw [← setL_icsQ (by rw [(show (Nt.inl l).length = n + 1 by rw [Nt.inl_len, hll])]; omega)]; exact cb
   have eX83r := ExtX.root bT (MutQ.mutL hq83) (eR23.t (ak.t (aw.t (ap.t av.ext))))
   refine zzx ?_
   refine zzp (sq9 (zza 110 (.v (aa.v)) (zza 8 (.v (aa.v)) (zzb (zzo (ret0 [aa.v] ⟨zzq, trivial⟩ fun u84 cU => ?_))))))
   simp only [beq_eq_false_iff_ne] at ad
   simp only [decide_eq_false_iff_not] at ae
   simp only [beq_iff_eq] at ag
   subst hsa
   have hPH : Nt.PutH V N n l a k := ⟨ho, hR, hn1, ha, hc, he, by omega, al, ay⟩
   have hh := (cc.ext cU)
   rw [← Nt.inl_set] at hh
   exact ⟨aa, _, rfl, hh, Nt.put_5 hPH xq xq ag⟩
  refine zzf (zza 39 (.v (aa.v)) (zza 40 (zI k) (zyq 41 (x := zI (IntKind.i64.wrap ((k : Int) - 1))) (zI (k - 1 : Nat)) (eqI xk) (zza 42 (zI a) ?_))))
  obtain ⟨b86, br, cM⟩ := MutQ.elI (j := (k - 1)) (ac.ext (ak.t (aw.t (ap.t av.ext)))) (by rw [(show (Nt.inl l).length = n + 1 by rw [Nt.inl_len, hll])]; omega)
  refine zya 43 (0 + (k - 1) * 1) (n := aa.n) (off := 0) (sz := 1) (i := ((k - 1 : Nat) : Int)) xq br xq xq sl22 ?_
  have hq87 := (ac.ext (ak.t (aw.t (ap.t av.ext))))
  refine sy_storeQ (v := .int .i64 a) (off := 0 + (k - 1) * 1) (n := 1) aa hq87 (fun a9 h9 => .inl (MutQ.blkM ac a9 h9)) br ty3 (by rw [zwi, (show (Nt.inl l).length = n + 1 by rw [Nt.inl_len, hll])]; omega) (nu_ics (l := [(a : Int)])) (fun cV bO bC => ?_)
  have bH : MutQ 1 3 u.heap.size cV aa (ics ((Nt.inl l).set (k - 1) (a : Int))) := by rw [← setL_icsQ (by rw [(show (Nt.inl l).length = n + 1 by rw [Nt.inl_len, hll])]; omega)]; exact bO
  have eX87r := ExtX.root bC (MutQ.mutL hq87) (eR23.t (ak.t (aw.t (ap.t av.ext))))
  refine zzx ?_
  refine zzp (sq9 (zza 110 (.v (aa.v)) (zza 8 (.v (aa.v)) (zzb (zzo (ret0 [aa.v] ⟨zzq, trivial⟩ fun u88 cX => ?_))))))
  simp only [beq_eq_false_iff_ne] at ad
  simp only [decide_eq_false_iff_not] at ae
  simp only [beq_eq_false_iff_ne] at ag
  subst hsa
  have hPH : Nt.PutH V N n l a k := ⟨ho, hR, hn1, ha, hc, he, by omega, al, ay⟩
  have hh := (bH.ext cX)
  rw [← Nt.inl_set] at hh
  exact ⟨aa, _, rfl, hh, Nt.put_6 hPH xq xq ag⟩
 refine zzt (zyn (I := fun cl S' u' => ∃ (k : Nat), (cl = n + 1 - k) ∧ (k ≤ n + 1) ∧ (∀ i, i < k → l.getD i 0 < a) ∧ (S' = St.of 111 [(0, .v (x.v)), (1, .v (.slice (some ⟨b0, o0, none⟩) (n + 1) c0)), (2, .v (y.v)), (3, zI a), (9, zI sa), (10, zI k)] []) ∧ (Ext c4 u')) (fun m S u1 u2 e h => by obtain ⟨k, hm, p0, p1, hS, hE⟩ := h; exact ⟨k, hm, p0, p1, hS, hE.trans e⟩) _ yz ⟨0, rfl, by omega, (fun i hi => absurd hi (Nat.not_lt_zero i)), rfl, (Ext.refl _)⟩ ?_)
 rintro cl _ u90 ⟨k, cA, hk, al, rfl, ba⟩
 refine zzd (sq9 (zza 20 (zI k) (zza 21 (.v (.slice (some ⟨b0, o0, none⟩) (n + 1) c0)) (zza 22 (zI (n + 1 : Nat)) (zza 23 (zB (decide ((k : Int) < ((n + 1 : Nat) : Int)))) ?_)))))
 rcases Bool.eq_false_or_eq_true (decide ((k : Int) < ((n + 1 : Nat) : Int))) with hs91 | hs91
 ·refine zyq 24 (x := zB (decide ((k : Int) < ((n + 1 : Nat) : Int)))) (zB true) (by rw [hs91]) ?_
  have qhs91 := qyt hs91
  refine zza 25 (.v (.slice (some ⟨b0, o0, none⟩) (n + 1) c0)) ?_ (hw := w1 4 true 24)
  refine zza 26 (zI k) ?_ (hw := w1 4 true 24)
  have bX : (Nt.inl l).length = n + 1 := ((hz.ext (ao.t (bA.t (bu.t (bB.t ba)))))).1
  rw [Nt.inl_len] at bX
  obtain ⟨b92, cj, bE, aY⟩ := ints_at (hz.ext (ao.t (bA.t (bu.t (bB.t ba))))) (i := k) (by have h9 : k < l.length := xq; omega)
  rw [Nt.inl_at] at aY
  refine zya 27 (cj + k * 1) (n := n + 1) (off := cj) (sz := 1) (i := (k : Int)) xq bE xq (by first | omega | (have h9 : k < l.length := xq; omega)) sl22 ?_ (hw := w1 4 true 24)
  refine zyl 28 (.int .i64 (((l.getD k 0) : Nat) : Int)) aY ty3 ?_ (hw := w1 4 true 24)
  refine zza 29 (zI a) ?_ (hw := w1 4 true 24)
  refine zza 30 (zB (decide ((((l.getD k 0) : Nat) : Int) < (a : Int)))) ?_ (hw := w1 4 true 24)
  refine zza 31 (zB (decide ((((l.getD k 0) : Nat) : Int) < (a : Int)))) (zzb (zzu (b := decide ((((l.getD k 0) : Nat) : Int) < (a : Int))) xj (fun ai => ?_) (fun ai => ?_)))
  ·have qhb93 := qyt ai
   refine zzs (zzp ?_)
   refine zzt (zzf (zza 32 (zI k) (zyq 33 (x := zI (IntKind.i64.wrap ((k : Int) + 1))) (zI (k + 1 : Nat)) (eqI xk) (zza 10 (zI (k + 1 : Nat)) (zzx ?_)))))
   simp only [decide_eq_true_eq] at hs91
   simp only [decide_eq_true_eq] at ai
   refine ⟨_, ?_, _, by exact zzv _ _ _, k + 1, rfl, by omega, (fun i hi => by rcases Nat.lt_or_ge i k with h9 | h9; exact al i h9; (obtain rfl : i = k := by omega); omega), rfl, ba⟩
   omega
  have qhb93 := qyf ai
  refine zyc (zzp ?_)
  simp only [decide_eq_true_eq] at hs91
  simp only [decide_eq_false_iff_not] at ai
  refine sw_weak (T := St.of 111 [(0, .v (x.v)), (1, .v (.slice (some ⟨b0, o0, none⟩) (n + 1) c0)), (2, .v (y.v)), (3, zI a), (9, zI sa), (10, zI k)] []) yz ?_
  exact ah _ _ ba ⟨k, by omega, al, (fun h9 => by omega), rfl⟩
 refine zyq 24 (x := zB (decide ((k : Int) < ((n + 1 : Nat) : Int)))) (zB false) (by rw [hs91]) ?_
 have qhs91 := qyf hs91
 refine zzn 25 (uw 4 true false 24) (zzn 26 (uw 4 true false 24) (zzn 27 (uw 4 true false 24) (zzn 28 (uw 4 true false 24) (zzn 29 (uw 4 true false 24) (zzn 30 (uw 4 true false 24) (zza 31 (zB false) (zzb (zys xj (zyc (zzp ?_))))))))))
 simp only [decide_eq_false_iff_not] at hs91
 refine sw_weak (T := St.of 111 [(0, .v (x.v)), (1, .v (.slice (some ⟨b0, o0, none⟩) (n + 1) c0)), (2, .v (y.v)), (3, zI a), (9, zI sa), (10, zI k)] []) yz ?_
 exact ah _ _ ba ⟨k, by omega, al, (fun h9 => by omega), rfl⟩
theorem k_r15putS {u w : World} {lo N n a : Nat} {V : List Rat} {z : Sl} {l : List Nat} {x y : Sl} (d : Dat u w) (hg : GrN u x N V 1) (ho : Nt.GrOK V N) (hz : MutQ 1 3 lo u z (ics (Nt.inl l))) (hy : PolN u y (Nt.pL V l) 60000) (hR : Nt.Rf N l n) (hn1 : 1 ≤ n) (ha : a < N) (hc : Nt.absQ (Nt.eL V l) < Nt.absQ (Nt.gE (Nt.gX V) (Nt.gW V) (Nt.gY V) (Nt.pL V l) a)) (he : Nt.eL V l ≠ 0) : qyc 72 #[x.v, z.v, y.v, .int .i64 (a : Int)] w (Post u w fun v u' => ∃ (y : Sl) (m : List Nat), v = y.v ∧ MutQ 1 3 u.heap.size u' y (ics (Nt.inl m)) ∧ Nt.Better V N n l m) := by
 obtain ⟨b, c, e, _⟩ := ints_some hz (by rw [Nt.inl_len, hR.len]; omega)
 rw [Nt.inl_len, hR.len] at e
 subst e
 exact k_r15put d hg ho (MutQ.slr hz) hy hR hn1 ha hc he
theorem k_r15swapS {u w : World} {lo N n a : Nat} {V : List Rat} {z : Sl} {l : List Nat} (d : Dat u w) (ho : Nt.GrOK V N) (hz : MutQ 1 3 lo u z (ics (Nt.inl l))) (hR : Nt.Rf N l n) (hn1 : 1 ≤ n) (ha : a < N) (hc : Nt.absQ (Nt.eL V l) < Nt.absQ (Nt.gE (Nt.gX V) (Nt.gW V) (Nt.gY V) (Nt.pL V l) a)) (he : Nt.eL V l = 0) : qyc 71 #[z.v, .int .i64 (a : Int)] w (Post u w fun v u' => ∃ (y : Sl) (m : List Nat), v = y.v ∧ MutQ 1 3 u.heap.size u' y (ics (Nt.inl m)) ∧ Nt.Better V N n l m) := by
 obtain ⟨b, c, e, _⟩ := ints_some hz (by rw [Nt.inl_len, hR.len]; omega)
 rw [Nt.inl_len, hR.len] at e
 subst e
 exact k_r15swap d ho (MutQ.slr hz) hR hn1 ha hc he
namespace Nt
section
variable {V : List Rat} {N n a : Nat} {l : List Nat} {f : Nat → Nat}
theorem end_ne (g : GrOK V N) (hR : Rf N l n) (h1 : 1 ≤ n) (hG : Gst (erL V (pL V l) N) N a) (hc : ¬ absQ (gE (gX V) (gW V) (gY V) (pL V l) a) = absQ (eL V l)) : absQ (eL V l) < absQ (gE (gX V) (gW V) (gY V) (pL V l) a) := by
 refine Decidable.byContradiction fun h => hc ?_
 exact (design_end g hR h1 hG h).2
theorem first_take {k m : Nat} (h : k < m) : ((List.range m).map f).take (k + 1) = ((List.range m).map f).take k ++ [f k] := by
 rw [List.take_succ_eq_append_getElem (by simp; exact h)]
 simp
end
end Nt
theorem k_r15Design {u w : World} {D : Nat} {x : Sl} {N : Nat} {V : List Rat} (d : Dat u w) (hg : GrN u x N V 1) (ho : Nt.GrOK V N) (hD : D + 2 ≤ N) (hD6 : D ≤ 6) : qyc 14 #[x.v, .int .i64 (D : Int)] w (Post u w fun v u' => ∃ (y : Sl) (r : RL) (z : Sl) (l : List Nat), v = .tuple #[.agg #[.slice y.a y.n y.c, .bool r.s, .slice r.m.a r.m.n r.m.c, .slice r.d.a r.d.n r.d.c, .slice z.a z.n z.c], .int .i64 0] ∧ PolN u' y (Nt.pL V l) 60000 ∧ RatN u' r (Nt.absQ (Nt.eL V l)) 4000000 ∧ MutQ 1 3 u.heap.size u' z (ics (Nt.inl l)) ∧ Nt.Bst (Nt.gX V) (Nt.gW V) (Nt.gY V) N (D + 1) (Nt.pL V l) l) := by
 have hxn : x.n = N := hg.len
 have hN12 := ho.n12
 have hN1 := ho.n1
 refine zzm (args := [x.v, .int .i64 D]) Tryz.func14 rfl Tryz.ntmps14 (rs := [.cell 4 34, .tmp 5]) Tryz.results14 (le_b rfl) (le_b rfl) d ?_
 refine sq9 (zzk 4 ⟨34, [qyn, .bool false, qyn, qyn, qyn]⟩ (zza 5 (zI 0) (zzb (zzd (zzt (sq9 (zza 15 (.v (x.v)) (zzg 16 69 _ fun _ _ aU bf => qym (k_r14Valid bf (hg.ext aU) ho) ?_))))))))
 rintro _ u12 bg rfl
 refine zza 17 (zB false) (zza 14 (zB false) (zzb (zys xj (sq9 (zza 20 (zI D) (zza 21 (zB (decide ((D : Int) < 0))) (zyq 22 (x := zB (decide ((D : Int) < 0))) (zB false) (by rw [show (decide ((D : Int) < 0)) = false from decide_eq_false xq]) (zza 23 (zI D) ?_ (hw := w1 2 false 22)))))))))
 refine zza 24 (zB (decide ((50 : Int) < (D : Int)))) ?_ (hw := w1 2 false 22)
 refine zza 25 (zB (decide ((50 : Int) < (D : Int)))) (zza 19 (zB (decide ((50 : Int) < (D : Int)))) (zzb (zzu (b := decide ((50 : Int) < (D : Int))) xj (fun hb => ?_) (fun hb => ?_))))
 ·exact absurd hb (by rw [show (decide ((50 : Int) < (D : Int))) = false from decide_eq_false xq]; decide)
 clear hb
 refine sq9 (zza 28 (.v (x.v)) (zza 29 (zI x.n) (zza 30 (zI D) (zyq 31 (x := zI (IntKind.i64.wrap ((D : Int) + 2))) (zI (D + 2 : Nat)) (eqI xk) (zza 32 (zB (decide ((x.n : Int) < ((D + 2 : Nat) : Int)))) (zza 27 (zB (decide ((x.n : Int) < ((D + 2 : Nat) : Int)))) (zzb (zzu (b := decide ((x.n : Int) < ((D + 2 : Nat) : Int))) xj (fun hb => ?_) (fun hb => ?_)))))))))
 ·exact absurd hb (by rw [show (decide ((x.n : Int) < ((D + 2 : Nat) : Int))) = false from decide_eq_false xq]; decide)
 clear hb
 refine zzs (zzp ?_)
 refine sq9 (zza 6 (.v (qyn)) (zzb (zzd (sq9 (zza 7 (zI 0) (zzb (zzt (zyn (I := fun aR S' u' => ∃ (i : Nat) (y6 : Sl), (aR = D + 2 - i) ∧ (i ≤ D + 2) ∧ (S' = St.of 85 [(0, .v (x.v)), (1, zI D), (4, .adr 4 0), (6, .v (y6.v)), (7, zI i)] [(4, ⟨34, [qyn, .bool false, qyn, qyn, qyn]⟩)]) ∧ (Ext u u') ∧ (MutQ 1 3 u.heap.size u' y6 (ics (Nt.inl (((List.range (D + 1 + 1)).map fun i => i * (N - 1) / (D + 1)).take i))))) (fun m S u1 u2 e h => by obtain ⟨i, y6, hm, p0, hS, hE, f0⟩ := h; exact ⟨i, y6, hm, p0, hS, hE.trans e, f0.ext e⟩) _ yz ⟨0, sl0, rfl, by omega, rfl, (aU.t bg.ext), (by rw [List.take_zero]; exact MutQ.nil _ _ _ _)⟩ ?_))))))))
 rintro aR _ u16 ⟨i, y6, a1, hi, rfl, aS, f0⟩
 have aF : y6.n = i := by have h9 := f0.1; rw [zwi, Nt.inl_len, List.length_take, List.length_map, List.length_range] at h9; omega
 refine zzd (sq9 (zza 34 (zI i) (zza 35 (zI D) (zyq 36 (x := zI (IntKind.i64.wrap ((D : Int) + 2))) (zI (D + 2 : Nat)) (eqI xk) (zza 37 (zB (decide ((i : Int) < ((D + 2 : Nat) : Int)))) (zzb (zzu (b := decide ((i : Int) < ((D + 2 : Nat) : Int))) xj (fun aq => ?_) (fun aq => ?_))))))))
 ·have qhb17 := qyt aq
  refine zzs (zzp ?_)
  refine zzd (zzt (zzf (zza 40 (.v (y6.v)) (zza 41 (zI i) (zza 42 (.v (x.v)) (zza 43 (zI x.n) (zyq 44 (x := zI (IntKind.i64.wrap ((x.n : Int) - 1))) (zI (N - 1 : Nat)) (eqI xk) ?_)))))))
  obtain ⟨pz, hpz⟩ : ∃ m : Nat, i * (N - 1) = m := ⟨_, rfl⟩
  have hbpz : pz ≤ 144 := by rw [← hpz]; exact Nat.le_trans (Nat.mul_le_mul (show i ≤ 12 by omega) (show (N - 1) ≤ 12 by omega)) yv
  have hepz : ((i : Nat) : Int) * (((N - 1) : Nat) : Int) = (pz : Int) := by rw [← hpz, Int.natCast_mul]
  refine zyq 45 (x := zI (IntKind.i64.wrap (((i : Nat) : Int) * (((N - 1) : Nat) : Int)))) (zI pz) (eqI (by rw [hepz, IntWalk.i64_in _ xq])) (zza 46 (zI D) (zyq 47 (x := zI (IntKind.i64.wrap ((D : Int) + 1))) (zI (D + 1 : Nat)) (eqI xk) ?_))
  obtain ⟨qz, hqz⟩ : ∃ q : Nat, pz / (D + 1) = q := ⟨_, rfl⟩
  have hqb : qz ≤ pz := by rw [← hqz]; exact Nat.div_le_self _ _
  refine sy_quo 48 (n := (pz : Int)) (m := ((D + 1 : Nat) : Int)) ((qz : Nat) : Int) xq (by rw [show ((pz : Nat) : Int).tdiv ((D + 1 : Nat) : Int) = ((pz / (D + 1) : Nat) : Int) from rfl, hqz]; exact IntWalk.i64_in _ xq) ?_
  refine sy_dataF 49 ⟨3, [.int .i64 qz]⟩ 1 (fun aP aQ aV aW a0 g18 => ?_)
  have aK : MutQ 1 3 u.heap.size aQ (⟨some ⟨aP, 0, none⟩, 1, 1⟩ : Sl) (ics [(qz : Int)]) := MutQ.lit aW rfl yk a0 nu_ics
  have hj18 := slr_cells (MutQ.slr aK)
  have hxl := aF
  have ay : MutQ 1 3 u.heap.size aQ y6 (ics (Nt.inl (((List.range (D + 1 + 1)).map fun i => i * (N - 1) / (D + 1)).take i))) := (f0.ext aV)
  refine sy_appQ 50 (T := 22) (E := 3) (z := .int .i64 0) (size := 1) (bytes := 8) (b2 := aP) (off := 0) (m := 1) (c := 1) y6 (ics (Nt.inl (((List.range (D + 1 + 1)).map fun i => i * (N - 1) / (D + 1)).take i))) (ics [(qz : Int)]) ay xj xj xj yv (by rw [zwi, Nat.mul_one]; rfl) (ics_news (fun j hj => ((Ext.refl _)).cell (hj18 j hj))) ics_one xq (by unfold maxLen; show y6.n + 1 ≤ _; omega) (by show (y6.n + 1) * 8 ≤ _; omega) nu_ics (nu_ics (l := [0])) (fun aH a9 aO a4 aL be => ?_)
  have eR19 := ExtX.root aL (MutQ.mutL ay) (aS.trans aV)
  have aD : MutQ 1 3 u.heap.size a9 aH (ics (Nt.inl (((List.range (D + 1 + 1)).map fun i => i * (N - 1) / (D + 1)).take i) ++ [(qz : Int)])) := by have h9 := aO; rw [← ics_app] at h9; exact h9
  have aZ : aH.n = i + 1 := by have h9 := aD.1; rw [zwi] at h9; have h8 : (Nt.inl (((List.range (D + 1 + 1)).map fun i => i * (N - 1) / (D + 1)).take i) ++ [(qz : Int)]).length = i + 1 := (by rw [List.length_append, Nt.inl_len, List.length_take, List.length_map, List.length_range]; show min i (D + 1 + 1) + 1 = i + 1; omega); omega
  refine zza 6 (.v (aH.v)) (zzx ?_)
  refine zzp (zzf (zza 38 (zI i) (zyq 39 (x := zI (IntKind.i64.wrap ((i : Int) + 1))) (zI (i + 1 : Nat)) (eqI xk) (zza 7 (zI (i + 1 : Nat)) (zzx ?_)))))
  refine ⟨_, ?_, _, by exact zzv _ _ _, i + 1, aH, rfl, by omega, rfl, eR19, (by rw [Nt.first_take xq, Nt.inl_app]; have h9 := aD; rw [← hqz, ← hpz] at h9; exact h9)⟩
  omega
 have qhb17 := qyf aq
 refine zyc (zzp (zzt (zyn (I := fun aT S' u' => ∃ (y7 : Sl) (l : List Nat), (aT = Nt.exN V N (D + 1) l) ∧ (Nt.Rf N l (D + 1)) ∧ (S' = St.of 85 [(0, .v (x.v)), (4, .adr 4 0), (6, .v (y7.v))] [(4, ⟨34, [qyn, .bool false, qyn, qyn, qyn]⟩)]) ∧ (Ext u u') ∧ (MutQ 1 3 u.heap.size u' y7 (ics (Nt.inl l)))) (fun m S u1 u2 e h => by obtain ⟨y7, l, hm, p0, hS, hE, f0⟩ := h; exact ⟨y7, l, hm, p0, hS, hE.trans e, f0.ext e⟩) _ yz ⟨y6, ((List.range (D + 1 + 1)).map fun i => i * (N - 1) / (D + 1)), rfl, (Nt.first_Rf (n := D + 1) xq xq), rfl, aS, (by have h9 := f0; rw [List.take_of_length_le yy] at h9; exact h9)⟩ ?_)))
 rintro aT _ u20 ⟨y7, l, a7, hR, rfl, au, hm⟩
 have hpl9 := Nt.lvl_len (V := V) hR
 refine zzt (sq9 (zza 52 (.v (x.v)) (zza 53 (.v (y7.v)) (zzg 54 36 _ fun _ _ aj bc => qym (k_r15Level (z := y7) (n := (D + 1)) bc (hg.ext (au.trans aj)) ho (MutQ.slr (hm.ext aj)) hR xq xq) ?_))))
 rintro _ u23 ao ⟨ai, aw, rfl, am, aE⟩
 have hly22 := am.len
 have hlly22 := Nt.lvl_len (V := V) hR
 refine zza 51 (.v (.tuple #[ai.v, aw.v, .int .i64 0])) (zza 55 (.v (ai.v)) (zza 56 (.v (aw.v)) (zza 57 (zI 0) (zzk 9 ⟨32, zw3⟩ (zza 8 (.v (ai.v)) (zzj ⟨32, aw.cs⟩ ty32 ?_))))))
 refine zza 10 (zI 0) (zzc 85 [(0, .v (x.v)), (4, .adr 4 0), (6, .v (y7.v)), (8, .v (ai.v)), (9, .adr 9 0)] [(4, ⟨34, [qyn, .bool false, qyn, qyn, qyn]⟩), (9, ⟨32, aw.cs⟩)] (sq9 (zza 59 (.v (x.v)) (zza 60 (.v (ai.v)) (zzg 61 35 _ fun _ _ ad ba => qym (k_r15Error (T := 4000000) ba (hg.ext (au.t (aj.t (ao.t ad)))) ho (am.ext ad).raw xq xq xq xq) ?_)))))
 rintro _ u28 ag ⟨ae, ar, rfl, aA, al⟩
 have hgl27 := Nt.Gst.lt al
 refine zza 58 (.v (.tuple #[ae.v, .int .i64 ar, .int .i64 0])) (zza 62 (.v (ae.v)) (zza 63 (zI ar) (zza 64 (zI 0) (zzk 11 ⟨32, zw3⟩ (zzj ⟨32, ae.cs⟩ ty32 ?_)))))
 refine zza 12 (zI ar) (zza 13 (zI 0) (zzb (zzd (zzd (zzz [0, 0, 2, 7, 15] [(0, []), (1, []), (2, []), (3, []), (4, [])] xj xj (zzi 65 (.v (ae.v)) ty32 zze (zzi 66 (.v (aw.v)) ty32 zze (zzg 67 27 _ fun _ _ aa aY => qym (k_rqAbs aY (aE.ext (ad.t (ag.t aa))).raw xq) ?_))))))))
 rintro _ u34 af ⟨r32, rfl, a3⟩
 refine zzg 68 70 _ fun _ _ ac a5 => qym (k_rqCompare a5 (aA.ext (aa.t (af.t ac))).raw (a3.ext ac).raw xq xq) ?_
 rintro _ u38 ah rfl
 refine zza 69 (zB ((Nt.cmpQ (Nt.absQ (Nt.gE (Nt.gX V) (Nt.gW V) (Nt.gY V) (Nt.pL V l) ar)) (Nt.absQ (Nt.eL V l))) == 0)) (zzb (zzu (b := (Nt.cmpQ (Nt.absQ (Nt.gE (Nt.gX V) (Nt.gW V) (Nt.gY V) (Nt.pL V l) ar)) (Nt.absQ (Nt.eL V l))) == 0) xj (fun ak => ?_) (fun ak => ?_)))
 ·refine sq9 (zza 70 (.v (ai.v)) (zzi 71 (.v (ae.v)) ty32 zze (zza 72 (.v (y7.v)) (zza 73 (.v (.agg #[ai.v, .bool ae.s, ae.m.v, ae.d.v, y7.v])) (zzj ⟨34, [ai.v] ++ ae.cs ++ [y7.v]⟩ ty34 ?_)))))
  refine zza 5 (zI 0) (zzb (zzo (zzw (zyu (zyt (zyu (ret0 [.agg #[ai.v, .bool ae.s, ae.m.v, ae.d.v, y7.v], .int .i64 0] ⟨zzr ty34 zze, zzq, trivial⟩ fun u42 aM => ?_)))))))
  have hq9 := ak
  rw [Nt.cmpQ_eq] at hq9
  have hq8 := qyt hq9
  have hde := Nt.design_end ho hR xq al (by rw [hq8]; exact Rat.lt_irrefl)
  have h8 := (aA.ext (aa.t (af.t (ac.t (ah.t aM)))))
  rw [hde.2] at h8
  exact ⟨ai, ae, y7, l, rfl, (am.ext (ad.t (ag.t (aa.t (af.t (ac.t (ah.t aM))))))), RatN.more (K := 4000000) h8 xq, (hm.ext (aj.t (ao.t (ad.t (ag.t (aa.t (af.t (ac.t (ah.t aM))))))))), hde.1⟩
 refine zzs (zzp ?_)
 refine zzd (sq9 (zzi 74 (.v (aw.v)) ty32 zze (zzg 75 32 _ fun _ _ an bb => qym (k_rqSign bb (aE.ext (ad.t (ag.t (aa.t (af.t (ac.t (ah.t an))))))).raw xq) ?_)))
 rintro _ u45 ap rfl
 refine zza 76 (zB ((Nt.sgQ (Nt.eL V l)) == 0)) (zzb (zzu (b := (Nt.sgQ (Nt.eL V l)) == 0) xj (fun av => ?_) (fun av => ?_)))
 ·refine sq9 (zza 77 (.v (y7.v)) (zza 78 (zI ar) (zzg 79 71 _ fun _ _ aN a2 => qym (k_r15swapS (V := V) (N := N) (n := D + 1) a2 ho (hm.ext (aj.t (ao.t (ad.t (ag.t (aa.t (af.t (ac.t (ah.t (an.t (ap.t aN))))))))))) hR xq xq (Nt.end_ne ho hR xq al (by have h9 := ak; rw [Nt.cmpQ_eq] at h9; have h8 := qyf h9; exact h8)) (by have h9 := av; rw [Nt.sgQ_eq] at h9; exact qyt h9)) ?_)))
  rintro _ u51 a8 ⟨az, aX, rfl, aI, aC⟩
  refine zza 6 (.v (az.v)) (zzb (zyc ?_))
  have hB2 := aC.2
  refine ⟨_, ?_, _, by exact zzv _ _ _, az, aX, rfl, aC.1, rfl, (au.t (aj.t (ao.t (ad.t (ag.t (aa.t (af.t (ac.t (ah.t (an.t (ap.t (aN.t a8.ext)))))))))))), (MutQ.low aI (Ext.size (au.t (aj.t (ao.t (ad.t (ag.t (aa.t (af.t (ac.t (ah.t (an.t (ap.t aN)))))))))))))⟩
  omega
 refine zzs (zzp ?_)
 refine zzf (zza 80 (.v (x.v)) (zza 81 (.v (y7.v)) (zza 82 (.v (ai.v)) (zza 83 (zI ar) (zzg 84 72 _ fun _ _ ax a6 => qym (k_r15putS (n := D + 1) a6 (hg.ext (au.t (aj.t (ao.t (ad.t (ag.t (aa.t (af.t (ac.t (ah.t (an.t (ap.t ax)))))))))))) ho (hm.ext (aj.t (ao.t (ad.t (ag.t (aa.t (af.t (ac.t (ah.t (an.t (ap.t ax))))))))))) (am.ext (ad.t (ag.t (aa.t (af.t (ac.t (ah.t (an.t (ap.t ax))))))))) hR xq xq (Nt.end_ne ho hR xq al (by have h9 := ak; rw [Nt.cmpQ_eq] at h9; have h8 := qyf h9; exact h8)) (by have h9 := av; rw [Nt.sgQ_eq] at h9; exact qyf h9)) ?_)))))
 rintro _ u56 bd ⟨aG, bh, rfl, aJ, aB⟩
 refine zza 6 (.v (aG.v)) (zzx ?_)
 have hB2 := aB.2
 refine ⟨_, ?_, _, by exact zzv _ _ _, aG, bh, rfl, aB.1, rfl, (au.t (aj.t (ao.t (ad.t (ag.t (aa.t (af.t (ac.t (ah.t (an.t (ap.t (ax.t bd.ext)))))))))))), (MutQ.low aJ (Ext.size (au.t (aj.t (ao.t (ad.t (ag.t (aa.t (af.t (ac.t (ah.t (an.t (ap.t ax)))))))))))))⟩
 omega
namespace Nt
theorem bst_pL {V : List Rat} {N n : Nat} {l m : List Nat} (g : GrOK V N) (h : Bst (gX V) (gW V) (gY V) N n (pL V l) l) (k : Bst (gX V) (gW V) (gY V) N n (pL V m) m) (h1 : 1 ≤ n) : pL V l = pL V m := by
 rw [← pL_trim h.rf h1, ← pL_trim k.rf h1]
 exact trim_ext (h.same k g.gr).2
theorem d_cases {N i : Nat} {m : Int} (hi : i < 3) (h0 : 0 ≤ m) (h4 : m ≤ 4) : (∃ D : Nat, ([m, -1, 51] : List Int).getD i 0 = (D : Int) ∧ D ≤ 4 ∧ D + 2 ≤ N) ∨ (wrE N (([m, -1, 51] : List Int).getD i 0) ≠ 0 ∧ -1 ≤ ([m, -1, 51] : List Int).getD i 0 ∧ ([m, -1, 51] : List Int).getD i 0 ≤ 51) := by
 match i, hi with
 | 0, _ =>
  show (∃ D : Nat, m = (D : Int) ∧ D ≤ 4 ∧ D + 2 ≤ N) ∨ (wrE N m ≠ 0 ∧ -1 ≤ m ∧ m ≤ 51)
  by_cases c : m + 2 ≤ (N : Int)
  ·exact .inl ⟨m.toNat, by omega, by omega, by omega⟩
  refine .inr ⟨?_, by omega, by omega⟩
  unfold wrE
  rw [if_neg xq, if_pos xq]; decide
 | 1, _ => exact .inr ⟨by show wrE N (-1) ≠ 0; unfold wrE; rw [if_pos xq]; decide, by show (-1 : Int) ≤ -1; decide, by show (-1 : Int) ≤ 51; decide⟩
 | 2, _ => exact .inr ⟨by show wrE N 51 ≠ 0; unfold wrE; rw [if_pos xq]; decide, by show (-1 : Int) ≤ 51; decide, by show (51 : Int) ≤ 51; decide⟩
end Nt
theorem k_rqSameZ {u w : World} (d : Dat u w) : qyc 16 #[.agg #[.bool false, qyn, qyn], .agg #[.bool false, qyn, qyn]] w (Post u w fun v _ => v = .bool true) := by
 refine zzm (args := [.agg #[.bool false, qyn, qyn], .agg #[.bool false, qyn, qyn]]) Tryz.func16 rfl Tryz.ntmps16 (rs := [.tmp 4]) Tryz.results16 (le_b rfl) (le_b rfl) d ?_
 refine sq9 (zzk 2 ⟨32, zw3⟩ (zzk 3 ⟨32, zw3⟩ (zza 4 (zB false) (zzb (sq9 (zza 5 (.adr 2 0) (zzi 6 (.v (.agg #[.bool false, qyn])) ty30 zze (zza 7 (.adr 3 0) (zzi 8 (.v (.agg #[.bool false, qyn])) ty30 zze (zzg 9 74 _ fun _ _ _ ac => qym (k_riSame ac (int_zero _ 1) (int_zero _ 1)) ?_))))))))))
 rintro _ u12 g13 rfl
 refine zyq 10 (x := zB (decide ((0 : Int) = (0 : Int)))) (zB true) (by rw [show (decide ((0 : Int) = (0 : Int))) = true from yv]) (zza 11 (.adr 2 2) ?_ (hw := w1 5 true 10))
 refine zzi 12 (.v (qyn)) ty28 zzl ?_ (hw := w1 5 true 10)
 refine zza 13 (.adr 3 2) ?_ (hw := w1 5 true 10)
 refine zzi 14 (.v (qyn)) ty28 zzl ?_ (hw := w1 5 true 10)
 refine zzg 15 75 _ (fun _ _ _ aa => qym (k_rnSame aa (nat_nilN _ 1) (nat_nilN _ 1)) ?_) (hw := w1 5 true 10)
 rintro _ u17 g18 rfl
 refine zza 16 (zB (decide (0 = 0))) (zza 4 (zB (decide (0 = 0))) (zzb (zzo (ret0 [.bool (decide (0 = 0))] ⟨zzq, trivial⟩ fun u20 e21 => ?_))))
 show Value.bool _ = _
 congr 1
theorem k_r15DesignE {u w : World} {D : Int} {x : Sl} {N : Nat} {V : List Rat} (d : Dat u w) (hg : GrN u x N V 1) (ho : Nt.GrOK V N) (hwr : Nt.wrE N D ≠ 0) (hD0 : -1 ≤ D) (hD1 : D ≤ 51) : qyc 14 #[x.v, .int .i64 D] w (Post u w fun v u' => v = .tuple #[.agg #[qyn, .bool false, qyn, qyn, qyn], .int .i64 (Nt.wrE N D)]) := by
 have hxn : x.n = N := hg.len
 have hN12 := ho.n12
 have hN1 := ho.n1
 refine zzm (args := [x.v, .int .i64 D]) Tryz.func14 rfl Tryz.ntmps14 (rs := [.cell 4 34, .tmp 5]) Tryz.results14 (le_b rfl) (le_b rfl) d ?_
 refine sq9 (zzk 4 ⟨34, [qyn, .bool false, qyn, qyn, qyn]⟩ (zza 5 (zI 0) (zzb (zzd (zzt (sq9 (zza 15 (.v (x.v)) (zzg 16 69 _ fun _ _ ad ae => qym (k_r14Valid ae (hg.ext ad) ho) ?_))))))))
 rintro _ u12 g13 rfl
 refine zza 17 (zB false) (zza 14 (zB false) (zzb (zys xj (sq9 (zza 20 (zI D) (zza 21 (zB (decide (D < 0))) ?_))))))
 rcases Bool.eq_false_or_eq_true (decide (D < 0)) with hs15 | hs15
 ·refine zyq 22 (x := zB (decide (D < 0))) (zB true) (by rw [hs15]) ?_
  have qhs15 := qyt hs15
  refine zzn 23 (uw 2 false true 22) (zzn 24 (uw 2 false true 22) (zza 25 (zB true) (zza 19 (zB true) (zzb (zyr xj (sq9 (zza 26 (.v (.agg #[qyn, .bool false, qyn, qyn, qyn])) (zzj ⟨34, [qyn, .bool false, qyn, qyn, qyn]⟩ ty34 ?_))))))))
  refine zza 5 (zI 12) (zzb (zzo (zyu (zzw (ret0 [.agg #[qyn, .bool false, qyn, qyn, qyn], .int .i64 12] ⟨zzr ty34 zze, zzq, trivial⟩ fun u16 e17 => ?_)))))
  simp only [decide_eq_true_eq] at hs15
  have h9 : Nt.wrE N D = 12 := by unfold Nt.wrE; (repeat split) <;> omega
  rw [h9]
  rfl
 refine zyq 22 (x := zB (decide (D < 0))) (zB false) (by rw [hs15]) ?_
 have qhs15 := qyf hs15
 refine zza 23 (zI D) ?_ (hw := w1 2 false 22)
 refine zza 24 (zB (decide ((50 : Int) < D))) ?_ (hw := w1 2 false 22)
 refine zza 25 (zB (decide ((50 : Int) < D))) (zza 19 (zB (decide ((50 : Int) < D))) (zzb (zzu (b := decide ((50 : Int) < D)) xj (fun aa => ?_) (fun aa => ?_))))
 ·have qhb18 := qyt aa
  refine sq9 (zza 26 (.v (.agg #[qyn, .bool false, qyn, qyn, qyn])) (zzj ⟨34, [qyn, .bool false, qyn, qyn, qyn]⟩ ty34 ?_))
  refine zza 5 (zI 12) (zzb (zzo (zyu (zzw (ret0 [.agg #[qyn, .bool false, qyn, qyn, qyn], .int .i64 12] ⟨zzr ty34 zze, zzq, trivial⟩ fun u19 e20 => ?_)))))
  simp only [decide_eq_false_iff_not] at hs15
  simp only [decide_eq_true_eq] at aa
  have h9 : Nt.wrE N D = 12 := by unfold Nt.wrE; (repeat split) <;> omega
  rw [h9]
  rfl
 have qhb18 := qyf aa
 refine sq9 (zza 28 (.v (x.v)) (zza 29 (zI x.n) (zza 30 (zI D) (zyq 31 (x := zI (IntKind.i64.wrap (D + 2))) (zI (D + 2)) (by rw [IntWalk.i64_in _ xq]) (zza 32 (zB (decide ((x.n : Int) < (D + 2)))) (zza 27 (zB (decide ((x.n : Int) < (D + 2)))) (zzb (zzu (b := decide ((x.n : Int) < (D + 2))) xj (fun ac => ?_) (fun ac => ?_)))))))))
 ·have qhb21 := qyt ac
  refine sq9 (zza 33 (.v (.agg #[qyn, .bool false, qyn, qyn, qyn])) (zzj ⟨34, [qyn, .bool false, qyn, qyn, qyn]⟩ ty34 ?_))
  refine zza 5 (zI 1) (zzb (zzo (zyu (zzw (ret0 [.agg #[qyn, .bool false, qyn, qyn, qyn], .int .i64 1] ⟨zzr ty34 zze, zzq, trivial⟩ fun u22 e23 => ?_)))))
  simp only [decide_eq_false_iff_not] at hs15
  simp only [decide_eq_false_iff_not] at aa
  simp only [decide_eq_true_eq] at ac
  have h9 : Nt.wrE N D = 1 := by unfold Nt.wrE; (repeat split) <;> omega
  rw [h9]
  rfl
 have qhb21 := qyf ac
 refine zzs (zzp ?_)
 refine zzd ?_
 simp only [decide_eq_false_iff_not] at hs15
 simp only [decide_eq_false_iff_not] at aa
 simp only [decide_eq_false_iff_not] at ac
 exact absurd (show Nt.wrE N D = 0 by unfold Nt.wrE; (repeat split) <;> omega) hwr
theorem w_exDesigns {u w : World} {x1 : Sl} {l : List Int} {n : Int} (d : Dat u w) (hx1 : SlR .i64 u x1.a x1.n x1.c l) (hb1 : ∀ z ∈ l, -9223372036854775808 ≤ z ∧ z ≤ 9223372036854775807) (hn0 : -9223372036854775808 ≤ n) (hn1 : n ≤ 9223372036854775807) : qyc 3 #[x1.v, .int .i64 n] w (Post u w fun v _ => v = .bool true) := by
 refine zzm (args := [x1.v, .int .i64 n]) Tryz.func3 rfl Tryz.ntmps3 (rs := [.tmp 4]) Tryz.results3 (le_b rfl) (le_b rfl) d ?_
 refine sq9 (zza 4 (zB false) (zzb (sq9 (zza 14 (.v (x1.v)) (zzg 15 11 _ fun _ _ bd bi => qym (k_grid bi (hx1.ext bd) hb1) ?_)))))
 rintro _ u13 g14 ⟨ag, N12, ad, rfl, af, aa⟩
 have aV : ag.n = N12 := GrN.len af
 have hlnN12 := aa.n12
 have hlmN12 := aa.n1
 refine zza 5 (.v (ag.v)) (zzb (zzd (sq9 (zza 16 (zI n) (zzg 17 12 _ fun _ _ aE bc => qym (k_Mod bc (n := n) (m := 5) xq xq xq xq) ?_)))))
 rintro _ u17 aD rfl
 refine sy_dataF 18 ⟨3, [.int .i64 (n % 5), .int .i64 (-1), .int .i64 51]⟩ 3 (fun aq aM aF ba a7 g20 => ?_)
 have aS : MutQ 1 3 u.heap.size aM (⟨some ⟨aq, 0, none⟩, 3, 3⟩ : Sl) (ics [n % 5, -1, 51]) := MutQ.lit ba rfl yk a7 nu_ics
 have aB : SlR .i64 aM (some ⟨aq, 0, none⟩) 3 3 [n % 5, -1, 51] := MutQ.slr aS
 have aL : ∀ z ∈ [n % 5, -1, 51], -9223372036854775808 ≤ z ∧ z ≤ 9223372036854775807 := by intro z hz; simp only [List.mem_cons, List.not_mem_nil, or_false] at hz; omega
 refine zza 19 (zI 3) (zza 20 (zI 0) (zzb (zzt (zyn (I := fun aU S' u' => ∃ (i : Nat), (aU = 3 - i) ∧ (i ≤ 3) ∧ (S' = St.of 83 [(5, .v (ag.v)), (18, .v (.slice (some ⟨aq, 0, none⟩) 3 3)), (19, zI 3), (20, zI i)] []) ∧ (Ext aM u')) (fun m S u1 u2 e h => by obtain ⟨i, hm, p0, hS, hE⟩ := h; exact ⟨i, hm, p0, hS, hE.trans e⟩) _ yz ⟨0, rfl, by omega, rfl, (Ext.refl _)⟩ ?_))))
 rintro aU _ u21 ⟨i, a2, hi, rfl, ai⟩
 refine sq9 (zza 21 (zB (decide ((i : Int) < 3))) (zzb (zzd (zzu (b := decide ((i : Int) < 3)) xj (fun ax => ?_) (fun ax => ?_)))))
 ·have qhb22 := qyt ax
  refine zzs (zzp ?_)
  refine zzd (zzt (sq9 ?_))
  have hl23 := ((aB.ext ai)).1
  change _ = 3 at hl23
  obtain ⟨b23, aW, aN, aJ⟩ := ints_at (aB.ext ai) (i := i) xq
  have hz23 := ints_bd aL xq i
  refine zya 22 (aW + i * 1) (n := 3) (off := aW) (sz := 1) (i := (i : Int)) xq aN xq xq sl22 (zyl 23 (.int .i64 (([n % 5, -1, 51]).getD i 0)) aJ ty3 (zza 7 (zI (([n % 5, -1, 51]).getD i 0)) (zzb (zzd ?_))))
  rcases Nt.d_cases (N := N12) (i := i) (m := n % 5) xq xq xq with ⟨D, hDz, hD4, hDN⟩ | ⟨hwr, hd0, hd1⟩
  ·skip
   rw [hDz]
   refine zzf (zza 25 (.v (ag.v)) (zza 26 (zI D) (zzg 27 13 _ fun _ _ aI a6 => qym (k_exDesign (D := D) a6 (af.ext (aE.t (aD.t (aF.trans (ai.trans aI))))) aa hDN) ?_)))
   rintro _ u26 aQ ⟨ay, ae, ar, am, rfl, ap, aC, aO, aj⟩
   have hly25 := ap.len
   have hlly25 := Nt.Bst.len aj
   refine zza 24 (.v (.tuple #[.agg #[ay.v, .bool ae.s, ae.m.v, ae.d.v, .slice (some ⟨ar, 0, none⟩) (D + 2) (D + 2)], .int .i64 0])) (zza 28 (.v (.agg #[ay.v, .bool ae.s, ae.m.v, ae.d.v, .slice (some ⟨ar, 0, none⟩) (D + 2) (D + 2)])) (zza 29 (zI 0) (zzk 8 ⟨34, [qyn, .bool false, qyn, qyn, qyn]⟩ (zzj ⟨34, [ay.v] ++ ae.cs ++ [.slice (some ⟨ar, 0, none⟩) (D + 2) (D + 2)]⟩ ty34 ?_))))
   refine zza 9 (zI 0) (zzb (sq9 (zza 31 (.v (ag.v)) (zza 32 (zI D) (zzg 33 14 _ fun _ _ ao a3 => qym (k_r15Design (D := D) a3 (af.ext (aE.t (aD.t (aF.t (ai.t (aI.t (aQ.t ao))))))) aa hDN xq) ?_)))))
   rintro _ u31 au ⟨az, ak, ac, an, rfl, aA, aK, aR, al⟩
   have hly30 := aA.len
   have hlly30 := Nt.Bst.len al
   have aT : ac.n = D + 2 := by have h9 := aR.1; rw [zwi, Nt.inl_len, al.rf.len] at h9; omega
   refine zza 30 (.v (.tuple #[.agg #[az.v, .bool ak.s, ak.m.v, ak.d.v, ac.v], .int .i64 0])) (zza 34 (.v (.agg #[az.v, .bool ak.s, ak.m.v, ak.d.v, ac.v])) (zza 35 (zI 0) (zzk 10 ⟨34, [qyn, .bool false, qyn, qyn, qyn]⟩ (zzj ⟨34, [az.v] ++ ak.cs ++ [ac.v]⟩ ty34 ?_))))
   refine zza 11 (zI 0) (zzc 83 [(5, .v (ag.v)), (7, zI D), (8, .adr 8 0), (9, zI 0), (10, .adr 10 0), (11, zI 0), (18, .v (.slice (some ⟨aq, 0, none⟩) 3 3)), (19, zI 3), (20, zI i)] [(8, ⟨34, [ay.v] ++ ae.cs ++ [.slice (some ⟨ar, 0, none⟩) (D + 2) (D + 2)]⟩), (10, ⟨34, [az.v] ++ ak.cs ++ [ac.v]⟩)] (zzd (sq9 (zza 36 (zI 0) (zza 37 (zI 0) (zza 38 (zB false) (zza 39 (zB false) (zza 40 (.adr 8 0) ?_ (hw := w1 3 false 39)))))))))
   refine zzi 41 (.v (ay.v)) ty27 zzl ?_ (hw := w1 3 false 39)
   refine zza 42 (.adr 10 0) ?_ (hw := w1 3 false 39)
   refine zzi 43 (.v (az.v)) ty27 zzl ?_ (hw := w1 3 false 39)
   refine zzg 44 15 _ (fun _ _ ah bg => qym (k_r5Equal bg (ap.ext (ao.t (au.t ah))) (aA.ext ah) xz xz) ?_) (hw := w1 3 false 39)
   rintro _ u35 av rfl
   refine zza 45 (zB (!(decide ((Nt.pL ad am) = (Nt.pL ad an))))) ?_ (hw := w1 3 false 39)
   refine zza 46 (zB (!(decide ((Nt.pL ad am) = (Nt.pL ad an))))) (zyq 47 (x := zB (!(decide ((Nt.pL ad am) = (Nt.pL ad an))))) (zB false) (by rw [show (!(decide ((Nt.pL ad am) = (Nt.pL ad an)))) = false from (by rw [(decide_eq_true (Nt.bst_pL aa aj al xq))]; rfl)]) (zza 48 (.adr 8 1) ?_ (hw := w1 11 false 47)))
   refine zzi 49 (.v (ae.v)) ty32 zze ?_ (hw := w1 11 false 47)
   refine zza 50 (.adr 10 1) ?_ (hw := w1 11 false 47)
   refine zzi 51 (.v (ak.v)) ty32 zze ?_ (hw := w1 11 false 47)
   refine zzg 52 16 _ (fun _ _ aw a4 => qym (k_rqSame a4 (aC.ext (ao.t (au.t (ah.t (av.t aw))))) (aK.ext (ah.t (av.t aw)))) ?_) (hw := w1 11 false 47)
   rintro _ u40 aG rfl
   refine zza 53 (zB (!(decide ((Nt.absQ (Nt.eL ad am)) = (Nt.absQ (Nt.eL ad an)))))) ?_ (hw := w1 11 false 47)
   refine zza 54 (zB (!(decide ((Nt.absQ (Nt.eL ad am)) = (Nt.absQ (Nt.eL ad an)))))) (zyq 55 (x := zB (!(decide ((Nt.absQ (Nt.eL ad am)) = (Nt.absQ (Nt.eL ad an)))))) (zB false) (by rw [show (!(decide ((Nt.absQ (Nt.eL ad am)) = (Nt.absQ (Nt.eL ad an))))) = false from (by rw [(decide_eq_true (Nt.bst_err aa aj al))]; rfl)]) (zza 56 (.adr 8 4) ?_ (hw := w1 19 false 55)))
   refine zzi 57 (.v (.slice (some ⟨ar, 0, none⟩) (D + 2) (D + 2))) ty22 zzl ?_ (hw := w1 19 false 55)
   refine zza 58 (zI (D + 2 : Nat)) ?_ (hw := w1 19 false 55)
   refine zza 59 (.adr 10 4) ?_ (hw := w1 19 false 55)
   refine zzi 60 (.v (ac.v)) ty22 zzl ?_ (hw := w1 19 false 55)
   refine zza 61 (zI ac.n) ?_ (hw := w1 19 false 55)
   refine zza 62 (zB (((D + 2 : Nat) : Int) != (ac.n : Int))) ?_ (hw := w1 19 false 55)
   refine zza 63 (zB (((D + 2 : Nat) : Int) != (ac.n : Int))) (zzb (zzu (b := ((D + 2 : Nat) : Int) != (ac.n : Int)) xj (fun hb => ?_) (fun hb => ?_)))
   ·exact absurd hb (by rw [show (((D + 2 : Nat) : Int) != (ac.n : Int)) = false from (by rw [bne_eq_false_iff_eq]; omega)]; decide)
   clear hb
   refine zzs (zzp ?_)
   refine sq9 (zza 64 (zI 0) (zza 65 (zB true) (zza 66 (zB true) (zza 67 (.v (ag.v)) ?_ (hw := w1 2 true 66)))))
   refine zza 68 (zI D) ?_ (hw := w1 2 true 66)
   refine zzi 69 (.v (.agg #[ay.v, .bool ae.s, ae.m.v, ae.d.v, .slice (some ⟨ar, 0, none⟩) (D + 2) (D + 2)])) ty34 zze ?_ (hw := w1 2 true 66)
   refine zzg 70 17 _ (fun _ _ aH bb => qym (k_exCheckB (D := D) (y := ay) (z := (⟨some ⟨ar, 0, none⟩, D + 2, D + 2⟩ : Sl)) (r := ae) (M := 1400000) bb (af.ext (aE.t (aD.t (aF.t (ai.t (aI.t (aQ.t (ao.t (au.t (ah.t (av.t (aw.t (aG.t aH))))))))))))) aa (ap.ext (ao.t (au.t (ah.t (av.t (aw.t (aG.t aH))))))).raw (aC.ext (ao.t (au.t (ah.t (av.t (aw.t (aG.t aH))))))).raw (aO.ext (ao.t (au.t (ah.t (av.t (aw.t (aG.t aH))))))) xq xq yv xq hDN aj rfl) ?_) (hw := w1 2 true 66)
   rintro _ u45 a1 rfl
   refine zza 71 (zB false) ?_ (hw := w1 2 true 66)
   refine zza 72 (zB false) (zzc 83 [(5, .v (ag.v)), (18, .v (.slice (some ⟨aq, 0, none⟩) 3 3)), (19, zI 3), (20, zI i), (72, zB false)] [] (zys xj (zzs (zzp ?_))))
   refine zzf (zyq 73 (x := zI (IntKind.i64.wrap ((i : Int) + 1))) (zI (i + 1 : Nat)) (eqI xk) (zza 20 (zI (i + 1 : Nat)) (zzx ?_)))
   refine ⟨_, ?_, _, by exact zzv _ _ _, i + 1, rfl, by omega, rfl, (ai.t (aI.t (aQ.t (ao.t (au.t (ah.t (av.t (aw.t (aG.t (aH.t a1.ext))))))))))⟩
   omega
  obtain ⟨dz, hdz⟩ : ∃ z : Int, (([n % 5, -1, 51]).getD i 0) = z := ⟨_, rfl⟩
  rw [hdz] at hwr hd0 hd1
  rw [hdz]
  refine zzf (zza 25 (.v (ag.v)) (zza 26 (zI dz) (zzg 27 13 _ fun _ _ aP be => qym (k_exDesignE (D := dz) be (af.ext (aE.t (aD.t (aF.trans (ai.trans aP))))) aa hwr) ?_)))
  rintro _ u49 aY rfl
  refine zza 24 (.v (.tuple #[.agg #[qyn, .bool false, qyn, qyn, qyn], .int .i64 (Nt.wrE N12 dz)])) (zza 28 (.v (.agg #[qyn, .bool false, qyn, qyn, qyn])) (zza 29 (zI (Nt.wrE N12 dz)) (zzk 8 ⟨34, [qyn, .bool false, qyn, qyn, qyn]⟩ (zzj ⟨34, [qyn, .bool false, qyn, qyn, qyn]⟩ ty34 ?_))))
  refine zza 9 (zI (Nt.wrE N12 dz)) (zzb (sq9 (zza 31 (.v (ag.v)) (zza 32 (zI dz) (zzg 33 14 _ fun _ _ aX a0 => qym (k_r15DesignE (D := dz) a0 (af.ext (aE.t (aD.t (aF.t (ai.t (aP.t (aY.t aX))))))) aa hwr hd0 hd1) ?_)))))
  rintro _ u53 a5 rfl
  refine zza 30 (.v (.tuple #[.agg #[qyn, .bool false, qyn, qyn, qyn], .int .i64 (Nt.wrE N12 dz)])) (zza 34 (.v (.agg #[qyn, .bool false, qyn, qyn, qyn])) (zza 35 (zI (Nt.wrE N12 dz)) (zzk 10 ⟨34, [qyn, .bool false, qyn, qyn, qyn]⟩ (zzj ⟨34, [qyn, .bool false, qyn, qyn, qyn]⟩ ty34 ?_))))
  refine zza 11 (zI (Nt.wrE N12 dz)) (zzc 83 [(5, .v (ag.v)), (7, zI dz), (8, .adr 8 0), (9, zI (Nt.wrE N12 dz)), (10, .adr 10 0), (11, zI (Nt.wrE N12 dz)), (18, .v (.slice (some ⟨aq, 0, none⟩) 3 3)), (19, zI 3), (20, zI i)] [(8, ⟨34, [qyn, .bool false, qyn, qyn, qyn]⟩), (10, ⟨34, [qyn, .bool false, qyn, qyn, qyn]⟩)] (zzd (sq9 (zza 36 (zI (Nt.wrE N12 dz)) (zza 37 (zI (Nt.wrE N12 dz)) (zza 38 (zB ((Nt.wrE N12 dz) != (Nt.wrE N12 dz))) (zyq 39 (x := zB ((Nt.wrE N12 dz) != (Nt.wrE N12 dz))) (zB false) (by rw [show ((Nt.wrE N12 dz) != (Nt.wrE N12 dz)) = false from zv]) (zza 40 (.adr 8 0) ?_ (hw := w1 3 false 39)))))))))
  refine zzi 41 (.v (qyn)) ty27 zzl ?_ (hw := w1 3 false 39)
  refine zza 42 (.adr 10 0) ?_ (hw := w1 3 false 39)
  refine zzi 43 (.v (qyn)) ty27 zzl ?_ (hw := w1 3 false 39)
  refine zzg 44 15 _ (fun _ _ bj a9 => qym (k_r5Equal a9 (pol_nil _ 1) (pol_nil _ 1) zv zv) ?_) (hw := w1 3 false 39)
  rintro _ u58 bk rfl
  refine zza 45 (zB (!(decide (([] : List Rat) = ([] : List Rat))))) ?_ (hw := w1 3 false 39)
  refine zza 46 (zB (!(decide (([] : List Rat) = ([] : List Rat))))) (zyq 47 (x := zB (!(decide (([] : List Rat) = ([] : List Rat))))) (zB false) (by rw [show (!(decide (([] : List Rat) = ([] : List Rat)))) = false from (by rw [(decide_eq_true rfl)]; rfl)]) (zza 48 (.adr 8 1) ?_ (hw := w1 11 false 47)))
  refine zzi 49 (.v (.agg #[.bool false, qyn, qyn])) ty32 zze ?_ (hw := w1 11 false 47)
  refine zza 50 (.adr 10 1) ?_ (hw := w1 11 false 47)
  refine zzi 51 (.v (.agg #[.bool false, qyn, qyn])) ty32 zze ?_ (hw := w1 11 false 47)
  refine zzg 52 16 _ (fun _ _ aZ bf => qym (k_rqSameZ bf) ?_) (hw := w1 11 false 47)
  rintro _ u63 bl rfl
  refine zza 53 (zB false) ?_ (hw := w1 11 false 47)
  refine zza 54 (zB false) (zza 55 (zB false) (zza 56 (.adr 8 4) ?_ (hw := w1 19 false 55)))
  refine zzi 57 (.v (qyn)) ty22 zzl ?_ (hw := w1 19 false 55)
  refine zza 58 (zI 0) ?_ (hw := w1 19 false 55)
  refine zza 59 (.adr 10 4) ?_ (hw := w1 19 false 55)
  refine zzi 60 (.v (qyn)) ty22 zzl ?_ (hw := w1 19 false 55)
  refine zza 61 (zI 0) ?_ (hw := w1 19 false 55)
  refine zza 62 (zB false) ?_ (hw := w1 19 false 55)
  refine zza 63 (zB false) (zzb (zys xj (zzs (zzp ?_))))
  refine sq9 (zza 64 (zI (Nt.wrE N12 dz)) (zza 65 (zB ((Nt.wrE N12 dz) == 0)) (zyq 66 (x := zB ((Nt.wrE N12 dz) == 0)) (zB false) (by rw [show ((Nt.wrE N12 dz) == 0) = false from (by simpa using hwr)]) (zzn 67 (uw 2 true false 66) (zzn 68 (uw 2 true false 66) (zzn 69 (uw 2 true false 66) (zzn 70 (uw 2 true false 66) (zzn 71 (uw 2 true false 66) (zza 72 (zB false) (zzc 83 [(5, .v (ag.v)), (18, .v (.slice (some ⟨aq, 0, none⟩) 3 3)), (19, zI 3), (20, zI i), (72, zB false)] [] (zys xj ?_)))))))))))
  refine zzs (zzp ?_)
  refine zzf (zyq 73 (x := zI (IntKind.i64.wrap ((i : Int) + 1))) (zI (i + 1 : Nat)) (eqI xk) (zza 20 (zI (i + 1 : Nat)) (zzx ?_)))
  refine ⟨_, ?_, _, by exact zzv _ _ _, i + 1, rfl, by omega, rfl, (ai.t (aP.t (aY.t (aX.t (a5.t (bj.t (bk.t (aZ.t bl.ext))))))))⟩
  omega
 have qhb22 := qyf ax
 refine zyc (zzp (sq9 (zzg 75 13 _ fun _ _ _ bh => qym (k_exDesign0 (x := ⟨none, 0, 0⟩) (D := 0) bh rfl) ?_)))
 rintro _ u68 g69 rfl
 refine zza 74 (.v (.tuple #[.agg #[qyn, .bool false, qyn, qyn, qyn], .int .i64 2])) (zza 76 (.v (.agg #[qyn, .bool false, qyn, qyn, qyn])) (zza 77 (zI 2) (zzk 12 ⟨34, [qyn, .bool false, qyn, qyn, qyn]⟩ (zzj ⟨34, [qyn, .bool false, qyn, qyn, qyn]⟩ ty34 ?_))))
 refine zza 13 (zI 2) (zzb (sq9 (zzg 78 18 _ fun _ _ _ a8 => qym (k_awake15 a8) ?_)))
 rintro _ u72 g73 rfl
 refine zza 79 (zB true) (zza 80 (zI 2) ?_ (hw := w1 1 true 79))
 refine zza 81 (zB true) ?_ (hw := w1 1 true 79)
 refine zza 82 (zB true) (zza 4 (zB true) (zzb (zzo (ret0 [.bool true] ⟨zzq, trivial⟩ fun u75 e76 => ?_))))
 rfl
end Go.Proofs.YtgmkhhfbckjaeaaGreat
