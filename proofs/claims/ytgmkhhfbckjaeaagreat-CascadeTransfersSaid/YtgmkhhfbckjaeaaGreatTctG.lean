/- The filters of cascades, walked. Printed by wip/sym/g_kg.py. CascadeTransfers. Printed by wip/sym/g_tu.py. -/
import Derived.Test.YtgmkhhfbckjaeaaGreatTctF
set_option linter.unusedVariables false
namespace Go.Proofs.YtgmkhhfbckjaeaaGreat
open Go.RowKit
set_option maxHeartbeats 4000000 in
theorem k_csIdeal {u w : World} {x : Sl} {L : List (List Int)} {W : WL} (d : Dat u w) (hE : Nt.csE W L = 0) (hx : IrV 5 u x L) (hb : ∀ p ∈ L, ∀ z ∈ p, -9223372036854775808 ≤ z ∧ z ≤ 9223372036854775807) : Calls Tryz.prog 54 #[x.v, W.v] w (Post u w fun v u' => ∃ y z : Sl, v = .tuple #[.agg #[y.v, z.v], .int .i64 0] ∧ PolN u' y (Nt.csP (Nt.csN W.f) L L.length) 7 ∧ PolN u' z (Nt.csP (Nt.csD W.f) L L.length) 7) := by
 obtain ⟨hW, h1, h8, hall⟩ := Nt.csE_ok hE
 have hlx := hx.len
 obtain ⟨hw1, hw2, hw3, hw4, hw5, hw6, hw7, hw8⟩ := id hW
 have hp24 := Nt.p2i_24 (n := W.b - 1) xq
 have hpf := Nt.p2i_24 (n := W.f) xq
 have hpp := Nt.zxp W.f
 have ar : ∀ i, i < L.length → ∀ j, j < 5 → ((L.getD i []).getD j 0).natAbs ≤ 2 ^ 24 := fun i hi j hj => by have h9 := Nt.secFit_ok (hall i hi) j hj; unfold gi at h9; omega
 refine zzm (args := [x.v, .agg #[.int .i64 W.b, .int .i64 W.f, .int .i64 W.r, .int .i64 W.o]]) Tryz.func54 rfl Tryz.ntmps54 (rs := [.cell 4 81, .tmp 5]) Tryz.results54 (le_b rfl) (le_b rfl) d ?_
 refine sq9 (zzk 3 ⟨66, W.cs⟩ (zzk 4 ⟨81, [.slice none 0 0, .slice none 0 0]⟩ (zza 5 (zI 0) (zzb (zzd (sq9 (zza 17 (.v (x.v)) (zzi 18 (.v (W.v)) ty66 zze (zzg 19 134 _ fun _ _ aH bp => Post.mono ((Post.mono (Ψ := fun v _ => v = .int .i64 0) (k_csWrong (W := W) bp (hx.ext aH) hb) (fun v u9 _ h => by rw [hE] at h; exact h))) ?_)))))))))
 rintro _ u12 aY rfl
 refine zza 6 (zI 0) (zzb (sq9 (zza 20 (zI 0) (zza 21 (zB false) (zzb (zys xj (zzs (zzp ?_))))))))
 refine sq9 (zzg 24 109 _ fun _ _ a6 ba => Post.mono (k_ratOf ba (z := 1) xq xq) ?_)
 rintro _ u18 a2 ⟨a9, rfl, bo⟩
 refine zxy 25 ⟨32, a9.cs⟩ 1 (fun aV bw aJ bh => ?_)
 have aD : PolN bw (⟨some ⟨aV, 0, none⟩, 1, 1⟩ : Sl) [((1 : Int) : Rat)] 2 := pol_lit (L := [a9]) bh (rats1 (bo.ext aJ)) rfl yj
 refine zzg 26 109 _ fun _ _ aR bb => Post.mono (k_ratOf bb (z := 1) xq xq) ?_
 rintro _ u29 aG ⟨aX, rfl, bA⟩
 refine zxy 27 ⟨32, aX.cs⟩ 1 (fun aI a8 ax bn => ?_)
 have aK : PolN a8 (⟨some ⟨aI, 0, none⟩, 1, 1⟩ : Sl) [((1 : Int) : Rat)] 2 := pol_lit (L := [aX]) bn (rats1 (bA.ext ax)) rfl yj
 refine zza 7 (.v (.slice (some ⟨aV, 0, none⟩) 1 1)) (zza 8 (.v (.slice (some ⟨aI, 0, none⟩) 1 1)) (zzb (zzd (sq9 (zza 28 (.v (x.v)) (zza 29 (zI x.n) (zza 30 (zI 0) (zzb (zzt (zyn (I := fun a7 S' u' => ∃ (i : Nat) (a : Sl) (b : Sl), (a7 = x.n - i) ∧ (i ≤ x.n) ∧ (S' = St.of 71 [(3, .adr 3 0), (4, .adr 4 0), (7, .v (a.v)), (8, .v (b.v)), (28, .v (x.v)), (29, zI x.n), (30, zI i)] [(3, ⟨66, [.int .i64 W.b, .int .i64 W.f, .int .i64 W.r, .int .i64 W.o]⟩), (4, ⟨81, [.slice none 0 0, .slice none 0 0]⟩)]) ∧ (Ext a8 u') ∧ (PolN u' a (Nt.csP (Nt.csN W.f) L i) 7) ∧ (PolN u' b (Nt.csP (Nt.csD W.f) L i) 7)) (fun m S u1 u2 e h => by obtain ⟨i, a, b, hm, p0, hS, hE, f0, f1⟩ := h; exact ⟨i, a, b, hm, p0, hS, hE.trans e, f0.ext e, f1.ext e⟩) _ yz ⟨0, (⟨some ⟨aV, 0, none⟩, 1, 1⟩ : Sl), (⟨some ⟨aI, 0, none⟩, 1, 1⟩ : Sl), rfl, Nat.zero_le _, rfl, (Ext.refl _), (show PolN _ _ [1] _ from PolN.more (K := 2) (aD.ext (aR.t (aG.t ax))) xq), (show PolN _ _ [1] _ from PolN.more (K := 2) aK xq)⟩ ?_))))))))))
 rintro a7 _ u37 ⟨i, a, b, bf, hi, rfl, aM, hA, hB⟩
 have hal := hA.len
 have hbl := hB.len
 have hla : ((Nt.csP (Nt.csN W.f) L i)).length ≤ 17 := Nat.le_trans (Nt.csP_len (fun _ => rfl)) xq
 have hlb : ((Nt.csP (Nt.csD W.f) L i)).length ≤ 17 := Nat.le_trans (Nt.csP_len (fun _ => rfl)) xq
 refine sq9 (zza 31 (zB (decide ((i : Int) < (x.n : Int)))) (zzb (zzd (zzu (b := decide ((i : Int) < (x.n : Int))) xj (fun am => ?_) (fun am => ?_)))))
 ·have qhb38 := of_decide_eq_true am
  refine zzs (zzp ?_)
  refine zzd (zzt (zzd ?_))
  have hbd := Nt.secFit_ok (hall i xq)
  have hbd0 := hbd 0 yj
  have hbd1 := hbd 1 yj
  have hbd2 := hbd 2 yj
  have hbd3 := hbd 3 yj
  have hbd4 := hbd 4 yj
  refine zzf ?_
  have hl39 := ((hx.ext (aH.t (aY.t (a6.t (a2.t (aJ.t (aR.t (aG.t (ax.trans aM)))))))))).len
  obtain ⟨b39, a3, aE, aO⟩ := ir_at5 (hx.ext (aH.t (aY.t (a6.t (a2.t (aJ.t (aR.t (aG.t (ax.trans aM))))))))) (i := i) xq
  refine zya 32 (a3 + i * 5) (n := x.n) (off := a3) (sz := 5) (i := (i : Int)) xq aE xq xq sl101 (zym 33 [.int .i64 (gi L i 0), .int .i64 (gi L i 1), .int .i64 (gi L i 2), .int .i64 (gi L i 3), .int .i64 (gi L i 4)] aO ty179 (zzk 10 ⟨179, [.int .i64 0, .int .i64 0, .int .i64 0, .int .i64 0, .int .i64 0]⟩ (zzj ⟨179, [.int .i64 (gi L i 0), .int .i64 (gi L i 1), .int .i64 (gi L i 2), .int .i64 (gi L i 3), .int .i64 (gi L i 4)]⟩ ty179 ?_)))
  refine zzb (sq9 (zzk 11 ⟨181, [.bool false, .slice none 0 0, .slice none 0 0, .bool false, .slice none 0 0, .slice none 0 0, .bool false, .slice none 0 0, .slice none 0 0]⟩ (zzb (sq9 (zzg 34 109 _ fun _ _ aF bF => Post.mono (k_ratOf bF (z := 1) xq xq) ?_)))))
  rintro _ u43 aP ⟨aa, rfl, bq⟩
  refine zza 35 (.v (.agg #[.bool aa.s, aa.m.v, aa.d.v, .bool false, .slice none 0 0, .slice none 0 0, .bool false, .slice none 0 0, .slice none 0 0])) (zzk 12 ⟨181, [.bool false, .slice none 0 0, .slice none 0 0, .bool false, .slice none 0 0, .slice none 0 0, .bool false, .slice none 0 0, .slice none 0 0]⟩ (zzj ⟨181, aa.cs ++ zw6⟩ ty181 ?_))
  refine zzb (zzd (sq9 (zza 36 (.adr 10 0) (zzi 37 (.v (.agg #[.int .i64 (gi L i 0), .int .i64 (gi L i 1), .int .i64 (gi L i 2)])) ty177 zze (zza 38 (zI 0) (zzc 71 [(3, .adr 3 0), (4, .adr 4 0), (7, .v (a.v)), (8, .v (b.v)), (10, .adr 10 0), (11, .adr 11 0), (12, .adr 12 0), (28, .v (x.v)), (29, zI x.n), (30, zI i), (37, .v (.agg #[.int .i64 (gi L i 0), .int .i64 (gi L i 1), .int .i64 (gi L i 2)])), (38, zI 0)] [(3, ⟨66, W.cs⟩), (4, ⟨81, [.slice none 0 0, .slice none 0 0]⟩), (10, ⟨179, [.int .i64 (gi L i 0), .int .i64 (gi L i 1), .int .i64 (gi L i 2), .int .i64 (gi L i 3), .int .i64 (gi L i 4)]⟩), (11, ⟨181, [.bool false, .slice none 0 0, .slice none 0 0, .bool false, .slice none 0 0, .slice none 0 0, .bool false, .slice none 0 0, .slice none 0 0]⟩), (12, ⟨181, aa.cs ++ zw6⟩)] (zzt (sw_rounds 3 ?_))))))))
  refine sq9 (zza 39 (zB true) (zzb (zzd (zyr xj (zzs (zzp ?_))))))
  refine zzd (zzt (sq9 (zza 40 (zI 0) (zza 41 (zI (gi L i 0)) (zza 13 (zI 0) (zza 14 (zI (gi L i 0)) (zzb (zzf (zza 42 (zI 0) (zzi 43 (.v (W.v)) ty66 zze (zza 44 (zI (gi L i 0)) ?_)))))))))))
  refine zzg 45 118 _ fun _ _ ay bD => Post.mono (k_fxValue (W := W) (z := gi L i 0) bD hW xq xq) ?_
  rintro _ u49 aB ⟨ab, rfl, bz⟩
  refine zza 46 (.adr 11 0) (zzj ⟨181, ab.cs ++ zw6⟩ ty32 ?_)
  refine zzx ?_
  refine zzp (zzf (zza 47 (zI 1) (zza 38 (zI 1) (zzx ?_))))
  refine rn_next ?_
  refine sw_weak (T := St.of 71 [(3, .adr 3 0), (4, .adr 4 0), (7, .v (a.v)), (8, .v (b.v)), (10, .adr 10 0), (11, .adr 11 0), (12, .adr 12 0), (28, .v (x.v)), (29, zI x.n), (30, zI i), (37, .v (.agg #[.int .i64 (gi L i 0), .int .i64 (gi L i 1), .int .i64 (gi L i 2)])), (38, zI 1)] [(3, ⟨66, [.int .i64 W.b, .int .i64 W.f, .int .i64 W.r, .int .i64 W.o]⟩), (4, ⟨81, [.slice none 0 0, .slice none 0 0]⟩), (10, ⟨179, [.int .i64 (gi L i 0), .int .i64 (gi L i 1), .int .i64 (gi L i 2), .int .i64 (gi L i 3), .int .i64 (gi L i 4)]⟩), (11, ⟨181, ab.cs ++ zw6⟩), (12, ⟨181, aa.cs ++ zw6⟩)]) yz ?_
  refine sq9 (zza 39 (zB true) (zzb (zzd (zyr xj (zzs (zzp ?_))))))
  refine zzd (zzt (sq9 (zza 40 (zI 1) (zza 41 (zI (gi L i 1)) (zza 13 (zI 1) (zza 14 (zI (gi L i 1)) (zzb (zzf (zza 42 (zI 1) (zzi 43 (.v (W.v)) ty66 zze (zza 44 (zI (gi L i 1)) ?_)))))))))))
  refine zzg 45 118 _ fun _ _ au bu => Post.mono (k_fxValue (W := W) (z := gi L i 1) bu hW xq xq) ?_
  rintro _ u55 aw ⟨ac, rfl, bj⟩
  refine zza 46 (.adr 11 3) (zzj ⟨181, ab.cs ++ ac.cs ++ zw3⟩ ty32 ?_)
  refine zzx ?_
  refine zzp (zzf (zza 47 (zI 2) (zza 38 (zI 2) (zzx ?_))))
  refine rn_next ?_
  refine sw_weak (T := St.of 71 [(3, .adr 3 0), (4, .adr 4 0), (7, .v (a.v)), (8, .v (b.v)), (10, .adr 10 0), (11, .adr 11 0), (12, .adr 12 0), (28, .v (x.v)), (29, zI x.n), (30, zI i), (37, .v (.agg #[.int .i64 (gi L i 0), .int .i64 (gi L i 1), .int .i64 (gi L i 2)])), (38, zI 2)] [(3, ⟨66, [.int .i64 W.b, .int .i64 W.f, .int .i64 W.r, .int .i64 W.o]⟩), (4, ⟨81, [.slice none 0 0, .slice none 0 0]⟩), (10, ⟨179, [.int .i64 (gi L i 0), .int .i64 (gi L i 1), .int .i64 (gi L i 2), .int .i64 (gi L i 3), .int .i64 (gi L i 4)]⟩), (11, ⟨181, ab.cs ++ ac.cs ++ zw3⟩), (12, ⟨181, aa.cs ++ zw6⟩)]) yz ?_
  refine sq9 (zza 39 (zB true) (zzb (zzd (zyr xj (zzs (zzp ?_))))))
  refine zzd (zzt (sq9 (zza 40 (zI 2) (zza 41 (zI (gi L i 2)) (zza 13 (zI 2) (zza 14 (zI (gi L i 2)) (zzb (zzf (zza 42 (zI 2) (zzi 43 (.v (W.v)) ty66 zze (zza 44 (zI (gi L i 2)) ?_)))))))))))
  refine zzg 45 118 _ fun _ _ ap bB => Post.mono (k_fxValue (W := W) (z := gi L i 2) bB hW xq xq) ?_
  rintro _ u61 ao ⟨ae, rfl, bE⟩
  refine zza 46 (.adr 11 6) (zzj ⟨181, ab.cs ++ ac.cs ++ ae.cs⟩ ty32 ?_)
  refine zzx ?_
  refine zzp (zzf (zza 47 (zI 3) (zza 38 (zI 3) (zzx ?_))))
  refine rn_next ?_
  refine sw_weak (T := St.of 71 [(3, .adr 3 0), (4, .adr 4 0), (7, .v (a.v)), (8, .v (b.v)), (10, .adr 10 0), (11, .adr 11 0), (12, .adr 12 0), (28, .v (x.v)), (29, zI x.n), (30, zI i), (37, .v (.agg #[.int .i64 (gi L i 0), .int .i64 (gi L i 1), .int .i64 (gi L i 2)])), (38, zI 3)] [(3, ⟨66, [.int .i64 W.b, .int .i64 W.f, .int .i64 W.r, .int .i64 W.o]⟩), (4, ⟨81, [.slice none 0 0, .slice none 0 0]⟩), (10, ⟨179, [.int .i64 (gi L i 0), .int .i64 (gi L i 1), .int .i64 (gi L i 2), .int .i64 (gi L i 3), .int .i64 (gi L i 4)]⟩), (11, ⟨181, ab.cs ++ ac.cs ++ ae.cs⟩), (12, ⟨181, aa.cs ++ zw6⟩)]) yz ?_
  refine sq9 (zza 39 (zB false) (zzb (zzd (zys xj (zyc (zzp (zzd (sq9 (zza 48 (.adr 10 3) (zzi 49 (.v (.agg #[.int .i64 (gi L i 3), .int .i64 (gi L i 4)])) ty166 zze (zza 50 (zI 0) ?_)))))))))))
  refine zzb (zzt (sw_rounds 2 ?_))
  refine sq9 (zza 51 (zB true) (zzb (zzd (zyr xj (zzs (zzp ?_))))))
  refine zzd (zzt (sq9 (zza 52 (zI 0) (zza 53 (zI (gi L i 3)) (zza 15 (zI 0) (zza 16 (zI (gi L i 3)) (zzb (zzf (zza 54 (zI 0) (zza 55 (zI 1) (zzi 56 (.v (W.v)) ty66 zze ?_)))))))))))
  refine zza 57 (zI (gi L i 3)) (zzg 58 118 _ fun _ _ al bt => Post.mono (k_fxValue (W := W) (z := gi L i 3) bt hW xq xq) ?_)
  rintro _ u67 an ⟨ad, rfl, bm⟩
  refine zza 59 (.adr 12 3) (zzj ⟨181, aa.cs ++ ad.cs ++ zw3⟩ ty32 ?_)
  refine zzx ?_
  refine zzp (zzf (zza 60 (zI 1) (zza 50 (zI 1) (zzx ?_))))
  refine rn_next ?_
  refine sw_weak (T := St.of 71 [(3, .adr 3 0), (4, .adr 4 0), (7, .v (a.v)), (8, .v (b.v)), (11, .adr 11 0), (12, .adr 12 0), (28, .v (x.v)), (29, zI x.n), (30, zI i), (49, .v (.agg #[.int .i64 (gi L i 3), .int .i64 (gi L i 4)])), (50, zI 1)] [(3, ⟨66, [.int .i64 W.b, .int .i64 W.f, .int .i64 W.r, .int .i64 W.o]⟩), (4, ⟨81, [.slice none 0 0, .slice none 0 0]⟩), (11, ⟨181, ab.cs ++ ac.cs ++ ae.cs⟩), (12, ⟨181, aa.cs ++ ad.cs ++ zw3⟩)]) yz ?_
  refine sq9 (zza 51 (zB true) (zzb (zzd (zyr xj (zzs (zzp ?_))))))
  refine zzd (zzt (sq9 (zza 52 (zI 1) (zza 53 (zI (gi L i 4)) (zza 15 (zI 1) (zza 16 (zI (gi L i 4)) (zzb (zzf (zza 54 (zI 1) (zza 55 (zI 2) (zzi 56 (.v (W.v)) ty66 zze ?_)))))))))))
  refine zza 57 (zI (gi L i 4)) (zzg 58 118 _ fun _ _ ah bs => Post.mono (k_fxValue (W := W) (z := gi L i 4) bs hW xq xq) ?_)
  rintro _ u73 ai ⟨af, rfl, bl⟩
  refine zza 59 (.adr 12 6) (zzj ⟨181, aa.cs ++ ad.cs ++ af.cs⟩ ty32 ?_)
  refine zzx ?_
  refine zzp (zzf (zza 60 (zI 2) (zza 50 (zI 2) (zzx ?_))))
  refine rn_next ?_
  refine sw_weak (T := St.of 71 [(3, .adr 3 0), (4, .adr 4 0), (7, .v (a.v)), (8, .v (b.v)), (11, .adr 11 0), (12, .adr 12 0), (28, .v (x.v)), (29, zI x.n), (30, zI i), (49, .v (.agg #[.int .i64 (gi L i 3), .int .i64 (gi L i 4)])), (50, zI 2)] [(3, ⟨66, [.int .i64 W.b, .int .i64 W.f, .int .i64 W.r, .int .i64 W.o]⟩), (4, ⟨81, [.slice none 0 0, .slice none 0 0]⟩), (11, ⟨181, ab.cs ++ ac.cs ++ ae.cs⟩), (12, ⟨181, aa.cs ++ ad.cs ++ af.cs⟩)]) yz ?_
  refine sq9 (zza 51 (zB false) (zzb (zzd (zys xj (zyc (zzp (sq9 (zza 61 (.v (a.v)) (zza 62 (.slc 11 0 3 3) (zyo 63 130 [.v (a.v), .slc 11 0 3 3] [11, 62] (.inl rfl) (pub_mk xk) (k := ?_)))))))))))
  intro aQ w76 aZ ag br bc
  have a0 : aZ.heap[aQ 11]? = some (.cells #[.bool ab.s, .slice ab.m.a ab.m.n ab.m.c, .slice ab.d.a ab.d.n ab.d.c, .bool ac.s, .slice ac.m.a ac.m.n ac.m.c, .slice ac.d.a ac.d.n ac.d.c, .bool ae.s, .slice ae.m.a ae.m.n ae.m.c, .slice ae.d.a ae.d.n ae.d.c] 181 (0, 0)) := bc 11 zj _ rfl
  obtain ⟨bi, ak⟩ : ∃ b, aQ 11 = b := ⟨_, rfl⟩
  rw [ak] at a0
  have aS : PolN aZ (⟨some ⟨bi, 0, none⟩, 3, 3⟩ : Sl) [(((gi L i 0 : Int) : Rat) / ((Nt.p2i W.f : Int) : Rat)), (((gi L i 1 : Int) : Rat) / ((Nt.p2i W.f : Int) : Rat)), (((gi L i 2 : Int) : Rat) / ((Nt.p2i W.f : Int) : Rat))] 2 := pol_lit (L := [ab, ac, ae]) a0 (rats3 (bz.ext (au.t (aw.t (ap.t (ao.t (al.t (an.t (ah.t (ai.t ag))))))))) (bj.ext (ap.t (ao.t (al.t (an.t (ah.t (ai.t ag))))))) (bE.ext (al.t (an.t (ah.t (ai.t ag)))))) rfl yj
  show Calls _ _ #[.slice a.a a.n a.c, .slice (some ⟨aQ 11, 0, none⟩) 3 3] _ _
  rw [ak]
  have k84 := k_poMul br (hA.ext (aF.t (aP.t (ay.t (aB.t (au.t (aw.t (ap.t (ao.t (al.t (an.t (ah.t (ai.t ag))))))))))))).raw aS.raw (Nat.le_trans (Nt.mlK_mono hla (show ([(((gi L i 0 : Int) : Rat) / ((Nt.p2i W.f : Int) : Rat)), (((gi L i 1 : Int) : Rat) / ((Nt.p2i W.f : Int) : Rat)), (((gi L i 2 : Int) : Rat) / ((Nt.p2i W.f : Int) : Rat))]).length ≤ 3 from Nat.le_refl _) (Nat.le_refl _) (Nat.le_refl _)) (by decide +kernel)) (by have h9 := hla; omega) (by have h9 := (show ([(((gi L i 0 : Int) : Rat) / ((Nt.p2i W.f : Int) : Rat)), (((gi L i 1 : Int) : Rat) / ((Nt.p2i W.f : Int) : Rat)), (((gi L i 2 : Int) : Rat) / ((Nt.p2i W.f : Int) : Rat))]).length ≤ 3 from Nat.le_refl _); omega) (by have h9 := hla; omega) (by have h9 := (show ([(((gi L i 0 : Int) : Rat) / ((Nt.p2i W.f : Int) : Rat)), (((gi L i 1 : Int) : Rat) / ((Nt.p2i W.f : Int) : Rat)), (((gi L i 2 : Int) : Rat) / ((Nt.p2i W.f : Int) : Rat))]).length ≤ 3 from Nat.le_refl _); omega)
  with_reducible refine zPm k84 ?_
  rintro _ u82 av ⟨aA, rfl, h81⟩
  replace h81 := PolN.more h81 (Nat.le_trans (Nt.mlK_mono hla (show ([(((gi L i 0 : Int) : Rat) / ((Nt.p2i W.f : Int) : Rat)), (((gi L i 1 : Int) : Rat) / ((Nt.p2i W.f : Int) : Rat)), (((gi L i 2 : Int) : Rat) / ((Nt.p2i W.f : Int) : Rat))]).length ≤ 3 from Nat.le_refl _) (Nat.le_refl _) (Nat.le_refl _)) (by decide +kernel : _ ≤ 7220))
  have hly80 := h81.len
  have bv : (Nt.trimQ (Nt.mulQ (Nt.csP (Nt.csN W.f) L i) [(((gi L i 0 : Int) : Rat) / ((Nt.p2i W.f : Int) : Rat)), (((gi L i 1 : Int) : Rat) / ((Nt.p2i W.f : Int) : Rat)), (((gi L i 2 : Int) : Rat) / ((Nt.p2i W.f : Int) : Rat))])).length ≤ 19 := Nt.zxu hla (show ([(((gi L i 0 : Int) : Rat) / ((Nt.p2i W.f : Int) : Rat)), (((gi L i 1 : Int) : Rat) / ((Nt.p2i W.f : Int) : Rat)), (((gi L i 2 : Int) : Rat) / ((Nt.p2i W.f : Int) : Rat))]).length ≤ 3 from Nat.le_refl _)
  have aT : PolN _ aA (Nt.trimQ (Nt.mulQ (Nt.csP (Nt.csN W.f) L i) [(((gi L i 0 : Int) : Rat) / ((Nt.p2i W.f : Int) : Rat)), (((gi L i 1 : Int) : Rat) / ((Nt.p2i W.f : Int) : Rat)), (((gi L i 2 : Int) : Rat) / ((Nt.p2i W.f : Int) : Rat))])) 7220 := PolN.more h81 xq
  refine zza 7 (.v (aA.v)) (zzc 71 [(3, .adr 3 0), (4, .adr 4 0), (7, .v (aA.v)), (8, .v (b.v)), (12, .adr 12 0), (28, .v (x.v)), (29, zI x.n), (30, zI i)] [(3, ⟨66, W.cs⟩), (4, ⟨81, [.slice none 0 0, .slice none 0 0]⟩), (12, ⟨181, aa.cs ++ ad.cs ++ af.cs⟩)] (zzf (zza 64 (.v (b.v)) (zza 65 (.slc 12 0 3 3) (zyo 66 130 [.v (b.v), .slc 12 0 3 3] [12, 65] (.inl rfl) (pub_mk xk) (k := ?_))))))
  intro aN w87 a5 aq bk be
  have a1 : a5.heap[aN 12]? = some (.cells #[.bool aa.s, .slice aa.m.a aa.m.n aa.m.c, .slice aa.d.a aa.d.n aa.d.c, .bool ad.s, .slice ad.m.a ad.m.n ad.m.c, .slice ad.d.a ad.d.n ad.d.c, .bool af.s, .slice af.m.a af.m.n af.m.c, .slice af.d.a af.d.n af.d.c] 181 (0, 0)) := be 12 zj _ rfl
  obtain ⟨bC, aj⟩ : ∃ b, aN 12 = b := ⟨_, rfl⟩
  rw [aj] at a1
  have aU : PolN a5 (⟨some ⟨bC, 0, none⟩, 3, 3⟩ : Sl) [((1 : Int) : Rat), (((gi L i 3 : Int) : Rat) / ((Nt.p2i W.f : Int) : Rat)), (((gi L i 4 : Int) : Rat) / ((Nt.p2i W.f : Int) : Rat))] 2 := pol_lit (L := [aa, ad, af]) a1 (rats3 (bq.ext (ay.t (aB.t (au.t (aw.t (ap.t (ao.t (al.t (an.t (ah.t (ai.t (ag.t (av.t aq))))))))))))) (bm.ext (ah.t (ai.t (ag.t (av.t aq))))) (bl.ext (ag.t (av.t aq)))) rfl yj
  show Calls _ _ #[.slice b.a b.n b.c, .slice (some ⟨aN 12, 0, none⟩) 3 3] _ _
  rw [aj]
  have k95 := k_poMul bk (hB.ext (aF.t (aP.t (ay.t (aB.t (au.t (aw.t (ap.t (ao.t (al.t (an.t (ah.t (ai.t (ag.t (av.t aq))))))))))))))).raw aU.raw (Nat.le_trans (Nt.mlK_mono hlb (show ([((1 : Int) : Rat), (((gi L i 3 : Int) : Rat) / ((Nt.p2i W.f : Int) : Rat)), (((gi L i 4 : Int) : Rat) / ((Nt.p2i W.f : Int) : Rat))]).length ≤ 3 from Nat.le_refl _) (Nat.le_refl _) (Nat.le_refl _)) (by decide +kernel)) (by have h9 := hlb; omega) (by have h9 := (show ([((1 : Int) : Rat), (((gi L i 3 : Int) : Rat) / ((Nt.p2i W.f : Int) : Rat)), (((gi L i 4 : Int) : Rat) / ((Nt.p2i W.f : Int) : Rat))]).length ≤ 3 from Nat.le_refl _); omega) (by have h9 := hlb; omega) (by have h9 := (show ([((1 : Int) : Rat), (((gi L i 3 : Int) : Rat) / ((Nt.p2i W.f : Int) : Rat)), (((gi L i 4 : Int) : Rat) / ((Nt.p2i W.f : Int) : Rat))]).length ≤ 3 from Nat.le_refl _); omega)
  with_reducible refine zPm k95 ?_
  rintro _ u93 aW ⟨aC, rfl, h92⟩
  replace h92 := PolN.more h92 (Nat.le_trans (Nt.mlK_mono hlb (show ([((1 : Int) : Rat), (((gi L i 3 : Int) : Rat) / ((Nt.p2i W.f : Int) : Rat)), (((gi L i 4 : Int) : Rat) / ((Nt.p2i W.f : Int) : Rat))]).length ≤ 3 from Nat.le_refl _) (Nat.le_refl _) (Nat.le_refl _)) (by decide +kernel : _ ≤ 7220))
  have hly91 := h92.len
  have bx : (Nt.trimQ (Nt.mulQ (Nt.csP (Nt.csD W.f) L i) [((1 : Int) : Rat), (((gi L i 3 : Int) : Rat) / ((Nt.p2i W.f : Int) : Rat)), (((gi L i 4 : Int) : Rat) / ((Nt.p2i W.f : Int) : Rat))])).length ≤ 19 := Nt.zxu hlb (show ([((1 : Int) : Rat), (((gi L i 3 : Int) : Rat) / ((Nt.p2i W.f : Int) : Rat)), (((gi L i 4 : Int) : Rat) / ((Nt.p2i W.f : Int) : Rat))]).length ≤ 3 from Nat.le_refl _)
  have aL : PolN _ aC (Nt.trimQ (Nt.mulQ (Nt.csP (Nt.csD W.f) L i) [((1 : Int) : Rat), (((gi L i 3 : Int) : Rat) / ((Nt.p2i W.f : Int) : Rat)), (((gi L i 4 : Int) : Rat) / ((Nt.p2i W.f : Int) : Rat))])) 7220 := PolN.more h92 xq
  refine zza 8 (.v (aC.v)) (zzx ?_)
  refine zzp (zzf (zyq 67 (x := zI (IntKind.i64.wrap ((i : Int) + 1))) (zI (i + 1 : Nat)) (eqI yq) (zza 30 (zI (i + 1 : Nat)) (zzx ?_))))
  refine ⟨_, ?_, _, by exact zzv _ _ _, i + 1, aA, aC, rfl, by omega, rfl, (aM.t (aF.t (aP.t (ay.t (aB.t (au.t (aw.t (ap.t (ao.t (al.t (an.t (ah.t (ai.t (ag.t (av.t (aq.t aW.ext)))))))))))))))), (csP_fit (g := Nt.csN W.f) (L := L) (k := i + 1) (P := (Nt.p2i W.f).toNat) (K := 7220) (show PolN _ _ (Nt.csP (Nt.csN W.f) L (i + 1)) _ from (aT.ext (aq.t aW.ext))) xq xq xq (fun _ => rfl) (fun i hi => Nt.csN_sm (ar i xq))), (csP_fit (g := Nt.csD W.f) (L := L) (k := i + 1) (P := (Nt.p2i W.f).toNat) (K := 7220) (show PolN _ _ (Nt.csP (Nt.csD W.f) L (i + 1)) _ from aL) xq xq xq (fun _ => rfl) (fun i hi => Nt.csD_sm xq (ar i xq)))⟩
  omega
 have qhb38 := of_decide_eq_false am
 refine zyc (zzp (sq9 (zza 68 (.v (a.v)) (zza 69 (.v (b.v)) (zza 70 (.v (.agg #[a.v, b.v])) (zzj ⟨81, [a.v, b.v]⟩ ty81 ?_))))))
 refine zza 5 (zI 0) (zzb (zzo (ret0 [.agg #[a.v, b.v], .int .i64 0] ⟨zzr ty81 zze, zzq, trivial⟩ fun u98 a4 => ?_)))
 have bg : i = L.length := by omega
 have h9 := (hA.ext a4)
 have h7 := (hB.ext a4)
 rw [bg] at h9 h7
 exact ⟨a, b, rfl, h9, h7⟩
theorem rows_bd9 {W : WL} {L : List (List Int)} (hW : WdOK W) (h : ∀ p ∈ L, p.length = 5 ∧ ∀ z ∈ p, -(Nt.p2i (W.b - 1) - 1) ≤ z ∧ z ≤ Nt.p2i (W.b - 1) - 1) : ∀ p ∈ L, ∀ z ∈ p, -9223372036854775808 ≤ z ∧ z ≤ 9223372036854775807 := fun p hp z hz => by
 have h1 := (h p hp).2 z hz
 have h2 := Nt.p2i_24 (n := W.b - 1) (by obtain ⟨_, h3, _⟩ := hW; omega)
 omega
theorem csP_trim9 {g : List Int → List Rat} {L : List (List Int)} {k : Nat} (hk : 0 < k) : Nt.trimQ (Nt.csP g L k) = Nt.csP g L k := by
 cases k with
 | zero => omega
 | succ k => exact Nt.trim_trim _
set_option maxHeartbeats 4000000 in
theorem w_cascadeTransfers {u w : World} {x y : Sl} {l m : List Int} {k1 k2 k3 : Int} (d : Dat u w) (hx : SlR .i64 u x.a x.n x.c l) (hb : ∀ z ∈ l, -9223372036854775808 ≤ z ∧ z ≤ 9223372036854775807) (hy : SlR .i64 u y.a y.n y.c m) (hbm : ∀ z ∈ m, -9223372036854775808 ≤ z ∧ z ≤ 9223372036854775807) (hk1 : -9223372036854775808 ≤ k1) (hk2 : k1 ≤ 9223372036854775807) (hk3 : -9223372036854775808 ≤ k2) (hk4 : k2 ≤ 9223372036854775807) (hk5 : -9223372036854775808 ≤ k3) (hk6 : k3 ≤ 9223372036854775807) : Calls Tryz.prog 10 #[.agg #[x.v, y.v], .int .i64 k1, .int .i64 k2, .int .i64 k3] w (Post u w fun v _ => v = .bool true) := by
 refine zzm (args := [.agg #[x.v, y.v], .int .i64 k1, .int .i64 k2, .int .i64 k3]) Tryz.func10 rfl Tryz.ntmps10 (rs := [.tmp 8]) Tryz.results10 (le_b rfl) (le_b rfl) d ?_
 refine sq9 (zzk 4 ⟨100, [x.v, y.v]⟩ (zza 8 (zB false) (zzb (sq9 (zza 19 (zI k3) (zzg 20 38 _ fun _ _ aB aS => Post.mono (k_coef (k := k3) aS xq xq) ?_))))))
 rintro _ u14 aJ ⟨aa, rfl, ai⟩
 have hw17 := ai.ok
 have aA : 1 ≤ aa.f := by have h9 := ai; unfold CoefOK at h9; omega
 have aG : aa.f ≤ 24 := by have h9 := ai; unfold CoefOK at h9; omega
 refine zzk 9 ⟨66, [.int .i64 0, .int .i64 0, .int .i64 0, .int .i64 0]⟩ (zzj ⟨66, aa.cs⟩ ty66 ?_)
 refine zzb (sq9 (zzi 21 (.v (.agg #[x.v, y.v])) ty100 zze (zza 22 (zI k1) (zzi 23 (.v (aa.v)) ty66 zze (zzg 24 52 _ fun _ _ aF aV => Post.mono ((show Calls _ _ #[.agg #[x.v, y.v], .int .i64 k1, .int .i64 2, aa.v] _ _ from k_sections24 (x := x) (y := y) (W := aa) (n := k1) (q := 2) aV (hx.ext (aB.t (aJ.t aF))) hb (hy.ext (aB.t (aJ.t aF))) hbm hw17 yj yj xq xq)) ?_)))))
 rintro _ u19 g20 ⟨y1, L1, rfl, hI, hLn, hS⟩
 have hyl : y1.n = L1.length := hI.len
 have hmm0 := Int.emod_nonneg k1 (show (2 : Int) ≠ 0 by decide)
 have hmm1 := Int.emod_lt_of_pos k1 (show (0 : Int) < 2 by decide)
 have a1 : L1.length ≤ 2 := by omega
 have aE : 0 < L1.length := by omega
 have hE : Nt.csE aa L1 = 0 := Nt.csE_rows hw17 xq xq hS
 have hbd := rows_bd9 hw17 hS
 refine zza 10 (.v (y1.v)) (zzb (zzd (zzz [0, 0, 2, 0, 15, 31, 63, 63, 0, 383, 1023] [(0, []), (1, []), (3, []), (8, []), (2, []), (4, []), (5, []), (6, []), (7, []), (9, []), (10, [])] xj xj (zza 26 (.v (y1.v)) (zza 27 (zI k2) (zzi 29 (.v (aa.v)) ty66 zze (zzk 11 ⟨72, [.int .i64 0, .int .i64 0, .int .i64 0, .int .i64 0, .int .i64 0, .int .i64 0, .int .i64 0, .int .i64 0, .int .i64 0, .slice none 0 0, .slice none 0 0, .int .i64 0]⟩ (zzg 28 41 _ fun _ _ ay aW => Post.mono (k_data (k := k2) aW xq xq) ?_))))))))
 rintro _ u27 aH ⟨ac, rfl, aj, aT, a3⟩
 refine zzg 30 53 _ fun _ _ aI aM => Post.mono (k_csBuild (D := ac) (W := aa) aM aj hE (hI.ext (ay.t (aH.t aI))) hbd) ?_
 rintro _ u31 aR ⟨X9, Y9, rfl, ⟨hh9, aL⟩, aY⟩
 have hok9 := Nt.csNetOK aj hE
 have hT9 := Nt.cs_tr aj hE a1
 refine zza 25 (.v (.tuple #[.agg #[.int .i64 ac.b, .int .i64 ac.f, .int .i64 ac.r, .int .i64 ac.o, .int .i64 aa.b, .int .i64 aa.f, .int .i64 aa.r, .int .i64 aa.o, .int .i64 (2 + 2 * L1.length : Nat), X9.v, Y9.v, .int .i64 (2 + 2 * L1.length + L1.length : Nat)], .int .i64 0])) (zza 31 (.v (.agg #[.int .i64 ac.b, .int .i64 ac.f, .int .i64 ac.r, .int .i64 ac.o, .int .i64 aa.b, .int .i64 aa.f, .int .i64 aa.r, .int .i64 aa.o, .int .i64 (2 + 2 * L1.length : Nat), X9.v, Y9.v, .int .i64 (2 + 2 * L1.length + L1.length : Nat)])) (zza 32 (zI 0) (zzj ⟨72, [.int .i64 ac.b, .int .i64 ac.f, .int .i64 ac.r, .int .i64 ac.o, .int .i64 aa.b, .int .i64 aa.f, .int .i64 aa.r, .int .i64 aa.o, .int .i64 (2 + 2 * L1.length : Nat), X9.v, Y9.v, .int .i64 (2 + 2 * L1.length + L1.length : Nat)]⟩ ty72 ?_)))
 refine zza 12 (zI 0) (zzb (sq9 (zzi 34 (.v (.agg #[.int .i64 ac.b, .int .i64 ac.f, .int .i64 ac.r, .int .i64 ac.o, .int .i64 aa.b, .int .i64 aa.f, .int .i64 aa.r, .int .i64 aa.o, .int .i64 (2 + 2 * L1.length : Nat), X9.v, Y9.v, .int .i64 (2 + 2 * L1.length + L1.length : Nat)])) ty72 zze (zzg 35 42 _ fun _ _ ax aZ => Post.mono (k_nLinear (D := ac) (W := aa) (s := 2 + 2 * L1.length) (N := Nt.csNodes L1.length L1 L1.length) (nx := Nt.csNext L1.length L1.length) (q := 2 + 2 * L1.length + L1.length) aZ (NodesB.ext aL ax) (MutL.ext aY ax) hok9) ?_))))
 rintro _ u36 aP ⟨ah, ag, af, ab, a5, rfl, am, ap, al, ao⟩
 refine zza 33 (.v (.tuple #[.agg #[ah.v, ag.v, af.v, .bool ab.s, ab.m.v, ab.d.v], .int .i64 0])) (zza 36 (.v (.agg #[ah.v, ag.v, af.v, .bool ab.s, ab.m.v, ab.d.v])) (zza 37 (zI 0) (zzk 13 ⟨77, [.slice none 0 0, .slice none 0 0, .slice none 0 0, .bool false, .slice none 0 0, .slice none 0 0]⟩ (zzj ⟨77, [ah.v, ag.v, af.v] ++ ab.cs⟩ ty77 ?_))))
 refine zza 14 (zI 0) (zzb (sq9 (zzi 39 (.v (.agg #[ah.v, ag.v, af.v, .bool ab.s, ab.m.v, ab.d.v])) ty77 zze (zzg 40 43 _ fun _ _ an aQ => Post.mono (k_nTransferL (W := aa) (N := Nt.csNodes L1.length L1 L1.length) (nx := Nt.csNext L1.length L1.length) (P := (Nt.csP (Nt.csN aa.f) L1 L1.length)) (Q := (Nt.csP (Nt.csD aa.f) L1 L1.length)) aQ (am.ext an) (ap.ext an) (al.ext an) (ao.ext an) hT9) ?_))))
 rintro _ u41 aU ⟨ae, ad, rfl, aq, ak⟩
 refine zza 38 (.v (.tuple #[.agg #[ae.v, ad.v], .int .i64 0])) (zza 41 (.v (.agg #[ae.v, ad.v])) (zza 42 (zI 0) (zzk 15 ⟨81, [.slice none 0 0, .slice none 0 0]⟩ (zzj ⟨81, [ae.v, ad.v]⟩ ty81 ?_))))
 refine zza 16 (zI 0) (zzc 71 [(9, .adr 9 0), (10, .v (y1.v)), (12, zI 0), (14, zI 0), (15, .adr 15 0), (16, zI 0)] [(9, ⟨66, aa.cs⟩), (15, ⟨81, [ae.v, ad.v]⟩)] (sq9 (zza 44 (.v (y1.v)) (zzi 45 (.v (aa.v)) ty66 zze (zzg 46 54 _ fun _ _ aw aK => Post.mono (k_csIdeal (W := aa) aK hE (hI.ext (ay.t (aH.t (aI.t (aR.t (ax.t (aP.t (an.t (aU.t aw))))))))) hbd) ?_)))))
 rintro _ aC aD ⟨B1, A1, rfl, a2, a0⟩
 have aN : PolN aC B1 (Nt.trimQ (Nt.csP (Nt.csN aa.f) L1 L1.length)) 7 := by rw [csP_trim9 aE]; exact a2
 have a4 : PolN aC A1 (Nt.trimQ (Nt.csP (Nt.csD aa.f) L1 L1.length)) 7 := by rw [csP_trim9 aE]; exact a0
 refine zza 43 (.v (.tuple #[.agg #[B1.v, A1.v], .int .i64 0])) (zza 47 (.v (.agg #[B1.v, A1.v])) (zza 48 (zI 0) (zzk 17 ⟨81, [.slice none 0 0, .slice none 0 0]⟩ (zzj ⟨81, [B1.v, A1.v]⟩ ty81 ?_))))
 refine zza 18 (zI 0) (zzb (sq9 (zzg 49 55 _ fun _ _ av aO => Post.mono (k_known24 aO) ?_)))
 rintro _ u49 au rfl
 refine zza 50 (zB true) (zza 51 (zI 0) ?_ (hw := w1 1 true 50))
 refine zza 52 (zB true) ?_ (hw := w1 1 true 50)
 refine zza 53 (zB true) (zza 54 (zB true) (zza 55 (zI 0) ?_ (hw := w1 5 true 54)))
 refine zza 56 (zB true) ?_ (hw := w1 5 true 54)
 refine zza 57 (zB true) (zza 58 (zB true) (zza 59 (zI 0) ?_ (hw := w1 9 true 58)))
 refine zza 60 (zB true) ?_ (hw := w1 9 true 58)
 refine zza 61 (zB true) (zza 62 (zB true) (zza 63 (zI 0) ?_ (hw := w1 13 true 62)))
 refine zza 64 (zB true) ?_ (hw := w1 13 true 62)
 refine zza 65 (zB true) (zza 66 (zB true) (zzi 67 (.v (.agg #[ae.v, ad.v])) ty81 zze ?_ (hw := w1 17 true 66)))
 refine zzi 68 (.v (.agg #[B1.v, A1.v])) ty81 zze ?_ (hw := w1 17 true 66)
 refine zzg 69 47 _ (fun _ _ ar aX => Post.mono ((show Calls _ _ #[_, _] _ _ from k_sameFilt (K := 100000) (l := Nt.trimQ (Nt.csP (Nt.csN aa.f) L1 L1.length)) (m := Nt.trimQ (Nt.csP (Nt.csD aa.f) L1 L1.length)) aX (PolN.more (K := 10000) (aq.ext (aw.t (aD.t (av.t (au.t ar))))) yj) (PolN.more (K := 10000) (ak.ext (aw.t (aD.t (av.t (au.t ar))))) yj) (PolN.more (K := 7) (aN.ext (av.t (au.t ar))) yj) (PolN.more (K := 7) (a4.ext (av.t (au.t ar))) yj) yj (Nat.le_trans (Nt.zzh _) (Nat.le_trans (Nt.csP_len (fun _ => rfl)) xq)) (Nat.le_trans (Nt.zzh _) (Nat.le_trans (Nt.csP_len (fun _ => rfl)) xq)))) ?_) (hw := w1 17 true 66)
 rintro _ u53 g54 rfl
 refine zza 70 (zB true) (zza 8 (zB true) (zzc 71 [(8, zB true)] [] (zzo (ret0 [.bool true] ⟨zzq, trivial⟩ fun u56 e57 => ?_))))
 rfl
end Go.Proofs.YtgmkhhfbckjaeaaGreat
