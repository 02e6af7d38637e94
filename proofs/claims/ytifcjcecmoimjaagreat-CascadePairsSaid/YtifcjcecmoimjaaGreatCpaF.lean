/- CascadePairs. Printed by wip/sym/g_lc.py. -/
import Derived.Test.YtifcjcecmoimjaaGreatCpaE
namespace Go.Proofs.YtifcjcecmoimjaaGreat
open Go.RowKit
set_option linter.unusedVariables false
set_option maxHeartbeats 8000000 in
theorem w_csPairs {u w : World} {x y : Sl} {Z D : List (List Int)} {k : Int} (d : Dat u w) (hx : IrV 3 u x Z) (hy : IrV 2 u y D) (hbZ : ∀ p ∈ Z, BdI p) (hbD : ∀ p ∈ D, BdI p) (hk0 : -9223372036854775808 ≤ k) (hk1 : k ≤ 9223372036854775807) : Calls Tryz.prog 3 #[x.v, y.v, .int .i64 k] w (Post u w fun v _ => v = .bool true) := by
 have hlx := hx.len
 have hly := hy.len
 refine zzm (args := [.slice x.a x.n x.c, .slice y.a y.n y.c, .int .i64 k]) Tryz.func3 rfl Tryz.ntmps3 (rs := [.tmp 6]) Tryz.results3 (le_b rfl) (le_b rfl) d ?_
 refine sq9 (zza 6 (zB false) (zzb (zzd (sq9 (zza 27 (.v x.v) (zza 28 (zI x.n) (zza 29 (zB (decide ((12 : Int) < (x.n : Int)))) ?_)))))))
 rcases Bool.eq_false_or_eq_true (decide ((12 : Int) < (x.n : Int))) with hs11 | hs11
 ·refine zyq 30 (x := zB (decide ((12 : Int) < (x.n : Int)))) (zB true) (by rw [hs11]) ?_
  have qhs11 := of_decide_eq_true hs11
  refine zzn 31 (uw 3 false true 30) (zzn 32 (uw 3 false true 30) (zzn 33 (uw 3 false true 30) (zza 34 (zB true) (zzb (zyr xj (sq9 (zzg 35 8 [] ?_)))))))
  intro w12 u12 e12 d12
  have k15 := k_known24 d12
  with_reducible refine zPm k15 ?_
  rintro _ u13 g14 rfl
  refine zza 6 (zB true) (zzb (zzo (zzw (ret0 [.bool true] ⟨zzq, trivial⟩ fun u16 e17 => ?_))))
  rfl
 ·refine zyq 30 (x := zB (decide ((12 : Int) < (x.n : Int)))) (zB false) (by rw [hs11]) ?_
  have qhs11 := of_decide_eq_false hs11
  refine zza 31 (.v y.v) ?_ (hw := w1 3 false 30)
  refine zza 32 (zI y.n) ?_ (hw := w1 3 false 30)
  refine zza 33 (zB (decide ((12 : Int) < (y.n : Int)))) ?_ (hw := w1 3 false 30)
  refine zza 34 (zB (decide ((12 : Int) < (y.n : Int)))) (zzb (zzu (b := decide ((12 : Int) < (y.n : Int))) xj (fun hb18 => ?_) (fun hb18 => ?_)))
  ·replace hb18 : (decide ((12 : Int) < (y.n : Int))) = true := hb18
   have qhb18 := of_decide_eq_true hb18
   refine sq9 (zzg 35 8 [] ?_)
   intro w19 u19 e19 d19
   have k22 := k_known24 d19
   with_reducible refine zPm k22 ?_
   rintro _ u20 g21 rfl
   refine zza 6 (zB true) (zzb (zzo (zzw (ret0 [.bool true] ⟨zzq, trivial⟩ fun u23 e24 => ?_))))
   rfl
  ·replace hb18 : (decide ((12 : Int) < (y.n : Int))) = false := hb18
   have qhb18 := of_decide_eq_false hb18
   refine zzs (zzp ?_)
   refine sq9 (zza 37 (.v x.v) (zza 38 (.v y.v) (zzg 39 9 [x.v, y.v] ?_)))
   intro w25 u25 e25 d25
   have k29 := k_cpairU d25 (hx.ext e25) (hy.ext e25) hbZ hbD
   with_reducible refine zPm k29 ?_
   rintro _ u27 g28 ⟨z26, rfl, hz26⟩
   have hlz26 : z26.n = (Nt.pairL Z D).length := hz26.len
   refine zza 36 (.v (.tuple #[z26.v, .int .i64 (Nt.pairE Z D)])) (zza 40 (.v z26.v) (zza 41 (zI (Nt.pairE Z D)) (zza 7 (.v z26.v) (zza 8 (zI (Nt.pairE Z D)) (zzb (sq9 (zza 43 (.v x.v) (zza 44 (.v y.v) (zzg 45 10 [x.v, y.v] ?_)))))))))
   intro w30 u30 e30 d30
   have k34 := k_rpairU d30 (hx.ext (e25.trans (g28.ext.trans e30))) (hy.ext (e25.trans (g28.ext.trans e30))) hbZ hbD
   with_reducible refine zPm k34 ?_
   rintro _ u32 g33 ⟨z31, rfl, hz31⟩
   have hlz31 : z31.n = (Nt.pairL Z D).length := hz31.len
   refine zza 42 (.v (.tuple #[z31.v, .int .i64 (Nt.pairE Z D)])) (zza 46 (.v z31.v) (zza 47 (zI (Nt.pairE Z D)) (zza 9 (.v z31.v) (zza 10 (zI (Nt.pairE Z D)) (zzb (zzd (sq9 (zza 48 (zI (Nt.pairE Z D)) (zza 49 (zI (Nt.pairE Z D)) (zza 50 (zB ((Nt.pairE Z D) != (Nt.pairE Z D))) (zyq 51 (x := zB ((Nt.pairE Z D) != (Nt.pairE Z D))) (zB false) (by rw [show ((Nt.pairE Z D) != (Nt.pairE Z D)) = false from yy]) ?_)))))))))))
   refine zza 52 (.v z26.v) ?_ (hw := w1 3 false 51)
   refine zza 53 (zI z26.n) ?_ (hw := w1 3 false 51)
   refine zza 54 (.v z31.v) ?_ (hw := w1 3 false 51)
   refine zza 55 (zI z31.n) ?_ (hw := w1 3 false 51)
   refine zza 56 (zB ((z26.n : Int) != (z31.n : Int))) ?_ (hw := w1 3 false 51)
   refine zza 57 (zB ((z26.n : Int) != (z31.n : Int))) (zzc 192 [(0, .v x.v), (1, .v y.v), (2, zI k), (7, .v z26.v), (9, .v z31.v), (57, zB ((z26.n : Int) != (z31.n : Int)))] [] (zzu (b := (z26.n : Int) != (z31.n : Int)) xj (fun hb => ?_) (fun hb => ?_)))
   ·exact absurd hb (by rw [show ((z26.n : Int) != (z31.n : Int)) = false from (by rw [show ((z26.n : Int) = (z31.n : Int)) from by omega]; simp)]; decide)
   ·clear hb
    refine zzs (zzp ?_)
    refine zzd (sq9 (zza 11 (zI 0) (zzb (zzt (zyn (I := fun m36 S' u' => ∃ (i0 : Nat), (m36 = (Nt.pairL Z D).length - i0) ∧ (i0 ≤ (Nt.pairL Z D).length) ∧ (S' = St.of 192 [(0, .v (.slice x.a x.n x.c)), (1, .v (.slice y.a y.n y.c)), (2, zI k), (7, .v (.slice z26.a z26.n z26.c)), (9, .v (.slice z31.a z31.n z31.c)), (11, zI i0)] []) ∧ (Ext u32 u')) (fun m S u1 u2 e h => by obtain ⟨i0, hm, p0, hS, hE⟩ := h; exact ⟨i0, hm, p0, hS, hE.trans e⟩) _ yj ⟨0, rfl, Nat.zero_le _, rfl, (Ext.refl _)⟩ ?_)))))
    rintro m36 _ u36 ⟨i0, hm36, hi0, rfl, e36⟩
    have hpl8 := Nt.pairL_len (Z := Z) (D := D)
    refine zzd (sq9 (zza 58 (zI i0) (zza 59 (.v z26.v) (zza 60 (zI z26.n) (zza 61 (zB (decide ((i0 : Int) < (z26.n : Int)))) (zzb (zzu (b := decide ((i0 : Int) < (z26.n : Int))) xj (fun hb37 => ?_) (fun hb37 => ?_))))))))
    ·replace hb37 : (decide ((i0 : Int) < (z26.n : Int))) = true := hb37
     have qhb37 := of_decide_eq_true hb37
     refine zzs (zzp ?_)
     refine zzd (zzt (zzd (zzz [0, 0, 3, 7, 0, 0, 48, 112, 255] [(0, []), (1, []), (2, []), (3, []), (4, []), (5, []), (6, []), (7, []), (8, [])] xj xj (zza 64 (.v z26.v) (zza 65 (zI i0) ?_)))))
     have hl38 := ((hz26.ext (e30.trans (g33.ext.trans e36)))).len
     obtain ⟨b38, o38, hA38, hc38⟩ := ir_at5 (hz26.ext (e30.trans (g33.ext.trans e36))) (i := i0) xq
     refine zya 66 (o38 + i0 * 5) (n := z26.n) (off := o38) (sz := 5) (i := (i0 : Int)) xq hA38 xq xq sl25 (zym 67 [.int .i64 (gi (Nt.pairL Z D) i0 0), .int .i64 (gi (Nt.pairL Z D) i0 1), .int .i64 (gi (Nt.pairL Z D) i0 2), .int .i64 (gi (Nt.pairL Z D) i0 3), .int .i64 (gi (Nt.pairL Z D) i0 4)] hc38 ty32 (zza 68 (.v z31.v) (zza 69 (zI i0) ?_)))
     have hl39 := ((hz31.ext e36)).len
     obtain ⟨b39, o39, hA39, hc39⟩ := ir_at5 (hz31.ext e36) (i := i0) xq
     refine zya 70 (o39 + i0 * 5) (n := z31.n) (off := o39) (sz := 5) (i := (i0 : Int)) xq hA39 xq xq sl25 (zym 71 [.int .i64 (gi (Nt.pairL Z D) i0 0), .int .i64 (gi (Nt.pairL Z D) i0 1), .int .i64 (gi (Nt.pairL Z D) i0 2), .int .i64 (gi (Nt.pairL Z D) i0 3), .int .i64 (gi (Nt.pairL Z D) i0 4)] hc39 ty32 (sy_neq5 72 ?_))
     refine zzb (zys xj (zzs (zzp ?_)))
     refine zzf (zza 62 (zI i0) (zyq 63 (x := zI (IntKind.i64.wrap ((i0 : Int) + 1))) (zI (i0 + 1 : Nat)) (eqI xw) (zza 11 (zI (i0 + 1 : Nat)) (zzx ?_))))
     refine ⟨_, ?_, _, by exact zzv _ _ _, i0 + 1, rfl, by omega, rfl, e36⟩
     omega
    ·replace hb37 : (decide ((i0 : Int) < (z26.n : Int))) = false := hb37
     have qhb37 := of_decide_eq_false hb37
     refine zyc (zzp (sq9 (zza 73 (zI k) (zzg 74 11 [.int .i64 k] ?_))))
     intro w40 u40 e40 d40
     have k45 := k_coef (k := k) d40 xq xq
     with_reducible refine zPm k45 ?_
     rintro _ u43 g44 ⟨W41, rfl, hW42⟩
     have hw46 := hW42.ok
     have hw46f : 1 ≤ W41.f := by have h9 := hW42; unfold CoefOK at h9; omega
     have hw46g : W41.f ≤ 24 := by have h9 := hW42; unfold CoefOK at h9; omega
     have hwc : W41.f ≤ 8 ∧ 0 ≤ W41.f ∧ W41.f < W41.b ∧ 4 ≤ W41.b ∧ W41.b ≤ 24 := by have h9 := hW42; unfold CoefOK at h9; omega
     have hu0 := Nt.zxp (W41.b - 1)
     have hu1 := Nt.p2i_24 (n := W41.b - 1) xq
     refine zzk 12 ⟨34, [.int .i64 0, .int .i64 0, .int .i64 0, .int .i64 0]⟩ (zzj ⟨34, W41.cs⟩ ty34 ?_)
     refine zzb (sq9 (zza 75 (.adr 12 0) (zzi 76 (zI W41.b) ty3 zzl (zyq 77 (x := zI (IntKind.i64.wrap (W41.b - 1))) (zI (W41.b - 1)) yz (sy_conv 78 (W41.b - 1) (fun w => by kernel_rfl) (IntWalk.u64_in _ xq) ?_)))))
     refine sy_shl 79 (k := .i64) (s := W41.b - 1) (Nt.p2i (W41.b - 1)) xq (by show _ ≤ (64 : Int); omega) (shl_one xq xq) ?_
     refine zyq 80 (x := zI (IntKind.i64.wrap ((Nt.p2i (W41.b - 1)) - 1))) (zI ((Nt.p2i (W41.b - 1)) - 1)) yz (zza 13 (zI ((Nt.p2i (W41.b - 1)) - 1)) (zzb (sq9 (zza 14 (.v (.slice none 0 0)) (zzb (zzd (sq9 (zza 15 (zI 0) (zzb (zzt (zyn (I := fun m47 S' u' => (m47 = (min (min x.n y.n) 3) ∧ S' = St.of 192 [(0, .v (.slice x.a x.n x.c)), (1, .v (.slice y.a y.n y.c)), (12, .adr 12 0), (13, zI ((Nt.p2i (W41.b - 1)) - 1)), (14, .v (.slice none 0 0)), (15, zI 0)] [(12, ⟨34, [.int .i64 W41.b, .int .i64 W41.f, .int .i64 W41.r, .int .i64 W41.o]⟩)] ∧ Ext u43 u') ∨ (∃ (i : Nat) (L : List (List Int)) (cs : List Value) (cp : Nat), m47 = (min (min x.n y.n) 3) - i ∧ i ≤ (min (min x.n y.n) 3) ∧ 0 < i ∧ L.length = i ∧ cs.length = cp * 5 ∧ i ≤ cp ∧ cp ≤ maxLen ∧ cs.take (i * 5) = kcs L ∧ S' = St.of 192 [(0, .v (.slice x.a x.n x.c)), (1, .v (.slice y.a y.n y.c)), (12, .adr 12 0), (13, zI ((Nt.p2i (W41.b - 1)) - 1)), (14, .slc 129 0 i cp), (15, zI i)] [(12, ⟨34, [.int .i64 W41.b, .int .i64 W41.f, .int .i64 W41.r, .int .i64 W41.o]⟩), (129, ⟨32, cs⟩)] ∧ Ext u43 u' ∧ (∀ p ∈ L, p.length = 5 ∧ ∀ z ∈ p, -(Nt.p2i (W41.b - 1) - 1) ≤ z ∧ z ≤ Nt.p2i (W41.b - 1) - 1))) (fun m S u1 u2 e h => by rcases h with ⟨a, b, c⟩ | ⟨a1, a2, a3, a4, b1, b2, b3, b4, b5, b6, b7, b8, b9, b10, b11⟩; exact .inl ⟨a, b, c.trans e⟩; exact .inr ⟨a1, a2, a3, a4, b1, b2, b3, b4, b5, b6, b7, b8, b9, b10.trans e, b11⟩) _ yj (.inl ⟨rfl, rfl, Ext.refl _⟩) ?_)))))))))))
     rintro m47 _ u47 (⟨hm47, rfl, e47⟩ | ⟨i, L, cs, cp, hm47, hi, hp, hL, hc, hle, hmx, ht, rfl, e47, hP⟩)
     ·change SW _ _ _ _ (St.of 192 [(0, .v (.slice x.a x.n x.c)), (1, .v (.slice y.a y.n y.c)), (12, .adr 12 0), (13, .v (.int .i64 ((Nt.p2i (W41.b - 1)) - 1))), (14, .v (.slice none 0 0)), (15, .v (.int .i64 0))] [(12, ⟨34, [.int .i64 W41.b, .int .i64 W41.f, .int .i64 W41.r, .int .i64 W41.o]⟩)]) _ _
      refine zzd (zzd (sw_join (T := fun (bj : Bool) => St.of 192 [(0, .v (.slice x.a x.n x.c)), (1, .v (.slice y.a y.n y.c)), (12, .adr 12 0), (13, zI ((Nt.p2i (W41.b - 1)) - 1)), (14, .v (.slice none 0 0)), (15, zI 0), (94, zB bj)] [(12, ⟨34, [.int .i64 W41.b, .int .i64 W41.f, .int .i64 W41.r, .int .i64 W41.o]⟩)]) (Φ := fun (bj : Bool) u' => bj = decide (0 < (min (min x.n y.n) 3))) (fun bj uj48 ej48 hj48 => ?_) (fun rest48 => ?_)))
      ·change SW _ _ _ _ (St.of 192 [(0, .v (.slice x.a x.n x.c)), (1, .v (.slice y.a y.n y.c)), (12, .adr 12 0), (13, .v (.int .i64 ((Nt.p2i (W41.b - 1)) - 1))), (14, .v (.slice none 0 0)), (15, .v (.int .i64 0)), (94, .v (.bool bj))] [(12, ⟨34, [.int .i64 W41.b, .int .i64 W41.f, .int .i64 W41.r, .int .i64 W41.o]⟩)]) _ _
       refine zzu (b := bj) xj (fun hb49 => ?_) (fun hb49 => ?_)
       ·replace hb49 : bj = true := hb49
        rw [hj48] at hb49
        have qhb49 := of_decide_eq_true hb49
        refine zzs (zzp ?_)
        refine zzd (zzt (zzd (zzz [0, 0, 0, 6, 14, 31, 0, 0, 0, 384, 896, 2047, 4095, 8191] [(0, []), (1, []), (2, []), (3, []), (4, []), (6, []), (7, []), (8, []), (9, []), (10, []), (5, []), (11, []), (12, []), (13, [])] xj xj (zza 97 (zI ((Nt.p2i (W41.b - 1)) - 1)) (zza 98 (.v x.v) (zza 99 (zI 0) ?_))))))
        have hl50 := ((hx.ext (e25.trans (g28.ext.trans (e30.trans (g33.ext.trans (e36.trans (e40.trans (g44.ext.trans (e47.trans ej48)))))))))).len
        obtain ⟨b50, o50, hA50, hc50⟩ := ir_row (hx.ext (e25.trans (g28.ext.trans (e30.trans (g33.ext.trans (e36.trans (e40.trans (g44.ext.trans (e47.trans ej48))))))))) (i := 0) xq yv
        refine zya 100 (o50 + 0 * 3) (n := x.n) (off := o50) (sz := 3) (i := 0) xq hA50 xq xq sl22 (zza 101 (.v (.slice (some ⟨b50, o50 + 0 * 3, none⟩) 3 3)) (zza 103 (zI ((Nt.p2i (W41.b - 1)) - 1)) (zza 104 (.v y.v) (zza 105 (zI 0) ?_))))
        have hl51 := ((hy.ext (e25.trans (g28.ext.trans (e30.trans (g33.ext.trans (e36.trans (e40.trans (g44.ext.trans (e47.trans ej48)))))))))).len
        obtain ⟨b51, o51, hA51, hc51⟩ := ir_row (hy.ext (e25.trans (g28.ext.trans (e30.trans (g33.ext.trans (e36.trans (e40.trans (g44.ext.trans (e47.trans ej48))))))))) (i := 0) xq yv
        refine zya 106 (o51 + 0 * 2) (n := y.n) (off := o51) (sz := 2) (i := 0) xq hA51 xq xq sl23 (zza 107 (.v (.slice (some ⟨b51, o51 + 0 * 2, none⟩) 2 2)) (zzg 102 12 [.int .i64 ((Nt.p2i (W41.b - 1)) - 1), .slice (some ⟨b50, o50 + 0 * 3, none⟩) 3 3, .int .i64 3] ?_))
        intro w52 u52 e52 d52
        have k56 := (show Calls _ _ #[.int .i64 ((Nt.p2i (W41.b - 1)) - 1), .slice (⟨some ⟨b50, o50 + 0 * 3, none⟩, 3, 3⟩ : Sl).a (⟨some ⟨b50, o50 + 0 * 3, none⟩, 3, 3⟩ : Sl).n (⟨some ⟨b50, o50 + 0 * 3, none⟩, 3, 3⟩ : Sl).c, .int .i64 3] _ _ from k_belowN (x := (⟨some ⟨b50, o50 + 0 * 3, none⟩, 3, 3⟩ : Sl)) (b := (Nt.p2i (W41.b - 1)) - 1) (n := 3) d52 (hc50.ext e52) (bdI_get hbZ 0) xq xq xq)
        with_reducible refine zPm k56 ?_
        rintro _ u54 g55 ⟨y53, m53, rfl, hln53, hs53, hal53⟩
        have hly53 : m53.length = y53.n := hs53.1
        refine zzg 108 12 [.int .i64 ((Nt.p2i (W41.b - 1)) - 1), .slice (some ⟨b51, o51 + 0 * 2, none⟩) 2 2, .int .i64 2] ?_
        intro w57 u57 e57 d57
        have k61 := (show Calls _ _ #[.int .i64 ((Nt.p2i (W41.b - 1)) - 1), .slice (⟨some ⟨b51, o51 + 0 * 2, none⟩, 2, 2⟩ : Sl).a (⟨some ⟨b51, o51 + 0 * 2, none⟩, 2, 2⟩ : Sl).n (⟨some ⟨b51, o51 + 0 * 2, none⟩, 2, 2⟩ : Sl).c, .int .i64 2] _ _ from k_belowN (x := (⟨some ⟨b51, o51 + 0 * 2, none⟩, 2, 2⟩ : Sl)) (b := (Nt.p2i (W41.b - 1)) - 1) (n := 2) d57 (hc51.ext (e52.trans (g55.ext.trans e57))) (bdI_get hbD 0) xq xq xq)
        with_reducible refine zPm k61 ?_
        rintro _ u59 g60 ⟨y58, m58, rfl, hln58, hs58, hal58⟩
        have hly58 : m58.length = y58.n := hs58.1
        refine zza 16 (.v y53.v) (zza 17 (.v y58.v) (zzc 192 [(0, .v x.v), (1, .v y.v), (12, .adr 12 0), (13, zI ((Nt.p2i (W41.b - 1)) - 1)), (14, .v (.slice none 0 0)), (15, zI 0), (16, .v y53.v), (17, .v y58.v)] [(12, ⟨34, W41.cs⟩)] (zzz [0, 0, 2, 6, 0, 16, 48, 0, 128, 384, 1022, 0, 2048, 6144, 0, 16384, 49152, 129024, 262142, 524286, 1048575, 2097151] [(0, []), (1, []), (2, []), (3, []), (4, []), (5, []), (6, []), (7, []), (8, []), (9, []), (10, []), (11, []), (12, []), (13, []), (14, []), (15, []), (16, []), (17, []), (18, []), (19, []), (20, []), (21, [])] xj xj (zza 109 (.v (.slice none 0 0)) (zza 110 (.v y53.v) ?_)))))
        have hl62 := ((hs53.ext (e57.trans g60.ext))).1
        obtain ⟨b62, o62, hA62, hc62⟩ := ints_at (hs53.ext (e57.trans g60.ext)) (i := 0) xq
        have hz62 := ints_bd hal53 xq 0
        refine zya 111 (o62 + 0 * 1) (n := y53.n) (off := o62) (sz := 1) (i := 0) xq hA62 xq xq sl37 (zyl 112 (.int .i64 (m53.getD 0 0)) hc62 ty3 (zza 113 (.v y53.v) ?_))
        have hl63 := ((hs53.ext (e57.trans g60.ext))).1
        obtain ⟨b63, o63, hA63, hc63⟩ := ints_at (hs53.ext (e57.trans g60.ext)) (i := 1) xq
        have hz63 := ints_bd hal53 xq 1
        refine zya 114 (o63 + 1 * 1) (n := y53.n) (off := o63) (sz := 1) (i := 1) xq hA63 xq xq sl37 (zyl 115 (.int .i64 (m53.getD 1 0)) hc63 ty3 (zza 116 (.v y53.v) ?_))
        have hl64 := ((hs53.ext (e57.trans g60.ext))).1
        obtain ⟨b64, o64, hA64, hc64⟩ := ints_at (hs53.ext (e57.trans g60.ext)) (i := 2) xq
        have hz64 := ints_bd hal53 xq 2
        refine zya 117 (o64 + 2 * 1) (n := y53.n) (off := o64) (sz := 1) (i := 2) xq hA64 xq xq sl37 (zyl 118 (.int .i64 (m53.getD 2 0)) hc64 ty3 (zza 119 (.v (.agg #[.int .i64 (m53.getD 0 0), .int .i64 (m53.getD 1 0), .int .i64 (m53.getD 2 0)])) (zza 120 (.v y58.v) ?_)))
        have hl65 := (hs58).1
        obtain ⟨b65, o65, hA65, hc65⟩ := ints_at hs58 (i := 0) xq
        have hz65 := ints_bd hal58 xq 0
        refine zya 121 (o65 + 0 * 1) (n := y58.n) (off := o65) (sz := 1) (i := 0) xq hA65 xq xq sl37 (zyl 122 (.int .i64 (m58.getD 0 0)) hc65 ty3 (zza 123 (.v y58.v) ?_))
        have hl66 := (hs58).1
        obtain ⟨b66, o66, hA66, hc66⟩ := ints_at hs58 (i := 1) xq
        have hz66 := ints_bd hal58 xq 1
        refine zya 124 (o66 + 1 * 1) (n := y58.n) (off := o66) (sz := 1) (i := 1) xq hA66 xq xq sl37 (zyl 125 (.int .i64 (m58.getD 1 0)) hc66 ty3 (zza 126 (.v (.agg #[.int .i64 (m58.getD 0 0), .int .i64 (m58.getD 1 0)])) (zza 127 (.v (.agg #[.int .i64 (m53.getD 0 0), .int .i64 (m53.getD 1 0), .int .i64 (m53.getD 2 0), .int .i64 (m58.getD 0 0), .int .i64 (m58.getD 1 0)])) (sy_lit 128 ⟨32, [.int .i64 (m53.getD 0 0), .int .i64 (m53.getD 1 0), .int .i64 (m53.getD 2 0), .int .i64 (m58.getD 0 0), .int .i64 (m58.getD 1 0)]⟩ 1 ?_))))
        refine sy_appL0 129 (T := 25) (E := 32) (z := .agg #[.int .i64 0, .int .i64 0, .int .i64 0, .int .i64 0, .int .i64 0]) (size := 5) (bytes := 40) (m := 1) (t2 := 128) [.int .i64 (m53.getD 0 0), .int .i64 (m53.getD 1 0), .int .i64 (m53.getD 2 0), .int .i64 (m58.getD 0 0), .int .i64 (m58.getD 1 0)] xj xj xj yq rfl (ics_one (p := [(m53.getD 0 0), (m53.getD 1 0), (m53.getD 2 0), (m58.getD 0 0), (m58.getD 1 0)])) yq yq yq ?_
        intro c67 cs67 ha67 hb67 hc67 hd67
        have hd67r : cs67.take (1 * 5) = kcs ([[(m53.getD 0 0), (m53.getD 1 0), (m53.getD 2 0), (m58.getD 0 0), (m58.getD 1 0)]]) := hd67
        refine zza 14 (.slc 129 0 1 c67) (zzx ?_)
        refine zzp (zzf (zza 95 (zI 0) (zza 96 (zI 1) (zza 15 (zI 1) (zzx ?_)))))
        refine ⟨_, ?_, _, by exact zzv _ _ _, .inr ⟨1, [[(m53.getD 0 0), (m53.getD 1 0), (m53.getD 2 0), (m58.getD 0 0), (m58.getD 1 0)]], cs67, c67, rfl, by omega, by omega, by simp, hc67, by omega, hb67, hd67r, rfl, (e47.trans (ej48.trans (e52.trans (g55.ext.trans (e57.trans g60.ext))))), (Nt.sec_snoc9 (L := []) Nt.sec_nil9 xq xq xq xq xq)⟩⟩
        omega
       ·replace hb49 : bj = false := hb49
        rw [hj48] at hb49
        have qhb49 := of_decide_eq_false hb49
        refine zyc (zzp (zzd (sq9 (zza 130 (.v (.slice none 0 0)) (zza 131 (zI 0) (zza 132 (zB true) (zzb (zyr xj (sq9 (zzg 133 8 [] ?_))))))))))
        intro w68 u68 e68 d68
        have k71 := k_known24 d68
        with_reducible refine zPm k71 ?_
        rintro _ u69 g70 rfl
        refine zza 6 (zB true) (zzb (zzo (zzw (ret0 [.bool true] ⟨zzq, trivial⟩ fun u72 e73 => ?_))))
        rfl
      ·skip
       refine zzf (zza 81 (zI 0) (zza 82 (.v x.v) (zza 83 (zI x.n) (zza 84 (zB (decide ((0 : Int) < (x.n : Int)))) ?_))))
       rcases Bool.eq_false_or_eq_true (decide ((0 : Int) < (x.n : Int))) with hs74 | hs74
       ·refine zyq 85 (x := zB (decide ((0 : Int) < (x.n : Int)))) (zB true) (by rw [hs74]) ?_
        have qhs74 := of_decide_eq_true hs74
        refine zza 86 (zI 0) ?_ (hw := w1 4 true 85)
        refine zza 87 (.v y.v) ?_ (hw := w1 4 true 85)
        refine zza 88 (zI y.n) ?_ (hw := w1 4 true 85)
        refine zza 89 (zB (decide ((0 : Int) < (y.n : Int)))) ?_ (hw := w1 4 true 85)
        refine zza 90 (zB (decide ((0 : Int) < (y.n : Int)))) ?_
        rcases Bool.eq_false_or_eq_true (decide ((0 : Int) < (y.n : Int))) with hs75 | hs75
        ·refine zyq 91 (x := zB (decide ((0 : Int) < (y.n : Int)))) (zB true) (by rw [hs75]) ?_
         have qhs75 := of_decide_eq_true hs75
         refine zza 92 (zI 0) ?_ (hw := w1 10 true 91)
         refine zza 93 (zB true) ?_ (hw := w1 10 true 91)
         refine zza 94 (zB true) (zzc 192 [(0, .v x.v), (1, .v y.v), (12, .adr 12 0), (13, zI ((Nt.p2i (W41.b - 1)) - 1)), (14, .v (.slice none 0 0)), (15, zI 0), (94, zB true)] [(12, ⟨34, W41.cs⟩)] ?_)
         exact sw_weak yj (rest48 true _ (Ext.refl _) (by first | (exact (decide_eq_true xq).symm) | (exact (decide_eq_false xq).symm) | (rw [decide_eq_decide]; omega)))
        ·refine zyq 91 (x := zB (decide ((0 : Int) < (y.n : Int)))) (zB false) (by rw [hs75]) ?_
         have qhs75 := of_decide_eq_false hs75
         refine zzn 92 (uw 10 true false 91) (zzn 93 (uw 10 true false 91) (zza 94 (zB false) (zzc 192 [(0, .v x.v), (1, .v y.v), (12, .adr 12 0), (13, zI ((Nt.p2i (W41.b - 1)) - 1)), (14, .v (.slice none 0 0)), (15, zI 0), (94, zB false)] [(12, ⟨34, W41.cs⟩)] ?_)))
         exact sw_weak yj (rest48 false _ (Ext.refl _) (by first | (exact (decide_eq_true xq).symm) | (exact (decide_eq_false xq).symm) | (rw [decide_eq_decide]; omega)))
       ·refine zyq 85 (x := zB (decide ((0 : Int) < (x.n : Int)))) (zB false) (by rw [hs74]) ?_
        have qhs74 := of_decide_eq_false hs74
        refine zzn 86 (uw 4 true false 85) (zzn 87 (uw 4 true false 85) (zzn 88 (uw 4 true false 85) (zzn 89 (uw 4 true false 85) (zza 90 (zB false) (zza 91 (zB false) (zzn 92 (uw 10 true false 91) (zzn 93 (uw 10 true false 91) (zza 94 (zB false) (zzc 192 [(0, .v x.v), (1, .v y.v), (12, .adr 12 0), (13, zI ((Nt.p2i (W41.b - 1)) - 1)), (14, .v (.slice none 0 0)), (15, zI 0), (94, zB false)] [(12, ⟨34, W41.cs⟩)] ?_)))))))))
        exact sw_weak yj (rest48 false _ (Ext.refl _) (by first | (exact (decide_eq_true xq).symm) | (exact (decide_eq_false xq).symm) | (rw [decide_eq_decide]; omega)))
     ·change SW _ _ _ _ (St.of 192 [(0, .v (.slice x.a x.n x.c)), (1, .v (.slice y.a y.n y.c)), (12, .adr 12 0), (13, .v (.int .i64 ((Nt.p2i (W41.b - 1)) - 1))), (14, .slc 129 0 i cp), (15, .v (.int .i64 (i : Int)))] [(12, ⟨34, [.int .i64 W41.b, .int .i64 W41.f, .int .i64 W41.r, .int .i64 W41.o]⟩), (129, ⟨32, cs⟩)]) _ _
      refine zzd (zzd (sw_join (T := fun (bj : Bool) => St.of 192 [(0, .v (.slice x.a x.n x.c)), (1, .v (.slice y.a y.n y.c)), (12, .adr 12 0), (13, zI ((Nt.p2i (W41.b - 1)) - 1)), (14, .slc 129 0 i cp), (15, zI i), (94, zB bj)] [(12, ⟨34, [.int .i64 W41.b, .int .i64 W41.f, .int .i64 W41.r, .int .i64 W41.o]⟩), (129, ⟨32, cs⟩)]) (Φ := fun (bj : Bool) u' => bj = decide (i < (min (min x.n y.n) 3))) (fun bj uj76 ej76 hj76 => ?_) (fun rest76 => ?_)))
      ·change SW _ _ _ _ (St.of 192 [(0, .v (.slice x.a x.n x.c)), (1, .v (.slice y.a y.n y.c)), (12, .adr 12 0), (13, .v (.int .i64 ((Nt.p2i (W41.b - 1)) - 1))), (14, .slc 129 0 i cp), (15, .v (.int .i64 (i : Int))), (94, .v (.bool bj))] [(12, ⟨34, [.int .i64 W41.b, .int .i64 W41.f, .int .i64 W41.r, .int .i64 W41.o]⟩), (129, ⟨32, cs⟩)]) _ _
       refine zzu (b := bj) xj (fun hb77 => ?_) (fun hb77 => ?_)
       ·replace hb77 : bj = true := hb77
        rw [hj76] at hb77
        have qhb77 := of_decide_eq_true hb77
        refine zzs (zzp ?_)
        refine zzd (zzt (zzd (zzz [0, 0, 0, 6, 14, 31, 0, 0, 0, 384, 896, 2047, 4095, 8191] [(0, []), (1, []), (2, []), (3, []), (4, []), (6, []), (7, []), (8, []), (9, []), (10, []), (5, []), (11, []), (12, []), (13, [])] xj xj (zza 97 (zI ((Nt.p2i (W41.b - 1)) - 1)) (zza 98 (.v x.v) (zza 99 (zI i) ?_))))))
        have hl78 := ((hx.ext (e25.trans (g28.ext.trans (e30.trans (g33.ext.trans (e36.trans (e40.trans (g44.ext.trans (e47.trans ej76)))))))))).len
        obtain ⟨b78, o78, hA78, hc78⟩ := ir_row (hx.ext (e25.trans (g28.ext.trans (e30.trans (g33.ext.trans (e36.trans (e40.trans (g44.ext.trans (e47.trans ej76))))))))) (i := i) xq yv
        refine zya 100 (o78 + i * 3) (n := x.n) (off := o78) (sz := 3) (i := (i : Int)) xq hA78 xq xq sl22 (zza 101 (.v (.slice (some ⟨b78, o78 + i * 3, none⟩) 3 3)) (zza 103 (zI ((Nt.p2i (W41.b - 1)) - 1)) (zza 104 (.v y.v) (zza 105 (zI i) ?_))))
        have hl79 := ((hy.ext (e25.trans (g28.ext.trans (e30.trans (g33.ext.trans (e36.trans (e40.trans (g44.ext.trans (e47.trans ej76)))))))))).len
        obtain ⟨b79, o79, hA79, hc79⟩ := ir_row (hy.ext (e25.trans (g28.ext.trans (e30.trans (g33.ext.trans (e36.trans (e40.trans (g44.ext.trans (e47.trans ej76))))))))) (i := i) xq yv
        refine zya 106 (o79 + i * 2) (n := y.n) (off := o79) (sz := 2) (i := (i : Int)) xq hA79 xq xq sl23 (zza 107 (.v (.slice (some ⟨b79, o79 + i * 2, none⟩) 2 2)) (zzg 102 12 [.int .i64 ((Nt.p2i (W41.b - 1)) - 1), .slice (some ⟨b78, o78 + i * 3, none⟩) 3 3, .int .i64 3] ?_))
        intro w80 u80 e80 d80
        have k84 := (show Calls _ _ #[.int .i64 ((Nt.p2i (W41.b - 1)) - 1), .slice (⟨some ⟨b78, o78 + i * 3, none⟩, 3, 3⟩ : Sl).a (⟨some ⟨b78, o78 + i * 3, none⟩, 3, 3⟩ : Sl).n (⟨some ⟨b78, o78 + i * 3, none⟩, 3, 3⟩ : Sl).c, .int .i64 3] _ _ from k_belowN (x := (⟨some ⟨b78, o78 + i * 3, none⟩, 3, 3⟩ : Sl)) (b := (Nt.p2i (W41.b - 1)) - 1) (n := 3) d80 (hc78.ext e80) (bdI_get hbZ i) xq xq xq)
        with_reducible refine zPm k84 ?_
        rintro _ u82 g83 ⟨y81, m81, rfl, hln81, hs81, hal81⟩
        have hly81 : m81.length = y81.n := hs81.1
        refine zzg 108 12 [.int .i64 ((Nt.p2i (W41.b - 1)) - 1), .slice (some ⟨b79, o79 + i * 2, none⟩) 2 2, .int .i64 2] ?_
        intro w85 u85 e85 d85
        have k89 := (show Calls _ _ #[.int .i64 ((Nt.p2i (W41.b - 1)) - 1), .slice (⟨some ⟨b79, o79 + i * 2, none⟩, 2, 2⟩ : Sl).a (⟨some ⟨b79, o79 + i * 2, none⟩, 2, 2⟩ : Sl).n (⟨some ⟨b79, o79 + i * 2, none⟩, 2, 2⟩ : Sl).c, .int .i64 2] _ _ from k_belowN (x := (⟨some ⟨b79, o79 + i * 2, none⟩, 2, 2⟩ : Sl)) (b := (Nt.p2i (W41.b - 1)) - 1) (n := 2) d85 (hc79.ext (e80.trans (g83.ext.trans e85))) (bdI_get hbD i) xq xq xq)
        with_reducible refine zPm k89 ?_
        rintro _ u87 g88 ⟨y86, m86, rfl, hln86, hs86, hal86⟩
        have hly86 : m86.length = y86.n := hs86.1
        refine zza 16 (.v y81.v) (zza 17 (.v y86.v) (zzc 192 [(0, .v x.v), (1, .v y.v), (12, .adr 12 0), (13, zI ((Nt.p2i (W41.b - 1)) - 1)), (14, .slc 129 0 i cp), (15, zI i), (16, .v y81.v), (17, .v y86.v)] [(12, ⟨34, W41.cs⟩), (129, ⟨32, cs⟩)] (zzz [0, 0, 2, 6, 0, 16, 48, 0, 128, 384, 1022, 0, 2048, 6144, 0, 16384, 49152, 129024, 262142, 524286, 1048575, 2097151] [(0, []), (1, []), (2, []), (3, []), (4, []), (5, []), (6, []), (7, []), (8, []), (9, []), (10, []), (11, []), (12, []), (13, []), (14, []), (15, []), (16, []), (17, []), (18, []), (19, []), (20, []), (21, [])] xj xj (zza 109 (.slc 129 0 i cp) (zza 110 (.v y81.v) ?_)))))
        have hl90 := ((hs81.ext (e85.trans g88.ext))).1
        obtain ⟨b90, o90, hA90, hc90⟩ := ints_at (hs81.ext (e85.trans g88.ext)) (i := 0) xq
        have hz90 := ints_bd hal81 xq 0
        refine zya 111 (o90 + 0 * 1) (n := y81.n) (off := o90) (sz := 1) (i := 0) xq hA90 xq xq sl37 (zyl 112 (.int .i64 (m81.getD 0 0)) hc90 ty3 (zza 113 (.v y81.v) ?_))
        have hl91 := ((hs81.ext (e85.trans g88.ext))).1
        obtain ⟨b91, o91, hA91, hc91⟩ := ints_at (hs81.ext (e85.trans g88.ext)) (i := 1) xq
        have hz91 := ints_bd hal81 xq 1
        refine zya 114 (o91 + 1 * 1) (n := y81.n) (off := o91) (sz := 1) (i := 1) xq hA91 xq xq sl37 (zyl 115 (.int .i64 (m81.getD 1 0)) hc91 ty3 (zza 116 (.v y81.v) ?_))
        have hl92 := ((hs81.ext (e85.trans g88.ext))).1
        obtain ⟨b92, o92, hA92, hc92⟩ := ints_at (hs81.ext (e85.trans g88.ext)) (i := 2) xq
        have hz92 := ints_bd hal81 xq 2
        refine zya 117 (o92 + 2 * 1) (n := y81.n) (off := o92) (sz := 1) (i := 2) xq hA92 xq xq sl37 (zyl 118 (.int .i64 (m81.getD 2 0)) hc92 ty3 (zza 119 (.v (.agg #[.int .i64 (m81.getD 0 0), .int .i64 (m81.getD 1 0), .int .i64 (m81.getD 2 0)])) (zza 120 (.v y86.v) ?_)))
        have hl93 := (hs86).1
        obtain ⟨b93, o93, hA93, hc93⟩ := ints_at hs86 (i := 0) xq
        have hz93 := ints_bd hal86 xq 0
        refine zya 121 (o93 + 0 * 1) (n := y86.n) (off := o93) (sz := 1) (i := 0) xq hA93 xq xq sl37 (zyl 122 (.int .i64 (m86.getD 0 0)) hc93 ty3 (zza 123 (.v y86.v) ?_))
        have hl94 := (hs86).1
        obtain ⟨b94, o94, hA94, hc94⟩ := ints_at hs86 (i := 1) xq
        have hz94 := ints_bd hal86 xq 1
        refine zya 124 (o94 + 1 * 1) (n := y86.n) (off := o94) (sz := 1) (i := 1) xq hA94 xq xq sl37 (zyl 125 (.int .i64 (m86.getD 1 0)) hc94 ty3 (zza 126 (.v (.agg #[.int .i64 (m86.getD 0 0), .int .i64 (m86.getD 1 0)])) (zza 127 (.v (.agg #[.int .i64 (m81.getD 0 0), .int .i64 (m81.getD 1 0), .int .i64 (m81.getD 2 0), .int .i64 (m86.getD 0 0), .int .i64 (m86.getD 1 0)])) (sy_lit 128 ⟨32, [.int .i64 (m81.getD 0 0), .int .i64 (m81.getD 1 0), .int .i64 (m81.getD 2 0), .int .i64 (m86.getD 0 0), .int .i64 (m86.getD 1 0)]⟩ 1 ?_))))
        refine sy_appL1 129 (T := 25) (E := 32) (z := .agg #[.int .i64 0, .int .i64 0, .int .i64 0, .int .i64 0, .int .i64 0]) (size := 5) (bytes := 40) (m := 1) (t2 := 128) (n := i) (cap := cp) (t := 129) (cs0 := cs) [14, 109, 129] [.int .i64 (m81.getD 0 0), .int .i64 (m81.getD 1 0), .int .i64 (m81.getD 2 0), .int .i64 (m86.getD 0 0), .int .i64 (m86.getD 1 0)] xj xj xj yq rfl (ics_one (p := [(m81.getD 0 0), (m81.getD 1 0), (m81.getD 2 0), (m86.getD 0 0), (m86.getD 1 0)])) yq yv xq xq xq xq xk ?_
        intro c95 cs95 ha95 hb95 hc95 hd95
        have hd95r : cs95.take ((i + 1) * 5) = kcs (L ++ [[(m81.getD 0 0), (m81.getD 1 0), (m81.getD 2 0), (m86.getD 0 0), (m86.getD 1 0)]]) := by rw [hd95, ht, kcs_app]; rfl
        refine zza 14 (.slc 129 0 (i + 1) c95) (zzx ?_)
        refine zzp (zzf (zza 95 (zI i) (zyq 96 (x := zI (IntKind.i64.wrap ((i : Int) + 1))) (zI (i + 1 : Nat)) (eqI xw) (zza 15 (zI (i + 1 : Nat)) (zzx ?_)))))
        refine ⟨_, ?_, _, by exact zzv _ _ _, .inr ⟨i + 1, L ++ [[(m81.getD 0 0), (m81.getD 1 0), (m81.getD 2 0), (m86.getD 0 0), (m86.getD 1 0)]], cs95, c95, rfl, by omega, by omega, by simp; omega, hc95, by omega, hb95, hd95r, rfl, (e47.trans (ej76.trans (e80.trans (g83.ext.trans (e85.trans g88.ext))))), (Nt.sec_snoc9 (L := L) hP xq xq xq xq xq)⟩⟩
        omega
       ·replace hb77 : bj = false := hb77
        rw [hj76] at hb77
        have qhb77 := of_decide_eq_false hb77
        refine zyc (zzp (zzd (zzd (zyp (r := 14) (t := 129) [14, 129] xk xj (by rfl) (by rfl) xj (fun b96 u97 e98 hb99 hh100 => ?_)))))
        have hp101 : IrV 5 u97 ⟨some ⟨b96, 0, none⟩, i, cp⟩ L := ir_data hh100 (fun p hp => (hP p hp).1) ht xq hc hle hmx
        refine zzf (zza 130 (.v (.slice (some ⟨b96, 0, none⟩) i cp)) (zza 131 (zI i) (zza 132 (zB ((i : Int) == 0)) (zzb (zzu (b := (i : Int) == 0) xj (fun hb => ?_) (fun hb => ?_))))))
        ·exact absurd hb (by rw [show ((i : Int) == 0) = false from yw]; decide)
        ·clear hb
         refine zzs (zzp ?_)
         refine sq9 (zza 18 (.v (.slice none 0 0)) (zzb (sq9 (zza 19 (.v (.slice none 0 0)) (zzb (zzd (sq9 (zza 20 (zI 0) (zzb (zzt (zyn (I := fun m102 S' u' => (m102 = i ∧ S' = St.of 192 [(12, .adr 12 0), (14, .v (.slice (some ⟨b96, 0, none⟩) i cp)), (18, .v (.slice none 0 0)), (19, .v (.slice none 0 0)), (20, zI 0)] [(12, ⟨34, [.int .i64 W41.b, .int .i64 W41.f, .int .i64 W41.r, .int .i64 W41.o]⟩)] ∧ Ext u97 u') ∨ (∃ (q : Nat) (csz csp : List Value) (cz9 cp9 : Nat), m102 = i - q ∧ q ≤ i ∧ 0 < q ∧ csz.length = cz9 * 3 ∧ q ≤ cz9 ∧ cz9 ≤ maxLen ∧ csz.take (q * 3) = kcs ((L.take q).map (·.take 3)) ∧ csp.length = cp9 * 2 ∧ q ≤ cp9 ∧ cp9 ≤ maxLen ∧ csp.take (q * 2) = kcs ((L.take q).map (·.drop 3)) ∧ S' = St.of 192 [(12, .adr 12 0), (14, .v (.slice (some ⟨b96, 0, none⟩) i cp)), (18, .slc 147 0 q cz9), (19, .slc 155 0 q cp9), (20, zI q)] [(12, ⟨34, [.int .i64 W41.b, .int .i64 W41.f, .int .i64 W41.r, .int .i64 W41.o]⟩), (147, ⟨29, csz⟩), (155, ⟨30, csp⟩)] ∧ Ext u97 u')) (fun m S u1 u2 e h => by rcases h with ⟨a, b, c⟩ | ⟨a1, a2, a3, a4, a5, b1, b2, b3, b4, b5, b6, b7, b8, b9, b10, b11, b12, b13⟩; exact .inl ⟨a, b, c.trans e⟩; exact .inr ⟨a1, a2, a3, a4, a5, b1, b2, b3, b4, b5, b6, b7, b8, b9, b10, b11, b12, b13.trans e⟩) _ yj (.inl ⟨rfl, rfl, Ext.refl _⟩) ?_)))))))))))
         rintro m102 _ u102 (⟨hm9, rfl, e102⟩ | ⟨q, csz, csp, cz9, cp9, hm9, hq9, hq0, hcz, hlz, hmz, htz, hcp, hlp, hmp, htp, rfl, e102⟩)
         ·change SW _ _ _ _ (St.of 192 [(12, .adr 12 0), (14, .v (.slice (some ⟨b96, 0, none⟩) i cp)), (18, .v (.slice none 0 0)), (19, .v (.slice none 0 0)), (20, .v (.int .i64 0))] [(12, ⟨34, [.int .i64 W41.b, .int .i64 W41.f, .int .i64 W41.r, .int .i64 W41.o]⟩)]) _ _
          refine zzd (sq9 (zza 134 (zI 0) (zza 135 (.v (.slice (some ⟨b96, 0, none⟩) i cp)) (zza 136 (zI i) (zza 137 (zB (decide ((0 : Int) < (i : Int)))) (zzb (zzu (b := decide ((0 : Int) < (i : Int))) xj (fun hb => ?_) (fun hb => ?_))))))))
          ·clear hb
           refine zzs (zzp ?_)
           refine zzd (zzt (sw_anyX xj 18 rfl ?_))
           refine takeX 8 148 17 (.v (.slice none 0 0)) #[false, false, false, false, false, false, false, false, true, false, false, false, false, false, false, false, false, false] ?_
           refine takeX 9 149 16 (.v (.slice (some ⟨b96, 0, none⟩) i cp)) #[false, false, false, false, false, false, false, false, true, true, false, false, false, false, false, false, false, false] ?_
           refine takeX 10 150 15 (.v (.int .i64 0)) #[false, false, false, false, false, false, false, false, true, true, true, false, false, false, false, false, false, false] ?_
           have hl103 := ((hp101.ext e102)).len
           obtain ⟨b103, o103, hA103, hc103, hp3103, hp2103⟩ := ir_parts (hp101.ext e102) (i := 0) xq
           refine takeXi 11 151 14 (o103 + 0 * 5) (m := i) (off := o103) (sz := 5) (z := 0) xq hA103 xq xq sl25 #[false, false, false, false, false, false, false, false, true, true, true, true, false, false, false, false, false, false] ?_
           refine takeX 12 152 13 (.v (.pointer (some ⟨b103, o103 + 0 * 5 + 3, none⟩))) #[false, false, false, false, false, false, false, false, true, true, true, true, true, false, false, false, false, false] ?_
           refine restX [0, 0, 0, 6, 14, 30, 62, 127, 0, 0, 0, 1536, 3584, 7680, 15872, 32767, 65535, 131071] [(0, []), (1, []), (2, []), (3, []), (4, []), (5, []), (6, [])] [(13, []), (14, [])] (7, []) [(15, []), (16, []), (17, [])] xj ?_
           refine zza 140 (.v (.slice none 0 0)) (zza 141 (.v (.slice (some ⟨b96, 0, none⟩) i cp)) (zza 142 (zI 0) ?_))
           have hl104 := ((hp101.ext e102)).len
           obtain ⟨b104, o104, hA104, hc104, hp3104, hp2104⟩ := ir_parts (hp101.ext e102) (i := 0) xq
           refine zya 143 (o104 + 0 * 5) (n := i) (off := o104) (sz := 5) (i := 0) xq hA104 xq xq sl25 (zza 144 (.v (.pointer (some ⟨b104, o104 + 0 * 5, none⟩))) (zym 145 [.int .i64 (gi L 0 0), .int .i64 (gi L 0 1), .int .i64 (gi L 0 2)] (rowf3 hc104) ty29 (sy_lit 146 ⟨29, [.int .i64 (gi L 0 0), .int .i64 (gi L 0 1), .int .i64 (gi L 0 2)]⟩ 1 ?_)))
           refine zzx ?_
           refine exitsK_both ?_ ?_
           ·skip
            refine sy_appL0 147 (T := 22) (E := 29) (z := .agg #[.int .i64 0, .int .i64 0, .int .i64 0]) (size := 3) (bytes := 24) (m := 1) (t2 := 146) [.int .i64 (gi L 0 0), .int .i64 (gi L 0 1), .int .i64 (gi L 0 2)] xj xj xj yq rfl (ics_one (p := [gi L 0 0, gi L 0 1, gi L 0 2])) yq yq yq ?_
            intro c105 cs105 ha105 hb105 hc105 hd105
            refine zym 153 [.int .i64 (gi L 0 3), .int .i64 (gi L 0 4)] (rowf2 hc103) ty30 (sy_lit 154 ⟨30, [.int .i64 (gi L 0 3), .int .i64 (gi L 0 4)]⟩ 1 ?_)
            refine sy_appL0 155 (T := 23) (E := 30) (z := .agg #[.int .i64 0, .int .i64 0]) (size := 2) (bytes := 16) (m := 1) (t2 := 154) [.int .i64 (gi L 0 3), .int .i64 (gi L 0 4)] xj xj xj yq rfl (ics_one (p := [gi L 0 3, gi L 0 4])) yq yq yq ?_
            intro c106 cs106 ha106 hb106 hc106 hd106
            refine zza 18 (.slc 147 0 1 c105) (zza 19 (.slc 155 0 1 c106) (zzx ?_))
            refine zzp (zzf (zza 138 (zI 0) (zza 139 (zI 1) (zza 20 (zI 1) (zzx ?_)))))
            refine ⟨_, ?_, _, by exact zzv _ _ _, .inr ⟨1, cs105, cs106, c105, c106, rfl, by omega, by omega, hc105, ha105, hb105, (hd105.trans (by rw [Nt.take_k3 hP (i := 0) xq]; rfl)), hc106, ha106, hb106, (hd106.trans (by rw [Nt.take_k2 hP (i := 0) xq]; rfl)), rfl, e102⟩⟩
            omega
           ·skip
            refine zym 153 [.int .i64 (gi L 0 3), .int .i64 (gi L 0 4)] (rowf2 hc103) ty30 (zzx ?_)
            refine exitsK_both ?_ ?_
            ·skip
             refine sy_appL0 147 (T := 22) (E := 29) (z := .agg #[.int .i64 0, .int .i64 0, .int .i64 0]) (size := 3) (bytes := 24) (m := 1) (t2 := 146) [.int .i64 (gi L 0 0), .int .i64 (gi L 0 1), .int .i64 (gi L 0 2)] xj xj xj yq rfl (ics_one (p := [gi L 0 0, gi L 0 1, gi L 0 2])) yq yq yq ?_
             intro c107 cs107 ha107 hb107 hc107 hd107
             refine sy_lit 154 ⟨30, [.int .i64 (gi L 0 3), .int .i64 (gi L 0 4)]⟩ 1 ?_
             refine sy_appL0 155 (T := 23) (E := 30) (z := .agg #[.int .i64 0, .int .i64 0]) (size := 2) (bytes := 16) (m := 1) (t2 := 154) [.int .i64 (gi L 0 3), .int .i64 (gi L 0 4)] xj xj xj yq rfl (ics_one (p := [gi L 0 3, gi L 0 4])) yq yq yq ?_
             intro c108 cs108 ha108 hb108 hc108 hd108
             refine zza 18 (.slc 147 0 1 c107) (zza 19 (.slc 155 0 1 c108) (zzx ?_))
             refine zzp (zzf (zza 138 (zI 0) (zza 139 (zI 1) (zza 20 (zI 1) (zzx ?_)))))
             refine ⟨_, ?_, _, by exact zzv _ _ _, .inr ⟨1, cs107, cs108, c107, c108, rfl, by omega, by omega, hc107, ha107, hb107, (hd107.trans (by rw [Nt.take_k3 hP (i := 0) xq]; rfl)), hc108, ha108, hb108, (hd108.trans (by rw [Nt.take_k2 hP (i := 0) xq]; rfl)), rfl, e102⟩⟩
             omega
            ·skip
             refine sy_lit 154 ⟨30, [.int .i64 (gi L 0 3), .int .i64 (gi L 0 4)]⟩ 1 ?_
             refine zzx ?_
             refine exitsK_last ?_
             refine sy_appL0 147 (T := 22) (E := 29) (z := .agg #[.int .i64 0, .int .i64 0, .int .i64 0]) (size := 3) (bytes := 24) (m := 1) (t2 := 146) [.int .i64 (gi L 0 0), .int .i64 (gi L 0 1), .int .i64 (gi L 0 2)] xj xj xj yq rfl (ics_one (p := [gi L 0 0, gi L 0 1, gi L 0 2])) yq yq yq ?_
             intro c109 cs109 ha109 hb109 hc109 hd109
             refine sy_appL0 155 (T := 23) (E := 30) (z := .agg #[.int .i64 0, .int .i64 0]) (size := 2) (bytes := 16) (m := 1) (t2 := 154) [.int .i64 (gi L 0 3), .int .i64 (gi L 0 4)] xj xj xj yq rfl (ics_one (p := [gi L 0 3, gi L 0 4])) yq yq yq ?_
             intro c110 cs110 ha110 hb110 hc110 hd110
             refine zza 18 (.slc 147 0 1 c109) (zza 19 (.slc 155 0 1 c110) (zzx ?_))
             refine zzp (zzf (zza 138 (zI 0) (zza 139 (zI 1) (zza 20 (zI 1) (zzx ?_)))))
             refine ⟨_, ?_, _, by exact zzv _ _ _, .inr ⟨1, cs109, cs110, c109, c110, rfl, by omega, by omega, hc109, ha109, hb109, (hd109.trans (by rw [Nt.take_k3 hP (i := 0) xq]; rfl)), hc110, ha110, hb110, (hd110.trans (by rw [Nt.take_k2 hP (i := 0) xq]; rfl)), rfl, e102⟩⟩
             omega
          ·exact absurd hb (by rw [show (decide ((0 : Int) < (i : Int))) = true from decide_eq_true xq]; decide)
         ·change SW _ _ _ _ (St.of 192 [(12, .adr 12 0), (14, .v (.slice (some ⟨b96, 0, none⟩) i cp)), (18, .slc 147 0 q cz9), (19, .slc 155 0 q cp9), (20, .v (.int .i64 (q : Int)))] [(12, ⟨34, [.int .i64 W41.b, .int .i64 W41.f, .int .i64 W41.r, .int .i64 W41.o]⟩), (147, ⟨29, csz⟩), (155, ⟨30, csp⟩)]) _ _
          refine zzd (sq9 (zza 134 (zI q) (zza 135 (.v (.slice (some ⟨b96, 0, none⟩) i cp)) (zza 136 (zI i) (zza 137 (zB (decide ((q : Int) < (i : Int)))) (zzb (zzu (b := decide ((q : Int) < (i : Int))) xj (fun hb111 => ?_) (fun hb111 => ?_))))))))
          ·replace hb111 : (decide ((q : Int) < (i : Int))) = true := hb111
           have qhb111 := of_decide_eq_true hb111
           refine zzs (zzp ?_)
           refine zzd (zzt (sw_anyX xj 18 rfl ?_))
           refine takeXm 8 148 17 #[false, false, false, false, false, false, false, false, true, false, false, false, false, false, false, false, false, false] ?_
           refine takeX 9 149 16 (.v (.slice (some ⟨b96, 0, none⟩) i cp)) #[false, false, false, false, false, false, false, false, true, true, false, false, false, false, false, false, false, false] ?_
           refine takeX 10 150 15 (.v (.int .i64 (q : Int))) #[false, false, false, false, false, false, false, false, true, true, true, false, false, false, false, false, false, false] ?_
           have hl112 := ((hp101.ext e102)).len
           obtain ⟨b112, o112, hA112, hc112, hp3112, hp2112⟩ := ir_parts (hp101.ext e102) (i := q) xq
           refine takeXi 11 151 14 (o112 + q * 5) (m := i) (off := o112) (sz := 5) (z := (q : Int)) xq hA112 xq xq sl25 #[false, false, false, false, false, false, false, false, true, true, true, true, false, false, false, false, false, false] ?_
           refine takeX 12 152 13 (.v (.pointer (some ⟨b112, o112 + q * 5 + 3, none⟩))) #[false, false, false, false, false, false, false, false, true, true, true, true, true, false, false, false, false, false] ?_
           refine restX [0, 0, 0, 6, 14, 30, 62, 127, 0, 0, 0, 1536, 3584, 7680, 15872, 32767, 65535, 131071] [(0, []), (1, []), (2, []), (3, []), (4, []), (5, []), (6, [])] [(13, []), (14, [])] (7, []) [(15, []), (16, []), (17, [])] xj ?_
           refine zza 140 (.slc 147 0 q cz9) (zza 141 (.v (.slice (some ⟨b96, 0, none⟩) i cp)) (zza 142 (zI q) ?_))
           have hl113 := ((hp101.ext e102)).len
           obtain ⟨b113, o113, hA113, hc113, hp3113, hp2113⟩ := ir_parts (hp101.ext e102) (i := q) xq
           refine zya 143 (o113 + q * 5) (n := i) (off := o113) (sz := 5) (i := (q : Int)) xq hA113 xq xq sl25 (zza 144 (.v (.pointer (some ⟨b113, o113 + q * 5, none⟩))) (zym 145 [.int .i64 (gi L q 0), .int .i64 (gi L q 1), .int .i64 (gi L q 2)] (rowf3 hc113) ty29 (sy_lit 146 ⟨29, [.int .i64 (gi L q 0), .int .i64 (gi L q 1), .int .i64 (gi L q 2)]⟩ 1 ?_)))
           refine zzx ?_
           refine exitsK_both ?_ ?_
           ·skip
            refine sy_appL1 147 (T := 22) (E := 29) (z := .agg #[.int .i64 0, .int .i64 0, .int .i64 0]) (size := 3) (bytes := 24) (m := 1) (t2 := 146) (n := q) (cap := cz9) (t := 147) (cs0 := csz) [18, 140, 147] [.int .i64 (gi L q 0), .int .i64 (gi L q 1), .int .i64 (gi L q 2)] xj xj xj yq rfl (ics_one (p := [gi L q 0, gi L q 1, gi L q 2])) yq yv xq xq xq xq xk ?_
            intro c114 cs114 ha114 hb114 hc114 hd114
            refine zym 153 [.int .i64 (gi L q 3), .int .i64 (gi L q 4)] (rowf2 hc112) ty30 (sy_lit 154 ⟨30, [.int .i64 (gi L q 3), .int .i64 (gi L q 4)]⟩ 1 ?_)
            refine sy_appL1 155 (T := 23) (E := 30) (z := .agg #[.int .i64 0, .int .i64 0]) (size := 2) (bytes := 16) (m := 1) (t2 := 154) (n := q) (cap := cp9) (t := 155) (cs0 := csp) [19, 148, 155] [.int .i64 (gi L q 3), .int .i64 (gi L q 4)] xj xj xj yq rfl (ics_one (p := [gi L q 3, gi L q 4])) yq yv xq xq xq xq xk ?_
            intro c115 cs115 ha115 hb115 hc115 hd115
            refine zza 18 (.slc 147 0 (q + 1) c114) (zza 19 (.slc 155 0 (q + 1) c115) (zzx ?_))
            refine zzp (zzf (zza 138 (zI q) (zyq 139 (x := zI (IntKind.i64.wrap ((q : Int) + 1))) (zI (q + 1 : Nat)) (eqI xw) (zza 20 (zI (q + 1 : Nat)) (zzx ?_)))))
            refine ⟨_, ?_, _, by exact zzv _ _ _, .inr ⟨q + 1, cs114, cs115, c114, c115, rfl, by omega, by omega, hc114, ha114, hb114, (hd114.trans (by rw [Nt.take_k3 hP (i := q) xq, htz])), hc115, ha115, hb115, (hd115.trans (by rw [Nt.take_k2 hP (i := q) xq, htp])), rfl, e102⟩⟩
            omega
           ·skip
            refine zym 153 [.int .i64 (gi L q 3), .int .i64 (gi L q 4)] (rowf2 hc112) ty30 (zzx ?_)
            refine exitsK_both ?_ ?_
            ·skip
             refine sy_appL1 147 (T := 22) (E := 29) (z := .agg #[.int .i64 0, .int .i64 0, .int .i64 0]) (size := 3) (bytes := 24) (m := 1) (t2 := 146) (n := q) (cap := cz9) (t := 147) (cs0 := csz) [18, 140, 147] [.int .i64 (gi L q 0), .int .i64 (gi L q 1), .int .i64 (gi L q 2)] xj xj xj yq rfl (ics_one (p := [gi L q 0, gi L q 1, gi L q 2])) yq yv xq xq xq xq xk ?_
             intro c116 cs116 ha116 hb116 hc116 hd116
             refine sy_lit 154 ⟨30, [.int .i64 (gi L q 3), .int .i64 (gi L q 4)]⟩ 1 ?_
             refine sy_appL1 155 (T := 23) (E := 30) (z := .agg #[.int .i64 0, .int .i64 0]) (size := 2) (bytes := 16) (m := 1) (t2 := 154) (n := q) (cap := cp9) (t := 155) (cs0 := csp) [19, 148, 155] [.int .i64 (gi L q 3), .int .i64 (gi L q 4)] xj xj xj yq rfl (ics_one (p := [gi L q 3, gi L q 4])) yq yv xq xq xq xq xk ?_
             intro c117 cs117 ha117 hb117 hc117 hd117
             refine zza 18 (.slc 147 0 (q + 1) c116) (zza 19 (.slc 155 0 (q + 1) c117) (zzx ?_))
             refine zzp (zzf (zza 138 (zI q) (zyq 139 (x := zI (IntKind.i64.wrap ((q : Int) + 1))) (zI (q + 1 : Nat)) (eqI xw) (zza 20 (zI (q + 1 : Nat)) (zzx ?_)))))
             refine ⟨_, ?_, _, by exact zzv _ _ _, .inr ⟨q + 1, cs116, cs117, c116, c117, rfl, by omega, by omega, hc116, ha116, hb116, (hd116.trans (by rw [Nt.take_k3 hP (i := q) xq, htz])), hc117, ha117, hb117, (hd117.trans (by rw [Nt.take_k2 hP (i := q) xq, htp])), rfl, e102⟩⟩
             omega
            ·skip
             refine sy_lit 154 ⟨30, [.int .i64 (gi L q 3), .int .i64 (gi L q 4)]⟩ 1 ?_
             refine zzx ?_
             refine exitsK_last ?_
             refine sy_appL1 147 (T := 22) (E := 29) (z := .agg #[.int .i64 0, .int .i64 0, .int .i64 0]) (size := 3) (bytes := 24) (m := 1) (t2 := 146) (n := q) (cap := cz9) (t := 147) (cs0 := csz) [18, 140, 147] [.int .i64 (gi L q 0), .int .i64 (gi L q 1), .int .i64 (gi L q 2)] xj xj xj yq rfl (ics_one (p := [gi L q 0, gi L q 1, gi L q 2])) yq yv xq xq xq xq xk ?_
             intro c118 cs118 ha118 hb118 hc118 hd118
             refine sy_appL1 155 (T := 23) (E := 30) (z := .agg #[.int .i64 0, .int .i64 0]) (size := 2) (bytes := 16) (m := 1) (t2 := 154) (n := q) (cap := cp9) (t := 155) (cs0 := csp) [19, 148, 155] [.int .i64 (gi L q 3), .int .i64 (gi L q 4)] xj xj xj yq rfl (ics_one (p := [gi L q 3, gi L q 4])) yq yv xq xq xq xq xk ?_
             intro c119 cs119 ha119 hb119 hc119 hd119
             refine zza 18 (.slc 147 0 (q + 1) c118) (zza 19 (.slc 155 0 (q + 1) c119) (zzx ?_))
             refine zzp (zzf (zza 138 (zI q) (zyq 139 (x := zI (IntKind.i64.wrap ((q : Int) + 1))) (zI (q + 1 : Nat)) (eqI xw) (zza 20 (zI (q + 1 : Nat)) (zzx ?_)))))
             refine ⟨_, ?_, _, by exact zzv _ _ _, .inr ⟨q + 1, cs118, cs119, c118, c119, rfl, by omega, by omega, hc118, ha118, hb118, (hd118.trans (by rw [Nt.take_k3 hP (i := q) xq, htz])), hc119, ha119, hb119, (hd119.trans (by rw [Nt.take_k2 hP (i := q) xq, htp])), rfl, e102⟩⟩
             omega
          ·replace hb111 : (decide ((q : Int) < (i : Int))) = false := hb111
           have qhb111 := of_decide_eq_false hb111
           refine zyc (zzp (zzd ?_))
           have hqe : L.take q = L := List.take_of_length_le xq
           refine zyp (r := 18) (t := 147) [18, 147] xk xj (by rfl) (by rfl) xj (fun b120 u121 e122 hb123 hh124 => ?_)
           have hp125 : IrV 3 u121 ⟨some ⟨b120, 0, none⟩, q, cz9⟩ (L.map (·.take 3)) := ir_data hh124 (OkR.rows (Nt.parts_ok xq hP).1) (by rw [htz, hqe]) (by rw [List.length_map]; omega) hcz hlz hmz
           refine zyp (r := 19) (t := 155) [19, 155] xk xj (by rfl) (by rfl) xj (fun b126 u127 e128 hb129 hh130 => ?_)
           have hp131 : IrV 2 u127 ⟨some ⟨b126, 0, none⟩, q, cp9⟩ (L.map (·.drop 3)) := ir_data hh130 (OkR.rows (Nt.parts_ok xq hP).2) (by rw [htp, hqe]) (by rw [List.length_map]; omega) hcp hlp hmp
           refine zzf (zza 157 (.v (.slice (some ⟨b120, 0, none⟩) q cz9)) (zza 158 (.v (.slice (some ⟨b126, 0, none⟩) q cp9)) (zzg 159 9 [.slice (some ⟨b120, 0, none⟩) q cz9, .slice (some ⟨b126, 0, none⟩) q cp9] ?_)))
           intro w132 u132 e132 d132
           have k136 := (show Calls _ _ #[.slice (some ⟨b120, 0, none⟩) q cz9, .slice (some ⟨b126, 0, none⟩) q cp9] _ _ from k_cpair (x := (⟨some ⟨b120, 0, none⟩, q, cz9⟩ : Sl)) (y := (⟨some ⟨b126, 0, none⟩, q, cp9⟩ : Sl)) d132 (hp125.ext (e128.trans e132)) (hp131.ext e132) (Nt.parts_ok xq hP).1 (Nt.parts_ok xq hP).2 (by rw [List.length_map, List.length_map]) (by rw [List.length_map]; omega) (by rw [List.length_map]; omega))
           with_reducible refine zPm k136 ?_
           rintro _ u134 g135 ⟨z133, rfl, hz133⟩
           obtain ⟨M133, hM133⟩ : ∃ M, M = Nt.pairR (Nt.sortR (L.map (·.drop 3))) (L.map (·.take 3)) [] := ⟨_, rfl⟩
           rw [← hM133] at hz133
           obtain ⟨hml133, hR133⟩ := Nt.paired_rows xq hP hM133
           obtain ⟨hqn133, hqd133⟩ := Nt.paired_prod (f := W41.f) xq hP hM133
           clear hM133
           refine zza 156 (.v (.tuple #[z133.v, .int .i64 0])) (zza 160 (.v z133.v) (zza 161 (zI 0) (zza 21 (.v z133.v) (zza 22 (zI 0) (zzc 192 [(12, .adr 12 0), (14, .v (.slice (some ⟨b96, 0, none⟩) i cp)), (21, .v z133.v), (22, zI 0)] [(12, ⟨34, W41.cs⟩)] (sq9 (zza 163 (.v (.slice (some ⟨b96, 0, none⟩) i cp)) (zzi 164 (.v (W41.v)) ty34 zze (zzg 165 13 [.slice (some ⟨b96, 0, none⟩) i cp, W41.v] ?_)))))))))
           intro w137 u137 e137 d137
           have k141 := (show Calls _ _ #[.slice (some ⟨b96, 0, none⟩) i cp, .agg #[.int .i64 W41.b, .int .i64 W41.f, .int .i64 W41.r, .int .i64 W41.o]] _ _ from k_csIdeal (x := (⟨some ⟨b96, 0, none⟩, i, cp⟩ : Sl)) (W := W41) d137 (Nt.csE_rows hw46 xq xq hP) (hp101.ext (e102.trans (e122.trans (e128.trans (e132.trans (g135.ext.trans e137)))))) (Nt.rows_bd9 hw46 hP))
           with_reducible refine zPm k141 ?_
           rintro _ u139 g140 ⟨y138, z138, rfl, hf138, hg138⟩
           refine zza 162 (.v (.tuple #[.agg #[y138.v, z138.v], .int .i64 0])) (zza 166 (.v (.agg #[y138.v, z138.v])) (zza 167 (zI 0) (zzk 23 ⟨42, [.slice none 0 0, .slice none 0 0]⟩ (zzj ⟨42, [y138.v, z138.v]⟩ ty42 ?_))))
           refine zza 24 (zI 0) (zzb (sq9 (zza 169 (.v z133.v) (zzi 170 (.v (W41.v)) ty34 zze (zzg 171 13 [z133.v, W41.v] ?_)))))
           intro w142 u142 e142 d142
           have k146 := (show Calls _ _ #[.slice z133.a z133.n z133.c, .agg #[.int .i64 W41.b, .int .i64 W41.f, .int .i64 W41.r, .int .i64 W41.o]] _ _ from k_csIdeal (x := z133) (W := W41) d142 (Nt.csE_rows hw46 xq xq hR133) (hz133.ext (e137.trans (g140.ext.trans e142))) (Nt.rows_bd9 hw46 hR133))
           with_reducible refine zPm k146 ?_
           rintro _ u144 g145 ⟨y143, z143, rfl, hf143, hg143⟩
           rw [hqn133] at hf143
           rw [hqd133] at hg143
           refine zza 168 (.v (.tuple #[.agg #[y143.v, z143.v], .int .i64 0])) (zza 172 (.v (.agg #[y143.v, z143.v])) (zza 173 (zI 0) (zzk 25 ⟨42, [.slice none 0 0, .slice none 0 0]⟩ (zzj ⟨42, [y143.v, z143.v]⟩ ty42 ?_))))
           refine zza 26 (zI 0) (zzb (sq9 (zzg 174 8 [] ?_)))
           intro w147 u147 e147 d147
           have k150 := k_known24 d147
           with_reducible refine zPm k150 ?_
           rintro _ u148 g149 rfl
           refine zza 175 (zB true) (zza 176 (zI 0) ?_ (hw := w1 1 true 175))
           refine zza 177 (zB true) ?_ (hw := w1 1 true 175)
           refine zza 178 (zB true) (zza 179 (zB true) (zza 180 (zI 0) ?_ (hw := w1 5 true 179)))
           refine zza 181 (zB true) ?_ (hw := w1 5 true 179)
           refine zza 182 (zB true) (zza 183 (zB true) (zza 184 (zI 0) ?_ (hw := w1 9 true 183)))
           refine zza 185 (zB true) ?_ (hw := w1 9 true 183)
           refine zza 186 (zB true) (zza 187 (zB true) (zzi 188 (.v (.agg #[y138.v, z138.v])) ty42 zze ?_ (hw := w1 13 true 187)))
           refine zzi 189 (.v (.agg #[y143.v, z143.v])) ty42 zze ?_ (hw := w1 13 true 187)
           refine zzg 190 14 [.agg #[y138.v, z138.v], .agg #[y143.v, z143.v]] ?_ (hw := w1 13 true 187)
           intro w151 u151 e151 d151
           have k154 := k_sameFilt (K := 7) (x1 := y138) (y1 := z138) (x2 := y143) (y2 := z143) d151 (hf138.ext (e142.trans (g145.ext.trans (e147.trans (g149.ext.trans e151))))) (hg138.ext (e142.trans (g145.ext.trans (e147.trans (g149.ext.trans e151))))) (hf143.ext (e147.trans (g149.ext.trans e151))) (hg143.ext (e147.trans (g149.ext.trans e151))) xq (Nat.le_trans (Nt.csP_len (fun _ => rfl)) xq) (Nat.le_trans (Nt.csP_len (fun _ => rfl)) xq)
           with_reducible refine zPm k154 ?_
           rintro _ u152 g153 rfl
           refine zza 191 (zB true) (zza 6 (zB true) (zzc 192 [(6, zB true)] [] (zzo (ret0 [.bool true] ⟨zzq, trivial⟩ fun u155 e156 => ?_))))
           rfl
      ·skip
       refine zzf (zza 81 (zI i) (zza 82 (.v x.v) (zza 83 (zI x.n) (zza 84 (zB (decide ((i : Int) < (x.n : Int)))) ?_))))
       rcases Bool.eq_false_or_eq_true (decide ((i : Int) < (x.n : Int))) with hs157 | hs157
       ·refine zyq 85 (x := zB (decide ((i : Int) < (x.n : Int)))) (zB true) (by rw [hs157]) ?_
        have qhs157 := of_decide_eq_true hs157
        refine zza 86 (zI i) ?_ (hw := w1 4 true 85)
        refine zza 87 (.v y.v) ?_ (hw := w1 4 true 85)
        refine zza 88 (zI y.n) ?_ (hw := w1 4 true 85)
        refine zza 89 (zB (decide ((i : Int) < (y.n : Int)))) ?_ (hw := w1 4 true 85)
        refine zza 90 (zB (decide ((i : Int) < (y.n : Int)))) ?_
        rcases Bool.eq_false_or_eq_true (decide ((i : Int) < (y.n : Int))) with hs158 | hs158
        ·refine zyq 91 (x := zB (decide ((i : Int) < (y.n : Int)))) (zB true) (by rw [hs158]) ?_
         have qhs158 := of_decide_eq_true hs158
         refine zza 92 (zI i) ?_ (hw := w1 10 true 91)
         refine zza 93 (zB (decide ((i : Int) < 3))) ?_ (hw := w1 10 true 91)
         refine zza 94 (zB (decide ((i : Int) < 3))) (zzc 192 [(0, .v x.v), (1, .v y.v), (12, .adr 12 0), (13, zI ((Nt.p2i (W41.b - 1)) - 1)), (14, .slc 129 0 i cp), (15, zI i), (94, zB (decide ((i : Int) < 3)))] [(12, ⟨34, W41.cs⟩), (129, ⟨32, cs⟩)] ?_)
         exact sw_weak yj (rest76 (decide ((i : Int) < 3)) _ (Ext.refl _) (by first | (exact (decide_eq_true xq).symm) | (exact (decide_eq_false xq).symm) | (rw [decide_eq_decide]; omega)))
        ·refine zyq 91 (x := zB (decide ((i : Int) < (y.n : Int)))) (zB false) (by rw [hs158]) ?_
         have qhs158 := of_decide_eq_false hs158
         refine zzn 92 (uw 10 true false 91) (zzn 93 (uw 10 true false 91) (zza 94 (zB false) (zzc 192 [(0, .v x.v), (1, .v y.v), (12, .adr 12 0), (13, zI ((Nt.p2i (W41.b - 1)) - 1)), (14, .slc 129 0 i cp), (15, zI i), (94, zB false)] [(12, ⟨34, W41.cs⟩), (129, ⟨32, cs⟩)] ?_)))
         exact sw_weak yj (rest76 false _ (Ext.refl _) (by first | (exact (decide_eq_true xq).symm) | (exact (decide_eq_false xq).symm) | (rw [decide_eq_decide]; omega)))
       ·refine zyq 85 (x := zB (decide ((i : Int) < (x.n : Int)))) (zB false) (by rw [hs157]) ?_
        have qhs157 := of_decide_eq_false hs157
        refine zzn 86 (uw 4 true false 85) (zzn 87 (uw 4 true false 85) (zzn 88 (uw 4 true false 85) (zzn 89 (uw 4 true false 85) (zza 90 (zB false) (zza 91 (zB false) (zzn 92 (uw 10 true false 91) (zzn 93 (uw 10 true false 91) (zza 94 (zB false) (zzc 192 [(0, .v x.v), (1, .v y.v), (12, .adr 12 0), (13, zI ((Nt.p2i (W41.b - 1)) - 1)), (14, .slc 129 0 i cp), (15, zI i), (94, zB false)] [(12, ⟨34, W41.cs⟩), (129, ⟨32, cs⟩)] ?_)))))))))
        exact sw_weak yj (rest76 false _ (Ext.refl _) (by first | (exact (decide_eq_true xq).symm) | (exact (decide_eq_false xq).symm) | (rw [decide_eq_decide]; omega)))
theorem w_csPairsL {u w : World} {x y : Sl} {Z D : List (List Int)} {k : Int} (d : Dat u w) (hx : IrV 3 u x Z) (hbZ : ∀ p ∈ Z, BdI p) (hy : IrV 2 u y D) (hbD : ∀ p ∈ D, BdI p) (hk0 : -9223372036854775808 ≤ k) (hk1 : k ≤ 9223372036854775807) : Calls Tryz.prog 3 #[x.v, y.v, .int .i64 k] w (Post u w fun v _ => v = .bool true) := w_csPairs d hx hy hbZ hbD hk0 hk1
end Go.Proofs.YtifcjcecmoimjaaGreat
