/- Networks of cascades, walked. Printed by wip/sym/g_kc.py. Two sections of a cascade compute what the second one does with the outputs of the first one. Formats, words, sections out of numbers; CascadeRuns. Printed by wip/sym/g_ke.py. CascadeRuns. Printed by wip/sym/g_kf.py. -/
import Derived.Test.YtdmpfhhhlhoeiaaCrnC
namespace Go.Proofs.Ytdmpfhhhlhoeiaa
open Go.RowKit
set_option linter.unusedVariables false
theorem Nt.fit7 {a b c d e f g : Bool} (h0 : a = true) (h1 : b = true) (h2 : c = true) (h3 : d = true) (h4 : e = true) (h5 : f = true) (h6 : g = true) : (a && b && c && (d && e) && (f && g)) = true := by rw [h0, h1, h2, h3, h4, h5, h6]; rfl
theorem Nt.secFit_no {W : WL} {p : List Int} (h : fitB W (p.getD 0 0) = false ∨ fitB W (p.getD 1 0) = false ∨ fitB W (p.getD 2 0) = false ∨ fitB W (p.getD 3 0) = false ∨ fitB W (-p.getD 3 0) = false ∨ fitB W (p.getD 4 0) = false ∨ fitB W (-p.getD 4 0) = false) : secFit W p = false := by
 unfold secFit
 rcases h with h | h | h | h | h | h | h <;> rw [h] <;> simp
set_option maxHeartbeats 4000000 in
theorem k_csWrong {u w : World} {x : Sl} {L : List (List Int)} {W : WL} (d : Dat u w) (hx : IrV 5 u x L) (hb : ∀ p ∈ L, ∀ z ∈ p, -9223372036854775808 ≤ z ∧ z ≤ 9223372036854775807) : Calls Try.prog 24 #[x.v, W.v] w (Post u w fun v _ => v = .int .i64 (Nt.csE W L)) := by
 have hlx := hx.len
 refine zzm (args := [.slice x.a x.n x.c, .agg #[.int .i64 W.b, .int .i64 W.f, .int .i64 W.r, .int .i64 W.o]]) Try.func24 rfl Try.ntmps24 (rs := [.tmp 4]) Try.results24 (le_b rfl) (le_b rfl) d ?_
 refine sq9 (zzk 3 ⟨27, W.cs⟩ (zza 4 (zI 0) (zzb (zzd (sq9 (zzi 11 (.v (W.v)) ty27 zze (zzg 12 23 [W.v] ?_)))))))
 intro w11 u11 e11 d11
 have k14 := k_fxValidG (W := W) d11
 with_reducible refine zPm k14 ?_
 rintro _ u12 g13 rfl
 refine zza 13 (zB (!(decide (WdOK W)))) (zzb (zzu (b := !(decide (WdOK W))) xv (fun hb15 => ?_) (fun hb15 => ?_)))
 ·replace hb15 : (!(decide (WdOK W))) = true := hb15
  have nhW : ¬ WdOK W := by simpa using hb15
  refine sq9 (zza 4 (zI 2) (zzb (zzo (zzw (ret0 [.int .i64 2] ⟨zzq, trivial⟩ fun u16 e17 => ?_)))))
  show Value.int _ _ = Value.int _ _
  rw [Nt.csE_2 nhW]
 ·replace hb15 : (!(decide (WdOK W))) = false := hb15
  have hW : WdOK W := by simpa using hb15
  refine zzs (zzp ?_)
  refine zzd (sq9 (zza 14 (.v x.v) (zza 15 (zI x.n) (zza 16 (zB (decide ((x.n : Int) < 1))) ?_))))
  rcases Bool.eq_false_or_eq_true (decide ((x.n : Int) < 1)) with hs18 | hs18
  ·refine zyq 17 (x := zB (decide ((x.n : Int) < 1))) (zB true) (by rw [hs18]) ?_
   have qhs18 := of_decide_eq_true hs18
   refine zzn 18 (uw 3 false true 17) (zzn 19 (uw 3 false true 17) (zzn 20 (uw 3 false true 17) (zza 21 (zB true) (zzb (zyr xv (sq9 (zza 4 (zI 1) (zzb (zzo (zzw (ret0 [.int .i64 1] ⟨zzq, trivial⟩ fun u19 e20 => ?_)))))))))))
   show Value.int _ _ = Value.int _ _
   rw [Nt.csE_1 hW xq]
  ·refine zyq 17 (x := zB (decide ((x.n : Int) < 1))) (zB false) (by rw [hs18]) ?_
   have qhs18 := of_decide_eq_false hs18
   refine zza 18 (.v x.v) ?_ (hw := w1 3 false 17)
   refine zza 19 (zI x.n) ?_ (hw := w1 3 false 17)
   refine zza 20 (zB (decide ((8 : Int) < (x.n : Int)))) ?_ (hw := w1 3 false 17)
   refine zza 21 (zB (decide ((8 : Int) < (x.n : Int)))) (zzb (zzu (b := decide ((8 : Int) < (x.n : Int))) xv (fun hb21 => ?_) (fun hb21 => ?_)))
   ·replace hb21 : (decide ((8 : Int) < (x.n : Int))) = true := hb21
    have qhb21 := of_decide_eq_true hb21
    refine sq9 (zza 4 (zI 1) (zzb (zzo (zzw (ret0 [.int .i64 1] ⟨zzq, trivial⟩ fun u22 e23 => ?_)))))
    show Value.int _ _ = Value.int _ _
    rw [Nt.csE_1 hW xq]
   ·replace hb21 : (decide ((8 : Int) < (x.n : Int))) = false := hb21
    have qhb21 := of_decide_eq_false hb21
    refine zzs (zzp ?_)
    refine zzd (sq9 (zza 22 (.v x.v) (zza 23 (zI x.n) (zza 24 (zI 0) (zzb (zzt (zyn (I := fun m24 S' u' => ∃ (i : Nat), (m24 = x.n - i) ∧ (i ≤ x.n) ∧ (∀ j, j < i → Nt.secFit W (L.getD j []) = true) ∧ (S' = St.of 56 [(3, .adr 3 0), (22, .v (.slice x.a x.n x.c)), (23, zI x.n), (24, zI i)] [(3, ⟨27, [.int .i64 W.b, .int .i64 W.f, .int .i64 W.r, .int .i64 W.o]⟩)]) ∧ (Ext u12 u')) (fun m S u1 u2 e h => by obtain ⟨i, hm, p0, p1, hS, hE⟩ := h; exact ⟨i, hm, p0, p1, hS, hE.trans e⟩) _ yj ⟨0, rfl, Nat.zero_le _, (fun j hj => absurd hj (Nat.not_lt_zero j)), rfl, (Ext.refl _)⟩ ?_)))))))
    rintro m24 _ u24 ⟨i, hm24, hi, hs, rfl, e24⟩
    refine sq9 (zza 25 (zB (decide ((i : Int) < (x.n : Int)))) (zzb (zzd (zzu (b := decide ((i : Int) < (x.n : Int))) xv (fun hb25 => ?_) (fun hb25 => ?_)))))
    ·replace hb25 : (decide ((i : Int) < (x.n : Int))) = true := hb25
     have qhb25 := of_decide_eq_true hb25
     refine zzs (zzp ?_)
     refine zzd (zzt (sq9 ?_))
     have hl26 := ((hx.ext (e11.trans (g13.ext.trans e24)))).len
     obtain ⟨b26, o26, hA26, hc26⟩ := ir_at5 (hx.ext (e11.trans (g13.ext.trans e24))) (i := i) xq
     refine zya 26 (o26 + i * 5) (n := x.n) (off := o26) (sz := 5) (i := (i : Int)) xq hA26 xq xq sl29 (zym 27 [.int .i64 (gi L i 0), .int .i64 (gi L i 1), .int .i64 (gi L i 2), .int .i64 (gi L i 3), .int .i64 (gi L i 4)] hc26 ty59 (zzk 6 ⟨59, [.int .i64 0, .int .i64 0, .int .i64 0, .int .i64 0, .int .i64 0]⟩ (zzj ⟨59, [.int .i64 (gi L i 0), .int .i64 (gi L i 1), .int .i64 (gi L i 2), .int .i64 (gi L i 3), .int .i64 (gi L i 4)]⟩ ty59 ?_)))
     refine zzb (zzd (sq9 (zza 28 (.adr 6 0) (zzi 29 (.v (.agg #[.int .i64 (gi L i 0), .int .i64 (gi L i 1), .int .i64 (gi L i 2)])) ty54 zze (zza 30 (zI 0) (zzb (zzt (sw_rounds 3 ?_))))))))
     refine sq9 (zza 31 (zB true) (zzb (zzd (zyr xv (zzs (zzp ?_))))))
     refine zzd (zzt (sq9 (zza 32 (zI (gi L i 0)) (zza 8 (zI (gi L i 0)) (zzb (sq9 (zzi 33 (.v (W.v)) ty27 zze (zza 34 (zI (gi L i 0)) (zzg 35 43 [W.v, .int .i64 (gi L i 0)] ?_)))))))))
     intro w27 u27 e27 d27
     have k30 := k_fxFitsG (W := W) (z := gi L i 0) d27 hW
     with_reducible refine zPm k30 ?_
     rintro _ u28 g29 rfl
     refine zza 36 (zB (!(Nt.fitB W (gi L i 0)))) (zzc 56 [(3, .adr 3 0), (6, .adr 6 0), (22, .v x.v), (23, zI x.n), (24, zI i), (29, .v (.agg #[.int .i64 (gi L i 0), .int .i64 (gi L i 1), .int .i64 (gi L i 2)])), (30, zI 0), (36, zB (!(Nt.fitB W (gi L i 0))))] [(3, ⟨27, W.cs⟩), (6, ⟨59, [.int .i64 (gi L i 0), .int .i64 (gi L i 1), .int .i64 (gi L i 2), .int .i64 (gi L i 3), .int .i64 (gi L i 4)]⟩)] (zzu (b := !(Nt.fitB W (gi L i 0))) xv (fun hb31 => ?_) (fun hb31 => ?_)))
     ·replace hb31 : (!(Nt.fitB W (gi L i 0))) = true := hb31
      have qhb31 := hb31
      simp at qhb31
      refine sq9 (zza 4 (zI 17) (zzb (zzo (zyu (zzw (mpr_rn (zyu (zzw (zyu (zzw (zyt (zyu (zzw (ret0 [.int .i64 17] ⟨zzq, trivial⟩ fun u32 e33 => ?_))))))))))))))
      show Value.int _ _ = Value.int _ _
      rw [Nt.csE_17 hW xq xq (i := i) xq (Nt.secFit_no (.inl qhb31))]
     ·replace hb31 : (!(Nt.fitB W (gi L i 0))) = false := hb31
      have qhb31 := hb31
      simp at qhb31
      have rhb31 := Nt.fit_iff.1 qhb31
      have hp9 := Nt.p2i_24 (n := W.b - 1) (by have h9 := hW; unfold WdOK at h9; omega)
      refine zzs (zzp ?_)
      refine zzf (zza 37 (zI 1) (zza 30 (zI 1) (zzx ?_)))
      refine rn_next ?_
      refine sw_weak (T := St.of 56 [(3, .adr 3 0), (6, .adr 6 0), (22, .v (.slice x.a x.n x.c)), (23, zI x.n), (24, zI i), (29, .v (.agg #[.int .i64 (gi L i 0), .int .i64 (gi L i 1), .int .i64 (gi L i 2)])), (30, zI 1)] [(3, ⟨27, [.int .i64 W.b, .int .i64 W.f, .int .i64 W.r, .int .i64 W.o]⟩), (6, ⟨59, [.int .i64 (gi L i 0), .int .i64 (gi L i 1), .int .i64 (gi L i 2), .int .i64 (gi L i 3), .int .i64 (gi L i 4)]⟩)]) yj ?_
      refine sq9 (zza 31 (zB true) (zzb (zzd (zyr xv (zzs (zzp ?_))))))
      refine zzd (zzt (sq9 (zza 32 (zI (gi L i 1)) (zza 8 (zI (gi L i 1)) (zzb (sq9 (zzi 33 (.v (W.v)) ty27 zze (zza 34 (zI (gi L i 1)) (zzg 35 43 [W.v, .int .i64 (gi L i 1)] ?_)))))))))
      intro w34 u34 e34 d34
      have k37 := k_fxFitsG (W := W) (z := gi L i 1) d34 hW
      with_reducible refine zPm k37 ?_
      rintro _ u35 g36 rfl
      refine zza 36 (zB (!(Nt.fitB W (gi L i 1)))) (zzb (zzu (b := !(Nt.fitB W (gi L i 1))) xv (fun hb38 => ?_) (fun hb38 => ?_)))
      ·replace hb38 : (!(Nt.fitB W (gi L i 1))) = true := hb38
       have qhb38 := hb38
       simp at qhb38
       refine sq9 (zza 4 (zI 17) (zzb (zzo (zyu (zzw (mpr_rn (zyu (zzw (zyu (zzw (zyt (zyu (zzw (ret0 [.int .i64 17] ⟨zzq, trivial⟩ fun u39 e40 => ?_))))))))))))))
       show Value.int _ _ = Value.int _ _
       rw [Nt.csE_17 hW xq xq (i := i) xq (Nt.secFit_no (.inr (.inl qhb38)))]
      ·replace hb38 : (!(Nt.fitB W (gi L i 1))) = false := hb38
       have qhb38 := hb38
       simp at qhb38
       have rhb38 := Nt.fit_iff.1 qhb38
       have hp9 := Nt.p2i_24 (n := W.b - 1) (by have h9 := hW; unfold WdOK at h9; omega)
       refine zzs (zzp ?_)
       refine zzf (zza 37 (zI 2) (zza 30 (zI 2) (zzx ?_)))
       refine rn_next ?_
       refine sw_weak (T := St.of 56 [(3, .adr 3 0), (6, .adr 6 0), (22, .v (.slice x.a x.n x.c)), (23, zI x.n), (24, zI i), (29, .v (.agg #[.int .i64 (gi L i 0), .int .i64 (gi L i 1), .int .i64 (gi L i 2)])), (30, zI 2)] [(3, ⟨27, [.int .i64 W.b, .int .i64 W.f, .int .i64 W.r, .int .i64 W.o]⟩), (6, ⟨59, [.int .i64 (gi L i 0), .int .i64 (gi L i 1), .int .i64 (gi L i 2), .int .i64 (gi L i 3), .int .i64 (gi L i 4)]⟩)]) yj ?_
       refine sq9 (zza 31 (zB true) (zzb (zzd (zyr xv (zzs (zzp ?_))))))
       refine zzd (zzt (sq9 (zza 32 (zI (gi L i 2)) (zza 8 (zI (gi L i 2)) (zzb (sq9 (zzi 33 (.v (W.v)) ty27 zze (zza 34 (zI (gi L i 2)) (zzg 35 43 [W.v, .int .i64 (gi L i 2)] ?_)))))))))
       intro w41 u41 e41 d41
       have k44 := k_fxFitsG (W := W) (z := gi L i 2) d41 hW
       with_reducible refine zPm k44 ?_
       rintro _ u42 g43 rfl
       refine zza 36 (zB (!(Nt.fitB W (gi L i 2)))) (zzb (zzu (b := !(Nt.fitB W (gi L i 2))) xv (fun hb45 => ?_) (fun hb45 => ?_)))
       ·replace hb45 : (!(Nt.fitB W (gi L i 2))) = true := hb45
        have qhb45 := hb45
        simp at qhb45
        refine sq9 (zza 4 (zI 17) (zzb (zzo (zyu (zzw (mpr_rn (zyu (zzw (zyu (zzw (zyt (zyu (zzw (ret0 [.int .i64 17] ⟨zzq, trivial⟩ fun u46 e47 => ?_))))))))))))))
        show Value.int _ _ = Value.int _ _
        rw [Nt.csE_17 hW xq xq (i := i) xq (Nt.secFit_no (.inr (.inr (.inl qhb45))))]
       ·replace hb45 : (!(Nt.fitB W (gi L i 2))) = false := hb45
        have qhb45 := hb45
        simp at qhb45
        have rhb45 := Nt.fit_iff.1 qhb45
        have hp9 := Nt.p2i_24 (n := W.b - 1) (by have h9 := hW; unfold WdOK at h9; omega)
        refine zzs (zzp ?_)
        refine zzf (zza 37 (zI 3) (zza 30 (zI 3) (zzx ?_)))
        refine rn_next ?_
        refine sw_weak (T := St.of 56 [(3, .adr 3 0), (6, .adr 6 0), (22, .v (.slice x.a x.n x.c)), (23, zI x.n), (24, zI i), (29, .v (.agg #[.int .i64 (gi L i 0), .int .i64 (gi L i 1), .int .i64 (gi L i 2)])), (30, zI 3)] [(3, ⟨27, [.int .i64 W.b, .int .i64 W.f, .int .i64 W.r, .int .i64 W.o]⟩), (6, ⟨59, [.int .i64 (gi L i 0), .int .i64 (gi L i 1), .int .i64 (gi L i 2), .int .i64 (gi L i 3), .int .i64 (gi L i 4)]⟩)]) yj ?_
        refine sq9 (zza 31 (zB false) (zzb (zzd (zys xv (zyc (zzp (sq9 (zza 38 (.adr 6 3) (zzi 39 (.v (.agg #[.int .i64 (gi L i 3), .int .i64 (gi L i 4)])) ty56 zze (zza 40 (zI 0) (zzb ?_)))))))))))
        refine zzt (sw_rounds 2 ?_)
        refine sq9 (zza 41 (zB true) (zzb (zzd (zyr xv (zzs (zzp ?_))))))
        refine zzd (zzt (sq9 (zza 42 (zI (gi L i 3)) (zza 10 (zI (gi L i 3)) (zzb (sq9 (zzi 43 (.v (W.v)) ty27 zze (zza 44 (zI (gi L i 3)) (zzg 45 43 [W.v, .int .i64 (gi L i 3)] ?_)))))))))
        intro w48 u48 e48 d48
        have k51 := k_fxFitsG (W := W) (z := gi L i 3) d48 hW
        with_reducible refine zPm k51 ?_
        rintro _ u49 g50 rfl
        refine zza 46 (zB (!(Nt.fitB W (gi L i 3)))) ?_
        rcases Bool.eq_false_or_eq_true (!(Nt.fitB W (gi L i 3))) with hs52 | hs52
        ·refine zyq 47 (x := zB (!(Nt.fitB W (gi L i 3)))) (zB true) (by rw [hs52]) ?_
         have qhs52 := hs52
         simp at qhs52
         refine zzn 48 (uw 4 false true 47) (zzn 49 (uw 4 false true 47) (zzn 50 (uw 4 false true 47) (zzn 51 (uw 4 false true 47) (zzn 52 (uw 4 false true 47) (zza 53 (zB true) (zzc 56 [(3, .adr 3 0), (22, .v x.v), (23, zI x.n), (24, zI i), (39, .v (.agg #[.int .i64 (gi L i 3), .int .i64 (gi L i 4)])), (40, zI 0), (53, zB true)] [(3, ⟨27, W.cs⟩)] (zyr xv (sq9 (zza 4 (zI 17) (zzb (zzo (zyu (zzw (mpr_rn (zyu (zyu (zzw (zyt (zyu (zzw (ret0 [.int .i64 17] ⟨zzq, trivial⟩ fun u53 e54 => ?_)))))))))))))))))))))
         show Value.int _ _ = Value.int _ _
         rw [Nt.csE_17 hW xq xq (i := i) xq (Nt.secFit_no (.inr (.inr (.inr (.inl qhs52)))))]
        ·refine zyq 47 (x := zB (!(Nt.fitB W (gi L i 3)))) (zB false) (by rw [hs52]) ?_
         have qhs52 := hs52
         simp at qhs52
         have rhs52 := Nt.fit_iff.1 qhs52
         have hp9 := Nt.p2i_24 (n := W.b - 1) (by have h9 := hW; unfold WdOK at h9; omega)
         refine zzi 48 (.v (W.v)) ty27 zze ?_ (hw := w1 4 false 47)
         refine zza 49 (zI (gi L i 3)) ?_ (hw := w1 4 false 47)
         refine zyq 50 (x := zI (IntKind.i64.wrap (0 - (gi L i 3)))) (zI (-(gi L i 3))) (eqI xk) ?_ (hw := w1 4 false 47)
         refine zzg 51 43 [W.v, .int .i64 (-(gi L i 3))] ?_ (hw := w1 4 false 47)
         intro w55 u55 e55 d55
         have k58 := k_fxFitsG (W := W) (z := -(gi L i 3)) d55 hW
         with_reducible refine zPm k58 ?_
         rintro _ u56 g57 rfl
         refine zza 52 (zB (!(Nt.fitB W (-(gi L i 3))))) ?_ (hw := w1 4 false 47)
         refine zza 53 (zB (!(Nt.fitB W (-(gi L i 3))))) (zzc 56 [(3, .adr 3 0), (22, .v x.v), (23, zI x.n), (24, zI i), (39, .v (.agg #[.int .i64 (gi L i 3), .int .i64 (gi L i 4)])), (40, zI 0), (53, zB (!(Nt.fitB W (-(gi L i 3)))))] [(3, ⟨27, W.cs⟩)] (zzu (b := !(Nt.fitB W (-(gi L i 3)))) xv (fun hb59 => ?_) (fun hb59 => ?_)))
         ·replace hb59 : (!(Nt.fitB W (-(gi L i 3)))) = true := hb59
          have qhb59 := hb59
          simp at qhb59
          refine sq9 (zza 4 (zI 17) (zzb (zzo (zyu (zzw (mpr_rn (zyu (zyu (zzw (zyt (zyu (zzw (ret0 [.int .i64 17] ⟨zzq, trivial⟩ fun u60 e61 => ?_)))))))))))))
          show Value.int _ _ = Value.int _ _
          rw [Nt.csE_17 hW xq xq (i := i) xq (Nt.secFit_no (.inr (.inr (.inr (.inr (.inl qhb59))))))]
         ·replace hb59 : (!(Nt.fitB W (-(gi L i 3)))) = false := hb59
          have qhb59 := hb59
          simp at qhb59
          have rhb59 := Nt.fit_iff.1 qhb59
          have hp9 := Nt.p2i_24 (n := W.b - 1) (by have h9 := hW; unfold WdOK at h9; omega)
          refine zzs (zzp ?_)
          refine zzf (zza 54 (zI 1) (zza 40 (zI 1) (zzx ?_)))
          refine rn_next ?_
          refine sw_weak (T := St.of 56 [(3, .adr 3 0), (22, .v (.slice x.a x.n x.c)), (23, zI x.n), (24, zI i), (39, .v (.agg #[.int .i64 (gi L i 3), .int .i64 (gi L i 4)])), (40, zI 1)] [(3, ⟨27, [.int .i64 W.b, .int .i64 W.f, .int .i64 W.r, .int .i64 W.o]⟩)]) yj ?_
          refine sq9 (zza 41 (zB true) (zzb (zzd (zyr xv (zzs (zzp ?_))))))
          refine zzd (zzt (sq9 (zza 42 (zI (gi L i 4)) (zza 10 (zI (gi L i 4)) (zzb (sq9 (zzi 43 (.v (W.v)) ty27 zze (zza 44 (zI (gi L i 4)) (zzg 45 43 [W.v, .int .i64 (gi L i 4)] ?_)))))))))
          intro w62 u62 e62 d62
          have k65 := k_fxFitsG (W := W) (z := gi L i 4) d62 hW
          with_reducible refine zPm k65 ?_
          rintro _ u63 g64 rfl
          refine zza 46 (zB (!(Nt.fitB W (gi L i 4)))) ?_
          rcases Bool.eq_false_or_eq_true (!(Nt.fitB W (gi L i 4))) with hs66 | hs66
          ·refine zyq 47 (x := zB (!(Nt.fitB W (gi L i 4)))) (zB true) (by rw [hs66]) ?_
           have qhs66 := hs66
           simp at qhs66
           refine zzn 48 (uw 4 false true 47) (zzn 49 (uw 4 false true 47) (zzn 50 (uw 4 false true 47) (zzn 51 (uw 4 false true 47) (zzn 52 (uw 4 false true 47) (zza 53 (zB true) (zzb (zyr xv (sq9 (zza 4 (zI 17) (zzb (zzo (zyu (zzw (mpr_rn (zyu (zyu (zzw (zyt (zyu (zzw (ret0 [.int .i64 17] ⟨zzq, trivial⟩ fun u67 e68 => ?_)))))))))))))))))))))
           show Value.int _ _ = Value.int _ _
           rw [Nt.csE_17 hW xq xq (i := i) xq (Nt.secFit_no (.inr (.inr (.inr (.inr (.inr (.inl qhs66)))))))]
          ·refine zyq 47 (x := zB (!(Nt.fitB W (gi L i 4)))) (zB false) (by rw [hs66]) ?_
           have qhs66 := hs66
           simp at qhs66
           have rhs66 := Nt.fit_iff.1 qhs66
           have hp9 := Nt.p2i_24 (n := W.b - 1) (by have h9 := hW; unfold WdOK at h9; omega)
           refine zzi 48 (.v (W.v)) ty27 zze ?_ (hw := w1 4 false 47)
           refine zza 49 (zI (gi L i 4)) ?_ (hw := w1 4 false 47)
           refine zyq 50 (x := zI (IntKind.i64.wrap (0 - (gi L i 4)))) (zI (-(gi L i 4))) (eqI xk) ?_ (hw := w1 4 false 47)
           refine zzg 51 43 [W.v, .int .i64 (-(gi L i 4))] ?_ (hw := w1 4 false 47)
           intro w69 u69 e69 d69
           have k72 := k_fxFitsG (W := W) (z := -(gi L i 4)) d69 hW
           with_reducible refine zPm k72 ?_
           rintro _ u70 g71 rfl
           refine zza 52 (zB (!(Nt.fitB W (-(gi L i 4))))) ?_ (hw := w1 4 false 47)
           refine zza 53 (zB (!(Nt.fitB W (-(gi L i 4))))) (zzb (zzu (b := !(Nt.fitB W (-(gi L i 4)))) xv (fun hb73 => ?_) (fun hb73 => ?_)))
           ·replace hb73 : (!(Nt.fitB W (-(gi L i 4)))) = true := hb73
            have qhb73 := hb73
            simp at qhb73
            refine sq9 (zza 4 (zI 17) (zzb (zzo (zyu (zzw (mpr_rn (zyu (zyu (zzw (zyt (zyu (zzw (ret0 [.int .i64 17] ⟨zzq, trivial⟩ fun u74 e75 => ?_)))))))))))))
            show Value.int _ _ = Value.int _ _
            rw [Nt.csE_17 hW xq xq (i := i) xq (Nt.secFit_no (.inr (.inr (.inr (.inr (.inr (.inr (qhb73))))))))]
           ·replace hb73 : (!(Nt.fitB W (-(gi L i 4)))) = false := hb73
            have qhb73 := hb73
            simp at qhb73
            have rhb73 := Nt.fit_iff.1 qhb73
            have hp9 := Nt.p2i_24 (n := W.b - 1) (by have h9 := hW; unfold WdOK at h9; omega)
            refine zzs (zzp ?_)
            refine zzf (zza 54 (zI 2) (zza 40 (zI 2) (zzx ?_)))
            refine rn_next ?_
            refine sw_weak (T := St.of 56 [(3, .adr 3 0), (22, .v (.slice x.a x.n x.c)), (23, zI x.n), (24, zI i), (39, .v (.agg #[.int .i64 (gi L i 3), .int .i64 (gi L i 4)])), (40, zI 2)] [(3, ⟨27, [.int .i64 W.b, .int .i64 W.f, .int .i64 W.r, .int .i64 W.o]⟩)]) yj ?_
            refine sq9 (zza 41 (zB false) (zzb (zzd (zys xv (zyc (zzp (zzf (zyq 55 (x := zI (IntKind.i64.wrap ((i : Int) + 1))) (zI (i + 1 : Nat)) (eqI xk) (zza 24 (zI (i + 1 : Nat)) (zzx ?_))))))))))
            refine ⟨_, ?_, _, by exact zzv _ _ _, i + 1, rfl, by omega, (fun j hj => by by_cases e : j = i; (rw [e]; unfold Nt.secFit; exact Nt.fit7 qhb31 qhb38 qhb45 qhs52 qhb59 qhs66 qhb73); exact hs j xq), rfl, (e24.trans (e27.trans (g29.ext.trans (e34.trans (g36.ext.trans (e41.trans (g43.ext.trans (e48.trans (g50.ext.trans (e55.trans (g57.ext.trans (e62.trans (g64.ext.trans (e69.trans g71.ext))))))))))))))⟩
            omega
    ·replace hb25 : (decide ((i : Int) < (x.n : Int))) = false := hb25
     have qhb25 := of_decide_eq_false hb25
     refine zyc (zzp (sq9 (zza 4 (zI 0) (zzb (zzo (ret0 [.int .i64 0] ⟨zzq, trivial⟩ fun u76 e77 => ?_))))))
     show Value.int _ _ = Value.int _ _
     rw [Nt.csE_0 hW xq xq (fun i hi => hs i xq)]
set_option maxHeartbeats 8000000 in
theorem k_csBuild {u w : World} {x : Sl} {L : List (List Int)} {D W : WL} (d : Dat u w) (hD : WdOK D) (hE : Nt.csE W L = 0) (hx : IrV 5 u x L) (hb : ∀ p ∈ L, ∀ z ∈ p, -9223372036854775808 ≤ z ∧ z ≤ 9223372036854775807) : Calls Try.prog 10 #[x.v, D.v, W.v] w (Post u w fun v u' => ∃ (y z : Sl), v = .tuple #[.agg #[.int .i64 D.b, .int .i64 D.f, .int .i64 D.r, .int .i64 D.o, .int .i64 W.b, .int .i64 W.f, .int .i64 W.r, .int .i64 W.o, .int .i64 ((2 + 2 * L.length : Nat) : Int), y.v, z.v, .int .i64 ((2 + 2 * L.length + L.length : Nat) : Int)], .int .i64 0] ∧ (∃ h, NodesB 0 h u' y (Nt.csNodes L.length L L.length)) ∧ MutL 1 3 0 u' z (ics (Nt.csNext L.length L.length))) := by
 obtain ⟨hW, h1, h8, hall⟩ := Nt.csE_ok hE
 have hlx := hx.len
 obtain ⟨hw1, hw2, hw3, hw4, hw5, hw6, hw7, hw8⟩ := id hW
 have hp24 := Nt.p2i_24 (n := W.b - 1) xq
 refine zzm (args := [.slice x.a x.n x.c, .agg #[.int .i64 D.b, .int .i64 D.f, .int .i64 D.r, .int .i64 D.o], .agg #[.int .i64 W.b, .int .i64 W.f, .int .i64 W.r, .int .i64 W.o]]) Try.func10 rfl Try.ntmps10 (rs := [.cell 6 34, .tmp 7]) Try.results10 (le_b rfl) (le_b rfl) d ?_
 refine sq9 (zzk 4 ⟨27, D.cs⟩ (zzk 5 ⟨27, W.cs⟩ (zzk 6 ⟨34, [.int .i64 0, .int .i64 0, .int .i64 0, .int .i64 0, .int .i64 0, .int .i64 0, .int .i64 0, .int .i64 0, .int .i64 0, .slice none 0 0, .slice none 0 0, .int .i64 0]⟩ (zza 7 (zI 0) (zzb (zzd (sq9 (zzi 21 (.v (D.v)) ty27 zze (zzg 22 23 [D.v] ?_)))))))))
 intro w11 u11 e11 d11
 have k14 := k_fxValid (W := D) d11 hD
 with_reducible refine zPm k14 ?_
 rintro _ u12 g13 rfl
 refine zza 23 (zB false) (zzb (zys xv (zzs (zzp ?_))))
 refine zzd (sq9 (zza 25 (.v x.v) (zzi 26 (.v (W.v)) ty27 zze (zzg 27 24 [x.v, W.v] ?_))))
 intro w15 u15 e15 d15
 have k18 := (Post.mono (Ψ := fun v _ => v = .int .i64 0) (k_csWrong (W := W) d15 (hx.ext (e11.trans (g13.ext.trans e15))) hb) (fun v u9 _ h => by rw [hE] at h; exact h))
 with_reducible refine zPm k18 ?_
 rintro _ u16 g17 rfl
 refine zza 8 (zI 0) (zzb (sq9 (zza 28 (zI 0) (zza 29 (zB false) (zzb (zys xv (zzs (zzp ?_))))))))
 refine sq9 (zza 32 (.v x.v) (zza 33 (zI x.n) (zyq 34 (x := zI (IntKind.i64.wrap ((2 : Int) * (x.n : Int)))) (zI (2 * x.n : Nat)) (eqI xk) (zyq 35 (x := zI (IntKind.i64.wrap ((2 : Int) + ((2 * x.n : Nat) : Int)))) (zI ((2 + (2 * x.n) : Nat) : Int)) (eqI xk) (zza 9 (zI ((2 + (2 * x.n) : Nat) : Int)) (zzb (sq9 (zzi 36 (.v (D.v)) ty27 zze (zzi 37 (.v (W.v)) ty27 zze (zza 38 (zI ((2 + (2 * x.n) : Nat) : Int)) (sy_dataF 39 ⟨3, [.int .i64 0, .int .i64 1]⟩ 2 (fun b19 u19 e19 h19 f19 g19 => ?_))))))))))))
 have hm20 : MutL 1 3 u.heap.size u19 (⟨some ⟨b19, 0, none⟩, 2, 2⟩ : Sl) (ics [0, 1]) := MutL.lit h19 rfl yq f19
 refine zza 40 (zI ((2 + (2 * x.n) : Nat) : Int)) (zza 41 (.v x.v) (zza 42 (zI x.n) (zyq 43 (x := zI (IntKind.i64.wrap (((2 + (2 * x.n) : Nat) : Int) + (x.n : Int)))) (zI (((2 + (2 * x.n)) + x.n : Nat) : Int)) (eqI xk) (zza 44 (.v (.agg #[.int .i64 D.b, .int .i64 D.f, .int .i64 D.r, .int .i64 D.o, .int .i64 W.b, .int .i64 W.f, .int .i64 W.r, .int .i64 W.o, .int .i64 ((2 + (2 * x.n) : Nat) : Int), .slice none 0 0, .slice (some ⟨b19, 0, none⟩) 2 2, .int .i64 (((2 + (2 * x.n)) + x.n : Nat) : Int)])) (zzk 10 ⟨34, [.int .i64 0, .int .i64 0, .int .i64 0, .int .i64 0, .int .i64 0, .int .i64 0, .int .i64 0, .int .i64 0, .int .i64 0, .slice none 0 0, .slice none 0 0, .int .i64 0]⟩ (zzj ⟨34, [.int .i64 D.b, .int .i64 D.f, .int .i64 D.r, .int .i64 D.o, .int .i64 W.b, .int .i64 W.f, .int .i64 W.r, .int .i64 W.o, .int .i64 ((2 + (2 * x.n) : Nat) : Int), .slice none 0 0, .slice (some ⟨b19, 0, none⟩) 2 2, .int .i64 (((2 + (2 * x.n)) + x.n : Nat) : Int)]⟩ ty34 ?_))))))
 refine zzb (sq9 (zza 45 (.v (.agg #[.int .i64 0, .int .i64 1, .int .i64 2])) (zzk 11 ⟨54, [.int .i64 0, .int .i64 0, .int .i64 0]⟩ (zzj ⟨54, [.int .i64 0, .int .i64 1, .int .i64 2]⟩ ty54 ?_))))
 refine zzc 113 [(0, .v x.v), (6, .adr 6 0), (9, zI ((2 + (2 * x.n) : Nat) : Int)), (10, .adr 10 0), (11, .adr 11 0)] [(6, ⟨34, [.int .i64 0, .int .i64 0, .int .i64 0, .int .i64 0, .int .i64 0, .int .i64 0, .int .i64 0, .int .i64 0, .int .i64 0, .slice none 0 0, .slice none 0 0, .int .i64 0]⟩), (10, ⟨34, [.int .i64 D.b, .int .i64 D.f, .int .i64 D.r, .int .i64 D.o, .int .i64 W.b, .int .i64 W.f, .int .i64 W.r, .int .i64 W.o, .int .i64 ((2 + (2 * x.n) : Nat) : Int), .slice none 0 0, .slice (some ⟨b19, 0, none⟩) 2 2, .int .i64 (((2 + (2 * x.n)) + x.n : Nat) : Int)]⟩), (11, ⟨54, [.int .i64 0, .int .i64 1, .int .i64 2]⟩)] (zzd (sq9 (zza 46 (.v x.v) (zza 47 (zI x.n) (zza 48 (zI 0) (zzb (zzt (zyn (I := fun m21 S' u' => ∃ (i : Nat) (hz : Nat) (X : Sl) (Y : Sl) (F0 : Int) (F1 : Int) (F2 : Int), (m21 = x.n - i) ∧ (i ≤ x.n) ∧ (F0 = Nt.csF0 x.n i) ∧ (F1 = ((1 + 2 * i : Nat) : Int)) ∧ (F2 = ((2 + 2 * i : Nat) : Int)) ∧ (S' = St.of 113 [(6, .adr 6 0), (9, zI ((2 + (2 * x.n) : Nat) : Int)), (10, .adr 10 0), (11, .adr 11 0), (46, .v (.slice x.a x.n x.c)), (47, zI x.n), (48, zI i)] [(6, ⟨34, [.int .i64 0, .int .i64 0, .int .i64 0, .int .i64 0, .int .i64 0, .int .i64 0, .int .i64 0, .int .i64 0, .int .i64 0, .slice none 0 0, .slice none 0 0, .int .i64 0]⟩), (10, ⟨34, [.int .i64 D.b, .int .i64 D.f, .int .i64 D.r, .int .i64 D.o, .int .i64 W.b, .int .i64 W.f, .int .i64 W.r, .int .i64 W.o, .int .i64 (2 + 2 * x.n : Nat), .slice X.a X.n X.c, .slice Y.a Y.n Y.c, .int .i64 (2 + 2 * x.n + x.n : Nat)]⟩), (11, ⟨54, [.int .i64 F0, .int .i64 F1, .int .i64 F2]⟩)]) ∧ (Ext u u') ∧ (NodesB u.heap.size hz u' X (Nt.csNodes x.n L i)) ∧ (MutL 1 3 u.heap.size u' Y (ics (Nt.csNext x.n i)))) (fun m S u1 u2 e h => by obtain ⟨i, hz, X, Y, F0, F1, F2, hm, p0, p1, p2, p3, hS, hE, f0, f1⟩ := h; exact ⟨i, hz, X, Y, F0, F1, F2, hm, p0, p1, p2, p3, hS, hE.trans e, f0.ext e, f1.ext e⟩) _ yj ⟨0, u.heap.size, ⟨none, 0, 0⟩, (⟨some ⟨b19, 0, none⟩, 2, 2⟩ : Sl), 0, ((1 : Nat) : Int), ((2 : Nat) : Int), rfl, Nat.zero_le _, rfl, rfl, rfl, rfl, (e11.trans (g13.ext.trans (e15.trans (g17.ext.trans e19)))), NodesB.nil _ _ _, hm20⟩ ?_))))))))
 rintro m21 _ u21 ⟨i, hz, X, Y, F0, F1, F2, hm21, hi, hF0, hF1, hF2, rfl, e21, hN, hY⟩
 have hNl := hN.len
 rw [Nt.csNodes_len] at hNl
 have hYl := hY.1
 rw [zwe, Nt.csNext_len, Nat.mul_one] at hYl
 refine sq9 (zza 49 (zB (decide ((i : Int) < (x.n : Int)))) (zzb (zzd (zzu (b := decide ((i : Int) < (x.n : Int))) xv (fun hb22 => ?_) (fun hb22 => ?_)))))
 ·replace hb22 : (decide ((i : Int) < (x.n : Int))) = true := hb22
  have qhb22 := of_decide_eq_true hb22
  refine zzs (zzp ?_)
  refine zzd (zzt (sq9 (zza 50 (zI i) ?_)))
  have hl23 := ((hx.ext e21)).len
  obtain ⟨b23, o23, hA23, hc23⟩ := ir_at5 (hx.ext e21) (i := i) xq
  refine zya 51 (o23 + i * 5) (n := x.n) (off := o23) (sz := 5) (i := (i : Int)) xq hA23 xq xq sl29 (zym 52 [.int .i64 (gi L i 0), .int .i64 (gi L i 1), .int .i64 (gi L i 2), .int .i64 (gi L i 3), .int .i64 (gi L i 4)] hc23 ty59 (zzk 13 ⟨59, [.int .i64 0, .int .i64 0, .int .i64 0, .int .i64 0, .int .i64 0]⟩ (zza 12 (zI i) (zzj ⟨59, [.int .i64 (gi L i 0), .int .i64 (gi L i 1), .int .i64 (gi L i 2), .int .i64 (gi L i 3), .int .i64 (gi L i 4)]⟩ ty59 ?_))))
  refine zzb (zzd ?_)
  have hsf := hall i xq
  have hbd := Nt.secFit_ok hsf
  have hbd0 := hbd 0 xw
  have hbd1 := hbd 1 xw
  have hbd2 := hbd 2 xw
  have hbd3 := hbd 3 xw
  have hbd4 := hbd 4 xw
  refine zzf (zza 53 (zI i) (zyq 54 (x := zI (IntKind.i64.wrap ((2 : Int) * (i : Int)))) (zI (2 * i : Nat)) (eqI xk) (zyq 55 (x := zI (IntKind.i64.wrap ((3 : Int) + ((2 * i : Nat) : Int)))) (zI ((3 + (2 * i) : Nat) : Int)) (eqI xk) (zza 14 (zI ((3 + (2 * i) : Nat) : Int)) (zzb (sq9 (sy_makeC 56 (T := 68) (E := 70) (z := .agg #[.int .i64 0, .int .i64 0]) (size := 2) (bytes := 16) 0 5 (tcs (List.replicate 5 tl0)) xv xv rfl rfl xw xw (by unfold maxLen; decide) xv ?_)))))))
  have hc24 : (tcs (List.replicate 5 tl0)).length = 5 * 2 := rfl
  have hmx24 : 5 ≤ maxLen := by unfold maxLen; decide
  have ht24 : (tcs (List.replicate 5 tl0)).take (0 * 2) = tcs [] := rfl
  refine zza 15 (.slc 56 0 0 5) (zzc 113 [(6, .adr 6 0), (9, zI ((2 + (2 * x.n) : Nat) : Int)), (10, .adr 10 0), (11, .adr 11 0), (12, zI i), (13, .adr 13 0), (14, zI ((3 + (2 * i) : Nat) : Int)), (15, .slc 56 0 0 5), (46, .v x.v), (47, zI x.n), (48, zI i)] [(6, ⟨34, [.int .i64 0, .int .i64 0, .int .i64 0, .int .i64 0, .int .i64 0, .int .i64 0, .int .i64 0, .int .i64 0, .int .i64 0, .slice none 0 0, .slice none 0 0, .int .i64 0]⟩), (10, ⟨34, [.int .i64 D.b, .int .i64 D.f, .int .i64 D.r, .int .i64 D.o, .int .i64 W.b, .int .i64 W.f, .int .i64 W.r, .int .i64 W.o, .int .i64 (2 + 2 * x.n : Nat), X.v, Y.v, .int .i64 (2 + 2 * x.n + x.n : Nat)]⟩), (11, ⟨54, [.int .i64 F0, .int .i64 F1, .int .i64 F2]⟩), (13, ⟨59, [.int .i64 (gi L i 0), .int .i64 (gi L i 1), .int .i64 (gi L i 2), .int .i64 (gi L i 3), .int .i64 (gi L i 4)]⟩), (56, ⟨70, (tcs (List.replicate 5 tl0))⟩)] (zzd (sq9 (zza 57 (.adr 13 0) (zzi 58 (.v (.agg #[.int .i64 (gi L i 0), .int .i64 (gi L i 1), .int .i64 (gi L i 2)])) ty54 zze (zza 59 (zI 0) (zzb (zzt (sw_rounds 3 ?_)))))))))
  refine sq9 (zza 60 (zB true) (zzb (zzd (zyr xv (zzs (zzp ?_))))))
  refine zzd (zzt (sq9 (zza 61 (zI 0) (zza 62 (zI (gi L i 0)) (zza 16 (zI 0) (zza 17 (zI (gi L i 0)) (zzb (zzf (zza 63 (.slc 56 0 0 5) (zza 64 (zI 0) (zza 65 (.adr 11 0) ?_)))))))))))
  refine zzi 66 (zI F0) ty3 zzl (zza 67 (zI (gi L i 0)) (zza 68 (.v (.agg #[.int .i64 F0, .int .i64 (gi L i 0)])) (zxs 69 ⟨70, [.int .i64 F0, .int .i64 (gi L i 0)]⟩ 1 (fun b25 u26 e27 h28 => ?_))))
  refine sy_app1 70 (T := 68) (E := 70) (z := .agg #[.int .i64 0, .int .i64 0]) (size := 2) (bytes := 16) (b := b25) (off := 0) (m := 1) (n := 0) (cap := 5) (t := 56) (cs0 := (tcs (List.replicate 5 tl0))) [15, 56, 63, 70] [.int .i64 F0, .int .i64 (gi L i 0)] xv xv xv xw rfl (lit_news ((Ext.refl _).cells h28)) (tl_one (⟨F0, gi L i 0⟩ : TL)) xw yq xq xq xq xq xj ?_
  intro c29 cs29 ha29 hb29 hc29 hd29
  have hd29r : cs29.take ((0 + 1) * 2) = tcs ([] ++ [(⟨F0, gi L i 0⟩ : TL)]) := by rw [hd29, ht24, tcs_app]; rfl
  refine zza 15 (.slc 70 0 (0 + 1) c29) (zzx ?_)
  refine zzp (zzf (zza 71 (zI 1) (zza 59 (zI 1) (zzx ?_))))
  refine rn_next ?_
  refine sw_weak (T := St.of 113 [(6, .adr 6 0), (9, zI ((2 + (2 * x.n) : Nat) : Int)), (10, .adr 10 0), (11, .adr 11 0), (12, zI i), (13, .adr 13 0), (14, zI ((3 + (2 * i) : Nat) : Int)), (15, .slc 70 0 (0 + 1) c29), (46, .v (.slice x.a x.n x.c)), (47, zI x.n), (48, zI i), (58, .v (.agg #[.int .i64 (gi L i 0), .int .i64 (gi L i 1), .int .i64 (gi L i 2)])), (59, zI 1)] [(6, ⟨34, [.int .i64 0, .int .i64 0, .int .i64 0, .int .i64 0, .int .i64 0, .int .i64 0, .int .i64 0, .int .i64 0, .int .i64 0, .slice none 0 0, .slice none 0 0, .int .i64 0]⟩), (10, ⟨34, [.int .i64 D.b, .int .i64 D.f, .int .i64 D.r, .int .i64 D.o, .int .i64 W.b, .int .i64 W.f, .int .i64 W.r, .int .i64 W.o, .int .i64 (2 + 2 * x.n : Nat), .slice X.a X.n X.c, .slice Y.a Y.n Y.c, .int .i64 (2 + 2 * x.n + x.n : Nat)]⟩), (11, ⟨54, [.int .i64 F0, .int .i64 F1, .int .i64 F2]⟩), (13, ⟨59, [.int .i64 (gi L i 0), .int .i64 (gi L i 1), .int .i64 (gi L i 2), .int .i64 (gi L i 3), .int .i64 (gi L i 4)]⟩), (70, ⟨70, cs29⟩)]) yj ?_
  refine sq9 (zza 60 (zB true) (zzb (zzd (zyr xv (zzs (zzp ?_))))))
  refine zzd (zzt (sq9 (zza 61 (zI 1) (zza 62 (zI (gi L i 1)) (zza 16 (zI 1) (zza 17 (zI (gi L i 1)) (zzb (zzf (zza 63 (.slc 70 0 (0 + 1) c29) (zza 64 (zI 1) (zza 65 (.adr 11 1) ?_)))))))))))
  refine zzi 66 (zI F1) ty3 zzl (zza 67 (zI (gi L i 1)) (zza 68 (.v (.agg #[.int .i64 F1, .int .i64 (gi L i 1)])) (zxs 69 ⟨70, [.int .i64 F1, .int .i64 (gi L i 1)]⟩ 1 (fun b30 u31 e32 h33 => ?_))))
  refine sy_app1 70 (T := 68) (E := 70) (z := .agg #[.int .i64 0, .int .i64 0]) (size := 2) (bytes := 16) (b := b30) (off := 0) (m := 1) (n := 0 + 1) (cap := c29) (t := 70) (cs0 := cs29) [15, 63, 70] [.int .i64 F1, .int .i64 (gi L i 1)] xv xv xv xw rfl (lit_news ((Ext.refl _).cells h33)) (tl_one (⟨F1, gi L i 1⟩ : TL)) xw yq xq xq xq xq xj ?_
  intro c34 cs34 ha34 hb34 hc34 hd34
  have hd34r : cs34.take ((0 + 1 + 1) * 2) = tcs ([] ++ [(⟨F0, gi L i 0⟩ : TL)] ++ [(⟨F1, gi L i 1⟩ : TL)]) := by rw [hd34, hd29r, tcs_app]; rfl
  refine zza 15 (.slc 70 0 (0 + 1 + 1) c34) (zzx ?_)
  refine zzp (zzf (zza 71 (zI 2) (zza 59 (zI 2) (zzx ?_))))
  refine rn_next ?_
  refine sw_weak (T := St.of 113 [(6, .adr 6 0), (9, zI ((2 + (2 * x.n) : Nat) : Int)), (10, .adr 10 0), (11, .adr 11 0), (12, zI i), (13, .adr 13 0), (14, zI ((3 + (2 * i) : Nat) : Int)), (15, .slc 70 0 (0 + 1 + 1) c34), (46, .v (.slice x.a x.n x.c)), (47, zI x.n), (48, zI i), (58, .v (.agg #[.int .i64 (gi L i 0), .int .i64 (gi L i 1), .int .i64 (gi L i 2)])), (59, zI 2)] [(6, ⟨34, [.int .i64 0, .int .i64 0, .int .i64 0, .int .i64 0, .int .i64 0, .int .i64 0, .int .i64 0, .int .i64 0, .int .i64 0, .slice none 0 0, .slice none 0 0, .int .i64 0]⟩), (10, ⟨34, [.int .i64 D.b, .int .i64 D.f, .int .i64 D.r, .int .i64 D.o, .int .i64 W.b, .int .i64 W.f, .int .i64 W.r, .int .i64 W.o, .int .i64 (2 + 2 * x.n : Nat), .slice X.a X.n X.c, .slice Y.a Y.n Y.c, .int .i64 (2 + 2 * x.n + x.n : Nat)]⟩), (11, ⟨54, [.int .i64 F0, .int .i64 F1, .int .i64 F2]⟩), (13, ⟨59, [.int .i64 (gi L i 0), .int .i64 (gi L i 1), .int .i64 (gi L i 2), .int .i64 (gi L i 3), .int .i64 (gi L i 4)]⟩), (70, ⟨70, cs34⟩)]) yj ?_
  refine sq9 (zza 60 (zB true) (zzb (zzd (zyr xv (zzs (zzp ?_))))))
  refine zzd (zzt (sq9 (zza 61 (zI 2) (zza 62 (zI (gi L i 2)) (zza 16 (zI 2) (zza 17 (zI (gi L i 2)) (zzb (zzf (zza 63 (.slc 70 0 (0 + 1 + 1) c34) (zza 64 (zI 2) (zza 65 (.adr 11 2) ?_)))))))))))
  refine zzi 66 (zI F2) ty3 zzl (zza 67 (zI (gi L i 2)) (zza 68 (.v (.agg #[.int .i64 F2, .int .i64 (gi L i 2)])) (zxs 69 ⟨70, [.int .i64 F2, .int .i64 (gi L i 2)]⟩ 1 (fun b35 u36 e37 h38 => ?_))))
  refine sy_app1 70 (T := 68) (E := 70) (z := .agg #[.int .i64 0, .int .i64 0]) (size := 2) (bytes := 16) (b := b35) (off := 0) (m := 1) (n := 0 + 1 + 1) (cap := c34) (t := 70) (cs0 := cs34) [15, 63, 70] [.int .i64 F2, .int .i64 (gi L i 2)] xv xv xv xw rfl (lit_news ((Ext.refl _).cells h38)) (tl_one (⟨F2, gi L i 2⟩ : TL)) xw yq xq xq xq xq xj ?_
  intro c39 cs39 ha39 hb39 hc39 hd39
  have hd39r : cs39.take ((0 + 1 + 1 + 1) * 2) = tcs ([] ++ [(⟨F0, gi L i 0⟩ : TL)] ++ [(⟨F1, gi L i 1⟩ : TL)] ++ [(⟨F2, gi L i 2⟩ : TL)]) := by rw [hd39, hd34r, tcs_app]; rfl
  refine zza 15 (.slc 70 0 (0 + 1 + 1 + 1) c39) (zzx ?_)
  refine zzp (zzf (zza 71 (zI 3) (zza 59 (zI 3) (zzx ?_))))
  refine rn_next ?_
  refine sw_weak (T := St.of 113 [(6, .adr 6 0), (9, zI ((2 + (2 * x.n) : Nat) : Int)), (10, .adr 10 0), (11, .adr 11 0), (12, zI i), (13, .adr 13 0), (14, zI ((3 + (2 * i) : Nat) : Int)), (15, .slc 70 0 (0 + 1 + 1 + 1) c39), (46, .v (.slice x.a x.n x.c)), (47, zI x.n), (48, zI i), (58, .v (.agg #[.int .i64 (gi L i 0), .int .i64 (gi L i 1), .int .i64 (gi L i 2)])), (59, zI 3)] [(6, ⟨34, [.int .i64 0, .int .i64 0, .int .i64 0, .int .i64 0, .int .i64 0, .int .i64 0, .int .i64 0, .int .i64 0, .int .i64 0, .slice none 0 0, .slice none 0 0, .int .i64 0]⟩), (10, ⟨34, [.int .i64 D.b, .int .i64 D.f, .int .i64 D.r, .int .i64 D.o, .int .i64 W.b, .int .i64 W.f, .int .i64 W.r, .int .i64 W.o, .int .i64 (2 + 2 * x.n : Nat), .slice X.a X.n X.c, .slice Y.a Y.n Y.c, .int .i64 (2 + 2 * x.n + x.n : Nat)]⟩), (11, ⟨54, [.int .i64 F0, .int .i64 F1, .int .i64 F2]⟩), (13, ⟨59, [.int .i64 (gi L i 0), .int .i64 (gi L i 1), .int .i64 (gi L i 2), .int .i64 (gi L i 3), .int .i64 (gi L i 4)]⟩), (70, ⟨70, cs39⟩)]) yj ?_
  refine sq9 (zza 60 (zB false) (zzb (zzd (zys xv (zyc (zzp (zzd (sq9 (zza 72 (.adr 13 3) (zzi 73 (.v (.agg #[.int .i64 (gi L i 3), .int .i64 (gi L i 4)])) ty56 zze (zza 74 (zI 0) ?_)))))))))))
  refine zzb (zzt (sw_rounds 2 ?_))
  refine sq9 (zza 75 (zB true) (zzb (zzd (zyr xv (zzs (zzp ?_))))))
  refine zzd (zzt (sq9 (zza 76 (zI 0) (zza 77 (zI (gi L i 3)) (zza 18 (zI 0) (zza 19 (zI (gi L i 3)) (zzb (zzf (zza 78 (.slc 70 0 (0 + 1 + 1 + 1) c39) (zza 79 (zI ((3 + (2 * i) : Nat) : Int)) (zza 80 (zI 0) ?_)))))))))))
  refine zyq 81 (x := zI (IntKind.i64.wrap (((3 + (2 * i) : Nat) : Int) + 0))) (zI (((3 + (2 * i)) + 0 : Nat) : Int)) (eqI xk) (zza 82 (zI (gi L i 3)) (zyq 83 (x := zI (IntKind.i64.wrap (0 - (gi L i 3)))) (zI (-(gi L i 3))) (eqI xk) (zza 84 (.v (.agg #[.int .i64 (((3 + (2 * i)) + 0 : Nat) : Int), .int .i64 (-(gi L i 3))])) (zxs 85 ⟨70, [.int .i64 (((3 + (2 * i)) + 0 : Nat) : Int), .int .i64 (-(gi L i 3))]⟩ 1 (fun b40 u41 e42 h43 => ?_)))))
  refine sy_app1 86 (T := 68) (E := 70) (z := .agg #[.int .i64 0, .int .i64 0]) (size := 2) (bytes := 16) (b := b40) (off := 0) (m := 1) (n := 0 + 1 + 1 + 1) (cap := c39) (t := 70) (cs0 := cs39) [15, 70, 78, 86] [.int .i64 (((3 + (2 * i)) + 0 : Nat) : Int), .int .i64 (-(gi L i 3))] xv xv xv xw rfl (lit_news ((Ext.refl _).cells h43)) (tl_one (⟨(((3 + (2 * i)) + 0 : Nat) : Int), -(gi L i 3)⟩ : TL)) xw yq xq xq xq xq xj ?_
  intro c44 cs44 ha44 hb44 hc44 hd44
  have hd44r : cs44.take ((0 + 1 + 1 + 1 + 1) * 2) = tcs ([] ++ [(⟨F0, gi L i 0⟩ : TL)] ++ [(⟨F1, gi L i 1⟩ : TL)] ++ [(⟨F2, gi L i 2⟩ : TL)] ++ [(⟨(((3 + (2 * i)) + 0 : Nat) : Int), -(gi L i 3)⟩ : TL)]) := by rw [hd44, hd39r, tcs_app]; rfl
  refine zza 15 (.slc 86 0 (0 + 1 + 1 + 1 + 1) c44) (zzx ?_)
  refine zzp (zzf (zza 87 (zI 1) (zza 74 (zI 1) (zzx ?_))))
  refine rn_next ?_
  refine sw_weak (T := St.of 113 [(6, .adr 6 0), (9, zI ((2 + (2 * x.n) : Nat) : Int)), (10, .adr 10 0), (11, .adr 11 0), (12, zI i), (14, zI ((3 + (2 * i) : Nat) : Int)), (15, .slc 86 0 (0 + 1 + 1 + 1 + 1) c44), (46, .v (.slice x.a x.n x.c)), (47, zI x.n), (48, zI i), (73, .v (.agg #[.int .i64 (gi L i 3), .int .i64 (gi L i 4)])), (74, zI 1)] [(6, ⟨34, [.int .i64 0, .int .i64 0, .int .i64 0, .int .i64 0, .int .i64 0, .int .i64 0, .int .i64 0, .int .i64 0, .int .i64 0, .slice none 0 0, .slice none 0 0, .int .i64 0]⟩), (10, ⟨34, [.int .i64 D.b, .int .i64 D.f, .int .i64 D.r, .int .i64 D.o, .int .i64 W.b, .int .i64 W.f, .int .i64 W.r, .int .i64 W.o, .int .i64 (2 + 2 * x.n : Nat), .slice X.a X.n X.c, .slice Y.a Y.n Y.c, .int .i64 (2 + 2 * x.n + x.n : Nat)]⟩), (11, ⟨54, [.int .i64 F0, .int .i64 F1, .int .i64 F2]⟩), (86, ⟨70, cs44⟩)]) yj ?_
  refine sq9 (zza 75 (zB true) (zzb (zzd (zyr xv (zzs (zzp ?_))))))
  refine zzd (zzt (sq9 (zza 76 (zI 1) (zza 77 (zI (gi L i 4)) (zza 18 (zI 1) (zza 19 (zI (gi L i 4)) (zzc 113 [(6, .adr 6 0), (9, zI ((2 + (2 * x.n) : Nat) : Int)), (10, .adr 10 0), (11, .adr 11 0), (12, zI i), (14, zI ((3 + (2 * i) : Nat) : Int)), (15, .slc 86 0 (0 + 1 + 1 + 1 + 1) c44), (18, zI 1), (19, zI (gi L i 4)), (46, .v x.v), (47, zI x.n), (48, zI i), (73, .v (.agg #[.int .i64 (gi L i 3), .int .i64 (gi L i 4)])), (74, zI 1)] [(6, ⟨34, [.int .i64 0, .int .i64 0, .int .i64 0, .int .i64 0, .int .i64 0, .int .i64 0, .int .i64 0, .int .i64 0, .int .i64 0, .slice none 0 0, .slice none 0 0, .int .i64 0]⟩), (10, ⟨34, [.int .i64 D.b, .int .i64 D.f, .int .i64 D.r, .int .i64 D.o, .int .i64 W.b, .int .i64 W.f, .int .i64 W.r, .int .i64 W.o, .int .i64 (2 + 2 * x.n : Nat), X.v, Y.v, .int .i64 (2 + 2 * x.n + x.n : Nat)]⟩), (11, ⟨54, [.int .i64 F0, .int .i64 F1, .int .i64 F2]⟩), (86, ⟨70, cs44⟩)] (zzf (zza 78 (.slc 86 0 (0 + 1 + 1 + 1 + 1) c44) (zza 79 (zI ((3 + (2 * i) : Nat) : Int)) (zza 80 (zI 1) ?_)))))))))))
  refine zyq 81 (x := zI (IntKind.i64.wrap (((3 + (2 * i) : Nat) : Int) + 1))) (zI (((3 + (2 * i)) + 1 : Nat) : Int)) (eqI xk) (zza 82 (zI (gi L i 4)) (zyq 83 (x := zI (IntKind.i64.wrap (0 - (gi L i 4)))) (zI (-(gi L i 4))) (eqI xk) (zza 84 (.v (.agg #[.int .i64 (((3 + (2 * i)) + 1 : Nat) : Int), .int .i64 (-(gi L i 4))])) (zxs 85 ⟨70, [.int .i64 (((3 + (2 * i)) + 1 : Nat) : Int), .int .i64 (-(gi L i 4))]⟩ 1 (fun b45 u46 e47 h48 => ?_)))))
  refine sy_app1 86 (T := 68) (E := 70) (z := .agg #[.int .i64 0, .int .i64 0]) (size := 2) (bytes := 16) (b := b45) (off := 0) (m := 1) (n := 0 + 1 + 1 + 1 + 1) (cap := c44) (t := 86) (cs0 := cs44) [15, 78, 86] [.int .i64 (((3 + (2 * i)) + 1 : Nat) : Int), .int .i64 (-(gi L i 4))] xv xv xv xw rfl (lit_news ((Ext.refl _).cells h48)) (tl_one (⟨(((3 + (2 * i)) + 1 : Nat) : Int), -(gi L i 4)⟩ : TL)) xw yq xq xq xq xq xj ?_
  intro c49 cs49 ha49 hb49 hc49 hd49
  have hd49r : cs49.take ((0 + 1 + 1 + 1 + 1 + 1) * 2) = tcs ([] ++ [(⟨F0, gi L i 0⟩ : TL)] ++ [(⟨F1, gi L i 1⟩ : TL)] ++ [(⟨F2, gi L i 2⟩ : TL)] ++ [(⟨(((3 + (2 * i)) + 0 : Nat) : Int), -(gi L i 3)⟩ : TL)] ++ [(⟨(((3 + (2 * i)) + 1 : Nat) : Int), -(gi L i 4)⟩ : TL)]) := by rw [hd49, hd44r, tcs_app]; rfl
  refine zza 15 (.slc 86 0 (0 + 1 + 1 + 1 + 1 + 1) c49) (zzx ?_)
  refine zzp (zzf (zza 87 (zI 2) (zza 74 (zI 2) (zzx ?_))))
  refine rn_next ?_
  refine sw_weak (T := St.of 113 [(6, .adr 6 0), (9, zI ((2 + (2 * x.n) : Nat) : Int)), (10, .adr 10 0), (11, .adr 11 0), (12, zI i), (14, zI ((3 + (2 * i) : Nat) : Int)), (15, .slc 86 0 (0 + 1 + 1 + 1 + 1 + 1) c49), (46, .v (.slice x.a x.n x.c)), (47, zI x.n), (48, zI i), (73, .v (.agg #[.int .i64 (gi L i 3), .int .i64 (gi L i 4)])), (74, zI 2)] [(6, ⟨34, [.int .i64 0, .int .i64 0, .int .i64 0, .int .i64 0, .int .i64 0, .int .i64 0, .int .i64 0, .int .i64 0, .int .i64 0, .slice none 0 0, .slice none 0 0, .int .i64 0]⟩), (10, ⟨34, [.int .i64 D.b, .int .i64 D.f, .int .i64 D.r, .int .i64 D.o, .int .i64 W.b, .int .i64 W.f, .int .i64 W.r, .int .i64 W.o, .int .i64 (2 + 2 * x.n : Nat), .slice X.a X.n X.c, .slice Y.a Y.n Y.c, .int .i64 (2 + 2 * x.n + x.n : Nat)]⟩), (11, ⟨54, [.int .i64 F0, .int .i64 F1, .int .i64 F2]⟩), (86, ⟨70, cs49⟩)]) yj ?_
  refine sq9 (zza 75 (zB false) (zzb (zzd (zys xv (zyc (zzp (sq9 (zza 88 (zI ((2 + (2 * x.n) : Nat) : Int)) (zyq 89 (x := zI (IntKind.i64.wrap (((2 + (2 * x.n) : Nat) : Int) + 1))) (zI (((2 + (2 * x.n)) + 1 : Nat) : Int)) (eqI xk) (zza 90 (zI i) (zyq 91 (x := zI (IntKind.i64.wrap ((((2 + (2 * x.n)) + 1 : Nat) : Int) + (i : Int)))) (zI ((((2 + (2 * x.n)) + 1) + i : Nat) : Int)) (eqI xk) ?_)))))))))))
  refine zza 20 (zI ((((2 + (2 * x.n)) + 1) + i : Nat) : Int)) (zzb (zzd (zyp (r := 15) (t := 86) [15, 86] xj xv (by rfl) (by rfl) xv (fun b50 u51 e52 hb53 hh54 => ?_))))
  have hp55 : MutL 2 70 u.heap.size u51 (⟨some ⟨b50, 0, none⟩, 0 + 1 + 1 + 1 + 1 + 1, c49⟩ : Sl) (tcs (Nt.csNode x.n i (L.getD i []))) := by
   have h9 : MutL 2 70 u.heap.size u51 (⟨some ⟨b50, 0, none⟩, 0 + 1 + 1 + 1 + 1 + 1, c49⟩ : Sl) (tcs ([] ++ [(⟨F0, gi L i 0⟩ : TL)] ++ [(⟨F1, gi L i 1⟩ : TL)] ++ [(⟨F2, gi L i 2⟩ : TL)] ++ [(⟨(((3 + (2 * i)) + 0 : Nat) : Int), -(gi L i 3)⟩ : TL)] ++ [(⟨(((3 + (2 * i)) + 1 : Nat) : Int), -(gi L i 4)⟩ : TL)])) := ⟨rfl, ha49, hb49, .inr ⟨b50, cs49, rfl, hh54, hc49, hd49r, hb53⟩⟩
   rw [hF0, hF1, hF2] at h9; exact h9
  have hNe := NodesB.excl (hN.ext (e27.trans (e32.trans (e37.trans (e42.trans (e47.trans e52)))))) (Nat.le_refl _)
  have hZo := MutL.off hp55 (Nat.le_refl _)
  refine zzf (zza 92 (.adr 10 9) (zzi 93 (.v X.v) ty32 zzl (zza 94 (.v (.slice (some ⟨b50, 0, none⟩) (0 + 1 + 1 + 1 + 1 + 1) c49)) (zza 95 (.v (.agg #[.slice (some ⟨b50, 0, none⟩) (0 + 1 + 1 + 1 + 1 + 1) c49])) (zxs 96 ⟨72, [.slice (some ⟨b50, 0, none⟩) (0 + 1 + 1 + 1 + 1 + 1) c49]⟩ 1 (fun b56 u57 e58 h59 => ?_))))))
  obtain ⟨Ls60, gA60, gB60, gC60⟩ := id (hNe.ext e58)
  have hnl60 := NodesB.len (hNe.ext e58)
  refine sy_appM 97 (T := 32) (E := 72) (z := .agg #[.slice none 0 0]) (size := 1) (bytes := 24) (b2 := b56) (off := 0) (m := 1) X (Ls60.map Sl.v) [.slice (some ⟨b50, 0, none⟩) (0 + 1 + 1 + 1 + 1 + 1) c49] gA60 xv xv xv xw rfl (lit_news ((Ext.refl _).cells h59)) (sl_one (⟨some ⟨b50, 0, none⟩, 0 + 1 + 1 + 1 + 1 + 1, c49⟩ : Sl)) xw yq xq (fun y60 u60 hm60 hn60 eX60 ho60 => ?_)
  have hN61 := NodesB.snoc (ts := (Nt.csNode x.n i (L.getD i []))) gA60 gB60 gC60 (hp55.ext e58) hZo eX60 hm60
  have eT62 := ExtX.t eX60 gA60
  have eT62r := ExtX.root eX60 gA60 (e21.trans (e27.trans (e32.trans (e37.trans (e42.trans (e47.trans (e52.trans e58)))))))
  have hk63 := MutL.extT (hY.ext (e27.trans (e32.trans (e37.trans (e42.trans (e47.trans (e52.trans e58))))))) eT62 xw
  have hN61l := NodesB.len hN61
  simp only [List.length_append, List.length_cons, List.length_nil, Nt.ndB_len] at hN61l
  refine zza 98 (.adr 10 9) (zzj ⟨34, [.int .i64 D.b, .int .i64 D.f, .int .i64 D.r, .int .i64 D.o, .int .i64 W.b, .int .i64 W.f, .int .i64 W.r, .int .i64 W.o, .int .i64 (2 + 2 * x.n : Nat), y60.v, Y.v, .int .i64 (2 + 2 * x.n + x.n : Nat)]⟩ ty32 ?_)
  refine zzb (sq9 (zza 99 (.adr 10 10) (zzi 100 (.v Y.v) ty22 zzl (zza 101 (zI ((((2 + (2 * x.n)) + 1) + i : Nat) : Int)) (zza 102 (zI ((3 + (2 * i) : Nat) : Int)) (zxs 103 ⟨3, [.int .i64 ((((2 + (2 * x.n)) + 1) + i : Nat) : Int), .int .i64 ((3 + (2 * i) : Nat) : Int)]⟩ 2 (fun b64 u65 e66 h67 => ?_)))))))
  refine sy_appM 104 (T := 22) (E := 3) (z := .int .i64 0) (size := 1) (bytes := 8) (b2 := b64) (off := 0) (m := 2) Y (ics (Nt.csNext x.n i)) [.int .i64 ((((2 + (2 * x.n)) + 1) + i : Nat) : Int), .int .i64 ((3 + (2 * i) : Nat) : Int)] (hk63.ext e66) xv xv xv xw rfl (lit_news ((Ext.refl _).cells h67)) (int_two _ _) xw yq xq (fun y68 u68 hm68 hn68 eX68 ho68 => ?_)
  have eT69 := ExtX.t eX68 (hk63.ext e66)
  have eT69r := ExtX.root eX68 (hk63.ext e66) (eT62r.trans e66)
  have hk70 := NodesB.extT (hN61.ext e66) eT69 xw xw
  have hN71 : MutL 1 3 u.heap.size u68 y68 (ics ((Nt.csNext x.n i) ++ [((((2 + (2 * x.n)) + 1) + i : Nat) : Int), ((3 + (2 * i) : Nat) : Int)])) := by rw [ics_app]; exact hm68
  refine zza 105 (.adr 10 10) (zzj ⟨34, [.int .i64 D.b, .int .i64 D.f, .int .i64 D.r, .int .i64 D.o, .int .i64 W.b, .int .i64 W.f, .int .i64 W.r, .int .i64 W.o, .int .i64 (2 + 2 * x.n : Nat), y60.v, y68.v, .int .i64 (2 + 2 * x.n + x.n : Nat)]⟩ ty22 ?_)
  refine zzb (zzf (zza 106 (zI ((((2 + (2 * x.n)) + 1) + i : Nat) : Int)) (zza 107 (zI ((3 + (2 * i) : Nat) : Int)) (zza 108 (zI ((3 + (2 * i) : Nat) : Int)) (zyq 109 (x := zI (IntKind.i64.wrap (((3 + (2 * i) : Nat) : Int) + 1))) (zI (((3 + (2 * i)) + 1 : Nat) : Int)) (eqI xk) (zza 110 (.v (.agg #[.int .i64 ((((2 + (2 * x.n)) + 1) + i : Nat) : Int), .int .i64 ((3 + (2 * i) : Nat) : Int), .int .i64 (((3 + (2 * i)) + 1 : Nat) : Int)])) (zzj ⟨54, [.int .i64 ((((2 + (2 * x.n)) + 1) + i : Nat) : Int), .int .i64 ((3 + (2 * i) : Nat) : Int), .int .i64 (((3 + (2 * i)) + 1 : Nat) : Int)]⟩ ty54 ?_)))))))
  refine zzx ?_
  refine zzp (zzf (zyq 111 (x := zI (IntKind.i64.wrap ((i : Int) + 1))) (zI (i + 1 : Nat)) (eqI xk) (zza 48 (zI (i + 1 : Nat)) (zzx ?_))))
  refine ⟨_, ?_, _, by exact zzv _ _ _, i + 1, u51.heap.size, y60, y68, ((((2 + (2 * x.n)) + 1) + i : Nat) : Int), ((3 + (2 * i) : Nat) : Int), (((3 + (2 * i)) + 1 : Nat) : Int), rfl, by omega, (by unfold Nt.csF0; rw [if_neg xq]; omega), xq, xq, rfl, eT69r, (by rw [Nt.csNodes_succ]; exact hk70), (by rw [Nt.csNext_succ, show 3 + 2 * x.n + i = 2 + 2 * x.n + 1 + i by omega]; exact hN71)⟩
  omega
 ·replace hb22 : (decide ((i : Int) < (x.n : Int))) = false := hb22
  have qhb22 := of_decide_eq_false hb22
  refine zyc (zzp (sq9 (zzi 112 (.v (.agg #[.int .i64 D.b, .int .i64 D.f, .int .i64 D.r, .int .i64 D.o, .int .i64 W.b, .int .i64 W.f, .int .i64 W.r, .int .i64 W.o, .int .i64 (2 + 2 * x.n : Nat), X.v, Y.v, .int .i64 (2 + 2 * x.n + x.n : Nat)])) ty34 zze (zzj ⟨34, [.int .i64 D.b, .int .i64 D.f, .int .i64 D.r, .int .i64 D.o, .int .i64 W.b, .int .i64 W.f, .int .i64 W.r, .int .i64 W.o, .int .i64 (2 + 2 * x.n : Nat), X.v, Y.v, .int .i64 (2 + 2 * x.n + x.n : Nat)]⟩ ty34 ?_))))
  refine zza 7 (zI 0) (zzb (zzo (ret0 [.agg #[.int .i64 D.b, .int .i64 D.f, .int .i64 D.r, .int .i64 D.o, .int .i64 W.b, .int .i64 W.f, .int .i64 W.r, .int .i64 W.o, .int .i64 (2 + 2 * x.n : Nat), .slice X.a X.n X.c, .slice Y.a Y.n Y.c, .int .i64 (2 + 2 * x.n + x.n : Nat)], .int .i64 0] ⟨zzr ty34 zze, zzq, trivial⟩ fun u72 e73 => ?_)))
  have hi9 : i = L.length := by omega
  refine ⟨X, Y, ?_, ⟨hz, ?_⟩, ?_⟩
  ·rw [← hlx]; rfl
  ·have h9 := NodesB.low (hN.ext e73) (Nat.zero_le _)
   rw [hi9, hlx] at h9; exact h9
  ·have h9 := MutL.low (hY.ext e73) (Nat.zero_le _)
   rw [hi9, hlx] at h9; exact h9
namespace Nt
variable {D W : WL} {L : List (List Int)} {N : List (List TL)} {nx st xs : List Int} {q : Int} {n k : Nat} {p p1 p2 : List Int} {x x1 x2 y1 y2 z1 z2 : Int}
theorem runO_len' : (runO D W N nx q st xs k).length = k := by
 induction k with
 | zero => rfl
 | succ k ih => unfold runO; rw [List.length_append, ih]; rfl
theorem runO_get (h : k < n) : (runO D W N nx q st xs n).getD k 0 = (runV D W N nx st xs k).getD q.toNat 0 := by
 induction n with
 | zero => omega
 | succ n ih =>
  unfold runO
  by_cases e : k < n
  ·rw [getD_app_lt (by rw [runO_len']; exact e)]; exact ih e
  ·obtain rfl : k = n := by omega
   rw [List.getD_eq_getElem?_getD, List.getElem?_append_right (by rw [runO_len']; exact Nat.le_refl _), runO_len', Nat.sub_self]; rfl
def secV (D W : WL) (p : List Int) (x x1 x2 y1 y2 : Int) : Int := redW D (shiftW (p.getD 0 0 * x + (p.getD 1 0 * x1 + (p.getD 2 0 * x2 + (-p.getD 3 0 * y1 + (-p.getD 4 0 * y2 + 0))))) W.f D.r)
theorem vals1 : valsK D W [csNode 1 0 p] [x, x1, x2, y1, y2] 1 = [x, x1, x2, y1, y2, secV D W p x x1 x2 y1 y2] := rfl
theorem vals2 : valsK D W [csNode 2 0 p1, csNode 2 1 p2] [x, x1, x2, y1, y2, z1, z2] 2 = [x, x1, x2, y1, y2, z1, z2, secV D W p1 x x1 x2 y1 y2, secV D W p2 (secV D W p1 x x1 x2 y1 y2) y1 y2 z1 z2] := rfl
theorem cascade_runs {n : Nat} : ∀ k, k ≤ n → ∃ a b c d e f : Int,
  runS D W [csNode 2 0 p1, csNode 2 1 p2] (csNext 2 2) [0, 0, 0, 0, 0, 0] xs k = [a, b, c, d, e, f] ∧
  runS D W [csNode 1 0 p1] (csNext 1 1) [0, 0, 0, 0] xs k = [a, b, c, d] ∧
  runS D W [csNode 1 0 p2] (csNext 1 1) [0, 0, 0, 0] (runO D W [csNode 1 0 p1] (csNext 1 1) 5 [0, 0, 0, 0] xs n) k = [c, d, e, f] ∧
  runO D W [csNode 2 0 p1, csNode 2 1 p2] (csNext 2 2) 8 [0, 0, 0, 0, 0, 0] xs k = runO D W [csNode 1 0 p2] (csNext 1 1) 5 [0, 0, 0, 0] (runO D W [csNode 1 0 p1] (csNext 1 1) 5 [0, 0, 0, 0] xs n) k := by
 intro k
 induction k with
 | zero => intro _; exact ⟨0, 0, 0, 0, 0, 0, rfl, rfl, rfl, rfl⟩
 | succ k ih =>
  intro hk
  obtain ⟨a, b, c, d, e, f, h1, h2, h3, h4⟩ := ih xq
  have hu := runO_get (D := D) (W := W) (N := [csNode 1 0 p1]) (nx := csNext 1 1) (q := 5) (st := [0, 0, 0, 0]) (xs := xs) (n := n) (k := k) xq
  have v2 : runV D W [csNode 1 0 p1] (csNext 1 1) [0, 0, 0, 0] xs k = [xs.getD k 0, a, b, c, d, secV D W p1 (xs.getD k 0) a b c d] := by
   unfold runV; rw [h2]; exact vals1
  rw [v2] at hu
  change _ = secV D W p1 (xs.getD k 0) a b c d at hu
  have v1 : runV D W [csNode 2 0 p1, csNode 2 1 p2] (csNext 2 2) [0, 0, 0, 0, 0, 0] xs k = [xs.getD k 0, a, b, c, d, e, f, secV D W p1 (xs.getD k 0) a b c d, secV D W p2 (secV D W p1 (xs.getD k 0) a b c d) c d e f] := by
   unfold runV; rw [h1]; exact vals2
  have v3 : runV D W [csNode 1 0 p2] (csNext 1 1) [0, 0, 0, 0] (runO D W [csNode 1 0 p1] (csNext 1 1) 5 [0, 0, 0, 0] xs n) k = [secV D W p1 (xs.getD k 0) a b c d, c, d, e, f, secV D W p2 (secV D W p1 (xs.getD k 0) a b c d) c d e f] := by
   unfold runV; rw [h3, hu]; exact vals1
  refine ⟨xs.getD k 0, a, secV D W p1 (xs.getD k 0) a b c d, c, secV D W p2 (secV D W p1 (xs.getD k 0) a b c d) c d e f, e, ?_, ?_, ?_, ?_⟩
  ·rw [runS_step, v1]; rfl
  ·rw [runS_step, v2]; rfl
  ·rw [runS_step, v3]; rfl
  ·unfold runO; rw [v1, v3, h4]; rfl
theorem rows_two {L : List (List Int)} (h : L.length = 2) : L = [L.getD 0 [], L.getD 1 []] := by
 match L, h with
 | [a, b], _ => rfl
theorem csE_rows {L : List (List Int)} (hW : WdOK W) (h1 : 1 ≤ L.length) (h8 : L.length ≤ 8) (h : ∀ p ∈ L, p.length = 5 ∧ ∀ z ∈ p, -(p2i (W.b - 1) - 1) ≤ z ∧ z ≤ p2i (W.b - 1) - 1) : csE W L = 0 := by
 refine csE_0 hW h1 h8 (fun i hi => ?_)
 have e : L[i] = L.getD i [] := by rw [List.getD_eq_getElem?_getD, List.getElem?_eq_getElem hi]; rfl
 obtain ⟨hl, hz⟩ := h _ (List.getElem_mem hi)
 rw [e] at hl hz
 have hj : ∀ j, j < 5 → -(p2i (W.b - 1) - 1) ≤ (L.getD i []).getD j 0 ∧ (L.getD i []).getD j 0 ≤ p2i (W.b - 1) - 1 := fun j hj => by
  refine hz _ ?_
  rw [List.getD_eq_getElem?_getD (l := L.getD i []), List.getElem?_eq_getElem xq]
  exact List.getElem_mem _
 have f0 := hj 0 xw
 have f1 := hj 1 xw
 have f2 := hj 2 xw
 have f3 := hj 3 xw
 have f4 := hj 4 xw
 unfold secFit
 rw [(fit_iff (z := (L.getD i []).getD 0 0)).2 xq, (fit_iff (z := (L.getD i []).getD 1 0)).2 xq, (fit_iff (z := (L.getD i []).getD 2 0)).2 xq, (fit_iff (z := (L.getD i []).getD 3 0)).2 xq, (fit_iff (z := -(L.getD i []).getD 3 0)).2 xq, (fit_iff (z := (L.getD i []).getD 4 0)).2 xq, (fit_iff (z := -(L.getD i []).getD 4 0)).2 xq]
 rfl
theorem runO_fit {s : Nat} (hok : NetOK D W s N nx q) (hsl : st.length = s) (hst : ∀ i, i < st.length → fitB D (st.getD i 0) = true) (hxs : ∀ i, i < xs.length → fitB D (xs.getD i 0) = true) (hn : n ≤ xs.length) : ∀ k, k < n → fitB D ((runO D W N nx q st xs n).getD k 0) = true := fun k hk => by
 obtain ⟨h1, h2⟩ := runS_ok hok hsl hst hxs k xq
 rw [runO_get hk]
 have hv := valsK_bd (D := D) (W := W) (N := N) (k := N.length) hok.hd (cons_bd hok.hd (hxs k xq) (fun i hi => h2 i xq))
 have hq := hok.hq
 exact fit_iff.2 (hv _ (by rw [List.length_cons, h1]; omega))
end Nt
section
variable {k n : Nat} {u : World} {x : Sl} {L : List (List Int)}
theorem ir_take (h : IrV k u x L) {m : Nat} (hm : m ≤ x.n) : IrV k u ⟨x.a, m, x.c⟩ (L.take m) := by
 obtain ⟨h0, h1, h2, h3, h4⟩ := h
 refine ⟨fun p hp => h0 p (List.mem_of_mem_take hp), by show m = _; rw [List.length_take]; omega, by show m ≤ x.c; omega, h3, fun hp => ?_⟩
 obtain ⟨b, o, g1, g2, g3⟩ := h4 (by have : 0 < m := hp; omega)
 refine ⟨b, o, g1, g2, fun j hj => ?_⟩
 rw [List.length_take] at hj
 have hj2 : j < m * k := Nat.lt_of_lt_of_le hj (Nat.mul_le_mul_right _ (Nat.min_le_left _ _))
 have hj3 : j < L.length * k := Nat.lt_of_lt_of_le hj (Nat.mul_le_mul_right _ (Nat.min_le_right _ _))
 rw [g3 j hj3, ← kcs_take h0, List.getElem?_take_of_lt hj2]
theorem ir_drop (h : IrV k u x L) {m : Nat} {A' : Option Addr} (hm : m ≤ x.n) (hA : A' = (if x.c = m then x.a else x.a.map (·.add (m * k)))) : IrV k u ⟨A', x.n - m, x.c - m⟩ (L.drop m) := by
 obtain ⟨h0, h1, h2, h3, h4⟩ := h
 refine ⟨fun p hp => h0 p (List.mem_of_mem_drop hp), by show x.n - m = _; rw [List.length_drop]; omega, by show x.n - m ≤ x.c - m; omega, by show x.c - m ≤ maxLen; omega, fun hp => ?_⟩
 have hp : 0 < x.n - m := hp
 obtain ⟨b, o, g1, g2, g3⟩ := h4 xq
 rw [if_neg xq, g1] at hA
 refine ⟨b, o + m * k, by rw [hA]; simp [Addr.add], g2, fun j hj => ?_⟩
 rw [List.length_drop] at hj
 have e : (L.length - m) * k + m * k = L.length * k := by rw [← Nat.add_mul]; congr 1; omega
 rw [Nat.add_assoc, g3 (m * k + j) xq, ← kcs_drop h0, List.getElem?_drop]
end
set_option maxHeartbeats 1000000 in
theorem k_wordD {u w : World} {k : Int} (d : Dat u w) (hk0 : -9223372036854775808 ≤ k) (hk1 : k ≤ 9223372036854775807) : Calls Try.prog 17 #[.int .i64 k, .int .i64 6, .int .i64 12, .int .i64 2] w (Post u w fun v _ => ∃ W : WL, v = W.v ∧ WdOK W ∧ 6 ≤ W.b ∧ W.b ≤ 12) := by
 refine zzm (args := [.int .i64 k, .int .i64 6, .int .i64 12, .int .i64 2]) Try.func17 rfl Try.ntmps17 (rs := [.cell 8 27]) Try.results17 (le_b rfl) (le_b rfl) d ?_
 refine sq9 (zzk 8 ⟨27, [.int .i64 0, .int .i64 0, .int .i64 0, .int .i64 0]⟩ (zzb (sq9 (zza 10 (zI k) (zzg 11 18 [.int .i64 k, .int .i64 1099511627776] ?_)))))
 intro w11 u11 e11 d11
 have k17 := (show Calls _ _ #[.int .i64 k, .int .i64 1099511627776] _ _ from k_withinB (n := k) (m := 1099511627776) d11 xq xq xq xq)
 with_reducible refine zPm k17 ?_
 rintro _ u15 g16 ⟨z12, rfl, h13, h14⟩
 refine zza 0 (zI z12) (zzb (sq9 (zza 12 (zI 6) (zza 13 (zI z12) (zza 14 (zI 12) (zza 15 (zI 6) (zza 16 (zI 6) (zza 17 (zI 7) (sy_rem 18 (n := z12) (m := 7) (z12 % 7) xw (Int.tmod_eq_emod_of_nonneg xq) ?_)))))))))
 refine zyq 19 (x := zI (IntKind.i64.wrap ((6 : Int) + (z12 % 7)))) (zI ((6 : Int) + (z12 % 7))) xz (zza 20 (.v (.agg #[.int .i64 ((6 : Int) + (z12 % 7)), .int .i64 0, .int .i64 0, .int .i64 0])) (zzk 9 ⟨27, [.int .i64 0, .int .i64 0, .int .i64 0, .int .i64 0]⟩ (zzj ⟨27, [.int .i64 ((6 : Int) + (z12 % 7)), .int .i64 0, .int .i64 0, .int .i64 0]⟩ ty27 ?_)))
 refine zzb (sq9 (zza 21 (zI z12) (zza 22 (zI 12) (zza 23 (zI 6) (zza 24 (zI 6) (zza 25 (zI 7) (sy_quo 26 (n := z12) (m := 7) (z12 / 7) xw (by rw [Int.tdiv_eq_ediv_of_nonneg xq]; exact IntWalk.i64_in _ xq) ?_)))))))
 refine zza 0 (zI (z12 / 7)) (zzb (sq9 (zza 27 (.adr 9 0) (zzi 28 (zI ((6 : Int) + (z12 % 7))) ty3 zzl (zyq 29 (x := zI (IntKind.i64.wrap (((6 : Int) + (z12 % 7)) - 1))) (zI (((6 : Int) + (z12 % 7)) - 1)) xz (zza 30 (zI 2) (zyq 31 (x := zI (IntKind.i64.wrap ((((6 : Int) + (z12 % 7)) - 1) - 2))) (zI ((((6 : Int) + (z12 % 7)) - 1) - 2)) xz (zza 32 (zI (z12 / 7)) (sy_rem 33 (n := z12 / 7) (m := 2) ((z12 / 7) % 2) xw (Int.tmod_eq_emod_of_nonneg xq) ?_)))))))))
 refine zyq 34 (x := zI (IntKind.i64.wrap (((((6 : Int) + (z12 % 7)) - 1) - 2) - ((z12 / 7) % 2)))) (zI (((((6 : Int) + (z12 % 7)) - 1) - 2) - ((z12 / 7) % 2))) xz (zza 35 (.adr 9 1) (zzj ⟨27, [.int .i64 ((6 : Int) + (z12 % 7)), .int .i64 (((((6 : Int) + (z12 % 7)) - 1) - 2) - ((z12 / 7) % 2)), .int .i64 0, .int .i64 0]⟩ ty3 ?_))
 refine zzc 52 [(0, zI (z12 / 7)), (8, .adr 8 0), (9, .adr 9 0)] [(8, ⟨27, [.int .i64 0, .int .i64 0, .int .i64 0, .int .i64 0]⟩), (9, ⟨27, [.int .i64 ((6 : Int) + (z12 % 7)), .int .i64 (((((6 : Int) + (z12 % 7)) - 1) - 2) - ((z12 / 7) % 2)), .int .i64 0, .int .i64 0]⟩)] (sq9 (zza 36 (zI (z12 / 7)) (sy_quo 37 (n := z12 / 7) (m := 2) ((z12 / 7) / 2) xw (by rw [Int.tdiv_eq_ediv_of_nonneg xq]; exact IntWalk.i64_in _ xq) ?_)))
 refine zza 0 (zI ((z12 / 7) / 2)) (zzb (sq9 (zza 38 (.adr 9 1) (zzi 39 (zI (((((6 : Int) + (z12 % 7)) - 1) - 2) - ((z12 / 7) % 2))) ty3 zzl (sy_max0 40 (n := ((((6 : Int) + (z12 % 7)) - 1) - 2) - ((z12 / 7) % 2)) (v := ((((6 : Int) + (z12 % 7)) - 1) - 2) - ((z12 / 7) % 2)) (by split <;> omega) ?_)))))
 refine zza 41 (.adr 9 1) (zzj ⟨27, [.int .i64 ((6 : Int) + (z12 % 7)), .int .i64 (((((6 : Int) + (z12 % 7)) - 1) - 2) - ((z12 / 7) % 2)), .int .i64 0, .int .i64 0]⟩ ty3 ?_)
 refine zzb (sq9 (zza 42 (zI ((z12 / 7) / 2)) (sy_rem 43 (n := (z12 / 7) / 2) (m := 3) (((z12 / 7) / 2) % 3) xw (Int.tmod_eq_emod_of_nonneg xq) ?_)))
 refine zyq 44 (x := zI (IntKind.i64.wrap ((1 : Int) + (((z12 / 7) / 2) % 3)))) (zI ((1 : Int) + (((z12 / 7) / 2) % 3))) xz (zza 45 (zI ((z12 / 7) / 2)) (sy_quo 46 (n := (z12 / 7) / 2) (m := 3) (((z12 / 7) / 2) / 3) xw (by rw [Int.tdiv_eq_ediv_of_nonneg xq]; exact IntWalk.i64_in _ xq) ?_))
 refine sy_rem 47 (n := ((z12 / 7) / 2) / 3) (m := 2) ((((z12 / 7) / 2) / 3) % 2) xw (Int.tmod_eq_emod_of_nonneg xq) ?_
 refine zyq 48 (x := zI (IntKind.i64.wrap ((1 : Int) + ((((z12 / 7) / 2) / 3) % 2)))) (zI ((1 : Int) + ((((z12 / 7) / 2) / 3) % 2))) xz (zza 49 (.adr 9 2) (zzj ⟨27, [.int .i64 ((6 : Int) + (z12 % 7)), .int .i64 (((((6 : Int) + (z12 % 7)) - 1) - 2) - ((z12 / 7) % 2)), .int .i64 ((1 : Int) + (((z12 / 7) / 2) % 3)), .int .i64 0]⟩ ty3 ?_))
 refine zza 50 (.adr 9 3) (zzj ⟨27, [.int .i64 ((6 : Int) + (z12 % 7)), .int .i64 (((((6 : Int) + (z12 % 7)) - 1) - 2) - ((z12 / 7) % 2)), .int .i64 ((1 : Int) + (((z12 / 7) / 2) % 3)), .int .i64 ((1 : Int) + ((((z12 / 7) / 2) / 3) % 2))]⟩ ty3 ?_)
 refine zzb (sq9 (zzi 51 (.v (.agg #[.int .i64 ((6 : Int) + (z12 % 7)), .int .i64 (((((6 : Int) + (z12 % 7)) - 1) - 2) - ((z12 / 7) % 2)), .int .i64 ((1 : Int) + (((z12 / 7) / 2) % 3)), .int .i64 ((1 : Int) + ((((z12 / 7) / 2) / 3) % 2))])) ty27 zze (zzj ⟨27, [.int .i64 ((6 : Int) + (z12 % 7)), .int .i64 (((((6 : Int) + (z12 % 7)) - 1) - 2) - ((z12 / 7) % 2)), .int .i64 ((1 : Int) + (((z12 / 7) / 2) % 3)), .int .i64 ((1 : Int) + ((((z12 / 7) / 2) / 3) % 2))]⟩ ty27 ?_)))
 refine zzb (zzo (ret0 [.agg #[.int .i64 ((6 : Int) + (z12 % 7)), .int .i64 (((((6 : Int) + (z12 % 7)) - 1) - 2) - ((z12 / 7) % 2)), .int .i64 ((1 : Int) + (((z12 / 7) / 2) % 3)), .int .i64 ((1 : Int) + ((((z12 / 7) / 2) / 3) % 2))]] ⟨zzr ty27 zze, trivial⟩ fun u18 e19 => ?_))
 exact ⟨⟨(6 : Int) + (z12 % 7), ((((6 : Int) + (z12 % 7)) - 1) - 2) - ((z12 / 7) % 2), (1 : Int) + (((z12 / 7) / 2) % 3), (1 : Int) + ((((z12 / 7) / 2) / 3) % 2)⟩, rfl, by unfold WdOK; dsimp only; omega, by dsimp only; omega, by dsimp only; omega⟩
theorem k_data {u w : World} {k : Int} (d : Dat u w) (hk0 : -9223372036854775808 ≤ k) (hk1 : k ≤ 9223372036854775807) : Calls Try.prog 6 #[.int .i64 k] w (Post u w fun v _ => ∃ W : WL, v = W.v ∧ WdOK W ∧ 6 ≤ W.b ∧ W.b ≤ 12) := by
 refine zzm (args := [.int .i64 k]) Try.func6 rfl Try.ntmps6 (rs := [.cell 2 27]) Try.results6 (le_b rfl) (le_b rfl) d ?_
 refine sq9 (zzk 2 ⟨27, [.int .i64 0, .int .i64 0, .int .i64 0, .int .i64 0]⟩ (zzb (sq9 (zza 3 (zI k) (zzg 4 17 [.int .i64 k, .int .i64 6, .int .i64 12, .int .i64 2] ?_)))))
 intro w11 u11 e11 d11
 have k18 := k_wordD (k := k) d11 xq xq
 with_reducible refine zPm k18 ?_
 rintro _ u16 g17 ⟨D12, rfl, hD13, h614, h715⟩
 refine zzj ⟨27, D12.cs⟩ ty27 ?_
 refine zzb (zzo (ret0 [.agg #[.int .i64 D12.b, .int .i64 D12.f, .int .i64 D12.r, .int .i64 D12.o]] ⟨zzr ty27 zze, trivial⟩ fun u19 e20 => ?_))
 exact ⟨D12, rfl, by assumption, by assumption, by assumption⟩
theorem k_wr21Low {u w : World} {W : WL} (d : Dat u w) (hW : WdOK W) : Calls Try.prog 21 #[W.v] w (Post u w fun v _ => v = .int .i64 (-Nt.p2i (W.b - 1))) := by
 obtain ⟨hw1, hw2, hw3, hw4, hw5, hw6, hw7, hw8⟩ := id hW
 have hu0 := Nt.zxj W.f
 have hu1 := Nt.p2i_24 (n := W.f) xq
 have hu2 := Nt.zxz (a := W.f) (b := W.b - 1) xq
 have hu3 := Nt.p2i_24 (n := W.b - 1) xq
 refine zzm (args := [.agg #[.int .i64 W.b, .int .i64 W.f, .int .i64 W.r, .int .i64 W.o]]) Try.func21 rfl Try.ntmps21 (rs := [.tmp 2]) Try.results21 (le_b rfl) (le_b rfl) d ?_
 refine sq9 (zzk 1 ⟨27, W.cs⟩ (zza 2 (zI 0) (zzb (zzd (sq9 (zzi 3 (.v (W.v)) ty27 zze (zzg 4 41 [W.v] ?_)))))))
 intro w11 u11 e11 d11
 have k14 := (Post.mono (Ψ := fun v _ => v = .bool true) (k_r21ValidG (W := W) d11) (fun v u9 _ h => by rw [decide_eq_true hW] at h; exact h))
 with_reducible refine zPm k14 ?_
 rintro _ u12 g13 rfl
 refine zza 5 (zB false) (zzb (zys xv (zzs (zzp ?_))))
 refine sq9 (zza 6 (.adr 1 0) (zzi 7 (zI W.b) ty3 zzl (zyq 8 (x := zI (IntKind.i64.wrap (W.b - 1))) (zI (W.b - 1)) xz (sy_conv 9 (W.b - 1) (fun w => by kernel_rfl) (IntWalk.u64_in _ xq) ?_))))
 refine sy_shl 10 (k := .i64) (s := W.b - 1) (Nt.p2i (W.b - 1)) xq yv (shl_one xq xq) ?_
 refine zyq 11 (x := zI (IntKind.i64.wrap (0 - Nt.p2i (W.b - 1)))) (zI (-Nt.p2i (W.b - 1))) (by rw [show (IntKind.i64.wrap (0 - Nt.p2i (W.b - 1))) = (-Nt.p2i (W.b - 1)) from xk]) (zza 2 (zI (-Nt.p2i (W.b - 1))) (zzb (zzo (ret0 [.int .i64 (-Nt.p2i (W.b - 1))] ⟨zzq, trivial⟩ fun u15 e16 => ?_))))
 rfl
theorem k_wr21High {u w : World} {W : WL} (d : Dat u w) (hW : WdOK W) : Calls Try.prog 22 #[W.v] w (Post u w fun v _ => v = .int .i64 (Nt.p2i (W.b - 1) - 1)) := by
 obtain ⟨hw1, hw2, hw3, hw4, hw5, hw6, hw7, hw8⟩ := id hW
 have hu0 := Nt.zxj W.f
 have hu1 := Nt.p2i_24 (n := W.f) xq
 have hu2 := Nt.zxz (a := W.f) (b := W.b - 1) xq
 have hu3 := Nt.p2i_24 (n := W.b - 1) xq
 refine zzm (args := [.agg #[.int .i64 W.b, .int .i64 W.f, .int .i64 W.r, .int .i64 W.o]]) Try.func22 rfl Try.ntmps22 (rs := [.tmp 2]) Try.results22 (le_b rfl) (le_b rfl) d ?_
 refine sq9 (zzk 1 ⟨27, W.cs⟩ (zza 2 (zI 0) (zzb (zzd (sq9 (zzi 3 (.v (W.v)) ty27 zze (zzg 4 41 [W.v] ?_)))))))
 intro w11 u11 e11 d11
 have k14 := (Post.mono (Ψ := fun v _ => v = .bool true) (k_r21ValidG (W := W) d11) (fun v u9 _ h => by rw [decide_eq_true hW] at h; exact h))
 with_reducible refine zPm k14 ?_
 rintro _ u12 g13 rfl
 refine zza 5 (zB false) (zzb (zys xv (zzs (zzp ?_))))
 refine sq9 (zza 6 (.adr 1 0) (zzi 7 (zI W.b) ty3 zzl (zyq 8 (x := zI (IntKind.i64.wrap (W.b - 1))) (zI (W.b - 1)) xz (sy_conv 9 (W.b - 1) (fun w => by kernel_rfl) (IntWalk.u64_in _ xq) ?_))))
 refine sy_shl 10 (k := .i64) (s := W.b - 1) (Nt.p2i (W.b - 1)) xq yv (shl_one xq xq) ?_
 refine zyq 11 (x := zI (IntKind.i64.wrap ((Nt.p2i (W.b - 1)) - 1))) (zI ((Nt.p2i (W.b - 1)) - 1)) xz (zza 2 (zI ((Nt.p2i (W.b - 1)) - 1)) (zzb (zzo (ret0 [.int .i64 ((Nt.p2i (W.b - 1)) - 1)] ⟨zzq, trivial⟩ fun u15 e16 => ?_))))
 rfl
theorem fit_nil {W : WL} : ∀ z ∈ ([] : List Int), Nt.fitB W z = true := fun z hz => by cases hz
theorem fit_snoc {W : WL} {L : List Int} {a : Int} (h : ∀ z ∈ L, Nt.fitB W z = true) (h1 : -Nt.p2i (W.b - 1) ≤ a) (h2 : a ≤ Nt.p2i (W.b - 1) - 1) : ∀ z ∈ L ++ [a], Nt.fitB W z = true := fun z hz => by
 rcases List.mem_append.1 hz with hz | hz
 ·exact h z hz
 ·rw [List.mem_singleton.1 hz]; exact Nt.fit_iff.2 ⟨h1, h2⟩
set_option maxHeartbeats 2000000 in
theorem k_wwords {u w : World} {x : Sl} {l : List Int} {W : WL} {n : Nat} (d : Dat u w) (hx : SlR .i64 u x.a x.n x.c l) (hb : ∀ z ∈ l, -9223372036854775808 ≤ z ∧ z ≤ 9223372036854775807) (hW : WdOK W) (hn : n ≤ 1000) : Calls Try.prog 9 #[W.v, x.v, .int .i64 (n : Int)] w (Post u w fun v u' => ∃ (y : Sl) (m : List Int), v = y.v ∧ m.length = n ∧ SlR .i64 u' y.a y.n y.c m ∧ ∀ z ∈ m, Nt.fitB W z = true) := by
 obtain ⟨hw1, hw2, hw3, hw4, hw5, hw6, hw7, hw8⟩ := id hW
 have hu0 := Nt.zxj W.f
 have hu1 := Nt.p2i_24 (n := W.f) xq
 have hu2 := Nt.zxz (a := W.f) (b := W.b - 1) xq
 have hu3 := Nt.p2i_24 (n := W.b - 1) xq
 refine zzm (args := [.agg #[.int .i64 W.b, .int .i64 W.f, .int .i64 W.r, .int .i64 W.o], .slice x.a x.n x.c, .int .i64 n]) Try.func9 rfl Try.ntmps9 (rs := [.tmp 6]) Try.results9 (le_b rfl) (le_b rfl) d ?_
 refine sq9 (zzk 3 ⟨27, W.cs⟩ (zza 6 (.v (.slice none 0 0)) (zzb (sq9 (zza 7 (.v (.slice none 0 0)) (zzb (zzd (sq9 (zza 8 (zI 0) (zzb (zzt ?_)))))))))))
 refine zyn (I := fun m11 S' u' => (m11 = n ∧ S' = St.of 34 [(1, .v (.slice x.a x.n x.c)), (2, zI n), (3, .adr 3 0), (7, .v (.slice none 0 0)), (8, zI 0)] [(3, ⟨27, [.int .i64 W.b, .int .i64 W.f, .int .i64 W.r, .int .i64 W.o]⟩)] ∧ Ext u u') ∨ (∃ (i : Nat) (L : List Int) (cs : List Value) (cp : Nat), m11 = n - i ∧ i ≤ n ∧ 0 < i ∧ L.length = i ∧ cs.length = cp * 1 ∧ i ≤ cp ∧ cp ≤ maxLen ∧ cs.take (i * 1) = L.map (Value.int .i64) ∧ S' = St.of 34 [(1, .v (.slice x.a x.n x.c)), (2, zI n), (3, .adr 3 0), (7, .slc 32 0 i cp), (8, zI i)] [(3, ⟨27, [.int .i64 W.b, .int .i64 W.f, .int .i64 W.r, .int .i64 W.o]⟩), (32, ⟨3, cs⟩)] ∧ Ext u u' ∧ (∀ z ∈ L, Nt.fitB W z = true))) (fun m S u1 u2 e h => by rcases h with ⟨a, b, c⟩ | ⟨a1, a2, a3, a4, b1, b2, b3, b4, b5, b6, b7, b8, b9, b10, b11⟩; exact .inl ⟨a, b, c.trans e⟩; exact .inr ⟨a1, a2, a3, a4, b1, b2, b3, b4, b5, b6, b7, b8, b9, b10.trans e, b11⟩) _ yj (.inl ⟨rfl, rfl, Ext.refl _⟩) ?_
 rintro m11 _ u11 (⟨hm11, rfl, e11⟩ | ⟨i, L, cs, cp, hm11, hi, hp, hL, hc, hle, hmx, ht, rfl, e11, hP⟩)
 ·change SW _ _ _ _ (St.of 34 [(1, .v (.slice x.a x.n x.c)), (2, .v (.int .i64 (n : Int))), (3, .adr 3 0), (7, .v (.slice none 0 0)), (8, .v (.int .i64 0))] [(3, ⟨27, [.int .i64 W.b, .int .i64 W.f, .int .i64 W.r, .int .i64 W.o]⟩)]) _ _
  refine zzd (sq9 (zza 9 (zI 0) (zza 10 (zI n) (zza 11 (zB (decide ((0 : Int) < (n : Int)))) (zzb (zzu (b := decide ((0 : Int) < (n : Int))) xv (fun hb12 => ?_) (fun hb12 => ?_)))))))
  ·replace hb12 : (decide ((0 : Int) < (n : Int))) = true := hb12
   have qhb12 := of_decide_eq_true hb12
   refine zzs (zzp ?_)
   refine zzd (zzt (zzz [0, 0, 2, 0, 0, 30, 0, 126, 254, 0, 766, 0, 3838, 7934, 16126, 32766, 65534, 131070, 262143, 524287] [(0, []), (1, []), (3, []), (4, []), (6, []), (9, []), (11, []), (2, []), (5, []), (7, []), (8, []), (10, []), (12, []), (13, []), (14, []), (15, []), (16, []), (17, []), (18, []), (19, [])] xv xv (zza 14 (.v (.slice none 0 0)) (zzi 15 (.v (W.v)) ty27 zze (zza 17 (.v x.v) (zza 18 (zI 0) (zzi 20 (.v (W.v)) ty27 zze (zzi 23 (.v (W.v)) ty27 zze (zzi 25 (.v (W.v)) ty27 zze (zzg 16 21 [W.v] ?_))))))))))
   intro w13 u13 e13 d13
   have k16 := k_wr21Low (W := W) d13 hW
   with_reducible refine zPm k16 ?_
   rintro _ u14 g15 rfl
   refine zzg 19 20 [x.v, .int .i64 0] ?_
   intro w17 u17 e17 d17
   have k20 := (show Calls _ _ #[_, .int .i64 0] _ _ from k_wat (x := x) (i := 0) d17 (hx.ext (e11.trans (e13.trans (g15.ext.trans e17)))) hb xq)
   with_reducible refine zPm k20 ?_
   rintro _ u18 g19 rfl
   have hz21 := ints_bd hb xq 0
   refine zzg 21 21 [W.v] ?_
   intro w22 u22 e22 d22
   have k25 := k_wr21Low (W := W) d22 hW
   with_reducible refine zPm k25 ?_
   rintro _ u23 g24 rfl
   obtain ⟨z26, hz26, ha26, hb26⟩ := wrap64_ex ((l.getD 0 0) - (-Nt.p2i (W.b - 1)))
   refine zyq 22 (x := zI (IntKind.i64.wrap ((l.getD 0 0) - (-Nt.p2i (W.b - 1))))) (zI z26) (eqI hz26) (zzg 24 22 [W.v] ?_)
   intro w27 u27 e27 d27
   have k30 := k_wr21High (W := W) d27 hW
   with_reducible refine zPm k30 ?_
   rintro _ u28 g29 rfl
   refine zzg 26 21 [W.v] ?_
   intro w31 u31 e31 d31
   have k34 := k_wr21Low (W := W) d31 hW
   with_reducible refine zPm k34 ?_
   rintro _ u32 g33 rfl
   refine zyq 27 (x := zI (IntKind.i64.wrap ((Nt.p2i (W.b - 1) - 1) - (-Nt.p2i (W.b - 1))))) (zI ((Nt.p2i (W.b - 1) - 1) - (-Nt.p2i (W.b - 1)))) xz (zyq 28 (x := zI (IntKind.i64.wrap (((Nt.p2i (W.b - 1) - 1) - (-Nt.p2i (W.b - 1))) + 1))) (zI (((Nt.p2i (W.b - 1) - 1) - (-Nt.p2i (W.b - 1))) + 1)) xz (zzg 29 18 [.int .i64 z26, .int .i64 (((Nt.p2i (W.b - 1) - 1) - (-Nt.p2i (W.b - 1))) + 1)] ?_))
   intro w35 u35 e35 d35
   have k41 := (show Calls _ _ #[.int .i64 z26, .int .i64 (((Nt.p2i (W.b - 1) - 1) - (-Nt.p2i (W.b - 1))) + 1)] _ _ from k_withinB (n := z26) (m := ((Nt.p2i (W.b - 1) - 1) - (-Nt.p2i (W.b - 1))) + 1) d35 xq xq xq xq)
   with_reducible refine zPm k41 ?_
   rintro _ u39 g40 ⟨z36, rfl, h37, h38⟩
   refine zyq 30 (x := zI (IntKind.i64.wrap ((-Nt.p2i (W.b - 1)) + z36))) (zI ((-Nt.p2i (W.b - 1)) + z36)) xz (sy_lit 31 ⟨3, [.int .i64 ((-Nt.p2i (W.b - 1)) + z36)]⟩ 1 ?_)
   refine sy_appL0 32 (T := 22) (E := 3) (z := .int .i64 0) (size := 1) (bytes := 8) (m := 1) (t2 := 31) [.int .i64 ((-Nt.p2i (W.b - 1)) + z36)] xv xv xv xw rfl (int_one _) xw xw xw ?_
   intro c42 cs42 ha42 hb42 hc42 hd42
   have hd42r : cs42.take (1 * 1) = ([(-Nt.p2i (W.b - 1)) + z36]).map (Value.int .i64) := hd42
   refine zza 7 (.slc 32 0 1 c42) (zzx ?_)
   refine zzp (zzf (zza 12 (zI 0) (zza 13 (zI 1) (zza 8 (zI 1) (zzx ?_)))))
   refine ⟨_, ?_, _, by exact zzv _ _ _, .inr ⟨1, [(-Nt.p2i (W.b - 1)) + z36], cs42, c42, rfl, by omega, by omega, by simp, hc42, by omega, hb42, hd42r, rfl, (e11.trans (e13.trans (g15.ext.trans (e17.trans (g19.ext.trans (e22.trans (g24.ext.trans (e27.trans (g29.ext.trans (e31.trans (g33.ext.trans (e35.trans g40.ext)))))))))))), (fit_snoc (L := []) fit_nil xq xq)⟩⟩
   omega
  ·replace hb12 : (decide ((0 : Int) < (n : Int))) = false := hb12
   have qhb12 := of_decide_eq_false hb12
   refine zyc (zzp (zzd ?_))
   have hp43 : SlR .i64 u11 none 0 0 [] := ints_nil
   refine zzf (zza 33 (.v (.slice none 0 0)) (zza 6 (.v (.slice none 0 0)) (zzb (zzo (ret0 [.slice none 0 0] ⟨zzq, trivial⟩ fun u44 e45 => ?_)))))
   exact ⟨⟨none, 0, 0⟩, [], rfl, (by first|omega|(simp;omega)), (hp43.ext e45), fit_nil⟩
 ·change SW _ _ _ _ (St.of 34 [(1, .v (.slice x.a x.n x.c)), (2, .v (.int .i64 (n : Int))), (3, .adr 3 0), (7, .slc 32 0 i cp), (8, .v (.int .i64 (i : Int)))] [(3, ⟨27, [.int .i64 W.b, .int .i64 W.f, .int .i64 W.r, .int .i64 W.o]⟩), (32, ⟨3, cs⟩)]) _ _
  refine zzd (sq9 (zza 9 (zI i) (zza 10 (zI n) (zza 11 (zB (decide ((i : Int) < (n : Int)))) (zzb (zzu (b := decide ((i : Int) < (n : Int))) xv (fun hb46 => ?_) (fun hb46 => ?_)))))))
  ·replace hb46 : (decide ((i : Int) < (n : Int))) = true := hb46
   have qhb46 := of_decide_eq_true hb46
   refine zzs (zzp ?_)
   refine zzd (zzt (zzz [0, 0, 2, 0, 0, 30, 0, 126, 254, 0, 766, 0, 3838, 7934, 16126, 32766, 65534, 131070, 262143, 524287] [(0, []), (1, []), (3, []), (4, []), (6, []), (9, []), (11, []), (2, []), (5, []), (7, []), (8, []), (10, []), (12, []), (13, []), (14, []), (15, []), (16, []), (17, []), (18, []), (19, [])] xv xv (zza 14 (.slc 32 0 i cp) (zzi 15 (.v (W.v)) ty27 zze (zza 17 (.v x.v) (zza 18 (zI i) (zzi 20 (.v (W.v)) ty27 zze (zzi 23 (.v (W.v)) ty27 zze (zzi 25 (.v (W.v)) ty27 zze (zzg 16 21 [W.v] ?_))))))))))
   intro w47 u47 e47 d47
   have k50 := k_wr21Low (W := W) d47 hW
   with_reducible refine zPm k50 ?_
   rintro _ u48 g49 rfl
   refine zzg 19 20 [x.v, .int .i64 i] ?_
   intro w51 u51 e51 d51
   have k54 := (show Calls _ _ #[_, .int .i64 (i : Int)] _ _ from k_wat (x := x) (i := i) d51 (hx.ext (e11.trans (e47.trans (g49.ext.trans e51)))) hb xq)
   with_reducible refine zPm k54 ?_
   rintro _ u52 g53 rfl
   have hz55 := ints_bd hb xq i
   refine zzg 21 21 [W.v] ?_
   intro w56 u56 e56 d56
   have k59 := k_wr21Low (W := W) d56 hW
   with_reducible refine zPm k59 ?_
   rintro _ u57 g58 rfl
   obtain ⟨z60, hz60, ha60, hb60⟩ := wrap64_ex ((l.getD i 0) - (-Nt.p2i (W.b - 1)))
   refine zyq 22 (x := zI (IntKind.i64.wrap ((l.getD i 0) - (-Nt.p2i (W.b - 1))))) (zI z60) (eqI hz60) (zzg 24 22 [W.v] ?_)
   intro w61 u61 e61 d61
   have k64 := k_wr21High (W := W) d61 hW
   with_reducible refine zPm k64 ?_
   rintro _ u62 g63 rfl
   refine zzg 26 21 [W.v] ?_
   intro w65 u65 e65 d65
   have k68 := k_wr21Low (W := W) d65 hW
   with_reducible refine zPm k68 ?_
   rintro _ u66 g67 rfl
   refine zyq 27 (x := zI (IntKind.i64.wrap ((Nt.p2i (W.b - 1) - 1) - (-Nt.p2i (W.b - 1))))) (zI ((Nt.p2i (W.b - 1) - 1) - (-Nt.p2i (W.b - 1)))) xz (zyq 28 (x := zI (IntKind.i64.wrap (((Nt.p2i (W.b - 1) - 1) - (-Nt.p2i (W.b - 1))) + 1))) (zI (((Nt.p2i (W.b - 1) - 1) - (-Nt.p2i (W.b - 1))) + 1)) xz (zzg 29 18 [.int .i64 z60, .int .i64 (((Nt.p2i (W.b - 1) - 1) - (-Nt.p2i (W.b - 1))) + 1)] ?_))
   intro w69 u69 e69 d69
   have k75 := (show Calls _ _ #[.int .i64 z60, .int .i64 (((Nt.p2i (W.b - 1) - 1) - (-Nt.p2i (W.b - 1))) + 1)] _ _ from k_withinB (n := z60) (m := ((Nt.p2i (W.b - 1) - 1) - (-Nt.p2i (W.b - 1))) + 1) d69 xq xq xq xq)
   with_reducible refine zPm k75 ?_
   rintro _ u73 g74 ⟨z70, rfl, h71, h72⟩
   refine zyq 30 (x := zI (IntKind.i64.wrap ((-Nt.p2i (W.b - 1)) + z70))) (zI ((-Nt.p2i (W.b - 1)) + z70)) xz (sy_lit 31 ⟨3, [.int .i64 ((-Nt.p2i (W.b - 1)) + z70)]⟩ 1 ?_)
   refine sy_appL1 32 (T := 22) (E := 3) (z := .int .i64 0) (size := 1) (bytes := 8) (m := 1) (t2 := 31) (n := i) (cap := cp) (t := 32) (cs0 := cs) [7, 14, 32] [.int .i64 ((-Nt.p2i (W.b - 1)) + z70)] xv xv xv xw rfl (int_one _) xw yq xq xq xq xq xj ?_
   intro c76 cs76 ha76 hb76 hc76 hd76
   have hd76r : cs76.take ((i + 1) * 1) = (L ++ [(-Nt.p2i (W.b - 1)) + z70]).map (Value.int .i64) := by rw [hd76, ht, List.map_append]; rfl
   refine zza 7 (.slc 32 0 (i + 1) c76) (zzx ?_)
   refine zzp (zzf (zza 12 (zI i) (zyq 13 (x := zI (IntKind.i64.wrap ((i : Int) + 1))) (zI (i + 1 : Nat)) (eqI xk) (zza 8 (zI (i + 1 : Nat)) (zzx ?_)))))
   refine ⟨_, ?_, _, by exact zzv _ _ _, .inr ⟨i + 1, L ++ [(-Nt.p2i (W.b - 1)) + z70], cs76, c76, rfl, by omega, by omega, by simp; omega, hc76, by omega, hb76, hd76r, rfl, (e11.trans (e47.trans (g49.ext.trans (e51.trans (g53.ext.trans (e56.trans (g58.ext.trans (e61.trans (g63.ext.trans (e65.trans (g67.ext.trans (e69.trans g74.ext)))))))))))), (fit_snoc (L := L) hP xq xq)⟩⟩
   omega
  ·replace hb46 : (decide ((i : Int) < (n : Int))) = false := hb46
   have qhb46 := of_decide_eq_false hb46
   refine zyc (zzp (zzd (zyp (r := 7) (t := 32) [7, 32] xj xv (by rfl) (by rfl) xv (fun b78 u79 e80 hb81 hh82 => ?_))))
   have hp77 : SlR .i64 u79 (some ⟨b78, 0, none⟩) i cp L := ints_data hh82 (by have h9 := ht; rw [Nat.mul_one] at h9; exact h9) (by have h9 := hc; rw [Nat.mul_one] at h9; exact h9) hle hmx
   refine zzf (zza 33 (.v (.slice (some ⟨b78, 0, none⟩) i cp)) (zza 6 (.v (.slice (some ⟨b78, 0, none⟩) i cp)) (zzb (zzo (ret0 [.slice (some ⟨b78, 0, none⟩) i cp] ⟨zzq, trivial⟩ fun u83 e84 => ?_)))))
   exact ⟨(⟨some ⟨b78, 0, none⟩, i, cp⟩ : Sl), L, rfl, (by first|omega|(simp;omega)), (hp77.ext e84), hP⟩
theorem fit_bd {W : WL} {l : List Int} (hW : WdOK W) (h : ∀ z ∈ l, Nt.fitB W z = true) : ∀ z ∈ l, -9223372036854775808 ≤ z ∧ z ≤ 9223372036854775807 := fun z hz => by
 have h1 := Nt.fit_iff.1 (h z hz)
 have h2 := Nt.p2i_24 (n := W.b - 1) (by obtain ⟨_, h3, _⟩ := hW; omega)
 omega
theorem bd_five {lo hi a b c d e : Int} (h1 : lo ≤ a ∧ a ≤ hi) (h2 : lo ≤ b ∧ b ≤ hi) (h3 : lo ≤ c ∧ c ≤ hi) (h4 : lo ≤ d ∧ d ≤ hi) (h5 : lo ≤ e ∧ e ≤ hi) : ∀ z ∈ [a, b, c, d, e], lo ≤ z ∧ z ≤ hi := fun z hz => by
 rcases List.mem_cons.1 hz with rfl | hz
 ·exact h1
 rcases List.mem_cons.1 hz with rfl | hz
 ·exact h2
 rcases List.mem_cons.1 hz with rfl | hz
 ·exact h3
 rcases List.mem_cons.1 hz with rfl | hz
 ·exact h4
 rcases List.mem_cons.1 hz with rfl | hz
 ·exact h5
 cases hz
theorem sec_nil {b : Int} : ∀ p ∈ ([] : List (List Int)), p.length = 5 ∧ ∀ z ∈ p, -b ≤ z ∧ z ≤ b := fun p hp => by cases hp
theorem sec_snoc {L : List (List Int)} {lo a b c d e : Int} (h : ∀ p ∈ L, p.length = 5 ∧ ∀ z ∈ p, -lo ≤ z ∧ z ≤ lo) (h1 : -lo ≤ a ∧ a ≤ lo) (h2 : -lo ≤ b ∧ b ≤ lo) (h3 : -lo ≤ c ∧ c ≤ lo) (h4 : -lo ≤ d ∧ d ≤ lo) (h5 : -lo ≤ e ∧ e ≤ lo) : ∀ p ∈ L ++ [[a, b, c, d, e]], p.length = 5 ∧ ∀ z ∈ p, -lo ≤ z ∧ z ≤ lo := fun p hp => by
 rcases List.mem_append.1 hp with hp | hp
 ·exact h p hp
 ·rw [List.mem_singleton.1 hp]; exact ⟨rfl, bd_five h1 h2 h3 h4 h5⟩
set_option maxHeartbeats 4000000 in
theorem k_sections24 {u w : World} {x y : Sl} {l m : List Int} {W : WL} {n q : Int} (d : Dat u w) (hx : SlR .i64 u x.a x.n x.c l) (hb : ∀ z ∈ l, -9223372036854775808 ≤ z ∧ z ≤ 9223372036854775807) (hy : SlR .i64 u y.a y.n y.c m) (hbm : ∀ z ∈ m, -9223372036854775808 ≤ z ∧ z ≤ 9223372036854775807) (hW : WdOK W) (hq1 : 1 ≤ q) (hq2 : q ≤ 8) (hn0 : -9223372036854775808 ≤ n) (hn1 : n ≤ 9223372036854775807) : Calls Try.prog 8 #[.agg #[x.v, y.v], .int .i64 n, .int .i64 q, W.v] w (Post u w fun v u' => ∃ (y : Sl) (L : List (List Int)), v = y.v ∧ IrV 5 u' y L ∧ L.length = (n % q).toNat + 1 ∧ ∀ p ∈ L, p.length = 5 ∧ ∀ z ∈ p, -(Nt.p2i (W.b - 1) - 1) ≤ z ∧ z ≤ Nt.p2i (W.b - 1) - 1) := by
 obtain ⟨hw1, hw2, hw3, hw4, hw5, hw6, hw7, hw8⟩ := id hW
 have hu0 := Nt.zxj W.f
 have hu1 := Nt.p2i_24 (n := W.f) xq
 have hu2 := Nt.zxz (a := W.f) (b := W.b - 1) xq
 have hu3 := Nt.p2i_24 (n := W.b - 1) xq
 have hm0 := Int.emod_nonneg n (show q ≠ 0 by omega)
 have hm1 := Int.emod_lt_of_pos n (show 0 < q by omega)
 have hlx : l.length = x.n := hx.1
 have hly : m.length = y.n := hy.1
 refine zzm (args := [.agg #[.slice x.a x.n x.c, .slice y.a y.n y.c], .int .i64 n, .int .i64 q, .agg #[.int .i64 W.b, .int .i64 W.f, .int .i64 W.r, .int .i64 W.o]]) Try.func8 rfl Try.ntmps8 (rs := [.tmp 8]) Try.results8 (le_b rfl) (le_b rfl) d ?_
 refine sq9 (zzk 4 ⟨24, [x.v, y.v]⟩ (zzk 7 ⟨27, W.cs⟩ (zza 8 (.v (.slice none 0 0)) (zzb (sq9 (zza 9 (.v (.slice none 0 0)) (zzb (sq9 (zza 13 (.adr 7 0) (zzi 14 (zI W.b) ty3 zzl (zyq 15 (x := zI (IntKind.i64.wrap (W.b - 1))) (zI (W.b - 1)) xz ?_)))))))))))
 refine sy_conv 16 (W.b - 1) (fun w => by kernel_rfl) (IntWalk.u64_in _ xq) ?_
 refine sy_shl 17 (k := .i64) (s := W.b - 1) (Nt.p2i (W.b - 1)) xq yv (shl_one xq xq) ?_
 refine zyq 18 (x := zI (IntKind.i64.wrap ((Nt.p2i (W.b - 1)) - 1))) (zI ((Nt.p2i (W.b - 1)) - 1)) xz (zza 10 (zI ((Nt.p2i (W.b - 1)) - 1)) (zzb (zzd (sq9 (zza 11 (zI 0) (zzb (zzt (zyn (I := fun m11 S' u' => (m11 = ((n % q).toNat + 1) ∧ S' = St.of 79 [(1, zI n), (2, zI q), (4, .adr 4 0), (9, .v (.slice none 0 0)), (10, zI ((Nt.p2i (W.b - 1)) - 1)), (11, zI 0)] [(4, ⟨24, [.slice x.a x.n x.c, .slice y.a y.n y.c]⟩)] ∧ Ext u u') ∨ (∃ (i : Nat) (L : List (List Int)) (cs : List Value) (cp : Nat), m11 = ((n % q).toNat + 1) - i ∧ i ≤ ((n % q).toNat + 1) ∧ 0 < i ∧ L.length = i ∧ cs.length = cp * 5 ∧ i ≤ cp ∧ cp ≤ maxLen ∧ cs.take (i * 5) = kcs L ∧ S' = St.of 79 [(1, zI n), (2, zI q), (4, .adr 4 0), (9, .slc 77 0 i cp), (10, zI ((Nt.p2i (W.b - 1)) - 1)), (11, zI i)] [(4, ⟨24, [.slice x.a x.n x.c, .slice y.a y.n y.c]⟩), (77, ⟨59, cs⟩)] ∧ Ext u u' ∧ (∀ p ∈ L, p.length = 5 ∧ ∀ z ∈ p, -(Nt.p2i (W.b - 1) - 1) ≤ z ∧ z ≤ Nt.p2i (W.b - 1) - 1))) (fun m S u1 u2 e h => by rcases h with ⟨a, b, c⟩ | ⟨a1, a2, a3, a4, b1, b2, b3, b4, b5, b6, b7, b8, b9, b10, b11⟩; exact .inl ⟨a, b, c.trans e⟩; exact .inr ⟨a1, a2, a3, a4, b1, b2, b3, b4, b5, b6, b7, b8, b9, b10.trans e, b11⟩) _ yj (.inl ⟨rfl, rfl, Ext.refl _⟩) ?_))))))))
 rintro m11 _ u11 (⟨hm11, rfl, e11⟩ | ⟨i, L, cs, cp, hm11, hi, hp, hL, hc, hle, hmx, ht, rfl, e11, hP⟩)
 ·change SW _ _ _ _ (St.of 79 [(1, .v (.int .i64 n)), (2, .v (.int .i64 q)), (4, .adr 4 0), (9, .v (.slice none 0 0)), (10, .v (.int .i64 ((Nt.p2i (W.b - 1)) - 1))), (11, .v (.int .i64 0))] [(4, ⟨24, [.slice x.a x.n x.c, .slice y.a y.n y.c]⟩)]) _ _
  refine zzd (sq9 (zza 19 (zI 0) (zza 20 (zI n) (zza 21 (zI q) (zzg 22 18 [.int .i64 n, .int .i64 q] ?_)))))
  intro w12 u12 e12 d12
  have k15 := k_within d12 (n := n) (m := q) xq xq xq xq
  with_reducible refine zPm k15 ?_
  rintro _ u13 g14 rfl
  refine zza 23 (zB (decide ((0 : Int) ≤ (n % q)))) (zzb (zzu (b := decide ((0 : Int) ≤ (n % q))) xv (fun hb => ?_) (fun hb => ?_)))
  ·clear hb
   refine zzs (zzp ?_)
   refine zzd (zzt (zzd (zzz [0, 0, 2, 0, 8, 30, 0, 64, 0, 256, 768, 2046, 0, 4096, 0, 16384, 49152, 131070, 0, 262144, 0, 1048576, 4194302, 0, 8388608, 0, 33554432, 100663296, 268435454, 536870910, 1073741823, 2147483647] [(0, []), (1, []), (2, []), (3, []), (4, []), (6, []), (7, []), (8, []), (9, []), (10, []), (12, []), (13, []), (14, []), (15, []), (16, []), (18, []), (19, []), (20, []), (21, []), (23, []), (24, []), (25, []), (26, []), (27, []), (5, []), (11, []), (17, []), (22, []), (28, []), (29, []), (30, [55]), (31, [])] xv xv (zza 26 (zI ((Nt.p2i (W.b - 1)) - 1)) (zza 27 (.adr 4 0) (zzi 28 (.v x.v) ty22 zzl (zza 29 (zI 0) (zza 30 (zI 0) (zza 32 (.adr 4 0) (zzi 33 (.v x.v) ty22 zzl (zza 34 (zI 0) ?_)))))))))))
   refine zza 35 (zI 0) (zza 36 (zI 1) (zza 38 (.adr 4 0) (zzi 39 (.v x.v) ty22 zzl (zza 40 (zI 0) (zza 41 (zI 0) (zza 42 (zI 2) (zza 44 (.adr 4 1) (zzi 45 (.v y.v) ty22 zzl (zza 46 (zI 0) (zza 47 (zI 0) (zza 49 (.adr 4 1) ?_)))))))))))
   refine zzi 50 (.v y.v) ty22 zzl (zza 51 (zI 0) (zza 52 (zI 0) (zza 53 (zI 1) (zzg 31 20 [x.v, .int .i64 0] ?_))))
   intro w16 u16 e16 d16
   have k19 := (show Calls _ _ #[_, .int .i64 0] _ _ from k_wat (x := x) (i := 0) d16 (hx.ext (e11.trans (e12.trans (g14.ext.trans e16)))) hb xq)
   with_reducible refine zPm k19 ?_
   rintro _ u17 g18 rfl
   have hz20 := ints_bd hb xq 0
   refine zzg 37 20 [x.v, .int .i64 1] ?_
   intro w21 u21 e21 d21
   have k24 := (show Calls _ _ #[_, .int .i64 1] _ _ from k_wat (x := x) (i := 1) d21 (hx.ext (e11.trans (e12.trans (g14.ext.trans (e16.trans (g18.ext.trans e21)))))) hb xq)
   with_reducible refine zPm k24 ?_
   rintro _ u22 g23 rfl
   have hz25 := ints_bd hb xq 1
   refine zzg 43 20 [x.v, .int .i64 2] ?_
   intro w26 u26 e26 d26
   have k29 := (show Calls _ _ #[_, .int .i64 2] _ _ from k_wat (x := x) (i := 2) d26 (hx.ext (e11.trans (e12.trans (g14.ext.trans (e16.trans (g18.ext.trans (e21.trans (g23.ext.trans e26)))))))) hb xq)
   with_reducible refine zPm k29 ?_
   rintro _ u27 g28 rfl
   have hz30 := ints_bd hb xq 2
   refine zzg 48 20 [y.v, .int .i64 0] ?_
   intro w31 u31 e31 d31
   have k34 := (show Calls _ _ #[_, .int .i64 0] _ _ from k_wat (x := y) (i := 0) d31 (hy.ext (e11.trans (e12.trans (g14.ext.trans (e16.trans (g18.ext.trans (e21.trans (g23.ext.trans (e26.trans (g28.ext.trans e31)))))))))) hbm xq)
   with_reducible refine zPm k34 ?_
   rintro _ u32 g33 rfl
   have hz35 := ints_bd hbm xq 0
   refine zzg 54 20 [y.v, .int .i64 1] ?_
   intro w36 u36 e36 d36
   have k39 := (show Calls _ _ #[_, .int .i64 1] _ _ from k_wat (x := y) (i := 1) d36 (hy.ext (e11.trans (e12.trans (g14.ext.trans (e16.trans (g18.ext.trans (e21.trans (g23.ext.trans (e26.trans (g28.ext.trans (e31.trans (g33.ext.trans e36)))))))))))) hbm xq)
   with_reducible refine zPm k39 ?_
   rintro _ u37 g38 rfl
   have hz40 := ints_bd hbm xq 1
   refine sy_lit 55 ⟨3, [.int .i64 (l.getD 0 0), .int .i64 (l.getD 1 0), .int .i64 (l.getD 2 0), .int .i64 (m.getD 0 0), .int .i64 (m.getD 1 0)]⟩ 5 ?_
   refine zyo 56 19 [.v (.int .i64 ((Nt.p2i (W.b - 1)) - 1)), .slc 55 0 5 5, zI 5] [55] (.inr rfl) (pub_mk xj) (k := ?_)
   intro B41 w41 u41 e41 d41 v41
   have h43 : u41.heap[B41 55]? = some (.cells #[.int .i64 (l.getD 0 0), .int .i64 (l.getD 1 0), .int .i64 (l.getD 2 0), .int .i64 (m.getD 0 0), .int .i64 (m.getD 1 0)] 3 (0, 0)) := v41 55 (by simp) _ rfl
   obtain ⟨b42, hBb42⟩ : ∃ b, B41 55 = b := ⟨_, rfl⟩
   rw [hBb42] at h43
   have hI44 : SlR .i64 u41 (some ⟨b42, 0, none⟩) 5 5 [(l.getD 0 0), (l.getD 1 0), (l.getD 2 0), (m.getD 0 0), (m.getD 1 0)] := ints_data (cs := [.int .i64 (l.getD 0 0), .int .i64 (l.getD 1 0), .int .i64 (l.getD 2 0), .int .i64 (m.getD 0 0), .int .i64 (m.getD 1 0)]) h43 rfl rfl xw (by unfold maxLen; decide)
   show Calls _ _ #[.int .i64 ((Nt.p2i (W.b - 1)) - 1), .slice (some ⟨B41 55, 0, none⟩) 5 5, .int .i64 5] _ _
   rw [hBb42]
   have k48 := (show Calls _ _ #[.int .i64 ((Nt.p2i (W.b - 1)) - 1), .slice (⟨some ⟨b42, 0, none⟩, 5, 5⟩ : Sl).a (⟨some ⟨b42, 0, none⟩, 5, 5⟩ : Sl).n (⟨some ⟨b42, 0, none⟩, 5, 5⟩ : Sl).c, .int .i64 5] _ _ from k_belowN (x := (⟨some ⟨b42, 0, none⟩, 5, 5⟩ : Sl)) (b := (Nt.p2i (W.b - 1)) - 1) (n := 5) d41 hI44 (bd_five xq xq xq xq xq) xq xq xq)
   with_reducible refine zPm k48 ?_
   rintro _ u46 g47 ⟨y45, m45, rfl, hln45, hs45, hal45⟩
   have hly45 : m45.length = y45.n := hs45.1
   refine zza 12 (.v y45.v) (zzc 79 [(1, zI n), (2, zI q), (4, .adr 4 0), (9, .v (.slice none 0 0)), (10, zI ((Nt.p2i (W.b - 1)) - 1)), (11, zI 0), (12, .v y45.v)] [(4, ⟨24, [x.v, y.v]⟩)] (zzz [0, 0, 2, 6, 0, 16, 48, 0, 128, 384, 1022, 0, 2048, 6144, 0, 16384, 49152, 129024, 262142, 524286, 1048575, 2097151] [(0, []), (1, []), (2, []), (3, []), (4, []), (5, []), (6, []), (7, []), (8, []), (9, []), (10, []), (11, []), (12, []), (13, []), (14, []), (15, []), (16, []), (17, []), (18, []), (19, []), (20, []), (21, [])] xv xv (zza 57 (.v (.slice none 0 0)) (zza 58 (.v y45.v) ?_))))
   have hl49 := (hs45).1
   obtain ⟨b49, o49, hA49, hc49⟩ := ints_at hs45 (i := 0) xq
   have hz49 := ints_bd hal45 xq 0
   refine zya 59 (o49 + 0 * 1) (n := y45.n) (off := o49) (sz := 1) (i := 0) xq hA49 xq xq sl22 (zyl 60 (.int .i64 (m45.getD 0 0)) hc49 ty3 (zza 61 (.v y45.v) ?_))
   have hl50 := (hs45).1
   obtain ⟨b50, o50, hA50, hc50⟩ := ints_at hs45 (i := 1) xq
   have hz50 := ints_bd hal45 xq 1
   refine zya 62 (o50 + 1 * 1) (n := y45.n) (off := o50) (sz := 1) (i := 1) xq hA50 xq xq sl22 (zyl 63 (.int .i64 (m45.getD 1 0)) hc50 ty3 (zza 64 (.v y45.v) ?_))
   have hl51 := (hs45).1
   obtain ⟨b51, o51, hA51, hc51⟩ := ints_at hs45 (i := 2) xq
   have hz51 := ints_bd hal45 xq 2
   refine zya 65 (o51 + 2 * 1) (n := y45.n) (off := o51) (sz := 1) (i := 2) xq hA51 xq xq sl22 (zyl 66 (.int .i64 (m45.getD 2 0)) hc51 ty3 (zza 67 (.v (.agg #[.int .i64 (m45.getD 0 0), .int .i64 (m45.getD 1 0), .int .i64 (m45.getD 2 0)])) (zza 68 (.v y45.v) ?_)))
   have hl52 := (hs45).1
   obtain ⟨b52, o52, hA52, hc52⟩ := ints_at hs45 (i := 3) xq
   have hz52 := ints_bd hal45 xq 3
   refine zya 69 (o52 + 3 * 1) (n := y45.n) (off := o52) (sz := 1) (i := 3) xq hA52 xq xq sl22 (zyl 70 (.int .i64 (m45.getD 3 0)) hc52 ty3 (zza 71 (.v y45.v) ?_))
   have hl53 := (hs45).1
   obtain ⟨b53, o53, hA53, hc53⟩ := ints_at hs45 (i := 4) xq
   have hz53 := ints_bd hal45 xq 4
   refine zya 72 (o53 + 4 * 1) (n := y45.n) (off := o53) (sz := 1) (i := 4) xq hA53 xq xq sl22 (zyl 73 (.int .i64 (m45.getD 4 0)) hc53 ty3 (zza 74 (.v (.agg #[.int .i64 (m45.getD 3 0), .int .i64 (m45.getD 4 0)])) (zza 75 (.v (.agg #[.int .i64 (m45.getD 0 0), .int .i64 (m45.getD 1 0), .int .i64 (m45.getD 2 0), .int .i64 (m45.getD 3 0), .int .i64 (m45.getD 4 0)])) (sy_lit 76 ⟨59, [.int .i64 (m45.getD 0 0), .int .i64 (m45.getD 1 0), .int .i64 (m45.getD 2 0), .int .i64 (m45.getD 3 0), .int .i64 (m45.getD 4 0)]⟩ 1 ?_))))
   refine sy_appL0 77 (T := 29) (E := 59) (z := .agg #[.int .i64 0, .int .i64 0, .int .i64 0, .int .i64 0, .int .i64 0]) (size := 5) (bytes := 40) (m := 1) (t2 := 76) [.int .i64 (m45.getD 0 0), .int .i64 (m45.getD 1 0), .int .i64 (m45.getD 2 0), .int .i64 (m45.getD 3 0), .int .i64 (m45.getD 4 0)] xv xv xv xw rfl (ics_one (p := [(m45.getD 0 0), (m45.getD 1 0), (m45.getD 2 0), (m45.getD 3 0), (m45.getD 4 0)])) xw xw xw ?_
   intro c54 cs54 ha54 hb54 hc54 hd54
   have hd54r : cs54.take (1 * 5) = kcs ([[(m45.getD 0 0), (m45.getD 1 0), (m45.getD 2 0), (m45.getD 3 0), (m45.getD 4 0)]]) := hd54
   refine zza 9 (.slc 77 0 1 c54) (zzx ?_)
   refine zzp (zzf (zza 24 (zI 0) (zza 25 (zI 1) (zza 11 (zI 1) (zzx ?_)))))
   refine ⟨_, ?_, _, by exact zzv _ _ _, .inr ⟨1, [[(m45.getD 0 0), (m45.getD 1 0), (m45.getD 2 0), (m45.getD 3 0), (m45.getD 4 0)]], cs54, c54, rfl, by omega, by omega, by simp, hc54, by omega, hb54, hd54r, rfl, (e11.trans (e12.trans (g14.ext.trans (e16.trans (g18.ext.trans (e21.trans (g23.ext.trans (e26.trans (g28.ext.trans (e31.trans (g33.ext.trans (e36.trans (g38.ext.trans (e41.trans g47.ext)))))))))))))), (sec_snoc (L := []) sec_nil xq xq xq xq xq)⟩⟩
   omega
  ·exact absurd hb (by rw [show (decide ((0 : Int) ≤ (n % q))) = true from decide_eq_true xq]; decide)
 ·change SW _ _ _ _ (St.of 79 [(1, .v (.int .i64 n)), (2, .v (.int .i64 q)), (4, .adr 4 0), (9, .slc 77 0 i cp), (10, .v (.int .i64 ((Nt.p2i (W.b - 1)) - 1))), (11, .v (.int .i64 (i : Int)))] [(4, ⟨24, [.slice x.a x.n x.c, .slice y.a y.n y.c]⟩), (77, ⟨59, cs⟩)]) _ _
  refine zzd (sq9 (zza 19 (zI i) (zza 20 (zI n) (zza 21 (zI q) (zzg 22 18 [.int .i64 n, .int .i64 q] ?_)))))
  intro w55 u55 e55 d55
  have k58 := k_within d55 (n := n) (m := q) xq xq xq xq
  with_reducible refine zPm k58 ?_
  rintro _ u56 g57 rfl
  refine zza 23 (zB (decide ((i : Int) ≤ (n % q)))) (zzb (zzu (b := decide ((i : Int) ≤ (n % q))) xv (fun hb59 => ?_) (fun hb59 => ?_)))
  ·replace hb59 : (decide ((i : Int) ≤ (n % q))) = true := hb59
   have qhb59 := of_decide_eq_true hb59
   refine zzs (zzp ?_)
   refine zzd (zzt (zzd (zzz [0, 0, 2, 0, 8, 30, 0, 64, 0, 256, 768, 2046, 0, 4096, 0, 16384, 49152, 131070, 0, 262144, 0, 1048576, 4194302, 0, 8388608, 0, 33554432, 100663296, 268435454, 536870910, 1073741823, 2147483647] [(0, []), (1, []), (2, []), (3, []), (4, []), (6, []), (7, []), (8, []), (9, []), (10, []), (12, []), (13, []), (14, []), (15, []), (16, []), (18, []), (19, []), (20, []), (21, []), (23, []), (24, []), (25, []), (26, []), (27, []), (5, []), (11, []), (17, []), (22, []), (28, []), (29, []), (30, [55]), (31, [])] xv xv (zza 26 (zI ((Nt.p2i (W.b - 1)) - 1)) (zza 27 (.adr 4 0) (zzi 28 (.v x.v) ty22 zzl (zza 29 (zI i) (zyq 30 (x := zI (IntKind.i64.wrap ((3 : Int) * (i : Int)))) (zI (3 * i : Nat)) (eqI xk) (zza 32 (.adr 4 0) (zzi 33 (.v x.v) ty22 zzl (zza 34 (zI i) ?_)))))))))))
   refine zyq 35 (x := zI (IntKind.i64.wrap ((3 : Int) * (i : Int)))) (zI (3 * i : Nat)) (eqI xk) (zyq 36 (x := zI (IntKind.i64.wrap (((3 * i : Nat) : Int) + 1))) (zI (((3 * i) + 1 : Nat) : Int)) (eqI xk) (zza 38 (.adr 4 0) (zzi 39 (.v x.v) ty22 zzl (zza 40 (zI i) (zyq 41 (x := zI (IntKind.i64.wrap ((3 : Int) * (i : Int)))) (zI (3 * i : Nat)) (eqI xk) (zyq 42 (x := zI (IntKind.i64.wrap (((3 * i : Nat) : Int) + 2))) (zI (((3 * i) + 2 : Nat) : Int)) (eqI xk) (zza 44 (.adr 4 1) (zzi 45 (.v y.v) ty22 zzl (zza 46 (zI i) (zyq 47 (x := zI (IntKind.i64.wrap ((2 : Int) * (i : Int)))) (zI (2 * i : Nat)) (eqI xk) (zza 49 (.adr 4 1) ?_)))))))))))
   refine zzi 50 (.v y.v) ty22 zzl (zza 51 (zI i) (zyq 52 (x := zI (IntKind.i64.wrap ((2 : Int) * (i : Int)))) (zI (2 * i : Nat)) (eqI xk) (zyq 53 (x := zI (IntKind.i64.wrap (((2 * i : Nat) : Int) + 1))) (zI (((2 * i) + 1 : Nat) : Int)) (eqI xk) (zzg 31 20 [x.v, .int .i64 (3 * i : Nat)] ?_))))
   intro w60 u60 e60 d60
   have k63 := (show Calls _ _ #[_, .int .i64 ((3 * i : Nat) : Int)] _ _ from k_wat (x := x) (i := 3 * i) d60 (hx.ext (e11.trans (e55.trans (g57.ext.trans e60)))) hb xq)
   with_reducible refine zPm k63 ?_
   rintro _ u61 g62 rfl
   have hz64 := ints_bd hb xq (3 * i)
   refine zzg 37 20 [x.v, .int .i64 (((3 * i) + 1 : Nat) : Int)] ?_
   intro w65 u65 e65 d65
   have k68 := (show Calls _ _ #[_, .int .i64 (((3 * i) + 1 : Nat) : Int)] _ _ from k_wat (x := x) (i := (3 * i) + 1) d65 (hx.ext (e11.trans (e55.trans (g57.ext.trans (e60.trans (g62.ext.trans e65)))))) hb xq)
   with_reducible refine zPm k68 ?_
   rintro _ u66 g67 rfl
   have hz69 := ints_bd hb xq ((3 * i) + 1)
   refine zzg 43 20 [x.v, .int .i64 (((3 * i) + 2 : Nat) : Int)] ?_
   intro w70 u70 e70 d70
   have k73 := (show Calls _ _ #[_, .int .i64 (((3 * i) + 2 : Nat) : Int)] _ _ from k_wat (x := x) (i := (3 * i) + 2) d70 (hx.ext (e11.trans (e55.trans (g57.ext.trans (e60.trans (g62.ext.trans (e65.trans (g67.ext.trans e70)))))))) hb xq)
   with_reducible refine zPm k73 ?_
   rintro _ u71 g72 rfl
   have hz74 := ints_bd hb xq ((3 * i) + 2)
   refine zzg 48 20 [y.v, .int .i64 (2 * i : Nat)] ?_
   intro w75 u75 e75 d75
   have k78 := (show Calls _ _ #[_, .int .i64 ((2 * i : Nat) : Int)] _ _ from k_wat (x := y) (i := 2 * i) d75 (hy.ext (e11.trans (e55.trans (g57.ext.trans (e60.trans (g62.ext.trans (e65.trans (g67.ext.trans (e70.trans (g72.ext.trans e75)))))))))) hbm xq)
   with_reducible refine zPm k78 ?_
   rintro _ u76 g77 rfl
   have hz79 := ints_bd hbm xq (2 * i)
   refine zzg 54 20 [y.v, .int .i64 (((2 * i) + 1 : Nat) : Int)] ?_
   intro w80 u80 e80 d80
   have k83 := (show Calls _ _ #[_, .int .i64 (((2 * i) + 1 : Nat) : Int)] _ _ from k_wat (x := y) (i := (2 * i) + 1) d80 (hy.ext (e11.trans (e55.trans (g57.ext.trans (e60.trans (g62.ext.trans (e65.trans (g67.ext.trans (e70.trans (g72.ext.trans (e75.trans (g77.ext.trans e80)))))))))))) hbm xq)
   with_reducible refine zPm k83 ?_
   rintro _ u81 g82 rfl
   have hz84 := ints_bd hbm xq ((2 * i) + 1)
   refine sy_lit 55 ⟨3, [.int .i64 (l.getD (3 * i) 0), .int .i64 (l.getD ((3 * i) + 1) 0), .int .i64 (l.getD ((3 * i) + 2) 0), .int .i64 (m.getD (2 * i) 0), .int .i64 (m.getD ((2 * i) + 1) 0)]⟩ 5 ?_
   refine zyo 56 19 [.v (.int .i64 ((Nt.p2i (W.b - 1)) - 1)), .slc 55 0 5 5, zI 5] [55] (.inr rfl) (pub_mk xj) (k := ?_)
   intro B85 w85 u85 e85 d85 v85
   have h87 : u85.heap[B85 55]? = some (.cells #[.int .i64 (l.getD (3 * i) 0), .int .i64 (l.getD ((3 * i) + 1) 0), .int .i64 (l.getD ((3 * i) + 2) 0), .int .i64 (m.getD (2 * i) 0), .int .i64 (m.getD ((2 * i) + 1) 0)] 3 (0, 0)) := v85 55 (by simp) _ rfl
   obtain ⟨b86, hBb86⟩ : ∃ b, B85 55 = b := ⟨_, rfl⟩
   rw [hBb86] at h87
   have hI88 : SlR .i64 u85 (some ⟨b86, 0, none⟩) 5 5 [(l.getD (3 * i) 0), (l.getD ((3 * i) + 1) 0), (l.getD ((3 * i) + 2) 0), (m.getD (2 * i) 0), (m.getD ((2 * i) + 1) 0)] := ints_data (cs := [.int .i64 (l.getD (3 * i) 0), .int .i64 (l.getD ((3 * i) + 1) 0), .int .i64 (l.getD ((3 * i) + 2) 0), .int .i64 (m.getD (2 * i) 0), .int .i64 (m.getD ((2 * i) + 1) 0)]) h87 rfl rfl xw (by unfold maxLen; decide)
   show Calls _ _ #[.int .i64 ((Nt.p2i (W.b - 1)) - 1), .slice (some ⟨B85 55, 0, none⟩) 5 5, .int .i64 5] _ _
   rw [hBb86]
   have k92 := (show Calls _ _ #[.int .i64 ((Nt.p2i (W.b - 1)) - 1), .slice (⟨some ⟨b86, 0, none⟩, 5, 5⟩ : Sl).a (⟨some ⟨b86, 0, none⟩, 5, 5⟩ : Sl).n (⟨some ⟨b86, 0, none⟩, 5, 5⟩ : Sl).c, .int .i64 5] _ _ from k_belowN (x := (⟨some ⟨b86, 0, none⟩, 5, 5⟩ : Sl)) (b := (Nt.p2i (W.b - 1)) - 1) (n := 5) d85 hI88 (bd_five xq xq xq xq xq) xq xq xq)
   with_reducible refine zPm k92 ?_
   rintro _ u90 g91 ⟨y89, m89, rfl, hln89, hs89, hal89⟩
   have hly89 : m89.length = y89.n := hs89.1
   refine zza 12 (.v y89.v) (zzc 79 [(1, zI n), (2, zI q), (4, .adr 4 0), (9, .slc 77 0 i cp), (10, zI ((Nt.p2i (W.b - 1)) - 1)), (11, zI i), (12, .v y89.v)] [(4, ⟨24, [x.v, y.v]⟩), (77, ⟨59, cs⟩)] (zzz [0, 0, 2, 6, 0, 16, 48, 0, 128, 384, 1022, 0, 2048, 6144, 0, 16384, 49152, 129024, 262142, 524286, 1048575, 2097151] [(0, []), (1, []), (2, []), (3, []), (4, []), (5, []), (6, []), (7, []), (8, []), (9, []), (10, []), (11, []), (12, []), (13, []), (14, []), (15, []), (16, []), (17, []), (18, []), (19, []), (20, []), (21, [])] xv xv (zza 57 (.slc 77 0 i cp) (zza 58 (.v y89.v) ?_))))
   have hl93 := (hs89).1
   obtain ⟨b93, o93, hA93, hc93⟩ := ints_at hs89 (i := 0) xq
   have hz93 := ints_bd hal89 xq 0
   refine zya 59 (o93 + 0 * 1) (n := y89.n) (off := o93) (sz := 1) (i := 0) xq hA93 xq xq sl22 (zyl 60 (.int .i64 (m89.getD 0 0)) hc93 ty3 (zza 61 (.v y89.v) ?_))
   have hl94 := (hs89).1
   obtain ⟨b94, o94, hA94, hc94⟩ := ints_at hs89 (i := 1) xq
   have hz94 := ints_bd hal89 xq 1
   refine zya 62 (o94 + 1 * 1) (n := y89.n) (off := o94) (sz := 1) (i := 1) xq hA94 xq xq sl22 (zyl 63 (.int .i64 (m89.getD 1 0)) hc94 ty3 (zza 64 (.v y89.v) ?_))
   have hl95 := (hs89).1
   obtain ⟨b95, o95, hA95, hc95⟩ := ints_at hs89 (i := 2) xq
   have hz95 := ints_bd hal89 xq 2
   refine zya 65 (o95 + 2 * 1) (n := y89.n) (off := o95) (sz := 1) (i := 2) xq hA95 xq xq sl22 (zyl 66 (.int .i64 (m89.getD 2 0)) hc95 ty3 (zza 67 (.v (.agg #[.int .i64 (m89.getD 0 0), .int .i64 (m89.getD 1 0), .int .i64 (m89.getD 2 0)])) (zza 68 (.v y89.v) ?_)))
   have hl96 := (hs89).1
   obtain ⟨b96, o96, hA96, hc96⟩ := ints_at hs89 (i := 3) xq
   have hz96 := ints_bd hal89 xq 3
   refine zya 69 (o96 + 3 * 1) (n := y89.n) (off := o96) (sz := 1) (i := 3) xq hA96 xq xq sl22 (zyl 70 (.int .i64 (m89.getD 3 0)) hc96 ty3 (zza 71 (.v y89.v) ?_))
   have hl97 := (hs89).1
   obtain ⟨b97, o97, hA97, hc97⟩ := ints_at hs89 (i := 4) xq
   have hz97 := ints_bd hal89 xq 4
   refine zya 72 (o97 + 4 * 1) (n := y89.n) (off := o97) (sz := 1) (i := 4) xq hA97 xq xq sl22 (zyl 73 (.int .i64 (m89.getD 4 0)) hc97 ty3 (zza 74 (.v (.agg #[.int .i64 (m89.getD 3 0), .int .i64 (m89.getD 4 0)])) (zza 75 (.v (.agg #[.int .i64 (m89.getD 0 0), .int .i64 (m89.getD 1 0), .int .i64 (m89.getD 2 0), .int .i64 (m89.getD 3 0), .int .i64 (m89.getD 4 0)])) (sy_lit 76 ⟨59, [.int .i64 (m89.getD 0 0), .int .i64 (m89.getD 1 0), .int .i64 (m89.getD 2 0), .int .i64 (m89.getD 3 0), .int .i64 (m89.getD 4 0)]⟩ 1 ?_))))
   refine sy_appL1 77 (T := 29) (E := 59) (z := .agg #[.int .i64 0, .int .i64 0, .int .i64 0, .int .i64 0, .int .i64 0]) (size := 5) (bytes := 40) (m := 1) (t2 := 76) (n := i) (cap := cp) (t := 77) (cs0 := cs) [9, 57, 77] [.int .i64 (m89.getD 0 0), .int .i64 (m89.getD 1 0), .int .i64 (m89.getD 2 0), .int .i64 (m89.getD 3 0), .int .i64 (m89.getD 4 0)] xv xv xv xw rfl (ics_one (p := [(m89.getD 0 0), (m89.getD 1 0), (m89.getD 2 0), (m89.getD 3 0), (m89.getD 4 0)])) xw yq xq xq xq xq xj ?_
   intro c98 cs98 ha98 hb98 hc98 hd98
   have hd98r : cs98.take ((i + 1) * 5) = kcs (L ++ [[(m89.getD 0 0), (m89.getD 1 0), (m89.getD 2 0), (m89.getD 3 0), (m89.getD 4 0)]]) := by rw [hd98, ht, kcs_app]; rfl
   refine zza 9 (.slc 77 0 (i + 1) c98) (zzx ?_)
   refine zzp (zzf (zza 24 (zI i) (zyq 25 (x := zI (IntKind.i64.wrap ((i : Int) + 1))) (zI (i + 1 : Nat)) (eqI xk) (zza 11 (zI (i + 1 : Nat)) (zzx ?_)))))
   refine ⟨_, ?_, _, by exact zzv _ _ _, .inr ⟨i + 1, L ++ [[(m89.getD 0 0), (m89.getD 1 0), (m89.getD 2 0), (m89.getD 3 0), (m89.getD 4 0)]], cs98, c98, rfl, by omega, by omega, by simp; omega, hc98, by omega, hb98, hd98r, rfl, (e11.trans (e55.trans (g57.ext.trans (e60.trans (g62.ext.trans (e65.trans (g67.ext.trans (e70.trans (g72.ext.trans (e75.trans (g77.ext.trans (e80.trans (g82.ext.trans (e85.trans g91.ext)))))))))))))), (sec_snoc (L := L) hP xq xq xq xq xq)⟩⟩
   omega
  ·replace hb59 : (decide ((i : Int) ≤ (n % q))) = false := hb59
   have qhb59 := of_decide_eq_false hb59
   refine zyc (zzp (zzd (zyp (r := 9) (t := 77) [9, 77] xj xv (by rfl) (by rfl) xv (fun b99 u100 e101 hb102 hh103 => ?_))))
   have hp104 : IrV 5 u100 ⟨some ⟨b99, 0, none⟩, i, cp⟩ L := ir_data hh103 (fun p hp => (hP p hp).1) ht xq hc hle hmx
   refine zzf (zza 78 (.v (.slice (some ⟨b99, 0, none⟩) i cp)) (zza 8 (.v (.slice (some ⟨b99, 0, none⟩) i cp)) (zzb (zzo (ret0 [.slice (some ⟨b99, 0, none⟩) i cp] ⟨zzq, trivial⟩ fun u105 e106 => ?_)))))
   exact ⟨(⟨some ⟨b99, 0, none⟩, i, cp⟩ : Sl), L, rfl, (hp104.ext e106), by omega, hP⟩
theorem rows_bd {W : WL} {L : List (List Int)} (hW : WdOK W) (h : ∀ p ∈ L, p.length = 5 ∧ ∀ z ∈ p, -(Nt.p2i (W.b - 1) - 1) ≤ z ∧ z ≤ Nt.p2i (W.b - 1) - 1) : ∀ p ∈ L, ∀ z ∈ p, -9223372036854775808 ≤ z ∧ z ≤ 9223372036854775807 := fun p hp z hz => by
 have h1 := (h p hp).2 z hz
 have h2 := Nt.p2i_24 (n := W.b - 1) (by obtain ⟨_, h3, _⟩ := hW; omega)
 omega
theorem fit_getD {D : WL} {l : List Int} (h : ∀ z ∈ l, Nt.fitB D z = true) : ∀ i, i < l.length → Nt.fitB D (l.getD i 0) = true := fun i hi => by
 rw [List.getD_eq_getElem?_getD, List.getElem?_eq_getElem hi]; exact h _ (List.getElem_mem hi)
theorem fit_zero {D : WL} (hD : WdOK D) : Nt.fitB D 0 = true := Nt.fit_iff.2 (by have := Nt.zxj (D.b - 1); omega)
theorem rep_fit {D : WL} (hD : WdOK D) {n : Nat} : ∀ z ∈ List.replicate n (0 : Int), Nt.fitB D z = true := fun z hz => by rw [(List.mem_replicate.1 hz).2]; exact fit_zero hD
theorem rep_data {u : World} {b E n : Nat} (h : u.heap[b]? = some (.cells (ics (List.replicate n 0)).toArray E (0, 0))) (hn : n ≤ 1000) : SlR .i64 u (some ⟨b, 0, none⟩) n n (List.replicate n 0) := ints_data h (by unfold ics; exact List.take_of_length_le (by simp)) (by unfold ics; simp) (Nat.le_refl _) yq
theorem csE_rows1 {W : WL} {p1 : List Int} (hW : WdOK W) (h : ∀ p ∈ [p1], p.length = 5 ∧ ∀ z ∈ p, -(Nt.p2i (W.b - 1) - 1) ≤ z ∧ z ≤ Nt.p2i (W.b - 1) - 1) : Nt.csE W [p1] = 0 := Nt.csE_rows hW (by show 1 ≤ 1; decide) (by show 1 ≤ 8; decide) h
theorem csE_rows2 {W : WL} {p1 p2 : List Int} (hW : WdOK W) (h : ∀ p ∈ [p1, p2], p.length = 5 ∧ ∀ z ∈ p, -(Nt.p2i (W.b - 1) - 1) ≤ z ∧ z ≤ Nt.p2i (W.b - 1) - 1) : Nt.csE W [p1, p2] = 0 := Nt.csE_rows hW (by show 1 ≤ 2; decide) (by show 2 ≤ 8; decide) h
theorem k_csB1 {u w : World} {x : Sl} {p1 : List Int} {D W : WL} (d : Dat u w) (hD : WdOK D) (hW : WdOK W) (hx : IrV 5 u x [p1]) (hS : ∀ p ∈ [p1], p.length = 5 ∧ ∀ z ∈ p, -(Nt.p2i (W.b - 1) - 1) ≤ z ∧ z ≤ Nt.p2i (W.b - 1) - 1) : Calls Try.prog 10 #[x.v, D.v, W.v] w (Post u w fun v u' => ∃ y z : Sl, v = .tuple #[.agg #[.int .i64 D.b, .int .i64 D.f, .int .i64 D.r, .int .i64 D.o, .int .i64 W.b, .int .i64 W.f, .int .i64 W.r, .int .i64 W.o, .int .i64 4, y.v, z.v, .int .i64 5], .int .i64 0] ∧ (∃ h, NodesB 0 h u' y [Nt.csNode 1 0 p1]) ∧ MutL 1 3 0 u' z (ics (Nt.csNext 1 1))) := k_csBuild d hD (csE_rows1 hW hS) hx (rows_bd hW hS)
theorem csOK1 {p1 : List Int} {D W : WL} (hD : WdOK D) (hW : WdOK W) (hS : ∀ p ∈ [p1], p.length = 5 ∧ ∀ z ∈ p, -(Nt.p2i (W.b - 1) - 1) ≤ z ∧ z ≤ Nt.p2i (W.b - 1) - 1) : Nt.NetOK D W 4 [Nt.csNode 1 0 p1] (Nt.csNext 1 1) 5 := Nt.csNetOK hD (csE_rows1 hW hS)
theorem k_csB2 {u w : World} {x : Sl} {p1 p2 : List Int} {D W : WL} (d : Dat u w) (hD : WdOK D) (hW : WdOK W) (hx : IrV 5 u x [p1, p2]) (hS : ∀ p ∈ [p1, p2], p.length = 5 ∧ ∀ z ∈ p, -(Nt.p2i (W.b - 1) - 1) ≤ z ∧ z ≤ Nt.p2i (W.b - 1) - 1) : Calls Try.prog 10 #[x.v, D.v, W.v] w (Post u w fun v u' => ∃ y z : Sl, v = .tuple #[.agg #[.int .i64 D.b, .int .i64 D.f, .int .i64 D.r, .int .i64 D.o, .int .i64 W.b, .int .i64 W.f, .int .i64 W.r, .int .i64 W.o, .int .i64 6, y.v, z.v, .int .i64 8], .int .i64 0] ∧ (∃ h, NodesB 0 h u' y [Nt.csNode 2 0 p1, Nt.csNode 2 1 p2]) ∧ MutL 1 3 0 u' z (ics (Nt.csNext 2 2))) := k_csBuild d hD (csE_rows2 hW hS) hx (rows_bd hW hS)
theorem csOK2 {p1 p2 : List Int} {D W : WL} (hD : WdOK D) (hW : WdOK W) (hS : ∀ p ∈ [p1, p2], p.length = 5 ∧ ∀ z ∈ p, -(Nt.p2i (W.b - 1) - 1) ≤ z ∧ z ≤ Nt.p2i (W.b - 1) - 1) : Nt.NetOK D W 6 [Nt.csNode 2 0 p1, Nt.csNode 2 1 p2] (Nt.csNext 2 2) 8 := Nt.csNetOK hD (csE_rows2 hW hS)
theorem k_runZ {u w : World} {D W : WL} {s : Nat} {X Y : Sl} {h : Nat} {N : List (List TL)} {nx : List Int} {q : Int} {y z : Sl} {xs : List Int} (d : Dat u w) (hN : NodesB 0 h u X N) (hY : MutL 1 3 0 u Y (ics nx)) (hok : Nt.NetOK D W s N nx q) (hy : SlR .i64 u y.a y.n y.c (List.replicate s 0)) (hz : SlR .i64 u z.a z.n z.c xs) (hal : ∀ z ∈ xs, Nt.fitB D z = true) (hxl : xs.length ≤ 4096) : Calls Try.prog 11 #[.agg #[.int .i64 D.b, .int .i64 D.f, .int .i64 D.r, .int .i64 D.o, .int .i64 W.b, .int .i64 W.f, .int .i64 W.r, .int .i64 W.o, .int .i64 (s : Int), X.v, Y.v, .int .i64 q], y.v, z.v] w (Post u w fun v u' => ∃ (o p : Sl) (n : Nat), v = .tuple #[o.v, p.v, .int .i64 (n : Int), .int .i64 0] ∧ SlR .i64 u' o.a o.n o.c (Nt.runO D W N nx q (List.replicate s 0) xs xs.length) ∧ (Nt.runO D W N nx q (List.replicate s 0) xs xs.length).length = xs.length ∧ ∀ z ∈ Nt.runO D W N nx q (List.replicate s 0) xs xs.length, Nt.fitB D z = true) := by
 refine Post.mono (k_netRun d hN hY hok hy (fit_bd hok.hd (rep_fit hok.hd)) (by rw [List.length_replicate]) (fit_getD (rep_fit hok.hd)) hz (fit_bd hok.hd hal) hxl (fit_getD hal)) ?_
 rintro v u' _ ⟨o, p, hv, ho, _⟩
 refine ⟨o, p, _, hv, ho, Nt.runO_len', fun z hz => ?_⟩
 obtain ⟨j, hj, rfl⟩ := Nt.mem_getD hz
 rw [Nt.runO_len'] at hj
 exact Nt.runO_fit hok (by rw [List.length_replicate]) (fit_getD (rep_fit hok.hd)) (fit_getD hal) (Nat.le_refl _) j hj
theorem k_sameInts {u w : World} {x y : Sl} {l : List Int} (d : Dat u w) (hx : SlR .i64 u x.a x.n x.c l) (hy : SlR .i64 u y.a y.n y.c l) (hb : ∀ z ∈ l, -9223372036854775808 ≤ z ∧ z ≤ 9223372036854775807) (h8 : l.length ≤ 1000000) : Calls Try.prog 12 #[x.v, y.v] w (Post u w fun v u' => v = .bool true) := by
 have hlx : l.length = x.n := hx.1
 have hly : l.length = y.n := hy.1
 refine zzm (args := [.slice x.a x.n x.c, .slice y.a y.n y.c]) Try.func12 rfl Try.ntmps12 (rs := [.tmp 4]) Try.results12 (le_b rfl) (le_b rfl) d ?_
 refine sq9 (zza 4 (zB false) (zzb (zzd (sq9 (zza 6 (.v x.v) (zza 7 (zI x.n) (zza 8 (.v y.v) (zza 9 (zI y.n) (zza 10 (zB ((x.n : Int) != (y.n : Int))) (zzb (zzu (b := (x.n : Int) != (y.n : Int)) xv (fun hb => ?_) (fun hb => ?_))))))))))))
 ·exact absurd hb (by rw [show ((x.n : Int) != (y.n : Int)) = false from (by rw [show y.n = x.n by omega]; simp)]; decide)
 ·clear hb
  refine zzs (zzp ?_)
  refine zzd (sq9 (zza 5 (zI 0) (zzb (zzt (zyn (I := fun m11 S' u' => ∃ (i : Nat), (m11 = x.n - i) ∧ (i ≤ x.n) ∧ (S' = St.of 26 [(0, .v (.slice x.a x.n x.c)), (1, .v (.slice y.a y.n y.c)), (5, zI i)] []) ∧ (Ext u u')) (fun m S u1 u2 e h => by obtain ⟨i, hm, p0, hS, hE⟩ := h; exact ⟨i, hm, p0, hS, hE.trans e⟩) _ yj ⟨0, rfl, Nat.zero_le _, rfl, (Ext.refl _)⟩ ?_)))))
  rintro m11 _ u11 ⟨i, hm11, hi, rfl, e11⟩
  refine zzd (sq9 (zza 11 (zI i) (zza 12 (.v x.v) (zza 13 (zI x.n) (zza 14 (zB (decide ((i : Int) < (x.n : Int)))) (zzb (zzu (b := decide ((i : Int) < (x.n : Int))) xv (fun hb12 => ?_) (fun hb12 => ?_))))))))
  ·replace hb12 : (decide ((i : Int) < (x.n : Int))) = true := hb12
   have qhb12 := of_decide_eq_true hb12
   refine zzs (zzp ?_)
   refine zzd (zzt (zzd (zzz [0, 0, 3, 7, 0, 0, 48, 112, 255] [(0, []), (1, []), (2, []), (3, []), (4, []), (5, []), (6, []), (7, []), (8, [])] xv xv (zza 17 (.v x.v) (zza 18 (zI i) ?_)))))
   have hl13 := ((hx.ext e11)).1
   obtain ⟨b13, o13, hA13, hc13⟩ := ints_at (hx.ext e11) (i := i) xq
   have hz13 := ints_bd hb xq i
   refine zya 19 (o13 + i * 1) (n := x.n) (off := o13) (sz := 1) (i := (i : Int)) xq hA13 xq xq sl22 (zyl 20 (.int .i64 (l.getD i 0)) hc13 ty3 (zza 21 (.v y.v) (zza 22 (zI i) ?_)))
   have hl14 := ((hy.ext e11)).1
   obtain ⟨b14, o14, hA14, hc14⟩ := ints_at (hy.ext e11) (i := i) xq
   have hz14 := ints_bd hb xq i
   refine zya 23 (o14 + i * 1) (n := y.n) (off := o14) (sz := 1) (i := (i : Int)) xq hA14 xq xq sl22 (zyl 24 (.int .i64 (l.getD i 0)) hc14 ty3 (zza 25 (zB ((l.getD i 0) != (l.getD i 0))) (zzb (zzu (b := (l.getD i 0) != (l.getD i 0)) xv (fun hb => ?_) (fun hb => ?_)))))
   ·exact absurd hb (by rw [show ((l.getD i 0) != (l.getD i 0)) = false from (by simp)]; decide)
   ·clear hb
    refine zzs (zzp ?_)
    refine zzf (zza 15 (zI i) (zyq 16 (x := zI (IntKind.i64.wrap ((i : Int) + 1))) (zI (i + 1 : Nat)) (eqI xk) (zza 5 (zI (i + 1 : Nat)) (zzx ?_))))
    refine ⟨_, ?_, _, by exact zzv _ _ _, i + 1, rfl, by omega, rfl, e11⟩
    omega
  ·replace hb12 : (decide ((i : Int) < (x.n : Int))) = false := hb12
   have qhb12 := of_decide_eq_false hb12
   refine zyc (zzp (sq9 (zza 4 (zB true) (zzb (zzo (ret0 [.bool true] ⟨zzq, trivial⟩ fun u15 e16 => ?_))))))
   rfl
set_option maxHeartbeats 4000000 in
theorem w_cascadeRuns {u w : World} {x y z : Sl} {l m xs : List Int} {k1 k2 : Int} (d : Dat u w) (hx : SlR .i64 u x.a x.n x.c l) (hb : ∀ z ∈ l, -9223372036854775808 ≤ z ∧ z ≤ 9223372036854775807) (hy : SlR .i64 u y.a y.n y.c m) (hbm : ∀ z ∈ m, -9223372036854775808 ≤ z ∧ z ≤ 9223372036854775807) (hz : SlR .i64 u z.a z.n z.c xs) (hbz : ∀ z ∈ xs, -9223372036854775808 ≤ z ∧ z ≤ 9223372036854775807) (hk1 : -9223372036854775808 ≤ k1) (hk2 : k1 ≤ 9223372036854775807) (hk3 : -9223372036854775808 ≤ k2) (hk4 : k2 ≤ 9223372036854775807) : Calls Try.prog 3 #[.agg #[x.v, y.v], .int .i64 k1, .int .i64 k2, z.v] w (Post u w fun v _ => v = .bool true) := by
 have hlz : xs.length = z.n := hz.1
 refine zzm (args := [.agg #[.slice x.a x.n x.c, .slice y.a y.n y.c], .int .i64 k1, .int .i64 k2, .slice z.a z.n z.c]) Try.func3 rfl Try.ntmps3 (rs := [.tmp 8]) Try.results3 (le_b rfl) (le_b rfl) d ?_
 refine sq9 (zzk 4 ⟨24, [x.v, y.v]⟩ (zza 8 (zB false) (zzb (zzd (sq9 (zza 31 (.v z.v) (zza 32 (zI z.n) (zza 33 (zB (decide ((30 : Int) < (z.n : Int)))) (zzb (zzu (b := decide ((30 : Int) < (z.n : Int))) xv (fun hb11 => ?_) (fun hb11 => ?_)))))))))))
 ·replace hb11 : (decide ((30 : Int) < (z.n : Int))) = true := hb11
  have qhb11 := of_decide_eq_true hb11
  refine sq9 (zzg 34 5 [] ?_)
  intro w12 u12 e12 d12
  have k15 := k_known24 d12
  with_reducible refine zPm k15 ?_
  rintro _ u13 g14 rfl
  refine zza 8 (zB true) (zzb (zzo (zzw (ret0 [.bool true] ⟨zzq, trivial⟩ fun u16 e17 => ?_))))
  rfl
 ·replace hb11 : (decide ((30 : Int) < (z.n : Int))) = false := hb11
  have qhb11 := of_decide_eq_false hb11
  refine zzs (zzp ?_)
  refine sq9 (zza 35 (zI k1) (zzg 36 6 [.int .i64 k1] ?_))
  intro w18 u18 e18 d18
  have k25 := k_data (k := k1) d18 xq xq
  with_reducible refine zPm k25 ?_
  rintro _ u23 g24 ⟨D19, rfl, hD20, h621, h722⟩
  refine zza 37 (zI k2) (zzg 38 7 [.int .i64 k2] ?_)
  intro w26 u26 e26 d26
  have k31 := k_coef (k := k2) d26 xq xq
  with_reducible refine zPm k31 ?_
  rintro _ u29 g30 ⟨W27, rfl, hW28⟩
  have hw32 := hW28.ok
  have hw32f : 1 ≤ W27.f := by have h9 := hW28; unfold CoefOK at h9; omega
  have hw32g : W27.f ≤ 24 := by have h9 := hW28; unfold CoefOK at h9; omega
  refine zzk 9 ⟨27, [.int .i64 0, .int .i64 0, .int .i64 0, .int .i64 0]⟩ (zzk 10 ⟨27, [.int .i64 0, .int .i64 0, .int .i64 0, .int .i64 0]⟩ (zzj ⟨27, D19.cs⟩ ty27 ?_))
  refine zzj ⟨27, W27.cs⟩ ty27 ?_
  refine zzb (sq9 (zzi 39 (.v (.agg #[x.v, y.v])) ty24 zze (zzi 40 (.v (W27.v)) ty27 zze (zzg 41 8 [.agg #[x.v, y.v], .int .i64 1, .int .i64 2, W27.v] ?_))))
  intro w33 u33 e33 d33
  have k37 := (show Calls _ _ #[.agg #[.slice x.a x.n x.c, .slice y.a y.n y.c], .int .i64 1, .int .i64 2, .agg #[.int .i64 W27.b, .int .i64 W27.f, .int .i64 W27.r, .int .i64 W27.o]] _ _ from k_sections24 (x := x) (y := y) (W := W27) (n := 1) (q := 2) d33 (hx.ext (e18.trans (g24.ext.trans (e26.trans (g30.ext.trans e33))))) hb (hy.ext (e18.trans (g24.ext.trans (e26.trans (g30.ext.trans e33))))) hbm hw32 xw xw xw xw)
  with_reducible refine zPm k37 ?_
  rintro _ u35 g36 ⟨ys34, Ls34, rfl, hIr34, hLn34, hRw34⟩
  obtain ⟨p34, q34, rfl⟩ : ∃ p1 p2, Ls34 = [p1, p2] := ⟨_, _, Nt.rows_two hLn34⟩
  have hIr34l : ys34.n = 2 := hIr34.len
  have hIr34c : ys34.n ≤ ys34.c := hIr34.2.2.1
  refine zza 11 (.v ys34.v) (zzb (sq9 (zzi 42 (.v (D19.v)) ty27 zze (zza 43 (.v z.v) (zza 44 (.v z.v) (zza 45 (zI z.n) (zzg 46 9 [D19.v, z.v, .int .i64 z.n] ?_)))))))
  intro w38 u38 e38 d38
  have k42 := k_wwords (W := D19) (x := z) (n := z.n) d38 (hz.ext (e18.trans (g24.ext.trans (e26.trans (g30.ext.trans (e33.trans (g36.ext.trans e38))))))) hbz hD20 xq
  with_reducible refine zPm k42 ?_
  rintro _ u40 g41 ⟨y39, m39, rfl, hln39, hs39, hal39⟩
  have hly39 : m39.length = y39.n := hs39.1
  refine zza 12 (.v y39.v) (zzb (sq9 (zza 48 (.v ys34.v) (zzi 49 (.v (D19.v)) ty27 zze (zzi 50 (.v (W27.v)) ty27 zze (zzg 51 10 [ys34.v, D19.v, W27.v] ?_))))))
  intro w43 u43 e43 d43
  have k47 := k_csB2 (x := ys34) d43 hD20 hw32 (hIr34.ext (e38.trans (g41.ext.trans e43))) hRw34
  with_reducible refine zPm k47 ?_
  rintro _ u45 g46 ⟨X44, Y44, rfl, ⟨h44, hN44⟩, hY44⟩
  have hok44 := csOK2 hD20 hw32 hRw34
  refine zza 47 (.v (.tuple #[.agg #[.int .i64 D19.b, .int .i64 D19.f, .int .i64 D19.r, .int .i64 D19.o, .int .i64 W27.b, .int .i64 W27.f, .int .i64 W27.r, .int .i64 W27.o, .int .i64 6, X44.v, Y44.v, .int .i64 8], .int .i64 0])) (zza 52 (.v (.agg #[.int .i64 D19.b, .int .i64 D19.f, .int .i64 D19.r, .int .i64 D19.o, .int .i64 W27.b, .int .i64 W27.f, .int .i64 W27.r, .int .i64 W27.o, .int .i64 6, X44.v, Y44.v, .int .i64 8])) (zza 53 (zI 0) (zzk 13 ⟨34, [.int .i64 0, .int .i64 0, .int .i64 0, .int .i64 0, .int .i64 0, .int .i64 0, .int .i64 0, .int .i64 0, .int .i64 0, .slice none 0 0, .slice none 0 0, .int .i64 0]⟩ (zzj ⟨34, [.int .i64 D19.b, .int .i64 D19.f, .int .i64 D19.r, .int .i64 D19.o, .int .i64 W27.b, .int .i64 W27.f, .int .i64 W27.r, .int .i64 W27.o, .int .i64 6, X44.v, Y44.v, .int .i64 8]⟩ ty34 ?_))))
  refine zza 14 (zI 0) (zzc 127 [(9, .adr 9 0), (10, .adr 10 0), (11, .v ys34.v), (12, .v y39.v), (13, .adr 13 0), (14, zI 0)] [(9, ⟨27, D19.cs⟩), (10, ⟨27, W27.cs⟩), (13, ⟨34, [.int .i64 D19.b, .int .i64 D19.f, .int .i64 D19.r, .int .i64 D19.o, .int .i64 W27.b, .int .i64 W27.f, .int .i64 W27.r, .int .i64 W27.o, .int .i64 6, X44.v, Y44.v, .int .i64 8]⟩)] (zzd (zzz [0, 1, 0, 0, 15, 31, 63, 63, 0, 383, 1023] [(0, []), (1, []), (2, []), (3, []), (8, []), (4, []), (5, []), (6, []), (7, []), (9, []), (10, [])] xv xv (zza 55 (.v ys34.v) ?_))))
  have hF48 : IrV 5 u45 ⟨ys34.a, 1, ys34.c⟩ [p34] := ir_take (m := 1) (hIr34.ext (e38.trans (g41.ext.trans (e43.trans g46.ext)))) xq
  refine sy_front 56 (n := ys34.n) (c := ys34.c) 1 sl29 rfl xq ?_
  refine zzi 57 (.v (D19.v)) ty27 zze (zzi 58 (.v (W27.v)) ty27 zze (zzk 15 ⟨34, [.int .i64 0, .int .i64 0, .int .i64 0, .int .i64 0, .int .i64 0, .int .i64 0, .int .i64 0, .int .i64 0, .int .i64 0, .slice none 0 0, .slice none 0 0, .int .i64 0]⟩ (zzg 59 10 [.slice ys34.a 1 ys34.c, D19.v, W27.v] ?_)))
  intro w49 u49 e49 d49
  have k53 := k_csB1 (x := (⟨ys34.a, 1, ys34.c⟩ : Sl)) d49 hD20 hw32 (hF48.ext e49) (fun p hp => hRw34 p (List.mem_cons.2 (.inl (List.mem_singleton.1 hp))))
  with_reducible refine zPm k53 ?_
  rintro _ u51 g52 ⟨X50, Y50, rfl, ⟨h50, hN50⟩, hY50⟩
  have hok50 := csOK1 hD20 hw32 (fun p hp => hRw34 p (List.mem_cons.2 (.inl (List.mem_singleton.1 hp))))
  refine zza 54 (.v (.tuple #[.agg #[.int .i64 D19.b, .int .i64 D19.f, .int .i64 D19.r, .int .i64 D19.o, .int .i64 W27.b, .int .i64 W27.f, .int .i64 W27.r, .int .i64 W27.o, .int .i64 4, X50.v, Y50.v, .int .i64 5], .int .i64 0])) (zza 60 (.v (.agg #[.int .i64 D19.b, .int .i64 D19.f, .int .i64 D19.r, .int .i64 D19.o, .int .i64 W27.b, .int .i64 W27.f, .int .i64 W27.r, .int .i64 W27.o, .int .i64 4, X50.v, Y50.v, .int .i64 5])) (zza 61 (zI 0) (zzj ⟨34, [.int .i64 D19.b, .int .i64 D19.f, .int .i64 D19.r, .int .i64 D19.o, .int .i64 W27.b, .int .i64 W27.f, .int .i64 W27.r, .int .i64 W27.o, .int .i64 4, X50.v, Y50.v, .int .i64 5]⟩ ty34 ?_)))
  refine zza 16 (zI 0) (zzb (zzd (zzz [0, 1, 0, 0, 15, 31, 63, 63, 0, 383, 1023] [(0, []), (1, []), (2, []), (3, []), (8, []), (4, []), (5, []), (6, []), (7, []), (9, []), (10, [])] xv xv (zza 63 (.v ys34.v) (sy_tail 64 (n := ys34.n) (c := ys34.c) 1 sl29 rfl xq (fun A54 hA54 => ?_))))))
  have hF54 : IrV 5 u51 ⟨A54, ys34.n - 1, ys34.c - 1⟩ [q34] := ir_drop (m := 1) (hIr34.ext (e38.trans (g41.ext.trans (e43.trans (g46.ext.trans (e49.trans g52.ext)))))) xq hA54
  refine zzi 65 (.v (D19.v)) ty27 zze (zzi 66 (.v (W27.v)) ty27 zze (zzk 17 ⟨34, [.int .i64 0, .int .i64 0, .int .i64 0, .int .i64 0, .int .i64 0, .int .i64 0, .int .i64 0, .int .i64 0, .int .i64 0, .slice none 0 0, .slice none 0 0, .int .i64 0]⟩ (zzg 67 10 [.slice A54 (ys34.n - 1) (ys34.c - 1), D19.v, W27.v] ?_)))
  intro w55 u55 e55 d55
  have k59 := k_csB1 (x := (⟨A54, ys34.n - 1, ys34.c - 1⟩ : Sl)) d55 hD20 hw32 (hF54.ext e55) (fun p hp => hRw34 p (List.mem_cons.2 (.inr hp)))
  with_reducible refine zPm k59 ?_
  rintro _ u57 g58 ⟨X56, Y56, rfl, ⟨h56, hN56⟩, hY56⟩
  have hok56 := csOK1 hD20 hw32 (fun p hp => hRw34 p (List.mem_cons.2 (.inr hp)))
  refine zza 62 (.v (.tuple #[.agg #[.int .i64 D19.b, .int .i64 D19.f, .int .i64 D19.r, .int .i64 D19.o, .int .i64 W27.b, .int .i64 W27.f, .int .i64 W27.r, .int .i64 W27.o, .int .i64 4, X56.v, Y56.v, .int .i64 5], .int .i64 0])) (zza 68 (.v (.agg #[.int .i64 D19.b, .int .i64 D19.f, .int .i64 D19.r, .int .i64 D19.o, .int .i64 W27.b, .int .i64 W27.f, .int .i64 W27.r, .int .i64 W27.o, .int .i64 4, X56.v, Y56.v, .int .i64 5])) (zza 69 (zI 0) (zzj ⟨34, [.int .i64 D19.b, .int .i64 D19.f, .int .i64 D19.r, .int .i64 D19.o, .int .i64 W27.b, .int .i64 W27.f, .int .i64 W27.r, .int .i64 W27.o, .int .i64 4, X56.v, Y56.v, .int .i64 5]⟩ ty34 ?_)))
  refine zza 18 (zI 0) (zzb (zzd (zzz [0, 0, 0, 7, 15, 31, 31, 31, 31, 63, 639, 1791, 4095] [(0, []), (2, []), (1, [72]), (3, []), (4, []), (5, []), (6, []), (7, []), (8, []), (9, []), (10, []), (11, []), (12, [])] xv xv (zzi 71 (.v (.agg #[.int .i64 D19.b, .int .i64 D19.f, .int .i64 D19.r, .int .i64 D19.o, .int .i64 W27.b, .int .i64 W27.f, .int .i64 W27.r, .int .i64 W27.o, .int .i64 6, X44.v, Y44.v, .int .i64 8])) ty34 zze (zza 73 (.v y39.v) (sy_makeN 72 (T := 22) (E := 3) (z := .int .i64 0) (size := 1) (bytes := 8) 6 (ics (List.replicate 6 0)) xv xv rfl rfl xq yq (made_ints _) (fun b60 u60 e60 h60 f60 g60 => ?_)))))))
  have hm61 : SlR .i64 u60 (some ⟨b60, 0, none⟩) 6 6 (List.replicate 6 0) := rep_data h60 xw
  refine zzg 74 11 [.agg #[.int .i64 D19.b, .int .i64 D19.f, .int .i64 D19.r, .int .i64 D19.o, .int .i64 W27.b, .int .i64 W27.f, .int .i64 W27.r, .int .i64 W27.o, .int .i64 6, X44.v, Y44.v, .int .i64 8], .slice (some ⟨b60, 0, none⟩) 6 6, y39.v] ?_
  intro w62 u62 e62 d62
  have k66 := (show Calls _ _ #[.agg #[.int .i64 D19.b, .int .i64 D19.f, .int .i64 D19.r, .int .i64 D19.o, .int .i64 W27.b, .int .i64 W27.f, .int .i64 W27.r, .int .i64 W27.o, .int .i64 6, .slice X44.a X44.n X44.c, .slice Y44.a Y44.n Y44.c, .int .i64 8], .slice (some ⟨b60, 0, none⟩) 6 6, .slice y39.a y39.n y39.c] _ _ from k_runZ (s := 6) (y := (⟨some ⟨b60, 0, none⟩, 6, 6⟩ : Sl)) (z := y39) d62 (NodesB.ext hN44 (e49.trans (g52.ext.trans (e55.trans (g58.ext.trans (e60.trans e62)))))) (MutL.ext hY44 (e49.trans (g52.ext.trans (e55.trans (g58.ext.trans (e60.trans e62)))))) hok44 (hm61.ext e62) (hs39.ext (e43.trans (g46.ext.trans (e49.trans (g52.ext.trans (e55.trans (g58.ext.trans (e60.trans e62)))))))) hal39 xq)
  with_reducible refine zPm k66 ?_
  rintro _ u64 g65 ⟨o63, p63, n63, rfl, ho63, hol63, hoa63⟩
  refine zza 70 (.v (.tuple #[o63.v, p63.v, .int .i64 n63, .int .i64 0])) (zza 75 (.v o63.v) (zza 76 (.v p63.v) (zza 77 (zI n63) (zza 78 (zI 0) (zza 19 (.v o63.v) (zza 20 (.v p63.v) (zza 21 (zI n63) (zza 22 (zI 0) (zzc 127 [(12, .v y39.v), (14, zI 0), (15, .adr 15 0), (16, zI 0), (17, .adr 17 0), (18, zI 0), (19, .v o63.v), (22, zI 0)] [(15, ⟨34, [.int .i64 D19.b, .int .i64 D19.f, .int .i64 D19.r, .int .i64 D19.o, .int .i64 W27.b, .int .i64 W27.f, .int .i64 W27.r, .int .i64 W27.o, .int .i64 4, X50.v, Y50.v, .int .i64 5]⟩), (17, ⟨34, [.int .i64 D19.b, .int .i64 D19.f, .int .i64 D19.r, .int .i64 D19.o, .int .i64 W27.b, .int .i64 W27.f, .int .i64 W27.r, .int .i64 W27.o, .int .i64 4, X56.v, Y56.v, .int .i64 5]⟩)] (zzd (zzz [0, 0, 0, 7, 15, 31, 31, 31, 31, 63, 639, 1791, 4095] [(0, []), (2, []), (1, [81]), (3, []), (4, []), (5, []), (6, []), (7, []), (8, []), (9, []), (10, []), (11, []), (12, [])] xv xv ?_)))))))))))
  refine zzi 80 (.v (.agg #[.int .i64 D19.b, .int .i64 D19.f, .int .i64 D19.r, .int .i64 D19.o, .int .i64 W27.b, .int .i64 W27.f, .int .i64 W27.r, .int .i64 W27.o, .int .i64 4, X50.v, Y50.v, .int .i64 5])) ty34 zze (zza 82 (.v y39.v) (sy_makeN 81 (T := 22) (E := 3) (z := .int .i64 0) (size := 1) (bytes := 8) 4 (ics (List.replicate 4 0)) xv xv rfl rfl xq yq (made_ints _) (fun b67 u67 e67 h67 f67 g67 => ?_)))
  have hm68 : SlR .i64 u67 (some ⟨b67, 0, none⟩) 4 4 (List.replicate 4 0) := rep_data h67 xw
  refine zzg 83 11 [.agg #[.int .i64 D19.b, .int .i64 D19.f, .int .i64 D19.r, .int .i64 D19.o, .int .i64 W27.b, .int .i64 W27.f, .int .i64 W27.r, .int .i64 W27.o, .int .i64 4, X50.v, Y50.v, .int .i64 5], .slice (some ⟨b67, 0, none⟩) 4 4, y39.v] ?_
  intro w69 u69 e69 d69
  have k73 := (show Calls _ _ #[.agg #[.int .i64 D19.b, .int .i64 D19.f, .int .i64 D19.r, .int .i64 D19.o, .int .i64 W27.b, .int .i64 W27.f, .int .i64 W27.r, .int .i64 W27.o, .int .i64 4, .slice X50.a X50.n X50.c, .slice Y50.a Y50.n Y50.c, .int .i64 5], .slice (some ⟨b67, 0, none⟩) 4 4, .slice y39.a y39.n y39.c] _ _ from k_runZ (s := 4) (y := (⟨some ⟨b67, 0, none⟩, 4, 4⟩ : Sl)) (z := y39) d69 (NodesB.ext hN50 (e55.trans (g58.ext.trans (e60.trans (e62.trans (g65.ext.trans (e67.trans e69))))))) (MutL.ext hY50 (e55.trans (g58.ext.trans (e60.trans (e62.trans (g65.ext.trans (e67.trans e69))))))) hok50 (hm68.ext e69) (hs39.ext (e43.trans (g46.ext.trans (e49.trans (g52.ext.trans (e55.trans (g58.ext.trans (e60.trans (e62.trans (g65.ext.trans (e67.trans e69))))))))))) hal39 xq)
  with_reducible refine zPm k73 ?_
  rintro _ u71 g72 ⟨o70, p70, n70, rfl, ho70, hol70, hoa70⟩
  refine zza 79 (.v (.tuple #[o70.v, p70.v, .int .i64 n70, .int .i64 0])) (zza 84 (.v o70.v) (zza 85 (.v p70.v) (zza 86 (zI n70) (zza 87 (zI 0) (zza 23 (.v o70.v) (zza 24 (.v p70.v) (zza 25 (zI n70) (zza 26 (zI 0) (zzb (zzd (zzz [0, 0, 0, 7, 15, 31, 31, 31, 31, 63, 639, 1791, 4095] [(0, []), (2, []), (1, [90]), (3, []), (4, []), (5, []), (6, []), (7, []), (8, []), (9, []), (10, []), (11, []), (12, [])] xv xv ?_)))))))))))
  refine zzi 89 (.v (.agg #[.int .i64 D19.b, .int .i64 D19.f, .int .i64 D19.r, .int .i64 D19.o, .int .i64 W27.b, .int .i64 W27.f, .int .i64 W27.r, .int .i64 W27.o, .int .i64 4, X56.v, Y56.v, .int .i64 5])) ty34 zze (zza 91 (.v o70.v) (sy_makeN 90 (T := 22) (E := 3) (z := .int .i64 0) (size := 1) (bytes := 8) 4 (ics (List.replicate 4 0)) xv xv rfl rfl xq yq (made_ints _) (fun b74 u74 e74 h74 f74 g74 => ?_)))
  have hm75 : SlR .i64 u74 (some ⟨b74, 0, none⟩) 4 4 (List.replicate 4 0) := rep_data h74 xw
  refine zzg 92 11 [.agg #[.int .i64 D19.b, .int .i64 D19.f, .int .i64 D19.r, .int .i64 D19.o, .int .i64 W27.b, .int .i64 W27.f, .int .i64 W27.r, .int .i64 W27.o, .int .i64 4, X56.v, Y56.v, .int .i64 5], .slice (some ⟨b74, 0, none⟩) 4 4, o70.v] ?_
  intro w76 u76 e76 d76
  have k80 := (show Calls _ _ #[.agg #[.int .i64 D19.b, .int .i64 D19.f, .int .i64 D19.r, .int .i64 D19.o, .int .i64 W27.b, .int .i64 W27.f, .int .i64 W27.r, .int .i64 W27.o, .int .i64 4, .slice X56.a X56.n X56.c, .slice Y56.a Y56.n Y56.c, .int .i64 5], .slice (some ⟨b74, 0, none⟩) 4 4, .slice o70.a o70.n o70.c] _ _ from k_runZ (s := 4) (y := (⟨some ⟨b74, 0, none⟩, 4, 4⟩ : Sl)) (z := o70) d76 (NodesB.ext hN56 (e60.trans (e62.trans (g65.ext.trans (e67.trans (e69.trans (g72.ext.trans (e74.trans e76)))))))) (MutL.ext hY56 (e60.trans (e62.trans (g65.ext.trans (e67.trans (e69.trans (g72.ext.trans (e74.trans e76)))))))) hok56 (hm75.ext e76) (ho70.ext (e74.trans e76)) hoa70 xq)
  with_reducible refine zPm k80 ?_
  rintro _ u78 g79 ⟨o77, p77, n77, rfl, ho77, hol77, hoa77⟩
  refine zza 88 (.v (.tuple #[o77.v, p77.v, .int .i64 n77, .int .i64 0])) (zza 93 (.v o77.v) (zza 94 (.v p77.v) (zza 95 (zI n77) (zza 96 (zI 0) (zza 27 (.v o77.v) (zza 28 (.v p77.v) (zza 29 (zI n77) (zza 30 (zI 0) (zzb (zzd ?_))))))))))
  have hEq : (Nt.runO D19 W27 [Nt.csNode 2 0 p34, Nt.csNode 2 1 q34] (Nt.csNext 2 2) 8 (List.replicate 6 0) m39 m39.length) = (Nt.runO D19 W27 [Nt.csNode 1 0 q34] (Nt.csNext 1 1) 5 (List.replicate 4 0) (Nt.runO D19 W27 [Nt.csNode 1 0 p34] (Nt.csNext 1 1) 5 (List.replicate 4 0) m39 m39.length) (Nt.runO D19 W27 [Nt.csNode 1 0 p34] (Nt.csNext 1 1) 5 (List.replicate 4 0) m39 m39.length).length) := by
   obtain ⟨_, _, _, _, _, _, _, _, _, h9⟩ := Nt.cascade_runs (D := D19) (W := W27) (xs := m39) (p1 := p34) (p2 := q34) m39.length (Nat.le_refl _)
   rw [Nt.runO_len' (k := m39.length)]
   exact h9
  refine zzf (zzg 97 5 [] ?_)
  intro w81 u81 e81 d81
  have k84 := k_known24 d81
  with_reducible refine zPm k84 ?_
  rintro _ u82 g83 rfl
  refine zza 98 (zB true) (zza 99 (zI 0) ?_ (hw := w1 1 true 98))
  refine zza 100 (zB true) ?_ (hw := w1 1 true 98)
  refine zza 101 (zB true) (zza 102 (zB true) (zza 103 (zI 0) ?_ (hw := w1 5 true 102)))
  refine zza 104 (zB true) ?_ (hw := w1 5 true 102)
  refine zza 105 (zB true) (zza 106 (zB true) (zza 107 (zI 0) ?_ (hw := w1 9 true 106)))
  refine zza 108 (zB true) ?_ (hw := w1 9 true 106)
  refine zza 109 (zB true) (zza 110 (zB true) (zza 111 (zI 0) ?_ (hw := w1 13 true 110)))
  refine zza 112 (zB true) ?_ (hw := w1 13 true 110)
  refine zza 113 (zB true) (zza 114 (zB true) (zza 115 (zI 0) ?_ (hw := w1 17 true 114)))
  refine zza 116 (zB true) ?_ (hw := w1 17 true 114)
  refine zza 117 (zB true) (zza 118 (zB true) (zza 119 (zI 0) ?_ (hw := w1 21 true 118)))
  refine zza 120 (zB true) ?_ (hw := w1 21 true 118)
  refine zza 121 (zB true) (zza 122 (zB true) (zza 123 (.v o63.v) ?_ (hw := w1 25 true 122)))
  refine zza 124 (.v o77.v) ?_ (hw := w1 25 true 122)
  refine zzg 125 12 [o63.v, o77.v] ?_ (hw := w1 25 true 122)
  intro w85 u85 e85 d85
  have k88 := k_sameInts (x := o63) (y := o77) d85 (ho63.ext (e67.trans (e69.trans (g72.ext.trans (e74.trans (e76.trans (g79.ext.trans (e81.trans (g83.ext.trans e85))))))))) (by rw [hEq]; exact (ho77.ext (e81.trans (g83.ext.trans e85)))) (fit_bd hD20 hoa63) (by rw [hol63]; omega)
  with_reducible refine zPm k88 ?_
  rintro _ u86 g87 rfl
  refine zza 126 (zB true) (zza 8 (zB true) (zzc 127 [(8, zB true)] [] (zzo (ret0 [.bool true] ⟨zzq, trivial⟩ fun u89 e90 => ?_))))
  rfl
end Go.Proofs.Ytdmpfhhhlhoeiaa
