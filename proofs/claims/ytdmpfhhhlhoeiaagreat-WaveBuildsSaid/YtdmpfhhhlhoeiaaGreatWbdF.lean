/- Wave digital filters in general. Printed by wip/sym/g_nk.py. Networks of lattices. Printed by wip/sym/g_ne.py. Ideal of lattices in general, networks compared. Printed by wip/sym/g_nf.py. Wave digital filters: the reference. Printed by wip/sym/g_nl.py. -/
import Derived.Test.YtdmpfhhhlhoeiaaGreatWbdE
namespace Go.Proofs.YtdmpfhhhlhoeiaaGreat
open Go.RowKit
set_option linter.unusedVariables false
def FmOK (W : WL) : Prop := WdOK W ∧ 1 ≤ W.f
instance fmDec (W : WL) : Decidable (FmOK W) := by unfold FmOK; exact inferInstance
instance pasDec (f : Int) (p : PL) : Decidable (PasOK f p) := by unfold PasOK; exact inferInstance
def WvOK (W : WL) (L M : List PL) : Prop := FmOK W ∧ L.length ≤ 4 ∧ M.length ≤ 4 ∧ (∀ i, i < L.length → PasOK W.f (L.getD i pl0)) ∧ ∀ i, i < M.length → PasOK W.f (M.getD i pl0)
instance wvDec (W : WL) (L M : List PL) : Decidable (WvOK W L M) := by unfold WvOK; exact inferInstance
theorem k_suitableG {u w : World} {W : WL} (d : Dat u w) : Calls Tryz.prog 84 #[W.v] w (Post u w fun v _ => v = .bool (decide (FmOK W))) := by
 refine zzm (args := [.agg #[.int .i64 W.b, .int .i64 W.f, .int .i64 W.r, .int .i64 W.o]]) Tryz.func84 rfl Tryz.ntmps84 (rs := [.tmp 2]) Tryz.results84 (le_b rfl) (le_b rfl) d ?_
 refine sq9 (zzk 1 ⟨24, W.cs⟩ (zza 2 (zB false) (zzb (sq9 (zzi 3 (.v (W.v)) ty24 zze (zzg 4 75 [W.v] ?_))))))
 intro w11 u11 e11 d11
 have k14 := k_fxValidG (W := W) d11
 with_reducible refine zPm k14 ?_
 rintro _ u12 g13 rfl
 rcases Bool.eq_false_or_eq_true (decide (WdOK W)) with hs15 | hs15
 ·refine zyq 5 (x := zB (decide (WdOK W))) (zB true) (by rw [hs15]) ?_
  have qhs15 := of_decide_eq_true hs15
  have hW : WdOK W := by simpa using hs15
  have hu0 := Nt.zxq W.f
  have hw9 := hW
  unfold WdOK at hw9
  have hu1 := Nt.p2i_24 (n := W.f) xq
  have hu2 := Nt.zwh (a := W.f) (b := W.b - 1) xq
  have hu3 := Nt.p2i_24 (n := W.b - 1) xq
  refine zza 6 (.adr 1 1) ?_ (hw := w1 2 true 5)
  refine zzi 7 (zI W.f) ty3 zzl ?_ (hw := w1 2 true 5)
  refine zza 8 (zB (decide ((1 : Int) ≤ W.f))) ?_ (hw := w1 2 true 5)
  refine zza 9 (zB (decide ((1 : Int) ≤ W.f))) (zza 2 (zB (decide ((1 : Int) ≤ W.f))) (zzb (zzo (ret0 [.bool (decide ((1 : Int) ≤ W.f))] ⟨zzq, trivial⟩ fun u16 e17 => ?_))))
  show Value.bool _ = Value.bool _
  congr 1
  rw [Bool.eq_iff_iff]
  simp [FmOK, hW]
 ·refine zyq 5 (x := zB (decide (WdOK W))) (zB false) (by rw [hs15]) ?_
  have qhs15 := of_decide_eq_false hs15
  have nhW : ¬ WdOK W := by simpa using hs15
  refine zzn 6 (uw 2 true false 5) (zzn 7 (uw 2 true false 5) (zzn 8 (uw 2 true false 5) (zza 9 (zB false) (zza 2 (zB false) (zzb (zzo (ret0 [.bool false] ⟨zzq, trivial⟩ fun u18 e19 => ?_)))))))
  show Value.bool _ = Value.bool _
  congr 1
  exact (decide_eq_false (fun h => nhW h.1)).symm
theorem k_formedG {u w : World} {W : WL} (d : Dat u w) : Calls Tryz.prog 87 #[W.v] w (Post u w fun v _ => v = .bool (decide (FmOK W))) := by
 refine zzm (args := [.agg #[.int .i64 W.b, .int .i64 W.f, .int .i64 W.r, .int .i64 W.o]]) Tryz.func87 rfl Tryz.ntmps87 (rs := [.tmp 2]) Tryz.results87 (le_b rfl) (le_b rfl) d ?_
 refine sq9 (zzk 1 ⟨24, W.cs⟩ (zza 2 (zB false) (zzb (sq9 (zzi 3 (.v (W.v)) ty24 zze (zzg 4 68 [W.v] ?_))))))
 intro w11 u11 e11 d11
 have k14 := k_r21ValidG (W := W) d11
 with_reducible refine zPm k14 ?_
 rintro _ u12 g13 rfl
 rcases Bool.eq_false_or_eq_true (decide (WdOK W)) with hs15 | hs15
 ·refine zyq 5 (x := zB (decide (WdOK W))) (zB true) (by rw [hs15]) ?_
  have qhs15 := of_decide_eq_true hs15
  have hW : WdOK W := by simpa using hs15
  have hu0 := Nt.zxq W.f
  have hw9 := hW
  unfold WdOK at hw9
  have hu1 := Nt.p2i_24 (n := W.f) xq
  have hu2 := Nt.zwh (a := W.f) (b := W.b - 1) xq
  have hu3 := Nt.p2i_24 (n := W.b - 1) xq
  refine zza 6 (.adr 1 1) ?_ (hw := w1 2 true 5)
  refine zzi 7 (zI W.f) ty3 zzl ?_ (hw := w1 2 true 5)
  refine zza 8 (zB (decide ((1 : Int) ≤ W.f))) ?_ (hw := w1 2 true 5)
  refine zza 9 (zB (decide ((1 : Int) ≤ W.f))) (zza 2 (zB (decide ((1 : Int) ≤ W.f))) (zzb (zzo (ret0 [.bool (decide ((1 : Int) ≤ W.f))] ⟨zzq, trivial⟩ fun u16 e17 => ?_))))
  show Value.bool _ = Value.bool _
  congr 1
  rw [Bool.eq_iff_iff]
  simp [FmOK, hW]
 ·refine zyq 5 (x := zB (decide (WdOK W))) (zB false) (by rw [hs15]) ?_
  have qhs15 := of_decide_eq_false hs15
  have nhW : ¬ WdOK W := by simpa using hs15
  refine zzn 6 (uw 2 true false 5) (zzn 7 (uw 2 true false 5) (zzn 8 (uw 2 true false 5) (zza 9 (zB false) (zza 2 (zB false) (zzb (zzo (ret0 [.bool false] ⟨zzq, trivial⟩ fun u18 e19 => ?_)))))))
  show Value.bool _ = Value.bool _
  congr 1
  exact (decide_eq_false (fun h => nhW h.1)).symm
set_option maxHeartbeats 4000000 in
theorem k_permittedG {u w : World} {W : WL} {p : PL} (d : Dat u w) (hW : WdOK W) (hf : 1 ≤ W.f) : Calls Tryz.prog 85 #[p.v, W.v] w (Post u w fun v _ => v = .bool (decide (PasOK W.f p))) := by
 obtain ⟨hw1, hw2, hw3, hw4, hw5, hw6, hw7, hw8⟩ := id hW
 have hu0 := Nt.zxq W.f
 have hu1 := Nt.p2i_24 (n := W.f) xq
 have hu2 := Nt.zwh (a := W.f) (b := W.b - 1) xq
 have hu3 := Nt.p2i_24 (n := W.b - 1) xq
 refine zzm (args := [.agg #[.int .i64 p.o, .int .i64 p.g, .int .i64 p.h], .agg #[.int .i64 W.b, .int .i64 W.f, .int .i64 W.r, .int .i64 W.o]]) Tryz.func85 rfl Tryz.ntmps85 (rs := [.tmp 4]) Tryz.results85 (le_b rfl) (le_b rfl) d ?_
 refine sq9 (zzk 2 ⟨60, [.int .i64 p.o, .int .i64 p.g, .int .i64 p.h]⟩ (zzk 3 ⟨24, W.cs⟩ (zza 4 (zB false) (zzb (zzd (sq9 (zza 8 (.adr 2 0) (zzi 9 (zI p.o) ty3 zzl (zza 10 (zB (p.o != 1)) ?_)))))))))
 rcases Bool.eq_false_or_eq_true (p.o != 1) with hs11 | hs11
 ·refine zyq 11 (x := zB (p.o != 1)) (zB true) (by rw [hs11]) ?_
  have qhs11 := hs11
  simp at qhs11
  refine zza 12 (.adr 2 0) ?_ (hw := w1 3 true 11)
  refine zzi 13 (zI p.o) ty3 zzl ?_ (hw := w1 3 true 11)
  refine zza 14 (zB (p.o != 2)) ?_ (hw := w1 3 true 11)
  refine zza 15 (zB (p.o != 2)) (zzb (zzu (b := p.o != 2) xk (fun hb12 => ?_) (fun hb12 => ?_)))
  ·replace hb12 : (p.o != 2) = true := hb12
   have qhb12 := hb12
   simp at qhb12
   refine sq9 (zza 4 (zB false) (zzb (zzo (zzw (ret0 [.bool false] ⟨zzq, trivial⟩ fun u13 e14 => ?_)))))
   show Value.bool _ = Value.bool _
   congr 1
   exact (decide_eq_false zv).symm
  ·replace hb12 : (p.o != 2) = false := hb12
   have qhb12 := hb12
   simp at qhb12
   refine zzs (zzp ?_)
   refine zzd (sq9 (zza 16 (.adr 2 0) (zzi 17 (zI p.o) ty3 zzl (zza 18 (zB (p.o == 1)) (zyq 19 (x := zB (p.o == 1)) (zB false) (by rw [show (p.o == 1) = false from zq]) (zzn 20 (uw 3 true false 19) (zzn 21 (uw 3 true false 19) (zzn 22 (uw 3 true false 19) (zzn 23 (uw 3 true false 19) (zza 24 (zB false) (zzb ?_)))))))))))
   refine zys xk (zzs (zzp ?_))
   refine sq9 (zza 25 (.adr 3 1) (zzi 26 (zI W.f) ty3 zzl (sy_shl 27 (k := .i64) (s := W.f) (Nt.p2i W.f) xq zw (shl_one xq xq) ?_)))
   refine zza 5 (zI (Nt.p2i W.f)) (zzb (zzd (sq9 (zza 28 (.adr 2 1) (zzi 29 (.v (.agg #[.int .i64 p.g, .int .i64 p.h])) ty58 zze (zza 30 (zI 0) (zzb (zzt (sw_rounds 2 ?_)))))))))
   refine sq9 (zza 31 (zB true) (zzb (zzd (zyr xk (zzs (zzp ?_))))))
   refine zzd (zzt (sq9 (zza 32 (zI p.g) (zza 7 (zI p.g) (zzb (zzd (sq9 (zza 33 (zI p.g) (zza 34 (zI (Nt.p2i W.f)) (zyq 35 (x := zI (IntKind.i64.wrap (0 - (Nt.p2i W.f)))) (zI (-(Nt.p2i W.f))) (eqI xw) (zza 36 (zB (decide (p.g ≤ (-(Nt.p2i W.f))))) ?_)))))))))))
   rcases Bool.eq_false_or_eq_true (decide (p.g ≤ (-(Nt.p2i W.f)))) with hs16 | hs16
   ·refine zyq 37 (x := zB (decide (p.g ≤ (-(Nt.p2i W.f))))) (zB true) (by rw [hs16]) ?_
    have qhs16 := of_decide_eq_true hs16
    refine zzn 38 (uw 4 false true 37) (zzn 39 (uw 4 false true 37) (zzn 40 (uw 4 false true 37) (zza 41 (zB true) (zzc 54 [(3, .adr 3 0), (5, zI (Nt.p2i W.f)), (7, zI p.g), (29, .v (.agg #[.int .i64 p.g, .int .i64 p.h])), (30, zI 0), (41, zB true)] [(3, ⟨24, W.cs⟩)] (zyr xk (sq9 (zza 4 (zB false) (zzb (zzo (zzw (zyu (zzw (mpr_rn (zyu (zzw (ret0 [.bool false] ⟨zzq, trivial⟩ fun u17 e18 => ?_))))))))))))))))
    show Value.bool _ = Value.bool _
    congr 1
    exact (decide_eq_false zv).symm
   ·refine zyq 37 (x := zB (decide (p.g ≤ (-(Nt.p2i W.f))))) (zB false) (by rw [hs16]) ?_
    have qhs16 := of_decide_eq_false hs16
    refine zza 38 (zI p.g) ?_ (hw := w1 4 false 37)
    refine zza 39 (zI (Nt.p2i W.f)) ?_ (hw := w1 4 false 37)
    refine zza 40 (zB (decide ((Nt.p2i W.f) ≤ p.g))) ?_ (hw := w1 4 false 37)
    refine zza 41 (zB (decide ((Nt.p2i W.f) ≤ p.g))) (zzc 54 [(3, .adr 3 0), (5, zI (Nt.p2i W.f)), (7, zI p.g), (29, .v (.agg #[.int .i64 p.g, .int .i64 p.h])), (30, zI 0), (41, zB (decide ((Nt.p2i W.f) ≤ p.g)))] [(3, ⟨24, W.cs⟩)] (zzu (b := decide ((Nt.p2i W.f) ≤ p.g)) xk (fun hb19 => ?_) (fun hb19 => ?_)))
    ·replace hb19 : (decide ((Nt.p2i W.f) ≤ p.g)) = true := hb19
     have qhb19 := of_decide_eq_true hb19
     refine sq9 (zza 4 (zB false) (zzb (zzo (zzw (zyu (zzw (mpr_rn (zyu (zzw (ret0 [.bool false] ⟨zzq, trivial⟩ fun u20 e21 => ?_))))))))))
     show Value.bool _ = Value.bool _
     congr 1
     exact (decide_eq_false zv).symm
    ·replace hb19 : (decide ((Nt.p2i W.f) ≤ p.g)) = false := hb19
     have qhb19 := of_decide_eq_false hb19
     refine zzs (zzp ?_)
     refine sq9 (zzi 42 (.v (W.v)) ty24 zze (zza 43 (zI p.g) (zzg 44 126 [W.v, .int .i64 p.g] ?_)))
     intro w22 u22 e22 d22
     have k25 := k_fxFits (W := W) (z := p.g) d22 hW xq xq
     with_reducible refine zPm k25 ?_
     rintro _ u23 g24 rfl
     refine zza 45 (zB false) (zza 46 (zB false) (zzi 47 (.v (W.v)) ty24 zze ?_ (hw := w1 4 false 46)))
     refine zza 48 (zI p.g) ?_ (hw := w1 4 false 46)
     refine zyq 49 (x := zI (IntKind.i64.wrap (0 - p.g))) (zI (-p.g)) (eqI xw) ?_ (hw := w1 4 false 46)
     refine zzg 50 126 [W.v, .int .i64 (-p.g)] ?_ (hw := w1 4 false 46)
     intro w26 u26 e26 d26
     have k29 := k_fxFits (W := W) (z := -p.g) d26 hW xq xq
     with_reducible refine zPm k29 ?_
     rintro _ u27 g28 rfl
     refine zza 51 (zB false) ?_ (hw := w1 4 false 46)
     refine zza 52 (zB false) (zzb (zys xk (zzs (zzp ?_))))
     refine zzf (zza 53 (zI 1) (zza 30 (zI 1) (zzx ?_)))
     refine rn_next ?_
     refine sw_weak (T := St.of 54 [(3, .adr 3 0), (5, zI (Nt.p2i W.f)), (29, .v (.agg #[.int .i64 p.g, .int .i64 p.h])), (30, zI 1)] [(3, ⟨24, [.int .i64 W.b, .int .i64 W.f, .int .i64 W.r, .int .i64 W.o]⟩)]) yz ?_
     refine sq9 (zza 31 (zB true) (zzb (zzd (zyr xk (zzs (zzp ?_))))))
     refine zzd (zzt (sq9 (zza 32 (zI p.h) (zza 7 (zI p.h) (zzb (zzd (sq9 (zza 33 (zI p.h) (zza 34 (zI (Nt.p2i W.f)) (zyq 35 (x := zI (IntKind.i64.wrap (0 - (Nt.p2i W.f)))) (zI (-(Nt.p2i W.f))) (eqI xw) (zza 36 (zB (decide (p.h ≤ (-(Nt.p2i W.f))))) ?_)))))))))))
     rcases Bool.eq_false_or_eq_true (decide (p.h ≤ (-(Nt.p2i W.f)))) with hs30 | hs30
     ·refine zyq 37 (x := zB (decide (p.h ≤ (-(Nt.p2i W.f))))) (zB true) (by rw [hs30]) ?_
      have qhs30 := of_decide_eq_true hs30
      refine zzn 38 (uw 4 false true 37) (zzn 39 (uw 4 false true 37) (zzn 40 (uw 4 false true 37) (zza 41 (zB true) (zzb (zyr xk (sq9 (zza 4 (zB false) (zzb (zzo (zzw (zyu (zzw (mpr_rn (zyu (zzw (ret0 [.bool false] ⟨zzq, trivial⟩ fun u31 e32 => ?_))))))))))))))))
      show Value.bool _ = Value.bool _
      congr 1
      exact (decide_eq_false zv).symm
     ·refine zyq 37 (x := zB (decide (p.h ≤ (-(Nt.p2i W.f))))) (zB false) (by rw [hs30]) ?_
      have qhs30 := of_decide_eq_false hs30
      refine zza 38 (zI p.h) ?_ (hw := w1 4 false 37)
      refine zza 39 (zI (Nt.p2i W.f)) ?_ (hw := w1 4 false 37)
      refine zza 40 (zB (decide ((Nt.p2i W.f) ≤ p.h))) ?_ (hw := w1 4 false 37)
      refine zza 41 (zB (decide ((Nt.p2i W.f) ≤ p.h))) (zzb (zzu (b := decide ((Nt.p2i W.f) ≤ p.h)) xk (fun hb33 => ?_) (fun hb33 => ?_)))
      ·replace hb33 : (decide ((Nt.p2i W.f) ≤ p.h)) = true := hb33
       have qhb33 := of_decide_eq_true hb33
       refine sq9 (zza 4 (zB false) (zzb (zzo (zzw (zyu (zzw (mpr_rn (zyu (zzw (ret0 [.bool false] ⟨zzq, trivial⟩ fun u34 e35 => ?_))))))))))
       show Value.bool _ = Value.bool _
       congr 1
       exact (decide_eq_false zv).symm
      ·replace hb33 : (decide ((Nt.p2i W.f) ≤ p.h)) = false := hb33
       have qhb33 := of_decide_eq_false hb33
       refine zzs (zzp ?_)
       refine sq9 (zzi 42 (.v (W.v)) ty24 zze (zza 43 (zI p.h) (zzg 44 126 [W.v, .int .i64 p.h] ?_)))
       intro w36 u36 e36 d36
       have k39 := k_fxFits (W := W) (z := p.h) d36 hW xq xq
       with_reducible refine zPm k39 ?_
       rintro _ u37 g38 rfl
       refine zza 45 (zB false) (zza 46 (zB false) (zzi 47 (.v (W.v)) ty24 zze ?_ (hw := w1 4 false 46)))
       refine zza 48 (zI p.h) ?_ (hw := w1 4 false 46)
       refine zyq 49 (x := zI (IntKind.i64.wrap (0 - p.h))) (zI (-p.h)) (eqI xw) ?_ (hw := w1 4 false 46)
       refine zzg 50 126 [W.v, .int .i64 (-p.h)] ?_ (hw := w1 4 false 46)
       intro w40 u40 e40 d40
       have k43 := k_fxFits (W := W) (z := -p.h) d40 hW xq xq
       with_reducible refine zPm k43 ?_
       rintro _ u41 g42 rfl
       refine zza 51 (zB false) ?_ (hw := w1 4 false 46)
       refine zza 52 (zB false) (zzc 54 [(3, .adr 3 0), (5, zI (Nt.p2i W.f)), (29, .v (.agg #[.int .i64 p.g, .int .i64 p.h])), (30, zI 1), (52, zB false)] [(3, ⟨24, W.cs⟩)] (zys xk (zzs (zzp ?_))))
       refine zzf (zza 53 (zI 2) (zza 30 (zI 2) (zzx ?_)))
       refine rn_next ?_
       refine sw_weak (T := St.of 54 [(3, .adr 3 0), (5, zI (Nt.p2i W.f)), (29, .v (.agg #[.int .i64 p.g, .int .i64 p.h])), (30, zI 2)] [(3, ⟨24, [.int .i64 W.b, .int .i64 W.f, .int .i64 W.r, .int .i64 W.o]⟩)]) yz ?_
       refine sq9 (zza 31 (zB false) (zzb (zzd (zys xk (zyc (zzp (sq9 (zza 4 (zB true) (zzb (zzo (ret0 [.bool true] ⟨zzq, trivial⟩ fun u44 e45 => ?_)))))))))))
       show Value.bool _ = Value.bool _
       congr 1
       exact (decide_eq_true zv).symm
 ·refine zyq 11 (x := zB (p.o != 1)) (zB false) (by rw [hs11]) ?_
  have qhs11 := hs11
  simp at qhs11
  refine zzn 12 (uw 3 true false 11) (zzn 13 (uw 3 true false 11) (zzn 14 (uw 3 true false 11) (zza 15 (zB false) (zzb (zys xk (zzs (zzp ?_)))))))
  refine zzd (sq9 (zza 16 (.adr 2 0) (zzi 17 (zI p.o) ty3 zzl (zza 18 (zB (p.o == 1)) (zyq 19 (x := zB (p.o == 1)) (zB true) (by rw [show (p.o == 1) = true from zq]) (zza 20 (.adr 2 1) ?_ (hw := w1 3 true 19)))))))
  refine zza 21 (.adr 2 2) ?_ (hw := w1 3 true 19)
  refine zzi 22 (zI p.h) ty3 zzl ?_ (hw := w1 3 true 19)
  refine zza 23 (zB (p.h != 0)) ?_ (hw := w1 3 true 19)
  refine zza 24 (zB (p.h != 0)) (zzb (zzu (b := p.h != 0) xk (fun hb47 => ?_) (fun hb47 => ?_)))
  ·replace hb47 : (p.h != 0) = true := hb47
   have qhb47 := hb47
   simp at qhb47
   refine sq9 (zza 4 (zB false) (zzb (zzo (zzw (ret0 [.bool false] ⟨zzq, trivial⟩ fun u48 e49 => ?_)))))
   show Value.bool _ = Value.bool _
   congr 1
   exact (decide_eq_false zv).symm
  ·replace hb47 : (p.h != 0) = false := hb47
   have qhb47 := hb47
   simp at qhb47
   refine zzs (zzp ?_)
   refine sq9 (zza 25 (.adr 3 1) (zzi 26 (zI W.f) ty3 zzl (sy_shl 27 (k := .i64) (s := W.f) (Nt.p2i W.f) xq zw (shl_one xq xq) ?_)))
   refine zza 5 (zI (Nt.p2i W.f)) (zzb (zzd (sq9 (zza 28 (.adr 2 1) (zzi 29 (.v (.agg #[.int .i64 p.g, .int .i64 p.h])) ty58 zze (zza 30 (zI 0) (zzb (zzt (sw_rounds 2 ?_)))))))))
   refine sq9 (zza 31 (zB true) (zzb (zzd (zyr xk (zzs (zzp ?_))))))
   refine zzd (zzt (sq9 (zza 32 (zI p.g) (zza 7 (zI p.g) (zzb (zzd (sq9 (zza 33 (zI p.g) (zza 34 (zI (Nt.p2i W.f)) (zyq 35 (x := zI (IntKind.i64.wrap (0 - (Nt.p2i W.f)))) (zI (-(Nt.p2i W.f))) (eqI xw) (zza 36 (zB (decide (p.g ≤ (-(Nt.p2i W.f))))) ?_)))))))))))
   rcases Bool.eq_false_or_eq_true (decide (p.g ≤ (-(Nt.p2i W.f)))) with hs50 | hs50
   ·refine zyq 37 (x := zB (decide (p.g ≤ (-(Nt.p2i W.f))))) (zB true) (by rw [hs50]) ?_
    have qhs50 := of_decide_eq_true hs50
    refine zzn 38 (uw 4 false true 37) (zzn 39 (uw 4 false true 37) (zzn 40 (uw 4 false true 37) (zza 41 (zB true) (zzc 54 [(3, .adr 3 0), (5, zI (Nt.p2i W.f)), (7, zI p.g), (29, .v (.agg #[.int .i64 p.g, .int .i64 p.h])), (30, zI 0), (41, zB true)] [(3, ⟨24, W.cs⟩)] (zyr xk (sq9 (zza 4 (zB false) (zzb (zzo (zzw (zyu (zzw (mpr_rn (zyu (zzw (ret0 [.bool false] ⟨zzq, trivial⟩ fun u51 e52 => ?_))))))))))))))))
    show Value.bool _ = Value.bool _
    congr 1
    exact (decide_eq_false zv).symm
   ·refine zyq 37 (x := zB (decide (p.g ≤ (-(Nt.p2i W.f))))) (zB false) (by rw [hs50]) ?_
    have qhs50 := of_decide_eq_false hs50
    refine zza 38 (zI p.g) ?_ (hw := w1 4 false 37)
    refine zza 39 (zI (Nt.p2i W.f)) ?_ (hw := w1 4 false 37)
    refine zza 40 (zB (decide ((Nt.p2i W.f) ≤ p.g))) ?_ (hw := w1 4 false 37)
    refine zza 41 (zB (decide ((Nt.p2i W.f) ≤ p.g))) (zzc 54 [(3, .adr 3 0), (5, zI (Nt.p2i W.f)), (7, zI p.g), (29, .v (.agg #[.int .i64 p.g, .int .i64 p.h])), (30, zI 0), (41, zB (decide ((Nt.p2i W.f) ≤ p.g)))] [(3, ⟨24, W.cs⟩)] (zzu (b := decide ((Nt.p2i W.f) ≤ p.g)) xk (fun hb53 => ?_) (fun hb53 => ?_)))
    ·replace hb53 : (decide ((Nt.p2i W.f) ≤ p.g)) = true := hb53
     have qhb53 := of_decide_eq_true hb53
     refine sq9 (zza 4 (zB false) (zzb (zzo (zzw (zyu (zzw (mpr_rn (zyu (zzw (ret0 [.bool false] ⟨zzq, trivial⟩ fun u54 e55 => ?_))))))))))
     show Value.bool _ = Value.bool _
     congr 1
     exact (decide_eq_false zv).symm
    ·replace hb53 : (decide ((Nt.p2i W.f) ≤ p.g)) = false := hb53
     have qhb53 := of_decide_eq_false hb53
     refine zzs (zzp ?_)
     refine sq9 (zzi 42 (.v (W.v)) ty24 zze (zza 43 (zI p.g) (zzg 44 126 [W.v, .int .i64 p.g] ?_)))
     intro w56 u56 e56 d56
     have k59 := k_fxFits (W := W) (z := p.g) d56 hW xq xq
     with_reducible refine zPm k59 ?_
     rintro _ u57 g58 rfl
     refine zza 45 (zB false) (zza 46 (zB false) (zzi 47 (.v (W.v)) ty24 zze ?_ (hw := w1 4 false 46)))
     refine zza 48 (zI p.g) ?_ (hw := w1 4 false 46)
     refine zyq 49 (x := zI (IntKind.i64.wrap (0 - p.g))) (zI (-p.g)) (eqI xw) ?_ (hw := w1 4 false 46)
     refine zzg 50 126 [W.v, .int .i64 (-p.g)] ?_ (hw := w1 4 false 46)
     intro w60 u60 e60 d60
     have k63 := k_fxFits (W := W) (z := -p.g) d60 hW xq xq
     with_reducible refine zPm k63 ?_
     rintro _ u61 g62 rfl
     refine zza 51 (zB false) ?_ (hw := w1 4 false 46)
     refine zza 52 (zB false) (zzb (zys xk (zzs (zzp ?_))))
     refine zzf (zza 53 (zI 1) (zza 30 (zI 1) (zzx ?_)))
     refine rn_next ?_
     refine sw_weak (T := St.of 54 [(3, .adr 3 0), (5, zI (Nt.p2i W.f)), (29, .v (.agg #[.int .i64 p.g, .int .i64 p.h])), (30, zI 1)] [(3, ⟨24, [.int .i64 W.b, .int .i64 W.f, .int .i64 W.r, .int .i64 W.o]⟩)]) yz ?_
     refine sq9 (zza 31 (zB true) (zzb (zzd (zyr xk (zzs (zzp ?_))))))
     refine zzd (zzt (sq9 (zza 32 (zI p.h) (zza 7 (zI p.h) (zzb (zzd (sq9 (zza 33 (zI p.h) (zza 34 (zI (Nt.p2i W.f)) (zyq 35 (x := zI (IntKind.i64.wrap (0 - (Nt.p2i W.f)))) (zI (-(Nt.p2i W.f))) (eqI xw) (zza 36 (zB (decide (p.h ≤ (-(Nt.p2i W.f))))) ?_)))))))))))
     rcases Bool.eq_false_or_eq_true (decide (p.h ≤ (-(Nt.p2i W.f)))) with hs64 | hs64
     ·refine zyq 37 (x := zB (decide (p.h ≤ (-(Nt.p2i W.f))))) (zB true) (by rw [hs64]) ?_
      have qhs64 := of_decide_eq_true hs64
      refine zzn 38 (uw 4 false true 37) (zzn 39 (uw 4 false true 37) (zzn 40 (uw 4 false true 37) (zza 41 (zB true) (zzb (zyr xk (sq9 (zza 4 (zB false) (zzb (zzo (zzw (zyu (zzw (mpr_rn (zyu (zzw (ret0 [.bool false] ⟨zzq, trivial⟩ fun u65 e66 => ?_))))))))))))))))
      show Value.bool _ = Value.bool _
      congr 1
      exact (decide_eq_false zv).symm
     ·refine zyq 37 (x := zB (decide (p.h ≤ (-(Nt.p2i W.f))))) (zB false) (by rw [hs64]) ?_
      have qhs64 := of_decide_eq_false hs64
      refine zza 38 (zI p.h) ?_ (hw := w1 4 false 37)
      refine zza 39 (zI (Nt.p2i W.f)) ?_ (hw := w1 4 false 37)
      refine zza 40 (zB (decide ((Nt.p2i W.f) ≤ p.h))) ?_ (hw := w1 4 false 37)
      refine zza 41 (zB (decide ((Nt.p2i W.f) ≤ p.h))) (zzb (zzu (b := decide ((Nt.p2i W.f) ≤ p.h)) xk (fun hb67 => ?_) (fun hb67 => ?_)))
      ·replace hb67 : (decide ((Nt.p2i W.f) ≤ p.h)) = true := hb67
       have qhb67 := of_decide_eq_true hb67
       refine sq9 (zza 4 (zB false) (zzb (zzo (zzw (zyu (zzw (mpr_rn (zyu (zzw (ret0 [.bool false] ⟨zzq, trivial⟩ fun u68 e69 => ?_))))))))))
       show Value.bool _ = Value.bool _
       congr 1
       exact (decide_eq_false zv).symm
      ·replace hb67 : (decide ((Nt.p2i W.f) ≤ p.h)) = false := hb67
       have qhb67 := of_decide_eq_false hb67
       refine zzs (zzp ?_)
       refine sq9 (zzi 42 (.v (W.v)) ty24 zze (zza 43 (zI p.h) (zzg 44 126 [W.v, .int .i64 p.h] ?_)))
       intro w70 u70 e70 d70
       have k73 := k_fxFits (W := W) (z := p.h) d70 hW xq xq
       with_reducible refine zPm k73 ?_
       rintro _ u71 g72 rfl
       refine zza 45 (zB false) (zza 46 (zB false) (zzi 47 (.v (W.v)) ty24 zze ?_ (hw := w1 4 false 46)))
       refine zza 48 (zI p.h) ?_ (hw := w1 4 false 46)
       refine zyq 49 (x := zI (IntKind.i64.wrap (0 - p.h))) (zI (-p.h)) (eqI xw) ?_ (hw := w1 4 false 46)
       refine zzg 50 126 [W.v, .int .i64 (-p.h)] ?_ (hw := w1 4 false 46)
       intro w74 u74 e74 d74
       have k77 := k_fxFits (W := W) (z := -p.h) d74 hW xq xq
       with_reducible refine zPm k77 ?_
       rintro _ u75 g76 rfl
       refine zza 51 (zB false) ?_ (hw := w1 4 false 46)
       refine zza 52 (zB false) (zzc 54 [(3, .adr 3 0), (5, zI (Nt.p2i W.f)), (29, .v (.agg #[.int .i64 p.g, .int .i64 p.h])), (30, zI 1), (52, zB false)] [(3, ⟨24, W.cs⟩)] (zys xk (zzs (zzp ?_))))
       refine zzf (zza 53 (zI 2) (zza 30 (zI 2) (zzx ?_)))
       refine rn_next ?_
       refine sw_weak (T := St.of 54 [(3, .adr 3 0), (5, zI (Nt.p2i W.f)), (29, .v (.agg #[.int .i64 p.g, .int .i64 p.h])), (30, zI 2)] [(3, ⟨24, [.int .i64 W.b, .int .i64 W.f, .int .i64 W.r, .int .i64 W.o]⟩)]) yz ?_
       refine sq9 (zza 31 (zB false) (zzb (zzd (zys xk (zyc (zzp (sq9 (zza 4 (zB true) (zzb (zzo (ret0 [.bool true] ⟨zzq, trivial⟩ fun u78 e79 => ?_)))))))))))
       show Value.bool _ = Value.bool _
       congr 1
       exact (decide_eq_true zv).symm
set_option maxHeartbeats 4000000 in
theorem k_rpermittedG {u w : World} {W : WL} {p : PL} (d : Dat u w) (hW : WdOK W) (hf : 1 ≤ W.f) : Calls Tryz.prog 88 #[p.v, W.v] w (Post u w fun v _ => v = .bool (decide (PasOK W.f p))) := by
 obtain ⟨hw1, hw2, hw3, hw4, hw5, hw6, hw7, hw8⟩ := id hW
 have hu0 := Nt.zxq W.f
 have hu1 := Nt.p2i_24 (n := W.f) xq
 have hu2 := Nt.zwh (a := W.f) (b := W.b - 1) xq
 have hu3 := Nt.p2i_24 (n := W.b - 1) xq
 refine zzm (args := [.agg #[.int .i64 p.o, .int .i64 p.g, .int .i64 p.h], .agg #[.int .i64 W.b, .int .i64 W.f, .int .i64 W.r, .int .i64 W.o]]) Tryz.func88 rfl Tryz.ntmps88 (rs := [.tmp 4]) Tryz.results88 (le_b rfl) (le_b rfl) d ?_
 refine sq9 (zzk 2 ⟨60, [.int .i64 p.o, .int .i64 p.g, .int .i64 p.h]⟩ (zzk 3 ⟨24, W.cs⟩ (zza 4 (zB false) (zzb (sq9 (zza 7 (.adr 3 1) (zzi 8 (zI W.f) ty3 zzl (sy_conv 9 (W.f) (fun w => by kernel_rfl) (IntWalk.u64_in _ xq) ?_))))))))
 refine sy_shl 10 (k := .i64) (s := W.f) (Nt.p2i W.f) xq zw (shl_one xq xq) ?_
 refine zza 5 (zI (Nt.p2i W.f)) (zzb (zzd (sq9 (zza 6 (zI 0) (zzb (zzt (sw_rounds 2 ?_)))))))
 refine zzd (sq9 (zza 11 (zI 0) (zza 12 (zB true) (zzb (zyr xk (zzs (zzp ?_)))))))
 refine zzd (zzt (zzd (zzz [0, 0, 0, 6, 14, 31, 63, 127, 255, 255, 255, 1791, 3839, 7935, 16383, 32767, 65535, 131071, 262143, 262143, 1048575, 2097151, 262143, 262143, 12845055, 29622271, 63176703, 134217727, 262143, 536870911, 1073741823] [(0, []), (1, []), (2, []), (3, []), (4, []), (5, []), (6, []), (7, []), (8, []), (9, []), (10, []), (11, []), (12, []), (13, []), (14, []), (15, []), (16, []), (17, []), (18, []), (19, []), (20, []), (21, []), (22, []), (23, []), (24, []), (25, []), (26, []), (27, []), (28, []), (29, []), (30, [])] xk xk (zzi 15 (.v (W.v)) ty24 zze (zza 16 (zI 0) (zza 17 (.adr 2 1) (zza 18 (.adr 2 1) (zzi 19 (zI p.g) ty3 zzl (zzg 20 153 [W.v, .int .i64 p.g] ?_)))))))))
 intro w11 u11 e11 d11
 have k14 := k_r21FitsG (W := W) (z := p.g) d11 hW
 with_reducible refine zPm k14 ?_
 rintro _ u12 g13 rfl
 refine zza 21 (zB (!(Nt.fitB W p.g))) ?_
 rcases Bool.eq_false_or_eq_true (!(Nt.fitB W p.g)) with hs15 | hs15
 ·refine zyq 22 (x := zB (!(Nt.fitB W p.g))) (zB true) (by rw [hs15]) ?_
  have qhs15 := hs15
  simp only [Bool.not_eq_true'] at qhs15
  have shs15 : ¬ _ := fun k => Bool.noConfusion ((Nt.fit_iff.2 k).symm.trans qhs15)
  refine zzn 23 (uw 7 false true 22) (zzn 24 (uw 7 false true 22) (zzn 25 (uw 7 false true 22) (zzn 26 (uw 7 false true 22) (zzn 27 (uw 7 false true 22) (zzn 28 (uw 7 false true 22) (zzn 29 (uw 7 false true 22) (zzn 30 (uw 7 false true 22) (zza 31 (zB true) (zza 32 (zB true) (zzn 33 (uw 17 false true 32) (zzn 34 (uw 17 false true 32) ?_)))))))))))
  refine zzn 35 (uw 17 false true 32) (zzn 36 (uw 17 false true 32) (zzn 37 (uw 17 false true 32) (zzn 38 (uw 17 false true 32) (zzn 39 (uw 17 false true 32) (zzn 40 (uw 17 false true 32) (zzn 41 (uw 17 false true 32) (zzn 42 (uw 17 false true 32) (zzn 43 (uw 17 false true 32) (zzn 44 (uw 17 false true 32) (zza 45 (zB true) (zzc 60 [(2, .adr 2 0), (3, .adr 3 0), (5, zI (Nt.p2i W.f)), (6, zI 0), (45, zB true)] [(2, ⟨60, [.int .i64 p.o, .int .i64 p.g, .int .i64 p.h]⟩), (3, ⟨24, W.cs⟩)] ?_)))))))))))
  refine zyr xk (sq9 (zza 4 (zB false) (zzb (zzo (zyu (zzw (mpr_rn (zyu (zzw (ret0 [.bool false] ⟨zzq, trivial⟩ fun u16 e17 => ?_))))))))))
  show Value.bool _ = Value.bool _
  congr 1
  exact (decide_eq_false zv).symm
 ·refine zyq 22 (x := zB (!(Nt.fitB W p.g))) (zB false) (by rw [hs15]) ?_
  have qhs15 := hs15
  simp only [Bool.not_eq_false'] at qhs15
  have rhs15 := Nt.fit_iff.1 qhs15
  refine zzi 23 (.v (W.v)) ty24 zze ?_ (hw := w1 7 false 22)
  refine zza 24 (zI 0) ?_ (hw := w1 7 false 22)
  refine zza 25 (.adr 2 1) ?_ (hw := w1 7 false 22)
  refine zza 26 (.adr 2 1) ?_ (hw := w1 7 false 22)
  refine zzi 27 (zI p.g) ty3 zzl ?_ (hw := w1 7 false 22)
  refine zyq 28 (x := zI (IntKind.i64.wrap (0 - p.g))) (zI (-p.g)) (eqI xw) ?_ (hw := w1 7 false 22)
  refine zzg 29 153 [W.v, .int .i64 (-p.g)] ?_ (hw := w1 7 false 22)
  intro w18 u18 e18 d18
  have k21 := k_r21FitsG (W := W) (z := -p.g) d18 hW
  with_reducible refine zPm k21 ?_
  rintro _ u19 g20 rfl
  refine zza 30 (zB (!(Nt.fitB W (-p.g)))) ?_ (hw := w1 7 false 22)
  refine zza 31 (zB (!(Nt.fitB W (-p.g)))) ?_
  rcases Bool.eq_false_or_eq_true (!(Nt.fitB W (-p.g))) with hs22 | hs22
  ·refine zyq 32 (x := zB (!(Nt.fitB W (-p.g)))) (zB true) (by rw [hs22]) ?_
   have qhs22 := hs22
   simp only [Bool.not_eq_true'] at qhs22
   have shs22 : ¬ _ := fun k => Bool.noConfusion ((Nt.fit_iff.2 k).symm.trans qhs22)
   refine zzn 33 (uw 17 false true 32) (zzn 34 (uw 17 false true 32) (zzn 35 (uw 17 false true 32) (zzn 36 (uw 17 false true 32) (zzn 37 (uw 17 false true 32) (zzn 38 (uw 17 false true 32) (zzn 39 (uw 17 false true 32) (zzn 40 (uw 17 false true 32) (zzn 41 (uw 17 false true 32) (zzn 42 (uw 17 false true 32) (zzn 43 (uw 17 false true 32) (zzn 44 (uw 17 false true 32) ?_)))))))))))
   refine zza 45 (zB true) (zzc 60 [(2, .adr 2 0), (3, .adr 3 0), (5, zI (Nt.p2i W.f)), (6, zI 0), (45, zB true)] [(2, ⟨60, [.int .i64 p.o, .int .i64 p.g, .int .i64 p.h]⟩), (3, ⟨24, W.cs⟩)] (zyr xk (sq9 (zza 4 (zB false) (zzb (zzo (zyu (zzw (mpr_rn (zyu (zzw (ret0 [.bool false] ⟨zzq, trivial⟩ fun u23 e24 => ?_))))))))))))
   show Value.bool _ = Value.bool _
   congr 1
   exact (decide_eq_false zv).symm
  ·refine zyq 32 (x := zB (!(Nt.fitB W (-p.g)))) (zB false) (by rw [hs22]) ?_
   have qhs22 := hs22
   simp only [Bool.not_eq_false'] at qhs22
   have rhs22 := Nt.fit_iff.1 qhs22
   refine zza 33 (zI 0) ?_ (hw := w1 17 false 32)
   refine zza 34 (.adr 2 1) ?_ (hw := w1 17 false 32)
   refine zza 35 (.adr 2 1) ?_ (hw := w1 17 false 32)
   refine zzi 36 (zI p.g) ty3 zzl ?_ (hw := w1 17 false 32)
   refine zza 37 (zI 0) ?_ (hw := w1 17 false 32)
   refine zza 38 (.adr 2 1) ?_ (hw := w1 17 false 32)
   refine zza 39 (.adr 2 1) ?_ (hw := w1 17 false 32)
   refine zzi 40 (zI p.g) ty3 zzl ?_ (hw := w1 17 false 32)
   refine zyq 41 (x := zI (IntKind.i64.wrap (0 - p.g))) (zI (-p.g)) (eqI xw) ?_ (hw := w1 17 false 32)
   obtain ⟨mx25, hmx25, hml25⟩ : ∃ v, (if -p.g > p.g then -p.g else p.g) = v ∧ (p.g ≤ v ∧ -p.g ≤ v ∧ (v = p.g ∨ v = -p.g)) := ⟨_, rfl, by split <;> omega⟩
   refine sy_maxN 42 (n := p.g) (m := -p.g) (v := mx25) hmx25 ?_ (hw := w1 17 false 32)
   refine zza 43 (zI (Nt.p2i W.f)) ?_ (hw := w1 17 false 32)
   refine zza 44 (zB (decide ((Nt.p2i W.f) ≤ mx25))) ?_ (hw := w1 17 false 32)
   refine zza 45 (zB (decide ((Nt.p2i W.f) ≤ mx25))) (zzc 60 [(2, .adr 2 0), (3, .adr 3 0), (5, zI (Nt.p2i W.f)), (6, zI 0), (45, zB (decide ((Nt.p2i W.f) ≤ mx25)))] [(2, ⟨60, [.int .i64 p.o, .int .i64 p.g, .int .i64 p.h]⟩), (3, ⟨24, W.cs⟩)] (zzu (b := decide ((Nt.p2i W.f) ≤ mx25)) xk (fun hb26 => ?_) (fun hb26 => ?_)))
   ·replace hb26 : (decide ((Nt.p2i W.f) ≤ mx25)) = true := hb26
    have qhb26 := of_decide_eq_true hb26
    refine sq9 (zza 4 (zB false) (zzb (zzo (zyu (zzw (mpr_rn (zyu (zzw (ret0 [.bool false] ⟨zzq, trivial⟩ fun u27 e28 => ?_)))))))))
    show Value.bool _ = Value.bool _
    congr 1
    exact (decide_eq_false zv).symm
   ·replace hb26 : (decide ((Nt.p2i W.f) ≤ mx25)) = false := hb26
    have qhb26 := of_decide_eq_false hb26
    refine zzs (zzp ?_)
    refine zzf (zza 13 (zI 0) (zza 14 (zI 1) (zza 6 (zI 1) (zzx ?_))))
    refine rn_next ?_
    refine sw_weak (T := St.of 60 [(2, .adr 2 0), (3, .adr 3 0), (5, zI (Nt.p2i W.f)), (6, zI 1)] [(2, ⟨60, [.int .i64 p.o, .int .i64 p.g, .int .i64 p.h]⟩), (3, ⟨24, [.int .i64 W.b, .int .i64 W.f, .int .i64 W.r, .int .i64 W.o]⟩)]) yz ?_
    refine zzd (sq9 (zza 11 (zI 1) (zza 12 (zB true) (zzb (zyr xk (zzs (zzp ?_)))))))
    refine zzd (zzt (zzd (zzz [0, 0, 0, 6, 14, 31, 63, 127, 255, 255, 255, 1791, 3839, 7935, 16383, 32767, 65535, 131071, 262143, 262143, 1048575, 2097151, 262143, 262143, 12845055, 29622271, 63176703, 134217727, 262143, 536870911, 1073741823] [(0, []), (1, []), (2, []), (3, []), (4, []), (5, []), (6, []), (7, []), (8, []), (9, []), (10, []), (11, []), (12, []), (13, []), (14, []), (15, []), (16, []), (17, []), (18, []), (19, []), (20, []), (21, []), (22, []), (23, []), (24, []), (25, []), (26, []), (27, []), (28, []), (29, []), (30, [])] xk xk (zzi 15 (.v (W.v)) ty24 zze (zza 16 (zI 1) (zza 17 (.adr 2 1) (zza 18 (.adr 2 2) (zzi 19 (zI p.h) ty3 zzl (zzg 20 153 [W.v, .int .i64 p.h] ?_)))))))))
    intro w29 u29 e29 d29
    have k32 := k_r21FitsG (W := W) (z := p.h) d29 hW
    with_reducible refine zPm k32 ?_
    rintro _ u30 g31 rfl
    refine zza 21 (zB (!(Nt.fitB W p.h))) ?_
    rcases Bool.eq_false_or_eq_true (!(Nt.fitB W p.h)) with hs33 | hs33
    ·refine zyq 22 (x := zB (!(Nt.fitB W p.h))) (zB true) (by rw [hs33]) ?_
     have qhs33 := hs33
     simp only [Bool.not_eq_true'] at qhs33
     have shs33 : ¬ _ := fun k => Bool.noConfusion ((Nt.fit_iff.2 k).symm.trans qhs33)
     refine zzn 23 (uw 7 false true 22) (zzn 24 (uw 7 false true 22) (zzn 25 (uw 7 false true 22) (zzn 26 (uw 7 false true 22) (zzn 27 (uw 7 false true 22) (zzn 28 (uw 7 false true 22) (zzn 29 (uw 7 false true 22) (zzn 30 (uw 7 false true 22) (zza 31 (zB true) (zza 32 (zB true) (zzn 33 (uw 17 false true 32) (zzn 34 (uw 17 false true 32) ?_)))))))))))
     refine zzn 35 (uw 17 false true 32) (zzn 36 (uw 17 false true 32) (zzn 37 (uw 17 false true 32) (zzn 38 (uw 17 false true 32) (zzn 39 (uw 17 false true 32) (zzn 40 (uw 17 false true 32) (zzn 41 (uw 17 false true 32) (zzn 42 (uw 17 false true 32) (zzn 43 (uw 17 false true 32) (zzn 44 (uw 17 false true 32) (zza 45 (zB true) (zzc 60 [(2, .adr 2 0), (3, .adr 3 0), (5, zI (Nt.p2i W.f)), (6, zI 1), (45, zB true)] [(2, ⟨60, [.int .i64 p.o, .int .i64 p.g, .int .i64 p.h]⟩), (3, ⟨24, W.cs⟩)] ?_)))))))))))
     refine zyr xk (sq9 (zza 4 (zB false) (zzb (zzo (zyu (zzw (mpr_rn (zyu (zzw (ret0 [.bool false] ⟨zzq, trivial⟩ fun u34 e35 => ?_))))))))))
     show Value.bool _ = Value.bool _
     congr 1
     exact (decide_eq_false zv).symm
    ·refine zyq 22 (x := zB (!(Nt.fitB W p.h))) (zB false) (by rw [hs33]) ?_
     have qhs33 := hs33
     simp only [Bool.not_eq_false'] at qhs33
     have rhs33 := Nt.fit_iff.1 qhs33
     refine zzi 23 (.v (W.v)) ty24 zze ?_ (hw := w1 7 false 22)
     refine zza 24 (zI 1) ?_ (hw := w1 7 false 22)
     refine zza 25 (.adr 2 1) ?_ (hw := w1 7 false 22)
     refine zza 26 (.adr 2 2) ?_ (hw := w1 7 false 22)
     refine zzi 27 (zI p.h) ty3 zzl ?_ (hw := w1 7 false 22)
     refine zyq 28 (x := zI (IntKind.i64.wrap (0 - p.h))) (zI (-p.h)) (eqI xw) ?_ (hw := w1 7 false 22)
     refine zzg 29 153 [W.v, .int .i64 (-p.h)] ?_ (hw := w1 7 false 22)
     intro w36 u36 e36 d36
     have k39 := k_r21FitsG (W := W) (z := -p.h) d36 hW
     with_reducible refine zPm k39 ?_
     rintro _ u37 g38 rfl
     refine zza 30 (zB (!(Nt.fitB W (-p.h)))) ?_ (hw := w1 7 false 22)
     refine zza 31 (zB (!(Nt.fitB W (-p.h)))) ?_
     rcases Bool.eq_false_or_eq_true (!(Nt.fitB W (-p.h))) with hs40 | hs40
     ·refine zyq 32 (x := zB (!(Nt.fitB W (-p.h)))) (zB true) (by rw [hs40]) ?_
      have qhs40 := hs40
      simp only [Bool.not_eq_true'] at qhs40
      have shs40 : ¬ _ := fun k => Bool.noConfusion ((Nt.fit_iff.2 k).symm.trans qhs40)
      refine zzn 33 (uw 17 false true 32) (zzn 34 (uw 17 false true 32) (zzn 35 (uw 17 false true 32) (zzn 36 (uw 17 false true 32) (zzn 37 (uw 17 false true 32) (zzn 38 (uw 17 false true 32) (zzn 39 (uw 17 false true 32) (zzn 40 (uw 17 false true 32) (zzn 41 (uw 17 false true 32) (zzn 42 (uw 17 false true 32) (zzn 43 (uw 17 false true 32) (zzn 44 (uw 17 false true 32) ?_)))))))))))
      refine zza 45 (zB true) (zzc 60 [(2, .adr 2 0), (3, .adr 3 0), (5, zI (Nt.p2i W.f)), (6, zI 1), (45, zB true)] [(2, ⟨60, [.int .i64 p.o, .int .i64 p.g, .int .i64 p.h]⟩), (3, ⟨24, W.cs⟩)] (zyr xk (sq9 (zza 4 (zB false) (zzb (zzo (zyu (zzw (mpr_rn (zyu (zzw (ret0 [.bool false] ⟨zzq, trivial⟩ fun u41 e42 => ?_))))))))))))
      show Value.bool _ = Value.bool _
      congr 1
      exact (decide_eq_false zv).symm
     ·refine zyq 32 (x := zB (!(Nt.fitB W (-p.h)))) (zB false) (by rw [hs40]) ?_
      have qhs40 := hs40
      simp only [Bool.not_eq_false'] at qhs40
      have rhs40 := Nt.fit_iff.1 qhs40
      refine zza 33 (zI 1) ?_ (hw := w1 17 false 32)
      refine zza 34 (.adr 2 1) ?_ (hw := w1 17 false 32)
      refine zza 35 (.adr 2 2) ?_ (hw := w1 17 false 32)
      refine zzi 36 (zI p.h) ty3 zzl ?_ (hw := w1 17 false 32)
      refine zza 37 (zI 1) ?_ (hw := w1 17 false 32)
      refine zza 38 (.adr 2 1) ?_ (hw := w1 17 false 32)
      refine zza 39 (.adr 2 2) ?_ (hw := w1 17 false 32)
      refine zzi 40 (zI p.h) ty3 zzl ?_ (hw := w1 17 false 32)
      refine zyq 41 (x := zI (IntKind.i64.wrap (0 - p.h))) (zI (-p.h)) (eqI xw) ?_ (hw := w1 17 false 32)
      obtain ⟨mx43, hmx43, hml43⟩ : ∃ v, (if -p.h > p.h then -p.h else p.h) = v ∧ (p.h ≤ v ∧ -p.h ≤ v ∧ (v = p.h ∨ v = -p.h)) := ⟨_, rfl, by split <;> omega⟩
      refine sy_maxN 42 (n := p.h) (m := -p.h) (v := mx43) hmx43 ?_ (hw := w1 17 false 32)
      refine zza 43 (zI (Nt.p2i W.f)) ?_ (hw := w1 17 false 32)
      refine zza 44 (zB (decide ((Nt.p2i W.f) ≤ mx43))) ?_ (hw := w1 17 false 32)
      refine zza 45 (zB (decide ((Nt.p2i W.f) ≤ mx43))) (zzc 60 [(2, .adr 2 0), (3, .adr 3 0), (5, zI (Nt.p2i W.f)), (6, zI 1), (45, zB (decide ((Nt.p2i W.f) ≤ mx43)))] [(2, ⟨60, [.int .i64 p.o, .int .i64 p.g, .int .i64 p.h]⟩), (3, ⟨24, W.cs⟩)] (zzu (b := decide ((Nt.p2i W.f) ≤ mx43)) xk (fun hb44 => ?_) (fun hb44 => ?_)))
      ·replace hb44 : (decide ((Nt.p2i W.f) ≤ mx43)) = true := hb44
       have qhb44 := of_decide_eq_true hb44
       refine sq9 (zza 4 (zB false) (zzb (zzo (zyu (zzw (mpr_rn (zyu (zzw (ret0 [.bool false] ⟨zzq, trivial⟩ fun u45 e46 => ?_)))))))))
       show Value.bool _ = Value.bool _
       congr 1
       exact (decide_eq_false zv).symm
      ·replace hb44 : (decide ((Nt.p2i W.f) ≤ mx43)) = false := hb44
       have qhb44 := of_decide_eq_false hb44
       refine zzs (zzp ?_)
       refine zzf (zza 13 (zI 1) (zza 14 (zI 2) (zza 6 (zI 2) (zzx ?_))))
       refine rn_next ?_
       refine sw_weak (T := St.of 60 [(2, .adr 2 0), (3, .adr 3 0), (5, zI (Nt.p2i W.f)), (6, zI 2)] [(2, ⟨60, [.int .i64 p.o, .int .i64 p.g, .int .i64 p.h]⟩), (3, ⟨24, [.int .i64 W.b, .int .i64 W.f, .int .i64 W.r, .int .i64 W.o]⟩)]) yz ?_
       refine zzd (sq9 (zza 11 (zI 2) (zza 12 (zB false) (zzb (zys xk (zyc (zzp (sq9 (zza 46 (.adr 2 0) (zzi 47 (zI p.o) ty3 zzl (zza 48 (zB (p.o == 2)) ?_)))))))))))
       rcases Bool.eq_false_or_eq_true (p.o == 2) with hs47 | hs47
       ·refine zyq 49 (x := zB (p.o == 2)) (zB true) (by rw [hs47]) ?_
        have qhs47 := hs47
        simp at qhs47
        refine zzn 50 (uw 3 false true 49) (zzn 51 (uw 3 false true 49) (zzn 52 (uw 3 false true 49) (zzn 53 (uw 3 false true 49) (zzn 54 (unwantedU (g := 7) (b := true) (t := 53) xk xk xk) (zzn 55 (unwantedU (g := 7) (b := true) (t := 53) xk xk xk) (zzn 56 (unwantedU (g := 7) (b := true) (t := 53) xk xk xk) (zzn 57 (unwantedU (g := 7) (b := true) (t := 53) xk xk xk) (zzn 58 (uw 3 false true 49) (zza 59 (zB true) (zza 4 (zB true) (zzb ?_)))))))))))
        refine zzo (ret0 [.bool true] ⟨zzq, trivial⟩ fun u48 e49 => ?_)
        show Value.bool _ = Value.bool _
        congr 1
        exact (decide_eq_true zv).symm
       ·refine zyq 49 (x := zB (p.o == 2)) (zB false) (by rw [hs47]) ?_
        have qhs47 := hs47
        simp at qhs47
        refine zza 50 (.adr 2 0) ?_ (hw := w1 3 false 49)
        refine zzi 51 (zI p.o) ty3 zzl ?_ (hw := w1 3 false 49)
        refine zza 52 (zB (p.o == 1)) ?_ (hw := w1 3 false 49)
        rcases Bool.eq_false_or_eq_true (p.o == 1) with hs50 | hs50
        ·refine zyq 53 (x := zB (p.o == 1)) (zB true) (by rw [hs50]) ?_ (hw := w1 3 false 49)
         have qhs50 := hs50
         simp at qhs50
         refine zza 54 (.adr 2 1) ?_ (hw := w1 7 true 53)
         refine zza 55 (.adr 2 2) ?_ (hw := w1 7 true 53)
         refine zzi 56 (zI p.h) ty3 zzl ?_ (hw := w1 7 true 53)
         refine zza 57 (zB (p.h == 0)) ?_ (hw := w1 7 true 53)
         refine zza 58 (zB (p.h == 0)) ?_ (hw := w1 3 false 49)
         refine zza 59 (zB (p.h == 0)) (zza 4 (zB (p.h == 0)) (zzb (zzo (ret0 [.bool (p.h == 0)] ⟨zzq, trivial⟩ fun u51 e52 => ?_))))
         show Value.bool _ = Value.bool _
         congr 1
         rcases Bool.eq_false_or_eq_true (p.h == 0) with h9 | h9
         ·rw [h9]
          simp at h9
          exact (decide_eq_true zv).symm
         ·rw [h9]
          simp at h9
          exact (decide_eq_false zv).symm
        ·refine zyq 53 (x := zB (p.o == 1)) (zB false) (by rw [hs50]) ?_ (hw := w1 3 false 49)
         have qhs50 := hs50
         simp at qhs50
         refine zzn 54 (uw 7 true false 53) (zzn 55 (uw 7 true false 53) (zzn 56 (uw 7 true false 53) (zzn 57 (uw 7 true false 53) (zza 58 (zB false) ?_ (hw := w1 3 false 49)))))
         refine zza 59 (zB false) (zza 4 (zB false) (zzb (zzo (ret0 [.bool false] ⟨zzq, trivial⟩ fun u53 e54 => ?_))))
         show Value.bool _ = Value.bool _
         congr 1
         exact (decide_eq_false zv).symm
set_option maxHeartbeats 4000000 in
theorem k_wvValidG {u w : World} {W : WL} {x y : Sl} {L M : List PL} (d : Dat u w) (hx : PasV u x L) (hy : PasV u y M) : Calls Tryz.prog 29 #[.agg #[x.v, y.v], W.v] w (Post u w fun v _ => v = .bool (decide (WvOK W L M))) := by
 have hlx := hx.len
 have hly := hy.len
 refine zzm (args := [.agg #[.slice x.a x.n x.c, .slice y.a y.n y.c], .agg #[.int .i64 W.b, .int .i64 W.f, .int .i64 W.r, .int .i64 W.o]]) Tryz.func29 rfl Tryz.ntmps29 (rs := [.tmp 4]) Tryz.results29 (le_b rfl) (le_b rfl) d ?_
 refine sq9 (zzk 2 ⟨57, [x.v, y.v]⟩ (zzk 3 ⟨24, W.cs⟩ (zza 4 (zB false) (zzb (zzd (sq9 (zzi 9 (.v (W.v)) ty24 zze (zzg 10 84 [W.v] ?_))))))))
 intro w11 u11 e11 d11
 have k14 := k_suitableG (W := W) d11
 with_reducible refine zPm k14 ?_
 rintro _ u12 g13 rfl
 refine zza 11 (zB (!(decide (FmOK W)))) (zzb (zzu (b := !(decide (FmOK W))) xk (fun hb15 => ?_) (fun hb15 => ?_)))
 ·replace hb15 : (!(decide (FmOK W))) = true := hb15
  have nhF : ¬ FmOK W := by simpa using hb15
  refine sq9 (zza 4 (zB false) (zzb (zzo (zzw (ret0 [.bool false] ⟨zzq, trivial⟩ fun u16 e17 => ?_)))))
  show Value.bool _ = Value.bool _
  congr 1
  exact (decide_eq_false (fun k => nhF k.1)).symm
 ·replace hb15 : (!(decide (FmOK W))) = false := hb15
  have hF : FmOK W := by simpa using hb15
  have hW := hF.1
  have hf := hF.2
  obtain ⟨hw1, hw2, hw3, hw4, hw5, hw6, hw7, hw8⟩ := id hW
  have hu0 := Nt.zxq W.f
  have hu1 := Nt.p2i_24 (n := W.f) xq
  have hu2 := Nt.zwh (a := W.f) (b := W.b - 1) xq
  have hu3 := Nt.p2i_24 (n := W.b - 1) xq
  refine zzs (zzp ?_)
  refine zzd (sq9 (zza 12 (zI 0) (zzb (zzt (sw_rounds 2 ?_)))))
  refine sq9 (zza 13 (zB true) (zzb (zzd (zyr xk (zzs (zzp ?_))))))
  refine zzd (zzt (sq9 (zza 14 (zI 0) (zza 5 (zI 0) (zzb (sq9 (zzi 15 (.v (.agg #[x.v, y.v])) ty57 zze (zza 16 (zI 0) (zzg 17 93 [.agg #[x.v, y.v], .int .i64 0] ?_)))))))))
  intro w18 u18 e18 d18
  have k21 := k_branch0 (x := x) (y := y) d18
  with_reducible refine zPm k21 ?_
  rintro _ u19 g20 rfl
  refine zza 6 (.v x.v) (zzb (zzd (sq9 (zza 18 (.v x.v) (zza 19 (zI x.n) (zza 20 (zB (decide ((4 : Int) < (x.n : Int)))) (zzb (zzu (b := decide ((4 : Int) < (x.n : Int))) xk (fun hb22 => ?_) (fun hb22 => ?_)))))))))
  ·replace hb22 : (decide ((4 : Int) < (x.n : Int))) = true := hb22
   have qhb22 := of_decide_eq_true hb22
   refine sq9 (zza 4 (zB false) (zzb (zzo (zzw (zyu (zzw (mpr_rn (zyu (zzw (ret0 [.bool false] ⟨zzq, trivial⟩ fun u23 e24 => ?_))))))))))
   show Value.bool _ = Value.bool _
   congr 1
   exact (decide_eq_false (fun k => by have h1 := k.2.1; have h2 := k.2.2.1; omega)).symm
  ·replace hb22 : (decide ((4 : Int) < (x.n : Int))) = false := hb22
   have qhb22 := of_decide_eq_false hb22
   refine zzs (zzp ?_)
   refine sq9 (zza 21 (.v x.v) (zza 22 (zI x.n) (zza 23 (zI 0) (zzb (zzt ?_)))))
   have hlxL := ((hx.ext (e11.trans (g13.ext.trans (e18.trans g20.ext))))).len
   refine zyn (I := fun m25 S' u' => ∃ (i : Nat), (m25 = L.length - i) ∧ (i ≤ L.length) ∧ (∀ j, j < i → PasOK W.f (L.getD j pl0)) ∧ (S' = St.of 33 [(2, .adr 2 0), (3, .adr 3 0), (12, zI 0), (21, .v (.slice x.a x.n x.c)), (22, zI x.n), (23, zI i)] [(2, ⟨57, [.slice x.a x.n x.c, .slice y.a y.n y.c]⟩), (3, ⟨24, [.int .i64 W.b, .int .i64 W.f, .int .i64 W.r, .int .i64 W.o]⟩)]) ∧ (Ext u19 u')) (fun m S u1 u2 e h => by obtain ⟨i, hm, p0, p1, hS, hE⟩ := h; exact ⟨i, hm, p0, p1, hS, hE.trans e⟩) _ yz ⟨0, rfl, Nat.zero_le _, fun j hj => absurd hj (Nat.not_lt_zero j), rfl, (Ext.refl _)⟩ ?_
   rintro m25 _ u25 ⟨i, hm25, hi, hz, rfl, e25⟩
   refine sq9 (zza 24 (zB (decide ((i : Int) < (x.n : Int)))) (zzb (zzd (zzu (b := decide ((i : Int) < (x.n : Int))) xk (fun hb26 => ?_) (fun hb26 => ?_)))))
   ·replace hb26 : (decide ((i : Int) < (x.n : Int))) = true := hb26
    have qhb26 := of_decide_eq_true hb26
    refine zzs (zzp ?_)
    refine zzd (zzt (sq9 ?_))
    have hl27 := ((hx.ext (e11.trans (g13.ext.trans (e18.trans (g20.ext.trans e25)))))).len
    obtain ⟨p27, b27, o27, hA27, hc27, hp27⟩ := pas_at ((hx.ext (e11.trans (g13.ext.trans (e18.trans (g20.ext.trans e25)))))) (i := i) xq
    refine zya 25 (o27 + i * 3) (n := x.n) (off := o27) (sz := 3) (i := (i : Int)) xq hA27 xq xq sl55 (zym 26 p27.cs hc27 ty60 (zzk 8 ⟨60, [.int .i64 0, .int .i64 0, .int .i64 0]⟩ (zzj ⟨60, [.int .i64 p27.o, .int .i64 p27.g, .int .i64 p27.h]⟩ ty60 ?_)))
    refine zzb (sq9 (zzi 27 (.v (.agg #[.int .i64 p27.o, .int .i64 p27.g, .int .i64 p27.h])) ty60 zze (zzi 28 (.v (W.v)) ty24 zze (zzg 29 85 [.agg #[.int .i64 p27.o, .int .i64 p27.g, .int .i64 p27.h], W.v] ?_))))
    intro w28 u28 e28 d28
    have k31 := k_permittedG (p := p27) (W := W) d28 hW hf
    with_reducible refine zPm k31 ?_
    rintro _ u29 g30 rfl
    refine zza 30 (zB (!(decide (PasOK W.f p27)))) (zzb (zzu (b := !(decide (PasOK W.f p27))) xk (fun hb32 => ?_) (fun hb32 => ?_)))
    ·replace hb32 : (!(decide (PasOK W.f p27))) = true := hb32
     have nPp27 : ¬ PasOK W.f p27 := by simpa using hb32
     refine sq9 (zza 4 (zB false) (zzb (zzo (zyu (zzw (zyt (zyu (zyu (zzw (mpr_rn (zyu (zzw (ret0 [.bool false] ⟨zzq, trivial⟩ fun u33 e34 => ?_)))))))))))))
     show Value.bool _ = Value.bool _
     congr 1
     exact (decide_eq_false (fun k => nPp27 (by rw [hp27]; exact k.2.2.2.1 _ xq))).symm
    ·replace hb32 : (!(decide (PasOK W.f p27))) = false := hb32
     have hPp27 : PasOK W.f p27 := by simpa using hb32
     refine zzs (zzp ?_)
     refine zzf (zyq 31 (x := zI (IntKind.i64.wrap ((i : Int) + 1))) (zI (i + 1 : Nat)) (eqI xw) (zza 23 (zI (i + 1 : Nat)) (zzx ?_)))
     refine ⟨_, ?_, _, by exact zzv _ _ _, i + 1, rfl, by omega, (fun j hj => by by_cases e : j = i; (rw [e, ← hp27]; exact hPp27); exact hz j xq), rfl, (e25.trans (e28.trans g30.ext))⟩
     omega
   ·replace hb26 : (decide ((i : Int) < (x.n : Int))) = false := hb26
    have qhb26 := of_decide_eq_false hb26
    refine zyc (zzp ?_)
    have hzL : ∀ j, j < L.length → PasOK W.f (L.getD j pl0) := fun j hj => hz j xq
    refine zzf (zza 32 (zI 1) (zza 12 (zI 1) (zzx ?_)))
    refine rn_next ?_
    refine sw_weak (T := St.of 33 [(2, .adr 2 0), (3, .adr 3 0), (12, zI 1)] [(2, ⟨57, [.slice x.a x.n x.c, .slice y.a y.n y.c]⟩), (3, ⟨24, [.int .i64 W.b, .int .i64 W.f, .int .i64 W.r, .int .i64 W.o]⟩)]) yz ?_
    refine sq9 (zza 13 (zB true) (zzb (zzd (zyr xk (zzs (zzp ?_))))))
    refine zzd (zzt (sq9 (zza 14 (zI 1) (zza 5 (zI 1) (zzb (sq9 (zzi 15 (.v (.agg #[x.v, y.v])) ty57 zze (zza 16 (zI 1) (zzg 17 93 [.agg #[x.v, y.v], .int .i64 1] ?_)))))))))
    intro w35 u35 e35 d35
    have k38 := k_branch1 (x := x) (y := y) d35
    with_reducible refine zPm k38 ?_
    rintro _ u36 g37 rfl
    refine zza 6 (.v y.v) (zzb (zzd (sq9 (zza 18 (.v y.v) (zza 19 (zI y.n) (zza 20 (zB (decide ((4 : Int) < (y.n : Int)))) (zzc 33 [(2, .adr 2 0), (3, .adr 3 0), (6, .v y.v), (12, zI 1), (20, zB (decide ((4 : Int) < (y.n : Int))))] [(2, ⟨57, [x.v, y.v]⟩), (3, ⟨24, W.cs⟩)] (zzu (b := decide ((4 : Int) < (y.n : Int))) xk (fun hb39 => ?_) (fun hb39 => ?_)))))))))
    ·replace hb39 : (decide ((4 : Int) < (y.n : Int))) = true := hb39
     have qhb39 := of_decide_eq_true hb39
     refine sq9 (zza 4 (zB false) (zzb (zzo (zzw (zyu (zzw (mpr_rn (zyu (zzw (ret0 [.bool false] ⟨zzq, trivial⟩ fun u40 e41 => ?_))))))))))
     show Value.bool _ = Value.bool _
     congr 1
     exact (decide_eq_false (fun k => by have h1 := k.2.1; have h2 := k.2.2.1; omega)).symm
    ·replace hb39 : (decide ((4 : Int) < (y.n : Int))) = false := hb39
     have qhb39 := of_decide_eq_false hb39
     refine zzs (zzp ?_)
     refine sq9 (zza 21 (.v y.v) (zza 22 (zI y.n) (zza 23 (zI 0) (zzb (zzt ?_)))))
     have hlxM := ((hy.ext (e11.trans (g13.ext.trans (e18.trans (g20.ext.trans (e25.trans (e35.trans g37.ext)))))))).len
     refine zyn (I := fun m42 S' u' => ∃ (i : Nat), (m42 = M.length - i) ∧ (i ≤ M.length) ∧ (∀ j, j < i → PasOK W.f (M.getD j pl0)) ∧ (S' = St.of 33 [(2, .adr 2 0), (3, .adr 3 0), (12, zI 1), (21, .v (.slice y.a y.n y.c)), (22, zI y.n), (23, zI i)] [(2, ⟨57, [.slice x.a x.n x.c, .slice y.a y.n y.c]⟩), (3, ⟨24, [.int .i64 W.b, .int .i64 W.f, .int .i64 W.r, .int .i64 W.o]⟩)]) ∧ (Ext u36 u')) (fun m S u1 u2 e h => by obtain ⟨i, hm, p0, p1, hS, hE⟩ := h; exact ⟨i, hm, p0, p1, hS, hE.trans e⟩) _ yz ⟨0, rfl, Nat.zero_le _, fun j hj => absurd hj (Nat.not_lt_zero j), rfl, (Ext.refl _)⟩ ?_
     rintro m42 _ u42 ⟨i, hm42, hi, hz, rfl, e42⟩
     refine sq9 (zza 24 (zB (decide ((i : Int) < (y.n : Int)))) (zzb (zzd (zzu (b := decide ((i : Int) < (y.n : Int))) xk (fun hb43 => ?_) (fun hb43 => ?_)))))
     ·replace hb43 : (decide ((i : Int) < (y.n : Int))) = true := hb43
      have qhb43 := of_decide_eq_true hb43
      refine zzs (zzp ?_)
      refine zzd (zzt (sq9 ?_))
      have hl44 := ((hy.ext (e11.trans (g13.ext.trans (e18.trans (g20.ext.trans (e25.trans (e35.trans (g37.ext.trans e42))))))))).len
      obtain ⟨p44, b44, o44, hA44, hc44, hp44⟩ := pas_at ((hy.ext (e11.trans (g13.ext.trans (e18.trans (g20.ext.trans (e25.trans (e35.trans (g37.ext.trans e42))))))))) (i := i) xq
      refine zya 25 (o44 + i * 3) (n := y.n) (off := o44) (sz := 3) (i := (i : Int)) xq hA44 xq xq sl55 (zym 26 p44.cs hc44 ty60 (zzk 8 ⟨60, [.int .i64 0, .int .i64 0, .int .i64 0]⟩ (zzj ⟨60, [.int .i64 p44.o, .int .i64 p44.g, .int .i64 p44.h]⟩ ty60 ?_)))
      refine zzb (sq9 (zzi 27 (.v (.agg #[.int .i64 p44.o, .int .i64 p44.g, .int .i64 p44.h])) ty60 zze (zzi 28 (.v (W.v)) ty24 zze (zzg 29 85 [.agg #[.int .i64 p44.o, .int .i64 p44.g, .int .i64 p44.h], W.v] ?_))))
      intro w45 u45 e45 d45
      have k48 := k_permittedG (p := p44) (W := W) d45 hW hf
      with_reducible refine zPm k48 ?_
      rintro _ u46 g47 rfl
      refine zza 30 (zB (!(decide (PasOK W.f p44)))) (zzb (zzu (b := !(decide (PasOK W.f p44))) xk (fun hb49 => ?_) (fun hb49 => ?_)))
      ·replace hb49 : (!(decide (PasOK W.f p44))) = true := hb49
       have nPp44 : ¬ PasOK W.f p44 := by simpa using hb49
       refine sq9 (zza 4 (zB false) (zzb (zzo (zyu (zzw (zyt (zyu (zyu (zzw (mpr_rn (zyu (zzw (ret0 [.bool false] ⟨zzq, trivial⟩ fun u50 e51 => ?_)))))))))))))
       show Value.bool _ = Value.bool _
       congr 1
       exact (decide_eq_false (fun k => nPp44 (by rw [hp44]; exact k.2.2.2.2 _ xq))).symm
      ·replace hb49 : (!(decide (PasOK W.f p44))) = false := hb49
       have hPp44 : PasOK W.f p44 := by simpa using hb49
       refine zzs (zzp ?_)
       refine zzf (zyq 31 (x := zI (IntKind.i64.wrap ((i : Int) + 1))) (zI (i + 1 : Nat)) (eqI xw) (zza 23 (zI (i + 1 : Nat)) (zzx ?_)))
       refine ⟨_, ?_, _, by exact zzv _ _ _, i + 1, rfl, by omega, (fun j hj => by by_cases e : j = i; (rw [e, ← hp44]; exact hPp44); exact hz j xq), rfl, (e42.trans (e45.trans g47.ext))⟩
       omega
     ·replace hb43 : (decide ((i : Int) < (y.n : Int))) = false := hb43
      have qhb43 := of_decide_eq_false hb43
      refine zyc (zzp ?_)
      have hzM : ∀ j, j < M.length → PasOK W.f (M.getD j pl0) := fun j hj => hz j xq
      refine zzf (zza 32 (zI 2) (zza 12 (zI 2) (zzx ?_)))
      refine rn_next ?_
      refine sw_weak (T := St.of 33 [(2, .adr 2 0), (3, .adr 3 0), (12, zI 2)] [(2, ⟨57, [.slice x.a x.n x.c, .slice y.a y.n y.c]⟩), (3, ⟨24, [.int .i64 W.b, .int .i64 W.f, .int .i64 W.r, .int .i64 W.o]⟩)]) yz ?_
      refine sq9 (zza 13 (zB false) (zzb (zzd (zys xk (zyc (zzp (sq9 (zza 4 (zB true) (zzb (zzo (ret0 [.bool true] ⟨zzq, trivial⟩ fun u52 e53 => ?_)))))))))))
      show Value.bool _ = Value.bool _
      congr 1
      exact (decide_eq_true ⟨hF, by omega, by omega, hzL, hzM⟩).symm
theorem Nt.pas_app {f : Int} {L M : List PL} : (∀ i, i < (L ++ M).length → PasOK f ((L ++ M).getD i pl0)) ↔ (∀ i, i < L.length → PasOK f (L.getD i pl0)) ∧ ∀ i, i < M.length → PasOK f (M.getD i pl0) := by
 have e1 : ∀ i, i < L.length → (L ++ M).getD i pl0 = L.getD i pl0 := fun i hi => by rw [List.getD_eq_getElem?_getD, List.getElem?_append_left hi, List.getD_eq_getElem?_getD]
 have e2 : ∀ i, (L ++ M).getD (L.length + i) pl0 = M.getD i pl0 := fun i => by rw [List.getD_eq_getElem?_getD, List.getElem?_append_right xq, Nat.add_sub_cancel_left, List.getD_eq_getElem?_getD]
 constructor
 ·intro h
  exact ⟨fun i hi => by rw [← e1 i hi]; exact h i (by rw [List.length_append]; omega), fun i hi => by rw [← e2 i]; exact h _ (by rw [List.length_append]; omega)⟩
 ·rintro ⟨h, k⟩ i hi
  rw [List.length_append] at hi
  rcases Nat.lt_or_ge i L.length with h9 | h9
  ·rw [e1 i h9]; exact h i h9
  ·have := k (i - L.length) xq
   rw [← e2, show L.length + (i - L.length) = i by omega] at this
   exact this
set_option maxHeartbeats 4000000 in
theorem k_rwvValidG {u w : World} {W : WL} {x y : Sl} {L M : List PL} (d : Dat u w) (hx : PasV u x L) (hy : PasV u y M) : Calls Tryz.prog 30 #[.agg #[x.v, y.v], W.v] w (Post u w fun v _ => v = .bool (decide (WvOK W L M))) := by
 have hlx := hx.len
 have hly := hy.len
 refine zzm (args := [.agg #[.slice x.a x.n x.c, .slice y.a y.n y.c], .agg #[.int .i64 W.b, .int .i64 W.f, .int .i64 W.r, .int .i64 W.o]]) Tryz.func30 rfl Tryz.ntmps30 (rs := [.tmp 4]) Tryz.results30 (le_b rfl) (le_b rfl) d ?_
 refine sq9 (zzk 2 ⟨57, [x.v, y.v]⟩ (zzk 3 ⟨24, W.cs⟩ (zza 4 (zB false) (zzb (zzd (sq9 (zzi 7 (.v (W.v)) ty24 zze (zzg 8 87 [W.v] ?_))))))))
 intro w11 u11 e11 d11
 have k14 := k_formedG (W := W) d11
 with_reducible refine zPm k14 ?_
 rintro _ u12 g13 rfl
 refine zza 9 (zB (!(decide (FmOK W)))) ?_
 rcases Bool.eq_false_or_eq_true (!(decide (FmOK W))) with hs15 | hs15
 ·refine zyq 10 (x := zB (!(decide (FmOK W)))) (zB true) (by rw [hs15]) ?_
  have nhF : ¬ FmOK W := by simpa using hs15
  refine zzn 11 (uw 3 false true 10) (zzn 12 (uw 3 false true 10) (zzn 13 (uw 3 false true 10) (zzn 14 (uw 3 false true 10) (zza 15 (zB true) (zza 16 (zB true) (zzn 17 (uw 9 false true 16) (zzn 18 (uw 9 false true 16) (zzn 19 (uw 9 false true 16) (zzn 20 (uw 9 false true 16) (zza 21 (zB true) (zzb ?_)))))))))))
  refine zyr xk (sq9 (zza 4 (zB false) (zzb (zzo (zzw (ret0 [.bool false] ⟨zzq, trivial⟩ fun u16 e17 => ?_))))))
  show Value.bool _ = Value.bool _
  congr 1
  exact (decide_eq_false (fun k => nhF k.1)).symm
 ·refine zyq 10 (x := zB (!(decide (FmOK W)))) (zB false) (by rw [hs15]) ?_
  have hF : FmOK W := by simpa using hs15
  have hW := hF.1
  have hf := hF.2
  obtain ⟨hw1, hw2, hw3, hw4, hw5, hw6, hw7, hw8⟩ := id hW
  have hu0 := Nt.zxq W.f
  have hu1 := Nt.p2i_24 (n := W.f) xq
  have hu2 := Nt.zwh (a := W.f) (b := W.b - 1) xq
  have hu3 := Nt.p2i_24 (n := W.b - 1) xq
  refine zza 11 (.adr 2 0) ?_ (hw := w1 3 false 10)
  refine zzi 12 (.v x.v) ty55 zzl ?_ (hw := w1 3 false 10)
  refine zza 13 (zI x.n) ?_ (hw := w1 3 false 10)
  refine zza 14 (zB (decide ((4 : Int) < (x.n : Int)))) ?_ (hw := w1 3 false 10)
  refine zza 15 (zB (decide ((4 : Int) < (x.n : Int)))) ?_
  rcases Bool.eq_false_or_eq_true (decide ((4 : Int) < (x.n : Int))) with hs18 | hs18
  ·refine zyq 16 (x := zB (decide ((4 : Int) < (x.n : Int)))) (zB true) (by rw [hs18]) ?_
   have qhs18 := of_decide_eq_true hs18
   refine zzn 17 (uw 9 false true 16) (zzn 18 (uw 9 false true 16) (zzn 19 (uw 9 false true 16) (zzn 20 (uw 9 false true 16) (zza 21 (zB true) (zzb (zyr xk (sq9 (zza 4 (zB false) (zzb (zzo (zzw (ret0 [.bool false] ⟨zzq, trivial⟩ fun u19 e20 => ?_))))))))))))
   show Value.bool _ = Value.bool _
   congr 1
   exact (decide_eq_false (fun k => by have h1 := k.2.1; have h2 := k.2.2.1; omega)).symm
  ·refine zyq 16 (x := zB (decide ((4 : Int) < (x.n : Int)))) (zB false) (by rw [hs18]) ?_
   have qhs18 := of_decide_eq_false hs18
   refine zza 17 (.adr 2 1) ?_ (hw := w1 9 false 16)
   refine zzi 18 (.v y.v) ty55 zzl ?_ (hw := w1 9 false 16)
   refine zza 19 (zI y.n) ?_ (hw := w1 9 false 16)
   refine zza 20 (zB (decide ((4 : Int) < (y.n : Int)))) ?_ (hw := w1 9 false 16)
   refine zza 21 (zB (decide ((4 : Int) < (y.n : Int)))) (zzb (zzu (b := decide ((4 : Int) < (y.n : Int))) xk (fun hb21 => ?_) (fun hb21 => ?_)))
   ·replace hb21 : (decide ((4 : Int) < (y.n : Int))) = true := hb21
    have qhb21 := of_decide_eq_true hb21
    refine sq9 (zza 4 (zB false) (zzb (zzo (zzw (ret0 [.bool false] ⟨zzq, trivial⟩ fun u22 e23 => ?_)))))
    show Value.bool _ = Value.bool _
    congr 1
    exact (decide_eq_false (fun k => by have h1 := k.2.1; have h2 := k.2.2.1; omega)).symm
   ·replace hb21 : (decide ((4 : Int) < (y.n : Int))) = false := hb21
    have qhb21 := of_decide_eq_false hb21
    refine zzs (zzp ?_)
    refine zzd (sw_join (T := fun (yA : Sl) => St.of 42 [(3, .adr 3 0), (5, .v (.slice yA.a yA.n yA.c))] [(3, ⟨24, [.int .i64 W.b, .int .i64 W.f, .int .i64 W.r, .int .i64 W.o]⟩)]) (Φ := fun (yA : Sl) u' => PasV u' yA (L ++ M)) (fun yA uj24 ej24 hj24 => ?_) (fun rest24 => ?_))
    ·change SW _ _ _ _ (St.of 42 [(3, .adr 3 0), (5, .v (.slice yA.a yA.n yA.c))] [(3, ⟨24, [.int .i64 W.b, .int .i64 W.f, .int .i64 W.r, .int .i64 W.o]⟩)]) _ _
     refine zzd (sq9 (zza 6 (zI 0) (zzb (zzt ?_))))
     have hlxA := (hj24).len
     change yA.n = _ at hlxA
     rw [List.length_append] at hlxA
     have hla9 : (L ++ M).length = L.length + M.length := List.length_append
     refine zyn (I := fun m25 S' u' => ∃ (i : Nat), (m25 = (L ++ M).length - i) ∧ (i ≤ (L ++ M).length) ∧ (∀ j, j < i → PasOK W.f ((L ++ M).getD j pl0)) ∧ (S' = St.of 42 [(3, .adr 3 0), (5, .v (.slice yA.a yA.n yA.c)), (6, zI i)] [(3, ⟨24, [.int .i64 W.b, .int .i64 W.f, .int .i64 W.r, .int .i64 W.o]⟩)]) ∧ (Ext uj24 u')) (fun m S u1 u2 e h => by obtain ⟨i, hm, p0, p1, hS, hE⟩ := h; exact ⟨i, hm, p0, p1, hS, hE.trans e⟩) _ yz ⟨0, rfl, Nat.zero_le _, fun j hj => absurd hj (Nat.not_lt_zero j), rfl, (Ext.refl _)⟩ ?_
     rintro m25 _ u25 ⟨i, hm25, hi, hz, rfl, e25⟩
     refine zzd (sq9 (zza 29 (zI i) (zza 30 (.v yA.v) (zza 31 (zI yA.n) (zza 32 (zB (decide ((i : Int) < (yA.n : Int)))) (zzb (zzu (b := decide ((i : Int) < (yA.n : Int))) xk (fun hb26 => ?_) (fun hb26 => ?_))))))))
     ·replace hb26 : (decide ((i : Int) < (yA.n : Int))) = true := hb26
      have qhb26 := of_decide_eq_true hb26
      refine zzs (zzp ?_)
      refine zzd (zzt (zzd (zzz [0, 0, 3, 7, 0, 31, 63] [(0, []), (1, []), (2, []), (3, []), (4, []), (5, []), (6, [])] xk xk (zza 35 (.v yA.v) (zza 36 (zI i) ?_)))))
      have hl27 := ((hj24.ext e25)).len
      obtain ⟨p27, b27, o27, hA27, hc27, hp27⟩ := pas_at ((hj24.ext e25)) (i := i) xq
      refine zya 37 (o27 + i * 3) (n := yA.n) (off := o27) (sz := 3) (i := (i : Int)) xq hA27 xq xq sl55 (zym 38 p27.cs hc27 ty60 (zzi 39 (.v (W.v)) ty24 zze (zzg 40 88 [.agg #[.int .i64 p27.o, .int .i64 p27.g, .int .i64 p27.h], W.v] ?_)))
      intro w28 u28 e28 d28
      have k31 := k_rpermittedG (p := p27) (W := W) d28 hW hf
      with_reducible refine zPm k31 ?_
      rintro _ u29 g30 rfl
      refine zza 41 (zB (!(decide (PasOK W.f p27)))) (zzb (zzu (b := !(decide (PasOK W.f p27))) xk (fun hb32 => ?_) (fun hb32 => ?_)))
      ·replace hb32 : (!(decide (PasOK W.f p27))) = true := hb32
       have nPp27 : ¬ PasOK W.f p27 := by simpa using hb32
       refine sq9 (zza 4 (zB false) (zzc 42 [(4, zB false)] [] (zzo (zyu (zzw (zyt (zyu (zzw (ret0 [.bool false] ⟨zzq, trivial⟩ fun u33 e34 => ?_)))))))))
       show Value.bool _ = Value.bool _
       congr 1
       exact (decide_eq_false (fun k => nPp27 (by rw [hp27]; exact Nt.pas_app.2 k.2.2.2 _ (by rw [List.length_append] at *; omega)))).symm
      ·replace hb32 : (!(decide (PasOK W.f p27))) = false := hb32
       have hPp27 : PasOK W.f p27 := by simpa using hb32
       refine zzs (zzp ?_)
       refine zzf (zza 33 (zI i) (zyq 34 (x := zI (IntKind.i64.wrap ((i : Int) + 1))) (zI (i + 1 : Nat)) (eqI xw) (zza 6 (zI (i + 1 : Nat)) (zzx ?_))))
       refine ⟨_, ?_, _, by exact zzv _ _ _, i + 1, rfl, by omega, (fun j hj => by by_cases e : j = i; (rw [e, ← hp27]; exact hPp27); exact hz j xq), rfl, (e25.trans (e28.trans g30.ext))⟩
       omega
     ·replace hb26 : (decide ((i : Int) < (yA.n : Int))) = false := hb26
      have qhb26 := of_decide_eq_false hb26
      refine zyc (zzp (zzd ?_))
      have hzL : ∀ j, j < (L ++ M).length → PasOK W.f ((L ++ M).getD j pl0) := fun j hj => hz j xq
      refine zzf (zza 4 (zB true) (zzb (zzo (ret0 [.bool true] ⟨zzq, trivial⟩ fun u35 e36 => ?_))))
      show Value.bool _ = Value.bool _
      congr 1
      have hz9 := Nt.pas_app.1 hzL
      exact (decide_eq_true ⟨hF, by omega, by omega, hz9.1, hz9.2⟩).symm
    ·skip
     refine sw_anyE [0, 0, 2, 7, 0, 16, 63, 127] [(0, []), (1, []), (2, [])] [(4, []), (5, [])] (3, []) [(6, []), (7, [])] xk xk ?_
     refine sy_lit 22 ⟨60, []⟩ 0 ?_
     refine zza 23 (.adr 2 0) (zzi 24 (.v x.v) ty55 zzl (zzx ?_))
     refine exitsK_both ?_ ?_
     ·skip
      rcases Nat.eq_zero_or_pos x.n with hz37 | hz37
      ·have hz37e : L = [] := List.eq_nil_of_length_eq_zero (by have h9 := ((hx.ext (e11.trans g13.ext))).len; omega)
       refine sy_appS0 25 (T := 55) (E := 60) (z := .agg #[.int .i64 0, .int .i64 0, .int .i64 0]) (size := 3) (bytes := 24) (t := 22) (n := 0) (cap := 0) hz37 xk xk xq ?_
       refine zza 26 (.adr 2 1) (zzi 27 (.v y.v) ty55 zzl ?_)
       rcases Nat.eq_zero_or_pos y.n with hz38 | hz38
       ·have hz38e : M = [] := List.eq_nil_of_length_eq_zero (by have h9 := ((hy.ext (e11.trans g13.ext))).len; omega)
        refine sy_appS0 28 (T := 55) (E := 60) (z := .agg #[.int .i64 0, .int .i64 0, .int .i64 0]) (size := 3) (bytes := 24) (t := 22) (n := 0) (cap := 0) hz38 xk xk xq ?_
        refine zza 5 (.slc 22 0 0 0) (zzc 42 [(3, .adr 3 0), (5, .slc 22 0 0 0)] [(3, ⟨24, W.cs⟩), (22, ⟨60, []⟩)] (zyp (r := 5) (t := 22) [5, 22] xz xk zy zy xk (fun b39 u40 e41 hb42 hh43 => ?_)))
        have hp44 : PasV u40 ⟨some ⟨b39, 0, none⟩, 0, 0⟩ (L ++ M) := pas_data hh43 (by rw [hz37e, hz38e]; rfl) rfl (Nat.le_refl _) (Nat.zero_le _)
        exact sw_weak yz (rest24 (⟨some ⟨b39, 0, none⟩, 0, 0⟩ : Sl) _ e41 hp44)
       ·obtain ⟨b38, o38, hA38, hN38⟩ := PasV.news ((hy.ext (e11.trans g13.ext))) (by have h9 := ((hy.ext (e11.trans g13.ext))).len; omega)
        refine sy_appS1 28 (T := 55) (E := 60) (z := .agg #[.int .i64 0, .int .i64 0, .int .i64 0]) (size := 3) (bytes := 24) (m := y.n) (n := 0) (cap := 0) (t := 22) (cs0 := []) [22, 25, 28] (pcs M) hA38 xk xk xk yq (by rw [pcs_len]; have h9 := ((hy.ext (e11.trans g13.ext))).len; omega) hN38 pcs_one' hz38 yv xq xq (by unfold maxLen at *; omega) (by first | exact rfl | rfl) xz ?_
        intro c38 cs38 ha38 hb38 hc38 hd38
        refine zza 5 (.slc 28 0 (0 + y.n) c38) (zzc 42 [(3, .adr 3 0), (5, .slc 28 0 (0 + y.n) c38)] [(3, ⟨24, W.cs⟩), (28, ⟨60, cs38⟩)] (zyp (r := 5) (t := 28) [5, 28] xz xk zy zy xk (fun b45 u46 e47 hb48 hh49 => ?_)))
        have hp50 : PasV u46 ⟨some ⟨b45, 0, none⟩, 0 + y.n, c38⟩ (L ++ M) := pas_data hh49 (by rw [hd38, hz37e]; rfl) hc38 ha38 hb38
        exact sw_weak yz (rest24 (⟨some ⟨b45, 0, none⟩, 0 + y.n, c38⟩ : Sl) _ e47 hp50)
      ·obtain ⟨b37, o37, hA37, hN37⟩ := PasV.news ((hx.ext (e11.trans g13.ext))) (by have h9 := ((hx.ext (e11.trans g13.ext))).len; omega)
       refine sy_appS1 25 (T := 55) (E := 60) (z := .agg #[.int .i64 0, .int .i64 0, .int .i64 0]) (size := 3) (bytes := 24) (m := x.n) (n := 0) (cap := 0) (t := 22) (cs0 := []) [22, 25] (pcs L) hA37 xk xk xk yq (by rw [pcs_len]; have h9 := ((hx.ext (e11.trans g13.ext))).len; omega) hN37 pcs_one' hz37 yv xq xq (by unfold maxLen at *; omega) (by first | exact rfl | rfl) xz ?_
       intro c37 cs37 ha37 hb37 hc37 hd37
       refine zza 26 (.adr 2 1) (zzi 27 (.v y.v) ty55 zzl ?_)
       rcases Nat.eq_zero_or_pos y.n with hz51 | hz51
       ·have hz51e : M = [] := List.eq_nil_of_length_eq_zero (by have h9 := ((hy.ext (e11.trans g13.ext))).len; omega)
        refine sy_appS0 28 (T := 55) (E := 60) (z := .agg #[.int .i64 0, .int .i64 0, .int .i64 0]) (size := 3) (bytes := 24) (t := 25) (n := (0 + x.n)) (cap := c37) hz51 xk xk xq ?_
        refine zza 5 (.slc 25 0 (0 + x.n) c37) (zzc 42 [(3, .adr 3 0), (5, .slc 25 0 (0 + x.n) c37)] [(3, ⟨24, W.cs⟩), (25, ⟨60, cs37⟩)] (zyp (r := 5) (t := 25) [5, 25] xz xk zy zy xk (fun b52 u53 e54 hb55 hh56 => ?_)))
        have hp57 : PasV u53 ⟨some ⟨b52, 0, none⟩, 0 + x.n, c37⟩ (L ++ M) := pas_data hh56 (by rw [hd37, hz51e, List.append_nil]; rfl) hc37 ha37 hb37
        exact sw_weak yz (rest24 (⟨some ⟨b52, 0, none⟩, 0 + x.n, c37⟩ : Sl) _ e54 hp57)
       ·obtain ⟨b51, o51, hA51, hN51⟩ := PasV.news ((hy.ext (e11.trans g13.ext))) (by have h9 := ((hy.ext (e11.trans g13.ext))).len; omega)
        refine sy_appS1 28 (T := 55) (E := 60) (z := .agg #[.int .i64 0, .int .i64 0, .int .i64 0]) (size := 3) (bytes := 24) (m := y.n) (n := 0 + x.n) (cap := c37) (t := 25) (cs0 := cs37) [25, 28] (pcs M) hA51 xk xk xk yq (by rw [pcs_len]; have h9 := ((hy.ext (e11.trans g13.ext))).len; omega) hN51 pcs_one' hz51 yv xq xq (by unfold maxLen at *; omega) (by first | exact hc37 | rfl) xz ?_
        intro c51 cs51 ha51 hb51 hc51 hd51
        refine zza 5 (.slc 28 0 (0 + x.n + y.n) c51) (zzc 42 [(3, .adr 3 0), (5, .slc 28 0 (0 + x.n + y.n) c51)] [(3, ⟨24, W.cs⟩), (28, ⟨60, cs51⟩)] (zyp (r := 5) (t := 28) [5, 28] xz xk zy zy xk (fun b58 u59 e60 hb61 hh62 => ?_)))
        have hp63 : PasV u59 ⟨some ⟨b58, 0, none⟩, 0 + x.n + y.n, c51⟩ (L ++ M) := pas_data hh62 (by rw [hd51, hd37, pcs_app]; rfl) hc51 ha51 hb51
        exact sw_weak yz (rest24 (⟨some ⟨b58, 0, none⟩, 0 + x.n + y.n, c51⟩ : Sl) _ e60 hp63)
     ·skip
      refine zza 26 (.adr 2 1) (zzx ?_)
      refine exitsK_both ?_ ?_
      ·skip
       rcases Nat.eq_zero_or_pos x.n with hz64 | hz64
       ·have hz64e : L = [] := List.eq_nil_of_length_eq_zero (by have h9 := ((hx.ext (e11.trans g13.ext))).len; omega)
        refine sy_appS0 25 (T := 55) (E := 60) (z := .agg #[.int .i64 0, .int .i64 0, .int .i64 0]) (size := 3) (bytes := 24) (t := 22) (n := 0) (cap := 0) hz64 xk xk xq ?_
        refine zzi 27 (.v y.v) ty55 zzl ?_
        rcases Nat.eq_zero_or_pos y.n with hz65 | hz65
        ·have hz65e : M = [] := List.eq_nil_of_length_eq_zero (by have h9 := ((hy.ext (e11.trans g13.ext))).len; omega)
         refine sy_appS0 28 (T := 55) (E := 60) (z := .agg #[.int .i64 0, .int .i64 0, .int .i64 0]) (size := 3) (bytes := 24) (t := 22) (n := 0) (cap := 0) hz65 xk xk xq ?_
         refine zza 5 (.slc 22 0 0 0) (zzc 42 [(3, .adr 3 0), (5, .slc 22 0 0 0)] [(3, ⟨24, W.cs⟩), (22, ⟨60, []⟩)] (zyp (r := 5) (t := 22) [5, 22] xz xk zy zy xk (fun b66 u67 e68 hb69 hh70 => ?_)))
         have hp71 : PasV u67 ⟨some ⟨b66, 0, none⟩, 0, 0⟩ (L ++ M) := pas_data hh70 (by rw [hz64e, hz65e]; rfl) rfl (Nat.le_refl _) (Nat.zero_le _)
         exact sw_weak yz (rest24 (⟨some ⟨b66, 0, none⟩, 0, 0⟩ : Sl) _ e68 hp71)
        ·obtain ⟨b65, o65, hA65, hN65⟩ := PasV.news ((hy.ext (e11.trans g13.ext))) (by have h9 := ((hy.ext (e11.trans g13.ext))).len; omega)
         refine sy_appS1 28 (T := 55) (E := 60) (z := .agg #[.int .i64 0, .int .i64 0, .int .i64 0]) (size := 3) (bytes := 24) (m := y.n) (n := 0) (cap := 0) (t := 22) (cs0 := []) [22, 25, 28] (pcs M) hA65 xk xk xk yq (by rw [pcs_len]; have h9 := ((hy.ext (e11.trans g13.ext))).len; omega) hN65 pcs_one' hz65 yv xq xq (by unfold maxLen at *; omega) (by first | exact rfl | rfl) xz ?_
         intro c65 cs65 ha65 hb65 hc65 hd65
         refine zza 5 (.slc 28 0 (0 + y.n) c65) (zzc 42 [(3, .adr 3 0), (5, .slc 28 0 (0 + y.n) c65)] [(3, ⟨24, W.cs⟩), (28, ⟨60, cs65⟩)] (zyp (r := 5) (t := 28) [5, 28] xz xk zy zy xk (fun b72 u73 e74 hb75 hh76 => ?_)))
         have hp77 : PasV u73 ⟨some ⟨b72, 0, none⟩, 0 + y.n, c65⟩ (L ++ M) := pas_data hh76 (by rw [hd65, hz64e]; rfl) hc65 ha65 hb65
         exact sw_weak yz (rest24 (⟨some ⟨b72, 0, none⟩, 0 + y.n, c65⟩ : Sl) _ e74 hp77)
       ·obtain ⟨b64, o64, hA64, hN64⟩ := PasV.news ((hx.ext (e11.trans g13.ext))) (by have h9 := ((hx.ext (e11.trans g13.ext))).len; omega)
        refine sy_appS1 25 (T := 55) (E := 60) (z := .agg #[.int .i64 0, .int .i64 0, .int .i64 0]) (size := 3) (bytes := 24) (m := x.n) (n := 0) (cap := 0) (t := 22) (cs0 := []) [22, 25] (pcs L) hA64 xk xk xk yq (by rw [pcs_len]; have h9 := ((hx.ext (e11.trans g13.ext))).len; omega) hN64 pcs_one' hz64 yv xq xq (by unfold maxLen at *; omega) (by first | exact rfl | rfl) xz ?_
        intro c64 cs64 ha64 hb64 hc64 hd64
        refine zzi 27 (.v y.v) ty55 zzl ?_
        rcases Nat.eq_zero_or_pos y.n with hz78 | hz78
        ·have hz78e : M = [] := List.eq_nil_of_length_eq_zero (by have h9 := ((hy.ext (e11.trans g13.ext))).len; omega)
         refine sy_appS0 28 (T := 55) (E := 60) (z := .agg #[.int .i64 0, .int .i64 0, .int .i64 0]) (size := 3) (bytes := 24) (t := 25) (n := (0 + x.n)) (cap := c64) hz78 xk xk xq ?_
         refine zza 5 (.slc 25 0 (0 + x.n) c64) (zzc 42 [(3, .adr 3 0), (5, .slc 25 0 (0 + x.n) c64)] [(3, ⟨24, W.cs⟩), (25, ⟨60, cs64⟩)] (zyp (r := 5) (t := 25) [5, 25] xz xk zy zy xk (fun b79 u80 e81 hb82 hh83 => ?_)))
         have hp84 : PasV u80 ⟨some ⟨b79, 0, none⟩, 0 + x.n, c64⟩ (L ++ M) := pas_data hh83 (by rw [hd64, hz78e, List.append_nil]; rfl) hc64 ha64 hb64
         exact sw_weak yz (rest24 (⟨some ⟨b79, 0, none⟩, 0 + x.n, c64⟩ : Sl) _ e81 hp84)
        ·obtain ⟨b78, o78, hA78, hN78⟩ := PasV.news ((hy.ext (e11.trans g13.ext))) (by have h9 := ((hy.ext (e11.trans g13.ext))).len; omega)
         refine sy_appS1 28 (T := 55) (E := 60) (z := .agg #[.int .i64 0, .int .i64 0, .int .i64 0]) (size := 3) (bytes := 24) (m := y.n) (n := 0 + x.n) (cap := c64) (t := 25) (cs0 := cs64) [25, 28] (pcs M) hA78 xk xk xk yq (by rw [pcs_len]; have h9 := ((hy.ext (e11.trans g13.ext))).len; omega) hN78 pcs_one' hz78 yv xq xq (by unfold maxLen at *; omega) (by first | exact hc64 | rfl) xz ?_
         intro c78 cs78 ha78 hb78 hc78 hd78
         refine zza 5 (.slc 28 0 (0 + x.n + y.n) c78) (zzc 42 [(3, .adr 3 0), (5, .slc 28 0 (0 + x.n + y.n) c78)] [(3, ⟨24, W.cs⟩), (28, ⟨60, cs78⟩)] (zyp (r := 5) (t := 28) [5, 28] xz xk zy zy xk (fun b85 u86 e87 hb88 hh89 => ?_)))
         have hp90 : PasV u86 ⟨some ⟨b85, 0, none⟩, 0 + x.n + y.n, c78⟩ (L ++ M) := pas_data hh89 (by rw [hd78, hd64, pcs_app]; rfl) hc78 ha78 hb78
         exact sw_weak yz (rest24 (⟨some ⟨b85, 0, none⟩, 0 + x.n + y.n, c78⟩ : Sl) _ e87 hp90)
      ·skip
       refine zzi 27 (.v y.v) ty55 zzl (zzx ?_)
       refine exitsK_last ?_
       rcases Nat.eq_zero_or_pos x.n with hz91 | hz91
       ·have hz91e : L = [] := List.eq_nil_of_length_eq_zero (by have h9 := ((hx.ext (e11.trans g13.ext))).len; omega)
        refine sy_appS0 25 (T := 55) (E := 60) (z := .agg #[.int .i64 0, .int .i64 0, .int .i64 0]) (size := 3) (bytes := 24) (t := 22) (n := 0) (cap := 0) hz91 xk xk xq ?_
        rcases Nat.eq_zero_or_pos y.n with hz92 | hz92
        ·have hz92e : M = [] := List.eq_nil_of_length_eq_zero (by have h9 := ((hy.ext (e11.trans g13.ext))).len; omega)
         refine sy_appS0 28 (T := 55) (E := 60) (z := .agg #[.int .i64 0, .int .i64 0, .int .i64 0]) (size := 3) (bytes := 24) (t := 22) (n := 0) (cap := 0) hz92 xk xk xq ?_
         refine zza 5 (.slc 22 0 0 0) (zzc 42 [(3, .adr 3 0), (5, .slc 22 0 0 0)] [(3, ⟨24, W.cs⟩), (22, ⟨60, []⟩)] (zyp (r := 5) (t := 22) [5, 22] xz xk zy zy xk (fun b93 u94 e95 hb96 hh97 => ?_)))
         have hp98 : PasV u94 ⟨some ⟨b93, 0, none⟩, 0, 0⟩ (L ++ M) := pas_data hh97 (by rw [hz91e, hz92e]; rfl) rfl (Nat.le_refl _) (Nat.zero_le _)
         exact sw_weak yz (rest24 (⟨some ⟨b93, 0, none⟩, 0, 0⟩ : Sl) _ e95 hp98)
        ·obtain ⟨b92, o92, hA92, hN92⟩ := PasV.news ((hy.ext (e11.trans g13.ext))) (by have h9 := ((hy.ext (e11.trans g13.ext))).len; omega)
         refine sy_appS1 28 (T := 55) (E := 60) (z := .agg #[.int .i64 0, .int .i64 0, .int .i64 0]) (size := 3) (bytes := 24) (m := y.n) (n := 0) (cap := 0) (t := 22) (cs0 := []) [22, 25, 28] (pcs M) hA92 xk xk xk yq (by rw [pcs_len]; have h9 := ((hy.ext (e11.trans g13.ext))).len; omega) hN92 pcs_one' hz92 yv xq xq (by unfold maxLen at *; omega) (by first | exact rfl | rfl) xz ?_
         intro c92 cs92 ha92 hb92 hc92 hd92
         refine zza 5 (.slc 28 0 (0 + y.n) c92) (zzc 42 [(3, .adr 3 0), (5, .slc 28 0 (0 + y.n) c92)] [(3, ⟨24, W.cs⟩), (28, ⟨60, cs92⟩)] (zyp (r := 5) (t := 28) [5, 28] xz xk zy zy xk (fun b99 u100 e101 hb102 hh103 => ?_)))
         have hp104 : PasV u100 ⟨some ⟨b99, 0, none⟩, 0 + y.n, c92⟩ (L ++ M) := pas_data hh103 (by rw [hd92, hz91e]; rfl) hc92 ha92 hb92
         exact sw_weak yz (rest24 (⟨some ⟨b99, 0, none⟩, 0 + y.n, c92⟩ : Sl) _ e101 hp104)
       ·obtain ⟨b91, o91, hA91, hN91⟩ := PasV.news ((hx.ext (e11.trans g13.ext))) (by have h9 := ((hx.ext (e11.trans g13.ext))).len; omega)
        refine sy_appS1 25 (T := 55) (E := 60) (z := .agg #[.int .i64 0, .int .i64 0, .int .i64 0]) (size := 3) (bytes := 24) (m := x.n) (n := 0) (cap := 0) (t := 22) (cs0 := []) [22, 25] (pcs L) hA91 xk xk xk yq (by rw [pcs_len]; have h9 := ((hx.ext (e11.trans g13.ext))).len; omega) hN91 pcs_one' hz91 yv xq xq (by unfold maxLen at *; omega) (by first | exact rfl | rfl) xz ?_
        intro c91 cs91 ha91 hb91 hc91 hd91
        rcases Nat.eq_zero_or_pos y.n with hz105 | hz105
        ·have hz105e : M = [] := List.eq_nil_of_length_eq_zero (by have h9 := ((hy.ext (e11.trans g13.ext))).len; omega)
         refine sy_appS0 28 (T := 55) (E := 60) (z := .agg #[.int .i64 0, .int .i64 0, .int .i64 0]) (size := 3) (bytes := 24) (t := 25) (n := (0 + x.n)) (cap := c91) hz105 xk xk xq ?_
         refine zza 5 (.slc 25 0 (0 + x.n) c91) (zzc 42 [(3, .adr 3 0), (5, .slc 25 0 (0 + x.n) c91)] [(3, ⟨24, W.cs⟩), (25, ⟨60, cs91⟩)] (zyp (r := 5) (t := 25) [5, 25] xz xk zy zy xk (fun b106 u107 e108 hb109 hh110 => ?_)))
         have hp111 : PasV u107 ⟨some ⟨b106, 0, none⟩, 0 + x.n, c91⟩ (L ++ M) := pas_data hh110 (by rw [hd91, hz105e, List.append_nil]; rfl) hc91 ha91 hb91
         exact sw_weak yz (rest24 (⟨some ⟨b106, 0, none⟩, 0 + x.n, c91⟩ : Sl) _ e108 hp111)
        ·obtain ⟨b105, o105, hA105, hN105⟩ := PasV.news ((hy.ext (e11.trans g13.ext))) (by have h9 := ((hy.ext (e11.trans g13.ext))).len; omega)
         refine sy_appS1 28 (T := 55) (E := 60) (z := .agg #[.int .i64 0, .int .i64 0, .int .i64 0]) (size := 3) (bytes := 24) (m := y.n) (n := 0 + x.n) (cap := c91) (t := 25) (cs0 := cs91) [25, 28] (pcs M) hA105 xk xk xk yq (by rw [pcs_len]; have h9 := ((hy.ext (e11.trans g13.ext))).len; omega) hN105 pcs_one' hz105 yv xq xq (by unfold maxLen at *; omega) (by first | exact hc91 | rfl) xz ?_
         intro c105 cs105 ha105 hb105 hc105 hd105
         refine zza 5 (.slc 28 0 (0 + x.n + y.n) c105) (zzc 42 [(3, .adr 3 0), (5, .slc 28 0 (0 + x.n + y.n) c105)] [(3, ⟨24, W.cs⟩), (28, ⟨60, cs105⟩)] (zyp (r := 5) (t := 28) [5, 28] xz xk zy zy xk (fun b112 u113 e114 hb115 hh116 => ?_)))
         have hp117 : PasV u113 ⟨some ⟨b112, 0, none⟩, 0 + x.n + y.n, c105⟩ (L ++ M) := pas_data hh116 (by rw [hd105, hd91, pcs_app]; rfl) hc105 ha105 hb105
         exact sw_weak yz (rest24 (⟨some ⟨b112, 0, none⟩, 0 + x.n + y.n, c105⟩ : Sl) _ e114 hp117)
theorem Nt.wq_rs {z f : Int} (h0 : -16777216 ≤ z) (h1 : z ≤ 16777216) (hf : f ≤ 24) : Nt.rs (Nt.wq z f) ≤ 2 := by
 have hp := Nt.zxq f
 have hp2 := Nt.p2i_24 hf
 obtain ⟨⟨a, ha, a2⟩, ⟨b, hb, b2⟩⟩ := Nt.Wh.quo (A := 24) (B := 24) (x := ((z : Int) : Rat)) (y := ((Nt.p2i f : Int) : Rat)) ⟨z, rfl, by omega⟩ ⟨Nt.p2i f, rfl, by omega⟩ (Nt.p2i_ne f)
 have ha := Rat.intCast_inj.1 ha
 have hb := Rat.intCast_inj.1 hb
 unfold Nt.rs Nt.wq
 rw [ha]
 refine Nat.max_le.2 ⟨Nat.le_trans (Nt.dl_dg (C := 24) a2) yq, Nat.le_trans (Nt.dl_dg (C := 24) xq) yq⟩
theorem k_sameInts {u w : World} {x y : Sl} {l : List Int} (d : Dat u w) (hx : SlR .i64 u x.a x.n x.c l) (hy : SlR .i64 u y.a y.n y.c l) (hb : ∀ z ∈ l, -9223372036854775808 ≤ z ∧ z ≤ 9223372036854775807) (h8 : l.length ≤ 1000000) : Calls Tryz.prog 83 #[x.v, y.v] w (Post u w fun v u' => v = .bool true) := by
 have hlx : l.length = x.n := hx.1
 have hly : l.length = y.n := hy.1
 refine zzm (args := [.slice x.a x.n x.c, .slice y.a y.n y.c]) Tryz.func83 rfl Tryz.ntmps83 (rs := [.tmp 4]) Tryz.results83 (le_b rfl) (le_b rfl) d ?_
 refine sq9 (zza 4 (zB false) (zzb (zzd (sq9 (zza 6 (.v x.v) (zza 7 (zI x.n) (zza 8 (.v y.v) (zza 9 (zI y.n) (zza 10 (zB ((x.n : Int) != (y.n : Int))) (zzb (zzu (b := (x.n : Int) != (y.n : Int)) xk (fun hb => ?_) (fun hb => ?_))))))))))))
 ·exact absurd hb (by rw [show ((x.n : Int) != (y.n : Int)) = false from (by rw [show y.n = x.n by omega]; simp)]; decide)
 ·clear hb
  refine zzs (zzp ?_)
  refine zzd (sq9 (zza 5 (zI 0) (zzb (zzt (zyn (I := fun m11 S' u' => ∃ (i : Nat), (m11 = x.n - i) ∧ (i ≤ x.n) ∧ (S' = St.of 26 [(0, .v (.slice x.a x.n x.c)), (1, .v (.slice y.a y.n y.c)), (5, zI i)] []) ∧ (Ext u u')) (fun m S u1 u2 e h => by obtain ⟨i, hm, p0, hS, hE⟩ := h; exact ⟨i, hm, p0, hS, hE.trans e⟩) _ yz ⟨0, rfl, Nat.zero_le _, rfl, (Ext.refl _)⟩ ?_)))))
  rintro m11 _ u11 ⟨i, hm11, hi, rfl, e11⟩
  refine zzd (sq9 (zza 11 (zI i) (zza 12 (.v x.v) (zza 13 (zI x.n) (zza 14 (zB (decide ((i : Int) < (x.n : Int)))) (zzb (zzu (b := decide ((i : Int) < (x.n : Int))) xk (fun hb12 => ?_) (fun hb12 => ?_))))))))
  ·replace hb12 : (decide ((i : Int) < (x.n : Int))) = true := hb12
   have qhb12 := of_decide_eq_true hb12
   refine zzs (zzp ?_)
   refine zzd (zzt (zzd (zzz [0, 0, 3, 7, 0, 0, 48, 112, 255] [(0, []), (1, []), (2, []), (3, []), (4, []), (5, []), (6, []), (7, []), (8, [])] xk xk (zza 17 (.v x.v) (zza 18 (zI i) ?_)))))
   have hl13 := ((hx.ext e11)).1
   obtain ⟨b13, o13, hA13, hc13⟩ := ints_at (hx.ext e11) (i := i) xq
   have hz13 := ints_bd hb xq i
   refine zya 19 (o13 + i * 1) (n := x.n) (off := o13) (sz := 1) (i := (i : Int)) xq hA13 xq xq sl22 (zyl 20 (.int .i64 (l.getD i 0)) hc13 ty3 (zza 21 (.v y.v) (zza 22 (zI i) ?_)))
   have hl14 := ((hy.ext e11)).1
   obtain ⟨b14, o14, hA14, hc14⟩ := ints_at (hy.ext e11) (i := i) xq
   have hz14 := ints_bd hb xq i
   refine zya 23 (o14 + i * 1) (n := y.n) (off := o14) (sz := 1) (i := (i : Int)) xq hA14 xq xq sl22 (zyl 24 (.int .i64 (l.getD i 0)) hc14 ty3 (zza 25 (zB ((l.getD i 0) != (l.getD i 0))) (zzb (zzu (b := (l.getD i 0) != (l.getD i 0)) xk (fun hb => ?_) (fun hb => ?_)))))
   ·exact absurd hb (by rw [show ((l.getD i 0) != (l.getD i 0)) = false from zj]; decide)
   ·clear hb
    refine zzs (zzp ?_)
    refine zzf (zza 15 (zI i) (zyq 16 (x := zI (IntKind.i64.wrap ((i : Int) + 1))) (zI (i + 1 : Nat)) (eqI xw) (zza 5 (zI (i + 1 : Nat)) (zzx ?_))))
    refine ⟨_, ?_, _, by exact zzv _ _ _, i + 1, rfl, by omega, rfl, e11⟩
    omega
  ·replace hb12 : (decide ((i : Int) < (x.n : Int))) = false := hb12
   have qhb12 := of_decide_eq_false hb12
   refine zyc (zzp (sq9 (zza 4 (zB true) (zzb (zzo (ret0 [.bool true] ⟨zzq, trivial⟩ fun u15 e16 => ?_))))))
   rfl
set_option maxHeartbeats 4000000 in
theorem k_sameNets {u w : World} {x1 x2 z1 z2 : Sl} {h1 h2 : Nat} {N : List (List TL)} {s : List Int} {D W : WL} {n q : Int} (d : Dat u w) (ha : NodesB 0 h1 u x1 N) (hb : NodesB 0 h2 u x2 N) (hz1 : MutL 1 3 0 u z1 (ics s)) (hz2 : MutL 1 3 0 u z2 (ics s)) (hs : ∀ z ∈ s, -9223372036854775808 ≤ z ∧ z ≤ 9223372036854775807) (hs8 : s.length ≤ 1000) (hN : N.length ≤ 1000) (hT : ∀ i, i < N.length → (N.getD i []).length ≤ 1000) : Calls Tryz.prog 20 #[.agg #[.int .i64 D.b, .int .i64 D.f, .int .i64 D.r, .int .i64 D.o, .int .i64 W.b, .int .i64 W.f, .int .i64 W.r, .int .i64 W.o, .int .i64 n, x1.v, z1.v, .int .i64 q], .agg #[.int .i64 D.b, .int .i64 D.f, .int .i64 D.r, .int .i64 D.o, .int .i64 W.b, .int .i64 W.f, .int .i64 W.r, .int .i64 W.o, .int .i64 n, x2.v, z2.v, .int .i64 q]] w (Post u w fun v u' => v = .bool true) := by
 have hl1 := ha.len
 have hl2 := hb.len
 obtain ⟨La, gA1, gB1, gC1⟩ := id ha
 obtain ⟨Lb, gA2, gB2, gC2⟩ := id hb
 have hT1 : ∀ i, i < N.length → (La.getD i sl0).n = (N.getD i []).length ∧ (N.getD i []).length ≤ 1000 := fun i hi => ⟨tms_len (gC1 i hi).1, hT i hi⟩
 have hT2 : ∀ i, i < N.length → (Lb.getD i sl0).n = (N.getD i []).length := fun i hi => tms_len (gC2 i hi).1
 refine zzm (args := [.agg #[.int .i64 D.b, .int .i64 D.f, .int .i64 D.r, .int .i64 D.o, .int .i64 W.b, .int .i64 W.f, .int .i64 W.r, .int .i64 W.o, .int .i64 n, .slice x1.a x1.n x1.c, .slice z1.a z1.n z1.c, .int .i64 q], .agg #[.int .i64 D.b, .int .i64 D.f, .int .i64 D.r, .int .i64 D.o, .int .i64 W.b, .int .i64 W.f, .int .i64 W.r, .int .i64 W.o, .int .i64 n, .slice x2.a x2.n x2.c, .slice z2.a z2.n z2.c, .int .i64 q]]) Tryz.func20 rfl Tryz.ntmps20 (rs := [.tmp 4]) Tryz.results20 (le_b rfl) (le_b rfl) d ?_
 refine sq9 (zzk 2 ⟨49, [.int .i64 D.b, .int .i64 D.f, .int .i64 D.r, .int .i64 D.o, .int .i64 W.b, .int .i64 W.f, .int .i64 W.r, .int .i64 W.o, .int .i64 n, x1.v, z1.v, .int .i64 q]⟩ (zzk 3 ⟨49, [.int .i64 D.b, .int .i64 D.f, .int .i64 D.r, .int .i64 D.o, .int .i64 W.b, .int .i64 W.f, .int .i64 W.r, .int .i64 W.o, .int .i64 n, x2.v, z2.v, .int .i64 q]⟩ (zza 4 (zB false) (zzb (zzd (sq9 (zza 7 (.adr 2 0) (zzi 8 (.v (D.v)) ty24 zze (zza 9 (.adr 3 0) (zzi 10 (.v (D.v)) ty24 zze (zza 11 (zB false) ?_ (hrun := fun B w => exec_neqS (T := 24) (x := .tmp 8) (y := .tmp 10) (t2 := 24) [D.b, D.f, D.r, D.o] w zy xk xk xk xk xk xk))))))))))))
 refine zza 12 (zB false) (zza 13 (.adr 2 4) ?_ (hw := w1 5 false 12))
 refine zzi 14 (.v (W.v)) ty24 zze ?_ (hw := w1 5 false 12)
 refine zza 15 (.adr 3 4) ?_ (hw := w1 5 false 12)
 refine zzi 16 (.v (W.v)) ty24 zze ?_ (hw := w1 5 false 12)
 refine zza 17 (zB false) ?_ (hw := w1 5 false 12) (hrun := fun B w => exec_neqS (T := 24) (x := .tmp 14) (y := .tmp 16) (t2 := 24) [W.b, W.f, W.r, W.o] w zy xk xk xk xk xk xk)
 refine zza 18 (zB false) (zza 19 (zB false) (zza 20 (.adr 2 8) ?_ (hw := w1 12 false 19)))
 refine zzi 21 (zI n) ty3 zzl ?_ (hw := w1 12 false 19)
 refine zza 22 (.adr 3 8) ?_ (hw := w1 12 false 19)
 refine zzi 23 (zI n) ty3 zzl ?_ (hw := w1 12 false 19)
 refine zza 24 (zB (n != n)) ?_ (hw := w1 12 false 19)
 refine zza 25 (zB (n != n)) (zyq 26 (x := zB (n != n)) (zB false) (by rw [show (n != n) = false from zj]) (zza 27 (.adr 2 11) ?_ (hw := w1 19 false 26)))
 refine zzi 28 (zI q) ty3 zzl ?_ (hw := w1 19 false 26)
 refine zza 29 (.adr 3 11) ?_ (hw := w1 19 false 26)
 refine zzi 30 (zI q) ty3 zzl ?_ (hw := w1 19 false 26)
 refine zza 31 (zB (q != q)) ?_ (hw := w1 19 false 26)
 refine zza 32 (zB (q != q)) (zyq 33 (x := zB (q != q)) (zB false) (by rw [show (q != q) = false from zj]) (zza 34 (.adr 2 10) ?_ (hw := w1 26 false 33)))
 refine zzi 35 (.v z1.v) ty22 zzl ?_ (hw := w1 26 false 33)
 refine zza 36 (.adr 3 10) ?_ (hw := w1 26 false 33)
 refine zzi 37 (.v z2.v) ty22 zzl ?_ (hw := w1 26 false 33)
 refine zzg 38 83 [z1.v, z2.v] ?_ (hw := w1 26 false 33)
 intro w13 u13 e13 d13
 have k16 := k_sameInts (x := z1) (y := z2) d13 (hz1.ext e13).slr (hz2.ext e13).slr hs xq
 with_reducible refine zPm k16 ?_
 rintro _ u14 g15 rfl
 refine zza 39 (zB false) ?_ (hw := w1 26 false 33)
 refine zza 40 (zB false) (zza 41 (zB false) (zza 42 (.adr 2 9) ?_ (hw := w1 34 false 41)))
 refine zzi 43 (.v x1.v) ty47 zzl ?_ (hw := w1 34 false 41)
 refine zza 44 (zI x1.n) ?_ (hw := w1 34 false 41)
 refine zza 45 (.adr 3 9) ?_ (hw := w1 34 false 41)
 refine zzi 46 (.v x2.v) ty47 zzl ?_ (hw := w1 34 false 41)
 refine zza 47 (zI x2.n) ?_ (hw := w1 34 false 41)
 refine zza 48 (zB ((x1.n : Int) != (x2.n : Int))) ?_ (hw := w1 34 false 41)
 refine zza 49 (zB ((x1.n : Int) != (x2.n : Int))) (zzc 102 [(2, .adr 2 0), (3, .adr 3 0), (49, zB ((x1.n : Int) != (x2.n : Int)))] [(2, ⟨49, [.int .i64 D.b, .int .i64 D.f, .int .i64 D.r, .int .i64 D.o, .int .i64 W.b, .int .i64 W.f, .int .i64 W.r, .int .i64 W.o, .int .i64 n, x1.v, z1.v, .int .i64 q]⟩), (3, ⟨49, [.int .i64 D.b, .int .i64 D.f, .int .i64 D.r, .int .i64 D.o, .int .i64 W.b, .int .i64 W.f, .int .i64 W.r, .int .i64 W.o, .int .i64 n, x2.v, z2.v, .int .i64 q]⟩)] (zzu (b := (x1.n : Int) != (x2.n : Int)) xk (fun hb => ?_) (fun hb => ?_)))
 ·exact absurd hb (by rw [show ((x1.n : Int) != (x2.n : Int)) = false from (by rw [show x2.n = x1.n by omega]; simp)]; decide)
 ·clear hb
  refine zzs (zzp ?_)
  refine zzd (sq9 (zza 5 (zI 0) (zzb (zzt (zyn (I := fun m17 S' u' => ∃ (i : Nat), (m17 = N.length - i) ∧ (i ≤ N.length) ∧ (S' = St.of 102 [(2, .adr 2 0), (3, .adr 3 0), (5, zI i)] [(2, ⟨49, [.int .i64 D.b, .int .i64 D.f, .int .i64 D.r, .int .i64 D.o, .int .i64 W.b, .int .i64 W.f, .int .i64 W.r, .int .i64 W.o, .int .i64 n, .slice x1.a x1.n x1.c, .slice z1.a z1.n z1.c, .int .i64 q]⟩), (3, ⟨49, [.int .i64 D.b, .int .i64 D.f, .int .i64 D.r, .int .i64 D.o, .int .i64 W.b, .int .i64 W.f, .int .i64 W.r, .int .i64 W.o, .int .i64 n, .slice x2.a x2.n x2.c, .slice z2.a z2.n z2.c, .int .i64 q]⟩)]) ∧ (Ext u14 u')) (fun m S u1 u2 e h => by obtain ⟨i, hm, p0, hS, hE⟩ := h; exact ⟨i, hm, p0, hS, hE.trans e⟩) _ yz ⟨0, rfl, Nat.zero_le _, rfl, (Ext.refl _)⟩ ?_)))))
  rintro m17 _ u17 ⟨i, hm17, hi, rfl, e17⟩
  refine zzd (sq9 (zza 50 (zI i) (zza 51 (.adr 2 9) (zzi 52 (.v x1.v) ty47 zzl (zza 53 (zI x1.n) (zza 54 (zB (decide ((i : Int) < (x1.n : Int)))) (zzb (zzu (b := decide ((i : Int) < (x1.n : Int))) xk (fun hb18 => ?_) (fun hb18 => ?_)))))))))
  ·replace hb18 : (decide ((i : Int) < (x1.n : Int))) = true := hb18
   have qhb18 := of_decide_eq_true hb18
   refine zzs (zzp ?_)
   refine zzd (zzt (zzd (zzd ?_)))
   have hTi := hT1 i xq
   have hTj := hT2 i xq
   refine zzz [0, 1, 0, 7, 15, 31, 63, 0, 128, 0, 896, 1920, 3968, 8064, 16383] [(0, []), (1, []), (2, []), (3, []), (4, []), (5, []), (6, []), (7, []), (8, []), (9, []), (10, []), (11, []), (12, []), (13, []), (14, [])] xk xk (zza 57 (.adr 2 9) (zzi 58 (.v x1.v) ty47 zzl (zza 59 (zI i) ?_)))
   obtain ⟨b19, hA19, hc19⟩ := nodes_at (i := i) gA1 xq
   refine zya 60 (0 + i * 1) (n := x1.n) (off := 0) (sz := 1) (i := (i : Int)) xq hA19 xq xq sl47 (zza 61 (.v (.pointer (some ⟨b19, 0 + i * 1 + 0, none⟩))) (zyl 62 (.slice (La.getD i sl0).a (La.getD i sl0).n (La.getD i sl0).c) ((e13.trans (g15.ext.trans e17)).cell hc19) ty74 (zza 63 (zI (((La.getD i sl0).n : Nat) : Int)) (zza 64 (.adr 3 9) (zzi 65 (.v x2.v) ty47 zzl (zza 66 (zI i) ?_))))))
   obtain ⟨b20, hA20, hc20⟩ := nodes_at (i := i) gA2 xq
   refine zya 67 (0 + i * 1) (n := x2.n) (off := 0) (sz := 1) (i := (i : Int)) xq hA20 xq xq sl47 (zza 68 (.v (.pointer (some ⟨b20, 0 + i * 1 + 0, none⟩))) (zyl 69 (.slice (Lb.getD i sl0).a (Lb.getD i sl0).n (Lb.getD i sl0).c) ((e13.trans (g15.ext.trans e17)).cell hc20) ty74 (zza 70 (zI (((Lb.getD i sl0).n : Nat) : Int)) (zza 71 (zB ((((La.getD i sl0).n : Nat) : Int) != (((Lb.getD i sl0).n : Nat) : Int))) (zzb (zzu (b := (((La.getD i sl0).n : Nat) : Int) != (((Lb.getD i sl0).n : Nat) : Int)) xk (fun hb => ?_) (fun hb => ?_)))))))
   ·exact absurd hb (by rw [show ((((La.getD i sl0).n : Nat) : Int) != (((Lb.getD i sl0).n : Nat) : Int)) = false from (by rw [(hT1 i xq).1, hT2 i xq]; exact bne_self_eq_false _)]; decide)
   ·clear hb
    refine zzs (zzp ?_)
    refine sq9 (zza 6 (zI 0) (zzb (zzt (zyn (I := fun m21 S' u' => ∃ (j : Nat), (m21 = (N.getD i []).length - j) ∧ (j ≤ (N.getD i []).length) ∧ (S' = St.of 102 [(2, .adr 2 0), (3, .adr 3 0), (5, zI i), (6, zI j)] [(2, ⟨49, [.int .i64 D.b, .int .i64 D.f, .int .i64 D.r, .int .i64 D.o, .int .i64 W.b, .int .i64 W.f, .int .i64 W.r, .int .i64 W.o, .int .i64 n, .slice x1.a x1.n x1.c, .slice z1.a z1.n z1.c, .int .i64 q]⟩), (3, ⟨49, [.int .i64 D.b, .int .i64 D.f, .int .i64 D.r, .int .i64 D.o, .int .i64 W.b, .int .i64 W.f, .int .i64 W.r, .int .i64 W.o, .int .i64 n, .slice x2.a x2.n x2.c, .slice z2.a z2.n z2.c, .int .i64 q]⟩)]) ∧ (Ext u17 u')) (fun m S u1 u2 e h => by obtain ⟨j, hm, p0, hS, hE⟩ := h; exact ⟨j, hm, p0, hS, hE.trans e⟩) _ yz ⟨0, rfl, Nat.zero_le _, rfl, (Ext.refl _)⟩ ?_))))
    rintro m21 _ u21 ⟨j, hm21, hj, rfl, e21⟩
    refine zzd (sq9 (zza 72 (zI j) (zza 73 (.adr 2 9) (zzi 74 (.v x1.v) ty47 zzl (zza 75 (zI i) ?_)))))
    obtain ⟨b22, hA22, hc22⟩ := nodes_at (i := i) gA1 xq
    refine zya 76 (0 + i * 1) (n := x1.n) (off := 0) (sz := 1) (i := (i : Int)) xq hA22 xq xq sl47 (zza 77 (.v (.pointer (some ⟨b22, 0 + i * 1 + 0, none⟩))) (zyl 78 (.slice (La.getD i sl0).a (La.getD i sl0).n (La.getD i sl0).c) ((e13.trans (g15.ext.trans (e17.trans e21))).cell hc22) ty74 (zza 79 (zI (((La.getD i sl0).n : Nat) : Int)) (zza 80 (zB (decide ((j : Int) < (((La.getD i sl0).n : Nat) : Int)))) (zzc 102 [(2, .adr 2 0), (3, .adr 3 0), (5, zI i), (6, zI j), (80, zB (decide ((j : Int) < (((La.getD i sl0).n : Nat) : Int))))] [(2, ⟨49, [.int .i64 D.b, .int .i64 D.f, .int .i64 D.r, .int .i64 D.o, .int .i64 W.b, .int .i64 W.f, .int .i64 W.r, .int .i64 W.o, .int .i64 n, x1.v, z1.v, .int .i64 q]⟩), (3, ⟨49, [.int .i64 D.b, .int .i64 D.f, .int .i64 D.r, .int .i64 D.o, .int .i64 W.b, .int .i64 W.f, .int .i64 W.r, .int .i64 W.o, .int .i64 n, x2.v, z2.v, .int .i64 q]⟩)] (zzu (b := decide ((j : Int) < (((La.getD i sl0).n : Nat) : Int))) xk (fun hb23 => ?_) (fun hb23 => ?_)))))))
    ·replace hb23 : (decide ((j : Int) < (((La.getD i sl0).n : Nat) : Int))) = true := hb23
     have qhb23 := of_decide_eq_true hb23
     refine zzs (zzp ?_)
     refine zzd (zzt (zzd (zzz [0, 1, 0, 7, 15, 31, 0, 127, 255, 0, 512, 0, 3584, 7680, 15872, 0, 65024, 130560, 262143] [(0, []), (1, []), (2, []), (3, []), (4, []), (5, []), (6, []), (7, []), (8, []), (9, []), (10, []), (11, []), (12, []), (13, []), (14, []), (15, []), (16, []), (17, []), (18, [])] xk xk (zza 83 (.adr 2 9) (zzi 84 (.v x1.v) ty47 zzl (zza 85 (zI i) ?_))))))
     obtain ⟨b24, hA24, hc24⟩ := nodes_at (i := i) gA1 xq
     refine zya 86 (0 + i * 1) (n := x1.n) (off := 0) (sz := 1) (i := (i : Int)) xq hA24 xq xq sl47 (zza 87 (.v (.pointer (some ⟨b24, 0 + i * 1 + 0, none⟩))) (zyl 88 (.slice (La.getD i sl0).a (La.getD i sl0).n (La.getD i sl0).c) ((e13.trans (g15.ext.trans (e17.trans e21))).cell hc24) ty74 (zza 89 (zI j) ?_)))
     obtain ⟨b25, hA25, hc25⟩ := terms_at (i := j) (T := (N.getD i [])) (gC1 i xq).1 xq
     refine zya 90 (0 + j * 2) (n := (La.getD i sl0).n) (off := 0) (sz := 2) (i := (j : Int)) xq hA25 xq xq sl74 (zym 91 ((N.getD i []).getD j tl0).cs (fun j hj => by have h9 := hc25 j hj; rw [List.getElem?_eq_getElem hj] at h9 ⊢; exact (e13.trans (g15.ext.trans (e17.trans e21))).cell h9) ty78 ?_)
     refine zza 92 (.adr 3 9) (zzi 93 (.v x2.v) ty47 zzl (zza 94 (zI i) ?_))
     obtain ⟨b26, hA26, hc26⟩ := nodes_at (i := i) gA2 xq
     refine zya 95 (0 + i * 1) (n := x2.n) (off := 0) (sz := 1) (i := (i : Int)) xq hA26 xq xq sl47 (zza 96 (.v (.pointer (some ⟨b26, 0 + i * 1 + 0, none⟩))) (zyl 97 (.slice (Lb.getD i sl0).a (Lb.getD i sl0).n (Lb.getD i sl0).c) ((e13.trans (g15.ext.trans (e17.trans e21))).cell hc26) ty74 (zza 98 (zI j) ?_)))
     obtain ⟨b27, hA27, hc27⟩ := terms_at (i := j) (T := (N.getD i [])) (gC2 i xq).1 xq
     refine zya 99 (0 + j * 2) (n := (Lb.getD i sl0).n) (off := 0) (sz := 2) (i := (j : Int)) xq hA27 xq xq sl74 (zym 100 ((N.getD i []).getD j tl0).cs (fun j hj => by have h9 := hc27 j hj; rw [List.getElem?_eq_getElem hj] at h9 ⊢; exact (e13.trans (g15.ext.trans (e17.trans e21))).cell h9) ty78 ?_)
     refine zza 101 (zB false) ?_ (hrun := fun B w => exec_neqS (T := 78) (x := .tmp 91) (y := .tmp 100) (t2 := 78) [((N.getD i []).getD j tl0).f, ((N.getD i []).getD j tl0).c] w zy xk xk xk xk xk xk)
     refine zzb (zys xk (zzs (zzp ?_)))
     refine zzf (zza 81 (zI j) (zyq 82 (x := zI (IntKind.i64.wrap ((j : Int) + 1))) (zI (j + 1 : Nat)) (eqI xw) (zza 6 (zI (j + 1 : Nat)) (zzx ?_))))
     refine ⟨_, ?_, _, by exact zzv _ _ _, j + 1, rfl, by omega, rfl, e21⟩
     omega
    ·replace hb23 : (decide ((j : Int) < (((La.getD i sl0).n : Nat) : Int))) = false := hb23
     have qhb23 := of_decide_eq_false hb23
     refine zyc (zzp (zzf (zza 55 (zI i) (zyq 56 (x := zI (IntKind.i64.wrap ((i : Int) + 1))) (zI (i + 1 : Nat)) (eqI xw) (zza 5 (zI (i + 1 : Nat)) (zzx ?_))))))
     refine ⟨_, ?_, _, by exact zzv _ _ _, i + 1, rfl, by omega, rfl, (e17.trans e21)⟩
     omega
  ·replace hb18 : (decide ((i : Int) < (x1.n : Int))) = false := hb18
   have qhb18 := of_decide_eq_false hb18
   refine zyc (zzp (sq9 (zza 4 (zB true) (zzb (zzo (ret0 [.bool true] ⟨zzq, trivial⟩ fun u28 e29 => ?_))))))
   rfl
set_option maxHeartbeats 1000000 in
theorem k_sameFilt {u w : World} {x1 y1 x2 y2 : Sl} {l m : List Rat} {K : Nat} (d : Dat u w) (hx1 : PolN u x1 l K) (hy1 : PolN u y1 m K) (hx2 : PolN u x2 l K) (hy2 : PolN u y2 m K) (hK : K ≤ 1000000) (h8 : l.length ≤ 1000) (h9 : m.length ≤ 1000) : Calls Tryz.prog 21 #[.agg #[x1.v, y1.v], .agg #[x2.v, y2.v]] w (Post u w fun v u' => v = .bool true) := by
 have hl1 := hx1.len
 have hl2 := hx2.len
 have hl3 := hy1.len
 have hl4 := hy2.len
 refine zzm (args := [.agg #[.slice x1.a x1.n x1.c, .slice y1.a y1.n y1.c], .agg #[.slice x2.a x2.n x2.c, .slice y2.a y2.n y2.c]]) Tryz.func21 rfl Tryz.ntmps21 (rs := [.tmp 4]) Tryz.results21 (le_b rfl) (le_b rfl) d ?_
 refine sq9 (zzk 2 ⟨31, [x1.v, y1.v]⟩ (zzk 3 ⟨31, [x2.v, y2.v]⟩ (zza 4 (zB false) (zzb (sq9 (zza 5 (.adr 2 0) (zzi 6 (.v x1.v) ty29 zzl (zza 7 (.adr 3 0) (zzi 8 (.v x2.v) ty29 zzl (zzg 9 74 [x1.v, x2.v] ?_))))))))))
 intro w11 u11 e11 d11
 have k14 := k_r5Same d11 (hx1.ext e11).raw (hx2.ext e11).raw xq xq xj xj
 with_reducible refine zPm k14 ?_
 rintro _ u12 g13 rfl
 refine zyq 10 (x := zB (decide (Nt.trimQ l = Nt.trimQ l))) (zB true) (by rw [show (decide (Nt.trimQ l = Nt.trimQ l)) = true from decide_eq_true rfl]) (zza 11 (.adr 2 1) ?_ (hw := w1 5 true 10))
 refine zzi 12 (.v y1.v) ty29 zzl ?_ (hw := w1 5 true 10)
 refine zza 13 (.adr 3 1) ?_ (hw := w1 5 true 10)
 refine zzi 14 (.v y2.v) ty29 zzl ?_ (hw := w1 5 true 10)
 refine zzg 15 74 [y1.v, y2.v] ?_ (hw := w1 5 true 10)
 intro w16 u16 e16 d16
 have k19 := k_r5Same d16 (hy1.ext (e11.trans (g13.ext.trans e16))).raw (hy2.ext (e11.trans (g13.ext.trans e16))).raw xq xq xj xj
 with_reducible refine zPm k19 ?_
 rintro _ u17 g18 rfl
 refine zza 16 (zB (decide (Nt.trimQ m = Nt.trimQ m))) (zza 4 (zB (decide (Nt.trimQ m = Nt.trimQ m))) (zzb (zzo (ret0 [.bool (decide (Nt.trimQ m = Nt.trimQ m))] ⟨zzq, trivial⟩ fun u20 e21 => ?_))))
 show Value.bool _ = Value.bool _
 rw [show (decide (Nt.trimQ m = Nt.trimQ m)) = true from decide_eq_true rfl]
set_option maxHeartbeats 2000000 in
theorem k_rAllPass1 {u w : World} {W : WL} {g : Int} (hg0 : -Nt.p2i W.f < g) (hg1 : g < Nt.p2i W.f) (d : Dat u w) (hW : WdOK W) (hf : 1 ≤ W.f) : Calls Tryz.prog 24 #[(⟨1, g, 0⟩ : PL).v, W.v] w (Post u w fun v u' => ∃ y z : Sl, v = .tuple #[.agg #[y.v, z.v], .int .i64 0] ∧ PolN u' y (Nt.trimQ (Nt.secB W.f (⟨1, g, 0⟩ : PL))) 20 ∧ PolN u' z (Nt.trimQ (Nt.secA W.f (⟨1, g, 0⟩ : PL))) 20) := by
 obtain ⟨hw1, hw2, hw3, hw4, hw5, hw6, hw7, hw8⟩ := id hW
 have hu0 := Nt.zxq W.f
 have hu1 := Nt.p2i_24 (n := W.f) xq
 have hu2 := Nt.zwh (a := W.f) (b := W.b - 1) xq
 have hu3 := Nt.p2i_24 (n := W.b - 1) xq
 refine zzm (args := [.agg #[.int .i64 1, .int .i64 g, .int .i64 0], .agg #[.int .i64 W.b, .int .i64 W.f, .int .i64 W.r, .int .i64 W.o]]) Tryz.func24 rfl Tryz.ntmps24 (rs := [.cell 4 31, .tmp 5]) Tryz.results24 (le_b rfl) (le_b rfl) d ?_
 refine sq9 (zzk 2 ⟨60, [.int .i64 1, .int .i64 g, .int .i64 0]⟩ (zzk 3 ⟨24, W.cs⟩ (zzk 4 ⟨31, [.slice none 0 0, .slice none 0 0]⟩ (zza 5 (zI 0) (zzb (zzd (sq9 (zzi 10 (.v (W.v)) ty24 zze (zzg 11 87 [W.v] ?_)))))))))
 intro w11 u11 e11 d11
 have k14 := (Post.mono (k_formedG (W := W) d11) (fun v u9 _ h => by rw [decide_eq_true (show FmOK W from ⟨hW, hf⟩)] at h; exact (show v = .bool true from h)))
 with_reducible refine zPm k14 ?_
 rintro _ u12 g13 rfl
 refine zza 12 (zB false) (zzb (zys xk (zzs (zzp ?_))))
 refine zzd (sq9 (zzi 14 (.v (.agg #[.int .i64 1, .int .i64 g, .int .i64 0])) ty60 zze (zzi 15 (.v (W.v)) ty24 zze (zzg 16 88 [.agg #[.int .i64 1, .int .i64 g, .int .i64 0], W.v] ?_))))
 intro w15 u15 e15 d15
 have k18 := (Post.mono (k_rpermittedG (p := (⟨1, g, 0⟩ : PL)) (W := W) d15 hW hf) (fun v u9 _ h8 => by rw [decide_eq_true (show PasOK W.f (⟨1, g, 0⟩ : PL) by unfold PasOK; simp; omega)] at h8; exact (show v = .bool true from h8)))
 with_reducible refine zPm k18 ?_
 rintro _ u16 g17 rfl
 refine zza 17 (zB false) (zzb (zys xk (zzs (zzp ?_))))
 refine sq9 (zzg 19 13 [.int .i64 1] ?_)
 intro w19 u19 e19 d19
 have k24 := k_rqOf d19 (z := 1) xq xq
 with_reducible refine zPm k24 ?_
 rintro _ u22 g23 ⟨r20, rfl, h21⟩
 refine zzk 6 ⟨41, [.bool false, .slice none 0 0, .slice none 0 0]⟩ (zzj ⟨41, r20.cs⟩ ty41 ?_)
 refine zzb (zzd (zzz [0, 0, 2, 6, 15, 0, 0, 64, 192, 511, 0, 0, 4095, 8191] [(0, []), (1, []), (2, []), (3, []), (5, []), (6, []), (7, []), (8, []), (10, []), (11, []), (4, []), (9, []), (12, []), (13, [])] xk xk (zzi 20 (.v (W.v)) ty24 zze (zza 21 (.adr 2 1) (zza 22 (.adr 2 1) (zzi 23 (zI g) ty3 zzl (zzi 25 (.v (W.v)) ty24 zze (zza 26 (.adr 2 1) (zza 27 (.adr 2 2) (zzi 28 (zI 0) ty3 zzl (zzk 7 ⟨41, [.bool false, .slice none 0 0, .slice none 0 0]⟩ ?_)))))))))))
 refine zzk 8 ⟨41, [.bool false, .slice none 0 0, .slice none 0 0]⟩ (zzg 24 15 [W.v, .int .i64 g] ?_)
 intro w25 u25 e25 d25
 have k30 := (Post.mono (k_r21Value (W := W) (z := g) d25 hW xq xq) (fun v u9 _ h => by obtain ⟨r9, e9, g9⟩ := h; exact (show ∃ r : RL, v = r.v ∧ RatN u9 r (((g : Int) : Rat) / ((Nt.p2i W.f : Int) : Rat)) 2 from ⟨r9, e9, RatN.fit g9 (Nt.wq_rs xq xq xq)⟩)))
 with_reducible refine zPm k30 ?_
 rintro _ u28 g29 ⟨r26, rfl, h27⟩
 refine zzg 29 15 [W.v, .int .i64 0] ?_
 intro w31 u31 e31 d31
 have k36 := (Post.mono (k_r21Value (W := W) (z := 0) d31 hW xq xq) (fun v u9 _ h => by obtain ⟨r9, e9, g9⟩ := h; exact (show ∃ r : RL, v = r.v ∧ RatN u9 r (((0 : Int) : Rat) / ((Nt.p2i W.f : Int) : Rat)) 2 from ⟨r9, e9, RatN.fit g9 (Nt.wq_rs xq xq xq)⟩)))
 with_reducible refine zPm k36 ?_
 rintro _ u34 g35 ⟨r32, rfl, h33⟩
 refine zzj ⟨41, r26.cs⟩ ty41 ?_
 refine zzj ⟨41, r32.cs⟩ ty41 ?_
 refine zzb (zzd (sq9 (zza 30 (.adr 2 0) (zzi 31 (zI 1) ty3 zzl (zza 32 (zB true) (zzc 62 [(4, .adr 4 0), (6, .adr 6 0), (7, .adr 7 0), (8, .adr 8 0), (32, zB true)] [(4, ⟨31, [.slice none 0 0, .slice none 0 0]⟩), (6, ⟨41, r20.cs⟩), (7, ⟨41, r26.cs⟩), (8, ⟨41, r32.cs⟩)] (zyr xk (zzd (zzz [0, 1, 0, 7, 15, 0, 0, 95, 255, 511, 1023, 2047, 4095] [(0, []), (2, []), (5, []), (6, []), (1, []), (3, []), (4, [36]), (7, []), (8, []), (9, [41]), (10, []), (11, []), (12, [])] xk xk (zzi 33 (.v (r26.v)) ty41 zze (zzi 35 (.v (r20.v)) ty41 zze ?_)))))))))))
 refine zzi 38 (.v (r20.v)) ty41 zze (zzi 39 (.v (r26.v)) ty41 zze (zzg 34 89 [r26.v] ?_))
 intro w37 u37 e37 d37
 have k42 := k_rqNeg d37 (h27.ext (e31.trans (g35.ext.trans e37))).raw xq
 with_reducible refine zPm k42 ?_
 rintro _ u40 g41 ⟨r38, rfl, h39⟩
 refine sy_lit 36 ⟨41, r38.cs ++ r20.cs⟩ 2 ?_
 refine zyo 37 82 [.slc 36 0 2 2] [36] (.inr rfl) (pub_mk xz) (k := ?_)
 intro B43 w43 u43 e43 d43 v43
 have h45 : u43.heap[B43 36]? = some (.cells #[.bool r38.s, .slice r38.m.a r38.m.n r38.m.c, .slice r38.d.a r38.d.n r38.d.c, .bool r20.s, .slice r20.m.a r20.m.n r20.m.c, .slice r20.d.a r20.d.n r20.d.c] 41 (0, 0)) := v43 36 zj _ rfl
 obtain ⟨b44, hBb44⟩ : ∃ b, B43 36 = b := ⟨_, rfl⟩
 rw [hBb44] at h45
 have hp46 : PolN u43 (⟨some ⟨b44, 0, none⟩, 2, 2⟩ : Sl) [(-(((g : Int) : Rat) / ((Nt.p2i W.f : Int) : Rat))), ((1 : Int) : Rat)] 2 := pol_lit (L := [r38, r20]) h45 (rats2 (h39.ext e43) (h21.ext (e25.trans (g29.ext.trans (e31.trans (g35.ext.trans (e37.trans (g41.ext.trans e43)))))))) rfl yq
 show Calls _ _ #[.slice (some ⟨B43 36, 0, none⟩) 2 2] _ _
 rw [hBb44]
 have k51 := k_r5Trim d43 hp46.raw xq zz
 with_reducible refine zPm k51 ?_
 rintro _ u49 g50 ⟨y47, rfl, h48⟩
 have hly47 := h48.len
 refine zzg 40 89 [r26.v] ?_
 intro w52 u52 e52 d52
 have k57 := k_rqNeg d52 (h27.ext (e31.trans (g35.ext.trans (e37.trans (g41.ext.trans (e43.trans (g50.ext.trans e52))))))).raw xq
 with_reducible refine zPm k57 ?_
 rintro _ u55 g56 ⟨r53, rfl, h54⟩
 refine sy_lit 41 ⟨41, r20.cs ++ r53.cs⟩ 2 ?_
 refine zyo 42 82 [.slc 41 0 2 2] [41] (.inr rfl) (pub_mk xz) (k := ?_)
 intro B58 w58 u58 e58 d58 v58
 have h60 : u58.heap[B58 41]? = some (.cells #[.bool r20.s, .slice r20.m.a r20.m.n r20.m.c, .slice r20.d.a r20.d.n r20.d.c, .bool r53.s, .slice r53.m.a r53.m.n r53.m.c, .slice r53.d.a r53.d.n r53.d.c] 41 (0, 0)) := v58 41 zj _ rfl
 obtain ⟨b59, hBb59⟩ : ∃ b, B58 41 = b := ⟨_, rfl⟩
 rw [hBb59] at h60
 have hp61 : PolN u58 (⟨some ⟨b59, 0, none⟩, 2, 2⟩ : Sl) [((1 : Int) : Rat), (-(((g : Int) : Rat) / ((Nt.p2i W.f : Int) : Rat)))] 2 := pol_lit (L := [r20, r53]) h60 (rats2 (h21.ext (e25.trans (g29.ext.trans (e31.trans (g35.ext.trans (e37.trans (g41.ext.trans (e43.trans (g50.ext.trans (e52.trans (g56.ext.trans e58))))))))))) (h54.ext e58)) rfl yq
 show Calls _ _ #[.slice (some ⟨B58 41, 0, none⟩) 2 2] _ _
 rw [hBb59]
 have k66 := k_r5Trim d58 hp61.raw xq zz
 with_reducible refine zPm k66 ?_
 rintro _ u64 g65 ⟨y62, rfl, h63⟩
 have hly62 := h63.len
 refine zza 43 (.v (.agg #[y47.v, y62.v])) (zzj ⟨31, [y47.v, y62.v]⟩ ty31 ?_)
 refine zza 5 (zI 0) (zzb (zzo (zzw (ret0 [.agg #[.slice y47.a y47.n y47.c, .slice y62.a y62.n y62.c], .int .i64 0] ⟨zzr ty31 zze, zzq, trivial⟩ fun u67 e68 => ?_))))
 exact ⟨y47, y62, rfl, PolN.more (K := 2) (h48.ext (e52.trans (g56.ext.trans (e58.trans (g65.ext.trans e68))))) xq, PolN.more (K := 2) (h63.ext e68) xq⟩
set_option maxHeartbeats 2000000 in
theorem k_rAllPass2 {u w : World} {W : WL} {g h : Int} (hg0 : -Nt.p2i W.f < g) (hg1 : g < Nt.p2i W.f) (hh0 : -Nt.p2i W.f < h) (hh1 : h < Nt.p2i W.f) (d : Dat u w) (hW : WdOK W) (hf : 1 ≤ W.f) : Calls Tryz.prog 24 #[(⟨2, g, h⟩ : PL).v, W.v] w (Post u w fun v u' => ∃ y z : Sl, v = .tuple #[.agg #[y.v, z.v], .int .i64 0] ∧ PolN u' y (Nt.trimQ (Nt.secB W.f (⟨2, g, h⟩ : PL))) 20 ∧ PolN u' z (Nt.trimQ (Nt.secA W.f (⟨2, g, h⟩ : PL))) 20) := by
 obtain ⟨hw1, hw2, hw3, hw4, hw5, hw6, hw7, hw8⟩ := id hW
 have hu0 := Nt.zxq W.f
 have hu1 := Nt.p2i_24 (n := W.f) xq
 have hu2 := Nt.zwh (a := W.f) (b := W.b - 1) xq
 have hu3 := Nt.p2i_24 (n := W.b - 1) xq
 refine zzm (args := [.agg #[.int .i64 2, .int .i64 g, .int .i64 h], .agg #[.int .i64 W.b, .int .i64 W.f, .int .i64 W.r, .int .i64 W.o]]) Tryz.func24 rfl Tryz.ntmps24 (rs := [.cell 4 31, .tmp 5]) Tryz.results24 (le_b rfl) (le_b rfl) d ?_
 refine sq9 (zzk 2 ⟨60, [.int .i64 2, .int .i64 g, .int .i64 h]⟩ (zzk 3 ⟨24, W.cs⟩ (zzk 4 ⟨31, [.slice none 0 0, .slice none 0 0]⟩ (zza 5 (zI 0) (zzb (zzd (sq9 (zzi 10 (.v (W.v)) ty24 zze (zzg 11 87 [W.v] ?_)))))))))
 intro w11 u11 e11 d11
 have k14 := (Post.mono (k_formedG (W := W) d11) (fun v u9 _ h => by rw [decide_eq_true (show FmOK W from ⟨hW, hf⟩)] at h; exact (show v = .bool true from h)))
 with_reducible refine zPm k14 ?_
 rintro _ u12 g13 rfl
 refine zza 12 (zB false) (zzb (zys xk (zzs (zzp ?_))))
 refine zzd (sq9 (zzi 14 (.v (.agg #[.int .i64 2, .int .i64 g, .int .i64 h])) ty60 zze (zzi 15 (.v (W.v)) ty24 zze (zzg 16 88 [.agg #[.int .i64 2, .int .i64 g, .int .i64 h], W.v] ?_))))
 intro w15 u15 e15 d15
 have k18 := (Post.mono (k_rpermittedG (p := (⟨2, g, h⟩ : PL)) (W := W) d15 hW hf) (fun v u9 _ h8 => by rw [decide_eq_true (show PasOK W.f (⟨2, g, h⟩ : PL) by unfold PasOK; simp; omega)] at h8; exact (show v = .bool true from h8)))
 with_reducible refine zPm k18 ?_
 rintro _ u16 g17 rfl
 refine zza 17 (zB false) (zzb (zys xk (zzs (zzp ?_))))
 refine sq9 (zzg 19 13 [.int .i64 1] ?_)
 intro w19 u19 e19 d19
 have k24 := k_rqOf d19 (z := 1) xq xq
 with_reducible refine zPm k24 ?_
 rintro _ u22 g23 ⟨r20, rfl, h21⟩
 refine zzk 6 ⟨41, [.bool false, .slice none 0 0, .slice none 0 0]⟩ (zzj ⟨41, r20.cs⟩ ty41 ?_)
 refine zzb (zzd (zzz [0, 0, 2, 6, 15, 0, 0, 64, 192, 511, 0, 0, 4095, 8191] [(0, []), (1, []), (2, []), (3, []), (5, []), (6, []), (7, []), (8, []), (10, []), (11, []), (4, []), (9, []), (12, []), (13, [])] xk xk (zzi 20 (.v (W.v)) ty24 zze (zza 21 (.adr 2 1) (zza 22 (.adr 2 1) (zzi 23 (zI g) ty3 zzl (zzi 25 (.v (W.v)) ty24 zze (zza 26 (.adr 2 1) (zza 27 (.adr 2 2) (zzi 28 (zI h) ty3 zzl (zzk 7 ⟨41, [.bool false, .slice none 0 0, .slice none 0 0]⟩ ?_)))))))))))
 refine zzk 8 ⟨41, [.bool false, .slice none 0 0, .slice none 0 0]⟩ (zzg 24 15 [W.v, .int .i64 g] ?_)
 intro w25 u25 e25 d25
 have k30 := (Post.mono (k_r21Value (W := W) (z := g) d25 hW xq xq) (fun v u9 _ h => by obtain ⟨r9, e9, g9⟩ := h; exact (show ∃ r : RL, v = r.v ∧ RatN u9 r (((g : Int) : Rat) / ((Nt.p2i W.f : Int) : Rat)) 2 from ⟨r9, e9, RatN.fit g9 (Nt.wq_rs xq xq xq)⟩)))
 with_reducible refine zPm k30 ?_
 rintro _ u28 g29 ⟨r26, rfl, h27⟩
 refine zzg 29 15 [W.v, .int .i64 h] ?_
 intro w31 u31 e31 d31
 have k36 := (Post.mono (k_r21Value (W := W) (z := h) d31 hW xq xq) (fun v u9 _ h => by obtain ⟨r9, e9, g9⟩ := h; exact (show ∃ r : RL, v = r.v ∧ RatN u9 r (((h : Int) : Rat) / ((Nt.p2i W.f : Int) : Rat)) 2 from ⟨r9, e9, RatN.fit g9 (Nt.wq_rs xq xq xq)⟩)))
 with_reducible refine zPm k36 ?_
 rintro _ u34 g35 ⟨r32, rfl, h33⟩
 refine zzj ⟨41, r26.cs⟩ ty41 ?_
 refine zzj ⟨41, r32.cs⟩ ty41 ?_
 refine zzb (zzd (sq9 (zza 30 (.adr 2 0) (zzi 31 (zI 2) ty3 zzl (zza 32 (zB false) (zzc 62 [(4, .adr 4 0), (6, .adr 6 0), (7, .adr 7 0), (8, .adr 8 0), (32, zB false)] [(4, ⟨31, [.slice none 0 0, .slice none 0 0]⟩), (6, ⟨41, r20.cs⟩), (7, ⟨41, r26.cs⟩), (8, ⟨41, r32.cs⟩)] (zys xk (zzs (zzp ?_)))))))))
 refine zzd (zzz [0, 0, 0, 6, 15, 0, 63] [(0, []), (1, []), (2, []), (5, []), (3, []), (4, []), (6, [])] xk xk (zzi 44 (.v (r32.v)) ty41 zze (zzi 45 (.v (r26.v)) ty41 zze (zzi 46 (.v (r20.v)) ty41 zze (zzk 9 ⟨41, [.bool false, .slice none 0 0, .slice none 0 0]⟩ (zzg 47 91 [r26.v, r20.v] ?_))))))
 intro w37 u37 e37 d37
 have k42 := k_rqSub d37 (h27.ext (e31.trans (g35.ext.trans e37))).raw (h21.ext (e25.trans (g29.ext.trans (e31.trans (g35.ext.trans e37))))).raw xq xq
 with_reducible refine zPm k42 ?_
 rintro _ u40 g41 ⟨r38, rfl, h39⟩
 refine zzg 48 90 [r32.v, r38.v] ?_
 intro w43 u43 e43 d43
 have k48 := k_rqMul d43 (h33.ext (e37.trans (g41.ext.trans e43))).raw (h39.ext e43).raw xq xq
 with_reducible refine zPm k48 ?_
 rintro _ u46 g47 ⟨r44, rfl, h45⟩
 refine zzj ⟨41, r44.cs⟩ ty41 ?_
 refine zzb (zzd (zzz [0, 1, 0, 0, 15, 31, 0, 0, 0, 319, 1023, 2047, 4095, 8191, 16383] [(0, []), (2, []), (3, []), (6, []), (7, []), (8, []), (1, []), (4, []), (5, [53]), (9, []), (10, []), (11, [59]), (12, []), (13, []), (14, [])] xk xk (zzi 49 (.v (r26.v)) ty41 zze (zzi 51 (.v (r44.v)) ty41 zze (zzi 52 (.v (r20.v)) ty41 zze (zzi 55 (.v (r20.v)) ty41 zze (zzi 56 (.v (r44.v)) ty41 zze (zzi 57 (.v (r26.v)) ty41 zze (zzg 50 89 [r26.v] ?_)))))))))
 intro w49 u49 e49 d49
 have k54 := k_rqNeg d49 (h27.ext (e31.trans (g35.ext.trans (e37.trans (g41.ext.trans (e43.trans (g47.ext.trans e49))))))).raw xq
 with_reducible refine zPm k54 ?_
 rintro _ u52 g53 ⟨r50, rfl, h51⟩
 refine sy_lit 53 ⟨41, r50.cs ++ r44.cs ++ r20.cs⟩ 3 ?_
 refine zyo 54 82 [.slc 53 0 3 3] [53] (.inr rfl) (pub_mk xz) (k := ?_)
 intro B55 w55 u55 e55 d55 v55
 have h57 : u55.heap[B55 53]? = some (.cells #[.bool r50.s, .slice r50.m.a r50.m.n r50.m.c, .slice r50.d.a r50.d.n r50.d.c, .bool r44.s, .slice r44.m.a r44.m.n r44.m.c, .slice r44.d.a r44.d.n r44.d.c, .bool r20.s, .slice r20.m.a r20.m.n r20.m.c, .slice r20.d.a r20.d.n r20.d.c] 41 (0, 0)) := v55 53 zj _ rfl
 obtain ⟨b56, hBb56⟩ : ∃ b, B55 53 = b := ⟨_, rfl⟩
 rw [hBb56] at h57
 have hp58 : PolN u55 (⟨some ⟨b56, 0, none⟩, 3, 3⟩ : Sl) [(-(((g : Int) : Rat) / ((Nt.p2i W.f : Int) : Rat))), ((((h : Int) : Rat) / ((Nt.p2i W.f : Int) : Rat)) * ((((g : Int) : Rat) / ((Nt.p2i W.f : Int) : Rat)) - ((1 : Int) : Rat))), ((1 : Int) : Rat)] (max (max 2 (2 + (2 + 2 + 2) + 1)) 2) := pol_lit (L := [r50, r44, r20]) h57 (rats3 (RatN.more (L := (max (max 2 (2 + (2 + 2 + 2) + 1)) 2)) (h51.ext e55) xq) (RatN.more (L := (max (max 2 (2 + (2 + 2 + 2) + 1)) 2)) (h45.ext (e49.trans (g53.ext.trans e55))) xq) (RatN.more (L := (max (max 2 (2 + (2 + 2 + 2) + 1)) 2)) (h21.ext (e25.trans (g29.ext.trans (e31.trans (g35.ext.trans (e37.trans (g41.ext.trans (e43.trans (g47.ext.trans (e49.trans (g53.ext.trans e55))))))))))) xq)) rfl yq
 show Calls _ _ #[.slice (some ⟨B55 53, 0, none⟩) 3 3] _ _
 rw [hBb56]
 have k63 := k_r5Trim d55 hp58.raw xq zz
 with_reducible refine zPm k63 ?_
 rintro _ u61 g62 ⟨y59, rfl, h60⟩
 have hly59 := h60.len
 refine zzg 58 89 [r26.v] ?_
 intro w64 u64 e64 d64
 have k69 := k_rqNeg d64 (h27.ext (e31.trans (g35.ext.trans (e37.trans (g41.ext.trans (e43.trans (g47.ext.trans (e49.trans (g53.ext.trans (e55.trans (g62.ext.trans e64))))))))))).raw xq
 with_reducible refine zPm k69 ?_
 rintro _ u67 g68 ⟨r65, rfl, h66⟩
 refine sy_lit 59 ⟨41, r20.cs ++ r44.cs ++ r65.cs⟩ 3 ?_
 refine zyo 60 82 [.slc 59 0 3 3] [59] (.inr rfl) (pub_mk xz) (k := ?_)
 intro B70 w70 u70 e70 d70 v70
 have h72 : u70.heap[B70 59]? = some (.cells #[.bool r20.s, .slice r20.m.a r20.m.n r20.m.c, .slice r20.d.a r20.d.n r20.d.c, .bool r44.s, .slice r44.m.a r44.m.n r44.m.c, .slice r44.d.a r44.d.n r44.d.c, .bool r65.s, .slice r65.m.a r65.m.n r65.m.c, .slice r65.d.a r65.d.n r65.d.c] 41 (0, 0)) := v70 59 zj _ rfl
 obtain ⟨b71, hBb71⟩ : ∃ b, B70 59 = b := ⟨_, rfl⟩
 rw [hBb71] at h72
 have hp73 : PolN u70 (⟨some ⟨b71, 0, none⟩, 3, 3⟩ : Sl) [((1 : Int) : Rat), ((((h : Int) : Rat) / ((Nt.p2i W.f : Int) : Rat)) * ((((g : Int) : Rat) / ((Nt.p2i W.f : Int) : Rat)) - ((1 : Int) : Rat))), (-(((g : Int) : Rat) / ((Nt.p2i W.f : Int) : Rat)))] (max (max 2 (2 + (2 + 2 + 2) + 1)) 2) := pol_lit (L := [r20, r44, r65]) h72 (rats3 (RatN.more (L := (max (max 2 (2 + (2 + 2 + 2) + 1)) 2)) (h21.ext (e25.trans (g29.ext.trans (e31.trans (g35.ext.trans (e37.trans (g41.ext.trans (e43.trans (g47.ext.trans (e49.trans (g53.ext.trans (e55.trans (g62.ext.trans (e64.trans (g68.ext.trans e70))))))))))))))) xq) (RatN.more (L := (max (max 2 (2 + (2 + 2 + 2) + 1)) 2)) (h45.ext (e49.trans (g53.ext.trans (e55.trans (g62.ext.trans (e64.trans (g68.ext.trans e70))))))) xq) (RatN.more (L := (max (max 2 (2 + (2 + 2 + 2) + 1)) 2)) (h66.ext e70) xq)) rfl yq
 show Calls _ _ #[.slice (some ⟨B70 59, 0, none⟩) 3 3] _ _
 rw [hBb71]
 have k78 := k_r5Trim d70 hp73.raw xq zz
 with_reducible refine zPm k78 ?_
 rintro _ u76 g77 ⟨y74, rfl, h75⟩
 have hly74 := h75.len
 refine zza 61 (.v (.agg #[y59.v, y74.v])) (zzj ⟨31, [y59.v, y74.v]⟩ ty31 ?_)
 refine zza 5 (zI 0) (zzb (zzo (ret0 [.agg #[.slice y59.a y59.n y59.c, .slice y74.a y74.n y74.c], .int .i64 0] ⟨zzr ty31 zze, zzq, trivial⟩ fun u79 e80 => ?_)))
 exact ⟨y59, y74, rfl, PolN.more (K := (max (max 2 (2 + (2 + 2 + 2) + 1)) 2)) (h60.ext (e64.trans (g68.ext.trans (e70.trans (g77.ext.trans e80))))) xq, PolN.more (K := (max (max 2 (2 + (2 + 2 + 2) + 1)) 2)) (h75.ext e80) xq⟩
theorem k_rAllPass {u w : World} {W : WL} {p : PL} (d : Dat u w) (hW : WdOK W) (hf : 1 ≤ W.f) (hp : PasOK W.f p) : Calls Tryz.prog 24 #[p.v, W.v] w (Post u w fun v u' => ∃ y z : Sl, v = .tuple #[.agg #[y.v, z.v], .int .i64 0] ∧ PolN u' y (Nt.trimQ (Nt.secB W.f p)) 20 ∧ PolN u' z (Nt.trimQ (Nt.secA W.f p)) 20) := by
 rcases pas_split hp with ⟨g, rfl, h1, h2⟩ | ⟨g, h, rfl, h1, h2, h3, h4⟩
 ·exact k_rAllPass1 h1 h2 d hW hf
 ·exact k_rAllPass2 h1 h2 h3 h4 d hW hf
set_option maxHeartbeats 2000000 in
theorem k_rbranch {u w : World} {W : WL} {x : Sl} {L : List PL} (d : Dat u w) (hx : PasV u x L) (hpx : ∀ p ∈ L, PasOK W.f p) (hnx : L.length ≤ 4) (hW : WdOK W) (hf : 1 ≤ W.f) : Calls Tryz.prog 97 #[x.v, W.v] w (Post u w fun v u' => ∃ y z : Sl, v = .agg #[y.v, z.v] ∧ PolN u' y (Nt.prodB W.f L L.length) 8 ∧ PolN u' z (Nt.prodA W.f L L.length) 8) := by
 obtain ⟨hw1, hw2, hw3, hw4, hw5, hw6, hw7, hw8⟩ := id hW
 have hlx := hx.len
 refine zzm (args := [.slice x.a x.n x.c, .agg #[.int .i64 W.b, .int .i64 W.f, .int .i64 W.r, .int .i64 W.o]]) Tryz.func97 rfl Tryz.ntmps97 (rs := [.cell 4 31]) Tryz.results97 (le_b rfl) (le_b rfl) d ?_
 refine sq9 (zzk 3 ⟨24, W.cs⟩ (zzk 4 ⟨31, [.slice none 0 0, .slice none 0 0]⟩ (zzb (sq9 (zzg 9 13 [.int .i64 1] ?_)))))
 intro w11 u11 e11 d11
 have k16 := k_rqOf d11 (z := 1) xq xq
 with_reducible refine zPm k16 ?_
 rintro _ u14 g15 ⟨r12, rfl, h13⟩
 refine zxz 10 ⟨41, r12.cs⟩ 1 (fun b17 u18 e19 h20 => ?_)
 have hp21 : PolN u18 (⟨some ⟨b17, 0, none⟩, 1, 1⟩ : Sl) [((1 : Int) : Rat)] 2 := pol_lit (L := [r12]) h20 (rats1 (h13.ext e19)) rfl yq
 refine zzg 11 13 [.int .i64 1] ?_
 intro w22 u22 e22 d22
 have k27 := k_rqOf d22 (z := 1) xq xq
 with_reducible refine zPm k27 ?_
 rintro _ u25 g26 ⟨r23, rfl, h24⟩
 refine zxz 12 ⟨41, r23.cs⟩ 1 (fun b28 u29 e30 h31 => ?_)
 have hp32 : PolN u29 (⟨some ⟨b28, 0, none⟩, 1, 1⟩ : Sl) [((1 : Int) : Rat)] 2 := pol_lit (L := [r23]) h31 (rats1 (h24.ext e30)) rfl yq
 refine zza 13 (.v (.agg #[.slice (some ⟨b17, 0, none⟩) 1 1, .slice (some ⟨b28, 0, none⟩) 1 1])) (zzk 5 ⟨31, [.slice none 0 0, .slice none 0 0]⟩ (zzj ⟨31, [.slice (some ⟨b17, 0, none⟩) 1 1, .slice (some ⟨b28, 0, none⟩) 1 1]⟩ ty31 ?_))
 refine zzb (zzd (sq9 (zza 6 (zI 0) (zzb (zzt (zyn (I := fun m33 S' u' => ∃ (i : Nat) (y : Sl) (z : Sl), (m33 = L.length - i) ∧ (i ≤ L.length) ∧ (S' = St.of 41 [(0, .v (.slice x.a x.n x.c)), (3, .adr 3 0), (4, .adr 4 0), (5, .adr 5 0), (6, zI i)] [(3, ⟨24, [.int .i64 W.b, .int .i64 W.f, .int .i64 W.r, .int .i64 W.o]⟩), (4, ⟨31, [.slice none 0 0, .slice none 0 0]⟩), (5, ⟨31, [.slice y.a y.n y.c, .slice z.a z.n z.c]⟩)]) ∧ (Ext u29 u') ∧ (PolN u' y (Nt.prodB W.f L i) 8) ∧ (PolN u' z (Nt.prodA W.f L i) 8)) (fun m S u1 u2 e h => by obtain ⟨i, y, z, hm, p0, hS, hE, f0, f1⟩ := h; exact ⟨i, y, z, hm, p0, hS, hE.trans e, f0.ext e, f1.ext e⟩) _ yz ⟨0, (⟨some ⟨b17, 0, none⟩, 1, 1⟩ : Sl), (⟨some ⟨b28, 0, none⟩, 1, 1⟩ : Sl), rfl, Nat.zero_le _, rfl, (Ext.refl _), (PolN.more (hp21.ext (e22.trans (g26.ext.trans e30))) yq), (PolN.more hp32 yq)⟩ ?_))))))
 rintro m33 _ u33 ⟨i, y, z, hm33, hi, rfl, e33, hB, hA⟩
 have hlB : (Nt.prodB W.f L i).length ≤ 9 := by have h9 := (Nt.zwg W.f L i).1; omega
 have hlA : (Nt.prodA W.f L i).length ≤ 9 := by have h9 := (Nt.zwg W.f L i).2; omega
 have hyl := hB.len
 have hzl := hA.len
 refine zzd (sq9 (zza 14 (zI i) (zza 15 (.v x.v) (zza 16 (zI x.n) (zza 17 (zB (decide ((i : Int) < (x.n : Int)))) (zzb (zzu (b := decide ((i : Int) < (x.n : Int))) xk (fun hb34 => ?_) (fun hb34 => ?_))))))))
 ·replace hb34 : (decide ((i : Int) < (x.n : Int))) = true := hb34
  have qhb34 := of_decide_eq_true hb34
  refine zzs (zzp ?_)
  refine zzd (zzt (zzd (zzz [0, 0, 3, 7, 0, 31, 63, 127, 127, 0, 767, 2047] [(0, []), (1, []), (2, []), (3, []), (4, []), (9, []), (5, []), (6, []), (7, []), (8, []), (10, []), (11, [])] xk xk (zza 21 (.v x.v) (zza 22 (zI i) ?_)))))
  have hl35 := ((hx.ext (e11.trans (g15.ext.trans (e19.trans (e22.trans (g26.ext.trans (e30.trans e33)))))))).len
  obtain ⟨p35, b35, o35, hA35, hc35, hp35⟩ := pas_at ((hx.ext (e11.trans (g15.ext.trans (e19.trans (e22.trans (g26.ext.trans (e30.trans e33)))))))) (i := i) xq
  refine zya 23 (o35 + i * 3) (n := x.n) (off := o35) (sz := 3) (i := (i : Int)) xq hA35 xq xq sl55 (zym 24 p35.cs hc35 ty60 ?_)
  have hkp35 : PasOK W.f p35 := by rw [hp35]; exact hpx _ (by rw [List.getD_eq_getElem?_getD, List.getElem?_eq_getElem xq]; exact List.getElem_mem _)
  refine zzi 25 (.v (W.v)) ty24 zze (zzk 7 ⟨31, [.slice none 0 0, .slice none 0 0]⟩ (zzg 26 24 [.agg #[.int .i64 p35.o, .int .i64 p35.g, .int .i64 p35.h], W.v] ?_))
  intro w36 u36 e36 d36
  have k43 := k_rAllPass (p := p35) (W := W) d36 hW hf hkp35
  with_reducible refine zPm k43 ?_
  rintro _ u41 g42 ⟨y37, y38, rfl, h39, h40⟩
  have hly37 := h39.len
  have hmy37 := Nat.le_trans (Nt.zzh (Nt.secB W.f p35)) (Nt.sec_len W.f p35).1
  have hly38 := h40.len
  have hmy38 := Nat.le_trans (Nt.zzh (Nt.secA W.f p35)) (Nt.sec_len W.f p35).2
  refine zza 20 (.v (.tuple #[.agg #[y37.v, y38.v], .int .i64 0])) (zza 27 (.v (.agg #[y37.v, y38.v])) (zza 28 (zI 0) (zzj ⟨31, [y37.v, y38.v]⟩ ty31 ?_)))
  refine zza 8 (zI 0) (zzb (zzz [0, 1, 0, 4, 15, 0, 32, 0, 128, 511, 1023, 2047] [(0, []), (1, []), (2, []), (3, []), (5, []), (6, []), (7, []), (8, []), (4, []), (9, []), (10, []), (11, [])] xk xk (zza 29 (.adr 5 0) (zzi 30 (.v y.v) ty29 zzl (zza 31 (.adr 7 0) (zzi 32 (.v y37.v) ty29 zzl (zza 34 (.adr 5 1) (zzi 35 (.v z.v) ty29 zzl (zza 36 (.adr 7 1) (zzi 37 (.v y38.v) ty29 zzl (zzg 33 98 [y.v, y37.v] ?_)))))))))))
  intro w44 u44 e44 d44
  have k49 := k_r5Mul d44 (hB.ext (e36.trans (g42.ext.trans e44))).raw (h39.ext e44).raw (Nat.le_trans (Nt.kk_mono (Nat.le_refl _) (Nat.mul_le_mul hlB hmy37)) (by decide +kernel)) xq xq (by have h9 := hlB; omega) (by have h9 := hmy37; omega)
  with_reducible refine zPm k49 ?_
  rintro _ u47 g48 ⟨y45, rfl, h46⟩
  have hly45 := h46.len
  have hmy45 := Nt.zxv hlB hmy37
  refine zzg 38 98 [z.v, y38.v] ?_
  intro w50 u50 e50 d50
  have k55 := k_r5Mul d50 (hA.ext (e36.trans (g42.ext.trans (e44.trans (g48.ext.trans e50))))).raw (h40.ext (e44.trans (g48.ext.trans e50))).raw (Nat.le_trans (Nt.kk_mono (Nat.le_refl _) (Nat.mul_le_mul hlA hmy38)) (by decide +kernel)) xq xq (by have h9 := hlA; omega) (by have h9 := hmy38; omega)
  with_reducible refine zPm k55 ?_
  rintro _ u53 g54 ⟨y51, rfl, h52⟩
  have hly51 := h52.len
  have hmy51 := Nt.zxv hlA hmy38
  refine zza 39 (.v (.agg #[y45.v, y51.v])) (zzj ⟨31, [y45.v, y51.v]⟩ ty31 ?_)
  refine zzx ?_
  refine zzp (zzf (zza 18 (zI i) (zyq 19 (x := zI (IntKind.i64.wrap ((i : Int) + 1))) (zI (i + 1 : Nat)) (eqI xw) (zza 6 (zI (i + 1 : Nat)) (zzx ?_)))))
  refine ⟨_, ?_, _, by exact zzv _ _ _, i + 1, y45, y51, rfl, by omega, rfl, (e33.trans (e36.trans (g42.ext.trans (e44.trans (g48.ext.trans (e50.trans g54.ext)))))), (prod_stB (h46.ext (e50.trans g54.ext)) hp35 xq hpx hnx xq), (prod_stA h52 hp35 xq hpx hnx xq)⟩
  omega
 ·replace hb34 : (decide ((i : Int) < (x.n : Int))) = false := hb34
  have qhb34 := of_decide_eq_false hb34
  refine zyc (zzp (sq9 (zzi 40 (.v (.agg #[y.v, z.v])) ty31 zze (zzj ⟨31, [y.v, z.v]⟩ ty31 ?_))))
  refine zzb (zzo (ret0 [.agg #[.slice y.a y.n y.c, .slice z.a z.n z.c]] ⟨zzr ty31 zze, trivial⟩ fun u56 e57 => ?_))
  have hi9 : i = L.length := by omega
  subst hi9
  exact ⟨y, z, rfl, (hB.ext e57), (hA.ext e57)⟩
namespace Nt
theorem idl_add (l r : List Rat) (h : Rat) : trimQ (addQ (trimQ (l.map (· * h))) (trimQ (r.map (· * h)))) = trimQ ((trimQ (addQ l r)).map (· * h)) := trim_ext fun i => by
 rw [addQ_co, trim_co, trim_co, co_map _ (Rat.zero_mul h), co_map _ (Rat.zero_mul h), co_map _ (Rat.zero_mul h), trim_co, addQ_co, Rat.add_mul]
theorem idl_sub (l r : List Rat) (h : Rat) : trimQ (addQ (trimQ (l.map (· * h))) (trimQ ((trimQ (r.map (· * h))).map (· * (((-1) : Int) : Rat))))) = trimQ ((trimQ (addQ l (r.map (fun z => -z)))).map (· * h)) := trim_ext fun i => by
 rw [addQ_co, trim_co, trim_co, co_map (· * h) (Rat.zero_mul h), co_map (· * (((-1) : Int) : Rat)) (Rat.zero_mul _), trim_co, co_map (· * h) (Rat.zero_mul h), co_map (· * h) (Rat.zero_mul h), trim_co, addQ_co, co_map (fun z => -z) zy, Rat.add_mul, show (((-1) : Int) : Rat) = -1 from rfl, Rat.mul_neg, Rat.mul_one, Rat.neg_mul]
end Nt
theorem all_mem {f : Int} {L : List PL} (h : ∀ i, i < L.length → PasOK f (L.getD i pl0)) : ∀ p ∈ L, PasOK f p := fun p hp => by
 obtain ⟨i, hi, e⟩ := List.mem_iff_getElem.1 hp
 have := h i hi
 rw [List.getD_eq_getElem?_getD, List.getElem?_eq_getElem hi] at this
 rw [← e]; exact this
set_option maxHeartbeats 4000000 in
theorem k_rwIdeal {u w : World} {W : WL} {x y : Sl} {L M : List PL} (d : Dat u w) (hx : PasV u x L) (hy : PasV u y M) (hV : WvOK W L M) : Calls Tryz.prog 26 #[.agg #[x.v, y.v], W.v] w (Post u w fun v u' => ∃ y1 y2 y3 y4 : Sl, v = .tuple #[.agg #[y1.v, y2.v], .agg #[y3.v, y4.v], .int .i64 0] ∧ PolN u' y1 (Nt.trimQ ((Nt.trimQ (Nt.addQ (Nt.trimQ (Nt.mulQ (Nt.prodB W.f L L.length) (Nt.prodA W.f M M.length))) (Nt.trimQ (Nt.mulQ (Nt.prodB W.f M M.length) (Nt.prodA W.f L L.length))))).map (· * (((1 : Int) : Rat) / ((2 : Int) : Rat))))) 100000 ∧ PolN u' y2 (Nt.trimQ (Nt.mulQ (Nt.prodA W.f L L.length) (Nt.prodA W.f M M.length))) 100000 ∧ PolN u' y3 (Nt.trimQ ((Nt.trimQ (Nt.addQ (Nt.trimQ (Nt.mulQ (Nt.prodB W.f L L.length) (Nt.prodA W.f M M.length))) ((Nt.trimQ (Nt.mulQ (Nt.prodB W.f M M.length) (Nt.prodA W.f L L.length))).map (fun z => -z)))).map (· * (((1 : Int) : Rat) / ((2 : Int) : Rat))))) 100000 ∧ PolN u' y4 (Nt.trimQ (Nt.mulQ (Nt.prodA W.f L L.length) (Nt.prodA W.f M M.length))) 100000) := by
 obtain ⟨⟨hW, hf⟩, hnx, hny, hax, hay⟩ := id hV
 have hpx := all_mem hax
 have hpy := all_mem hay
 obtain ⟨hw1, hw2, hw3, hw4, hw5, hw6, hw7, hw8⟩ := id hW
 have hlx := hx.len
 have hly := hy.len
 refine zzm (args := [.agg #[.slice x.a x.n x.c, .slice y.a y.n y.c], .agg #[.int .i64 W.b, .int .i64 W.f, .int .i64 W.r, .int .i64 W.o]]) Tryz.func26 rfl Tryz.ntmps26 (rs := [.cell 4 31, .cell 5 31, .tmp 6]) Tryz.results26 (le_b rfl) (le_b rfl) d ?_
 refine sq9 (zzk 2 ⟨57, [x.v, y.v]⟩ (zzk 3 ⟨24, W.cs⟩ (zzk 4 ⟨31, [.slice none 0 0, .slice none 0 0]⟩ (zzk 5 ⟨31, [.slice none 0 0, .slice none 0 0]⟩ (zza 6 (zI 0) (zzb (zzd (sq9 (zzi 13 (.v (.agg #[x.v, y.v])) ty57 zze (zzi 14 (.v (W.v)) ty24 zze (zzg 15 30 [.agg #[x.v, y.v], W.v] ?_)))))))))))
 intro w11 u11 e11 d11
 have k14 := (Post.mono (k_rwvValidG (W := W) (x := x) (y := y) (L := L) (M := M) d11 (hx.ext e11) (hy.ext e11)) (fun v u9 _ h => by rw [decide_eq_true hV] at h; exact (show v = .bool true from h)))
 with_reducible refine zPm k14 ?_
 rintro _ u12 g13 rfl
 refine zza 16 (zB false) (zzb (zys xk (zzs (zzp ?_))))
 refine zzd (zzz [0, 1, 0, 7, 0, 16, 0, 127, 0, 0, 1023, 2047] [(0, []), (1, []), (2, []), (4, []), (5, []), (6, []), (8, []), (9, []), (3, []), (7, []), (10, []), (11, [])] xk xk (zza 19 (.adr 2 0) (zzi 20 (.v x.v) ty55 zzl (zzi 21 (.v (W.v)) ty24 zze (zza 23 (.adr 2 1) (zzi 24 (.v y.v) ty55 zzl (zzi 25 (.v (W.v)) ty24 zze (zzk 7 ⟨31, [.slice none 0 0, .slice none 0 0]⟩ (zzk 8 ⟨31, [.slice none 0 0, .slice none 0 0]⟩ (zzg 22 97 [x.v, W.v] ?_))))))))))
 intro w15 u15 e15 d15
 have k22 := k_rbranch (W := W) d15 (hx.ext (e11.trans (g13.ext.trans e15))) hpx hnx hW hf
 with_reducible refine zPm k22 ?_
 rintro _ u20 g21 ⟨y16, y17, rfl, h18, h19⟩
 have hly16 := h18.len
 have hm23 : (Nt.prodB W.f L L.length).length ≤ 9 := by have h9 := (Nt.zwg W.f L L.length).1; omega
 have hs24 := (Nt.prodS (f := W.f) xq hpx (Nat.le_refl _) hnx).1
 have hly17 := h19.len
 have hm25 : (Nt.prodA W.f L L.length).length ≤ 9 := by have h9 := (Nt.zwg W.f L L.length).2; omega
 have hs26 := (Nt.prodS (f := W.f) xq hpx (Nat.le_refl _) hnx).2
 refine zzg 26 97 [y.v, W.v] ?_
 intro w27 u27 e27 d27
 have k34 := k_rbranch (W := W) d27 (hy.ext (e11.trans (g13.ext.trans (e15.trans (g21.ext.trans e27))))) hpy hny hW hf
 with_reducible refine zPm k34 ?_
 rintro _ u32 g33 ⟨y28, y29, rfl, h30, h31⟩
 have hly28 := h30.len
 have hm35 : (Nt.prodB W.f M M.length).length ≤ 9 := by have h9 := (Nt.zwg W.f M M.length).1; omega
 have hs36 := (Nt.prodS (f := W.f) xq hpy (Nat.le_refl _) hny).1
 have hly29 := h31.len
 have hm37 : (Nt.prodA W.f M M.length).length ≤ 9 := by have h9 := (Nt.zwg W.f M M.length).2; omega
 have hs38 := (Nt.prodS (f := W.f) xq hpy (Nat.le_refl _) hny).2
 refine zzj ⟨31, [y16.v, y17.v]⟩ ty31 ?_
 refine zzj ⟨31, [y28.v, y29.v]⟩ ty31 ?_
 refine zzb (sq9 (zzg 27 72 [.int .i64 1, .int .i64 2] ?_))
 intro w39 u39 e39 d39
 have k44 := k_rqFrac d39 (a := 1) (b := 2) xq xq xq xq
 with_reducible refine zPm k44 ?_
 rintro _ u42 g43 ⟨r40, rfl, h41⟩
 refine zzk 9 ⟨41, [.bool false, .slice none 0 0, .slice none 0 0]⟩ (zzj ⟨41, r40.cs⟩ ty41 ?_)
 refine zzb (zzd (zzz [0, 1, 0, 4, 15, 0, 63, 0, 128, 0, 512, 2047, 0, 8191, 16383, 32767] [(0, []), (1, []), (2, []), (3, []), (5, []), (7, []), (8, []), (9, []), (10, []), (12, []), (4, []), (6, []), (11, []), (13, []), (14, []), (15, [])] xk xk (zza 28 (.adr 7 0) (zzi 29 (.v y16.v) ty29 zzl (zza 30 (.adr 8 1) (zzi 31 (.v y29.v) ty29 zzl (zzi 33 (.v (r40.v)) ty41 zze (zza 35 (.adr 8 0) (zzi 36 (.v y28.v) ty29 zzl (zza 37 (.adr 7 1) (zzi 38 (.v y17.v) ty29 zzl ?_)))))))))))
 refine zzi 40 (.v (r40.v)) ty41 zze (zzg 32 98 [y16.v, y29.v] ?_)
 intro w45 u45 e45 d45
 have k50 := k_r5Mul d45 (h18.ext (e27.trans (g33.ext.trans (e39.trans (g43.ext.trans e45))))).raw (h31.ext (e39.trans (g43.ext.trans e45))).raw (Nat.le_trans (Nt.kk_mono (Nat.le_refl _) (Nat.mul_le_mul hm23 hm37)) (by decide +kernel)) xq xq (by have h9 := hm23; omega) (by have h9 := hm37; omega)
 with_reducible refine zPm k50 ?_
 rintro _ u48 g49 ⟨y46, rfl, h47⟩
 have hly46 := h47.len
 have hm51 : (Nt.trimQ (Nt.mulQ (Nt.prodB W.f L L.length) (Nt.prodA W.f M M.length))).length ≤ 17 := Nt.zxv hm23 hm37
 have hs52 : Nt.Sm (Nt.trimQ (Nt.mulQ (Nt.prodB W.f L L.length) (Nt.prodA W.f M M.length))) (Nt.wD W.f ^ L.length * Nt.wD W.f ^ M.length) 425 := ((Nt.Sm.mulR hs24 hs38).trim.more xq)
 have hk53 : PolN _ y46 (Nt.trimQ (Nt.mulQ (Nt.prodB W.f L L.length) (Nt.prodA W.f M M.length))) 14 := PolN.fit26 h47 hs52 (by exact ⟨by omega, by omega, by omega, by decide⟩)
 refine zzg 34 81 [y46.v, r40.v] ?_
 intro w54 u54 e54 d54
 have k59 := k_r5Scale d54 (hk53.ext e54).raw (h41.ext (e45.trans (g49.ext.trans e54))).raw xq xq xq
 with_reducible refine zPm k59 ?_
 rintro _ u57 g58 ⟨y55, rfl, h56⟩
 have hly55 := h56.len
 refine zzg 39 98 [y28.v, y17.v] ?_
 intro w60 u60 e60 d60
 have k65 := k_r5Mul d60 (h30.ext (e39.trans (g43.ext.trans (e45.trans (g49.ext.trans (e54.trans (g58.ext.trans e60))))))).raw (h19.ext (e27.trans (g33.ext.trans (e39.trans (g43.ext.trans (e45.trans (g49.ext.trans (e54.trans (g58.ext.trans e60))))))))).raw (Nat.le_trans (Nt.kk_mono (Nat.le_refl _) (Nat.mul_le_mul hm35 hm25)) (by decide +kernel)) xq xq (by have h9 := hm35; omega) (by have h9 := hm25; omega)
 with_reducible refine zPm k65 ?_
 rintro _ u63 g64 ⟨y61, rfl, h62⟩
 have hly61 := h62.len
 have hm66 : (Nt.trimQ (Nt.mulQ (Nt.prodB W.f M M.length) (Nt.prodA W.f L L.length))).length ≤ 17 := Nt.zxv hm35 hm25
 have hs67 : Nt.Sm (Nt.trimQ (Nt.mulQ (Nt.prodB W.f M M.length) (Nt.prodA W.f L L.length))) (Nt.wD W.f ^ M.length * Nt.wD W.f ^ L.length) 425 := ((Nt.Sm.mulR hs36 hs26).trim.more xq)
 have hk68 : PolN _ y61 (Nt.trimQ (Nt.mulQ (Nt.prodB W.f M M.length) (Nt.prodA W.f L L.length))) 14 := PolN.fit26 h62 hs67 (by exact ⟨by omega, by omega, by omega, by decide⟩)
 refine zzg 41 81 [y61.v, r40.v] ?_
 intro w69 u69 e69 d69
 have k74 := k_r5Scale d69 (hk68.ext e69).raw (h41.ext (e45.trans (g49.ext.trans (e54.trans (g58.ext.trans (e60.trans (g64.ext.trans e69))))))).raw xq xq xq
 with_reducible refine zPm k74 ?_
 rintro _ u72 g73 ⟨y70, rfl, h71⟩
 have hly70 := h71.len
 refine zza 10 (.v y55.v) (zza 11 (.v y70.v) (zzc 57 [(4, .adr 4 0), (5, .adr 5 0), (7, .adr 7 0), (8, .adr 8 0), (10, .v y55.v), (11, .v y70.v)] [(4, ⟨31, [.slice none 0 0, .slice none 0 0]⟩), (5, ⟨31, [.slice none 0 0, .slice none 0 0]⟩), (7, ⟨31, [y16.v, y17.v]⟩), (8, ⟨31, [y28.v, y29.v]⟩)] (sq9 (zza 42 (.adr 7 1) (zzi 43 (.v y17.v) ty29 zzl (zza 44 (.adr 8 1) (zzi 45 (.v y29.v) ty29 zzl (zzg 46 98 [y17.v, y29.v] ?_))))))))
 intro w75 u75 e75 d75
 have k80 := k_r5Mul d75 (h19.ext (e27.trans (g33.ext.trans (e39.trans (g43.ext.trans (e45.trans (g49.ext.trans (e54.trans (g58.ext.trans (e60.trans (g64.ext.trans (e69.trans (g73.ext.trans e75))))))))))))).raw (h31.ext (e39.trans (g43.ext.trans (e45.trans (g49.ext.trans (e54.trans (g58.ext.trans (e60.trans (g64.ext.trans (e69.trans (g73.ext.trans e75))))))))))).raw (Nat.le_trans (Nt.kk_mono (Nat.le_refl _) (Nat.mul_le_mul hm25 hm37)) (by decide +kernel)) xq xq (by have h9 := hm25; omega) (by have h9 := hm37; omega)
 with_reducible refine zPm k80 ?_
 rintro _ u78 g79 ⟨y76, rfl, h77⟩
 have hly76 := h77.len
 have hm81 : (Nt.trimQ (Nt.mulQ (Nt.prodA W.f L L.length) (Nt.prodA W.f M M.length))).length ≤ 17 := Nt.zxv hm25 hm37
 have hs82 : Nt.Sm (Nt.trimQ (Nt.mulQ (Nt.prodA W.f L L.length) (Nt.prodA W.f M M.length))) (Nt.wD W.f ^ L.length * Nt.wD W.f ^ M.length) 425 := ((Nt.Sm.mulR hs26 hs38).trim.more xq)
 have hk83 : PolN _ y76 (Nt.trimQ (Nt.mulQ (Nt.prodA W.f L L.length) (Nt.prodA W.f M M.length))) 14 := PolN.fit26 h77 hs82 (by exact ⟨by omega, by omega, by omega, by decide⟩)
 refine zza 12 (.v y76.v) (zzb (sq9 (zza 47 (.v y55.v) (zza 48 (.v y70.v) (zzg 49 80 [y55.v, y70.v] ?_)))))
 intro w84 u84 e84 d84
 have k89 := k_r5Add d84 (h56.ext (e60.trans (g64.ext.trans (e69.trans (g73.ext.trans (e75.trans (g79.ext.trans e84))))))).raw (h71.ext (e75.trans (g79.ext.trans e84))).raw xq xq xj xj
 with_reducible refine zPm k89 ?_
 rintro _ u87 g88 ⟨y85, rfl, h86⟩
 have hly85 := h86.len
 refine zza 50 (.v y76.v) (zza 51 (.v (.agg #[y85.v, y76.v])) (zza 52 (.v y55.v) (zza 53 (.v y70.v) (zzg 54 99 [y55.v, y70.v] ?_))))
 intro w90 u90 e90 d90
 have k95 := k_r5Sub d90 (h56.ext (e60.trans (g64.ext.trans (e69.trans (g73.ext.trans (e75.trans (g79.ext.trans (e84.trans (g88.ext.trans e90))))))))).raw (h71.ext (e75.trans (g79.ext.trans (e84.trans (g88.ext.trans e90))))).raw xq xq xj xj
 with_reducible refine zPm k95 ?_
 rintro _ u93 g94 ⟨y91, rfl, h92⟩
 have hly91 := h92.len
 refine zza 55 (.v y76.v) (zza 56 (.v (.agg #[y91.v, y76.v])) (zzj ⟨31, [y85.v, y76.v]⟩ ty31 ?_))
 refine zzj ⟨31, [y91.v, y76.v]⟩ ty31 ?_
 refine zza 6 (zI 0) (zzb (zzo (ret0 [.agg #[.slice y85.a y85.n y85.c, .slice y76.a y76.n y76.c], .agg #[.slice y91.a y91.n y91.c, .slice y76.a y76.n y76.c], .int .i64 0] ⟨zzr ty31 zze, zzr ty31 zze, zzq, trivial⟩ fun u96 e97 => ?_)))
 exact ⟨y85, y76, y91, y76, rfl, (by have h9 := (h86.ext (e90.trans (g94.ext.trans e97))); rw [Nt.idl_add] at h9; exact h9.more xq), PolN.more (hk83.ext (e84.trans (g88.ext.trans (e90.trans (g94.ext.trans e97))))) xq, (by have h9 := (h92.ext e97); rw [Nt.idl_sub] at h9; exact h9.more xq), PolN.more (hk83.ext (e84.trans (g88.ext.trans (e90.trans (g94.ext.trans e97))))) xq⟩
end Go.Proofs.YtdmpfhhhlhoeiaaGreat
