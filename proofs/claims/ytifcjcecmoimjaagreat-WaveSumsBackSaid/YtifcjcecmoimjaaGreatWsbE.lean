/- Parts of the proof: contracts of functions, each walked once, and plain laws. -/
import Derived.Test.YtifcjcecmoimjaaGreatWsbD
namespace Go.Proofs.YtifcjcecmoimjaaGreat
open Go.RowKit
set_option linter.unusedVariables false
theorem k_suitable {u w : World} {W : WL} (d : Dat u w) (hW : WdOK W) (hf : 1 ≤ W.f) : Calls Tryz.prog 93 #[W.v] w (Post u w fun v _ => v = .bool true) := by
 obtain ⟨hw1, hw2, hw3, hw4, hw5, hw6, hw7, hw8⟩ := id hW
 refine zzm (args := [.agg #[.int .i64 W.b, .int .i64 W.f, .int .i64 W.r, .int .i64 W.o]]) Tryz.func93 rfl Tryz.ntmps93 (rs := [.tmp 2]) Tryz.results93 (le_b rfl) (le_b rfl) d ?_
 refine sq9 (zzk 1 ⟨34, W.cs⟩ (zza 2 (zB false) (zzb (sq9 (zzi 3 (.v (W.v)) ty34 zze (zzg 4 54 [W.v] ?_))))))
 intro w11 u11 e11 d11
 have k14 := k_fxValid (W := W) d11 hW
 with_reducible refine zPm k14 ?_
 rintro _ u12 g13 rfl
 refine zza 5 (zB true) (zza 6 (.adr 1 1) ?_ (hw := w1 2 true 5))
 refine zzi 7 (zI W.f) ty3 zzl ?_ (hw := w1 2 true 5)
 refine zza 8 (zB (decide ((1 : Int) ≤ W.f))) ?_ (hw := w1 2 true 5)
 refine zza 9 (zB (decide ((1 : Int) ≤ W.f))) (zza 2 (zB (decide ((1 : Int) ≤ W.f))) (zzb (zzo (ret0 [.bool (decide ((1 : Int) ≤ W.f))] ⟨zzq, trivial⟩ fun u15 e16 => ?_))))
 show Value.bool _ = Value.bool _
 rw [show (decide ((1 : Int) ≤ W.f)) = true from decide_eq_true xq]
set_option maxHeartbeats 1000000 in
theorem k_permitted1 {u w : World} {W : WL} {g : Int} (hg0 : -Nt.p2i W.f < g) (hg1 : g < Nt.p2i W.f) (d : Dat u w) (hW : WdOK W) : Calls Tryz.prog 94 #[(⟨1, g, 0⟩ : PL).v, W.v] w (Post u w fun v _ => v = .bool true) := by
 obtain ⟨hw1, hw2, hw3, hw4, hw5, hw6, hw7, hw8⟩ := id hW
 have hu0 := Nt.zxq W.f
 have hu1 := Nt.p2i_24 (n := W.f) xq
 have hu2 := Nt.zwh (a := W.f) (b := W.b - 1) xq
 have hu3 := Nt.p2i_24 (n := W.b - 1) xq
 refine zzm (args := [.agg #[.int .i64 1, .int .i64 g, .int .i64 0], .agg #[.int .i64 W.b, .int .i64 W.f, .int .i64 W.r, .int .i64 W.o]]) Tryz.func94 rfl Tryz.ntmps94 (rs := [.tmp 4]) Tryz.results94 (le_b rfl) (le_b rfl) d ?_
 refine sq9 (zzk 2 ⟨114, [.int .i64 1, .int .i64 g, .int .i64 0]⟩ (zzk 3 ⟨34, W.cs⟩ (zza 4 (zB false) (zzb (zzd (sq9 (zza 8 (.adr 2 0) (zzi 9 (zI 1) ty3 zzl (zza 10 (zB false) (zza 11 (zB false) (zzn 12 (uw 3 true false 11) ?_)))))))))))
 refine zzn 13 (uw 3 true false 11) (zzn 14 (uw 3 true false 11) (zza 15 (zB false) (zzb (zys xj (zzs (zzp ?_))))))
 refine zzd (sq9 (zza 16 (.adr 2 0) (zzi 17 (zI 1) ty3 zzl (zza 18 (zB true) (zza 19 (zB true) (zza 20 (.adr 2 1) ?_ (hw := w1 3 true 19)))))))
 refine zza 21 (.adr 2 2) ?_ (hw := w1 3 true 19)
 refine zzi 22 (zI 0) ty3 zzl ?_ (hw := w1 3 true 19)
 refine zza 23 (zB false) ?_ (hw := w1 3 true 19)
 refine zza 24 (zB false) (zzb (zys xj (zzs (zzp ?_))))
 refine sq9 (zza 25 (.adr 3 1) (zzi 26 (zI W.f) ty3 zzl (sy_shl 27 (k := .i64) (s := W.f) (Nt.p2i W.f) xq yw (shl_one xq xq) ?_)))
 refine zza 5 (zI (Nt.p2i W.f)) (zzb (zzd (sq9 (zza 28 (.adr 2 1) (zzi 29 (.v (.agg #[.int .i64 g, .int .i64 0])) ty30 zze (zza 30 (zI 0) (zzb (zzt (sw_rounds 2 ?_)))))))))
 refine sq9 (zza 31 (zB true) (zzb (zzd (zyr xj (zzs (zzp ?_))))))
 refine zzd (zzt (sq9 (zza 32 (zI g) (zza 7 (zI g) (zzb (zzd (sq9 (zza 33 (zI g) (zza 34 (zI (Nt.p2i W.f)) (zyq 35 (x := zI (IntKind.i64.wrap (0 - (Nt.p2i W.f)))) (zI (-(Nt.p2i W.f))) (eqI xz) (zza 36 (zB (decide (g ≤ (-(Nt.p2i W.f))))) ?_)))))))))))
 refine zyq 37 (x := zB (decide (g ≤ (-(Nt.p2i W.f))))) (zB false) (by rw [show (decide (g ≤ (-(Nt.p2i W.f)))) = false from decide_eq_false xq]) (zza 38 (zI g) ?_ (hw := w1 4 false 37))
 refine zza 39 (zI (Nt.p2i W.f)) ?_ (hw := w1 4 false 37)
 refine zza 40 (zB (decide ((Nt.p2i W.f) ≤ g))) ?_ (hw := w1 4 false 37)
 refine zza 41 (zB (decide ((Nt.p2i W.f) ≤ g))) (zzc 54 [(3, .adr 3 0), (5, zI (Nt.p2i W.f)), (7, zI g), (29, .v (.agg #[.int .i64 g, .int .i64 0])), (30, zI 0), (41, zB (decide ((Nt.p2i W.f) ≤ g)))] [(3, ⟨34, W.cs⟩)] (zzu (b := decide ((Nt.p2i W.f) ≤ g)) xj (fun hb => ?_) (fun hb => ?_)))
 ·exact absurd hb (by rw [show (decide ((Nt.p2i W.f) ≤ g)) = false from decide_eq_false xq]; decide)
 ·clear hb
  refine zzs (zzp ?_)
  refine sq9 (zzi 42 (.v (W.v)) ty34 zze (zza 43 (zI g) (zzg 44 86 [W.v, .int .i64 g] ?_)))
  intro w12 u12 e12 d12
  have k15 := k_fxFits (W := W) (z := g) d12 hW xq xq
  with_reducible refine zPm k15 ?_
  rintro _ u13 g14 rfl
  refine zza 45 (zB false) (zza 46 (zB false) (zzi 47 (.v (W.v)) ty34 zze ?_ (hw := w1 4 false 46)))
  refine zza 48 (zI g) ?_ (hw := w1 4 false 46)
  refine zyq 49 (x := zI (IntKind.i64.wrap (0 - g))) (zI (-g)) (eqI xz) ?_ (hw := w1 4 false 46)
  refine zzg 50 86 [W.v, .int .i64 (-g)] ?_ (hw := w1 4 false 46)
  intro w16 u16 e16 d16
  have k19 := k_fxFits (W := W) (z := -g) d16 hW xq xq
  with_reducible refine zPm k19 ?_
  rintro _ u17 g18 rfl
  refine zza 51 (zB false) ?_ (hw := w1 4 false 46)
  refine zza 52 (zB false) (zzb (zys xj (zzs (zzp ?_))))
  refine zzf (zza 53 (zI 1) (zza 30 (zI 1) (zzx ?_)))
  refine rn_next ?_
  refine sw_weak (T := St.of 54 [(3, .adr 3 0), (5, zI (Nt.p2i W.f)), (29, .v (.agg #[.int .i64 g, .int .i64 0])), (30, zI 1)] [(3, ⟨34, [.int .i64 W.b, .int .i64 W.f, .int .i64 W.r, .int .i64 W.o]⟩)]) yz ?_
  refine sq9 (zza 31 (zB true) (zzb (zzd (zyr xj (zzs (zzp ?_))))))
  refine zzd (zzt (sq9 (zza 32 (zI 0) (zza 7 (zI 0) (zzb (zzd (sq9 (zza 33 (zI 0) (zza 34 (zI (Nt.p2i W.f)) (zyq 35 (x := zI (IntKind.i64.wrap (0 - (Nt.p2i W.f)))) (zI (-(Nt.p2i W.f))) (eqI xz) (zza 36 (zB (decide ((0 : Int) ≤ (-(Nt.p2i W.f))))) ?_)))))))))))
  refine zyq 37 (x := zB (decide ((0 : Int) ≤ (-(Nt.p2i W.f))))) (zB false) (by rw [show (decide ((0 : Int) ≤ (-(Nt.p2i W.f)))) = false from decide_eq_false xq]) (zza 38 (zI 0) ?_ (hw := w1 4 false 37))
  refine zza 39 (zI (Nt.p2i W.f)) ?_ (hw := w1 4 false 37)
  refine zza 40 (zB (decide ((Nt.p2i W.f) ≤ 0))) ?_ (hw := w1 4 false 37)
  refine zza 41 (zB (decide ((Nt.p2i W.f) ≤ 0))) (zzb (zzu (b := decide ((Nt.p2i W.f) ≤ 0)) xj (fun hb => ?_) (fun hb => ?_)))
  ·exact absurd hb (by rw [show (decide ((Nt.p2i W.f) ≤ 0)) = false from decide_eq_false xq]; decide)
  ·clear hb
   refine zzs (zzp ?_)
   refine sq9 (zzi 42 (.v (W.v)) ty34 zze (zza 43 (zI 0) (zzg 44 86 [W.v, .int .i64 0] ?_)))
   intro w21 u21 e21 d21
   have k24 := k_fxFits (W := W) (z := 0) d21 hW xq xq
   with_reducible refine zPm k24 ?_
   rintro _ u22 g23 rfl
   refine zza 45 (zB false) (zza 46 (zB false) (zzi 47 (.v (W.v)) ty34 zze ?_ (hw := w1 4 false 46)))
   refine zza 48 (zI 0) ?_ (hw := w1 4 false 46)
   refine zza 49 (zI 0) ?_ (hw := w1 4 false 46)
   refine zzg 50 86 [W.v, .int .i64 0] ?_ (hw := w1 4 false 46)
   intro w25 u25 e25 d25
   have k28 := k_fxFits (W := W) (z := 0) d25 hW xq xq
   with_reducible refine zPm k28 ?_
   rintro _ u26 g27 rfl
   refine zza 51 (zB false) ?_ (hw := w1 4 false 46)
   refine zza 52 (zB false) (zzc 54 [(3, .adr 3 0), (5, zI (Nt.p2i W.f)), (29, .v (.agg #[.int .i64 g, .int .i64 0])), (30, zI 1), (52, zB false)] [(3, ⟨34, W.cs⟩)] (zys xj (zzs (zzp ?_))))
   refine zzf (zza 53 (zI 2) (zza 30 (zI 2) (zzx ?_)))
   refine rn_next ?_
   refine sw_weak (T := St.of 54 [(3, .adr 3 0), (5, zI (Nt.p2i W.f)), (29, .v (.agg #[.int .i64 g, .int .i64 0])), (30, zI 2)] [(3, ⟨34, [.int .i64 W.b, .int .i64 W.f, .int .i64 W.r, .int .i64 W.o]⟩)]) yz ?_
   refine sq9 (zza 31 (zB false) (zzb (zzd (zys xj (zyc (zzp (sq9 (zza 4 (zB true) (zzb (zzo (ret0 [.bool true] ⟨zzq, trivial⟩ fun u29 e30 => ?_)))))))))))
   rfl
set_option maxHeartbeats 1000000 in
theorem k_permitted2 {u w : World} {W : WL} {g h : Int} (hg0 : -Nt.p2i W.f < g) (hg1 : g < Nt.p2i W.f) (hh0 : -Nt.p2i W.f < h) (hh1 : h < Nt.p2i W.f) (d : Dat u w) (hW : WdOK W) : Calls Tryz.prog 94 #[(⟨2, g, h⟩ : PL).v, W.v] w (Post u w fun v _ => v = .bool true) := by
 obtain ⟨hw1, hw2, hw3, hw4, hw5, hw6, hw7, hw8⟩ := id hW
 have hu0 := Nt.zxq W.f
 have hu1 := Nt.p2i_24 (n := W.f) xq
 have hu2 := Nt.zwh (a := W.f) (b := W.b - 1) xq
 have hu3 := Nt.p2i_24 (n := W.b - 1) xq
 refine zzm (args := [.agg #[.int .i64 2, .int .i64 g, .int .i64 h], .agg #[.int .i64 W.b, .int .i64 W.f, .int .i64 W.r, .int .i64 W.o]]) Tryz.func94 rfl Tryz.ntmps94 (rs := [.tmp 4]) Tryz.results94 (le_b rfl) (le_b rfl) d ?_
 refine sq9 (zzk 2 ⟨114, [.int .i64 2, .int .i64 g, .int .i64 h]⟩ (zzk 3 ⟨34, W.cs⟩ (zza 4 (zB false) (zzb (zzd (sq9 (zza 8 (.adr 2 0) (zzi 9 (zI 2) ty3 zzl (zza 10 (zB true) (zza 11 (zB true) (zza 12 (.adr 2 0) ?_ (hw := w1 3 true 11))))))))))))
 refine zzi 13 (zI 2) ty3 zzl ?_ (hw := w1 3 true 11)
 refine zza 14 (zB false) ?_ (hw := w1 3 true 11)
 refine zza 15 (zB false) (zzb (zys xj (zzs (zzp ?_))))
 refine zzd (sq9 (zza 16 (.adr 2 0) (zzi 17 (zI 2) ty3 zzl (zza 18 (zB false) (zza 19 (zB false) (zzn 20 (uw 3 true false 19) (zzn 21 (uw 3 true false 19) (zzn 22 (uw 3 true false 19) (zzn 23 (uw 3 true false 19) (zza 24 (zB false) (zzb ?_)))))))))))
 refine zys xj (zzs (zzp ?_))
 refine sq9 (zza 25 (.adr 3 1) (zzi 26 (zI W.f) ty3 zzl (sy_shl 27 (k := .i64) (s := W.f) (Nt.p2i W.f) xq yw (shl_one xq xq) ?_)))
 refine zza 5 (zI (Nt.p2i W.f)) (zzb (zzd (sq9 (zza 28 (.adr 2 1) (zzi 29 (.v (.agg #[.int .i64 g, .int .i64 h])) ty30 zze (zza 30 (zI 0) (zzb (zzt (sw_rounds 2 ?_)))))))))
 refine sq9 (zza 31 (zB true) (zzb (zzd (zyr xj (zzs (zzp ?_))))))
 refine zzd (zzt (sq9 (zza 32 (zI g) (zza 7 (zI g) (zzb (zzd (sq9 (zza 33 (zI g) (zza 34 (zI (Nt.p2i W.f)) (zyq 35 (x := zI (IntKind.i64.wrap (0 - (Nt.p2i W.f)))) (zI (-(Nt.p2i W.f))) (eqI xz) (zza 36 (zB (decide (g ≤ (-(Nt.p2i W.f))))) ?_)))))))))))
 refine zyq 37 (x := zB (decide (g ≤ (-(Nt.p2i W.f))))) (zB false) (by rw [show (decide (g ≤ (-(Nt.p2i W.f)))) = false from decide_eq_false xq]) (zza 38 (zI g) ?_ (hw := w1 4 false 37))
 refine zza 39 (zI (Nt.p2i W.f)) ?_ (hw := w1 4 false 37)
 refine zza 40 (zB (decide ((Nt.p2i W.f) ≤ g))) ?_ (hw := w1 4 false 37)
 refine zza 41 (zB (decide ((Nt.p2i W.f) ≤ g))) (zzc 54 [(3, .adr 3 0), (5, zI (Nt.p2i W.f)), (7, zI g), (29, .v (.agg #[.int .i64 g, .int .i64 h])), (30, zI 0), (41, zB (decide ((Nt.p2i W.f) ≤ g)))] [(3, ⟨34, W.cs⟩)] (zzu (b := decide ((Nt.p2i W.f) ≤ g)) xj (fun hb => ?_) (fun hb => ?_)))
 ·exact absurd hb (by rw [show (decide ((Nt.p2i W.f) ≤ g)) = false from decide_eq_false xq]; decide)
 ·clear hb
  refine zzs (zzp ?_)
  refine sq9 (zzi 42 (.v (W.v)) ty34 zze (zza 43 (zI g) (zzg 44 86 [W.v, .int .i64 g] ?_)))
  intro w12 u12 e12 d12
  have k15 := k_fxFits (W := W) (z := g) d12 hW xq xq
  with_reducible refine zPm k15 ?_
  rintro _ u13 g14 rfl
  refine zza 45 (zB false) (zza 46 (zB false) (zzi 47 (.v (W.v)) ty34 zze ?_ (hw := w1 4 false 46)))
  refine zza 48 (zI g) ?_ (hw := w1 4 false 46)
  refine zyq 49 (x := zI (IntKind.i64.wrap (0 - g))) (zI (-g)) (eqI xz) ?_ (hw := w1 4 false 46)
  refine zzg 50 86 [W.v, .int .i64 (-g)] ?_ (hw := w1 4 false 46)
  intro w16 u16 e16 d16
  have k19 := k_fxFits (W := W) (z := -g) d16 hW xq xq
  with_reducible refine zPm k19 ?_
  rintro _ u17 g18 rfl
  refine zza 51 (zB false) ?_ (hw := w1 4 false 46)
  refine zza 52 (zB false) (zzb (zys xj (zzs (zzp ?_))))
  refine zzf (zza 53 (zI 1) (zza 30 (zI 1) (zzx ?_)))
  refine rn_next ?_
  refine sw_weak (T := St.of 54 [(3, .adr 3 0), (5, zI (Nt.p2i W.f)), (29, .v (.agg #[.int .i64 g, .int .i64 h])), (30, zI 1)] [(3, ⟨34, [.int .i64 W.b, .int .i64 W.f, .int .i64 W.r, .int .i64 W.o]⟩)]) yz ?_
  refine sq9 (zza 31 (zB true) (zzb (zzd (zyr xj (zzs (zzp ?_))))))
  refine zzd (zzt (sq9 (zza 32 (zI h) (zza 7 (zI h) (zzb (zzd (sq9 (zza 33 (zI h) (zza 34 (zI (Nt.p2i W.f)) (zyq 35 (x := zI (IntKind.i64.wrap (0 - (Nt.p2i W.f)))) (zI (-(Nt.p2i W.f))) (eqI xz) (zza 36 (zB (decide (h ≤ (-(Nt.p2i W.f))))) ?_)))))))))))
  refine zyq 37 (x := zB (decide (h ≤ (-(Nt.p2i W.f))))) (zB false) (by rw [show (decide (h ≤ (-(Nt.p2i W.f)))) = false from decide_eq_false xq]) (zza 38 (zI h) ?_ (hw := w1 4 false 37))
  refine zza 39 (zI (Nt.p2i W.f)) ?_ (hw := w1 4 false 37)
  refine zza 40 (zB (decide ((Nt.p2i W.f) ≤ h))) ?_ (hw := w1 4 false 37)
  refine zza 41 (zB (decide ((Nt.p2i W.f) ≤ h))) (zzb (zzu (b := decide ((Nt.p2i W.f) ≤ h)) xj (fun hb => ?_) (fun hb => ?_)))
  ·exact absurd hb (by rw [show (decide ((Nt.p2i W.f) ≤ h)) = false from decide_eq_false xq]; decide)
  ·clear hb
   refine zzs (zzp ?_)
   refine sq9 (zzi 42 (.v (W.v)) ty34 zze (zza 43 (zI h) (zzg 44 86 [W.v, .int .i64 h] ?_)))
   intro w21 u21 e21 d21
   have k24 := k_fxFits (W := W) (z := h) d21 hW xq xq
   with_reducible refine zPm k24 ?_
   rintro _ u22 g23 rfl
   refine zza 45 (zB false) (zza 46 (zB false) (zzi 47 (.v (W.v)) ty34 zze ?_ (hw := w1 4 false 46)))
   refine zza 48 (zI h) ?_ (hw := w1 4 false 46)
   refine zyq 49 (x := zI (IntKind.i64.wrap (0 - h))) (zI (-h)) (eqI xz) ?_ (hw := w1 4 false 46)
   refine zzg 50 86 [W.v, .int .i64 (-h)] ?_ (hw := w1 4 false 46)
   intro w25 u25 e25 d25
   have k28 := k_fxFits (W := W) (z := -h) d25 hW xq xq
   with_reducible refine zPm k28 ?_
   rintro _ u26 g27 rfl
   refine zza 51 (zB false) ?_ (hw := w1 4 false 46)
   refine zza 52 (zB false) (zzc 54 [(3, .adr 3 0), (5, zI (Nt.p2i W.f)), (29, .v (.agg #[.int .i64 g, .int .i64 h])), (30, zI 1), (52, zB false)] [(3, ⟨34, W.cs⟩)] (zys xj (zzs (zzp ?_))))
   refine zzf (zza 53 (zI 2) (zza 30 (zI 2) (zzx ?_)))
   refine rn_next ?_
   refine sw_weak (T := St.of 54 [(3, .adr 3 0), (5, zI (Nt.p2i W.f)), (29, .v (.agg #[.int .i64 g, .int .i64 h])), (30, zI 2)] [(3, ⟨34, [.int .i64 W.b, .int .i64 W.f, .int .i64 W.r, .int .i64 W.o]⟩)]) yz ?_
   refine sq9 (zza 31 (zB false) (zzb (zzd (zys xj (zyc (zzp (sq9 (zza 4 (zB true) (zzb (zzo (ret0 [.bool true] ⟨zzq, trivial⟩ fun u29 e30 => ?_)))))))))))
   rfl
theorem pas_split {f : Int} {p : PL} (h : PasOK f p) : (∃ g, p = ⟨1, g, 0⟩ ∧ -Nt.p2i f < g ∧ g < Nt.p2i f) ∨ (∃ g h, p = ⟨2, g, h⟩ ∧ -Nt.p2i f < g ∧ g < Nt.p2i f ∧ -Nt.p2i f < h ∧ h < Nt.p2i f) := by
 obtain ⟨o, g, h'⟩ := p
 obtain ⟨h1, h2, h3, h4, h5⟩ := h
 rcases h1 with ⟨h6, h7⟩ | h6
 ·have h6 : o = 1 := h6
  have h7 : h' = 0 := h7
  subst h6 h7
  exact .inl ⟨g, rfl, h2, h3⟩
 ·have h6 : o = 2 := h6
  subst h6
  exact .inr ⟨g, h', rfl, h2, h3, h4, h5⟩
theorem k_permitted {u w : World} {W : WL} {p : PL} (d : Dat u w) (hW : WdOK W) (hp : PasOK W.f p) : Calls Tryz.prog 94 #[p.v, W.v] w (Post u w fun v _ => v = .bool true) := by
 rcases pas_split hp with ⟨g, rfl, h1, h2⟩ | ⟨g, h, rfl, h1, h2, h3, h4⟩
 ·exact k_permitted1 h1 h2 d hW
 ·exact k_permitted2 h1 h2 h3 h4 d hW
set_option maxHeartbeats 1000000 in
theorem k_section1 {u w : World} {W : WL} {g : Int} (hg0 : -Nt.p2i W.f < g) (hg1 : g < Nt.p2i W.f) (d : Dat u w) (hW : WdOK W) : Calls Tryz.prog 95 #[(⟨1, g, 0⟩ : PL).v, W.v] w (Post u w fun v u' => ∃ y z : Sl, v = .agg #[y.v, z.v] ∧ PolN u' y (Nt.trimQ (Nt.secB W.f (⟨1, g, 0⟩ : PL))) 10 ∧ PolN u' z (Nt.trimQ (Nt.secA W.f (⟨1, g, 0⟩ : PL))) 10) := by
 obtain ⟨hw1, hw2, hw3, hw4, hw5, hw6, hw7, hw8⟩ := id hW
 have hu0 := Nt.zxq W.f
 have hu1 := Nt.p2i_24 (n := W.f) xq
 have hu2 := Nt.zwh (a := W.f) (b := W.b - 1) xq
 have hu3 := Nt.p2i_24 (n := W.b - 1) xq
 refine zzm (args := [.agg #[.int .i64 1, .int .i64 g, .int .i64 0], .agg #[.int .i64 W.b, .int .i64 W.f, .int .i64 W.r, .int .i64 W.o]]) Tryz.func95 rfl Tryz.ntmps95 (rs := [.cell 4 42]) Tryz.results95 (le_b rfl) (le_b rfl) d ?_
 refine sq9 (zzk 2 ⟨114, [.int .i64 1, .int .i64 g, .int .i64 0]⟩ (zzk 3 ⟨34, W.cs⟩ (zzk 4 ⟨42, [.slice none 0 0, .slice none 0 0]⟩ (zzb (sq9 (zzg 10 46 [.int .i64 1] ?_))))))
 intro w11 u11 e11 d11
 have k16 := k_ratOf d11 (z := 1) xq xq
 with_reducible refine zPm k16 ?_
 rintro _ u14 g15 ⟨r12, rfl, h13⟩
 refine zzk 5 ⟨74, [.bool false, .slice none 0 0, .slice none 0 0]⟩ (zzj ⟨74, r12.cs⟩ ty74 ?_)
 refine zzb (sq9 (zzi 11 (.v (W.v)) ty34 zze (zza 12 (.adr 2 1) (zza 13 (.adr 2 1) (zzi 14 (zI g) ty3 zzl (zzg 15 47 [W.v, .int .i64 g] ?_))))))
 intro w17 u17 e17 d17
 have k22 := k_fxValue (W := W) (z := g) d17 hW xq xq
 with_reducible refine zPm k22 ?_
 rintro _ u20 g21 ⟨r18, rfl, h19⟩
 refine zzk 6 ⟨74, [.bool false, .slice none 0 0, .slice none 0 0]⟩ (zzj ⟨74, r18.cs⟩ ty74 ?_)
 refine zzb (sq9 (zzi 16 (.v (r18.v)) ty74 zze (zzg 17 123 [r18.v] ?_)))
 intro w23 u23 e23 d23
 have k28 := k_ratNeg d23 (h19.ext e23).raw xq
 with_reducible refine zPm k28 ?_
 rintro _ u26 g27 ⟨r24, rfl, h25⟩
 refine zzk 7 ⟨74, [.bool false, .slice none 0 0, .slice none 0 0]⟩ (zzj ⟨74, r24.cs⟩ ty74 ?_)
 refine zzb (zzd (sq9 (zza 18 (.adr 2 0) (zzi 19 (zI 1) ty3 zzl (zza 20 (zB true) (zzb (zyr xj (zzd (zzz [0, 0, 3, 7, 0, 0, 48, 127, 255, 511] [(0, []), (1, []), (2, []), (4, []), (5, []), (6, []), (3, [23]), (7, [27]), (8, []), (9, [])] xj xj (zzi 21 (.v (r24.v)) ty74 zze (zzi 22 (.v (r12.v)) ty74 zze ?_)))))))))))
 refine sy_lit 23 ⟨74, r24.cs ++ r12.cs⟩ 2 ?_
 refine zzi 25 (.v (r12.v)) ty74 zze (zzi 26 (.v (r24.v)) ty74 zze (sy_lit 27 ⟨74, r12.cs ++ r24.cs⟩ 2 ?_))
 refine zyo 24 76 [.slc 23 0 2 2] [23] (.inr rfl) (pub_mk xk) (k := ?_)
 intro B29 w29 u29 e29 d29 v29
 have h31 : u29.heap[B29 23]? = some (.cells #[.bool r24.s, .slice r24.m.a r24.m.n r24.m.c, .slice r24.d.a r24.d.n r24.d.c, .bool r12.s, .slice r12.m.a r12.m.n r12.m.c, .slice r12.d.a r12.d.n r12.d.c] 74 (0, 0)) := v29 23 zq _ rfl
 obtain ⟨b30, hBb30⟩ : ∃ b, B29 23 = b := ⟨_, rfl⟩
 rw [hBb30] at h31
 have hp32 : PolN u29 (⟨some ⟨b30, 0, none⟩, 2, 2⟩ : Sl) [(-(((g : Int) : Rat) / ((Nt.p2i W.f : Int) : Rat))), ((1 : Int) : Rat)] 2 := pol_lit (L := [r24, r12]) h31 (rats2 (h25.ext e29) (h13.ext (e17.trans (g21.ext.trans (e23.trans (g27.ext.trans e29)))))) rfl yv
 show Calls _ _ #[.slice (some ⟨B29 23, 0, none⟩) 2 2] _ _
 rw [hBb30]
 have k37 := k_poTrim d29 hp32.raw xq (by first | omega | (simp; done) | (simp; omega))
 with_reducible refine zPm k37 ?_
 rintro _ u35 g36 ⟨y33, rfl, h34⟩
 have hly33 := h34.len
 refine zyo 28 76 [.slc 27 0 2 2] [27] (.inr rfl) (pub_mk xk) (k := ?_)
 intro B38 w38 u38 e38 d38 v38
 have h40 : u38.heap[B38 27]? = some (.cells #[.bool r12.s, .slice r12.m.a r12.m.n r12.m.c, .slice r12.d.a r12.d.n r12.d.c, .bool r24.s, .slice r24.m.a r24.m.n r24.m.c, .slice r24.d.a r24.d.n r24.d.c] 74 (0, 0)) := v38 27 zq _ rfl
 obtain ⟨b39, hBb39⟩ : ∃ b, B38 27 = b := ⟨_, rfl⟩
 rw [hBb39] at h40
 have hp41 : PolN u38 (⟨some ⟨b39, 0, none⟩, 2, 2⟩ : Sl) [((1 : Int) : Rat), (-(((g : Int) : Rat) / ((Nt.p2i W.f : Int) : Rat)))] 2 := pol_lit (L := [r12, r24]) h40 (rats2 (h13.ext (e17.trans (g21.ext.trans (e23.trans (g27.ext.trans (e29.trans (g36.ext.trans e38))))))) (h25.ext (e29.trans (g36.ext.trans e38)))) rfl yv
 show Calls _ _ #[.slice (some ⟨B38 27, 0, none⟩) 2 2] _ _
 rw [hBb39]
 have k46 := k_poTrim d38 hp41.raw xq (by first | omega | (simp; done) | (simp; omega))
 with_reducible refine zPm k46 ?_
 rintro _ u44 g45 ⟨y42, rfl, h43⟩
 have hly42 := h43.len
 refine zza 29 (.v (.agg #[y33.v, y42.v])) (zzj ⟨42, [y33.v, y42.v]⟩ ty42 ?_)
 refine zzb (zzo (zzw (ret0 [.agg #[.slice y33.a y33.n y33.c, .slice y42.a y42.n y42.c]] ⟨zzr ty42 zze, trivial⟩ fun u47 e48 => ?_)))
 exact ⟨y33, y42, rfl, PolN.more (K := 2) (h34.ext (e38.trans (g45.ext.trans e48))) xq, PolN.more (K := 2) (h43.ext e48) xq⟩
set_option maxHeartbeats 1000000 in
theorem k_section2 {u w : World} {W : WL} {g h : Int} (hg0 : -Nt.p2i W.f < g) (hg1 : g < Nt.p2i W.f) (hh0 : -Nt.p2i W.f < h) (hh1 : h < Nt.p2i W.f) (d : Dat u w) (hW : WdOK W) : Calls Tryz.prog 95 #[(⟨2, g, h⟩ : PL).v, W.v] w (Post u w fun v u' => ∃ y z : Sl, v = .agg #[y.v, z.v] ∧ PolN u' y (Nt.trimQ (Nt.secB W.f (⟨2, g, h⟩ : PL))) 10 ∧ PolN u' z (Nt.trimQ (Nt.secA W.f (⟨2, g, h⟩ : PL))) 10) := by
 obtain ⟨hw1, hw2, hw3, hw4, hw5, hw6, hw7, hw8⟩ := id hW
 have hu0 := Nt.zxq W.f
 have hu1 := Nt.p2i_24 (n := W.f) xq
 have hu2 := Nt.zwh (a := W.f) (b := W.b - 1) xq
 have hu3 := Nt.p2i_24 (n := W.b - 1) xq
 refine zzm (args := [.agg #[.int .i64 2, .int .i64 g, .int .i64 h], .agg #[.int .i64 W.b, .int .i64 W.f, .int .i64 W.r, .int .i64 W.o]]) Tryz.func95 rfl Tryz.ntmps95 (rs := [.cell 4 42]) Tryz.results95 (le_b rfl) (le_b rfl) d ?_
 refine sq9 (zzk 2 ⟨114, [.int .i64 2, .int .i64 g, .int .i64 h]⟩ (zzk 3 ⟨34, W.cs⟩ (zzk 4 ⟨42, [.slice none 0 0, .slice none 0 0]⟩ (zzb (sq9 (zzg 10 46 [.int .i64 1] ?_))))))
 intro w11 u11 e11 d11
 have k16 := k_ratOf d11 (z := 1) xq xq
 with_reducible refine zPm k16 ?_
 rintro _ u14 g15 ⟨r12, rfl, h13⟩
 refine zzk 5 ⟨74, [.bool false, .slice none 0 0, .slice none 0 0]⟩ (zzj ⟨74, r12.cs⟩ ty74 ?_)
 refine zzb (sq9 (zzi 11 (.v (W.v)) ty34 zze (zza 12 (.adr 2 1) (zza 13 (.adr 2 1) (zzi 14 (zI g) ty3 zzl (zzg 15 47 [W.v, .int .i64 g] ?_))))))
 intro w17 u17 e17 d17
 have k22 := k_fxValue (W := W) (z := g) d17 hW xq xq
 with_reducible refine zPm k22 ?_
 rintro _ u20 g21 ⟨r18, rfl, h19⟩
 refine zzk 6 ⟨74, [.bool false, .slice none 0 0, .slice none 0 0]⟩ (zzj ⟨74, r18.cs⟩ ty74 ?_)
 refine zzb (sq9 (zzi 16 (.v (r18.v)) ty74 zze (zzg 17 123 [r18.v] ?_)))
 intro w23 u23 e23 d23
 have k28 := k_ratNeg d23 (h19.ext e23).raw xq
 with_reducible refine zPm k28 ?_
 rintro _ u26 g27 ⟨r24, rfl, h25⟩
 refine zzk 7 ⟨74, [.bool false, .slice none 0 0, .slice none 0 0]⟩ (zzj ⟨74, r24.cs⟩ ty74 ?_)
 refine zzb (zzd (sq9 (zza 18 (.adr 2 0) (zzi 19 (zI 2) ty3 zzl (zza 20 (zB false) (zzb (zys xj (zzs (zzp ?_)))))))))
 refine sq9 (zzi 30 (.v (W.v)) ty34 zze (zza 31 (.adr 2 1) (zza 32 (.adr 2 2) (zzi 33 (zI h) ty3 zzl (zzg 34 47 [W.v, .int .i64 h] ?_)))))
 intro w29 u29 e29 d29
 have k34 := k_fxValue (W := W) (z := h) d29 hW xq xq
 with_reducible refine zPm k34 ?_
 rintro _ u32 g33 ⟨r30, rfl, h31⟩
 refine zzk 8 ⟨74, [.bool false, .slice none 0 0, .slice none 0 0]⟩ (zzj ⟨74, r30.cs⟩ ty74 ?_)
 refine zzb (zzd (zzz [0, 0, 0, 6, 15, 0, 63] [(0, []), (1, []), (2, []), (5, []), (3, []), (4, []), (6, [])] xj xj (zzi 35 (.v (r30.v)) ty74 zze (zzi 36 (.v (r18.v)) ty74 zze (zzi 37 (.v (r12.v)) ty74 zze (zzk 9 ⟨74, [.bool false, .slice none 0 0, .slice none 0 0]⟩ (zzg 38 119 [r18.v, r12.v] ?_)))))))
 intro w35 u35 e35 d35
 have k40 := k_ratSub d35 (h19.ext (e23.trans (g27.ext.trans (e29.trans (g33.ext.trans e35))))).raw (h13.ext (e17.trans (g21.ext.trans (e23.trans (g27.ext.trans (e29.trans (g33.ext.trans e35))))))).raw xq xq
 with_reducible refine zPm k40 ?_
 rintro _ u38 g39 ⟨r36, rfl, h37⟩
 refine zzg 39 72 [r30.v, r36.v] ?_
 intro w41 u41 e41 d41
 have k46 := k_ratMul d41 (h31.ext (e35.trans (g39.ext.trans e41))).raw (h37.ext e41).raw xq xq
 with_reducible refine zPm k46 ?_
 rintro _ u44 g45 ⟨r42, rfl, h43⟩
 refine zzj ⟨74, r42.cs⟩ ty74 ?_
 refine zzc 51 [(4, .adr 4 0), (5, .adr 5 0), (7, .adr 7 0), (9, .adr 9 0)] [(4, ⟨42, [.slice none 0 0, .slice none 0 0]⟩), (5, ⟨74, r12.cs⟩), (7, ⟨74, r24.cs⟩), (9, ⟨74, r42.cs⟩)] (zzd (zzz [0, 0, 0, 7, 15, 0, 0, 0, 224, 511, 1023, 2047] [(0, []), (1, []), (2, []), (3, []), (5, []), (6, []), (7, []), (8, []), (4, [43]), (9, [48]), (10, []), (11, [])] xj xj (zzi 40 (.v (r24.v)) ty74 zze (zzi 41 (.v (r42.v)) ty74 zze (zzi 42 (.v (r12.v)) ty74 zze (sy_lit 43 ⟨74, r24.cs ++ r42.cs ++ r12.cs⟩ 3 ?_))))))
 refine zzi 45 (.v (r12.v)) ty74 zze (zzi 46 (.v (r42.v)) ty74 zze (zzi 47 (.v (r24.v)) ty74 zze (sy_lit 48 ⟨74, r12.cs ++ r42.cs ++ r24.cs⟩ 3 ?_)))
 refine zyo 44 76 [.slc 43 0 3 3] [43] (.inr rfl) (pub_mk xk) (k := ?_)
 intro B47 w47 u47 e47 d47 v47
 have h49 : u47.heap[B47 43]? = some (.cells #[.bool r24.s, .slice r24.m.a r24.m.n r24.m.c, .slice r24.d.a r24.d.n r24.d.c, .bool r42.s, .slice r42.m.a r42.m.n r42.m.c, .slice r42.d.a r42.d.n r42.d.c, .bool r12.s, .slice r12.m.a r12.m.n r12.m.c, .slice r12.d.a r12.d.n r12.d.c] 74 (0, 0)) := v47 43 zq _ rfl
 obtain ⟨b48, hBb48⟩ : ∃ b, B47 43 = b := ⟨_, rfl⟩
 rw [hBb48] at h49
 have hp50 : PolN u47 (⟨some ⟨b48, 0, none⟩, 3, 3⟩ : Sl) [(-(((g : Int) : Rat) / ((Nt.p2i W.f : Int) : Rat))), ((((h : Int) : Rat) / ((Nt.p2i W.f : Int) : Rat)) * ((((g : Int) : Rat) / ((Nt.p2i W.f : Int) : Rat)) - ((1 : Int) : Rat))), ((1 : Int) : Rat)] (max (max 2 (2 + (2 + 2 + 1))) 2) := pol_lit (L := [r24, r42, r12]) h49 (rats3 (RatN.more (L := (max (max 2 (2 + (2 + 2 + 1))) 2)) (h25.ext (e29.trans (g33.ext.trans (e35.trans (g39.ext.trans (e41.trans (g45.ext.trans e47))))))) xq) (RatN.more (L := (max (max 2 (2 + (2 + 2 + 1))) 2)) (h43.ext e47) xq) (RatN.more (L := (max (max 2 (2 + (2 + 2 + 1))) 2)) (h13.ext (e17.trans (g21.ext.trans (e23.trans (g27.ext.trans (e29.trans (g33.ext.trans (e35.trans (g39.ext.trans (e41.trans (g45.ext.trans e47))))))))))) xq)) rfl yv
 show Calls _ _ #[.slice (some ⟨B47 43, 0, none⟩) 3 3] _ _
 rw [hBb48]
 have k55 := k_poTrim d47 hp50.raw xq (by first | omega | (simp; done) | (simp; omega))
 with_reducible refine zPm k55 ?_
 rintro _ u53 g54 ⟨y51, rfl, h52⟩
 have hly51 := h52.len
 refine zyo 49 76 [.slc 48 0 3 3] [48] (.inr rfl) (pub_mk xk) (k := ?_)
 intro B56 w56 u56 e56 d56 v56
 have h58 : u56.heap[B56 48]? = some (.cells #[.bool r12.s, .slice r12.m.a r12.m.n r12.m.c, .slice r12.d.a r12.d.n r12.d.c, .bool r42.s, .slice r42.m.a r42.m.n r42.m.c, .slice r42.d.a r42.d.n r42.d.c, .bool r24.s, .slice r24.m.a r24.m.n r24.m.c, .slice r24.d.a r24.d.n r24.d.c] 74 (0, 0)) := v56 48 zq _ rfl
 obtain ⟨b57, hBb57⟩ : ∃ b, B56 48 = b := ⟨_, rfl⟩
 rw [hBb57] at h58
 have hp59 : PolN u56 (⟨some ⟨b57, 0, none⟩, 3, 3⟩ : Sl) [((1 : Int) : Rat), ((((h : Int) : Rat) / ((Nt.p2i W.f : Int) : Rat)) * ((((g : Int) : Rat) / ((Nt.p2i W.f : Int) : Rat)) - ((1 : Int) : Rat))), (-(((g : Int) : Rat) / ((Nt.p2i W.f : Int) : Rat)))] (max (max 2 (2 + (2 + 2 + 1))) 2) := pol_lit (L := [r12, r42, r24]) h58 (rats3 (RatN.more (L := (max (max 2 (2 + (2 + 2 + 1))) 2)) (h13.ext (e17.trans (g21.ext.trans (e23.trans (g27.ext.trans (e29.trans (g33.ext.trans (e35.trans (g39.ext.trans (e41.trans (g45.ext.trans (e47.trans (g54.ext.trans e56))))))))))))) xq) (RatN.more (L := (max (max 2 (2 + (2 + 2 + 1))) 2)) (h43.ext (e47.trans (g54.ext.trans e56))) xq) (RatN.more (L := (max (max 2 (2 + (2 + 2 + 1))) 2)) (h25.ext (e29.trans (g33.ext.trans (e35.trans (g39.ext.trans (e41.trans (g45.ext.trans (e47.trans (g54.ext.trans e56))))))))) xq)) rfl yv
 show Calls _ _ #[.slice (some ⟨B56 48, 0, none⟩) 3 3] _ _
 rw [hBb57]
 have k64 := k_poTrim d56 hp59.raw xq (by first | omega | (simp; done) | (simp; omega))
 with_reducible refine zPm k64 ?_
 rintro _ u62 g63 ⟨y60, rfl, h61⟩
 have hly60 := h61.len
 refine zza 50 (.v (.agg #[y51.v, y60.v])) (zzj ⟨42, [y51.v, y60.v]⟩ ty42 ?_)
 refine zzb (zzo (ret0 [.agg #[.slice y51.a y51.n y51.c, .slice y60.a y60.n y60.c]] ⟨zzr ty42 zze, trivial⟩ fun u65 e66 => ?_))
 exact ⟨y51, y60, rfl, PolN.more (K := (max (max 2 (2 + (2 + 2 + 1))) 2)) (h52.ext (e56.trans (g63.ext.trans e66))) xq, PolN.more (K := (max (max 2 (2 + (2 + 2 + 1))) 2)) (h61.ext e66) xq⟩
theorem k_section {u w : World} {W : WL} {p : PL} (d : Dat u w) (hW : WdOK W) (hp : PasOK W.f p) : Calls Tryz.prog 95 #[p.v, W.v] w (Post u w fun v u' => ∃ y z : Sl, v = .agg #[y.v, z.v] ∧ PolN u' y (Nt.trimQ (Nt.secB W.f p)) 10 ∧ PolN u' z (Nt.trimQ (Nt.secA W.f p)) 10) := by
 rcases pas_split hp with ⟨g, rfl, h1, h2⟩ | ⟨g, h, rfl, h1, h2, h3, h4⟩
 ·exact k_section1 h1 h2 d hW
 ·exact k_section2 h1 h2 h3 h4 d hW
theorem k_branch0 {u w : World} {x y : Sl} (d : Dat u w) : Calls Tryz.prog 56 #[.agg #[x.v, y.v], .int .i64 0] w (Post u w fun v _ => v = x.v) := by
 refine zzm (args := [.agg #[.slice x.a x.n x.c, .slice y.a y.n y.c], .int .i64 0]) Tryz.func56 rfl Tryz.ntmps56 (rs := [.tmp 4]) Tryz.results56 (le_b rfl) (le_b rfl) d ?_
 refine sq9 (zzk 2 ⟨51, [x.v, y.v]⟩ (zza 4 (.v (.slice none 0 0)) (zzb (zzd (sq9 (zza 5 (zI 0) (zza 6 (zB true) (zzb (zyr xj (sq9 (zza 7 (.adr 2 0) ?_)))))))))))
 refine zzi 8 (.v x.v) ty49 zzl (zza 4 (.v x.v) (zzb (zzo (zzw (ret0 [.slice x.a x.n x.c] ⟨zzq, trivial⟩ fun u11 e12 => ?_)))))
 rfl
theorem k_branch1 {u w : World} {x y : Sl} (d : Dat u w) : Calls Tryz.prog 56 #[.agg #[x.v, y.v], .int .i64 1] w (Post u w fun v _ => v = y.v) := by
 refine zzm (args := [.agg #[.slice x.a x.n x.c, .slice y.a y.n y.c], .int .i64 1]) Tryz.func56 rfl Tryz.ntmps56 (rs := [.tmp 4]) Tryz.results56 (le_b rfl) (le_b rfl) d ?_
 refine sq9 (zzk 2 ⟨51, [x.v, y.v]⟩ (zza 4 (.v (.slice none 0 0)) (zzb (zzd (sq9 (zza 5 (zI 1) (zza 6 (zB false) (zzb (zys xj (zzs (zzp ?_)))))))))))
 refine sq9 (zza 9 (.adr 2 1) (zzi 10 (.v y.v) ty49 zzl (zza 4 (.v y.v) (zzb (zzo (ret0 [.slice y.a y.n y.c] ⟨zzq, trivial⟩ fun u11 e12 => ?_))))))
 rfl
set_option maxHeartbeats 2000000 in
theorem k_wvValid {u w : World} {W : WL} {x y : Sl} {L M : List PL} (d : Dat u w) (hx : PasV u x L) (hpx : ∀ p ∈ L, PasOK W.f p) (hnx : L.length ≤ 4) (hy : PasV u y M) (hpy : ∀ p ∈ M, PasOK W.f p) (hny : M.length ≤ 4) (hW : WdOK W) (hf : 1 ≤ W.f) : Calls Tryz.prog 55 #[.agg #[x.v, y.v], W.v] w (Post u w fun v _ => v = .bool true) := by
 obtain ⟨hw1, hw2, hw3, hw4, hw5, hw6, hw7, hw8⟩ := id hW
 have hlx := hx.len
 have hly := hy.len
 refine zzm (args := [.agg #[.slice x.a x.n x.c, .slice y.a y.n y.c], .agg #[.int .i64 W.b, .int .i64 W.f, .int .i64 W.r, .int .i64 W.o]]) Tryz.func55 rfl Tryz.ntmps55 (rs := [.tmp 4]) Tryz.results55 (le_b rfl) (le_b rfl) d ?_
 refine sq9 (zzk 2 ⟨51, [x.v, y.v]⟩ (zzk 3 ⟨34, W.cs⟩ (zza 4 (zB false) (zzb (zzd (sq9 (zzi 9 (.v (W.v)) ty34 zze (zzg 10 93 [W.v] ?_))))))))
 intro w11 u11 e11 d11
 have k14 := k_suitable (W := W) d11 hW hf
 with_reducible refine zPm k14 ?_
 rintro _ u12 g13 rfl
 refine zza 11 (zB false) (zzb (zys xj (zzs (zzp ?_))))
 refine zzd (sq9 (zza 12 (zI 0) (zzb (zzt (sw_rounds 2 ?_)))))
 refine sq9 (zza 13 (zB true) (zzb (zzd (zyr xj (zzs (zzp ?_))))))
 refine zzd (zzt (sq9 (zza 14 (zI 0) (zza 5 (zI 0) (zzb (sq9 (zzi 15 (.v (.agg #[x.v, y.v])) ty51 zze (zza 16 (zI 0) (zzg 17 56 [.agg #[x.v, y.v], .int .i64 0] ?_)))))))))
 intro w15 u15 e15 d15
 have k18 := k_branch0 (x := x) (y := y) d15
 with_reducible refine zPm k18 ?_
 rintro _ u16 g17 rfl
 refine zza 6 (.v x.v) (zzb (zzd (sq9 (zza 18 (.v x.v) (zza 19 (zI x.n) (zza 20 (zB (decide ((4 : Int) < (x.n : Int)))) (zzb (zzu (b := decide ((4 : Int) < (x.n : Int))) xj (fun hb => ?_) (fun hb => ?_)))))))))
 ·exact absurd hb (by rw [show (decide ((4 : Int) < (x.n : Int))) = false from decide_eq_false xq]; decide)
 ·clear hb
  refine zzs (zzp ?_)
  refine sq9 (zza 21 (.v x.v) (zza 22 (zI x.n) (zza 23 (zI 0) (zzb (zzt ?_)))))
  have hlxL := ((hx.ext (e11.trans (g13.ext.trans (e15.trans g17.ext))))).len
  refine zyn (I := fun m19 S' u' => ∃ (i : Nat), (m19 = L.length - i) ∧ (i ≤ L.length) ∧ (S' = St.of 33 [(2, .adr 2 0), (3, .adr 3 0), (12, zI 0), (21, .v (.slice x.a x.n x.c)), (22, zI x.n), (23, zI i)] [(2, ⟨51, [.slice x.a x.n x.c, .slice y.a y.n y.c]⟩), (3, ⟨34, [.int .i64 W.b, .int .i64 W.f, .int .i64 W.r, .int .i64 W.o]⟩)]) ∧ (Ext u16 u')) (fun m S u1 u2 e h => by obtain ⟨i, hm, p0, hS, hE⟩ := h; exact ⟨i, hm, p0, hS, hE.trans e⟩) _ yz ⟨0, rfl, Nat.zero_le _, rfl, (Ext.refl _)⟩ ?_
  rintro m19 _ u19 ⟨i, hm19, hi, rfl, e19⟩
  refine sq9 (zza 24 (zB (decide ((i : Int) < (x.n : Int)))) (zzb (zzd (zzu (b := decide ((i : Int) < (x.n : Int))) xj (fun hb20 => ?_) (fun hb20 => ?_)))))
  ·replace hb20 : (decide ((i : Int) < (x.n : Int))) = true := hb20
   have qhb20 := of_decide_eq_true hb20
   refine zzs (zzp ?_)
   refine zzd (zzt (sq9 ?_))
   have hl21 := ((hx.ext (e11.trans (g13.ext.trans (e15.trans (g17.ext.trans e19)))))).len
   obtain ⟨p21, b21, o21, hA21, hc21, hp21⟩ := pas_at ((hx.ext (e11.trans (g13.ext.trans (e15.trans (g17.ext.trans e19)))))) (i := i) xq
   refine zya 25 (o21 + i * 3) (n := x.n) (off := o21) (sz := 3) (i := (i : Int)) xq hA21 xq xq sl49 (zym 26 p21.cs hc21 ty114 (zzk 8 ⟨114, [.int .i64 0, .int .i64 0, .int .i64 0]⟩ (zzj ⟨114, [.int .i64 p21.o, .int .i64 p21.g, .int .i64 p21.h]⟩ ty114 ?_)))
   refine zzb (zzd ?_)
   have hkp21 : PasOK W.f p21 := by rw [hp21]; exact hpx _ (by rw [List.getD_eq_getElem?_getD, List.getElem?_eq_getElem xq]; exact List.getElem_mem _)
   refine zzf (zzi 27 (.v (.agg #[.int .i64 p21.o, .int .i64 p21.g, .int .i64 p21.h])) ty114 zze (zzi 28 (.v (W.v)) ty34 zze (zzg 29 94 [.agg #[.int .i64 p21.o, .int .i64 p21.g, .int .i64 p21.h], W.v] ?_)))
   intro w22 u22 e22 d22
   have k25 := k_permitted (p := p21) (W := W) d22 hW hkp21
   with_reducible refine zPm k25 ?_
   rintro _ u23 g24 rfl
   refine zza 30 (zB false) (zzb (zys xj (zzs (zzp ?_))))
   refine zzf (zyq 31 (x := zI (IntKind.i64.wrap ((i : Int) + 1))) (zI (i + 1 : Nat)) (eqI xz) (zza 23 (zI (i + 1 : Nat)) (zzx ?_)))
   refine ⟨_, ?_, _, by exact zzv _ _ _, i + 1, rfl, by omega, rfl, (e19.trans (e22.trans g24.ext))⟩
   omega
  ·replace hb20 : (decide ((i : Int) < (x.n : Int))) = false := hb20
   have qhb20 := of_decide_eq_false hb20
   refine zyc (zzp (zzf (zza 32 (zI 1) (zza 12 (zI 1) (zzx ?_)))))
   refine rn_next ?_
   refine sw_weak (T := St.of 33 [(2, .adr 2 0), (3, .adr 3 0), (12, zI 1)] [(2, ⟨51, [.slice x.a x.n x.c, .slice y.a y.n y.c]⟩), (3, ⟨34, [.int .i64 W.b, .int .i64 W.f, .int .i64 W.r, .int .i64 W.o]⟩)]) yz ?_
   refine sq9 (zza 13 (zB true) (zzb (zzd (zyr xj (zzs (zzp ?_))))))
   refine zzd (zzt (sq9 (zza 14 (zI 1) (zza 5 (zI 1) (zzb (sq9 (zzi 15 (.v (.agg #[x.v, y.v])) ty51 zze (zza 16 (zI 1) (zzg 17 56 [.agg #[x.v, y.v], .int .i64 1] ?_)))))))))
   intro w26 u26 e26 d26
   have k29 := k_branch1 (x := x) (y := y) d26
   with_reducible refine zPm k29 ?_
   rintro _ u27 g28 rfl
   refine zza 6 (.v y.v) (zzb (zzd (sq9 (zza 18 (.v y.v) (zza 19 (zI y.n) (zza 20 (zB (decide ((4 : Int) < (y.n : Int)))) (zzc 33 [(2, .adr 2 0), (3, .adr 3 0), (6, .v y.v), (12, zI 1), (20, zB (decide ((4 : Int) < (y.n : Int))))] [(2, ⟨51, [x.v, y.v]⟩), (3, ⟨34, W.cs⟩)] (zzu (b := decide ((4 : Int) < (y.n : Int))) xj (fun hb => ?_) (fun hb => ?_)))))))))
   ·exact absurd hb (by rw [show (decide ((4 : Int) < (y.n : Int))) = false from decide_eq_false xq]; decide)
   ·clear hb
    refine zzs (zzp ?_)
    refine sq9 (zza 21 (.v y.v) (zza 22 (zI y.n) (zza 23 (zI 0) (zzb (zzt ?_)))))
    have hlxM := ((hy.ext (e11.trans (g13.ext.trans (e15.trans (g17.ext.trans (e19.trans (e26.trans g28.ext)))))))).len
    refine zyn (I := fun m30 S' u' => ∃ (i : Nat), (m30 = M.length - i) ∧ (i ≤ M.length) ∧ (S' = St.of 33 [(2, .adr 2 0), (3, .adr 3 0), (12, zI 1), (21, .v (.slice y.a y.n y.c)), (22, zI y.n), (23, zI i)] [(2, ⟨51, [.slice x.a x.n x.c, .slice y.a y.n y.c]⟩), (3, ⟨34, [.int .i64 W.b, .int .i64 W.f, .int .i64 W.r, .int .i64 W.o]⟩)]) ∧ (Ext u27 u')) (fun m S u1 u2 e h => by obtain ⟨i, hm, p0, hS, hE⟩ := h; exact ⟨i, hm, p0, hS, hE.trans e⟩) _ yz ⟨0, rfl, Nat.zero_le _, rfl, (Ext.refl _)⟩ ?_
    rintro m30 _ u30 ⟨i, hm30, hi, rfl, e30⟩
    refine sq9 (zza 24 (zB (decide ((i : Int) < (y.n : Int)))) (zzb (zzd (zzu (b := decide ((i : Int) < (y.n : Int))) xj (fun hb31 => ?_) (fun hb31 => ?_)))))
    ·replace hb31 : (decide ((i : Int) < (y.n : Int))) = true := hb31
     have qhb31 := of_decide_eq_true hb31
     refine zzs (zzp ?_)
     refine zzd (zzt (sq9 ?_))
     have hl32 := ((hy.ext (e11.trans (g13.ext.trans (e15.trans (g17.ext.trans (e19.trans (e26.trans (g28.ext.trans e30))))))))).len
     obtain ⟨p32, b32, o32, hA32, hc32, hp32⟩ := pas_at ((hy.ext (e11.trans (g13.ext.trans (e15.trans (g17.ext.trans (e19.trans (e26.trans (g28.ext.trans e30))))))))) (i := i) xq
     refine zya 25 (o32 + i * 3) (n := y.n) (off := o32) (sz := 3) (i := (i : Int)) xq hA32 xq xq sl49 (zym 26 p32.cs hc32 ty114 (zzk 8 ⟨114, [.int .i64 0, .int .i64 0, .int .i64 0]⟩ (zzj ⟨114, [.int .i64 p32.o, .int .i64 p32.g, .int .i64 p32.h]⟩ ty114 ?_)))
     refine zzb (zzd ?_)
     have hkp32 : PasOK W.f p32 := by rw [hp32]; exact hpy _ (by rw [List.getD_eq_getElem?_getD, List.getElem?_eq_getElem xq]; exact List.getElem_mem _)
     refine zzf (zzi 27 (.v (.agg #[.int .i64 p32.o, .int .i64 p32.g, .int .i64 p32.h])) ty114 zze (zzi 28 (.v (W.v)) ty34 zze (zzg 29 94 [.agg #[.int .i64 p32.o, .int .i64 p32.g, .int .i64 p32.h], W.v] ?_)))
     intro w33 u33 e33 d33
     have k36 := k_permitted (p := p32) (W := W) d33 hW hkp32
     with_reducible refine zPm k36 ?_
     rintro _ u34 g35 rfl
     refine zza 30 (zB false) (zzb (zys xj (zzs (zzp ?_))))
     refine zzf (zyq 31 (x := zI (IntKind.i64.wrap ((i : Int) + 1))) (zI (i + 1 : Nat)) (eqI xz) (zza 23 (zI (i + 1 : Nat)) (zzx ?_)))
     refine ⟨_, ?_, _, by exact zzv _ _ _, i + 1, rfl, by omega, rfl, (e30.trans (e33.trans g35.ext))⟩
     omega
    ·replace hb31 : (decide ((i : Int) < (y.n : Int))) = false := hb31
     have qhb31 := of_decide_eq_false hb31
     refine zyc (zzp (zzf (zza 32 (zI 2) (zza 12 (zI 2) (zzx ?_)))))
     refine rn_next ?_
     refine sw_weak (T := St.of 33 [(2, .adr 2 0), (3, .adr 3 0), (12, zI 2)] [(2, ⟨51, [.slice x.a x.n x.c, .slice y.a y.n y.c]⟩), (3, ⟨34, [.int .i64 W.b, .int .i64 W.f, .int .i64 W.r, .int .i64 W.o]⟩)]) yz ?_
     refine sq9 (zza 13 (zB false) (zzb (zzd (zys xj (zyc (zzp (sq9 (zza 4 (zB true) (zzb (zzo (ret0 [.bool true] ⟨zzq, trivial⟩ fun u37 e38 => ?_)))))))))))
     rfl
theorem Nt.wD_208 {f : Int} (hf : f ≤ 24) {n : Nat} (hn : n ≤ 4) : Nt.wD f ^ n ≤ 2 ^ 208 := Nt.wD_pow hf hn
theorem Nt.pw26 {a b k A : Nat} (h : a ≤ 2 ^ k) (h2 : b ≤ 2 ^ k) (hA : k + k ≤ A) : a * b ≤ 2 ^ A :=
 Nat.le_trans (Nat.mul_le_mul h h2) (by rw [← Nat.pow_add]; exact Nat.pow_le_pow_right yv hA)
theorem PolN.fit26 {u : World} {x : Sl} {l : List Rat} {K : Nat} {f : Int} {n m A : Nat} (h : PolN u x l K) (s : Nt.Sm l (Nt.wD f ^ n * Nt.wD f ^ m) A) (hh : f ≤ 24 ∧ n ≤ 4 ∧ m ≤ 4 ∧ 416 ≤ A) : PolN u x l (Nt.dg A) :=
 PolN.fitS h s (Nt.pw26 (Nt.wD_208 hh.1 hh.2.1) (Nt.wD_208 hh.1 hh.2.2.1) xq)
theorem Nt.prodS {f : Int} {L : List PL} (hf : f ≤ 24) (hL : ∀ p ∈ L, PasOK f p) {n : Nat} (hn : n ≤ L.length) (h4 : L.length ≤ 4) : Nt.Sm (Nt.prodB f L n) (Nt.wD f ^ n) 208 ∧ Nt.Sm (Nt.prodA f L n) (Nt.wD f ^ n) 208 :=
 ⟨(Nt.prod_sm hf hL n hn).1.more xq, (Nt.prod_sm hf hL n hn).2.more xq⟩
theorem prod_stB {u : World} {x : Sl} {K : Nat} {f : Int} {L : List PL} {i : Nat} {p : PL} (h : PolN u x (Nt.trimQ (Nt.mulQ (Nt.prodB f L i) (Nt.trimQ (Nt.secB f p)))) K) (hp : p = L.getD i pl0) (hf : f ≤ 24) (hL : ∀ p ∈ L, PasOK f p) (h4 : L.length ≤ 4) (hi : i < L.length) : PolN u x (Nt.prodB f L (i + 1)) 8 := by
 subst hp
 exact (PolN.fitS (show PolN u x (Nt.prodB f L (i + 1)) K from h) (Nt.prodS hf hL hi h4).1 (Nt.wD_208 hf xq)).more yv
theorem prod_stA {u : World} {x : Sl} {K : Nat} {f : Int} {L : List PL} {i : Nat} {p : PL} (h : PolN u x (Nt.trimQ (Nt.mulQ (Nt.prodA f L i) (Nt.trimQ (Nt.secA f p)))) K) (hp : p = L.getD i pl0) (hf : f ≤ 24) (hL : ∀ p ∈ L, PasOK f p) (h4 : L.length ≤ 4) (hi : i < L.length) : PolN u x (Nt.prodA f L (i + 1)) 8 := by
 subst hp
 exact (PolN.fitS (show PolN u x (Nt.prodA f L (i + 1)) K from h) (Nt.prodS hf hL hi h4).2 (Nt.wD_208 hf xq)).more yv
set_option maxHeartbeats 2000000 in
theorem k_product {u w : World} {W : WL} {x : Sl} {L : List PL} (d : Dat u w) (hx : PasV u x L) (hpx : ∀ p ∈ L, PasOK W.f p) (hnx : L.length ≤ 4) (hW : WdOK W) : Calls Tryz.prog 82 #[x.v, W.v] w (Post u w fun v u' => ∃ y z : Sl, v = .agg #[y.v, z.v] ∧ PolN u' y (Nt.prodB W.f L L.length) 8 ∧ PolN u' z (Nt.prodA W.f L L.length) 8) := by
 obtain ⟨hw1, hw2, hw3, hw4, hw5, hw6, hw7, hw8⟩ := id hW
 have hlx := hx.len
 refine zzm (args := [.slice x.a x.n x.c, .agg #[.int .i64 W.b, .int .i64 W.f, .int .i64 W.r, .int .i64 W.o]]) Tryz.func82 rfl Tryz.ntmps82 (rs := [.cell 4 42]) Tryz.results82 (le_b rfl) (le_b rfl) d ?_
 refine sq9 (zzk 3 ⟨34, W.cs⟩ (zzk 4 ⟨42, [.slice none 0 0, .slice none 0 0]⟩ (zzb (sq9 (zzg 9 46 [.int .i64 1] ?_)))))
 intro w11 u11 e11 d11
 have k16 := k_ratOf d11 (z := 1) xq xq
 with_reducible refine zPm k16 ?_
 rintro _ u14 g15 ⟨r12, rfl, h13⟩
 refine zxz 10 ⟨74, r12.cs⟩ 1 (fun b17 u18 e19 h20 => ?_)
 have hp21 : PolN u18 (⟨some ⟨b17, 0, none⟩, 1, 1⟩ : Sl) [((1 : Int) : Rat)] 2 := pol_lit (L := [r12]) h20 (rats1 (h13.ext e19)) rfl yv
 refine zzg 11 46 [.int .i64 1] ?_
 intro w22 u22 e22 d22
 have k27 := k_ratOf d22 (z := 1) xq xq
 with_reducible refine zPm k27 ?_
 rintro _ u25 g26 ⟨r23, rfl, h24⟩
 refine zxz 12 ⟨74, r23.cs⟩ 1 (fun b28 u29 e30 h31 => ?_)
 have hp32 : PolN u29 (⟨some ⟨b28, 0, none⟩, 1, 1⟩ : Sl) [((1 : Int) : Rat)] 2 := pol_lit (L := [r23]) h31 (rats1 (h24.ext e30)) rfl yv
 refine zza 13 (.v (.agg #[.slice (some ⟨b17, 0, none⟩) 1 1, .slice (some ⟨b28, 0, none⟩) 1 1])) (zzk 5 ⟨42, [.slice none 0 0, .slice none 0 0]⟩ (zzj ⟨42, [.slice (some ⟨b17, 0, none⟩) 1 1, .slice (some ⟨b28, 0, none⟩) 1 1]⟩ ty42 ?_))
 refine zzb (zzd (sq9 (zza 14 (.v x.v) (zza 15 (zI x.n) (zza 16 (zI 0) (zzb (zzt (zyn (I := fun m33 S' u' => ∃ (i : Nat) (y : Sl) (z : Sl), (m33 = L.length - i) ∧ (i ≤ L.length) ∧ (S' = St.of 36 [(3, .adr 3 0), (4, .adr 4 0), (5, .adr 5 0), (14, .v (.slice x.a x.n x.c)), (15, zI x.n), (16, zI i)] [(3, ⟨34, [.int .i64 W.b, .int .i64 W.f, .int .i64 W.r, .int .i64 W.o]⟩), (4, ⟨42, [.slice none 0 0, .slice none 0 0]⟩), (5, ⟨42, [.slice y.a y.n y.c, .slice z.a z.n z.c]⟩)]) ∧ (Ext u29 u') ∧ (PolN u' y (Nt.prodB W.f L i) 8) ∧ (PolN u' z (Nt.prodA W.f L i) 8)) (fun m S u1 u2 e h => by obtain ⟨i, y, z, hm, p0, hS, hE, f0, f1⟩ := h; exact ⟨i, y, z, hm, p0, hS, hE.trans e, f0.ext e, f1.ext e⟩) _ yz ⟨0, (⟨some ⟨b17, 0, none⟩, 1, 1⟩ : Sl), (⟨some ⟨b28, 0, none⟩, 1, 1⟩ : Sl), rfl, Nat.zero_le _, rfl, (Ext.refl _), (PolN.more (hp21.ext (e22.trans (g26.ext.trans e30))) yv), (PolN.more hp32 yv)⟩ ?_))))))))
 rintro m33 _ u33 ⟨i, y, z, hm33, hi, rfl, e33, hB, hA⟩
 have hlB : (Nt.prodB W.f L i).length ≤ 9 := by have h9 := (Nt.zwg W.f L i).1; omega
 have hlA : (Nt.prodA W.f L i).length ≤ 9 := by have h9 := (Nt.zwg W.f L i).2; omega
 have hyl := hB.len
 have hzl := hA.len
 refine sq9 (zza 17 (zB (decide ((i : Int) < (x.n : Int)))) (zzb (zzd (zzu (b := decide ((i : Int) < (x.n : Int))) xj (fun hb34 => ?_) (fun hb34 => ?_)))))
 ·replace hb34 : (decide ((i : Int) < (x.n : Int))) = true := hb34
  have qhb34 := of_decide_eq_true hb34
  refine zzs (zzp ?_)
  refine zzd (zzt (sq9 ?_))
  have hl35 := ((hx.ext (e11.trans (g15.ext.trans (e19.trans (e22.trans (g26.ext.trans (e30.trans e33)))))))).len
  obtain ⟨p35, b35, o35, hA35, hc35, hp35⟩ := pas_at ((hx.ext (e11.trans (g15.ext.trans (e19.trans (e22.trans (g26.ext.trans (e30.trans e33)))))))) (i := i) xq
  refine zya 18 (o35 + i * 3) (n := x.n) (off := o35) (sz := 3) (i := (i : Int)) xq hA35 xq xq sl49 (zym 19 p35.cs hc35 ty114 (zzk 7 ⟨114, [.int .i64 0, .int .i64 0, .int .i64 0]⟩ (zzj ⟨114, [.int .i64 p35.o, .int .i64 p35.g, .int .i64 p35.h]⟩ ty114 ?_)))
  refine zzb (zzd ?_)
  have hkp35 : PasOK W.f p35 := by rw [hp35]; exact hpx _ (by rw [List.getD_eq_getElem?_getD, List.getElem?_eq_getElem xq]; exact List.getElem_mem _)
  refine zzf (zzi 20 (.v (.agg #[.int .i64 p35.o, .int .i64 p35.g, .int .i64 p35.h])) ty114 zze (zzi 21 (.v (W.v)) ty34 zze (zzg 22 95 [.agg #[.int .i64 p35.o, .int .i64 p35.g, .int .i64 p35.h], W.v] ?_)))
  intro w36 u36 e36 d36
  have k43 := k_section (p := p35) (W := W) d36 hW hkp35
  with_reducible refine zPm k43 ?_
  rintro _ u41 g42 ⟨y37, y38, rfl, h39, h40⟩
  have hly37 := h39.len
  have hmy37 := Nat.le_trans (Nt.zzh (Nt.secB W.f p35)) (Nt.sec_len W.f p35).1
  have hly38 := h40.len
  have hmy38 := Nat.le_trans (Nt.zzh (Nt.secA W.f p35)) (Nt.sec_len W.f p35).2
  refine zzk 8 ⟨42, [.slice none 0 0, .slice none 0 0]⟩ (zzj ⟨42, [y37.v, y38.v]⟩ ty42 ?_)
  refine zzb (zzz [0, 1, 0, 4, 15, 0, 32, 0, 128, 511, 1023, 2047] [(0, []), (1, []), (2, []), (3, []), (5, []), (6, []), (7, []), (8, []), (4, []), (9, []), (10, []), (11, [])] xj xj (zza 23 (.adr 5 0) (zzi 24 (.v y.v) ty40 zzl (zza 25 (.adr 8 0) (zzi 26 (.v y37.v) ty40 zzl (zza 28 (.adr 5 1) (zzi 29 (.v z.v) ty40 zzl (zza 30 (.adr 8 1) (zzi 31 (.v y38.v) ty40 zzl (zzg 27 48 [y.v, y37.v] ?_))))))))))
  intro w44 u44 e44 d44
  have k49 := k_poMul d44 (hB.ext (e36.trans (g42.ext.trans e44))).raw (h39.ext e44).raw (Nat.le_trans (Nt.mlK_mono hlB hmy37 (Nat.le_refl _) (Nat.le_refl _)) (by decide +kernel)) (by have h9 := hlB; omega) (by have h9 := hmy37; omega) (by have h9 := hlB; omega) (by have h9 := hmy37; omega)
  with_reducible refine zPm k49 ?_
  rintro _ u47 g48 ⟨y45, rfl, h46⟩
  replace h46 := PolN.more h46 (Nat.le_trans (Nt.mlK_mono hlB hmy37 (Nat.le_refl _) (Nat.le_refl _)) (by decide +kernel : _ ≤ 3483))
  have hly45 := h46.len
  have hm50 : (Nt.trimQ (Nt.mulQ (Nt.prodB W.f L i) (Nt.trimQ (Nt.secB W.f p35)))).length ≤ 11 := Nt.zxv hlB hmy37
  have hk51 : PolN _ y45 (Nt.trimQ (Nt.mulQ (Nt.prodB W.f L i) (Nt.trimQ (Nt.secB W.f p35)))) 3483 := PolN.more h46 xq
  refine zzg 32 48 [z.v, y38.v] ?_
  intro w52 u52 e52 d52
  have k57 := k_poMul d52 (hA.ext (e36.trans (g42.ext.trans (e44.trans (g48.ext.trans e52))))).raw (h40.ext (e44.trans (g48.ext.trans e52))).raw (Nat.le_trans (Nt.mlK_mono hlA hmy38 (Nat.le_refl _) (Nat.le_refl _)) (by decide +kernel)) (by have h9 := hlA; omega) (by have h9 := hmy38; omega) (by have h9 := hlA; omega) (by have h9 := hmy38; omega)
  with_reducible refine zPm k57 ?_
  rintro _ u55 g56 ⟨y53, rfl, h54⟩
  replace h54 := PolN.more h54 (Nat.le_trans (Nt.mlK_mono hlA hmy38 (Nat.le_refl _) (Nat.le_refl _)) (by decide +kernel : _ ≤ 3483))
  have hly53 := h54.len
  have hm58 : (Nt.trimQ (Nt.mulQ (Nt.prodA W.f L i) (Nt.trimQ (Nt.secA W.f p35)))).length ≤ 11 := Nt.zxv hlA hmy38
  have hk59 : PolN _ y53 (Nt.trimQ (Nt.mulQ (Nt.prodA W.f L i) (Nt.trimQ (Nt.secA W.f p35)))) 3483 := PolN.more h54 xq
  refine zza 33 (.v (.agg #[y45.v, y53.v])) (zzj ⟨42, [y45.v, y53.v]⟩ ty42 ?_)
  refine zzx ?_
  refine zzp (zzf (zyq 34 (x := zI (IntKind.i64.wrap ((i : Int) + 1))) (zI (i + 1 : Nat)) (eqI xz) (zza 16 (zI (i + 1 : Nat)) (zzx ?_))))
  refine ⟨_, ?_, _, by exact zzv _ _ _, i + 1, y45, y53, rfl, by omega, rfl, (e33.trans (e36.trans (g42.ext.trans (e44.trans (g48.ext.trans (e52.trans g56.ext)))))), (prod_stB (hk51.ext (e52.trans g56.ext)) hp35 xq hpx hnx xq), (prod_stA hk59 hp35 xq hpx hnx xq)⟩
  omega
 ·replace hb34 : (decide ((i : Int) < (x.n : Int))) = false := hb34
  have qhb34 := of_decide_eq_false hb34
  refine zyc (zzp (sq9 (zzi 35 (.v (.agg #[y.v, z.v])) ty42 zze (zzj ⟨42, [y.v, z.v]⟩ ty42 ?_))))
  refine zzb (zzo (ret0 [.agg #[.slice y.a y.n y.c, .slice z.a z.n z.c]] ⟨zzr ty42 zze, trivial⟩ fun u60 e61 => ?_))
  have hi9 : i = L.length := by omega
  subst hi9
  exact ⟨y, z, rfl, (hB.ext e61), (hA.ext e61)⟩
set_option maxHeartbeats 2000000 in
theorem k_wIdeal {u w : World} {W : WL} {x y : Sl} {L M : List PL} (d : Dat u w) (hx : PasV u x L) (hpx : ∀ p ∈ L, PasOK W.f p) (hnx : L.length ≤ 4) (hy : PasV u y M) (hpy : ∀ p ∈ M, PasOK W.f p) (hny : M.length ≤ 4) (hW : WdOK W) (hf : 1 ≤ W.f) : Calls Tryz.prog 27 #[.agg #[x.v, y.v], W.v] w (Post u w fun v u' => ∃ y1 y2 y3 y4 : Sl, v = .tuple #[.agg #[y1.v, y2.v], .agg #[y3.v, y4.v], .int .i64 0] ∧ PolN u' y1 (Nt.trimQ ((Nt.trimQ (Nt.addQ (Nt.trimQ (Nt.mulQ (Nt.prodB W.f L L.length) (Nt.prodA W.f M M.length))) (Nt.trimQ (Nt.mulQ (Nt.prodB W.f M M.length) (Nt.prodA W.f L L.length))))).map (· * (((1 : Int) : Rat) / ((2 : Int) : Rat))))) 40 ∧ PolN u' y2 (Nt.trimQ (Nt.mulQ (Nt.prodA W.f L L.length) (Nt.prodA W.f M M.length))) 40 ∧ PolN u' y3 (Nt.trimQ ((Nt.trimQ (Nt.addQ (Nt.trimQ (Nt.mulQ (Nt.prodB W.f L L.length) (Nt.prodA W.f M M.length))) ((Nt.trimQ (Nt.mulQ (Nt.prodB W.f M M.length) (Nt.prodA W.f L L.length))).map (fun z => -z)))).map (· * (((1 : Int) : Rat) / ((2 : Int) : Rat))))) 40 ∧ PolN u' y4 (Nt.trimQ (Nt.mulQ (Nt.prodA W.f L L.length) (Nt.prodA W.f M M.length))) 40) := by
 obtain ⟨hw1, hw2, hw3, hw4, hw5, hw6, hw7, hw8⟩ := id hW
 have hlx := hx.len
 have hly := hy.len
 refine zzm (args := [.agg #[.slice x.a x.n x.c, .slice y.a y.n y.c], .agg #[.int .i64 W.b, .int .i64 W.f, .int .i64 W.r, .int .i64 W.o]]) Tryz.func27 rfl Tryz.ntmps27 (rs := [.cell 4 42, .cell 5 42, .tmp 6]) Tryz.results27 (le_b rfl) (le_b rfl) d ?_
 refine sq9 (zzk 2 ⟨51, [x.v, y.v]⟩ (zzk 3 ⟨34, W.cs⟩ (zzk 4 ⟨42, [.slice none 0 0, .slice none 0 0]⟩ (zzk 5 ⟨42, [.slice none 0 0, .slice none 0 0]⟩ (zza 6 (zI 0) (zzb (zzd (sq9 (zzi 14 (.v (.agg #[x.v, y.v])) ty51 zze (zzi 15 (.v (W.v)) ty34 zze (zzg 16 55 [.agg #[x.v, y.v], W.v] ?_)))))))))))
 intro w11 u11 e11 d11
 have k14 := k_wvValid (W := W) d11 (hx.ext e11) hpx hnx (hy.ext e11) hpy hny hW hf
 with_reducible refine zPm k14 ?_
 rintro _ u12 g13 rfl
 refine zza 17 (zB false) (zzb (zys xj (zzs (zzp ?_))))
 refine sq9 (zzk 7 ⟨147, [.slice none 0 0, .slice none 0 0, .slice none 0 0, .slice none 0 0]⟩ (zzb (zzd (sq9 (zza 20 (zI 0) (zzb (zzt (sw_rounds 2 ?_))))))))
 refine sq9 (zza 21 (zB true) (zzb (zzd (zyr xj (zzs (zzp ?_))))))
 refine zzd (zzt (sq9 (zza 22 (zI 0) (zza 8 (zI 0) (zzb (zzz [0, 0, 0, 6, 0, 30, 63, 127] [(0, []), (1, []), (2, []), (4, []), (3, []), (5, []), (6, []), (7, [])] xj xj (zza 23 (zI 0) (zzi 24 (.v (.agg #[x.v, y.v])) ty51 zze (zza 25 (zI 0) (zzi 27 (.v (W.v)) ty34 zze (zzg 26 56 [.agg #[x.v, y.v], .int .i64 0] ?_)))))))))))
 intro w15 u15 e15 d15
 have k18 := k_branch0 (x := x) (y := y) d15
 with_reducible refine zPm k18 ?_
 rintro _ u16 g17 rfl
 refine zzg 28 82 [x.v, W.v] ?_
 intro w19 u19 e19 d19
 have k26 := k_product (W := W) d19 (hx.ext (e11.trans (g13.ext.trans (e15.trans (g17.ext.trans e19))))) hpx hnx hW
 with_reducible refine zPm k26 ?_
 rintro _ u24 g25 ⟨y20, y21, rfl, h22, h23⟩
 have hly20 := h22.len
 have hm27 : (Nt.prodB W.f L L.length).length ≤ 9 := by have h9 := (Nt.zwg W.f L L.length).1; omega
 have hs28 := (Nt.prodS (f := W.f) xq hpx (Nat.le_refl _) hnx).1
 have hly21 := h23.len
 have hm29 : (Nt.prodA W.f L L.length).length ≤ 9 := by have h9 := (Nt.zwg W.f L L.length).2; omega
 have hs30 := (Nt.prodS (f := W.f) xq hpx (Nat.le_refl _) hnx).2
 refine zza 29 (.adr 7 0) (zzj ⟨147, [y20.v, y21.v, .slice none 0 0, .slice none 0 0]⟩ ty42 ?_)
 refine zzx ?_
 refine zzp (zzf (zza 30 (zI 1) (zza 20 (zI 1) (zzx ?_))))
 refine rn_next ?_
 refine sw_weak (T := St.of 74 [(2, .adr 2 0), (3, .adr 3 0), (4, .adr 4 0), (5, .adr 5 0), (7, .adr 7 0), (20, zI 1)] [(2, ⟨51, [.slice x.a x.n x.c, .slice y.a y.n y.c]⟩), (3, ⟨34, [.int .i64 W.b, .int .i64 W.f, .int .i64 W.r, .int .i64 W.o]⟩), (4, ⟨42, [.slice none 0 0, .slice none 0 0]⟩), (5, ⟨42, [.slice none 0 0, .slice none 0 0]⟩), (7, ⟨147, [.slice y20.a y20.n y20.c, .slice y21.a y21.n y21.c, .slice none 0 0, .slice none 0 0]⟩)]) yz ?_
 refine sq9 (zza 21 (zB true) (zzb (zzd (zyr xj (zzs (zzp ?_))))))
 refine zzd (zzt (sq9 (zza 22 (zI 1) (zza 8 (zI 1) (zzb (zzz [0, 0, 0, 6, 0, 30, 63, 127] [(0, []), (1, []), (2, []), (4, []), (3, []), (5, []), (6, []), (7, [])] xj xj (zza 23 (zI 1) (zzi 24 (.v (.agg #[x.v, y.v])) ty51 zze (zza 25 (zI 1) (zzi 27 (.v (W.v)) ty34 zze (zzg 26 56 [.agg #[x.v, y.v], .int .i64 1] ?_)))))))))))
 intro w31 u31 e31 d31
 have k34 := k_branch1 (x := x) (y := y) d31
 with_reducible refine zPm k34 ?_
 rintro _ u32 g33 rfl
 refine zzg 28 82 [y.v, W.v] ?_
 intro w35 u35 e35 d35
 have k42 := k_product (W := W) d35 (hy.ext (e11.trans (g13.ext.trans (e15.trans (g17.ext.trans (e19.trans (g25.ext.trans (e31.trans (g33.ext.trans e35))))))))) hpy hny hW
 with_reducible refine zPm k42 ?_
 rintro _ u40 g41 ⟨y36, y37, rfl, h38, h39⟩
 have hly36 := h38.len
 have hm43 : (Nt.prodB W.f M M.length).length ≤ 9 := by have h9 := (Nt.zwg W.f M M.length).1; omega
 have hs44 := (Nt.prodS (f := W.f) xq hpy (Nat.le_refl _) hny).1
 have hly37 := h39.len
 have hm45 : (Nt.prodA W.f M M.length).length ≤ 9 := by have h9 := (Nt.zwg W.f M M.length).2; omega
 have hs46 := (Nt.prodS (f := W.f) xq hpy (Nat.le_refl _) hny).2
 refine zza 29 (.adr 7 2) (zzj ⟨147, [y20.v, y21.v, y36.v, y37.v]⟩ ty42 ?_)
 refine zzx ?_
 refine zzp (zzf (zza 30 (zI 2) (zza 20 (zI 2) (zzx ?_))))
 refine rn_next ?_
 refine sw_weak (T := St.of 74 [(2, .adr 2 0), (3, .adr 3 0), (4, .adr 4 0), (5, .adr 5 0), (7, .adr 7 0), (20, zI 2)] [(2, ⟨51, [.slice x.a x.n x.c, .slice y.a y.n y.c]⟩), (3, ⟨34, [.int .i64 W.b, .int .i64 W.f, .int .i64 W.r, .int .i64 W.o]⟩), (4, ⟨42, [.slice none 0 0, .slice none 0 0]⟩), (5, ⟨42, [.slice none 0 0, .slice none 0 0]⟩), (7, ⟨147, [.slice y20.a y20.n y20.c, .slice y21.a y21.n y21.c, .slice y36.a y36.n y36.c, .slice y37.a y37.n y37.c]⟩)]) yz ?_
 refine sq9 (zza 21 (zB false) (zzb (zzd (zys xj (zyc (zzp (sq9 (zza 31 (.adr 7 0) (zza 32 (.adr 7 0) (zzi 33 (.v y20.v) ty40 zzl (zza 34 (.adr 7 2) ?_)))))))))))
 refine zza 35 (.adr 7 3) (zzi 36 (.v y37.v) ty40 zzl (zzg 37 48 [y20.v, y37.v] ?_))
 intro w47 u47 e47 d47
 have k52 := k_poMul d47 (h22.ext (e31.trans (g33.ext.trans (e35.trans (g41.ext.trans e47))))).raw (h39.ext e47).raw (Nat.le_trans (Nt.mlK_mono hm27 hm45 (Nat.le_refl _) (Nat.le_refl _)) (by decide +kernel)) (by have h9 := hm27; omega) (by have h9 := hm45; omega) (by have h9 := hm27; omega) (by have h9 := hm45; omega)
 with_reducible refine zPm k52 ?_
 rintro _ u50 g51 ⟨y48, rfl, h49⟩
 have hly48 := h49.len
 have hm53 : (Nt.trimQ (Nt.mulQ (Nt.prodB W.f L L.length) (Nt.prodA W.f M M.length))).length ≤ 17 := Nt.zxv hm27 hm45
 have hs54 : Nt.Sm (Nt.trimQ (Nt.mulQ (Nt.prodB W.f L L.length) (Nt.prodA W.f M M.length))) (Nt.wD W.f ^ L.length * Nt.wD W.f ^ M.length) 425 := ((Nt.Sm.mulR hs28 hs46).trim.more xq)
 have hk55 : PolN _ y48 (Nt.trimQ (Nt.mulQ (Nt.prodB W.f L L.length) (Nt.prodA W.f M M.length))) 14 := PolN.fit26 h49 hs54 (by exact ⟨by omega, by omega, by omega, by decide⟩)
 refine zza 9 (.v y48.v) (zzb (sq9 (zza 38 (.adr 7 2) (zza 39 (.adr 7 2) (zzi 40 (.v y36.v) ty40 zzl (zza 41 (.adr 7 0) (zza 42 (.adr 7 1) (zzi 43 (.v y21.v) ty40 zzl (zzg 44 48 [y36.v, y21.v] ?_)))))))))
 intro w56 u56 e56 d56
 have k61 := k_poMul d56 (h38.ext (e47.trans (g51.ext.trans e56))).raw (h23.ext (e31.trans (g33.ext.trans (e35.trans (g41.ext.trans (e47.trans (g51.ext.trans e56))))))).raw (Nat.le_trans (Nt.mlK_mono hm43 hm29 (Nat.le_refl _) (Nat.le_refl _)) (by decide +kernel)) (by have h9 := hm43; omega) (by have h9 := hm29; omega) (by have h9 := hm43; omega) (by have h9 := hm29; omega)
 with_reducible refine zPm k61 ?_
 rintro _ u59 g60 ⟨y57, rfl, h58⟩
 have hly57 := h58.len
 have hm62 : (Nt.trimQ (Nt.mulQ (Nt.prodB W.f M M.length) (Nt.prodA W.f L L.length))).length ≤ 17 := Nt.zxv hm43 hm29
 have hs63 : Nt.Sm (Nt.trimQ (Nt.mulQ (Nt.prodB W.f M M.length) (Nt.prodA W.f L L.length))) (Nt.wD W.f ^ M.length * Nt.wD W.f ^ L.length) 425 := ((Nt.Sm.mulR hs44 hs30).trim.more xq)
 have hk64 : PolN _ y57 (Nt.trimQ (Nt.mulQ (Nt.prodB W.f M M.length) (Nt.prodA W.f L L.length))) 14 := PolN.fit26 h58 hs63 (by exact ⟨by omega, by omega, by omega, by decide⟩)
 refine zza 10 (.v y57.v) (zzc 74 [(4, .adr 4 0), (5, .adr 5 0), (7, .adr 7 0), (9, .v y48.v), (10, .v y57.v)] [(4, ⟨42, [.slice none 0 0, .slice none 0 0]⟩), (5, ⟨42, [.slice none 0 0, .slice none 0 0]⟩), (7, ⟨147, [y20.v, y21.v, y36.v, y37.v]⟩)] (sq9 (zzg 45 73 [.int .i64 1, .int .i64 2] ?_)))
 intro w65 u65 e65 d65
 have k70 := k_ratFrac d65 (a := 1) (b := 2) xq xq xq xq
 with_reducible refine zPm k70 ?_
 rintro _ u68 g69 ⟨r66, rfl, h67⟩
 refine zzk 11 ⟨74, [.bool false, .slice none 0 0, .slice none 0 0]⟩ (zzj ⟨74, r66.cs⟩ ty74 ?_)
 refine zzb (zzd (zzz [0, 0, 3, 0, 15, 0, 32, 96, 0, 256, 768, 2047, 4095, 0, 16383] [(0, []), (1, []), (3, []), (5, []), (6, []), (7, []), (8, []), (9, []), (10, []), (13, []), (2, []), (4, []), (11, []), (12, []), (14, [])] xj xj (zza 46 (.v y48.v) (zza 47 (.v y57.v) (zzi 49 (.v (r66.v)) ty74 zze (zza 51 (.adr 7 0) (zza 52 (.adr 7 1) (zzi 53 (.v y21.v) ty40 zzl (zza 54 (.adr 7 2) (zza 55 (.adr 7 3) (zzi 56 (.v y37.v) ty40 zzl ?_)))))))))))
 refine zzk 12 ⟨42, [.slice none 0 0, .slice none 0 0]⟩ (zzg 48 74 [y48.v, y57.v] ?_)
 intro w71 u71 e71 d71
 have k76 := k_poAdd d71 (hk55.ext (e56.trans (g60.ext.trans (e65.trans (g69.ext.trans e71))))).raw (hk64.ext (e65.trans (g69.ext.trans e71))).raw xq xq (by have h9 := hm53; omega) (by have h9 := hm62; omega)
 with_reducible refine zPm k76 ?_
 rintro _ u74 g75 ⟨y72, rfl, h73⟩
 have hly72 := h73.len
 have hm77 : (Nt.trimQ (Nt.addQ (Nt.trimQ (Nt.mulQ (Nt.prodB W.f L L.length) (Nt.prodA W.f M M.length))) (Nt.trimQ (Nt.mulQ (Nt.prodB W.f M M.length) (Nt.prodA W.f L L.length))))).length ≤ 17 := Nt.add_lenQ hm53 hm62
 have hk78 : PolN _ y72 (Nt.trimQ (Nt.addQ (Nt.trimQ (Nt.mulQ (Nt.prodB W.f L L.length) (Nt.prodA W.f M M.length))) (Nt.trimQ (Nt.mulQ (Nt.prodB W.f M M.length) (Nt.prodA W.f L L.length))))) 29 := PolN.more h73 xq
 refine zzg 50 75 [y72.v, r66.v] ?_
 intro w79 u79 e79 d79
 have k84 := k_poScale d79 (hk78.ext e79).raw (h67.ext (e71.trans (g75.ext.trans e79))).raw xq (by have h9 := hm77; omega) xq
 with_reducible refine zPm k84 ?_
 rintro _ u82 g83 ⟨y80, rfl, h81⟩
 have hly80 := h81.len
 have hm85 : (Nt.trimQ ((Nt.trimQ (Nt.addQ (Nt.trimQ (Nt.mulQ (Nt.prodB W.f L L.length) (Nt.prodA W.f M M.length))) (Nt.trimQ (Nt.mulQ (Nt.prodB W.f M M.length) (Nt.prodA W.f L L.length))))).map (· * (((1 : Int) : Rat) / ((2 : Int) : Rat))))).length ≤ 17 := Nt.map_lenQ hm77
 have hk86 : PolN _ y80 (Nt.trimQ ((Nt.trimQ (Nt.addQ (Nt.trimQ (Nt.mulQ (Nt.prodB W.f L L.length) (Nt.prodA W.f M M.length))) (Nt.trimQ (Nt.mulQ (Nt.prodB W.f M M.length) (Nt.prodA W.f L L.length))))).map (· * (((1 : Int) : Rat) / ((2 : Int) : Rat))))) 31 := PolN.more h81 xq
 refine zzg 57 48 [y21.v, y37.v] ?_
 intro w87 u87 e87 d87
 have k92 := k_poMul d87 (h23.ext (e31.trans (g33.ext.trans (e35.trans (g41.ext.trans (e47.trans (g51.ext.trans (e56.trans (g60.ext.trans (e65.trans (g69.ext.trans (e71.trans (g75.ext.trans (e79.trans (g83.ext.trans e87))))))))))))))).raw (h39.ext (e47.trans (g51.ext.trans (e56.trans (g60.ext.trans (e65.trans (g69.ext.trans (e71.trans (g75.ext.trans (e79.trans (g83.ext.trans e87))))))))))).raw (Nat.le_trans (Nt.mlK_mono hm29 hm45 (Nat.le_refl _) (Nat.le_refl _)) (by decide +kernel)) (by have h9 := hm29; omega) (by have h9 := hm45; omega) (by have h9 := hm29; omega) (by have h9 := hm45; omega)
 with_reducible refine zPm k92 ?_
 rintro _ u90 g91 ⟨y88, rfl, h89⟩
 have hly88 := h89.len
 have hm93 : (Nt.trimQ (Nt.mulQ (Nt.prodA W.f L L.length) (Nt.prodA W.f M M.length))).length ≤ 17 := Nt.zxv hm29 hm45
 have hs94 : Nt.Sm (Nt.trimQ (Nt.mulQ (Nt.prodA W.f L L.length) (Nt.prodA W.f M M.length))) (Nt.wD W.f ^ L.length * Nt.wD W.f ^ M.length) 425 := ((Nt.Sm.mulR hs30 hs46).trim.more xq)
 have hk95 : PolN _ y88 (Nt.trimQ (Nt.mulQ (Nt.prodA W.f L L.length) (Nt.prodA W.f M M.length))) 14 := PolN.fit26 h89 hs94 (by exact ⟨by omega, by omega, by omega, by decide⟩)
 refine zza 58 (.v (.agg #[y80.v, y88.v])) (zzj ⟨42, [y80.v, y88.v]⟩ ty42 ?_)
 refine zzb (zzd (zzz [0, 0, 3, 0, 15, 0, 32, 96, 0, 256, 768, 2047, 4095, 0, 16383] [(0, []), (1, []), (3, []), (5, []), (6, []), (7, []), (8, []), (9, []), (10, []), (13, []), (2, []), (4, []), (11, []), (12, []), (14, [])] xj xj (zza 59 (.v y48.v) (zza 60 (.v y57.v) (zzi 62 (.v (r66.v)) ty74 zze (zza 64 (.adr 7 0) (zza 65 (.adr 7 1) (zzi 66 (.v y21.v) ty40 zzl (zza 67 (.adr 7 2) (zza 68 (.adr 7 3) (zzi 69 (.v y37.v) ty40 zzl ?_)))))))))))
 refine zzk 13 ⟨42, [.slice none 0 0, .slice none 0 0]⟩ (zzg 61 83 [y48.v, y57.v] ?_)
 intro w96 u96 e96 d96
 have k101 := k_poSub d96 (hk55.ext (e56.trans (g60.ext.trans (e65.trans (g69.ext.trans (e71.trans (g75.ext.trans (e79.trans (g83.ext.trans (e87.trans (g91.ext.trans e96))))))))))).raw (hk64.ext (e65.trans (g69.ext.trans (e71.trans (g75.ext.trans (e79.trans (g83.ext.trans (e87.trans (g91.ext.trans e96))))))))).raw xq xq (by have h9 := hm53; omega) (by have h9 := hm62; omega)
 with_reducible refine zPm k101 ?_
 rintro _ u99 g100 ⟨y97, rfl, h98⟩
 have hly97 := h98.len
 have hm102 : (Nt.trimQ (Nt.addQ (Nt.trimQ (Nt.mulQ (Nt.prodB W.f L L.length) (Nt.prodA W.f M M.length))) ((Nt.trimQ (Nt.mulQ (Nt.prodB W.f M M.length) (Nt.prodA W.f L L.length))).map (fun z => -z)))).length ≤ 17 := Nt.add_lenQ hm53 (show ((Nt.trimQ (Nt.mulQ (Nt.prodB W.f M M.length) (Nt.prodA W.f L L.length))).map (fun z => -z)).length ≤ 17 by rw [List.length_map]; exact hm62)
 have hk103 : PolN _ y97 (Nt.trimQ (Nt.addQ (Nt.trimQ (Nt.mulQ (Nt.prodB W.f L L.length) (Nt.prodA W.f M M.length))) ((Nt.trimQ (Nt.mulQ (Nt.prodB W.f M M.length) (Nt.prodA W.f L L.length))).map (fun z => -z)))) 29 := PolN.more h98 xq
 refine zzg 63 75 [y97.v, r66.v] ?_
 intro w104 u104 e104 d104
 have k109 := k_poScale d104 (hk103.ext e104).raw (h67.ext (e71.trans (g75.ext.trans (e79.trans (g83.ext.trans (e87.trans (g91.ext.trans (e96.trans (g100.ext.trans e104))))))))).raw xq (by have h9 := hm102; omega) xq
 with_reducible refine zPm k109 ?_
 rintro _ u107 g108 ⟨y105, rfl, h106⟩
 have hly105 := h106.len
 have hm110 : (Nt.trimQ ((Nt.trimQ (Nt.addQ (Nt.trimQ (Nt.mulQ (Nt.prodB W.f L L.length) (Nt.prodA W.f M M.length))) ((Nt.trimQ (Nt.mulQ (Nt.prodB W.f M M.length) (Nt.prodA W.f L L.length))).map (fun z => -z)))).map (· * (((1 : Int) : Rat) / ((2 : Int) : Rat))))).length ≤ 17 := Nt.map_lenQ hm102
 have hk111 : PolN _ y105 (Nt.trimQ ((Nt.trimQ (Nt.addQ (Nt.trimQ (Nt.mulQ (Nt.prodB W.f L L.length) (Nt.prodA W.f M M.length))) ((Nt.trimQ (Nt.mulQ (Nt.prodB W.f M M.length) (Nt.prodA W.f L L.length))).map (fun z => -z)))).map (· * (((1 : Int) : Rat) / ((2 : Int) : Rat))))) 31 := PolN.more h106 xq
 refine zzg 70 48 [y21.v, y37.v] ?_
 intro w112 u112 e112 d112
 have k117 := k_poMul d112 (h23.ext (e31.trans (g33.ext.trans (e35.trans (g41.ext.trans (e47.trans (g51.ext.trans (e56.trans (g60.ext.trans (e65.trans (g69.ext.trans (e71.trans (g75.ext.trans (e79.trans (g83.ext.trans (e87.trans (g91.ext.trans (e96.trans (g100.ext.trans (e104.trans (g108.ext.trans e112))))))))))))))))))))).raw (h39.ext (e47.trans (g51.ext.trans (e56.trans (g60.ext.trans (e65.trans (g69.ext.trans (e71.trans (g75.ext.trans (e79.trans (g83.ext.trans (e87.trans (g91.ext.trans (e96.trans (g100.ext.trans (e104.trans (g108.ext.trans e112))))))))))))))))).raw (Nat.le_trans (Nt.mlK_mono hm29 hm45 (Nat.le_refl _) (Nat.le_refl _)) (by decide +kernel)) (by have h9 := hm29; omega) (by have h9 := hm45; omega) (by have h9 := hm29; omega) (by have h9 := hm45; omega)
 with_reducible refine zPm k117 ?_
 rintro _ u115 g116 ⟨y113, rfl, h114⟩
 have hly113 := h114.len
 have hm118 : (Nt.trimQ (Nt.mulQ (Nt.prodA W.f L L.length) (Nt.prodA W.f M M.length))).length ≤ 17 := Nt.zxv hm29 hm45
 have hs119 : Nt.Sm (Nt.trimQ (Nt.mulQ (Nt.prodA W.f L L.length) (Nt.prodA W.f M M.length))) (Nt.wD W.f ^ L.length * Nt.wD W.f ^ M.length) 425 := ((Nt.Sm.mulR hs30 hs46).trim.more xq)
 have hk120 : PolN _ y113 (Nt.trimQ (Nt.mulQ (Nt.prodA W.f L L.length) (Nt.prodA W.f M M.length))) 14 := PolN.fit26 h114 hs119 (by exact ⟨by omega, by omega, by omega, by decide⟩)
 refine zza 71 (.v (.agg #[y105.v, y113.v])) (zzj ⟨42, [y105.v, y113.v]⟩ ty42 ?_)
 refine zzc 74 [(4, .adr 4 0), (5, .adr 5 0), (12, .adr 12 0), (13, .adr 13 0)] [(4, ⟨42, [.slice none 0 0, .slice none 0 0]⟩), (5, ⟨42, [.slice none 0 0, .slice none 0 0]⟩), (12, ⟨42, [y80.v, y88.v]⟩), (13, ⟨42, [y105.v, y113.v]⟩)] (zzd (zzz [0, 0, 1, 7, 15] [(0, []), (1, []), (2, [13]), (3, []), (4, [])] xj xj (zzi 72 (.v (.agg #[y80.v, y88.v])) ty42 zze (zzi 73 (.v (.agg #[y105.v, y113.v])) ty42 zze (zzj ⟨42, [y80.v, y88.v]⟩ ty42 ?_)))))
 refine zzj ⟨42, [y105.v, y113.v]⟩ ty42 ?_
 refine zza 6 (zI 0) (zzb (zzo (ret0 [.agg #[.slice y80.a y80.n y80.c, .slice y88.a y88.n y88.c], .agg #[.slice y105.a y105.n y105.c, .slice y113.a y113.n y113.c], .int .i64 0] ⟨zzr ty42 zze, zzr ty42 zze, zzq, trivial⟩ fun u121 e122 => ?_)))
 exact ⟨y80, y88, y105, y113, rfl, PolN.more (K := 31) (hk86.ext (e87.trans (g91.ext.trans (e96.trans (g100.ext.trans (e104.trans (g108.ext.trans (e112.trans (g116.ext.trans e122))))))))) yv, PolN.more (K := 14) (hk95.ext (e96.trans (g100.ext.trans (e104.trans (g108.ext.trans (e112.trans (g116.ext.trans e122))))))) yv, PolN.more (K := 31) (hk111.ext (e112.trans (g116.ext.trans e122))) yv, PolN.more (K := 14) (hk120.ext e122) yv⟩
theorem k_wAllPass {u w : World} {W : WL} {p : PL} (d : Dat u w) (hW : WdOK W) (hf : 1 ≤ W.f) (hp : PasOK W.f p) : Calls Tryz.prog 50 #[p.v, W.v] w (Post u w fun v u' => ∃ y z : Sl, v = .tuple #[.agg #[y.v, z.v], .int .i64 0] ∧ PolN u' y (Nt.trimQ (Nt.secB W.f p)) 10 ∧ PolN u' z (Nt.trimQ (Nt.secA W.f p)) 10) := by
 obtain ⟨hw1, hw2, hw3, hw4, hw5, hw6, hw7, hw8⟩ := id hW
 refine zzm (args := [.agg #[.int .i64 p.o, .int .i64 p.g, .int .i64 p.h], .agg #[.int .i64 W.b, .int .i64 W.f, .int .i64 W.r, .int .i64 W.o]]) Tryz.func50 rfl Tryz.ntmps50 (rs := [.cell 4 42, .tmp 5]) Tryz.results50 (le_b rfl) (le_b rfl) d ?_
 refine sq9 (zzk 2 ⟨114, [.int .i64 p.o, .int .i64 p.g, .int .i64 p.h]⟩ (zzk 3 ⟨34, W.cs⟩ (zzk 4 ⟨42, [.slice none 0 0, .slice none 0 0]⟩ (zza 5 (zI 0) (zzb (zzd (sq9 (zzi 6 (.v (W.v)) ty34 zze (zzg 7 93 [W.v] ?_)))))))))
 intro w11 u11 e11 d11
 have k14 := k_suitable (W := W) d11 hW hf
 with_reducible refine zPm k14 ?_
 rintro _ u12 g13 rfl
 refine zza 8 (zB false) (zzb (zys xj (zzs (zzp ?_))))
 refine zzd (sq9 (zzi 10 (.v (.agg #[.int .i64 p.o, .int .i64 p.g, .int .i64 p.h])) ty114 zze (zzi 11 (.v (W.v)) ty34 zze (zzg 12 94 [.agg #[.int .i64 p.o, .int .i64 p.g, .int .i64 p.h], W.v] ?_))))
 intro w15 u15 e15 d15
 have k18 := k_permitted (p := p) (W := W) d15 hW hp
 with_reducible refine zPm k18 ?_
 rintro _ u16 g17 rfl
 refine zza 13 (zB false) (zzb (zys xj (zzs (zzp ?_))))
 refine sq9 (zzi 15 (.v (.agg #[.int .i64 p.o, .int .i64 p.g, .int .i64 p.h])) ty114 zze (zzi 16 (.v (W.v)) ty34 zze (zzg 17 95 [.agg #[.int .i64 p.o, .int .i64 p.g, .int .i64 p.h], W.v] ?_)))
 intro w19 u19 e19 d19
 have k26 := k_section (p := p) (W := W) d19 hW hp
 with_reducible refine zPm k26 ?_
 rintro _ u24 g25 ⟨y20, y21, rfl, h22, h23⟩
 have hly20 := h22.len
 have hmy20 := Nat.le_trans (Nt.zzh (Nt.secB W.f p)) (Nt.sec_len W.f p).1
 have hly21 := h23.len
 have hmy21 := Nat.le_trans (Nt.zzh (Nt.secA W.f p)) (Nt.sec_len W.f p).2
 refine zzj ⟨42, [y20.v, y21.v]⟩ ty42 ?_
 refine zza 5 (zI 0) (zzb (zzo (ret0 [.agg #[.slice y20.a y20.n y20.c, .slice y21.a y21.n y21.c], .int .i64 0] ⟨zzr ty42 zze, zzq, trivial⟩ fun u27 e28 => ?_)))
 exact ⟨y20, y21, rfl, (h22.ext e28), (h23.ext e28)⟩
namespace Nt
end Nt
namespace Nt
def smallQ (q : Rat) : Bool := decide (absQ q < ((1 : Int) : Rat))
end Nt
namespace Nt
def divS (l : List Rat) (q : Rat) : List Rat := l.map (· / q)
def dnS (l : List Rat) (m : Nat) : List Rat := (List.range m).map fun j => (l.getD j 0 - l.getD m 0 * l.getD (m - j) 0) / (((1 : Int) : Rat) - l.getD m 0 * l.getD m 0)
structure Down (l : List Rat) (D : Nat → List Rat) (n S : Nat) : Prop where
 len : l.length = n + 1
 nz : l.getD 0 0 ≠ 0
 top : D n = divS l (l.getD 0 0)
 dlen : ∀ m, m ≤ n → (D m).length = m + 1
 step : ∀ m, m < n → D m = dnS (D (m + 1)) (m + 1)
 small : ∀ m, 1 ≤ m → m ≤ n → smallQ ((D m).getD m 0) = true
 sm : ∀ m, m ≤ n → ∃ E A, Sm (D m) E A ∧ E ≤ 2 ^ A ∧ dg A ≤ S
end Nt
theorem Nt.Down.fit {l : List Rat} {D : Nat → List Rat} {n S m K : Nat} {u : World} {x : Sl} (h : Nt.Down l D n S) (hm : m ≤ n) (hx : PolN u x (D m) K) : PolN u x (D m) S := by
 obtain ⟨E, A, h1, h2, h3⟩ := h.sm m hm
 exact (hx.fitS h1 h2).more h3
namespace Nt
end Nt
namespace Nt
end Nt
namespace Nt
end Nt
def RatsTop (u : World) (L : List RL) (l : List Rat) (s K : Nat) : Prop := ∀ j, s ≤ j → j < l.length → RatN u (L.getD j rl0) (l.getD j 0) K
theorem RatsTop.ext {u u' : World} {L : List RL} {l : List Rat} {s K : Nat} (h : RatsTop u L l s K) (e : Ext u u') : RatsTop u' L l s K := fun j h1 h2 => (h j h1 h2).ext e
theorem RatsTop.set {u : World} {L : List RL} {l : List Rat} {s s2 s3 K : Nat} {r : RL} (h : RatsTop u L l s2 K) (hs : s2 = s + 1) (hs3 : s3 = s) (hl : s < L.length) (hr : RatN u r (l.getD s 0) K) : RatsTop u (L.set s r) l s3 K := fun j h1 h2 => by
 subst hs3
 by_cases e : j = s3
 ·subst e; rw [rl_set_same hl]; exact hr
 ·have h9 := h j xq h2
  rw [List.getD_eq_getElem?_getD, List.getElem?_set_ne xq, ← List.getD_eq_getElem?_getD]
  exact h9
theorem RatsTop.none {u : World} {L : List RL} {l : List Rat} {s K : Nat} (h : l.length ≤ s) : RatsTop u L l s K := fun j h1 h2 => by omega
theorem RatsTop.done {u : World} {L : List RL} {l : List Rat} {s K : Nat} (h : RatsTop u L l s K) (hs : s = 0) (hL : L.length = l.length) : RatsN u L l K := ⟨hL, fun i hi => by
 first
 | exact h i xq hi
 | exact h i xq xq⟩
namespace Nt
end Nt
namespace Nt
end Nt
theorem ints_nil {u : World} : SlR .i64 u none 0 0 [] := ⟨rfl, Nat.le_refl _, Nat.zero_le _, fun h => absurd h (Nat.lt_irrefl 0)⟩
theorem all_nil {b : Int} : ∀ z ∈ ([] : List Int), -b ≤ z ∧ z ≤ b := fun z hz => by cases hz
theorem all_snoc {b : Int} {L : List Int} {z : Int} (h : ∀ z ∈ L, -b ≤ z ∧ z ≤ b) (h1 : -b ≤ z) (h2 : z ≤ b) : ∀ y ∈ L ++ [z], -b ≤ y ∧ y ≤ b := fun y hy => by
 rcases List.mem_append.1 hy with hy | hy
 ·exact h y hy
 ·simp at hy; subst hy; exact ⟨h1, h2⟩
namespace Nt
end Nt
end Go.Proofs.YtifcjcecmoimjaaGreat
namespace Go.Proofs.YtifcjcecmoimjaaGreat
open Go.RowKit Go.ChangeShapes Go.WideShapes
set_option linter.unusedVariables false
theorem wrap64_ex (n : Int) : ∃ z, IntKind.i64.wrap n = z ∧ -9223372036854775808 ≤ z ∧ z ≤ 9223372036854775807 := ⟨_, rfl, by rw [IntKind.wrap_i64]; omega⟩
theorem sy_tail {P : Program} {ops : Array Oper} {w0 : Base} {u0 : World} {S : St} {u : World} {o : Oper} {p : List Tmp} {seq : Bool} {rest : List (Oper × List Tmp)} {K : St → World → Prop} (d : Tmp) {T : TypeId} {x h : Operand} {A : Option Addr} {n c : Nat} {k : IntKind} {i : Int} (m : Nat) {sz : Nat} (hT : SlIs P T sz) (hi : i = m) (hm : m ≤ n)
  (kk : ∀ A', A' = (if c = m then A else A.map (·.add (m * sz))) → sym P ops w0 u0 seq rest (S.set d (.v (.slice A' (n - m) (c - m)))) u K) (hw : Wants ops o S := by exact zwj xj) (hd : o.dst = some d := by kernel_rfl) (hop : o.op = .slice T x (some h) none none := by rfl) (hf : freeB S d = true := by kernel_rfl)
  (hx : evO S x = some (.v (.slice A n c)) := by rfl) (hh : evO S h = some (.v (.int k i)) := by rfl) : sym P ops w0 u0 seq ((o, p) :: rest) S u K := by
 subst hi
 have kk := kk _ rfl
 obtain ⟨E, agg, hu, hE⟩ := hT
 refine .inl ⟨by rw [hop]; exact (by decide : (0 : Nat) ≠ 2), .set (.v (.slice (if c = m then A else A.map (·.add (m * sz))) (n - m) (c - m))), ⟨zwa hd hf, .inl ⟨(fun t ht => by cases ht), fun B a w u' hr he hdt => ⟨hw B a hr, ?_⟩⟩⟩, ?_⟩
 ·have e1 : (execOp a.eval o).run P w = (do pure (Next.value (← Instr.sliceAt T (a.eval x) (some (a.eval h)) none none)) : Sem Next).run P w := by unfold execOp; rw [hop]; rfl
  rw [e1, ev_eval hr hx, ev_eval hr hh]
  refine run_val ?_
  show (Instr.sliceAt T (.slice A n c) (some (.int k m)) none none).run P w = .ok (.slice (if c = m then A else A.map (·.add (m * sz))) (n - m) (c - m)) w
  have hs := (hE w).2
  simp [Instr.sliceAt, Instr.slice, Instr.sliceBounds, Instr.sliceBound, asIntOf, run_underlying hu, go_sem, hs, hm]
 ·show sym P ops w0 u0 seq rest (S.put o.dst (some _)) u K
  rw [hd]; exact kk
section
variable {u : World} {k : IntKind} {A A' : Option Addr} {n c m : Nat} {l : List Int}
theorem ints_drop (h : SlR k u A n c l) (hm : m ≤ n) (hA : A' = (if c = m then A else A.map (·.add (m * 1)))) : SlR k u A' (n - m) (c - m) (l.drop m) := by
 obtain ⟨h1, h2, h3, h4⟩ := h
 refine ⟨by rw [List.length_drop]; omega, by omega, by omega, fun hp => ?_⟩
 obtain ⟨b, o, e, hb, hc⟩ := h4 xq
 rw [if_neg xq, e] at hA
 refine ⟨b, o + m, by rw [hA]; simp [Addr.add], hb, fun i hi => ?_⟩
 rw [List.getElem?_drop, Nat.add_assoc]
 exact hc (m + i) xq
theorem bd_drop {lo hi : Int} (h : ∀ z ∈ l, lo ≤ z ∧ z ≤ hi) (m : Nat) : ∀ z ∈ l.drop m, lo ≤ z ∧ z ≤ hi := fun z hz => h z (List.mem_of_mem_drop hz)
theorem bd_two {g h lo hi : Int} (h0 : lo ≤ g ∧ g ≤ hi) (h1 : lo ≤ h ∧ h ≤ hi) : ∀ z ∈ [g, h], lo ≤ z ∧ z ≤ hi := fun z hz => by
 rcases List.mem_cons.1 hz with rfl | hz
 ·exact h0
 ·rcases List.mem_cons.1 hz with rfl | hz
  ·exact h1
  ·cases hz
end
theorem pas_all0 {f : Int} : ∀ x ∈ ([] : List PL), PasOK f x := fun x hx => by cases hx
theorem pas_all1 {f : Int} {p : PL} (h : PasOK f p) : ∀ x ∈ [p], PasOK f x := fun x hx => by
 rcases List.mem_cons.1 hx with rfl | hx
 ·exact h
 ·cases hx
theorem pas_all2 {f : Int} {p q : PL} (h : PasOK f p) (k : PasOK f q) : ∀ x ∈ [p, q], PasOK f x := fun x hx => by
 rcases List.mem_cons.1 hx with rfl | hx
 ·exact h
 ·exact pas_all1 k x hx
theorem int_one (z : Int) : ∀ v ∈ [Value.int .i64 z], v.oneCell' = true := fun v hv => by
 rcases List.mem_cons.1 hv with rfl | hv
 ·rfl
 ·cases hv
section
variable {H : Type} {enc : TypeId × Value → H} {w : World} {base : Nat} {spare : Nat → Bool} {held : Bool} {r0 : Reach} {b0 : Nat} {v : Value} {d : DataW H} {p : List MemPlace}
set_option maxRecDepth 100000 in
theorem ar_ints2 (hv : Value.okWide Tryz.prog w r0 b0 48 v) (h : DataW.Trod enc Tryz.prog w base spare held 48 v d p) : ∃ (s t : Sl) (l m : List Int), v = .agg #[s.v, t.v] ∧ SlR .i64 w s.a s.n s.c l ∧ (∀ z ∈ l, -9223372036854775808 ≤ z ∧ z ≤ 9223372036854775807) ∧ SlR .i64 w t.a t.n t.c m ∧ (∀ z ∈ m, -9223372036854775808 ≤ z ∧ z ≤ 9223372036854775807) := by
 obtain ⟨cs, rfl, hsz⟩ := okWide_struct Tryz.underlying48 hv
 obtain ⟨fuel, hf⟩ := h
 obtain ⟨xs, n, _, _, hlen, hxs, hf⟩ := DataW.trod_struct Tryz.underlying48 hf
 have hlen : cs.toList.length = 2 := hlen.trans xj
 obtain ⟨c0, c1, hcs⟩ := two_of hlen
 obtain ⟨y0, y1, rfl⟩ := two_of (hxs.trans rfl)
 have hcs : cs.toList = [c0, c1] := hcs
 have e : Tryz.prog.cellsOf 37 = 1 := by kernel_rfl
 change ∀ _, _ at hf
 have h0 : DataW.trod enc Tryz.prog w base spare held n 37 [c0] = some y0 := by have h9 := hf 0 _ rfl; rw [show ((Value.agg cs).cells).toList = [c0, c1] from hcs] at h9; simpa [e] using h9
 have h1 : DataW.trod enc Tryz.prog w base spare held n 37 [c1] = some y1 := by have h9 := hf 1 _ rfl; rw [show ((Value.agg cs).cells).toList = [c0, c1] from hcs] at h9; simpa [e] using h9
 obtain ⟨s, l, hs, g, f⟩ := ar_slr (k := .i64) (e := 3) xj xj xj h0
 obtain ⟨t, m, ht, g', f'⟩ := ar_slr (k := .i64) (e := 3) xj xj xj h1
 have hs : c0 = s.v := (List.cons.inj hs).1
 have ht : c1 = t.v := (List.cons.inj ht).1
 subst hs ht
 have hcs2 : cs = #[s.v, t.v] := by cases cs; simpa using hcs
 exact ⟨s, t, l, m, by rw [hcs2], g, fun z hz => wf_i64 (f z hz), g', fun z hz => wf_i64 (f' z hz)⟩
end
end Go.Proofs.YtifcjcecmoimjaaGreat
namespace Go.Proofs.YtifcjcecmoimjaaGreat
open Go.RowKit
set_option linter.unusedVariables false
theorem k_withinB {u w : World} {n m : Int} (d : Dat u w) (hm : 1 ≤ m) (hm2 : m ≤ 4611686018427387904) (hn0 : -9223372036854775808 ≤ n) (hn1 : n ≤ 9223372036854775807) : Calls Tryz.prog 43 #[.int .i64 n, .int .i64 m] w (Post u w fun v _ => ∃ z : Int, v = .int .i64 z ∧ 0 ≤ z ∧ z < m) :=
 Post.mono (k_within d hm hm2 hn0 hn1) fun v u' _ h => ⟨n % m, h, Int.emod_nonneg _ xq, Int.emod_lt_of_pos _ xq⟩
set_option maxHeartbeats 1000000 in
theorem k_word {u w : World} {k : Int} (d : Dat u w) (hk0 : -9223372036854775808 ≤ k) (hk1 : k ≤ 9223372036854775807) : Calls Tryz.prog 42 #[.int .i64 k, .int .i64 6, .int .i64 9, .int .i64 1] w (Post u w fun v _ => ∃ W : WL, v = W.v ∧ CoefOK W) := by
 refine zzm (args := [.int .i64 k, .int .i64 6, .int .i64 9, .int .i64 1]) Tryz.func42 rfl Tryz.ntmps42 (rs := [.cell 8 34]) Tryz.results42 (le_b rfl) (le_b rfl) d ?_
 refine sq9 (zzk 8 ⟨34, [.int .i64 0, .int .i64 0, .int .i64 0, .int .i64 0]⟩ (zzb (sq9 (zza 10 (zI k) (zzg 11 43 [.int .i64 k, .int .i64 1099511627776] ?_)))))
 intro w11 u11 e11 d11
 have k17 := (show Calls _ _ #[.int .i64 k, .int .i64 1099511627776] _ _ from k_withinB (n := k) (m := 1099511627776) d11 xq xq xq xq)
 with_reducible refine zPm k17 ?_
 rintro _ u15 g16 ⟨z12, rfl, h13, h14⟩
 refine zza 0 (zI z12) (zzb (sq9 (zza 12 (zI 6) (zza 13 (zI z12) (zza 14 (zI 9) (zza 15 (zI 6) (zza 16 (zI 3) (zza 17 (zI 4) (sy_rem 18 (n := z12) (m := 4) (z12 % 4) yv (Int.tmod_eq_emod_of_nonneg xq) ?_)))))))))
 refine zyq 19 (x := zI (IntKind.i64.wrap ((6 : Int) + (z12 % 4)))) (zI ((6 : Int) + (z12 % 4))) yq (zza 20 (.v (.agg #[.int .i64 ((6 : Int) + (z12 % 4)), .int .i64 0, .int .i64 0, .int .i64 0])) (zzk 9 ⟨34, [.int .i64 0, .int .i64 0, .int .i64 0, .int .i64 0]⟩ (zzj ⟨34, [.int .i64 ((6 : Int) + (z12 % 4)), .int .i64 0, .int .i64 0, .int .i64 0]⟩ ty34 ?_)))
 refine zzb (sq9 (zza 21 (zI z12) (zza 22 (zI 9) (zza 23 (zI 6) (zza 24 (zI 3) (zza 25 (zI 4) (sy_quo 26 (n := z12) (m := 4) (z12 / 4) yv (by rw [Int.tdiv_eq_ediv_of_nonneg xq]; exact IntWalk.i64_in _ xq) ?_)))))))
 refine zza 0 (zI (z12 / 4)) (zzb (sq9 (zza 27 (.adr 9 0) (zzi 28 (zI ((6 : Int) + (z12 % 4))) ty3 zzl (zyq 29 (x := zI (IntKind.i64.wrap (((6 : Int) + (z12 % 4)) - 1))) (zI (((6 : Int) + (z12 % 4)) - 1)) yq (zza 30 (zI 1) (zyq 31 (x := zI (IntKind.i64.wrap ((((6 : Int) + (z12 % 4)) - 1) - 1))) (zI ((((6 : Int) + (z12 % 4)) - 1) - 1)) yq (zza 32 (zI (z12 / 4)) (sy_rem 33 (n := z12 / 4) (m := 2) ((z12 / 4) % 2) yv (Int.tmod_eq_emod_of_nonneg xq) ?_)))))))))
 refine zyq 34 (x := zI (IntKind.i64.wrap (((((6 : Int) + (z12 % 4)) - 1) - 1) - ((z12 / 4) % 2)))) (zI (((((6 : Int) + (z12 % 4)) - 1) - 1) - ((z12 / 4) % 2))) yq (zza 35 (.adr 9 1) (zzj ⟨34, [.int .i64 ((6 : Int) + (z12 % 4)), .int .i64 (((((6 : Int) + (z12 % 4)) - 1) - 1) - ((z12 / 4) % 2)), .int .i64 0, .int .i64 0]⟩ ty3 ?_))
 refine zzc 52 [(0, zI (z12 / 4)), (8, .adr 8 0), (9, .adr 9 0)] [(8, ⟨34, [.int .i64 0, .int .i64 0, .int .i64 0, .int .i64 0]⟩), (9, ⟨34, [.int .i64 ((6 : Int) + (z12 % 4)), .int .i64 (((((6 : Int) + (z12 % 4)) - 1) - 1) - ((z12 / 4) % 2)), .int .i64 0, .int .i64 0]⟩)] (sq9 (zza 36 (zI (z12 / 4)) (sy_quo 37 (n := z12 / 4) (m := 2) ((z12 / 4) / 2) yv (by rw [Int.tdiv_eq_ediv_of_nonneg xq]; exact IntWalk.i64_in _ xq) ?_)))
 refine zza 0 (zI ((z12 / 4) / 2)) (zzb (sq9 (zza 38 (.adr 9 1) (zzi 39 (zI (((((6 : Int) + (z12 % 4)) - 1) - 1) - ((z12 / 4) % 2))) ty3 zzl (sy_max0 40 (n := ((((6 : Int) + (z12 % 4)) - 1) - 1) - ((z12 / 4) % 2)) (v := ((((6 : Int) + (z12 % 4)) - 1) - 1) - ((z12 / 4) % 2)) (by split <;> omega) ?_)))))
 refine zza 41 (.adr 9 1) (zzj ⟨34, [.int .i64 ((6 : Int) + (z12 % 4)), .int .i64 (((((6 : Int) + (z12 % 4)) - 1) - 1) - ((z12 / 4) % 2)), .int .i64 0, .int .i64 0]⟩ ty3 ?_)
 refine zzb (sq9 (zza 42 (zI ((z12 / 4) / 2)) (sy_rem 43 (n := (z12 / 4) / 2) (m := 3) (((z12 / 4) / 2) % 3) yv (Int.tmod_eq_emod_of_nonneg xq) ?_)))
 refine zyq 44 (x := zI (IntKind.i64.wrap ((1 : Int) + (((z12 / 4) / 2) % 3)))) (zI ((1 : Int) + (((z12 / 4) / 2) % 3))) yq (zza 45 (zI ((z12 / 4) / 2)) (sy_quo 46 (n := (z12 / 4) / 2) (m := 3) (((z12 / 4) / 2) / 3) yv (by rw [Int.tdiv_eq_ediv_of_nonneg xq]; exact IntWalk.i64_in _ xq) ?_))
 refine sy_rem 47 (n := ((z12 / 4) / 2) / 3) (m := 2) ((((z12 / 4) / 2) / 3) % 2) yv (Int.tmod_eq_emod_of_nonneg xq) ?_
 refine zyq 48 (x := zI (IntKind.i64.wrap ((1 : Int) + ((((z12 / 4) / 2) / 3) % 2)))) (zI ((1 : Int) + ((((z12 / 4) / 2) / 3) % 2))) yq (zza 49 (.adr 9 2) (zzj ⟨34, [.int .i64 ((6 : Int) + (z12 % 4)), .int .i64 (((((6 : Int) + (z12 % 4)) - 1) - 1) - ((z12 / 4) % 2)), .int .i64 ((1 : Int) + (((z12 / 4) / 2) % 3)), .int .i64 0]⟩ ty3 ?_))
 refine zza 50 (.adr 9 3) (zzj ⟨34, [.int .i64 ((6 : Int) + (z12 % 4)), .int .i64 (((((6 : Int) + (z12 % 4)) - 1) - 1) - ((z12 / 4) % 2)), .int .i64 ((1 : Int) + (((z12 / 4) / 2) % 3)), .int .i64 ((1 : Int) + ((((z12 / 4) / 2) / 3) % 2))]⟩ ty3 ?_)
 refine zzb (sq9 (zzi 51 (.v (.agg #[.int .i64 ((6 : Int) + (z12 % 4)), .int .i64 (((((6 : Int) + (z12 % 4)) - 1) - 1) - ((z12 / 4) % 2)), .int .i64 ((1 : Int) + (((z12 / 4) / 2) % 3)), .int .i64 ((1 : Int) + ((((z12 / 4) / 2) / 3) % 2))])) ty34 zze (zzj ⟨34, [.int .i64 ((6 : Int) + (z12 % 4)), .int .i64 (((((6 : Int) + (z12 % 4)) - 1) - 1) - ((z12 / 4) % 2)), .int .i64 ((1 : Int) + (((z12 / 4) / 2) % 3)), .int .i64 ((1 : Int) + ((((z12 / 4) / 2) / 3) % 2))]⟩ ty34 ?_)))
 refine zzb (zzo (ret0 [.agg #[.int .i64 ((6 : Int) + (z12 % 4)), .int .i64 (((((6 : Int) + (z12 % 4)) - 1) - 1) - ((z12 / 4) % 2)), .int .i64 ((1 : Int) + (((z12 / 4) / 2) % 3)), .int .i64 ((1 : Int) + ((((z12 / 4) / 2) / 3) % 2))]] ⟨zzr ty34 zze, trivial⟩ fun u18 e19 => ?_))
 exact ⟨⟨(6 : Int) + (z12 % 4), ((((6 : Int) + (z12 % 4)) - 1) - 1) - ((z12 / 4) % 2), (1 : Int) + (((z12 / 4) / 2) % 3), (1 : Int) + ((((z12 / 4) / 2) / 3) % 2)⟩, rfl, by unfold CoefOK; dsimp only; omega⟩
theorem k_coef {u w : World} {k : Int} (d : Dat u w) (hk0 : -9223372036854775808 ≤ k) (hk1 : k ≤ 9223372036854775807) : Calls Tryz.prog 11 #[.int .i64 k] w (Post u w fun v _ => ∃ W : WL, v = W.v ∧ CoefOK W) := by
 refine zzm (args := [.int .i64 k]) Tryz.func11 rfl Tryz.ntmps11 (rs := [.cell 2 34]) Tryz.results11 (le_b rfl) (le_b rfl) d ?_
 refine sq9 (zzk 2 ⟨34, [.int .i64 0, .int .i64 0, .int .i64 0, .int .i64 0]⟩ (zzb (sq9 (zza 3 (zI k) (zzg 4 42 [.int .i64 k, .int .i64 6, .int .i64 9, .int .i64 1] ?_)))))
 intro w11 u11 e11 d11
 have k16 := k_word (k := k) d11 xq xq
 with_reducible refine zPm k16 ?_
 rintro _ u14 g15 ⟨W12, rfl, hW13⟩
 have hw17 := hW13.ok
 have hw17f : 1 ≤ W12.f := by have h9 := hW13; unfold CoefOK at h9; omega
 have hw17g : W12.f ≤ 24 := by have h9 := hW13; unfold CoefOK at h9; omega
 refine zzj ⟨34, W12.cs⟩ ty34 ?_
 refine zzb (zzo (ret0 [.agg #[.int .i64 W12.b, .int .i64 W12.f, .int .i64 W12.r, .int .i64 W12.o]] ⟨zzr ty34 zze, trivial⟩ fun u18 e19 => ?_))
 exact ⟨W12, rfl, by assumption⟩
theorem k_wat {u w : World} {x : Sl} {l : List Int} {i : Nat} (d : Dat u w) (hx : SlR .i64 u x.a x.n x.c l) (hb : ∀ z ∈ l, -9223372036854775808 ≤ z ∧ z ≤ 9223372036854775807) (hi9 : i ≤ 1000000000) : Calls Tryz.prog 44 #[x.v, .int .i64 (i : Int)] w (Post u w fun v _ => v = .int .i64 (l.getD i 0)) := by
 have hlen : l.length = x.n := hx.1
 refine zzm (args := [.slice x.a x.n x.c, .int .i64 i]) Tryz.func44 rfl Tryz.ntmps44 (rs := [.tmp 4]) Tryz.results44 (le_b rfl) (le_b rfl) d ?_
 refine sq9 (zza 4 (zI 0) (zzb (zzd (sq9 (zza 5 (zI i) (zza 6 (zB (decide ((0 : Int) ≤ (i : Int)))) (zyq 7 (x := zB (decide ((0 : Int) ≤ (i : Int)))) (zB true) (by rw [show (decide ((0 : Int) ≤ (i : Int))) = true from decide_eq_true xq]) (zza 8 (zI i) ?_ (hw := w1 2 true 7)))))))))
 refine zza 9 (.v x.v) ?_ (hw := w1 2 true 7)
 refine zza 10 (zI x.n) ?_ (hw := w1 2 true 7)
 refine zza 11 (zB (decide ((i : Int) < (x.n : Int)))) ?_ (hw := w1 2 true 7)
 refine zza 12 (zB (decide ((i : Int) < (x.n : Int)))) (zzb (zzu (b := decide ((i : Int) < (x.n : Int))) xj (fun hb12 => ?_) (fun hb12 => ?_)))
 ·replace hb12 : (decide ((i : Int) < (x.n : Int))) = true := hb12
  have qhb12 := of_decide_eq_true hb12
  refine sq9 (zza 13 (.v x.v) (zza 14 (zI i) ?_))
  have hl13 := (hx).1
  obtain ⟨b13, o13, hA13, hc13⟩ := ints_at hx (i := i) xq
  have hz13 := ints_bd hb xq i
  refine zya 15 (o13 + i * 1) (n := x.n) (off := o13) (sz := 1) (i := (i : Int)) xq hA13 xq xq sl37 (zyl 16 (.int .i64 (l.getD i 0)) hc13 ty3 (zza 4 (zI (l.getD i 0)) (zzb (zzo (zzw (ret0 [.int .i64 (l.getD i 0)] ⟨zzq, trivial⟩ fun u14 e15 => ?_))))))
  rfl
 ·replace hb12 : (decide ((i : Int) < (x.n : Int))) = false := hb12
  have qhb12 := of_decide_eq_false hb12
  refine zzs (zzp ?_)
  refine sq9 (zza 4 (zI 0) (zzb (zzo (ret0 [.int .i64 0] ⟨zzq, trivial⟩ fun u16 e17 => ?_))))
  show Value.int _ _ = Value.int _ _
  rw [show l.getD i 0 = 0 by rw [List.getD_eq_getElem?_getD, List.getElem?_eq_none xq]; rfl]
set_option maxHeartbeats 1000000 in
theorem k_below {u w : World} {x : Sl} {l : List Int} {b : Int} (d : Dat u w) (hx : SlR .i64 u x.a x.n x.c l) (hb : ∀ z ∈ l, -9223372036854775808 ≤ z ∧ z ≤ 9223372036854775807) (hb0 : 0 ≤ b) (hb1 : b ≤ 16777216) : Calls Tryz.prog 12 #[.int .i64 b, x.v, .int .i64 2] w (Post u w fun v u' => ∃ (y : Sl) (g h : Int), v = y.v ∧ y.n = 2 ∧ SlR .i64 u' y.a y.n y.c [g, h] ∧ -b ≤ g ∧ g ≤ b ∧ -b ≤ h ∧ h ≤ b) := by
 refine zzm (args := [.int .i64 b, .slice x.a x.n x.c, .int .i64 2]) Tryz.func12 rfl Tryz.ntmps12 (rs := [.tmp 6]) Tryz.results12 (le_b rfl) (le_b rfl) d ?_
 refine sq9 (zza 6 (.v (.slice none 0 0)) (zzb (sq9 (zza 7 (.v (.slice none 0 0)) (zzb (zzd (sq9 (zza 8 (zI 0) (zzb (zzt (sw_rounds 2 ?_)))))))))))
 refine zzd (sq9 (zza 9 (zI 0) (zza 10 (zI 2) (zza 11 (zB true) (zzb (zyr xj (zzs (zzp ?_))))))))
 refine zzd (zzt (zzf (zza 14 (.v (.slice none 0 0)) (zza 15 (.v x.v) (zza 16 (zI 0) (zzg 17 44 [x.v, .int .i64 0] ?_))))))
 intro w11 u11 e11 d11
 have k14 := (show Calls _ _ #[_, .int .i64 0] _ _ from k_wat (x := x) (i := 0) d11 (hx.ext e11) hb xq)
 with_reducible refine zPm k14 ?_
 rintro _ u12 g13 rfl
 have hz15 := ints_bd hb xq 0
 refine zza 18 (zI b) ?_
 obtain ⟨z16, hz16, ha16, hb16⟩ := wrap64_ex ((l.getD 0 0) + b)
 refine zyq 19 (x := zI (IntKind.i64.wrap ((l.getD 0 0) + b))) (zI z16) (eqI hz16) (zza 20 (zI b) (zyq 21 (x := zI (IntKind.i64.wrap ((2 : Int) * b))) (zI ((2 : Int) * b)) yq (zyq 22 (x := zI (IntKind.i64.wrap (((2 : Int) * b) + 1))) (zI (((2 : Int) * b) + 1)) yq (zzg 23 43 [.int .i64 z16, .int .i64 (((2 : Int) * b) + 1)] ?_))))
 intro w17 u17 e17 d17
 have k23 := (show Calls _ _ #[.int .i64 z16, .int .i64 (((2 : Int) * b) + 1)] _ _ from k_withinB (n := z16) (m := ((2 : Int) * b) + 1) d17 xq xq xq xq)
 with_reducible refine zPm k23 ?_
 rintro _ u21 g22 ⟨z18, rfl, h19, h20⟩
 refine zza 24 (zI b) ?_
 obtain ⟨g24, hg24⟩ : ∃ g, z18 - b = g := ⟨_, rfl⟩
 refine zyq 25 (x := zI (IntKind.i64.wrap (z18 - b))) (zI g24) (eqI (by rw [IntWalk.i64_in _ xq]; exact hg24)) (zxz 26 ⟨3, [.int .i64 g24]⟩ 1 (fun b25 u26 e27 h28 => ?_))
 refine sy_app0 27 (T := 37) (E := 3) (z := .int .i64 0) (size := 1) (bytes := 8) (b := b25) (off := 0) (m := 1) [.int .i64 g24] xj xj xj yv rfl (lit_news ((Ext.refl _).cells h28)) (int_one _) yv yv yv ?_
 intro c29 cs29 ha29 hb29 hc29 hd29
 have hd29r : cs29.take (1 * 1) = [g24].map (Value.int .i64) := hd29
 refine zza 7 (.slc 27 0 1 c29) (zzx ?_)
 refine zzp (zzf (zza 12 (zI 0) (zza 13 (zI 1) (zza 8 (zI 1) (zzx ?_)))))
 refine rn_next ?_
 refine sw_weak (T := St.of 29 [(0, zI b), (1, .v (.slice x.a x.n x.c)), (2, zI 2), (7, .slc 27 0 1 c29), (8, zI 1)] [(27, ⟨3, cs29⟩)]) yz ?_
 refine zzd (sq9 (zza 9 (zI 1) (zza 10 (zI 2) (zza 11 (zB true) (zzb (zyr xj (zzs (zzp ?_))))))))
 refine zzd (zzt (zzf (zza 14 (.slc 27 0 1 c29) (zza 15 (.v x.v) (zza 16 (zI 1) (zzg 17 44 [x.v, .int .i64 1] ?_))))))
 intro w30 u30 e30 d30
 have k33 := (show Calls _ _ #[_, .int .i64 1] _ _ from k_wat (x := x) (i := 1) d30 (hx.ext (e11.trans (g13.ext.trans (e17.trans (g22.ext.trans (e27.trans e30)))))) hb xq)
 with_reducible refine zPm k33 ?_
 rintro _ u31 g32 rfl
 have hz34 := ints_bd hb xq 1
 refine zza 18 (zI b) ?_
 obtain ⟨z35, hz35, ha35, hb35⟩ := wrap64_ex ((l.getD 1 0) + b)
 refine zyq 19 (x := zI (IntKind.i64.wrap ((l.getD 1 0) + b))) (zI z35) (eqI hz35) (zza 20 (zI b) (zyq 21 (x := zI (IntKind.i64.wrap ((2 : Int) * b))) (zI ((2 : Int) * b)) yq (zyq 22 (x := zI (IntKind.i64.wrap (((2 : Int) * b) + 1))) (zI (((2 : Int) * b) + 1)) yq (zzg 23 43 [.int .i64 z35, .int .i64 (((2 : Int) * b) + 1)] ?_))))
 intro w36 u36 e36 d36
 have k42 := (show Calls _ _ #[.int .i64 z35, .int .i64 (((2 : Int) * b) + 1)] _ _ from k_withinB (n := z35) (m := ((2 : Int) * b) + 1) d36 xq xq xq xq)
 with_reducible refine zPm k42 ?_
 rintro _ u40 g41 ⟨z37, rfl, h38, h39⟩
 refine zza 24 (zI b) ?_
 obtain ⟨g43, hg43⟩ : ∃ g, z37 - b = g := ⟨_, rfl⟩
 refine zyq 25 (x := zI (IntKind.i64.wrap (z37 - b))) (zI g43) (eqI (by rw [IntWalk.i64_in _ xq]; exact hg43)) (zxz 26 ⟨3, [.int .i64 g43]⟩ 1 (fun b44 u45 e46 h47 => ?_))
 refine sy_app1 27 (T := 37) (E := 3) (z := .int .i64 0) (size := 1) (bytes := 8) (b := b44) (off := 0) (m := 1) (n := 1) (cap := c29) (t := 27) (cs0 := cs29) [7, 14, 27] [.int .i64 g43] xj xj xj yv rfl (lit_news ((Ext.refl _).cells h47)) (int_one _) yv yj xq xq xq xq xk ?_
 intro c48 cs48 ha48 hb48 hc48 hd48
 have hd48r : cs48.take (2 * 1) = [g24, g43].map (Value.int .i64) := by rw [show 2 * 1 = (1 + 1) * 1 from rfl, hd48, hd29r]; rfl
 replace ha48 : 2 ≤ c48 := ha48
 refine zza 7 (.slc 27 0 2 c48) (zzx ?_)
 refine zzp (zzf (zza 12 (zI 1) (zza 13 (zI 2) (zza 8 (zI 2) (zzx ?_)))))
 refine rn_next ?_
 refine sw_weak (T := St.of 29 [(0, zI b), (1, .v (.slice x.a x.n x.c)), (2, zI 2), (7, .slc 27 0 2 c48), (8, zI 2)] [(27, ⟨3, cs48⟩)]) yz ?_
 refine zzd (sq9 (zza 9 (zI 2) (zza 10 (zI 2) (zza 11 (zB false) (zzb (zys xj (zyc (zzp (zzd (zyp (r := 7) (t := 27) [7, 27] xk xj zj zj xj (fun b49 u50 e51 hb52 hh53 => ?_)))))))))))
 have hp54 : SlR .i64 u50 (some ⟨b49, 0, none⟩) 2 c48 [g24, g43] := ints_data hh53 hd48r (show cs48.length = c48 by omega) ha48 hb48
 refine zzf (zza 28 (.v (.slice (some ⟨b49, 0, none⟩) 2 c48)) (zza 6 (.v (.slice (some ⟨b49, 0, none⟩) 2 c48)) (zzb (zzo (ret0 [.slice (some ⟨b49, 0, none⟩) 2 c48] ⟨zzq, trivial⟩ fun u55 e56 => ?_)))))
 exact ⟨(⟨some ⟨b49, 0, none⟩, 2, c48⟩ : Sl), g24, g43, rfl, rfl, (hp54.ext e56), by omega, by omega, by omega, by omega⟩
set_option maxHeartbeats 4000000 in
theorem k_sections {u w : World} {x : Sl} {l : List Int} {W : WL} (d : Dat u w) (hx : SlR .i64 u x.a x.n x.c l) (hb : ∀ z ∈ l, -9223372036854775808 ≤ z ∧ z ≤ 9223372036854775807) (hW : WdOK W) : Calls Tryz.prog 53 #[x.v, W.v] w (Post u w fun v u' => ∃ (y : Sl) (L : List PL), v = y.v ∧ PasV u' y L ∧ (∀ p ∈ L, PasOK W.f p) ∧ L.length ≤ 4) := by
 obtain ⟨hw1, hw2, hw3, hw4, hw5, hw6, hw7, hw8⟩ := id hW
 have hlen : l.length = x.n := hx.1
 have hu0 := Nt.zxq W.f
 have hu1 := Nt.p2i_24 (n := W.f) xq
 refine zzm (args := [.slice x.a x.n x.c, .agg #[.int .i64 W.b, .int .i64 W.f, .int .i64 W.r, .int .i64 W.o]]) Tryz.func53 rfl Tryz.ntmps53 (rs := [.tmp 4]) Tryz.results53 (le_b rfl) (le_b rfl) d ?_
 refine sq9 (zzk 3 ⟨34, W.cs⟩ (zza 4 (.v (.slice none 0 0)) (zzb (sq9 (zza 5 (.v (.slice none 0 0)) (zzb (zzd (sq9 (zza 6 (zI 0) (zzb (zzt ?_)))))))))))
 refine sw_rounds 2 ?_
 refine zzd (sq9 (zza 9 (zI 0) (zza 10 (zI 2) (zza 11 (.v x.v) (zza 12 (zI x.n) (zza 13 (zB (decide ((2 : Int) < (x.n : Int)))) ?_))))))
 rcases Bool.eq_false_or_eq_true (decide ((2 : Int) < (x.n : Int))) with hs11 | hs11
 ·refine zyq 14 (x := zB (decide ((2 : Int) < (x.n : Int)))) (zB true) (by rw [hs11]) ?_
  have qhs11 := of_decide_eq_true hs11
  refine zza 15 (.v (.slice none 0 0)) ?_ (hw := w1 5 true 14)
  refine zza 16 (zI 0) ?_ (hw := w1 5 true 14)
  refine zza 17 (zB true) ?_ (hw := w1 5 true 14)
  refine zza 18 (zB true) (zzb (zyr xj (zzs (zzp ?_))))
  refine zzd (zzt (zzd (zzz [0, 1, 3, 0, 0, 16, 56, 127, 255] [(0, []), (3, []), (4, []), (5, []), (6, []), (1, []), (2, []), (7, []), (8, [])] xj xj (zzi 21 (.v (W.v)) ty34 zze (zza 24 (.v x.v) (zza 25 (zI 0) (zza 26 (zI 1) ?_)))))))
  have hl12 := (hx).1
  refine sy_tail 27 (n := x.n) (c := x.c) (i := 1) 1 sl37 xq xq ?_
  intro A12 hA12
  refine zzg 22 63 [W.v] ?_
  intro w13 u13 e13 d13
  have k16 := k_wunit (W := W) d13 hW
  with_reducible refine zPm k16 ?_
  rintro _ u14 g15 rfl
  refine zyq 23 (x := zI (IntKind.i64.wrap ((Nt.p2i W.f) - 1))) (zI ((Nt.p2i W.f) - 1)) yq (zzg 28 12 [.int .i64 ((Nt.p2i W.f) - 1), .slice A12 (x.n - 1) (x.c - 1), .int .i64 2] ?_)
  intro w17 u17 e17 d17
  have k21 := (show Calls _ _ #[_, .slice (⟨A12, x.n - 1, x.c - 1⟩ : Sl).a (⟨A12, x.n - 1, x.c - 1⟩ : Sl).n (⟨A12, x.n - 1, x.c - 1⟩ : Sl).c, _] _ _ from k_below (x := (⟨A12, x.n - 1, x.c - 1⟩ : Sl)) (b := (Nt.p2i W.f) - 1) d17 ((ints_drop (m := 1) hx xq hA12).ext (e13.trans (g15.ext.trans e17))) (bd_drop hb 1) xq xq)
  with_reducible refine zPm k21 ?_
  rintro _ u19 g20 ⟨y18, g18, h18, rfl, hn18, hs18, h118, h218, h318, h418⟩
  refine zza 7 (.v y18.v) (zzb (zzd (zzz [0, 0, 3, 7, 15, 31, 0, 64, 192, 0, 512, 1536, 4032, 8191, 0, 32767] [(0, []), (1, []), (2, []), (3, []), (6, []), (7, []), (8, []), (9, []), (10, []), (11, []), (12, []), (14, []), (4, []), (5, []), (13, []), (15, [])] xj xj (zza 29 (.v x.v) (zza 30 (zI 0) ?_)))))
  have hl22 := ((hx.ext (e13.trans (g15.ext.trans (e17.trans g20.ext))))).1
  obtain ⟨b22, o22, hA22, hc22⟩ := ints_at (hx.ext (e13.trans (g15.ext.trans (e17.trans g20.ext)))) (i := 0) xq
  have hz22 := ints_bd hb xq 0
  refine zya 31 (o22 + 0 * 1) (n := x.n) (off := o22) (sz := 1) (i := 0) xq hA22 xq xq sl37 (zyl 32 (.int .i64 (l.getD 0 0)) hc22 ty3 (zza 35 (.v y18.v) ?_))
  have hl23 := (hs18).1
  obtain ⟨b23, o23, hA23, hc23⟩ := ints_at hs18 (i := 0) xq
  have hz23 := ints_bd (bd_two (lo := -9223372036854775808) (hi := 9223372036854775807) (g := g18) (h := h18) ⟨by omega, by omega⟩ ⟨by omega, by omega⟩) xq 0
  refine zya 36 (o23 + 0 * 1) (n := y18.n) (off := o23) (sz := 1) (i := 0) xq hA23 xq xq sl37 (zyl 37 (.int .i64 g18) hc23 ty3 (zza 38 (.v y18.v) ?_))
  have hl24 := (hs18).1
  obtain ⟨b24, o24, hA24, hc24⟩ := ints_at hs18 (i := 1) xq
  have hz24 := ints_bd (bd_two (lo := -9223372036854775808) (hi := 9223372036854775807) (g := g18) (h := h18) ⟨by omega, by omega⟩ ⟨by omega, by omega⟩) xq 1
  refine zya 39 (o24 + 1 * 1) (n := y18.n) (off := o24) (sz := 1) (i := 1) xq hA24 xq xq sl37 (zyl 40 (.int .i64 h18) hc24 ty3 (zza 41 (.v (.agg #[.int .i64 g18, .int .i64 h18])) (zzk 8 ⟨114, [.int .i64 0, .int .i64 0, .int .i64 0]⟩ (zzg 33 43 [.int .i64 (l.getD 0 0), .int .i64 2] ?_))))
  intro w25 u25 e25 d25
  have k31 := (show Calls _ _ #[.int .i64 (l.getD 0 0), .int .i64 2] _ _ from k_withinB (n := (l.getD 0 0)) (m := 2) d25 xq xq xq xq)
  with_reducible refine zPm k31 ?_
  rintro _ u29 g30 ⟨z26, rfl, h27, h28⟩
  refine zyq 34 (x := zI (IntKind.i64.wrap ((1 : Int) + z26))) (zI ((1 : Int) + z26)) yq (zza 42 (.v (.agg #[.int .i64 ((1 : Int) + z26), .int .i64 g18, .int .i64 h18])) (zzj ⟨114, [.int .i64 ((1 : Int) + z26), .int .i64 g18, .int .i64 h18]⟩ ty114 ?_))
  refine zzc 53 [(0, .v x.v), (3, .adr 3 0), (5, .v (.slice none 0 0)), (6, zI 0), (8, .adr 8 0)] [(3, ⟨34, W.cs⟩), (8, ⟨114, [.int .i64 ((1 : Int) + z26), .int .i64 g18, .int .i64 h18]⟩)] (zzd (sq9 (zza 43 (.adr 8 0) (zzi 44 (zI ((1 : Int) + z26)) ty3 zzl (zza 45 (zB (((1 : Int) + z26) == 1)) (zzb (zzu (b := ((1 : Int) + z26) == 1) xj (fun hb32 => ?_) (fun hb32 => ?_))))))))
  ·replace hb32 : (((1 : Int) + z26) == 1) = true := hb32
   have qhb32 : (((1 : Int) + z26) = 1) := by simpa using hb32
   refine zzf (zza 46 (.adr 8 1) (zza 47 (.adr 8 2) (zzj ⟨114, [.int .i64 ((1 : Int) + z26), .int .i64 g18, .int .i64 0]⟩ ty3 ?_)))
   refine zzb ?_
   have hk33 : PasOK W.f (⟨(1 : Int) + z26, g18, 0⟩ : PL) := ⟨by show (1 : Int) + z26 = 1 ∧ (0 : Int) = 0 ∨ (1 : Int) + z26 = 2; omega, by show _ < g18; omega, by show g18 < _; omega, by show _ < (0 : Int); omega, by show (0 : Int) < _; omega⟩
   refine zzf (zza 48 (.v (.slice none 0 0)) (zzi 49 (.v (.agg #[.int .i64 ((1 : Int) + z26), .int .i64 g18, .int .i64 0])) ty114 zze (zxz 50 ⟨114, [.int .i64 ((1 : Int) + z26), .int .i64 g18, .int .i64 0]⟩ 1 (fun b34 u35 e36 h37 => ?_))))
   refine sy_app0 51 (T := 49) (E := 114) (z := .agg #[.int .i64 0, .int .i64 0, .int .i64 0]) (size := 3) (bytes := 24) (b := b34) (off := 0) (m := 1) [.int .i64 ((1 : Int) + z26), .int .i64 g18, .int .i64 0] xj xj xj yv rfl (lit_news ((Ext.refl _).cells h37)) (pl_one (⟨(1 : Int) + z26, g18, 0⟩ : PL)) yv yv yv ?_
   intro c38 cs38 ha38 hb38 hc38 hd38
   have hd38r : cs38.take (1 * 3) = pcs [(⟨(1 : Int) + z26, g18, 0⟩ : PL)] := hd38
   refine zza 5 (.slc 51 0 1 c38) (zzx ?_)
   refine zzp (zzf (zza 19 (zI 0) (zza 20 (zI 3) (zza 6 (zI 3) (zzx ?_)))))
   refine rn_next ?_
   refine sw_weak (T := St.of 53 [(0, .v (.slice x.a x.n x.c)), (3, .adr 3 0), (5, .slc 51 0 1 c38), (6, zI 3)] [(3, ⟨34, [.int .i64 W.b, .int .i64 W.f, .int .i64 W.r, .int .i64 W.o]⟩), (51, ⟨114, cs38⟩)]) yz ?_
   refine zzd (sq9 (zza 9 (zI 3) (zza 10 (zI 5) (zza 11 (.v x.v) (zza 12 (zI x.n) (zza 13 (zB (decide ((5 : Int) < (x.n : Int)))) ?_))))))
   rcases Bool.eq_false_or_eq_true (decide ((5 : Int) < (x.n : Int))) with hs39 | hs39
   ·refine zyq 14 (x := zB (decide ((5 : Int) < (x.n : Int)))) (zB true) (by rw [hs39]) ?_
    have qhs39 := of_decide_eq_true hs39
    refine zza 15 (.slc 51 0 1 c38) ?_ (hw := w1 5 true 14)
    refine zza 16 (zI 1) ?_ (hw := w1 5 true 14)
    refine zza 17 (zB true) ?_ (hw := w1 5 true 14)
    refine zza 18 (zB true) (zzc 53 [(0, .v x.v), (3, .adr 3 0), (5, .slc 51 0 1 c38), (6, zI 3), (18, zB true)] [(3, ⟨34, W.cs⟩), (51, ⟨114, cs38⟩)] (zyr xj (zzs (zzp ?_))))
    refine zzd (zzt (zzd (zzz [0, 1, 3, 0, 0, 16, 56, 127, 255] [(0, []), (3, []), (4, []), (5, []), (6, []), (1, []), (2, []), (7, []), (8, [])] xj xj (zzi 21 (.v (W.v)) ty34 zze (zza 24 (.v x.v) (zza 25 (zI 3) (zza 26 (zI 4) ?_)))))))
    have hl40 := ((hx.ext (e13.trans (g15.ext.trans (e17.trans (g20.ext.trans (e25.trans (g30.ext.trans e36)))))))).1
    refine sy_tail 27 (n := x.n) (c := x.c) (i := 4) 4 sl37 xq xq ?_
    intro A40 hA40
    refine zzg 22 63 [W.v] ?_
    intro w41 u41 e41 d41
    have k44 := k_wunit (W := W) d41 hW
    with_reducible refine zPm k44 ?_
    rintro _ u42 g43 rfl
    refine zyq 23 (x := zI (IntKind.i64.wrap ((Nt.p2i W.f) - 1))) (zI ((Nt.p2i W.f) - 1)) yq (zzg 28 12 [.int .i64 ((Nt.p2i W.f) - 1), .slice A40 (x.n - 4) (x.c - 4), .int .i64 2] ?_)
    intro w45 u45 e45 d45
    have k49 := (show Calls _ _ #[_, .slice (⟨A40, x.n - 4, x.c - 4⟩ : Sl).a (⟨A40, x.n - 4, x.c - 4⟩ : Sl).n (⟨A40, x.n - 4, x.c - 4⟩ : Sl).c, _] _ _ from k_below (x := (⟨A40, x.n - 4, x.c - 4⟩ : Sl)) (b := (Nt.p2i W.f) - 1) d45 ((ints_drop (m := 4) (hx.ext (e13.trans (g15.ext.trans (e17.trans (g20.ext.trans (e25.trans (g30.ext.trans e36))))))) xq hA40).ext (e41.trans (g43.ext.trans e45))) (bd_drop hb 4) xq xq)
    with_reducible refine zPm k49 ?_
    rintro _ u47 g48 ⟨y46, g46, h46, rfl, hn46, hs46, h146, h246, h346, h446⟩
    refine zza 7 (.v y46.v) (zzb (zzd (zzz [0, 0, 3, 7, 15, 31, 0, 64, 192, 0, 512, 1536, 4032, 8191, 0, 32767] [(0, []), (1, []), (2, []), (3, []), (6, []), (7, []), (8, []), (9, []), (10, []), (11, []), (12, []), (14, []), (4, []), (5, []), (13, []), (15, [])] xj xj (zza 29 (.v x.v) (zza 30 (zI 3) ?_)))))
    have hl50 := ((hx.ext (e13.trans (g15.ext.trans (e17.trans (g20.ext.trans (e25.trans (g30.ext.trans (e36.trans (e41.trans (g43.ext.trans (e45.trans g48.ext)))))))))))).1
    obtain ⟨b50, o50, hA50, hc50⟩ := ints_at (hx.ext (e13.trans (g15.ext.trans (e17.trans (g20.ext.trans (e25.trans (g30.ext.trans (e36.trans (e41.trans (g43.ext.trans (e45.trans g48.ext))))))))))) (i := 3) xq
    have hz50 := ints_bd hb xq 3
    refine zya 31 (o50 + 3 * 1) (n := x.n) (off := o50) (sz := 1) (i := 3) xq hA50 xq xq sl37 (zyl 32 (.int .i64 (l.getD 3 0)) hc50 ty3 (zza 35 (.v y46.v) ?_))
    have hl51 := (hs46).1
    obtain ⟨b51, o51, hA51, hc51⟩ := ints_at hs46 (i := 0) xq
    have hz51 := ints_bd (bd_two (lo := -9223372036854775808) (hi := 9223372036854775807) (g := g46) (h := h46) ⟨by omega, by omega⟩ ⟨by omega, by omega⟩) xq 0
    refine zya 36 (o51 + 0 * 1) (n := y46.n) (off := o51) (sz := 1) (i := 0) xq hA51 xq xq sl37 (zyl 37 (.int .i64 g46) hc51 ty3 (zza 38 (.v y46.v) ?_))
    have hl52 := (hs46).1
    obtain ⟨b52, o52, hA52, hc52⟩ := ints_at hs46 (i := 1) xq
    have hz52 := ints_bd (bd_two (lo := -9223372036854775808) (hi := 9223372036854775807) (g := g46) (h := h46) ⟨by omega, by omega⟩ ⟨by omega, by omega⟩) xq 1
    refine zya 39 (o52 + 1 * 1) (n := y46.n) (off := o52) (sz := 1) (i := 1) xq hA52 xq xq sl37 (zyl 40 (.int .i64 h46) hc52 ty3 (zza 41 (.v (.agg #[.int .i64 g46, .int .i64 h46])) (zzk 8 ⟨114, [.int .i64 0, .int .i64 0, .int .i64 0]⟩ (zzg 33 43 [.int .i64 (l.getD 3 0), .int .i64 2] ?_))))
    intro w53 u53 e53 d53
    have k59 := (show Calls _ _ #[.int .i64 (l.getD 3 0), .int .i64 2] _ _ from k_withinB (n := (l.getD 3 0)) (m := 2) d53 xq xq xq xq)
    with_reducible refine zPm k59 ?_
    rintro _ u57 g58 ⟨z54, rfl, h55, h56⟩
    refine zyq 34 (x := zI (IntKind.i64.wrap ((1 : Int) + z54))) (zI ((1 : Int) + z54)) yq (zza 42 (.v (.agg #[.int .i64 ((1 : Int) + z54), .int .i64 g46, .int .i64 h46])) (zzj ⟨114, [.int .i64 ((1 : Int) + z54), .int .i64 g46, .int .i64 h46]⟩ ty114 ?_))
    refine zzb (zzd (sq9 (zza 43 (.adr 8 0) (zzi 44 (zI ((1 : Int) + z54)) ty3 zzl (zza 45 (zB (((1 : Int) + z54) == 1)) (zzb (zzu (b := ((1 : Int) + z54) == 1) xj (fun hb60 => ?_) (fun hb60 => ?_))))))))
    ·replace hb60 : (((1 : Int) + z54) == 1) = true := hb60
     have qhb60 : (((1 : Int) + z54) = 1) := by simpa using hb60
     refine zzf (zza 46 (.adr 8 1) (zza 47 (.adr 8 2) (zzj ⟨114, [.int .i64 ((1 : Int) + z54), .int .i64 g46, .int .i64 0]⟩ ty3 ?_)))
     refine zzc 53 [(0, .v x.v), (3, .adr 3 0), (5, .slc 51 0 1 c38), (6, zI 3), (8, .adr 8 0)] [(3, ⟨34, W.cs⟩), (8, ⟨114, [.int .i64 ((1 : Int) + z54), .int .i64 g46, .int .i64 0]⟩), (51, ⟨114, cs38⟩)] ?_
     have hk61 : PasOK W.f (⟨(1 : Int) + z54, g46, 0⟩ : PL) := ⟨by show (1 : Int) + z54 = 1 ∧ (0 : Int) = 0 ∨ (1 : Int) + z54 = 2; omega, by show _ < g46; omega, by show g46 < _; omega, by show _ < (0 : Int); omega, by show (0 : Int) < _; omega⟩
     refine zzf (zza 48 (.slc 51 0 1 c38) (zzi 49 (.v (.agg #[.int .i64 ((1 : Int) + z54), .int .i64 g46, .int .i64 0])) ty114 zze (zxz 50 ⟨114, [.int .i64 ((1 : Int) + z54), .int .i64 g46, .int .i64 0]⟩ 1 (fun b62 u63 e64 h65 => ?_))))
     refine sy_app1 51 (T := 49) (E := 114) (z := .agg #[.int .i64 0, .int .i64 0, .int .i64 0]) (size := 3) (bytes := 24) (b := b62) (off := 0) (m := 1) (n := 1) (cap := c38) (t := 51) (cs0 := cs38) [5, 48, 51] [.int .i64 ((1 : Int) + z54), .int .i64 g46, .int .i64 0] xj xj xj yv rfl (lit_news ((Ext.refl _).cells h65)) (pl_one (⟨(1 : Int) + z54, g46, 0⟩ : PL)) yv yj xq xq xq xq xk ?_
     intro c66 cs66 ha66 hb66 hc66 hd66
     have hd66r : cs66.take (2 * 3) = pcs [(⟨(1 : Int) + z26, g18, 0⟩ : PL), (⟨(1 : Int) + z54, g46, 0⟩ : PL)] := by rw [show 2 * 3 = (1 + 1) * 3 from rfl, hd66, hd38r]; rfl
     replace ha66 : 2 ≤ c66 := ha66
     refine zza 5 (.slc 51 0 2 c66) (zzx ?_)
     refine zzp (zzf (zza 19 (zI 3) (zza 20 (zI 6) (zza 6 (zI 6) (zzx ?_)))))
     refine rn_next ?_
     refine sw_weak (T := St.of 53 [(0, .v (.slice x.a x.n x.c)), (3, .adr 3 0), (5, .slc 51 0 2 c66), (6, zI 6)] [(3, ⟨34, [.int .i64 W.b, .int .i64 W.f, .int .i64 W.r, .int .i64 W.o]⟩), (51, ⟨114, cs66⟩)]) yz ?_
     refine zzd (sq9 (zza 9 (zI 6) (zza 10 (zI 8) (zza 11 (.v x.v) (zza 12 (zI x.n) (zza 13 (zB (decide ((8 : Int) < (x.n : Int)))) ?_))))))
     rcases Bool.eq_false_or_eq_true (decide ((8 : Int) < (x.n : Int))) with hs67 | hs67
     ·refine zyq 14 (x := zB (decide ((8 : Int) < (x.n : Int)))) (zB true) (by rw [hs67]) ?_
      have qhs67 := of_decide_eq_true hs67
      refine zza 15 (.slc 51 0 2 c66) ?_ (hw := w1 5 true 14)
      refine zza 16 (zI 2) ?_ (hw := w1 5 true 14)
      refine zza 17 (zB false) ?_ (hw := w1 5 true 14)
      refine zza 18 (zB false) (zzc 53 [(0, .v x.v), (3, .adr 3 0), (5, .slc 51 0 2 c66), (6, zI 6), (18, zB false)] [(3, ⟨34, W.cs⟩), (51, ⟨114, cs66⟩)] (zys xj (zyc (zzp (zzd (zyp (r := 5) (t := 51) [5, 51] xk xj zj zj xj (fun b68 u69 e70 hb71 hh72 => ?_)))))))
      have hp73 : PasV u69 ⟨some ⟨b68, 0, none⟩, 2, c66⟩ [(⟨(1 : Int) + z26, g18, 0⟩ : PL), (⟨(1 : Int) + z54, g46, 0⟩ : PL)] := pas_data hh72 hd66r hc66 ha66 hb66
      refine zzf (zza 52 (.v (.slice (some ⟨b68, 0, none⟩) 2 c66)) (zza 4 (.v (.slice (some ⟨b68, 0, none⟩) 2 c66)) (zzb (zzo (ret0 [.slice (some ⟨b68, 0, none⟩) 2 c66] ⟨zzq, trivial⟩ fun u74 e75 => ?_)))))
      exact ⟨(⟨some ⟨b68, 0, none⟩, 2, c66⟩ : Sl), [(⟨(1 : Int) + z26, g18, 0⟩ : PL), (⟨(1 : Int) + z54, g46, 0⟩ : PL)], rfl, (hp73.ext e75), pas_all2 hk33 hk61, by simp⟩
     ·refine zyq 14 (x := zB (decide ((8 : Int) < (x.n : Int)))) (zB false) (by rw [hs67]) ?_
      have qhs67 := of_decide_eq_false hs67
      refine zzn 15 (uw 5 true false 14) (zzn 16 (uw 5 true false 14) (zzn 17 (uw 5 true false 14) (zza 18 (zB false) (zzb (zys xj (zyc (zzp (zzd (zyp (r := 5) (t := 51) [5, 51] xk xj zj zj xj (fun b76 u77 e78 hb79 hh80 => ?_))))))))))
      have hp81 : PasV u77 ⟨some ⟨b76, 0, none⟩, 2, c66⟩ [(⟨(1 : Int) + z26, g18, 0⟩ : PL), (⟨(1 : Int) + z54, g46, 0⟩ : PL)] := pas_data hh80 hd66r hc66 ha66 hb66
      refine zzf (zza 52 (.v (.slice (some ⟨b76, 0, none⟩) 2 c66)) (zza 4 (.v (.slice (some ⟨b76, 0, none⟩) 2 c66)) (zzb (zzo (ret0 [.slice (some ⟨b76, 0, none⟩) 2 c66] ⟨zzq, trivial⟩ fun u82 e83 => ?_)))))
      exact ⟨(⟨some ⟨b76, 0, none⟩, 2, c66⟩ : Sl), [(⟨(1 : Int) + z26, g18, 0⟩ : PL), (⟨(1 : Int) + z54, g46, 0⟩ : PL)], rfl, (hp81.ext e83), pas_all2 hk33 hk61, by simp⟩
    ·replace hb60 : (((1 : Int) + z54) == 1) = false := hb60
     have qhb60 : ¬ (((1 : Int) + z54) = 1) := by simpa using hb60
     refine zzs (zzp ?_)
     have hk84 : PasOK W.f (⟨(1 : Int) + z54, g46, h46⟩ : PL) := ⟨by show (1 : Int) + z54 = 1 ∧ h46 = 0 ∨ (1 : Int) + z54 = 2; omega, by show _ < g46; omega, by show g46 < _; omega, by show _ < h46; omega, by show h46 < _; omega⟩
     refine zzf (zza 48 (.slc 51 0 1 c38) (zzi 49 (.v (.agg #[.int .i64 ((1 : Int) + z54), .int .i64 g46, .int .i64 h46])) ty114 zze (zxz 50 ⟨114, [.int .i64 ((1 : Int) + z54), .int .i64 g46, .int .i64 h46]⟩ 1 (fun b85 u86 e87 h88 => ?_))))
     refine sy_app1 51 (T := 49) (E := 114) (z := .agg #[.int .i64 0, .int .i64 0, .int .i64 0]) (size := 3) (bytes := 24) (b := b85) (off := 0) (m := 1) (n := 1) (cap := c38) (t := 51) (cs0 := cs38) [5, 48, 51] [.int .i64 ((1 : Int) + z54), .int .i64 g46, .int .i64 h46] xj xj xj yv rfl (lit_news ((Ext.refl _).cells h88)) (pl_one (⟨(1 : Int) + z54, g46, h46⟩ : PL)) yv yj xq xq xq xq xk ?_
     intro c89 cs89 ha89 hb89 hc89 hd89
     have hd89r : cs89.take (2 * 3) = pcs [(⟨(1 : Int) + z26, g18, 0⟩ : PL), (⟨(1 : Int) + z54, g46, h46⟩ : PL)] := by rw [show 2 * 3 = (1 + 1) * 3 from rfl, hd89, hd38r]; rfl
     replace ha89 : 2 ≤ c89 := ha89
     refine zza 5 (.slc 51 0 2 c89) (zzx ?_)
     refine zzp (zzf (zza 19 (zI 3) (zza 20 (zI 6) (zza 6 (zI 6) (zzx ?_)))))
     refine rn_next ?_
     refine sw_weak (T := St.of 53 [(0, .v (.slice x.a x.n x.c)), (3, .adr 3 0), (5, .slc 51 0 2 c89), (6, zI 6)] [(3, ⟨34, [.int .i64 W.b, .int .i64 W.f, .int .i64 W.r, .int .i64 W.o]⟩), (51, ⟨114, cs89⟩)]) yz ?_
     refine zzd (sq9 (zza 9 (zI 6) (zza 10 (zI 8) (zza 11 (.v x.v) (zza 12 (zI x.n) (zza 13 (zB (decide ((8 : Int) < (x.n : Int)))) ?_))))))
     rcases Bool.eq_false_or_eq_true (decide ((8 : Int) < (x.n : Int))) with hs90 | hs90
     ·refine zyq 14 (x := zB (decide ((8 : Int) < (x.n : Int)))) (zB true) (by rw [hs90]) ?_
      have qhs90 := of_decide_eq_true hs90
      refine zza 15 (.slc 51 0 2 c89) ?_ (hw := w1 5 true 14)
      refine zza 16 (zI 2) ?_ (hw := w1 5 true 14)
      refine zza 17 (zB false) ?_ (hw := w1 5 true 14)
      refine zza 18 (zB false) (zzc 53 [(0, .v x.v), (3, .adr 3 0), (5, .slc 51 0 2 c89), (6, zI 6), (18, zB false)] [(3, ⟨34, W.cs⟩), (51, ⟨114, cs89⟩)] (zys xj (zyc (zzp (zzd (zyp (r := 5) (t := 51) [5, 51] xk xj zj zj xj (fun b91 u92 e93 hb94 hh95 => ?_)))))))
      have hp96 : PasV u92 ⟨some ⟨b91, 0, none⟩, 2, c89⟩ [(⟨(1 : Int) + z26, g18, 0⟩ : PL), (⟨(1 : Int) + z54, g46, h46⟩ : PL)] := pas_data hh95 hd89r hc89 ha89 hb89
      refine zzf (zza 52 (.v (.slice (some ⟨b91, 0, none⟩) 2 c89)) (zza 4 (.v (.slice (some ⟨b91, 0, none⟩) 2 c89)) (zzb (zzo (ret0 [.slice (some ⟨b91, 0, none⟩) 2 c89] ⟨zzq, trivial⟩ fun u97 e98 => ?_)))))
      exact ⟨(⟨some ⟨b91, 0, none⟩, 2, c89⟩ : Sl), [(⟨(1 : Int) + z26, g18, 0⟩ : PL), (⟨(1 : Int) + z54, g46, h46⟩ : PL)], rfl, (hp96.ext e98), pas_all2 hk33 hk84, by simp⟩
     ·refine zyq 14 (x := zB (decide ((8 : Int) < (x.n : Int)))) (zB false) (by rw [hs90]) ?_
      have qhs90 := of_decide_eq_false hs90
      refine zzn 15 (uw 5 true false 14) (zzn 16 (uw 5 true false 14) (zzn 17 (uw 5 true false 14) (zza 18 (zB false) (zzc 53 [(0, .v x.v), (3, .adr 3 0), (5, .slc 51 0 2 c89), (6, zI 6), (18, zB false)] [(3, ⟨34, W.cs⟩), (51, ⟨114, cs89⟩)] (zys xj (zyc (zzp (zzd (zyp (r := 5) (t := 51) [5, 51] xk xj zj zj xj (fun b99 u100 e101 hb102 hh103 => ?_))))))))))
      have hp104 : PasV u100 ⟨some ⟨b99, 0, none⟩, 2, c89⟩ [(⟨(1 : Int) + z26, g18, 0⟩ : PL), (⟨(1 : Int) + z54, g46, h46⟩ : PL)] := pas_data hh103 hd89r hc89 ha89 hb89
      refine zzf (zza 52 (.v (.slice (some ⟨b99, 0, none⟩) 2 c89)) (zza 4 (.v (.slice (some ⟨b99, 0, none⟩) 2 c89)) (zzb (zzo (ret0 [.slice (some ⟨b99, 0, none⟩) 2 c89] ⟨zzq, trivial⟩ fun u105 e106 => ?_)))))
      exact ⟨(⟨some ⟨b99, 0, none⟩, 2, c89⟩ : Sl), [(⟨(1 : Int) + z26, g18, 0⟩ : PL), (⟨(1 : Int) + z54, g46, h46⟩ : PL)], rfl, (hp104.ext e106), pas_all2 hk33 hk84, by simp⟩
   ·refine zyq 14 (x := zB (decide ((5 : Int) < (x.n : Int)))) (zB false) (by rw [hs39]) ?_
    have qhs39 := of_decide_eq_false hs39
    refine zzn 15 (uw 5 true false 14) (zzn 16 (uw 5 true false 14) (zzn 17 (uw 5 true false 14) (zza 18 (zB false) (zzb (zys xj (zyc (zzp (zzd (zyp (r := 5) (t := 51) [5, 51] xk xj zj zj xj (fun b107 u108 e109 hb110 hh111 => ?_))))))))))
    have hp112 : PasV u108 ⟨some ⟨b107, 0, none⟩, 1, c38⟩ [(⟨(1 : Int) + z26, g18, 0⟩ : PL)] := pas_data hh111 hd38r hc38 ha38 hb38
    refine zzf (zza 52 (.v (.slice (some ⟨b107, 0, none⟩) 1 c38)) (zza 4 (.v (.slice (some ⟨b107, 0, none⟩) 1 c38)) (zzb (zzo (ret0 [.slice (some ⟨b107, 0, none⟩) 1 c38] ⟨zzq, trivial⟩ fun u113 e114 => ?_)))))
    exact ⟨(⟨some ⟨b107, 0, none⟩, 1, c38⟩ : Sl), [(⟨(1 : Int) + z26, g18, 0⟩ : PL)], rfl, (hp112.ext e114), pas_all1 hk33, by simp⟩
  ·replace hb32 : (((1 : Int) + z26) == 1) = false := hb32
   have qhb32 : ¬ (((1 : Int) + z26) = 1) := by simpa using hb32
   refine zzs (zzp ?_)
   have hk115 : PasOK W.f (⟨(1 : Int) + z26, g18, h18⟩ : PL) := ⟨by show (1 : Int) + z26 = 1 ∧ h18 = 0 ∨ (1 : Int) + z26 = 2; omega, by show _ < g18; omega, by show g18 < _; omega, by show _ < h18; omega, by show h18 < _; omega⟩
   refine zzf (zza 48 (.v (.slice none 0 0)) (zzi 49 (.v (.agg #[.int .i64 ((1 : Int) + z26), .int .i64 g18, .int .i64 h18])) ty114 zze (zxz 50 ⟨114, [.int .i64 ((1 : Int) + z26), .int .i64 g18, .int .i64 h18]⟩ 1 (fun b116 u117 e118 h119 => ?_))))
   refine sy_app0 51 (T := 49) (E := 114) (z := .agg #[.int .i64 0, .int .i64 0, .int .i64 0]) (size := 3) (bytes := 24) (b := b116) (off := 0) (m := 1) [.int .i64 ((1 : Int) + z26), .int .i64 g18, .int .i64 h18] xj xj xj yv rfl (lit_news ((Ext.refl _).cells h119)) (pl_one (⟨(1 : Int) + z26, g18, h18⟩ : PL)) yv yv yv ?_
   intro c120 cs120 ha120 hb120 hc120 hd120
   have hd120r : cs120.take (1 * 3) = pcs [(⟨(1 : Int) + z26, g18, h18⟩ : PL)] := hd120
   refine zza 5 (.slc 51 0 1 c120) (zzx ?_)
   refine zzp (zzf (zza 19 (zI 0) (zza 20 (zI 3) (zza 6 (zI 3) (zzx ?_)))))
   refine rn_next ?_
   refine sw_weak (T := St.of 53 [(0, .v (.slice x.a x.n x.c)), (3, .adr 3 0), (5, .slc 51 0 1 c120), (6, zI 3)] [(3, ⟨34, [.int .i64 W.b, .int .i64 W.f, .int .i64 W.r, .int .i64 W.o]⟩), (51, ⟨114, cs120⟩)]) yz ?_
   refine zzd (sq9 (zza 9 (zI 3) (zza 10 (zI 5) (zza 11 (.v x.v) (zza 12 (zI x.n) (zza 13 (zB (decide ((5 : Int) < (x.n : Int)))) ?_))))))
   rcases Bool.eq_false_or_eq_true (decide ((5 : Int) < (x.n : Int))) with hs121 | hs121
   ·refine zyq 14 (x := zB (decide ((5 : Int) < (x.n : Int)))) (zB true) (by rw [hs121]) ?_
    have qhs121 := of_decide_eq_true hs121
    refine zza 15 (.slc 51 0 1 c120) ?_ (hw := w1 5 true 14)
    refine zza 16 (zI 1) ?_ (hw := w1 5 true 14)
    refine zza 17 (zB true) ?_ (hw := w1 5 true 14)
    refine zza 18 (zB true) (zzc 53 [(0, .v x.v), (3, .adr 3 0), (5, .slc 51 0 1 c120), (6, zI 3), (18, zB true)] [(3, ⟨34, W.cs⟩), (51, ⟨114, cs120⟩)] (zyr xj (zzs (zzp ?_))))
    refine zzd (zzt (zzd (zzz [0, 1, 3, 0, 0, 16, 56, 127, 255] [(0, []), (3, []), (4, []), (5, []), (6, []), (1, []), (2, []), (7, []), (8, [])] xj xj (zzi 21 (.v (W.v)) ty34 zze (zza 24 (.v x.v) (zza 25 (zI 3) (zza 26 (zI 4) ?_)))))))
    have hl122 := ((hx.ext (e13.trans (g15.ext.trans (e17.trans (g20.ext.trans (e25.trans (g30.ext.trans e118)))))))).1
    refine sy_tail 27 (n := x.n) (c := x.c) (i := 4) 4 sl37 xq xq ?_
    intro A122 hA122
    refine zzg 22 63 [W.v] ?_
    intro w123 u123 e123 d123
    have k126 := k_wunit (W := W) d123 hW
    with_reducible refine zPm k126 ?_
    rintro _ u124 g125 rfl
    refine zyq 23 (x := zI (IntKind.i64.wrap ((Nt.p2i W.f) - 1))) (zI ((Nt.p2i W.f) - 1)) yq (zzg 28 12 [.int .i64 ((Nt.p2i W.f) - 1), .slice A122 (x.n - 4) (x.c - 4), .int .i64 2] ?_)
    intro w127 u127 e127 d127
    have k131 := (show Calls _ _ #[_, .slice (⟨A122, x.n - 4, x.c - 4⟩ : Sl).a (⟨A122, x.n - 4, x.c - 4⟩ : Sl).n (⟨A122, x.n - 4, x.c - 4⟩ : Sl).c, _] _ _ from k_below (x := (⟨A122, x.n - 4, x.c - 4⟩ : Sl)) (b := (Nt.p2i W.f) - 1) d127 ((ints_drop (m := 4) (hx.ext (e13.trans (g15.ext.trans (e17.trans (g20.ext.trans (e25.trans (g30.ext.trans e118))))))) xq hA122).ext (e123.trans (g125.ext.trans e127))) (bd_drop hb 4) xq xq)
    with_reducible refine zPm k131 ?_
    rintro _ u129 g130 ⟨y128, g128, h128, rfl, hn128, hs128, h1128, h2128, h3128, h4128⟩
    refine zza 7 (.v y128.v) (zzb (zzd (zzz [0, 0, 3, 7, 15, 31, 0, 64, 192, 0, 512, 1536, 4032, 8191, 0, 32767] [(0, []), (1, []), (2, []), (3, []), (6, []), (7, []), (8, []), (9, []), (10, []), (11, []), (12, []), (14, []), (4, []), (5, []), (13, []), (15, [])] xj xj (zza 29 (.v x.v) (zza 30 (zI 3) ?_)))))
    have hl132 := ((hx.ext (e13.trans (g15.ext.trans (e17.trans (g20.ext.trans (e25.trans (g30.ext.trans (e118.trans (e123.trans (g125.ext.trans (e127.trans g130.ext)))))))))))).1
    obtain ⟨b132, o132, hA132, hc132⟩ := ints_at (hx.ext (e13.trans (g15.ext.trans (e17.trans (g20.ext.trans (e25.trans (g30.ext.trans (e118.trans (e123.trans (g125.ext.trans (e127.trans g130.ext))))))))))) (i := 3) xq
    have hz132 := ints_bd hb xq 3
    refine zya 31 (o132 + 3 * 1) (n := x.n) (off := o132) (sz := 1) (i := 3) xq hA132 xq xq sl37 (zyl 32 (.int .i64 (l.getD 3 0)) hc132 ty3 (zza 35 (.v y128.v) ?_))
    have hl133 := (hs128).1
    obtain ⟨b133, o133, hA133, hc133⟩ := ints_at hs128 (i := 0) xq
    have hz133 := ints_bd (bd_two (lo := -9223372036854775808) (hi := 9223372036854775807) (g := g128) (h := h128) ⟨by omega, by omega⟩ ⟨by omega, by omega⟩) xq 0
    refine zya 36 (o133 + 0 * 1) (n := y128.n) (off := o133) (sz := 1) (i := 0) xq hA133 xq xq sl37 (zyl 37 (.int .i64 g128) hc133 ty3 (zza 38 (.v y128.v) ?_))
    have hl134 := (hs128).1
    obtain ⟨b134, o134, hA134, hc134⟩ := ints_at hs128 (i := 1) xq
    have hz134 := ints_bd (bd_two (lo := -9223372036854775808) (hi := 9223372036854775807) (g := g128) (h := h128) ⟨by omega, by omega⟩ ⟨by omega, by omega⟩) xq 1
    refine zya 39 (o134 + 1 * 1) (n := y128.n) (off := o134) (sz := 1) (i := 1) xq hA134 xq xq sl37 (zyl 40 (.int .i64 h128) hc134 ty3 (zza 41 (.v (.agg #[.int .i64 g128, .int .i64 h128])) (zzk 8 ⟨114, [.int .i64 0, .int .i64 0, .int .i64 0]⟩ (zzg 33 43 [.int .i64 (l.getD 3 0), .int .i64 2] ?_))))
    intro w135 u135 e135 d135
    have k141 := (show Calls _ _ #[.int .i64 (l.getD 3 0), .int .i64 2] _ _ from k_withinB (n := (l.getD 3 0)) (m := 2) d135 xq xq xq xq)
    with_reducible refine zPm k141 ?_
    rintro _ u139 g140 ⟨z136, rfl, h137, h138⟩
    refine zyq 34 (x := zI (IntKind.i64.wrap ((1 : Int) + z136))) (zI ((1 : Int) + z136)) yq (zza 42 (.v (.agg #[.int .i64 ((1 : Int) + z136), .int .i64 g128, .int .i64 h128])) (zzj ⟨114, [.int .i64 ((1 : Int) + z136), .int .i64 g128, .int .i64 h128]⟩ ty114 ?_))
    refine zzb (zzd (sq9 (zza 43 (.adr 8 0) (zzi 44 (zI ((1 : Int) + z136)) ty3 zzl (zza 45 (zB (((1 : Int) + z136) == 1)) (zzb (zzu (b := ((1 : Int) + z136) == 1) xj (fun hb142 => ?_) (fun hb142 => ?_))))))))
    ·replace hb142 : (((1 : Int) + z136) == 1) = true := hb142
     have qhb142 : (((1 : Int) + z136) = 1) := by simpa using hb142
     refine zzf (zza 46 (.adr 8 1) (zza 47 (.adr 8 2) (zzj ⟨114, [.int .i64 ((1 : Int) + z136), .int .i64 g128, .int .i64 0]⟩ ty3 ?_)))
     refine zzc 53 [(0, .v x.v), (3, .adr 3 0), (5, .slc 51 0 1 c120), (6, zI 3), (8, .adr 8 0)] [(3, ⟨34, W.cs⟩), (8, ⟨114, [.int .i64 ((1 : Int) + z136), .int .i64 g128, .int .i64 0]⟩), (51, ⟨114, cs120⟩)] ?_
     have hk143 : PasOK W.f (⟨(1 : Int) + z136, g128, 0⟩ : PL) := ⟨by show (1 : Int) + z136 = 1 ∧ (0 : Int) = 0 ∨ (1 : Int) + z136 = 2; omega, by show _ < g128; omega, by show g128 < _; omega, by show _ < (0 : Int); omega, by show (0 : Int) < _; omega⟩
     refine zzf (zza 48 (.slc 51 0 1 c120) (zzi 49 (.v (.agg #[.int .i64 ((1 : Int) + z136), .int .i64 g128, .int .i64 0])) ty114 zze (zxz 50 ⟨114, [.int .i64 ((1 : Int) + z136), .int .i64 g128, .int .i64 0]⟩ 1 (fun b144 u145 e146 h147 => ?_))))
     refine sy_app1 51 (T := 49) (E := 114) (z := .agg #[.int .i64 0, .int .i64 0, .int .i64 0]) (size := 3) (bytes := 24) (b := b144) (off := 0) (m := 1) (n := 1) (cap := c120) (t := 51) (cs0 := cs120) [5, 48, 51] [.int .i64 ((1 : Int) + z136), .int .i64 g128, .int .i64 0] xj xj xj yv rfl (lit_news ((Ext.refl _).cells h147)) (pl_one (⟨(1 : Int) + z136, g128, 0⟩ : PL)) yv yj xq xq xq xq xk ?_
     intro c148 cs148 ha148 hb148 hc148 hd148
     have hd148r : cs148.take (2 * 3) = pcs [(⟨(1 : Int) + z26, g18, h18⟩ : PL), (⟨(1 : Int) + z136, g128, 0⟩ : PL)] := by rw [show 2 * 3 = (1 + 1) * 3 from rfl, hd148, hd120r]; rfl
     replace ha148 : 2 ≤ c148 := ha148
     refine zza 5 (.slc 51 0 2 c148) (zzx ?_)
     refine zzp (zzf (zza 19 (zI 3) (zza 20 (zI 6) (zza 6 (zI 6) (zzx ?_)))))
     refine rn_next ?_
     refine sw_weak (T := St.of 53 [(0, .v (.slice x.a x.n x.c)), (3, .adr 3 0), (5, .slc 51 0 2 c148), (6, zI 6)] [(3, ⟨34, [.int .i64 W.b, .int .i64 W.f, .int .i64 W.r, .int .i64 W.o]⟩), (51, ⟨114, cs148⟩)]) yz ?_
     refine zzd (sq9 (zza 9 (zI 6) (zza 10 (zI 8) (zza 11 (.v x.v) (zza 12 (zI x.n) (zza 13 (zB (decide ((8 : Int) < (x.n : Int)))) ?_))))))
     rcases Bool.eq_false_or_eq_true (decide ((8 : Int) < (x.n : Int))) with hs149 | hs149
     ·refine zyq 14 (x := zB (decide ((8 : Int) < (x.n : Int)))) (zB true) (by rw [hs149]) ?_
      have qhs149 := of_decide_eq_true hs149
      refine zza 15 (.slc 51 0 2 c148) ?_ (hw := w1 5 true 14)
      refine zza 16 (zI 2) ?_ (hw := w1 5 true 14)
      refine zza 17 (zB false) ?_ (hw := w1 5 true 14)
      refine zza 18 (zB false) (zzc 53 [(0, .v x.v), (3, .adr 3 0), (5, .slc 51 0 2 c148), (6, zI 6), (18, zB false)] [(3, ⟨34, W.cs⟩), (51, ⟨114, cs148⟩)] (zys xj (zyc (zzp (zzd (zyp (r := 5) (t := 51) [5, 51] xk xj zj zj xj (fun b150 u151 e152 hb153 hh154 => ?_)))))))
      have hp155 : PasV u151 ⟨some ⟨b150, 0, none⟩, 2, c148⟩ [(⟨(1 : Int) + z26, g18, h18⟩ : PL), (⟨(1 : Int) + z136, g128, 0⟩ : PL)] := pas_data hh154 hd148r hc148 ha148 hb148
      refine zzf (zza 52 (.v (.slice (some ⟨b150, 0, none⟩) 2 c148)) (zza 4 (.v (.slice (some ⟨b150, 0, none⟩) 2 c148)) (zzb (zzo (ret0 [.slice (some ⟨b150, 0, none⟩) 2 c148] ⟨zzq, trivial⟩ fun u156 e157 => ?_)))))
      exact ⟨(⟨some ⟨b150, 0, none⟩, 2, c148⟩ : Sl), [(⟨(1 : Int) + z26, g18, h18⟩ : PL), (⟨(1 : Int) + z136, g128, 0⟩ : PL)], rfl, (hp155.ext e157), pas_all2 hk115 hk143, by simp⟩
     ·refine zyq 14 (x := zB (decide ((8 : Int) < (x.n : Int)))) (zB false) (by rw [hs149]) ?_
      have qhs149 := of_decide_eq_false hs149
      refine zzn 15 (uw 5 true false 14) (zzn 16 (uw 5 true false 14) (zzn 17 (uw 5 true false 14) (zza 18 (zB false) (zzb (zys xj (zyc (zzp (zzd (zyp (r := 5) (t := 51) [5, 51] xk xj zj zj xj (fun b158 u159 e160 hb161 hh162 => ?_))))))))))
      have hp163 : PasV u159 ⟨some ⟨b158, 0, none⟩, 2, c148⟩ [(⟨(1 : Int) + z26, g18, h18⟩ : PL), (⟨(1 : Int) + z136, g128, 0⟩ : PL)] := pas_data hh162 hd148r hc148 ha148 hb148
      refine zzf (zza 52 (.v (.slice (some ⟨b158, 0, none⟩) 2 c148)) (zza 4 (.v (.slice (some ⟨b158, 0, none⟩) 2 c148)) (zzb (zzo (ret0 [.slice (some ⟨b158, 0, none⟩) 2 c148] ⟨zzq, trivial⟩ fun u164 e165 => ?_)))))
      exact ⟨(⟨some ⟨b158, 0, none⟩, 2, c148⟩ : Sl), [(⟨(1 : Int) + z26, g18, h18⟩ : PL), (⟨(1 : Int) + z136, g128, 0⟩ : PL)], rfl, (hp163.ext e165), pas_all2 hk115 hk143, by simp⟩
    ·replace hb142 : (((1 : Int) + z136) == 1) = false := hb142
     have qhb142 : ¬ (((1 : Int) + z136) = 1) := by simpa using hb142
     refine zzs (zzp ?_)
     have hk166 : PasOK W.f (⟨(1 : Int) + z136, g128, h128⟩ : PL) := ⟨by show (1 : Int) + z136 = 1 ∧ h128 = 0 ∨ (1 : Int) + z136 = 2; omega, by show _ < g128; omega, by show g128 < _; omega, by show _ < h128; omega, by show h128 < _; omega⟩
     refine zzf (zza 48 (.slc 51 0 1 c120) (zzi 49 (.v (.agg #[.int .i64 ((1 : Int) + z136), .int .i64 g128, .int .i64 h128])) ty114 zze (zxz 50 ⟨114, [.int .i64 ((1 : Int) + z136), .int .i64 g128, .int .i64 h128]⟩ 1 (fun b167 u168 e169 h170 => ?_))))
     refine sy_app1 51 (T := 49) (E := 114) (z := .agg #[.int .i64 0, .int .i64 0, .int .i64 0]) (size := 3) (bytes := 24) (b := b167) (off := 0) (m := 1) (n := 1) (cap := c120) (t := 51) (cs0 := cs120) [5, 48, 51] [.int .i64 ((1 : Int) + z136), .int .i64 g128, .int .i64 h128] xj xj xj yv rfl (lit_news ((Ext.refl _).cells h170)) (pl_one (⟨(1 : Int) + z136, g128, h128⟩ : PL)) yv yj xq xq xq xq xk ?_
     intro c171 cs171 ha171 hb171 hc171 hd171
     have hd171r : cs171.take (2 * 3) = pcs [(⟨(1 : Int) + z26, g18, h18⟩ : PL), (⟨(1 : Int) + z136, g128, h128⟩ : PL)] := by rw [show 2 * 3 = (1 + 1) * 3 from rfl, hd171, hd120r]; rfl
     replace ha171 : 2 ≤ c171 := ha171
     refine zza 5 (.slc 51 0 2 c171) (zzx ?_)
     refine zzp (zzf (zza 19 (zI 3) (zza 20 (zI 6) (zza 6 (zI 6) (zzx ?_)))))
     refine rn_next ?_
     refine sw_weak (T := St.of 53 [(0, .v (.slice x.a x.n x.c)), (3, .adr 3 0), (5, .slc 51 0 2 c171), (6, zI 6)] [(3, ⟨34, [.int .i64 W.b, .int .i64 W.f, .int .i64 W.r, .int .i64 W.o]⟩), (51, ⟨114, cs171⟩)]) yz ?_
     refine zzd (sq9 (zza 9 (zI 6) (zza 10 (zI 8) (zza 11 (.v x.v) (zza 12 (zI x.n) (zza 13 (zB (decide ((8 : Int) < (x.n : Int)))) ?_))))))
     rcases Bool.eq_false_or_eq_true (decide ((8 : Int) < (x.n : Int))) with hs172 | hs172
     ·refine zyq 14 (x := zB (decide ((8 : Int) < (x.n : Int)))) (zB true) (by rw [hs172]) ?_
      have qhs172 := of_decide_eq_true hs172
      refine zza 15 (.slc 51 0 2 c171) ?_ (hw := w1 5 true 14)
      refine zza 16 (zI 2) ?_ (hw := w1 5 true 14)
      refine zza 17 (zB false) ?_ (hw := w1 5 true 14)
      refine zza 18 (zB false) (zzc 53 [(0, .v x.v), (3, .adr 3 0), (5, .slc 51 0 2 c171), (6, zI 6), (18, zB false)] [(3, ⟨34, W.cs⟩), (51, ⟨114, cs171⟩)] (zys xj (zyc (zzp (zzd (zyp (r := 5) (t := 51) [5, 51] xk xj zj zj xj (fun b173 u174 e175 hb176 hh177 => ?_)))))))
      have hp178 : PasV u174 ⟨some ⟨b173, 0, none⟩, 2, c171⟩ [(⟨(1 : Int) + z26, g18, h18⟩ : PL), (⟨(1 : Int) + z136, g128, h128⟩ : PL)] := pas_data hh177 hd171r hc171 ha171 hb171
      refine zzf (zza 52 (.v (.slice (some ⟨b173, 0, none⟩) 2 c171)) (zza 4 (.v (.slice (some ⟨b173, 0, none⟩) 2 c171)) (zzb (zzo (ret0 [.slice (some ⟨b173, 0, none⟩) 2 c171] ⟨zzq, trivial⟩ fun u179 e180 => ?_)))))
      exact ⟨(⟨some ⟨b173, 0, none⟩, 2, c171⟩ : Sl), [(⟨(1 : Int) + z26, g18, h18⟩ : PL), (⟨(1 : Int) + z136, g128, h128⟩ : PL)], rfl, (hp178.ext e180), pas_all2 hk115 hk166, by simp⟩
     ·refine zyq 14 (x := zB (decide ((8 : Int) < (x.n : Int)))) (zB false) (by rw [hs172]) ?_
      have qhs172 := of_decide_eq_false hs172
      refine zzn 15 (uw 5 true false 14) (zzn 16 (uw 5 true false 14) (zzn 17 (uw 5 true false 14) (zza 18 (zB false) (zzc 53 [(0, .v x.v), (3, .adr 3 0), (5, .slc 51 0 2 c171), (6, zI 6), (18, zB false)] [(3, ⟨34, W.cs⟩), (51, ⟨114, cs171⟩)] (zys xj (zyc (zzp (zzd (zyp (r := 5) (t := 51) [5, 51] xk xj zj zj xj (fun b181 u182 e183 hb184 hh185 => ?_))))))))))
      have hp186 : PasV u182 ⟨some ⟨b181, 0, none⟩, 2, c171⟩ [(⟨(1 : Int) + z26, g18, h18⟩ : PL), (⟨(1 : Int) + z136, g128, h128⟩ : PL)] := pas_data hh185 hd171r hc171 ha171 hb171
      refine zzf (zza 52 (.v (.slice (some ⟨b181, 0, none⟩) 2 c171)) (zza 4 (.v (.slice (some ⟨b181, 0, none⟩) 2 c171)) (zzb (zzo (ret0 [.slice (some ⟨b181, 0, none⟩) 2 c171] ⟨zzq, trivial⟩ fun u187 e188 => ?_)))))
      exact ⟨(⟨some ⟨b181, 0, none⟩, 2, c171⟩ : Sl), [(⟨(1 : Int) + z26, g18, h18⟩ : PL), (⟨(1 : Int) + z136, g128, h128⟩ : PL)], rfl, (hp186.ext e188), pas_all2 hk115 hk166, by simp⟩
   ·refine zyq 14 (x := zB (decide ((5 : Int) < (x.n : Int)))) (zB false) (by rw [hs121]) ?_
    have qhs121 := of_decide_eq_false hs121
    refine zzn 15 (uw 5 true false 14) (zzn 16 (uw 5 true false 14) (zzn 17 (uw 5 true false 14) (zza 18 (zB false) (zzb (zys xj (zyc (zzp (zzd (zyp (r := 5) (t := 51) [5, 51] xk xj zj zj xj (fun b189 u190 e191 hb192 hh193 => ?_))))))))))
    have hp194 : PasV u190 ⟨some ⟨b189, 0, none⟩, 1, c120⟩ [(⟨(1 : Int) + z26, g18, h18⟩ : PL)] := pas_data hh193 hd120r hc120 ha120 hb120
    refine zzf (zza 52 (.v (.slice (some ⟨b189, 0, none⟩) 1 c120)) (zza 4 (.v (.slice (some ⟨b189, 0, none⟩) 1 c120)) (zzb (zzo (ret0 [.slice (some ⟨b189, 0, none⟩) 1 c120] ⟨zzq, trivial⟩ fun u195 e196 => ?_)))))
    exact ⟨(⟨some ⟨b189, 0, none⟩, 1, c120⟩ : Sl), [(⟨(1 : Int) + z26, g18, h18⟩ : PL)], rfl, (hp194.ext e196), pas_all1 hk115, by simp⟩
 ·refine zyq 14 (x := zB (decide ((2 : Int) < (x.n : Int)))) (zB false) (by rw [hs11]) ?_
  have qhs11 := of_decide_eq_false hs11
  refine zzn 15 (uw 5 true false 14) (zzn 16 (uw 5 true false 14) (zzn 17 (uw 5 true false 14) (zza 18 (zB false) (zzb (zys xj (zyc (zzp (sq9 (zza 52 (.v (.slice none 0 0)) (zza 4 (.v (.slice none 0 0)) (zzb ?_)))))))))))
  refine zzo (ret0 [.slice none 0 0] ⟨zzq, trivial⟩ fun u197 e198 => ?_)
  exact ⟨⟨none, 0, 0⟩, [], rfl, pas_nil _, pas_all0, by decide⟩
set_option maxHeartbeats 1000000 in
theorem k_filter {u w : World} {x y : Sl} {l m : List Int} {W : WL} (d : Dat u w) (hx : SlR .i64 u x.a x.n x.c l) (hb : ∀ z ∈ l, -9223372036854775808 ≤ z ∧ z ≤ 9223372036854775807) (hy : SlR .i64 u y.a y.n y.c m) (hc : ∀ z ∈ m, -9223372036854775808 ≤ z ∧ z ≤ 9223372036854775807) (hW : WdOK W) : Calls Tryz.prog 17 #[.agg #[x.v, y.v], W.v] w (Post u w fun v u' => ∃ (y z : Sl) (L M : List PL), v = .agg #[y.v, z.v] ∧ PasV u' y L ∧ (∀ p ∈ L, PasOK W.f p) ∧ L.length ≤ 4 ∧ PasV u' z M ∧ (∀ p ∈ M, PasOK W.f p) ∧ M.length ≤ 4) := by
 refine zzm (args := [.agg #[.slice x.a x.n x.c, .slice y.a y.n y.c], .agg #[.int .i64 W.b, .int .i64 W.f, .int .i64 W.r, .int .i64 W.o]]) Tryz.func17 rfl Tryz.ntmps17 (rs := [.cell 4 51]) Tryz.results17 (le_b rfl) (le_b rfl) d ?_
 refine sq9 (zzk 2 ⟨48, [x.v, y.v]⟩ (zzk 3 ⟨34, W.cs⟩ (zzk 4 ⟨51, [.slice none 0 0, .slice none 0 0]⟩ (zzb (zzd (zzz [0, 1, 0, 7, 0, 16, 0, 127, 255, 511] [(0, []), (1, []), (2, []), (4, []), (5, []), (6, []), (3, []), (7, []), (8, []), (9, [])] xj xj (zza 5 (.adr 2 0) (zzi 6 (.v x.v) ty37 zzl (zzi 7 (.v (W.v)) ty34 zze (zza 9 (.adr 2 1) (zzi 10 (.v y.v) ty37 zzl ?_)))))))))))
 refine zzi 11 (.v (W.v)) ty34 zze (zzg 8 53 [x.v, W.v] ?_)
 intro w11 u11 e11 d11
 have k15 := k_sections (W := W) d11 (hx.ext e11) hb hW
 with_reducible refine zPm k15 ?_
 rintro _ u13 g14 ⟨y12, L12, rfl, h12, hp12, hn12⟩
 have hly12 := h12.len
 refine zzg 12 53 [y.v, W.v] ?_
 intro w16 u16 e16 d16
 have k20 := k_sections (W := W) d16 (hy.ext (e11.trans (g14.ext.trans e16))) hc hW
 with_reducible refine zPm k20 ?_
 rintro _ u18 g19 ⟨y17, L17, rfl, h17, hp17, hn17⟩
 have hly17 := h17.len
 refine zza 13 (.v (.agg #[y12.v, y17.v])) (zzj ⟨51, [y12.v, y17.v]⟩ ty51 ?_)
 refine zzb (zzo (ret0 [.agg #[.slice y12.a y12.n y12.c, .slice y17.a y17.n y17.c]] ⟨zzr ty51 zze, trivial⟩ fun u21 e22 => ?_))
 exact ⟨y12, y17, L12, L17, rfl, (h12.ext (e16.trans (g19.ext.trans e22))), hp12, hn12, (h17.ext e22), hp17, hn17⟩
set_option maxHeartbeats 2000000 in
theorem k_belowN {u w : World} {x : Sl} {l : List Int} {b : Int} {n : Nat} (d : Dat u w) (hx : SlR .i64 u x.a x.n x.c l) (hb : ∀ z ∈ l, -9223372036854775808 ≤ z ∧ z ≤ 9223372036854775807) (hb0 : 0 ≤ b) (hb1 : b ≤ 16777216) (hn : n ≤ 1000) : Calls Tryz.prog 12 #[.int .i64 b, x.v, .int .i64 (n : Int)] w (Post u w fun v u' => ∃ (y : Sl) (m : List Int), v = y.v ∧ m.length = n ∧ SlR .i64 u' y.a y.n y.c m ∧ (∀ z ∈ m, -b ≤ z ∧ z ≤ b)) := by
 refine zzm (args := [.int .i64 b, .slice x.a x.n x.c, .int .i64 n]) Tryz.func12 rfl Tryz.ntmps12 (rs := [.tmp 6]) Tryz.results12 (le_b rfl) (le_b rfl) d ?_
 refine sq9 (zza 6 (.v (.slice none 0 0)) (zzb (sq9 (zza 7 (.v (.slice none 0 0)) (zzb (zzd (sq9 (zza 8 (zI 0) (zzb (zzt (zyn (I := fun m11 S' u' => (m11 = n ∧ S' = St.of 29 [(0, zI b), (1, .v (.slice x.a x.n x.c)), (2, zI n), (7, .v (.slice none 0 0)), (8, zI 0)] [] ∧ Ext u u') ∨ (∃ (i : Nat) (L : List Int) (cs : List Value) (cp : Nat), m11 = n - i ∧ i ≤ n ∧ 0 < i ∧ L.length = i ∧ cs.length = cp * 1 ∧ i ≤ cp ∧ cp ≤ maxLen ∧ cs.take (i * 1) = L.map (Value.int .i64) ∧ S' = St.of 29 [(0, zI b), (1, .v (.slice x.a x.n x.c)), (2, zI n), (7, .slc 27 0 i cp), (8, zI i)] [(27, ⟨3, cs⟩)] ∧ Ext u u' ∧ (∀ z ∈ L, -b ≤ z ∧ z ≤ b))) (fun m S u1 u2 e h => by rcases h with ⟨a, b, c⟩ | ⟨a1, a2, a3, a4, b1, b2, b3, b4, b5, b6, b7, b8, b9, b10, b11⟩; exact .inl ⟨a, b, c.trans e⟩; exact .inr ⟨a1, a2, a3, a4, b1, b2, b3, b4, b5, b6, b7, b8, b9, b10.trans e, b11⟩) _ yz (.inl ⟨rfl, rfl, Ext.refl _⟩) ?_)))))))))))
 rintro m11 _ u11 (⟨hm11, rfl, e11⟩ | ⟨i, L, cs, cp, hm11, hi, hp, hL, hc, hle, hmx, ht, rfl, e11, hP⟩)
 ·change SW _ _ _ _ (St.of 29 [(0, .v (.int .i64 b)), (1, .v (.slice x.a x.n x.c)), (2, .v (.int .i64 (n : Int))), (7, .v (.slice none 0 0)), (8, .v (.int .i64 0))] []) _ _
  refine zzd (sq9 (zza 9 (zI 0) (zza 10 (zI n) (zza 11 (zB (decide ((0 : Int) < (n : Int)))) (zzb (zzu (b := decide ((0 : Int) < (n : Int))) xj (fun hb12 => ?_) (fun hb12 => ?_)))))))
  ·replace hb12 : (decide ((0 : Int) < (n : Int))) = true := hb12
   have qhb12 := of_decide_eq_true hb12
   refine zzs (zzp ?_)
   refine zzd (zzt (zzf (zza 14 (.v (.slice none 0 0)) (zza 15 (.v x.v) (zza 16 (zI 0) (zzg 17 44 [x.v, .int .i64 0] ?_))))))
   intro w13 u13 e13 d13
   have k16 := (show Calls _ _ #[_, .int .i64 0] _ _ from k_wat (x := x) (i := 0) d13 (hx.ext (e11.trans e13)) hb xq)
   with_reducible refine zPm k16 ?_
   rintro _ u14 g15 rfl
   have hz17 := ints_bd hb xq 0
   refine zza 18 (zI b) ?_
   obtain ⟨z18, hz18, ha18, hb18⟩ := wrap64_ex ((l.getD 0 0) + b)
   refine zyq 19 (x := zI (IntKind.i64.wrap ((l.getD 0 0) + b))) (zI z18) (eqI hz18) (zza 20 (zI b) (zyq 21 (x := zI (IntKind.i64.wrap ((2 : Int) * b))) (zI ((2 : Int) * b)) yq (zyq 22 (x := zI (IntKind.i64.wrap (((2 : Int) * b) + 1))) (zI (((2 : Int) * b) + 1)) yq (zzg 23 43 [.int .i64 z18, .int .i64 (((2 : Int) * b) + 1)] ?_))))
   intro w19 u19 e19 d19
   have k25 := (show Calls _ _ #[.int .i64 z18, .int .i64 (((2 : Int) * b) + 1)] _ _ from k_withinB (n := z18) (m := ((2 : Int) * b) + 1) d19 xq xq xq xq)
   with_reducible refine zPm k25 ?_
   rintro _ u23 g24 ⟨z20, rfl, h21, h22⟩
   refine zza 24 (zI b) ?_
   obtain ⟨g26, hg26⟩ : ∃ g, z20 - b = g := ⟨_, rfl⟩
   refine zyq 25 (x := zI (IntKind.i64.wrap (z20 - b))) (zI g26) (eqI (by rw [IntWalk.i64_in _ xq]; exact hg26)) (zxz 26 ⟨3, [.int .i64 g26]⟩ 1 (fun b27 u28 e29 h30 => ?_))
   refine sy_app0 27 (T := 37) (E := 3) (z := .int .i64 0) (size := 1) (bytes := 8) (b := b27) (off := 0) (m := 1) [.int .i64 g26] xj xj xj yv rfl (lit_news ((Ext.refl _).cells h30)) (int_one _) yv yv yv ?_
   intro c31 cs31 ha31 hb31 hc31 hd31
   have hd31r : cs31.take (1 * 1) = ([g26]).map (Value.int .i64) := hd31
   refine zza 7 (.slc 27 0 1 c31) (zzx ?_)
   refine zzp (zzf (zza 12 (zI 0) (zza 13 (zI 1) (zza 8 (zI 1) (zzx ?_)))))
   refine ⟨_, ?_, _, by exact zzv _ _ _, .inr ⟨1, [g26], cs31, c31, rfl, by omega, by omega, by simp, hc31, by omega, hb31, hd31r, rfl, (e11.trans (e13.trans (g15.ext.trans (e19.trans (g24.ext.trans e29))))), (all_snoc (L := []) all_nil xq xq)⟩⟩
   omega
  ·replace hb12 : (decide ((0 : Int) < (n : Int))) = false := hb12
   have qhb12 := of_decide_eq_false hb12
   refine zyc (zzp (zzd ?_))
   have hp32 : SlR .i64 u11 none 0 0 [] := ints_nil
   refine zzf (zza 28 (.v (.slice none 0 0)) (zza 6 (.v (.slice none 0 0)) (zzb (zzo (ret0 [.slice none 0 0] ⟨zzq, trivial⟩ fun u33 e34 => ?_)))))
   exact ⟨⟨none, 0, 0⟩, [], rfl, zv, (hp32.ext e34), all_nil⟩
 ·change SW _ _ _ _ (St.of 29 [(0, .v (.int .i64 b)), (1, .v (.slice x.a x.n x.c)), (2, .v (.int .i64 (n : Int))), (7, .slc 27 0 i cp), (8, .v (.int .i64 (i : Int)))] [(27, ⟨3, cs⟩)]) _ _
  refine zzd (sq9 (zza 9 (zI i) (zza 10 (zI n) (zza 11 (zB (decide ((i : Int) < (n : Int)))) (zzb (zzu (b := decide ((i : Int) < (n : Int))) xj (fun hb35 => ?_) (fun hb35 => ?_)))))))
  ·replace hb35 : (decide ((i : Int) < (n : Int))) = true := hb35
   have qhb35 := of_decide_eq_true hb35
   refine zzs (zzp ?_)
   refine zzd (zzt (zzf (zza 14 (.slc 27 0 i cp) (zza 15 (.v x.v) (zza 16 (zI i) (zzg 17 44 [x.v, .int .i64 i] ?_))))))
   intro w36 u36 e36 d36
   have k39 := (show Calls _ _ #[_, .int .i64 (i : Int)] _ _ from k_wat (x := x) (i := i) d36 (hx.ext (e11.trans e36)) hb xq)
   with_reducible refine zPm k39 ?_
   rintro _ u37 g38 rfl
   have hz40 := ints_bd hb xq i
   refine zza 18 (zI b) ?_
   obtain ⟨z41, hz41, ha41, hb41⟩ := wrap64_ex ((l.getD i 0) + b)
   refine zyq 19 (x := zI (IntKind.i64.wrap ((l.getD i 0) + b))) (zI z41) (eqI hz41) (zza 20 (zI b) (zyq 21 (x := zI (IntKind.i64.wrap ((2 : Int) * b))) (zI ((2 : Int) * b)) yq (zyq 22 (x := zI (IntKind.i64.wrap (((2 : Int) * b) + 1))) (zI (((2 : Int) * b) + 1)) yq (zzg 23 43 [.int .i64 z41, .int .i64 (((2 : Int) * b) + 1)] ?_))))
   intro w42 u42 e42 d42
   have k48 := (show Calls _ _ #[.int .i64 z41, .int .i64 (((2 : Int) * b) + 1)] _ _ from k_withinB (n := z41) (m := ((2 : Int) * b) + 1) d42 xq xq xq xq)
   with_reducible refine zPm k48 ?_
   rintro _ u46 g47 ⟨z43, rfl, h44, h45⟩
   refine zza 24 (zI b) ?_
   obtain ⟨g49, hg49⟩ : ∃ g, z43 - b = g := ⟨_, rfl⟩
   refine zyq 25 (x := zI (IntKind.i64.wrap (z43 - b))) (zI g49) (eqI (by rw [IntWalk.i64_in _ xq]; exact hg49)) (zxz 26 ⟨3, [.int .i64 g49]⟩ 1 (fun b50 u51 e52 h53 => ?_))
   refine sy_app1 27 (T := 37) (E := 3) (z := .int .i64 0) (size := 1) (bytes := 8) (b := b50) (off := 0) (m := 1) (n := i) (cap := cp) (t := 27) (cs0 := cs) [7, 14, 27] [.int .i64 g49] xj xj xj yv rfl (lit_news ((Ext.refl _).cells h53)) (int_one _) yv yj xq xq xq xq xk ?_
   intro c54 cs54 ha54 hb54 hc54 hd54
   have hd54r : cs54.take ((i + 1) * 1) = (L ++ [g49]).map (Value.int .i64) := by rw [hd54, ht, List.map_append]; rfl
   refine zza 7 (.slc 27 0 (i + 1) c54) (zzx ?_)
   refine zzp (zzf (zza 12 (zI i) (zyq 13 (x := zI (IntKind.i64.wrap ((i : Int) + 1))) (zI (i + 1 : Nat)) (eqI xz) (zza 8 (zI (i + 1 : Nat)) (zzx ?_)))))
   refine ⟨_, ?_, _, by exact zzv _ _ _, .inr ⟨i + 1, L ++ [g49], cs54, c54, rfl, by omega, by omega, by simp; omega, hc54, by omega, hb54, hd54r, rfl, (e11.trans (e36.trans (g38.ext.trans (e42.trans (g47.ext.trans e52))))), (all_snoc (L := L) hP xq xq)⟩⟩
   omega
  ·replace hb35 : (decide ((i : Int) < (n : Int))) = false := hb35
   have qhb35 := of_decide_eq_false hb35
   refine zyc (zzp (zzd (zyp (r := 7) (t := 27) [7, 27] xk xj zj zj xj (fun b56 u57 e58 hb59 hh60 => ?_))))
   have hp55 : SlR .i64 u57 (some ⟨b56, 0, none⟩) i cp L := ints_data hh60 (by have h9 := ht; rw [Nat.mul_one] at h9; exact h9) (by have h9 := hc; rw [Nat.mul_one] at h9; exact h9) hle hmx
   refine zzf (zza 28 (.v (.slice (some ⟨b56, 0, none⟩) i cp)) (zza 6 (.v (.slice (some ⟨b56, 0, none⟩) i cp)) (zzb (zzo (ret0 [.slice (some ⟨b56, 0, none⟩) i cp] ⟨zzq, trivial⟩ fun u61 e62 => ?_)))))
   exact ⟨(⟨some ⟨b56, 0, none⟩, i, cp⟩ : Sl), L, rfl, zv, (hp55.ext e62), hP⟩
instance wdDec (W : WL) : Decidable (WdOK W) := by unfold WdOK; exact inferInstance
namespace Nt
def fitB (W : WL) (z : Int) : Bool := decide (-p2i (W.b - 1) ≤ z) && decide (z ≤ p2i (W.b - 1) - 1)
theorem fit_iff {W : WL} {z : Int} : fitB W z = true ↔ -p2i (W.b - 1) ≤ z ∧ z ≤ p2i (W.b - 1) - 1 := by unfold fitB; simp
variable {W : WL} {l m : List Int} {i : Nat}
theorem mem_getD {l : List Int} {z : Int} (h : z ∈ l) : ∃ i, i < l.length ∧ l.getD i 0 = z := by
 obtain ⟨i, hi, e⟩ := List.mem_iff_getElem.1 h
 exact ⟨i, hi, by rw [List.getD_eq_getElem?_getD, List.getElem?_eq_getElem hi]; exact e⟩
end Nt
theorem k_modeG {u w : World} {r : Int} (d : Dat u w) : Calls Tryz.prog 98 #[.int .i64 r] w (Post u w fun v _ => v = .bool (decide (1 ≤ r) && decide (r ≤ 3))) := by
 refine zzm (args := [.int .i64 r]) Tryz.func98 rfl Tryz.ntmps98 (rs := [.tmp 2]) Tryz.results98 (le_b rfl) (le_b rfl) d ?_
 refine sq9 (zza 2 (zB false) (zzb (sq9 (zza 3 (zI r) (zza 4 (zB (decide ((1 : Int) ≤ r))) ?_)))))
 rcases Bool.eq_false_or_eq_true (decide ((1 : Int) ≤ r)) with hs11 | hs11
 ·refine zyq 5 (x := zB (decide ((1 : Int) ≤ r))) (zB true) (by rw [hs11]) ?_
  have qhs11 := of_decide_eq_true hs11
  refine zza 6 (zI r) ?_ (hw := w1 2 true 5)
  refine zza 7 (zB (decide (r ≤ 3))) ?_ (hw := w1 2 true 5)
  refine zza 8 (zB (decide (r ≤ 3))) (zza 2 (zB (decide (r ≤ 3))) (zzb (zzo (ret0 [.bool (decide (r ≤ 3))] ⟨zzq, trivial⟩ fun u12 e13 => ?_))))
  show Value.bool _ = Value.bool _
  congr 1
  rw [Bool.eq_iff_iff]
  simp
  omega
 ·refine zyq 5 (x := zB (decide ((1 : Int) ≤ r))) (zB false) (by rw [hs11]) ?_
  have qhs11 := of_decide_eq_false hs11
  refine zzn 6 (uw 2 true false 5) (zzn 7 (uw 2 true false 5) (zza 8 (zB false) (zza 2 (zB false) (zzb (zzo (ret0 [.bool false] ⟨zzq, trivial⟩ fun u14 e15 => ?_))))))
  show Value.bool _ = Value.bool _
  congr 1
  rw [Bool.eq_iff_iff]
  simp
  omega
theorem k_fxValidG {u w : World} {W : WL} (d : Dat u w) : Calls Tryz.prog 54 #[W.v] w (Post u w fun v _ => v = .bool (decide (WdOK W))) := by
 refine zzm (args := [.agg #[.int .i64 W.b, .int .i64 W.f, .int .i64 W.r, .int .i64 W.o]]) Tryz.func54 rfl Tryz.ntmps54 (rs := [.tmp 2]) Tryz.results54 (le_b rfl) (le_b rfl) d ?_
 refine sq9 (zzk 1 ⟨34, W.cs⟩ (zza 2 (zB false) (zzb (zzd (sq9 (zza 3 (.adr 1 0) (zzi 4 (zI W.b) ty3 zzl (zza 5 (zB (decide (W.b < 4))) ?_))))))))
 rcases Bool.eq_false_or_eq_true (decide (W.b < 4)) with hs11 | hs11
 ·refine zyq 6 (x := zB (decide (W.b < 4))) (zB true) (by rw [hs11]) ?_
  have qhs11 := of_decide_eq_true hs11
  refine zzn 7 (uw 3 false true 6) (zzn 8 (uw 3 false true 6) (zzn 9 (uw 3 false true 6) (zza 10 (zB true) (zza 11 (zB true) (zzn 12 (uw 8 false true 11) (zzn 13 (uw 8 false true 11) (zzn 14 (uw 8 false true 11) (zza 15 (zB true) (zza 16 (zB true) (zzn 17 (uw 13 false true 16) (zzn 18 (uw 13 false true 16) ?_)))))))))))
  refine zzn 19 (uw 13 false true 16) (zzn 20 (uw 13 false true 16) (zzn 21 (uw 13 false true 16) (zza 22 (zB true) (zzb (zyr xj (sq9 (zza 2 (zB false) (zzb (zzo (zzw (ret0 [.bool false] ⟨zzq, trivial⟩ fun u12 e13 => ?_)))))))))))
  show Value.bool _ = Value.bool _
  congr 1
  exact (decide_eq_false (by unfold WdOK; omega)).symm
 ·refine zyq 6 (x := zB (decide (W.b < 4))) (zB false) (by rw [hs11]) ?_
  have qhs11 := of_decide_eq_false hs11
  refine zza 7 (.adr 1 0) ?_ (hw := w1 3 false 6)
  refine zzi 8 (zI W.b) ty3 zzl ?_ (hw := w1 3 false 6)
  refine zza 9 (zB (decide ((24 : Int) < W.b))) ?_ (hw := w1 3 false 6)
  refine zza 10 (zB (decide ((24 : Int) < W.b))) ?_
  rcases Bool.eq_false_or_eq_true (decide ((24 : Int) < W.b)) with hs14 | hs14
  ·refine zyq 11 (x := zB (decide ((24 : Int) < W.b))) (zB true) (by rw [hs14]) ?_
   have qhs14 := of_decide_eq_true hs14
   refine zzn 12 (uw 8 false true 11) (zzn 13 (uw 8 false true 11) (zzn 14 (uw 8 false true 11) (zza 15 (zB true) (zza 16 (zB true) (zzn 17 (uw 13 false true 16) (zzn 18 (uw 13 false true 16) (zzn 19 (uw 13 false true 16) (zzn 20 (uw 13 false true 16) (zzn 21 (uw 13 false true 16) (zza 22 (zB true) (zzb ?_)))))))))))
   refine zyr xj (sq9 (zza 2 (zB false) (zzb (zzo (zzw (ret0 [.bool false] ⟨zzq, trivial⟩ fun u15 e16 => ?_))))))
   show Value.bool _ = Value.bool _
   congr 1
   exact (decide_eq_false (by unfold WdOK; omega)).symm
  ·refine zyq 11 (x := zB (decide ((24 : Int) < W.b))) (zB false) (by rw [hs14]) ?_
   have qhs14 := of_decide_eq_false hs14
   refine zza 12 (.adr 1 1) ?_ (hw := w1 8 false 11)
   refine zzi 13 (zI W.f) ty3 zzl ?_ (hw := w1 8 false 11)
   refine zza 14 (zB (decide (W.f < 0))) ?_ (hw := w1 8 false 11)
   refine zza 15 (zB (decide (W.f < 0))) ?_
   rcases Bool.eq_false_or_eq_true (decide (W.f < 0)) with hs17 | hs17
   ·refine zyq 16 (x := zB (decide (W.f < 0))) (zB true) (by rw [hs17]) ?_
    have qhs17 := of_decide_eq_true hs17
    refine zzn 17 (uw 13 false true 16) (zzn 18 (uw 13 false true 16) (zzn 19 (uw 13 false true 16) (zzn 20 (uw 13 false true 16) (zzn 21 (uw 13 false true 16) (zza 22 (zB true) (zzb (zyr xj (sq9 (zza 2 (zB false) (zzb (zzo (zzw (ret0 [.bool false] ⟨zzq, trivial⟩ fun u18 e19 => ?_)))))))))))))
    show Value.bool _ = Value.bool _
    congr 1
    exact (decide_eq_false (by unfold WdOK; omega)).symm
   ·refine zyq 16 (x := zB (decide (W.f < 0))) (zB false) (by rw [hs17]) ?_
    have qhs17 := of_decide_eq_false hs17
    refine zza 17 (.adr 1 1) ?_ (hw := w1 13 false 16)
    refine zzi 18 (zI W.f) ty3 zzl ?_ (hw := w1 13 false 16)
    refine zza 19 (.adr 1 0) ?_ (hw := w1 13 false 16)
    refine zzi 20 (zI W.b) ty3 zzl ?_ (hw := w1 13 false 16)
    refine zza 21 (zB (decide (W.b ≤ W.f))) ?_ (hw := w1 13 false 16)
    refine zza 22 (zB (decide (W.b ≤ W.f))) (zzb (zzu (b := decide (W.b ≤ W.f)) xj (fun hb20 => ?_) (fun hb20 => ?_)))
    ·replace hb20 : (decide (W.b ≤ W.f)) = true := hb20
     have qhb20 := of_decide_eq_true hb20
     refine sq9 (zza 2 (zB false) (zzb (zzo (zzw (ret0 [.bool false] ⟨zzq, trivial⟩ fun u21 e22 => ?_)))))
     show Value.bool _ = Value.bool _
     congr 1
     exact (decide_eq_false (by unfold WdOK; omega)).symm
    ·replace hb20 : (decide (W.b ≤ W.f)) = false := hb20
     have qhb20 := of_decide_eq_false hb20
     refine zzs (zzp ?_)
     refine sq9 (zza 23 (.adr 1 2) (zzi 24 (zI W.r) ty3 zzl (zzg 25 98 [.int .i64 W.r] ?_)))
     intro w23 u23 e23 d23
     have k26 := k_modeG d23 (r := W.r)
     with_reducible refine zPm k26 ?_
     rintro _ u24 g25 rfl
     rcases Bool.eq_false_or_eq_true (decide (1 ≤ W.r) && decide (W.r ≤ 3)) with hs27 | hs27
     ·refine zyq 26 (x := zB (decide (1 ≤ W.r) && decide (W.r ≤ 3))) (zB true) (by rw [hs27]) ?_
      have qhs27 := hs27
      simp at qhs27
      refine zza 27 (.adr 1 3) ?_ (hw := w1 3 true 26)
      refine zzi 28 (zI W.o) ty3 zzl ?_ (hw := w1 3 true 26)
      refine zza 29 (zB (W.o == 1)) ?_ (hw := w1 3 true 26)
      rcases Bool.eq_false_or_eq_true (W.o == 1) with hs28 | hs28
      ·refine zyq 30 (x := zB (W.o == 1)) (zB true) (by rw [hs28]) ?_ (hw := w1 3 true 26)
       have qhs28 := hs28
       simp at qhs28
       refine zzn 31 (uw 7 false true 30) (zzn 32 (uw 7 false true 30) (zzn 33 (uw 7 false true 30) (zza 34 (zB true) ?_ (hw := w1 3 true 26))))
       refine zza 35 (zB true) (zza 2 (zB true) (zzc 36 [(2, zB true)] [] (zzo (ret0 [.bool true] ⟨zzq, trivial⟩ fun u29 e30 => ?_))))
       show Value.bool _ = Value.bool _
       congr 1
       exact (decide_eq_true (by unfold WdOK; omega)).symm
      ·refine zyq 30 (x := zB (W.o == 1)) (zB false) (by rw [hs28]) ?_ (hw := w1 3 true 26)
       have qhs28 := hs28
       simp at qhs28
       refine zza 31 (.adr 1 3) ?_ (hw := w1 7 false 30)
       refine zzi 32 (zI W.o) ty3 zzl ?_ (hw := w1 7 false 30)
       refine zza 33 (zB (W.o == 2)) ?_ (hw := w1 7 false 30)
       refine zza 34 (zB (W.o == 2)) ?_ (hw := w1 3 true 26)
       refine zza 35 (zB (W.o == 2)) (zza 2 (zB (W.o == 2)) (zzc 36 [(2, zB (W.o == 2))] [] (zzo (ret0 [.bool (W.o == 2)] ⟨zzq, trivial⟩ fun u31 e32 => ?_))))
       show Value.bool _ = Value.bool _
       congr 1
       rw [Bool.eq_iff_iff]
       simp
       unfold WdOK
       omega
     ·refine zyq 26 (x := zB (decide (1 ≤ W.r) && decide (W.r ≤ 3))) (zB false) (by rw [hs27]) ?_
      have qhs27 := hs27
      simp at qhs27
      refine zzn 27 (uw 3 true false 26) (zzn 28 (uw 3 true false 26) (zzn 29 (uw 3 true false 26) (zzn 30 (uw 3 true false 26) (zzn 31 (unwantedU (g := 7) (b := false) (t := 30) xj xj xj) (zzn 32 (unwantedU (g := 7) (b := false) (t := 30) xj xj xj) (zzn 33 (unwantedU (g := 7) (b := false) (t := 30) xj xj xj) (zzn 34 (uw 3 true false 26) (zza 35 (zB false) (zza 2 (zB false) (zzc 36 [(2, zB false)] [] (zzo (ret0 [.bool false] ⟨zzq, trivial⟩ fun u33 e34 => ?_))))))))))))
      show Value.bool _ = Value.bool _
      congr 1
      exact (decide_eq_false (by unfold WdOK; omega)).symm
theorem k_fxFitsG {u w : World} {W : WL} {z : Int} (d : Dat u w) (hW : WdOK W) : Calls Tryz.prog 86 #[W.v, .int .i64 z] w (Post u w fun v _ => v = .bool (Nt.fitB W z)) := by
 obtain ⟨hw1, hw2, hw3, hw4, hw5, hw6, hw7, hw8⟩ := id hW
 refine zzm (args := [.agg #[.int .i64 W.b, .int .i64 W.f, .int .i64 W.r, .int .i64 W.o], .int .i64 z]) Tryz.func86 rfl Tryz.ntmps86 (rs := [.tmp 4]) Tryz.results86 (le_b rfl) (le_b rfl) d ?_
 refine sq9 (zzk 2 ⟨34, W.cs⟩ (zza 4 (zB false) (zzb (sq9 (zzi 5 (.v (W.v)) ty34 zze (zzg 6 54 [W.v] ?_))))))
 intro w11 u11 e11 d11
 have k14 := k_fxValid (W := W) d11 hW
 with_reducible refine zPm k14 ?_
 rintro _ u12 g13 rfl
 refine zza 7 (zB true) (zza 8 (zI z) ?_ (hw := w1 2 true 7))
 refine zzi 9 (.v (W.v)) ty34 zze ?_ (hw := w1 2 true 7)
 refine zzg 10 126 [W.v] ?_ (hw := w1 2 true 7)
 intro w15 u15 e15 d15
 have k18 := k_fxLow (W := W) d15 hW
 with_reducible refine zPm k18 ?_
 rintro _ u16 g17 rfl
 refine zza 11 (zB (decide ((-Nt.p2i (W.b - 1)) ≤ z))) ?_ (hw := w1 2 true 7)
 refine zza 12 (zB (decide ((-Nt.p2i (W.b - 1)) ≤ z))) ?_
 rcases Bool.eq_false_or_eq_true (decide ((-Nt.p2i (W.b - 1)) ≤ z)) with hs19 | hs19
 ·refine zyq 13 (x := zB (decide ((-Nt.p2i (W.b - 1)) ≤ z))) (zB true) (by rw [hs19]) ?_
  have qhs19 := of_decide_eq_true hs19
  refine zza 14 (zI z) ?_ (hw := w1 8 true 13)
  refine zzi 15 (.v (W.v)) ty34 zze ?_ (hw := w1 8 true 13)
  refine zzg 16 127 [W.v] ?_ (hw := w1 8 true 13)
  intro w20 u20 e20 d20
  have k23 := k_fxHigh (W := W) d20 hW
  with_reducible refine zPm k23 ?_
  rintro _ u21 g22 rfl
  refine zza 17 (zB (decide (z ≤ (Nt.p2i (W.b - 1) - 1)))) ?_ (hw := w1 8 true 13)
  refine zza 18 (zB (decide (z ≤ (Nt.p2i (W.b - 1) - 1)))) (zza 4 (zB (decide (z ≤ (Nt.p2i (W.b - 1) - 1)))) (zzb (zzo (ret0 [.bool (decide (z ≤ (Nt.p2i (W.b - 1) - 1)))] ⟨zzq, trivial⟩ fun u24 e25 => ?_))))
  show Value.bool _ = Value.bool _
  first | rfl | (congr 1; rw [Bool.eq_iff_iff, Nt.fit_iff]; first | (simp; done) | (simp; omega))
 ·refine zyq 13 (x := zB (decide ((-Nt.p2i (W.b - 1)) ≤ z))) (zB false) (by rw [hs19]) ?_
  have qhs19 := of_decide_eq_false hs19
  refine zzn 14 (uw 8 true false 13) (zzn 15 (uw 8 true false 13) (zzn 16 (uw 8 true false 13) (zzn 17 (uw 8 true false 13) (zza 18 (zB false) (zza 4 (zB false) (zzb (zzo (ret0 [.bool false] ⟨zzq, trivial⟩ fun u26 e27 => ?_))))))))
  show Value.bool _ = Value.bool _
  first | rfl | (congr 1; rw [Bool.eq_iff_iff, Nt.fit_iff]; first | (simp; done) | (simp; omega))
namespace Nt
end Nt
section
variable {P : Program} {ops : Array Oper} {w0 : Base} {u0 : World} {S : St} {u : World} {o : Oper} {p : List Tmp} {seq : Bool} {rest : List (Oper × List Tmp)} {K : St → World → Prop}
theorem run_app_none {T E : TypeId} {i : TypeInfo} (hT : P.underlying T = some (.slice E)) (hi : P.info? E = some i) {n cap : Nat} (hcap : n ≤ cap) (ty : TypeId) (A : Option Addr) (c b : Nat) (w : World) :
  (Builtin.append_ #[T, T] ty #[.slice (some ⟨b, 0, none⟩) n cap, .slice A 0 c]).run P w = .ok (.slice (some ⟨b, 0, none⟩) n cap) w := by
 cases A <;> simp [Builtin.append_, run_underlying hT, sizeOf, typeInfo, hi, hcap, Builtin.lenOf, Builtin.firstCells, storeCells, loadCells, loadCellsFrom]
end
section
variable {P : Program} {ops : Array Oper} {w0 : Base} {u0 : World} {S : St} {u : World}
structure LeftX (ops : Array Oper) (M : List Nat) (L : List (Nat × List Tmp)) (listed : Array Bool) : Prop where
 nodup : (L.map (·.1)).Nodup
 back : L.Pairwise (fun x y => ((ops.getD x.1 default).after.toList.any fun e => Region.binds .any e && e.on == y.1) = false)
 size : listed.size = ops.size
 mem : ∀ i, i < ops.size → (listed.getD i true = false ↔ i ∈ L.map (·.1))
 lt : ∀ x ∈ L, x.1 < ops.size ∧ ∀ e ∈ (ops.getD x.1 default).after, Region.binds .any e = true → e.on ≠ x.1 ∧ e.on < ops.size
 mask : ∀ x ∈ L, M.getD x.1 0 = reachOf M (ops.getD x.1 default)
 closed : ∀ j, j < ops.size → j ∉ L.map (·.1) → ∀ x, (M.getD j 0).testBit x = true → x ∉ L.map (·.1)
theorem LeftX.ready_mem {M : List Nat} {L : List (Nat × List Tmp)} {listed : Array Bool} (h : LeftX ops M L listed) {i : Nat} (hi : i ∈ Region.ready .any ops listed) : i < ops.size ∧ i ∈ L.map (·.1) ∧ ∀ e ∈ (ops.getD i default).after, Region.binds .any e = true → e.on ∉ L.map (·.1) := by
 obtain ⟨h0, o, ho, hall⟩ := mem_ready.1 hi
 have hlt : i < ops.size := (Array.getElem?_eq_some_iff.1 ho).1
 have hm := (h.mem i hlt).1 h0
 refine ⟨hlt, hm, fun e he hb => ?_⟩
 rw [get_op hlt] at ho
 injection ho with ho
 obtain ⟨x, hx, hxi⟩ := List.mem_map.1 hm
 have hl := ((h.lt x hx).2 e (by rw [hxi]; exact he) hb).2
 have := hall e (by rw [← ho]; exact he) hb
 rw [listed_iff (by rw [h.size]; exact hl), h.mem e.on hl] at this
 exact this
theorem LeftX.head_ready {M : List Nat} {x : Nat × List Tmp} {L : List (Nat × List Tmp)} {listed : Array Bool} (h : LeftX ops M (x :: L) listed) : x.1 ∈ Region.ready .any ops listed := by
 obtain ⟨h1, h2⟩ := h.lt x (List.mem_cons_self ..)
 refine mem_ready.2 ⟨(h.mem x.1 h1).2 zq, _, get_op h1, fun e he hb => ?_⟩
 obtain ⟨h3, h4⟩ := h2 e he hb
 rw [listed_iff (by rw [h.size]; exact h4), h.mem e.on h4]
 intro hm
 obtain ⟨y, hy, hye⟩ := List.mem_map.1 hm
 rcases List.mem_cons.1 hy with rfl | hy
 ·exact h3 hye.symm
 ·have := (List.pairwise_cons.1 h.back).1 y hy
  have h5 : ((ops.getD x.1 default).after.toList.any fun e => Region.binds .any e && e.on == y.1) = true := List.any_eq_true.2 ⟨e, by simpa using he, by simp [hb, hye]⟩
  rw [h5] at this; cases this
theorem LeftX.out {M : List Nat} {L : List (Nat × List Tmp)} {listed : Array Bool} (h : LeftX ops M L listed) {x : Nat × List Tmp} (hx : x ∈ L) (hout : ∀ e ∈ (ops.getD x.1 default).after, Region.binds .any e = true → e.on ∉ L.map (·.1)) :
  ∀ j, (M.getD x.1 0).testBit j = true → j ∉ L.map (·.1) := by
 intro j hj
 rw [h.mask x hx] at hj
 rcases foldl_bit M j _ _ hj with h0 | ⟨e, he, hb, h1⟩
 ·simp at h0
 ·have he' : e ∈ (ops.getD x.1 default).after := by simpa using he
  have hn := hout e he' hb
  rcases h1 with rfl | h1
  ·exact hn
  ·exact h.closed e.on ((h.lt x hx).2 e he' hb).2 hn j h1
theorem LeftX.step {M : List Nat} {pre post : List (Nat × List Tmp)} {y : Nat × List Tmp} {listed : Array Bool} (hL : LeftX ops M (pre ++ y :: post) listed) (hro : ∀ j, (M.getD y.1 0).testBit j = true → j ∉ (pre ++ y :: post).map (·.1)) : LeftX ops M (pre ++ post) (listed.setIfInBounds y.1 true) := by
 have hsub : (pre ++ post).Sublist (pre ++ y :: post) := List.Sublist.append_left (List.sublist_cons_self _ _) _
 have hyn : y.1 ∉ (pre ++ post).map (·.1) := by
  have := hL.nodup
  rw [List.map_append, List.map_cons] at this
  have h2 := List.nodup_append.1 this
  have h3 := (List.nodup_cons.1 h2.2.1).1
  intro hm
  rw [List.map_append] at hm
  rcases List.mem_append.1 hm with hm | hm
  ·exact h2.2.2 y.1 hm y.1 (List.mem_cons_self ..) rfl
  ·exact h3 hm
 have hmem : ∀ j, j ≠ y.1 → (j ∈ (pre ++ post).map (·.1) ↔ j ∈ (pre ++ y :: post).map (·.1)) := fun j hj => by simp [hj]
 refine ⟨hL.nodup.sublist (hsub.map _), hL.back.sublist hsub, by simp [hL.size], fun j hj => ?_, fun x hx => hL.lt x (hsub.mem hx), fun x hx => hL.mask x (hsub.mem hx), fun j hj hjn x hx => ?_⟩
 ·by_cases e : j = y.1
  ·subst e
   constructor
   ·intro h
    simp [hL.size, hj] at h
   ·intro h; exact absurd h hyn
  ·rw [getD_set_ne true (Ne.symm e), hmem j e]
   exact hL.mem j hj
 ·intro hmx
  by_cases e : j = y.1
  ·subst e; exact hro x hx ((hsub.map _).mem hmx)
  ·exact hL.closed j hj (fun h => hjn ((hmem j e).2 h)) x hx ((hsub.map _).mem hmx)
end
section
variable {P : Program} {ops : Array Oper} {w0 : Base} {u0 : World} {S : St} {u : World}
end
section
variable {P : Program} {ops : Array Oper} {w0 : Base} {u0 : World} {S : St} {u : World} {Q : MP} {listed : Array Bool}
end
theorem PasV.news {u : World} {x : Sl} {L : List PL} (h : PasV u x L) (hL : 0 < L.length) : ∃ b o, x.a = some ⟨b, o, none⟩ ∧ ∀ j v, (pcs L)[j]? = some v → u.cell? ⟨b, o + j, none⟩ = some v := by
 obtain ⟨h1, h2, h3, h4⟩ := h
 obtain ⟨b, o, e, hc⟩ := h4 (by rw [pcs_len] at h1; omega)
 exact ⟨b, o, e, fun j v hv => by rw [hc j (List.getElem?_eq_some_iff.1 hv).1]; exact hv⟩
def FmOK (W : WL) : Prop := WdOK W ∧ 1 ≤ W.f
instance fmDec (W : WL) : Decidable (FmOK W) := by unfold FmOK; exact inferInstance
instance pasDec (f : Int) (p : PL) : Decidable (PasOK f p) := by unfold PasOK; exact inferInstance
def WvOK (W : WL) (L M : List PL) : Prop := FmOK W ∧ L.length ≤ 4 ∧ M.length ≤ 4 ∧ (∀ i, i < L.length → PasOK W.f (L.getD i pl0)) ∧ ∀ i, i < M.length → PasOK W.f (M.getD i pl0)
instance wvDec (W : WL) (L M : List PL) : Decidable (WvOK W L M) := by unfold WvOK; exact inferInstance
theorem k_suitableG {u w : World} {W : WL} (d : Dat u w) : Calls Tryz.prog 93 #[W.v] w (Post u w fun v _ => v = .bool (decide (FmOK W))) := by
 refine zzm (args := [.agg #[.int .i64 W.b, .int .i64 W.f, .int .i64 W.r, .int .i64 W.o]]) Tryz.func93 rfl Tryz.ntmps93 (rs := [.tmp 2]) Tryz.results93 (le_b rfl) (le_b rfl) d ?_
 refine sq9 (zzk 1 ⟨34, W.cs⟩ (zza 2 (zB false) (zzb (sq9 (zzi 3 (.v (W.v)) ty34 zze (zzg 4 54 [W.v] ?_))))))
 intro w11 u11 e11 d11
 have k14 := k_fxValidG (W := W) d11
 with_reducible refine zPm k14 ?_
 rintro _ u12 g13 rfl
 rcases Bool.eq_false_or_eq_true (decide (WdOK W)) with hs15 | hs15
 ·refine zyq 5 (x := zB (decide (WdOK W))) (zB true) (by rw [hs15]) ?_
  have qhs15 := of_decide_eq_true hs15
  have hW : WdOK W := by simpa using hs15
  have hu0 := Nt.zxq W.f
  have hw9 := hW
  unfold WdOK at hw9
  have hu1 := Nt.p2i_24 (n := W.f) xq
  have hu2 := Nt.zwh (a := W.f) (b := W.b - 1) xq
  have hu3 := Nt.p2i_24 (n := W.b - 1) xq
  refine zza 6 (.adr 1 1) ?_ (hw := w1 2 true 5)
  refine zzi 7 (zI W.f) ty3 zzl ?_ (hw := w1 2 true 5)
  refine zza 8 (zB (decide ((1 : Int) ≤ W.f))) ?_ (hw := w1 2 true 5)
  refine zza 9 (zB (decide ((1 : Int) ≤ W.f))) (zza 2 (zB (decide ((1 : Int) ≤ W.f))) (zzb (zzo (ret0 [.bool (decide ((1 : Int) ≤ W.f))] ⟨zzq, trivial⟩ fun u16 e17 => ?_))))
  show Value.bool _ = Value.bool _
  congr 1
  rw [Bool.eq_iff_iff]
  simp [FmOK, hW]
 ·refine zyq 5 (x := zB (decide (WdOK W))) (zB false) (by rw [hs15]) ?_
  have qhs15 := of_decide_eq_false hs15
  have nhW : ¬ WdOK W := by simpa using hs15
  refine zzn 6 (uw 2 true false 5) (zzn 7 (uw 2 true false 5) (zzn 8 (uw 2 true false 5) (zza 9 (zB false) (zza 2 (zB false) (zzb (zzo (ret0 [.bool false] ⟨zzq, trivial⟩ fun u18 e19 => ?_)))))))
  show Value.bool _ = Value.bool _
  congr 1
  exact (decide_eq_false (fun h => nhW h.1)).symm
set_option maxHeartbeats 4000000 in
theorem k_permittedG {u w : World} {W : WL} {p : PL} (d : Dat u w) (hW : WdOK W) (hf : 1 ≤ W.f) : Calls Tryz.prog 94 #[p.v, W.v] w (Post u w fun v _ => v = .bool (decide (PasOK W.f p))) := by
 obtain ⟨hw1, hw2, hw3, hw4, hw5, hw6, hw7, hw8⟩ := id hW
 have hu0 := Nt.zxq W.f
 have hu1 := Nt.p2i_24 (n := W.f) xq
 have hu2 := Nt.zwh (a := W.f) (b := W.b - 1) xq
 have hu3 := Nt.p2i_24 (n := W.b - 1) xq
 refine zzm (args := [.agg #[.int .i64 p.o, .int .i64 p.g, .int .i64 p.h], .agg #[.int .i64 W.b, .int .i64 W.f, .int .i64 W.r, .int .i64 W.o]]) Tryz.func94 rfl Tryz.ntmps94 (rs := [.tmp 4]) Tryz.results94 (le_b rfl) (le_b rfl) d ?_
 refine sq9 (zzk 2 ⟨114, [.int .i64 p.o, .int .i64 p.g, .int .i64 p.h]⟩ (zzk 3 ⟨34, W.cs⟩ (zza 4 (zB false) (zzb (zzd (sq9 (zza 8 (.adr 2 0) (zzi 9 (zI p.o) ty3 zzl (zza 10 (zB (p.o != 1)) ?_)))))))))
 rcases Bool.eq_false_or_eq_true (p.o != 1) with hs11 | hs11
 ·refine zyq 11 (x := zB (p.o != 1)) (zB true) (by rw [hs11]) ?_
  have qhs11 := hs11
  simp at qhs11
  refine zza 12 (.adr 2 0) ?_ (hw := w1 3 true 11)
  refine zzi 13 (zI p.o) ty3 zzl ?_ (hw := w1 3 true 11)
  refine zza 14 (zB (p.o != 2)) ?_ (hw := w1 3 true 11)
  refine zza 15 (zB (p.o != 2)) (zzb (zzu (b := p.o != 2) xj (fun hb12 => ?_) (fun hb12 => ?_)))
  ·replace hb12 : (p.o != 2) = true := hb12
   have qhb12 := hb12
   simp at qhb12
   refine sq9 (zza 4 (zB false) (zzb (zzo (zzw (ret0 [.bool false] ⟨zzq, trivial⟩ fun u13 e14 => ?_)))))
   show Value.bool _ = Value.bool _
   congr 1
   exact (decide_eq_false (by unfold PasOK; omega)).symm
  ·replace hb12 : (p.o != 2) = false := hb12
   have qhb12 := hb12
   simp at qhb12
   refine zzs (zzp ?_)
   refine zzd (sq9 (zza 16 (.adr 2 0) (zzi 17 (zI p.o) ty3 zzl (zza 18 (zB (p.o == 1)) (zyq 19 (x := zB (p.o == 1)) (zB false) (by rw [show (p.o == 1) = false from yy]) (zzn 20 (uw 3 true false 19) (zzn 21 (uw 3 true false 19) (zzn 22 (uw 3 true false 19) (zzn 23 (uw 3 true false 19) (zza 24 (zB false) (zzb ?_)))))))))))
   refine zys xj (zzs (zzp ?_))
   refine sq9 (zza 25 (.adr 3 1) (zzi 26 (zI W.f) ty3 zzl (sy_shl 27 (k := .i64) (s := W.f) (Nt.p2i W.f) xq yw (shl_one xq xq) ?_)))
   refine zza 5 (zI (Nt.p2i W.f)) (zzb (zzd (sq9 (zza 28 (.adr 2 1) (zzi 29 (.v (.agg #[.int .i64 p.g, .int .i64 p.h])) ty30 zze (zza 30 (zI 0) (zzb (zzt (sw_rounds 2 ?_)))))))))
   refine sq9 (zza 31 (zB true) (zzb (zzd (zyr xj (zzs (zzp ?_))))))
   refine zzd (zzt (sq9 (zza 32 (zI p.g) (zza 7 (zI p.g) (zzb (zzd (sq9 (zza 33 (zI p.g) (zza 34 (zI (Nt.p2i W.f)) (zyq 35 (x := zI (IntKind.i64.wrap (0 - (Nt.p2i W.f)))) (zI (-(Nt.p2i W.f))) (eqI xz) (zza 36 (zB (decide (p.g ≤ (-(Nt.p2i W.f))))) ?_)))))))))))
   rcases Bool.eq_false_or_eq_true (decide (p.g ≤ (-(Nt.p2i W.f)))) with hs16 | hs16
   ·refine zyq 37 (x := zB (decide (p.g ≤ (-(Nt.p2i W.f))))) (zB true) (by rw [hs16]) ?_
    have qhs16 := of_decide_eq_true hs16
    refine zzn 38 (uw 4 false true 37) (zzn 39 (uw 4 false true 37) (zzn 40 (uw 4 false true 37) (zza 41 (zB true) (zzc 54 [(3, .adr 3 0), (5, zI (Nt.p2i W.f)), (7, zI p.g), (29, .v (.agg #[.int .i64 p.g, .int .i64 p.h])), (30, zI 0), (41, zB true)] [(3, ⟨34, W.cs⟩)] (zyr xj (sq9 (zza 4 (zB false) (zzb (zzo (zzw (zyu (zzw (mpr_rn (zyu (zzw (ret0 [.bool false] ⟨zzq, trivial⟩ fun u17 e18 => ?_))))))))))))))))
    show Value.bool _ = Value.bool _
    congr 1
    exact (decide_eq_false (by unfold PasOK; omega)).symm
   ·refine zyq 37 (x := zB (decide (p.g ≤ (-(Nt.p2i W.f))))) (zB false) (by rw [hs16]) ?_
    have qhs16 := of_decide_eq_false hs16
    refine zza 38 (zI p.g) ?_ (hw := w1 4 false 37)
    refine zza 39 (zI (Nt.p2i W.f)) ?_ (hw := w1 4 false 37)
    refine zza 40 (zB (decide ((Nt.p2i W.f) ≤ p.g))) ?_ (hw := w1 4 false 37)
    refine zza 41 (zB (decide ((Nt.p2i W.f) ≤ p.g))) (zzc 54 [(3, .adr 3 0), (5, zI (Nt.p2i W.f)), (7, zI p.g), (29, .v (.agg #[.int .i64 p.g, .int .i64 p.h])), (30, zI 0), (41, zB (decide ((Nt.p2i W.f) ≤ p.g)))] [(3, ⟨34, W.cs⟩)] (zzu (b := decide ((Nt.p2i W.f) ≤ p.g)) xj (fun hb19 => ?_) (fun hb19 => ?_)))
    ·replace hb19 : (decide ((Nt.p2i W.f) ≤ p.g)) = true := hb19
     have qhb19 := of_decide_eq_true hb19
     refine sq9 (zza 4 (zB false) (zzb (zzo (zzw (zyu (zzw (mpr_rn (zyu (zzw (ret0 [.bool false] ⟨zzq, trivial⟩ fun u20 e21 => ?_))))))))))
     show Value.bool _ = Value.bool _
     congr 1
     exact (decide_eq_false (by unfold PasOK; omega)).symm
    ·replace hb19 : (decide ((Nt.p2i W.f) ≤ p.g)) = false := hb19
     have qhb19 := of_decide_eq_false hb19
     refine zzs (zzp ?_)
     refine sq9 (zzi 42 (.v (W.v)) ty34 zze (zza 43 (zI p.g) (zzg 44 86 [W.v, .int .i64 p.g] ?_)))
     intro w22 u22 e22 d22
     have k25 := k_fxFits (W := W) (z := p.g) d22 hW xq xq
     with_reducible refine zPm k25 ?_
     rintro _ u23 g24 rfl
     refine zza 45 (zB false) (zza 46 (zB false) (zzi 47 (.v (W.v)) ty34 zze ?_ (hw := w1 4 false 46)))
     refine zza 48 (zI p.g) ?_ (hw := w1 4 false 46)
     refine zyq 49 (x := zI (IntKind.i64.wrap (0 - p.g))) (zI (-p.g)) (eqI xz) ?_ (hw := w1 4 false 46)
     refine zzg 50 86 [W.v, .int .i64 (-p.g)] ?_ (hw := w1 4 false 46)
     intro w26 u26 e26 d26
     have k29 := k_fxFits (W := W) (z := -p.g) d26 hW xq xq
     with_reducible refine zPm k29 ?_
     rintro _ u27 g28 rfl
     refine zza 51 (zB false) ?_ (hw := w1 4 false 46)
     refine zza 52 (zB false) (zzb (zys xj (zzs (zzp ?_))))
     refine zzf (zza 53 (zI 1) (zza 30 (zI 1) (zzx ?_)))
     refine rn_next ?_
     refine sw_weak (T := St.of 54 [(3, .adr 3 0), (5, zI (Nt.p2i W.f)), (29, .v (.agg #[.int .i64 p.g, .int .i64 p.h])), (30, zI 1)] [(3, ⟨34, [.int .i64 W.b, .int .i64 W.f, .int .i64 W.r, .int .i64 W.o]⟩)]) yz ?_
     refine sq9 (zza 31 (zB true) (zzb (zzd (zyr xj (zzs (zzp ?_))))))
     refine zzd (zzt (sq9 (zza 32 (zI p.h) (zza 7 (zI p.h) (zzb (zzd (sq9 (zza 33 (zI p.h) (zza 34 (zI (Nt.p2i W.f)) (zyq 35 (x := zI (IntKind.i64.wrap (0 - (Nt.p2i W.f)))) (zI (-(Nt.p2i W.f))) (eqI xz) (zza 36 (zB (decide (p.h ≤ (-(Nt.p2i W.f))))) ?_)))))))))))
     rcases Bool.eq_false_or_eq_true (decide (p.h ≤ (-(Nt.p2i W.f)))) with hs30 | hs30
     ·refine zyq 37 (x := zB (decide (p.h ≤ (-(Nt.p2i W.f))))) (zB true) (by rw [hs30]) ?_
      have qhs30 := of_decide_eq_true hs30
      refine zzn 38 (uw 4 false true 37) (zzn 39 (uw 4 false true 37) (zzn 40 (uw 4 false true 37) (zza 41 (zB true) (zzb (zyr xj (sq9 (zza 4 (zB false) (zzb (zzo (zzw (zyu (zzw (mpr_rn (zyu (zzw (ret0 [.bool false] ⟨zzq, trivial⟩ fun u31 e32 => ?_))))))))))))))))
      show Value.bool _ = Value.bool _
      congr 1
      exact (decide_eq_false (by unfold PasOK; omega)).symm
     ·refine zyq 37 (x := zB (decide (p.h ≤ (-(Nt.p2i W.f))))) (zB false) (by rw [hs30]) ?_
      have qhs30 := of_decide_eq_false hs30
      refine zza 38 (zI p.h) ?_ (hw := w1 4 false 37)
      refine zza 39 (zI (Nt.p2i W.f)) ?_ (hw := w1 4 false 37)
      refine zza 40 (zB (decide ((Nt.p2i W.f) ≤ p.h))) ?_ (hw := w1 4 false 37)
      refine zza 41 (zB (decide ((Nt.p2i W.f) ≤ p.h))) (zzb (zzu (b := decide ((Nt.p2i W.f) ≤ p.h)) xj (fun hb33 => ?_) (fun hb33 => ?_)))
      ·replace hb33 : (decide ((Nt.p2i W.f) ≤ p.h)) = true := hb33
       have qhb33 := of_decide_eq_true hb33
       refine sq9 (zza 4 (zB false) (zzb (zzo (zzw (zyu (zzw (mpr_rn (zyu (zzw (ret0 [.bool false] ⟨zzq, trivial⟩ fun u34 e35 => ?_))))))))))
       show Value.bool _ = Value.bool _
       congr 1
       exact (decide_eq_false (by unfold PasOK; omega)).symm
      ·replace hb33 : (decide ((Nt.p2i W.f) ≤ p.h)) = false := hb33
       have qhb33 := of_decide_eq_false hb33
       refine zzs (zzp ?_)
       refine sq9 (zzi 42 (.v (W.v)) ty34 zze (zza 43 (zI p.h) (zzg 44 86 [W.v, .int .i64 p.h] ?_)))
       intro w36 u36 e36 d36
       have k39 := k_fxFits (W := W) (z := p.h) d36 hW xq xq
       with_reducible refine zPm k39 ?_
       rintro _ u37 g38 rfl
       refine zza 45 (zB false) (zza 46 (zB false) (zzi 47 (.v (W.v)) ty34 zze ?_ (hw := w1 4 false 46)))
       refine zza 48 (zI p.h) ?_ (hw := w1 4 false 46)
       refine zyq 49 (x := zI (IntKind.i64.wrap (0 - p.h))) (zI (-p.h)) (eqI xz) ?_ (hw := w1 4 false 46)
       refine zzg 50 86 [W.v, .int .i64 (-p.h)] ?_ (hw := w1 4 false 46)
       intro w40 u40 e40 d40
       have k43 := k_fxFits (W := W) (z := -p.h) d40 hW xq xq
       with_reducible refine zPm k43 ?_
       rintro _ u41 g42 rfl
       refine zza 51 (zB false) ?_ (hw := w1 4 false 46)
       refine zza 52 (zB false) (zzc 54 [(3, .adr 3 0), (5, zI (Nt.p2i W.f)), (29, .v (.agg #[.int .i64 p.g, .int .i64 p.h])), (30, zI 1), (52, zB false)] [(3, ⟨34, W.cs⟩)] (zys xj (zzs (zzp ?_))))
       refine zzf (zza 53 (zI 2) (zza 30 (zI 2) (zzx ?_)))
       refine rn_next ?_
       refine sw_weak (T := St.of 54 [(3, .adr 3 0), (5, zI (Nt.p2i W.f)), (29, .v (.agg #[.int .i64 p.g, .int .i64 p.h])), (30, zI 2)] [(3, ⟨34, [.int .i64 W.b, .int .i64 W.f, .int .i64 W.r, .int .i64 W.o]⟩)]) yz ?_
       refine sq9 (zza 31 (zB false) (zzb (zzd (zys xj (zyc (zzp (sq9 (zza 4 (zB true) (zzb (zzo (ret0 [.bool true] ⟨zzq, trivial⟩ fun u44 e45 => ?_)))))))))))
       show Value.bool _ = Value.bool _
       congr 1
       exact (decide_eq_true (by unfold PasOK; omega)).symm
 ·refine zyq 11 (x := zB (p.o != 1)) (zB false) (by rw [hs11]) ?_
  have qhs11 := hs11
  simp at qhs11
  refine zzn 12 (uw 3 true false 11) (zzn 13 (uw 3 true false 11) (zzn 14 (uw 3 true false 11) (zza 15 (zB false) (zzb (zys xj (zzs (zzp ?_)))))))
  refine zzd (sq9 (zza 16 (.adr 2 0) (zzi 17 (zI p.o) ty3 zzl (zza 18 (zB (p.o == 1)) (zyq 19 (x := zB (p.o == 1)) (zB true) (by rw [show (p.o == 1) = true from yy]) (zza 20 (.adr 2 1) ?_ (hw := w1 3 true 19)))))))
  refine zza 21 (.adr 2 2) ?_ (hw := w1 3 true 19)
  refine zzi 22 (zI p.h) ty3 zzl ?_ (hw := w1 3 true 19)
  refine zza 23 (zB (p.h != 0)) ?_ (hw := w1 3 true 19)
  refine zza 24 (zB (p.h != 0)) (zzb (zzu (b := p.h != 0) xj (fun hb47 => ?_) (fun hb47 => ?_)))
  ·replace hb47 : (p.h != 0) = true := hb47
   have qhb47 := hb47
   simp at qhb47
   refine sq9 (zza 4 (zB false) (zzb (zzo (zzw (ret0 [.bool false] ⟨zzq, trivial⟩ fun u48 e49 => ?_)))))
   show Value.bool _ = Value.bool _
   congr 1
   exact (decide_eq_false (by unfold PasOK; omega)).symm
  ·replace hb47 : (p.h != 0) = false := hb47
   have qhb47 := hb47
   simp at qhb47
   refine zzs (zzp ?_)
   refine sq9 (zza 25 (.adr 3 1) (zzi 26 (zI W.f) ty3 zzl (sy_shl 27 (k := .i64) (s := W.f) (Nt.p2i W.f) xq yw (shl_one xq xq) ?_)))
   refine zza 5 (zI (Nt.p2i W.f)) (zzb (zzd (sq9 (zza 28 (.adr 2 1) (zzi 29 (.v (.agg #[.int .i64 p.g, .int .i64 p.h])) ty30 zze (zza 30 (zI 0) (zzb (zzt (sw_rounds 2 ?_)))))))))
   refine sq9 (zza 31 (zB true) (zzb (zzd (zyr xj (zzs (zzp ?_))))))
   refine zzd (zzt (sq9 (zza 32 (zI p.g) (zza 7 (zI p.g) (zzb (zzd (sq9 (zza 33 (zI p.g) (zza 34 (zI (Nt.p2i W.f)) (zyq 35 (x := zI (IntKind.i64.wrap (0 - (Nt.p2i W.f)))) (zI (-(Nt.p2i W.f))) (eqI xz) (zza 36 (zB (decide (p.g ≤ (-(Nt.p2i W.f))))) ?_)))))))))))
   rcases Bool.eq_false_or_eq_true (decide (p.g ≤ (-(Nt.p2i W.f)))) with hs50 | hs50
   ·refine zyq 37 (x := zB (decide (p.g ≤ (-(Nt.p2i W.f))))) (zB true) (by rw [hs50]) ?_
    have qhs50 := of_decide_eq_true hs50
    refine zzn 38 (uw 4 false true 37) (zzn 39 (uw 4 false true 37) (zzn 40 (uw 4 false true 37) (zza 41 (zB true) (zzc 54 [(3, .adr 3 0), (5, zI (Nt.p2i W.f)), (7, zI p.g), (29, .v (.agg #[.int .i64 p.g, .int .i64 p.h])), (30, zI 0), (41, zB true)] [(3, ⟨34, W.cs⟩)] (zyr xj (sq9 (zza 4 (zB false) (zzb (zzo (zzw (zyu (zzw (mpr_rn (zyu (zzw (ret0 [.bool false] ⟨zzq, trivial⟩ fun u51 e52 => ?_))))))))))))))))
    show Value.bool _ = Value.bool _
    congr 1
    exact (decide_eq_false (by unfold PasOK; omega)).symm
   ·refine zyq 37 (x := zB (decide (p.g ≤ (-(Nt.p2i W.f))))) (zB false) (by rw [hs50]) ?_
    have qhs50 := of_decide_eq_false hs50
    refine zza 38 (zI p.g) ?_ (hw := w1 4 false 37)
    refine zza 39 (zI (Nt.p2i W.f)) ?_ (hw := w1 4 false 37)
    refine zza 40 (zB (decide ((Nt.p2i W.f) ≤ p.g))) ?_ (hw := w1 4 false 37)
    refine zza 41 (zB (decide ((Nt.p2i W.f) ≤ p.g))) (zzc 54 [(3, .adr 3 0), (5, zI (Nt.p2i W.f)), (7, zI p.g), (29, .v (.agg #[.int .i64 p.g, .int .i64 p.h])), (30, zI 0), (41, zB (decide ((Nt.p2i W.f) ≤ p.g)))] [(3, ⟨34, W.cs⟩)] (zzu (b := decide ((Nt.p2i W.f) ≤ p.g)) xj (fun hb53 => ?_) (fun hb53 => ?_)))
    ·replace hb53 : (decide ((Nt.p2i W.f) ≤ p.g)) = true := hb53
     have qhb53 := of_decide_eq_true hb53
     refine sq9 (zza 4 (zB false) (zzb (zzo (zzw (zyu (zzw (mpr_rn (zyu (zzw (ret0 [.bool false] ⟨zzq, trivial⟩ fun u54 e55 => ?_))))))))))
     show Value.bool _ = Value.bool _
     congr 1
     exact (decide_eq_false (by unfold PasOK; omega)).symm
    ·replace hb53 : (decide ((Nt.p2i W.f) ≤ p.g)) = false := hb53
     have qhb53 := of_decide_eq_false hb53
     refine zzs (zzp ?_)
     refine sq9 (zzi 42 (.v (W.v)) ty34 zze (zza 43 (zI p.g) (zzg 44 86 [W.v, .int .i64 p.g] ?_)))
     intro w56 u56 e56 d56
     have k59 := k_fxFits (W := W) (z := p.g) d56 hW xq xq
     with_reducible refine zPm k59 ?_
     rintro _ u57 g58 rfl
     refine zza 45 (zB false) (zza 46 (zB false) (zzi 47 (.v (W.v)) ty34 zze ?_ (hw := w1 4 false 46)))
     refine zza 48 (zI p.g) ?_ (hw := w1 4 false 46)
     refine zyq 49 (x := zI (IntKind.i64.wrap (0 - p.g))) (zI (-p.g)) (eqI xz) ?_ (hw := w1 4 false 46)
     refine zzg 50 86 [W.v, .int .i64 (-p.g)] ?_ (hw := w1 4 false 46)
     intro w60 u60 e60 d60
     have k63 := k_fxFits (W := W) (z := -p.g) d60 hW xq xq
     with_reducible refine zPm k63 ?_
     rintro _ u61 g62 rfl
     refine zza 51 (zB false) ?_ (hw := w1 4 false 46)
     refine zza 52 (zB false) (zzb (zys xj (zzs (zzp ?_))))
     refine zzf (zza 53 (zI 1) (zza 30 (zI 1) (zzx ?_)))
     refine rn_next ?_
     refine sw_weak (T := St.of 54 [(3, .adr 3 0), (5, zI (Nt.p2i W.f)), (29, .v (.agg #[.int .i64 p.g, .int .i64 p.h])), (30, zI 1)] [(3, ⟨34, [.int .i64 W.b, .int .i64 W.f, .int .i64 W.r, .int .i64 W.o]⟩)]) yz ?_
     refine sq9 (zza 31 (zB true) (zzb (zzd (zyr xj (zzs (zzp ?_))))))
     refine zzd (zzt (sq9 (zza 32 (zI p.h) (zza 7 (zI p.h) (zzb (zzd (sq9 (zza 33 (zI p.h) (zza 34 (zI (Nt.p2i W.f)) (zyq 35 (x := zI (IntKind.i64.wrap (0 - (Nt.p2i W.f)))) (zI (-(Nt.p2i W.f))) (eqI xz) (zza 36 (zB (decide (p.h ≤ (-(Nt.p2i W.f))))) ?_)))))))))))
     rcases Bool.eq_false_or_eq_true (decide (p.h ≤ (-(Nt.p2i W.f)))) with hs64 | hs64
     ·refine zyq 37 (x := zB (decide (p.h ≤ (-(Nt.p2i W.f))))) (zB true) (by rw [hs64]) ?_
      have qhs64 := of_decide_eq_true hs64
      refine zzn 38 (uw 4 false true 37) (zzn 39 (uw 4 false true 37) (zzn 40 (uw 4 false true 37) (zza 41 (zB true) (zzb (zyr xj (sq9 (zza 4 (zB false) (zzb (zzo (zzw (zyu (zzw (mpr_rn (zyu (zzw (ret0 [.bool false] ⟨zzq, trivial⟩ fun u65 e66 => ?_))))))))))))))))
      show Value.bool _ = Value.bool _
      congr 1
      exact (decide_eq_false (by unfold PasOK; omega)).symm
     ·refine zyq 37 (x := zB (decide (p.h ≤ (-(Nt.p2i W.f))))) (zB false) (by rw [hs64]) ?_
      have qhs64 := of_decide_eq_false hs64
      refine zza 38 (zI p.h) ?_ (hw := w1 4 false 37)
      refine zza 39 (zI (Nt.p2i W.f)) ?_ (hw := w1 4 false 37)
      refine zza 40 (zB (decide ((Nt.p2i W.f) ≤ p.h))) ?_ (hw := w1 4 false 37)
      refine zza 41 (zB (decide ((Nt.p2i W.f) ≤ p.h))) (zzb (zzu (b := decide ((Nt.p2i W.f) ≤ p.h)) xj (fun hb67 => ?_) (fun hb67 => ?_)))
      ·replace hb67 : (decide ((Nt.p2i W.f) ≤ p.h)) = true := hb67
       have qhb67 := of_decide_eq_true hb67
       refine sq9 (zza 4 (zB false) (zzb (zzo (zzw (zyu (zzw (mpr_rn (zyu (zzw (ret0 [.bool false] ⟨zzq, trivial⟩ fun u68 e69 => ?_))))))))))
       show Value.bool _ = Value.bool _
       congr 1
       exact (decide_eq_false (by unfold PasOK; omega)).symm
      ·replace hb67 : (decide ((Nt.p2i W.f) ≤ p.h)) = false := hb67
       have qhb67 := of_decide_eq_false hb67
       refine zzs (zzp ?_)
       refine sq9 (zzi 42 (.v (W.v)) ty34 zze (zza 43 (zI p.h) (zzg 44 86 [W.v, .int .i64 p.h] ?_)))
       intro w70 u70 e70 d70
       have k73 := k_fxFits (W := W) (z := p.h) d70 hW xq xq
       with_reducible refine zPm k73 ?_
       rintro _ u71 g72 rfl
       refine zza 45 (zB false) (zza 46 (zB false) (zzi 47 (.v (W.v)) ty34 zze ?_ (hw := w1 4 false 46)))
       refine zza 48 (zI p.h) ?_ (hw := w1 4 false 46)
       refine zyq 49 (x := zI (IntKind.i64.wrap (0 - p.h))) (zI (-p.h)) (eqI xz) ?_ (hw := w1 4 false 46)
       refine zzg 50 86 [W.v, .int .i64 (-p.h)] ?_ (hw := w1 4 false 46)
       intro w74 u74 e74 d74
       have k77 := k_fxFits (W := W) (z := -p.h) d74 hW xq xq
       with_reducible refine zPm k77 ?_
       rintro _ u75 g76 rfl
       refine zza 51 (zB false) ?_ (hw := w1 4 false 46)
       refine zza 52 (zB false) (zzc 54 [(3, .adr 3 0), (5, zI (Nt.p2i W.f)), (29, .v (.agg #[.int .i64 p.g, .int .i64 p.h])), (30, zI 1), (52, zB false)] [(3, ⟨34, W.cs⟩)] (zys xj (zzs (zzp ?_))))
       refine zzf (zza 53 (zI 2) (zza 30 (zI 2) (zzx ?_)))
       refine rn_next ?_
       refine sw_weak (T := St.of 54 [(3, .adr 3 0), (5, zI (Nt.p2i W.f)), (29, .v (.agg #[.int .i64 p.g, .int .i64 p.h])), (30, zI 2)] [(3, ⟨34, [.int .i64 W.b, .int .i64 W.f, .int .i64 W.r, .int .i64 W.o]⟩)]) yz ?_
       refine sq9 (zza 31 (zB false) (zzb (zzd (zys xj (zyc (zzp (sq9 (zza 4 (zB true) (zzb (zzo (ret0 [.bool true] ⟨zzq, trivial⟩ fun u78 e79 => ?_)))))))))))
       show Value.bool _ = Value.bool _
       congr 1
       exact (decide_eq_true (by unfold PasOK; omega)).symm
set_option maxHeartbeats 4000000 in
theorem k_wvValidG {u w : World} {W : WL} {x y : Sl} {L M : List PL} (d : Dat u w) (hx : PasV u x L) (hy : PasV u y M) : Calls Tryz.prog 55 #[.agg #[x.v, y.v], W.v] w (Post u w fun v _ => v = .bool (decide (WvOK W L M))) := by
 have hlx := hx.len
 have hly := hy.len
 refine zzm (args := [.agg #[.slice x.a x.n x.c, .slice y.a y.n y.c], .agg #[.int .i64 W.b, .int .i64 W.f, .int .i64 W.r, .int .i64 W.o]]) Tryz.func55 rfl Tryz.ntmps55 (rs := [.tmp 4]) Tryz.results55 (le_b rfl) (le_b rfl) d ?_
 refine sq9 (zzk 2 ⟨51, [x.v, y.v]⟩ (zzk 3 ⟨34, W.cs⟩ (zza 4 (zB false) (zzb (zzd (sq9 (zzi 9 (.v (W.v)) ty34 zze (zzg 10 93 [W.v] ?_))))))))
 intro w11 u11 e11 d11
 have k14 := k_suitableG (W := W) d11
 with_reducible refine zPm k14 ?_
 rintro _ u12 g13 rfl
 refine zza 11 (zB (!(decide (FmOK W)))) (zzb (zzu (b := !(decide (FmOK W))) xj (fun hb15 => ?_) (fun hb15 => ?_)))
 ·replace hb15 : (!(decide (FmOK W))) = true := hb15
  have nhF : ¬ FmOK W := by simpa using hb15
  refine sq9 (zza 4 (zB false) (zzb (zzo (zzw (ret0 [.bool false] ⟨zzq, trivial⟩ fun u16 e17 => ?_)))))
  show Value.bool _ = Value.bool _
  congr 1
  exact (decide_eq_false (fun k => nhF k.1)).symm
 ·replace hb15 : (!(decide (FmOK W))) = false := hb15
  have hF : FmOK W := by simpa using hb15
  have hW := hF.1
  have hf := hF.2
  obtain ⟨hw1, hw2, hw3, hw4, hw5, hw6, hw7, hw8⟩ := id hW
  have hu0 := Nt.zxq W.f
  have hu1 := Nt.p2i_24 (n := W.f) xq
  have hu2 := Nt.zwh (a := W.f) (b := W.b - 1) xq
  have hu3 := Nt.p2i_24 (n := W.b - 1) xq
  refine zzs (zzp ?_)
  refine zzd (sq9 (zza 12 (zI 0) (zzb (zzt (sw_rounds 2 ?_)))))
  refine sq9 (zza 13 (zB true) (zzb (zzd (zyr xj (zzs (zzp ?_))))))
  refine zzd (zzt (sq9 (zza 14 (zI 0) (zza 5 (zI 0) (zzb (sq9 (zzi 15 (.v (.agg #[x.v, y.v])) ty51 zze (zza 16 (zI 0) (zzg 17 56 [.agg #[x.v, y.v], .int .i64 0] ?_)))))))))
  intro w18 u18 e18 d18
  have k21 := k_branch0 (x := x) (y := y) d18
  with_reducible refine zPm k21 ?_
  rintro _ u19 g20 rfl
  refine zza 6 (.v x.v) (zzb (zzd (sq9 (zza 18 (.v x.v) (zza 19 (zI x.n) (zza 20 (zB (decide ((4 : Int) < (x.n : Int)))) (zzb (zzu (b := decide ((4 : Int) < (x.n : Int))) xj (fun hb22 => ?_) (fun hb22 => ?_)))))))))
  ·replace hb22 : (decide ((4 : Int) < (x.n : Int))) = true := hb22
   have qhb22 := of_decide_eq_true hb22
   refine sq9 (zza 4 (zB false) (zzb (zzo (zzw (zyu (zzw (mpr_rn (zyu (zzw (ret0 [.bool false] ⟨zzq, trivial⟩ fun u23 e24 => ?_))))))))))
   show Value.bool _ = Value.bool _
   congr 1
   exact (decide_eq_false (fun k => by have h1 := k.2.1; have h2 := k.2.2.1; omega)).symm
  ·replace hb22 : (decide ((4 : Int) < (x.n : Int))) = false := hb22
   have qhb22 := of_decide_eq_false hb22
   refine zzs (zzp ?_)
   refine sq9 (zza 21 (.v x.v) (zza 22 (zI x.n) (zza 23 (zI 0) (zzb (zzt ?_)))))
   have hlxL := ((hx.ext (e11.trans (g13.ext.trans (e18.trans g20.ext))))).len
   refine zyn (I := fun m25 S' u' => ∃ (i : Nat), (m25 = L.length - i) ∧ (i ≤ L.length) ∧ (∀ j, j < i → PasOK W.f (L.getD j pl0)) ∧ (S' = St.of 33 [(2, .adr 2 0), (3, .adr 3 0), (12, zI 0), (21, .v (.slice x.a x.n x.c)), (22, zI x.n), (23, zI i)] [(2, ⟨51, [.slice x.a x.n x.c, .slice y.a y.n y.c]⟩), (3, ⟨34, [.int .i64 W.b, .int .i64 W.f, .int .i64 W.r, .int .i64 W.o]⟩)]) ∧ (Ext u19 u')) (fun m S u1 u2 e h => by obtain ⟨i, hm, p0, p1, hS, hE⟩ := h; exact ⟨i, hm, p0, p1, hS, hE.trans e⟩) _ yz ⟨0, rfl, Nat.zero_le _, fun j hj => absurd hj (Nat.not_lt_zero j), rfl, (Ext.refl _)⟩ ?_
   rintro m25 _ u25 ⟨i, hm25, hi, hz, rfl, e25⟩
   refine sq9 (zza 24 (zB (decide ((i : Int) < (x.n : Int)))) (zzb (zzd (zzu (b := decide ((i : Int) < (x.n : Int))) xj (fun hb26 => ?_) (fun hb26 => ?_)))))
   ·replace hb26 : (decide ((i : Int) < (x.n : Int))) = true := hb26
    have qhb26 := of_decide_eq_true hb26
    refine zzs (zzp ?_)
    refine zzd (zzt (sq9 ?_))
    have hl27 := ((hx.ext (e11.trans (g13.ext.trans (e18.trans (g20.ext.trans e25)))))).len
    obtain ⟨p27, b27, o27, hA27, hc27, hp27⟩ := pas_at ((hx.ext (e11.trans (g13.ext.trans (e18.trans (g20.ext.trans e25)))))) (i := i) xq
    refine zya 25 (o27 + i * 3) (n := x.n) (off := o27) (sz := 3) (i := (i : Int)) xq hA27 xq xq sl49 (zym 26 p27.cs hc27 ty114 (zzk 8 ⟨114, [.int .i64 0, .int .i64 0, .int .i64 0]⟩ (zzj ⟨114, [.int .i64 p27.o, .int .i64 p27.g, .int .i64 p27.h]⟩ ty114 ?_)))
    refine zzb (sq9 (zzi 27 (.v (.agg #[.int .i64 p27.o, .int .i64 p27.g, .int .i64 p27.h])) ty114 zze (zzi 28 (.v (W.v)) ty34 zze (zzg 29 94 [.agg #[.int .i64 p27.o, .int .i64 p27.g, .int .i64 p27.h], W.v] ?_))))
    intro w28 u28 e28 d28
    have k31 := k_permittedG (p := p27) (W := W) d28 hW hf
    with_reducible refine zPm k31 ?_
    rintro _ u29 g30 rfl
    refine zza 30 (zB (!(decide (PasOK W.f p27)))) (zzb (zzu (b := !(decide (PasOK W.f p27))) xj (fun hb32 => ?_) (fun hb32 => ?_)))
    ·replace hb32 : (!(decide (PasOK W.f p27))) = true := hb32
     have nPp27 : ¬ PasOK W.f p27 := by simpa using hb32
     refine sq9 (zza 4 (zB false) (zzb (zzo (zyu (zzw (zyt (zyu (zyu (zzw (mpr_rn (zyu (zzw (ret0 [.bool false] ⟨zzq, trivial⟩ fun u33 e34 => ?_)))))))))))))
     show Value.bool _ = Value.bool _
     congr 1
     exact (decide_eq_false (fun k => nPp27 (by rw [hp27]; exact k.2.2.2.1 _ xq))).symm
    ·replace hb32 : (!(decide (PasOK W.f p27))) = false := hb32
     have hPp27 : PasOK W.f p27 := by simpa using hb32
     refine zzs (zzp ?_)
     refine zzf (zyq 31 (x := zI (IntKind.i64.wrap ((i : Int) + 1))) (zI (i + 1 : Nat)) (eqI xz) (zza 23 (zI (i + 1 : Nat)) (zzx ?_)))
     refine ⟨_, ?_, _, by exact zzv _ _ _, i + 1, rfl, by omega, (fun j hj => by by_cases e : j = i; (rw [e, ← hp27]; exact hPp27); exact hz j xq), rfl, (e25.trans (e28.trans g30.ext))⟩
     omega
   ·replace hb26 : (decide ((i : Int) < (x.n : Int))) = false := hb26
    have qhb26 := of_decide_eq_false hb26
    refine zyc (zzp ?_)
    have hzL : ∀ j, j < L.length → PasOK W.f (L.getD j pl0) := fun j hj => hz j xq
    refine zzf (zza 32 (zI 1) (zza 12 (zI 1) (zzx ?_)))
    refine rn_next ?_
    refine sw_weak (T := St.of 33 [(2, .adr 2 0), (3, .adr 3 0), (12, zI 1)] [(2, ⟨51, [.slice x.a x.n x.c, .slice y.a y.n y.c]⟩), (3, ⟨34, [.int .i64 W.b, .int .i64 W.f, .int .i64 W.r, .int .i64 W.o]⟩)]) yz ?_
    refine sq9 (zza 13 (zB true) (zzb (zzd (zyr xj (zzs (zzp ?_))))))
    refine zzd (zzt (sq9 (zza 14 (zI 1) (zza 5 (zI 1) (zzb (sq9 (zzi 15 (.v (.agg #[x.v, y.v])) ty51 zze (zza 16 (zI 1) (zzg 17 56 [.agg #[x.v, y.v], .int .i64 1] ?_)))))))))
    intro w35 u35 e35 d35
    have k38 := k_branch1 (x := x) (y := y) d35
    with_reducible refine zPm k38 ?_
    rintro _ u36 g37 rfl
    refine zza 6 (.v y.v) (zzb (zzd (sq9 (zza 18 (.v y.v) (zza 19 (zI y.n) (zza 20 (zB (decide ((4 : Int) < (y.n : Int)))) (zzc 33 [(2, .adr 2 0), (3, .adr 3 0), (6, .v y.v), (12, zI 1), (20, zB (decide ((4 : Int) < (y.n : Int))))] [(2, ⟨51, [x.v, y.v]⟩), (3, ⟨34, W.cs⟩)] (zzu (b := decide ((4 : Int) < (y.n : Int))) xj (fun hb39 => ?_) (fun hb39 => ?_)))))))))
    ·replace hb39 : (decide ((4 : Int) < (y.n : Int))) = true := hb39
     have qhb39 := of_decide_eq_true hb39
     refine sq9 (zza 4 (zB false) (zzb (zzo (zzw (zyu (zzw (mpr_rn (zyu (zzw (ret0 [.bool false] ⟨zzq, trivial⟩ fun u40 e41 => ?_))))))))))
     show Value.bool _ = Value.bool _
     congr 1
     exact (decide_eq_false (fun k => by have h1 := k.2.1; have h2 := k.2.2.1; omega)).symm
    ·replace hb39 : (decide ((4 : Int) < (y.n : Int))) = false := hb39
     have qhb39 := of_decide_eq_false hb39
     refine zzs (zzp ?_)
     refine sq9 (zza 21 (.v y.v) (zza 22 (zI y.n) (zza 23 (zI 0) (zzb (zzt ?_)))))
     have hlxM := ((hy.ext (e11.trans (g13.ext.trans (e18.trans (g20.ext.trans (e25.trans (e35.trans g37.ext)))))))).len
     refine zyn (I := fun m42 S' u' => ∃ (i : Nat), (m42 = M.length - i) ∧ (i ≤ M.length) ∧ (∀ j, j < i → PasOK W.f (M.getD j pl0)) ∧ (S' = St.of 33 [(2, .adr 2 0), (3, .adr 3 0), (12, zI 1), (21, .v (.slice y.a y.n y.c)), (22, zI y.n), (23, zI i)] [(2, ⟨51, [.slice x.a x.n x.c, .slice y.a y.n y.c]⟩), (3, ⟨34, [.int .i64 W.b, .int .i64 W.f, .int .i64 W.r, .int .i64 W.o]⟩)]) ∧ (Ext u36 u')) (fun m S u1 u2 e h => by obtain ⟨i, hm, p0, p1, hS, hE⟩ := h; exact ⟨i, hm, p0, p1, hS, hE.trans e⟩) _ yz ⟨0, rfl, Nat.zero_le _, fun j hj => absurd hj (Nat.not_lt_zero j), rfl, (Ext.refl _)⟩ ?_
     rintro m42 _ u42 ⟨i, hm42, hi, hz, rfl, e42⟩
     refine sq9 (zza 24 (zB (decide ((i : Int) < (y.n : Int)))) (zzb (zzd (zzu (b := decide ((i : Int) < (y.n : Int))) xj (fun hb43 => ?_) (fun hb43 => ?_)))))
     ·replace hb43 : (decide ((i : Int) < (y.n : Int))) = true := hb43
      have qhb43 := of_decide_eq_true hb43
      refine zzs (zzp ?_)
      refine zzd (zzt (sq9 ?_))
      have hl44 := ((hy.ext (e11.trans (g13.ext.trans (e18.trans (g20.ext.trans (e25.trans (e35.trans (g37.ext.trans e42))))))))).len
      obtain ⟨p44, b44, o44, hA44, hc44, hp44⟩ := pas_at ((hy.ext (e11.trans (g13.ext.trans (e18.trans (g20.ext.trans (e25.trans (e35.trans (g37.ext.trans e42))))))))) (i := i) xq
      refine zya 25 (o44 + i * 3) (n := y.n) (off := o44) (sz := 3) (i := (i : Int)) xq hA44 xq xq sl49 (zym 26 p44.cs hc44 ty114 (zzk 8 ⟨114, [.int .i64 0, .int .i64 0, .int .i64 0]⟩ (zzj ⟨114, [.int .i64 p44.o, .int .i64 p44.g, .int .i64 p44.h]⟩ ty114 ?_)))
      refine zzb (sq9 (zzi 27 (.v (.agg #[.int .i64 p44.o, .int .i64 p44.g, .int .i64 p44.h])) ty114 zze (zzi 28 (.v (W.v)) ty34 zze (zzg 29 94 [.agg #[.int .i64 p44.o, .int .i64 p44.g, .int .i64 p44.h], W.v] ?_))))
      intro w45 u45 e45 d45
      have k48 := k_permittedG (p := p44) (W := W) d45 hW hf
      with_reducible refine zPm k48 ?_
      rintro _ u46 g47 rfl
      refine zza 30 (zB (!(decide (PasOK W.f p44)))) (zzb (zzu (b := !(decide (PasOK W.f p44))) xj (fun hb49 => ?_) (fun hb49 => ?_)))
      ·replace hb49 : (!(decide (PasOK W.f p44))) = true := hb49
       have nPp44 : ¬ PasOK W.f p44 := by simpa using hb49
       refine sq9 (zza 4 (zB false) (zzb (zzo (zyu (zzw (zyt (zyu (zyu (zzw (mpr_rn (zyu (zzw (ret0 [.bool false] ⟨zzq, trivial⟩ fun u50 e51 => ?_)))))))))))))
       show Value.bool _ = Value.bool _
       congr 1
       exact (decide_eq_false (fun k => nPp44 (by rw [hp44]; exact k.2.2.2.2 _ xq))).symm
      ·replace hb49 : (!(decide (PasOK W.f p44))) = false := hb49
       have hPp44 : PasOK W.f p44 := by simpa using hb49
       refine zzs (zzp ?_)
       refine zzf (zyq 31 (x := zI (IntKind.i64.wrap ((i : Int) + 1))) (zI (i + 1 : Nat)) (eqI xz) (zza 23 (zI (i + 1 : Nat)) (zzx ?_)))
       refine ⟨_, ?_, _, by exact zzv _ _ _, i + 1, rfl, by omega, (fun j hj => by by_cases e : j = i; (rw [e, ← hp44]; exact hPp44); exact hz j xq), rfl, (e42.trans (e45.trans g47.ext))⟩
       omega
     ·replace hb43 : (decide ((i : Int) < (y.n : Int))) = false := hb43
      have qhb43 := of_decide_eq_false hb43
      refine zyc (zzp ?_)
      have hzM : ∀ j, j < M.length → PasOK W.f (M.getD j pl0) := fun j hj => hz j xq
      refine zzf (zza 32 (zI 2) (zza 12 (zI 2) (zzx ?_)))
      refine rn_next ?_
      refine sw_weak (T := St.of 33 [(2, .adr 2 0), (3, .adr 3 0), (12, zI 2)] [(2, ⟨51, [.slice x.a x.n x.c, .slice y.a y.n y.c]⟩), (3, ⟨34, [.int .i64 W.b, .int .i64 W.f, .int .i64 W.r, .int .i64 W.o]⟩)]) yz ?_
      refine sq9 (zza 13 (zB false) (zzb (zzd (zys xj (zyc (zzp (sq9 (zza 4 (zB true) (zzb (zzo (ret0 [.bool true] ⟨zzq, trivial⟩ fun u52 e53 => ?_)))))))))))
      show Value.bool _ = Value.bool _
      congr 1
      exact (decide_eq_true ⟨hF, by omega, by omega, hzL, hzM⟩).symm
namespace Nt
end Nt
theorem all_mem {f : Int} {L : List PL} (h : ∀ i, i < L.length → PasOK f (L.getD i pl0)) : ∀ p ∈ L, PasOK f p := fun p hp => by
 obtain ⟨i, hi, e⟩ := List.mem_iff_getElem.1 hp
 have := h i hi
 rw [List.getD_eq_getElem?_getD, List.getElem?_eq_getElem hi] at this
 rw [← e]; exact this
end Go.Proofs.YtifcjcecmoimjaaGreat
