/- Parts of the proof: contracts of functions, each walked once, and plain laws. -/
import Derived.Test.YtdmpfhhhlhoeiaaGreatWbdD
namespace Go.Proofs.YtdmpfhhhlhoeiaaGreat
open Go.RowKit
set_option linter.unusedVariables false
theorem k_mode {u w : World} {r : Int} (d : Dat u w) (h1 : 1 ≤ r) (h2 : r ≤ 3) : Calls Tryz.prog 152 #[.int .i64 r] w (Post u w fun v _ => v = .bool true) := by
 refine zzm (args := [.int .i64 r]) Tryz.func152 rfl Tryz.ntmps152 (rs := [.tmp 2]) Tryz.results152 (le_b rfl) (le_b rfl) d ?_
 refine sq9 (zza 2 (zB false) (zzb (sq9 (zza 3 (zI r) (zza 4 (zB (decide ((1 : Int) ≤ r))) (zyq 5 (x := zB (decide ((1 : Int) ≤ r))) (zB true) (by rw [show (decide ((1 : Int) ≤ r)) = true from decide_eq_true xq]) (zza 6 (zI r) ?_ (hw := w1 2 true 5))))))))
 refine zza 7 (zB (decide (r ≤ 3))) ?_ (hw := w1 2 true 5)
 refine zza 8 (zB (decide (r ≤ 3))) (zza 2 (zB (decide (r ≤ 3))) (zzb (zzo (ret0 [.bool (decide (r ≤ 3))] ⟨zzq, trivial⟩ fun u12 e13 => ?_))))
 show Value.bool _ = Value.bool _
 rw [show (decide (r ≤ 3)) = true from decide_eq_true xq]
theorem k_fxValid {u w : World} {W : WL} (d : Dat u w) (hW : WdOK W) : Calls Tryz.prog 75 #[W.v] w (Post u w fun v _ => v = .bool true) := by
 obtain ⟨hw1, hw2, hw3, hw4, hw5, hw6, hw7, hw8⟩ := id hW
 refine zzm (args := [.agg #[.int .i64 W.b, .int .i64 W.f, .int .i64 W.r, .int .i64 W.o]]) Tryz.func75 rfl Tryz.ntmps75 (rs := [.tmp 2]) Tryz.results75 (le_b rfl) (le_b rfl) d ?_
 refine sq9 (zzk 1 ⟨24, W.cs⟩ (zza 2 (zB false) (zzb (zzd (sq9 (zza 3 (.adr 1 0) (zzi 4 (zI W.b) ty3 zzl (zza 5 (zB (decide (W.b < 4))) (zyq 6 (x := zB (decide (W.b < 4))) (zB false) (by rw [show (decide (W.b < 4)) = false from decide_eq_false xq]) (zza 7 (.adr 1 0) ?_ (hw := w1 3 false 6)))))))))))
 refine zzi 8 (zI W.b) ty3 zzl ?_ (hw := w1 3 false 6)
 refine zza 9 (zB (decide ((24 : Int) < W.b))) ?_ (hw := w1 3 false 6)
 refine zza 10 (zB (decide ((24 : Int) < W.b))) (zyq 11 (x := zB (decide ((24 : Int) < W.b))) (zB false) (by rw [show (decide ((24 : Int) < W.b)) = false from decide_eq_false xq]) (zza 12 (.adr 1 1) ?_ (hw := w1 8 false 11)))
 refine zzi 13 (zI W.f) ty3 zzl ?_ (hw := w1 8 false 11)
 refine zza 14 (zB (decide (W.f < 0))) ?_ (hw := w1 8 false 11)
 refine zza 15 (zB (decide (W.f < 0))) (zyq 16 (x := zB (decide (W.f < 0))) (zB false) (by rw [show (decide (W.f < 0)) = false from decide_eq_false xq]) (zza 17 (.adr 1 1) ?_ (hw := w1 13 false 16)))
 refine zzi 18 (zI W.f) ty3 zzl ?_ (hw := w1 13 false 16)
 refine zza 19 (.adr 1 0) ?_ (hw := w1 13 false 16)
 refine zzi 20 (zI W.b) ty3 zzl ?_ (hw := w1 13 false 16)
 refine zza 21 (zB (decide (W.b ≤ W.f))) ?_ (hw := w1 13 false 16)
 refine zza 22 (zB (decide (W.b ≤ W.f))) (zzb (zzu (b := decide (W.b ≤ W.f)) xk (fun hb => ?_) (fun hb => ?_)))
 ·exact absurd hb (by rw [show (decide (W.b ≤ W.f)) = false from decide_eq_false xq]; decide)
 ·clear hb
  refine zzs (zzp ?_)
  refine sq9 (zza 23 (.adr 1 2) (zzi 24 (zI W.r) ty3 zzl (zzg 25 152 [.int .i64 W.r] ?_)))
  intro w14 u14 e14 d14
  have k17 := k_mode (r := W.r) d14 xq xq
  with_reducible refine zPm k17 ?_
  rintro _ u15 g16 rfl
  refine zza 26 (zB true) (zza 27 (.adr 1 3) ?_ (hw := w1 3 true 26))
  refine zzi 28 (zI W.o) ty3 zzl ?_ (hw := w1 3 true 26)
  refine zza 29 (zB (W.o == 1)) ?_ (hw := w1 3 true 26)
  rcases Bool.eq_false_or_eq_true (W.o == 1) with hs18 | hs18
  ·refine zyq 30 (x := zB (W.o == 1)) (zB true) (by rw [hs18]) ?_ (hw := w1 3 true 26)
   refine zzn 31 (uw 7 false true 30) (zzn 32 (uw 7 false true 30) (zzn 33 (uw 7 false true 30) (zza 34 (zB true) ?_ (hw := w1 3 true 26))))
   refine zza 35 (zB true) (zza 2 (zB true) (zzc 36 [(2, zB true)] [] (zzo (ret0 [.bool true] ⟨zzq, trivial⟩ fun u19 e20 => ?_))))
   rfl
  ·refine zyq 30 (x := zB (W.o == 1)) (zB false) (by rw [hs18]) ?_ (hw := w1 3 true 26)
   refine zza 31 (.adr 1 3) ?_ (hw := w1 7 false 30)
   refine zzi 32 (zI W.o) ty3 zzl ?_ (hw := w1 7 false 30)
   refine zza 33 (zB (W.o == 2)) ?_ (hw := w1 7 false 30)
   refine zza 34 (zB (W.o == 2)) ?_ (hw := w1 3 true 26)
   refine zza 35 (zB (W.o == 2)) (zza 2 (zB (W.o == 2)) (zzc 36 [(2, zB (W.o == 2))] [] (zzo (ret0 [.bool (W.o == 2)] ⟨zzq, trivial⟩ fun u21 e22 => ?_))))
   show Value.bool _ = Value.bool _
   rw [show (W.o == 2) = true from (by have hz := hs18; simp at hz ⊢; omega)]
theorem k_fxLow {u w : World} {W : WL} (d : Dat u w) (hW : WdOK W) : Calls Tryz.prog 169 #[W.v] w (Post u w fun v _ => v = .int .i64 (-Nt.p2i (W.b - 1))) := by
 obtain ⟨hw1, hw2, hw3, hw4, hw5, hw6, hw7, hw8⟩ := id hW
 have hp1 := Nt.zxq (W.b - 1)
 have hp2 := Nt.p2i_24 (n := W.b - 1) xq
 refine zzm (args := [.agg #[.int .i64 W.b, .int .i64 W.f, .int .i64 W.r, .int .i64 W.o]]) Tryz.func169 rfl Tryz.ntmps169 (rs := [.tmp 2]) Tryz.results169 (le_b rfl) (le_b rfl) d ?_
 refine sq9 (zzk 1 ⟨24, W.cs⟩ (zza 2 (zI 0) (zzb (zzd (sq9 (zzi 3 (.v (W.v)) ty24 zze (zzg 4 75 [W.v] ?_)))))))
 intro w11 u11 e11 d11
 have k14 := k_fxValid (W := W) d11 hW
 with_reducible refine zPm k14 ?_
 rintro _ u12 g13 rfl
 refine zza 5 (zB false) (zzb (zys xk (zzs (zzp ?_))))
 refine sq9 (zza 6 (.adr 1 0) (zzi 7 (zI W.b) ty3 zzl (zyq 8 (x := zI (IntKind.i64.wrap (W.b - 1))) (zI (W.b - 1)) (by rw [IntWalk.i64_in _ xq]) (sy_shl 9 (k := .i64) (s := W.b - 1) (Nt.p2i (W.b - 1)) xq zw (shl_one xq xq) ?_))))
 refine zyq 10 (x := zI (IntKind.i64.wrap (0 - Nt.p2i (W.b - 1)))) (zI (-Nt.p2i (W.b - 1))) (by rw [show (IntKind.i64.wrap (0 - Nt.p2i (W.b - 1))) = (-Nt.p2i (W.b - 1)) from xw]) (zza 2 (zI (-Nt.p2i (W.b - 1))) (zzb (zzo (ret0 [.int .i64 (-Nt.p2i (W.b - 1))] ⟨zzq, trivial⟩ fun u15 e16 => ?_))))
 rfl
theorem k_fxHigh {u w : World} {W : WL} (d : Dat u w) (hW : WdOK W) : Calls Tryz.prog 170 #[W.v] w (Post u w fun v _ => v = .int .i64 (Nt.p2i (W.b - 1) - 1)) := by
 obtain ⟨hw1, hw2, hw3, hw4, hw5, hw6, hw7, hw8⟩ := id hW
 have hp1 := Nt.zxq (W.b - 1)
 have hp2 := Nt.p2i_24 (n := W.b - 1) xq
 refine zzm (args := [.agg #[.int .i64 W.b, .int .i64 W.f, .int .i64 W.r, .int .i64 W.o]]) Tryz.func170 rfl Tryz.ntmps170 (rs := [.tmp 2]) Tryz.results170 (le_b rfl) (le_b rfl) d ?_
 refine sq9 (zzk 1 ⟨24, W.cs⟩ (zza 2 (zI 0) (zzb (zzd (sq9 (zzi 3 (.v (W.v)) ty24 zze (zzg 4 75 [W.v] ?_)))))))
 intro w11 u11 e11 d11
 have k14 := k_fxValid (W := W) d11 hW
 with_reducible refine zPm k14 ?_
 rintro _ u12 g13 rfl
 refine zza 5 (zB false) (zzb (zys xk (zzs (zzp ?_))))
 refine sq9 (zza 6 (.adr 1 0) (zzi 7 (zI W.b) ty3 zzl (zyq 8 (x := zI (IntKind.i64.wrap (W.b - 1))) (zI (W.b - 1)) (by rw [IntWalk.i64_in _ xq]) (sy_shl 9 (k := .i64) (s := W.b - 1) (Nt.p2i (W.b - 1)) xq zw (shl_one xq xq) ?_))))
 refine zyq 10 (x := zI (IntKind.i64.wrap ((Nt.p2i (W.b - 1)) - 1))) (zI ((Nt.p2i (W.b - 1)) - 1)) (by rw [IntWalk.i64_in _ xq]) (zza 2 (zI ((Nt.p2i (W.b - 1)) - 1)) (zzb (zzo (ret0 [.int .i64 ((Nt.p2i (W.b - 1)) - 1)] ⟨zzq, trivial⟩ fun u15 e16 => ?_))))
 rfl
theorem k_fxFits {u w : World} {W : WL} {z : Int} (d : Dat u w) (hW : WdOK W) (h0 : -Nt.p2i (W.b - 1) ≤ z) (h1 : z < Nt.p2i (W.b - 1)) : Calls Tryz.prog 126 #[W.v, .int .i64 z] w (Post u w fun v _ => v = .bool true) := by
 obtain ⟨hw1, hw2, hw3, hw4, hw5, hw6, hw7, hw8⟩ := id hW
 refine zzm (args := [.agg #[.int .i64 W.b, .int .i64 W.f, .int .i64 W.r, .int .i64 W.o], .int .i64 z]) Tryz.func126 rfl Tryz.ntmps126 (rs := [.tmp 4]) Tryz.results126 (le_b rfl) (le_b rfl) d ?_
 refine sq9 (zzk 2 ⟨24, W.cs⟩ (zza 4 (zB false) (zzb (sq9 (zzi 5 (.v (W.v)) ty24 zze (zzg 6 75 [W.v] ?_))))))
 intro w11 u11 e11 d11
 have k14 := k_fxValid (W := W) d11 hW
 with_reducible refine zPm k14 ?_
 rintro _ u12 g13 rfl
 refine zza 7 (zB true) (zza 8 (zI z) ?_ (hw := w1 2 true 7))
 refine zzi 9 (.v (W.v)) ty24 zze ?_ (hw := w1 2 true 7)
 refine zzg 10 169 [W.v] ?_ (hw := w1 2 true 7)
 intro w15 u15 e15 d15
 have k18 := k_fxLow (W := W) d15 hW
 with_reducible refine zPm k18 ?_
 rintro _ u16 g17 rfl
 refine zza 11 (zB (decide ((-Nt.p2i (W.b - 1)) ≤ z))) ?_ (hw := w1 2 true 7)
 refine zza 12 (zB (decide ((-Nt.p2i (W.b - 1)) ≤ z))) (zyq 13 (x := zB (decide ((-Nt.p2i (W.b - 1)) ≤ z))) (zB true) (by rw [show (decide ((-Nt.p2i (W.b - 1)) ≤ z)) = true from decide_eq_true xq]) (zza 14 (zI z) ?_ (hw := w1 8 true 13)))
 refine zzi 15 (.v (W.v)) ty24 zze ?_ (hw := w1 8 true 13)
 refine zzg 16 170 [W.v] ?_ (hw := w1 8 true 13)
 intro w20 u20 e20 d20
 have k23 := k_fxHigh (W := W) d20 hW
 with_reducible refine zPm k23 ?_
 rintro _ u21 g22 rfl
 refine zza 17 (zB (decide (z ≤ (Nt.p2i (W.b - 1) - 1)))) ?_ (hw := w1 8 true 13)
 refine zza 18 (zB (decide (z ≤ (Nt.p2i (W.b - 1) - 1)))) (zza 4 (zB (decide (z ≤ (Nt.p2i (W.b - 1) - 1)))) (zzb (zzo (ret0 [.bool (decide (z ≤ (Nt.p2i (W.b - 1) - 1)))] ⟨zzq, trivial⟩ fun u24 e25 => ?_))))
 show Value.bool _ = Value.bool _
 rw [show (decide (z ≤ (Nt.p2i (W.b - 1) - 1))) = true from decide_eq_true xq]
theorem k_fxValue {u w : World} {W : WL} {z : Int} (d : Dat u w) (hW : WdOK W) (h0 : -16777216 ≤ z) (h1 : z ≤ 16777216) : Calls Tryz.prog 48 #[W.v, .int .i64 z] w (Post u w fun v u' => ∃ r : RL, v = r.v ∧ RatN u' r (((z : Int) : Rat) / ((Nt.p2i W.f : Int) : Rat)) 2) := by
 obtain ⟨hw1, hw2, hw3, hw4, hw5, hw6, hw7, hw8⟩ := id hW
 have hp1 := Nt.zxq W.f
 have hp2 := Nt.p2i_24 (n := W.f) xq
 refine zzm (args := [.agg #[.int .i64 W.b, .int .i64 W.f, .int .i64 W.r, .int .i64 W.o], .int .i64 z]) Tryz.func48 rfl Tryz.ntmps48 (rs := [.cell 4 41]) Tryz.results48 (le_b rfl) (le_b rfl) d ?_
 refine sq9 (zzk 2 ⟨24, W.cs⟩ (zzk 4 ⟨41, [.bool false, .slice none 0 0, .slice none 0 0]⟩ (zzb (zzd (sq9 (zzi 5 (.v (W.v)) ty24 zze (zzg 6 75 [W.v] ?_)))))))
 intro w11 u11 e11 d11
 have k14 := k_fxValid (W := W) d11 hW
 with_reducible refine zPm k14 ?_
 rintro _ u12 g13 rfl
 refine zza 7 (zB false) (zzb (zys xk (zzs (zzp ?_))))
 refine sq9 (zza 9 (zI z) (zza 10 (.adr 2 1) (zzi 11 (zI W.f) ty3 zzl (sy_shl 12 (k := .i64) (s := W.f) (Nt.p2i W.f) xq zw (shl_one xq xq) ?_))))
 refine zzg 13 95 [.int .i64 z, .int .i64 (Nt.p2i W.f)] ?_
 intro w15 u15 e15 d15
 have k20 := k_ratFrac d15 (a := z) (b := Nt.p2i W.f) xq xq xq xq
 with_reducible refine zPm k20 ?_
 rintro _ u18 g19 ⟨r16, rfl, h17⟩
 refine zzj ⟨41, r16.cs⟩ ty41 ?_
 refine zzb (zzo (ret0 [r16.v] ⟨zzr ty41 zze, trivial⟩ fun u21 e22 => ?_))
 exact ⟨r16, rfl, (h17.ext e22)⟩
theorem k_suitable {u w : World} {W : WL} (d : Dat u w) (hW : WdOK W) (hf : 1 ≤ W.f) : Calls Tryz.prog 84 #[W.v] w (Post u w fun v _ => v = .bool true) := by
 obtain ⟨hw1, hw2, hw3, hw4, hw5, hw6, hw7, hw8⟩ := id hW
 refine zzm (args := [.agg #[.int .i64 W.b, .int .i64 W.f, .int .i64 W.r, .int .i64 W.o]]) Tryz.func84 rfl Tryz.ntmps84 (rs := [.tmp 2]) Tryz.results84 (le_b rfl) (le_b rfl) d ?_
 refine sq9 (zzk 1 ⟨24, W.cs⟩ (zza 2 (zB false) (zzb (sq9 (zzi 3 (.v (W.v)) ty24 zze (zzg 4 75 [W.v] ?_))))))
 intro w11 u11 e11 d11
 have k14 := k_fxValid (W := W) d11 hW
 with_reducible refine zPm k14 ?_
 rintro _ u12 g13 rfl
 refine zza 5 (zB true) (zza 6 (.adr 1 1) ?_ (hw := w1 2 true 5))
 refine zzi 7 (zI W.f) ty3 zzl ?_ (hw := w1 2 true 5)
 refine zza 8 (zB (decide ((1 : Int) ≤ W.f))) ?_ (hw := w1 2 true 5)
 refine zza 9 (zB (decide ((1 : Int) ≤ W.f))) (zza 2 (zB (decide ((1 : Int) ≤ W.f))) (zzb (zzo (ret0 [.bool (decide ((1 : Int) ≤ W.f))] ⟨zzq, trivial⟩ fun u15 e16 => ?_))))
 show Value.bool _ = Value.bool _
 rw [show (decide ((1 : Int) ≤ W.f)) = true from decide_eq_true xq]
set_option maxHeartbeats 1000000 in
theorem k_permitted1 {u w : World} {W : WL} {g : Int} (hg0 : -Nt.p2i W.f < g) (hg1 : g < Nt.p2i W.f) (d : Dat u w) (hW : WdOK W) : Calls Tryz.prog 85 #[(⟨1, g, 0⟩ : PL).v, W.v] w (Post u w fun v _ => v = .bool true) := by
 obtain ⟨hw1, hw2, hw3, hw4, hw5, hw6, hw7, hw8⟩ := id hW
 have hu0 := Nt.zxq W.f
 have hu1 := Nt.p2i_24 (n := W.f) xq
 have hu2 := Nt.zwh (a := W.f) (b := W.b - 1) xq
 have hu3 := Nt.p2i_24 (n := W.b - 1) xq
 refine zzm (args := [.agg #[.int .i64 1, .int .i64 g, .int .i64 0], .agg #[.int .i64 W.b, .int .i64 W.f, .int .i64 W.r, .int .i64 W.o]]) Tryz.func85 rfl Tryz.ntmps85 (rs := [.tmp 4]) Tryz.results85 (le_b rfl) (le_b rfl) d ?_
 refine sq9 (zzk 2 ⟨60, [.int .i64 1, .int .i64 g, .int .i64 0]⟩ (zzk 3 ⟨24, W.cs⟩ (zza 4 (zB false) (zzb (zzd (sq9 (zza 8 (.adr 2 0) (zzi 9 (zI 1) ty3 zzl (zza 10 (zB false) (zza 11 (zB false) (zzn 12 (uw 3 true false 11) ?_)))))))))))
 refine zzn 13 (uw 3 true false 11) (zzn 14 (uw 3 true false 11) (zza 15 (zB false) (zzb (zys xk (zzs (zzp ?_))))))
 refine zzd (sq9 (zza 16 (.adr 2 0) (zzi 17 (zI 1) ty3 zzl (zza 18 (zB true) (zza 19 (zB true) (zza 20 (.adr 2 1) ?_ (hw := w1 3 true 19)))))))
 refine zza 21 (.adr 2 2) ?_ (hw := w1 3 true 19)
 refine zzi 22 (zI 0) ty3 zzl ?_ (hw := w1 3 true 19)
 refine zza 23 (zB false) ?_ (hw := w1 3 true 19)
 refine zza 24 (zB false) (zzb (zys xk (zzs (zzp ?_))))
 refine sq9 (zza 25 (.adr 3 1) (zzi 26 (zI W.f) ty3 zzl (sy_shl 27 (k := .i64) (s := W.f) (Nt.p2i W.f) xq zw (shl_one xq xq) ?_)))
 refine zza 5 (zI (Nt.p2i W.f)) (zzb (zzd (sq9 (zza 28 (.adr 2 1) (zzi 29 (.v (.agg #[.int .i64 g, .int .i64 0])) ty58 zze (zza 30 (zI 0) (zzb (zzt (sw_rounds 2 ?_)))))))))
 refine sq9 (zza 31 (zB true) (zzb (zzd (zyr xk (zzs (zzp ?_))))))
 refine zzd (zzt (sq9 (zza 32 (zI g) (zza 7 (zI g) (zzb (zzd (sq9 (zza 33 (zI g) (zza 34 (zI (Nt.p2i W.f)) (zyq 35 (x := zI (IntKind.i64.wrap (0 - (Nt.p2i W.f)))) (zI (-(Nt.p2i W.f))) (eqI xw) (zza 36 (zB (decide (g ≤ (-(Nt.p2i W.f))))) ?_)))))))))))
 refine zyq 37 (x := zB (decide (g ≤ (-(Nt.p2i W.f))))) (zB false) (by rw [show (decide (g ≤ (-(Nt.p2i W.f)))) = false from decide_eq_false xq]) (zza 38 (zI g) ?_ (hw := w1 4 false 37))
 refine zza 39 (zI (Nt.p2i W.f)) ?_ (hw := w1 4 false 37)
 refine zza 40 (zB (decide ((Nt.p2i W.f) ≤ g))) ?_ (hw := w1 4 false 37)
 refine zza 41 (zB (decide ((Nt.p2i W.f) ≤ g))) (zzc 54 [(3, .adr 3 0), (5, zI (Nt.p2i W.f)), (7, zI g), (29, .v (.agg #[.int .i64 g, .int .i64 0])), (30, zI 0), (41, zB (decide ((Nt.p2i W.f) ≤ g)))] [(3, ⟨24, W.cs⟩)] (zzu (b := decide ((Nt.p2i W.f) ≤ g)) xk (fun hb => ?_) (fun hb => ?_)))
 ·exact absurd hb (by rw [show (decide ((Nt.p2i W.f) ≤ g)) = false from decide_eq_false xq]; decide)
 ·clear hb
  refine zzs (zzp ?_)
  refine sq9 (zzi 42 (.v (W.v)) ty24 zze (zza 43 (zI g) (zzg 44 126 [W.v, .int .i64 g] ?_)))
  intro w12 u12 e12 d12
  have k15 := k_fxFits (W := W) (z := g) d12 hW xq xq
  with_reducible refine zPm k15 ?_
  rintro _ u13 g14 rfl
  refine zza 45 (zB false) (zza 46 (zB false) (zzi 47 (.v (W.v)) ty24 zze ?_ (hw := w1 4 false 46)))
  refine zza 48 (zI g) ?_ (hw := w1 4 false 46)
  refine zyq 49 (x := zI (IntKind.i64.wrap (0 - g))) (zI (-g)) (eqI xw) ?_ (hw := w1 4 false 46)
  refine zzg 50 126 [W.v, .int .i64 (-g)] ?_ (hw := w1 4 false 46)
  intro w16 u16 e16 d16
  have k19 := k_fxFits (W := W) (z := -g) d16 hW xq xq
  with_reducible refine zPm k19 ?_
  rintro _ u17 g18 rfl
  refine zza 51 (zB false) ?_ (hw := w1 4 false 46)
  refine zza 52 (zB false) (zzb (zys xk (zzs (zzp ?_))))
  refine zzf (zza 53 (zI 1) (zza 30 (zI 1) (zzx ?_)))
  refine rn_next ?_
  refine sw_weak (T := St.of 54 [(3, .adr 3 0), (5, zI (Nt.p2i W.f)), (29, .v (.agg #[.int .i64 g, .int .i64 0])), (30, zI 1)] [(3, ⟨24, [.int .i64 W.b, .int .i64 W.f, .int .i64 W.r, .int .i64 W.o]⟩)]) yz ?_
  refine sq9 (zza 31 (zB true) (zzb (zzd (zyr xk (zzs (zzp ?_))))))
  refine zzd (zzt (sq9 (zza 32 (zI 0) (zza 7 (zI 0) (zzb (zzd (sq9 (zza 33 (zI 0) (zza 34 (zI (Nt.p2i W.f)) (zyq 35 (x := zI (IntKind.i64.wrap (0 - (Nt.p2i W.f)))) (zI (-(Nt.p2i W.f))) (eqI xw) (zza 36 (zB (decide ((0 : Int) ≤ (-(Nt.p2i W.f))))) ?_)))))))))))
  refine zyq 37 (x := zB (decide ((0 : Int) ≤ (-(Nt.p2i W.f))))) (zB false) (by rw [show (decide ((0 : Int) ≤ (-(Nt.p2i W.f)))) = false from decide_eq_false xq]) (zza 38 (zI 0) ?_ (hw := w1 4 false 37))
  refine zza 39 (zI (Nt.p2i W.f)) ?_ (hw := w1 4 false 37)
  refine zza 40 (zB (decide ((Nt.p2i W.f) ≤ 0))) ?_ (hw := w1 4 false 37)
  refine zza 41 (zB (decide ((Nt.p2i W.f) ≤ 0))) (zzb (zzu (b := decide ((Nt.p2i W.f) ≤ 0)) xk (fun hb => ?_) (fun hb => ?_)))
  ·exact absurd hb (by rw [show (decide ((Nt.p2i W.f) ≤ 0)) = false from decide_eq_false xq]; decide)
  ·clear hb
   refine zzs (zzp ?_)
   refine sq9 (zzi 42 (.v (W.v)) ty24 zze (zza 43 (zI 0) (zzg 44 126 [W.v, .int .i64 0] ?_)))
   intro w21 u21 e21 d21
   have k24 := k_fxFits (W := W) (z := 0) d21 hW xq xq
   with_reducible refine zPm k24 ?_
   rintro _ u22 g23 rfl
   refine zza 45 (zB false) (zza 46 (zB false) (zzi 47 (.v (W.v)) ty24 zze ?_ (hw := w1 4 false 46)))
   refine zza 48 (zI 0) ?_ (hw := w1 4 false 46)
   refine zza 49 (zI 0) ?_ (hw := w1 4 false 46)
   refine zzg 50 126 [W.v, .int .i64 0] ?_ (hw := w1 4 false 46)
   intro w25 u25 e25 d25
   have k28 := k_fxFits (W := W) (z := 0) d25 hW xq xq
   with_reducible refine zPm k28 ?_
   rintro _ u26 g27 rfl
   refine zza 51 (zB false) ?_ (hw := w1 4 false 46)
   refine zza 52 (zB false) (zzc 54 [(3, .adr 3 0), (5, zI (Nt.p2i W.f)), (29, .v (.agg #[.int .i64 g, .int .i64 0])), (30, zI 1), (52, zB false)] [(3, ⟨24, W.cs⟩)] (zys xk (zzs (zzp ?_))))
   refine zzf (zza 53 (zI 2) (zza 30 (zI 2) (zzx ?_)))
   refine rn_next ?_
   refine sw_weak (T := St.of 54 [(3, .adr 3 0), (5, zI (Nt.p2i W.f)), (29, .v (.agg #[.int .i64 g, .int .i64 0])), (30, zI 2)] [(3, ⟨24, [.int .i64 W.b, .int .i64 W.f, .int .i64 W.r, .int .i64 W.o]⟩)]) yz ?_
   refine sq9 (zza 31 (zB false) (zzb (zzd (zys xk (zyc (zzp (sq9 (zza 4 (zB true) (zzb (zzo (ret0 [.bool true] ⟨zzq, trivial⟩ fun u29 e30 => ?_)))))))))))
   rfl
set_option maxHeartbeats 1000000 in
theorem k_permitted2 {u w : World} {W : WL} {g h : Int} (hg0 : -Nt.p2i W.f < g) (hg1 : g < Nt.p2i W.f) (hh0 : -Nt.p2i W.f < h) (hh1 : h < Nt.p2i W.f) (d : Dat u w) (hW : WdOK W) : Calls Tryz.prog 85 #[(⟨2, g, h⟩ : PL).v, W.v] w (Post u w fun v _ => v = .bool true) := by
 obtain ⟨hw1, hw2, hw3, hw4, hw5, hw6, hw7, hw8⟩ := id hW
 have hu0 := Nt.zxq W.f
 have hu1 := Nt.p2i_24 (n := W.f) xq
 have hu2 := Nt.zwh (a := W.f) (b := W.b - 1) xq
 have hu3 := Nt.p2i_24 (n := W.b - 1) xq
 refine zzm (args := [.agg #[.int .i64 2, .int .i64 g, .int .i64 h], .agg #[.int .i64 W.b, .int .i64 W.f, .int .i64 W.r, .int .i64 W.o]]) Tryz.func85 rfl Tryz.ntmps85 (rs := [.tmp 4]) Tryz.results85 (le_b rfl) (le_b rfl) d ?_
 refine sq9 (zzk 2 ⟨60, [.int .i64 2, .int .i64 g, .int .i64 h]⟩ (zzk 3 ⟨24, W.cs⟩ (zza 4 (zB false) (zzb (zzd (sq9 (zza 8 (.adr 2 0) (zzi 9 (zI 2) ty3 zzl (zza 10 (zB true) (zza 11 (zB true) (zza 12 (.adr 2 0) ?_ (hw := w1 3 true 11))))))))))))
 refine zzi 13 (zI 2) ty3 zzl ?_ (hw := w1 3 true 11)
 refine zza 14 (zB false) ?_ (hw := w1 3 true 11)
 refine zza 15 (zB false) (zzb (zys xk (zzs (zzp ?_))))
 refine zzd (sq9 (zza 16 (.adr 2 0) (zzi 17 (zI 2) ty3 zzl (zza 18 (zB false) (zza 19 (zB false) (zzn 20 (uw 3 true false 19) (zzn 21 (uw 3 true false 19) (zzn 22 (uw 3 true false 19) (zzn 23 (uw 3 true false 19) (zza 24 (zB false) (zzb ?_)))))))))))
 refine zys xk (zzs (zzp ?_))
 refine sq9 (zza 25 (.adr 3 1) (zzi 26 (zI W.f) ty3 zzl (sy_shl 27 (k := .i64) (s := W.f) (Nt.p2i W.f) xq zw (shl_one xq xq) ?_)))
 refine zza 5 (zI (Nt.p2i W.f)) (zzb (zzd (sq9 (zza 28 (.adr 2 1) (zzi 29 (.v (.agg #[.int .i64 g, .int .i64 h])) ty58 zze (zza 30 (zI 0) (zzb (zzt (sw_rounds 2 ?_)))))))))
 refine sq9 (zza 31 (zB true) (zzb (zzd (zyr xk (zzs (zzp ?_))))))
 refine zzd (zzt (sq9 (zza 32 (zI g) (zza 7 (zI g) (zzb (zzd (sq9 (zza 33 (zI g) (zza 34 (zI (Nt.p2i W.f)) (zyq 35 (x := zI (IntKind.i64.wrap (0 - (Nt.p2i W.f)))) (zI (-(Nt.p2i W.f))) (eqI xw) (zza 36 (zB (decide (g ≤ (-(Nt.p2i W.f))))) ?_)))))))))))
 refine zyq 37 (x := zB (decide (g ≤ (-(Nt.p2i W.f))))) (zB false) (by rw [show (decide (g ≤ (-(Nt.p2i W.f)))) = false from decide_eq_false xq]) (zza 38 (zI g) ?_ (hw := w1 4 false 37))
 refine zza 39 (zI (Nt.p2i W.f)) ?_ (hw := w1 4 false 37)
 refine zza 40 (zB (decide ((Nt.p2i W.f) ≤ g))) ?_ (hw := w1 4 false 37)
 refine zza 41 (zB (decide ((Nt.p2i W.f) ≤ g))) (zzc 54 [(3, .adr 3 0), (5, zI (Nt.p2i W.f)), (7, zI g), (29, .v (.agg #[.int .i64 g, .int .i64 h])), (30, zI 0), (41, zB (decide ((Nt.p2i W.f) ≤ g)))] [(3, ⟨24, W.cs⟩)] (zzu (b := decide ((Nt.p2i W.f) ≤ g)) xk (fun hb => ?_) (fun hb => ?_)))
 ·exact absurd hb (by rw [show (decide ((Nt.p2i W.f) ≤ g)) = false from decide_eq_false xq]; decide)
 ·clear hb
  refine zzs (zzp ?_)
  refine sq9 (zzi 42 (.v (W.v)) ty24 zze (zza 43 (zI g) (zzg 44 126 [W.v, .int .i64 g] ?_)))
  intro w12 u12 e12 d12
  have k15 := k_fxFits (W := W) (z := g) d12 hW xq xq
  with_reducible refine zPm k15 ?_
  rintro _ u13 g14 rfl
  refine zza 45 (zB false) (zza 46 (zB false) (zzi 47 (.v (W.v)) ty24 zze ?_ (hw := w1 4 false 46)))
  refine zza 48 (zI g) ?_ (hw := w1 4 false 46)
  refine zyq 49 (x := zI (IntKind.i64.wrap (0 - g))) (zI (-g)) (eqI xw) ?_ (hw := w1 4 false 46)
  refine zzg 50 126 [W.v, .int .i64 (-g)] ?_ (hw := w1 4 false 46)
  intro w16 u16 e16 d16
  have k19 := k_fxFits (W := W) (z := -g) d16 hW xq xq
  with_reducible refine zPm k19 ?_
  rintro _ u17 g18 rfl
  refine zza 51 (zB false) ?_ (hw := w1 4 false 46)
  refine zza 52 (zB false) (zzb (zys xk (zzs (zzp ?_))))
  refine zzf (zza 53 (zI 1) (zza 30 (zI 1) (zzx ?_)))
  refine rn_next ?_
  refine sw_weak (T := St.of 54 [(3, .adr 3 0), (5, zI (Nt.p2i W.f)), (29, .v (.agg #[.int .i64 g, .int .i64 h])), (30, zI 1)] [(3, ⟨24, [.int .i64 W.b, .int .i64 W.f, .int .i64 W.r, .int .i64 W.o]⟩)]) yz ?_
  refine sq9 (zza 31 (zB true) (zzb (zzd (zyr xk (zzs (zzp ?_))))))
  refine zzd (zzt (sq9 (zza 32 (zI h) (zza 7 (zI h) (zzb (zzd (sq9 (zza 33 (zI h) (zza 34 (zI (Nt.p2i W.f)) (zyq 35 (x := zI (IntKind.i64.wrap (0 - (Nt.p2i W.f)))) (zI (-(Nt.p2i W.f))) (eqI xw) (zza 36 (zB (decide (h ≤ (-(Nt.p2i W.f))))) ?_)))))))))))
  refine zyq 37 (x := zB (decide (h ≤ (-(Nt.p2i W.f))))) (zB false) (by rw [show (decide (h ≤ (-(Nt.p2i W.f)))) = false from decide_eq_false xq]) (zza 38 (zI h) ?_ (hw := w1 4 false 37))
  refine zza 39 (zI (Nt.p2i W.f)) ?_ (hw := w1 4 false 37)
  refine zza 40 (zB (decide ((Nt.p2i W.f) ≤ h))) ?_ (hw := w1 4 false 37)
  refine zza 41 (zB (decide ((Nt.p2i W.f) ≤ h))) (zzb (zzu (b := decide ((Nt.p2i W.f) ≤ h)) xk (fun hb => ?_) (fun hb => ?_)))
  ·exact absurd hb (by rw [show (decide ((Nt.p2i W.f) ≤ h)) = false from decide_eq_false xq]; decide)
  ·clear hb
   refine zzs (zzp ?_)
   refine sq9 (zzi 42 (.v (W.v)) ty24 zze (zza 43 (zI h) (zzg 44 126 [W.v, .int .i64 h] ?_)))
   intro w21 u21 e21 d21
   have k24 := k_fxFits (W := W) (z := h) d21 hW xq xq
   with_reducible refine zPm k24 ?_
   rintro _ u22 g23 rfl
   refine zza 45 (zB false) (zza 46 (zB false) (zzi 47 (.v (W.v)) ty24 zze ?_ (hw := w1 4 false 46)))
   refine zza 48 (zI h) ?_ (hw := w1 4 false 46)
   refine zyq 49 (x := zI (IntKind.i64.wrap (0 - h))) (zI (-h)) (eqI xw) ?_ (hw := w1 4 false 46)
   refine zzg 50 126 [W.v, .int .i64 (-h)] ?_ (hw := w1 4 false 46)
   intro w25 u25 e25 d25
   have k28 := k_fxFits (W := W) (z := -h) d25 hW xq xq
   with_reducible refine zPm k28 ?_
   rintro _ u26 g27 rfl
   refine zza 51 (zB false) ?_ (hw := w1 4 false 46)
   refine zza 52 (zB false) (zzc 54 [(3, .adr 3 0), (5, zI (Nt.p2i W.f)), (29, .v (.agg #[.int .i64 g, .int .i64 h])), (30, zI 1), (52, zB false)] [(3, ⟨24, W.cs⟩)] (zys xk (zzs (zzp ?_))))
   refine zzf (zza 53 (zI 2) (zza 30 (zI 2) (zzx ?_)))
   refine rn_next ?_
   refine sw_weak (T := St.of 54 [(3, .adr 3 0), (5, zI (Nt.p2i W.f)), (29, .v (.agg #[.int .i64 g, .int .i64 h])), (30, zI 2)] [(3, ⟨24, [.int .i64 W.b, .int .i64 W.f, .int .i64 W.r, .int .i64 W.o]⟩)]) yz ?_
   refine sq9 (zza 31 (zB false) (zzb (zzd (zys xk (zyc (zzp (sq9 (zza 4 (zB true) (zzb (zzo (ret0 [.bool true] ⟨zzq, trivial⟩ fun u29 e30 => ?_)))))))))))
   rfl
theorem pas_split {f : Int} {p : PL} (h : PasOK f p) : (∃ g, p = ⟨1, g, 0⟩ ∧ -Nt.p2i f < g ∧ g < Nt.p2i f) ∨ (∃ g h, p = ⟨2, g, h⟩ ∧ -Nt.p2i f < g ∧ g < Nt.p2i f ∧ -Nt.p2i f < h ∧ h < Nt.p2i f) := by
 obtain ⟨o, g, h'⟩ := p
 obtain ⟨h1, h2, h3, h4, h5⟩ := h
 rcases h1 with ⟨h6, h7⟩ | h6
 ·have h6 : o = 1 := h6
  have h7 : h' = 0 := h7
  subst h6 h7
  exact .inl ⟨g, rfl, h2, h3⟩
 ·have h6 : o = 2 := h6
  subst h6
  exact .inr ⟨g, h', rfl, h2, h3, h4, h5⟩
theorem k_permitted {u w : World} {W : WL} {p : PL} (d : Dat u w) (hW : WdOK W) (hp : PasOK W.f p) : Calls Tryz.prog 85 #[p.v, W.v] w (Post u w fun v _ => v = .bool true) := by
 rcases pas_split hp with ⟨g, rfl, h1, h2⟩ | ⟨g, h, rfl, h1, h2, h3, h4⟩
 ·exact k_permitted1 h1 h2 d hW
 ·exact k_permitted2 h1 h2 h3 h4 d hW
set_option maxHeartbeats 1000000 in
theorem k_section1 {u w : World} {W : WL} {g : Int} (hg0 : -Nt.p2i W.f < g) (hg1 : g < Nt.p2i W.f) (d : Dat u w) (hW : WdOK W) : Calls Tryz.prog 86 #[(⟨1, g, 0⟩ : PL).v, W.v] w (Post u w fun v u' => ∃ y z : Sl, v = .agg #[y.v, z.v] ∧ PolN u' y (Nt.trimQ (Nt.secB W.f (⟨1, g, 0⟩ : PL))) 10 ∧ PolN u' z (Nt.trimQ (Nt.secA W.f (⟨1, g, 0⟩ : PL))) 10) := by
 obtain ⟨hw1, hw2, hw3, hw4, hw5, hw6, hw7, hw8⟩ := id hW
 have hu0 := Nt.zxq W.f
 have hu1 := Nt.p2i_24 (n := W.f) xq
 have hu2 := Nt.zwh (a := W.f) (b := W.b - 1) xq
 have hu3 := Nt.p2i_24 (n := W.b - 1) xq
 refine zzm (args := [.agg #[.int .i64 1, .int .i64 g, .int .i64 0], .agg #[.int .i64 W.b, .int .i64 W.f, .int .i64 W.r, .int .i64 W.o]]) Tryz.func86 rfl Tryz.ntmps86 (rs := [.cell 4 31]) Tryz.results86 (le_b rfl) (le_b rfl) d ?_
 refine sq9 (zzk 2 ⟨60, [.int .i64 1, .int .i64 g, .int .i64 0]⟩ (zzk 3 ⟨24, W.cs⟩ (zzk 4 ⟨31, [.slice none 0 0, .slice none 0 0]⟩ (zzb (sq9 (zzg 10 61 [.int .i64 1] ?_))))))
 intro w11 u11 e11 d11
 have k16 := k_ratOf d11 (z := 1) xq xq
 with_reducible refine zPm k16 ?_
 rintro _ u14 g15 ⟨r12, rfl, h13⟩
 refine zzk 5 ⟨41, [.bool false, .slice none 0 0, .slice none 0 0]⟩ (zzj ⟨41, r12.cs⟩ ty41 ?_)
 refine zzb (sq9 (zzi 11 (.v (W.v)) ty24 zze (zza 12 (.adr 2 1) (zza 13 (.adr 2 1) (zzi 14 (zI g) ty3 zzl (zzg 15 48 [W.v, .int .i64 g] ?_))))))
 intro w17 u17 e17 d17
 have k22 := k_fxValue (W := W) (z := g) d17 hW xq xq
 with_reducible refine zPm k22 ?_
 rintro _ u20 g21 ⟨r18, rfl, h19⟩
 refine zzk 6 ⟨41, [.bool false, .slice none 0 0, .slice none 0 0]⟩ (zzj ⟨41, r18.cs⟩ ty41 ?_)
 refine zzb (sq9 (zzi 16 (.v (r18.v)) ty41 zze (zzg 17 159 [r18.v] ?_)))
 intro w23 u23 e23 d23
 have k28 := k_ratNeg d23 (h19.ext e23).raw xq
 with_reducible refine zPm k28 ?_
 rintro _ u26 g27 ⟨r24, rfl, h25⟩
 refine zzk 7 ⟨41, [.bool false, .slice none 0 0, .slice none 0 0]⟩ (zzj ⟨41, r24.cs⟩ ty41 ?_)
 refine zzb (zzd (sq9 (zza 18 (.adr 2 0) (zzi 19 (zI 1) ty3 zzl (zza 20 (zB true) (zzb (zyr xk (zzd (zzz [0, 0, 3, 7, 0, 0, 48, 127, 255, 511] [(0, []), (1, []), (2, []), (4, []), (5, []), (6, []), (3, [23]), (7, [27]), (8, []), (9, [])] xk xk (zzi 21 (.v (r24.v)) ty41 zze (zzi 22 (.v (r12.v)) ty41 zze ?_)))))))))))
 refine sy_lit 23 ⟨41, r24.cs ++ r12.cs⟩ 2 ?_
 refine zzi 25 (.v (r12.v)) ty41 zze (zzi 26 (.v (r24.v)) ty41 zze (sy_lit 27 ⟨41, r12.cs ++ r24.cs⟩ 2 ?_))
 refine zyo 24 53 [.slc 23 0 2 2] [23] (.inr rfl) (pub_mk xz) (k := ?_)
 intro B29 w29 u29 e29 d29 v29
 have h31 : u29.heap[B29 23]? = some (.cells #[.bool r24.s, .slice r24.m.a r24.m.n r24.m.c, .slice r24.d.a r24.d.n r24.d.c, .bool r12.s, .slice r12.m.a r12.m.n r12.m.c, .slice r12.d.a r12.d.n r12.d.c] 41 (0, 0)) := v29 23 zj _ rfl
 obtain ⟨b30, hBb30⟩ : ∃ b, B29 23 = b := ⟨_, rfl⟩
 rw [hBb30] at h31
 have hp32 : PolN u29 (⟨some ⟨b30, 0, none⟩, 2, 2⟩ : Sl) [(-(((g : Int) : Rat) / ((Nt.p2i W.f : Int) : Rat))), ((1 : Int) : Rat)] 2 := pol_lit (L := [r24, r12]) h31 (rats2 (h25.ext e29) (h13.ext (e17.trans (g21.ext.trans (e23.trans (g27.ext.trans e29)))))) rfl yq
 show Calls _ _ #[.slice (some ⟨B29 23, 0, none⟩) 2 2] _ _
 rw [hBb30]
 have k37 := k_poTrim d29 hp32.raw xq zz
 with_reducible refine zPm k37 ?_
 rintro _ u35 g36 ⟨y33, rfl, h34⟩
 have hly33 := h34.len
 refine zyo 28 53 [.slc 27 0 2 2] [27] (.inr rfl) (pub_mk xz) (k := ?_)
 intro B38 w38 u38 e38 d38 v38
 have h40 : u38.heap[B38 27]? = some (.cells #[.bool r12.s, .slice r12.m.a r12.m.n r12.m.c, .slice r12.d.a r12.d.n r12.d.c, .bool r24.s, .slice r24.m.a r24.m.n r24.m.c, .slice r24.d.a r24.d.n r24.d.c] 41 (0, 0)) := v38 27 zj _ rfl
 obtain ⟨b39, hBb39⟩ : ∃ b, B38 27 = b := ⟨_, rfl⟩
 rw [hBb39] at h40
 have hp41 : PolN u38 (⟨some ⟨b39, 0, none⟩, 2, 2⟩ : Sl) [((1 : Int) : Rat), (-(((g : Int) : Rat) / ((Nt.p2i W.f : Int) : Rat)))] 2 := pol_lit (L := [r12, r24]) h40 (rats2 (h13.ext (e17.trans (g21.ext.trans (e23.trans (g27.ext.trans (e29.trans (g36.ext.trans e38))))))) (h25.ext (e29.trans (g36.ext.trans e38)))) rfl yq
 show Calls _ _ #[.slice (some ⟨B38 27, 0, none⟩) 2 2] _ _
 rw [hBb39]
 have k46 := k_poTrim d38 hp41.raw xq zz
 with_reducible refine zPm k46 ?_
 rintro _ u44 g45 ⟨y42, rfl, h43⟩
 have hly42 := h43.len
 refine zza 29 (.v (.agg #[y33.v, y42.v])) (zzj ⟨31, [y33.v, y42.v]⟩ ty31 ?_)
 refine zzb (zzo (zzw (ret0 [.agg #[.slice y33.a y33.n y33.c, .slice y42.a y42.n y42.c]] ⟨zzr ty31 zze, trivial⟩ fun u47 e48 => ?_)))
 exact ⟨y33, y42, rfl, PolN.more (K := 2) (h34.ext (e38.trans (g45.ext.trans e48))) xq, PolN.more (K := 2) (h43.ext e48) xq⟩
set_option maxHeartbeats 1000000 in
theorem k_section2 {u w : World} {W : WL} {g h : Int} (hg0 : -Nt.p2i W.f < g) (hg1 : g < Nt.p2i W.f) (hh0 : -Nt.p2i W.f < h) (hh1 : h < Nt.p2i W.f) (d : Dat u w) (hW : WdOK W) : Calls Tryz.prog 86 #[(⟨2, g, h⟩ : PL).v, W.v] w (Post u w fun v u' => ∃ y z : Sl, v = .agg #[y.v, z.v] ∧ PolN u' y (Nt.trimQ (Nt.secB W.f (⟨2, g, h⟩ : PL))) 10 ∧ PolN u' z (Nt.trimQ (Nt.secA W.f (⟨2, g, h⟩ : PL))) 10) := by
 obtain ⟨hw1, hw2, hw3, hw4, hw5, hw6, hw7, hw8⟩ := id hW
 have hu0 := Nt.zxq W.f
 have hu1 := Nt.p2i_24 (n := W.f) xq
 have hu2 := Nt.zwh (a := W.f) (b := W.b - 1) xq
 have hu3 := Nt.p2i_24 (n := W.b - 1) xq
 refine zzm (args := [.agg #[.int .i64 2, .int .i64 g, .int .i64 h], .agg #[.int .i64 W.b, .int .i64 W.f, .int .i64 W.r, .int .i64 W.o]]) Tryz.func86 rfl Tryz.ntmps86 (rs := [.cell 4 31]) Tryz.results86 (le_b rfl) (le_b rfl) d ?_
 refine sq9 (zzk 2 ⟨60, [.int .i64 2, .int .i64 g, .int .i64 h]⟩ (zzk 3 ⟨24, W.cs⟩ (zzk 4 ⟨31, [.slice none 0 0, .slice none 0 0]⟩ (zzb (sq9 (zzg 10 61 [.int .i64 1] ?_))))))
 intro w11 u11 e11 d11
 have k16 := k_ratOf d11 (z := 1) xq xq
 with_reducible refine zPm k16 ?_
 rintro _ u14 g15 ⟨r12, rfl, h13⟩
 refine zzk 5 ⟨41, [.bool false, .slice none 0 0, .slice none 0 0]⟩ (zzj ⟨41, r12.cs⟩ ty41 ?_)
 refine zzb (sq9 (zzi 11 (.v (W.v)) ty24 zze (zza 12 (.adr 2 1) (zza 13 (.adr 2 1) (zzi 14 (zI g) ty3 zzl (zzg 15 48 [W.v, .int .i64 g] ?_))))))
 intro w17 u17 e17 d17
 have k22 := k_fxValue (W := W) (z := g) d17 hW xq xq
 with_reducible refine zPm k22 ?_
 rintro _ u20 g21 ⟨r18, rfl, h19⟩
 refine zzk 6 ⟨41, [.bool false, .slice none 0 0, .slice none 0 0]⟩ (zzj ⟨41, r18.cs⟩ ty41 ?_)
 refine zzb (sq9 (zzi 16 (.v (r18.v)) ty41 zze (zzg 17 159 [r18.v] ?_)))
 intro w23 u23 e23 d23
 have k28 := k_ratNeg d23 (h19.ext e23).raw xq
 with_reducible refine zPm k28 ?_
 rintro _ u26 g27 ⟨r24, rfl, h25⟩
 refine zzk 7 ⟨41, [.bool false, .slice none 0 0, .slice none 0 0]⟩ (zzj ⟨41, r24.cs⟩ ty41 ?_)
 refine zzb (zzd (sq9 (zza 18 (.adr 2 0) (zzi 19 (zI 2) ty3 zzl (zza 20 (zB false) (zzb (zys xk (zzs (zzp ?_)))))))))
 refine sq9 (zzi 30 (.v (W.v)) ty24 zze (zza 31 (.adr 2 1) (zza 32 (.adr 2 2) (zzi 33 (zI h) ty3 zzl (zzg 34 48 [W.v, .int .i64 h] ?_)))))
 intro w29 u29 e29 d29
 have k34 := k_fxValue (W := W) (z := h) d29 hW xq xq
 with_reducible refine zPm k34 ?_
 rintro _ u32 g33 ⟨r30, rfl, h31⟩
 refine zzk 8 ⟨41, [.bool false, .slice none 0 0, .slice none 0 0]⟩ (zzj ⟨41, r30.cs⟩ ty41 ?_)
 refine zzb (zzd (zzz [0, 0, 0, 6, 15, 0, 63] [(0, []), (1, []), (2, []), (5, []), (3, []), (4, []), (6, [])] xk xk (zzi 35 (.v (r30.v)) ty41 zze (zzi 36 (.v (r18.v)) ty41 zze (zzi 37 (.v (r12.v)) ty41 zze (zzk 9 ⟨41, [.bool false, .slice none 0 0, .slice none 0 0]⟩ (zzg 38 60 [r18.v, r12.v] ?_)))))))
 intro w35 u35 e35 d35
 have k40 := k_ratSub d35 (h19.ext (e23.trans (g27.ext.trans (e29.trans (g33.ext.trans e35))))).raw (h13.ext (e17.trans (g21.ext.trans (e23.trans (g27.ext.trans (e29.trans (g33.ext.trans e35))))))).raw xq xq
 with_reducible refine zPm k40 ?_
 rintro _ u38 g39 ⟨r36, rfl, h37⟩
 refine zzg 39 62 [r30.v, r36.v] ?_
 intro w41 u41 e41 d41
 have k46 := k_ratMul d41 (h31.ext (e35.trans (g39.ext.trans e41))).raw (h37.ext e41).raw xq xq
 with_reducible refine zPm k46 ?_
 rintro _ u44 g45 ⟨r42, rfl, h43⟩
 refine zzj ⟨41, r42.cs⟩ ty41 ?_
 refine zzc 51 [(4, .adr 4 0), (5, .adr 5 0), (7, .adr 7 0), (9, .adr 9 0)] [(4, ⟨31, [.slice none 0 0, .slice none 0 0]⟩), (5, ⟨41, r12.cs⟩), (7, ⟨41, r24.cs⟩), (9, ⟨41, r42.cs⟩)] (zzd (zzz [0, 0, 0, 7, 15, 0, 0, 0, 224, 511, 1023, 2047] [(0, []), (1, []), (2, []), (3, []), (5, []), (6, []), (7, []), (8, []), (4, [43]), (9, [48]), (10, []), (11, [])] xk xk (zzi 40 (.v (r24.v)) ty41 zze (zzi 41 (.v (r42.v)) ty41 zze (zzi 42 (.v (r12.v)) ty41 zze (sy_lit 43 ⟨41, r24.cs ++ r42.cs ++ r12.cs⟩ 3 ?_))))))
 refine zzi 45 (.v (r12.v)) ty41 zze (zzi 46 (.v (r42.v)) ty41 zze (zzi 47 (.v (r24.v)) ty41 zze (sy_lit 48 ⟨41, r12.cs ++ r42.cs ++ r24.cs⟩ 3 ?_)))
 refine zyo 44 53 [.slc 43 0 3 3] [43] (.inr rfl) (pub_mk xz) (k := ?_)
 intro B47 w47 u47 e47 d47 v47
 have h49 : u47.heap[B47 43]? = some (.cells #[.bool r24.s, .slice r24.m.a r24.m.n r24.m.c, .slice r24.d.a r24.d.n r24.d.c, .bool r42.s, .slice r42.m.a r42.m.n r42.m.c, .slice r42.d.a r42.d.n r42.d.c, .bool r12.s, .slice r12.m.a r12.m.n r12.m.c, .slice r12.d.a r12.d.n r12.d.c] 41 (0, 0)) := v47 43 zj _ rfl
 obtain ⟨b48, hBb48⟩ : ∃ b, B47 43 = b := ⟨_, rfl⟩
 rw [hBb48] at h49
 have hp50 : PolN u47 (⟨some ⟨b48, 0, none⟩, 3, 3⟩ : Sl) [(-(((g : Int) : Rat) / ((Nt.p2i W.f : Int) : Rat))), ((((h : Int) : Rat) / ((Nt.p2i W.f : Int) : Rat)) * ((((g : Int) : Rat) / ((Nt.p2i W.f : Int) : Rat)) - ((1 : Int) : Rat))), ((1 : Int) : Rat)] (max (max 2 (2 + (2 + 2 + 1))) 2) := pol_lit (L := [r24, r42, r12]) h49 (rats3 (RatN.more (L := (max (max 2 (2 + (2 + 2 + 1))) 2)) (h25.ext (e29.trans (g33.ext.trans (e35.trans (g39.ext.trans (e41.trans (g45.ext.trans e47))))))) xq) (RatN.more (L := (max (max 2 (2 + (2 + 2 + 1))) 2)) (h43.ext e47) xq) (RatN.more (L := (max (max 2 (2 + (2 + 2 + 1))) 2)) (h13.ext (e17.trans (g21.ext.trans (e23.trans (g27.ext.trans (e29.trans (g33.ext.trans (e35.trans (g39.ext.trans (e41.trans (g45.ext.trans e47))))))))))) xq)) rfl yq
 show Calls _ _ #[.slice (some ⟨B47 43, 0, none⟩) 3 3] _ _
 rw [hBb48]
 have k55 := k_poTrim d47 hp50.raw xq zz
 with_reducible refine zPm k55 ?_
 rintro _ u53 g54 ⟨y51, rfl, h52⟩
 have hly51 := h52.len
 refine zyo 49 53 [.slc 48 0 3 3] [48] (.inr rfl) (pub_mk xz) (k := ?_)
 intro B56 w56 u56 e56 d56 v56
 have h58 : u56.heap[B56 48]? = some (.cells #[.bool r12.s, .slice r12.m.a r12.m.n r12.m.c, .slice r12.d.a r12.d.n r12.d.c, .bool r42.s, .slice r42.m.a r42.m.n r42.m.c, .slice r42.d.a r42.d.n r42.d.c, .bool r24.s, .slice r24.m.a r24.m.n r24.m.c, .slice r24.d.a r24.d.n r24.d.c] 41 (0, 0)) := v56 48 zj _ rfl
 obtain ⟨b57, hBb57⟩ : ∃ b, B56 48 = b := ⟨_, rfl⟩
 rw [hBb57] at h58
 have hp59 : PolN u56 (⟨some ⟨b57, 0, none⟩, 3, 3⟩ : Sl) [((1 : Int) : Rat), ((((h : Int) : Rat) / ((Nt.p2i W.f : Int) : Rat)) * ((((g : Int) : Rat) / ((Nt.p2i W.f : Int) : Rat)) - ((1 : Int) : Rat))), (-(((g : Int) : Rat) / ((Nt.p2i W.f : Int) : Rat)))] (max (max 2 (2 + (2 + 2 + 1))) 2) := pol_lit (L := [r12, r42, r24]) h58 (rats3 (RatN.more (L := (max (max 2 (2 + (2 + 2 + 1))) 2)) (h13.ext (e17.trans (g21.ext.trans (e23.trans (g27.ext.trans (e29.trans (g33.ext.trans (e35.trans (g39.ext.trans (e41.trans (g45.ext.trans (e47.trans (g54.ext.trans e56))))))))))))) xq) (RatN.more (L := (max (max 2 (2 + (2 + 2 + 1))) 2)) (h43.ext (e47.trans (g54.ext.trans e56))) xq) (RatN.more (L := (max (max 2 (2 + (2 + 2 + 1))) 2)) (h25.ext (e29.trans (g33.ext.trans (e35.trans (g39.ext.trans (e41.trans (g45.ext.trans (e47.trans (g54.ext.trans e56))))))))) xq)) rfl yq
 show Calls _ _ #[.slice (some ⟨B56 48, 0, none⟩) 3 3] _ _
 rw [hBb57]
 have k64 := k_poTrim d56 hp59.raw xq zz
 with_reducible refine zPm k64 ?_
 rintro _ u62 g63 ⟨y60, rfl, h61⟩
 have hly60 := h61.len
 refine zza 50 (.v (.agg #[y51.v, y60.v])) (zzj ⟨31, [y51.v, y60.v]⟩ ty31 ?_)
 refine zzb (zzo (ret0 [.agg #[.slice y51.a y51.n y51.c, .slice y60.a y60.n y60.c]] ⟨zzr ty31 zze, trivial⟩ fun u65 e66 => ?_))
 exact ⟨y51, y60, rfl, PolN.more (K := (max (max 2 (2 + (2 + 2 + 1))) 2)) (h52.ext (e56.trans (g63.ext.trans e66))) xq, PolN.more (K := (max (max 2 (2 + (2 + 2 + 1))) 2)) (h61.ext e66) xq⟩
theorem k_section {u w : World} {W : WL} {p : PL} (d : Dat u w) (hW : WdOK W) (hp : PasOK W.f p) : Calls Tryz.prog 86 #[p.v, W.v] w (Post u w fun v u' => ∃ y z : Sl, v = .agg #[y.v, z.v] ∧ PolN u' y (Nt.trimQ (Nt.secB W.f p)) 10 ∧ PolN u' z (Nt.trimQ (Nt.secA W.f p)) 10) := by
 rcases pas_split hp with ⟨g, rfl, h1, h2⟩ | ⟨g, h, rfl, h1, h2, h3, h4⟩
 ·exact k_section1 h1 h2 d hW
 ·exact k_section2 h1 h2 h3 h4 d hW
theorem k_branch0 {u w : World} {x y : Sl} (d : Dat u w) : Calls Tryz.prog 93 #[.agg #[x.v, y.v], .int .i64 0] w (Post u w fun v _ => v = x.v) := by
 refine zzm (args := [.agg #[.slice x.a x.n x.c, .slice y.a y.n y.c], .int .i64 0]) Tryz.func93 rfl Tryz.ntmps93 (rs := [.tmp 4]) Tryz.results93 (le_b rfl) (le_b rfl) d ?_
 refine sq9 (zzk 2 ⟨57, [x.v, y.v]⟩ (zza 4 (.v (.slice none 0 0)) (zzb (zzd (sq9 (zza 5 (zI 0) (zza 6 (zB true) (zzb (zyr xk (sq9 (zza 7 (.adr 2 0) ?_)))))))))))
 refine zzi 8 (.v x.v) ty55 zzl (zza 4 (.v x.v) (zzb (zzo (zzw (ret0 [.slice x.a x.n x.c] ⟨zzq, trivial⟩ fun u11 e12 => ?_)))))
 rfl
theorem k_branch1 {u w : World} {x y : Sl} (d : Dat u w) : Calls Tryz.prog 93 #[.agg #[x.v, y.v], .int .i64 1] w (Post u w fun v _ => v = y.v) := by
 refine zzm (args := [.agg #[.slice x.a x.n x.c, .slice y.a y.n y.c], .int .i64 1]) Tryz.func93 rfl Tryz.ntmps93 (rs := [.tmp 4]) Tryz.results93 (le_b rfl) (le_b rfl) d ?_
 refine sq9 (zzk 2 ⟨57, [x.v, y.v]⟩ (zza 4 (.v (.slice none 0 0)) (zzb (zzd (sq9 (zza 5 (zI 1) (zza 6 (zB false) (zzb (zys xk (zzs (zzp ?_)))))))))))
 refine sq9 (zza 9 (.adr 2 1) (zzi 10 (.v y.v) ty55 zzl (zza 4 (.v y.v) (zzb (zzo (ret0 [.slice y.a y.n y.c] ⟨zzq, trivial⟩ fun u11 e12 => ?_))))))
 rfl
set_option maxHeartbeats 2000000 in
theorem k_wvValid {u w : World} {W : WL} {x y : Sl} {L M : List PL} (d : Dat u w) (hx : PasV u x L) (hpx : ∀ p ∈ L, PasOK W.f p) (hnx : L.length ≤ 4) (hy : PasV u y M) (hpy : ∀ p ∈ M, PasOK W.f p) (hny : M.length ≤ 4) (hW : WdOK W) (hf : 1 ≤ W.f) : Calls Tryz.prog 29 #[.agg #[x.v, y.v], W.v] w (Post u w fun v _ => v = .bool true) := by
 obtain ⟨hw1, hw2, hw3, hw4, hw5, hw6, hw7, hw8⟩ := id hW
 have hlx := hx.len
 have hly := hy.len
 refine zzm (args := [.agg #[.slice x.a x.n x.c, .slice y.a y.n y.c], .agg #[.int .i64 W.b, .int .i64 W.f, .int .i64 W.r, .int .i64 W.o]]) Tryz.func29 rfl Tryz.ntmps29 (rs := [.tmp 4]) Tryz.results29 (le_b rfl) (le_b rfl) d ?_
 refine sq9 (zzk 2 ⟨57, [x.v, y.v]⟩ (zzk 3 ⟨24, W.cs⟩ (zza 4 (zB false) (zzb (zzd (sq9 (zzi 9 (.v (W.v)) ty24 zze (zzg 10 84 [W.v] ?_))))))))
 intro w11 u11 e11 d11
 have k14 := k_suitable (W := W) d11 hW hf
 with_reducible refine zPm k14 ?_
 rintro _ u12 g13 rfl
 refine zza 11 (zB false) (zzb (zys xk (zzs (zzp ?_))))
 refine zzd (sq9 (zza 12 (zI 0) (zzb (zzt (sw_rounds 2 ?_)))))
 refine sq9 (zza 13 (zB true) (zzb (zzd (zyr xk (zzs (zzp ?_))))))
 refine zzd (zzt (sq9 (zza 14 (zI 0) (zza 5 (zI 0) (zzb (sq9 (zzi 15 (.v (.agg #[x.v, y.v])) ty57 zze (zza 16 (zI 0) (zzg 17 93 [.agg #[x.v, y.v], .int .i64 0] ?_)))))))))
 intro w15 u15 e15 d15
 have k18 := k_branch0 (x := x) (y := y) d15
 with_reducible refine zPm k18 ?_
 rintro _ u16 g17 rfl
 refine zza 6 (.v x.v) (zzb (zzd (sq9 (zza 18 (.v x.v) (zza 19 (zI x.n) (zza 20 (zB (decide ((4 : Int) < (x.n : Int)))) (zzb (zzu (b := decide ((4 : Int) < (x.n : Int))) xk (fun hb => ?_) (fun hb => ?_)))))))))
 ·exact absurd hb (by rw [show (decide ((4 : Int) < (x.n : Int))) = false from decide_eq_false xq]; decide)
 ·clear hb
  refine zzs (zzp ?_)
  refine sq9 (zza 21 (.v x.v) (zza 22 (zI x.n) (zza 23 (zI 0) (zzb (zzt ?_)))))
  have hlxL := ((hx.ext (e11.trans (g13.ext.trans (e15.trans g17.ext))))).len
  refine zyn (I := fun m19 S' u' => ∃ (i : Nat), (m19 = L.length - i) ∧ (i ≤ L.length) ∧ (S' = St.of 33 [(2, .adr 2 0), (3, .adr 3 0), (12, zI 0), (21, .v (.slice x.a x.n x.c)), (22, zI x.n), (23, zI i)] [(2, ⟨57, [.slice x.a x.n x.c, .slice y.a y.n y.c]⟩), (3, ⟨24, [.int .i64 W.b, .int .i64 W.f, .int .i64 W.r, .int .i64 W.o]⟩)]) ∧ (Ext u16 u')) (fun m S u1 u2 e h => by obtain ⟨i, hm, p0, hS, hE⟩ := h; exact ⟨i, hm, p0, hS, hE.trans e⟩) _ yz ⟨0, rfl, Nat.zero_le _, rfl, (Ext.refl _)⟩ ?_
  rintro m19 _ u19 ⟨i, hm19, hi, rfl, e19⟩
  refine sq9 (zza 24 (zB (decide ((i : Int) < (x.n : Int)))) (zzb (zzd (zzu (b := decide ((i : Int) < (x.n : Int))) xk (fun hb20 => ?_) (fun hb20 => ?_)))))
  ·replace hb20 : (decide ((i : Int) < (x.n : Int))) = true := hb20
   have qhb20 := of_decide_eq_true hb20
   refine zzs (zzp ?_)
   refine zzd (zzt (sq9 ?_))
   have hl21 := ((hx.ext (e11.trans (g13.ext.trans (e15.trans (g17.ext.trans e19)))))).len
   obtain ⟨p21, b21, o21, hA21, hc21, hp21⟩ := pas_at ((hx.ext (e11.trans (g13.ext.trans (e15.trans (g17.ext.trans e19)))))) (i := i) xq
   refine zya 25 (o21 + i * 3) (n := x.n) (off := o21) (sz := 3) (i := (i : Int)) xq hA21 xq xq sl55 (zym 26 p21.cs hc21 ty60 (zzk 8 ⟨60, [.int .i64 0, .int .i64 0, .int .i64 0]⟩ (zzj ⟨60, [.int .i64 p21.o, .int .i64 p21.g, .int .i64 p21.h]⟩ ty60 ?_)))
   refine zzb (zzd ?_)
   have hkp21 : PasOK W.f p21 := by rw [hp21]; exact hpx _ (by rw [List.getD_eq_getElem?_getD, List.getElem?_eq_getElem xq]; exact List.getElem_mem _)
   refine zzf (zzi 27 (.v (.agg #[.int .i64 p21.o, .int .i64 p21.g, .int .i64 p21.h])) ty60 zze (zzi 28 (.v (W.v)) ty24 zze (zzg 29 85 [.agg #[.int .i64 p21.o, .int .i64 p21.g, .int .i64 p21.h], W.v] ?_)))
   intro w22 u22 e22 d22
   have k25 := k_permitted (p := p21) (W := W) d22 hW hkp21
   with_reducible refine zPm k25 ?_
   rintro _ u23 g24 rfl
   refine zza 30 (zB false) (zzb (zys xk (zzs (zzp ?_))))
   refine zzf (zyq 31 (x := zI (IntKind.i64.wrap ((i : Int) + 1))) (zI (i + 1 : Nat)) (eqI xw) (zza 23 (zI (i + 1 : Nat)) (zzx ?_)))
   refine ⟨_, ?_, _, by exact zzv _ _ _, i + 1, rfl, by omega, rfl, (e19.trans (e22.trans g24.ext))⟩
   omega
  ·replace hb20 : (decide ((i : Int) < (x.n : Int))) = false := hb20
   have qhb20 := of_decide_eq_false hb20
   refine zyc (zzp (zzf (zza 32 (zI 1) (zza 12 (zI 1) (zzx ?_)))))
   refine rn_next ?_
   refine sw_weak (T := St.of 33 [(2, .adr 2 0), (3, .adr 3 0), (12, zI 1)] [(2, ⟨57, [.slice x.a x.n x.c, .slice y.a y.n y.c]⟩), (3, ⟨24, [.int .i64 W.b, .int .i64 W.f, .int .i64 W.r, .int .i64 W.o]⟩)]) yz ?_
   refine sq9 (zza 13 (zB true) (zzb (zzd (zyr xk (zzs (zzp ?_))))))
   refine zzd (zzt (sq9 (zza 14 (zI 1) (zza 5 (zI 1) (zzb (sq9 (zzi 15 (.v (.agg #[x.v, y.v])) ty57 zze (zza 16 (zI 1) (zzg 17 93 [.agg #[x.v, y.v], .int .i64 1] ?_)))))))))
   intro w26 u26 e26 d26
   have k29 := k_branch1 (x := x) (y := y) d26
   with_reducible refine zPm k29 ?_
   rintro _ u27 g28 rfl
   refine zza 6 (.v y.v) (zzb (zzd (sq9 (zza 18 (.v y.v) (zza 19 (zI y.n) (zza 20 (zB (decide ((4 : Int) < (y.n : Int)))) (zzc 33 [(2, .adr 2 0), (3, .adr 3 0), (6, .v y.v), (12, zI 1), (20, zB (decide ((4 : Int) < (y.n : Int))))] [(2, ⟨57, [x.v, y.v]⟩), (3, ⟨24, W.cs⟩)] (zzu (b := decide ((4 : Int) < (y.n : Int))) xk (fun hb => ?_) (fun hb => ?_)))))))))
   ·exact absurd hb (by rw [show (decide ((4 : Int) < (y.n : Int))) = false from decide_eq_false xq]; decide)
   ·clear hb
    refine zzs (zzp ?_)
    refine sq9 (zza 21 (.v y.v) (zza 22 (zI y.n) (zza 23 (zI 0) (zzb (zzt ?_)))))
    have hlxM := ((hy.ext (e11.trans (g13.ext.trans (e15.trans (g17.ext.trans (e19.trans (e26.trans g28.ext)))))))).len
    refine zyn (I := fun m30 S' u' => ∃ (i : Nat), (m30 = M.length - i) ∧ (i ≤ M.length) ∧ (S' = St.of 33 [(2, .adr 2 0), (3, .adr 3 0), (12, zI 1), (21, .v (.slice y.a y.n y.c)), (22, zI y.n), (23, zI i)] [(2, ⟨57, [.slice x.a x.n x.c, .slice y.a y.n y.c]⟩), (3, ⟨24, [.int .i64 W.b, .int .i64 W.f, .int .i64 W.r, .int .i64 W.o]⟩)]) ∧ (Ext u27 u')) (fun m S u1 u2 e h => by obtain ⟨i, hm, p0, hS, hE⟩ := h; exact ⟨i, hm, p0, hS, hE.trans e⟩) _ yz ⟨0, rfl, Nat.zero_le _, rfl, (Ext.refl _)⟩ ?_
    rintro m30 _ u30 ⟨i, hm30, hi, rfl, e30⟩
    refine sq9 (zza 24 (zB (decide ((i : Int) < (y.n : Int)))) (zzb (zzd (zzu (b := decide ((i : Int) < (y.n : Int))) xk (fun hb31 => ?_) (fun hb31 => ?_)))))
    ·replace hb31 : (decide ((i : Int) < (y.n : Int))) = true := hb31
     have qhb31 := of_decide_eq_true hb31
     refine zzs (zzp ?_)
     refine zzd (zzt (sq9 ?_))
     have hl32 := ((hy.ext (e11.trans (g13.ext.trans (e15.trans (g17.ext.trans (e19.trans (e26.trans (g28.ext.trans e30))))))))).len
     obtain ⟨p32, b32, o32, hA32, hc32, hp32⟩ := pas_at ((hy.ext (e11.trans (g13.ext.trans (e15.trans (g17.ext.trans (e19.trans (e26.trans (g28.ext.trans e30))))))))) (i := i) xq
     refine zya 25 (o32 + i * 3) (n := y.n) (off := o32) (sz := 3) (i := (i : Int)) xq hA32 xq xq sl55 (zym 26 p32.cs hc32 ty60 (zzk 8 ⟨60, [.int .i64 0, .int .i64 0, .int .i64 0]⟩ (zzj ⟨60, [.int .i64 p32.o, .int .i64 p32.g, .int .i64 p32.h]⟩ ty60 ?_)))
     refine zzb (zzd ?_)
     have hkp32 : PasOK W.f p32 := by rw [hp32]; exact hpy _ (by rw [List.getD_eq_getElem?_getD, List.getElem?_eq_getElem xq]; exact List.getElem_mem _)
     refine zzf (zzi 27 (.v (.agg #[.int .i64 p32.o, .int .i64 p32.g, .int .i64 p32.h])) ty60 zze (zzi 28 (.v (W.v)) ty24 zze (zzg 29 85 [.agg #[.int .i64 p32.o, .int .i64 p32.g, .int .i64 p32.h], W.v] ?_)))
     intro w33 u33 e33 d33
     have k36 := k_permitted (p := p32) (W := W) d33 hW hkp32
     with_reducible refine zPm k36 ?_
     rintro _ u34 g35 rfl
     refine zza 30 (zB false) (zzb (zys xk (zzs (zzp ?_))))
     refine zzf (zyq 31 (x := zI (IntKind.i64.wrap ((i : Int) + 1))) (zI (i + 1 : Nat)) (eqI xw) (zza 23 (zI (i + 1 : Nat)) (zzx ?_)))
     refine ⟨_, ?_, _, by exact zzv _ _ _, i + 1, rfl, by omega, rfl, (e30.trans (e33.trans g35.ext))⟩
     omega
    ·replace hb31 : (decide ((i : Int) < (y.n : Int))) = false := hb31
     have qhb31 := of_decide_eq_false hb31
     refine zyc (zzp (zzf (zza 32 (zI 2) (zza 12 (zI 2) (zzx ?_)))))
     refine rn_next ?_
     refine sw_weak (T := St.of 33 [(2, .adr 2 0), (3, .adr 3 0), (12, zI 2)] [(2, ⟨57, [.slice x.a x.n x.c, .slice y.a y.n y.c]⟩), (3, ⟨24, [.int .i64 W.b, .int .i64 W.f, .int .i64 W.r, .int .i64 W.o]⟩)]) yz ?_
     refine sq9 (zza 13 (zB false) (zzb (zzd (zys xk (zyc (zzp (sq9 (zza 4 (zB true) (zzb (zzo (ret0 [.bool true] ⟨zzq, trivial⟩ fun u37 e38 => ?_)))))))))))
     rfl
theorem Nt.wD_208 {f : Int} (hf : f ≤ 24) {n : Nat} (hn : n ≤ 4) : Nt.wD f ^ n ≤ 2 ^ 208 := Nt.wD_pow hf hn
theorem Nt.pw26 {a b k A : Nat} (h : a ≤ 2 ^ k) (h2 : b ≤ 2 ^ k) (hA : k + k ≤ A) : a * b ≤ 2 ^ A :=
 Nat.le_trans (Nat.mul_le_mul h h2) (by rw [← Nat.pow_add]; exact Nat.pow_le_pow_right yq hA)
theorem PolN.fit26 {u : World} {x : Sl} {l : List Rat} {K : Nat} {f : Int} {n m A : Nat} (h : PolN u x l K) (s : Nt.Sm l (Nt.wD f ^ n * Nt.wD f ^ m) A) (hh : f ≤ 24 ∧ n ≤ 4 ∧ m ≤ 4 ∧ 416 ≤ A) : PolN u x l (Nt.dg A) :=
 PolN.fitS h s (Nt.pw26 (Nt.wD_208 hh.1 hh.2.1) (Nt.wD_208 hh.1 hh.2.2.1) xq)
theorem Nt.prodS {f : Int} {L : List PL} (hf : f ≤ 24) (hL : ∀ p ∈ L, PasOK f p) {n : Nat} (hn : n ≤ L.length) (h4 : L.length ≤ 4) : Nt.Sm (Nt.prodB f L n) (Nt.wD f ^ n) 208 ∧ Nt.Sm (Nt.prodA f L n) (Nt.wD f ^ n) 208 :=
 ⟨(Nt.prod_sm hf hL n hn).1.more xq, (Nt.prod_sm hf hL n hn).2.more xq⟩
theorem prod_stB {u : World} {x : Sl} {K : Nat} {f : Int} {L : List PL} {i : Nat} {p : PL} (h : PolN u x (Nt.trimQ (Nt.mulQ (Nt.prodB f L i) (Nt.trimQ (Nt.secB f p)))) K) (hp : p = L.getD i pl0) (hf : f ≤ 24) (hL : ∀ p ∈ L, PasOK f p) (h4 : L.length ≤ 4) (hi : i < L.length) : PolN u x (Nt.prodB f L (i + 1)) 8 := by
 subst hp
 exact (PolN.fitS (show PolN u x (Nt.prodB f L (i + 1)) K from h) (Nt.prodS hf hL hi h4).1 (Nt.wD_208 hf xq)).more yq
theorem prod_stA {u : World} {x : Sl} {K : Nat} {f : Int} {L : List PL} {i : Nat} {p : PL} (h : PolN u x (Nt.trimQ (Nt.mulQ (Nt.prodA f L i) (Nt.trimQ (Nt.secA f p)))) K) (hp : p = L.getD i pl0) (hf : f ≤ 24) (hL : ∀ p ∈ L, PasOK f p) (h4 : L.length ≤ 4) (hi : i < L.length) : PolN u x (Nt.prodA f L (i + 1)) 8 := by
 subst hp
 exact (PolN.fitS (show PolN u x (Nt.prodA f L (i + 1)) K from h) (Nt.prodS hf hL hi h4).2 (Nt.wD_208 hf xq)).more yq
set_option maxHeartbeats 2000000 in
theorem k_product {u w : World} {W : WL} {x : Sl} {L : List PL} (d : Dat u w) (hx : PasV u x L) (hpx : ∀ p ∈ L, PasOK W.f p) (hnx : L.length ≤ 4) (hW : WdOK W) : Calls Tryz.prog 92 #[x.v, W.v] w (Post u w fun v u' => ∃ y z : Sl, v = .agg #[y.v, z.v] ∧ PolN u' y (Nt.prodB W.f L L.length) 8 ∧ PolN u' z (Nt.prodA W.f L L.length) 8) := by
 obtain ⟨hw1, hw2, hw3, hw4, hw5, hw6, hw7, hw8⟩ := id hW
 have hlx := hx.len
 refine zzm (args := [.slice x.a x.n x.c, .agg #[.int .i64 W.b, .int .i64 W.f, .int .i64 W.r, .int .i64 W.o]]) Tryz.func92 rfl Tryz.ntmps92 (rs := [.cell 4 31]) Tryz.results92 (le_b rfl) (le_b rfl) d ?_
 refine sq9 (zzk 3 ⟨24, W.cs⟩ (zzk 4 ⟨31, [.slice none 0 0, .slice none 0 0]⟩ (zzb (sq9 (zzg 9 61 [.int .i64 1] ?_)))))
 intro w11 u11 e11 d11
 have k16 := k_ratOf d11 (z := 1) xq xq
 with_reducible refine zPm k16 ?_
 rintro _ u14 g15 ⟨r12, rfl, h13⟩
 refine zxz 10 ⟨41, r12.cs⟩ 1 (fun b17 u18 e19 h20 => ?_)
 have hp21 : PolN u18 (⟨some ⟨b17, 0, none⟩, 1, 1⟩ : Sl) [((1 : Int) : Rat)] 2 := pol_lit (L := [r12]) h20 (rats1 (h13.ext e19)) rfl yq
 refine zzg 11 61 [.int .i64 1] ?_
 intro w22 u22 e22 d22
 have k27 := k_ratOf d22 (z := 1) xq xq
 with_reducible refine zPm k27 ?_
 rintro _ u25 g26 ⟨r23, rfl, h24⟩
 refine zxz 12 ⟨41, r23.cs⟩ 1 (fun b28 u29 e30 h31 => ?_)
 have hp32 : PolN u29 (⟨some ⟨b28, 0, none⟩, 1, 1⟩ : Sl) [((1 : Int) : Rat)] 2 := pol_lit (L := [r23]) h31 (rats1 (h24.ext e30)) rfl yq
 refine zza 13 (.v (.agg #[.slice (some ⟨b17, 0, none⟩) 1 1, .slice (some ⟨b28, 0, none⟩) 1 1])) (zzk 5 ⟨31, [.slice none 0 0, .slice none 0 0]⟩ (zzj ⟨31, [.slice (some ⟨b17, 0, none⟩) 1 1, .slice (some ⟨b28, 0, none⟩) 1 1]⟩ ty31 ?_))
 refine zzb (zzd (sq9 (zza 14 (.v x.v) (zza 15 (zI x.n) (zza 16 (zI 0) (zzb (zzt (zyn (I := fun m33 S' u' => ∃ (i : Nat) (y : Sl) (z : Sl), (m33 = L.length - i) ∧ (i ≤ L.length) ∧ (S' = St.of 36 [(3, .adr 3 0), (4, .adr 4 0), (5, .adr 5 0), (14, .v (.slice x.a x.n x.c)), (15, zI x.n), (16, zI i)] [(3, ⟨24, [.int .i64 W.b, .int .i64 W.f, .int .i64 W.r, .int .i64 W.o]⟩), (4, ⟨31, [.slice none 0 0, .slice none 0 0]⟩), (5, ⟨31, [.slice y.a y.n y.c, .slice z.a z.n z.c]⟩)]) ∧ (Ext u29 u') ∧ (PolN u' y (Nt.prodB W.f L i) 8) ∧ (PolN u' z (Nt.prodA W.f L i) 8)) (fun m S u1 u2 e h => by obtain ⟨i, y, z, hm, p0, hS, hE, f0, f1⟩ := h; exact ⟨i, y, z, hm, p0, hS, hE.trans e, f0.ext e, f1.ext e⟩) _ yz ⟨0, (⟨some ⟨b17, 0, none⟩, 1, 1⟩ : Sl), (⟨some ⟨b28, 0, none⟩, 1, 1⟩ : Sl), rfl, Nat.zero_le _, rfl, (Ext.refl _), (PolN.more (hp21.ext (e22.trans (g26.ext.trans e30))) yq), (PolN.more hp32 yq)⟩ ?_))))))))
 rintro m33 _ u33 ⟨i, y, z, hm33, hi, rfl, e33, hB, hA⟩
 have hlB : (Nt.prodB W.f L i).length ≤ 9 := by have h9 := (Nt.zwg W.f L i).1; omega
 have hlA : (Nt.prodA W.f L i).length ≤ 9 := by have h9 := (Nt.zwg W.f L i).2; omega
 have hyl := hB.len
 have hzl := hA.len
 refine sq9 (zza 17 (zB (decide ((i : Int) < (x.n : Int)))) (zzb (zzd (zzu (b := decide ((i : Int) < (x.n : Int))) xk (fun hb34 => ?_) (fun hb34 => ?_)))))
 ·replace hb34 : (decide ((i : Int) < (x.n : Int))) = true := hb34
  have qhb34 := of_decide_eq_true hb34
  refine zzs (zzp ?_)
  refine zzd (zzt (sq9 ?_))
  have hl35 := ((hx.ext (e11.trans (g15.ext.trans (e19.trans (e22.trans (g26.ext.trans (e30.trans e33)))))))).len
  obtain ⟨p35, b35, o35, hA35, hc35, hp35⟩ := pas_at ((hx.ext (e11.trans (g15.ext.trans (e19.trans (e22.trans (g26.ext.trans (e30.trans e33)))))))) (i := i) xq
  refine zya 18 (o35 + i * 3) (n := x.n) (off := o35) (sz := 3) (i := (i : Int)) xq hA35 xq xq sl55 (zym 19 p35.cs hc35 ty60 (zzk 7 ⟨60, [.int .i64 0, .int .i64 0, .int .i64 0]⟩ (zzj ⟨60, [.int .i64 p35.o, .int .i64 p35.g, .int .i64 p35.h]⟩ ty60 ?_)))
  refine zzb (zzd ?_)
  have hkp35 : PasOK W.f p35 := by rw [hp35]; exact hpx _ (by rw [List.getD_eq_getElem?_getD, List.getElem?_eq_getElem xq]; exact List.getElem_mem _)
  refine zzf (zzi 20 (.v (.agg #[.int .i64 p35.o, .int .i64 p35.g, .int .i64 p35.h])) ty60 zze (zzi 21 (.v (W.v)) ty24 zze (zzg 22 86 [.agg #[.int .i64 p35.o, .int .i64 p35.g, .int .i64 p35.h], W.v] ?_)))
  intro w36 u36 e36 d36
  have k43 := k_section (p := p35) (W := W) d36 hW hkp35
  with_reducible refine zPm k43 ?_
  rintro _ u41 g42 ⟨y37, y38, rfl, h39, h40⟩
  have hly37 := h39.len
  have hmy37 := Nat.le_trans (Nt.zzh (Nt.secB W.f p35)) (Nt.sec_len W.f p35).1
  have hly38 := h40.len
  have hmy38 := Nat.le_trans (Nt.zzh (Nt.secA W.f p35)) (Nt.sec_len W.f p35).2
  refine zzk 8 ⟨31, [.slice none 0 0, .slice none 0 0]⟩ (zzj ⟨31, [y37.v, y38.v]⟩ ty31 ?_)
  refine zzb (zzz [0, 1, 0, 4, 15, 0, 32, 0, 128, 511, 1023, 2047] [(0, []), (1, []), (2, []), (3, []), (5, []), (6, []), (7, []), (8, []), (4, []), (9, []), (10, []), (11, [])] xk xk (zza 23 (.adr 5 0) (zzi 24 (.v y.v) ty29 zzl (zza 25 (.adr 8 0) (zzi 26 (.v y37.v) ty29 zzl (zza 28 (.adr 5 1) (zzi 29 (.v z.v) ty29 zzl (zza 30 (.adr 8 1) (zzi 31 (.v y38.v) ty29 zzl (zzg 27 94 [y.v, y37.v] ?_))))))))))
  intro w44 u44 e44 d44
  have k49 := k_poMul d44 (hB.ext (e36.trans (g42.ext.trans e44))).raw (h39.ext e44).raw (Nat.le_trans (Nt.mlK_mono hlB hmy37 (Nat.le_refl _) (Nat.le_refl _)) (by decide +kernel)) (by have h9 := hlB; omega) (by have h9 := hmy37; omega) (by have h9 := hlB; omega) (by have h9 := hmy37; omega)
  with_reducible refine zPm k49 ?_
  rintro _ u47 g48 ⟨y45, rfl, h46⟩
  replace h46 := PolN.more h46 (Nat.le_trans (Nt.mlK_mono hlB hmy37 (Nat.le_refl _) (Nat.le_refl _)) (by decide +kernel : _ ≤ 3483))
  have hly45 := h46.len
  have hm50 : (Nt.trimQ (Nt.mulQ (Nt.prodB W.f L i) (Nt.trimQ (Nt.secB W.f p35)))).length ≤ 11 := Nt.zxv hlB hmy37
  have hk51 : PolN _ y45 (Nt.trimQ (Nt.mulQ (Nt.prodB W.f L i) (Nt.trimQ (Nt.secB W.f p35)))) 3483 := PolN.more h46 xq
  refine zzg 32 94 [z.v, y38.v] ?_
  intro w52 u52 e52 d52
  have k57 := k_poMul d52 (hA.ext (e36.trans (g42.ext.trans (e44.trans (g48.ext.trans e52))))).raw (h40.ext (e44.trans (g48.ext.trans e52))).raw (Nat.le_trans (Nt.mlK_mono hlA hmy38 (Nat.le_refl _) (Nat.le_refl _)) (by decide +kernel)) (by have h9 := hlA; omega) (by have h9 := hmy38; omega) (by have h9 := hlA; omega) (by have h9 := hmy38; omega)
  with_reducible refine zPm k57 ?_
  rintro _ u55 g56 ⟨y53, rfl, h54⟩
  replace h54 := PolN.more h54 (Nat.le_trans (Nt.mlK_mono hlA hmy38 (Nat.le_refl _) (Nat.le_refl _)) (by decide +kernel : _ ≤ 3483))
  have hly53 := h54.len
  have hm58 : (Nt.trimQ (Nt.mulQ (Nt.prodA W.f L i) (Nt.trimQ (Nt.secA W.f p35)))).length ≤ 11 := Nt.zxv hlA hmy38
  have hk59 : PolN _ y53 (Nt.trimQ (Nt.mulQ (Nt.prodA W.f L i) (Nt.trimQ (Nt.secA W.f p35)))) 3483 := PolN.more h54 xq
  refine zza 33 (.v (.agg #[y45.v, y53.v])) (zzj ⟨31, [y45.v, y53.v]⟩ ty31 ?_)
  refine zzx ?_
  refine zzp (zzf (zyq 34 (x := zI (IntKind.i64.wrap ((i : Int) + 1))) (zI (i + 1 : Nat)) (eqI xw) (zza 16 (zI (i + 1 : Nat)) (zzx ?_))))
  refine ⟨_, ?_, _, by exact zzv _ _ _, i + 1, y45, y53, rfl, by omega, rfl, (e33.trans (e36.trans (g42.ext.trans (e44.trans (g48.ext.trans (e52.trans g56.ext)))))), (prod_stB (hk51.ext (e52.trans g56.ext)) hp35 xq hpx hnx xq), (prod_stA hk59 hp35 xq hpx hnx xq)⟩
  omega
 ·replace hb34 : (decide ((i : Int) < (x.n : Int))) = false := hb34
  have qhb34 := of_decide_eq_false hb34
  refine zyc (zzp (sq9 (zzi 35 (.v (.agg #[y.v, z.v])) ty31 zze (zzj ⟨31, [y.v, z.v]⟩ ty31 ?_))))
  refine zzb (zzo (ret0 [.agg #[.slice y.a y.n y.c, .slice z.a z.n z.c]] ⟨zzr ty31 zze, trivial⟩ fun u60 e61 => ?_))
  have hi9 : i = L.length := by omega
  subst hi9
  exact ⟨y, z, rfl, (hB.ext e61), (hA.ext e61)⟩
set_option maxHeartbeats 2000000 in
theorem k_wIdeal {u w : World} {W : WL} {x y : Sl} {L M : List PL} (d : Dat u w) (hx : PasV u x L) (hpx : ∀ p ∈ L, PasOK W.f p) (hnx : L.length ≤ 4) (hy : PasV u y M) (hpy : ∀ p ∈ M, PasOK W.f p) (hny : M.length ≤ 4) (hW : WdOK W) (hf : 1 ≤ W.f) : Calls Tryz.prog 25 #[.agg #[x.v, y.v], W.v] w (Post u w fun v u' => ∃ y1 y2 y3 y4 : Sl, v = .tuple #[.agg #[y1.v, y2.v], .agg #[y3.v, y4.v], .int .i64 0] ∧ PolN u' y1 (Nt.trimQ ((Nt.trimQ (Nt.addQ (Nt.trimQ (Nt.mulQ (Nt.prodB W.f L L.length) (Nt.prodA W.f M M.length))) (Nt.trimQ (Nt.mulQ (Nt.prodB W.f M M.length) (Nt.prodA W.f L L.length))))).map (· * (((1 : Int) : Rat) / ((2 : Int) : Rat))))) 40 ∧ PolN u' y2 (Nt.trimQ (Nt.mulQ (Nt.prodA W.f L L.length) (Nt.prodA W.f M M.length))) 40 ∧ PolN u' y3 (Nt.trimQ ((Nt.trimQ (Nt.addQ (Nt.trimQ (Nt.mulQ (Nt.prodB W.f L L.length) (Nt.prodA W.f M M.length))) ((Nt.trimQ (Nt.mulQ (Nt.prodB W.f M M.length) (Nt.prodA W.f L L.length))).map (fun z => -z)))).map (· * (((1 : Int) : Rat) / ((2 : Int) : Rat))))) 40 ∧ PolN u' y4 (Nt.trimQ (Nt.mulQ (Nt.prodA W.f L L.length) (Nt.prodA W.f M M.length))) 40) := by
 obtain ⟨hw1, hw2, hw3, hw4, hw5, hw6, hw7, hw8⟩ := id hW
 have hlx := hx.len
 have hly := hy.len
 refine zzm (args := [.agg #[.slice x.a x.n x.c, .slice y.a y.n y.c], .agg #[.int .i64 W.b, .int .i64 W.f, .int .i64 W.r, .int .i64 W.o]]) Tryz.func25 rfl Tryz.ntmps25 (rs := [.cell 4 31, .cell 5 31, .tmp 6]) Tryz.results25 (le_b rfl) (le_b rfl) d ?_
 refine sq9 (zzk 2 ⟨57, [x.v, y.v]⟩ (zzk 3 ⟨24, W.cs⟩ (zzk 4 ⟨31, [.slice none 0 0, .slice none 0 0]⟩ (zzk 5 ⟨31, [.slice none 0 0, .slice none 0 0]⟩ (zza 6 (zI 0) (zzb (zzd (sq9 (zzi 14 (.v (.agg #[x.v, y.v])) ty57 zze (zzi 15 (.v (W.v)) ty24 zze (zzg 16 29 [.agg #[x.v, y.v], W.v] ?_)))))))))))
 intro w11 u11 e11 d11
 have k14 := k_wvValid (W := W) d11 (hx.ext e11) hpx hnx (hy.ext e11) hpy hny hW hf
 with_reducible refine zPm k14 ?_
 rintro _ u12 g13 rfl
 refine zza 17 (zB false) (zzb (zys xk (zzs (zzp ?_))))
 refine sq9 (zzk 7 ⟨129, [.slice none 0 0, .slice none 0 0, .slice none 0 0, .slice none 0 0]⟩ (zzb (zzd (sq9 (zza 20 (zI 0) (zzb (zzt (sw_rounds 2 ?_))))))))
 refine sq9 (zza 21 (zB true) (zzb (zzd (zyr xk (zzs (zzp ?_))))))
 refine zzd (zzt (sq9 (zza 22 (zI 0) (zza 8 (zI 0) (zzb (zzz [0, 0, 0, 6, 0, 30, 63, 127] [(0, []), (1, []), (2, []), (4, []), (3, []), (5, []), (6, []), (7, [])] xk xk (zza 23 (zI 0) (zzi 24 (.v (.agg #[x.v, y.v])) ty57 zze (zza 25 (zI 0) (zzi 27 (.v (W.v)) ty24 zze (zzg 26 93 [.agg #[x.v, y.v], .int .i64 0] ?_)))))))))))
 intro w15 u15 e15 d15
 have k18 := k_branch0 (x := x) (y := y) d15
 with_reducible refine zPm k18 ?_
 rintro _ u16 g17 rfl
 refine zzg 28 92 [x.v, W.v] ?_
 intro w19 u19 e19 d19
 have k26 := k_product (W := W) d19 (hx.ext (e11.trans (g13.ext.trans (e15.trans (g17.ext.trans e19))))) hpx hnx hW
 with_reducible refine zPm k26 ?_
 rintro _ u24 g25 ⟨y20, y21, rfl, h22, h23⟩
 have hly20 := h22.len
 have hm27 : (Nt.prodB W.f L L.length).length ≤ 9 := by have h9 := (Nt.zwg W.f L L.length).1; omega
 have hs28 := (Nt.prodS (f := W.f) xq hpx (Nat.le_refl _) hnx).1
 have hly21 := h23.len
 have hm29 : (Nt.prodA W.f L L.length).length ≤ 9 := by have h9 := (Nt.zwg W.f L L.length).2; omega
 have hs30 := (Nt.prodS (f := W.f) xq hpx (Nat.le_refl _) hnx).2
 refine zza 29 (.adr 7 0) (zzj ⟨129, [y20.v, y21.v, .slice none 0 0, .slice none 0 0]⟩ ty31 ?_)
 refine zzx ?_
 refine zzp (zzf (zza 30 (zI 1) (zza 20 (zI 1) (zzx ?_))))
 refine rn_next ?_
 refine sw_weak (T := St.of 74 [(2, .adr 2 0), (3, .adr 3 0), (4, .adr 4 0), (5, .adr 5 0), (7, .adr 7 0), (20, zI 1)] [(2, ⟨57, [.slice x.a x.n x.c, .slice y.a y.n y.c]⟩), (3, ⟨24, [.int .i64 W.b, .int .i64 W.f, .int .i64 W.r, .int .i64 W.o]⟩), (4, ⟨31, [.slice none 0 0, .slice none 0 0]⟩), (5, ⟨31, [.slice none 0 0, .slice none 0 0]⟩), (7, ⟨129, [.slice y20.a y20.n y20.c, .slice y21.a y21.n y21.c, .slice none 0 0, .slice none 0 0]⟩)]) yz ?_
 refine sq9 (zza 21 (zB true) (zzb (zzd (zyr xk (zzs (zzp ?_))))))
 refine zzd (zzt (sq9 (zza 22 (zI 1) (zza 8 (zI 1) (zzb (zzz [0, 0, 0, 6, 0, 30, 63, 127] [(0, []), (1, []), (2, []), (4, []), (3, []), (5, []), (6, []), (7, [])] xk xk (zza 23 (zI 1) (zzi 24 (.v (.agg #[x.v, y.v])) ty57 zze (zza 25 (zI 1) (zzi 27 (.v (W.v)) ty24 zze (zzg 26 93 [.agg #[x.v, y.v], .int .i64 1] ?_)))))))))))
 intro w31 u31 e31 d31
 have k34 := k_branch1 (x := x) (y := y) d31
 with_reducible refine zPm k34 ?_
 rintro _ u32 g33 rfl
 refine zzg 28 92 [y.v, W.v] ?_
 intro w35 u35 e35 d35
 have k42 := k_product (W := W) d35 (hy.ext (e11.trans (g13.ext.trans (e15.trans (g17.ext.trans (e19.trans (g25.ext.trans (e31.trans (g33.ext.trans e35))))))))) hpy hny hW
 with_reducible refine zPm k42 ?_
 rintro _ u40 g41 ⟨y36, y37, rfl, h38, h39⟩
 have hly36 := h38.len
 have hm43 : (Nt.prodB W.f M M.length).length ≤ 9 := by have h9 := (Nt.zwg W.f M M.length).1; omega
 have hs44 := (Nt.prodS (f := W.f) xq hpy (Nat.le_refl _) hny).1
 have hly37 := h39.len
 have hm45 : (Nt.prodA W.f M M.length).length ≤ 9 := by have h9 := (Nt.zwg W.f M M.length).2; omega
 have hs46 := (Nt.prodS (f := W.f) xq hpy (Nat.le_refl _) hny).2
 refine zza 29 (.adr 7 2) (zzj ⟨129, [y20.v, y21.v, y36.v, y37.v]⟩ ty31 ?_)
 refine zzx ?_
 refine zzp (zzf (zza 30 (zI 2) (zza 20 (zI 2) (zzx ?_))))
 refine rn_next ?_
 refine sw_weak (T := St.of 74 [(2, .adr 2 0), (3, .adr 3 0), (4, .adr 4 0), (5, .adr 5 0), (7, .adr 7 0), (20, zI 2)] [(2, ⟨57, [.slice x.a x.n x.c, .slice y.a y.n y.c]⟩), (3, ⟨24, [.int .i64 W.b, .int .i64 W.f, .int .i64 W.r, .int .i64 W.o]⟩), (4, ⟨31, [.slice none 0 0, .slice none 0 0]⟩), (5, ⟨31, [.slice none 0 0, .slice none 0 0]⟩), (7, ⟨129, [.slice y20.a y20.n y20.c, .slice y21.a y21.n y21.c, .slice y36.a y36.n y36.c, .slice y37.a y37.n y37.c]⟩)]) yz ?_
 refine sq9 (zza 21 (zB false) (zzb (zzd (zys xk (zyc (zzp (sq9 (zza 31 (.adr 7 0) (zza 32 (.adr 7 0) (zzi 33 (.v y20.v) ty29 zzl (zza 34 (.adr 7 2) ?_)))))))))))
 refine zza 35 (.adr 7 3) (zzi 36 (.v y37.v) ty29 zzl (zzg 37 94 [y20.v, y37.v] ?_))
 intro w47 u47 e47 d47
 have k52 := k_poMul d47 (h22.ext (e31.trans (g33.ext.trans (e35.trans (g41.ext.trans e47))))).raw (h39.ext e47).raw (Nat.le_trans (Nt.mlK_mono hm27 hm45 (Nat.le_refl _) (Nat.le_refl _)) (by decide +kernel)) (by have h9 := hm27; omega) (by have h9 := hm45; omega) (by have h9 := hm27; omega) (by have h9 := hm45; omega)
 with_reducible refine zPm k52 ?_
 rintro _ u50 g51 ⟨y48, rfl, h49⟩
 have hly48 := h49.len
 have hm53 : (Nt.trimQ (Nt.mulQ (Nt.prodB W.f L L.length) (Nt.prodA W.f M M.length))).length ≤ 17 := Nt.zxv hm27 hm45
 have hs54 : Nt.Sm (Nt.trimQ (Nt.mulQ (Nt.prodB W.f L L.length) (Nt.prodA W.f M M.length))) (Nt.wD W.f ^ L.length * Nt.wD W.f ^ M.length) 425 := ((Nt.Sm.mulR hs28 hs46).trim.more xq)
 have hk55 : PolN _ y48 (Nt.trimQ (Nt.mulQ (Nt.prodB W.f L L.length) (Nt.prodA W.f M M.length))) 14 := PolN.fit26 h49 hs54 (by exact ⟨by omega, by omega, by omega, by decide⟩)
 refine zza 9 (.v y48.v) (zzb (sq9 (zza 38 (.adr 7 2) (zza 39 (.adr 7 2) (zzi 40 (.v y36.v) ty29 zzl (zza 41 (.adr 7 0) (zza 42 (.adr 7 1) (zzi 43 (.v y21.v) ty29 zzl (zzg 44 94 [y36.v, y21.v] ?_)))))))))
 intro w56 u56 e56 d56
 have k61 := k_poMul d56 (h38.ext (e47.trans (g51.ext.trans e56))).raw (h23.ext (e31.trans (g33.ext.trans (e35.trans (g41.ext.trans (e47.trans (g51.ext.trans e56))))))).raw (Nat.le_trans (Nt.mlK_mono hm43 hm29 (Nat.le_refl _) (Nat.le_refl _)) (by decide +kernel)) (by have h9 := hm43; omega) (by have h9 := hm29; omega) (by have h9 := hm43; omega) (by have h9 := hm29; omega)
 with_reducible refine zPm k61 ?_
 rintro _ u59 g60 ⟨y57, rfl, h58⟩
 have hly57 := h58.len
 have hm62 : (Nt.trimQ (Nt.mulQ (Nt.prodB W.f M M.length) (Nt.prodA W.f L L.length))).length ≤ 17 := Nt.zxv hm43 hm29
 have hs63 : Nt.Sm (Nt.trimQ (Nt.mulQ (Nt.prodB W.f M M.length) (Nt.prodA W.f L L.length))) (Nt.wD W.f ^ M.length * Nt.wD W.f ^ L.length) 425 := ((Nt.Sm.mulR hs44 hs30).trim.more xq)
 have hk64 : PolN _ y57 (Nt.trimQ (Nt.mulQ (Nt.prodB W.f M M.length) (Nt.prodA W.f L L.length))) 14 := PolN.fit26 h58 hs63 (by exact ⟨by omega, by omega, by omega, by decide⟩)
 refine zza 10 (.v y57.v) (zzc 74 [(4, .adr 4 0), (5, .adr 5 0), (7, .adr 7 0), (9, .v y48.v), (10, .v y57.v)] [(4, ⟨31, [.slice none 0 0, .slice none 0 0]⟩), (5, ⟨31, [.slice none 0 0, .slice none 0 0]⟩), (7, ⟨129, [y20.v, y21.v, y36.v, y37.v]⟩)] (sq9 (zzg 45 95 [.int .i64 1, .int .i64 2] ?_)))
 intro w65 u65 e65 d65
 have k70 := k_ratFrac d65 (a := 1) (b := 2) xq xq xq xq
 with_reducible refine zPm k70 ?_
 rintro _ u68 g69 ⟨r66, rfl, h67⟩
 refine zzk 11 ⟨41, [.bool false, .slice none 0 0, .slice none 0 0]⟩ (zzj ⟨41, r66.cs⟩ ty41 ?_)
 refine zzb (zzd (zzz [0, 0, 3, 0, 15, 0, 32, 96, 0, 256, 768, 2047, 4095, 0, 16383] [(0, []), (1, []), (3, []), (5, []), (6, []), (7, []), (8, []), (9, []), (10, []), (13, []), (2, []), (4, []), (11, []), (12, []), (14, [])] xk xk (zza 46 (.v y48.v) (zza 47 (.v y57.v) (zzi 49 (.v (r66.v)) ty41 zze (zza 51 (.adr 7 0) (zza 52 (.adr 7 1) (zzi 53 (.v y21.v) ty29 zzl (zza 54 (.adr 7 2) (zza 55 (.adr 7 3) (zzi 56 (.v y37.v) ty29 zzl ?_)))))))))))
 refine zzk 12 ⟨31, [.slice none 0 0, .slice none 0 0]⟩ (zzg 48 49 [y48.v, y57.v] ?_)
 intro w71 u71 e71 d71
 have k76 := k_poAdd d71 (hk55.ext (e56.trans (g60.ext.trans (e65.trans (g69.ext.trans e71))))).raw (hk64.ext (e65.trans (g69.ext.trans e71))).raw xq xq (by have h9 := hm53; omega) (by have h9 := hm62; omega)
 with_reducible refine zPm k76 ?_
 rintro _ u74 g75 ⟨y72, rfl, h73⟩
 have hly72 := h73.len
 have hm77 : (Nt.trimQ (Nt.addQ (Nt.trimQ (Nt.mulQ (Nt.prodB W.f L L.length) (Nt.prodA W.f M M.length))) (Nt.trimQ (Nt.mulQ (Nt.prodB W.f M M.length) (Nt.prodA W.f L L.length))))).length ≤ 17 := Nt.add_lenQ hm53 hm62
 have hk78 : PolN _ y72 (Nt.trimQ (Nt.addQ (Nt.trimQ (Nt.mulQ (Nt.prodB W.f L L.length) (Nt.prodA W.f M M.length))) (Nt.trimQ (Nt.mulQ (Nt.prodB W.f M M.length) (Nt.prodA W.f L L.length))))) 29 := PolN.more h73 xq
 refine zzg 50 50 [y72.v, r66.v] ?_
 intro w79 u79 e79 d79
 have k84 := k_poScale d79 (hk78.ext e79).raw (h67.ext (e71.trans (g75.ext.trans e79))).raw xq (by have h9 := hm77; omega) xq
 with_reducible refine zPm k84 ?_
 rintro _ u82 g83 ⟨y80, rfl, h81⟩
 have hly80 := h81.len
 have hm85 : (Nt.trimQ ((Nt.trimQ (Nt.addQ (Nt.trimQ (Nt.mulQ (Nt.prodB W.f L L.length) (Nt.prodA W.f M M.length))) (Nt.trimQ (Nt.mulQ (Nt.prodB W.f M M.length) (Nt.prodA W.f L L.length))))).map (· * (((1 : Int) : Rat) / ((2 : Int) : Rat))))).length ≤ 17 := Nt.map_lenQ hm77
 have hk86 : PolN _ y80 (Nt.trimQ ((Nt.trimQ (Nt.addQ (Nt.trimQ (Nt.mulQ (Nt.prodB W.f L L.length) (Nt.prodA W.f M M.length))) (Nt.trimQ (Nt.mulQ (Nt.prodB W.f M M.length) (Nt.prodA W.f L L.length))))).map (· * (((1 : Int) : Rat) / ((2 : Int) : Rat))))) 31 := PolN.more h81 xq
 refine zzg 57 94 [y21.v, y37.v] ?_
 intro w87 u87 e87 d87
 have k92 := k_poMul d87 (h23.ext (e31.trans (g33.ext.trans (e35.trans (g41.ext.trans (e47.trans (g51.ext.trans (e56.trans (g60.ext.trans (e65.trans (g69.ext.trans (e71.trans (g75.ext.trans (e79.trans (g83.ext.trans e87))))))))))))))).raw (h39.ext (e47.trans (g51.ext.trans (e56.trans (g60.ext.trans (e65.trans (g69.ext.trans (e71.trans (g75.ext.trans (e79.trans (g83.ext.trans e87))))))))))).raw (Nat.le_trans (Nt.mlK_mono hm29 hm45 (Nat.le_refl _) (Nat.le_refl _)) (by decide +kernel)) (by have h9 := hm29; omega) (by have h9 := hm45; omega) (by have h9 := hm29; omega) (by have h9 := hm45; omega)
 with_reducible refine zPm k92 ?_
 rintro _ u90 g91 ⟨y88, rfl, h89⟩
 have hly88 := h89.len
 have hm93 : (Nt.trimQ (Nt.mulQ (Nt.prodA W.f L L.length) (Nt.prodA W.f M M.length))).length ≤ 17 := Nt.zxv hm29 hm45
 have hs94 : Nt.Sm (Nt.trimQ (Nt.mulQ (Nt.prodA W.f L L.length) (Nt.prodA W.f M M.length))) (Nt.wD W.f ^ L.length * Nt.wD W.f ^ M.length) 425 := ((Nt.Sm.mulR hs30 hs46).trim.more xq)
 have hk95 : PolN _ y88 (Nt.trimQ (Nt.mulQ (Nt.prodA W.f L L.length) (Nt.prodA W.f M M.length))) 14 := PolN.fit26 h89 hs94 (by exact ⟨by omega, by omega, by omega, by decide⟩)
 refine zza 58 (.v (.agg #[y80.v, y88.v])) (zzj ⟨31, [y80.v, y88.v]⟩ ty31 ?_)
 refine zzb (zzd (zzz [0, 0, 3, 0, 15, 0, 32, 96, 0, 256, 768, 2047, 4095, 0, 16383] [(0, []), (1, []), (3, []), (5, []), (6, []), (7, []), (8, []), (9, []), (10, []), (13, []), (2, []), (4, []), (11, []), (12, []), (14, [])] xk xk (zza 59 (.v y48.v) (zza 60 (.v y57.v) (zzi 62 (.v (r66.v)) ty41 zze (zza 64 (.adr 7 0) (zza 65 (.adr 7 1) (zzi 66 (.v y21.v) ty29 zzl (zza 67 (.adr 7 2) (zza 68 (.adr 7 3) (zzi 69 (.v y37.v) ty29 zzl ?_)))))))))))
 refine zzk 13 ⟨31, [.slice none 0 0, .slice none 0 0]⟩ (zzg 61 96 [y48.v, y57.v] ?_)
 intro w96 u96 e96 d96
 have k101 := k_poSub d96 (hk55.ext (e56.trans (g60.ext.trans (e65.trans (g69.ext.trans (e71.trans (g75.ext.trans (e79.trans (g83.ext.trans (e87.trans (g91.ext.trans e96))))))))))).raw (hk64.ext (e65.trans (g69.ext.trans (e71.trans (g75.ext.trans (e79.trans (g83.ext.trans (e87.trans (g91.ext.trans e96))))))))).raw xq xq (by have h9 := hm53; omega) (by have h9 := hm62; omega)
 with_reducible refine zPm k101 ?_
 rintro _ u99 g100 ⟨y97, rfl, h98⟩
 have hly97 := h98.len
 have hm102 : (Nt.trimQ (Nt.addQ (Nt.trimQ (Nt.mulQ (Nt.prodB W.f L L.length) (Nt.prodA W.f M M.length))) ((Nt.trimQ (Nt.mulQ (Nt.prodB W.f M M.length) (Nt.prodA W.f L L.length))).map (fun z => -z)))).length ≤ 17 := Nt.add_lenQ hm53 (show ((Nt.trimQ (Nt.mulQ (Nt.prodB W.f M M.length) (Nt.prodA W.f L L.length))).map (fun z => -z)).length ≤ 17 by rw [List.length_map]; exact hm62)
 have hk103 : PolN _ y97 (Nt.trimQ (Nt.addQ (Nt.trimQ (Nt.mulQ (Nt.prodB W.f L L.length) (Nt.prodA W.f M M.length))) ((Nt.trimQ (Nt.mulQ (Nt.prodB W.f M M.length) (Nt.prodA W.f L L.length))).map (fun z => -z)))) 29 := PolN.more h98 xq
 refine zzg 63 50 [y97.v, r66.v] ?_
 intro w104 u104 e104 d104
 have k109 := k_poScale d104 (hk103.ext e104).raw (h67.ext (e71.trans (g75.ext.trans (e79.trans (g83.ext.trans (e87.trans (g91.ext.trans (e96.trans (g100.ext.trans e104))))))))).raw xq (by have h9 := hm102; omega) xq
 with_reducible refine zPm k109 ?_
 rintro _ u107 g108 ⟨y105, rfl, h106⟩
 have hly105 := h106.len
 have hm110 : (Nt.trimQ ((Nt.trimQ (Nt.addQ (Nt.trimQ (Nt.mulQ (Nt.prodB W.f L L.length) (Nt.prodA W.f M M.length))) ((Nt.trimQ (Nt.mulQ (Nt.prodB W.f M M.length) (Nt.prodA W.f L L.length))).map (fun z => -z)))).map (· * (((1 : Int) : Rat) / ((2 : Int) : Rat))))).length ≤ 17 := Nt.map_lenQ hm102
 have hk111 : PolN _ y105 (Nt.trimQ ((Nt.trimQ (Nt.addQ (Nt.trimQ (Nt.mulQ (Nt.prodB W.f L L.length) (Nt.prodA W.f M M.length))) ((Nt.trimQ (Nt.mulQ (Nt.prodB W.f M M.length) (Nt.prodA W.f L L.length))).map (fun z => -z)))).map (· * (((1 : Int) : Rat) / ((2 : Int) : Rat))))) 31 := PolN.more h106 xq
 refine zzg 70 94 [y21.v, y37.v] ?_
 intro w112 u112 e112 d112
 have k117 := k_poMul d112 (h23.ext (e31.trans (g33.ext.trans (e35.trans (g41.ext.trans (e47.trans (g51.ext.trans (e56.trans (g60.ext.trans (e65.trans (g69.ext.trans (e71.trans (g75.ext.trans (e79.trans (g83.ext.trans (e87.trans (g91.ext.trans (e96.trans (g100.ext.trans (e104.trans (g108.ext.trans e112))))))))))))))))))))).raw (h39.ext (e47.trans (g51.ext.trans (e56.trans (g60.ext.trans (e65.trans (g69.ext.trans (e71.trans (g75.ext.trans (e79.trans (g83.ext.trans (e87.trans (g91.ext.trans (e96.trans (g100.ext.trans (e104.trans (g108.ext.trans e112))))))))))))))))).raw (Nat.le_trans (Nt.mlK_mono hm29 hm45 (Nat.le_refl _) (Nat.le_refl _)) (by decide +kernel)) (by have h9 := hm29; omega) (by have h9 := hm45; omega) (by have h9 := hm29; omega) (by have h9 := hm45; omega)
 with_reducible refine zPm k117 ?_
 rintro _ u115 g116 ⟨y113, rfl, h114⟩
 have hly113 := h114.len
 have hm118 : (Nt.trimQ (Nt.mulQ (Nt.prodA W.f L L.length) (Nt.prodA W.f M M.length))).length ≤ 17 := Nt.zxv hm29 hm45
 have hs119 : Nt.Sm (Nt.trimQ (Nt.mulQ (Nt.prodA W.f L L.length) (Nt.prodA W.f M M.length))) (Nt.wD W.f ^ L.length * Nt.wD W.f ^ M.length) 425 := ((Nt.Sm.mulR hs30 hs46).trim.more xq)
 have hk120 : PolN _ y113 (Nt.trimQ (Nt.mulQ (Nt.prodA W.f L L.length) (Nt.prodA W.f M M.length))) 14 := PolN.fit26 h114 hs119 (by exact ⟨by omega, by omega, by omega, by decide⟩)
 refine zza 71 (.v (.agg #[y105.v, y113.v])) (zzj ⟨31, [y105.v, y113.v]⟩ ty31 ?_)
 refine zzc 74 [(4, .adr 4 0), (5, .adr 5 0), (12, .adr 12 0), (13, .adr 13 0)] [(4, ⟨31, [.slice none 0 0, .slice none 0 0]⟩), (5, ⟨31, [.slice none 0 0, .slice none 0 0]⟩), (12, ⟨31, [y80.v, y88.v]⟩), (13, ⟨31, [y105.v, y113.v]⟩)] (zzd (zzz [0, 0, 1, 7, 15] [(0, []), (1, []), (2, [13]), (3, []), (4, [])] xk xk (zzi 72 (.v (.agg #[y80.v, y88.v])) ty31 zze (zzi 73 (.v (.agg #[y105.v, y113.v])) ty31 zze (zzj ⟨31, [y80.v, y88.v]⟩ ty31 ?_)))))
 refine zzj ⟨31, [y105.v, y113.v]⟩ ty31 ?_
 refine zza 6 (zI 0) (zzb (zzo (ret0 [.agg #[.slice y80.a y80.n y80.c, .slice y88.a y88.n y88.c], .agg #[.slice y105.a y105.n y105.c, .slice y113.a y113.n y113.c], .int .i64 0] ⟨zzr ty31 zze, zzr ty31 zze, zzq, trivial⟩ fun u121 e122 => ?_)))
 exact ⟨y80, y88, y105, y113, rfl, PolN.more (K := 31) (hk86.ext (e87.trans (g91.ext.trans (e96.trans (g100.ext.trans (e104.trans (g108.ext.trans (e112.trans (g116.ext.trans e122))))))))) yq, PolN.more (K := 14) (hk95.ext (e96.trans (g100.ext.trans (e104.trans (g108.ext.trans (e112.trans (g116.ext.trans e122))))))) yq, PolN.more (K := 31) (hk111.ext (e112.trans (g116.ext.trans e122))) yq, PolN.more (K := 14) (hk120.ext e122) yq⟩
theorem k_wAllPass {u w : World} {W : WL} {p : PL} (d : Dat u w) (hW : WdOK W) (hf : 1 ≤ W.f) (hp : PasOK W.f p) : Calls Tryz.prog 23 #[p.v, W.v] w (Post u w fun v u' => ∃ y z : Sl, v = .tuple #[.agg #[y.v, z.v], .int .i64 0] ∧ PolN u' y (Nt.trimQ (Nt.secB W.f p)) 10 ∧ PolN u' z (Nt.trimQ (Nt.secA W.f p)) 10) := by
 obtain ⟨hw1, hw2, hw3, hw4, hw5, hw6, hw7, hw8⟩ := id hW
 refine zzm (args := [.agg #[.int .i64 p.o, .int .i64 p.g, .int .i64 p.h], .agg #[.int .i64 W.b, .int .i64 W.f, .int .i64 W.r, .int .i64 W.o]]) Tryz.func23 rfl Tryz.ntmps23 (rs := [.cell 4 31, .tmp 5]) Tryz.results23 (le_b rfl) (le_b rfl) d ?_
 refine sq9 (zzk 2 ⟨60, [.int .i64 p.o, .int .i64 p.g, .int .i64 p.h]⟩ (zzk 3 ⟨24, W.cs⟩ (zzk 4 ⟨31, [.slice none 0 0, .slice none 0 0]⟩ (zza 5 (zI 0) (zzb (zzd (sq9 (zzi 6 (.v (W.v)) ty24 zze (zzg 7 84 [W.v] ?_)))))))))
 intro w11 u11 e11 d11
 have k14 := k_suitable (W := W) d11 hW hf
 with_reducible refine zPm k14 ?_
 rintro _ u12 g13 rfl
 refine zza 8 (zB false) (zzb (zys xk (zzs (zzp ?_))))
 refine zzd (sq9 (zzi 10 (.v (.agg #[.int .i64 p.o, .int .i64 p.g, .int .i64 p.h])) ty60 zze (zzi 11 (.v (W.v)) ty24 zze (zzg 12 85 [.agg #[.int .i64 p.o, .int .i64 p.g, .int .i64 p.h], W.v] ?_))))
 intro w15 u15 e15 d15
 have k18 := k_permitted (p := p) (W := W) d15 hW hp
 with_reducible refine zPm k18 ?_
 rintro _ u16 g17 rfl
 refine zza 13 (zB false) (zzb (zys xk (zzs (zzp ?_))))
 refine sq9 (zzi 15 (.v (.agg #[.int .i64 p.o, .int .i64 p.g, .int .i64 p.h])) ty60 zze (zzi 16 (.v (W.v)) ty24 zze (zzg 17 86 [.agg #[.int .i64 p.o, .int .i64 p.g, .int .i64 p.h], W.v] ?_)))
 intro w19 u19 e19 d19
 have k26 := k_section (p := p) (W := W) d19 hW hp
 with_reducible refine zPm k26 ?_
 rintro _ u24 g25 ⟨y20, y21, rfl, h22, h23⟩
 have hly20 := h22.len
 have hmy20 := Nat.le_trans (Nt.zzh (Nt.secB W.f p)) (Nt.sec_len W.f p).1
 have hly21 := h23.len
 have hmy21 := Nat.le_trans (Nt.zzh (Nt.secA W.f p)) (Nt.sec_len W.f p).2
 refine zzj ⟨31, [y20.v, y21.v]⟩ ty31 ?_
 refine zza 5 (zI 0) (zzb (zzo (ret0 [.agg #[.slice y20.a y20.n y20.c, .slice y21.a y21.n y21.c], .int .i64 0] ⟨zzr ty31 zze, zzq, trivial⟩ fun u27 e28 => ?_)))
 exact ⟨y20, y21, rfl, (h22.ext e28), (h23.ext e28)⟩
namespace Nt
end Nt
namespace Nt
def smallQ (q : Rat) : Bool := decide (absQ q < ((1 : Int) : Rat))
end Nt
namespace Nt
def divS (l : List Rat) (q : Rat) : List Rat := l.map (· / q)
def dnS (l : List Rat) (m : Nat) : List Rat := (List.range m).map fun j => (l.getD j 0 - l.getD m 0 * l.getD (m - j) 0) / (((1 : Int) : Rat) - l.getD m 0 * l.getD m 0)
structure Down (l : List Rat) (D : Nat → List Rat) (n S : Nat) : Prop where
 len : l.length = n + 1
 nz : l.getD 0 0 ≠ 0
 top : D n = divS l (l.getD 0 0)
 dlen : ∀ m, m ≤ n → (D m).length = m + 1
 step : ∀ m, m < n → D m = dnS (D (m + 1)) (m + 1)
 small : ∀ m, 1 ≤ m → m ≤ n → smallQ ((D m).getD m 0) = true
 sm : ∀ m, m ≤ n → ∃ E A, Sm (D m) E A ∧ E ≤ 2 ^ A ∧ dg A ≤ S
end Nt
theorem Nt.Down.fit {l : List Rat} {D : Nat → List Rat} {n S m K : Nat} {u : World} {x : Sl} (h : Nt.Down l D n S) (hm : m ≤ n) (hx : PolN u x (D m) K) : PolN u x (D m) S := by
 obtain ⟨E, A, h1, h2, h3⟩ := h.sm m hm
 exact (hx.fitS h1 h2).more h3
namespace Nt
end Nt
namespace Nt
end Nt
namespace Nt
end Nt
def RatsTop (u : World) (L : List RL) (l : List Rat) (s K : Nat) : Prop := ∀ j, s ≤ j → j < l.length → RatN u (L.getD j rl0) (l.getD j 0) K
theorem RatsTop.ext {u u' : World} {L : List RL} {l : List Rat} {s K : Nat} (h : RatsTop u L l s K) (e : Ext u u') : RatsTop u' L l s K := fun j h1 h2 => (h j h1 h2).ext e
theorem RatsTop.set {u : World} {L : List RL} {l : List Rat} {s s2 s3 K : Nat} {r : RL} (h : RatsTop u L l s2 K) (hs : s2 = s + 1) (hs3 : s3 = s) (hl : s < L.length) (hr : RatN u r (l.getD s 0) K) : RatsTop u (L.set s r) l s3 K := fun j h1 h2 => by
 subst hs3
 by_cases e : j = s3
 ·subst e; rw [rl_set_same hl]; exact hr
 ·have h9 := h j xq h2
  rw [List.getD_eq_getElem?_getD, List.getElem?_set_ne xq, ← List.getD_eq_getElem?_getD]
  exact h9
theorem RatsTop.none {u : World} {L : List RL} {l : List Rat} {s K : Nat} (h : l.length ≤ s) : RatsTop u L l s K := fun j h1 h2 => by omega
theorem RatsTop.done {u : World} {L : List RL} {l : List Rat} {s K : Nat} (h : RatsTop u L l s K) (hs : s = 0) (hL : L.length = l.length) : RatsN u L l K := ⟨hL, fun i hi => by
 first
 | exact h i xq hi
 | exact h i xq xq⟩
namespace Nt
end Nt
namespace Nt
end Nt
namespace Nt
end Nt
theorem k_in {u w : World} {z a b : Int} (d : Dat u w) : Calls Tryz.prog 118 #[.int .i64 z, .int .i64 a, .int .i64 b] w (Post u w fun v _ => v = .bool (decide (a ≤ z) && decide (z ≤ b))) := by
 refine zzm (args := [.int .i64 z, .int .i64 a, .int .i64 b]) Tryz.func118 rfl Tryz.ntmps118 (rs := [.tmp 6]) Tryz.results118 (le_b rfl) (le_b rfl) d ?_
 refine sq9 (zza 6 (zB false) (zzb (sq9 (zza 7 (zI z) (zza 8 (zI a) (zza 9 (zB (decide (a ≤ z))) ?_))))))
 rcases Bool.eq_false_or_eq_true (decide (a ≤ z)) with hs11 | hs11
 ·refine zyq 10 (x := zB (decide (a ≤ z))) (zB true) (by rw [hs11]) ?_
  have qhs11 := of_decide_eq_true hs11
  refine zza 11 (zI z) ?_ (hw := w1 3 true 10)
  refine zza 12 (zI b) ?_ (hw := w1 3 true 10)
  refine zza 13 (zB (decide (z ≤ b))) ?_ (hw := w1 3 true 10)
  refine zza 14 (zB (decide (z ≤ b))) (zza 6 (zB (decide (z ≤ b))) (zzb (zzo (ret0 [.bool (decide (z ≤ b))] ⟨zzq, trivial⟩ fun u12 e13 => ?_))))
  show Value.bool _ = Value.bool _
  rw [hs11]
  rfl
 ·refine zyq 10 (x := zB (decide (a ≤ z))) (zB false) (by rw [hs11]) ?_
  have qhs11 := of_decide_eq_false hs11
  refine zzn 11 (uw 3 true false 10) (zzn 12 (uw 3 true false 10) (zzn 13 (uw 3 true false 10) (zza 14 (zB false) (zza 6 (zB false) (zzb (zzo (ret0 [.bool false] ⟨zzq, trivial⟩ fun u14 e15 => ?_)))))))
  show Value.bool _ = Value.bool _
  rw [hs11]
  rfl
theorem k_r21Valid {u w : World} {W : WL} (d : Dat u w) (hW : WdOK W) : Calls Tryz.prog 68 #[W.v] w (Post u w fun v _ => v = .bool true) := by
 obtain ⟨hw1, hw2, hw3, hw4, hw5, hw6, hw7, hw8⟩ := id hW
 refine zzm (args := [.agg #[.int .i64 W.b, .int .i64 W.f, .int .i64 W.r, .int .i64 W.o]]) Tryz.func68 rfl Tryz.ntmps68 (rs := [.tmp 2]) Tryz.results68 (le_b rfl) (le_b rfl) d ?_
 refine sq9 (zzk 1 ⟨24, W.cs⟩ (zza 2 (zB false) (zzb (sq9 (zza 3 (.adr 1 0) (zzi 4 (zI W.b) ty3 zzl (zzg 5 118 [.int .i64 W.b, .int .i64 4, .int .i64 24] ?_)))))))
 intro w11 u11 e11 d11
 have k14 := k_in d11 (z := W.b) (a := 4) (b := 24)
 with_reducible refine zPm k14 ?_
 rintro _ u12 g13 rfl
 refine zyq 6 (x := zB (decide ((4 : Int) ≤ W.b) && decide (W.b ≤ 24))) (zB true) (by rw [show (decide ((4 : Int) ≤ W.b) && decide (W.b ≤ 24)) = true from zq]) (zza 7 (.adr 1 1) ?_ (hw := w1 3 true 6))
 refine zzi 8 (zI W.f) ty3 zzl ?_ (hw := w1 3 true 6)
 refine zza 9 (.adr 1 0) ?_ (hw := w1 3 true 6)
 refine zzi 10 (zI W.b) ty3 zzl ?_ (hw := w1 3 true 6)
 refine zyq 11 (x := zI (IntKind.i64.wrap (W.b - 1))) (zI (W.b - 1)) (by rw [IntWalk.i64_in _ xq]) ?_ (hw := w1 3 true 6)
 refine zzg 12 118 [.int .i64 W.f, .int .i64 0, .int .i64 (W.b - 1)] ?_ (hw := w1 3 true 6)
 intro w16 u16 e16 d16
 have k19 := k_in d16 (z := W.f) (a := 0) (b := W.b - 1)
 with_reducible refine zPm k19 ?_
 rintro _ u17 g18 rfl
 refine zza 13 (zB (decide ((0 : Int) ≤ W.f) && decide (W.f ≤ (W.b - 1)))) (zyq 14 (x := zB (decide ((0 : Int) ≤ W.f) && decide (W.f ≤ (W.b - 1)))) (zB true) (by rw [show (decide ((0 : Int) ≤ W.f) && decide (W.f ≤ (W.b - 1))) = true from zq]) (zza 15 (.adr 1 2) ?_ (hw := w1 11 true 14)))
 refine zzi 16 (zI W.r) ty3 zzl ?_ (hw := w1 11 true 14)
 refine zzg 17 118 [.int .i64 W.r, .int .i64 1, .int .i64 3] ?_ (hw := w1 11 true 14)
 intro w21 u21 e21 d21
 have k24 := k_in d21 (z := W.r) (a := 1) (b := 3)
 with_reducible refine zPm k24 ?_
 rintro _ u22 g23 rfl
 refine zza 18 (zB (decide ((1 : Int) ≤ W.r) && decide (W.r ≤ 3))) (zyq 19 (x := zB (decide ((1 : Int) ≤ W.r) && decide (W.r ≤ 3))) (zB true) (by rw [show (decide ((1 : Int) ≤ W.r) && decide (W.r ≤ 3)) = true from zq]) (zza 20 (.adr 1 3) ?_ (hw := w1 16 true 19)))
 refine zzi 21 (zI W.o) ty3 zzl ?_ (hw := w1 16 true 19)
 refine zzg 22 118 [.int .i64 W.o, .int .i64 1, .int .i64 2] ?_ (hw := w1 16 true 19)
 intro w26 u26 e26 d26
 have k29 := k_in d26 (z := W.o) (a := 1) (b := 2)
 with_reducible refine zPm k29 ?_
 rintro _ u27 g28 rfl
 refine zza 23 (zB (decide ((1 : Int) ≤ W.o) && decide (W.o ≤ 2))) (zza 2 (zB (decide ((1 : Int) ≤ W.o) && decide (W.o ≤ 2))) (zzb (zzo (ret0 [.bool (decide ((1 : Int) ≤ W.o) && decide (W.o ≤ 2))] ⟨zzq, trivial⟩ fun u30 e31 => ?_))))
 show Value.bool _ = Value.bool _
 rw [show (decide ((1 : Int) ≤ W.o) && decide (W.o ≤ 2)) = true from zq]
theorem Nt.p2i_nat (i : Nat) : Nt.p2i ((i + 1 : Nat) : Int) = Nt.p2i ((i : Nat) : Int) + Nt.p2i ((i : Nat) : Int) := by
 unfold Nt.p2i
 rw [show (((i + 1 : Nat) : Int)).toNat = i + 1 by omega, show (((i : Nat) : Int)).toNat = i by omega, Int.pow_succ]; omega
theorem Nt.p2i_rs {z : Int} (h : z ≤ 24) : Nt.rs ((Nt.p2i z : Int) : Rat) ≤ 2 := by
 have h1 := Nt.zxq z
 have h2 := Nt.p2i_24 h
 exact Nat.le_trans (Nt.Wh.rs (C := 24) ⟨Nt.p2i z, rfl, by omega⟩) yq
theorem k_power {u w : World} {n : Nat} (d : Dat u w) (hn : n ≤ 24) : Calls Tryz.prog 70 #[.int .i64 (n : Int)] w (Post u w fun v u' => ∃ r : RL, v = r.v ∧ RatN u' r ((Nt.p2i ((n : Nat) : Int) : Int) : Rat) 2) := by
 refine zzm (args := [.int .i64 n]) Tryz.func70 rfl Tryz.ntmps70 (rs := [.cell 2 41]) Tryz.results70 (le_b rfl) (le_b rfl) d ?_
 refine sq9 (zzk 2 ⟨41, [.bool false, .slice none 0 0, .slice none 0 0]⟩ (zzb (sq9 (zzg 5 13 [.int .i64 1] ?_))))
 intro w11 u11 e11 d11
 have k16 := k_rqOf d11 (z := 1) xq xq
 with_reducible refine zPm k16 ?_
 rintro _ u14 g15 ⟨r12, rfl, h13⟩
 refine zzk 3 ⟨41, [.bool false, .slice none 0 0, .slice none 0 0]⟩ (zzj ⟨41, r12.cs⟩ ty41 ?_)
 refine zzb (zzd (sq9 (zza 4 (zI 0) (zzb (zzt (zyn (I := fun m17 S' u' => ∃ (i : Nat) (q : RL), (m17 = n - i) ∧ (i ≤ n) ∧ (S' = St.of 15 [(0, zI n), (2, .adr 2 0), (3, .adr 3 0), (4, zI i)] [(2, ⟨41, [.bool false, .slice none 0 0, .slice none 0 0]⟩), (3, ⟨41, q.cs⟩)]) ∧ (Ext u14 u') ∧ (RatN u' q ((Nt.p2i ((i : Nat) : Int) : Int) : Rat) 2)) (fun m S u1 u2 e h => by obtain ⟨i, q, hm, p0, hS, hE, f0⟩ := h; exact ⟨i, q, hm, p0, hS, hE.trans e, f0.ext e⟩) _ yz ⟨0, r12, rfl, Nat.zero_le _, rfl, (Ext.refl _), (show RatN _ _ ((Nt.p2i ((0 : Nat) : Int) : Int) : Rat) 2 from RatN.more (K := 2) h13 xq)⟩ ?_))))))
 rintro m17 _ u17 ⟨i, q, hm17, hi, rfl, e17, hQ⟩
 refine zzd (sq9 (zza 6 (zI i) (zza 7 (zI n) (zza 8 (zB (decide ((i : Int) < (n : Int)))) (zzb (zzu (b := decide ((i : Int) < (n : Int))) xk (fun hb18 => ?_) (fun hb18 => ?_)))))))
 ·replace hb18 : (decide ((i : Int) < (n : Int))) = true := hb18
  have qhb18 := of_decide_eq_true hb18
  refine zzs (zzp ?_)
  refine zzd (zzt (zzf (zzi 11 (.v (q.v)) ty41 zze (zzi 12 (.v (q.v)) ty41 zze (zzg 13 150 [q.v, q.v] ?_)))))
  intro w19 u19 e19 d19
  have k24 := k_rqAdd d19 (hQ.ext e19).raw (hQ.ext e19).raw xq xq
  with_reducible refine zPm k24 ?_
  rintro _ u22 g23 ⟨r20, rfl, h21⟩
  refine zzj ⟨41, r20.cs⟩ ty41 ?_
  refine zzx ?_
  refine zzp (zzf (zza 9 (zI i) (zyq 10 (x := zI (IntKind.i64.wrap ((i : Int) + 1))) (zI (i + 1 : Nat)) (eqI xw) (zza 4 (zI (i + 1 : Nat)) (zzx ?_)))))
  refine ⟨_, ?_, _, by exact zzv _ _ _, i + 1, r20, rfl, by omega, rfl, (e17.trans (e19.trans g23.ext)), (RatN.fit (K := (2 + 2 + 2)) (by rw [Nt.p2i_nat, Rat.intCast_add]; exact h21) (Nt.p2i_rs xq))⟩
  omega
 ·replace hb18 : (decide ((i : Int) < (n : Int))) = false := hb18
  have qhb18 := of_decide_eq_false hb18
  refine zyc (zzp (sq9 (zzi 14 (.v (q.v)) ty41 zze (zzj ⟨41, q.cs⟩ ty41 ?_))))
  refine zzb (zzo (ret0 [q.v] ⟨zzr ty41 zze, trivial⟩ fun u25 e26 => ?_))
  have hin : i = n := by omega
  subst hin
  exact ⟨q, rfl, (hQ.ext e26)⟩
theorem k_powerI {u w : World} {z : Int} (d : Dat u w) (h0 : 0 ≤ z) (h1 : z ≤ 24) : Calls Tryz.prog 70 #[.int .i64 z] w (Post u w fun v u' => ∃ r : RL, v = r.v ∧ RatN u' r ((Nt.p2i z : Int) : Rat) 2) := by
 have := k_power (n := z.toNat) d xq
 rw [Int.toNat_of_nonneg h0] at this
 exact this
theorem k_rqDivN {u w : World} {r1 r2 : RL} {x y : Rat} {K L : Nat} (d : Dat u w) (hr1 : RatV u r1 x K) (hr2 : RatV u r2 y L) (hy : y ≠ 0) (hK : K ≤ 10000000) (hL : L ≤ 10000000) : Calls Tryz.prog 69 #[r1.v, r2.v] w (Post u w fun v u' => ∃ r : RL, v = .tuple #[r.v, .int .i64 0] ∧ RatN u' r (x / y) (K + L + 1)) :=
 Post.mono (k_rqDiv d hr1 hr2 xq xq) fun v u' _ h => h.elim (fun h => absurd h.2 hy) (fun h => h.2)
theorem Nt.p2i_ne (z : Int) : ((Nt.p2i z : Int) : Rat) ≠ 0 := fun e => by
 have h : Nt.p2i z = 0 := Rat.intCast_inj.1 e
 have := Nt.zxq z
 omega
set_option maxHeartbeats 1000000 in
theorem k_r21Value {u w : World} {W : WL} {z : Int} (d : Dat u w) (hW : WdOK W) (h0 : -16777216 ≤ z) (h1 : z ≤ 16777216) : Calls Tryz.prog 15 #[W.v, .int .i64 z] w (Post u w fun v u' => ∃ r : RL, v = r.v ∧ RatN u' r (((z : Int) : Rat) / ((Nt.p2i W.f : Int) : Rat)) 8) := by
 obtain ⟨hw1, hw2, hw3, hw4, hw5, hw6, hw7, hw8⟩ := id hW
 refine zzm (args := [.agg #[.int .i64 W.b, .int .i64 W.f, .int .i64 W.r, .int .i64 W.o], .int .i64 z]) Tryz.func15 rfl Tryz.ntmps15 (rs := [.cell 4 41]) Tryz.results15 (le_b rfl) (le_b rfl) d ?_
 refine sq9 (zzk 2 ⟨24, W.cs⟩ (zzk 4 ⟨41, [.bool false, .slice none 0 0, .slice none 0 0]⟩ (zzb (zzd (sq9 (zzi 7 (.v (W.v)) ty24 zze (zzg 8 68 [W.v] ?_)))))))
 intro w11 u11 e11 d11
 have k14 := k_r21Valid (W := W) d11 hW
 with_reducible refine zPm k14 ?_
 rintro _ u12 g13 rfl
 refine zza 9 (zB false) (zzb (zys xk (zzs (zzp ?_))))
 refine zzd (zzz [0, 1, 0, 4, 15, 31, 63, 127, 127, 0, 767, 2047] [(0, []), (2, []), (3, []), (9, []), (1, []), (4, []), (5, []), (6, []), (7, []), (8, []), (10, []), (11, [])] xk xk (zza 12 (zI z) (zza 14 (.adr 2 1) (zzi 15 (zI W.f) ty3 zzl (zzk 5 ⟨41, [.bool false, .slice none 0 0, .slice none 0 0]⟩ (zzg 13 13 [.int .i64 z] ?_))))))
 intro w15 u15 e15 d15
 have k20 := k_rqOf d15 (z := z) xq xq
 with_reducible refine zPm k20 ?_
 rintro _ u18 g19 ⟨r16, rfl, h17⟩
 refine zzg 16 70 [.int .i64 W.f] ?_
 intro w21 u21 e21 d21
 have k26 := k_powerI (z := W.f) d21 xq xq
 with_reducible refine zPm k26 ?_
 rintro _ u24 g25 ⟨r22, rfl, h23⟩
 refine zzg 17 69 [r16.v, r22.v] ?_
 intro w27 u27 e27 d27
 have k32 := k_rqDivN d27 (h17.ext (e21.trans (g25.ext.trans e27))).raw (h23.ext e27).raw (Nt.p2i_ne _) xq xq
 with_reducible refine zPm k32 ?_
 rintro _ u30 g31 ⟨r28, rfl, h29⟩
 refine zza 11 (.v (.tuple #[r28.v, .int .i64 0])) (zza 18 (.v (r28.v)) (zza 19 (zI 0) (zzj ⟨41, r28.cs⟩ ty41 ?_)))
 refine zza 6 (zI 0) (zzb (sq9 (zzi 20 (.v (r28.v)) ty41 zze (zzj ⟨41, r28.cs⟩ ty41 ?_))))
 refine zzb (zzo (ret0 [r28.v] ⟨zzr ty41 zze, trivial⟩ fun u33 e34 => ?_))
 exact ⟨r28, rfl, RatN.more (K := (2 + 2 + 1)) (h29.ext e34) xq⟩
instance wdDec (W : WL) : Decidable (WdOK W) := by unfold WdOK; exact inferInstance
namespace Nt
def fitB (W : WL) (z : Int) : Bool := decide (-p2i (W.b - 1) ≤ z) && decide (z ≤ p2i (W.b - 1) - 1)
theorem fit_iff {W : WL} {z : Int} : fitB W z = true ↔ -p2i (W.b - 1) ≤ z ∧ z ≤ p2i (W.b - 1) - 1 := by unfold fitB; simp
variable {W : WL} {l m : List Int} {i : Nat}
end Nt
theorem k_modeG {u w : World} {r : Int} (d : Dat u w) : Calls Tryz.prog 152 #[.int .i64 r] w (Post u w fun v _ => v = .bool (decide (1 ≤ r) && decide (r ≤ 3))) := by
 refine zzm (args := [.int .i64 r]) Tryz.func152 rfl Tryz.ntmps152 (rs := [.tmp 2]) Tryz.results152 (le_b rfl) (le_b rfl) d ?_
 refine sq9 (zza 2 (zB false) (zzb (sq9 (zza 3 (zI r) (zza 4 (zB (decide ((1 : Int) ≤ r))) ?_)))))
 rcases Bool.eq_false_or_eq_true (decide ((1 : Int) ≤ r)) with hs11 | hs11
 ·refine zyq 5 (x := zB (decide ((1 : Int) ≤ r))) (zB true) (by rw [hs11]) ?_
  have qhs11 := of_decide_eq_true hs11
  refine zza 6 (zI r) ?_ (hw := w1 2 true 5)
  refine zza 7 (zB (decide (r ≤ 3))) ?_ (hw := w1 2 true 5)
  refine zza 8 (zB (decide (r ≤ 3))) (zza 2 (zB (decide (r ≤ 3))) (zzb (zzo (ret0 [.bool (decide (r ≤ 3))] ⟨zzq, trivial⟩ fun u12 e13 => ?_))))
  show Value.bool _ = Value.bool _
  congr 1
  rw [Bool.eq_iff_iff]
  simp
  omega
 ·refine zyq 5 (x := zB (decide ((1 : Int) ≤ r))) (zB false) (by rw [hs11]) ?_
  have qhs11 := of_decide_eq_false hs11
  refine zzn 6 (uw 2 true false 5) (zzn 7 (uw 2 true false 5) (zza 8 (zB false) (zza 2 (zB false) (zzb (zzo (ret0 [.bool false] ⟨zzq, trivial⟩ fun u14 e15 => ?_))))))
  show Value.bool _ = Value.bool _
  congr 1
  rw [Bool.eq_iff_iff]
  simp
  omega
theorem k_fxValidG {u w : World} {W : WL} (d : Dat u w) : Calls Tryz.prog 75 #[W.v] w (Post u w fun v _ => v = .bool (decide (WdOK W))) := by
 refine zzm (args := [.agg #[.int .i64 W.b, .int .i64 W.f, .int .i64 W.r, .int .i64 W.o]]) Tryz.func75 rfl Tryz.ntmps75 (rs := [.tmp 2]) Tryz.results75 (le_b rfl) (le_b rfl) d ?_
 refine sq9 (zzk 1 ⟨24, W.cs⟩ (zza 2 (zB false) (zzb (zzd (sq9 (zza 3 (.adr 1 0) (zzi 4 (zI W.b) ty3 zzl (zza 5 (zB (decide (W.b < 4))) ?_))))))))
 rcases Bool.eq_false_or_eq_true (decide (W.b < 4)) with hs11 | hs11
 ·refine zyq 6 (x := zB (decide (W.b < 4))) (zB true) (by rw [hs11]) ?_
  have qhs11 := of_decide_eq_true hs11
  refine zzn 7 (uw 3 false true 6) (zzn 8 (uw 3 false true 6) (zzn 9 (uw 3 false true 6) (zza 10 (zB true) (zza 11 (zB true) (zzn 12 (uw 8 false true 11) (zzn 13 (uw 8 false true 11) (zzn 14 (uw 8 false true 11) (zza 15 (zB true) (zza 16 (zB true) (zzn 17 (uw 13 false true 16) (zzn 18 (uw 13 false true 16) ?_)))))))))))
  refine zzn 19 (uw 13 false true 16) (zzn 20 (uw 13 false true 16) (zzn 21 (uw 13 false true 16) (zza 22 (zB true) (zzb (zyr xk (sq9 (zza 2 (zB false) (zzb (zzo (zzw (ret0 [.bool false] ⟨zzq, trivial⟩ fun u12 e13 => ?_)))))))))))
  show Value.bool _ = Value.bool _
  congr 1
  exact (decide_eq_false (by unfold WdOK; omega)).symm
 ·refine zyq 6 (x := zB (decide (W.b < 4))) (zB false) (by rw [hs11]) ?_
  have qhs11 := of_decide_eq_false hs11
  refine zza 7 (.adr 1 0) ?_ (hw := w1 3 false 6)
  refine zzi 8 (zI W.b) ty3 zzl ?_ (hw := w1 3 false 6)
  refine zza 9 (zB (decide ((24 : Int) < W.b))) ?_ (hw := w1 3 false 6)
  refine zza 10 (zB (decide ((24 : Int) < W.b))) ?_
  rcases Bool.eq_false_or_eq_true (decide ((24 : Int) < W.b)) with hs14 | hs14
  ·refine zyq 11 (x := zB (decide ((24 : Int) < W.b))) (zB true) (by rw [hs14]) ?_
   have qhs14 := of_decide_eq_true hs14
   refine zzn 12 (uw 8 false true 11) (zzn 13 (uw 8 false true 11) (zzn 14 (uw 8 false true 11) (zza 15 (zB true) (zza 16 (zB true) (zzn 17 (uw 13 false true 16) (zzn 18 (uw 13 false true 16) (zzn 19 (uw 13 false true 16) (zzn 20 (uw 13 false true 16) (zzn 21 (uw 13 false true 16) (zza 22 (zB true) (zzb ?_)))))))))))
   refine zyr xk (sq9 (zza 2 (zB false) (zzb (zzo (zzw (ret0 [.bool false] ⟨zzq, trivial⟩ fun u15 e16 => ?_))))))
   show Value.bool _ = Value.bool _
   congr 1
   exact (decide_eq_false (by unfold WdOK; omega)).symm
  ·refine zyq 11 (x := zB (decide ((24 : Int) < W.b))) (zB false) (by rw [hs14]) ?_
   have qhs14 := of_decide_eq_false hs14
   refine zza 12 (.adr 1 1) ?_ (hw := w1 8 false 11)
   refine zzi 13 (zI W.f) ty3 zzl ?_ (hw := w1 8 false 11)
   refine zza 14 (zB (decide (W.f < 0))) ?_ (hw := w1 8 false 11)
   refine zza 15 (zB (decide (W.f < 0))) ?_
   rcases Bool.eq_false_or_eq_true (decide (W.f < 0)) with hs17 | hs17
   ·refine zyq 16 (x := zB (decide (W.f < 0))) (zB true) (by rw [hs17]) ?_
    have qhs17 := of_decide_eq_true hs17
    refine zzn 17 (uw 13 false true 16) (zzn 18 (uw 13 false true 16) (zzn 19 (uw 13 false true 16) (zzn 20 (uw 13 false true 16) (zzn 21 (uw 13 false true 16) (zza 22 (zB true) (zzb (zyr xk (sq9 (zza 2 (zB false) (zzb (zzo (zzw (ret0 [.bool false] ⟨zzq, trivial⟩ fun u18 e19 => ?_)))))))))))))
    show Value.bool _ = Value.bool _
    congr 1
    exact (decide_eq_false (by unfold WdOK; omega)).symm
   ·refine zyq 16 (x := zB (decide (W.f < 0))) (zB false) (by rw [hs17]) ?_
    have qhs17 := of_decide_eq_false hs17
    refine zza 17 (.adr 1 1) ?_ (hw := w1 13 false 16)
    refine zzi 18 (zI W.f) ty3 zzl ?_ (hw := w1 13 false 16)
    refine zza 19 (.adr 1 0) ?_ (hw := w1 13 false 16)
    refine zzi 20 (zI W.b) ty3 zzl ?_ (hw := w1 13 false 16)
    refine zza 21 (zB (decide (W.b ≤ W.f))) ?_ (hw := w1 13 false 16)
    refine zza 22 (zB (decide (W.b ≤ W.f))) (zzb (zzu (b := decide (W.b ≤ W.f)) xk (fun hb20 => ?_) (fun hb20 => ?_)))
    ·replace hb20 : (decide (W.b ≤ W.f)) = true := hb20
     have qhb20 := of_decide_eq_true hb20
     refine sq9 (zza 2 (zB false) (zzb (zzo (zzw (ret0 [.bool false] ⟨zzq, trivial⟩ fun u21 e22 => ?_)))))
     show Value.bool _ = Value.bool _
     congr 1
     exact (decide_eq_false (by unfold WdOK; omega)).symm
    ·replace hb20 : (decide (W.b ≤ W.f)) = false := hb20
     have qhb20 := of_decide_eq_false hb20
     refine zzs (zzp ?_)
     refine sq9 (zza 23 (.adr 1 2) (zzi 24 (zI W.r) ty3 zzl (zzg 25 152 [.int .i64 W.r] ?_)))
     intro w23 u23 e23 d23
     have k26 := k_modeG d23 (r := W.r)
     with_reducible refine zPm k26 ?_
     rintro _ u24 g25 rfl
     rcases Bool.eq_false_or_eq_true (decide (1 ≤ W.r) && decide (W.r ≤ 3)) with hs27 | hs27
     ·refine zyq 26 (x := zB (decide (1 ≤ W.r) && decide (W.r ≤ 3))) (zB true) (by rw [hs27]) ?_
      have qhs27 := hs27
      simp at qhs27
      refine zza 27 (.adr 1 3) ?_ (hw := w1 3 true 26)
      refine zzi 28 (zI W.o) ty3 zzl ?_ (hw := w1 3 true 26)
      refine zza 29 (zB (W.o == 1)) ?_ (hw := w1 3 true 26)
      rcases Bool.eq_false_or_eq_true (W.o == 1) with hs28 | hs28
      ·refine zyq 30 (x := zB (W.o == 1)) (zB true) (by rw [hs28]) ?_ (hw := w1 3 true 26)
       have qhs28 := hs28
       simp at qhs28
       refine zzn 31 (uw 7 false true 30) (zzn 32 (uw 7 false true 30) (zzn 33 (uw 7 false true 30) (zza 34 (zB true) ?_ (hw := w1 3 true 26))))
       refine zza 35 (zB true) (zza 2 (zB true) (zzc 36 [(2, zB true)] [] (zzo (ret0 [.bool true] ⟨zzq, trivial⟩ fun u29 e30 => ?_))))
       show Value.bool _ = Value.bool _
       congr 1
       exact (decide_eq_true (by unfold WdOK; omega)).symm
      ·refine zyq 30 (x := zB (W.o == 1)) (zB false) (by rw [hs28]) ?_ (hw := w1 3 true 26)
       have qhs28 := hs28
       simp at qhs28
       refine zza 31 (.adr 1 3) ?_ (hw := w1 7 false 30)
       refine zzi 32 (zI W.o) ty3 zzl ?_ (hw := w1 7 false 30)
       refine zza 33 (zB (W.o == 2)) ?_ (hw := w1 7 false 30)
       refine zza 34 (zB (W.o == 2)) ?_ (hw := w1 3 true 26)
       refine zza 35 (zB (W.o == 2)) (zza 2 (zB (W.o == 2)) (zzc 36 [(2, zB (W.o == 2))] [] (zzo (ret0 [.bool (W.o == 2)] ⟨zzq, trivial⟩ fun u31 e32 => ?_))))
       show Value.bool _ = Value.bool _
       congr 1
       rw [Bool.eq_iff_iff]
       simp
       unfold WdOK
       omega
     ·refine zyq 26 (x := zB (decide (1 ≤ W.r) && decide (W.r ≤ 3))) (zB false) (by rw [hs27]) ?_
      have qhs27 := hs27
      simp at qhs27
      refine zzn 27 (uw 3 true false 26) (zzn 28 (uw 3 true false 26) (zzn 29 (uw 3 true false 26) (zzn 30 (uw 3 true false 26) (zzn 31 (unwantedU (g := 7) (b := false) (t := 30) xk xk xk) (zzn 32 (unwantedU (g := 7) (b := false) (t := 30) xk xk xk) (zzn 33 (unwantedU (g := 7) (b := false) (t := 30) xk xk xk) (zzn 34 (uw 3 true false 26) (zza 35 (zB false) (zza 2 (zB false) (zzc 36 [(2, zB false)] [] (zzo (ret0 [.bool false] ⟨zzq, trivial⟩ fun u33 e34 => ?_))))))))))))
      show Value.bool _ = Value.bool _
      congr 1
      exact (decide_eq_false (by unfold WdOK; omega)).symm
theorem k_r21ValidG {u w : World} {W : WL} (d : Dat u w) : Calls Tryz.prog 68 #[W.v] w (Post u w fun v _ => v = .bool (decide (WdOK W))) := by
 refine zzm (args := [.agg #[.int .i64 W.b, .int .i64 W.f, .int .i64 W.r, .int .i64 W.o]]) Tryz.func68 rfl Tryz.ntmps68 (rs := [.tmp 2]) Tryz.results68 (le_b rfl) (le_b rfl) d ?_
 refine sq9 (zzk 1 ⟨24, W.cs⟩ (zza 2 (zB false) (zzb (sq9 (zza 3 (.adr 1 0) (zzi 4 (zI W.b) ty3 zzl (zzg 5 118 [.int .i64 W.b, .int .i64 4, .int .i64 24] ?_)))))))
 intro w11 u11 e11 d11
 have k14 := k_in d11 (z := W.b) (a := 4) (b := 24)
 with_reducible refine zPm k14 ?_
 rintro _ u12 g13 rfl
 rcases Bool.eq_false_or_eq_true (decide ((4 : Int) ≤ W.b) && decide (W.b ≤ 24)) with hs15 | hs15
 ·refine zyq 6 (x := zB (decide ((4 : Int) ≤ W.b) && decide (W.b ≤ 24))) (zB true) (by rw [hs15]) ?_
  have qhs15 := hs15
  simp at qhs15
  refine zza 7 (.adr 1 1) ?_ (hw := w1 3 true 6)
  refine zzi 8 (zI W.f) ty3 zzl ?_ (hw := w1 3 true 6)
  refine zza 9 (.adr 1 0) ?_ (hw := w1 3 true 6)
  refine zzi 10 (zI W.b) ty3 zzl ?_ (hw := w1 3 true 6)
  refine zyq 11 (x := zI (IntKind.i64.wrap (W.b - 1))) (zI (W.b - 1)) (by rw [IntWalk.i64_in _ xq]) ?_ (hw := w1 3 true 6)
  refine zzg 12 118 [.int .i64 W.f, .int .i64 0, .int .i64 (W.b - 1)] ?_ (hw := w1 3 true 6)
  intro w16 u16 e16 d16
  have k19 := k_in d16 (z := W.f) (a := 0) (b := W.b - 1)
  with_reducible refine zPm k19 ?_
  rintro _ u17 g18 rfl
  refine zza 13 (zB (decide ((0 : Int) ≤ W.f) && decide (W.f ≤ (W.b - 1)))) ?_
  rcases Bool.eq_false_or_eq_true (decide ((0 : Int) ≤ W.f) && decide (W.f ≤ (W.b - 1))) with hs20 | hs20
  ·refine zyq 14 (x := zB (decide ((0 : Int) ≤ W.f) && decide (W.f ≤ (W.b - 1)))) (zB true) (by rw [hs20]) ?_
   have qhs20 := hs20
   simp at qhs20
   refine zza 15 (.adr 1 2) ?_ (hw := w1 11 true 14)
   refine zzi 16 (zI W.r) ty3 zzl ?_ (hw := w1 11 true 14)
   refine zzg 17 118 [.int .i64 W.r, .int .i64 1, .int .i64 3] ?_ (hw := w1 11 true 14)
   intro w21 u21 e21 d21
   have k24 := k_in d21 (z := W.r) (a := 1) (b := 3)
   with_reducible refine zPm k24 ?_
   rintro _ u22 g23 rfl
   refine zza 18 (zB (decide ((1 : Int) ≤ W.r) && decide (W.r ≤ 3))) ?_
   rcases Bool.eq_false_or_eq_true (decide ((1 : Int) ≤ W.r) && decide (W.r ≤ 3)) with hs25 | hs25
   ·refine zyq 19 (x := zB (decide ((1 : Int) ≤ W.r) && decide (W.r ≤ 3))) (zB true) (by rw [hs25]) ?_
    have qhs25 := hs25
    simp at qhs25
    refine zza 20 (.adr 1 3) ?_ (hw := w1 16 true 19)
    refine zzi 21 (zI W.o) ty3 zzl ?_ (hw := w1 16 true 19)
    refine zzg 22 118 [.int .i64 W.o, .int .i64 1, .int .i64 2] ?_ (hw := w1 16 true 19)
    intro w26 u26 e26 d26
    have k29 := k_in d26 (z := W.o) (a := 1) (b := 2)
    with_reducible refine zPm k29 ?_
    rintro _ u27 g28 rfl
    refine zza 23 (zB (decide ((1 : Int) ≤ W.o) && decide (W.o ≤ 2))) (zza 2 (zB (decide ((1 : Int) ≤ W.o) && decide (W.o ≤ 2))) (zzb (zzo (ret0 [.bool (decide ((1 : Int) ≤ W.o) && decide (W.o ≤ 2))] ⟨zzq, trivial⟩ fun u30 e31 => ?_))))
    show Value.bool _ = Value.bool _
    congr 1
    rw [Bool.eq_iff_iff]
    simp
    unfold WdOK
    omega
   ·refine zyq 19 (x := zB (decide ((1 : Int) ≤ W.r) && decide (W.r ≤ 3))) (zB false) (by rw [hs25]) ?_
    have qhs25 := hs25
    simp at qhs25
    refine zzn 20 (uw 16 true false 19) (zzn 21 (uw 16 true false 19) (zzn 22 (uw 16 true false 19) (zza 23 (zB false) (zza 2 (zB false) (zzb (zzo (ret0 [.bool false] ⟨zzq, trivial⟩ fun u32 e33 => ?_)))))))
    show Value.bool _ = Value.bool _
    congr 1
    exact (decide_eq_false (by unfold WdOK; omega)).symm
  ·refine zyq 14 (x := zB (decide ((0 : Int) ≤ W.f) && decide (W.f ≤ (W.b - 1)))) (zB false) (by rw [hs20]) ?_
   have qhs20 := hs20
   simp at qhs20
   refine zzn 15 (uw 11 true false 14) (zzn 16 (uw 11 true false 14) (zzn 17 (uw 11 true false 14) (zza 18 (zB false) (zza 19 (zB false) (zzn 20 (uw 16 true false 19) (zzn 21 (uw 16 true false 19) (zzn 22 (uw 16 true false 19) (zza 23 (zB false) (zza 2 (zB false) (zzb (zzo (ret0 [.bool false] ⟨zzq, trivial⟩ fun u34 e35 => ?_))))))))))))
   show Value.bool _ = Value.bool _
   congr 1
   exact (decide_eq_false (by unfold WdOK; omega)).symm
 ·refine zyq 6 (x := zB (decide ((4 : Int) ≤ W.b) && decide (W.b ≤ 24))) (zB false) (by rw [hs15]) ?_
  have qhs15 := hs15
  simp at qhs15
  refine zzn 7 (uw 3 true false 6) (zzn 8 (uw 3 true false 6) (zzn 9 (uw 3 true false 6) (zzn 10 (uw 3 true false 6) (zzn 11 (uw 3 true false 6) (zzn 12 (uw 3 true false 6) (zza 13 (zB false) (zza 14 (zB false) (zzn 15 (uw 11 true false 14) (zzn 16 (uw 11 true false 14) (zzn 17 (uw 11 true false 14) (zza 18 (zB false) ?_)))))))))))
  refine zza 19 (zB false) (zzn 20 (uw 16 true false 19) (zzn 21 (uw 16 true false 19) (zzn 22 (uw 16 true false 19) (zza 23 (zB false) (zza 2 (zB false) (zzb (zzo (ret0 [.bool false] ⟨zzq, trivial⟩ fun u36 e37 => ?_))))))))
  show Value.bool _ = Value.bool _
  congr 1
  exact (decide_eq_false (by unfold WdOK; omega)).symm
theorem k_r21Low {u w : World} {W : WL} (d : Dat u w) (hW : WdOK W) : Calls Tryz.prog 185 #[W.v] w (Post u w fun v _ => v = .int .i64 (-Nt.p2i (W.b - 1))) := by
 obtain ⟨hw1, hw2, hw3, hw4, hw5, hw6, hw7, hw8⟩ := id hW
 have hu0 := Nt.zxq W.f
 have hu1 := Nt.p2i_24 (n := W.f) xq
 have hu2 := Nt.zwh (a := W.f) (b := W.b - 1) xq
 have hu3 := Nt.p2i_24 (n := W.b - 1) xq
 refine zzm (args := [.agg #[.int .i64 W.b, .int .i64 W.f, .int .i64 W.r, .int .i64 W.o]]) Tryz.func185 rfl Tryz.ntmps185 (rs := [.tmp 2]) Tryz.results185 (le_b rfl) (le_b rfl) d ?_
 refine sq9 (zzk 1 ⟨24, W.cs⟩ (zza 2 (zI 0) (zzb (zzd (sq9 (zzi 3 (.v (W.v)) ty24 zze (zzg 4 68 [W.v] ?_)))))))
 intro w11 u11 e11 d11
 have k14 := k_r21Valid (W := W) d11 hW
 with_reducible refine zPm k14 ?_
 rintro _ u12 g13 rfl
 refine zza 5 (zB false) (zzb (zys xk (zzs (zzp ?_))))
 refine sq9 (zza 6 (.adr 1 0) (zzi 7 (zI W.b) ty3 zzl (zyq 8 (x := zI (IntKind.i64.wrap (W.b - 1))) (zI (W.b - 1)) (by rw [IntWalk.i64_in _ xq]) (sy_conv 9 (W.b - 1) (fun w => by kernel_rfl) (IntWalk.u64_in _ xq) ?_))))
 refine sy_shl 10 (k := .i64) (s := W.b - 1) (Nt.p2i (W.b - 1)) xq zw (shl_one xq xq) ?_
 refine zyq 11 (x := zI (IntKind.i64.wrap (0 - Nt.p2i (W.b - 1)))) (zI (-Nt.p2i (W.b - 1))) (by rw [show (IntKind.i64.wrap (0 - Nt.p2i (W.b - 1))) = (-Nt.p2i (W.b - 1)) from xw]) (zza 2 (zI (-Nt.p2i (W.b - 1))) (zzb (zzo (ret0 [.int .i64 (-Nt.p2i (W.b - 1))] ⟨zzq, trivial⟩ fun u15 e16 => ?_))))
 rfl
theorem k_r21High {u w : World} {W : WL} (d : Dat u w) (hW : WdOK W) : Calls Tryz.prog 186 #[W.v] w (Post u w fun v _ => v = .int .i64 (Nt.p2i (W.b - 1) - 1)) := by
 obtain ⟨hw1, hw2, hw3, hw4, hw5, hw6, hw7, hw8⟩ := id hW
 have hu0 := Nt.zxq W.f
 have hu1 := Nt.p2i_24 (n := W.f) xq
 have hu2 := Nt.zwh (a := W.f) (b := W.b - 1) xq
 have hu3 := Nt.p2i_24 (n := W.b - 1) xq
 refine zzm (args := [.agg #[.int .i64 W.b, .int .i64 W.f, .int .i64 W.r, .int .i64 W.o]]) Tryz.func186 rfl Tryz.ntmps186 (rs := [.tmp 2]) Tryz.results186 (le_b rfl) (le_b rfl) d ?_
 refine sq9 (zzk 1 ⟨24, W.cs⟩ (zza 2 (zI 0) (zzb (zzd (sq9 (zzi 3 (.v (W.v)) ty24 zze (zzg 4 68 [W.v] ?_)))))))
 intro w11 u11 e11 d11
 have k14 := k_r21Valid (W := W) d11 hW
 with_reducible refine zPm k14 ?_
 rintro _ u12 g13 rfl
 refine zza 5 (zB false) (zzb (zys xk (zzs (zzp ?_))))
 refine sq9 (zza 6 (.adr 1 0) (zzi 7 (zI W.b) ty3 zzl (zyq 8 (x := zI (IntKind.i64.wrap (W.b - 1))) (zI (W.b - 1)) (by rw [IntWalk.i64_in _ xq]) (sy_conv 9 (W.b - 1) (fun w => by kernel_rfl) (IntWalk.u64_in _ xq) ?_))))
 refine sy_shl 10 (k := .i64) (s := W.b - 1) (Nt.p2i (W.b - 1)) xq zw (shl_one xq xq) ?_
 refine zyq 11 (x := zI (IntKind.i64.wrap ((Nt.p2i (W.b - 1)) - 1))) (zI ((Nt.p2i (W.b - 1)) - 1)) (by rw [IntWalk.i64_in _ xq]) (zza 2 (zI ((Nt.p2i (W.b - 1)) - 1)) (zzb (zzo (ret0 [.int .i64 ((Nt.p2i (W.b - 1)) - 1)] ⟨zzq, trivial⟩ fun u15 e16 => ?_))))
 rfl
theorem k_r21FitsG {u w : World} {W : WL} {z : Int} (d : Dat u w) (hW : WdOK W) : Calls Tryz.prog 153 #[W.v, .int .i64 z] w (Post u w fun v _ => v = .bool (Nt.fitB W z)) := by
 obtain ⟨hw1, hw2, hw3, hw4, hw5, hw6, hw7, hw8⟩ := id hW
 refine zzm (args := [.agg #[.int .i64 W.b, .int .i64 W.f, .int .i64 W.r, .int .i64 W.o], .int .i64 z]) Tryz.func153 rfl Tryz.ntmps153 (rs := [.tmp 4]) Tryz.results153 (le_b rfl) (le_b rfl) d ?_
 refine sq9 (zzk 2 ⟨24, W.cs⟩ (zza 4 (zB false) (zzb (zzd (zzz [0, 1, 3, 7, 7, 23, 7, 119, 255, 511, 1023] [(0, []), (1, []), (2, []), (3, []), (4, []), (6, []), (5, []), (7, []), (8, []), (9, []), (10, [])] xk xk (zzi 5 (.v (W.v)) ty24 zze (zzg 6 68 [W.v] ?_)))))))
 intro w11 u11 e11 d11
 have k14 := k_r21Valid (W := W) d11 hW
 with_reducible refine zPm k14 ?_
 rintro _ u12 g13 rfl
 refine zza 7 (zB true) (zza 8 (zI z) ?_ (hw := w1 2 true 7))
 refine zzi 9 (.v (W.v)) ty24 zze ?_ (hw := w1 2 true 7)
 refine zzi 11 (.v (W.v)) ty24 zze ?_ (hw := w1 2 true 7)
 refine zzg 10 185 [W.v] ?_ (hw := w1 2 true 7)
 intro w15 u15 e15 d15
 have k18 := k_r21Low (W := W) d15 hW
 with_reducible refine zPm k18 ?_
 rintro _ u16 g17 rfl
 refine zzg 12 186 [W.v] ?_ (hw := w1 2 true 7)
 intro w19 u19 e19 d19
 have k22 := k_r21High (W := W) d19 hW
 with_reducible refine zPm k22 ?_
 rintro _ u20 g21 rfl
 refine zzg 13 118 [.int .i64 z, .int .i64 (-Nt.p2i (W.b - 1)), .int .i64 (Nt.p2i (W.b - 1) - 1)] ?_ (hw := w1 2 true 7)
 intro w23 u23 e23 d23
 have k26 := k_in d23 (z := z) (a := -Nt.p2i (W.b - 1)) (b := Nt.p2i (W.b - 1) - 1)
 with_reducible refine zPm k26 ?_
 rintro _ u24 g25 rfl
 refine zza 14 (zB (decide ((-Nt.p2i (W.b - 1)) ≤ z) && decide (z ≤ (Nt.p2i (W.b - 1) - 1)))) (zza 4 (zB (decide ((-Nt.p2i (W.b - 1)) ≤ z) && decide (z ≤ (Nt.p2i (W.b - 1) - 1)))) (zzb (zzo (ret0 [.bool (decide ((-Nt.p2i (W.b - 1)) ≤ z) && decide (z ≤ (Nt.p2i (W.b - 1) - 1)))] ⟨zzq, trivial⟩ fun u27 e28 => ?_))))
 show Value.bool _ = Value.bool _
 first | rfl | (congr 1; rw [Bool.eq_iff_iff, Nt.fit_iff]; first | (simp; done) | (simp; omega))
namespace Nt
end Nt
section
variable {P : Program} {ops : Array Oper} {w0 : Base} {u0 : World} {S : St} {u : World} {o : Oper} {p : List Tmp} {seq : Bool} {rest : List (Oper × List Tmp)} {K : St → World → Prop}
theorem sy_appS1 (d : Tmp) {T E : TypeId} {s x : Operand} {z : Value} {size bytes : Nat} {b off m c t n cap : Nat} {A : Option Addr} {cs0 : List Value} (pubs : List Tmp) (news : List Value) (hA : A = some ⟨b, off, none⟩) (hT : P.underlying T = some (.slice E)) (hi : (P.info? E).map (fun i => (i.zero, i.size, i.bytes)) = some (some z, size, bytes)) (hzs : z.cells.size = size) (hsz : 0 < size)
  (hl : news.length = m * size) (hnews : ∀ j v, news[j]? = some v → u.cell? ⟨b, off + j, none⟩ = some v) (h1 : ∀ v ∈ news, v.oneCell' = true) (hm : 0 < m) (h63 : n + m ≤ maxLen) (hbytes : (n + m) * bytes ≤ 140737488355328)
  (hn : n ≤ cap) (hcap : cap ≤ maxLen) (hcl : cs0.length = cap * size) (hno : NoAt S pubs)
  (k : ∀ c1 cs, n + m ≤ c1 → c1 ≤ maxLen → cs.length = c1 * size → cs.take ((n + m) * size) = cs0.take (n * size) ++ news → sym P ops w0 u0 seq rest ((S.unpub pubs).own d ⟨E, cs⟩ (n + m) c1) u K)
  (hw : Wants ops o S := by exact zwj xk) (hd : o.dst = some d := by kernel_rfl) (hop : o.op = .call { callee := .builtin .append, args := #[s, x], argTypes := #[T, T] } := by rfl) (hf : (Nat.blt d S.n && ((S.var d).isNone || pubs.contains d) && pubs.contains t && Nat.blt t S.n) = true := by kernel_rfl)
  (hs : evO S s = some (.slc t 0 n cap) := by rfl) (hv : S.var t = some ⟨E, cs0⟩ := by rfl) (hx : evO S x = some (.v (.slice A m c)) := by rfl) : sym P ops w0 u0 seq ((o, p) :: rest) S u K := by
 subst hA
 simp only [Bool.and_eq_true, Bool.or_eq_true, Option.isNone_iff_eq_none, List.contains_iff_mem] at hf
 refine .inr (.inr (.inl ⟨.inr ⟨by rw [hop]; rfl, by rw [hop]; rfl⟩, fun B a w u' he hrep => ⟨hw B a hrep.regs, ?_⟩⟩))
 have htn : t < S.n := Nat.le_of_ble_eq_true hf.2
 obtain ⟨v1, v2, v3⟩ := hrep.var t _ hv
 have v3 := v3.1 htn
 obtain ⟨g, c1, cs, w', hrun, hgv, k1, k2, k3, k4, k5, k6⟩ := run_app (P := P) (u0 := u0) (w := w) (v := .slice (some ⟨B t, 0, none⟩) n cap) (n := n) (xs := cs0.take (n * size)) (ad := ⟨b, off, none⟩) (c := c) hT hi hzs hsz
  ⟨by rw [List.length_take, hcl]; exact Nat.min_eq_left (Nat.mul_le_mul_right _ hn), .inr ⟨B t, cap, cs0.toArray, rfl, v3, v1, hn, hcap, by simpa using hcl, by simp⟩⟩ hl (fun j v hv => by rw [addr_add]; exact hrep.dat.ext.cell (he.cell (hnews j v hv))) h1 hm h63 hbytes (by rw [← hrep.dat.size]; exact hrep.grow.size) o.type
 unfold Oper.wp execOp
 simp only [hop, resolve, invoke, builtin, Sem.run_bind, Sem.run_pure, Result.andThen_ok, List.map_toArray, List.map_cons, List.map_nil, ev_of hrep.regs hs, ev_of hrep.regs hx, SV.conc, hrun]
 have hr2 := hrep.grown hno (row := some (B t)) (fun b h => by injection h with h; exact ⟨t, hf.1.2, htn, _, hv, h⟩) k5 (d := d) (V := ⟨E, cs.toList⟩) (g := g) (n := n + m) (c := c1) (Nat.le_of_ble_eq_true hf.1.1.1) hf.1.1.2 (by simpa using hgv) k6
 have hsz2 : u'.heap.size ≤ w'.heap.size := by rw [hrep.dat.size]; exact k5.size
 show ∃ S' B' u'' u2, Rep w0 u0 S' B' (a.put o.dst _) w' u'' ∧ _
 rw [hd]
 exact ⟨_, _, _, u, hr2, fun _ => (hide_grow hsz2).ext, fun _ => Ext.refl _, he.trans (hide_grow hsz2).ext, k c1 cs.toList k1 k2 k3 k4⟩
theorem run_app_none {T E : TypeId} {i : TypeInfo} (hT : P.underlying T = some (.slice E)) (hi : P.info? E = some i) {n cap : Nat} (hcap : n ≤ cap) (ty : TypeId) (A : Option Addr) (c b : Nat) (w : World) :
  (Builtin.append_ #[T, T] ty #[.slice (some ⟨b, 0, none⟩) n cap, .slice A 0 c]).run P w = .ok (.slice (some ⟨b, 0, none⟩) n cap) w := by
 cases A <;> simp [Builtin.append_, run_underlying hT, sizeOf, typeInfo, hi, hcap, Builtin.lenOf, Builtin.firstCells, storeCells, loadCells, loadCellsFrom]
theorem sy_appS0 (d : Tmp) {T E : TypeId} {s x : Operand} {z : Value} {size bytes : Nat} {m c t n cap : Nat} {A : Option Addr} {V : Vr} (hm : m = 0) (hT : P.underlying T = some (.slice E)) (hi : (P.info? E).map (fun i => (i.zero, i.size, i.bytes)) = some (some z, size, bytes)) (hcap : n ≤ cap)
  (k : sym P ops w0 u0 seq rest (S.set d (.slc t 0 n cap)) u K)
  (hw : Wants ops o S := by exact zwj xk) (hd : o.dst = some d := by kernel_rfl) (hop : o.op = .call { callee := .builtin .append, args := #[s, x], argTypes := #[T, T] } := by rfl) (hf : freeB S d = true := by kernel_rfl)
  (hs : evO S s = some (.slc t 0 n cap) := by rfl) (hv : S.var t = some V := by rfl) (hx : evO S x = some (.v (.slice A m c)) := by rfl) : sym P ops w0 u0 seq ((o, p) :: rest) S u K := by
 subst hm
 obtain ⟨inf, hi1, _⟩ := info_parts hi
 have hrun : ∀ (b : Nat) w, (Builtin.append_ #[T, T] o.type #[.slice (some ⟨b, 0, none⟩) n cap, .slice A 0 c]).run P w = .ok (.slice (some ⟨b, 0, none⟩) n cap) w := fun b w => run_app_none hT hi1 hcap _ _ _ _ _
 refine .inr (.inr (.inl ⟨.inr ⟨by rw [hop]; rfl, by rw [hop]; rfl⟩, fun B a w u' he hrep => ⟨hw B a hrep.regs, ?_⟩⟩))
 unfold Oper.wp execOp
 simp only [hop, resolve, invoke, builtin, Sem.run_bind, Sem.run_pure, Result.andThen_ok, List.map_toArray, List.map_cons, List.map_nil, ev_of hrep.regs hs, ev_of hrep.regs hx, SV.conc, hrun]
 have hr2 := hrep.set (d := o.dst) (x := some (.slc t 0 n cap)) (v := .slice (some ⟨B t, 0, none⟩) n cap) (fun s hs => (zwa hd hf s hs).1) (fun z e => by injection e with e; rw [← e]; rfl) (fun z t' e ht => by injection e with e; rw [← e] at ht; injection ht with ht; subst ht; exact ⟨V, hv⟩)
 show ∃ S' B' u'' u2, Rep w0 u0 S' B' (a.put o.dst _) w u'' ∧ _
 refine ⟨_, B, u', u, hr2, fun _ => Ext.refl _, fun _ => Ext.refl _, he, ?_⟩
 rw [hd]; exact k
end
section
variable {P : Program} {ops : Array Oper} {w0 : Base} {u0 : World} {S : St} {u : World}
def exitsK (P : Program) (ops : Array Oper) (w0 : Base) (u0 : World) (K : List (Nat × List Tmp) → St → World → Prop) : List (Nat × List Tmp) → St → World → Prop
 | [], S, u => K [] S u
 | p :: F, S, u => K (p :: F) S u ∧ sym P ops w0 u0 false [opAt ops p] S u (exitsK P ops w0 u0 K F)
theorem zwt {K : List (Nat × List Tmp) → St → World → Prop} (hK : ∀ F, Mono (K F)) : ∀ F, Mono (exitsK P ops w0 u0 K F)
 | [] => hK []
 | p :: F => fun S u u' e h => ⟨hK _ S u u' e h.1, zwf (zwt hK F) S u u' e h.2⟩
theorem exitsK_now {K : List (Nat × List Tmp) → St → World → Prop} {F : List (Nat × List Tmp)} (h : exitsK P ops w0 u0 K F S u) : K F S u := by
 cases F with
 | nil => exact h
 | cons p F => exact h.1
theorem sym_app {K : St → World → Prop} (hK : Mono K) {seq : Bool} : ∀ (l1 l2 : List (Oper × List Tmp)) (S : St) (u : World), sym P ops w0 u0 seq l1 S u (fun S u => sym P ops w0 u0 seq l2 S u K) → sym P ops w0 u0 seq (l1 ++ l2) S u K
 | [], l2, S, u, h => h
 | e :: l1, l2, S, u, h => one_mono (w0 := w0) (u0 := u0) (fun S u h => sym_app hK l1 l2 S u h) (zwf (zwf hK)) (Ext.refl u) h
theorem sym_mono_k {K K' : St → World → Prop} {seq : Bool} : ∀ {l : List (Oper × List Tmp)} {S : St} {u : World}, (∀ S u, K S u → K' S u) → Mono K → sym P ops w0 u0 seq l S u K → sym P ops w0 u0 seq l S u K'
 | [], S, u, hk, _, h => hk S u h
 | e :: l, S, u, hk, hm, h => one_mono (w0 := w0) (u0 := u0) (fun S u h => sym_mono_k hk hm h) (zwf hm) (Ext.refl u) h
def backB (ops : Array Oper) : List (Nat × List Tmp) → Bool
 | [] => true
 | x :: l => l.all (fun y => !((ops.getD x.1 default).after.toList.any fun e => Region.binds .any e && e.on == y.1)) && backB ops l
theorem backB_spec : ∀ {l : List (Nat × List Tmp)}, backB ops l = true → l.Pairwise (fun x y => ((ops.getD x.1 default).after.toList.any fun e => Region.binds .any e && e.on == y.1) = false)
 | [], _ => List.Pairwise.nil
 | x :: l, h => by
  simp only [backB, Bool.and_eq_true] at h
  exact List.Pairwise.cons (fun y hy => by have := List.all_eq_true.1 h.1 y hy; simpa using this) (backB_spec h.2)
def regOkX (ops : Array Oper) (M : List Nat) (q : List (Nat × List Tmp)) : Bool :=
 q.length == ops.size && nodupB (q.map (·.1)) && (List.range ops.size).all (fun i => (q.map (·.1)).contains i) && q.all (fun x => x.1 < ops.size && !((ops.getD x.1 default).after.toList.any fun e => Region.binds .any e && (e.on == x.1 || ops.size ≤ e.on)) && (M.getD x.1 0 == reachOf M (ops.getD x.1 default))) && backB ops q
structure LeftX (ops : Array Oper) (M : List Nat) (L : List (Nat × List Tmp)) (listed : Array Bool) : Prop where
 nodup : (L.map (·.1)).Nodup
 back : L.Pairwise (fun x y => ((ops.getD x.1 default).after.toList.any fun e => Region.binds .any e && e.on == y.1) = false)
 size : listed.size = ops.size
 mem : ∀ i, i < ops.size → (listed.getD i true = false ↔ i ∈ L.map (·.1))
 lt : ∀ x ∈ L, x.1 < ops.size ∧ ∀ e ∈ (ops.getD x.1 default).after, Region.binds .any e = true → e.on ≠ x.1 ∧ e.on < ops.size
 mask : ∀ x ∈ L, M.getD x.1 0 = reachOf M (ops.getD x.1 default)
 closed : ∀ j, j < ops.size → j ∉ L.map (·.1) → ∀ x, (M.getD j 0).testBit x = true → x ∉ L.map (·.1)
theorem LeftX.ready_mem {M : List Nat} {L : List (Nat × List Tmp)} {listed : Array Bool} (h : LeftX ops M L listed) {i : Nat} (hi : i ∈ Region.ready .any ops listed) : i < ops.size ∧ i ∈ L.map (·.1) ∧ ∀ e ∈ (ops.getD i default).after, Region.binds .any e = true → e.on ∉ L.map (·.1) := by
 obtain ⟨h0, o, ho, hall⟩ := mem_ready.1 hi
 have hlt : i < ops.size := (Array.getElem?_eq_some_iff.1 ho).1
 have hm := (h.mem i hlt).1 h0
 refine ⟨hlt, hm, fun e he hb => ?_⟩
 rw [get_op hlt] at ho
 injection ho with ho
 obtain ⟨x, hx, hxi⟩ := List.mem_map.1 hm
 have hl := ((h.lt x hx).2 e (by rw [hxi]; exact he) hb).2
 have := hall e (by rw [← ho]; exact he) hb
 rw [listed_iff (by rw [h.size]; exact hl), h.mem e.on hl] at this
 exact this
theorem LeftX.head_ready {M : List Nat} {x : Nat × List Tmp} {L : List (Nat × List Tmp)} {listed : Array Bool} (h : LeftX ops M (x :: L) listed) : x.1 ∈ Region.ready .any ops listed := by
 obtain ⟨h1, h2⟩ := h.lt x (List.mem_cons_self ..)
 refine mem_ready.2 ⟨(h.mem x.1 h1).2 zj, _, get_op h1, fun e he hb => ?_⟩
 obtain ⟨h3, h4⟩ := h2 e he hb
 rw [listed_iff (by rw [h.size]; exact h4), h.mem e.on h4]
 intro hm
 obtain ⟨y, hy, hye⟩ := List.mem_map.1 hm
 rcases List.mem_cons.1 hy with rfl | hy
 ·exact h3 hye.symm
 ·have := (List.pairwise_cons.1 h.back).1 y hy
  have h5 : ((ops.getD x.1 default).after.toList.any fun e => Region.binds .any e && e.on == y.1) = true := List.any_eq_true.2 ⟨e, by simpa using he, by simp [hb, hye]⟩
  rw [h5] at this; cases this
theorem LeftX.out {M : List Nat} {L : List (Nat × List Tmp)} {listed : Array Bool} (h : LeftX ops M L listed) {x : Nat × List Tmp} (hx : x ∈ L) (hout : ∀ e ∈ (ops.getD x.1 default).after, Region.binds .any e = true → e.on ∉ L.map (·.1)) :
  ∀ j, (M.getD x.1 0).testBit j = true → j ∉ L.map (·.1) := by
 intro j hj
 rw [h.mask x hx] at hj
 rcases foldl_bit M j _ _ hj with h0 | ⟨e, he, hb, h1⟩
 ·simp at h0
 ·have he' : e ∈ (ops.getD x.1 default).after := by simpa using he
  have hn := hout e he' hb
  rcases h1 with rfl | h1
  ·exact hn
  ·exact h.closed e.on ((h.lt x hx).2 e he' hb).2 hn j h1
theorem LeftX.step {M : List Nat} {pre post : List (Nat × List Tmp)} {y : Nat × List Tmp} {listed : Array Bool} (hL : LeftX ops M (pre ++ y :: post) listed) (hro : ∀ j, (M.getD y.1 0).testBit j = true → j ∉ (pre ++ y :: post).map (·.1)) : LeftX ops M (pre ++ post) (listed.setIfInBounds y.1 true) := by
 have hsub : (pre ++ post).Sublist (pre ++ y :: post) := List.Sublist.append_left (List.sublist_cons_self _ _) _
 have hyn : y.1 ∉ (pre ++ post).map (·.1) := by
  have := hL.nodup
  rw [List.map_append, List.map_cons] at this
  have h2 := List.nodup_append.1 this
  have h3 := (List.nodup_cons.1 h2.2.1).1
  intro hm
  rw [List.map_append] at hm
  rcases List.mem_append.1 hm with hm | hm
  ·exact h2.2.2 y.1 hm y.1 (List.mem_cons_self ..) rfl
  ·exact h3 hm
 have hmem : ∀ j, j ≠ y.1 → (j ∈ (pre ++ post).map (·.1) ↔ j ∈ (pre ++ y :: post).map (·.1)) := fun j hj => by simp [hj]
 refine ⟨hL.nodup.sublist (hsub.map _), hL.back.sublist hsub, by simp [hL.size], fun j hj => ?_, fun x hx => hL.lt x (hsub.mem hx), fun x hx => hL.mask x (hsub.mem hx), fun j hj hjn x hx => ?_⟩
 ·by_cases e : j = y.1
  ·subst e
   constructor
   ·intro h
    simp [hL.size, hj] at h
   ·intro h; exact absurd h hyn
  ·rw [getD_set_ne true (Ne.symm e), hmem j e]
   exact hL.mem j hj
 ·intro hmx
  by_cases e : j = y.1
  ·subst e; exact hro x hx ((hsub.map _).mem hmx)
  ·exact hL.closed j hj (fun h => hjn ((hmem j e).2 h)) x hx ((hsub.map _).mem hmx)
theorem chainB_pair {M : List Nat} : ∀ {L : List (Nat × List Tmp)}, chainB M L = true → L.Pairwise (fun x y => (M.getD y.1 0).testBit x.1 = true)
 | [], _ => List.Pairwise.nil
 | x :: l, h => by
  simp only [chainB, Bool.and_eq_true, List.all_eq_true] at h
  exact List.Pairwise.cons h.1 (chainB_pair h.2)
theorem LeftX.toLeft {M : List Nat} {L : List (Nat × List Tmp)} {listed : Array Bool} (h : LeftX ops M L listed) (hc : chainB M L = true) : Left ops M L listed :=
 ⟨h.nodup, List.Pairwise.imp₂ (fun x y (h1 : (M.getD y.1 0).testBit x.1 = true) h2 => by simp only [pairOk, Bool.and_eq_true, Bool.or_eq_true, Bool.not_eq_true']; exact ⟨.inl h1, h2⟩) (chainB_pair hc) h.back, h.size, h.mem, h.lt, h.mask, h.closed⟩
theorem any_symE {M : List Nat} {T : List (Nat × List Tmp)} {y : Nat × List Tmp} {K : List (Nat × List Tmp) → St → World → Prop} {Q : Exit → Act → World → Prop} (hK : ∀ F, Mono (K F))
  (hQ : ∀ F S u, K F S u → ∀ B a w, Rep w0 u0 S B a w u → wpList P ops Q ((y :: (F ++ T)).map fun x => ops.getD x.1 default) a w) (hyT : ∀ t ∈ T, (M.getD t.1 0).testBit y.1 = true) :
  ∀ (fuel : Nat) (L F : List (Nat × List Tmp)) (listed : Array Bool) (S : St) (B : Tmp → Nat) (a : Act) (w u : World), L.length + F.length = fuel → chainB M (F ++ T) = true → (L ++ F).Pairwise (fun x y => pairOk ops M x y = true) → LeftX ops M (L ++ F ++ y :: T) listed → (∀ x ∈ L, (M.getD y.1 0).testBit x.1 = true) → (∀ x ∈ L ++ F, ∀ t ∈ T, (M.getD t.1 0).testBit x.1 = true) → Rep w0 u0 S B a w u →
   sym P ops w0 u0 false (L.map (opAt ops)) S u (exitsK P ops w0 u0 K F) → wpAny P .any ops Q (fuel + 1 + T.length) listed a w := by
 intro fuel
 induction fuel with
 | zero =>
  intro L F listed S B a w u hl hc hp hL hy hT hr hs
  obtain rfl := List.length_eq_zero_iff.1 (show L.length = 0 by omega)
  obtain rfl := List.length_eq_zero_iff.1 (show F.length = 0 by omega)
  have hcc : chainB M (y :: T) = true := by
   simp only [chainB, Bool.and_eq_true, List.all_eq_true]
   exact ⟨fun t ht => hyT t ht, by simpa using hc⟩
  rw [Nat.zero_add, Nat.add_comm]
  have h9 := hQ [] S u hs B a w hr
  exact any_chain (y :: T) listed a w ((show LeftX ops M (y :: T) listed from hL).toLeft hcc) hcc (by simpa using h9)
 | succ fuel ih =>
  intro L F listed S B a w u hl hc hp hL hy hT hr hs
  rw [show fuel + 1 + 1 + T.length = (fuel + 1 + T.length) + 1 by omega]
  refine ⟨fun e => ?_, fun i hi => ?_⟩
  ·cases hLF : L ++ F with
   | nil => have h8 := congrArg List.length hLF; rw [List.length_append] at h8; rw [h8] at hl; cases hl
   | cons x L' =>
    rw [hLF] at hL
    have := LeftX.head_ready (L := L' ++ y :: T) hL
    rw [e] at this
    cases this
  ·obtain ⟨hlt, hm, hout⟩ := hL.ready_mem hi
   obtain ⟨z, hz, rfl⟩ := List.mem_map.1 hm
   have hro := hL.out hz hout
   have key : ops[z.1]? = some (opAt ops z).1 := get_op hlt
   -- an operation of the first ones: what stands before it may stand behind it
   have front : ∀ (pre post F' : List (Nat × List Tmp)), L ++ F ++ y :: T = pre ++ z :: (post ++ F' ++ y :: T) → (pre ++ z :: post).Pairwise (fun x y => pairOk ops M x y = true) → (pre ++ post ++ F').Pairwise (fun x y => pairOk ops M x y = true) → pre.length + post.length + F'.length = fuel → chainB M (F' ++ T) = true → (∀ x ∈ pre ++ post, (M.getD y.1 0).testBit x.1 = true) → (∀ x ∈ pre ++ post ++ F', ∀ t ∈ T, (M.getD t.1 0).testBit x.1 = true) →
     sym P ops w0 u0 false ((pre ++ z :: post).map (opAt ops)) S u (exitsK P ops w0 u0 K F') → wpOp P ops Q z.1 (wpAny P .any ops Q (fuel + 1 + T.length) (listed.setIfInBounds z.1 true)) a w := by
    intro pre post F' he hp1 hp2 hfl hc' hy' hT' hs'
    have hsw : ∀ x ∈ pre.map (opAt ops), swapOk ops x (opAt ops z) = true := by
     intro x hx
     obtain ⟨x', hx', rfl⟩ := List.mem_map.1 hx
     have := (List.pairwise_append.1 hp1).2.2 x' hx' z (List.mem_cons_self ..)
     simp only [pairOk, Bool.and_eq_true, Bool.or_eq_true] at this
     rcases this.1 with h1 | h1
     ·exact absurd (List.mem_map.2 ⟨x', by rw [he]; simp [hx'], rfl⟩) (hro x'.1 h1)
     ·exact h1
    rw [List.map_append, List.map_cons] at hs'
    have hone := bubble (zwt hK F') (pre.map (opAt ops)) S u hr.wf hsw hs'
    have hsound := one_sound (Q := Q) (zwf (zwt hK F')) hone (Ext.refl _) hr
    rw [he] at hL hro
    have hL' := LeftX.step hL hro
    have hfin : ∀ a' w', (∃ S' B' u'', Rep w0 u0 S' B' a' w' u'' ∧ (false = false → Ext u u'') ∧ sym P ops w0 u0 false (pre.map (opAt ops) ++ post.map (opAt ops)) S' u'' (exitsK P ops w0 u0 K F')) → wpAny P .any ops Q (fuel + 1 + T.length) (listed.setIfInBounds z.1 true) a' w' := by
     rintro a' w' ⟨S', B', u'', g1, _, g3⟩
     refine ih (pre ++ post) F' _ S' B' a' w' u'' (by rw [List.length_append]; exact hfl) hc' hp2 ?_ hy' hT' g1 ?_
     ·simpa [List.append_assoc] using hL'
     ·rw [List.map_append]; exact g3
    simp only [wpOp, key]
    split
    ·rename_i hw
     rw [if_pos hw] at hsound
     exact .inl (Oper.wp_mono hfin hsound)
    ·rename_i hw
     rw [if_neg hw] at hsound
     exact hfin _ _ hsound
   rcases List.mem_append.1 hz with hz1 | hz1
   ·rcases List.mem_append.1 hz1 with hzL | hzF
    ·obtain ⟨pre, post, rfl⟩ := List.append_of_mem hzL
     refine front pre post F (by simp [List.append_assoc]) (List.pairwise_append.1 hp).1 ?_ (by simp at hl ⊢; omega) hc (fun x hx => hy x (by simp at hx ⊢; rcases hx with h | h <;> simp [h])) (fun x hx => hT x (by simp at hx ⊢; rcases hx with h | h | h <;> simp [h])) hs
     refine hp.sublist ?_
     rw [List.append_assoc, List.append_assoc, List.cons_append]
     exact List.Sublist.append_left (List.sublist_cons_self _ _) _
    ·cases F with
     | nil => cases hzF
     | cons p F =>
      have hzp : z = p := by
       rcases List.mem_cons.1 hzF with h | h
       ·exact h
       ·rw [List.cons_append] at hc
        simp only [chainB, Bool.and_eq_true, List.all_eq_true] at hc
        exact absurd (List.mem_map.2 ⟨p, by simp, rfl⟩) (hro p.1 (hc.1 z (List.mem_append_left _ h)))
      subst hzp
      have hs2 : sym P ops w0 u0 false ((L ++ [z]).map (opAt ops)) S u (exitsK P ops w0 u0 K F) := by
       rw [List.map_append]
       exact sym_app (zwt hK F) _ _ S u (sym_mono_k (fun S u h => h.2) (zwt hK (z :: F)) hs)
      refine front L [] F (by simp [List.append_assoc]) ?_ ?_ (by simp at hl ⊢; omega) ?_ (fun x hx => hy x (by simpa using hx)) (fun x hx => hT x (by simp at hx ⊢; rcases hx with h | h <;> simp [h])) (by simpa using hs2)
      ·refine hp.sublist ?_
       exact List.Sublist.append_left zj _
      ·refine hp.sublist ?_
       rw [List.append_nil]
       exact List.Sublist.append_left (List.sublist_cons_self _ _) _
      ·rw [List.cons_append] at hc
       simp only [chainB, Bool.and_eq_true] at hc
       exact hc.2
   ·rcases List.mem_cons.1 hz1 with rfl | hzT
    ·have hL0 : L = [] := by
      cases L with
      | nil => rfl
      | cons x L => exact absurd (List.mem_map.2 ⟨x, by simp, rfl⟩) (hro x.1 (hy x (List.mem_cons_self ..)))
     subst hL0
     have h9 := hQ F S u (exitsK_now hs) B a w hr
     rw [List.nil_append] at hL hro
     have hL' := LeftX.step hL hro
     have hch : ∀ a' w', wpList P ops Q ((F ++ T).map fun x => ops.getD x.1 default) a' w' → wpAny P .any ops Q (fuel + 1 + T.length) (listed.setIfInBounds z.1 true) a' w' := fun a' w' h => by
      have := any_chain (F ++ T) (listed.setIfInBounds z.1 true) a' w' (hL'.toLeft hc) hc h
      rw [List.length_append] at this
      rw [show fuel + 1 + T.length = F.length + T.length from by have h8 : F.length = fuel + 1 := (by simpa using hl); omega]
      exact this
     rw [List.map_cons] at h9
     unfold wpList at h9
     have h9 : if Region.wanted (opAt ops z).1 (yielded ops a.tmps) = true then (opAt ops z).1.wp P a w (wpList P ops Q ((F ++ T).map fun x => ops.getD x.1 default)) Q ∨ ((opAt ops z).1.asks P a w ∧ LetsOut Q) else wpList P ops Q ((F ++ T).map fun x => ops.getD x.1 default) (a.put (opAt ops z).1.dst undef) w := h9
     simp only [wpOp, key]
     split
     ·rename_i hw
      rw [if_pos hw] at h9
      exact h9.imp (Oper.wp_mono fun a w h => hch a w h) id
     ·rename_i hw
      rw [if_neg hw] at h9
      exact hch _ _ h9
    ·exact absurd (List.mem_map.2 ⟨y, by simp, rfl⟩) (hro y.1 (hyT z hzT))
end
section
variable {P : Program} {ops : Array Oper} {w0 : Base} {u0 : World} {S : St} {u : World}
theorem exitsK_both {K : List (Nat × List Tmp) → St → World → Prop} {p : Nat × List Tmp} {F : List (Nat × List Tmp)} (h1 : K (p :: F) S u) (h2 : sym P ops w0 u0 false [opAt ops p] S u (exitsK P ops w0 u0 K F)) : exitsK P ops w0 u0 K (p :: F) S u := ⟨h1, h2⟩
theorem exitsK_last {K : List (Nat × List Tmp) → St → World → Prop} (h1 : K [] S u) : exitsK P ops w0 u0 K [] S u := h1
theorem sw_join {A : Type} {r c : Code} {Q : MP} (T : A → St) (Φ : A → World → Prop) (h1 : ∀ a u1, Ext u u1 → Φ a u1 → SW P w0 u0 c (T a) u1 Q) (h2 : (∀ a u1, Ext u u1 → Φ a u1 → SW P w0 u0 c (T a) u1 Q) → SW P w0 u0 r S u (MP.seq P w0 u0 c Q)) : SW P w0 u0 r S u (MP.seq P w0 u0 c Q) := h2 h1
end
theorem sw_anyE {P : Program} {w0 : Base} {u0 : World} {ops : Array Oper} {S : St} {u : World} {id : Nat} {Q : MP} (M : List Nat) (L F : List (Nat × List Tmp)) (y : Nat × List Tmp) (T : List (Nat × List Tmp)) (hm : P.follows .mixedOrders = true)
  (hok : (regOkX ops M (L ++ F ++ y :: T) && pairsOk ops M (L ++ F) && chainB M (F ++ T) && L.all (fun x => (M.getD y.1 0).testBit x.1) && (L ++ F).all (fun x => T.all fun t => (M.getD t.1 0).testBit x.1) && T.all (fun t => (M.getD t.1 0).testBit y.1)) = true)
  (h : sym P ops w0 u0 false (L.map (opAt ops)) S u (exitsK P ops w0 u0 (fun F S' u' => sym P ops w0 u0 true ((y :: (F ++ T)).map fun x => (ops.getD x.1 default, [])) S' u' (Q.f .normal)) F)) : SW P w0 u0 (.region id ops true) S u Q := by
 intro B a w u' e hr
 simp only [Bool.and_eq_true, regOkX, beq_iff_eq, List.all_eq_true] at hok
 obtain ⟨⟨⟨⟨⟨⟨⟨⟨⟨h1, h2⟩, h5⟩, h3⟩, h4⟩, g1⟩, g2⟩, g3⟩, g4⟩, g5⟩ := hok
 have hnd := nodupB_spec h2
 have hall : ∀ i, i < ops.size → i ∈ (L ++ F ++ y :: T).map (·.1) := fun i hi => List.contains_iff_mem.1 (h5 i (by simpa using hi))
 have hK : ∀ F, Mono (fun S' u' => sym P ops w0 u0 true ((y :: (F ++ T)).map fun x => (ops.getD x.1 default, ([] : List Tmp))) S' u' (Q.f .normal)) := fun F => zwf (Q.mono _)
 refine wp_region_any hm ?_
 have hs : ops.size = (L.length + F.length) + 1 + T.length := by rw [← h1]; simp; omega
 rw [hs]
 have hlist : LeftX ops M (L ++ F ++ y :: T) (Array.replicate ((L.length + F.length) + 1 + T.length) false) := by
  rw [← hs]
  refine ⟨hnd, backB_spec h4, by simp, fun i hi => ?_, fun x hx => ?_, fun x hx => (h3 x hx).2, fun j hj hjn => absurd (hall j hj) hjn⟩
  ·simp only [Array.getD_eq_getD_getElem?]
   rw [Array.getElem?_eq_getElem (by simpa using hi)]
   simp only [Array.getElem_replicate, Option.getD_some, true_iff]
   exact hall i hi
  ·obtain ⟨⟨k1, k2⟩, k3⟩ := h3 x hx
   refine ⟨by simpa using k1, fun e he hb => ?_⟩
   simp only [Bool.not_eq_true', List.any_eq_false] at k2
   have := k2 e (by simpa using he)
   simp [hb] at this
   exact this
 refine any_symE hK (fun F S u'' h B a w hr => ?_) g5 (L.length + F.length) L F _ S B a _ u' rfl g2 (pairsOk_spec g1) hlist g3 (fun x hx => g4 x hx) hr.drew (zwf (zwt hK F) _ _ _ e h)
 have := sl_key (Q := fun e a' w' => ∃ S' B' u'', Rep w0 u0 S' B' a' w' u'' ∧ Q.f e S' u'') (K := Q.f .normal) (Q.mono _) [] (fun S u h B a w hr => by exact ⟨S, B, u, hr, h⟩) ((y :: (F ++ T)).map fun x => ops.getD x.1 default) S B a w u'' hr (by rw [List.map_map]; exact h)
 rw [List.append_nil] at this
 exact this
def AnyX (P : Program) (w0 : Base) (u0 : World) (ops : Array Oper) (listed : Array Bool) (n : Nat) (S : St) (u : World) (Q : MP) : Prop :=
 ∀ B a w u', Ext u u' → Rep w0 u0 S B a w u' → wpAny P .any ops (fun e a' w' => ∃ S' B' u'', Rep w0 u0 S' B' a' w' u'' ∧ Q.f e S' u'') n listed a w
section
variable {P : Program} {ops : Array Oper} {w0 : Base} {u0 : World} {S : St} {u : World} {Q : MP} {listed : Array Bool}
theorem sw_anyX {id : Nat} (hm : P.follows .mixedOrders = true) (n : Nat) (hn : ops.size = n) (h : AnyX P w0 u0 ops (Array.replicate n false) n S u Q) : SW P w0 u0 (.region id ops true) S u Q := by
 subst hn
 intro B a w u' e hr
 exact wp_region_any hm (h B a _ u' e hr.drew)
theorem takeX (i d n : Nat) (x : SV) (listed' : Array Bool) (k : AnyX P w0 u0 ops listed' n (S.set d x) u Q) (hp : ∀ c S u, ¬ Q.f (.panic c) S u := by intro c S u h; exact h) (hl : listed.setIfInBounds i true = listed' := by kernel_rfl)
  (hs : (Region.noSelect ops && Region.free .any ops listed i && (Region.ready .any ops listed).contains i && Nat.blt i ops.size && (ops.getD i default).dst == some d && (ops.getD i default).guard.isNone && x.at?.isNone && freeB S d && knownB S (ops.getD i default)) = true := by kernel_rfl) (hk : opK (ops.getD i default).op ≠ 2 := by decide)
  (hrun : ∀ B w, (execOp (rho S B) (ops.getD i default)).run P w = .ok (.value (x.conc B)) w := by intro _ _; kernel_rfl) : AnyX P w0 u0 ops listed (n + 1) S u Q := by
 intro B a w u' e hr
 simp only [Bool.and_eq_true, beq_iff_eq, Option.isNone_iff_eq_none] at hs
 obtain ⟨⟨⟨⟨⟨⟨⟨⟨h1, h2⟩, h3⟩, h4⟩, h5⟩, h6⟩, h7⟩, h8⟩, h9⟩ := hs
 have hi : ops[i]? = some (ops.getD i default) := get_op (Nat.le_of_ble_eq_true h4)
 subst hl
 refine wpAny_take (v := x.conc B) hi h1 h2 h3 (fun c a w h => ?_) (.inl ⟨zwj (S := S) h6 B a hr.regs, fun w => by rw [exec_rho hr.regs h9 hk]; exact hrun B w⟩) ?_
 ·obtain ⟨S', B', u'', _, g⟩ := h
  exact absurd g (hp c S' u'')
 ·refine k B _ w u' e ?_
  rw [h5]
  exact hr.set (d := some d) (x := some x) (v := x.conc B) (fun s hs => (zwa h5 h8 s (by rw [h5]; exact hs)).1) (fun z e => by injection e with e; rw [← e]) (fun z t e ht => by injection e with e; rw [← e, h7] at ht; cases ht)
theorem takeXe (i d n : Nat) {x : SV} (y : SV) (hxy : x = y) (listed' : Array Bool) (k : AnyX P w0 u0 ops listed' n (S.set d y) u Q) (hp : ∀ c S u, ¬ Q.f (.panic c) S u := by intro c S u h; exact h) (hl : listed.setIfInBounds i true = listed' := by kernel_rfl)
  (hs : (Region.noSelect ops && Region.free .any ops listed i && (Region.ready .any ops listed).contains i && Nat.blt i ops.size && (ops.getD i default).dst == some d && (ops.getD i default).guard.isNone && x.at?.isNone && freeB S d && knownB S (ops.getD i default)) = true := by kernel_rfl) (hk : opK (ops.getD i default).op ≠ 2 := by decide)
  (hrun : ∀ B w, (execOp (rho S B) (ops.getD i default)).run P w = .ok (.value (x.conc B)) w := by intro _ _; kernel_rfl) : AnyX P w0 u0 ops listed (n + 1) S u Q := by
 subst hxy; exact takeX i d n x listed' k hp hl hs hk hrun
def leftB (ops : Array Oper) (M : List Nat) (L : List (Nat × List Tmp)) (listed : Array Bool) : Bool :=
 nodupB (L.map (·.1)) && backB ops L && listed.size == ops.size && (List.range ops.size).all (fun i => (listed.getD i true == false) == (L.map (·.1)).contains i) &&
  L.all (fun x => Nat.blt x.1 ops.size && !((ops.getD x.1 default).after.toList.any fun e => Region.binds .any e && (e.on == x.1 || Nat.ble ops.size e.on)) && (M.getD x.1 0 == reachOf M (ops.getD x.1 default))) &&
  (List.range ops.size).all (fun j => (L.map (·.1)).contains j || (L.map (·.1)).all fun x => !(M.getD j 0).testBit x)
theorem leftB_spec {M : List Nat} {L : List (Nat × List Tmp)} (h : leftB ops M L listed = true) : LeftX ops M L listed := by
 simp only [leftB, Bool.and_eq_true, beq_iff_eq, List.all_eq_true, List.mem_range] at h
 obtain ⟨⟨⟨⟨⟨h1, h2⟩, h3⟩, h4⟩, h5⟩, h6⟩ := h
 refine ⟨nodupB_spec h1, backB_spec h2, h3, fun i hi => ?_, fun x hx => ?_, fun x hx => (h5 x hx).2, fun j hj hjn x hx hm => ?_⟩
 ·have := h4 i hi
  constructor
  ·intro h
   rw [h] at this
   exact List.contains_iff_mem.1 (by simpa using this.symm)
  ·intro h
   rw [List.contains_iff_mem.2 h] at this
   simpa using this
 ·obtain ⟨⟨k1, k2⟩, _⟩ := h5 x hx
  refine ⟨Nat.le_of_ble_eq_true k1, fun e he hb => ?_⟩
  simp only [Bool.not_eq_true', List.any_eq_false] at k2
  have := k2 e (by simpa using he)
  simp [hb] at this
  exact this
 ·have := h6 j hj
  rw [Bool.or_eq_true] at this
  rcases this with h9 | h9
  ·exact hjn (List.contains_iff_mem.1 h9)
  ·have := List.all_eq_true.1 h9 x hm
   rw [hx] at this; cases this
theorem restX (M : List Nat) (L F : List (Nat × List Tmp)) (y : Nat × List Tmp) (T : List (Nat × List Tmp)) {n : Nat}
  (hok : (leftB ops M (L ++ F ++ y :: T) listed && pairsOk ops M (L ++ F) && chainB M (F ++ T) && L.all (fun x => (M.getD y.1 0).testBit x.1) && (L ++ F).all (fun x => T.all fun t => (M.getD t.1 0).testBit x.1) && T.all (fun t => (M.getD t.1 0).testBit y.1) && Nat.beq n ((L.length + F.length) + 1 + T.length)) = true)
  (h : sym P ops w0 u0 false (L.map (opAt ops)) S u (exitsK P ops w0 u0 (fun F S' u' => sym P ops w0 u0 true ((y :: (F ++ T)).map fun x => (ops.getD x.1 default, [])) S' u' (Q.f .normal)) F)) : AnyX P w0 u0 ops listed n S u Q := by
 intro B a w u' e hr
 simp only [Bool.and_eq_true, List.all_eq_true] at hok
 obtain ⟨⟨⟨⟨⟨⟨g0, g1⟩, g2⟩, g3⟩, g4⟩, g5⟩, g6⟩ := hok
 have hK : ∀ F, Mono (fun S' u' => sym P ops w0 u0 true ((y :: (F ++ T)).map fun x => (ops.getD x.1 default, ([] : List Tmp))) S' u' (Q.f .normal)) := fun F => zwf (Q.mono _)
 rw [Nat.eq_of_beq_eq_true g6]
 refine any_symE hK (fun F S u'' h B a w hr => ?_) g5 (L.length + F.length) L F _ S B a _ u' rfl g2 (pairsOk_spec g1) (leftB_spec g0) g3 (fun x hx => g4 x hx) hr (zwf (zwt hK F) _ _ _ e h)
 have := sl_key (Q := fun e a' w' => ∃ S' B' u'', Rep w0 u0 S' B' a' w' u'' ∧ Q.f e S' u'') (K := Q.f .normal) (Q.mono _) [] (fun S u h B a w hr => by exact ⟨S, B, u, hr, h⟩) ((y :: (F ++ T)).map fun x => ops.getD x.1 default) S B a w u'' hr (by rw [List.map_map]; exact h)
 rw [List.append_nil] at this
 exact this
end
theorem PasV.news {u : World} {x : Sl} {L : List PL} (h : PasV u x L) (hL : 0 < L.length) : ∃ b o, x.a = some ⟨b, o, none⟩ ∧ ∀ j v, (pcs L)[j]? = some v → u.cell? ⟨b, o + j, none⟩ = some v := by
 obtain ⟨h1, h2, h3, h4⟩ := h
 obtain ⟨b, o, e, hc⟩ := h4 (by rw [pcs_len] at h1; omega)
 exact ⟨b, o, e, fun j v hv => by rw [hc j (List.getElem?_eq_some_iff.1 hv).1]; exact hv⟩
theorem pcs_one' {L : List PL} : ∀ v ∈ pcs L, v.oneCell' = true := fun v hv => List.all_eq_true.1 pcs_one v hv
end Go.Proofs.YtdmpfhhhlhoeiaaGreat
