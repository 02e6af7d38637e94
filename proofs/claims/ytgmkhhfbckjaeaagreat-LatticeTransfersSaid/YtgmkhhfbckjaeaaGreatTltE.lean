/- Parts of the proof: contracts of functions, each walked once, and plain laws. -/
import Derived.Test.YtgmkhhfbckjaeaaGreatTltD
set_option linter.unusedVariables false
namespace Go.Proofs.YtgmkhhfbckjaeaaGreat
open Go.RowKit
theorem k_withinB {u w : World} {n m : Int} (d : Dat u w) (hm : 1 ≤ m) (hm2 : m ≤ 4611686018427387904) (hn0 : -9223372036854775808 ≤ n) (hn1 : n ≤ 9223372036854775807) : Calls Tryz.prog 100 #[.int .i64 n, .int .i64 m] w (Post u w fun v _ => ∃ z : Int, v = .int .i64 z ∧ 0 ≤ z ∧ z < m) :=
 Post.mono (k_within d hm hm2 hn0 hn1) fun v u' _ h => ⟨n % m, h, Int.emod_nonneg _ xq, Int.emod_lt_of_pos _ xq⟩
set_option maxHeartbeats 1000000 in
theorem k_word {u w : World} {k : Int} (d : Dat u w) (hk0 : -9223372036854775808 ≤ k) (hk1 : k ≤ 9223372036854775807) : Calls Tryz.prog 99 #[.int .i64 k, .int .i64 6, .int .i64 9, .int .i64 1] w (Post u w fun v _ => ∃ W : WL, v = W.v ∧ CoefOK W) := by
 refine zzm (args := [.int .i64 k, .int .i64 6, .int .i64 9, .int .i64 1]) Tryz.func99 rfl Tryz.ntmps99 (rs := [.cell 8 66]) Tryz.results99 (le_b rfl) (le_b rfl) d ?_
 refine sq9 (zzk 8 ⟨66, [.int .i64 0, .int .i64 0, .int .i64 0, .int .i64 0]⟩ (zzb (sq9 (zza 10 (zI k) (zzg 11 100 _ fun _ _ _ ab => Post.mono ((show Calls _ _ #[.int .i64 k, .int .i64 1099511627776] _ _ from k_withinB (n := k) (m := 1099511627776) ab xq xq xq xq)) ?_)))))
 rintro _ u15 g16 ⟨aa, rfl, h13, h14⟩
 refine zza 0 (zI aa) (zzb (sq9 (zza 12 (zI 6) (zza 13 (zI aa) (zza 14 (zI 9) (zza 15 (zI 6) (zza 16 (zI 3) (zza 17 (zI 4) (sy_rem 18 (n := aa) (m := 4) (aa % 4) yz (Int.tmod_eq_emod_of_nonneg xq) ?_)))))))))
 refine zyq 19 (x := zI (IntKind.i64.wrap ((6 : Int) + (aa % 4)))) (zI ((6 : Int) + (aa % 4))) zq (zza 20 (.v (.agg #[.int .i64 ((6 : Int) + (aa % 4)), .int .i64 0, .int .i64 0, .int .i64 0])) (zzk 9 ⟨66, [.int .i64 0, .int .i64 0, .int .i64 0, .int .i64 0]⟩ (zzj ⟨66, [.int .i64 ((6 : Int) + (aa % 4)), .int .i64 0, .int .i64 0, .int .i64 0]⟩ ty66 ?_)))
 refine zzb (sq9 (zza 21 (zI aa) (zza 22 (zI 9) (zza 23 (zI 6) (zza 24 (zI 3) (zza 25 (zI 4) (sy_quo 26 (n := aa) (m := 4) (aa / 4) yz (by rw [Int.tdiv_eq_ediv_of_nonneg xq]; exact IntWalk.i64_in _ xq) ?_)))))))
 refine zza 0 (zI (aa / 4)) (zzb (sq9 (zza 27 (.adr 9 0) (zzi 28 (zI ((6 : Int) + (aa % 4))) ty3 zzl (zyq 29 (x := zI (IntKind.i64.wrap (((6 : Int) + (aa % 4)) - 1))) (zI (((6 : Int) + (aa % 4)) - 1)) zq (zza 30 (zI 1) (zyq 31 (x := zI (IntKind.i64.wrap ((((6 : Int) + (aa % 4)) - 1) - 1))) (zI ((((6 : Int) + (aa % 4)) - 1) - 1)) zq (zza 32 (zI (aa / 4)) (sy_rem 33 (n := aa / 4) (m := 2) ((aa / 4) % 2) yz (Int.tmod_eq_emod_of_nonneg xq) ?_)))))))))
 refine zyq 34 (x := zI (IntKind.i64.wrap (((((6 : Int) + (aa % 4)) - 1) - 1) - ((aa / 4) % 2)))) (zI (((((6 : Int) + (aa % 4)) - 1) - 1) - ((aa / 4) % 2))) zq (zza 35 (.adr 9 1) (zzj ⟨66, [.int .i64 ((6 : Int) + (aa % 4)), .int .i64 (((((6 : Int) + (aa % 4)) - 1) - 1) - ((aa / 4) % 2)), .int .i64 0, .int .i64 0]⟩ ty3 ?_))
 refine zzc 52 [(0, zI (aa / 4)), (8, .adr 8 0), (9, .adr 9 0)] [(8, ⟨66, [.int .i64 0, .int .i64 0, .int .i64 0, .int .i64 0]⟩), (9, ⟨66, [.int .i64 ((6 : Int) + (aa % 4)), .int .i64 (((((6 : Int) + (aa % 4)) - 1) - 1) - ((aa / 4) % 2)), .int .i64 0, .int .i64 0]⟩)] (sq9 (zza 36 (zI (aa / 4)) (sy_quo 37 (n := aa / 4) (m := 2) ((aa / 4) / 2) yz (by rw [Int.tdiv_eq_ediv_of_nonneg xq]; exact IntWalk.i64_in _ xq) ?_)))
 refine zza 0 (zI ((aa / 4) / 2)) (zzb (sq9 (zza 38 (.adr 9 1) (zzi 39 (zI (((((6 : Int) + (aa % 4)) - 1) - 1) - ((aa / 4) % 2))) ty3 zzl (sy_max0 40 (n := ((((6 : Int) + (aa % 4)) - 1) - 1) - ((aa / 4) % 2)) (v := ((((6 : Int) + (aa % 4)) - 1) - 1) - ((aa / 4) % 2)) (by split <;> omega) ?_)))))
 refine zza 41 (.adr 9 1) (zzj ⟨66, [.int .i64 ((6 : Int) + (aa % 4)), .int .i64 (((((6 : Int) + (aa % 4)) - 1) - 1) - ((aa / 4) % 2)), .int .i64 0, .int .i64 0]⟩ ty3 ?_)
 refine zzb (sq9 (zza 42 (zI ((aa / 4) / 2)) (sy_rem 43 (n := (aa / 4) / 2) (m := 3) (((aa / 4) / 2) % 3) yz (Int.tmod_eq_emod_of_nonneg xq) ?_)))
 refine zyq 44 (x := zI (IntKind.i64.wrap ((1 : Int) + (((aa / 4) / 2) % 3)))) (zI ((1 : Int) + (((aa / 4) / 2) % 3))) zq (zza 45 (zI ((aa / 4) / 2)) (sy_quo 46 (n := (aa / 4) / 2) (m := 3) (((aa / 4) / 2) / 3) yz (by rw [Int.tdiv_eq_ediv_of_nonneg xq]; exact IntWalk.i64_in _ xq) ?_))
 refine sy_rem 47 (n := ((aa / 4) / 2) / 3) (m := 2) ((((aa / 4) / 2) / 3) % 2) yz (Int.tmod_eq_emod_of_nonneg xq) ?_
 refine zyq 48 (x := zI (IntKind.i64.wrap ((1 : Int) + ((((aa / 4) / 2) / 3) % 2)))) (zI ((1 : Int) + ((((aa / 4) / 2) / 3) % 2))) zq (zza 49 (.adr 9 2) (zzj ⟨66, [.int .i64 ((6 : Int) + (aa % 4)), .int .i64 (((((6 : Int) + (aa % 4)) - 1) - 1) - ((aa / 4) % 2)), .int .i64 ((1 : Int) + (((aa / 4) / 2) % 3)), .int .i64 0]⟩ ty3 ?_))
 refine zza 50 (.adr 9 3) (zzj ⟨66, [.int .i64 ((6 : Int) + (aa % 4)), .int .i64 (((((6 : Int) + (aa % 4)) - 1) - 1) - ((aa / 4) % 2)), .int .i64 ((1 : Int) + (((aa / 4) / 2) % 3)), .int .i64 ((1 : Int) + ((((aa / 4) / 2) / 3) % 2))]⟩ ty3 ?_)
 refine zzb (sq9 (zzi 51 (.v (.agg #[.int .i64 ((6 : Int) + (aa % 4)), .int .i64 (((((6 : Int) + (aa % 4)) - 1) - 1) - ((aa / 4) % 2)), .int .i64 ((1 : Int) + (((aa / 4) / 2) % 3)), .int .i64 ((1 : Int) + ((((aa / 4) / 2) / 3) % 2))])) ty66 zze (zzj ⟨66, [.int .i64 ((6 : Int) + (aa % 4)), .int .i64 (((((6 : Int) + (aa % 4)) - 1) - 1) - ((aa / 4) % 2)), .int .i64 ((1 : Int) + (((aa / 4) / 2) % 3)), .int .i64 ((1 : Int) + ((((aa / 4) / 2) / 3) % 2))]⟩ ty66 ?_)))
 refine zzb (zzo (ret0 [.agg #[.int .i64 ((6 : Int) + (aa % 4)), .int .i64 (((((6 : Int) + (aa % 4)) - 1) - 1) - ((aa / 4) % 2)), .int .i64 ((1 : Int) + (((aa / 4) / 2) % 3)), .int .i64 ((1 : Int) + ((((aa / 4) / 2) / 3) % 2))]] ⟨zzr ty66 zze, trivial⟩ fun u18 e19 => ?_))
 exact ⟨⟨(6 : Int) + (aa % 4), ((((6 : Int) + (aa % 4)) - 1) - 1) - ((aa / 4) % 2), (1 : Int) + (((aa / 4) / 2) % 3), (1 : Int) + ((((aa / 4) / 2) / 3) % 2)⟩, rfl, by unfold CoefOK; dsimp only; omega⟩
theorem k_coef {u w : World} {k : Int} (d : Dat u w) (hk0 : -9223372036854775808 ≤ k) (hk1 : k ≤ 9223372036854775807) : Calls Tryz.prog 38 #[.int .i64 k] w (Post u w fun v _ => ∃ W : WL, v = W.v ∧ CoefOK W) := by
 refine zzm (args := [.int .i64 k]) Tryz.func38 rfl Tryz.ntmps38 (rs := [.cell 2 66]) Tryz.results38 (le_b rfl) (le_b rfl) d ?_
 refine sq9 (zzk 2 ⟨66, [.int .i64 0, .int .i64 0, .int .i64 0, .int .i64 0]⟩ (zzb (sq9 (zza 3 (zI k) (zzg 4 99 _ fun _ _ _ ae => Post.mono (k_word (k := k) ae xq xq) ?_)))))
 rintro _ u14 g15 ⟨aa, rfl, ab⟩
 have hw17 := ab.ok
 have ac : 1 ≤ aa.f := by have h9 := ab; unfold CoefOK at h9; omega
 have ad : aa.f ≤ 24 := by have h9 := ab; unfold CoefOK at h9; omega
 refine zzj ⟨66, aa.cs⟩ ty66 ?_
 refine zzb (zzo (ret0 [.agg #[.int .i64 aa.b, .int .i64 aa.f, .int .i64 aa.r, .int .i64 aa.o]] ⟨zzr ty66 zze, trivial⟩ fun u18 e19 => ?_))
 exact ⟨aa, rfl, by assumption⟩
theorem k_wat {u w : World} {x : Sl} {l : List Int} {i : Nat} (d : Dat u w) (hx : SlR .i64 u x.a x.n x.c l) (hb : ∀ z ∈ l, -9223372036854775808 ≤ z ∧ z ≤ 9223372036854775807) (hi9 : i ≤ 1000000000) : Calls Tryz.prog 133 #[x.v, .int .i64 (i : Int)] w (Post u w fun v _ => v = .int .i64 (l.getD i 0)) := by
 have hlen : l.length = x.n := hx.1
 refine zzm (args := [x.v, .int .i64 i]) Tryz.func133 rfl Tryz.ntmps133 (rs := [.tmp 4]) Tryz.results133 (le_b rfl) (le_b rfl) d ?_
 refine sq9 (zza 4 (zI 0) (zzb (zzd (sq9 (zza 5 (zI i) (zza 6 (zB (decide ((0 : Int) ≤ (i : Int)))) (zyq 7 (x := zB (decide ((0 : Int) ≤ (i : Int)))) (zB true) (by rw [show (decide ((0 : Int) ≤ (i : Int))) = true from decide_eq_true xq]) (zza 8 (zI i) ?_ (hw := w1 2 true 7)))))))))
 refine zza 9 (.v (x.v)) ?_ (hw := w1 2 true 7)
 refine zza 10 (zI x.n) ?_ (hw := w1 2 true 7)
 refine zza 11 (zB (decide ((i : Int) < (x.n : Int)))) ?_ (hw := w1 2 true 7)
 refine zza 12 (zB (decide ((i : Int) < (x.n : Int)))) (zzb (zzu (b := decide ((i : Int) < (x.n : Int))) xj (fun aa => ?_) (fun aa => ?_)))
 ·have qhb12 := of_decide_eq_true aa
  refine sq9 (zza 13 (.v (x.v)) (zza 14 (zI i) ?_))
  have hl13 := (hx).1
  obtain ⟨b13, ad, ac, ab⟩ := ints_at hx (i := i) xq
  have hz13 := ints_bd hb xq i
  refine zya 15 (ad + i * 1) (n := x.n) (off := ad) (sz := 1) (i := (i : Int)) xq ac xq xq sl22 (zyl 16 (.int .i64 (l.getD i 0)) ab ty3 (zza 4 (zI (l.getD i 0)) (zzb (zzo (zzw (ret0 [.int .i64 (l.getD i 0)] ⟨zzq, trivial⟩ fun u14 e15 => ?_))))))
  rfl
 have qhb12 := of_decide_eq_false aa
 refine zzs (zzp ?_)
 refine sq9 (zza 4 (zI 0) (zzb (zzo (ret0 [.int .i64 0] ⟨zzq, trivial⟩ fun u16 e17 => ?_))))
 show Value.int _ _ = Value.int _ _
 rw [show l.getD i 0 = 0 by rw [List.getD_eq_getElem?_getD, List.getElem?_eq_none xq]; rfl]
set_option maxHeartbeats 2000000 in
theorem k_latWrong {u w : World} {x y : Sl} (d : Dat u w) (hx : SlR .i64 u x.a x.n x.c [8]) (hy : SlR .i64 u y.a y.n y.c [0, 16]) : Calls Tryz.prog 104 #[x.v, y.v, (⟨8, 4, 1, 1⟩ : WL).v] w (Post u w fun v u' => v = .int .i64 0) := by
 have hlx : x.n = 1 := hx.1.symm
 have hly : y.n = 2 := hy.1.symm
 refine zzm (args := [x.v, y.v, .agg #[.int .i64 8, .int .i64 4, .int .i64 1, .int .i64 1]]) Tryz.func104 rfl Tryz.ntmps104 (rs := [.tmp 6]) Tryz.results104 (le_b rfl) (le_b rfl) d ?_
 refine sq9 (zzk 5 ⟨66, [.int .i64 8, .int .i64 4, .int .i64 1, .int .i64 1]⟩ (zza 6 (zI 0) (zzb (zzd (sq9 (zzi 13 (.v (.agg #[.int .i64 8, .int .i64 4, .int .i64 1, .int .i64 1])) ty66 zze (zzg 14 103 _ fun _ _ ab ay => Post.mono (k_fxValid (W := (⟨8, 4, 1, 1⟩ : WL)) ay (show WdOK (⟨8, 4, 1, 1⟩ : WL) by unfold WdOK; decide)) ?_)))))))
 rintro _ u12 aa rfl
 refine zza 15 (zB false) (zzb (zys xj (zzs (zzp ?_))))
 refine zzd (sq9 (zza 16 (.v (x.v)) (zza 17 (zI x.n) (zza 18 (zB (decide ((8 : Int) < (x.n : Int)))) (zyq 19 (x := zB (decide ((8 : Int) < (x.n : Int)))) (zB false) (by rw [show (decide ((8 : Int) < (x.n : Int))) = false from decide_eq_false xq]) (zza 20 (.v (y.v)) ?_ (hw := w1 3 false 19)))))))
 refine zza 21 (zI y.n) ?_ (hw := w1 3 false 19)
 refine zza 22 (.v (x.v)) ?_ (hw := w1 3 false 19)
 refine zza 23 (zI x.n) ?_ (hw := w1 3 false 19)
 refine zyq 24 (x := zI (IntKind.i64.wrap ((x.n : Int) + 1))) (zI (x.n + 1 : Nat)) (eqI yq) ?_ (hw := w1 3 false 19)
 refine zza 25 (zB ((y.n : Int) != ((x.n + 1 : Nat) : Int))) ?_ (hw := w1 3 false 19)
 refine zza 26 (zB ((y.n : Int) != ((x.n + 1 : Nat) : Int))) (zzb (zzu (b := (y.n : Int) != ((x.n + 1 : Nat) : Int)) xj (fun hb => ?_) (fun hb => ?_)))
 ·exact absurd hb (by rw [show ((y.n : Int) != ((x.n + 1 : Nat) : Int)) = false from (by rw [hlx, hly]; rfl)]; decide)
 clear hb
 refine zzs (zzp ?_)
 refine zzd (sq9 (zza 27 (.v (y.v)) (zza 28 (zI y.n) (zza 29 (zI 0) (zzb (zzt (sw_rounds 2 ?_)))))))
 refine sq9 (zza 30 (zB (decide ((0 : Int) < (y.n : Int)))) (zzb (zzd (zzu (b := decide ((0 : Int) < (y.n : Int))) xj (fun hb => ?_) (fun hb => ?_)))))
 ·clear hb
  refine zzs (zzp ?_)
  refine zzd (zzt (sq9 ?_))
  have hl16 := ((hy.ext (ab.t aa.ext))).1
  obtain ⟨b16, aq, al, ah⟩ := ints_at (hy.ext (ab.t aa.ext)) (i := 0) xq
  have hz16 := ints_bd (show ∀ z ∈ ([0, 16] : List Int), -9223372036854775808 ≤ z ∧ z ≤ 9223372036854775807 by decide) xq 0
  refine zya 31 (aq + 0 * 1) (n := y.n) (off := aq) (sz := 1) (i := 0) xq al xq xq sl22 (zyl 32 (.int .i64 0) ah ty3 (zza 8 (zI 0) (zzb (sq9 (zzi 33 (.v (.agg #[.int .i64 8, .int .i64 4, .int .i64 1, .int .i64 1])) ty66 zze (zza 34 (zI 0) (zzg 35 162 _ fun _ _ ad aC => Post.mono (k_fxFits (W := (⟨8, 4, 1, 1⟩ : WL)) (z := 0) aC (show WdOK (⟨8, 4, 1, 1⟩ : WL) by unfold WdOK; decide) (by decide +kernel) (by decide +kernel)) ?_)))))))
  rintro _ u18 ac rfl
  refine zza 36 (zB false) (zzb (zys xj (zzs (zzp ?_))))
  refine zzf (zza 37 (zI 1) (zza 29 (zI 1) (zzx ?_)))
  refine rn_next ?_
  refine sw_weak (T := St.of 71 [(0, .v (x.v)), (5, .adr 5 0), (27, .v (y.v)), (28, zI y.n), (29, zI 1)] [(5, ⟨66, [.int .i64 8, .int .i64 4, .int .i64 1, .int .i64 1]⟩)]) yw ?_
  refine sq9 (zza 30 (zB (decide ((1 : Int) < (y.n : Int)))) (zzb (zzd (zzu (b := decide ((1 : Int) < (y.n : Int))) xj (fun hb => ?_) (fun hb => ?_)))))
  ·clear hb
   refine zzs (zzp ?_)
   refine zzd (zzt (sq9 ?_))
   have hl21 := ((hy.ext (ab.t (aa.t (ad.t ac.ext))))).1
   obtain ⟨b21, ax, ak, aj⟩ := ints_at (hy.ext (ab.t (aa.t (ad.t ac.ext)))) (i := 1) xq
   have hz21 := ints_bd (show ∀ z ∈ ([0, 16] : List Int), -9223372036854775808 ≤ z ∧ z ≤ 9223372036854775807 by decide) xq 1
   refine zya 31 (ax + 1 * 1) (n := y.n) (off := ax) (sz := 1) (i := 1) xq ak xq xq sl22 (zyl 32 (.int .i64 16) aj ty3 (zza 8 (zI 16) (zzc 71 [(0, .v (x.v)), (5, .adr 5 0), (8, zI 16), (27, .v (y.v)), (28, zI y.n), (29, zI 1)] [(5, ⟨66, [.int .i64 8, .int .i64 4, .int .i64 1, .int .i64 1]⟩)] (sq9 (zzi 33 (.v (.agg #[.int .i64 8, .int .i64 4, .int .i64 1, .int .i64 1])) ty66 zze (zza 34 (zI 16) (zzg 35 162 _ fun _ _ ae az => Post.mono (k_fxFits (W := (⟨8, 4, 1, 1⟩ : WL)) (z := 16) az (show WdOK (⟨8, 4, 1, 1⟩ : WL) by unfold WdOK; decide) (by decide +kernel) (by decide +kernel)) ?_)))))))
   rintro _ u23 af rfl
   refine zza 36 (zB false) (zzb (zys xj (zzs (zzp ?_))))
   refine zzf (zza 37 (zI 2) (zza 29 (zI 2) (zzx ?_)))
   refine rn_next ?_
   refine sw_weak (T := St.of 71 [(0, .v (x.v)), (5, .adr 5 0), (27, .v (y.v)), (28, zI y.n), (29, zI 2)] [(5, ⟨66, [.int .i64 8, .int .i64 4, .int .i64 1, .int .i64 1]⟩)]) yw ?_
   refine sq9 (zza 30 (zB (decide ((2 : Int) < (y.n : Int)))) (zzb (zzd (zzu (b := decide ((2 : Int) < (y.n : Int))) xj (fun hb => ?_) (fun hb => ?_)))))
   ·exact absurd hb (by rw [show (decide ((2 : Int) < (y.n : Int))) = false from decide_eq_false xq]; decide)
   clear hb
   refine zyc (zzp (zzd (sq9 (zza 38 (.v (x.v)) (zza 39 (zI x.n) (zza 40 (zI 0) (zzb (zzt (sw_rounds 1 ?_)))))))))
   refine sq9 (zza 41 (zB (decide ((0 : Int) < (x.n : Int)))) (zzb (zzd (zzu (b := decide ((0 : Int) < (x.n : Int))) xj (fun hb => ?_) (fun hb => ?_)))))
   ·clear hb
    refine zzs (zzp ?_)
    refine zzd (zzt (sq9 ?_))
    have hl26 := ((hx.ext (ab.t (aa.t (ad.t (ac.t (ae.t af.ext))))))).1
    obtain ⟨b26, ar, ag, ai⟩ := ints_at (hx.ext (ab.t (aa.t (ad.t (ac.t (ae.t af.ext)))))) (i := 0) xq
    have hz26 := ints_bd (show ∀ z ∈ ([8] : List Int), -9223372036854775808 ≤ z ∧ z ≤ 9223372036854775807 by decide) xq 0
    refine zya 42 (ar + 0 * 1) (n := x.n) (off := ar) (sz := 1) (i := 0) xq ag xq xq sl22 (zyl 43 (.int .i64 8) ai ty3 (zza 10 (zI 8) (zzb (sq9 (zzi 44 (.v (.agg #[.int .i64 8, .int .i64 4, .int .i64 1, .int .i64 1])) ty66 zze (zza 45 (zI 8) (zzg 46 162 _ fun _ _ ao aA => Post.mono (k_fxFits (W := (⟨8, 4, 1, 1⟩ : WL)) (z := 8) aA (show WdOK (⟨8, 4, 1, 1⟩ : WL) by unfold WdOK; decide) (by decide +kernel) (by decide +kernel)) ?_)))))))
    rintro _ u28 aw rfl
    refine zza 47 (zB false) (zza 48 (zB false) (zzi 49 (.v (.agg #[.int .i64 8, .int .i64 4, .int .i64 1, .int .i64 1])) ty66 zze ?_ (hw := w1 4 false 48)))
    refine zza 50 (zI 8) ?_ (hw := w1 4 false 48)
    refine zza 51 (zI (-8)) ?_ (hw := w1 4 false 48)
    refine zzg 52 162 _ (fun _ _ av aB => Post.mono (k_fxFits (W := (⟨8, 4, 1, 1⟩ : WL)) (z := (-8)) aB (show WdOK (⟨8, 4, 1, 1⟩ : WL) by unfold WdOK; decide) (by decide +kernel) (by decide +kernel)) ?_) (hw := w1 4 false 48)
    rintro _ u32 au rfl
    refine zza 53 (zB false) ?_ (hw := w1 4 false 48)
    refine zza 54 (zB false) (zzb (zys xj (zzs (zzp ?_))))
    refine zzf (zza 55 (zI 1) (zza 40 (zI 1) (zzx ?_)))
    refine rn_next ?_
    refine sw_weak (T := St.of 71 [(0, .v (x.v)), (5, .adr 5 0), (38, .v (x.v)), (39, zI x.n), (40, zI 1)] [(5, ⟨66, [.int .i64 8, .int .i64 4, .int .i64 1, .int .i64 1]⟩)]) yw ?_
    refine sq9 (zza 41 (zB (decide ((1 : Int) < (x.n : Int)))) (zzb (zzd (zzu (b := decide ((1 : Int) < (x.n : Int))) xj (fun hb => ?_) (fun hb => ?_)))))
    ·exact absurd hb (by rw [show (decide ((1 : Int) < (x.n : Int))) = false from decide_eq_false xq]; decide)
    clear hb
    refine zyc (zzp (zzd (sq9 (zza 56 (.v (x.v)) (zza 57 (zI x.n) (zza 58 (zI 0) (zzb (zzt (sw_rounds 1 ?_)))))))))
    refine sq9 (zza 59 (zB (decide ((0 : Int) < (x.n : Int)))) (zzb (zzd (zzu (b := decide ((0 : Int) < (x.n : Int))) xj (fun hb => ?_) (fun hb => ?_)))))
    ·clear hb
     refine zzs (zzp ?_)
     refine zzd (zzt (sq9 ?_))
     have hl35 := ((hx.ext (ab.t (aa.t (ad.t (ac.t (ae.t (af.t (ao.t (aw.t (av.t au.ext))))))))))).1
     obtain ⟨b35, ap, am, an⟩ := ints_at (hx.ext (ab.t (aa.t (ad.t (ac.t (ae.t (af.t (ao.t (aw.t (av.t au.ext)))))))))) (i := 0) xq
     have hz35 := ints_bd (show ∀ z ∈ ([8] : List Int), -9223372036854775808 ≤ z ∧ z ≤ 9223372036854775807 by decide) xq 0
     refine zya 60 (ap + 0 * 1) (n := x.n) (off := ap) (sz := 1) (i := 0) xq am xq xq sl22 (zyl 61 (.int .i64 8) an ty3 (zza 12 (zI 8) (zzc 71 [(5, .adr 5 0), (12, zI 8), (56, .v (x.v)), (57, zI x.n), (58, zI 0)] [(5, ⟨66, [.int .i64 8, .int .i64 4, .int .i64 1, .int .i64 1]⟩)] (sq9 (zza 62 (zI 8) (zza 63 (zI 8) (zza 64 (zI (-8)) (sy_max2 65 (n := 8) (m := (-8)) (v := 8) yz ?_))))))))
     refine zza 66 (.adr 5 1) (zzi 67 (zI 4) ty3 zzl (sy_shl 68 (k := .i64) (n := 1) (s := 4) (16) yz yz (by decide +kernel) ?_))
     refine zza 69 (zB false) (zzb (zys xj (zzs (zzp ?_))))
     refine zzf (zza 70 (zI 1) (zza 58 (zI 1) (zzx ?_)))
     refine rn_next ?_
     refine sw_weak (T := St.of 71 [(5, .adr 5 0), (56, .v (x.v)), (57, zI x.n), (58, zI 1)] [(5, ⟨66, [.int .i64 8, .int .i64 4, .int .i64 1, .int .i64 1]⟩)]) yw ?_
     refine sq9 (zza 59 (zB (decide ((1 : Int) < (x.n : Int)))) (zzb (zzd (zzu (b := decide ((1 : Int) < (x.n : Int))) xj (fun hb => ?_) (fun hb => ?_)))))
     ·exact absurd hb (by rw [show (decide ((1 : Int) < (x.n : Int))) = false from decide_eq_false xq]; decide)
     clear hb
     refine zyc (zzp (sq9 (zza 6 (zI 0) (zzb (zzo (ret0 [.int .i64 0] ⟨zzq, trivial⟩ fun u36 e37 => ?_))))))
     rfl
    exact absurd hb (by rw [show (decide ((0 : Int) < (x.n : Int))) = true from decide_eq_true xq]; decide)
   exact absurd hb (by rw [show (decide ((0 : Int) < (x.n : Int))) = true from decide_eq_true xq]; decide)
  exact absurd hb (by rw [show (decide ((1 : Int) < (y.n : Int))) = true from decide_eq_true xq]; decide)
 exact absurd hb (by rw [show (decide ((0 : Int) < (y.n : Int))) = true from decide_eq_true xq]; decide)
theorem rats1set {u : World} {r : RL} {q : Rat} {n K : Nat} (hn : n = 1) (hr : RatN u r q K) : RatsN u ((List.replicate n rl0).set 0 r) [q] K := by subst hn; exact rats1 hr
theorem small_one {q : Rat} (h : Nt.smallQ q = true) : ∀ i, i < [q].length → Nt.smallQ ([q].getD i 0) = true := fun i hi => by
 have hi : i < 1 := hi
 have e : i = 0 := by omega
 subst e; exact h
set_option maxHeartbeats 4000000 in
theorem k_latIdeal {u w : World} {x y : Sl} (d : Dat u w) (hx : SlR .i64 u x.a x.n x.c [8]) (hy : SlR .i64 u y.a y.n y.c [0, 16]) : Calls Tryz.prog 44 #[x.v, y.v, (⟨8, 4, 1, 1⟩ : WL).v] w (Post u w fun v u' => ∃ y z : Sl, v = .tuple #[.agg #[y.v, z.v], .int .i64 0] ∧ PolN u' y [((1 : Int) : Rat) / ((2 : Int) : Rat), ((1 : Int) : Rat)] 20000 ∧ PolN u' z [((1 : Int) : Rat), ((1 : Int) : Rat) / ((2 : Int) : Rat)] 20000) := by
 have hlx : x.n = 1 := hx.1.symm
 have hly : y.n = 2 := hy.1.symm
 refine zzm (args := [x.v, y.v, .agg #[.int .i64 8, .int .i64 4, .int .i64 1, .int .i64 1]]) Tryz.func44 rfl Tryz.ntmps44 (rs := [.cell 6 81, .tmp 7]) Tryz.results44 (le_b rfl) (le_b rfl) d ?_
 refine sq9 (zzk 5 ⟨66, [.int .i64 8, .int .i64 4, .int .i64 1, .int .i64 1]⟩ (zzk 6 ⟨81, [.slice none 0 0, .slice none 0 0]⟩ (zza 7 (zI 0) (zzb (zzd (sq9 (zza 17 (.v (x.v)) (zza 18 (.v (y.v)) (zzi 19 (.v (.agg #[.int .i64 8, .int .i64 4, .int .i64 1, .int .i64 1])) ty66 zze (zzg 20 104 _ fun _ _ ab a9 => Post.mono (k_latWrong a9 (hx.ext ab) (hy.ext ab)) ?_))))))))))
 rintro _ u12 ad rfl
 refine zza 8 (zI 0) (zzb (sq9 (zza 21 (zI 0) (zza 22 (zB false) (zzb (zys xj (zzs (zzp ?_))))))))
 refine sq9 (zza 25 (.v (x.v)) (zza 26 (zI x.n) (sy_make 27 (T := 26) (E := 32) (z := .agg #[.bool false, .slice none 0 0, .slice none 0 0]) (size := 3) (bytes := 56) x.n (rcs (List.replicate x.n rl0)) xj xj rfl rfl xq yv (made_rcs _) ?_)))
 refine zza 9 (.slc 27 0 x.n x.n) (zzc 72 [(0, .v (x.v)), (1, .v (y.v)), (5, .adr 5 0), (6, .adr 6 0), (9, .slc 27 0 x.n x.n)] [(5, ⟨66, [.int .i64 8, .int .i64 4, .int .i64 1, .int .i64 1]⟩), (6, ⟨81, [.slice none 0 0, .slice none 0 0]⟩), (27, ⟨32, rcs (List.replicate x.n rl0)⟩)] (zzd (sq9 (zza 28 (.v (x.v)) (zza 29 (zI x.n) (zza 30 (zI 0) (zzb (zzt (sw_rounds 1 ?_)))))))))
 refine sq9 (zza 31 (zB (decide ((0 : Int) < (x.n : Int)))) (zzb (zzd (zzu (b := decide ((0 : Int) < (x.n : Int))) xj (fun hb => ?_) (fun hb => ?_)))))
 ·clear hb
  refine zzs (zzp ?_)
  refine zzd (zzt (sq9 (zza 32 (zI 0) ?_)))
  have hl15 := ((hx.ext (ab.t ad.ext))).1
  obtain ⟨b15, aV, aC, aB⟩ := ints_at (hx.ext (ab.t ad.ext)) (i := 0) xq
  have hz15 := ints_bd (show ∀ z ∈ ([8] : List Int), -9223372036854775808 ≤ z ∧ z ≤ 9223372036854775807 by decide) xq 0
  refine zya 33 (aV + 0 * 1) (n := x.n) (off := aV) (sz := 1) (i := 0) xq aC xq xq sl22 (zyl 34 (.int .i64 8) aB ty3 (zza 10 (zI 0) (zza 11 (zI 8) (zzb (zzf (zza 35 (.slc 27 0 x.n x.n) (zza 36 (zI 0) (zzi 37 (.v (.agg #[.int .i64 8, .int .i64 4, .int .i64 1, .int .i64 1])) ty66 zze (zza 38 (zI 8) (zzg 39 118 _ fun _ _ ay ba => Post.mono (k_fxValue (W := (⟨8, 4, 1, 1⟩ : WL)) (z := 8) ba (show WdOK (⟨8, 4, 1, 1⟩ : WL) by unfold WdOK; decide) yz yz) ?_))))))))))
  rintro _ u19 aw ⟨ar, rfl, bn⟩
  refine zyw 40 (off' := 0 * 3) (n := x.n) (off := 0) (sz := 3) (i := 0) sl26 xq xq xq ?_
  refine zyv (V := ⟨32, rcs (List.replicate x.n rl0)⟩) (off := 0 * 3) (rcs ((List.replicate x.n rl0).set 0 ar)) ty32 zv (zyx (r := ar) (i := 0) yy rfl) ?_
  refine zzx ?_
  refine zzp (zzf (zza 41 (zI 1) (zza 30 (zI 1) (zzx ?_))))
  refine rn_next ?_
  refine sw_weak (T := St.of 72 [(1, .v (y.v)), (5, .adr 5 0), (6, .adr 6 0), (9, .slc 27 0 x.n x.n), (28, .v (x.v)), (29, zI x.n), (30, zI 1)] [(5, ⟨66, [.int .i64 8, .int .i64 4, .int .i64 1, .int .i64 1]⟩), (6, ⟨81, [.slice none 0 0, .slice none 0 0]⟩), (27, ⟨32, rcs ((List.replicate x.n rl0).set 0 ar)⟩)]) yw ?_
  refine sq9 (zza 31 (zB (decide ((1 : Int) < (x.n : Int)))) (zzb (zzd (zzu (b := decide ((1 : Int) < (x.n : Int))) xj (fun hb => ?_) (fun hb => ?_)))))
  ·exact absurd hb (by rw [show (decide ((1 : Int) < (x.n : Int))) = false from decide_eq_false xq]; decide)
  clear hb
  refine zyc (zzp (zzd ?_))
  have hz : ∀ i, i < [(((8 : Int) : Rat) / ((Nt.p2i (⟨8, 4, 1, 1⟩ : WL).f : Int) : Rat))].length → Nt.smallQ ([(((8 : Int) : Rat) / ((Nt.p2i (⟨8, 4, 1, 1⟩ : WL).f : Int) : Rat))].getD i 0) = true := small_one (by decide +kernel)
  have hLL : ((List.replicate x.n rl0).set 0 ar).length = 1 := by rw [List.length_set, List.length_replicate]; exact hlx
  refine zyp (r := 9) (t := 27) [9, 27] xw xj zk zk xj (fun ae bt ao bh aL => ?_)
  have ac : PolN bt ⟨some ⟨ae, 0, none⟩, x.n, x.n⟩ ([(((8 : Int) : Rat) / ((Nt.p2i (⟨8, 4, 1, 1⟩ : WL).f : Int) : Rat))]) 2 := pol_data1 aL yv ((rats1set hlx bn).ext ao) xq
  refine zzf (zza 12 (.v (.slice none 0 0)) (zzb (zzd (sq9 (zza 42 (.v (y.v)) (zza 43 (zI y.n) (zza 44 (zI 0) (zzb (zzt (sw_rounds 2 ?_))))))))))
  refine sq9 (zza 45 (zB (decide ((0 : Int) < (y.n : Int)))) (zzb (zzd (zzu (b := decide ((0 : Int) < (y.n : Int))) xj (fun hb => ?_) (fun hb => ?_)))))
  ·clear hb
   refine zzs (zzp ?_)
   refine zzd (zzt (sq9 (zza 46 (zI 0) ?_)))
   have hl28 := ((hy.ext (ab.t (ad.t (ay.t (aw.t ao)))))).1
   obtain ⟨b28, aZ, aE, aG⟩ := ints_at (hy.ext (ab.t (ad.t (ay.t (aw.t ao))))) (i := 0) xq
   have hz28 := ints_bd (show ∀ z ∈ ([0, 16] : List Int), -9223372036854775808 ≤ z ∧ z ≤ 9223372036854775807 by decide) xq 0
   refine zya 47 (aZ + 0 * 1) (n := y.n) (off := aZ) (sz := 1) (i := 0) xq aE xq xq sl22 (zyl 48 (.int .i64 0) aG ty3 (zza 13 (zI 0) (zza 14 (zI 0) (zzb (zzz [0, 0, 0, 6, 0, 0, 62, 126, 255, 511] [(0, []), (1, []), (2, []), (4, []), (5, []), (3, []), (6, []), (7, []), (8, []), (9, [])] xj xj (zza 49 (.v (.slice none 0 0)) (zza 50 (.v (.slice (some ⟨ae, 0, none⟩) x.n x.n)) (zza 51 (zI 0) (zzi 53 (.v (.agg #[.int .i64 8, .int .i64 4, .int .i64 1, .int .i64 1])) ty66 zze (zza 54 (zI 0) (zzg 52 119 _ fun _ _ ai br => Post.mono ((show Calls _ _ #[_, .int .i64 0] _ _ from k_reversed (i := 0) br (ac.ext ai).raw yz yz hz yz)) ?_)))))))))))
   rintro _ u32 aq ⟨y30, rfl, aR⟩
   have hly30 := aR.len
   have hmy30 := Nat.le_of_eq (Nt.revL_len [(((8 : Int) : Rat) / ((Nt.p2i (⟨8, 4, 1, 1⟩ : WL).f : Int) : Rat))] 0)
   have hk35 := PolN.more aR (Nt.upK_le (show 0 ≤ 6 by omega))
   refine zzg 55 118 _ fun _ _ ah bs => Post.mono (k_fxValue (W := (⟨8, 4, 1, 1⟩ : WL)) (z := 0) bs (show WdOK (⟨8, 4, 1, 1⟩ : WL) by unfold WdOK; decide) yz yz) ?_
   rintro _ u39 ag ⟨r37, rfl, bk⟩
   refine zzg 56 116 _ fun _ _ af bi => Post.mono (k_poScale bi (hk35.ext (ah.t (ag.t af))).raw (bk.ext af).raw xq (by have h9 := hmy30; omega) xq) ?_
   rintro _ u45 ax ⟨bj, rfl, a4⟩
   have hly43 := a4.len
   have aj : (Nt.trimQ ((Nt.revL [(((8 : Int) : Rat) / ((Nt.p2i (⟨8, 4, 1, 1⟩ : WL).f : Int) : Rat))] 0).map (· * (((0 : Int) : Rat) / ((Nt.p2i (⟨8, 4, 1, 1⟩ : WL).f : Int) : Rat))))).length ≤ 1 := Nt.map_lenQ hmy30
   have aQ : PolN _ bj (Nt.trimQ ((Nt.revL [(((8 : Int) : Rat) / ((Nt.p2i (⟨8, 4, 1, 1⟩ : WL).f : Int) : Rat))] 0).map (· * (((0 : Int) : Rat) / ((Nt.p2i (⟨8, 4, 1, 1⟩ : WL).f : Int) : Rat))))) 2034 := PolN.more a4 xq
   refine zzg 57 115 _ fun _ _ al a8 => Post.mono (k_poAdd a8 (pol_nil _ 1).raw (aQ.ext al).raw xq xq (by have h9 := (show ([] : List Rat).length ≤ 0 from Nat.le_refl 0); omega) (by have h9 := aj; omega)) ?_
   rintro _ u53 aA ⟨av, rfl, aT⟩
   have hly51 := aT.len
   have ap : (Nt.trimQ (Nt.addQ [] (Nt.trimQ ((Nt.revL [(((8 : Int) : Rat) / ((Nt.p2i (⟨8, 4, 1, 1⟩ : WL).f : Int) : Rat))] 0).map (· * (((0 : Int) : Rat) / ((Nt.p2i (⟨8, 4, 1, 1⟩ : WL).f : Int) : Rat))))))).length ≤ 1 := Nt.add_lenQ (show ([] : List Rat).length ≤ 0 from Nat.le_refl 0) aj
   have aJ : PolN _ av (Nt.trimQ (Nt.addQ [] (Nt.trimQ ((Nt.revL [(((8 : Int) : Rat) / ((Nt.p2i (⟨8, 4, 1, 1⟩ : WL).f : Int) : Rat))] 0).map (· * (((0 : Int) : Rat) / ((Nt.p2i (⟨8, 4, 1, 1⟩ : WL).f : Int) : Rat))))))) 2036 := PolN.more aT xq
   refine zza 12 (.v (av.v)) (zzx ?_)
   refine zzp (zzf (zza 58 (zI 1) (zza 44 (zI 1) (zzx ?_))))
   refine rn_next ?_
   refine sw_weak (T := St.of 72 [(5, .adr 5 0), (6, .adr 6 0), (9, .v (.slice (some ⟨ae, 0, none⟩) x.n x.n)), (12, .v (av.v)), (42, .v (y.v)), (43, zI y.n), (44, zI 1)] [(5, ⟨66, [.int .i64 8, .int .i64 4, .int .i64 1, .int .i64 1]⟩), (6, ⟨81, [.slice none 0 0, .slice none 0 0]⟩)]) yw ?_
   refine sq9 (zza 45 (zB (decide ((1 : Int) < (y.n : Int)))) (zzb (zzd (zzu (b := decide ((1 : Int) < (y.n : Int))) xj (fun hb => ?_) (fun hb => ?_)))))
   ·clear hb
    refine zzs (zzp ?_)
    refine zzd (zzt (sq9 (zza 46 (zI 1) ?_)))
    have hl58 := ((hy.ext (ab.t (ad.t (ay.t (aw.t (ao.t (ai.t (aq.t (ah.t (ag.t (af.t (ax.t (al.t aA.ext)))))))))))))).1
    obtain ⟨b58, a5, aP, aD⟩ := ints_at (hy.ext (ab.t (ad.t (ay.t (aw.t (ao.t (ai.t (aq.t (ah.t (ag.t (af.t (ax.t (al.t aA.ext))))))))))))) (i := 1) xq
    have hz58 := ints_bd (show ∀ z ∈ ([0, 16] : List Int), -9223372036854775808 ≤ z ∧ z ≤ 9223372036854775807 by decide) xq 1
    refine zya 47 (a5 + 1 * 1) (n := y.n) (off := a5) (sz := 1) (i := 1) xq aP xq xq sl22 (zyl 48 (.int .i64 16) aD ty3 (zza 13 (zI 1) (zza 14 (zI 16) (zzb (zzz [0, 0, 0, 6, 0, 0, 62, 126, 255, 511] [(0, []), (1, []), (2, []), (4, []), (5, []), (3, []), (6, []), (7, []), (8, []), (9, [])] xj xj (zza 49 (.v (av.v)) (zza 50 (.v (.slice (some ⟨ae, 0, none⟩) x.n x.n)) (zza 51 (zI 1) (zzi 53 (.v (.agg #[.int .i64 8, .int .i64 4, .int .i64 1, .int .i64 1])) ty66 zze (zza 54 (zI 16) (zzg 52 119 _ fun _ _ aH bg => Post.mono ((show Calls _ _ #[_, .int .i64 1] _ _ from k_reversed (i := 1) bg (ac.ext (ai.t (aq.t (ah.t (ag.t (af.t (ax.t (al.t (aA.t aH))))))))).raw yz yz hz yz)) ?_)))))))))))
    rintro _ u62 a1 ⟨y60, rfl, a3⟩
    have hly60 := a3.len
    have hmy60 := Nat.le_of_eq (Nt.revL_len [(((8 : Int) : Rat) / ((Nt.p2i (⟨8, 4, 1, 1⟩ : WL).f : Int) : Rat))] 1)
    have hk65 := PolN.more a3 (Nt.upK_le (show 1 ≤ 6 by omega))
    refine zzg 55 118 _ fun _ _ aN bc => Post.mono (k_fxValue (W := (⟨8, 4, 1, 1⟩ : WL)) (z := 16) bc (show WdOK (⟨8, 4, 1, 1⟩ : WL) by unfold WdOK; decide) yz yz) ?_
    rintro _ u69 aF ⟨r67, rfl, a6⟩
    refine zzg 56 116 _ fun _ _ au bf => Post.mono (k_poScale bf (hk65.ext (aN.t (aF.t au))).raw (a6.ext au).raw xq (by have h9 := hmy60; omega) xq) ?_
    rintro _ u75 a0 ⟨bb, rfl, aU⟩
    have hly73 := aU.len
    have ak : (Nt.trimQ ((Nt.revL [(((8 : Int) : Rat) / ((Nt.p2i (⟨8, 4, 1, 1⟩ : WL).f : Int) : Rat))] 1).map (· * (((16 : Int) : Rat) / ((Nt.p2i (⟨8, 4, 1, 1⟩ : WL).f : Int) : Rat))))).length ≤ 2 := Nt.map_lenQ hmy60
    have aK : PolN _ bb (Nt.trimQ ((Nt.revL [(((8 : Int) : Rat) / ((Nt.p2i (⟨8, 4, 1, 1⟩ : WL).f : Int) : Rat))] 1).map (· * (((16 : Int) : Rat) / ((Nt.p2i (⟨8, 4, 1, 1⟩ : WL).f : Int) : Rat))))) 2034 := PolN.more aU xq
    refine zzg 57 115 _ fun _ _ aI bd => Post.mono (k_poAdd bd (aJ.ext (aH.t (a1.t (aN.t (aF.t (au.t (a0.t aI))))))).raw (aK.ext aI).raw xq xq (by have h9 := ap; omega) (by have h9 := ak; omega)) ?_
    rintro _ u83 bm ⟨am, rfl, aW⟩
    have hly81 := aW.len
    have bo : (Nt.trimQ (Nt.addQ (Nt.trimQ (Nt.addQ [] (Nt.trimQ ((Nt.revL [(((8 : Int) : Rat) / ((Nt.p2i (⟨8, 4, 1, 1⟩ : WL).f : Int) : Rat))] 0).map (· * (((0 : Int) : Rat) / ((Nt.p2i (⟨8, 4, 1, 1⟩ : WL).f : Int) : Rat))))))) (Nt.trimQ ((Nt.revL [(((8 : Int) : Rat) / ((Nt.p2i (⟨8, 4, 1, 1⟩ : WL).f : Int) : Rat))] 1).map (· * (((16 : Int) : Rat) / ((Nt.p2i (⟨8, 4, 1, 1⟩ : WL).f : Int) : Rat))))))).length ≤ 2 := Nt.add_lenQ ap ak
    have aO : PolN _ am (Nt.trimQ (Nt.addQ (Nt.trimQ (Nt.addQ [] (Nt.trimQ ((Nt.revL [(((8 : Int) : Rat) / ((Nt.p2i (⟨8, 4, 1, 1⟩ : WL).f : Int) : Rat))] 0).map (· * (((0 : Int) : Rat) / ((Nt.p2i (⟨8, 4, 1, 1⟩ : WL).f : Int) : Rat))))))) (Nt.trimQ ((Nt.revL [(((8 : Int) : Rat) / ((Nt.p2i (⟨8, 4, 1, 1⟩ : WL).f : Int) : Rat))] 1).map (· * (((16 : Int) : Rat) / ((Nt.p2i (⟨8, 4, 1, 1⟩ : WL).f : Int) : Rat))))))) 4071 := PolN.more aW xq
    refine zza 12 (.v (am.v)) (zzx ?_)
    refine zzp (zzf (zza 58 (zI 2) (zza 44 (zI 2) (zzx ?_))))
    refine rn_next ?_
    refine sw_weak (T := St.of 72 [(5, .adr 5 0), (6, .adr 6 0), (9, .v (.slice (some ⟨ae, 0, none⟩) x.n x.n)), (12, .v (am.v)), (42, .v (y.v)), (43, zI y.n), (44, zI 2)] [(5, ⟨66, [.int .i64 8, .int .i64 4, .int .i64 1, .int .i64 1]⟩), (6, ⟨81, [.slice none 0 0, .slice none 0 0]⟩)]) yw ?_
    refine sq9 (zza 45 (zB (decide ((2 : Int) < (y.n : Int)))) (zzb (zzd (zzu (b := decide ((2 : Int) < (y.n : Int))) xj (fun hb => ?_) (fun hb => ?_)))))
    ·exact absurd hb (by rw [show (decide ((2 : Int) < (y.n : Int))) = false from decide_eq_false xq]; decide)
    clear hb
    refine zyc (zzp (sq9 (zza 60 (.v (.slice (some ⟨ae, 0, none⟩) x.n x.n)) (zzg 61 120 _ fun _ _ aY a7 => Post.mono (k_stepUpG a7 (ac.ext (ai.t (aq.t (ah.t (ag.t (af.t (ax.t (al.t (aA.t (aH.t (a1.t (aN.t (aF.t (au.t (a0.t (aI.t (bm.t aY))))))))))))))))).raw yz yz hz) ?_))))
    rintro _ u91 bq ⟨aa, rfl, aM⟩
    change PolN _ _ (Nt.trimQ (Nt.upL [(((8 : Int) : Rat) / ((Nt.p2i (⟨8, 4, 1, 1⟩ : WL).f : Int) : Rat))] 1)) (Nt.upK 1) at aM
    have hly89 := aM.len
    have hky89 := Nt.upK_le (show 1 ≤ 6 by omega)
    refine zza 59 (.v (.tuple #[aa.v, .int .i64 0])) (zza 62 (.v (aa.v)) (zza 63 (zI 0) (zza 15 (.v (aa.v)) (zza 16 (zI 0) (zzc 72 [(6, .adr 6 0), (12, .v (am.v)), (15, .v (aa.v)), (16, zI 0)] [(6, ⟨81, [.slice none 0 0, .slice none 0 0]⟩)] (zzd (sq9 (zza 64 (zI 0) (zza 65 (zB false) (zzb (zys xj ?_)))))))))))
    refine zzs (zzp ?_)
    refine sq9 (zza 68 (.v (am.v)) (zzg 69 117 _ fun _ _ aX be => Post.mono (k_poTrim be (aO.ext (aY.t (bq.t aX))).raw xq xk) ?_))
    rintro _ u97 bl ⟨az, rfl, a2⟩
    have hly95 := a2.len
    refine zza 70 (.v (aa.v)) (zza 71 (.v (.agg #[az.v, aa.v])) (zzj ⟨81, [az.v, aa.v]⟩ ty81 ?_))
    refine zza 7 (zI 0) (zzb (zzo (ret0 [.agg #[az.v, aa.v], .int .i64 0] ⟨zzr ty81 zze, zzq, trivial⟩ fun bp an => ?_)))
    refine ⟨az, aa, rfl, ?_, ?_⟩
    ·have h9 := (a2.ext an)
     rw [show (Nt.trimQ (Nt.trimQ (Nt.addQ (Nt.trimQ (Nt.addQ [] (Nt.trimQ ((Nt.revL [(((8 : Int) : Rat) / ((Nt.p2i (⟨8, 4, 1, 1⟩ : WL).f : Int) : Rat))] 0).map (· * (((0 : Int) : Rat) / ((Nt.p2i (⟨8, 4, 1, 1⟩ : WL).f : Int) : Rat))))))) (Nt.trimQ ((Nt.revL [(((8 : Int) : Rat) / ((Nt.p2i (⟨8, 4, 1, 1⟩ : WL).f : Int) : Rat))] 1).map (· * (((16 : Int) : Rat) / ((Nt.p2i (⟨8, 4, 1, 1⟩ : WL).f : Int) : Rat)))))))) = [((1 : Int) : Rat) / ((2 : Int) : Rat), ((1 : Int) : Rat)] from by decide +kernel] at h9
     exact h9.more xq
    have h9 := (aM.ext (aX.t (bl.t an)))
    rw [show (Nt.trimQ (Nt.upL [(((8 : Int) : Rat) / ((Nt.p2i (⟨8, 4, 1, 1⟩ : WL).f : Int) : Rat))] 1)) = [((1 : Int) : Rat), ((1 : Int) : Rat) / ((2 : Int) : Rat)] from by decide +kernel] at h9
    exact h9.more xq
   exact absurd hb (by rw [show (decide ((1 : Int) < (y.n : Int))) = true from decide_eq_true xq]; decide)
  exact absurd hb (by rw [show (decide ((0 : Int) < (y.n : Int))) = true from decide_eq_true xq]; decide)
 exact absurd hb (by rw [show (decide ((0 : Int) < (x.n : Int))) = true from decide_eq_true xq]; decide)
set_option maxHeartbeats 4000000 in
theorem k_known25 {u w : World} (d : Dat u w) : Calls Tryz.prog 46 #[] w (Post u w fun v _ => v = .bool true) := by
 refine zzm (args := []) Tryz.func46 rfl Tryz.ntmps46 (rs := [.tmp 0]) Tryz.results46 (le_b rfl) (le_b rfl) d ?_
 refine sq9 (zza 0 (zB false) (zzb (sq9 (zza 6 (.v (.agg #[.int .i64 8, .int .i64 4, .int .i64 1, .int .i64 1])) (zzk 1 ⟨66, [.int .i64 0, .int .i64 0, .int .i64 0, .int .i64 0]⟩ (zzj ⟨66, [.int .i64 8, .int .i64 4, .int .i64 1, .int .i64 1]⟩ ty66 ?_))))))
 refine zzb (sq9 (zzg 8 30 _ fun _ _ _ bq => Post.mono (k_rqOf bq (z := 1) xq xq) ?_))
 rintro _ u14 g15 ⟨a3, rfl, be⟩
 refine zzg 9 30 _ fun _ _ bT bm => Post.mono (k_rqOf bm (z := 1) xq xq) ?_
 rintro _ u20 br ⟨aZ, rfl, bn⟩
 refine zxx 10 ⟨32, a3.cs ++ aZ.cs⟩ 2 (fun bd bj bc bJ => ?_)
 have aP : PolN bj (⟨some ⟨bd, 0, none⟩, 2, 2⟩ : Sl) [((1 : Int) : Rat), ((1 : Int) : Rat)] 2 := pol_lit (L := [a3, aZ]) bJ (rats2 (be.ext (bT.t (br.t bc))) (bn.ext bc)) rfl yz
 refine zzg 11 23 _ fun _ _ bi bz => Post.mono (k_rqFrac bz (a := 1) (b := 2) xq xq xq xq) ?_
 rintro _ u31 bg ⟨bb, rfl, bl⟩
 refine zxx 12 ⟨32, bb.cs⟩ 1 (fun bo bD aX bX => ?_)
 have aK : PolN bD (⟨some ⟨bo, 0, none⟩, 1, 1⟩ : Sl) [(((1 : Int) : Rat) / ((2 : Int) : Rat))] 3 := pol_lit (L := [bb]) bX (rats1 (bl.ext aX)) rfl yz
 refine zzg 13 122 _ fun _ _ ba bM => Post.mono (k_taps bM (aP.ext (bi.t (bg.t (aX.trans ba)))).raw (aK.ext ba).raw zj xq xq zj) ?_
 rintro _ u42 g43 ⟨aj, rfl, bV⟩
 refine zza 7 (.v (.tuple #[aj.v, .int .i64 (Nt.tapE ([((1 : Int) : Rat), ((1 : Int) : Rat)]) ([(((1 : Int) : Rat) / ((2 : Int) : Rat))]))])) (zza 14 (.v (aj.v)) (zza 15 (zI (Nt.tapE ([((1 : Int) : Rat), ((1 : Int) : Rat)]) ([(((1 : Int) : Rat) / ((2 : Int) : Rat))]))) (zza 2 (.v (aj.v)) (zza 3 (zI (Nt.tapE ([((1 : Int) : Rat), ((1 : Int) : Rat)]) ([(((1 : Int) : Rat) / ((2 : Int) : Rat))]))) (zzb (sq9 (zxx 17 ⟨3, [.int .i64 8]⟩ 1 (fun aY bh bx bR => ?_))))))))
 have aQ : SlR .i64 bh (some ⟨aY, 0, none⟩) 1 1 [8] := ints_data bR rfl rfl (Nat.le_refl _) yz
 refine zxx 18 ⟨3, [.int .i64 0, .int .i64 16]⟩ 2 (fun a2 bE a8 bt => ?_)
 have aV : SlR .i64 bE (some ⟨a2, 0, none⟩) 2 2 [0, 16] := ints_data bt rfl rfl (Nat.le_refl _) yz
 refine zzi 19 (.v (.agg #[.int .i64 8, .int .i64 4, .int .i64 1, .int .i64 1])) ty66 zze (zzg 20 44 _ fun _ _ aI bH => Post.mono (k_latIdeal (x := (⟨some ⟨aY, 0, none⟩, 1, 1⟩ : Sl)) (y := (⟨some ⟨a2, 0, none⟩, 2, 2⟩ : Sl)) bH (aQ.ext (a8.trans aI)) (aV.ext aI)) ?_)
 rintro _ u60 bv ⟨ai, ah, rfl, bk, bQ⟩
 refine zza 16 (.v (.tuple #[.agg #[ai.v, ah.v], .int .i64 0])) (zza 21 (.v (.agg #[ai.v, ah.v])) (zza 22 (zI 0) (zzk 4 ⟨81, [.slice none 0 0, .slice none 0 0]⟩ (zzj ⟨81, [ai.v, ah.v]⟩ ty81 ?_))))
 refine zza 5 (zI 0) (zzb (zzd (zzz [0, 1, 3, 7, 15, 31, 63, 127, 127, 383, 895, 2047, 4095, 8191, 16383, 32767, 16383, 81919, 212991, 524287, 1048575, 2097151, 4194303, 8388607, 4194303, 20971519, 54525951, 134217727, 268435455, 536870911] [(0, []), (1, []), (2, []), (3, []), (4, []), (5, []), (6, []), (7, []), (8, []), (9, []), (10, []), (11, [33]), (12, []), (13, []), (14, []), (15, []), (16, []), (17, []), (18, []), (19, [41]), (20, []), (21, []), (22, []), (23, []), (24, []), (25, []), (26, []), (27, [49]), (28, []), (29, [])] xj xj (zza 23 (zI (Nt.tapE ([((1 : Int) : Rat), ((1 : Int) : Rat)]) ([(((1 : Int) : Rat) / ((2 : Int) : Rat))]))) (zza 24 (zB ((Nt.tapE ([((1 : Int) : Rat), ((1 : Int) : Rat)]) ([(((1 : Int) : Rat) / ((2 : Int) : Rat))])) == 0)) (zyq 25 (x := zB ((Nt.tapE ([((1 : Int) : Rat), ((1 : Int) : Rat)]) ([(((1 : Int) : Rat) / ((2 : Int) : Rat))])) == 0)) (zB true) (by rw [show ((Nt.tapE ([((1 : Int) : Rat), ((1 : Int) : Rat)]) ([(((1 : Int) : Rat) / ((2 : Int) : Rat))])) == 0) = true from (by decide +kernel)]) (zza 26 (zI 0) ?_ (hw := w1 2 true 25))))))))
 refine zza 27 (zB true) ?_ (hw := w1 2 true 25)
 refine zza 28 (zB true) (zza 29 (zB true) (zza 30 (.v (aj.v)) ?_ (hw := w1 6 true 29)))
 refine zzg 31 23 _ (fun _ _ aA bL => Post.mono (k_rqFrac bL (a := 1) (b := 2) xq xq xq xq) ?_) (hw := w1 6 true 29)
 rintro _ u67 aF ⟨ag, rfl, bO⟩
 refine zzg 32 30 _ (fun _ _ aw bN => Post.mono (k_rqOf bN (z := 1) xq xq) ?_) (hw := w1 6 true 29)
 rintro _ u73 ax ⟨ae, rfl, bZ⟩
 refine sy_lit 33 ⟨32, ag.cs ++ ae.cs⟩ 2 ?_ (hw := w1 6 true 29)
 refine zyo 34 123 [.v (aj.v), .slc 33 0 2 2] [33] (.inr rfl) (pub_mk xw) (k := ?_) (hw := w1 6 true 29)
 intro aE w76 a7 au bG bP
 have a1 : a7.heap[aE 33]? = some (.cells #[.bool ag.s, .slice ag.m.a ag.m.n ag.m.c, .slice ag.d.a ag.d.n ag.d.c, .bool ae.s, .slice ae.m.a ae.m.n ae.m.c, .slice ae.d.a ae.d.n ae.d.c] 32 (0, 0)) := bP 33 zz _ rfl
 obtain ⟨bW, al⟩ : ∃ b, aE 33 = b := ⟨_, rfl⟩
 rw [al] at a1
 have aG : PolN a7 (⟨some ⟨bW, 0, none⟩, 2, 2⟩ : Sl) [(((1 : Int) : Rat) / ((2 : Int) : Rat)), ((1 : Int) : Rat)] (max 3 2) := pol_lit (L := [ag, ae]) a1 (rats2 (RatN.more (L := (max 3 2)) (bO.ext (aw.t (ax.t au))) xq) (RatN.more (L := (max 3 2)) (bZ.ext au) xq)) rfl yz
 show Calls _ _ #[.slice aj.a aj.n aj.c, .slice (some ⟨aE 33, 0, none⟩) 2 2] _ _
 rw [al]
 have k82 := k_sameRats bG (bV.ext (bx.t (a8.t (aI.t (bv.t (aA.t (aF.t (aw.t (ax.t au))))))))).raw (show PolV _ _ (Nt.tapO ([((1 : Int) : Rat), ((1 : Int) : Rat)]) ([(((1 : Int) : Rat) / ((2 : Int) : Rat))])) _ from (by rw [show (Nt.tapO ([((1 : Int) : Rat), ((1 : Int) : Rat)]) ([(((1 : Int) : Rat) / ((2 : Int) : Rat))])) = [(((1 : Int) : Rat) / ((2 : Int) : Rat)), ((1 : Int) : Rat)] from by decide +kernel]; exact aG.raw)) yz yz
 with_reducible refine zPm k82 ?_
 rintro _ u80 a4 rfl
 refine zza 35 (zB true) (zza 36 (zB true) (zza 37 (.adr 4 1) ?_ (hw := w1 13 true 36)))
 refine zzi 38 (.v (ah.v)) ty27 zzl ?_ (hw := w1 13 true 36)
 refine zzg 39 30 _ (fun _ _ a5 bI => Post.mono (k_rqOf bI (z := 1) xq xq) ?_) (hw := w1 13 true 36)
 rintro _ u86 a9 ⟨ad, rfl, bC⟩
 refine zzg 40 23 _ (fun _ _ aT bu => Post.mono (k_rqFrac bu (a := 1) (b := 2) xq xq xq xq) ?_) (hw := w1 13 true 36)
 rintro _ u92 aO ⟨af, rfl, bw⟩
 refine sy_lit 41 ⟨32, ad.cs ++ af.cs⟩ 2 ?_ (hw := w1 13 true 36)
 refine zyo 42 37 [.v (ah.v), .slc 41 0 2 2] [41] (.inr rfl) (pub_mk xw) (k := ?_) (hw := w1 13 true 36)
 intro aD w95 a0 ay bK bs
 have a6 : a0.heap[aD 41]? = some (.cells #[.bool ad.s, .slice ad.m.a ad.m.n ad.m.c, .slice ad.d.a ad.d.n ad.d.c, .bool af.s, .slice af.m.a af.m.n af.m.c, .slice af.d.a af.d.n af.d.c] 32 (0, 0)) := bs 41 zz _ rfl
 obtain ⟨bf, ak⟩ : ∃ b, aD 41 = b := ⟨_, rfl⟩
 rw [ak] at a6
 have aR : PolN a0 (⟨some ⟨bf, 0, none⟩, 2, 2⟩ : Sl) [((1 : Int) : Rat), (((1 : Int) : Rat) / ((2 : Int) : Rat))] (max 2 3) := pol_lit (L := [ad, af]) a6 (rats2 (RatN.more (L := (max 2 3)) (bC.ext (aT.t (aO.t ay))) xq) (RatN.more (L := (max 2 3)) (bw.ext ay) xq)) rfl yz
 show Calls _ _ #[.slice ah.a ah.n ah.c, .slice (some ⟨aD 41, 0, none⟩) 2 2] _ _
 rw [ak]
 have k101 := k_r5Same bK (bQ.ext (aA.t (aF.t (aw.t (ax.t (au.t (a4.t (a5.t (a9.t (aT.t (aO.t ay))))))))))).raw aR.raw yz yz yz yz
 with_reducible refine zPm k101 ?_
 rintro _ u99 az rfl
 refine zza 43 (zB (decide (Nt.trimQ [((1 : Int) : Rat), ((1 : Int) : Rat) / ((2 : Int) : Rat)] = Nt.trimQ [((1 : Int) : Rat), (((1 : Int) : Rat) / ((2 : Int) : Rat))]))) (zyq 44 (x := zB (decide (Nt.trimQ [((1 : Int) : Rat), ((1 : Int) : Rat) / ((2 : Int) : Rat)] = Nt.trimQ [((1 : Int) : Rat), (((1 : Int) : Rat) / ((2 : Int) : Rat))]))) (zB true) (by rw [show (decide (Nt.trimQ [((1 : Int) : Rat), ((1 : Int) : Rat) / ((2 : Int) : Rat)] = Nt.trimQ [((1 : Int) : Rat), (((1 : Int) : Rat) / ((2 : Int) : Rat))])) = true from decide_eq_true (by decide +kernel)]) (zza 45 (.adr 4 0) ?_ (hw := w1 21 true 44)))
 refine zzi 46 (.v (ai.v)) ty27 zzl ?_ (hw := w1 21 true 44)
 refine zzg 47 23 _ (fun _ _ aH aM => Post.mono (k_rqFrac aM (a := 1) (b := 2) xq xq xq xq) ?_) (hw := w1 21 true 44)
 rintro _ bA aU ⟨aa, rfl, aB⟩
 refine zzg 48 30 _ (fun _ _ aq aL => Post.mono (k_rqOf aL (z := 1) xq xq) ?_) (hw := w1 21 true 44)
 rintro _ bB ar ⟨ab, rfl, aW⟩
 refine sy_lit 49 ⟨32, aa.cs ++ ab.cs⟩ 2 ?_ (hw := w1 21 true 44)
 refine zyo 50 37 [.v (ai.v), .slc 49 0 2 2] [49] (.inr rfl) (pub_mk xw) (k := ?_) (hw := w1 21 true 44)
 intro am bF ao an aJ aC
 have ap : ao.heap[am 49]? = some (.cells #[.bool aa.s, .slice aa.m.a aa.m.n aa.m.c, .slice aa.d.a aa.d.n aa.d.c, .bool ab.s, .slice ab.m.a ab.m.n ab.m.c, .slice ab.d.a ab.d.n ab.d.c] 32 (0, 0)) := aC 49 zz _ rfl
 obtain ⟨aN, ac⟩ : ∃ b, am 49 = b := ⟨_, rfl⟩
 rw [ac] at ap
 have av : PolN ao (⟨some ⟨aN, 0, none⟩, 2, 2⟩ : Sl) [(((1 : Int) : Rat) / ((2 : Int) : Rat)), ((1 : Int) : Rat)] (max 3 2) := pol_lit (L := [aa, ab]) ap (rats2 (RatN.more (L := (max 3 2)) (aB.ext (aq.t (ar.t an))) xq) (RatN.more (L := (max 3 2)) (aW.ext an) xq)) rfl yz
 show Calls _ _ #[.slice ai.a ai.n ai.c, .slice (some ⟨am 49, 0, none⟩) 2 2] _ _
 rw [ac]
 have k121 := k_r5Same aJ (bk.ext (aA.t (aF.t (aw.t (ax.t (au.t (a4.t (a5.t (a9.t (aT.t (aO.t (ay.t (az.t (aH.t (aU.t (aq.t (ar.t an))))))))))))))))).raw av.raw yz yz yz yz
 with_reducible refine zPm k121 ?_
 rintro _ bY bp rfl
 refine zza 51 (zB (decide (Nt.trimQ [((1 : Int) : Rat) / ((2 : Int) : Rat), ((1 : Int) : Rat)] = Nt.trimQ [(((1 : Int) : Rat) / ((2 : Int) : Rat)), ((1 : Int) : Rat)]))) (zza 0 (zB (decide (Nt.trimQ [((1 : Int) : Rat) / ((2 : Int) : Rat), ((1 : Int) : Rat)] = Nt.trimQ [(((1 : Int) : Rat) / ((2 : Int) : Rat)), ((1 : Int) : Rat)]))) (zzc 52 [(0, zB (decide (Nt.trimQ [((1 : Int) : Rat) / ((2 : Int) : Rat), ((1 : Int) : Rat)] = Nt.trimQ [(((1 : Int) : Rat) / ((2 : Int) : Rat)), ((1 : Int) : Rat)])))] [] (zzo (ret0 [.bool (decide (Nt.trimQ [((1 : Int) : Rat) / ((2 : Int) : Rat), ((1 : Int) : Rat)] = Nt.trimQ [(((1 : Int) : Rat) / ((2 : Int) : Rat)), ((1 : Int) : Rat)]))] ⟨zzq, trivial⟩ fun bU bS => ?_))))
 show Value.bool _ = Value.bool _
 rw [show (decide (Nt.trimQ [((1 : Int) : Rat) / ((2 : Int) : Rat), ((1 : Int) : Rat)] = Nt.trimQ [(((1 : Int) : Rat) / ((2 : Int) : Rat)), ((1 : Int) : Rat)])) = true from decide_eq_true (by decide +kernel)]
set_option maxHeartbeats 1000000 in
theorem k_dn1 {u w : World} {r v : RL} {q y : Rat} {K M j b6 : Nat} (d : Dat u w) (hr : RatV u r q M) (hv : RatN u v y K) (h6 : u.heap[b6]? = some (.cells r.cs.toArray 32 (0, 0))) (hq : q ≠ 0) (hK : K ≤ 10000000) (hM : M ≤ 10000000) : Calls Tryz.prog 173 #[.int .i64 (j : Int), v.v, .pointer (some ⟨b6, 0, none⟩)] w (Post u w fun v u' => ∃ r : RL, v = r.v ∧ RatN u' r (y / q) (K + M)) := by
 refine zzm (args := [.int .i64 j, v.v, .pointer (some ⟨b6, 0, none⟩)]) Tryz.func173 rfl Tryz.ntmps173 (rs := [.cell 5 32]) Tryz.results173 (le_b rfl) (le_b rfl) d ?_
 refine sq9 (zzk 4 ⟨32, v.cs⟩ (zzk 5 ⟨32, zw3⟩ (zzb (sq9 (zzi 9 (.v (v.v)) ty32 zze (zym 10 (r.cs) (var_cells h6) ty32 (zzg 11 138 _ fun _ _ ab ac => Post.mono (k_ratDiv1 ac (hv.ext ab).raw (hr.ext ab) hq xq xq) ?_)))))))
 rintro _ u14 g15 ⟨aa, rfl, ae⟩
 refine zza 8 (.v (.tuple #[aa.v, .int .i64 0])) (zza 12 (.v (aa.v)) (zza 13 (zI 0) (zzk 6 ⟨32, zw3⟩ (zzj ⟨32, aa.cs⟩ ty32 ?_))))
 refine zza 7 (zI 0) (zzb (sq9 (zzi 14 (.v (aa.v)) ty32 zze (zzj ⟨32, aa.cs⟩ ty32 ?_))))
 refine zzb (zzo (ret0 [aa.v] ⟨zzr ty32 zze, trivial⟩ fun u17 ad => ?_))
 exact ⟨aa, rfl, RatN.more (K := (K + M)) (ae.ext ad) xq⟩
set_option maxHeartbeats 2000000 in
theorem k_mapDn1 {u w : World} {x : Sl} {l : List Rat} {r : RL} {q : Rat} {K M b6 : Nat} (d : Dat u w) (hx : PolN u x l K) (hr : RatV u r q M) (h6 : u.heap[b6]? = some (.cells r.cs.toArray 32 (0, 0))) (hq : q ≠ 0) (hK : K ≤ 10000000) (hM : M ≤ 10000000) (hl : l.length ≤ 1000000) : Calls Tryz.prog 170 #[x.v, .func (.func 173) #[] #[.pointer (some ⟨b6, 0, none⟩)]] w (Post u w fun v u' => NewR u x.n (Nt.divS l q) (K + M) v u') := by
 have hlen := hx.len
 have hul := Nt.divS_len l q
 refine zzm (args := [x.v, .func (.func 173) #[] #[.pointer (some ⟨b6, 0, none⟩)]]) Tryz.func170 rfl Tryz.ntmps170 (rs := [.tmp 4]) Tryz.results170 (le_b rfl) (le_b rfl) d ?_
 refine sq9 (zza 4 (.v (.slice none 0 0)) (zzb (sq9 (zza 8 (.v (x.v)) (zza 9 (zI x.n) (sy_make 10 (T := 26) (E := 32) (z := .agg #[.bool false, .slice none 0 0, .slice none 0 0]) (size := 3) (bytes := 56) x.n (rcs (List.replicate x.n rl0)) xj xj rfl rfl xq yv (made_rcs _) ?_))))))
 refine zza 5 (.slc 10 0 x.n x.n) (zzc 27 [(0, .v (x.v)), (1, .v (.func (.func 173) #[] #[.pointer (some ⟨b6, 0, none⟩)])), (5, .slc 10 0 x.n x.n)] [(10, ⟨32, rcs (List.replicate x.n rl0)⟩)] (zzd (sq9 (zza 11 (.v (x.v)) (zza 12 (zI x.n) (zza 13 (zI 0) (zzb (zzt (zyn (I := fun ap S' u' => ∃ (i : Nat) (L : List RL), (ap = x.n - i) ∧ (i ≤ x.n) ∧ (L.length = x.n) ∧ (S' = St.of 27 [(1, .v (.func (.func 173) #[] #[.pointer (some ⟨b6, 0, none⟩)])), (5, .slc 10 0 x.n x.n), (11, .v (x.v)), (12, zI x.n), (13, zI i)] [(10, ⟨32, rcs L⟩)]) ∧ (Ext u u') ∧ (RatsN u' (L.take i) ((Nt.divS l q).take i) (K + M))) (fun m S u1 u2 e h => by obtain ⟨i, L, hm, p0, p1, hS, hE, f0⟩ := h; exact ⟨i, L, hm, p0, p1, hS, hE.trans e, f0.ext e⟩) _ yw ⟨0, List.replicate x.n rl0, rfl, by omega, by simp, rfl, (Ext.refl _), RatsN.tnil _ _ _ _⟩ ?_)))))))))
 rintro ap _ u11 ⟨i, L, aw, hi, hL, rfl, ae, hR⟩
 refine sq9 (zza 14 (zB (decide ((i : Int) < (x.n : Int)))) (zzb (zzd (zzu (b := decide ((i : Int) < (x.n : Int))) xj (fun aa => ?_) (fun aa => ?_)))))
 ·have qhb12 := of_decide_eq_true aa
  refine zzs (zzp ?_)
  refine zzd (zzt (sq9 (zza 15 (zI i) ?_)))
  have hl13 := (hx.ext ae).len
  obtain ⟨ai, b13, aq, aj, ag, af⟩ := pol_atN (hx.ext ae) (i := i) xq
  refine zya 16 (aq + i * 3) (n := x.n) (off := aq) (sz := 3) (i := (i : Int)) xq aj xq xq sl26 (zym 17 ai.cs ag ty32 (zzk 7 ⟨32, zw3⟩ (zza 6 (zI i) (zzj ⟨32, ai.cs⟩ ty32 ?_))))
  refine zzb (zzf (zza 18 (.slc 10 0 x.n x.n) (zza 19 (zI i) (zza 20 (.v (.func (.func 173) #[] #[.pointer (some ⟨b6, 0, none⟩)])) (zza 21 (zI i) (zzi 22 (.v (ai.v)) ty32 zze (zzg 23 173 _ fun _ _ ad ar => Post.mono (k_dn1 (j := i) ar (hr.ext (ae.trans ad)) (af.ext ad) ((ae.trans ad).cells h6) hq xq xq) ?_)))))))
  rintro _ u17 ao ⟨ah, rfl, au⟩
  refine zyw 24 (off' := i * 3) (n := x.n) (off := 0) (sz := 3) (i := (i : Int)) sl26 xq xq xq ?_
  refine zyv (V := ⟨32, rcs L⟩) (off := i * 3) (rcs ((L).set i ah)) ty32 zv (zyx (r := ah) (i := i) yy rfl) ?_
  refine zzx ?_
  refine zzp (zzf (zyq 25 (x := zI (IntKind.i64.wrap ((i : Int) + 1))) (zI (i + 1 : Nat)) (eqI yq) (zza 13 (zI (i + 1 : Nat)) (zzx ?_))))
  have ak : i < (Nt.divS l q).length := by rw [hul]; omega
  refine ⟨_, ?_, _, by exact zzv _ _ _, i + 1, (L).set i ah, rfl, by omega, by simpa using hL, rfl, (ae.t (ad.t ao.ext)), RatsN.tstep (hR.ext (ad.t ao.ext)) xq ak (RatN.more (K := (K + M)) au xq) (by rw [← Nt.divS_at l q (j := i) xq])⟩
  omega
 have qhb12 := of_decide_eq_false aa
 refine zyc (zzp (zzd (zyp (r := 5) (t := 10) [5, 10] xw xj zk zk xj (fun ac ax am al ab => ?_))))
 have av : PolN ax ⟨some ⟨ac, 0, none⟩, x.n, x.n⟩ (Nt.divS l q) (K + M) := pol_data1 ab yv (RatsN.tdone (hR.ext am) xq (by rw [hul]; omega)) xq
 refine zzf (zza 26 (.v (.slice (some ⟨ac, 0, none⟩) x.n x.n)) (zza 4 (.v (.slice (some ⟨ac, 0, none⟩) x.n x.n)) (zzb (zzo (ret0 [.slice (some ⟨ac, 0, none⟩) x.n x.n] ⟨zzq, trivial⟩ fun u27 an => ?_)))))
 exact ⟨ac, L, rfl, al, an.cells ab, by omega, (RatsN.tdone (hR.ext (am.trans an)) xq (by rw [hul]; omega))⟩
set_option maxHeartbeats 2000000 in
theorem k_dn2 {u w : World} {x : Sl} {l : List Rat} {r s v : RL} {q p y : Rat} {K M N m j b10 b7 b9 b11 : Nat} (d : Dat u w) (hx : PolN u x l K) (hr : RatV u r q M) (hs : RatV u s p N) (hv : RatN u v y K) (h10 : u.heap[b10]? = some (.cells r.cs.toArray 32 (0, 0))) (h7 : u.heap[b7]? = some (.cells [Value.slice x.a x.n x.c].toArray 26 (0, 0))) (h9 : u.heap[b9]? = some (.cells [Value.int .i64 (m : Int)].toArray 3 (0, 0))) (h11 : u.heap[b11]? = some (.cells s.cs.toArray 32 (0, 0))) (hp : p ≠ 0) (hm : m + 1 = l.length) (hj : j < m) (hK : K ≤ 10000000) (hM : M ≤ 10000000) (hN : N ≤ 10000000) (hl : l.length ≤ 1000000) : Calls Tryz.prog 174 #[.int .i64 (j : Int), v.v, .pointer (some ⟨b10, 0, none⟩), .pointer (some ⟨b7, 0, none⟩), .pointer (some ⟨b9, 0, none⟩), .pointer (some ⟨b11, 0, none⟩)] w (Post u w fun v u' => ∃ r : RL, v = r.v ∧ RatN u' r ((y - q * l.getD (m - j) 0) / p) (2 * K + M + N + 1)) := by
 have hlen := hx.len
 refine zzm (args := [.int .i64 j, v.v, .pointer (some ⟨b10, 0, none⟩), .pointer (some ⟨b7, 0, none⟩), .pointer (some ⟨b9, 0, none⟩), .pointer (some ⟨b11, 0, none⟩)]) Tryz.func174 rfl Tryz.ntmps174 (rs := [.cell 8 32]) Tryz.results174 (le_b rfl) (le_b rfl) d ?_
 refine sq9 (zzk 7 ⟨32, v.cs⟩ (zzk 8 ⟨32, zw3⟩ (zzb (zzd (zzz [0, 0, 0, 0, 0, 24, 60, 124, 254, 511, 0, 2047, 4095, 8191, 8191, 0, 49151, 131071] [(0, []), (1, []), (2, []), (3, []), (4, []), (5, []), (6, []), (7, []), (10, []), (15, []), (8, []), (9, []), (11, []), (12, []), (13, []), (14, []), (16, []), (17, [])] xj xj (zzi 12 (.v (v.v)) ty32 zze (zym 13 (r.cs) (var_cells h10) ty32 (zyl 14 (x.v) (var_cell1 h7) ty26 (zyl 15 (.int .i64 m) (var_cell1 h9) ty3 (zza 16 (zI j) (zyq 17 (x := zI (IntKind.i64.wrap ((m : Int) - (j : Int)))) (zI (m - j : Nat)) (eqI yq) ?_)))))))))))
 have hl11 := hx.len
 obtain ⟨an, b11, ag, ad, ac, af⟩ := pol_atN hx (i := m - j) xq
 refine zya 18 (ag + (m - j) * 3) (n := x.n) (off := ag) (sz := 3) (i := ((m - j : Nat) : Int)) xq ad xq xq sl26 (zym 19 an.cs ac ty32 (zym 22 (s.cs) (var_cells h11) ty32 (zzk 9 ⟨32, zw3⟩ (zzg 20 113 _ fun _ _ ab aq => Post.mono (k_ratMul aq (hr.ext ab) (af.ext ab).raw xq xq) ?_))))
 rintro _ u15 ai ⟨r13, rfl, ap⟩
 refine zzg 21 139 _ fun _ _ ae ao => Post.mono (k_ratSub ao (hv.ext (ab.t (ai.t ae))).raw (ap.ext ae).raw xq xq) ?_
 rintro _ u21 ak ⟨r19, rfl, al⟩
 refine zzg 23 138 _ fun _ _ ah aj => Post.mono (k_ratDiv1 aj (al.ext ah).raw (hs.ext (ab.t (ai.t (ae.t (ak.t ah))))) hp xq xq) ?_
 rintro _ u27 g28 ⟨aa, rfl, am⟩
 refine zza 11 (.v (.tuple #[aa.v, .int .i64 0])) (zza 24 (.v (aa.v)) (zza 25 (zI 0) (zzj ⟨32, aa.cs⟩ ty32 ?_)))
 refine zza 10 (zI 0) (zzb (sq9 (zzi 26 (.v (aa.v)) ty32 zze (zzj ⟨32, aa.cs⟩ ty32 ?_))))
 refine zzb (zzo (ret0 [aa.v] ⟨zzr ty32 zze, trivial⟩ fun u30 ar => ?_))
 exact ⟨aa, rfl, RatN.more (K := ((K + (M + K) + 1) + N)) (am.ext ar) xq⟩
theorem getD_take (l : List Rat) {m i : Nat} (h : i < m) : (l.take m).getD i 0 = l.getD i 0 := by
 rw [List.getD_eq_getElem?_getD, List.getD_eq_getElem?_getD, List.getElem?_take_of_lt h]
set_option maxHeartbeats 2000000 in
theorem k_mapDn2 {u w : World} {x z : Sl} {l : List Rat} {r s : RL} {q p : Rat} {K M N m b10 b7 b9 b11 : Nat} (d : Dat u w) (hx : PolN u x l K) (hr : RatV u r q M) (hs : RatV u s p N) (hz : PolN u z (l.take m) K) (h10 : u.heap[b10]? = some (.cells r.cs.toArray 32 (0, 0))) (h7 : u.heap[b7]? = some (.cells [Value.slice x.a x.n x.c].toArray 26 (0, 0))) (h9 : u.heap[b9]? = some (.cells [Value.int .i64 (m : Int)].toArray 3 (0, 0))) (h11 : u.heap[b11]? = some (.cells s.cs.toArray 32 (0, 0))) (hp : p ≠ 0) (hm : m + 1 = l.length) (hqe : q = l.getD m 0) (hpe : p = ((1 : Int) : Rat) - q * q) (hK : K ≤ 10000000) (hM : M ≤ 10000000) (hN : N ≤ 10000000) (hl : l.length ≤ 1000000) : Calls Tryz.prog 170 #[z.v, .func (.func 174) #[] #[.pointer (some ⟨b10, 0, none⟩), .pointer (some ⟨b7, 0, none⟩), .pointer (some ⟨b9, 0, none⟩), .pointer (some ⟨b11, 0, none⟩)]] w (Post u w fun v u' => NewR u z.n (Nt.dnS l m) (2 * K + M + N + 1) v u') := by
 have hlen := hx.len
 have hlez := hz.len
 rw [List.length_take] at hlez
 have hul := Nt.dnS_len l m
 refine zzm (args := [z.v, .func (.func 174) #[] #[.pointer (some ⟨b10, 0, none⟩), .pointer (some ⟨b7, 0, none⟩), .pointer (some ⟨b9, 0, none⟩), .pointer (some ⟨b11, 0, none⟩)]]) Tryz.func170 rfl Tryz.ntmps170 (rs := [.tmp 4]) Tryz.results170 (le_b rfl) (le_b rfl) d ?_
 refine sq9 (zza 4 (.v (.slice none 0 0)) (zzb (sq9 (zza 8 (.v (z.v)) (zza 9 (zI z.n) (sy_make 10 (T := 26) (E := 32) (z := .agg #[.bool false, .slice none 0 0, .slice none 0 0]) (size := 3) (bytes := 56) z.n (rcs (List.replicate z.n rl0)) xj xj rfl rfl xq yv (made_rcs _) ?_))))))
 refine zza 5 (.slc 10 0 z.n z.n) (zzc 27 [(0, .v (z.v)), (1, .v (.func (.func 174) #[] #[.pointer (some ⟨b10, 0, none⟩), .pointer (some ⟨b7, 0, none⟩), .pointer (some ⟨b9, 0, none⟩), .pointer (some ⟨b11, 0, none⟩)])), (5, .slc 10 0 z.n z.n)] [(10, ⟨32, rcs (List.replicate z.n rl0)⟩)] (zzd (sq9 (zza 11 (.v (z.v)) (zza 12 (zI z.n) (zza 13 (zI 0) (zzb (zzt (zyn (I := fun ap S' u' => ∃ (i : Nat) (L : List RL), (ap = z.n - i) ∧ (i ≤ z.n) ∧ (L.length = z.n) ∧ (S' = St.of 27 [(1, .v (.func (.func 174) #[] #[.pointer (some ⟨b10, 0, none⟩), .pointer (some ⟨b7, 0, none⟩), .pointer (some ⟨b9, 0, none⟩), .pointer (some ⟨b11, 0, none⟩)])), (5, .slc 10 0 z.n z.n), (11, .v (z.v)), (12, zI z.n), (13, zI i)] [(10, ⟨32, rcs L⟩)]) ∧ (Ext u u') ∧ (RatsN u' (L.take i) ((Nt.dnS l m).take i) (2 * K + M + N + 1))) (fun m S u1 u2 e h => by obtain ⟨i, L, hm, p0, p1, hS, hE, f0⟩ := h; exact ⟨i, L, hm, p0, p1, hS, hE.trans e, f0.ext e⟩) _ yw ⟨0, List.replicate z.n rl0, rfl, by omega, by simp, rfl, (Ext.refl _), RatsN.tnil _ _ _ _⟩ ?_)))))))))
 rintro ap _ u11 ⟨i, L, aw, hi, hL, rfl, ab, hR⟩
 refine sq9 (zza 14 (zB (decide ((i : Int) < (z.n : Int)))) (zzb (zzd (zzu (b := decide ((i : Int) < (z.n : Int))) xj (fun ac => ?_) (fun ac => ?_)))))
 ·have qhb12 := of_decide_eq_true ac
  refine zzs (zzp ?_)
  refine zzd (zzt (sq9 (zza 15 (zI i) ?_)))
  have hl13 := (hz.ext ab).len
  obtain ⟨ai, b13, aq, aj, ag, af⟩ := pol_atN (hz.ext ab) (i := i) xq
  refine zya 16 (aq + i * 3) (n := z.n) (off := aq) (sz := 3) (i := (i : Int)) xq aj xq xq sl26 (zym 17 ai.cs ag ty32 (zzk 7 ⟨32, zw3⟩ (zza 6 (zI i) (zzj ⟨32, ai.cs⟩ ty32 ?_))))
  refine zzb (zzf (zza 18 (.slc 10 0 z.n z.n) (zza 19 (zI i) (zza 20 (.v (.func (.func 174) #[] #[.pointer (some ⟨b10, 0, none⟩), .pointer (some ⟨b7, 0, none⟩), .pointer (some ⟨b9, 0, none⟩), .pointer (some ⟨b11, 0, none⟩)])) (zza 21 (zI i) (zzi 22 (.v (ai.v)) ty32 zze (zzg 23 174 _ fun _ _ aa ar => Post.mono (k_dn2 (j := i) ar (hx.ext (ab.trans aa)) (hr.ext (ab.trans aa)) (hs.ext (ab.trans aa)) (af.ext aa) ((ab.trans aa).cells h10) ((ab.trans aa).cells h7) ((ab.trans aa).cells h9) ((ab.trans aa).cells h11) hp hm xq xq xq xq xq) ?_)))))))
  rintro _ u17 ao ⟨ah, rfl, au⟩
  refine zyw 24 (off' := i * 3) (n := z.n) (off := 0) (sz := 3) (i := (i : Int)) sl26 xq xq xq ?_
  refine zyv (V := ⟨32, rcs L⟩) (off := i * 3) (rcs ((L).set i ah)) ty32 zv (zyx (r := ah) (i := i) yy rfl) ?_
  refine zzx ?_
  refine zzp (zzf (zyq 25 (x := zI (IntKind.i64.wrap ((i : Int) + 1))) (zI (i + 1 : Nat)) (eqI yq) (zza 13 (zI (i + 1 : Nat)) (zzx ?_))))
  have ak : i < (Nt.dnS l m).length := by rw [hul]; omega
  refine ⟨_, ?_, _, by exact zzv _ _ _, i + 1, (L).set i ah, rfl, by omega, by simpa using hL, rfl, (ab.t (aa.t ao.ext)), RatsN.tstep (hR.ext (aa.t ao.ext)) xq ak (RatN.more (K := (2 * K + M + N + 1)) au xq) (by rw [Nt.dnS_at l xq, hqe, hpe, hqe, getD_take l xq])⟩
  omega
 have qhb12 := of_decide_eq_false ac
 refine zyc (zzp (zzd (zyp (r := 5) (t := 10) [5, 10] xw xj zk zk xj (fun ae ax am al ad => ?_))))
 have av : PolN ax ⟨some ⟨ae, 0, none⟩, z.n, z.n⟩ (Nt.dnS l m) (2 * K + M + N + 1) := pol_data1 ad yv (RatsN.tdone (hR.ext am) xq (by rw [hul]; omega)) xq
 refine zzf (zza 26 (.v (.slice (some ⟨ae, 0, none⟩) z.n z.n)) (zza 4 (.v (.slice (some ⟨ae, 0, none⟩) z.n z.n)) (zzb (zzo (ret0 [.slice (some ⟨ae, 0, none⟩) z.n z.n] ⟨zzq, trivial⟩ fun u27 an => ?_)))))
 exact ⟨ae, L, rfl, al, an.cells ad, by omega, (RatsN.tdone (hR.ext (am.trans an)) xq (by rw [hul]; omega))⟩
theorem k_stWrong {u w : World} {x : Sl} {l : List Rat} {K : Nat} (d : Dat u w) (hx : PolV u x l K) (hn : l.getD 0 0 ≠ 0) (hK : K ≤ 10000000) (hl : l.length ≤ 40) : Calls Tryz.prog 172 #[x.v] w (Post u w fun v _ => v = .int .i64 0) := by
 have hlen := hx.len
 have hpos : 0 < l.length := by
  cases l with
  | nil => exact absurd rfl hn
  | cons a l => simp
 refine zzm (args := [x.v]) Tryz.func172 rfl Tryz.ntmps172 (rs := [.tmp 2]) Tryz.results172 (le_b rfl) (le_b rfl) d ?_
 refine sq9 (zza 2 (zI 0) (zzb (zzd (sq9 (zza 3 (.v (x.v)) (zzg 4 76 _ fun _ _ ab ag => Post.mono (k_poDegree ag (hx.ext ab) xq xk) ?_))))))
 rintro _ u12 ae rfl
 refine zza 5 (zB (decide ((48 : Int) < (((Nt.trimQ l).length : Int) - 1)))) (zzb (zzu (b := decide ((48 : Int) < (((Nt.trimQ l).length : Int) - 1))) xj (fun hb => ?_) (fun hb => ?_)))
 ·exact absurd hb (by rw [show (decide ((48 : Int) < (((Nt.trimQ l).length : Int) - 1))) = false from decide_eq_false (by have h9 := Nt.zzh l; omega)]; decide)
 clear hb
 refine zzs (zzp ?_)
 refine zzd (sq9 (zza 6 (.v (x.v)) (zza 7 (zI x.n) (zza 8 (zB ((x.n : Int) == 0)) (zyq 9 (x := zB ((x.n : Int) == 0)) (zB false) (by rw [show ((x.n : Int) == 0) = false from zx]) (zza 10 (.v (x.v)) ?_ (hw := w1 3 false 9)))))))
 have hl16 := (hx.ext (ab.t ae.ext)).len
 obtain ⟨ah, b16, af, ad, aa, ac⟩ := pol_at (hx.ext (ab.t ae.ext)) (i := 0) xq
 refine zya 11 (af + 0 * 3) (n := x.n) (off := af) (sz := 3) (i := 0) xq ad xq xq sl27 ?_ (hw := w1 3 false 9)
 refine zym 12 ah.cs aa ty32 ?_ (hw := w1 3 false 9)
 refine zzg 13 66 _ (fun _ _ aj ai => Post.mono (k_ratSign ai (ac.ext aj)) ?_) (hw := w1 3 false 9)
 rintro _ u18 g19 rfl
 refine zza 14 (zB ((Nt.sgQ (l.getD 0 0)) == 0)) ?_ (hw := w1 3 false 9)
 refine zza 15 (zB ((Nt.sgQ (l.getD 0 0)) == 0)) (zzb (zzu (b := (Nt.sgQ (l.getD 0 0)) == 0) xj (fun hb => ?_) (fun hb => ?_)))
 ·exact absurd hb (by rw [show ((Nt.sgQ (l.getD 0 0)) == 0) = false from (by rw [Nt.sgQ_eq]; exact decide_eq_false hn)]; decide)
 clear hb
 refine zzs (zzp ?_)
 refine sq9 (zza 2 (zI 0) (zzb (zzo (ret0 [.int .i64 0] ⟨zzq, trivial⟩ fun u21 e22 => ?_))))
 rfl
set_option maxHeartbeats 4000000 in
theorem k_reflect {u w : World} {x : Sl} {l : List Rat} {D : Nat → List Rat} {K n S : Nat} (d : Dat u w) (hx : PolV u x l K) (hD : Nt.Down (Nt.trimQ l) D n S) (hK : K ≤ 10000) (hS : S ≤ 10000) (hl : l.length ≤ 40) : Calls Tryz.prog 121 #[x.v] w (Post u w fun v u' => ∃ y : Sl, v = .tuple #[y.v, .int .i64 0] ∧ PolN u' y (Nt.refL D n) S) := by
 have hlen := hx.len
 have hDl := hD.len
 have htl := Nt.zzh l
 refine zzm (args := [x.v]) Tryz.func121 rfl Tryz.ntmps121 (rs := [.tmp 2, .tmp 3]) Tryz.results121 (le_b rfl) (le_b rfl) d ?_
 refine sq9 (zza 2 (.v (.slice none 0 0)) (zza 3 (zI 0) (zzb (zzd (sq9 (zza 12 (.v (x.v)) (zzg 13 172 _ fun _ _ ba bj => Post.mono (k_stWrong bj (hx.ext ba) (fun h => hD.nz ((Nt.trim_co l 0).trans h)) xq xq) ?_)))))))
 rintro _ u12 bl rfl
 refine zza 4 (zI 0) (zzb (sq9 (zza 14 (zI 0) (zza 15 (zB false) (zzb (zys xj (zzs (zzp ?_))))))))
 refine sq9 (zza 17 (.v (x.v)) (zzg 18 117 _ fun _ _ bM bx => Post.mono (k_poTrim bx (hx.ext (ba.t (bl.t bM))) xq zj) ?_))
 rintro _ u18 g19 ⟨aa, rfl, aH⟩
 have hly16 := aH.len
 refine zza 5 (.v (aa.v)) (zzb (sq9 (zza 19 (.v (aa.v)) ?_)))
 have hl21 := aH.len
 obtain ⟨a9, b21, a4, aW, a0, aQ⟩ := pol_atN aH (i := 0) xq
 refine zya 20 (a4 + 0 * 3) (n := aa.n) (off := a4) (sz := 3) (i := 0) xq aW xq xq sl27 (zym 21 a9.cs a0 ty32 (zzk 6 ⟨32, zw3⟩ (zzj ⟨32, a9.cs⟩ ty32 ?_)))
 refine zzb (zzd (sw_pubA (r := 6) (t := 6) [6] xw xj zk zk xj (fun bq u23 bb bB bu aK => ?_)))
 refine zzf (zza 22 (.v (aa.v)) (sy_fun 23 [.pointer (some ⟨bq, 0, none⟩)] ?_))
 refine zzg 24 170 _ fun _ _ aJ bs => Post.mono (k_mapDn1 bs (aH.ext (bb.trans aJ)) (aQ.ext (bb.trans aJ)).raw (aJ.cells aK) hD.nz xq xq xq) ?_
 rintro _ a6 g36 ⟨aA, L30, rfl, bA, a3, bc, aX⟩
 have aO : PolN a6 (⟨some ⟨aA, 0, none⟩, aa.n, aa.n⟩ : Sl) (Nt.divS (Nt.trimQ l) ((Nt.trimQ l).getD 0 0)) (K + K) := pol_data1 a3 yv aX xq
 refine zzk 7 ⟨26, [.slice none 0 0]⟩ (zzj ⟨26, [.slice (some ⟨aA, 0, none⟩) aa.n aa.n]⟩ ty26 ?_)
 refine zzb (sq9 (zzi 25 (.v (.slice (some ⟨aA, 0, none⟩) aa.n aa.n)) ty26 zzl (zza 26 (zI aa.n) (zyq 27 (x := zI (IntKind.i64.wrap ((aa.n : Int) - 1))) (zI n) (eqI yq) (sy_make 28 (T := 26) (E := 32) (z := .agg #[.bool false, .slice none 0 0, .slice none 0 0]) (size := 3) (bytes := 56) n (rcs (List.replicate n rl0)) xj xj rfl rfl xq yv (made_rcs _) ?_)))))
 refine zza 8 (.slc 28 0 n n) (zzc 61 [(7, .adr 7 0), (8, .slc 28 0 n n)] [(7, ⟨26, [.slice (some ⟨aA, 0, none⟩) aa.n aa.n]⟩), (28, ⟨32, rcs (List.replicate n rl0)⟩)] (zzd (sq9 (zzi 29 (.v (.slice (some ⟨aA, 0, none⟩) aa.n aa.n)) ty26 zzl (zza 30 (zI aa.n) (zyq 31 (x := zI (IntKind.i64.wrap ((aa.n : Int) - 1))) (zI n) (eqI yq) (zzk 9 ⟨3, [.int .i64 0]⟩ (zzj ⟨3, [.int .i64 n]⟩ ty3 ?_))))))))
 refine zzb (zzt ?_)
 have hn9 : n ≤ 40 := by have h9 := Nt.zzh l; omega
 refine zyn (I := fun a8 S' u' => ∃ (m : Nat) (c : Sl) (L : List RL), (a8 = m) ∧ (m ≤ n) ∧ (L.length = n) ∧ (S' = St.of 61 [(7, .adr 7 0), (8, .slc 28 0 n n), (9, .adr 9 0)] [(7, ⟨26, [c.v]⟩), (9, ⟨3, [.int .i64 m]⟩), (28, ⟨32, rcs L⟩)]) ∧ (Ext a6 u') ∧ (PolN u' c (D m) S) ∧ (RatsN u' (L.drop m) ((Nt.refL D n).drop m) S)) (fun m S u1 u2 e h => by obtain ⟨m, c, L, hm, p0, p1, hS, hE, f0, f1⟩ := h; exact ⟨m, c, L, hm, p0, p1, hS, hE.trans e, f0.ext e, f1.ext e⟩) _ yw ⟨n, (⟨some ⟨aA, 0, none⟩, aa.n, aa.n⟩ : Sl), List.replicate n rl0, rfl, Nat.le_refl _, zz, rfl, (Ext.refl _), (hD.fit (Nat.le_refl _) (by rw [hD.top]; exact aO)), (RatsN.dnil zz (Nt.refL_len D n))⟩ ?_
 rintro a8 _ u39 ⟨m, c, L, bd, bo, hL, rfl, bL, hC, hR⟩
 have hcl := hC.len
 have hdl := hD.dlen m bo
 refine zzd (sq9 (zzi 32 (zI m) ty3 zzl (zza 33 (zB (decide ((1 : Int) ≤ (m : Int)))) (zzb (zzu (b := decide ((1 : Int) ≤ (m : Int))) xj (fun ay => ?_) (fun ay => ?_))))))
 ·have qhb40 := of_decide_eq_true ay
  refine zzs (zzp ?_)
  refine zzd (zzt (sq9 (zzi 36 (.v (c.v)) ty26 zzl (zzi 37 (zI m) ty3 zzl ?_))))
  have hl41 := hC.len
  obtain ⟨bN, b41, a7, a2, aY, aT⟩ := pol_atN hC (i := m) xq
  refine zya 38 (a7 + m * 3) (n := c.n) (off := a7) (sz := 3) (i := (m : Int)) xq a2 xq xq sl26 (zym 39 bN.cs aY ty32 (zzg 40 68 _ fun _ _ ax bD => Post.mono (k_ratTrim bD (aT.ext ax).raw xq) ?_))
  rintro _ u45 az ⟨al, rfl, aG⟩
  refine zzk 10 ⟨32, zw3⟩ (zzj ⟨32, al.cs⟩ ty32 ?_)
  refine zzb (zzd (sq9 (zzi 41 (.v (al.v)) ty32 zze (zzg 42 169 _ fun _ _ aj bg => Post.mono (k_small bg (aG.ext aj).raw xq) ?_))))
  rintro _ u49 ao rfl
  refine zza 43 (zB (!(Nt.smallQ ((D m).getD m 0)))) (zzb (zzu (b := !(Nt.smallQ ((D m).getD m 0))) xj (fun hb => ?_) (fun hb => ?_)))
  ·exact absurd hb (by rw [show (!(Nt.smallQ ((D m).getD m 0))) = false from (by rw [hD.small m xq xq]; rfl)]; decide)
  clear hb
  refine zzs (zzp ?_)
  refine sq9 (zza 44 (.slc 28 0 n n) (zzi 45 (zI m) ty3 zzl (zyq 46 (x := zI (IntKind.i64.wrap ((m : Int) - 1))) (zI (m - 1 : Nat)) (eqI yq) (zzi 47 (.v (al.v)) ty32 zze (zyw 48 (off' := (m - 1) * 3) (n := n) (off := 0) (sz := 3) (i := ((m - 1 : Nat) : Int)) sl26 xq xq xq ?_)))))
  refine zyv (V := ⟨32, rcs L⟩) (off := (m - 1) * 3) (rcs ((L).set (m - 1) al)) ty32 zv (zyx (r := al) (i := m - 1) yy rfl) ?_
  refine zzc 61 [(7, .adr 7 0), (8, .slc 28 0 n n), (9, .adr 9 0), (10, .adr 10 0)] [(7, ⟨26, [c.v]⟩), (9, ⟨3, [.int .i64 m]⟩), (10, ⟨32, al.cs⟩), (28, ⟨32, rcs ((L).set (m - 1) al)⟩)] (zzd (zzz [0, 0, 0, 7, 15, 0, 63] [(1, []), (2, []), (5, []), (0, []), (3, []), (4, []), (6, [])] xj xj (zzi 50 (.v (al.v)) ty32 zze (zzi 51 (.v (al.v)) ty32 zze (zzk 11 ⟨32, zw3⟩ (zzg 49 109 _ fun _ _ am bH => Post.mono (k_ratOf bH (z := 1) xq xq) ?_))))))
  rintro _ u55 ap ⟨r53, rfl, bI⟩
  refine zzg 52 113 _ fun _ _ ag bC => Post.mono (k_ratMul bC (aG.ext (aj.t (ao.t (am.t (ap.t ag))))).raw (aG.ext (aj.t (ao.t (am.t (ap.t ag))))).raw xq xq) ?_
  rintro _ u61 au ⟨r59, rfl, bf⟩
  refine zzg 53 139 _ fun _ _ ak bz => Post.mono (k_ratSub bz (bI.ext (ag.t (au.t ak))).raw (bf.ext ak).raw xq xq) ?_
  rintro _ u67 av ⟨bK, rfl, bG⟩
  refine zzj ⟨32, bK.cs⟩ ty32 ?_
  refine zzb (sw_pubA (r := 10) (t := 10) [10] xw xj zk zk xj (fun bi u71 aq bv bh aZ => ?_))
  refine sw_pubA (r := 9) (t := 9) [9] xw xj zk zk xj (fun bt u77 an br bJ aw => ?_)
  refine sw_pubA (r := 11) (t := 11) [11] xw xj zk zk xj (fun bn u83 ae bp bF aL => ?_)
  refine sw_pubA (r := 7) (t := 7) [7] xw xj zk zk xj (fun be u89 ad aR ar ah => ?_)
  refine sw_cut 5 ?_
  refine zyl 54 (c.v) (var_cell1 ah) ty26 (zyl 55 (.int .i64 m) (var_cell1 ((ae.trans ad).cells aw)) ty3 ?_)
  have hl94 := (hC.ext (ax.t (az.t (aj.t (ao.t (am.t (ap.t (ag.t (au.t (ak.t (av.t (aq.trans (an.trans (ae.trans ad)))))))))))))).len
  have hc94 := (hC.ext (ax.t (az.t (aj.t (ao.t (am.t (ap.t (ag.t (au.t (ak.t (av.t (aq.trans (an.trans (ae.trans ad)))))))))))))).cap
  refine sy_front 56 (n := c.n) (c := c.c) m sl26 rfl xq ?_
  refine sy_fun 57 [.pointer (some ⟨bi, 0, none⟩), .pointer (some ⟨be, 0, none⟩), .pointer (some ⟨bt, 0, none⟩), .pointer (some ⟨bn, 0, none⟩)] ?_
  refine zzg 58 170 _ fun _ _ ac bw => Post.mono (k_mapDn2 (m := m) bw (hC.ext (ax.t (az.t (aj.t (ao.t (am.t (ap.t (ag.t (au.t (ak.t (av.t (aq.trans (an.trans (ae.trans (ad.trans ac))))))))))))))) (aG.ext (aj.t (ao.t (am.t (ap.t (ag.t (au.t (ak.t (av.t (aq.trans (an.trans (ae.trans (ad.trans ac))))))))))))).raw (bG.ext (aq.trans (an.trans (ae.trans (ad.trans ac))))).raw ((pol_takeN (hC.ext (ax.t (az.t (aj.t (ao.t (am.t (ap.t (ag.t (au.t (ak.t (av.t (aq.trans (an.trans (ae.trans ad)))))))))))))) xq).ext ac) ((an.trans (ae.trans (ad.trans ac))).cells aZ) (ac.cells ah) ((ae.trans (ad.trans ac)).cells aw) ((ad.trans ac).cells aL) (Nt.small_nz (hD.small m xq xq)) (by rw [hD.dlen m xq]) rfl rfl xq xq xq (by rw [hD.dlen m xq]; omega)) ?_
  rintro _ bE af ⟨aI, L97, rfl, aU, aM, aF, aD⟩
  refine zzx ?_
  refine sl_adoptA (r := 7) (k := 7) zk ((ac.t af.ext).cells ah) aR xj (fun aP ab => ?_)
  have aB : PolN aP (⟨some ⟨aI, 0, none⟩, m, m⟩ : Sl) (Nt.dnS (D m) m) (2 * S + S + (2 + (S + S) + 1) + 1) := newR_adopt aU ((Ext.refl _).cells aM) aF (aD.ext (Ext.refl _)) yv (ac.cells ah) ((ac.t af.ext).cells ah) zz ab
  refine sl_sym ?_
  refine zzj ⟨26, [.slice (some ⟨aI, 0, none⟩) m m]⟩ ty26 ?_
  refine zzx ?_
  refine zzp (zzd (sq9 (zyl 59 (.int .i64 m) (var_cell1 ((ae.trans (ExtB.old2 ab (ad.t (ac.t af.ext)) ar)).cells aw)) ty3 (zzb (zzf (zzk 9 ⟨3, [.int .i64 0]⟩ (zzj ⟨3, [.int .i64 m]⟩ ty3 ?_)))))))
  refine zzb (zzf (zzi 34 (zI m) ty3 zzl (zyq 35 (x := zI (IntKind.i64.wrap ((m : Int) - 1))) (zI (m - 1 : Nat)) (eqI yq) (zzj ⟨3, [.int .i64 (m - 1 : Nat)]⟩ ty3 ?_))))
  refine zzx ?_
  refine ⟨_, ?_, _, by exact zzv _ _ _, m - 1, (⟨some ⟨aI, 0, none⟩, m, m⟩ : Sl), (L).set (m - 1) al, rfl, by omega, by simpa using hL, rfl, (bL.t (ax.t (az.t (aj.t (ao.t (am.t (ap.t (ag.t (au.t (ak.t (av.t (aq.trans (an.trans (ae.trans (ExtB.old2 ab (ad.t (ac.t af.ext)) ar))))))))))))))), (hD.fit xq (by rw [hD.step (m - 1) xq, show m - 1 + 1 = m by omega]; exact aB)), (RatsN.dstep (hR.ext (ax.t (az.t (aj.t (ao.t (am.t (ap.t (ag.t (au.t (ak.t (av.t (aq.trans (an.trans (ae.trans (ExtB.old2 ab (ad.t (ac.t af.ext)) ar))))))))))))))) xq xq (by rw [Nt.refL_len]; exact hL) (by rw [Nt.refL_at D xq, show m - 1 + 1 = m by omega]; exact (aG.ext (aj.t (ao.t (am.t (ap.t (ag.t (au.t (ak.t (av.t (aq.trans (an.trans (ae.trans (ExtB.old2 ab (ad.t (ac.t af.ext)) ar)))))))))))))))⟩
  omega
 have qhb40 := of_decide_eq_false ay
 refine zyc (zzp (zzd ?_))
 have bk : m = 0 := by omega
 refine zyp (r := 8) (t := 28) [8, 28] xw xj zk zk xj (fun ai aV aN a5 aE => ?_)
 have aC : PolN aV ⟨some ⟨ai, 0, none⟩, n, n⟩ (Nt.refL D n) S := pol_data1 aE yv ((RatsN.dall hR bk).ext aN) xq
 refine zzf (zza 60 (.v (.slice (some ⟨ai, 0, none⟩) n n)) (zza 2 (.v (.slice (some ⟨ai, 0, none⟩) n n)) (zza 3 (zI 0) (zzb (zzo (ret0 [.slice (some ⟨ai, 0, none⟩) n n, .int .i64 0] ⟨zzq, zzq, trivial⟩ fun bm a1 => ?_))))))
 exact ⟨(⟨some ⟨ai, 0, none⟩, n, n⟩ : Sl), rfl, (aC.ext a1)⟩
theorem k_stable {u w : World} {x : Sl} {l : List Rat} {D : Nat → List Rat} {K n S : Nat} (d : Dat u w) (hx : PolV u x l K) (hD : Nt.Down (Nt.trimQ l) D n S) (hK : K ≤ 10000) (hS : S ≤ 10000) (hl : l.length ≤ 40) : Calls Tryz.prog 45 #[x.v] w (Post u w fun v u' => v = .tuple #[.bool true, .int .i64 0]) := by
 refine zzm (args := [x.v]) Tryz.func45 rfl Tryz.ntmps45 (rs := [.tmp 2, .tmp 3]) Tryz.results45 (le_b rfl) (le_b rfl) d ?_
 refine sq9 (zza 2 (zB false) (zza 3 (zI 0) (zzb (sq9 (zza 7 (.v (x.v)) (zzg 8 121 _ fun _ _ ac ab => Post.mono (k_reflect ab (hx.ext ac) hD xq xq xq) ?_))))))
 rintro _ u14 g15 ⟨aa, rfl, ad⟩
 have hly12 := ad.len
 rw [Nt.refL_len] at hly12
 refine zza 6 (.v (.tuple #[aa.v, .int .i64 0])) (zza 9 (.v (aa.v)) (zza 10 (zI 0) (zza 4 (.v (aa.v)) (zza 5 (zI 0) (zzb (zzd (sq9 (zza 11 (zI 0) (zza 12 (zB false) (zzb (zys xj ?_)))))))))))
 refine zzs (zzp ?_)
 refine sq9 (zza 13 (zI 0) (zza 14 (zB true) (zza 15 (zI 0) (zza 2 (zB true) (zza 3 (zI 0) (zzb (zzo (ret0 [.bool true, .int .i64 0] ⟨zzq, zzq, trivial⟩ fun u17 e18 => ?_))))))))
 rfl
theorem k_withinN {u w : World} {n m : Int} (d : Dat u w) (hm : 1 ≤ m) (hm2 : m ≤ 4611686018427387904) (hn0 : -9223372036854775808 ≤ n) (hn1 : n ≤ 9223372036854775807) : Calls Tryz.prog 100 #[.int .i64 n, .int .i64 m] w (Post u w fun v _ => ∃ z : Nat, v = .int .i64 (z : Int) ∧ (z : Int) < m) :=
 Post.mono (k_within d hm hm2 hn0 hn1) fun v u' _ h => by
  have h1 := Int.emod_nonneg n (show m ≠ 0 by omega)
  have h2 := Int.emod_lt_of_pos n (show 0 < m by omega)
  exact ⟨(n % m).toNat, by rw [h, Int.toNat_of_nonneg h1], by omega⟩
set_option maxHeartbeats 2000000 in
theorem k_belowN {u w : World} {x : Sl} {l : List Int} {b : Int} {n : Nat} (d : Dat u w) (hx : SlR .i64 u x.a x.n x.c l) (hb : ∀ z ∈ l, -9223372036854775808 ≤ z ∧ z ≤ 9223372036854775807) (hb0 : 0 ≤ b) (hb1 : b ≤ 16777216) (hn : n ≤ 1000) : Calls Tryz.prog 101 #[.int .i64 b, x.v, .int .i64 (n : Int)] w (Post u w fun v u' => ∃ (y : Sl) (m : List Int), v = y.v ∧ m.length = n ∧ SlR .i64 u' y.a y.n y.c m ∧ (∀ z ∈ m, -b ≤ z ∧ z ≤ b)) := by
 refine zzm (args := [.int .i64 b, x.v, .int .i64 n]) Tryz.func101 rfl Tryz.ntmps101 (rs := [.tmp 6]) Tryz.results101 (le_b rfl) (le_b rfl) d ?_
 refine sq9 (zza 6 (.v (.slice none 0 0)) (zzb (sq9 (zza 7 (.v (.slice none 0 0)) (zzb (zzd (sq9 (zza 8 (zI 0) (zzb (zzt (zyn (I := fun ar S' u' => (ar = n ∧ S' = St.of 29 [(0, zI b), (1, .v (x.v)), (2, zI n), (7, .v (.slice none 0 0)), (8, zI 0)] [] ∧ Ext u u') ∨ (∃ (i : Nat) (L : List Int) (cs : List Value) (cp : Nat), ar = n - i ∧ i ≤ n ∧ 0 < i ∧ L.length = i ∧ cs.length = cp * 1 ∧ i ≤ cp ∧ cp ≤ maxLen ∧ cs.take (i * 1) = L.map (Value.int .i64) ∧ S' = St.of 29 [(0, zI b), (1, .v (x.v)), (2, zI n), (7, .slc 27 0 i cp), (8, zI i)] [(27, ⟨3, cs⟩)] ∧ Ext u u' ∧ (∀ z ∈ L, -b ≤ z ∧ z ≤ b))) (fun m S u1 u2 e h => by rcases h with ⟨a, b, c⟩ | ⟨a1, a2, a3, a4, b1, b2, b3, b4, b5, b6, b7, b8, b9, b10, b11⟩; exact .inl ⟨a, b, c.trans e⟩; exact .inr ⟨a1, a2, a3, a4, b1, b2, b3, b4, b5, b6, b7, b8, b9, b10.trans e, b11⟩) _ yw (.inl ⟨rfl, rfl, Ext.refl _⟩) ?_)))))))))))
 rintro ar _ aP (⟨ap, rfl, aj⟩ | ⟨i, L, cs, cp, ap, hi, hp, hL, hc, hle, hmx, ht, rfl, aj, hP⟩)
 ·change SW _ _ _ _ (St.of 29 [(0, .v (.int .i64 b)), (1, .v (.slice x.a x.n x.c)), (2, .v (.int .i64 (n : Int))), (7, .v (.slice none 0 0)), (8, .v (.int .i64 0))] []) _ _
  refine zzd (sq9 (zza 9 (zI 0) (zza 10 (zI n) (zza 11 (zB (decide ((0 : Int) < (n : Int)))) (zzb (zzu (b := decide ((0 : Int) < (n : Int))) xj (fun ab => ?_) (fun ab => ?_)))))))
  ·have qhb12 := of_decide_eq_true ab
   refine zzs (zzp ?_)
   refine zzd (zzt (zzf (zza 14 (.v (.slice none 0 0)) (zza 15 (.v (x.v)) (zza 16 (zI 0) (zzg 17 133 _ fun _ _ aE aM => Post.mono ((show Calls _ _ #[_, .int .i64 0] _ _ from k_wat (x := x) (i := 0) aM (hx.ext (aj.trans aE)) hb xq)) ?_))))))
   rintro _ u14 aR rfl
   have hz17 := ints_bd hb xq 0
   refine zza 18 (zI b) ?_
   obtain ⟨aA, az, aJ, bd⟩ := wrap64_ex ((l.getD 0 0) + b)
   refine zyq 19 (x := zI (IntKind.i64.wrap ((l.getD 0 0) + b))) (zI aA) (eqI az) (zza 20 (zI b) (zyq 21 (x := zI (IntKind.i64.wrap ((2 : Int) * b))) (zI ((2 : Int) * b)) zq (zyq 22 (x := zI (IntKind.i64.wrap (((2 : Int) * b) + 1))) (zI (((2 : Int) * b) + 1)) zq (zzg 23 100 _ fun _ _ a0 a6 => Post.mono ((show Calls _ _ #[.int .i64 aA, .int .i64 (((2 : Int) * b) + 1)] _ _ from k_withinB (n := aA) (m := ((2 : Int) * b) + 1) a6 xq xq xq xq)) ?_))))
   rintro _ u23 aZ ⟨aG, rfl, h21, h22⟩
   refine zza 24 (zI b) ?_
   obtain ⟨ac, av⟩ : ∃ g, aG - b = g := ⟨_, rfl⟩
   refine zyq 25 (x := zI (IntKind.i64.wrap (aG - b))) (zI ac) (eqI (by rw [IntWalk.i64_in _ xq]; exact av)) (zxx 26 ⟨3, [.int .i64 ac]⟩ 1 (fun aT u28 aW a5 => ?_))
   refine sy_app0 27 (T := 22) (E := 3) (z := .int .i64 0) (size := 1) (bytes := 8) (b := aT) (off := 0) (m := 1) [.int .i64 ac] xj xj xj yz rfl (lit_news ((Ext.refl _).cells a5)) (int_one _) yz yz yz ?_
   intro c31 ag a8 au ax aw
   have af : ag.take (1 * 1) = ([ac]).map (Value.int .i64) := aw
   refine zza 7 (.slc 27 0 1 c31) (zzx ?_)
   refine zzp (zzf (zza 12 (zI 0) (zza 13 (zI 1) (zza 8 (zI 1) (zzx ?_)))))
   refine ⟨_, ?_, _, by exact zzv _ _ _, .inr ⟨1, [ac], ag, c31, rfl, by omega, by omega, by simp, ax, by omega, au, af, rfl, (aj.t (aE.t (aR.t (a0.t (aZ.t aW))))), (all_snoc (L := []) all_nil xq xq)⟩⟩
   omega
  have qhb12 := of_decide_eq_false ab
  refine zyc (zzp (zzd ?_))
  have ay : SlR .i64 aP none 0 0 [] := ints_nil
  refine zzf (zza 28 (.v (.slice none 0 0)) (zza 6 (.v (.slice none 0 0)) (zzb (zzo (ret0 [.slice none 0 0] ⟨zzq, trivial⟩ fun u33 aY => ?_)))))
  exact ⟨⟨none, 0, 0⟩, [], rfl, yy, (ay.ext aY), all_nil⟩
 change SW _ _ _ _ (St.of 29 [(0, .v (.int .i64 b)), (1, .v (.slice x.a x.n x.c)), (2, .v (.int .i64 (n : Int))), (7, .slc 27 0 i cp), (8, .v (.int .i64 (i : Int)))] [(27, ⟨3, cs⟩)]) _ _
 refine zzd (sq9 (zza 9 (zI i) (zza 10 (zI n) (zza 11 (zB (decide ((i : Int) < (n : Int)))) (zzb (zzu (b := decide ((i : Int) < (n : Int))) xj (fun aa => ?_) (fun aa => ?_)))))))
 ·have qhb35 := of_decide_eq_true aa
  refine zzs (zzp ?_)
  refine zzd (zzt (zzf (zza 14 (.slc 27 0 i cp) (zza 15 (.v (x.v)) (zza 16 (zI i) (zzg 17 133 _ fun _ _ aD aU => Post.mono ((show Calls _ _ #[_, .int .i64 i] _ _ from k_wat (x := x) (i := i) aU (hx.ext (aj.trans aD)) hb xq)) ?_))))))
  rintro _ u37 a7 rfl
  have hz40 := ints_bd hb xq i
  refine zza 18 (zI b) ?_
  obtain ⟨ak, aq, aN, aQ⟩ := wrap64_ex ((l.getD i 0) + b)
  refine zyq 19 (x := zI (IntKind.i64.wrap ((l.getD i 0) + b))) (zI ak) (eqI aq) (zza 20 (zI b) (zyq 21 (x := zI (IntKind.i64.wrap ((2 : Int) * b))) (zI ((2 : Int) * b)) zq (zyq 22 (x := zI (IntKind.i64.wrap (((2 : Int) * b) + 1))) (zI (((2 : Int) * b) + 1)) zq (zzg 23 100 _ fun _ _ bb aV => Post.mono ((show Calls _ _ #[.int .i64 ak, .int .i64 (((2 : Int) * b) + 1)] _ _ from k_withinB (n := ak) (m := ((2 : Int) * b) + 1) aV xq xq xq xq)) ?_))))
  rintro _ u46 aI ⟨aF, rfl, h44, h45⟩
  refine zza 24 (zI b) ?_
  obtain ⟨ah, aC⟩ : ∃ g, aF - b = g := ⟨_, rfl⟩
  refine zyq 25 (x := zI (IntKind.i64.wrap (aF - b))) (zI ah) (eqI (by rw [IntWalk.i64_in _ xq]; exact aC)) (zxx 26 ⟨3, [.int .i64 ah]⟩ 1 (fun aK u51 a9 aO => ?_))
  refine sy_app1 27 (T := 22) (E := 3) (z := .int .i64 0) (size := 1) (bytes := 8) (b := aK) (off := 0) (m := 1) (n := i) (cap := cp) (t := 27) (cs0 := cs) [7, 14, 27] [.int .i64 ah] xj xj xj yz rfl (lit_news ((Ext.refl _).cells aO)) (int_one _) yz yv xq xq xq xq xw ?_
  intro aH ai bc an aB al
  have ae : ai.take ((i + 1) * 1) = (L ++ [ah]).map (Value.int .i64) := by rw [al, ht, List.map_append]; rfl
  refine zza 7 (.slc 27 0 (i + 1) aH) (zzx ?_)
  refine zzp (zzf (zza 12 (zI i) (zyq 13 (x := zI (IntKind.i64.wrap ((i : Int) + 1))) (zI (i + 1 : Nat)) (eqI yq) (zza 8 (zI (i + 1 : Nat)) (zzx ?_)))))
  refine ⟨_, ?_, _, by exact zzv _ _ _, .inr ⟨i + 1, L ++ [ah], ai, aH, rfl, by omega, by omega, by simp; omega, aB, by omega, an, ae, rfl, (aj.t (aD.t (a7.t (bb.t (aI.t a9))))), (all_snoc (L := L) hP xq xq)⟩⟩
  omega
 have qhb35 := of_decide_eq_false aa
 refine zyc (zzp (zzd (zyp (r := 7) (t := 27) [7, 27] xw xj zk zk xj (fun ad ba e58 aX am => ?_))))
 have ao : SlR .i64 ba (some ⟨ad, 0, none⟩) i cp L := ints_data am (by have h9 := ht; rw [Nat.mul_one] at h9; exact h9) (by have h9 := hc; rw [Nat.mul_one] at h9; exact h9) hle hmx
 refine zzf (zza 28 (.v (.slice (some ⟨ad, 0, none⟩) i cp)) (zza 6 (.v (.slice (some ⟨ad, 0, none⟩) i cp)) (zzb (zzo (ret0 [.slice (some ⟨ad, 0, none⟩) i cp] ⟨zzq, trivial⟩ fun u61 aL => ?_)))))
 exact ⟨(⟨some ⟨ad, 0, none⟩, i, cp⟩ : Sl), L, rfl, yy, (ao.ext aL), hP⟩
set_option maxHeartbeats 1000000 in
theorem k_words {u w : World} {x y : Sl} {l m : List Int} {W : WL} (d : Dat u w) (hx : SlR .i64 u x.a x.n x.c l) (hb : ∀ z ∈ l, -9223372036854775808 ≤ z ∧ z ≤ 9223372036854775807) (hy : SlR .i64 u y.a y.n y.c m) (hc : ∀ z ∈ m, -9223372036854775808 ≤ z ∧ z ≤ 9223372036854775807) (hW : WdOK W) : Calls Tryz.prog 39 #[x.v, y.v, W.v] w (Post u w fun v u' => ∃ (y z : Sl) (p q : List Int), v = .tuple #[y.v, z.v] ∧ p.length ≤ 3 ∧ q.length = p.length + 1 ∧ SlR .i64 u' y.a y.n y.c p ∧ SlR .i64 u' z.a z.n z.c q ∧ (∀ z ∈ p, -(Nt.p2i W.f - 1) ≤ z ∧ z ≤ (Nt.p2i W.f - 1)) ∧ (∀ z ∈ q, -(Nt.p2i (W.b - 1) - 1) ≤ z ∧ z ≤ (Nt.p2i (W.b - 1) - 1))) := by
 obtain ⟨hw1, hw2, hw3, hw4, hw5, hw6, hw7, hw8⟩ := id hW
 have hu0 := Nt.zxp W.f
 have hu1 := Nt.p2i_24 (n := W.f) xq
 have hu2 := Nt.zwe (a := W.f) (b := W.b - 1) xq
 have hu3 := Nt.p2i_24 (n := W.b - 1) xq
 have hlx : l.length = x.n := hx.1
 have hmx := Nat.le_trans hx.2.1 hx.2.2.1
 unfold maxLen at hmx
 refine zzm (args := [x.v, y.v, .agg #[.int .i64 W.b, .int .i64 W.f, .int .i64 W.r, .int .i64 W.o]]) Tryz.func39 rfl Tryz.ntmps39 (rs := [.tmp 6, .tmp 7]) Tryz.results39 (le_b rfl) (le_b rfl) d ?_
 refine sq9 (zzk 5 ⟨66, W.cs⟩ (zza 6 (.v (.slice none 0 0)) (zza 7 (.v (.slice none 0 0)) (zzb (sq9 (zza 9 (.v (x.v)) (zza 10 (zI x.n) (zzg 11 100 _ fun _ _ aq aw => Post.mono ((show Calls _ _ #[.int .i64 x.n, .int .i64 4] _ _ from k_withinN (n := (x.n : Int)) (m := 4) aw xq xq xq xq)) ?_))))))))
 rintro _ u14 al ⟨aa, rfl, h13⟩
 refine zza 8 (zI aa) (zzb (zzd (zzz [0, 1, 3, 0, 0, 31, 0, 64, 192, 448, 960, 1984, 0, 0, 8192, 32767, 65535, 131071] [(0, []), (3, []), (4, []), (6, []), (7, []), (8, []), (9, []), (10, []), (11, []), (12, []), (13, []), (14, []), (1, []), (2, []), (5, []), (15, []), (16, []), (17, [])] xj xj (zzi 12 (.v (W.v)) ty66 zze (zza 15 (.v (x.v)) (zza 16 (zI aa) (zza 18 (.adr 5 0) (zzi 19 (zI W.b) ty3 zzl (zyq 20 (x := zI (IntKind.i64.wrap (W.b - 1))) (zI (W.b - 1)) zq (sy_conv 21 (W.b - 1) (fun w => by kernel_rfl) (IntWalk.u64_in _ xq) ?_))))))))))
 refine sy_shl 22 (k := .i64) (s := W.b - 1) (Nt.p2i (W.b - 1)) xq zw (shl_one xq xq) ?_
 refine zyq 23 (x := zI (IntKind.i64.wrap ((Nt.p2i (W.b - 1)) - 1))) (zI ((Nt.p2i (W.b - 1)) - 1)) zq (zza 24 (.v (y.v)) (zza 25 (zI aa) (zyq 26 (x := zI (IntKind.i64.wrap ((aa : Int) + 1))) (zI (aa + 1 : Nat)) (eqI yq) (zzg 13 102 _ fun _ _ aj aB => Post.mono (k_wunit (W := W) aB hW) ?_))))
 rintro _ u18 ah rfl
 refine zyq 14 (x := zI (IntKind.i64.wrap ((Nt.p2i W.f) - 1))) (zI ((Nt.p2i W.f) - 1)) zq (zzg 17 101 _ fun _ _ an az => Post.mono ((show Calls _ _ #[.int .i64 ((Nt.p2i W.f) - 1), x.v, .int .i64 aa] _ _ from k_belowN (x := x) (b := (Nt.p2i W.f) - 1) (n := aa) az (hx.ext (aq.t (al.t (aj.t (ah.t an))))) hb xq xq xq)) ?_)
 rintro _ u23 ay ⟨af, au, rfl, ai, ac, ad⟩
 have av : au.length = af.n := ac.1
 refine zzg 27 101 _ fun _ _ am ax => Post.mono ((show Calls _ _ #[.int .i64 ((Nt.p2i (W.b - 1)) - 1), y.v, .int .i64 (aa + 1 : Nat)] _ _ from k_belowN (x := y) (b := (Nt.p2i (W.b - 1)) - 1) (n := aa + 1) ax (hy.ext (aq.t (al.t (aj.t (ah.t (an.t (ay.t am))))))) hc xq xq xq)) ?_
 rintro _ u28 aA ⟨ag, ar, rfl, ao, ab, ae⟩
 have ak : ar.length = ag.n := ab.1
 refine zza 6 (.v (af.v)) (zza 7 (.v (ag.v)) (zzb (zzo (ret0 [af.v, ag.v] ⟨zzq, zzq, trivial⟩ fun u31 ap => ?_))))
 exact ⟨af, ag, au, ar, rfl, by omega, by omega, (ac.ext (am.t (aA.t ap))), (ab.ext ap), ad, ae⟩
set_option maxHeartbeats 2000000 in
theorem k_latWrongN {u w : World} {x y : Sl} {l m : List Int} {W : WL} (d : Dat u w) (hW : WdOK W) (hx : SlR .i64 u x.a x.n x.c l) (hb : (∀ z ∈ l, -(Nt.p2i W.f - 1) ≤ z ∧ z ≤ (Nt.p2i W.f - 1))) (hy : SlR .i64 u y.a y.n y.c m) (hc : (∀ z ∈ m, -(Nt.p2i (W.b - 1) - 1) ≤ z ∧ z ≤ (Nt.p2i (W.b - 1) - 1))) (hlm : m.length = l.length + 1) (h6 : l.length ≤ 8) : Calls Tryz.prog 104 #[x.v, y.v, W.v] w (Post u w fun v u' => v = .int .i64 0) := by
 obtain ⟨hw1, hw2, hw3, hw4, hw5, hw6, hw7, hw8⟩ := id hW
 have hu0 := Nt.zxp W.f
 have hu1 := Nt.p2i_24 (n := W.f) xq
 have hu2 := Nt.zwe (a := W.f) (b := W.b - 1) xq
 have hu3 := Nt.p2i_24 (n := W.b - 1) xq
 have hlx : l.length = x.n := hx.1
 have hly : m.length = y.n := hy.1
 refine zzm (args := [x.v, y.v, .agg #[.int .i64 W.b, .int .i64 W.f, .int .i64 W.r, .int .i64 W.o]]) Tryz.func104 rfl Tryz.ntmps104 (rs := [.tmp 6]) Tryz.results104 (le_b rfl) (le_b rfl) d ?_
 refine sq9 (zzk 5 ⟨66, W.cs⟩ (zza 6 (zI 0) (zzb (zzd (sq9 (zzi 13 (.v (W.v)) ty66 zze (zzg 14 103 _ fun _ _ af ax => Post.mono (k_fxValid (W := W) ax hW) ?_)))))))
 rintro _ aL ae rfl
 refine zza 15 (zB false) (zzb (zys xj (zzs (zzp ?_))))
 refine zzd (sq9 (zza 16 (.v (x.v)) (zza 17 (zI x.n) (zza 18 (zB (decide ((8 : Int) < (x.n : Int)))) (zyq 19 (x := zB (decide ((8 : Int) < (x.n : Int)))) (zB false) (by rw [show (decide ((8 : Int) < (x.n : Int))) = false from decide_eq_false xq]) (zza 20 (.v (y.v)) ?_ (hw := w1 3 false 19)))))))
 refine zza 21 (zI y.n) ?_ (hw := w1 3 false 19)
 refine zza 22 (.v (x.v)) ?_ (hw := w1 3 false 19)
 refine zza 23 (zI x.n) ?_ (hw := w1 3 false 19)
 refine zyq 24 (x := zI (IntKind.i64.wrap ((x.n : Int) + 1))) (zI (x.n + 1 : Nat)) (eqI yq) ?_ (hw := w1 3 false 19)
 refine zza 25 (zB ((y.n : Int) != ((x.n + 1 : Nat) : Int))) ?_ (hw := w1 3 false 19)
 refine zza 26 (zB ((y.n : Int) != ((x.n + 1 : Nat) : Int))) (zzb (zzu (b := (y.n : Int) != ((x.n + 1 : Nat) : Int)) xj (fun hb => ?_) (fun hb => ?_)))
 ·exact absurd hb (by rw [show ((y.n : Int) != ((x.n + 1 : Nat) : Int)) = false from zx]; decide)
 clear hb
 refine zzs (zzp ?_)
 refine zzd (sq9 (zza 27 (.v (y.v)) (zza 28 (zI y.n) (zza 29 (zI 0) (zzb (zzt (zyn (I := fun au S' u' => ∃ (i : Nat), (au = y.n - i) ∧ (i ≤ y.n) ∧ (S' = St.of 71 [(0, .v (x.v)), (5, .adr 5 0), (27, .v (y.v)), (28, zI y.n), (29, zI i)] [(5, ⟨66, [.int .i64 W.b, .int .i64 W.f, .int .i64 W.r, .int .i64 W.o]⟩)]) ∧ (Ext aL u')) (fun m S u1 u2 e h => by obtain ⟨i, hm, p0, hS, hE⟩ := h; exact ⟨i, hm, p0, hS, hE.trans e⟩) _ yw ⟨0, rfl, Nat.zero_le _, rfl, (Ext.refl _)⟩ ?_)))))))
 rintro au _ aw ⟨i, ay, hi, rfl, ac⟩
 refine sq9 (zza 30 (zB (decide ((i : Int) < (y.n : Int)))) (zzb (zzd (zzu (b := decide ((i : Int) < (y.n : Int))) xj (fun ab => ?_) (fun ab => ?_)))))
 ·have qhb17 := of_decide_eq_true ab
  refine zzs (zzp ?_)
  refine zzd (zzt (sq9 ?_))
  have hl18 := ((hy.ext (af.t (ae.t ac)))).1
  obtain ⟨b18, ar, am, al⟩ := ints_at (hy.ext (af.t (ae.t ac))) (i := i) xq
  have hz18 := ints_bd hc xq i
  refine zya 31 (ar + i * 1) (n := y.n) (off := ar) (sz := 1) (i := (i : Int)) xq am xq xq sl22 (zyl 32 (.int .i64 (m.getD i 0)) al ty3 (zza 8 (zI (m.getD i 0)) (zzb (sq9 (zzi 33 (.v (W.v)) ty66 zze (zza 34 (zI (m.getD i 0)) (zzg 35 162 _ fun _ _ aH aI => Post.mono (k_fxFits (W := W) (z := (m.getD i 0)) aI hW xq xq) ?_)))))))
  rintro _ u20 az rfl
  refine zza 36 (zB false) (zzb (zys xj (zzs (zzp ?_))))
  refine zzf (zyq 37 (x := zI (IntKind.i64.wrap ((i : Int) + 1))) (zI (i + 1 : Nat)) (eqI yq) (zza 29 (zI (i + 1 : Nat)) (zzx ?_)))
  refine ⟨_, ?_, _, by exact zzv _ _ _, i + 1, rfl, by omega, rfl, (ac.t (aH.t az.ext))⟩
  omega
 have qhb17 := of_decide_eq_false ab
 refine zyc (zzp (zzd (sq9 (zza 38 (.v (x.v)) (zza 39 (zI x.n) (zza 40 (zI 0) (zzb (zzt (zyn (I := fun aq S' u' => ∃ (i : Nat), (aq = x.n - i) ∧ (i ≤ x.n) ∧ (S' = St.of 71 [(0, .v (x.v)), (5, .adr 5 0), (38, .v (x.v)), (39, zI x.n), (40, zI i)] [(5, ⟨66, [.int .i64 W.b, .int .i64 W.f, .int .i64 W.r, .int .i64 W.o]⟩)]) ∧ (Ext aw u')) (fun m S u1 u2 e h => by obtain ⟨i, hm, p0, hS, hE⟩ := h; exact ⟨i, hm, p0, hS, hE.trans e⟩) _ yw ⟨0, rfl, Nat.zero_le _, rfl, (Ext.refl _)⟩ ?_)))))))))
 rintro aq _ aG ⟨i, aA, hi, rfl, ag⟩
 refine sq9 (zza 41 (zB (decide ((i : Int) < (x.n : Int)))) (zzb (zzd (zzu (b := decide ((i : Int) < (x.n : Int))) xj (fun ad => ?_) (fun ad => ?_)))))
 ·have qhb24 := of_decide_eq_true ad
  refine zzs (zzp ?_)
  refine zzd (zzt (sq9 ?_))
  have hl25 := ((hx.ext (af.t (ae.t (ac.trans ag))))).1
  obtain ⟨b25, av, aj, ah⟩ := ints_at (hx.ext (af.t (ae.t (ac.trans ag)))) (i := i) xq
  have hz25 := ints_bd hb xq i
  refine zya 42 (av + i * 1) (n := x.n) (off := av) (sz := 1) (i := (i : Int)) xq aj xq xq sl22 (zyl 43 (.int .i64 (l.getD i 0)) ah ty3 (zza 10 (zI (l.getD i 0)) (zzb (sq9 (zzi 44 (.v (W.v)) ty66 zze (zza 45 (zI (l.getD i 0)) (zzg 46 162 _ fun _ _ aE aD => Post.mono (k_fxFits (W := W) (z := (l.getD i 0)) aD hW xq xq) ?_)))))))
  rintro _ u27 aB rfl
  refine zza 47 (zB false) (zza 48 (zB false) (zzi 49 (.v (W.v)) ty66 zze ?_ (hw := w1 4 false 48)))
  refine zza 50 (zI (l.getD i 0)) ?_ (hw := w1 4 false 48)
  refine zyq 51 (x := zI (IntKind.i64.wrap (0 - (l.getD i 0)))) (zI (-(l.getD i 0))) (eqI yq) ?_ (hw := w1 4 false 48)
  refine zzg 52 162 _ (fun _ _ aF aJ => Post.mono (k_fxFits (W := W) (z := -(l.getD i 0)) aJ hW xq xq) ?_) (hw := w1 4 false 48)
  rintro _ u31 aC rfl
  refine zza 53 (zB false) ?_ (hw := w1 4 false 48)
  refine zza 54 (zB false) (zzc 71 [(0, .v (x.v)), (5, .adr 5 0), (38, .v (x.v)), (39, zI x.n), (40, zI i), (54, zB false)] [(5, ⟨66, W.cs⟩)] (zys xj (zzs (zzp ?_))))
  refine zzf (zyq 55 (x := zI (IntKind.i64.wrap ((i : Int) + 1))) (zI (i + 1 : Nat)) (eqI yq) (zza 40 (zI (i + 1 : Nat)) (zzx ?_)))
  refine ⟨_, ?_, _, by exact zzv _ _ _, i + 1, rfl, by omega, rfl, (ag.t (aE.t (aB.t (aF.t aC.ext))))⟩
  omega
 have qhb24 := of_decide_eq_false ad
 refine zyc (zzp (zzd (sq9 (zza 56 (.v (x.v)) (zza 57 (zI x.n) (zza 58 (zI 0) (zzb (zzt (zyn (I := fun ao S' u' => ∃ (i : Nat), (ao = x.n - i) ∧ (i ≤ x.n) ∧ (S' = St.of 71 [(5, .adr 5 0), (56, .v (x.v)), (57, zI x.n), (58, zI i)] [(5, ⟨66, [.int .i64 W.b, .int .i64 W.f, .int .i64 W.r, .int .i64 W.o]⟩)]) ∧ (Ext aG u')) (fun m S u1 u2 e h => by obtain ⟨i, hm, p0, hS, hE⟩ := h; exact ⟨i, hm, p0, hS, hE.trans e⟩) _ yw ⟨0, rfl, Nat.zero_le _, rfl, (Ext.refl _)⟩ ?_)))))))))
 rintro ao _ u34 ⟨i, aK, hi, rfl, ai⟩
 refine sq9 (zza 59 (zB (decide ((i : Int) < (x.n : Int)))) (zzb (zzd (zzu (b := decide ((i : Int) < (x.n : Int))) xj (fun aa => ?_) (fun aa => ?_)))))
 ·have qhb35 := of_decide_eq_true aa
  refine zzs (zzp ?_)
  refine zzd (zzt (sq9 ?_))
  have hl36 := ((hx.ext (af.t (ae.t (ac.trans (ag.trans ai)))))).1
  obtain ⟨b36, ap, an, ak⟩ := ints_at (hx.ext (af.t (ae.t (ac.trans (ag.trans ai))))) (i := i) xq
  have hz36 := ints_bd hb xq i
  refine zya 60 (ap + i * 1) (n := x.n) (off := ap) (sz := 1) (i := (i : Int)) xq an xq xq sl22 (zyl 61 (.int .i64 (l.getD i 0)) ak ty3 (zza 12 (zI (l.getD i 0)) (zzc 71 [(5, .adr 5 0), (12, zI (l.getD i 0)), (56, .v (x.v)), (57, zI x.n), (58, zI i)] [(5, ⟨66, W.cs⟩)] (sq9 (zza 62 (zI (l.getD i 0)) (zza 63 (zI (l.getD i 0)) (zyq 64 (x := zI (IntKind.i64.wrap (0 - (l.getD i 0)))) (zI (-(l.getD i 0))) (eqI yq) ?_)))))))
  obtain ⟨mx, hmx, hml⟩ : ∃ v, (if -(l.getD i 0) > (l.getD i 0) then -(l.getD i 0) else (l.getD i 0)) = v ∧ v < Nt.p2i W.f := ⟨_, rfl, by split <;> omega⟩
  refine sy_max2 65 (n := (l.getD i 0)) (m := -(l.getD i 0)) (v := mx) hmx ?_
  refine zza 66 (.adr 5 1) (zzi 67 (zI W.f) ty3 zzl (sy_shl 68 (k := .i64) (s := W.f) (Nt.p2i W.f) xq zw (shl_one xq xq) ?_))
  refine zza 69 (zB (decide ((Nt.p2i W.f) ≤ mx))) (zzb (zzu (b := decide ((Nt.p2i W.f) ≤ mx)) xj (fun hb => ?_) (fun hb => ?_)))
  ·exact absurd hb (by rw [show (decide ((Nt.p2i W.f) ≤ mx)) = false from decide_eq_false xq]; decide)
  clear hb
  refine zzs (zzp ?_)
  refine zzf (zyq 70 (x := zI (IntKind.i64.wrap ((i : Int) + 1))) (zI (i + 1 : Nat)) (eqI yq) (zza 58 (zI (i + 1 : Nat)) (zzx ?_)))
  refine ⟨_, ?_, _, by exact zzv _ _ _, i + 1, rfl, by omega, rfl, ai⟩
  omega
 have qhb35 := of_decide_eq_false aa
 refine zyc (zzp (sq9 (zza 6 (zI 0) (zzb (zzo (ret0 [.int .i64 0] ⟨zzq, trivial⟩ fun u37 e38 => ?_))))))
 rfl
set_option maxHeartbeats 4000000 in
theorem k_latIdealN {u w : World} {x y : Sl} {l m : List Int} {W : WL} (d : Dat u w) (hW : WdOK W) (hx : SlR .i64 u x.a x.n x.c l) (hb : (∀ z ∈ l, -(Nt.p2i W.f - 1) ≤ z ∧ z ≤ (Nt.p2i W.f - 1))) (hy : SlR .i64 u y.a y.n y.c m) (hc : (∀ z ∈ m, -(Nt.p2i (W.b - 1) - 1) ≤ z ∧ z ≤ (Nt.p2i (W.b - 1) - 1))) (hlm : m.length = l.length + 1) (h6 : l.length ≤ 8) : Calls Tryz.prog 44 #[x.v, y.v, W.v] w (Post u w fun v u' => ∃ y z : Sl, v = .tuple #[.agg #[y.v, z.v], .int .i64 0] ∧ PolN u' y (Nt.trimQ (Nt.liS W.f l m m.length)) 80000 ∧ PolN u' z (Nt.trimQ (Nt.upL (Nt.wqL W.f l) (Nt.wqL W.f l).length)) 8176) := by
 obtain ⟨hw1, hw2, hw3, hw4, hw5, hw6, hw7, hw8⟩ := id hW
 have hu0 := Nt.zxp W.f
 have hu1 := Nt.p2i_24 (n := W.f) xq
 have hu2 := Nt.zwe (a := W.f) (b := W.b - 1) xq
 have hu3 := Nt.p2i_24 (n := W.b - 1) xq
 have hlx : l.length = x.n := hx.1
 have hly : m.length = y.n := hy.1
 refine zzm (args := [x.v, y.v, .agg #[.int .i64 W.b, .int .i64 W.f, .int .i64 W.r, .int .i64 W.o]]) Tryz.func44 rfl Tryz.ntmps44 (rs := [.cell 6 81, .tmp 7]) Tryz.results44 (le_b rfl) (le_b rfl) d ?_
 refine sq9 (zzk 5 ⟨66, W.cs⟩ (zzk 6 ⟨81, [.slice none 0 0, .slice none 0 0]⟩ (zza 7 (zI 0) (zzb (zzd (sq9 (zza 17 (.v (x.v)) (zza 18 (.v (y.v)) (zzi 19 (.v (W.v)) ty66 zze (zzg 20 104 _ fun _ _ ad aV => Post.mono (k_latWrongN (W := W) aV hW (hx.ext ad) hb (hy.ext ad) hc xq xq) ?_))))))))))
 rintro _ a9 ai rfl
 refine zza 8 (zI 0) (zzb (sq9 (zza 21 (zI 0) (zza 22 (zB false) (zzb (zys xj (zzs (zzp ?_))))))))
 refine sq9 (zza 25 (.v (x.v)) (zza 26 (zI x.n) (sy_make 27 (T := 26) (E := 32) (z := .agg #[.bool false, .slice none 0 0, .slice none 0 0]) (size := 3) (bytes := 56) x.n (rcs (List.replicate x.n rl0)) xj xj rfl rfl xq yv (made_rcs _) ?_)))
 refine zza 9 (.slc 27 0 x.n x.n) (zzc 72 [(0, .v (x.v)), (1, .v (y.v)), (5, .adr 5 0), (6, .adr 6 0), (9, .slc 27 0 x.n x.n)] [(5, ⟨66, W.cs⟩), (6, ⟨81, [.slice none 0 0, .slice none 0 0]⟩), (27, ⟨32, rcs (List.replicate x.n rl0)⟩)] (zzd (sq9 (zza 28 (.v (x.v)) (zza 29 (zI x.n) (zza 30 (zI 0) (zzb (zzt (zyn (I := fun aJ S' u' => ∃ (i : Nat) (L : List RL), (aJ = x.n - i) ∧ (i ≤ x.n) ∧ (L.length = x.n) ∧ (S' = St.of 72 [(1, .v (y.v)), (5, .adr 5 0), (6, .adr 6 0), (9, .slc 27 0 x.n x.n), (28, .v (x.v)), (29, zI x.n), (30, zI i)] [(5, ⟨66, [.int .i64 W.b, .int .i64 W.f, .int .i64 W.r, .int .i64 W.o]⟩), (6, ⟨81, [.slice none 0 0, .slice none 0 0]⟩), (27, ⟨32, rcs L⟩)]) ∧ (Ext a9 u') ∧ (RatsN u' (L.take i) ((Nt.wqL W.f l).take i) 2)) (fun m S u1 u2 e h => by obtain ⟨i, L, hm, p0, p1, hS, hE, f0⟩ := h; exact ⟨i, L, hm, p0, p1, hS, hE.trans e, f0.ext e⟩) _ yw ⟨0, List.replicate x.n rl0, rfl, by omega, by simp, rfl, (Ext.refl _), RatsN.tnil _ _ _ _⟩ ?_)))))))))
 rintro aJ _ u15 ⟨i, L, a1, hi, hL, rfl, af, hR⟩
 refine sq9 (zza 31 (zB (decide ((i : Int) < (x.n : Int)))) (zzb (zzd (zzu (b := decide ((i : Int) < (x.n : Int))) xj (fun ab => ?_) (fun ab => ?_)))))
 ·have qhb16 := of_decide_eq_true ab
  refine zzs (zzp ?_)
  refine zzd (zzt (sq9 (zza 32 (zI i) ?_)))
  have hl17 := ((hx.ext (ad.t (ai.t af)))).1
  obtain ⟨b17, aE, ao, ax⟩ := ints_at (hx.ext (ad.t (ai.t af))) (i := i) xq
  have hz17 := ints_bd hb xq i
  refine zya 33 (aE + i * 1) (n := x.n) (off := aE) (sz := 1) (i := (i : Int)) xq ao xq xq sl22 (zyl 34 (.int .i64 (l.getD i 0)) ax ty3 (zza 10 (zI i) (zza 11 (zI (l.getD i 0)) (zzb (zzf (zza 35 (.slc 27 0 x.n x.n) (zza 36 (zI i) (zzi 37 (.v (W.v)) ty66 zze (zza 38 (zI (l.getD i 0)) (zzg 39 118 _ fun _ _ aQ aZ => Post.mono (k_fxValue (W := W) (z := (l.getD i 0)) aZ hW xq xq) ?_))))))))))
  rintro _ u21 aG ⟨ap, rfl, aW⟩
  refine zyw 40 (off' := i * 3) (n := x.n) (off := 0) (sz := 3) (i := (i : Int)) sl26 xq xq xq ?_
  refine zyv (V := ⟨32, rcs L⟩) (off := i * 3) (rcs ((L).set i ap)) ty32 zv (zyx (r := ap) (i := i) yy rfl) ?_
  refine zzx ?_
  refine zzp (zzf (zyq 41 (x := zI (IntKind.i64.wrap ((i : Int) + 1))) (zI (i + 1 : Nat)) (eqI yq) (zza 30 (zI (i + 1 : Nat)) (zzx ?_))))
  have av : i < (Nt.wqL W.f l).length := by rw [Nt.wqL_len]; omega
  refine ⟨_, ?_, _, by exact zzv _ _ _, i + 1, (L).set i ap, rfl, by omega, by simpa using hL, rfl, (af.t (aQ.t aG.ext)), RatsN.tstep (hR.ext (aQ.t aG.ext)) xq av (RatN.more (K := 2) aW xq) (Nt.wqL_at W.f l (i := i) xq).symm⟩
  omega
 have qhb16 := of_decide_eq_false ab
 refine zyc (zzp (zzd ?_))
 have hzz := Nt.wqL_small hb
 have hql := Nt.wqL_len W.f l
 refine zyp (r := 9) (t := 27) [9, 27] xw xj zk zk xj (fun ak aK ar aX al => ?_)
 have ae : PolN aK ⟨some ⟨ak, 0, none⟩, x.n, x.n⟩ (Nt.wqL W.f l) 2 := pol_data1 al yv (RatsN.tdone (hR.ext ar) xq (by rw [Nt.wqL_len]; omega)) xq
 refine zzf (zza 12 (.v (.slice none 0 0)) (zzb (zzd (sq9 (zza 42 (.v (y.v)) (zza 43 (zI y.n) (zza 44 (zI 0) (zzb (zzt (zyn (I := fun aP S' u' => ∃ (i : Nat) (a : Sl), (aP = y.n - i) ∧ (i ≤ y.n) ∧ (S' = St.of 72 [(5, .adr 5 0), (6, .adr 6 0), (9, .v (.slice (some ⟨ak, 0, none⟩) x.n x.n)), (12, .v (a.v)), (42, .v (y.v)), (43, zI y.n), (44, zI i)] [(5, ⟨66, [.int .i64 W.b, .int .i64 W.f, .int .i64 W.r, .int .i64 W.o]⟩), (6, ⟨81, [.slice none 0 0, .slice none 0 0]⟩)]) ∧ (Ext aK u') ∧ (PolN u' a (Nt.liS W.f l m i) (i * 8200 + 1))) (fun m S u1 u2 e h => by obtain ⟨i, a, hm, p0, hS, hE, f0⟩ := h; exact ⟨i, a, hm, p0, hS, hE.trans e, f0.ext e⟩) _ yw ⟨0, ⟨none, 0, 0⟩, rfl, Nat.zero_le _, rfl, (Ext.refl _), pol_nil _ _⟩ ?_))))))))))
 rintro aP _ u31 ⟨i, a, a8, hi, rfl, ag, hA⟩
 have hal := hA.len
 have hsl := Nt.liS_len W.f l m i
 refine sq9 (zza 45 (zB (decide ((i : Int) < (y.n : Int)))) (zzb (zzd (zzu (b := decide ((i : Int) < (y.n : Int))) xj (fun ac => ?_) (fun ac => ?_)))))
 ·have qhb32 := of_decide_eq_true ac
  refine zzs (zzp ?_)
  refine zzd (zzt (sq9 (zza 46 (zI i) ?_)))
  have hl33 := ((hy.ext (ad.t (ai.t (af.trans (ar.trans ag)))))).1
  obtain ⟨b33, aL, aw, ay⟩ := ints_at (hy.ext (ad.t (ai.t (af.trans (ar.trans ag))))) (i := i) xq
  have hz33 := ints_bd hc xq i
  refine zya 47 (aL + i * 1) (n := y.n) (off := aL) (sz := 1) (i := (i : Int)) xq aw xq xq sl22 (zyl 48 (.int .i64 (m.getD i 0)) ay ty3 (zza 13 (zI i) (zza 14 (zI (m.getD i 0)) (zzb (zzz [0, 0, 0, 6, 0, 0, 62, 126, 255, 511] [(0, []), (1, []), (2, []), (4, []), (5, []), (3, []), (6, []), (7, []), (8, []), (9, [])] xj xj (zza 49 (.v (a.v)) (zza 50 (.v (.slice (some ⟨ak, 0, none⟩) x.n x.n)) (zza 51 (zI i) (zzi 53 (.v (W.v)) ty66 zze (zza 54 (zI (m.getD i 0)) (zzg 52 119 _ fun _ _ an a0 => Post.mono ((show Calls _ _ #[_, .int .i64 i] _ _ from k_reversed (i := i) a0 (ae.ext (ag.trans an)).raw xq xq hzz xq)) ?_)))))))))))
  rintro _ u37 aC ⟨y35, rfl, aA⟩
  have hly35 := aA.len
  have hmy35 := Nt.revL_len (Nt.wqL W.f l) i
  have hk40 := PolN.more aA (Nt.upK_le8 (show i ≤ 8 by omega))
  refine zzg 55 118 _ fun _ _ aq a6 => Post.mono (k_fxValue (W := W) (z := (m.getD i 0)) a6 hW xq xq) ?_
  rintro _ u44 am ⟨r42, rfl, aT⟩
  refine zzg 56 116 _ fun _ _ aj aU => Post.mono (k_poScale aU (hk40.ext (aq.t (am.t aj))).raw (aT.ext aj).raw xq xk xq) ?_
  rintro _ u50 aI ⟨y48, rfl, aO⟩
  have hly48 := aO.len
  refine zzg 57 115 _ fun _ _ au a5 => Post.mono (k_poAdd a5 (hA.ext (an.t (aC.t (aq.t (am.t (aj.t (aI.t au))))))).raw (aO.ext au).raw xq xq xk xk) ?_
  rintro _ u56 aY ⟨aF, rfl, az⟩
  have hly54 := az.len
  refine zza 12 (.v (aF.v)) (zzx ?_)
  refine zzp (zzf (zyq 58 (x := zI (IntKind.i64.wrap ((i : Int) + 1))) (zI (i + 1 : Nat)) (eqI yq) (zza 44 (zI (i + 1 : Nat)) (zzx ?_))))
  refine ⟨_, ?_, _, by exact zzv _ _ _, i + 1, aF, rfl, by omega, rfl, (ag.t (an.t (aC.t (aq.t (am.t (aj.t (aI.t (au.t aY.ext)))))))), (show PolN _ _ (Nt.liS W.f l m (i + 1)) _ from PolN.more (K := ((i * 8200 + 1) + (8176 + 2) + 1)) az xq)⟩
  omega
 have qhb32 := of_decide_eq_false ac
 refine zyc (zzp (sq9 (zza 60 (.v (.slice (some ⟨ak, 0, none⟩) x.n x.n)) (zzg 61 120 _ fun _ _ aD a3 => Post.mono (k_stepUpG a3 (ae.ext (ag.trans aD)).raw xq xq hzz) ?_))))
 rintro _ u62 a7 ⟨aa, rfl, aM⟩
 have hly60 := aM.len
 have hky60 := Nt.upK_le8 (show (Nt.wqL W.f l).length ≤ 8 by omega)
 refine zza 59 (.v (.tuple #[aa.v, .int .i64 0])) (zza 62 (.v (aa.v)) (zza 63 (zI 0) (zza 15 (.v (aa.v)) (zza 16 (zI 0) (zzb (zzd (sq9 (zza 64 (zI 0) (zza 65 (zB false) (zzb (zys xj ?_)))))))))))
 refine zzs (zzp ?_)
 refine sq9 (zza 68 (.v (a.v)) (zzg 69 117 _ fun _ _ aH a4 => Post.mono (k_poTrim a4 (hA.ext (aD.t (a7.t aH))).raw xq zj) ?_))
 rintro _ u68 a2 ⟨ah, rfl, aN⟩
 have hly66 := aN.len
 refine zza 70 (.v (aa.v)) (zza 71 (.v (.agg #[ah.v, aa.v])) (zzj ⟨81, [ah.v, aa.v]⟩ ty81 ?_))
 refine zza 7 (zI 0) (zzb (zzo (ret0 [.agg #[ah.v, aa.v], .int .i64 0] ⟨zzr ty81 zze, zzq, trivial⟩ fun u71 aB => ?_)))
 have aR : i = m.length := by omega
 refine ⟨ah, aa, rfl, ?_, PolN.more (K := (Nt.upK (Nt.wqL W.f l).length)) (aM.ext (aH.t (a2.t aB))) xq⟩
 have h9 := (aN.ext aB)
 rw [aR] at h9
 exact h9.more xq
instance wdDec (W : WL) : Decidable (WdOK W) := by unfold WdOK; exact inferInstance
namespace Nt
def fitB (W : WL) (z : Int) : Bool := decide (-p2i (W.b - 1) ≤ z) && decide (z ≤ p2i (W.b - 1) - 1)
theorem fit_iff {W : WL} {z : Int} : fitB W z = true ↔ -p2i (W.b - 1) ≤ z ∧ z ≤ p2i (W.b - 1) - 1 := by unfold fitB; simp
def lowB (W : WL) (z : Int) : Bool := decide (-(p2i W.f - 1) ≤ z) && decide (z ≤ p2i W.f - 1)
theorem low_iff {W : WL} {z : Int} : lowB W z = true ↔ -(p2i W.f - 1) ≤ z ∧ z ≤ p2i W.f - 1 := by unfold lowB; simp
def latE (W : WL) (l m : List Int) : Int :=
 if ¬ WdOK W then 2 else if 8 < l.length ∨ m.length ≠ l.length + 1 then 12 else
  if ¬ ((∀ i, i < m.length → fitB W (m.getD i 0) = true) ∧ (∀ i, i < l.length → (fitB W (l.getD i 0) && fitB W (-l.getD i 0)) = true)) then 17 else
   if ¬ (∀ i, i < l.length → lowB W (l.getD i 0) = true) then 14 else 0
variable {W : WL} {l m : List Int} {i : Nat}
theorem latE_2 (h : ¬ WdOK W) : latE W l m = 2 := by unfold latE; rw [if_pos h]
theorem latE_12 (hW : WdOK W) (h : 8 < l.length ∨ m.length ≠ l.length + 1) : latE W l m = 12 := by unfold latE; rw [if_neg (not_not_intro hW), if_pos h]
theorem latE_17m (hW : WdOK W) (hl : l.length ≤ 8) (hm : m.length = l.length + 1) (hi : i < m.length) (h : fitB W (m.getD i 0) = false) : latE W l m = 17 := by
 unfold latE
 rw [if_neg (not_not_intro hW), if_neg xq, if_pos (fun k => by rw [k.1 i hi] at h; cases h)]
theorem latE_17l (hW : WdOK W) (hl : l.length ≤ 8) (hm : m.length = l.length + 1) (hi : i < l.length) (h : (fitB W (l.getD i 0) && fitB W (-l.getD i 0)) = false) : latE W l m = 17 := by
 unfold latE
 rw [if_neg (not_not_intro hW), if_neg xq, if_pos (fun k => by rw [k.2 i hi] at h; cases h)]
theorem latE_14 (hW : WdOK W) (hl : l.length ≤ 8) (hm : m.length = l.length + 1) (h1 : ∀ i, i < m.length → fitB W (m.getD i 0) = true) (h2 : ∀ i, i < l.length → (fitB W (l.getD i 0) && fitB W (-l.getD i 0)) = true) (hi : i < l.length) (h : lowB W (l.getD i 0) = false) : latE W l m = 14 := by
 unfold latE
 rw [if_neg (not_not_intro hW), if_neg xq, if_neg (not_not_intro ⟨h1, h2⟩), if_pos (fun k => by rw [k i hi] at h; cases h)]
theorem latE_0 (hW : WdOK W) (hl : l.length ≤ 8) (hm : m.length = l.length + 1) (h1 : ∀ i, i < m.length → fitB W (m.getD i 0) = true) (h2 : ∀ i, i < l.length → (fitB W (l.getD i 0) && fitB W (-l.getD i 0)) = true) (h3 : ∀ i, i < l.length → lowB W (l.getD i 0) = true) : latE W l m = 0 := by
 unfold latE
 rw [if_neg (not_not_intro hW), if_neg xq, if_neg (not_not_intro ⟨h1, h2⟩), if_neg (not_not_intro h3)]
theorem mem_getD {l : List Int} {z : Int} (h : z ∈ l) : ∃ i, i < l.length ∧ l.getD i 0 = z := by
 obtain ⟨i, hi, e⟩ := List.mem_iff_getElem.1 h
 exact ⟨i, hi, by rw [List.getD_eq_getElem?_getD, List.getElem?_eq_getElem hi]; exact e⟩
theorem latE_ok (h : latE W l m = 0) : WdOK W ∧ l.length ≤ 8 ∧ m.length = l.length + 1 ∧ (∀ z ∈ l, -(p2i W.f - 1) ≤ z ∧ z ≤ p2i W.f - 1) ∧ (∀ z ∈ m, -p2i (W.b - 1) ≤ z ∧ z ≤ p2i (W.b - 1)) := by
 by_cases hW : WdOK W
 ·by_cases hl : 8 < l.length ∨ m.length ≠ l.length + 1
  ·rw [latE_12 hW hl] at h; cases h
  by_cases h1 : (∀ i, i < m.length → fitB W (m.getD i 0) = true) ∧ (∀ i, i < l.length → (fitB W (l.getD i 0) && fitB W (-l.getD i 0)) = true)
  ·by_cases h2 : ∀ i, i < l.length → lowB W (l.getD i 0) = true
   ·refine ⟨hW, by omega, by omega, fun z hz => ?_, fun z hz => ?_⟩
    ·obtain ⟨i, hi, rfl⟩ := mem_getD hz
     exact low_iff.1 (h2 i hi)
    obtain ⟨i, hi, rfl⟩ := mem_getD hz
    have := fit_iff.1 (h1.1 i hi)
    omega
   unfold latE at h
   rw [if_neg (not_not_intro hW), if_neg hl, if_neg (not_not_intro h1), if_pos h2] at h; cases h
  unfold latE at h
  rw [if_neg (not_not_intro hW), if_neg hl, if_pos h1] at h; cases h
 rw [latE_2 hW] at h; cases h
end Nt
theorem k_modeG {u w : World} {r : Int} (d : Dat u w) : Calls Tryz.prog 161 #[.int .i64 r] w (Post u w fun v _ => v = .bool (decide (1 ≤ r) && decide (r ≤ 3))) := by
 refine zzm (args := [.int .i64 r]) Tryz.func161 rfl Tryz.ntmps161 (rs := [.tmp 2]) Tryz.results161 (le_b rfl) (le_b rfl) d ?_
 refine sq9 (zza 2 (zB false) (zzb (sq9 (zza 3 (zI r) (zza 4 (zB (decide ((1 : Int) ≤ r))) ?_)))))
 rcases Bool.eq_false_or_eq_true (decide ((1 : Int) ≤ r)) with hs11 | hs11
 ·refine zyq 5 (x := zB (decide ((1 : Int) ≤ r))) (zB true) (by rw [hs11]) ?_
  have qhs11 := of_decide_eq_true hs11
  refine zza 6 (zI r) ?_ (hw := w1 2 true 5)
  refine zza 7 (zB (decide (r ≤ 3))) ?_ (hw := w1 2 true 5)
  refine zza 8 (zB (decide (r ≤ 3))) (zza 2 (zB (decide (r ≤ 3))) (zzb (zzo (ret0 [.bool (decide (r ≤ 3))] ⟨zzq, trivial⟩ fun u12 e13 => ?_))))
  show Value.bool _ = Value.bool _
  congr 1
  rw [Bool.eq_iff_iff]
  simp
  omega
 refine zyq 5 (x := zB (decide ((1 : Int) ≤ r))) (zB false) (by rw [hs11]) ?_
 have qhs11 := of_decide_eq_false hs11
 refine zzn 6 (uw 2 true false 5) (zzn 7 (uw 2 true false 5) (zza 8 (zB false) (zza 2 (zB false) (zzb (zzo (ret0 [.bool false] ⟨zzq, trivial⟩ fun u14 e15 => ?_))))))
 show Value.bool _ = Value.bool _
 congr 1
 rw [Bool.eq_iff_iff]
 simp
 omega
theorem k_fxValidG {u w : World} {W : WL} (d : Dat u w) : Calls Tryz.prog 103 #[W.v] w (Post u w fun v _ => v = .bool (decide (WdOK W))) := by
 refine zzm (args := [.agg #[.int .i64 W.b, .int .i64 W.f, .int .i64 W.r, .int .i64 W.o]]) Tryz.func103 rfl Tryz.ntmps103 (rs := [.tmp 2]) Tryz.results103 (le_b rfl) (le_b rfl) d ?_
 refine sq9 (zzk 1 ⟨66, W.cs⟩ (zza 2 (zB false) (zzb (zzd (sq9 (zza 3 (.adr 1 0) (zzi 4 (zI W.b) ty3 zzl (zza 5 (zB (decide (W.b < 4))) ?_))))))))
 rcases Bool.eq_false_or_eq_true (decide (W.b < 4)) with hs11 | hs11
 ·refine zyq 6 (x := zB (decide (W.b < 4))) (zB true) (by rw [hs11]) ?_
  have qhs11 := of_decide_eq_true hs11
  refine zzn 7 (uw 3 false true 6) (zzn 8 (uw 3 false true 6) (zzn 9 (uw 3 false true 6) (zza 10 (zB true) (zza 11 (zB true) (zzn 12 (uw 8 false true 11) (zzn 13 (uw 8 false true 11) (zzn 14 (uw 8 false true 11) (zza 15 (zB true) (zza 16 (zB true) (zzn 17 (uw 13 false true 16) (zzn 18 (uw 13 false true 16) ?_)))))))))))
  refine zzn 19 (uw 13 false true 16) (zzn 20 (uw 13 false true 16) (zzn 21 (uw 13 false true 16) (zza 22 (zB true) (zzb (zyr xj (sq9 (zza 2 (zB false) (zzb (zzo (zzw (ret0 [.bool false] ⟨zzq, trivial⟩ fun u12 e13 => ?_)))))))))))
  show Value.bool _ = Value.bool _
  congr 1
  exact (decide_eq_false (by unfold WdOK; omega)).symm
 refine zyq 6 (x := zB (decide (W.b < 4))) (zB false) (by rw [hs11]) ?_
 have qhs11 := of_decide_eq_false hs11
 refine zza 7 (.adr 1 0) ?_ (hw := w1 3 false 6)
 refine zzi 8 (zI W.b) ty3 zzl ?_ (hw := w1 3 false 6)
 refine zza 9 (zB (decide ((24 : Int) < W.b))) ?_ (hw := w1 3 false 6)
 refine zza 10 (zB (decide ((24 : Int) < W.b))) ?_
 rcases Bool.eq_false_or_eq_true (decide ((24 : Int) < W.b)) with hs14 | hs14
 ·refine zyq 11 (x := zB (decide ((24 : Int) < W.b))) (zB true) (by rw [hs14]) ?_
  have qhs14 := of_decide_eq_true hs14
  refine zzn 12 (uw 8 false true 11) (zzn 13 (uw 8 false true 11) (zzn 14 (uw 8 false true 11) (zza 15 (zB true) (zza 16 (zB true) (zzn 17 (uw 13 false true 16) (zzn 18 (uw 13 false true 16) (zzn 19 (uw 13 false true 16) (zzn 20 (uw 13 false true 16) (zzn 21 (uw 13 false true 16) (zza 22 (zB true) (zzb ?_)))))))))))
  refine zyr xj (sq9 (zza 2 (zB false) (zzb (zzo (zzw (ret0 [.bool false] ⟨zzq, trivial⟩ fun u15 e16 => ?_))))))
  show Value.bool _ = Value.bool _
  congr 1
  exact (decide_eq_false (by unfold WdOK; omega)).symm
 refine zyq 11 (x := zB (decide ((24 : Int) < W.b))) (zB false) (by rw [hs14]) ?_
 have qhs14 := of_decide_eq_false hs14
 refine zza 12 (.adr 1 1) ?_ (hw := w1 8 false 11)
 refine zzi 13 (zI W.f) ty3 zzl ?_ (hw := w1 8 false 11)
 refine zza 14 (zB (decide (W.f < 0))) ?_ (hw := w1 8 false 11)
 refine zza 15 (zB (decide (W.f < 0))) ?_
 rcases Bool.eq_false_or_eq_true (decide (W.f < 0)) with hs17 | hs17
 ·refine zyq 16 (x := zB (decide (W.f < 0))) (zB true) (by rw [hs17]) ?_
  have qhs17 := of_decide_eq_true hs17
  refine zzn 17 (uw 13 false true 16) (zzn 18 (uw 13 false true 16) (zzn 19 (uw 13 false true 16) (zzn 20 (uw 13 false true 16) (zzn 21 (uw 13 false true 16) (zza 22 (zB true) (zzb (zyr xj (sq9 (zza 2 (zB false) (zzb (zzo (zzw (ret0 [.bool false] ⟨zzq, trivial⟩ fun u18 e19 => ?_)))))))))))))
  show Value.bool _ = Value.bool _
  congr 1
  exact (decide_eq_false (by unfold WdOK; omega)).symm
 refine zyq 16 (x := zB (decide (W.f < 0))) (zB false) (by rw [hs17]) ?_
 have qhs17 := of_decide_eq_false hs17
 refine zza 17 (.adr 1 1) ?_ (hw := w1 13 false 16)
 refine zzi 18 (zI W.f) ty3 zzl ?_ (hw := w1 13 false 16)
 refine zza 19 (.adr 1 0) ?_ (hw := w1 13 false 16)
 refine zzi 20 (zI W.b) ty3 zzl ?_ (hw := w1 13 false 16)
 refine zza 21 (zB (decide (W.b ≤ W.f))) ?_ (hw := w1 13 false 16)
 refine zza 22 (zB (decide (W.b ≤ W.f))) (zzb (zzu (b := decide (W.b ≤ W.f)) xj (fun aa => ?_) (fun aa => ?_)))
 ·have qhb20 := of_decide_eq_true aa
  refine sq9 (zza 2 (zB false) (zzb (zzo (zzw (ret0 [.bool false] ⟨zzq, trivial⟩ fun u21 e22 => ?_)))))
  show Value.bool _ = Value.bool _
  congr 1
  exact (decide_eq_false (by unfold WdOK; omega)).symm
 have qhb20 := of_decide_eq_false aa
 refine zzs (zzp ?_)
 refine sq9 (zza 23 (.adr 1 2) (zzi 24 (zI W.r) ty3 zzl (zzg 25 161 _ fun _ _ _ ab => Post.mono (k_modeG ab (r := W.r)) ?_)))
 rintro _ u24 g25 rfl
 rcases Bool.eq_false_or_eq_true (decide (1 ≤ W.r) && decide (W.r ≤ 3)) with hs27 | hs27
 ·refine zyq 26 (x := zB (decide (1 ≤ W.r) && decide (W.r ≤ 3))) (zB true) (by rw [hs27]) ?_
  have qhs27 := hs27
  simp at qhs27
  refine zza 27 (.adr 1 3) ?_ (hw := w1 3 true 26)
  refine zzi 28 (zI W.o) ty3 zzl ?_ (hw := w1 3 true 26)
  refine zza 29 (zB (W.o == 1)) ?_ (hw := w1 3 true 26)
  rcases Bool.eq_false_or_eq_true (W.o == 1) with hs28 | hs28
  ·refine zyq 30 (x := zB (W.o == 1)) (zB true) (by rw [hs28]) ?_ (hw := w1 3 true 26)
   have qhs28 := hs28
   simp at qhs28
   refine zzn 31 (uw 7 false true 30) (zzn 32 (uw 7 false true 30) (zzn 33 (uw 7 false true 30) (zza 34 (zB true) ?_ (hw := w1 3 true 26))))
   refine zza 35 (zB true) (zza 2 (zB true) (zzc 36 [(2, zB true)] [] (zzo (ret0 [.bool true] ⟨zzq, trivial⟩ fun u29 e30 => ?_))))
   show Value.bool _ = Value.bool _
   congr 1
   exact (decide_eq_true (by unfold WdOK; omega)).symm
  refine zyq 30 (x := zB (W.o == 1)) (zB false) (by rw [hs28]) ?_ (hw := w1 3 true 26)
  have qhs28 := hs28
  simp at qhs28
  refine zza 31 (.adr 1 3) ?_ (hw := w1 7 false 30)
  refine zzi 32 (zI W.o) ty3 zzl ?_ (hw := w1 7 false 30)
  refine zza 33 (zB (W.o == 2)) ?_ (hw := w1 7 false 30)
  refine zza 34 (zB (W.o == 2)) ?_ (hw := w1 3 true 26)
  refine zza 35 (zB (W.o == 2)) (zza 2 (zB (W.o == 2)) (zzc 36 [(2, zB (W.o == 2))] [] (zzo (ret0 [.bool (W.o == 2)] ⟨zzq, trivial⟩ fun u31 e32 => ?_))))
  show Value.bool _ = Value.bool _
  congr 1
  rw [Bool.eq_iff_iff]
  simp
  unfold WdOK
  omega
 refine zyq 26 (x := zB (decide (1 ≤ W.r) && decide (W.r ≤ 3))) (zB false) (by rw [hs27]) ?_
 have qhs27 := hs27
 simp at qhs27
 refine zzn 27 (uw 3 true false 26) (zzn 28 (uw 3 true false 26) (zzn 29 (uw 3 true false 26) (zzn 30 (uw 3 true false 26) (zzn 31 (unwantedU (g := 7) (b := false) (t := 30) xj xj xj) (zzn 32 (unwantedU (g := 7) (b := false) (t := 30) xj xj xj) (zzn 33 (unwantedU (g := 7) (b := false) (t := 30) xj xj xj) (zzn 34 (uw 3 true false 26) (zza 35 (zB false) (zza 2 (zB false) (zzc 36 [(2, zB false)] [] (zzo (ret0 [.bool false] ⟨zzq, trivial⟩ fun u33 e34 => ?_))))))))))))
 show Value.bool _ = Value.bool _
 congr 1
 exact (decide_eq_false (by unfold WdOK; omega)).symm
theorem k_fxFitsG {u w : World} {W : WL} {z : Int} (d : Dat u w) (hW : WdOK W) : Calls Tryz.prog 162 #[W.v, .int .i64 z] w (Post u w fun v _ => v = .bool (Nt.fitB W z)) := by
 obtain ⟨hw1, hw2, hw3, hw4, hw5, hw6, hw7, hw8⟩ := id hW
 refine zzm (args := [.agg #[.int .i64 W.b, .int .i64 W.f, .int .i64 W.r, .int .i64 W.o], .int .i64 z]) Tryz.func162 rfl Tryz.ntmps162 (rs := [.tmp 4]) Tryz.results162 (le_b rfl) (le_b rfl) d ?_
 refine sq9 (zzk 2 ⟨66, W.cs⟩ (zza 4 (zB false) (zzb (sq9 (zzi 5 (.v (W.v)) ty66 zze (zzg 6 103 _ fun _ _ _ aa => Post.mono (k_fxValid (W := W) aa hW) ?_))))))
 rintro _ u12 g13 rfl
 refine zza 7 (zB true) (zza 8 (zI z) ?_ (hw := w1 2 true 7))
 refine zzi 9 (.v (W.v)) ty66 zze ?_ (hw := w1 2 true 7)
 refine zzg 10 207 _ (fun _ _ _ ab => Post.mono (k_fxLow (W := W) ab hW) ?_) (hw := w1 2 true 7)
 rintro _ u16 g17 rfl
 refine zza 11 (zB (decide ((-Nt.p2i (W.b - 1)) ≤ z))) ?_ (hw := w1 2 true 7)
 refine zza 12 (zB (decide ((-Nt.p2i (W.b - 1)) ≤ z))) ?_
 rcases Bool.eq_false_or_eq_true (decide ((-Nt.p2i (W.b - 1)) ≤ z)) with hs19 | hs19
 ·refine zyq 13 (x := zB (decide ((-Nt.p2i (W.b - 1)) ≤ z))) (zB true) (by rw [hs19]) ?_
  have qhs19 := of_decide_eq_true hs19
  refine zza 14 (zI z) ?_ (hw := w1 8 true 13)
  refine zzi 15 (.v (W.v)) ty66 zze ?_ (hw := w1 8 true 13)
  refine zzg 16 208 _ (fun _ _ _ ac => Post.mono (k_fxHigh (W := W) ac hW) ?_) (hw := w1 8 true 13)
  rintro _ u21 g22 rfl
  refine zza 17 (zB (decide (z ≤ (Nt.p2i (W.b - 1) - 1)))) ?_ (hw := w1 8 true 13)
  refine zza 18 (zB (decide (z ≤ (Nt.p2i (W.b - 1) - 1)))) (zza 4 (zB (decide (z ≤ (Nt.p2i (W.b - 1) - 1)))) (zzb (zzo (ret0 [.bool (decide (z ≤ (Nt.p2i (W.b - 1) - 1)))] ⟨zzq, trivial⟩ fun u24 e25 => ?_))))
  show Value.bool _ = Value.bool _
  first | rfl | (congr 1; rw [Bool.eq_iff_iff, Nt.fit_iff]; first | (simp; done) | (simp; omega))
 refine zyq 13 (x := zB (decide ((-Nt.p2i (W.b - 1)) ≤ z))) (zB false) (by rw [hs19]) ?_
 have qhs19 := of_decide_eq_false hs19
 refine zzn 14 (uw 8 true false 13) (zzn 15 (uw 8 true false 13) (zzn 16 (uw 8 true false 13) (zzn 17 (uw 8 true false 13) (zza 18 (zB false) (zza 4 (zB false) (zzb (zzo (ret0 [.bool false] ⟨zzq, trivial⟩ fun u26 e27 => ?_))))))))
 show Value.bool _ = Value.bool _
 first | rfl | (congr 1; rw [Bool.eq_iff_iff, Nt.fit_iff]; first | (simp; done) | (simp; omega))
set_option maxHeartbeats 4000000 in
theorem k_latWrongG {u w : World} {x y : Sl} {l m : List Int} {W : WL} (d : Dat u w) (hx : SlR .i64 u x.a x.n x.c l) (hb : ∀ z ∈ l, -9223372036854775808 ≤ z ∧ z ≤ 9223372036854775807) (hy : SlR .i64 u y.a y.n y.c m) (hc : ∀ z ∈ m, -9223372036854775808 ≤ z ∧ z ≤ 9223372036854775807) : Calls Tryz.prog 104 #[x.v, y.v, W.v] w (Post u w fun v u' => v = .int .i64 (Nt.latE W l m)) := by
 have hlx : l.length = x.n := hx.1
 have hly : m.length = y.n := hy.1
 have hmx8 := Nat.le_trans hx.2.1 hx.2.2.1
 unfold maxLen at hmx8
 refine zzm (args := [x.v, y.v, .agg #[.int .i64 W.b, .int .i64 W.f, .int .i64 W.r, .int .i64 W.o]]) Tryz.func104 rfl Tryz.ntmps104 (rs := [.tmp 6]) Tryz.results104 (le_b rfl) (le_b rfl) d ?_
 refine sq9 (zzk 5 ⟨66, W.cs⟩ (zza 6 (zI 0) (zzb (zzd (sq9 (zzi 13 (.v (W.v)) ty66 zze (zzg 14 103 _ fun _ _ al aE => Post.mono (k_fxValidG (W := W) aE) ?_)))))))
 rintro _ aU ak rfl
 refine zza 15 (zB (!(decide (WdOK W)))) (zzb (zzu (b := !(decide (WdOK W))) xj (fun ag => ?_) (fun ag => ?_)))
 ·have nhW : ¬ WdOK W := by simpa using ag
  refine sq9 (zza 6 (zI 2) (zzb (zzo (zzw (ret0 [.int .i64 2] ⟨zzq, trivial⟩ fun u16 e17 => ?_)))))
  show Value.int _ _ = Value.int _ _
  rw [Nt.latE_2 nhW]
 have hW : WdOK W := by simpa using ag
 have hu0 := Nt.zxp W.f
 have hw9 := hW
 unfold WdOK at hw9
 have hu1 := Nt.p2i_24 (n := W.f) xq
 have hu2 := Nt.zwe (a := W.f) (b := W.b - 1) xq
 have hu3 := Nt.p2i_24 (n := W.b - 1) xq
 refine zzs (zzp ?_)
 refine zzd (sq9 (zza 16 (.v (x.v)) (zza 17 (zI x.n) (zza 18 (zB (decide ((8 : Int) < (x.n : Int)))) ?_))))
 rcases Bool.eq_false_or_eq_true (decide ((8 : Int) < (x.n : Int))) with hs18 | hs18
 ·refine zyq 19 (x := zB (decide ((8 : Int) < (x.n : Int)))) (zB true) (by rw [hs18]) ?_
  have qhs18 := of_decide_eq_true hs18
  refine zzn 20 (uw 3 false true 19) (zzn 21 (uw 3 false true 19) (zzn 22 (uw 3 false true 19) (zzn 23 (uw 3 false true 19) (zzn 24 (uw 3 false true 19) (zzn 25 (uw 3 false true 19) (zza 26 (zB true) (zzb (zyr xj (sq9 (zza 6 (zI 12) (zzb ?_)))))))))))
  refine zzo (zzw (ret0 [.int .i64 12] ⟨zzq, trivial⟩ fun u19 e20 => ?_))
  show Value.int _ _ = Value.int _ _
  rw [Nt.latE_12 hW xq]
 refine zyq 19 (x := zB (decide ((8 : Int) < (x.n : Int)))) (zB false) (by rw [hs18]) ?_
 have qhs18 := of_decide_eq_false hs18
 refine zza 20 (.v (y.v)) ?_ (hw := w1 3 false 19)
 refine zza 21 (zI y.n) ?_ (hw := w1 3 false 19)
 refine zza 22 (.v (x.v)) ?_ (hw := w1 3 false 19)
 refine zza 23 (zI x.n) ?_ (hw := w1 3 false 19)
 refine zyq 24 (x := zI (IntKind.i64.wrap ((x.n : Int) + 1))) (zI (x.n + 1 : Nat)) (eqI yq) ?_ (hw := w1 3 false 19)
 refine zza 25 (zB ((y.n : Int) != ((x.n + 1 : Nat) : Int))) ?_ (hw := w1 3 false 19)
 refine zza 26 (zB ((y.n : Int) != ((x.n + 1 : Nat) : Int))) (zzb (zzu (b := (y.n : Int) != ((x.n + 1 : Nat) : Int)) xj (fun ac => ?_) (fun ac => ?_)))
 ·have qhb21 := ac
  simp at qhb21
  refine sq9 (zza 6 (zI 12) (zzb (zzo (zzw (ret0 [.int .i64 12] ⟨zzq, trivial⟩ fun u22 e23 => ?_)))))
  show Value.int _ _ = Value.int _ _
  rw [Nt.latE_12 hW xq]
 have qhb21 := ac
 simp at qhb21
 refine zzs (zzp ?_)
 refine zzd (sq9 (zza 27 (.v (y.v)) (zza 28 (zI y.n) (zza 29 (zI 0) (zzb (zzt (zyn (I := fun ay S' u' => ∃ (i : Nat), (ay = y.n - i) ∧ (i ≤ y.n) ∧ (∀ j, j < i → Nt.fitB W (m.getD j 0) = true) ∧ (S' = St.of 71 [(0, .v (x.v)), (5, .adr 5 0), (27, .v (y.v)), (28, zI y.n), (29, zI i)] [(5, ⟨66, [.int .i64 W.b, .int .i64 W.f, .int .i64 W.r, .int .i64 W.o]⟩)]) ∧ (Ext aU u')) (fun m S u1 u2 e h => by obtain ⟨i, hm, p0, p1, hS, hE⟩ := h; exact ⟨i, hm, p0, p1, hS, hE.trans e⟩) _ yw ⟨0, rfl, Nat.zero_le _, fun j hj => absurd hj (Nat.not_lt_zero j), rfl, (Ext.refl _)⟩ ?_)))))))
 rintro ay _ aK ⟨i, aO, hi, hm, rfl, ab⟩
 refine sq9 (zza 30 (zB (decide ((i : Int) < (y.n : Int)))) (zzb (zzd (zzu (b := decide ((i : Int) < (y.n : Int))) xj (fun ai => ?_) (fun ai => ?_)))))
 ·have qhb25 := of_decide_eq_true ai
  refine zzs (zzp ?_)
  refine zzd (zzt (sq9 ?_))
  have hl26 := ((hy.ext (al.t (ak.t ab)))).1
  obtain ⟨b26, az, ao, ap⟩ := ints_at (hy.ext (al.t (ak.t ab))) (i := i) xq
  have hz26 := ints_bd hc xq i
  refine zya 31 (az + i * 1) (n := y.n) (off := az) (sz := 1) (i := (i : Int)) xq ao xq xq sl22 (zyl 32 (.int .i64 (m.getD i 0)) ap ty3 (zza 8 (zI (m.getD i 0)) (zzb (sq9 (zzi 33 (.v (W.v)) ty66 zze (zza 34 (zI (m.getD i 0)) (zzg 35 162 _ fun _ _ aF aJ => Post.mono (k_fxFitsG (W := W) (z := (m.getD i 0)) aJ hW) ?_)))))))
  rintro _ u28 aT rfl
  refine zza 36 (zB (!(Nt.fitB W (m.getD i 0)))) (zzb (zzu (b := !(Nt.fitB W (m.getD i 0))) xj (fun ah => ?_) (fun ah => ?_)))
  ·have qhb31 := ah
   simp only [Bool.not_eq_true'] at qhb31
   refine sq9 (zza 6 (zI 17) (zzb (zzo (zyu (zzw (zyt (zyu (zzw (ret0 [.int .i64 17] ⟨zzq, trivial⟩ fun u32 e33 => ?_)))))))))
   show Value.int _ _ = Value.int _ _
   rw [Nt.latE_17m hW xq xq (i := i) xq qhb31]
  have qhb31 := ah
  simp only [Bool.not_eq_false'] at qhb31
  have rhb31 := Nt.fit_iff.1 qhb31
  refine zzs (zzp ?_)
  refine zzf (zyq 37 (x := zI (IntKind.i64.wrap ((i : Int) + 1))) (zI (i + 1 : Nat)) (eqI yq) (zza 29 (zI (i + 1 : Nat)) (zzx ?_)))
  refine ⟨_, ?_, _, by exact zzv _ _ _, i + 1, rfl, by omega, (fun j hj => by by_cases e : j = i; (rw [e]; exact qhb31); exact hm j xq), rfl, (ab.t (aF.t aT.ext))⟩
  omega
 have qhb25 := of_decide_eq_false ai
 refine zyc (zzp (zzd (zzd ?_)))
 have hmA : ∀ j, j < m.length → Nt.fitB W (m.getD j 0) = true := fun j hj => hm j xq
 refine zzf (zza 38 (.v (x.v)) (zza 39 (zI x.n) (zza 40 (zI 0) (zzb (zzt (zyn (I := fun ax S' u' => ∃ (i : Nat), (ax = x.n - i) ∧ (i ≤ x.n) ∧ (∀ j, j < i → (Nt.fitB W (l.getD j 0) && Nt.fitB W (-l.getD j 0)) = true) ∧ (S' = St.of 71 [(0, .v (x.v)), (5, .adr 5 0), (38, .v (x.v)), (39, zI x.n), (40, zI i)] [(5, ⟨66, [.int .i64 W.b, .int .i64 W.f, .int .i64 W.r, .int .i64 W.o]⟩)]) ∧ (Ext aK u')) (fun m S u1 u2 e h => by obtain ⟨i, hm, p0, p1, hS, hE⟩ := h; exact ⟨i, hm, p0, p1, hS, hE.trans e⟩) _ yw ⟨0, rfl, Nat.zero_le _, fun j hj => absurd hj (Nat.not_lt_zero j), rfl, (Ext.refl _)⟩ ?_))))))
 rintro ax _ aG ⟨i, aP, hi, hk, rfl, an⟩
 refine sq9 (zza 41 (zB (decide ((i : Int) < (x.n : Int)))) (zzb (zzd (zzu (b := decide ((i : Int) < (x.n : Int))) xj (fun aa => ?_) (fun aa => ?_)))))
 ·have qhb35 := of_decide_eq_true aa
  refine zzs (zzp ?_)
  refine zzd (zzt (sq9 ?_))
  have hl36 := ((hx.ext (al.t (ak.t (ab.trans an))))).1
  obtain ⟨b36, aA, aw, av⟩ := ints_at (hx.ext (al.t (ak.t (ab.trans an)))) (i := i) xq
  have hz36 := ints_bd hb xq i
  refine zya 42 (aA + i * 1) (n := x.n) (off := aA) (sz := 1) (i := (i : Int)) xq aw xq xq sl22 (zyl 43 (.int .i64 (l.getD i 0)) av ty3 (zza 10 (zI (l.getD i 0)) (zzb (sq9 (zzi 44 (.v (W.v)) ty66 zze (zza 45 (zI (l.getD i 0)) (zzg 46 162 _ fun _ _ aM aR => Post.mono (k_fxFitsG (W := W) (z := (l.getD i 0)) aR hW) ?_)))))))
  rintro _ u38 aQ rfl
  refine zza 47 (zB (!(Nt.fitB W (l.getD i 0)))) ?_
  rcases Bool.eq_false_or_eq_true (!(Nt.fitB W (l.getD i 0))) with hs41 | hs41
  ·refine zyq 48 (x := zB (!(Nt.fitB W (l.getD i 0)))) (zB true) (by rw [hs41]) ?_
   have qhs41 := hs41
   simp only [Bool.not_eq_true'] at qhs41
   refine zzn 49 (uw 4 false true 48) (zzn 50 (uw 4 false true 48) (zzn 51 (uw 4 false true 48) (zzn 52 (uw 4 false true 48) (zzn 53 (uw 4 false true 48) (zza 54 (zB true) (zzc 71 [(0, .v (x.v)), (5, .adr 5 0), (38, .v (x.v)), (39, zI x.n), (40, zI i), (54, zB true)] [(5, ⟨66, W.cs⟩)] (zyr xj (sq9 (zza 6 (zI 17) (zzb (zzo (zyu (zzw (zyt (zyu (zzw (ret0 [.int .i64 17] ⟨zzq, trivial⟩ fun u42 e43 => ?_)))))))))))))))))
   show Value.int _ _ = Value.int _ _
   rw [Nt.latE_17l hW xq xq (i := i) xq (by rw [qhs41]; rfl)]
  refine zyq 48 (x := zB (!(Nt.fitB W (l.getD i 0)))) (zB false) (by rw [hs41]) ?_
  have qhs41 := hs41
  simp only [Bool.not_eq_false'] at qhs41
  have rhs41 := Nt.fit_iff.1 qhs41
  refine zzi 49 (.v (W.v)) ty66 zze ?_ (hw := w1 4 false 48)
  refine zza 50 (zI (l.getD i 0)) ?_ (hw := w1 4 false 48)
  refine zyq 51 (x := zI (IntKind.i64.wrap (0 - (l.getD i 0)))) (zI (-(l.getD i 0))) (eqI yq) ?_ (hw := w1 4 false 48)
  refine zzg 52 162 _ (fun _ _ aH aL => Post.mono (k_fxFitsG (W := W) (z := -(l.getD i 0)) aL hW) ?_) (hw := w1 4 false 48)
  rintro _ u45 aI rfl
  refine zza 53 (zB (!(Nt.fitB W (-(l.getD i 0))))) ?_ (hw := w1 4 false 48)
  refine zza 54 (zB (!(Nt.fitB W (-(l.getD i 0))))) (zzc 71 [(0, .v (x.v)), (5, .adr 5 0), (38, .v (x.v)), (39, zI x.n), (40, zI i), (54, zB (!(Nt.fitB W (-(l.getD i 0)))))] [(5, ⟨66, W.cs⟩)] (zzu (b := !(Nt.fitB W (-(l.getD i 0)))) xj (fun ad => ?_) (fun ad => ?_)))
  ·have qhb48 := ad
   simp only [Bool.not_eq_true'] at qhb48
   refine sq9 (zza 6 (zI 17) (zzb (zzo (zyu (zzw (zyt (zyu (zzw (ret0 [.int .i64 17] ⟨zzq, trivial⟩ fun u49 e50 => ?_)))))))))
   show Value.int _ _ = Value.int _ _
   rw [Nt.latE_17l hW xq xq (i := i) xq (by rw [qhs41, qhb48]; rfl)]
  have qhb48 := ad
  simp only [Bool.not_eq_false'] at qhb48
  have rhb48 := Nt.fit_iff.1 qhb48
  refine zzs (zzp ?_)
  refine zzf (zyq 55 (x := zI (IntKind.i64.wrap ((i : Int) + 1))) (zI (i + 1 : Nat)) (eqI yq) (zza 40 (zI (i + 1 : Nat)) (zzx ?_)))
  refine ⟨_, ?_, _, by exact zzv _ _ _, i + 1, rfl, by omega, (fun j hj => by by_cases e : j = i; (rw [e]; exact (by rw [qhs41, qhb48]; rfl)); exact hk j xq), rfl, (an.t (aM.t (aQ.t (aH.t aI.ext))))⟩
  omega
 have qhb35 := of_decide_eq_false aa
 refine zyc (zzp (zzd (zzd ?_)))
 have hlA : ∀ j, j < l.length → (Nt.fitB W (l.getD j 0) && Nt.fitB W (-l.getD j 0)) = true := fun j hj => hk j xq
 refine zzf (zza 56 (.v (x.v)) (zza 57 (zI x.n) (zza 58 (zI 0) (zzb (zzt (zyn (I := fun aD S' u' => ∃ (i : Nat), (aD = x.n - i) ∧ (i ≤ x.n) ∧ (∀ j, j < i → Nt.lowB W (l.getD j 0) = true) ∧ (S' = St.of 71 [(5, .adr 5 0), (56, .v (x.v)), (57, zI x.n), (58, zI i)] [(5, ⟨66, [.int .i64 W.b, .int .i64 W.f, .int .i64 W.r, .int .i64 W.o]⟩)]) ∧ (Ext aG u')) (fun m S u1 u2 e h => by obtain ⟨i, hm, p0, p1, hS, hE⟩ := h; exact ⟨i, hm, p0, p1, hS, hE.trans e⟩) _ yw ⟨0, rfl, Nat.zero_le _, fun j hj => absurd hj (Nat.not_lt_zero j), rfl, (Ext.refl _)⟩ ?_))))))
 rintro aD _ u51 ⟨i, aN, hi, hs, rfl, au⟩
 refine sq9 (zza 59 (zB (decide ((i : Int) < (x.n : Int)))) (zzb (zzd (zzu (b := decide ((i : Int) < (x.n : Int))) xj (fun aj => ?_) (fun aj => ?_)))))
 ·have qhb52 := of_decide_eq_true aj
  refine zzs (zzp ?_)
  refine zzd (zzt (sq9 ?_))
  have hl53 := ((hx.ext (al.t (ak.t (ab.trans (an.trans au)))))).1
  obtain ⟨b53, aC, aq, ar⟩ := ints_at (hx.ext (al.t (ak.t (ab.trans (an.trans au))))) (i := i) xq
  have hz53 := ints_bd hb xq i
  refine zya 60 (aC + i * 1) (n := x.n) (off := aC) (sz := 1) (i := (i : Int)) xq aq xq xq sl22 (zyl 61 (.int .i64 (l.getD i 0)) ar ty3 (zza 12 (zI (l.getD i 0)) (zzc 71 [(5, .adr 5 0), (12, zI (l.getD i 0)), (56, .v (x.v)), (57, zI x.n), (58, zI i)] [(5, ⟨66, W.cs⟩)] (zzd ?_))))
  have h7 := hlA i xq
  rw [Bool.and_eq_true] at h7
  have h6 := Nt.fit_iff.1 h7.1
  refine zzf (zza 62 (zI (l.getD i 0)) (zza 63 (zI (l.getD i 0)) (zyq 64 (x := zI (IntKind.i64.wrap (0 - (l.getD i 0)))) (zI (-(l.getD i 0))) (eqI yq) ?_)))
  obtain ⟨af, am, aB⟩ : ∃ v, (if -(l.getD i 0) > (l.getD i 0) then -(l.getD i 0) else (l.getD i 0)) = v ∧ ((l.getD i 0) ≤ v ∧ -(l.getD i 0) ≤ v ∧ (v = (l.getD i 0) ∨ v = -(l.getD i 0))) := ⟨_, rfl, by split <;> omega⟩
  refine sy_maxN 65 (n := (l.getD i 0)) (m := -(l.getD i 0)) (v := af) am ?_
  refine zza 66 (.adr 5 1) (zzi 67 (zI W.f) ty3 zzl (sy_shl 68 (k := .i64) (s := W.f) (Nt.p2i W.f) xq zw (shl_one xq xq) ?_))
  refine zza 69 (zB (decide ((Nt.p2i W.f) ≤ af))) (zzb (zzu (b := decide ((Nt.p2i W.f) ≤ af)) xj (fun ae => ?_) (fun ae => ?_)))
  ·have qhb55 := of_decide_eq_true ae
   refine sq9 (zza 6 (zI 14) (zzb (zzo (zyu (zzw (zyt (zyu (zzw (ret0 [.int .i64 14] ⟨zzq, trivial⟩ fun u56 e57 => ?_)))))))))
   show Value.int _ _ = Value.int _ _
   rw [Nt.latE_14 hW xq xq hmA hlA (i := i) xq (by rw [Bool.eq_false_iff]; intro h9; have h8 := Nt.low_iff.1 h9; omega)]
  have qhb55 := of_decide_eq_false ae
  refine zzs (zzp ?_)
  refine zzf (zyq 70 (x := zI (IntKind.i64.wrap ((i : Int) + 1))) (zI (i + 1 : Nat)) (eqI yq) (zza 58 (zI (i + 1 : Nat)) (zzx ?_)))
  refine ⟨_, ?_, _, by exact zzv _ _ _, i + 1, rfl, by omega, (fun j hj => by by_cases e : j = i; (rw [e]; exact (Nt.low_iff.2 xq)); exact hs j xq), rfl, au⟩
  omega
 have qhb52 := of_decide_eq_false aj
 refine zyc (zzp (zzd ?_))
 have hsA : ∀ j, j < l.length → Nt.lowB W (l.getD j 0) = true := fun j hj => hs j xq
 refine zzf (zza 6 (zI 0) (zzb (zzo (ret0 [.int .i64 0] ⟨zzq, trivial⟩ fun u58 e59 => ?_))))
 show Value.int _ _ = Value.int _ _
 rw [Nt.latE_0 hW xq xq hmA hlA hsA]
namespace Nt
structure NetOK (D W : WL) (s : Nat) (N : List (List TL)) (nx : List Int) (q : Int) : Prop where
 hd : WdOK D
 hw : WdOK W
 hs : s ≤ 64
 hn : N.length ≤ 64
 hx : nx.length = s
 ht : ∀ k, k < N.length → (N.getD k []).length ≤ 64 ∧ ∀ j, j < (N.getD k []).length → 0 ≤ ((N.getD k []).getD j tl0).f ∧ ((N.getD k []).getD j tl0).f ≤ s + k ∧ (((N.getD k []).getD j tl0).c = p2i W.f ∨ fitB W ((N.getD k []).getD j tl0).c = true)
 hr : ∀ j, j < nx.length → 0 ≤ nx.getD j 0 ∧ nx.getD j 0 ≤ s + N.length
 hq : 0 ≤ q ∧ q ≤ s + N.length
variable {D W : WL} {s : Nat} {N : List (List TL)} {nx v0 st xs vals : List Int} {q : Int} {k j : Nat} {T : List TL}
end Nt
section
variable {w k lo lo' h b n c i j off : Nat} {tO tR : TypeId} {u u' u'' v : World} {w0 : Base} {u0 : World} {x y z : Sl} {Rs : List Sl} {Ls : List (List RL)} {L : List RL} {M : List (List Rat)} {l : List Rat} {r : RL} {q : Rat} {K K' : Nat} {a : Addr}
theorem MutQ.rown {ty : TypeId} (m : MutQ (1 * 3) ty lo u y (rcs L)) : y.n = L.length := by
 have h := m.1
 rw [zyy] at h; omega
end
def up2 (f : Nat → Nat → Option Rat) (i j : Nat) (q : Rat) (a b : Nat) : Option Rat := if a = i ∧ b = j then some q else f a b
def up1 (f : Nat → Nat) (i w : Nat) (a : Nat) : Nat := if a = i then w else f a
def upr (f : Nat → Nat → Option Rat) (i : Nat) (g : Nat → Option Rat) (a b : Nat) : Option Rat := if a = i then g b else f a b
def rowL (w : Nat) (f : Nat → Rat) : List Rat := (List.range w).map f
theorem rowL_len {w : Nat} {f : Nat → Rat} : (rowL w f).length = w := by simp [rowL]
theorem rowL_at {w j : Nat} {f : Nat → Rat} (h : j < w) : (rowL w f).getD j 0 = f j := by
 unfold rowL
 rw [List.getD_eq_getElem?_getD, List.getElem?_map, List.getElem?_range h]; rfl
structure SysE (tO tR : TypeId) (lo : Nat) (u : World) (x : Sl) (n : Nat) (Rs : List Sl) (Ls : List (List RL)) (lw : Nat → Nat) (val : Nat → Nat → Option Rat) (K : Nat) : Prop where
 out : MutQ 1 tO lo u x ((Rs.take n).map Sl.v)
 hn : n ≤ Rs.length
 len : Rs.length = Ls.length
 row : ∀ i, i < Ls.length → MutQ (1 * 3) tR lo u (Rs.getD i sl0) (rcs (Ls.getD i []))
 sep : ∀ i j, i < Ls.length → j < Ls.length → i ≠ j → Sep (Rs.getD i sl0) (Rs.getD j sl0)
 wid : ∀ i, i < Ls.length → (Ls.getD i []).length = lw i
 num : ∀ i j q, i < Ls.length → j < lw i → val i j = some q → RatN u ((Ls.getD i []).getD j rl0) q K
section
variable {lo lo' b n m c i j w : Nat} {tO tR : TypeId} {u u' u'' v : World} {w0 : Base} {u0 : World} {x y z : Sl} {Rs : List Sl} {Ls : List (List RL)} {L : List RL} {r : RL} {q : Rat} {K K' : Nat} {lw lw' : Nat → Nat} {val val' : Nat → Nat → Option Rat} {l : List Rat} {g : Nat → Option Rat} {f : Nat → Nat → Rat}
theorem SysE.ext (m : SysE tO tR lo u x n Rs Ls lw val K) (e : Ext u u') : SysE tO tR lo u' x n Rs Ls lw val K := ⟨m.out.ext e, m.hn, m.len, fun i hi => (m.row i hi).ext e, m.sep, m.wid, fun i j q hi hj hv => (m.num i j q hi hj hv).ext e⟩
theorem SysE.low (m : SysE tO tR lo u x n Rs Ls lw val K) (h : lo' ≤ lo) : SysE tO tR lo' u x n Rs Ls lw val K := ⟨m.out.low h, m.hn, m.len, fun i hi => (m.row i hi).low h, m.sep, m.wid, m.num⟩
theorem SysE.more (m : SysE tO tR lo u x n Rs Ls lw val K) (h : K ≤ K') : SysE tO tR lo u x n Rs Ls lw val K' := ⟨m.out, m.hn, m.len, m.row, m.sep, m.wid, fun i j q hi hj hv => (m.num i j q hi hj hv).more h⟩
theorem SysE.congr (m : SysE tO tR lo u x n Rs Ls lw val K) (h1 : ∀ i, i < Ls.length → lw i = lw' i) (h2 : ∀ i j q, i < Ls.length → j < lw i → val' i j = some q → val i j = some q) : SysE tO tR lo u x n Rs Ls lw' val' K :=
 ⟨m.out, m.hn, m.len, m.row, m.sep, fun i hi => (m.wid i hi).trans (h1 i hi), fun i j q hi hj hv => m.num i j q hi (by rw [h1 i hi]; exact hj) (h2 i j q hi (by rw [h1 i hi]; exact hj) hv)⟩
theorem SysE.xn (m : SysE tO tR lo u x n Rs Ls lw val K) : x.n = n := by
 have h1 := m.out.1
 have h2 := m.hn
 rw [List.length_map, List.length_take] at h1
 omega
theorem SysE.cell (m : SysE tO tR lo u x n Rs Ls lw val K) (hi : i < n) : ∃ b, x.a = some ⟨b, 0, none⟩ ∧ u.cell? ⟨b, 0 + i * 1, none⟩ = some (Rs.getD i sl0).v := by
 have hn := m.hn
 obtain ⟨b, h1, h2⟩ := m.out.mutL.cell (j := i) (by rw [List.length_map, List.length_take]; omega)
 refine ⟨b, h1, ?_⟩
 rw [Nat.mul_one, h2, List.getElem?_map, List.getElem?_take_of_lt hi, List.getD_eq_getElem?_getD, List.getElem?_eq_getElem xq]; rfl
theorem MutQ.mayA {k : Nat} {ty : TypeId} {cs : List Value} (m : MutQ k ty lo u y cs) (h : u0.heap.size ≤ lo) : ∀ a, y.a = some a → MayB w0 u0 a.block := fun a ha => by
 rcases m.2.2.2 with h1 | ⟨b, all, h1, h2, h3, h4, h5, _⟩
 ·rw [h1] at ha; cases ha
 rw [h1] at ha; injection ha with ha; subst ha; exact .inl (Nat.le_trans h h5)
theorem SysE.store (hT : tO ≠ tR) (m : SysE tO tR lo u x n Rs Ls lw val K) (hi : i < Ls.length) (hj : j < lw i) (h : MutQ (1 * 3) tR lo u' (Rs.getD i sl0) (rcs ((Ls.getD i []).set j r))) (e : ExtX (Rs.getD i sl0) u u') (hr : RatN u r q K) : SysE tO tR lo u' x n Rs (Ls.set i ((Ls.getD i []).set j r)) lw (up2 val i j q) K := by
 refine ⟨m.out.extT (e.t (m.row i hi).mutL) hT, m.hn, by rw [List.length_set]; exact m.len, fun a ha => ?_, fun a b ha hb => ?_, fun a ha => ?_, fun a b z ha hb hv => ?_⟩
 ·rw [List.length_set] at ha
  by_cases hia : i = a
  ·subst hia; rw [getD_set_same ha]; exact h
  rw [getD_set_other hia]; exact (m.row a ha).extS e (m.sep i a hi ha hia)
 ·rw [List.length_set] at ha hb; exact m.sep a b ha hb
 ·rw [List.length_set] at ha
  by_cases hia : i = a
  ·subst hia; rw [getD_set_same ha, List.length_set]; exact m.wid i ha
  rw [getD_set_other hia]; exact m.wid a ha
 rw [List.length_set] at ha
 have hw := m.wid i hi
 unfold up2 at hv
 by_cases hia : i = a
 ·subst hia
  rw [getD_set_same ha]
  by_cases hjb : j = b
  ·subst hjb
   rw [getD_set_same xq]
   rw [if_pos ⟨rfl, rfl⟩] at hv
   injection hv with hv
   subst hv
   exact (m.row i hi).keep e hr
  rw [getD_set_other hjb]
  rw [if_neg (fun h => hjb h.2.symm)] at hv
  exact (m.row i hi).keep e (m.num i b z hi hb hv)
 rw [getD_set_other hia]
 rw [if_neg (fun h => hia h.1.symm)] at hv
 exact (m.row i hi).keep e (m.num a b z ha hb hv)
theorem SysE.put (hT : tR ≠ tO) (m : SysE tO tR lo u x n Rs Ls lw val K) (hi : i < n) (ho : MutQ 1 tO lo u' x (((Rs.take n).set i y).map Sl.v)) (e : ExtX x u u') (hy : MutQ (1 * 3) tR lo u y (rcs L)) (hs : ∀ j, j < Ls.length → j ≠ i → Sep y (Rs.getD j sl0)) (hw : L.length = w) (hL : ∀ b q, b < w → g b = some q → RatN u (L.getD b rl0) q K) : SysE tO tR lo u' x n (Rs.set i y) (Ls.set i L) (up1 lw i w) (upr val i g) K := by
 have eT := e.t m.out.mutL
 have hn := m.hn
 have hlen := m.len
 have hir : i < Rs.length := by omega
 refine ⟨by rw [List.take_set]; exact ho, by rw [List.length_set]; exact hn, by rw [List.length_set, List.length_set]; exact hlen, fun j hj => ?_, fun a b ha hb hab => ?_, fun a ha => ?_, fun a b z ha hb hv => ?_⟩
 ·rw [List.length_set] at hj
  by_cases hij : i = j
  ·subst hij; rw [getD_set_same hj, getD_set_same hir]; exact hy.extT eT hT
  rw [getD_set_other hij, getD_set_other hij]; exact (m.row j hj).extT eT hT
 ·rw [List.length_set] at ha hb
  by_cases h1 : i = a
  ·subst h1
   rw [getD_set_same hir, getD_set_other hab]
   exact hs b hb (Ne.symm hab)
  rw [getD_set_other h1]
  by_cases h2 : i = b
  ·subst h2; rw [getD_set_same hir]; exact (hs a ha (Ne.symm h1)).symm
  rw [getD_set_other h2]; exact m.sep a b ha hb hab
 ·rw [List.length_set] at ha
  unfold up1
  by_cases h1 : i = a
  ·subst h1; rw [getD_set_same ha, if_pos rfl]; exact hw
  rw [getD_set_other h1, if_neg (Ne.symm h1)]; exact m.wid a ha
 rw [List.length_set] at ha
 unfold up1 at hb
 unfold upr at hv
 by_cases h1 : i = a
 ·subst h1; rw [if_pos rfl] at hb hv; rw [getD_set_same ha]; exact m.out.keep e (hL b z hb hv)
 rw [if_neg (Ne.symm h1)] at hb hv; rw [getD_set_other h1]; exact m.out.keep e (m.num a b z ha hb hv)
theorem SysE.nil (n : Nat) (ho : MutQ 1 tO lo u x ((List.replicate n sl0).map Sl.v)) : SysE tO tR lo u x n (List.replicate n sl0) (List.replicate n []) (fun _ => 0) val K := by
 have e : ∀ i, (List.replicate n sl0).getD i sl0 = sl0 := fun i => by
  rw [List.getD_eq_getElem?_getD, List.getElem?_replicate]; split <;> rfl
 have e2 : ∀ i, (List.replicate n ([] : List RL)).getD i [] = [] := fun i => by
  rw [List.getD_eq_getElem?_getD, List.getElem?_replicate]; split <;> rfl
 refine ⟨by rw [List.take_of_length_le zz]; exact ho, by simp, by simp, fun i _ => ?_, fun i j _ _ _ => ?_, fun i _ => by rw [e2]; rfl, fun i j _ _ h _ => absurd h (Nat.not_lt_zero j)⟩
 ·rw [e, e2]; exact MutQ.nil _ _ _ _
 rw [e]; exact fun a b ha => by cases ha
theorem SysE.add (m : SysE tO tR lo u x n Rs Ls lw val K) (hy : MutQ (1 * 3) tR lo u y (rcs L)) (hs : ∀ j, j < Ls.length → Sep y (Rs.getD j sl0)) (hw : L.length = w) (hL : ∀ b q, b < w → g b = some q → RatN u (L.getD b rl0) q K) : SysE tO tR lo u x n (Rs ++ [y]) (Ls ++ [L]) (up1 lw Ls.length w) (upr val Ls.length g) K := by
 have hl := m.len
 have hn := m.hn
 have g1 : ∀ {j : Nat}, j < Ls.length → (Rs ++ [y]).getD j sl0 = Rs.getD j sl0 := fun h => by rw [List.getD_eq_getElem?_getD, List.getElem?_append_left xq, ← List.getD_eq_getElem?_getD]
 have g2 : ∀ {j : Nat}, j < Ls.length → (Ls ++ [L]).getD j [] = Ls.getD j [] := fun h => by rw [List.getD_eq_getElem?_getD, List.getElem?_append_left xq, ← List.getD_eq_getElem?_getD]
 have g3 : (Rs ++ [y]).getD Ls.length sl0 = y := by rw [← hl, List.getD_eq_getElem?_getD, List.getElem?_append_right (Nat.le_refl _), Nat.sub_self]; rfl
 have g4 : (Ls ++ [L]).getD Ls.length [] = L := by rw [List.getD_eq_getElem?_getD, List.getElem?_append_right (Nat.le_refl _), Nat.sub_self]; rfl
 refine ⟨by rw [List.take_append_of_le_length hn]; exact m.out, by rw [List.length_append]; omega, by simp [hl], fun j hj => ?_, fun a b ha hb hab => ?_, fun a ha => ?_, fun a b z ha hb hv => ?_⟩
 ·rw [List.length_append, List.length_singleton] at hj
  rcases Nat.lt_or_ge j Ls.length with h1 | h1
  ·rw [g1 h1, g2 h1]; exact m.row j h1
  rw [show j = Ls.length by omega, g3, g4]; exact hy
 ·rw [List.length_append, List.length_singleton] at ha hb
  rcases Nat.lt_or_ge a Ls.length with h1 | h1 <;> rcases Nat.lt_or_ge b Ls.length with h2 | h2
  ·rw [g1 h1, g1 h2]; exact m.sep a b h1 h2 hab
  ·rw [g1 h1, show b = Ls.length by omega, g3]; exact (hs a h1).symm
  ·rw [g1 h2, show a = Ls.length by omega, g3]; exact hs b h2
  omega
 ·rw [List.length_append, List.length_singleton] at ha
  unfold up1
  rcases Nat.lt_or_ge a Ls.length with h1 | h1
  ·rw [g2 h1, if_neg xq]; exact m.wid a h1
  rw [show a = Ls.length by omega, g4, if_pos rfl]; exact hw
 rw [List.length_append, List.length_singleton] at ha
 unfold up1 at hb
 unfold upr at hv
 rcases Nat.lt_or_ge a Ls.length with h1 | h1
 ·rw [if_neg xq] at hb hv; rw [g2 h1]; exact m.num a b z h1 hb hv
 rw [if_pos xq] at hb hv; rw [show a = Ls.length by omega, g4]; exact hL b z hb hv
theorem SysE.fresh {n' c : Nat} (m : SysE tO tR lo u x n Rs Ls lw val K) (hb : u.heap.size ≤ b) : ∀ j, j < Ls.length → Sep ⟨some ⟨b, 0, none⟩, n', c⟩ (Rs.getD j sl0) := fun j hj a a' h1 h2 hc => by
 injection h1 with h1; subst h1
 have h3 := (m.row j hj).mutL.lt h2
 have hc : b = a'.block := hc
 omega
theorem SysE.rats (m : SysE tO tR lo u x n Rs Ls lw val K) (hi : i < Ls.length) (hv : ∀ j, j < lw i → val i j = some (f i j)) : RatsN u (Ls.getD i []) (rowL (lw i) (f i)) K := ⟨(m.wid i hi).trans rowL_len.symm, fun j hj => by
 rw [rowL_len] at hj
 rw [rowL_at hj]; exact m.num i j _ hi hj (hv j hj)⟩
theorem rats_fn (h : RatsN u L l K) : ∀ b q, b < l.length → some (l.getD b 0) = some q → RatN u (L.getD b rl0) q K := fun b q hb e => by injection e with e; subst e; exact h.2 b hb
theorem MutQ.pol {ty : TypeId} (m : MutQ (1 * 3) ty lo u y (rcs L)) (h : RatsN u L l K) : PolN u y l K := by
 obtain ⟨h1, h2, h3, h4⟩ := m
 refine ⟨L, ⟨by rw [h1], h2, h3, fun hp => ?_⟩, h⟩
 rcases h4 with h4 | ⟨b, all, k1, k2, k3, k4, _⟩
 ·rw [h4] at hp; exact absurd hp (Nat.lt_irrefl 0)
 refine ⟨b, 0, k1, fun j hj => ?_⟩
 rw [Nat.zero_add, cells_at k2, ← k4, List.getElem?_take_of_lt (by rw [h1] at hj; exact hj)]; simp
theorem SysE.pol (m : SysE tO tR lo u x n Rs Ls lw val K) (hi : i < Ls.length) (hv : ∀ j, j < lw i → val i j = some (f i j)) : PolN u (Rs.getD i sl0) (rowL (lw i) (f i)) K := (m.row i hi).pol (m.rats hi hv)
end
def MatV (u : World) (x : Sl) (n : Nat) (Rs : List Sl) (T : Nat → List Rat) (K : Nat) : Prop := x.n = n ∧ (∀ i, i < n → ∃ b, x.a = some ⟨b, 0, none⟩ ∧ u.cell? ⟨b, 0 + i * 1, none⟩ = some (Rs.getD i sl0).v) ∧ ∀ i, i < n → PolN u (Rs.getD i sl0) (T i) K
section
variable {lo b n m i j w : Nat} {tO tR : TypeId} {u u' : World} {x y : Sl} {Rs : List Sl} {Ls : List (List RL)} {K K' : Nat} {lw : Nat → Nat} {val : Nat → Nat → Option Rat} {f : Nat → Nat → Rat} {T T' : Nat → List Rat}
theorem MatV.ext (h : MatV u x n Rs T K) (e : Ext u u') : MatV u' x n Rs T K := ⟨h.1, fun i hi => by obtain ⟨b, h1, h2⟩ := h.2.1 i hi; exact ⟨b, h1, e.cell h2⟩, fun i hi => (h.2.2 i hi).ext e⟩
theorem MatV.more (h : MatV u x n Rs T K) (k : K ≤ K') : MatV u x n Rs T K' := ⟨h.1, h.2.1, fun i hi => (h.2.2 i hi).more k⟩
theorem SysE.matV (m : SysE tO tR lo u x n Rs Ls lw val K) (hv : ∀ i j, i < n → j < lw i → val i j = some (f i j)) : MatV u x n Rs (fun i => rowL (lw i) (f i)) K := by
 have h1 := m.hn
 have h2 := m.len
 exact ⟨m.xn, fun i hi => m.cell hi, fun i hi => m.pol xq (fun j hj => hv i j hi hj)⟩
end
end Go.Proofs.YtgmkhhfbckjaeaaGreat
namespace Go.Proofs.YtgmkhhfbckjaeaaGreat
namespace Nt
theorem sq0 (x : Rat) : 0 ≤ x * x := by
 rcases Rat.le_total (a := 0) (b := x) with h | h
 ·exact Rat.mul_nonneg h h
 have h1 : 0 ≤ -x := by grind
 have h2 := Rat.mul_nonneg h1 h1
 grind
def cv (a y : Nat → Rat) (n : Nat) : Rat := su (fun i => a i * y (n - i)) (n + 1)
section
variable {a b y z : Nat → Rat} {n m N M : Nat} {k : Rat}
theorem cv_0 : cv a y 0 = a 0 * y 0 := by show (0 : Rat) + a 0 * y 0 = _; grind
theorem cv_s : cv a y (n + 1) = a 0 * y (n + 1) + cv (fun i => a (i + 1)) y n := by
 unfold cv
 rw [su_head]
 have e : su (fun i => a (i + 1) * y (n + 1 - (i + 1))) (n + 1) = su (fun i => a (i + 1) * y (n - i)) (n + 1) := su_congr (fun i _ => by rw [Nat.add_sub_add_right])
 rw [e]; rfl
theorem cv_comm (a y : Nat → Rat) : cv a y = cv y a := funext fun n => by
 unfold cv
 rw [← su_rev]
 exact su_congr (fun i hi => by rw [show n - (n - i) = i by omega]; grind)
theorem cv_lin {p : Rat} : cv (fun i => p * a i + b i) y n = p * cv a y n + cv b y n := by
 unfold cv
 rw [← su_mul, ← su_add]
 exact su_congr (fun i _ => by grind)
theorem cv_congr (ha : ∀ i, i ≤ n → a i = b i) (hy : ∀ i, i ≤ n → y i = z i) : cv a y n = cv b z n := su_congr (fun i hi => by rw [ha i xq, hy (n - i) xq])
theorem cv_assoc (a b y : Nat → Rat) (n : Nat) : cv (cv a b) y n = cv a (cv b y) n := by
 induction n generalizing a with
 | zero => rw [cv_0, cv_0, cv_0, cv_0]; grind
 | succ n ih =>
  rw [cv_s, cv_s (a := a), cv_s (a := b), cv_0]
  have e : (fun i => cv a b (i + 1)) = fun i => a 0 * (fun j => b (j + 1)) i + cv (fun j => a (j + 1)) b i := funext fun i => cv_s
  rw [e, cv_lin, ih]
  have e2 : cv (fun j => a (j + 1)) (cv b y) n = cv (fun i => a (i + 1)) (cv b y) n := rfl
  grind
def en (y : Nat → Rat) (N : Nat) : Rat := su (fun i => y i * y i) N
theorem en_nn : 0 ≤ en y N := su_nn (fun i _ => sq0 _)
theorem en_mono (h : N ≤ M) : en y N ≤ en y M := su_mono (fun i => sq0 _) h
theorem en_congr (h : ∀ i, i < N → y i = z i) : en y N = en z N := su_congr (fun i hi => by rw [h i hi])
theorem sh_0 : sh y 0 = 0 := rfl
theorem sh_s : sh y (n + 1) = y n := rfl
theorem en_sh : en (sh y) N ≤ en y N := by
 cases N with
 | zero => exact Rat.le_refl
 | succ N =>
  unfold en
  rw [su_head, su_s]
  have e : su (fun i => sh y (i + 1) * sh y (i + 1)) N = su (fun i => y i * y i) N := su_congr (fun i _ => by rw [sh_s])
  rw [e, sh_0]
  have := sq0 (y N)
  grind
theorem cv_sh : cv (sh a) y n = sh (cv a y) n := by
 cases n with
 | zero => rw [cv_0, sh_0, sh_0]; grind
 | succ n => rw [cv_s, sh_s, sh_0]; show 0 * y (n + 1) + cv a y n = _; grind
theorem cv_bd (m : Nat) : ∀ a : Nat → Rat, (∀ i, m ≤ i → a i = 0) → ∃ B, 0 ≤ B ∧ ∀ y N, en (cv a y) N ≤ B * en y N := by
 induction m with
 | zero =>
  intro a ha
  refine ⟨0, Rat.le_refl, fun y N => ?_⟩
  have e : en (cv a y) N = 0 := su_0 (fun i _ => by rw [show cv a y i = 0 from su_0 (fun j _ => by rw [ha j (Nat.zero_le _)]; grind)]; grind)
  rw [e]; grind
 | succ m ih =>
  intro a ha
  obtain ⟨B, hB, h⟩ := ih (fun i => a (i + 1)) (fun i hi => ha (i + 1) xq)
  refine ⟨2 * (a 0 * a 0) + 2 * B, by have := sq0 (a 0); grind, fun y N => ?_⟩
  have h1 := h y N
  have h2 : en (sh (cv (fun i => a (i + 1)) y)) N ≤ en (cv (fun i => a (i + 1)) y) N := en_sh
  have h3 : en (cv a y) N ≤ su (fun i => 2 * (a 0 * a 0) * (y i * y i) + 2 * (sh (cv (fun i => a (i + 1)) y) i * sh (cv (fun i => a (i + 1)) y) i)) N := su_le (fun i _ => by
   have e : cv a y i = a 0 * y i + sh (cv (fun i => a (i + 1)) y) i := by
    cases i with
    | zero => rw [cv_0, sh_0]; grind
    | succ i => rw [cv_s, sh_s]
   rw [e]
   have := sq0 (a 0 * y i - sh (cv (fun i => a (i + 1)) y) i)
   grind)
  rw [su_add, su_mul, su_mul] at h3
  unfold en at *
  grind
def OB (a : Nat → Rat) : Prop := ∃ C, 0 ≤ C ∧ ∀ y N, en y N ≤ C * en (cv a y) N
theorem OB.one (h0 : a 0 = 1) (h : ∀ i, 1 ≤ i → a i = 0) : OB a := by
 refine ⟨1, by decide, fun y N => ?_⟩
 have e : en (cv a y) N = en y N := en_congr (fun i _ => by
  show su _ (i + 1) = _
  rw [su_head, su_0 (fun j _ => by rw [h (j + 1) xq]; grind), h0, Nat.sub_zero]; grind)
 rw [e]; grind
def rv (m : Nat) (a : Nat → Rat) (i : Nat) : Rat := if i ≤ m then a (m - i) else 0
def PA (m : Nat) (a : Nat → Rat) : Prop := ∀ y N, en (cv (rv m a) y) N ≤ en (cv a y) N
structure Step (m : Nat) (a b : Nat → Rat) (k : Rat) : Prop where
 up : ∀ i, a i = b i + k * sh (rv m b) i
 rev : ∀ i, rv (m + 1) a i = sh (rv m b) i + k * b i
section
variable {y : Nat → Rat}
theorem Step.u (s : Step m a b k) (n : Nat) : cv a y n = cv b y n + k * sh (cv (rv m b) y) n := by
 have e : a = fun i => k * sh (rv m b) i + b i := funext fun i => by rw [s.up i]; grind
 rw [e, cv_lin, cv_sh]; grind
theorem Step.v (s : Step m a b k) (n : Nat) : cv (rv (m + 1) a) y n = sh (cv (rv m b) y) n + k * cv b y n := by
 have e : rv (m + 1) a = fun i => k * b i + sh (rv m b) i := funext fun i => by rw [s.rev i]; grind
 rw [e, cv_lin, cv_sh]; grind
theorem Step.en (s : Step m a b k) (N : Nat) : en (cv a y) N - en (cv (rv (m + 1) a) y) N = (1 - k * k) * (en (cv b y) N - en (sh (cv (rv m b) y)) N) := by
 have e1 : Nt.en (cv a y) N = su (fun i => (1 - k * k) * (cv b y i * cv b y i) + ((k * k - 1) * (sh (cv (rv m b) y) i * sh (cv (rv m b) y) i) + cv (rv (m + 1) a) y i * cv (rv (m + 1) a) y i)) N := su_congr (fun i _ => by rw [s.u i, s.v i]; grind)
 rw [e1, su_add, su_mul, su_add, su_mul]
 unfold Nt.en
 grind
theorem Step.pa (s : Step m a b k) (hk : k * k ≤ 1) (h : PA m b) : PA (m + 1) a := fun y N => by
 have h1 := s.en (y := y) N
 have h2 : Nt.en (sh (cv (rv m b) y)) N ≤ Nt.en (cv (rv m b) y) N := en_sh
 have h3 := h y N
 have h4 : 0 ≤ (1 - k * k) * (Nt.en (cv b y) N - Nt.en (sh (cv (rv m b) y)) N) := Rat.mul_nonneg (by grind) (by grind)
 grind
theorem Step.ob (s : Step m a b k) (h1 : -1 < k) (h2 : k < 1) (h : PA m b) (hb : OB b) : OB a := by
 obtain ⟨C, hC, hb⟩ := hb
 obtain ⟨c, hc0, hc1, hc⟩ : ∃ c : Rat, 0 ≤ c ∧ c < 1 ∧ (c = k ∨ c = -k) := by
  rcases Rat.le_total (a := 0) (b := k) with h | h
  ·exact ⟨k, h, h2, .inl rfl⟩
  exact ⟨-k, by grind, by grind, .inr rfl⟩
 have hd : (0 : Rat) < (1 - c) * (1 - c) := Rat.mul_pos (by grind) (by grind)
 refine ⟨C * ((1 - c) * (1 - c))⁻¹, Rat.mul_nonneg hC (Rat.le_of_lt (Rat.inv_pos.2 hd)), fun y N => ?_⟩
 have g1 := hb y N
 have g2 : Nt.en (sh (cv (rv m b) y)) N ≤ Nt.en (cv b y) N := Rat.le_trans en_sh (h y N)
 have g3 : su (fun i => (1 - c) * (cv b y i * cv b y i) + (-(c * (1 - c))) * (sh (cv (rv m b) y) i * sh (cv (rv m b) y) i)) N ≤ Nt.en (cv a y) N := su_le (fun i _ => by
  rw [s.u i]
  rcases hc with rfl | rfl
  ·have := Rat.mul_nonneg hc0 (sq0 (cv b y i + sh (cv (rv m b) y) i)); grind
  have := Rat.mul_nonneg hc0 (sq0 (cv b y i - sh (cv (rv m b) y) i)); grind)
 rw [su_add, su_mul, su_mul] at g3
 have g4 : (1 - c) * (1 - c) * Nt.en (cv b y) N ≤ Nt.en (cv a y) N := by
  have := Rat.mul_le_mul_of_nonneg_left g2 (Rat.mul_nonneg hc0 (show 0 ≤ 1 - c by grind))
  unfold Nt.en at *
  grind
 have g5 : Nt.en (cv b y) N ≤ ((1 - c) * (1 - c))⁻¹ * Nt.en (cv a y) N := by
  have := Rat.mul_le_mul_of_nonneg_left g4 (Rat.le_of_lt (Rat.inv_pos.2 hd))
  rw [← Rat.mul_assoc, Rat.inv_mul_cancel _ (by grind), Rat.one_mul] at this
  exact this
 have g6 := Rat.mul_le_mul_of_nonneg_left g5 hC
 rw [Rat.mul_assoc]
 exact Rat.le_trans g1 g6
end
end
end Nt
namespace Nt
def mI (i j : Nat) : Rat := if i = j then 1 else 0
def mM (n : Nat) (A M : Nat → Nat → Rat) (i j : Nat) : Rat := su (fun k => A i k * M k j) n
def mP (n : Nat) (A : Nat → Nat → Rat) : Nat → Nat → Nat → Rat
 | 0 => mI
 | k + 1 => mM n A (mP n A k)
def mT (n : Nat) (A : Nat → Nat → Rat) : Rat := su (fun i => A i i) n
def flN (n : Nat) (T : Nat → Nat → Rat) (k : Nat) : Rat := mT n T * (((-1 : Int) : Rat) / (((k + 1 : Nat) : Int) : Rat))
def flM (n : Nat) (A : Nat → Nat → Rat) : Nat → Nat → Nat → Rat
 | 0 => mI
 | k + 1 => fun i j => mM n A (flM n A k) i j + (if i = j then flN n (mM n A (flM n A k)) k else 0)
def flC (n : Nat) (A : Nat → Nat → Rat) : Nat → Rat
 | 0 => 1
 | k + 1 => flN n (mM n A (flM n A k)) k
section
variable {n m k l : Nat} {A M : Nat → Nat → Rat} {a b p y : Nat → Rat} {i j : Nat}
theorem su_mulr (c : Rat) {f : Nat → Rat} : su (fun i => f i * c) n = su f n * c := by
 rw [Rat.mul_comm, ← su_mul]
 exact su_congr (fun i _ => Rat.mul_comm _ _)
theorem mM_su {F : Nat → Nat → Nat → Rat} {c : Nat → Rat} : mM n A (fun i j => su (fun l => c l * F l i j) m) i j = su (fun l => c l * mM n A (F l) i j) m := by
 unfold mM
 have e1 : su (fun k => A i k * su (fun l => c l * F l k j) m) n = su (fun k => su (fun l => c l * (A i k * F l k j)) m) n := su_congr (fun k _ => by
  rw [← su_mul]; exact su_congr (fun l _ => by grind))
 rw [e1, su_swap]
 exact su_congr (fun l _ => by rw [← su_mul])
theorem flM_pow (k : Nat) : flM n A k = fun i j => su (fun l => flC n A l * mP n A (k - l) i j) (k + 1) := by
 induction k with
 | zero => funext i j; show mI i j = 0 + 1 * mI i j; grind
 | succ k ih =>
  funext i j
  show mM n A (flM n A k) i j + (if i = j then flN n (mM n A (flM n A k)) k else 0) = _
  rw [su_s]
  have e1 : mM n A (flM n A k) i j = su (fun l => flC n A l * mP n A (k + 1 - l) i j) (k + 1) := by
   rw [ih, mM_su]
   exact su_congr (fun l hl => by rw [show k + 1 - l = (k - l) + 1 by omega]; rfl)
  have e2 : flC n A (k + 1) * mP n A (k + 1 - (k + 1)) i j = (if i = j then flN n (mM n A (flM n A k)) k else 0) := by
   rw [Nat.sub_self]
   show flN n (mM n A (flM n A k)) k * (if i = j then 1 else 0) = _
   split <;> grind
  rw [e2, ← e1]
def mp (n : Nat) (A : Nat → Nat → Rat) (k : Nat) : Rat := mT n (mP n A k)
theorem flM_tr (k : Nat) : mT n (mM n A (flM n A k)) = su (fun l => flC n A l * mp n A (k + 1 - l)) (k + 1) := by
 have e : mM n A (flM n A k) = fun i j => su (fun l => flC n A l * mP n A (k + 1 - l) i j) (k + 1) := by
  funext i j
  rw [flM_pow, mM_su]
  exact su_congr (fun l hl => by rw [show k + 1 - l = (k - l) + 1 by omega]; rfl)
 rw [e]
 unfold mp mT
 rw [su_swap]
 exact su_congr (fun l _ => by rw [su_mul])
theorem castS_ne (k : Nat) : (((k + 1 : Nat) : Int) : Rat) ≠ 0 := fun h => by
 have h2 : ((k + 1 : Nat) : Int) = 0 := by exact_mod_cast h
 omega
def hC (n : Nat) (A : Nat → Nat → Rat) (B C : Nat → Rat) (D : Rat) : Nat → Rat
 | 0 => D
 | k + 1 => su (fun i => C i * su (fun j => mP n A k i j * B j) n) n
theorem fl_num {B C : Nat → Rat} (k : Nat) : su (fun i => C i * su (fun j => flM n A k i j * B j) n) n = su (fun l => flC n A l * su (fun i => C i * su (fun j => mP n A (k - l) i j * B j) n) n) (k + 1) := by
 have e1 : ∀ i, su (fun j => flM n A k i j * B j) n = su (fun l => flC n A l * su (fun j => mP n A (k - l) i j * B j) n) (k + 1) := fun i => by
  rw [flM_pow]
  have e : su (fun j => su (fun l => flC n A l * mP n A (k - l) i j) (k + 1) * B j) n = su (fun j => su (fun l => flC n A l * (mP n A (k - l) i j * B j)) (k + 1)) n := su_congr (fun j _ => by
   rw [← su_mulr]; exact su_congr (fun l _ => by grind))
  rw [e, su_swap]
  exact su_congr (fun l _ => by rw [su_mul])
 have e2 : su (fun i => C i * su (fun j => flM n A k i j * B j) n) n = su (fun i => su (fun l => flC n A l * (C i * su (fun j => mP n A (k - l) i j * B j) n)) (k + 1)) n := su_congr (fun i _ => by
  rw [e1, ← su_mul]; exact su_congr (fun l _ => by grind))
 rw [e2, su_swap]
 exact su_congr (fun l _ => by rw [su_mul])
theorem fl_cv {B C : Nat → Rat} {D : Rat} (k : Nat) : (if k = 0 then 0 else su (fun i => C i * su (fun j => flM n A (k - 1) i j * B j) n) n) + flC n A k * D = cv (flC n A) (hC n A B C D) k := by
 cases k with
 | zero => rw [if_pos rfl, cv_0]; show (0 : Rat) + 1 * D = 1 * D; grind
 | succ k =>
  rw [if_neg xq, Nat.add_sub_cancel, fl_num]
  have e3 : cv (flC n A) (hC n A B C D) (k + 1) = su (fun i => flC n A i * hC n A B C D (k + 1 - i)) (k + 1) + flC n A (k + 1) * hC n A B C D (k + 1 - (k + 1)) := rfl
  rw [e3, Nat.sub_self]
  have e : su (fun i => flC n A i * hC n A B C D (k + 1 - i)) (k + 1) = su (fun l => flC n A l * su (fun i => C i * su (fun j => mP n A (k - l) i j * B j) n) n) (k + 1) := su_congr (fun l hl => by
   rw [show k + 1 - l = (k - l) + 1 by omega]; rfl)
  rw [e]; rfl
def lsX (n : Nat) (A : Nat → Nat → Rat) (B : Nat → Rat) : Nat → Nat → Rat
 | 0 => fun _ => 0
 | t + 1 => fun i => su (fun j => A i j * lsX n A B t j) n + B i * (if t = 0 then 1 else 0)
theorem lsX_pow {B : Nat → Rat} (t i : Nat) (hi : i < n) : lsX n A B (t + 1) i = su (fun j => mP n A t i j * B j) n := by
 induction t generalizing i with
 | zero =>
  show su (fun j => A i j * 0) n + B i * 1 = su (fun j => mI i j * B j) n
  rw [su_0 (fun j _ => by grind)]
  have e : ∀ m, i < m → su (fun j => mI i j * B j) m = B i := by
   intro m hm
   induction m with
   | zero => omega
   | succ m ih =>
    rw [su_s]
    unfold mI
    by_cases h : i = m
    ·subst h
     rw [if_pos rfl, su_0 (fun j hj => by rw [if_neg xq]; grind)]; grind
    rw [if_neg h]
    have := ih xq
    unfold mI at this
    rw [this]; grind
  rw [e n hi]; grind
 | succ t ih =>
  show su (fun j => A i j * lsX n A B (t + 1) j) n + B i * (if t + 1 = 0 then 1 else 0) = su (fun j => mM n A (mP n A t) i j * B j) n
  rw [if_neg xq, su_congr (g := fun j => A i j * su (fun k => mP n A t j k * B k) n) (fun j hj => by rw [ih j hj])]
  unfold mM
  have e1 : su (fun j => A i j * su (fun k => mP n A t j k * B k) n) n = su (fun j => su (fun k => A i j * mP n A t j k * B k) n) n := su_congr (fun j _ => by rw [← su_mul]; exact su_congr (fun k _ => by grind))
  have e2 : su (fun j => su (fun k => A i k * mP n A t k j) n * B j) n = su (fun j => su (fun k => A i k * mP n A t k j * B j) n) n := su_congr (fun j _ => by rw [← su_mulr])
  rw [e1, e2, su_swap]; grind
theorem hC_run {B C : Nat → Rat} {D : Rat} (t : Nat) : hC n A B C D t = su (fun i => C i * lsX n A B t i) n + D * (if t = 0 then 1 else 0) := by
 cases t with
 | zero => show D = su (fun i => C i * 0) n + D * 1; rw [su_0 (fun j _ => by grind)]; grind
 | succ t =>
  show su (fun i => C i * su (fun j => mP n A t i j * B j) n) n = _
  rw [if_neg xq, su_congr (g := fun i => C i * lsX n A B (t + 1) i) (fun i hi => by rw [lsX_pow t i hi])]; grind
end
end Nt
namespace Nt
section
variable {n n1 n2 m k l : Nat} {A M : Nat → Nat → Rat} {a b p q y : Nat → Rat} {i j : Nat}
def dv (p : Nat → Rat) (k : Nat) : Rat := (((k + 1 : Nat) : Int) : Rat) * p (k + 1)
theorem mp_1 (k : Nat) : mp 1 A (k + 1) = A 0 0 * mp 1 A k := by
 show 0 + (0 + A 0 0 * mP 1 A k 0 0) = A 0 0 * (0 + mP 1 A k 0 0); grind
theorem mp_10 : mp 1 A 0 = 1 := by show (0 : Rat) + (if 0 = 0 then 1 else 0) = 1; grind
theorem mP_2 (k i j : Nat) (hi : i < 2) : mP 2 A (k + 2) i j = (A 0 0 + A 1 1) * mP 2 A (k + 1) i j - (A 0 0 * A 1 1 - A 0 1 * A 1 0) * mP 2 A k i j := by
 have e : ∀ i, mP 2 A (k + 1) i j = A i 0 * mP 2 A k 0 j + A i 1 * mP 2 A k 1 j := fun i => by
  show 0 + A i 0 * mP 2 A k 0 j + A i 1 * mP 2 A k 1 j = _; grind
 have e2 : mP 2 A (k + 2) i j = A i 0 * mP 2 A (k + 1) 0 j + A i 1 * mP 2 A (k + 1) 1 j := by
  show 0 + A i 0 * mP 2 A (k + 1) 0 j + A i 1 * mP 2 A (k + 1) 1 j = _; grind
 rw [e2, e 0, e 1, e i]
 obtain rfl | rfl : i = 0 ∨ i = 1 := by omega
 ·grind
 grind
theorem mp_2 (k : Nat) : mp 2 A (k + 2) = (A 0 0 + A 1 1) * mp 2 A (k + 1) - (A 0 0 * A 1 1 - A 0 1 * A 1 0) * mp 2 A k := by
 show 0 + mP 2 A (k + 2) 0 0 + mP 2 A (k + 2) 1 1 = _ * (0 + mP 2 A (k + 1) 0 0 + mP 2 A (k + 1) 1 1) - _ * (0 + mP 2 A k 0 0 + mP 2 A k 1 1)
 rw [mP_2 k 0 0 xq, mP_2 k 1 1 xq]; grind
theorem mp_20 : mp 2 A 0 = 2 := by show (0 : Rat) + (if 0 = 0 then 1 else 0) + (if 1 = 1 then 1 else 0) = 2; rw [if_pos rfl, if_pos rfl]; grind
theorem mp_21 : mp 2 A 1 = A 0 0 + A 1 1 := by
 show 0 + (0 + A 0 0 * (if 0 = 0 then 1 else 0) + A 0 1 * (if 1 = 0 then 1 else 0)) + (0 + A 1 0 * (if 0 = 1 then 1 else 0) + A 1 1 * (if 1 = 1 then 1 else 0)) = _
 rw [if_pos rfl, if_neg yz, if_neg yz, if_pos rfl]; grind
end
end Nt
open Go.RowKit
namespace Nt
abbrev UQ (f : Int) : Rat := ((p2i f : Int) : Rat)
theorem UQ_ne (f : Int) : UQ f ≠ 0 := fun e => by have h1 : p2i f = 0 := Rat.intCast_inj.1 e; have := zxp f; omega
def sumQ (v : List Rat) (T : List TL) (j : Nat) : Rat := su (fun i => (((T.getD i tl0).c : Int) : Rat) * v.getD (T.getD i tl0).f.toNat 0) j
def valQ (U : Rat) (N : List (List TL)) (v0 : List Rat) : Nat → List Rat
 | 0 => v0
 | k + 1 => valQ U N v0 k ++ [sumQ (valQ U N v0 k) (N.getD k []) (N.getD k []).length / U]
def unQ (m j : Nat) : List Rat := (List.range m).map fun i => if i = j then 1 else 0
def colQ (U : Rat) (N : List (List TL)) (s j : Nat) : List Rat := valQ U N (unQ (1 + s) j) N.length
def lnA (U : Rat) (N : List (List TL)) (s : Nat) (nx : List Int) (i j : Nat) : Rat := (colQ U N s (j + 1)).getD (nx.getD i 0).toNat 0
def lnB (U : Rat) (N : List (List TL)) (s : Nat) (nx : List Int) (i : Nat) : Rat := (colQ U N s 0).getD (nx.getD i 0).toNat 0
def lnC (U : Rat) (N : List (List TL)) (s : Nat) (q : Int) (j : Nat) : Rat := (colQ U N s (j + 1)).getD q.toNat 0
def lnD (U : Rat) (N : List (List TL)) (s : Nat) (q : Int) : Rat := (colQ U N s 0).getD q.toNat 0
section
variable {U c : Rat} {N : List (List TL)} {v0 v w : List Rat} {T : List TL} {s k m i j : Nat} {nx : List Int} {q : Int} {V W : Nat → Rat} {D Wd : WL}
theorem valQ_len : (valQ U N v0 k).length = v0.length + k := by
 induction k with
 | zero => rfl
 | succ k ih => unfold valQ; rw [List.length_append, ih]; rfl
theorem getD_appl {α : Type} {l m : List α} {z : α} {i : Nat} (h : i < l.length) : (l ++ m).getD i z = l.getD i z := by
 rw [List.getD_eq_getElem?_getD, List.getElem?_append_left h, ← List.getD_eq_getElem?_getD]
theorem getD_appr {α : Type} {l : List α} {x z : α} {i : Nat} (h : i = l.length) : (l ++ [x]).getD i z = x := by
 subst h; rw [List.getD_eq_getElem?_getD, List.getElem?_append_right (Nat.le_refl _), Nat.sub_self]; rfl
theorem valQ_pre (h : i < v0.length + k) : ∀ m, k ≤ m → (valQ U N v0 m).getD i 0 = (valQ U N v0 k).getD i 0 := by
 intro m hm
 induction m with
 | zero => obtain rfl : k = 0 := by omega
           rfl
 | succ m ih =>
  by_cases e : k = m + 1
  ·rw [e]
  rw [← ih xq]
  exact getD_appl (by rw [valQ_len]; omega)
theorem unQ_len (m j : Nat) : (unQ m j).length = m := by simp [unQ]
theorem unQ_at (h : i < m) : (unQ m j).getD i 0 = if i = j then 1 else 0 := by
 unfold unQ
 rw [List.getD_eq_getElem?_getD, List.getElem?_map, List.getElem?_range h]; rfl
def VE (U : Rat) (N : List (List TL)) (s : Nat) (V : Nat → Rat) : Prop := ∀ k, k < N.length → V (1 + s + k) = su (fun i => ((((N.getD k []).getD i tl0).c : Int) : Rat) * V ((N.getD k []).getD i tl0).f.toNat) (N.getD k []).length / U
def Back (N : List (List TL)) (s : Nat) : Prop := ∀ k, k < N.length → ∀ i, i < (N.getD k []).length → ((N.getD k []).getD i tl0).f.toNat < 1 + s + k
theorem Back.of (h : NetOK D Wd s N nx q) : Back N s := fun k hk i hi => by
 have h2 := (h.ht k hk).2 i hi
 omega
theorem VE.val (hb : Back N s) (hl : v0.length = 1 + s) : VE U N s (fun i => (valQ U N v0 N.length).getD i 0) := fun k hk => by
 show (valQ U N v0 N.length).getD (1 + s + k) 0 = _
 rw [valQ_pre (k := k + 1) xq N.length xq]
 have e1 : (valQ U N v0 (k + 1)).getD (1 + s + k) 0 = sumQ (valQ U N v0 k) (N.getD k []) (N.getD k []).length / U := getD_appr (by rw [valQ_len, hl])
 rw [e1]
 unfold sumQ
 rw [su_congr (fun i hi => by rw [← valQ_pre (k := k) (by have := hb k hk i hi; omega) N.length xq])]
theorem VE.init (hl : v0.length = 1 + s) (h : i < 1 + s) : (valQ U N v0 N.length).getD i 0 = v0.getD i 0 := valQ_pre (k := 0) xq _ (Nat.zero_le _)
theorem VE.uniq (hb : Back N s) (hV : VE U N s V) (hW : VE U N s W) (h0 : ∀ i, i < 1 + s → V i = W i) : ∀ i, i < 1 + s + N.length → V i = W i := by
 intro i
 induction i using Nat.strongRecOn with
 | ind i ih =>
  intro hi
  by_cases e : i < 1 + s
  ·exact h0 i e
  obtain ⟨k, rfl⟩ : ∃ k, i = 1 + s + k := ⟨i - (1 + s), by omega⟩
  rw [hV k xq, hW k xq, su_congr (fun j hj => by rw [ih _ (hb k xq j hj) (by have := hb k xq j hj; omega)])]
theorem VE.lin (hV : VE U N s V) (hW : VE U N s W) : VE U N s (fun i => c * V i + W i) := fun k hk => by
 show c * V (1 + s + k) + W (1 + s + k) = _
 rw [hV k hk, hW k hk, Rat.div_def, Rat.div_def, Rat.div_def, ← Rat.mul_assoc, ← su_mul, ← Rat.add_mul, ← su_add]
 congr 1
 exact su_congr (fun i _ => by grind)
theorem VE.zero : VE U N s (fun _ => 0) := fun k hk => by
 show (0 : Rat) = _
 rw [su_0 (fun i _ => by grind), Rat.div_def]; grind
theorem VE.sum {F : Nat → Nat → Rat} {a : Nat → Rat} (h : ∀ j, j < m → VE U N s (F j)) : VE U N s (fun i => su (fun j => a j * F j i) m) := by
 induction m with
 | zero => exact VE.zero
 | succ m ih =>
  have h1 := VE.lin (c := a m) (h m xq) (ih (fun j hj => h j xq))
  have e : (fun i => su (fun j => a j * F j i) (m + 1)) = fun i => a m * F m i + su (fun j => a j * F j i) m := funext fun i => by rw [su_s]; grind
  rw [e]; exact h1
theorem col_ve (hb : Back N s) (j : Nat) : VE U N s (fun i => (colQ U N s j).getD i 0) := VE.val hb (unQ_len _ _)
theorem col_init (h : i < 1 + s) : (colQ U N s j).getD i 0 = if i = j then 1 else 0 := by
 unfold colQ
 rw [VE.init (unQ_len _ _) h, unQ_at h]
theorem su_pick {f : Nat → Rat} (hk : k < m) : su (fun j => f j * (if k = j then 1 else 0)) m = f k := by
 induction m with
 | zero => omega
 | succ m ih =>
  rw [su_s]
  by_cases e : k = m
  ·subst e
   rw [if_pos rfl, su_0 (fun j hj => by rw [if_neg xq]; grind)]; grind
  rw [ih xq, if_neg e]; grind
theorem VE.made (hb : Back N s) (hV : VE U N s V) (hi : i < 1 + s + N.length) : V i = su (fun j => V j * (colQ U N s j).getD i 0) (1 + s) := by
 refine VE.uniq hb hV (VE.sum (a := V) (F := fun j i => (colQ U N s j).getD i 0) (fun j _ => col_ve hb j)) (fun i hi => ?_) i hi
 show V i = su (fun j => V j * (colQ U N s j).getD i 0) (1 + s)
 rw [su_congr (g := fun j => V j * (if i = j then 1 else 0)) (fun j hj => by rw [col_init hi]), su_pick hi]
structure Imp (U : Rat) (N : List (List TL)) (s : Nat) (nx : List Int) (V : Nat → Nat → Rat) : Prop where
 ve : ∀ t, VE U N s (V t)
 inp : ∀ t, V t 0 = if t = 0 then 1 else 0
 st0 : ∀ i, i < s → V 0 (1 + i) = 0
 st : ∀ t i, i < s → V (t + 1) (1 + i) = V t (nx.getD i 0).toNat
theorem net_run (hb : Back N s) (hnx : ∀ i, i < s → (nx.getD i 0).toNat < 1 + s + N.length) (hq : q.toNat < 1 + s + N.length) : ∃ V, Imp U N s nx V ∧ ∀ t, hC s (lnA U N s nx) (lnB U N s nx) (lnC U N s q) (lnD U N s q) t = V t q.toNat := by
 let x := lsX s (lnA U N s nx) (lnB U N s nx)
 let z : Nat → Rat := fun t => if t = 0 then 1 else 0
 let v0 : Nat → List Rat := fun t => (List.range (1 + s)).map fun i => if i = 0 then z t else x t (i - 1)
 let V : Nat → Nat → Rat := fun t i => (valQ U N (v0 t) N.length).getD i 0
 have hl : ∀ t, (v0 t).length = 1 + s := fun t => by simp [v0]
 have h0 : ∀ t i, i < 1 + s → V t i = if i = 0 then z t else x t (i - 1) := fun t i hi => by
  show (valQ U N (v0 t) N.length).getD i 0 = _
  rw [VE.init (hl t) hi]
  show ((List.range (1 + s)).map _).getD i 0 = _
  rw [List.getD_eq_getElem?_getD, List.getElem?_map, List.getElem?_range hi]; rfl
 have hve : ∀ t, VE U N s (V t) := fun t => VE.val hb (hl t)
 have hmade : ∀ t i, i < 1 + s + N.length → V t i = z t * (colQ U N s 0).getD i 0 + su (fun j => x t j * (colQ U N s (j + 1)).getD i 0) s := fun t i hi => by
  rw [VE.made hb (hve t) hi, Nat.add_comm 1 s, su_head, h0 t 0 xq, if_pos rfl]
  congr 1
  exact su_congr (fun j hj => by rw [h0 t (j + 1) xq, if_neg xq, Nat.add_sub_cancel])
 refine ⟨V, ⟨hve, fun t => ?_, fun i hi => ?_, fun t i hi => ?_⟩, fun t => ?_⟩
 ·rw [h0 t 0 xq, if_pos rfl]
 ·rw [h0 0 (1 + i) xq, if_neg xq]; rfl
 ·rw [h0 (t + 1) (1 + i) xq, if_neg xq, hmade t _ (hnx i hi), Nat.add_sub_cancel_left]
  show su (fun j => lnA U N s nx i j * x t j) s + lnB U N s nx i * z t = _
  rw [su_congr (g := fun j => x t j * (colQ U N s (j + 1)).getD (nx.getD i 0).toNat 0) (fun j hj => by unfold lnA; grind)]
  unfold lnB
  grind
 rw [hC_run, hmade t _ hq, su_congr (g := fun j => x t j * (colQ U N s (j + 1)).getD q.toNat 0) (fun j hj => by unfold lnC; show _ * x t j = _; grind)]
 unfold lnD
 show _ + _ * z t = _
 grind
theorem lnA_col (hb : Back N s) (j : Nat) : ∃ W : Nat → Rat, VE U N s W ∧ W 0 = 0 ∧ (∀ i, i < s → W (1 + i) = if i = j then 1 else 0) ∧ ∀ i, lnA U N s nx i j = W (nx.getD i 0).toNat :=
 ⟨fun i => (colQ U N s (j + 1)).getD i 0, col_ve hb _, (by show (colQ U N s (j + 1)).getD 0 0 = 0; rw [col_init xq, if_neg xq]), (fun i hi => by
  show (colQ U N s (j + 1)).getD (1 + i) 0 = _
  rw [col_init xq]
  by_cases e : i = j
  ·rw [if_pos e, if_pos xq]
  rw [if_neg e, if_neg xq]), fun i => rfl⟩
theorem fl_transfer {p b : Nat → Rat} (hb : Back N s) (hnx : ∀ i, i < s → (nx.getD i 0).toNat < 1 + s + N.length) (hq : q.toNat < 1 + s + N.length) (hp : ∀ k, k ≤ s → flC s (lnA U N s nx) k = p k) (hh : ∀ V, Imp U N s nx V → ∀ k, k ≤ s → cv p (fun t => V t q.toNat) k = b k) :
  ∀ k, k ≤ s → (if k = 0 then 0 else su (fun i => lnC U N s q i * su (fun j => flM s (lnA U N s nx) (k - 1) i j * lnB U N s nx j) s) s) + flC s (lnA U N s nx) k * lnD U N s q = b k := by
 intro k hk
 obtain ⟨V, hV, hO⟩ := net_run (U := U) (nx := nx) (q := q) hb hnx hq
 rw [fl_cv, show hC s (lnA U N s nx) (lnB U N s nx) (lnC U N s q) (lnD U N s q) = fun t => V t q.toNat from funext hO, ← hh V hV k hk]
 exact cv_congr (fun i hi => hp i xq) (fun i _ => rfl)
end
end Nt
namespace Nt
section
variable {n k i j m A B b D a : Nat} {F : Nat → Rat} {x y : Rat}
theorem wh_su (h : ∀ i, i < n → Wh (F i) A) (hn : n ≤ 2 ^ b) : Wh (su F n) (A + b) := by
 have key : ∀ m, m ≤ n → ∃ z : Int, su F m = (z : Rat) ∧ z.natAbs ≤ m * 2 ^ A := by
  intro m
  induction m with
  | zero => exact fun _ => ⟨0, rfl, by simp⟩
  | succ m ih =>
   intro hm
   obtain ⟨z, h1, h2⟩ := ih xq
   obtain ⟨y, h3, h4⟩ := h m xq
   refine ⟨z + y, by rw [su_s, h1, h3, Rat.intCast_add], ?_⟩
   have := Int.natAbs_add_le z y
   rw [Nat.add_mul]; omega
 obtain ⟨z, h1, h2⟩ := key n (Nat.le_refl _)
 refine ⟨z, h1, Nat.le_trans h2 ?_⟩
 rw [Nat.pow_add, Nat.mul_comm (2 ^ A)]
 exact Nat.mul_le_mul_right _ hn
def Wd (x : Rat) (D A : Nat) : Prop := Wh (x * ((D : Int) : Rat)) A
theorem Wd.more (h : Wd x D A) (k : A ≤ B) : Wd x D B := Wh.more h k
theorem Wd.zero (D A : Nat) : Wd 0 D A := by unfold Wd; rw [Rat.zero_mul]; exact Wh.zero _
theorem Wd.mul {E : Nat} (h : Wd x D A) (k : Wd y E B) : Wd (x * y) (D * E) (A + B) := by
 unfold Wd
 have e : x * y * (((D * E : Nat) : Int) : Rat) = (x * ((D : Int) : Rat)) * (y * ((E : Int) : Rat)) := by rw [Int.natCast_mul, Rat.intCast_mul]; grind
 rw [e]; exact Wh.mul h k
theorem Wd.over {E : Nat} (h : Wd x D A) (hE : E ≤ 2 ^ B) : Wd x (D * E) (A + B) := by
 unfold Wd
 have e : x * (((D * E : Nat) : Int) : Rat) = (x * ((D : Int) : Rat)) * ((E : Int) : Rat) := by rw [Int.natCast_mul, Rat.intCast_mul]; grind
 rw [e]; exact Wh.mul h ⟨(E : Int), rfl, by rw [Int.natAbs_natCast]; exact hE⟩
theorem Wd.su (h : ∀ i, i < n → Wd (F i) D A) (hn : n ≤ 2 ^ b) : Wd (su F n) D (A + b) := by
 unfold Wd
 rw [← su_mulr]
 exact wh_su h hn
theorem Wd.add (h : Wd x D A) (k : Wd y D A) : Wd (x + y) D (A + 1) := by
 unfold Wd
 rw [Rat.add_mul]; exact Wh.add h k
theorem Wd.int {z : Int} (hz : z.natAbs ≤ 2 ^ A) : Wd (z : Rat) 1 A := by
 unfold Wd
 exact ⟨z, by show (z : Rat) * ((1 : Int) : Rat) = z; have : ((1 : Int) : Rat) = 1 := rfl; rw [this, Rat.mul_one], hz⟩
theorem Wd.rs (h : Wd x D A) (h0 : 0 < D) (hD : D ≤ 2 ^ A) : rs x ≤ dg A := wh_rs h0 h hD
end
section
variable {D W : WL} {N : List (List TL)} {nx : List Int} {q : Int} {s j k i m : Nat}
theorem val_wd (hok : NetOK D W s N nx q) (j : Nat) : ∀ k, k ≤ N.length → ∀ i, Wd ((valQ (UQ W.f) N (unQ (1 + s) j) k).getD i 0) ((p2i W.f).toNat ^ k) (30 * k) := by
 have hp := zxp W.f
 have hw := hok.hw
 obtain ⟨w1, w2, w3, w4, w5, w6, w7, w8⟩ := id hw
 have hp24 := p2i_24 (n := W.f) xq
 have hpb : p2i (W.b - 1) ≤ 8388608 := zwe (b := 23) xq
 have hP : (p2i W.f).toNat ≤ 2 ^ 24 := by omega
 have hPU : UQ W.f = ((((p2i W.f).toNat : Nat) : Int) : Rat) := by rw [Int.toNat_of_nonneg xq]
 intro k
 induction k with
 | zero =>
  intro _ i
  show Wd ((unQ (1 + s) j).getD i 0) 1 0
  by_cases hi : i < 1 + s
  ·rw [unQ_at hi]
   split
   ·exact Wd.int (z := 1) yz
   exact Wd.zero _ _
  rw [List.getD_eq_getElem?_getD, List.getElem?_eq_none (by rw [unQ_len]; omega)]; exact Wd.zero _ _
 | succ k ih =>
  intro hk i
  have ih := ih xq
  have hl : (valQ (UQ W.f) N (unQ (1 + s) j) k).length = 1 + s + k := by rw [valQ_len, unQ_len]
  show Wd ((valQ (UQ W.f) N (unQ (1 + s) j) k ++ [sumQ (valQ (UQ W.f) N (unQ (1 + s) j) k) (N.getD k []) (N.getD k []).length / UQ W.f]).getD i 0) _ _
  rcases Nat.lt_trichotomy i (1 + s + k) with h | h | h
  ·rw [getD_appl xq, Nat.pow_succ]
   exact (Wd.over (ih i) hP).more xq
  ·rw [getD_appr xq, Nat.pow_succ]
   have hs : Wd (sumQ (valQ (UQ W.f) N (unQ (1 + s) j) k) (N.getD k []) (N.getD k []).length) ((p2i W.f).toNat ^ k) (24 + 30 * k + 6) := by
    obtain ⟨t1, t2⟩ := hok.ht k xq
    refine Wd.su (fun r hr => ?_) xq
    have h9 := (t2 r hr).2.2
    have hc : (((N.getD k []).getD r tl0).c).natAbs ≤ 2 ^ 24 := by
     rcases h9 with h9 | h9
     ·rw [h9]; omega
     have := fit_iff.1 h9; omega
    have := Wd.mul (Wd.int hc) (ih ((N.getD k []).getD r tl0).f.toNat)
    rw [Nat.one_mul] at this
    exact this
   have e : sumQ (valQ (UQ W.f) N (unQ (1 + s) j) k) (N.getD k []) (N.getD k []).length / UQ W.f * ((((p2i W.f).toNat ^ k * (p2i W.f).toNat : Nat) : Int) : Rat) = sumQ (valQ (UQ W.f) N (unQ (1 + s) j) k) (N.getD k []) (N.getD k []).length * ((((p2i W.f).toNat ^ k : Nat) : Int) : Rat) := by
    rw [Int.natCast_mul, Rat.intCast_mul, ← hPU]
    have h1 : UQ W.f * (UQ W.f)⁻¹ = 1 := Rat.mul_inv_cancel _ (fun e => by have h1 : p2i W.f = 0 := Rat.intCast_inj.1 e; omega)
    rw [Rat.div_def]; grind
   unfold Wd
   rw [e]
   exact Wh.more hs xq
  rw [List.getD_eq_getElem?_getD, List.getElem?_eq_none (by rw [List.length_append, hl]; simp; omega)]; exact Wd.zero _ _
theorem p_pow (hok : NetOK D W s N nx q) (k : Nat) : 0 < (p2i W.f).toNat ^ k ∧ (p2i W.f).toNat ^ k ≤ 2 ^ (30 * k) := by
 have hp := zxp W.f
 obtain ⟨w1, w2, w3, w4, w5, w6, w7, w8⟩ := id hok.hw
 have hp24 := p2i_24 (n := W.f) xq
 refine ⟨Nat.pow_pos xq, ?_⟩
 have h := Nat.pow_le_pow_left (show (p2i W.f).toNat ≤ 2 ^ 30 by omega) k
 rw [← Nat.pow_mul] at h
 exact h
theorem val_rs (hok : NetOK D W s N nx q) (j : Nat) {k : Nat} (hk : k ≤ N.length) (i : Nat) : rs ((valQ (UQ W.f) N (unQ (1 + s) j) k).getD i 0) ≤ 100 := by
 have h1 := p_pow hok k
 have h2 := (val_wd hok j k hk i).rs h1.1 h1.2
 have h3 := hok.hn
 unfold dg at h2; omega
theorem sum_rs (hok : NetOK D W s N nx q) (j : Nat) {k : Nat} (hk : k < N.length) {i : Nat} (hi : i ≤ (N.getD k []).length) : rs (sumQ (valQ (UQ W.f) N (unQ (1 + s) j) k) (N.getD k []) i) ≤ 100 := by
 obtain ⟨w1, w2, w3, w4, w5, w6, w7, w8⟩ := id hok.hw
 have hp24 := p2i_24 (n := W.f) xq
 have hpb : p2i (W.b - 1) ≤ 8388608 := zwe (b := 23) xq
 have hp := zxp W.f
 obtain ⟨t1, t2⟩ := hok.ht k hk
 have hs : Wd (sumQ (valQ (UQ W.f) N (unQ (1 + s) j) k) (N.getD k []) i) ((p2i W.f).toNat ^ k) (24 + 30 * k + 6) := by
  refine Wd.su (fun r hr => ?_) xq
  have h9 := (t2 r xq).2.2
  have hc : (((N.getD k []).getD r tl0).c).natAbs ≤ 2 ^ 24 := by
   rcases h9 with h9 | h9
   ·rw [h9]; omega
   have := fit_iff.1 h9; omega
  have := Wd.mul (Wd.int hc) (val_wd hok j k xq ((N.getD k []).getD r tl0).f.toNat)
  rw [Nat.one_mul] at this
  exact this
 have h1 := p_pow hok k
 have h2 := hs.rs h1.1 (Nat.le_trans h1.2 (Nat.pow_le_pow_right xq xq))
 have h3 := hok.hn
 unfold dg at h2; omega
end
structure FlB (n : Nat) (A : Nat → Nat → Rat) (B C : Nat → Rat) (D a : Nat) : Prop where
 hn : n ≤ 16
 h0 : 0 < D
 hD : D ≤ 2 ^ a
 hA : ∀ i j, Wd (A i j) D a
 hB : ∀ i, Wd (B i) D a
 hC : ∀ i, Wd (C i) D a
def fac : Nat → Nat
 | 0 => 1
 | k + 1 => fac k * (k + 1)
section
variable {n k i j m D a : Nat} {A : Nat → Nat → Rat} {B C : Nat → Rat}
def flE (D k : Nat) : Nat := D ^ k * fac k
theorem flE_s (D k : Nat) : flE D (k + 1) = (D * flE D k) * (k + 1) := by
 show D ^ (k + 1) * (fac k * (k + 1)) = D * (D ^ k * fac k) * (k + 1)
 rw [Nat.pow_succ, Nat.mul_comm (D ^ k) D, Nat.mul_assoc, Nat.mul_assoc, Nat.mul_assoc]
theorem FlB.e (h : FlB n A B C D a) : ∀ k, k ≤ 16 → 0 < flE D k ∧ flE D k ≤ 2 ^ (k * (a + 9)) := by
 intro k
 induction k with
 | zero => exact fun _ => ⟨(by show 0 < D ^ 0 * 1; rw [Nat.pow_zero]; decide), (by show D ^ 0 * 1 ≤ _; rw [Nat.pow_zero, Nat.zero_mul]; decide)⟩
 | succ k ih =>
  intro hk
  obtain ⟨i1, i2⟩ := ih xq
  rw [flE_s]
  refine ⟨Nat.mul_pos (Nat.mul_pos h.h0 i1) xq, ?_⟩
  have h1 := Nat.mul_le_mul (Nat.mul_le_mul h.hD i2) (show k + 1 ≤ 2 ^ 9 by omega)
  rw [← Nat.pow_add, ← Nat.pow_add] at h1
  exact Nat.le_trans h1 (Nat.pow_le_pow_right xq (by rw [Nat.add_mul]; omega))
theorem FlB.sum (h : FlB n A B C D a) {F G : Nat → Rat} {E b : Nat} (hF : ∀ l, Wd (F l) D a) (hG : ∀ l, l < n → Wd (G l) E b) (hm : m ≤ n) : Wd (su (fun l => F l * G l) m) (D * E) (a + b + 4) :=
 Wd.su (fun l hl => Wd.mul (hF l) (hG l xq)) (by have := h.hn; omega)
theorem FlB.mw (h : FlB n A B C D a) : ∀ k, k ≤ 16 → ∀ i j, i < n → j < n → Wd (flM n A k i j) (flE D k) (k * (a + 9)) := by
 intro k
 induction k with
 | zero =>
  intro _ i j _ _
  show Wd (if i = j then 1 else 0) (1 * 1) _
  split
  ·exact (Wd.int (z := 1) (by decide : (1 : Int).natAbs ≤ 2 ^ 0)).more xq
  exact Wd.zero _ _
 | succ k ih =>
  intro hk i j hi hj
  have ih := ih xq
  have hT : ∀ i j, j < n → Wd (mM n A (flM n A k) i j) (D * flE D k) (a + k * (a + 9) + 4) := fun i j hj => h.sum (h.hA i) (fun l hl => ih l j hl hj) (Nat.le_refl _)
  rw [flE_s]
  have h1 : Wd (mM n A (flM n A k) i j) (D * flE D k * (k + 1)) (a + k * (a + 9) + 8) := (Wd.over (hT i j hj) (show k + 1 ≤ 2 ^ 4 by omega)).more xq
  have h2 : Wd (if i = j then flN n (mM n A (flM n A k)) k else 0) (D * flE D k * (k + 1)) (a + k * (a + 9) + 8) := by
   split
   ·have ht : Wd (mT n (mM n A (flM n A k))) (D * flE D k) (a + k * (a + 9) + 4 + 4) := Wd.su (fun l hl => hT l l hl) (by have := h.hn; omega)
    obtain ⟨z, hz, hb⟩ := ht
    refine ⟨-z, ?_, by rw [Int.natAbs_neg]; exact Nat.le_trans hb (Nat.pow_le_pow_right xq xq)⟩
    have e1 : mT n (mM n A (flM n A k)) * (((D * flE D k : Nat) : Int) : Rat) = (z : Rat) := hz
    unfold flN
    have e5 : ((-z : Int) : Rat) = -(z : Rat) := Rat.intCast_neg z
    rw [Int.natCast_mul (D * flE D k), Rat.intCast_mul, e5, ← e1, Rat.div_def]
    have h3 : ((-1 : Int) : Rat) = -1 := rfl
    have h4 := Rat.mul_inv_cancel _ (castS_ne k)
    rw [h3]
    generalize (((k + 1 : Nat) : Int) : Rat) = y at *
    grind
   exact Wd.zero _ _
  exact (Wd.add h1 h2).more (by rw [Nat.add_mul]; omega)
theorem FlB.rs (h : FlB n A B C D a) (ha : a ≤ 1920) (hk : k ≤ n) (hm : m ≤ n) (hi : i < n) (hj : j < n) :
  Nt.rs (flM n A k i j) ≤ 2000 ∧ Nt.rs (su (fun l => A i l * flM n A k l j) m) ≤ 2000 ∧ Nt.rs (su (fun l => flM n A k i l * B l) m) ≤ 2000 ∧ Nt.rs (su (fun l => C l * su (fun r => flM n A k l r * B r) n) m) ≤ 2000 ∧ Nt.rs (su (fun l => mM n A (flM n A k) l l) m) ≤ 2000 := by
 have hn := h.hn
 have hk16 : k ≤ 16 := by omega
 obtain ⟨e1, e2⟩ := h.e k hk16
 have hM := h.mw k hk16
 have hkb : k * (a + 9) ≤ 16 * 1929 := Nat.mul_le_mul xq xq
 have d1 : 0 < D * flE D k := Nat.mul_pos h.h0 e1
 have d2 : D * flE D k ≤ 2 ^ (a + k * (a + 9) + 4) := by
  have := Nat.mul_le_mul h.hD e2
  rw [← Nat.pow_add] at this
  exact Nat.le_trans this (Nat.pow_le_pow_right xq xq)
 have dd : ∀ {b : Nat}, b ≤ 40000 → dg b ≤ 2000 := fun hb => by unfold dg; omega
 have hMB : ∀ i, i < n → ∀ m, m ≤ n → Wd (su (fun l => flM n A k i l * B l) m) (D * flE D k) (a + k * (a + 9) + 4) := fun i hi m hm => by
  rw [su_congr (g := fun l => B l * flM n A k i l) (fun l _ => Rat.mul_comm _ _)]
  exact h.sum h.hB (fun l hl => hM i l hi hl) hm
 refine ⟨Nat.le_trans ((hM i j hi hj).rs e1 e2) (dd xq), ?_, ?_, ?_, ?_⟩
 ·exact Nat.le_trans ((h.sum (h.hA i) (fun l hl => hM l j hl hj) hm).rs d1 d2) (dd xq)
 ·exact Nat.le_trans ((hMB i hi m hm).rs d1 d2) (dd xq)
 ·have h1 : Wd (su (fun l => C l * su (fun r => flM n A k l r * B r) n) m) (D * (D * flE D k)) (a + (a + k * (a + 9) + 4) + 4) := h.sum h.hC (fun l hl => hMB l hl n (Nat.le_refl _)) hm
  refine Nat.le_trans (h1.rs (Nat.mul_pos h.h0 d1) ?_) (dd xq)
  have := Nat.mul_le_mul h.hD d2
  rw [← Nat.pow_add] at this
  exact Nat.le_trans this (Nat.pow_le_pow_right xq xq)
 have hT : ∀ l, l < n → Wd (mM n A (flM n A k) l l) (D * flE D k) (a + k * (a + 9) + 4) := fun l hl => h.sum (h.hA l) (fun r hr => hM r l hr hl) (Nat.le_refl _)
 have h1 : Wd (su (fun l => mM n A (flM n A k) l l) m) (D * flE D k) (a + k * (a + 9) + 4 + 4) := Wd.su (fun l hl => hT l xq) xq
 exact Nat.le_trans (h1.rs d1 (Nat.le_trans d2 (Nat.pow_le_pow_right xq xq))) (dd xq)
theorem FlB.c_rs (h : FlB n A B C D a) (ha : a ≤ 1920) (hk : k < n) : Nt.rs (flC n A (k + 1)) ≤ 2000 := by
 have hn := h.hn
 obtain ⟨e1, e2⟩ := h.e (k + 1) xq
 have hkb : (k + 1) * (a + 9) ≤ 16 * 1929 := Nat.mul_le_mul xq xq
 obtain ⟨f1, f2⟩ := h.e k xq
 have hT : ∀ l, l < n → Wd (mM n A (flM n A k) l l) (D * flE D k) (a + k * (a + 9) + 4) := fun l hl => h.sum (h.hA l) (fun r hr => h.mw k xq r l hr hl) (Nat.le_refl _)
 have ht : Wd (mT n (mM n A (flM n A k))) (D * flE D k) (a + k * (a + 9) + 4 + 4) := Wd.su (fun l hl => hT l hl) xq
 have hc : Wd (flC n A (k + 1)) (flE D (k + 1)) ((k + 1) * (a + 9)) := by
  rw [flE_s]
  obtain ⟨z, hz, hb⟩ := ht
  refine ⟨-z, ?_, by rw [Int.natAbs_neg]; exact Nat.le_trans hb (Nat.pow_le_pow_right xq (by rw [Nat.add_mul]; omega))⟩
  have e1 : mT n (mM n A (flM n A k)) * (((D * flE D k : Nat) : Int) : Rat) = (z : Rat) := hz
  show flN n (mM n A (flM n A k)) k * _ = _
  unfold flN
  have e5 : ((-z : Int) : Rat) = -(z : Rat) := Rat.intCast_neg z
  rw [Int.natCast_mul (D * flE D k), Rat.intCast_mul, e5, ← e1, Rat.div_def]
  have h3 : ((-1 : Int) : Rat) = -1 := rfl
  have h4 := Rat.mul_inv_cancel _ (castS_ne k)
  rw [h3]
  generalize (((k + 1 : Nat) : Int) : Rat) = y at *
  grind
 refine Nat.le_trans (hc.rs e1 e2) ?_
 unfold dg; omega
end
end Nt
namespace Nt
def dotQ (l m : List Rat) (k : Nat) : Rat := su (fun i => l.getD i 0 * m.getD i 0) k
theorem dotQ_s {l m : List Rat} {k : Nat} : dotQ l m (k + 1) = dotQ l m k + l.getD k 0 * m.getD k 0 := rfl
theorem dotQ_skip {l m : List Rat} {k : Nat} (h : l.getD k 0 = 0 ∨ m.getD k 0 = 0) : dotQ l m k = dotQ l m (k + 1) := by
 rw [dotQ_s]
 rcases h with h | h <;> rw [h] <;> grind
theorem sgQ_0 {x : Rat} (h : (sgQ x != 0) = false) : x = 0 := by
 have h2 : (sgQ x == 0) = true := by simpa using h
 rw [sgQ_eq] at h2
 exact of_decide_eq_true h2
theorem rep_at {n j : Nat} : (List.replicate n (0 : Rat)).getD j 0 = 0 := by rw [List.getD_eq_getElem?_getD, List.getElem?_replicate]; split <;> rfl
end Nt
theorem k_nZeros {u w : World} {n : Nat} (d : Dat u w) (hn : n ≤ 100000) : Calls Tryz.prog 163 #[.int .i64 (n : Int)] w (Post u w fun v u' => ∃ (b : Nat) (L : List RL), v = .slice (some ⟨b, 0, none⟩) n n ∧ u.heap.size ≤ b ∧ u'.heap[b]? = some (.cells (rcs L).toArray 32 (0, 0)) ∧ L.length = n ∧ RatsN u' L (List.replicate n 0) 2) := by
 refine zzm (args := [.int .i64 n]) Tryz.func163 rfl Tryz.ntmps163 (rs := [.tmp 2]) Tryz.results163 (le_b rfl) (le_b rfl) d ?_
 refine sq9 (zza 2 (.v (.slice none 0 0)) (zzb (sq9 (zza 5 (zI n) (sy_make 6 (T := 26) (E := 32) (z := .agg #[.bool false, .slice none 0 0, .slice none 0 0]) (size := 3) (bytes := 56) n (rcs (List.replicate n rl0)) xj xj rfl rfl xq yv (made_rcs _) ?_)))))
 refine zza 3 (.slc 6 0 n n) (zzc 18 [(3, .slc 6 0 n n)] [(6, ⟨32, rcs (List.replicate n rl0)⟩)] (zzd (sq9 (zza 7 (.slc 6 0 n n) (zza 8 (zI n) (zza 9 (zI 0) (zzc 18 [(3, .slc 6 0 n n), (8, zI n), (9, zI 0)] [(6, ⟨32, rcs (List.replicate n rl0)⟩)] (zzt (zyn (I := fun aj S' u' => ∃ (i : Nat) (L : List RL), (aj = n - i) ∧ (i ≤ n) ∧ (L.length = n) ∧ (S' = St.of 18 [(3, .slc 6 0 n n), (8, zI n), (9, zI i)] [(6, ⟨32, rcs L⟩)]) ∧ (Ext u u') ∧ (RatsN u' (L.take i) ((List.replicate n (0 : Rat)).take i) 2)) (fun m S u1 u2 e h => by obtain ⟨i, L, hm, p0, p1, hS, hE, f0⟩ := h; exact ⟨i, L, hm, p0, p1, hS, hE.trans e, f0.ext e⟩) _ yw ⟨0, List.replicate n rl0, rfl, by omega, by simp, rfl, (Ext.refl _), RatsN.tnil _ _ _ _⟩ ?_)))))))))
 rintro aj _ u11 ⟨i, L, ao, hi, hL, rfl, aq, hR⟩
 refine sq9 (zza 10 (zB (decide ((i : Int) < (n : Int)))) (zzb (zzd (zzu (b := decide ((i : Int) < (n : Int))) xj (fun aa => ?_) (fun aa => ?_)))))
 ·have qhb12 := of_decide_eq_true aa
  refine zzs (zzp ?_)
  refine zzd (zzt (sq9 (zza 11 (zI i) (zza 4 (zI i) (zzb (zzf (zza 12 (.slc 6 0 n n) (zza 13 (zI i) (zzg 14 109 _ fun _ _ ag al => Post.mono (k_ratOf al (z := 0) xq xq) ?_)))))))))
  rintro _ u16 ak ⟨ae, rfl, ap⟩
  refine zyw 15 (off' := i * 3) (n := n) (off := 0) (sz := 3) (i := (i : Int)) sl26 xq xq xq ?_
  refine zyv (V := ⟨32, rcs L⟩) (off := i * 3) (rcs ((L).set i ae)) ty32 zv (zyx (r := ae) (i := i) yy rfl) ?_
  refine zzx ?_
  refine zzp (zzf (zyq 16 (x := zI (IntKind.i64.wrap ((i : Int) + 1))) (zI (i + 1 : Nat)) (eqI yq) (zza 9 (zI (i + 1 : Nat)) (zzx ?_))))
  have af : i < (List.replicate n (0 : Rat)).length := by rw [List.length_replicate]; omega
  refine ⟨_, ?_, _, by exact zzv _ _ _, i + 1, (L).set i ae, rfl, by omega, by simpa using hL, rfl, (aq.t (ag.t ak.ext)), RatsN.tstep (hR.ext (ag.t ak.ext)) xq af (RatN.more (K := 2) ap xq) (by rw [Nt.rep_at]; rfl)⟩
  omega
 have qhb12 := of_decide_eq_false aa
 refine zyc (zzp (zzd (zyp (r := 3) (t := 6) [3, 6] xw xj zk zk xj (fun ab an ai ad ac => ?_))))
 have am : PolN an ⟨some ⟨ab, 0, none⟩, n, n⟩ (List.replicate n (0 : Rat)) 2 := pol_data1 ac yv (RatsN.tdone (hR.ext ai) xq (by rw [List.length_replicate]; omega)) xq
 refine zzf (zza 17 (.v (.slice (some ⟨ab, 0, none⟩) n n)) (zza 2 (.v (.slice (some ⟨ab, 0, none⟩) n n)) (zzb (zzo (ret0 [.slice (some ⟨ab, 0, none⟩) n n] ⟨zzq, trivial⟩ fun u26 ah => ?_)))))
 exact ⟨ab, L, rfl, ad, (ah.cells ac), xq, (RatsN.tdone (hR.ext (ai.trans ah)) xq (by rw [List.length_replicate]; omega))⟩
set_option maxHeartbeats 1000000 in
theorem k_nProduct {u w : World} {x y : Sl} {l m : List Rat} {K M : Nat} (d : Dat u w) (hx : PolN u x l K) (hy : PolN u y m K) (hlm : l.length = m.length) (hl : l.length ≤ 1000) (hK : K ≤ 20000000) (h2 : 2 ≤ M) (hM9 : M ≤ 20000000) (hM : ∀ k, k ≤ l.length → Nt.rs (Nt.dotQ l m k) ≤ M) : Calls Tryz.prog 110 #[x.v, y.v] w (Post u w fun v u' => ∃ r : RL, v = r.v ∧ RatN u' r (Nt.dotQ l m l.length) M) := by
 have hlx := hx.len
 have hly := hy.len
 refine zzm (args := [x.v, y.v]) Tryz.func110 rfl Tryz.ntmps110 (rs := [.cell 4 32]) Tryz.results110 (le_b rfl) (le_b rfl) d ?_
 refine sq9 (zzk 4 ⟨32, zw3⟩ (zzb (sq9 (zzg 8 109 _ fun _ _ ah aF => Post.mono (k_ratOf aF (z := 0) xq xq) ?_))))
 rintro _ aI ag ⟨ax, rfl, aG⟩
 refine zzk 5 ⟨32, zw3⟩ (zzj ⟨32, ax.cs⟩ ty32 ?_)
 refine zzb (zzd (sq9 (zza 9 (.v (x.v)) (zza 10 (zI x.n) (zza 11 (zI 0) (zzb (zzt (zyn (I := fun aA S' u' => ∃ (i : Nat) (r : RL), (aA = x.n - i) ∧ (i ≤ x.n) ∧ (S' = St.of 37 [(1, .v (y.v)), (4, .adr 4 0), (5, .adr 5 0), (9, .v (x.v)), (10, zI x.n), (11, zI i)] [(4, ⟨32, zw3⟩), (5, ⟨32, r.cs⟩)]) ∧ (Ext aI u') ∧ (RatN u' r (Nt.dotQ l m i) M)) (fun m S u1 u2 e h => by obtain ⟨i, r, hm, p0, hS, hE, f0⟩ := h; exact ⟨i, r, hm, p0, hS, hE.trans e, f0.ext e⟩) _ yw ⟨0, ax, rfl, Nat.zero_le _, rfl, (Ext.refl _), (show RatN _ _ (Nt.dotQ l m 0) M from RatN.more (K := 2) aG xq)⟩ ?_))))))))
 rintro aA _ u17 ⟨i, r, aO, hi, rfl, ac, hr⟩
 refine sq9 (zza 12 (zB (decide ((i : Int) < (x.n : Int)))) (zzb (zzd (zzu (b := decide ((i : Int) < (x.n : Int))) xj (fun af => ?_) (fun af => ?_)))))
 ·have qhb18 := of_decide_eq_true af
  refine zzs (zzp ?_)
  refine zzd (zzt (sq9 (zza 13 (zI i) ?_)))
  have hl19 := (hx.ext (ah.t (ag.t ac))).len
  obtain ⟨ak, b19, az, ap, am, ai⟩ := pol_atN (hx.ext (ah.t (ag.t ac))) (i := i) xq
  refine zya 14 (az + i * 3) (n := x.n) (off := az) (sz := 3) (i := (i : Int)) xq ap xq xq sl26 (zym 15 ak.cs am ty32 (zzk 7 ⟨32, zw3⟩ (zza 6 (zI i) (zzj ⟨32, ak.cs⟩ ty32 ?_))))
  refine zzb (sq9 (zzi 16 (.v (ak.v)) ty32 zze (zzg 17 66 _ fun _ _ aa aN => Post.mono (k_ratSign aN (ai.ext aa).raw) ?_)))
  rintro _ u21 ab rfl
  refine zza 18 (zB ((Nt.sgQ (l.getD i 0)) != 0)) ?_
  rcases Bool.eq_false_or_eq_true ((Nt.sgQ (l.getD i 0)) != 0) with hs24 | hs24
  ·refine zyq 19 (x := zB ((Nt.sgQ (l.getD i 0)) != 0)) (zB true) (by rw [hs24]) (zza 20 (.v (y.v)) ?_ (hw := w1 3 true 19))
   refine zza 21 (zI i) ?_ (hw := w1 3 true 19)
   have hl25 := (hy.ext (ah.t (ag.t (ac.t (aa.t ab.ext))))).len
   obtain ⟨aT, b25, aC, aq, ao, au⟩ := pol_atN (hy.ext (ah.t (ag.t (ac.t (aa.t ab.ext))))) (i := i) xq
   refine zya 22 (aC + i * 3) (n := y.n) (off := aC) (sz := 3) (i := (i : Int)) xq aq xq xq sl26 ?_ (hw := w1 3 true 19)
   refine zym 23 aT.cs ao ty32 ?_ (hw := w1 3 true 19)
   refine zzg 24 66 _ (fun _ _ ad aK => Post.mono (k_ratSign aK (au.ext ad).raw) ?_) (hw := w1 3 true 19)
   rintro _ u27 ae rfl
   refine zza 25 (zB ((Nt.sgQ (m.getD i 0)) != 0)) ?_ (hw := w1 3 true 19)
   refine zza 26 (zB ((Nt.sgQ (m.getD i 0)) != 0)) (zzb (zzu (b := (Nt.sgQ (m.getD i 0)) != 0) xj (fun aj => ?_) (fun aj => ?_)))
   ·refine zzz [0, 0, 0, 0, 12, 28, 62, 127, 255] [(0, []), (1, []), (2, []), (3, []), (4, []), (5, []), (6, []), (7, []), (8, [])] xj xj (zzi 27 (.v (r.v)) ty32 zze (zzi 28 (.v (ak.v)) ty32 zze (zza 29 (.v (y.v)) (zza 30 (zI i) ?_))))
    have hl31 := (hy.ext (ah.t (ag.t (ac.t (aa.t (ab.t (ad.t ae.ext))))))).len
    obtain ⟨aH, b31, ay, aw, ar, an⟩ := pol_atN (hy.ext (ah.t (ag.t (ac.t (aa.t (ab.t (ad.t ae.ext))))))) (i := i) xq
    refine zya 31 (ay + i * 3) (n := y.n) (off := ay) (sz := 3) (i := (i : Int)) xq aw xq xq sl26 (zym 32 aH.cs ar ty32 (zzg 33 113 _ fun _ _ al aQ => Post.mono (k_ratMul aQ (ai.ext (aa.t (ab.t (ad.t (ae.t al))))).raw (an.ext al).raw xq xq) ?_))
    rintro _ u35 aB ⟨r33, rfl, aJ⟩
    refine zzg 34 112 _ fun _ _ av aL => Post.mono (k_ratAdd aL (hr.ext (aa.t (ab.t (ad.t (ae.t (al.t (aB.t av))))))).raw (aJ.ext av).raw xq xq) ?_
    rintro _ u41 aR ⟨aD, rfl, aM⟩
    refine zzj ⟨32, aD.cs⟩ ty32 ?_
    refine zzx ?_
    refine zzp (zzf (zyq 35 (x := zI (IntKind.i64.wrap ((i : Int) + 1))) (zI (i + 1 : Nat)) (eqI yq) (zza 11 (zI (i + 1 : Nat)) (zzx ?_))))
    refine ⟨_, ?_, _, by exact zzv _ _ _, i + 1, aD, rfl, by omega, rfl, (ac.t (aa.t (ab.t (ad.t (ae.t (al.t (aB.t (av.t aR.ext)))))))), (show RatN _ _ (Nt.dotQ l m (i + 1)) M from RatN.fit (L := M) aM (hM (i + 1) xq))⟩
    omega
   refine zzs (zzp ?_)
   refine zzf (zyq 35 (x := zI (IntKind.i64.wrap ((i : Int) + 1))) (zI (i + 1 : Nat)) (eqI yq) (zza 11 (zI (i + 1 : Nat)) (zzx ?_)))
   refine ⟨_, ?_, _, by exact zzv _ _ _, i + 1, r, rfl, by omega, rfl, (ac.t (aa.t (ab.t (ad.t ae.ext)))), (by rw [← Nt.dotQ_skip (.inr (Nt.sgQ_0 aj))]; exact (hr.ext (aa.t (ab.t (ad.t ae.ext)))))⟩
   omega
  refine zyq 19 (x := zB ((Nt.sgQ (l.getD i 0)) != 0)) (zB false) (by rw [hs24]) (zzn 20 (uw 3 true false 19) (zzn 21 (uw 3 true false 19) (zzn 22 (uw 3 true false 19) (zzn 23 (uw 3 true false 19) (zzn 24 (uw 3 true false 19) (zzn 25 (uw 3 true false 19) (zza 26 (zB false) (zzb (zys xj (zzs (zzp ?_)))))))))))
  refine zzf (zyq 35 (x := zI (IntKind.i64.wrap ((i : Int) + 1))) (zI (i + 1 : Nat)) (eqI yq) (zza 11 (zI (i + 1 : Nat)) (zzx ?_)))
  refine ⟨_, ?_, _, by exact zzv _ _ _, i + 1, r, rfl, by omega, rfl, (ac.t (aa.t ab.ext)), (by rw [← Nt.dotQ_skip (.inl (Nt.sgQ_0 hs24))]; exact (hr.ext (aa.t ab.ext)))⟩
  omega
 have qhb18 := of_decide_eq_false af
 refine zyc (zzp (sq9 (zzi 36 (.v (r.v)) ty32 zze (zzj ⟨32, r.cs⟩ ty32 ?_))))
 refine zzb (zzo (ret0 [r.v] ⟨zzr ty32 zze, trivial⟩ fun u44 aP => ?_))
 have aE : i = l.length := by omega
 rw [← aE]
 exact ⟨r, rfl, (hr.ext aP)⟩
section
variable {P : Program} {ops : Array Oper} {w0 : Base} {u0 : World} {S : St} {u w : World} {B : Tmp → Nat} {a : Act} {o : Oper} {p : List Tmp} {rest : List (Oper × List Tmp)} {K : St → World → Prop}
theorem Rep.pubX (h : Rep w0 u0 S B a w u) {r t : Tmp} {x : SV} {V : Vr} {pubs : List Tmp} (hno : NoAt S pubs) (ht : t ∈ pubs) (hall : ∀ s ∈ pubs, ∀ V', S.var s = some V' → s = t) (hr : S.reg r = some x) (hv : S.var t = some V) (htn : t < S.n) :
  Rep w0 u0 ((S.unpub pubs).set r (.v (x.conc B))) B a w (pubW u w [B t]) := by
 refine ⟨⟨fun s y hx => ?_, h.regs.size⟩, ⟨fun s y t' hx ht' => ?_⟩, h.defers, fun s V' hV => ?_, fun s s' V1 V2 h1 h2 e => ?_, pubW_dat h.dat, h.base, pubW_grow h.grow (fun b hb => ?_), h.bel⟩
 ·by_cases e : s = r
  ·subst e
   simp only [St.set, zxc] at hx
   injection hx with hx
   subst hx
   exact h.regs.reg s x hr
  simp only [St.set, upd_ne _ _ e] at hx
  exact h.regs.reg s y (zwf hx).1
 ·by_cases e : s = r
  ·subst e
   simp only [St.set, zxc] at hx
   injection hx with hx
   subst hx; cases ht'
  simp only [St.set, upd_ne _ _ e] at hx
  obtain ⟨k1, k2⟩ := zwf hx
  obtain ⟨V', hV'⟩ := h.wf.reg s y t' k1 ht'
  exact ⟨V', by show (S.unpub pubs).var t' = _; rw [unpub_var (fun hm => k2 (hno s y t' k1 ht' hm))]; exact hV'⟩
 ·obtain ⟨k1, k2⟩ := zxo hV
  obtain ⟨g1, g2, g3⟩ := h.var s V' k1
  refine ⟨g1, ?_, g3⟩
  rw [pubW_out]
  ·exact g2
  intro hm
  simp at hm
  exact k2 (h.inj s t V' V k1 hv hm ▸ ht)
 ·exact h.inj s s' V1 V2 (zxo h1).1 (zxo h2).1 e
 simp at hb; subst hb; exact (h.var t V hv).2.2.1 htn
theorem sy_pubM {r t : Tmp} {off n c : Nat} {cs ds : List Value} {V : Vr} (pubs : List Tmp) (hK : Mono K) (hno : NoAt S pubs) (hall : (pubs.all fun s => Nat.beq s t || (S.var s).isNone) = true) (hr : S.reg r = some (.agm cs t off n c ds)) (hv : S.var t = some V) (ht : pubs.contains t = true)
  (k : ∀ b u1, Ext u u1 → u0.heap.size ≤ b → u1.heap[b]? = some (.cells V.cs.toArray V.ty (0, 0)) → sym P ops w0 u0 true ((o, p) :: rest) ((S.unpub pubs).set r (.v (.agg (cs ++ Value.slice (some ⟨b, off, none⟩) n c :: ds).toArray))) u1 K)
  (hlt : Nat.blt t S.n = true := by kernel_rfl) (hw : Wants ops o S := by exact zwg xj) : sym P ops w0 u0 true ((o, p) :: rest) S u K := by
 refine .inr (.inr (.inl ⟨.inl rfl, fun B a w u' he hrep => ?_⟩))
 have hm := List.contains_iff_mem.1 ht
 obtain ⟨g1, g2, g3⟩ := hrep.var t V hv
 have hx : Ext u' (pubW u' w [B t]) := pubW_ext hrep.dat
 have hrep2 := hrep.pubX (x := .agm cs t off n c ds) hno hm (fun s hs V' hV' => by
  have := List.all_eq_true.1 hall s hs
  simp only [Bool.or_eq_true, Option.isNone_iff_eq_none] at this
  rcases this with h | h
  ·exact Nat.eq_of_beq_eq_true h
  rw [hV'] at h; cases h) hr hv (Nat.le_of_ble_eq_true hlt)
 have h := k (B t) (pubW u' w [B t]) (he.trans hx) (g3.1 (Nat.le_of_ble_eq_true hlt)) (by rw [pubW_in zz (zxa g2) hrep.dat.size]; exact g1)
 have hs := one_sound (Q := fun _ _ _ => False) (zwd hK) h (Ext.refl _) hrep2
 have hwt : Want ops o a true := hw B a hrep.regs
 refine ⟨hwt, ?_⟩
 dsimp only at hs
 rw [if_pos (show Region.wanted o (yielded ops a.tmps) = true from hwt)] at hs
 exact Oper.wp_mono (fun a' w' ⟨S', B', u3, k1, k2, k3⟩ => ⟨S', B', u3, u3, k1, (fun h => by cases h), (fun h => by cases h), Ext.refl _, k3⟩) hs
end
end Go.Proofs.YtgmkhhfbckjaeaaGreat
