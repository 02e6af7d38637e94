/- Parts of the proof: contracts of functions, each walked once, and plain laws. -/
import Derived.Test.YtgmkhhfbckjaeaaGreatTwvD
set_option linter.unusedVariables false
namespace Go.Proofs.YtgmkhhfbckjaeaaGreat
open Go.RowKit
theorem k_withinB {u w : World} {n m : Int} (d : Dat u w) (hm : 1 ≤ m) (hm2 : m ≤ 4611686018427387904) (hn0 : -9223372036854775808 ≤ n) (hn1 : n ≤ 9223372036854775807) : Calls Tryz.prog 100 #[.int .i64 n, .int .i64 m] w (Post u w fun v _ => ∃ z : Int, v = .int .i64 z ∧ 0 ≤ z ∧ z < m) :=
 Post.mono (k_within d hm hm2 hn0 hn1) fun v u' _ h => ⟨n % m, h, Int.emod_nonneg _ xq, Int.emod_lt_of_pos _ xq⟩
set_option maxHeartbeats 1000000 in
theorem k_word {u w : World} {k : Int} (d : Dat u w) (hk0 : -9223372036854775808 ≤ k) (hk1 : k ≤ 9223372036854775807) : Calls Tryz.prog 99 #[.int .i64 k, .int .i64 6, .int .i64 9, .int .i64 1] w (Post u w fun v _ => ∃ W : WL, v = W.v ∧ CoefOK W) := by
 refine zzm (args := [.int .i64 k, .int .i64 6, .int .i64 9, .int .i64 1]) Tryz.func99 rfl Tryz.ntmps99 (rs := [.cell 8 66]) Tryz.results99 (le_b rfl) (le_b rfl) d ?_
 refine sq9 (zzk 8 ⟨66, [.int .i64 0, .int .i64 0, .int .i64 0, .int .i64 0]⟩ (zzb (sq9 (zza 10 (zI k) (zzg 11 100 _ fun _ _ _ ab => Post.mono ((show Calls _ _ #[.int .i64 k, .int .i64 1099511627776] _ _ from k_withinB (n := k) (m := 1099511627776) ab xq xq xq xq)) ?_)))))
 rintro _ u15 g16 ⟨aa, rfl, h13, h14⟩
 refine zza 0 (zI aa) (zzb (sq9 (zza 12 (zI 6) (zza 13 (zI aa) (zza 14 (zI 9) (zza 15 (zI 6) (zza 16 (zI 3) (zza 17 (zI 4) (sy_rem 18 (n := aa) (m := 4) (aa % 4) yj (Int.tmod_eq_emod_of_nonneg xq) ?_)))))))))
 refine zyq 19 (x := zI (IntKind.i64.wrap ((6 : Int) + (aa % 4)))) (zI ((6 : Int) + (aa % 4))) yw (zza 20 (.v (.agg #[.int .i64 ((6 : Int) + (aa % 4)), .int .i64 0, .int .i64 0, .int .i64 0])) (zzk 9 ⟨66, [.int .i64 0, .int .i64 0, .int .i64 0, .int .i64 0]⟩ (zzj ⟨66, [.int .i64 ((6 : Int) + (aa % 4)), .int .i64 0, .int .i64 0, .int .i64 0]⟩ ty66 ?_)))
 refine zzb (sq9 (zza 21 (zI aa) (zza 22 (zI 9) (zza 23 (zI 6) (zza 24 (zI 3) (zza 25 (zI 4) (sy_quo 26 (n := aa) (m := 4) (aa / 4) yj (by rw [Int.tdiv_eq_ediv_of_nonneg xq]; exact IntWalk.i64_in _ xq) ?_)))))))
 refine zza 0 (zI (aa / 4)) (zzb (sq9 (zza 27 (.adr 9 0) (zzi 28 (zI ((6 : Int) + (aa % 4))) ty3 zzl (zyq 29 (x := zI (IntKind.i64.wrap (((6 : Int) + (aa % 4)) - 1))) (zI (((6 : Int) + (aa % 4)) - 1)) yw (zza 30 (zI 1) (zyq 31 (x := zI (IntKind.i64.wrap ((((6 : Int) + (aa % 4)) - 1) - 1))) (zI ((((6 : Int) + (aa % 4)) - 1) - 1)) yw (zza 32 (zI (aa / 4)) (sy_rem 33 (n := aa / 4) (m := 2) ((aa / 4) % 2) yj (Int.tmod_eq_emod_of_nonneg xq) ?_)))))))))
 refine zyq 34 (x := zI (IntKind.i64.wrap (((((6 : Int) + (aa % 4)) - 1) - 1) - ((aa / 4) % 2)))) (zI (((((6 : Int) + (aa % 4)) - 1) - 1) - ((aa / 4) % 2))) yw (zza 35 (.adr 9 1) (zzj ⟨66, [.int .i64 ((6 : Int) + (aa % 4)), .int .i64 (((((6 : Int) + (aa % 4)) - 1) - 1) - ((aa / 4) % 2)), .int .i64 0, .int .i64 0]⟩ ty3 ?_))
 refine zzc 52 [(0, zI (aa / 4)), (8, .adr 8 0), (9, .adr 9 0)] [(8, ⟨66, [.int .i64 0, .int .i64 0, .int .i64 0, .int .i64 0]⟩), (9, ⟨66, [.int .i64 ((6 : Int) + (aa % 4)), .int .i64 (((((6 : Int) + (aa % 4)) - 1) - 1) - ((aa / 4) % 2)), .int .i64 0, .int .i64 0]⟩)] (sq9 (zza 36 (zI (aa / 4)) (sy_quo 37 (n := aa / 4) (m := 2) ((aa / 4) / 2) yj (by rw [Int.tdiv_eq_ediv_of_nonneg xq]; exact IntWalk.i64_in _ xq) ?_)))
 refine zza 0 (zI ((aa / 4) / 2)) (zzb (sq9 (zza 38 (.adr 9 1) (zzi 39 (zI (((((6 : Int) + (aa % 4)) - 1) - 1) - ((aa / 4) % 2))) ty3 zzl (sy_max0 40 (n := ((((6 : Int) + (aa % 4)) - 1) - 1) - ((aa / 4) % 2)) (v := ((((6 : Int) + (aa % 4)) - 1) - 1) - ((aa / 4) % 2)) (by split <;> omega) ?_)))))
 refine zza 41 (.adr 9 1) (zzj ⟨66, [.int .i64 ((6 : Int) + (aa % 4)), .int .i64 (((((6 : Int) + (aa % 4)) - 1) - 1) - ((aa / 4) % 2)), .int .i64 0, .int .i64 0]⟩ ty3 ?_)
 refine zzb (sq9 (zza 42 (zI ((aa / 4) / 2)) (sy_rem 43 (n := (aa / 4) / 2) (m := 3) (((aa / 4) / 2) % 3) yj (Int.tmod_eq_emod_of_nonneg xq) ?_)))
 refine zyq 44 (x := zI (IntKind.i64.wrap ((1 : Int) + (((aa / 4) / 2) % 3)))) (zI ((1 : Int) + (((aa / 4) / 2) % 3))) yw (zza 45 (zI ((aa / 4) / 2)) (sy_quo 46 (n := (aa / 4) / 2) (m := 3) (((aa / 4) / 2) / 3) yj (by rw [Int.tdiv_eq_ediv_of_nonneg xq]; exact IntWalk.i64_in _ xq) ?_))
 refine sy_rem 47 (n := ((aa / 4) / 2) / 3) (m := 2) ((((aa / 4) / 2) / 3) % 2) yj (Int.tmod_eq_emod_of_nonneg xq) ?_
 refine zyq 48 (x := zI (IntKind.i64.wrap ((1 : Int) + ((((aa / 4) / 2) / 3) % 2)))) (zI ((1 : Int) + ((((aa / 4) / 2) / 3) % 2))) yw (zza 49 (.adr 9 2) (zzj ⟨66, [.int .i64 ((6 : Int) + (aa % 4)), .int .i64 (((((6 : Int) + (aa % 4)) - 1) - 1) - ((aa / 4) % 2)), .int .i64 ((1 : Int) + (((aa / 4) / 2) % 3)), .int .i64 0]⟩ ty3 ?_))
 refine zza 50 (.adr 9 3) (zzj ⟨66, [.int .i64 ((6 : Int) + (aa % 4)), .int .i64 (((((6 : Int) + (aa % 4)) - 1) - 1) - ((aa / 4) % 2)), .int .i64 ((1 : Int) + (((aa / 4) / 2) % 3)), .int .i64 ((1 : Int) + ((((aa / 4) / 2) / 3) % 2))]⟩ ty3 ?_)
 refine zzb (sq9 (zzi 51 (.v (.agg #[.int .i64 ((6 : Int) + (aa % 4)), .int .i64 (((((6 : Int) + (aa % 4)) - 1) - 1) - ((aa / 4) % 2)), .int .i64 ((1 : Int) + (((aa / 4) / 2) % 3)), .int .i64 ((1 : Int) + ((((aa / 4) / 2) / 3) % 2))])) ty66 zze (zzj ⟨66, [.int .i64 ((6 : Int) + (aa % 4)), .int .i64 (((((6 : Int) + (aa % 4)) - 1) - 1) - ((aa / 4) % 2)), .int .i64 ((1 : Int) + (((aa / 4) / 2) % 3)), .int .i64 ((1 : Int) + ((((aa / 4) / 2) / 3) % 2))]⟩ ty66 ?_)))
 refine zzb (zzo (ret0 [.agg #[.int .i64 ((6 : Int) + (aa % 4)), .int .i64 (((((6 : Int) + (aa % 4)) - 1) - 1) - ((aa / 4) % 2)), .int .i64 ((1 : Int) + (((aa / 4) / 2) % 3)), .int .i64 ((1 : Int) + ((((aa / 4) / 2) / 3) % 2))]] ⟨zzr ty66 zze, trivial⟩ fun u18 e19 => ?_))
 exact ⟨⟨(6 : Int) + (aa % 4), ((((6 : Int) + (aa % 4)) - 1) - 1) - ((aa / 4) % 2), (1 : Int) + (((aa / 4) / 2) % 3), (1 : Int) + ((((aa / 4) / 2) / 3) % 2)⟩, rfl, by unfold CoefOK; dsimp only; omega⟩
theorem k_coef {u w : World} {k : Int} (d : Dat u w) (hk0 : -9223372036854775808 ≤ k) (hk1 : k ≤ 9223372036854775807) : Calls Tryz.prog 38 #[.int .i64 k] w (Post u w fun v _ => ∃ W : WL, v = W.v ∧ CoefOK W) := by
 refine zzm (args := [.int .i64 k]) Tryz.func38 rfl Tryz.ntmps38 (rs := [.cell 2 66]) Tryz.results38 (le_b rfl) (le_b rfl) d ?_
 refine sq9 (zzk 2 ⟨66, [.int .i64 0, .int .i64 0, .int .i64 0, .int .i64 0]⟩ (zzb (sq9 (zza 3 (zI k) (zzg 4 99 _ fun _ _ _ ae => Post.mono (k_word (k := k) ae xq xq) ?_)))))
 rintro _ u14 g15 ⟨aa, rfl, ab⟩
 have hw17 := ab.ok
 have ac : 1 ≤ aa.f := by have h9 := ab; unfold CoefOK at h9; omega
 have ad : aa.f ≤ 24 := by have h9 := ab; unfold CoefOK at h9; omega
 refine zzj ⟨66, aa.cs⟩ ty66 ?_
 refine zzb (zzo (ret0 [.agg #[.int .i64 aa.b, .int .i64 aa.f, .int .i64 aa.r, .int .i64 aa.o]] ⟨zzr ty66 zze, trivial⟩ fun u18 e19 => ?_))
 exact ⟨aa, rfl, by assumption⟩
theorem k_wat {u w : World} {x : Sl} {l : List Int} {i : Nat} (d : Dat u w) (hx : SlR .i64 u x.a x.n x.c l) (hb : ∀ z ∈ l, -9223372036854775808 ≤ z ∧ z ≤ 9223372036854775807) (hi9 : i ≤ 1000000000) : Calls Tryz.prog 133 #[x.v, .int .i64 (i : Int)] w (Post u w fun v _ => v = .int .i64 (l.getD i 0)) := by
 have hlen : l.length = x.n := hx.1
 refine zzm (args := [x.v, .int .i64 i]) Tryz.func133 rfl Tryz.ntmps133 (rs := [.tmp 4]) Tryz.results133 (le_b rfl) (le_b rfl) d ?_
 refine sq9 (zza 4 (zI 0) (zzb (zzd (sq9 (zza 5 (zI i) (zza 6 (zB (decide ((0 : Int) ≤ (i : Int)))) (zyq 7 (x := zB (decide ((0 : Int) ≤ (i : Int)))) (zB true) (by rw [show (decide ((0 : Int) ≤ (i : Int))) = true from decide_eq_true xq]) (zza 8 (zI i) ?_ (hw := w1 2 true 7)))))))))
 refine zza 9 (.v (x.v)) ?_ (hw := w1 2 true 7)
 refine zza 10 (zI x.n) ?_ (hw := w1 2 true 7)
 refine zza 11 (zB (decide ((i : Int) < (x.n : Int)))) ?_ (hw := w1 2 true 7)
 refine zza 12 (zB (decide ((i : Int) < (x.n : Int)))) (zzb (zzu (b := decide ((i : Int) < (x.n : Int))) xj (fun aa => ?_) (fun aa => ?_)))
 ·have qhb12 := of_decide_eq_true aa
  refine sq9 (zza 13 (.v (x.v)) (zza 14 (zI i) ?_))
  have hl13 := (hx).1
  obtain ⟨b13, ad, ac, ab⟩ := ints_at hx (i := i) xq
  have hz13 := ints_bd hb xq i
  refine zya 15 (ad + i * 1) (n := x.n) (off := ad) (sz := 1) (i := (i : Int)) xq ac xq xq sl22 (zyl 16 (.int .i64 (l.getD i 0)) ab ty3 (zza 4 (zI (l.getD i 0)) (zzb (zzo (zzw (ret0 [.int .i64 (l.getD i 0)] ⟨zzq, trivial⟩ fun u14 e15 => ?_))))))
  rfl
 have qhb12 := of_decide_eq_false aa
 refine zzs (zzp ?_)
 refine sq9 (zza 4 (zI 0) (zzb (zzo (ret0 [.int .i64 0] ⟨zzq, trivial⟩ fun u16 e17 => ?_))))
 show Value.int _ _ = Value.int _ _
 rw [show l.getD i 0 = 0 by rw [List.getD_eq_getElem?_getD, List.getElem?_eq_none xq]; rfl]
set_option maxHeartbeats 1000000 in
theorem k_below {u w : World} {x : Sl} {l : List Int} {b : Int} (d : Dat u w) (hx : SlR .i64 u x.a x.n x.c l) (hb : ∀ z ∈ l, -9223372036854775808 ≤ z ∧ z ≤ 9223372036854775807) (hb0 : 0 ≤ b) (hb1 : b ≤ 16777216) : Calls Tryz.prog 101 #[.int .i64 b, x.v, .int .i64 2] w (Post u w fun v u' => ∃ (y : Sl) (g h : Int), v = y.v ∧ y.n = 2 ∧ SlR .i64 u' y.a y.n y.c [g, h] ∧ -b ≤ g ∧ g ≤ b ∧ -b ≤ h ∧ h ≤ b) := by
 refine zzm (args := [.int .i64 b, x.v, .int .i64 2]) Tryz.func101 rfl Tryz.ntmps101 (rs := [.tmp 6]) Tryz.results101 (le_b rfl) (le_b rfl) d ?_
 refine sq9 (zza 6 (.v (.slice none 0 0)) (zzb (sq9 (zza 7 (.v (.slice none 0 0)) (zzb (zzd (sq9 (zza 8 (zI 0) (zzb (zzt (sw_rounds 2 ?_)))))))))))
 refine zzd (sq9 (zza 9 (zI 0) (zza 10 (zI 2) (zza 11 (zB true) (zzb (zyr xj (zzs (zzp ?_))))))))
 refine zzd (zzt (zzf (zza 14 (.v (.slice none 0 0)) (zza 15 (.v (x.v)) (zza 16 (zI 0) (zzg 17 133 _ fun _ _ aw aQ => Post.mono ((show Calls _ _ #[_, .int .i64 0] _ _ from k_wat (x := x) (i := 0) aQ (hx.ext aw) hb xq)) ?_))))))
 rintro _ u12 aR rfl
 have hz15 := ints_bd hb xq 0
 refine zza 18 (zI b) ?_
 obtain ⟨an, al, az, aE⟩ := wrap64_ex ((l.getD 0 0) + b)
 refine zyq 19 (x := zI (IntKind.i64.wrap ((l.getD 0 0) + b))) (zI an) (eqI al) (zza 20 (zI b) (zyq 21 (x := zI (IntKind.i64.wrap ((2 : Int) * b))) (zI ((2 : Int) * b)) yw (zyq 22 (x := zI (IntKind.i64.wrap (((2 : Int) * b) + 1))) (zI (((2 : Int) * b) + 1)) yw (zzg 23 100 _ fun _ _ aM aB => Post.mono ((show Calls _ _ #[.int .i64 an, .int .i64 (((2 : Int) * b) + 1)] _ _ from k_withinB (n := an) (m := ((2 : Int) * b) + 1) aB xq xq xq xq)) ?_))))
 rintro _ u21 aA ⟨ax, rfl, h19, h20⟩
 refine zza 24 (zI b) ?_
 obtain ⟨aa, au⟩ : ∃ g, ax - b = g := ⟨_, rfl⟩
 refine zyq 25 (x := zI (IntKind.i64.wrap (ax - b))) (zI aa) (eqI (by rw [IntWalk.i64_in _ xq]; exact au)) (zxz 26 ⟨3, [.int .i64 aa]⟩ 1 (fun aS u26 aC aH => ?_))
 refine sy_app0 27 (T := 22) (E := 3) (z := .int .i64 0) (size := 1) (bytes := 8) (b := aS) (off := 0) (m := 1) [.int .i64 aa] xj xj xj yj rfl (lit_news ((Ext.refl _).cells aH)) (int_one _) yj yj yj ?_
 intro ai ad aU aT aN av
 have ah : ad.take (1 * 1) = [aa].map (Value.int .i64) := av
 refine zza 7 (.slc 27 0 1 ai) (zzx ?_)
 refine zzp (zzf (zza 12 (zI 0) (zza 13 (zI 1) (zza 8 (zI 1) (zzx ?_)))))
 refine rn_next ?_
 refine sw_weak (T := St.of 29 [(0, zI b), (1, .v (x.v)), (2, zI 2), (7, .slc 27 0 1 ai), (8, zI 1)] [(27, ⟨3, ad⟩)]) yz ?_
 refine zzd (sq9 (zza 9 (zI 1) (zza 10 (zI 2) (zza 11 (zB true) (zzb (zyr xj (zzs (zzp ?_))))))))
 refine zzd (zzt (zzf (zza 14 (.slc 27 0 1 ai) (zza 15 (.v (x.v)) (zza 16 (zI 1) (zzg 17 133 _ fun _ _ aJ aP => Post.mono ((show Calls _ _ #[_, .int .i64 1] _ _ from k_wat (x := x) (i := 1) aP (hx.ext (aw.t (aR.t (aM.t (aA.t (aC.trans aJ)))))) hb xq)) ?_))))))
 rintro _ u31 g32 rfl
 have hz34 := ints_bd hb xq 1
 refine zza 18 (zI b) ?_
 obtain ⟨ak, ao, aD, aW⟩ := wrap64_ex ((l.getD 1 0) + b)
 refine zyq 19 (x := zI (IntKind.i64.wrap ((l.getD 1 0) + b))) (zI ak) (eqI ao) (zza 20 (zI b) (zyq 21 (x := zI (IntKind.i64.wrap ((2 : Int) * b))) (zI ((2 : Int) * b)) yw (zyq 22 (x := zI (IntKind.i64.wrap (((2 : Int) * b) + 1))) (zI (((2 : Int) * b) + 1)) yw (zzg 23 100 _ fun _ _ _ aG => Post.mono ((show Calls _ _ #[.int .i64 ak, .int .i64 (((2 : Int) * b) + 1)] _ _ from k_withinB (n := ak) (m := ((2 : Int) * b) + 1) aG xq xq xq xq)) ?_))))
 rintro _ u40 g41 ⟨ay, rfl, h38, h39⟩
 refine zza 24 (zI b) ?_
 obtain ⟨ae, am⟩ : ∃ g, ay - b = g := ⟨_, rfl⟩
 refine zyq 25 (x := zI (IntKind.i64.wrap (ay - b))) (zI ae) (eqI (by rw [IntWalk.i64_in _ xq]; exact am)) (zxz 26 ⟨3, [.int .i64 ae]⟩ 1 (fun aK u45 e46 aV => ?_))
 refine sy_app1 27 (T := 22) (E := 3) (z := .int .i64 0) (size := 1) (bytes := 8) (b := aK) (off := 0) (m := 1) (n := 1) (cap := ai) (t := 27) (cs0 := ad) [7, 14, 27] [.int .i64 ae] xj xj xj yj rfl (lit_news ((Ext.refl _).cells aV)) (int_one _) yj yv xq xq xq xq xk ?_
 intro c48 ab ac ar aO aj
 have af : ab.take (2 * 1) = [aa, ae].map (Value.int .i64) := by rw [show 2 * 1 = (1 + 1) * 1 from rfl, aj, ah]; rfl
 replace ac : 2 ≤ c48 := ac
 refine zza 7 (.slc 27 0 2 c48) (zzx ?_)
 refine zzp (zzf (zza 12 (zI 1) (zza 13 (zI 2) (zza 8 (zI 2) (zzx ?_)))))
 refine rn_next ?_
 refine sw_weak (T := St.of 29 [(0, zI b), (1, .v (x.v)), (2, zI 2), (7, .slc 27 0 2 c48), (8, zI 2)] [(27, ⟨3, ab⟩)]) yz ?_
 refine zzd (sq9 (zza 9 (zI 2) (zza 10 (zI 2) (zza 11 (zB false) (zzb (zys xj (zyc (zzp (zzd (zyp (r := 7) (t := 27) [7, 27] xk xj zk zk xj (fun ag aL e51 aF ap => ?_)))))))))))
 have aq : SlR .i64 aL (some ⟨ag, 0, none⟩) 2 c48 [aa, ae] := ints_data ap af (show ab.length = c48 by omega) ac ar
 refine zzf (zza 28 (.v (.slice (some ⟨ag, 0, none⟩) 2 c48)) (zza 6 (.v (.slice (some ⟨ag, 0, none⟩) 2 c48)) (zzb (zzo (ret0 [.slice (some ⟨ag, 0, none⟩) 2 c48] ⟨zzq, trivial⟩ fun u55 aI => ?_)))))
 exact ⟨(⟨some ⟨ag, 0, none⟩, 2, c48⟩ : Sl), aa, ae, rfl, rfl, (aq.ext aI), by omega, by omega, by omega, by omega⟩
set_option maxHeartbeats 4000000 in
theorem k_sections {u w : World} {x : Sl} {l : List Int} {W : WL} (d : Dat u w) (hx : SlR .i64 u x.a x.n x.c l) (hb : ∀ z ∈ l, -9223372036854775808 ≤ z ∧ z ≤ 9223372036854775807) (hW : WdOK W) : Calls Tryz.prog 124 #[x.v, W.v] w (Post u w fun v u' => ∃ (y : Sl) (L : List PL), v = y.v ∧ PasV u' y L ∧ (∀ p ∈ L, PasOK W.f p) ∧ L.length ≤ 4) := by
 obtain ⟨hw1, hw2, hw3, hw4, hw5, hw6, hw7, hw8⟩ := id hW
 have hlen : l.length = x.n := hx.1
 have hu0 := Nt.zxq W.f
 have hu1 := Nt.p2i_24 (n := W.f) xq
 refine zzm (args := [x.v, .agg #[.int .i64 W.b, .int .i64 W.f, .int .i64 W.r, .int .i64 W.o]]) Tryz.func124 rfl Tryz.ntmps124 (rs := [.tmp 4]) Tryz.results124 (le_b rfl) (le_b rfl) d ?_
 refine sq9 (zzk 3 ⟨66, W.cs⟩ (zza 4 (.v (.slice none 0 0)) (zzb (sq9 (zza 5 (.v (.slice none 0 0)) (zzb (zzd (sq9 (zza 6 (zI 0) (zzb (zzt ?_)))))))))))
 refine sw_rounds 2 ?_
 refine zzd (sq9 (zza 9 (zI 0) (zza 10 (zI 2) (zza 11 (.v (x.v)) (zza 12 (zI x.n) (zza 13 (zB (decide ((2 : Int) < (x.n : Int)))) ?_))))))
 rcases Bool.eq_false_or_eq_true (decide ((2 : Int) < (x.n : Int))) with hs11 | hs11
 ·refine zyq 14 (x := zB (decide ((2 : Int) < (x.n : Int)))) (zB true) (by rw [hs11]) ?_
  have qhs11 := of_decide_eq_true hs11
  refine zza 15 (.v (.slice none 0 0)) ?_ (hw := w1 5 true 14)
  refine zza 16 (zI 0) ?_ (hw := w1 5 true 14)
  refine zza 17 (zB true) ?_ (hw := w1 5 true 14)
  refine zza 18 (zB true) (zzb (zyr xj (zzs (zzp ?_))))
  refine zzd (zzt (zzd (zzz [0, 1, 3, 0, 0, 16, 56, 127, 255] [(0, []), (3, []), (4, []), (5, []), (6, []), (1, []), (2, []), (7, []), (8, [])] xj xj (zzi 21 (.v (W.v)) ty66 zze (zza 24 (.v (x.v)) (zza 25 (zI 0) (zza 26 (zI 1) ?_)))))))
  have hl12 := (hx).1
  refine sy_tail 27 (n := x.n) (c := x.c) (i := 1) 1 sl22 xq xq ?_
  intro bU cf
  refine zzg 22 102 _ fun _ _ aC d9 => Post.mono (k_wunit (W := W) d9 hW) ?_
  rintro _ u14 ax rfl
  refine zyq 23 (x := zI (IntKind.i64.wrap ((Nt.p2i W.f) - 1))) (zI ((Nt.p2i W.f) - 1)) yw (zzg 28 101 _ fun _ _ aE du => Post.mono ((show Calls _ _ #[_, .slice (⟨bU, x.n - 1, x.c - 1⟩ : Sl).a (⟨bU, x.n - 1, x.c - 1⟩ : Sl).n (⟨bU, x.n - 1, x.c - 1⟩ : Sl).c, _] _ _ from k_below (x := (⟨bU, x.n - 1, x.c - 1⟩ : Sl)) (b := (Nt.p2i W.f) - 1) du ((ints_drop (m := 1) hx xq cf).ext (aC.t (ax.t aE))) (bd_drop hb 1) xq xq)) ?_)
  rintro _ u19 aL ⟨bL, ad, ai, rfl, d5, aR, dB, eg, dm, eb⟩
  refine zza 7 (.v (bL.v)) (zzb (zzd (zzz [0, 0, 3, 7, 15, 31, 0, 64, 192, 0, 512, 1536, 4032, 8191, 0, 32767] [(0, []), (1, []), (2, []), (3, []), (6, []), (7, []), (8, []), (9, []), (10, []), (11, []), (12, []), (14, []), (4, []), (5, []), (13, []), (15, [])] xj xj (zza 29 (.v (x.v)) (zza 30 (zI 0) ?_)))))
  have hl22 := ((hx.ext (aC.t (ax.t (aE.t aL.ext))))).1
  obtain ⟨b22, cW, cd, cp⟩ := ints_at (hx.ext (aC.t (ax.t (aE.t aL.ext)))) (i := 0) xq
  have hz22 := ints_bd hb xq 0
  refine zya 31 (cW + 0 * 1) (n := x.n) (off := cW) (sz := 1) (i := 0) xq cd xq xq sl22 (zyl 32 (.int .i64 (l.getD 0 0)) cp ty3 (zza 35 (.v (bL.v)) ?_))
  have hl23 := (aR).1
  obtain ⟨b23, cU, ch, bY⟩ := ints_at aR (i := 0) xq
  have hz23 := ints_bd (bd_two (lo := -9223372036854775808) (hi := 9223372036854775807) (g := ad) (h := ai) ⟨by omega, by omega⟩ ⟨by omega, by omega⟩) xq 0
  refine zya 36 (cU + 0 * 1) (n := bL.n) (off := cU) (sz := 1) (i := 0) xq ch xq xq sl22 (zyl 37 (.int .i64 ad) bY ty3 (zza 38 (.v (bL.v)) ?_))
  have hl24 := (aR).1
  obtain ⟨b24, cT, cN, cK⟩ := ints_at aR (i := 1) xq
  have hz24 := ints_bd (bd_two (lo := -9223372036854775808) (hi := 9223372036854775807) (g := ad) (h := ai) ⟨by omega, by omega⟩ ⟨by omega, by omega⟩) xq 1
  refine zya 39 (cT + 1 * 1) (n := bL.n) (off := cT) (sz := 1) (i := 1) xq cN xq xq sl22 (zyl 40 (.int .i64 ai) cK ty3 (zza 41 (.v (.agg #[.int .i64 ad, .int .i64 ai])) (zzk 8 ⟨168, [.int .i64 0, .int .i64 0, .int .i64 0]⟩ (zzg 33 100 _ fun _ _ aZ dT => Post.mono ((show Calls _ _ #[.int .i64 (l.getD 0 0), .int .i64 2] _ _ from k_withinB (n := (l.getD 0 0)) (m := 2) dT xq xq xq xq)) ?_))))
  rintro _ u29 aW ⟨ac, rfl, h27, h28⟩
  refine zyq 34 (x := zI (IntKind.i64.wrap ((1 : Int) + ac))) (zI ((1 : Int) + ac)) yw (zza 42 (.v (.agg #[.int .i64 ((1 : Int) + ac), .int .i64 ad, .int .i64 ai])) (zzj ⟨168, [.int .i64 ((1 : Int) + ac), .int .i64 ad, .int .i64 ai]⟩ ty168 ?_))
  refine zzc 53 [(0, .v (x.v)), (3, .adr 3 0), (5, .v (.slice none 0 0)), (6, zI 0), (8, .adr 8 0)] [(3, ⟨66, W.cs⟩), (8, ⟨168, [.int .i64 ((1 : Int) + ac), .int .i64 ad, .int .i64 ai]⟩)] (zzd (sq9 (zza 43 (.adr 8 0) (zzi 44 (zI ((1 : Int) + ac)) ty3 zzl (zza 45 (zB (((1 : Int) + ac) == 1)) (zzb (zzu (b := ((1 : Int) + ac) == 1) xj (fun a9 => ?_) (fun a9 => ?_))))))))
  ·have bm : (((1 : Int) + ac) = 1) := by simpa using a9
   refine zzf (zza 46 (.adr 8 1) (zza 47 (.adr 8 2) (zzj ⟨168, [.int .i64 ((1 : Int) + ac), .int .i64 ad, .int .i64 0]⟩ ty3 ?_)))
   refine zzb ?_
   have aH : PasOK W.f (⟨(1 : Int) + ac, ad, 0⟩ : PL) := ⟨by show (1 : Int) + ac = 1 ∧ (0 : Int) = 0 ∨ (1 : Int) + ac = 2; omega, by show _ < ad; omega, by show ad < _; omega, by show _ < (0 : Int); omega, by show (0 : Int) < _; omega⟩
   refine zzf (zza 48 (.v (.slice none 0 0)) (zzi 49 (.v (.agg #[.int .i64 ((1 : Int) + ac), .int .i64 ad, .int .i64 0])) ty168 zze (zxz 50 ⟨168, [.int .i64 ((1 : Int) + ac), .int .i64 ad, .int .i64 0]⟩ 1 (fun eh u35 bW d8 => ?_))))
   refine sy_app0 51 (T := 91) (E := 168) (z := .agg #[.int .i64 0, .int .i64 0, .int .i64 0]) (size := 3) (bytes := 24) (b := eh) (off := 0) (m := 1) [.int .i64 ((1 : Int) + ac), .int .i64 ad, .int .i64 0] xj xj xj yj rfl (lit_news ((Ext.refl _).cells d8)) (pl_one (⟨(1 : Int) + ac, ad, 0⟩ : PL)) yj yj yj ?_
   intro ar au cR cy ct cL
   have aK : au.take (1 * 3) = pcs [(⟨(1 : Int) + ac, ad, 0⟩ : PL)] := cL
   refine zza 5 (.slc 51 0 1 ar) (zzx ?_)
   refine zzp (zzf (zza 19 (zI 0) (zza 20 (zI 3) (zza 6 (zI 3) (zzx ?_)))))
   refine rn_next ?_
   refine sw_weak (T := St.of 53 [(0, .v (x.v)), (3, .adr 3 0), (5, .slc 51 0 1 ar), (6, zI 3)] [(3, ⟨66, [.int .i64 W.b, .int .i64 W.f, .int .i64 W.r, .int .i64 W.o]⟩), (51, ⟨168, au⟩)]) yz ?_
   refine zzd (sq9 (zza 9 (zI 3) (zza 10 (zI 5) (zza 11 (.v (x.v)) (zza 12 (zI x.n) (zza 13 (zB (decide ((5 : Int) < (x.n : Int)))) ?_))))))
   rcases Bool.eq_false_or_eq_true (decide ((5 : Int) < (x.n : Int))) with hs39 | hs39
   ·refine zyq 14 (x := zB (decide ((5 : Int) < (x.n : Int)))) (zB true) (by rw [hs39]) ?_
    have qhs39 := of_decide_eq_true hs39
    refine zza 15 (.slc 51 0 1 ar) ?_ (hw := w1 5 true 14)
    refine zza 16 (zI 1) ?_ (hw := w1 5 true 14)
    refine zza 17 (zB true) ?_ (hw := w1 5 true 14)
    refine zza 18 (zB true) (zzc 53 [(0, .v (x.v)), (3, .adr 3 0), (5, .slc 51 0 1 ar), (6, zI 3), (18, zB true)] [(3, ⟨66, W.cs⟩), (51, ⟨168, au⟩)] (zyr xj (zzs (zzp ?_))))
    refine zzd (zzt (zzd (zzz [0, 1, 3, 0, 0, 16, 56, 127, 255] [(0, []), (3, []), (4, []), (5, []), (6, []), (1, []), (2, []), (7, []), (8, [])] xj xj (zzi 21 (.v (W.v)) ty66 zze (zza 24 (.v (x.v)) (zza 25 (zI 3) (zza 26 (zI 4) ?_)))))))
    have hl40 := ((hx.ext (aC.t (ax.t (aE.t (aL.t (aZ.t (aW.t bW)))))))).1
    refine sy_tail 27 (n := x.n) (c := x.c) (i := 4) 4 sl22 xq xq ?_
    intro bV cj
    refine zzg 22 102 _ fun _ _ cn dx => Post.mono (k_wunit (W := W) dx hW) ?_
    rintro _ u42 b5 rfl
    refine zyq 23 (x := zI (IntKind.i64.wrap ((Nt.p2i W.f) - 1))) (zI ((Nt.p2i W.f) - 1)) yw (zzg 28 101 _ fun _ _ ca dF => Post.mono ((show Calls _ _ #[_, .slice (⟨bV, x.n - 4, x.c - 4⟩ : Sl).a (⟨bV, x.n - 4, x.c - 4⟩ : Sl).n (⟨bV, x.n - 4, x.c - 4⟩ : Sl).c, _] _ _ from k_below (x := (⟨bV, x.n - 4, x.c - 4⟩ : Sl)) (b := (Nt.p2i W.f) - 1) dF ((ints_drop (m := 4) (hx.ext (aC.t (ax.t (aE.t (aL.t (aZ.t (aW.t bW))))))) xq cj).ext (cn.t (b5.t ca))) (bd_drop hb 4) xq xq)) ?_)
    rintro _ u47 c0 ⟨bz, ag, ak, rfl, dw, aM, dk, dN, dC, dq⟩
    refine zza 7 (.v (bz.v)) (zzb (zzd (zzz [0, 0, 3, 7, 15, 31, 0, 64, 192, 0, 512, 1536, 4032, 8191, 0, 32767] [(0, []), (1, []), (2, []), (3, []), (6, []), (7, []), (8, []), (9, []), (10, []), (11, []), (12, []), (14, []), (4, []), (5, []), (13, []), (15, [])] xj xj (zza 29 (.v (x.v)) (zza 30 (zI 3) ?_)))))
    have hl50 := ((hx.ext (aC.t (ax.t (aE.t (aL.t (aZ.t (aW.t (bW.t (cn.t (b5.t (ca.t c0.ext)))))))))))).1
    obtain ⟨b50, c5, cG, b8⟩ := ints_at (hx.ext (aC.t (ax.t (aE.t (aL.t (aZ.t (aW.t (bW.t (cn.t (b5.t (ca.t c0.ext))))))))))) (i := 3) xq
    have hz50 := ints_bd hb xq 3
    refine zya 31 (c5 + 3 * 1) (n := x.n) (off := c5) (sz := 1) (i := 3) xq cG xq xq sl22 (zyl 32 (.int .i64 (l.getD 3 0)) b8 ty3 (zza 35 (.v (bz.v)) ?_))
    have hl51 := (aM).1
    obtain ⟨b51, da, bZ, cg⟩ := ints_at aM (i := 0) xq
    have hz51 := ints_bd (bd_two (lo := -9223372036854775808) (hi := 9223372036854775807) (g := ag) (h := ak) ⟨by omega, by omega⟩ ⟨by omega, by omega⟩) xq 0
    refine zya 36 (da + 0 * 1) (n := bz.n) (off := da) (sz := 1) (i := 0) xq bZ xq xq sl22 (zyl 37 (.int .i64 ag) cg ty3 (zza 38 (.v (bz.v)) ?_))
    have hl52 := (aM).1
    obtain ⟨b52, cX, cF, cb⟩ := ints_at aM (i := 1) xq
    have hz52 := ints_bd (bd_two (lo := -9223372036854775808) (hi := 9223372036854775807) (g := ag) (h := ak) ⟨by omega, by omega⟩ ⟨by omega, by omega⟩) xq 1
    refine zya 39 (cX + 1 * 1) (n := bz.n) (off := cX) (sz := 1) (i := 1) xq cF xq xq sl22 (zyl 40 (.int .i64 ak) cb ty3 (zza 41 (.v (.agg #[.int .i64 ag, .int .i64 ak])) (zzk 8 ⟨168, [.int .i64 0, .int .i64 0, .int .i64 0]⟩ (zzg 33 100 _ fun _ _ _ dH => Post.mono ((show Calls _ _ #[.int .i64 (l.getD 3 0), .int .i64 2] _ _ from k_withinB (n := (l.getD 3 0)) (m := 2) dH xq xq xq xq)) ?_))))
    rintro _ u57 g58 ⟨af, rfl, h55, h56⟩
    refine zyq 34 (x := zI (IntKind.i64.wrap ((1 : Int) + af))) (zI ((1 : Int) + af)) yw (zza 42 (.v (.agg #[.int .i64 ((1 : Int) + af), .int .i64 ag, .int .i64 ak])) (zzj ⟨168, [.int .i64 ((1 : Int) + af), .int .i64 ag, .int .i64 ak]⟩ ty168 ?_))
    refine zzb (zzd (sq9 (zza 43 (.adr 8 0) (zzi 44 (zI ((1 : Int) + af)) ty3 zzl (zza 45 (zB (((1 : Int) + af) == 1)) (zzb (zzu (b := ((1 : Int) + af) == 1) xj (fun a8 => ?_) (fun a8 => ?_))))))))
    ·have bM : (((1 : Int) + af) = 1) := by simpa using a8
     refine zzf (zza 46 (.adr 8 1) (zza 47 (.adr 8 2) (zzj ⟨168, [.int .i64 ((1 : Int) + af), .int .i64 ag, .int .i64 0]⟩ ty3 ?_)))
     refine zzc 53 [(0, .v (x.v)), (3, .adr 3 0), (5, .slc 51 0 1 ar), (6, zI 3), (8, .adr 8 0)] [(3, ⟨66, W.cs⟩), (8, ⟨168, [.int .i64 ((1 : Int) + af), .int .i64 ag, .int .i64 0]⟩), (51, ⟨168, au⟩)] ?_
     have bf : PasOK W.f (⟨(1 : Int) + af, ag, 0⟩ : PL) := ⟨by show (1 : Int) + af = 1 ∧ (0 : Int) = 0 ∨ (1 : Int) + af = 2; omega, by show _ < ag; omega, by show ag < _; omega, by show _ < (0 : Int); omega, by show (0 : Int) < _; omega⟩
     refine zzf (zza 48 (.slc 51 0 1 ar) (zzi 49 (.v (.agg #[.int .i64 ((1 : Int) + af), .int .i64 ag, .int .i64 0])) ty168 zze (zxz 50 ⟨168, [.int .i64 ((1 : Int) + af), .int .i64 ag, .int .i64 0]⟩ 1 (fun dd u63 e64 dL => ?_))))
     refine sy_app1 51 (T := 91) (E := 168) (z := .agg #[.int .i64 0, .int .i64 0, .int .i64 0]) (size := 3) (bytes := 24) (b := dd) (off := 0) (m := 1) (n := 1) (cap := ar) (t := 51) (cs0 := au) [5, 48, 51] [.int .i64 ((1 : Int) + af), .int .i64 ag, .int .i64 0] xj xj xj yj rfl (lit_news ((Ext.refl _).cells dL)) (pl_one (⟨(1 : Int) + af, ag, 0⟩ : PL)) yj yv xq xq xq xq xk ?_
     intro c66 a5 aQ bn bs b2
     have a2 : a5.take (2 * 3) = pcs [(⟨(1 : Int) + ac, ad, 0⟩ : PL), (⟨(1 : Int) + af, ag, 0⟩ : PL)] := by rw [show 2 * 3 = (1 + 1) * 3 from rfl, b2, aK]; rfl
     replace aQ : 2 ≤ c66 := aQ
     refine zza 5 (.slc 51 0 2 c66) (zzx ?_)
     refine zzp (zzf (zza 19 (zI 3) (zza 20 (zI 6) (zza 6 (zI 6) (zzx ?_)))))
     refine rn_next ?_
     refine sw_weak (T := St.of 53 [(0, .v (x.v)), (3, .adr 3 0), (5, .slc 51 0 2 c66), (6, zI 6)] [(3, ⟨66, [.int .i64 W.b, .int .i64 W.f, .int .i64 W.r, .int .i64 W.o]⟩), (51, ⟨168, a5⟩)]) yz ?_
     refine zzd (sq9 (zza 9 (zI 6) (zza 10 (zI 8) (zza 11 (.v (x.v)) (zza 12 (zI x.n) (zza 13 (zB (decide ((8 : Int) < (x.n : Int)))) ?_))))))
     rcases Bool.eq_false_or_eq_true (decide ((8 : Int) < (x.n : Int))) with hs67 | hs67
     ·refine zyq 14 (x := zB (decide ((8 : Int) < (x.n : Int)))) (zB true) (by rw [hs67]) ?_
      have qhs67 := of_decide_eq_true hs67
      refine zza 15 (.slc 51 0 2 c66) ?_ (hw := w1 5 true 14)
      refine zza 16 (zI 2) ?_ (hw := w1 5 true 14)
      refine zza 17 (zB false) ?_ (hw := w1 5 true 14)
      refine zza 18 (zB false) (zzc 53 [(0, .v (x.v)), (3, .adr 3 0), (5, .slc 51 0 2 c66), (6, zI 6), (18, zB false)] [(3, ⟨66, W.cs⟩), (51, ⟨168, a5⟩)] (zys xj (zyc (zzp (zzd (zyp (r := 5) (t := 51) [5, 51] xk xj zk zk xj (fun bj dG e70 ei ci => ?_)))))))
      have cO : PasV dG ⟨some ⟨bj, 0, none⟩, 2, c66⟩ [(⟨(1 : Int) + ac, ad, 0⟩ : PL), (⟨(1 : Int) + af, ag, 0⟩ : PL)] := pas_data ci a2 bs aQ bn
      refine zzf (zza 52 (.v (.slice (some ⟨bj, 0, none⟩) 2 c66)) (zza 4 (.v (.slice (some ⟨bj, 0, none⟩) 2 c66)) (zzb (zzo (ret0 [.slice (some ⟨bj, 0, none⟩) 2 c66] ⟨zzq, trivial⟩ fun u74 de => ?_)))))
      exact ⟨(⟨some ⟨bj, 0, none⟩, 2, c66⟩ : Sl), [(⟨(1 : Int) + ac, ad, 0⟩ : PL), (⟨(1 : Int) + af, ag, 0⟩ : PL)], rfl, (cO.ext de), pas_all2 aH bf, by simp⟩
     refine zyq 14 (x := zB (decide ((8 : Int) < (x.n : Int)))) (zB false) (by rw [hs67]) ?_
     have qhs67 := of_decide_eq_false hs67
     refine zzn 15 (uw 5 true false 14) (zzn 16 (uw 5 true false 14) (zzn 17 (uw 5 true false 14) (zza 18 (zB false) (zzb (zys xj (zyc (zzp (zzd (zyp (r := 5) (t := 51) [5, 51] xk xj zk zk xj (fun bd d6 e78 dA b9 => ?_))))))))))
     have cm : PasV d6 ⟨some ⟨bd, 0, none⟩, 2, c66⟩ [(⟨(1 : Int) + ac, ad, 0⟩ : PL), (⟨(1 : Int) + af, ag, 0⟩ : PL)] := pas_data b9 a2 bs aQ bn
     refine zzf (zza 52 (.v (.slice (some ⟨bd, 0, none⟩) 2 c66)) (zza 4 (.v (.slice (some ⟨bd, 0, none⟩) 2 c66)) (zzb (zzo (ret0 [.slice (some ⟨bd, 0, none⟩) 2 c66] ⟨zzq, trivial⟩ fun u82 dO => ?_)))))
     exact ⟨(⟨some ⟨bd, 0, none⟩, 2, c66⟩ : Sl), [(⟨(1 : Int) + ac, ad, 0⟩ : PL), (⟨(1 : Int) + af, ag, 0⟩ : PL)], rfl, (cm.ext dO), pas_all2 aH bf, by simp⟩
    have bM : ¬ (((1 : Int) + af) = 1) := by simpa using a8
    refine zzs (zzp ?_)
    have bb : PasOK W.f (⟨(1 : Int) + af, ag, ak⟩ : PL) := ⟨by show (1 : Int) + af = 1 ∧ ak = 0 ∨ (1 : Int) + af = 2; omega, by show _ < ag; omega, by show ag < _; omega, by show _ < ak; omega, by show ak < _; omega⟩
    refine zzf (zza 48 (.slc 51 0 1 ar) (zzi 49 (.v (.agg #[.int .i64 ((1 : Int) + af), .int .i64 ag, .int .i64 ak])) ty168 zze (zxz 50 ⟨168, [.int .i64 ((1 : Int) + af), .int .i64 ag, .int .i64 ak]⟩ 1 (fun dR u86 e87 d4 => ?_))))
    refine sy_app1 51 (T := 91) (E := 168) (z := .agg #[.int .i64 0, .int .i64 0, .int .i64 0]) (size := 3) (bytes := 24) (b := dR) (off := 0) (m := 1) (n := 1) (cap := ar) (t := 51) (cs0 := au) [5, 48, 51] [.int .i64 ((1 : Int) + af), .int .i64 ag, .int .i64 ak] xj xj xj yj rfl (lit_news ((Ext.refl _).cells d4)) (pl_one (⟨(1 : Int) + af, ag, ak⟩ : PL)) yj yv xq xq xq xq xk ?_
    intro c89 aS aN bl bv cw
    have a0 : aS.take (2 * 3) = pcs [(⟨(1 : Int) + ac, ad, 0⟩ : PL), (⟨(1 : Int) + af, ag, ak⟩ : PL)] := by rw [show 2 * 3 = (1 + 1) * 3 from rfl, cw, aK]; rfl
    replace aN : 2 ≤ c89 := aN
    refine zza 5 (.slc 51 0 2 c89) (zzx ?_)
    refine zzp (zzf (zza 19 (zI 3) (zza 20 (zI 6) (zza 6 (zI 6) (zzx ?_)))))
    refine rn_next ?_
    refine sw_weak (T := St.of 53 [(0, .v (x.v)), (3, .adr 3 0), (5, .slc 51 0 2 c89), (6, zI 6)] [(3, ⟨66, [.int .i64 W.b, .int .i64 W.f, .int .i64 W.r, .int .i64 W.o]⟩), (51, ⟨168, aS⟩)]) yz ?_
    refine zzd (sq9 (zza 9 (zI 6) (zza 10 (zI 8) (zza 11 (.v (x.v)) (zza 12 (zI x.n) (zza 13 (zB (decide ((8 : Int) < (x.n : Int)))) ?_))))))
    rcases Bool.eq_false_or_eq_true (decide ((8 : Int) < (x.n : Int))) with hs90 | hs90
    ·refine zyq 14 (x := zB (decide ((8 : Int) < (x.n : Int)))) (zB true) (by rw [hs90]) ?_
     have qhs90 := of_decide_eq_true hs90
     refine zza 15 (.slc 51 0 2 c89) ?_ (hw := w1 5 true 14)
     refine zza 16 (zI 2) ?_ (hw := w1 5 true 14)
     refine zza 17 (zB false) ?_ (hw := w1 5 true 14)
     refine zza 18 (zB false) (zzc 53 [(0, .v (x.v)), (3, .adr 3 0), (5, .slc 51 0 2 c89), (6, zI 6), (18, zB false)] [(3, ⟨66, W.cs⟩), (51, ⟨168, aS⟩)] (zys xj (zyc (zzp (zzd (zyp (r := 5) (t := 51) [5, 51] xk xj zk zk xj (fun bH dr e93 dJ b4 => ?_)))))))
     have b0 : PasV dr ⟨some ⟨bH, 0, none⟩, 2, c89⟩ [(⟨(1 : Int) + ac, ad, 0⟩ : PL), (⟨(1 : Int) + af, ag, ak⟩ : PL)] := pas_data b4 a0 bv aN bl
     refine zzf (zza 52 (.v (.slice (some ⟨bH, 0, none⟩) 2 c89)) (zza 4 (.v (.slice (some ⟨bH, 0, none⟩) 2 c89)) (zzb (zzo (ret0 [.slice (some ⟨bH, 0, none⟩) 2 c89] ⟨zzq, trivial⟩ fun u97 dE => ?_)))))
     exact ⟨(⟨some ⟨bH, 0, none⟩, 2, c89⟩ : Sl), [(⟨(1 : Int) + ac, ad, 0⟩ : PL), (⟨(1 : Int) + af, ag, ak⟩ : PL)], rfl, (b0.ext dE), pas_all2 aH bb, by simp⟩
    refine zyq 14 (x := zB (decide ((8 : Int) < (x.n : Int)))) (zB false) (by rw [hs90]) ?_
    have qhs90 := of_decide_eq_false hs90
    refine zzn 15 (uw 5 true false 14) (zzn 16 (uw 5 true false 14) (zzn 17 (uw 5 true false 14) (zza 18 (zB false) (zzc 53 [(0, .v (x.v)), (3, .adr 3 0), (5, .slc 51 0 2 c89), (6, zI 6), (18, zB false)] [(3, ⟨66, W.cs⟩), (51, ⟨168, aS⟩)] (zys xj (zyc (zzp (zzd (zyp (r := 5) (t := 51) [5, 51] xk xj zk zk xj (fun bc cD dZ cY bT => ?_))))))))))
    have be : PasV cD ⟨some ⟨bc, 0, none⟩, 2, c89⟩ [(⟨(1 : Int) + ac, ad, 0⟩ : PL), (⟨(1 : Int) + af, ag, ak⟩ : PL)] := pas_data bT a0 bv aN bl
    refine zzf (zza 52 (.v (.slice (some ⟨bc, 0, none⟩) 2 c89)) (zza 4 (.v (.slice (some ⟨bc, 0, none⟩) 2 c89)) (zzb (zzo (ret0 [.slice (some ⟨bc, 0, none⟩) 2 c89] ⟨zzq, trivial⟩ fun ef cz => ?_)))))
    exact ⟨(⟨some ⟨bc, 0, none⟩, 2, c89⟩ : Sl), [(⟨(1 : Int) + ac, ad, 0⟩ : PL), (⟨(1 : Int) + af, ag, ak⟩ : PL)], rfl, (be.ext cz), pas_all2 aH bb, by simp⟩
   refine zyq 14 (x := zB (decide ((5 : Int) < (x.n : Int)))) (zB false) (by rw [hs39]) ?_
   have qhs39 := of_decide_eq_false hs39
   refine zzn 15 (uw 5 true false 14) (zzn 16 (uw 5 true false 14) (zzn 17 (uw 5 true false 14) (zza 18 (zB false) (zzb (zys xj (zyc (zzp (zzd (zyp (r := 5) (t := 51) [5, 51] xk xj zk zk xj (fun aJ cE dV c9 bq => ?_))))))))))
   have bk : PasV cE ⟨some ⟨aJ, 0, none⟩, 1, ar⟩ [(⟨(1 : Int) + ac, ad, 0⟩ : PL)] := pas_data bq aK ct cR cy
   refine zzf (zza 52 (.v (.slice (some ⟨aJ, 0, none⟩) 1 ar)) (zza 4 (.v (.slice (some ⟨aJ, 0, none⟩) 1 ar)) (zzb (zzo (ret0 [.slice (some ⟨aJ, 0, none⟩) 1 ar] ⟨zzq, trivial⟩ fun dS b3 => ?_)))))
   exact ⟨(⟨some ⟨aJ, 0, none⟩, 1, ar⟩ : Sl), [(⟨(1 : Int) + ac, ad, 0⟩ : PL)], rfl, (bk.ext b3), pas_all1 aH, by simp⟩
  have bm : ¬ (((1 : Int) + ac) = 1) := by simpa using a9
  refine zzs (zzp ?_)
  have al : PasOK W.f (⟨(1 : Int) + ac, ad, ai⟩ : PL) := ⟨by show (1 : Int) + ac = 1 ∧ ai = 0 ∨ (1 : Int) + ac = 2; omega, by show _ < ad; omega, by show ad < _; omega, by show _ < ai; omega, by show ai < _; omega⟩
  refine zzf (zza 48 (.v (.slice none 0 0)) (zzi 49 (.v (.agg #[.int .i64 ((1 : Int) + ac), .int .i64 ad, .int .i64 ai])) ty168 zze (zxz 50 ⟨168, [.int .i64 ((1 : Int) + ac), .int .i64 ad, .int .i64 ai]⟩ 1 (fun cx dp aO b1 => ?_))))
  refine sy_app0 51 (T := 91) (E := 168) (z := .agg #[.int .i64 0, .int .i64 0, .int .i64 0]) (size := 3) (bytes := 24) (b := cx) (off := 0) (m := 1) [.int .i64 ((1 : Int) + ac), .int .i64 ad, .int .i64 ai] xj xj xj yj rfl (lit_news ((Ext.refl _).cells b1)) (pl_one (⟨(1 : Int) + ac, ad, ai⟩ : PL)) yj yj yj ?_
  intro ah aj bO bw bS bK
  have am : aj.take (1 * 3) = pcs [(⟨(1 : Int) + ac, ad, ai⟩ : PL)] := bK
  refine zza 5 (.slc 51 0 1 ah) (zzx ?_)
  refine zzp (zzf (zza 19 (zI 0) (zza 20 (zI 3) (zza 6 (zI 3) (zzx ?_)))))
  refine rn_next ?_
  refine sw_weak (T := St.of 53 [(0, .v (x.v)), (3, .adr 3 0), (5, .slc 51 0 1 ah), (6, zI 3)] [(3, ⟨66, [.int .i64 W.b, .int .i64 W.f, .int .i64 W.r, .int .i64 W.o]⟩), (51, ⟨168, aj⟩)]) yz ?_
  refine zzd (sq9 (zza 9 (zI 3) (zza 10 (zI 5) (zza 11 (.v (x.v)) (zza 12 (zI x.n) (zza 13 (zB (decide ((5 : Int) < (x.n : Int)))) ?_))))))
  rcases Bool.eq_false_or_eq_true (decide ((5 : Int) < (x.n : Int))) with hs121 | hs121
  ·refine zyq 14 (x := zB (decide ((5 : Int) < (x.n : Int)))) (zB true) (by rw [hs121]) ?_
   have qhs121 := of_decide_eq_true hs121
   refine zza 15 (.slc 51 0 1 ah) ?_ (hw := w1 5 true 14)
   refine zza 16 (zI 1) ?_ (hw := w1 5 true 14)
   refine zza 17 (zB true) ?_ (hw := w1 5 true 14)
   refine zza 18 (zB true) (zzc 53 [(0, .v (x.v)), (3, .adr 3 0), (5, .slc 51 0 1 ah), (6, zI 3), (18, zB true)] [(3, ⟨66, W.cs⟩), (51, ⟨168, aj⟩)] (zyr xj (zzs (zzp ?_))))
   refine zzd (zzt (zzd (zzz [0, 1, 3, 0, 0, 16, 56, 127, 255] [(0, []), (3, []), (4, []), (5, []), (6, []), (1, []), (2, []), (7, []), (8, [])] xj xj (zzi 21 (.v (W.v)) ty66 zze (zza 24 (.v (x.v)) (zza 25 (zI 3) (zza 26 (zI 4) ?_)))))))
   have hl122 := ((hx.ext (aC.t (ax.t (aE.t (aL.t (aZ.t (aW.t aO)))))))).1
   refine sy_tail 27 (n := x.n) (c := x.c) (i := 4) 4 sl22 xq xq ?_
   intro aP bE
   refine zzg 22 102 _ fun _ _ a3 b6 => Post.mono (k_wunit (W := W) b6 hW) ?_
   rintro _ ds a6 rfl
   refine zyq 23 (x := zI (IntKind.i64.wrap ((Nt.p2i W.f) - 1))) (zI ((Nt.p2i W.f) - 1)) yw (zzg 28 101 _ fun _ _ a7 cQ => Post.mono ((show Calls _ _ #[_, .slice (⟨aP, x.n - 4, x.c - 4⟩ : Sl).a (⟨aP, x.n - 4, x.c - 4⟩ : Sl).n (⟨aP, x.n - 4, x.c - 4⟩ : Sl).c, _] _ _ from k_below (x := (⟨aP, x.n - 4, x.c - 4⟩ : Sl)) (b := (Nt.p2i W.f) - 1) cQ ((ints_drop (m := 4) (hx.ext (aC.t (ax.t (aE.t (aL.t (aZ.t (aW.t aO))))))) xq bE).ext (a3.t (a6.t a7))) (bd_drop hb 4) xq xq)) ?_)
   rintro _ dY bQ ⟨az, ab, ae, rfl, cS, an, c2, c4, c1, c3⟩
   refine zza 7 (.v (az.v)) (zzb (zzd (zzz [0, 0, 3, 7, 15, 31, 0, 64, 192, 0, 512, 1536, 4032, 8191, 0, 32767] [(0, []), (1, []), (2, []), (3, []), (6, []), (7, []), (8, []), (9, []), (10, []), (11, []), (12, []), (14, []), (4, []), (5, []), (13, []), (15, [])] xj xj (zza 29 (.v (x.v)) (zza 30 (zI 3) ?_)))))
   have hl132 := ((hx.ext (aC.t (ax.t (aE.t (aL.t (aZ.t (aW.t (aO.t (a3.t (a6.t (a7.t bQ.ext)))))))))))).1
   obtain ⟨dQ, bD, ba, bI⟩ := ints_at (hx.ext (aC.t (ax.t (aE.t (aL.t (aZ.t (aW.t (aO.t (a3.t (a6.t (a7.t bQ.ext))))))))))) (i := 3) xq
   have hz132 := ints_bd hb xq 3
   refine zya 31 (bD + 3 * 1) (n := x.n) (off := bD) (sz := 1) (i := 3) xq ba xq xq sl22 (zyl 32 (.int .i64 (l.getD 3 0)) bI ty3 (zza 35 (.v (az.v)) ?_))
   have hl133 := (an).1
   obtain ⟨d7, bx, bB, bP⟩ := ints_at an (i := 0) xq
   have hz133 := ints_bd (bd_two (lo := -9223372036854775808) (hi := 9223372036854775807) (g := ab) (h := ae) ⟨by omega, by omega⟩ ⟨by omega, by omega⟩) xq 0
   refine zya 36 (bx + 0 * 1) (n := az.n) (off := bx) (sz := 1) (i := 0) xq bB xq xq sl22 (zyl 37 (.int .i64 ab) bP ty3 (zza 38 (.v (az.v)) ?_))
   have hl134 := (an).1
   obtain ⟨dc, bF, bC, br⟩ := ints_at an (i := 1) xq
   have hz134 := ints_bd (bd_two (lo := -9223372036854775808) (hi := 9223372036854775807) (g := ab) (h := ae) ⟨by omega, by omega⟩ ⟨by omega, by omega⟩) xq 1
   refine zya 39 (bF + 1 * 1) (n := az.n) (off := bF) (sz := 1) (i := 1) xq bC xq xq sl22 (zyl 40 (.int .i64 ae) br ty3 (zza 41 (.v (.agg #[.int .i64 ab, .int .i64 ae])) (zzk 8 ⟨168, [.int .i64 0, .int .i64 0, .int .i64 0]⟩ (zzg 33 100 _ fun _ _ _ cC => Post.mono ((show Calls _ _ #[.int .i64 (l.getD 3 0), .int .i64 2] _ _ from k_withinB (n := (l.getD 3 0)) (m := 2) cC xq xq xq xq)) ?_))))
   rintro _ dD dy ⟨aa, rfl, dP, dK⟩
   refine zyq 34 (x := zI (IntKind.i64.wrap ((1 : Int) + aa))) (zI ((1 : Int) + aa)) yw (zza 42 (.v (.agg #[.int .i64 ((1 : Int) + aa), .int .i64 ab, .int .i64 ae])) (zzj ⟨168, [.int .i64 ((1 : Int) + aa), .int .i64 ab, .int .i64 ae]⟩ ty168 ?_))
   refine zzb (zzd (sq9 (zza 43 (.adr 8 0) (zzi 44 (zI ((1 : Int) + aa)) ty3 zzl (zza 45 (zB (((1 : Int) + aa) == 1)) (zzb (zzu (b := ((1 : Int) + aa) == 1) xj (fun aB => ?_) (fun aB => ?_))))))))
   ·have a4 : (((1 : Int) + aa) = 1) := by simpa using aB
    refine zzf (zza 46 (.adr 8 1) (zza 47 (.adr 8 2) (zzj ⟨168, [.int .i64 ((1 : Int) + aa), .int .i64 ab, .int .i64 0]⟩ ty3 ?_)))
    refine zzc 53 [(0, .v (x.v)), (3, .adr 3 0), (5, .slc 51 0 1 ah), (6, zI 3), (8, .adr 8 0)] [(3, ⟨66, W.cs⟩), (8, ⟨168, [.int .i64 ((1 : Int) + aa), .int .i64 ab, .int .i64 0]⟩), (51, ⟨168, aj⟩)] ?_
    have aU : PasOK W.f (⟨(1 : Int) + aa, ab, 0⟩ : PL) := ⟨by show (1 : Int) + aa = 1 ∧ (0 : Int) = 0 ∨ (1 : Int) + aa = 2; omega, by show _ < ab; omega, by show ab < _; omega, by show _ < (0 : Int); omega, by show (0 : Int) < _; omega⟩
    refine zzf (zza 48 (.slc 51 0 1 ah) (zzi 49 (.v (.agg #[.int .i64 ((1 : Int) + aa), .int .i64 ab, .int .i64 0])) ty168 zze (zxz 50 ⟨168, [.int .i64 ((1 : Int) + aa), .int .i64 ab, .int .i64 0]⟩ 1 (fun cq dn ee cP => ?_))))
    refine sy_app1 51 (T := 91) (E := 168) (z := .agg #[.int .i64 0, .int .i64 0, .int .i64 0]) (size := 3) (bytes := 24) (b := cq) (off := 0) (m := 1) (n := 1) (cap := ah) (t := 51) (cs0 := aj) [5, 48, 51] [.int .i64 ((1 : Int) + aa), .int .i64 ab, .int .i64 0] xj xj xj yj rfl (lit_news ((Ext.refl _).cells cP)) (pl_one (⟨(1 : Int) + aa, ab, 0⟩ : PL)) yj yv xq xq xq xq xk ?_
    intro c148 av aq aV aT bt
    have aA : av.take (2 * 3) = pcs [(⟨(1 : Int) + ac, ad, ai⟩ : PL), (⟨(1 : Int) + aa, ab, 0⟩ : PL)] := by rw [show 2 * 3 = (1 + 1) * 3 from rfl, bt, am]; rfl
    replace aq : 2 ≤ c148 := aq
    refine zza 5 (.slc 51 0 2 c148) (zzx ?_)
    refine zzp (zzf (zza 19 (zI 3) (zza 20 (zI 6) (zza 6 (zI 6) (zzx ?_)))))
    refine rn_next ?_
    refine sw_weak (T := St.of 53 [(0, .v (x.v)), (3, .adr 3 0), (5, .slc 51 0 2 c148), (6, zI 6)] [(3, ⟨66, [.int .i64 W.b, .int .i64 W.f, .int .i64 W.r, .int .i64 W.o]⟩), (51, ⟨168, av⟩)]) yz ?_
    refine zzd (sq9 (zza 9 (zI 6) (zza 10 (zI 8) (zza 11 (.v (x.v)) (zza 12 (zI x.n) (zza 13 (zB (decide ((8 : Int) < (x.n : Int)))) ?_))))))
    rcases Bool.eq_false_or_eq_true (decide ((8 : Int) < (x.n : Int))) with hs149 | hs149
    ·refine zyq 14 (x := zB (decide ((8 : Int) < (x.n : Int)))) (zB true) (by rw [hs149]) ?_
     have qhs149 := of_decide_eq_true hs149
     refine zza 15 (.slc 51 0 2 c148) ?_ (hw := w1 5 true 14)
     refine zza 16 (zI 2) ?_ (hw := w1 5 true 14)
     refine zza 17 (zB false) ?_ (hw := w1 5 true 14)
     refine zza 18 (zB false) (zzc 53 [(0, .v (x.v)), (3, .adr 3 0), (5, .slc 51 0 2 c148), (6, zI 6), (18, zB false)] [(3, ⟨66, W.cs⟩), (51, ⟨168, av⟩)] (zys xj (zyc (zzp (zzd (zyp (r := 5) (t := 51) [5, 51] xk xj zk zk xj (fun aG ce db cV bJ => ?_)))))))
     have bG : PasV ce ⟨some ⟨aG, 0, none⟩, 2, c148⟩ [(⟨(1 : Int) + ac, ad, ai⟩ : PL), (⟨(1 : Int) + aa, ab, 0⟩ : PL)] := pas_data bJ aA aT aq aV
     refine zzf (zza 52 (.v (.slice (some ⟨aG, 0, none⟩) 2 c148)) (zza 4 (.v (.slice (some ⟨aG, 0, none⟩) 2 c148)) (zzb (zzo (ret0 [.slice (some ⟨aG, 0, none⟩) 2 c148] ⟨zzq, trivial⟩ fun dM cl => ?_)))))
     exact ⟨(⟨some ⟨aG, 0, none⟩, 2, c148⟩ : Sl), [(⟨(1 : Int) + ac, ad, ai⟩ : PL), (⟨(1 : Int) + aa, ab, 0⟩ : PL)], rfl, (bG.ext cl), pas_all2 al aU, by simp⟩
    refine zyq 14 (x := zB (decide ((8 : Int) < (x.n : Int)))) (zB false) (by rw [hs149]) ?_
    have qhs149 := of_decide_eq_false hs149
    refine zzn 15 (uw 5 true false 14) (zzn 16 (uw 5 true false 14) (zzn 17 (uw 5 true false 14) (zza 18 (zB false) (zzb (zys xj (zyc (zzp (zzd (zyp (r := 5) (t := 51) [5, 51] xk xj zk zk xj (fun ay cI dh c6 bh => ?_))))))))))
    have bi : PasV cI ⟨some ⟨ay, 0, none⟩, 2, c148⟩ [(⟨(1 : Int) + ac, ad, ai⟩ : PL), (⟨(1 : Int) + aa, ab, 0⟩ : PL)] := pas_data bh aA aT aq aV
    refine zzf (zza 52 (.v (.slice (some ⟨ay, 0, none⟩) 2 c148)) (zza 4 (.v (.slice (some ⟨ay, 0, none⟩) 2 c148)) (zzb (zzo (ret0 [.slice (some ⟨ay, 0, none⟩) 2 c148] ⟨zzq, trivial⟩ fun dI cA => ?_)))))
    exact ⟨(⟨some ⟨ay, 0, none⟩, 2, c148⟩ : Sl), [(⟨(1 : Int) + ac, ad, ai⟩ : PL), (⟨(1 : Int) + aa, ab, 0⟩ : PL)], rfl, (bi.ext cA), pas_all2 al aU, by simp⟩
   have a4 : ¬ (((1 : Int) + aa) = 1) := by simpa using aB
   refine zzs (zzp ?_)
   have aY : PasOK W.f (⟨(1 : Int) + aa, ab, ae⟩ : PL) := ⟨by show (1 : Int) + aa = 1 ∧ ae = 0 ∨ (1 : Int) + aa = 2; omega, by show _ < ab; omega, by show ab < _; omega, by show _ < ae; omega, by show ae < _; omega⟩
   refine zzf (zza 48 (.slc 51 0 1 ah) (zzi 49 (.v (.agg #[.int .i64 ((1 : Int) + aa), .int .i64 ab, .int .i64 ae])) ty168 zze (zxz 50 ⟨168, [.int .i64 ((1 : Int) + aa), .int .i64 ab, .int .i64 ae]⟩ 1 (fun cH dt ea cB => ?_))))
   refine sy_app1 51 (T := 91) (E := 168) (z := .agg #[.int .i64 0, .int .i64 0, .int .i64 0]) (size := 3) (bytes := 24) (b := cH) (off := 0) (m := 1) (n := 1) (cap := ah) (t := 51) (cs0 := aj) [5, 48, 51] [.int .i64 ((1 : Int) + aa), .int .i64 ab, .int .i64 ae] xj xj xj yj rfl (lit_news ((Ext.refl _).cells cB)) (pl_one (⟨(1 : Int) + aa, ab, ae⟩ : PL)) yj yv xq xq xq xq xk ?_
   intro c171 ap ao a1 aX bA
   have aI : ap.take (2 * 3) = pcs [(⟨(1 : Int) + ac, ad, ai⟩ : PL), (⟨(1 : Int) + aa, ab, ae⟩ : PL)] := by rw [show 2 * 3 = (1 + 1) * 3 from rfl, bA, am]; rfl
   replace ao : 2 ≤ c171 := ao
   refine zza 5 (.slc 51 0 2 c171) (zzx ?_)
   refine zzp (zzf (zza 19 (zI 3) (zza 20 (zI 6) (zza 6 (zI 6) (zzx ?_)))))
   refine rn_next ?_
   refine sw_weak (T := St.of 53 [(0, .v (x.v)), (3, .adr 3 0), (5, .slc 51 0 2 c171), (6, zI 6)] [(3, ⟨66, [.int .i64 W.b, .int .i64 W.f, .int .i64 W.r, .int .i64 W.o]⟩), (51, ⟨168, ap⟩)]) yz ?_
   refine zzd (sq9 (zza 9 (zI 6) (zza 10 (zI 8) (zza 11 (.v (x.v)) (zza 12 (zI x.n) (zza 13 (zB (decide ((8 : Int) < (x.n : Int)))) ?_))))))
   rcases Bool.eq_false_or_eq_true (decide ((8 : Int) < (x.n : Int))) with hs172 | hs172
   ·refine zyq 14 (x := zB (decide ((8 : Int) < (x.n : Int)))) (zB true) (by rw [hs172]) ?_
    have qhs172 := of_decide_eq_true hs172
    refine zza 15 (.slc 51 0 2 c171) ?_ (hw := w1 5 true 14)
    refine zza 16 (zI 2) ?_ (hw := w1 5 true 14)
    refine zza 17 (zB false) ?_ (hw := w1 5 true 14)
    refine zza 18 (zB false) (zzc 53 [(0, .v (x.v)), (3, .adr 3 0), (5, .slc 51 0 2 c171), (6, zI 6), (18, zB false)] [(3, ⟨66, W.cs⟩), (51, ⟨168, ap⟩)] (zys xj (zyc (zzp (zzd (zyp (r := 5) (t := 51) [5, 51] xk xj zk zk xj (fun aD b7 di c8 bo => ?_)))))))
    have bp : PasV b7 ⟨some ⟨aD, 0, none⟩, 2, c171⟩ [(⟨(1 : Int) + ac, ad, ai⟩ : PL), (⟨(1 : Int) + aa, ab, ae⟩ : PL)] := pas_data bo aI aX ao a1
    refine zzf (zza 52 (.v (.slice (some ⟨aD, 0, none⟩) 2 c171)) (zza 4 (.v (.slice (some ⟨aD, 0, none⟩) 2 c171)) (zzb (zzo (ret0 [.slice (some ⟨aD, 0, none⟩) 2 c171] ⟨zzq, trivial⟩ fun df cJ => ?_)))))
    exact ⟨(⟨some ⟨aD, 0, none⟩, 2, c171⟩ : Sl), [(⟨(1 : Int) + ac, ad, ai⟩ : PL), (⟨(1 : Int) + aa, ab, ae⟩ : PL)], rfl, (bp.ext cJ), pas_all2 al aY, by simp⟩
   refine zyq 14 (x := zB (decide ((8 : Int) < (x.n : Int)))) (zB false) (by rw [hs172]) ?_
   have qhs172 := of_decide_eq_false hs172
   refine zzn 15 (uw 5 true false 14) (zzn 16 (uw 5 true false 14) (zzn 17 (uw 5 true false 14) (zza 18 (zB false) (zzc 53 [(0, .v (x.v)), (3, .adr 3 0), (5, .slc 51 0 2 c171), (6, zI 6), (18, zB false)] [(3, ⟨66, W.cs⟩), (51, ⟨168, ap⟩)] (zys xj (zyc (zzp (zzd (zyp (r := 5) (t := 51) [5, 51] xk xj zk zk xj (fun aF cM dj cZ bR => ?_))))))))))
   have bu : PasV cM ⟨some ⟨aF, 0, none⟩, 2, c171⟩ [(⟨(1 : Int) + ac, ad, ai⟩ : PL), (⟨(1 : Int) + aa, ab, ae⟩ : PL)] := pas_data bR aI aX ao a1
   refine zzf (zza 52 (.v (.slice (some ⟨aF, 0, none⟩) 2 c171)) (zza 4 (.v (.slice (some ⟨aF, 0, none⟩) 2 c171)) (zzb (zzo (ret0 [.slice (some ⟨aF, 0, none⟩) 2 c171] ⟨zzq, trivial⟩ fun dX bX => ?_)))))
   exact ⟨(⟨some ⟨aF, 0, none⟩, 2, c171⟩ : Sl), [(⟨(1 : Int) + ac, ad, ai⟩ : PL), (⟨(1 : Int) + aa, ab, ae⟩ : PL)], rfl, (bu.ext bX), pas_all2 al aY, by simp⟩
  refine zyq 14 (x := zB (decide ((5 : Int) < (x.n : Int)))) (zB false) (by rw [hs121]) ?_
  have qhs121 := of_decide_eq_false hs121
  refine zzn 15 (uw 5 true false 14) (zzn 16 (uw 5 true false 14) (zzn 17 (uw 5 true false 14) (zza 18 (zB false) (zzb (zys xj (zyc (zzp (zzd (zyp (r := 5) (t := 51) [5, 51] xk xj zk zk xj (fun aw ck dW c7 bN => ?_))))))))))
  have bg : PasV ck ⟨some ⟨aw, 0, none⟩, 1, ah⟩ [(⟨(1 : Int) + ac, ad, ai⟩ : PL)] := pas_data bN am bS bO bw
  refine zzf (zza 52 (.v (.slice (some ⟨aw, 0, none⟩) 1 ah)) (zza 4 (.v (.slice (some ⟨aw, 0, none⟩) 1 ah)) (zzb (zzo (ret0 [.slice (some ⟨aw, 0, none⟩) 1 ah] ⟨zzq, trivial⟩ fun ec cc => ?_)))))
  exact ⟨(⟨some ⟨aw, 0, none⟩, 1, ah⟩ : Sl), [(⟨(1 : Int) + ac, ad, ai⟩ : PL)], rfl, (bg.ext cc), pas_all1 al, by simp⟩
 refine zyq 14 (x := zB (decide ((2 : Int) < (x.n : Int)))) (zB false) (by rw [hs11]) ?_
 have qhs11 := of_decide_eq_false hs11
 refine zzn 15 (uw 5 true false 14) (zzn 16 (uw 5 true false 14) (zzn 17 (uw 5 true false 14) (zza 18 (zB false) (zzb (zys xj (zyc (zzp (sq9 (zza 52 (.v (.slice none 0 0)) (zza 4 (.v (.slice none 0 0)) (zzb ?_)))))))))))
 refine zzo (ret0 [.slice none 0 0] ⟨zzq, trivial⟩ fun dU ed => ?_)
 exact ⟨⟨none, 0, 0⟩, [], rfl, pas_nil _, pas_all0, by decide⟩
set_option maxHeartbeats 1000000 in
theorem k_filter {u w : World} {x y : Sl} {l m : List Int} {W : WL} (d : Dat u w) (hx : SlR .i64 u x.a x.n x.c l) (hb : ∀ z ∈ l, -9223372036854775808 ≤ z ∧ z ≤ 9223372036854775807) (hy : SlR .i64 u y.a y.n y.c m) (hc : ∀ z ∈ m, -9223372036854775808 ≤ z ∧ z ≤ 9223372036854775807) (hW : WdOK W) : Calls Tryz.prog 48 #[.agg #[x.v, y.v], W.v] w (Post u w fun v u' => ∃ (y z : Sl) (L M : List PL), v = .agg #[y.v, z.v] ∧ PasV u' y L ∧ (∀ p ∈ L, PasOK W.f p) ∧ L.length ≤ 4 ∧ PasV u' z M ∧ (∀ p ∈ M, PasOK W.f p) ∧ M.length ≤ 4) := by
 refine zzm (args := [.agg #[x.v, y.v], .agg #[.int .i64 W.b, .int .i64 W.f, .int .i64 W.r, .int .i64 W.o]]) Tryz.func48 rfl Tryz.ntmps48 (rs := [.cell 4 93]) Tryz.results48 (le_b rfl) (le_b rfl) d ?_
 refine sq9 (zzk 2 ⟨90, [x.v, y.v]⟩ (zzk 3 ⟨66, W.cs⟩ (zzk 4 ⟨93, [.slice none 0 0, .slice none 0 0]⟩ (zzb (zzd (zzz [0, 1, 0, 7, 0, 16, 0, 127, 255, 511] [(0, []), (1, []), (2, []), (4, []), (5, []), (6, []), (3, []), (7, []), (8, []), (9, [])] xj xj (zza 5 (.adr 2 0) (zzi 6 (.v (x.v)) ty22 zzl (zzi 7 (.v (W.v)) ty66 zze (zza 9 (.adr 2 1) (zzi 10 (.v (y.v)) ty22 zzl ?_)))))))))))
 refine zzi 11 (.v (W.v)) ty66 zze (zzg 8 124 _ fun _ _ ag ao => Post.mono (k_sections (W := W) ao (hx.ext ag) hb hW) ?_)
 rintro _ u13 al ⟨aa, an, rfl, ak, ad, af⟩
 have hly12 := ak.len
 refine zzg 12 124 _ fun _ _ ai aq => Post.mono (k_sections (W := W) aq (hy.ext (ag.t (al.t ai))) hc hW) ?_
 rintro _ u18 am ⟨ab, ap, rfl, ah, ac, ae⟩
 have hly17 := ah.len
 refine zza 13 (.v (.agg #[aa.v, ab.v])) (zzj ⟨93, [aa.v, ab.v]⟩ ty93 ?_)
 refine zzb (zzo (ret0 [.agg #[aa.v, ab.v]] ⟨zzr ty93 zze, trivial⟩ fun u21 aj => ?_))
 exact ⟨aa, ab, an, ap, rfl, (ak.ext (ai.t (am.t aj))), ad, af, (ah.ext aj), ac, ae⟩
instance wdDec (W : WL) : Decidable (WdOK W) := by unfold WdOK; exact inferInstance
namespace Nt
def fitB (W : WL) (z : Int) : Bool := decide (-p2i (W.b - 1) ≤ z) && decide (z ≤ p2i (W.b - 1) - 1)
theorem fit_iff {W : WL} {z : Int} : fitB W z = true ↔ -p2i (W.b - 1) ≤ z ∧ z ≤ p2i (W.b - 1) - 1 := by unfold fitB; simp
variable {W : WL} {l m : List Int} {i : Nat}
theorem mem_getD {l : List Int} {z : Int} (h : z ∈ l) : ∃ i, i < l.length ∧ l.getD i 0 = z := by
 obtain ⟨i, hi, e⟩ := List.mem_iff_getElem.1 h
 exact ⟨i, hi, by rw [List.getD_eq_getElem?_getD, List.getElem?_eq_getElem hi]; exact e⟩
end Nt
theorem k_modeG {u w : World} {r : Int} (d : Dat u w) : Calls Tryz.prog 161 #[.int .i64 r] w (Post u w fun v _ => v = .bool (decide (1 ≤ r) && decide (r ≤ 3))) := by
 refine zzm (args := [.int .i64 r]) Tryz.func161 rfl Tryz.ntmps161 (rs := [.tmp 2]) Tryz.results161 (le_b rfl) (le_b rfl) d ?_
 refine sq9 (zza 2 (zB false) (zzb (sq9 (zza 3 (zI r) (zza 4 (zB (decide ((1 : Int) ≤ r))) ?_)))))
 rcases Bool.eq_false_or_eq_true (decide ((1 : Int) ≤ r)) with hs11 | hs11
 ·refine zyq 5 (x := zB (decide ((1 : Int) ≤ r))) (zB true) (by rw [hs11]) ?_
  have qhs11 := of_decide_eq_true hs11
  refine zza 6 (zI r) ?_ (hw := w1 2 true 5)
  refine zza 7 (zB (decide (r ≤ 3))) ?_ (hw := w1 2 true 5)
  refine zza 8 (zB (decide (r ≤ 3))) (zza 2 (zB (decide (r ≤ 3))) (zzb (zzo (ret0 [.bool (decide (r ≤ 3))] ⟨zzq, trivial⟩ fun u12 e13 => ?_))))
  show Value.bool _ = Value.bool _
  congr 1
  rw [Bool.eq_iff_iff]
  simp
  omega
 refine zyq 5 (x := zB (decide ((1 : Int) ≤ r))) (zB false) (by rw [hs11]) ?_
 have qhs11 := of_decide_eq_false hs11
 refine zzn 6 (uw 2 true false 5) (zzn 7 (uw 2 true false 5) (zza 8 (zB false) (zza 2 (zB false) (zzb (zzo (ret0 [.bool false] ⟨zzq, trivial⟩ fun u14 e15 => ?_))))))
 show Value.bool _ = Value.bool _
 congr 1
 rw [Bool.eq_iff_iff]
 simp
 omega
theorem k_fxValidG {u w : World} {W : WL} (d : Dat u w) : Calls Tryz.prog 103 #[W.v] w (Post u w fun v _ => v = .bool (decide (WdOK W))) := by
 refine zzm (args := [.agg #[.int .i64 W.b, .int .i64 W.f, .int .i64 W.r, .int .i64 W.o]]) Tryz.func103 rfl Tryz.ntmps103 (rs := [.tmp 2]) Tryz.results103 (le_b rfl) (le_b rfl) d ?_
 refine sq9 (zzk 1 ⟨66, W.cs⟩ (zza 2 (zB false) (zzb (zzd (sq9 (zza 3 (.adr 1 0) (zzi 4 (zI W.b) ty3 zzl (zza 5 (zB (decide (W.b < 4))) ?_))))))))
 rcases Bool.eq_false_or_eq_true (decide (W.b < 4)) with hs11 | hs11
 ·refine zyq 6 (x := zB (decide (W.b < 4))) (zB true) (by rw [hs11]) ?_
  have qhs11 := of_decide_eq_true hs11
  refine zzn 7 (uw 3 false true 6) (zzn 8 (uw 3 false true 6) (zzn 9 (uw 3 false true 6) (zza 10 (zB true) (zza 11 (zB true) (zzn 12 (uw 8 false true 11) (zzn 13 (uw 8 false true 11) (zzn 14 (uw 8 false true 11) (zza 15 (zB true) (zza 16 (zB true) (zzn 17 (uw 13 false true 16) (zzn 18 (uw 13 false true 16) ?_)))))))))))
  refine zzn 19 (uw 13 false true 16) (zzn 20 (uw 13 false true 16) (zzn 21 (uw 13 false true 16) (zza 22 (zB true) (zzb (zyr xj (sq9 (zza 2 (zB false) (zzb (zzo (zzw (ret0 [.bool false] ⟨zzq, trivial⟩ fun u12 e13 => ?_)))))))))))
  show Value.bool _ = Value.bool _
  congr 1
  exact (decide_eq_false (by unfold WdOK; omega)).symm
 refine zyq 6 (x := zB (decide (W.b < 4))) (zB false) (by rw [hs11]) ?_
 have qhs11 := of_decide_eq_false hs11
 refine zza 7 (.adr 1 0) ?_ (hw := w1 3 false 6)
 refine zzi 8 (zI W.b) ty3 zzl ?_ (hw := w1 3 false 6)
 refine zza 9 (zB (decide ((24 : Int) < W.b))) ?_ (hw := w1 3 false 6)
 refine zza 10 (zB (decide ((24 : Int) < W.b))) ?_
 rcases Bool.eq_false_or_eq_true (decide ((24 : Int) < W.b)) with hs14 | hs14
 ·refine zyq 11 (x := zB (decide ((24 : Int) < W.b))) (zB true) (by rw [hs14]) ?_
  have qhs14 := of_decide_eq_true hs14
  refine zzn 12 (uw 8 false true 11) (zzn 13 (uw 8 false true 11) (zzn 14 (uw 8 false true 11) (zza 15 (zB true) (zza 16 (zB true) (zzn 17 (uw 13 false true 16) (zzn 18 (uw 13 false true 16) (zzn 19 (uw 13 false true 16) (zzn 20 (uw 13 false true 16) (zzn 21 (uw 13 false true 16) (zza 22 (zB true) (zzb ?_)))))))))))
  refine zyr xj (sq9 (zza 2 (zB false) (zzb (zzo (zzw (ret0 [.bool false] ⟨zzq, trivial⟩ fun u15 e16 => ?_))))))
  show Value.bool _ = Value.bool _
  congr 1
  exact (decide_eq_false (by unfold WdOK; omega)).symm
 refine zyq 11 (x := zB (decide ((24 : Int) < W.b))) (zB false) (by rw [hs14]) ?_
 have qhs14 := of_decide_eq_false hs14
 refine zza 12 (.adr 1 1) ?_ (hw := w1 8 false 11)
 refine zzi 13 (zI W.f) ty3 zzl ?_ (hw := w1 8 false 11)
 refine zza 14 (zB (decide (W.f < 0))) ?_ (hw := w1 8 false 11)
 refine zza 15 (zB (decide (W.f < 0))) ?_
 rcases Bool.eq_false_or_eq_true (decide (W.f < 0)) with hs17 | hs17
 ·refine zyq 16 (x := zB (decide (W.f < 0))) (zB true) (by rw [hs17]) ?_
  have qhs17 := of_decide_eq_true hs17
  refine zzn 17 (uw 13 false true 16) (zzn 18 (uw 13 false true 16) (zzn 19 (uw 13 false true 16) (zzn 20 (uw 13 false true 16) (zzn 21 (uw 13 false true 16) (zza 22 (zB true) (zzb (zyr xj (sq9 (zza 2 (zB false) (zzb (zzo (zzw (ret0 [.bool false] ⟨zzq, trivial⟩ fun u18 e19 => ?_)))))))))))))
  show Value.bool _ = Value.bool _
  congr 1
  exact (decide_eq_false (by unfold WdOK; omega)).symm
 refine zyq 16 (x := zB (decide (W.f < 0))) (zB false) (by rw [hs17]) ?_
 have qhs17 := of_decide_eq_false hs17
 refine zza 17 (.adr 1 1) ?_ (hw := w1 13 false 16)
 refine zzi 18 (zI W.f) ty3 zzl ?_ (hw := w1 13 false 16)
 refine zza 19 (.adr 1 0) ?_ (hw := w1 13 false 16)
 refine zzi 20 (zI W.b) ty3 zzl ?_ (hw := w1 13 false 16)
 refine zza 21 (zB (decide (W.b ≤ W.f))) ?_ (hw := w1 13 false 16)
 refine zza 22 (zB (decide (W.b ≤ W.f))) (zzb (zzu (b := decide (W.b ≤ W.f)) xj (fun aa => ?_) (fun aa => ?_)))
 ·have qhb20 := of_decide_eq_true aa
  refine sq9 (zza 2 (zB false) (zzb (zzo (zzw (ret0 [.bool false] ⟨zzq, trivial⟩ fun u21 e22 => ?_)))))
  show Value.bool _ = Value.bool _
  congr 1
  exact (decide_eq_false (by unfold WdOK; omega)).symm
 have qhb20 := of_decide_eq_false aa
 refine zzs (zzp ?_)
 refine sq9 (zza 23 (.adr 1 2) (zzi 24 (zI W.r) ty3 zzl (zzg 25 161 _ fun _ _ _ ab => Post.mono (k_modeG ab (r := W.r)) ?_)))
 rintro _ u24 g25 rfl
 rcases Bool.eq_false_or_eq_true (decide (1 ≤ W.r) && decide (W.r ≤ 3)) with hs27 | hs27
 ·refine zyq 26 (x := zB (decide (1 ≤ W.r) && decide (W.r ≤ 3))) (zB true) (by rw [hs27]) ?_
  have qhs27 := hs27
  simp at qhs27
  refine zza 27 (.adr 1 3) ?_ (hw := w1 3 true 26)
  refine zzi 28 (zI W.o) ty3 zzl ?_ (hw := w1 3 true 26)
  refine zza 29 (zB (W.o == 1)) ?_ (hw := w1 3 true 26)
  rcases Bool.eq_false_or_eq_true (W.o == 1) with hs28 | hs28
  ·refine zyq 30 (x := zB (W.o == 1)) (zB true) (by rw [hs28]) ?_ (hw := w1 3 true 26)
   have qhs28 := hs28
   simp at qhs28
   refine zzn 31 (uw 7 false true 30) (zzn 32 (uw 7 false true 30) (zzn 33 (uw 7 false true 30) (zza 34 (zB true) ?_ (hw := w1 3 true 26))))
   refine zza 35 (zB true) (zza 2 (zB true) (zzc 36 [(2, zB true)] [] (zzo (ret0 [.bool true] ⟨zzq, trivial⟩ fun u29 e30 => ?_))))
   show Value.bool _ = Value.bool _
   congr 1
   exact (decide_eq_true (by unfold WdOK; omega)).symm
  refine zyq 30 (x := zB (W.o == 1)) (zB false) (by rw [hs28]) ?_ (hw := w1 3 true 26)
  have qhs28 := hs28
  simp at qhs28
  refine zza 31 (.adr 1 3) ?_ (hw := w1 7 false 30)
  refine zzi 32 (zI W.o) ty3 zzl ?_ (hw := w1 7 false 30)
  refine zza 33 (zB (W.o == 2)) ?_ (hw := w1 7 false 30)
  refine zza 34 (zB (W.o == 2)) ?_ (hw := w1 3 true 26)
  refine zza 35 (zB (W.o == 2)) (zza 2 (zB (W.o == 2)) (zzc 36 [(2, zB (W.o == 2))] [] (zzo (ret0 [.bool (W.o == 2)] ⟨zzq, trivial⟩ fun u31 e32 => ?_))))
  show Value.bool _ = Value.bool _
  congr 1
  rw [Bool.eq_iff_iff]
  simp
  unfold WdOK
  omega
 refine zyq 26 (x := zB (decide (1 ≤ W.r) && decide (W.r ≤ 3))) (zB false) (by rw [hs27]) ?_
 have qhs27 := hs27
 simp at qhs27
 refine zzn 27 (uw 3 true false 26) (zzn 28 (uw 3 true false 26) (zzn 29 (uw 3 true false 26) (zzn 30 (uw 3 true false 26) (zzn 31 (unwantedU (g := 7) (b := false) (t := 30) xj xj xj) (zzn 32 (unwantedU (g := 7) (b := false) (t := 30) xj xj xj) (zzn 33 (unwantedU (g := 7) (b := false) (t := 30) xj xj xj) (zzn 34 (uw 3 true false 26) (zza 35 (zB false) (zza 2 (zB false) (zzc 36 [(2, zB false)] [] (zzo (ret0 [.bool false] ⟨zzq, trivial⟩ fun u33 e34 => ?_))))))))))))
 show Value.bool _ = Value.bool _
 congr 1
 exact (decide_eq_false (by unfold WdOK; omega)).symm
theorem k_fxFitsG {u w : World} {W : WL} {z : Int} (d : Dat u w) (hW : WdOK W) : Calls Tryz.prog 162 #[W.v, .int .i64 z] w (Post u w fun v _ => v = .bool (Nt.fitB W z)) := by
 obtain ⟨hw1, hw2, hw3, hw4, hw5, hw6, hw7, hw8⟩ := id hW
 refine zzm (args := [.agg #[.int .i64 W.b, .int .i64 W.f, .int .i64 W.r, .int .i64 W.o], .int .i64 z]) Tryz.func162 rfl Tryz.ntmps162 (rs := [.tmp 4]) Tryz.results162 (le_b rfl) (le_b rfl) d ?_
 refine sq9 (zzk 2 ⟨66, W.cs⟩ (zza 4 (zB false) (zzb (sq9 (zzi 5 (.v (W.v)) ty66 zze (zzg 6 103 _ fun _ _ _ ac => Post.mono (k_fxValid (W := W) ac hW) ?_))))))
 rintro _ u12 g13 rfl
 refine zza 7 (zB true) (zza 8 (zI z) ?_ (hw := w1 2 true 7))
 refine zzi 9 (.v (W.v)) ty66 zze ?_ (hw := w1 2 true 7)
 refine zzg 10 207 _ (fun _ _ _ aa => Post.mono (k_fxLow (W := W) aa hW) ?_) (hw := w1 2 true 7)
 rintro _ u16 g17 rfl
 refine zza 11 (zB (decide ((-Nt.p2i (W.b - 1)) ≤ z))) ?_ (hw := w1 2 true 7)
 refine zza 12 (zB (decide ((-Nt.p2i (W.b - 1)) ≤ z))) ?_
 rcases Bool.eq_false_or_eq_true (decide ((-Nt.p2i (W.b - 1)) ≤ z)) with hs19 | hs19
 ·refine zyq 13 (x := zB (decide ((-Nt.p2i (W.b - 1)) ≤ z))) (zB true) (by rw [hs19]) ?_
  have qhs19 := of_decide_eq_true hs19
  refine zza 14 (zI z) ?_ (hw := w1 8 true 13)
  refine zzi 15 (.v (W.v)) ty66 zze ?_ (hw := w1 8 true 13)
  refine zzg 16 208 _ (fun _ _ _ ab => Post.mono (k_fxHigh (W := W) ab hW) ?_) (hw := w1 8 true 13)
  rintro _ u21 g22 rfl
  refine zza 17 (zB (decide (z ≤ (Nt.p2i (W.b - 1) - 1)))) ?_ (hw := w1 8 true 13)
  refine zza 18 (zB (decide (z ≤ (Nt.p2i (W.b - 1) - 1)))) (zza 4 (zB (decide (z ≤ (Nt.p2i (W.b - 1) - 1)))) (zzb (zzo (ret0 [.bool (decide (z ≤ (Nt.p2i (W.b - 1) - 1)))] ⟨zzq, trivial⟩ fun u24 e25 => ?_))))
  show Value.bool _ = Value.bool _
  first | rfl | (congr 1; rw [Bool.eq_iff_iff, Nt.fit_iff]; first | (simp; done) | (simp; omega))
 refine zyq 13 (x := zB (decide ((-Nt.p2i (W.b - 1)) ≤ z))) (zB false) (by rw [hs19]) ?_
 have qhs19 := of_decide_eq_false hs19
 refine zzn 14 (uw 8 true false 13) (zzn 15 (uw 8 true false 13) (zzn 16 (uw 8 true false 13) (zzn 17 (uw 8 true false 13) (zza 18 (zB false) (zza 4 (zB false) (zzb (zzo (ret0 [.bool false] ⟨zzq, trivial⟩ fun u26 e27 => ?_))))))))
 show Value.bool _ = Value.bool _
 first | rfl | (congr 1; rw [Bool.eq_iff_iff, Nt.fit_iff]; first | (simp; done) | (simp; omega))
namespace Nt
structure NetOK (D W : WL) (s : Nat) (N : List (List TL)) (nx : List Int) (q : Int) : Prop where
 hd : WdOK D
 hw : WdOK W
 hs : s ≤ 64
 hn : N.length ≤ 64
 hx : nx.length = s
 ht : ∀ k, k < N.length → (N.getD k []).length ≤ 64 ∧ ∀ j, j < (N.getD k []).length → 0 ≤ ((N.getD k []).getD j tl0).f ∧ ((N.getD k []).getD j tl0).f ≤ s + k ∧ (((N.getD k []).getD j tl0).c = p2i W.f ∨ fitB W ((N.getD k []).getD j tl0).c = true)
 hr : ∀ j, j < nx.length → 0 ≤ nx.getD j 0 ∧ nx.getD j 0 ≤ s + N.length
 hq : 0 ≤ q ∧ q ≤ s + N.length
variable {D W : WL} {s : Nat} {N : List (List TL)} {nx v0 st xs vals : List Int} {q : Int} {k j : Nat} {T : List TL}
end Nt
section
variable {w k lo lo' h b n c i j off : Nat} {tO tR : TypeId} {u u' u'' v : World} {w0 : Base} {u0 : World} {x y z : Sl} {Rs : List Sl} {Ls : List (List RL)} {L : List RL} {M : List (List Rat)} {l : List Rat} {r : RL} {q : Rat} {K K' : Nat} {a : Addr}
theorem MutQ.rown {ty : TypeId} (m : MutQ (1 * 3) ty lo u y (rcs L)) : y.n = L.length := by
 have h := m.1
 rw [zyy] at h; omega
end
def up2 (f : Nat → Nat → Option Rat) (i j : Nat) (q : Rat) (a b : Nat) : Option Rat := if a = i ∧ b = j then some q else f a b
def up1 (f : Nat → Nat) (i w : Nat) (a : Nat) : Nat := if a = i then w else f a
def upr (f : Nat → Nat → Option Rat) (i : Nat) (g : Nat → Option Rat) (a b : Nat) : Option Rat := if a = i then g b else f a b
def rowL (w : Nat) (f : Nat → Rat) : List Rat := (List.range w).map f
theorem rowL_len {w : Nat} {f : Nat → Rat} : (rowL w f).length = w := by simp [rowL]
theorem rowL_at {w j : Nat} {f : Nat → Rat} (h : j < w) : (rowL w f).getD j 0 = f j := by
 unfold rowL
 rw [List.getD_eq_getElem?_getD, List.getElem?_map, List.getElem?_range h]; rfl
structure SysE (tO tR : TypeId) (lo : Nat) (u : World) (x : Sl) (n : Nat) (Rs : List Sl) (Ls : List (List RL)) (lw : Nat → Nat) (val : Nat → Nat → Option Rat) (K : Nat) : Prop where
 out : MutQ 1 tO lo u x ((Rs.take n).map Sl.v)
 hn : n ≤ Rs.length
 len : Rs.length = Ls.length
 row : ∀ i, i < Ls.length → MutQ (1 * 3) tR lo u (Rs.getD i sl0) (rcs (Ls.getD i []))
 sep : ∀ i j, i < Ls.length → j < Ls.length → i ≠ j → Sep (Rs.getD i sl0) (Rs.getD j sl0)
 wid : ∀ i, i < Ls.length → (Ls.getD i []).length = lw i
 num : ∀ i j q, i < Ls.length → j < lw i → val i j = some q → RatN u ((Ls.getD i []).getD j rl0) q K
section
variable {lo lo' b n m c i j w : Nat} {tO tR : TypeId} {u u' u'' v : World} {w0 : Base} {u0 : World} {x y z : Sl} {Rs : List Sl} {Ls : List (List RL)} {L : List RL} {r : RL} {q : Rat} {K K' : Nat} {lw lw' : Nat → Nat} {val val' : Nat → Nat → Option Rat} {l : List Rat} {g : Nat → Option Rat} {f : Nat → Nat → Rat}
theorem SysE.ext (m : SysE tO tR lo u x n Rs Ls lw val K) (e : Ext u u') : SysE tO tR lo u' x n Rs Ls lw val K := ⟨m.out.ext e, m.hn, m.len, fun i hi => (m.row i hi).ext e, m.sep, m.wid, fun i j q hi hj hv => (m.num i j q hi hj hv).ext e⟩
theorem SysE.low (m : SysE tO tR lo u x n Rs Ls lw val K) (h : lo' ≤ lo) : SysE tO tR lo' u x n Rs Ls lw val K := ⟨m.out.low h, m.hn, m.len, fun i hi => (m.row i hi).low h, m.sep, m.wid, m.num⟩
theorem SysE.more (m : SysE tO tR lo u x n Rs Ls lw val K) (h : K ≤ K') : SysE tO tR lo u x n Rs Ls lw val K' := ⟨m.out, m.hn, m.len, m.row, m.sep, m.wid, fun i j q hi hj hv => (m.num i j q hi hj hv).more h⟩
theorem SysE.congr (m : SysE tO tR lo u x n Rs Ls lw val K) (h1 : ∀ i, i < Ls.length → lw i = lw' i) (h2 : ∀ i j q, i < Ls.length → j < lw i → val' i j = some q → val i j = some q) : SysE tO tR lo u x n Rs Ls lw' val' K :=
 ⟨m.out, m.hn, m.len, m.row, m.sep, fun i hi => (m.wid i hi).trans (h1 i hi), fun i j q hi hj hv => m.num i j q hi (by rw [h1 i hi]; exact hj) (h2 i j q hi (by rw [h1 i hi]; exact hj) hv)⟩
theorem SysE.xn (m : SysE tO tR lo u x n Rs Ls lw val K) : x.n = n := by
 have h1 := m.out.1
 have h2 := m.hn
 rw [List.length_map, List.length_take] at h1
 omega
theorem SysE.cell (m : SysE tO tR lo u x n Rs Ls lw val K) (hi : i < n) : ∃ b, x.a = some ⟨b, 0, none⟩ ∧ u.cell? ⟨b, 0 + i * 1, none⟩ = some (Rs.getD i sl0).v := by
 have hn := m.hn
 obtain ⟨b, h1, h2⟩ := m.out.mutL.cell (j := i) (by rw [List.length_map, List.length_take]; omega)
 refine ⟨b, h1, ?_⟩
 rw [Nat.mul_one, h2, List.getElem?_map, List.getElem?_take_of_lt hi, List.getD_eq_getElem?_getD, List.getElem?_eq_getElem xq]; rfl
theorem MutQ.mayA {k : Nat} {ty : TypeId} {cs : List Value} (m : MutQ k ty lo u y cs) (h : u0.heap.size ≤ lo) : ∀ a, y.a = some a → MayB w0 u0 a.block := fun a ha => by
 rcases m.2.2.2 with h1 | ⟨b, all, h1, h2, h3, h4, h5, _⟩
 ·rw [h1] at ha; cases ha
 rw [h1] at ha; injection ha with ha; subst ha; exact .inl (Nat.le_trans h h5)
theorem SysE.store (hT : tO ≠ tR) (m : SysE tO tR lo u x n Rs Ls lw val K) (hi : i < Ls.length) (hj : j < lw i) (h : MutQ (1 * 3) tR lo u' (Rs.getD i sl0) (rcs ((Ls.getD i []).set j r))) (e : ExtX (Rs.getD i sl0) u u') (hr : RatN u r q K) : SysE tO tR lo u' x n Rs (Ls.set i ((Ls.getD i []).set j r)) lw (up2 val i j q) K := by
 refine ⟨m.out.extT (e.t (m.row i hi).mutL) hT, m.hn, by rw [List.length_set]; exact m.len, fun a ha => ?_, fun a b ha hb => ?_, fun a ha => ?_, fun a b z ha hb hv => ?_⟩
 ·rw [List.length_set] at ha
  by_cases hia : i = a
  ·subst hia; rw [getD_set_same ha]; exact h
  rw [getD_set_other hia]; exact (m.row a ha).extS e (m.sep i a hi ha hia)
 ·rw [List.length_set] at ha hb; exact m.sep a b ha hb
 ·rw [List.length_set] at ha
  by_cases hia : i = a
  ·subst hia; rw [getD_set_same ha, List.length_set]; exact m.wid i ha
  rw [getD_set_other hia]; exact m.wid a ha
 rw [List.length_set] at ha
 have hw := m.wid i hi
 unfold up2 at hv
 by_cases hia : i = a
 ·subst hia
  rw [getD_set_same ha]
  by_cases hjb : j = b
  ·subst hjb
   rw [getD_set_same xq]
   rw [if_pos ⟨rfl, rfl⟩] at hv
   injection hv with hv
   subst hv
   exact (m.row i hi).keep e hr
  rw [getD_set_other hjb]
  rw [if_neg (fun h => hjb h.2.symm)] at hv
  exact (m.row i hi).keep e (m.num i b z hi hb hv)
 rw [getD_set_other hia]
 rw [if_neg (fun h => hia h.1.symm)] at hv
 exact (m.row i hi).keep e (m.num a b z ha hb hv)
theorem SysE.put (hT : tR ≠ tO) (m : SysE tO tR lo u x n Rs Ls lw val K) (hi : i < n) (ho : MutQ 1 tO lo u' x (((Rs.take n).set i y).map Sl.v)) (e : ExtX x u u') (hy : MutQ (1 * 3) tR lo u y (rcs L)) (hs : ∀ j, j < Ls.length → j ≠ i → Sep y (Rs.getD j sl0)) (hw : L.length = w) (hL : ∀ b q, b < w → g b = some q → RatN u (L.getD b rl0) q K) : SysE tO tR lo u' x n (Rs.set i y) (Ls.set i L) (up1 lw i w) (upr val i g) K := by
 have eT := e.t m.out.mutL
 have hn := m.hn
 have hlen := m.len
 have hir : i < Rs.length := by omega
 refine ⟨by rw [List.take_set]; exact ho, by rw [List.length_set]; exact hn, by rw [List.length_set, List.length_set]; exact hlen, fun j hj => ?_, fun a b ha hb hab => ?_, fun a ha => ?_, fun a b z ha hb hv => ?_⟩
 ·rw [List.length_set] at hj
  by_cases hij : i = j
  ·subst hij; rw [getD_set_same hj, getD_set_same hir]; exact hy.extT eT hT
  rw [getD_set_other hij, getD_set_other hij]; exact (m.row j hj).extT eT hT
 ·rw [List.length_set] at ha hb
  by_cases h1 : i = a
  ·subst h1
   rw [getD_set_same hir, getD_set_other hab]
   exact hs b hb (Ne.symm hab)
  rw [getD_set_other h1]
  by_cases h2 : i = b
  ·subst h2; rw [getD_set_same hir]; exact (hs a ha (Ne.symm h1)).symm
  rw [getD_set_other h2]; exact m.sep a b ha hb hab
 ·rw [List.length_set] at ha
  unfold up1
  by_cases h1 : i = a
  ·subst h1; rw [getD_set_same ha, if_pos rfl]; exact hw
  rw [getD_set_other h1, if_neg (Ne.symm h1)]; exact m.wid a ha
 rw [List.length_set] at ha
 unfold up1 at hb
 unfold upr at hv
 by_cases h1 : i = a
 ·subst h1; rw [if_pos rfl] at hb hv; rw [getD_set_same ha]; exact m.out.keep e (hL b z hb hv)
 rw [if_neg (Ne.symm h1)] at hb hv; rw [getD_set_other h1]; exact m.out.keep e (m.num a b z ha hb hv)
theorem SysE.nil (n : Nat) (ho : MutQ 1 tO lo u x ((List.replicate n sl0).map Sl.v)) : SysE tO tR lo u x n (List.replicate n sl0) (List.replicate n []) (fun _ => 0) val K := by
 have e : ∀ i, (List.replicate n sl0).getD i sl0 = sl0 := fun i => by
  rw [List.getD_eq_getElem?_getD, List.getElem?_replicate]; split <;> rfl
 have e2 : ∀ i, (List.replicate n ([] : List RL)).getD i [] = [] := fun i => by
  rw [List.getD_eq_getElem?_getD, List.getElem?_replicate]; split <;> rfl
 refine ⟨by rw [List.take_of_length_le zj]; exact ho, by simp, by simp, fun i _ => ?_, fun i j _ _ _ => ?_, fun i _ => by rw [e2]; rfl, fun i j _ _ h _ => absurd h (Nat.not_lt_zero j)⟩
 ·rw [e, e2]; exact MutQ.nil _ _ _ _
 rw [e]; exact fun a b ha => by cases ha
theorem SysE.add (m : SysE tO tR lo u x n Rs Ls lw val K) (hy : MutQ (1 * 3) tR lo u y (rcs L)) (hs : ∀ j, j < Ls.length → Sep y (Rs.getD j sl0)) (hw : L.length = w) (hL : ∀ b q, b < w → g b = some q → RatN u (L.getD b rl0) q K) : SysE tO tR lo u x n (Rs ++ [y]) (Ls ++ [L]) (up1 lw Ls.length w) (upr val Ls.length g) K := by
 have hl := m.len
 have hn := m.hn
 have g1 : ∀ {j : Nat}, j < Ls.length → (Rs ++ [y]).getD j sl0 = Rs.getD j sl0 := fun h => by rw [List.getD_eq_getElem?_getD, List.getElem?_append_left xq, ← List.getD_eq_getElem?_getD]
 have g2 : ∀ {j : Nat}, j < Ls.length → (Ls ++ [L]).getD j [] = Ls.getD j [] := fun h => by rw [List.getD_eq_getElem?_getD, List.getElem?_append_left xq, ← List.getD_eq_getElem?_getD]
 have g3 : (Rs ++ [y]).getD Ls.length sl0 = y := by rw [← hl, List.getD_eq_getElem?_getD, List.getElem?_append_right (Nat.le_refl _), Nat.sub_self]; rfl
 have g4 : (Ls ++ [L]).getD Ls.length [] = L := by rw [List.getD_eq_getElem?_getD, List.getElem?_append_right (Nat.le_refl _), Nat.sub_self]; rfl
 refine ⟨by rw [List.take_append_of_le_length hn]; exact m.out, by rw [List.length_append]; omega, by simp [hl], fun j hj => ?_, fun a b ha hb hab => ?_, fun a ha => ?_, fun a b z ha hb hv => ?_⟩
 ·rw [List.length_append, List.length_singleton] at hj
  rcases Nat.lt_or_ge j Ls.length with h1 | h1
  ·rw [g1 h1, g2 h1]; exact m.row j h1
  rw [show j = Ls.length by omega, g3, g4]; exact hy
 ·rw [List.length_append, List.length_singleton] at ha hb
  rcases Nat.lt_or_ge a Ls.length with h1 | h1 <;> rcases Nat.lt_or_ge b Ls.length with h2 | h2
  ·rw [g1 h1, g1 h2]; exact m.sep a b h1 h2 hab
  ·rw [g1 h1, show b = Ls.length by omega, g3]; exact (hs a h1).symm
  ·rw [g1 h2, show a = Ls.length by omega, g3]; exact hs b h2
  omega
 ·rw [List.length_append, List.length_singleton] at ha
  unfold up1
  rcases Nat.lt_or_ge a Ls.length with h1 | h1
  ·rw [g2 h1, if_neg xq]; exact m.wid a h1
  rw [show a = Ls.length by omega, g4, if_pos rfl]; exact hw
 rw [List.length_append, List.length_singleton] at ha
 unfold up1 at hb
 unfold upr at hv
 rcases Nat.lt_or_ge a Ls.length with h1 | h1
 ·rw [if_neg xq] at hb hv; rw [g2 h1]; exact m.num a b z h1 hb hv
 rw [if_pos xq] at hb hv; rw [show a = Ls.length by omega, g4]; exact hL b z hb hv
theorem SysE.fresh {n' c : Nat} (m : SysE tO tR lo u x n Rs Ls lw val K) (hb : u.heap.size ≤ b) : ∀ j, j < Ls.length → Sep ⟨some ⟨b, 0, none⟩, n', c⟩ (Rs.getD j sl0) := fun j hj a a' h1 h2 hc => by
 injection h1 with h1; subst h1
 have h3 := (m.row j hj).mutL.lt h2
 have hc : b = a'.block := hc
 omega
theorem SysE.rats (m : SysE tO tR lo u x n Rs Ls lw val K) (hi : i < Ls.length) (hv : ∀ j, j < lw i → val i j = some (f i j)) : RatsN u (Ls.getD i []) (rowL (lw i) (f i)) K := ⟨(m.wid i hi).trans rowL_len.symm, fun j hj => by
 rw [rowL_len] at hj
 rw [rowL_at hj]; exact m.num i j _ hi hj (hv j hj)⟩
theorem rats_fn (h : RatsN u L l K) : ∀ b q, b < l.length → some (l.getD b 0) = some q → RatN u (L.getD b rl0) q K := fun b q hb e => by injection e with e; subst e; exact h.2 b hb
theorem MutQ.pol {ty : TypeId} (m : MutQ (1 * 3) ty lo u y (rcs L)) (h : RatsN u L l K) : PolN u y l K := by
 obtain ⟨h1, h2, h3, h4⟩ := m
 refine ⟨L, ⟨by rw [h1], h2, h3, fun hp => ?_⟩, h⟩
 rcases h4 with h4 | ⟨b, all, k1, k2, k3, k4, _⟩
 ·rw [h4] at hp; exact absurd hp (Nat.lt_irrefl 0)
 refine ⟨b, 0, k1, fun j hj => ?_⟩
 rw [Nat.zero_add, cells_at k2, ← k4, List.getElem?_take_of_lt (by rw [h1] at hj; exact hj)]; simp
theorem SysE.pol (m : SysE tO tR lo u x n Rs Ls lw val K) (hi : i < Ls.length) (hv : ∀ j, j < lw i → val i j = some (f i j)) : PolN u (Rs.getD i sl0) (rowL (lw i) (f i)) K := (m.row i hi).pol (m.rats hi hv)
end
def MatV (u : World) (x : Sl) (n : Nat) (Rs : List Sl) (T : Nat → List Rat) (K : Nat) : Prop := x.n = n ∧ (∀ i, i < n → ∃ b, x.a = some ⟨b, 0, none⟩ ∧ u.cell? ⟨b, 0 + i * 1, none⟩ = some (Rs.getD i sl0).v) ∧ ∀ i, i < n → PolN u (Rs.getD i sl0) (T i) K
section
variable {lo b n m i j w : Nat} {tO tR : TypeId} {u u' : World} {x y : Sl} {Rs : List Sl} {Ls : List (List RL)} {K K' : Nat} {lw : Nat → Nat} {val : Nat → Nat → Option Rat} {f : Nat → Nat → Rat} {T T' : Nat → List Rat}
theorem MatV.ext (h : MatV u x n Rs T K) (e : Ext u u') : MatV u' x n Rs T K := ⟨h.1, fun i hi => by obtain ⟨b, h1, h2⟩ := h.2.1 i hi; exact ⟨b, h1, e.cell h2⟩, fun i hi => (h.2.2 i hi).ext e⟩
theorem MatV.more (h : MatV u x n Rs T K) (k : K ≤ K') : MatV u x n Rs T K' := ⟨h.1, h.2.1, fun i hi => (h.2.2 i hi).more k⟩
theorem SysE.matV (m : SysE tO tR lo u x n Rs Ls lw val K) (hv : ∀ i j, i < n → j < lw i → val i j = some (f i j)) : MatV u x n Rs (fun i => rowL (lw i) (f i)) K := by
 have h1 := m.hn
 have h2 := m.len
 exact ⟨m.xn, fun i hi => m.cell hi, fun i hi => m.pol xq (fun j hj => hv i j hi hj)⟩
end
end Go.Proofs.YtgmkhhfbckjaeaaGreat
namespace Go.Proofs.YtgmkhhfbckjaeaaGreat
namespace Nt
def cv (a y : Nat → Rat) (n : Nat) : Rat := su (fun i => a i * y (n - i)) (n + 1)
section
variable {a b y z : Nat → Rat} {n m N M : Nat} {k : Rat}
theorem cv_0 : cv a y 0 = a 0 * y 0 := by show (0 : Rat) + a 0 * y 0 = _; grind
theorem cv_s : cv a y (n + 1) = a 0 * y (n + 1) + cv (fun i => a (i + 1)) y n := by
 unfold cv
 rw [su_head]
 have e : su (fun i => a (i + 1) * y (n + 1 - (i + 1))) (n + 1) = su (fun i => a (i + 1) * y (n - i)) (n + 1) := su_congr (fun i _ => by rw [Nat.add_sub_add_right])
 rw [e]; rfl
theorem cv_comm (a y : Nat → Rat) : cv a y = cv y a := funext fun n => by
 unfold cv
 rw [← su_rev]
 exact su_congr (fun i hi => by rw [show n - (n - i) = i by omega]; grind)
theorem cv_lin {p : Rat} : cv (fun i => p * a i + b i) y n = p * cv a y n + cv b y n := by
 unfold cv
 rw [← su_mul, ← su_add]
 exact su_congr (fun i _ => by grind)
theorem cv_congr (ha : ∀ i, i ≤ n → a i = b i) (hy : ∀ i, i ≤ n → y i = z i) : cv a y n = cv b z n := su_congr (fun i hi => by rw [ha i xq, hy (n - i) xq])
theorem cv_assoc (a b y : Nat → Rat) (n : Nat) : cv (cv a b) y n = cv a (cv b y) n := by
 induction n generalizing a with
 | zero => rw [cv_0, cv_0, cv_0, cv_0]; grind
 | succ n ih =>
  rw [cv_s, cv_s (a := a), cv_s (a := b), cv_0]
  have e : (fun i => cv a b (i + 1)) = fun i => a 0 * (fun j => b (j + 1)) i + cv (fun j => a (j + 1)) b i := funext fun i => cv_s
  rw [e, cv_lin, ih]
  have e2 : cv (fun j => a (j + 1)) (cv b y) n = cv (fun i => a (i + 1)) (cv b y) n := rfl
  grind
def en (y : Nat → Rat) (N : Nat) : Rat := su (fun i => y i * y i) N
theorem sh_0 : sh y 0 = 0 := rfl
theorem sh_s : sh y (n + 1) = y n := rfl
def rv (m : Nat) (a : Nat → Rat) (i : Nat) : Rat := if i ≤ m then a (m - i) else 0
end
end Nt
namespace Nt
def mI (i j : Nat) : Rat := if i = j then 1 else 0
def mM (n : Nat) (A M : Nat → Nat → Rat) (i j : Nat) : Rat := su (fun k => A i k * M k j) n
def mP (n : Nat) (A : Nat → Nat → Rat) : Nat → Nat → Nat → Rat
 | 0 => mI
 | k + 1 => mM n A (mP n A k)
def mT (n : Nat) (A : Nat → Nat → Rat) : Rat := su (fun i => A i i) n
def flN (n : Nat) (T : Nat → Nat → Rat) (k : Nat) : Rat := mT n T * (((-1 : Int) : Rat) / (((k + 1 : Nat) : Int) : Rat))
def flM (n : Nat) (A : Nat → Nat → Rat) : Nat → Nat → Nat → Rat
 | 0 => mI
 | k + 1 => fun i j => mM n A (flM n A k) i j + (if i = j then flN n (mM n A (flM n A k)) k else 0)
def flC (n : Nat) (A : Nat → Nat → Rat) : Nat → Rat
 | 0 => 1
 | k + 1 => flN n (mM n A (flM n A k)) k
section
variable {n m k l : Nat} {A M : Nat → Nat → Rat} {a b p y : Nat → Rat} {i j : Nat}
theorem su_mulr (c : Rat) {f : Nat → Rat} : su (fun i => f i * c) n = su f n * c := by
 rw [Rat.mul_comm, ← su_mul]
 exact su_congr (fun i _ => Rat.mul_comm _ _)
theorem mM_su {F : Nat → Nat → Nat → Rat} {c : Nat → Rat} : mM n A (fun i j => su (fun l => c l * F l i j) m) i j = su (fun l => c l * mM n A (F l) i j) m := by
 unfold mM
 have e1 : su (fun k => A i k * su (fun l => c l * F l k j) m) n = su (fun k => su (fun l => c l * (A i k * F l k j)) m) n := su_congr (fun k _ => by
  rw [← su_mul]; exact su_congr (fun l _ => by grind))
 rw [e1, su_swap]
 exact su_congr (fun l _ => by rw [← su_mul])
theorem flM_pow (k : Nat) : flM n A k = fun i j => su (fun l => flC n A l * mP n A (k - l) i j) (k + 1) := by
 induction k with
 | zero => funext i j; show mI i j = 0 + 1 * mI i j; grind
 | succ k ih =>
  funext i j
  show mM n A (flM n A k) i j + (if i = j then flN n (mM n A (flM n A k)) k else 0) = _
  rw [su_s]
  have e1 : mM n A (flM n A k) i j = su (fun l => flC n A l * mP n A (k + 1 - l) i j) (k + 1) := by
   rw [ih, mM_su]
   exact su_congr (fun l hl => by rw [show k + 1 - l = (k - l) + 1 by omega]; rfl)
  have e2 : flC n A (k + 1) * mP n A (k + 1 - (k + 1)) i j = (if i = j then flN n (mM n A (flM n A k)) k else 0) := by
   rw [Nat.sub_self]
   show flN n (mM n A (flM n A k)) k * (if i = j then 1 else 0) = _
   split <;> grind
  rw [e2, ← e1]
def mp (n : Nat) (A : Nat → Nat → Rat) (k : Nat) : Rat := mT n (mP n A k)
theorem flM_tr (k : Nat) : mT n (mM n A (flM n A k)) = su (fun l => flC n A l * mp n A (k + 1 - l)) (k + 1) := by
 have e : mM n A (flM n A k) = fun i j => su (fun l => flC n A l * mP n A (k + 1 - l) i j) (k + 1) := by
  funext i j
  rw [flM_pow, mM_su]
  exact su_congr (fun l hl => by rw [show k + 1 - l = (k - l) + 1 by omega]; rfl)
 rw [e]
 unfold mp mT
 rw [su_swap]
 exact su_congr (fun l _ => by rw [su_mul])
def Newt (n : Nat) (A : Nat → Nat → Rat) (p : Nat → Rat) : Prop := p 0 = 1 ∧ ∀ k, (((k + 1 : Nat) : Int) : Rat) * p (k + 1) = -su (fun l => p l * mp n A (k + 1 - l)) (k + 1)
theorem castS_ne (k : Nat) : (((k + 1 : Nat) : Int) : Rat) ≠ 0 := fun h => by
 have h2 : ((k + 1 : Nat) : Int) = 0 := by exact_mod_cast h
 omega
theorem flC_of (h : Newt n A p) : ∀ k, flC n A k = p k := by
 intro k
 induction k using Nat.strongRecOn with
 | ind k ih =>
  cases k with
  | zero => exact h.1.symm
  | succ k =>
   show mT n (mM n A (flM n A k)) * (((-1 : Int) : Rat) / (((k + 1 : Nat) : Int) : Rat)) = _
   rw [flM_tr, su_congr (g := fun l => p l * mp n A (k + 1 - l)) (fun l hl => by rw [ih l xq])]
   have h1 := h.2 k
   have h2 := castS_ne k
   generalize su (fun l => p l * mp n A (k + 1 - l)) (k + 1) = s at *
   generalize (((k + 1 : Nat) : Int) : Rat) = z at *
   have h3 : ((-1 : Int) : Rat) = -1 := rfl
   rw [h3]
   have h4 : z * (z⁻¹) = 1 := Rat.mul_inv_cancel _ h2
   rw [Rat.div_def]
   grind
def hC (n : Nat) (A : Nat → Nat → Rat) (B C : Nat → Rat) (D : Rat) : Nat → Rat
 | 0 => D
 | k + 1 => su (fun i => C i * su (fun j => mP n A k i j * B j) n) n
theorem fl_num {B C : Nat → Rat} (k : Nat) : su (fun i => C i * su (fun j => flM n A k i j * B j) n) n = su (fun l => flC n A l * su (fun i => C i * su (fun j => mP n A (k - l) i j * B j) n) n) (k + 1) := by
 have e1 : ∀ i, su (fun j => flM n A k i j * B j) n = su (fun l => flC n A l * su (fun j => mP n A (k - l) i j * B j) n) (k + 1) := fun i => by
  rw [flM_pow]
  have e : su (fun j => su (fun l => flC n A l * mP n A (k - l) i j) (k + 1) * B j) n = su (fun j => su (fun l => flC n A l * (mP n A (k - l) i j * B j)) (k + 1)) n := su_congr (fun j _ => by
   rw [← su_mulr]; exact su_congr (fun l _ => by grind))
  rw [e, su_swap]
  exact su_congr (fun l _ => by rw [su_mul])
 have e2 : su (fun i => C i * su (fun j => flM n A k i j * B j) n) n = su (fun i => su (fun l => flC n A l * (C i * su (fun j => mP n A (k - l) i j * B j) n)) (k + 1)) n := su_congr (fun i _ => by
  rw [e1, ← su_mul]; exact su_congr (fun l _ => by grind))
 rw [e2, su_swap]
 exact su_congr (fun l _ => by rw [su_mul])
theorem fl_cv {B C : Nat → Rat} {D : Rat} (k : Nat) : (if k = 0 then 0 else su (fun i => C i * su (fun j => flM n A (k - 1) i j * B j) n) n) + flC n A k * D = cv (flC n A) (hC n A B C D) k := by
 cases k with
 | zero => rw [if_pos rfl, cv_0]; show (0 : Rat) + 1 * D = 1 * D; grind
 | succ k =>
  rw [if_neg xq, Nat.add_sub_cancel, fl_num]
  have e3 : cv (flC n A) (hC n A B C D) (k + 1) = su (fun i => flC n A i * hC n A B C D (k + 1 - i)) (k + 1) + flC n A (k + 1) * hC n A B C D (k + 1 - (k + 1)) := rfl
  rw [e3, Nat.sub_self]
  have e : su (fun i => flC n A i * hC n A B C D (k + 1 - i)) (k + 1) = su (fun l => flC n A l * su (fun i => C i * su (fun j => mP n A (k - l) i j * B j) n) n) (k + 1) := su_congr (fun l hl => by
   rw [show k + 1 - l = (k - l) + 1 by omega]; rfl)
  rw [e]; rfl
def lsX (n : Nat) (A : Nat → Nat → Rat) (B : Nat → Rat) : Nat → Nat → Rat
 | 0 => fun _ => 0
 | t + 1 => fun i => su (fun j => A i j * lsX n A B t j) n + B i * (if t = 0 then 1 else 0)
theorem lsX_pow {B : Nat → Rat} (t i : Nat) (hi : i < n) : lsX n A B (t + 1) i = su (fun j => mP n A t i j * B j) n := by
 induction t generalizing i with
 | zero =>
  show su (fun j => A i j * 0) n + B i * 1 = su (fun j => mI i j * B j) n
  rw [su_0 (fun j _ => by grind)]
  have e : ∀ m, i < m → su (fun j => mI i j * B j) m = B i := by
   intro m hm
   induction m with
   | zero => omega
   | succ m ih =>
    rw [su_s]
    unfold mI
    by_cases h : i = m
    ·subst h
     rw [if_pos rfl, su_0 (fun j hj => by rw [if_neg xq]; grind)]; grind
    rw [if_neg h]
    have := ih xq
    unfold mI at this
    rw [this]; grind
  rw [e n hi]; grind
 | succ t ih =>
  show su (fun j => A i j * lsX n A B (t + 1) j) n + B i * (if t + 1 = 0 then 1 else 0) = su (fun j => mM n A (mP n A t) i j * B j) n
  rw [if_neg xq, su_congr (g := fun j => A i j * su (fun k => mP n A t j k * B k) n) (fun j hj => by rw [ih j hj])]
  unfold mM
  have e1 : su (fun j => A i j * su (fun k => mP n A t j k * B k) n) n = su (fun j => su (fun k => A i j * mP n A t j k * B k) n) n := su_congr (fun j _ => by rw [← su_mul]; exact su_congr (fun k _ => by grind))
  have e2 : su (fun j => su (fun k => A i k * mP n A t k j) n * B j) n = su (fun j => su (fun k => A i k * mP n A t k j * B j) n) n := su_congr (fun j _ => by rw [← su_mulr])
  rw [e1, e2, su_swap]; grind
theorem hC_run {B C : Nat → Rat} {D : Rat} (t : Nat) : hC n A B C D t = su (fun i => C i * lsX n A B t i) n + D * (if t = 0 then 1 else 0) := by
 cases t with
 | zero => show D = su (fun i => C i * 0) n + D * 1; rw [su_0 (fun j _ => by grind)]; grind
 | succ t =>
  show su (fun i => C i * su (fun j => mP n A t i j * B j) n) n = _
  rw [if_neg xq, su_congr (g := fun i => C i * lsX n A B (t + 1) i) (fun i hi => by rw [lsX_pow t i hi])]; grind
end
end Nt
namespace Nt
section
variable {n n1 n2 m k l : Nat} {A M : Nat → Nat → Rat} {a b p q y : Nat → Rat} {i j : Nat}
def mD (n : Nat) (A : Nat → Nat → Rat) (i j : Nat) : Rat := A (n + i) (n + j)
theorem mP_blk (h : ∀ i j, i < n1 → n1 ≤ j → j < n1 + n2 → A i j = 0) (k : Nat) :
  (∀ i j, i < n1 → j < n1 → mP (n1 + n2) A k i j = mP n1 A k i j) ∧ (∀ i j, i < n1 → n1 ≤ j → j < n1 + n2 → mP (n1 + n2) A k i j = 0) ∧ (∀ i j, i < n2 → j < n2 → mP (n1 + n2) A k (n1 + i) (n1 + j) = mP n2 (mD n1 A) k i j) := by
 induction k with
 | zero =>
  refine ⟨fun i j _ _ => rfl, fun i j h1 h2 _ => ?_, fun i j _ _ => ?_⟩
  ·show (if i = j then (1 : Rat) else 0) = 0
   rw [if_neg xq]
  show (if n1 + i = n1 + j then (1 : Rat) else 0) = if i = j then 1 else 0
  by_cases e : i = j
  ·rw [if_pos e, if_pos xq]
  rw [if_neg e, if_neg xq]
 | succ k ih =>
  obtain ⟨i1, i2, i3⟩ := ih
  refine ⟨fun i j hi hj => ?_, fun i j hi hj hj2 => ?_, fun i j hi hj => ?_⟩
  ·show su (fun l => A i l * mP (n1 + n2) A k l j) (n1 + n2) = su (fun l => A i l * mP n1 A k l j) n1
   rw [su_split, su_congr (fun l hl => by rw [i1 l j hl hj]), su_0 (f := fun l => A i (n1 + l) * mP (n1 + n2) A k (n1 + l) j) (fun l hl => by rw [h i (n1 + l) hi xq xq]; grind)]
   grind
  ·show su (fun l => A i l * mP (n1 + n2) A k l j) (n1 + n2) = 0
   rw [su_split, su_0 (f := fun l => A i l * mP (n1 + n2) A k l j) (fun l hl => by rw [i2 l j hl hj hj2]; grind), su_0 (f := fun l => A i (n1 + l) * mP (n1 + n2) A k (n1 + l) j) (fun l hl => by rw [h i (n1 + l) hi xq xq]; grind)]
   grind
  show su (fun l => A (n1 + i) l * mP (n1 + n2) A k l (n1 + j)) (n1 + n2) = su (fun l => mD n1 A i l * mP n2 (mD n1 A) k l j) n2
  rw [su_split, su_0 (f := fun l => A (n1 + i) l * mP (n1 + n2) A k l (n1 + j)) (fun l hl => by rw [i2 l (n1 + j) hl xq xq]; grind), su_congr (f := fun l => A (n1 + i) (n1 + l) * mP (n1 + n2) A k (n1 + l) (n1 + j)) (fun l hl => by rw [i3 l j hl hj])]
  unfold mD
  grind
theorem mp_blk (h : ∀ i j, i < n1 → n1 ≤ j → j < n1 + n2 → A i j = 0) (k : Nat) : mp (n1 + n2) A k = mp n1 A k + mp n2 (mD n1 A) k := by
 obtain ⟨i1, i2, i3⟩ := mP_blk h k
 unfold mp mT
 rw [su_split, su_congr (f := fun i => mP (n1 + n2) A k i i) (fun i hi => i1 i i hi hi), su_congr (f := fun i => mP (n1 + n2) A k (n1 + i) (n1 + i)) (fun i hi => i3 i i hi hi)]
def dv (p : Nat → Rat) (k : Nat) : Rat := (((k + 1 : Nat) : Int) : Rat) * p (k + 1)
theorem dv_cv (k : Nat) : dv (cv p q) k = cv (dv p) q k + cv p (dv q) k := by
 unfold dv cv
 have e1 : su (fun i => (((i + 1 : Nat) : Int) : Rat) * p (i + 1) * q (k - i)) (k + 1) = su (fun i => ((i : Int) : Rat) * p i * q (k + 1 - i)) (k + 1 + 1) := by
  rw [su_head (f := fun i => ((i : Int) : Rat) * p i * q (k + 1 - i))]
  have e0 : (((0 : Nat) : Int) : Rat) = 0 := rfl
  rw [e0, su_congr (g := fun i => (((i + 1 : Nat) : Int) : Rat) * p (i + 1) * q (k - i)) (fun i hi => by first | rfl | rw [Nat.add_sub_add_right])]
  grind
 have e2 : su (fun i => p i * ((((k - i + 1 : Nat) : Int) : Rat) * q (k - i + 1))) (k + 1) = su (fun i => p i * ((((k + 1 - i : Nat) : Int) : Rat) * q (k + 1 - i))) (k + 1 + 1) := by
  rw [su_s (f := fun i => p i * ((((k + 1 - i : Nat) : Int) : Rat) * q (k + 1 - i))) (n := k + 1), Nat.sub_self]
  have e0 : (((0 : Nat) : Int) : Rat) = 0 := rfl
  rw [e0, su_congr (g := fun i => p i * ((((k + 1 - i : Nat) : Int) : Rat) * q (k + 1 - i))) (fun i hi => by rw [show k - i + 1 = k + 1 - i by omega])]
  grind
 rw [e1, e2, ← su_mul, ← su_add]
 refine su_congr (fun i hi => ?_)
 have e : ((((k + 1 : Nat) : Int)) : Rat) = ((i : Int) : Rat) + (((k + 1 - i : Nat) : Int) : Rat) := by
  rw [← Rat.intCast_add, ← Int.natCast_add, show i + (k + 1 - i) = k + 1 by omega]
 rw [e]; grind
theorem newt_iff : Newt n A p ↔ p 0 = 1 ∧ ∀ k, dv p k = -cv p (fun m => mp n A (m + 1)) k := by
 have e : ∀ k, su (fun l => p l * mp n A (k + 1 - l)) (k + 1) = cv p (fun m => mp n A (m + 1)) k := fun k => su_congr (fun l hl => by rw [show k + 1 - l = k - l + 1 by omega])
 constructor
 ·intro h; exact ⟨h.1, fun k => by rw [← e]; exact h.2 k⟩
 intro h; exact ⟨h.1, fun k => by rw [e]; exact h.2 k⟩
theorem cv_neg (k : Nat) : cv (fun i => -p i) q k = -cv p q k := by
 unfold cv
 rw [su_congr (g := fun i => (-1 : Rat) * (p i * q (k - i))) (fun i _ => by grind), su_mul]; grind
theorem cv_add_r (k : Nat) {r : Nat → Rat} : cv p (fun i => q i + r i) k = cv p q k + cv p r k := by
 unfold cv
 rw [← su_add]
 exact su_congr (fun i _ => by grind)
theorem Newt.step (h1 : Newt n1 A p) (h2 : Newt n2 (mD n1 A) q) (h : ∀ i j, i < n1 → n1 ≤ j → j < n1 + n2 → A i j = 0) : Newt (n1 + n2) A (cv p q) := by
 rw [newt_iff] at *
 refine ⟨by rw [cv_0, h1.1, h2.1]; grind, fun k => ?_⟩
 have d1 : dv p = fun k => -cv p (fun m => mp n1 A (m + 1)) k := funext h1.2
 have d2 : dv q = fun k => -cv q (fun m => mp n2 (mD n1 A) (m + 1)) k := funext h2.2
 have e : (fun m => mp (n1 + n2) A (m + 1)) = fun m => mp n1 A (m + 1) + mp n2 (mD n1 A) (m + 1) := funext fun m => mp_blk h (m + 1)
 rw [dv_cv, d1, d2, cv_neg, cv_comm p (fun k => -cv q _ k), cv_neg, e, cv_add_r]
 have a1 : cv (cv p (fun m => mp n1 A (m + 1))) q k = cv (cv p q) (fun m => mp n1 A (m + 1)) k := by
  rw [cv_assoc, cv_assoc, cv_comm (fun m => mp n1 A (m + 1)) q]
 have a2 : cv (cv q (fun m => mp n2 (mD n1 A) (m + 1))) p k = cv (cv p q) (fun m => mp n2 (mD n1 A) (m + 1)) k := by
  rw [cv_comm _ p, cv_assoc]
 rw [a1, a2]; grind
theorem su_three {f : Nat → Rat} (h : ∀ i, 3 ≤ i → f i = 0) : su f (m + 3) = f 0 + f 1 + f 2 := by
 induction m with
 | zero => show 0 + f 0 + f 1 + f 2 = _; grind
 | succ m ih => rw [show m + 1 + 3 = (m + 3) + 1 by omega, su_s, ih, h (m + 3) xq]; grind
theorem mp_z (k : Nat) : mp 0 A k = 0 := rfl
theorem newt_0 : Newt 0 A (fun i => if i = 0 then 1 else 0) := by
 refine ⟨rfl, fun k => ?_⟩
 show _ * (if k + 1 = 0 then (1 : Rat) else 0) = -su (fun l => (if l = 0 then (1 : Rat) else 0) * mp 0 A (k + 1 - l)) (k + 1)
 rw [if_neg xq, su_0 (fun i hi => by rw [mp_z, Rat.mul_zero]), Rat.mul_zero]; rfl
theorem mp_1 (k : Nat) : mp 1 A (k + 1) = A 0 0 * mp 1 A k := by
 show 0 + (0 + A 0 0 * mP 1 A k 0 0) = A 0 0 * (0 + mP 1 A k 0 0); grind
theorem mp_10 : mp 1 A 0 = 1 := by show (0 : Rat) + (if 0 = 0 then 1 else 0) = 1; grind
theorem newt_1 (h0 : p 0 = 1) (h1 : p 1 = -A 0 0) (h2 : ∀ i, 2 ≤ i → p i = 0) : Newt 1 A p := by
 refine ⟨h0, fun k => ?_⟩
 have m0 : mp 1 A 0 = 1 := mp_10
 match k with
 | 0 =>
  show ((1 : Int) : Rat) * p 1 = -(0 + p 0 * mp 1 A 1)
  have e1 : mp 1 A 1 = A 0 0 * mp 1 A 0 := mp_1 0
  rw [h1, h0, e1, m0]
  have : ((1 : Int) : Rat) = 1 := rfl
  rw [this]; grind
 | 1 =>
  show ((2 : Int) : Rat) * p 2 = -(0 + p 0 * mp 1 A 2 + p 1 * mp 1 A 1)
  have e2 : mp 1 A 2 = A 0 0 * mp 1 A 1 := mp_1 1
  rw [h2 2 xq, h1, h0, e2]; grind
 | k + 2 =>
  rw [h2 (k + 2 + 1) xq, show k + 2 + 1 = k + 3 by omega, su_three (fun i hi => by rw [h2 i xq]; grind), h0, h1, h2 2 xq, show k + 3 - 0 = (k + 2) + 1 by omega, show k + 3 - 1 = k + 2 by omega, mp_1]
  grind
theorem mP_2 (k i j : Nat) (hi : i < 2) : mP 2 A (k + 2) i j = (A 0 0 + A 1 1) * mP 2 A (k + 1) i j - (A 0 0 * A 1 1 - A 0 1 * A 1 0) * mP 2 A k i j := by
 have e : ∀ i, mP 2 A (k + 1) i j = A i 0 * mP 2 A k 0 j + A i 1 * mP 2 A k 1 j := fun i => by
  show 0 + A i 0 * mP 2 A k 0 j + A i 1 * mP 2 A k 1 j = _; grind
 have e2 : mP 2 A (k + 2) i j = A i 0 * mP 2 A (k + 1) 0 j + A i 1 * mP 2 A (k + 1) 1 j := by
  show 0 + A i 0 * mP 2 A (k + 1) 0 j + A i 1 * mP 2 A (k + 1) 1 j = _; grind
 rw [e2, e 0, e 1, e i]
 obtain rfl | rfl : i = 0 ∨ i = 1 := by omega
 ·grind
 grind
theorem mp_2 (k : Nat) : mp 2 A (k + 2) = (A 0 0 + A 1 1) * mp 2 A (k + 1) - (A 0 0 * A 1 1 - A 0 1 * A 1 0) * mp 2 A k := by
 show 0 + mP 2 A (k + 2) 0 0 + mP 2 A (k + 2) 1 1 = _ * (0 + mP 2 A (k + 1) 0 0 + mP 2 A (k + 1) 1 1) - _ * (0 + mP 2 A k 0 0 + mP 2 A k 1 1)
 rw [mP_2 k 0 0 xq, mP_2 k 1 1 xq]; grind
theorem mp_20 : mp 2 A 0 = 2 := by show (0 : Rat) + (if 0 = 0 then 1 else 0) + (if 1 = 1 then 1 else 0) = 2; rw [if_pos rfl, if_pos rfl]; grind
theorem mp_21 : mp 2 A 1 = A 0 0 + A 1 1 := by
 show 0 + (0 + A 0 0 * (if 0 = 0 then 1 else 0) + A 0 1 * (if 1 = 0 then 1 else 0)) + (0 + A 1 0 * (if 0 = 1 then 1 else 0) + A 1 1 * (if 1 = 1 then 1 else 0)) = _
 rw [if_pos rfl, if_neg yj, if_neg yj, if_pos rfl]; grind
theorem newt_2 (h0 : p 0 = 1) (h1 : p 1 = -(A 0 0 + A 1 1)) (h2 : p 2 = A 0 0 * A 1 1 - A 0 1 * A 1 0) (h3 : ∀ i, 3 ≤ i → p i = 0) : Newt 2 A p := by
 refine ⟨h0, fun k => ?_⟩
 have m0 : mp 2 A 0 = 2 := mp_20
 have m1 : mp 2 A 1 = A 0 0 + A 1 1 := mp_21
 have m2 : mp 2 A 2 = _ := mp_2 0
 match k with
 | 0 =>
  show ((1 : Int) : Rat) * p 1 = -(0 + p 0 * mp 2 A 1)
  have : ((1 : Int) : Rat) = 1 := rfl
  rw [h1, h0, m1, this]; grind
 | 1 =>
  show ((2 : Int) : Rat) * p 2 = -(0 + p 0 * mp 2 A 2 + p 1 * mp 2 A 1)
  have : ((2 : Int) : Rat) = 2 := rfl
  rw [h2, h1, h0, m2, m1, m0, this]; grind
 | k + 2 =>
  rw [h3 (k + 2 + 1) xq, show k + 2 + 1 = k + 3 by omega, su_three (fun i hi => by rw [h3 i hi]; grind), h0, h1, h2, show k + 3 - 0 = (k + 1) + 2 by omega, show k + 3 - 1 = k + 1 + 1 by omega, show k + 3 - 2 = k + 1 by omega, mp_2]
  grind
end
end Nt
open Go.RowKit
namespace Nt
abbrev UQ (f : Int) : Rat := ((p2i f : Int) : Rat)
theorem UQ_ne (f : Int) : UQ f ≠ 0 := fun e => by have h1 : p2i f = 0 := Rat.intCast_inj.1 e; have := zxq f; omega
def sumQ (v : List Rat) (T : List TL) (j : Nat) : Rat := su (fun i => (((T.getD i tl0).c : Int) : Rat) * v.getD (T.getD i tl0).f.toNat 0) j
def valQ (U : Rat) (N : List (List TL)) (v0 : List Rat) : Nat → List Rat
 | 0 => v0
 | k + 1 => valQ U N v0 k ++ [sumQ (valQ U N v0 k) (N.getD k []) (N.getD k []).length / U]
def unQ (m j : Nat) : List Rat := (List.range m).map fun i => if i = j then 1 else 0
def colQ (U : Rat) (N : List (List TL)) (s j : Nat) : List Rat := valQ U N (unQ (1 + s) j) N.length
def lnA (U : Rat) (N : List (List TL)) (s : Nat) (nx : List Int) (i j : Nat) : Rat := (colQ U N s (j + 1)).getD (nx.getD i 0).toNat 0
def lnB (U : Rat) (N : List (List TL)) (s : Nat) (nx : List Int) (i : Nat) : Rat := (colQ U N s 0).getD (nx.getD i 0).toNat 0
def lnC (U : Rat) (N : List (List TL)) (s : Nat) (q : Int) (j : Nat) : Rat := (colQ U N s (j + 1)).getD q.toNat 0
def lnD (U : Rat) (N : List (List TL)) (s : Nat) (q : Int) : Rat := (colQ U N s 0).getD q.toNat 0
section
variable {U c : Rat} {N : List (List TL)} {v0 v w : List Rat} {T : List TL} {s k m i j : Nat} {nx : List Int} {q : Int} {V W : Nat → Rat} {D Wd : WL}
theorem valQ_len : (valQ U N v0 k).length = v0.length + k := by
 induction k with
 | zero => rfl
 | succ k ih => unfold valQ; rw [List.length_append, ih]; rfl
theorem getD_appl {α : Type} {l m : List α} {z : α} {i : Nat} (h : i < l.length) : (l ++ m).getD i z = l.getD i z := by
 rw [List.getD_eq_getElem?_getD, List.getElem?_append_left h, ← List.getD_eq_getElem?_getD]
theorem getD_appr {α : Type} {l : List α} {x z : α} {i : Nat} (h : i = l.length) : (l ++ [x]).getD i z = x := by
 subst h; rw [List.getD_eq_getElem?_getD, List.getElem?_append_right (Nat.le_refl _), Nat.sub_self]; rfl
theorem valQ_pre (h : i < v0.length + k) : ∀ m, k ≤ m → (valQ U N v0 m).getD i 0 = (valQ U N v0 k).getD i 0 := by
 intro m hm
 induction m with
 | zero => obtain rfl : k = 0 := by omega
           rfl
 | succ m ih =>
  by_cases e : k = m + 1
  ·rw [e]
  rw [← ih xq]
  exact getD_appl (by rw [valQ_len]; omega)
theorem unQ_len (m j : Nat) : (unQ m j).length = m := by simp [unQ]
theorem unQ_at (h : i < m) : (unQ m j).getD i 0 = if i = j then 1 else 0 := by
 unfold unQ
 rw [List.getD_eq_getElem?_getD, List.getElem?_map, List.getElem?_range h]; rfl
def VE (U : Rat) (N : List (List TL)) (s : Nat) (V : Nat → Rat) : Prop := ∀ k, k < N.length → V (1 + s + k) = su (fun i => ((((N.getD k []).getD i tl0).c : Int) : Rat) * V ((N.getD k []).getD i tl0).f.toNat) (N.getD k []).length / U
def Back (N : List (List TL)) (s : Nat) : Prop := ∀ k, k < N.length → ∀ i, i < (N.getD k []).length → ((N.getD k []).getD i tl0).f.toNat < 1 + s + k
theorem Back.of (h : NetOK D Wd s N nx q) : Back N s := fun k hk i hi => by
 have h2 := (h.ht k hk).2 i hi
 omega
theorem VE.val (hb : Back N s) (hl : v0.length = 1 + s) : VE U N s (fun i => (valQ U N v0 N.length).getD i 0) := fun k hk => by
 show (valQ U N v0 N.length).getD (1 + s + k) 0 = _
 rw [valQ_pre (k := k + 1) xq N.length xq]
 have e1 : (valQ U N v0 (k + 1)).getD (1 + s + k) 0 = sumQ (valQ U N v0 k) (N.getD k []) (N.getD k []).length / U := getD_appr (by rw [valQ_len, hl])
 rw [e1]
 unfold sumQ
 rw [su_congr (fun i hi => by rw [← valQ_pre (k := k) (by have := hb k hk i hi; omega) N.length xq])]
theorem VE.init (hl : v0.length = 1 + s) (h : i < 1 + s) : (valQ U N v0 N.length).getD i 0 = v0.getD i 0 := valQ_pre (k := 0) xq _ (Nat.zero_le _)
theorem VE.uniq (hb : Back N s) (hV : VE U N s V) (hW : VE U N s W) (h0 : ∀ i, i < 1 + s → V i = W i) : ∀ i, i < 1 + s + N.length → V i = W i := by
 intro i
 induction i using Nat.strongRecOn with
 | ind i ih =>
  intro hi
  by_cases e : i < 1 + s
  ·exact h0 i e
  obtain ⟨k, rfl⟩ : ∃ k, i = 1 + s + k := ⟨i - (1 + s), by omega⟩
  rw [hV k xq, hW k xq, su_congr (fun j hj => by rw [ih _ (hb k xq j hj) (by have := hb k xq j hj; omega)])]
theorem VE.lin (hV : VE U N s V) (hW : VE U N s W) : VE U N s (fun i => c * V i + W i) := fun k hk => by
 show c * V (1 + s + k) + W (1 + s + k) = _
 rw [hV k hk, hW k hk, Rat.div_def, Rat.div_def, Rat.div_def, ← Rat.mul_assoc, ← su_mul, ← Rat.add_mul, ← su_add]
 congr 1
 exact su_congr (fun i _ => by grind)
theorem VE.zero : VE U N s (fun _ => 0) := fun k hk => by
 show (0 : Rat) = _
 rw [su_0 (fun i _ => by grind), Rat.div_def]; grind
theorem VE.sum {F : Nat → Nat → Rat} {a : Nat → Rat} (h : ∀ j, j < m → VE U N s (F j)) : VE U N s (fun i => su (fun j => a j * F j i) m) := by
 induction m with
 | zero => exact VE.zero
 | succ m ih =>
  have h1 := VE.lin (c := a m) (h m xq) (ih (fun j hj => h j xq))
  have e : (fun i => su (fun j => a j * F j i) (m + 1)) = fun i => a m * F m i + su (fun j => a j * F j i) m := funext fun i => by rw [su_s]; grind
  rw [e]; exact h1
theorem col_ve (hb : Back N s) (j : Nat) : VE U N s (fun i => (colQ U N s j).getD i 0) := VE.val hb (unQ_len _ _)
theorem col_init (h : i < 1 + s) : (colQ U N s j).getD i 0 = if i = j then 1 else 0 := by
 unfold colQ
 rw [VE.init (unQ_len _ _) h, unQ_at h]
theorem su_pick {f : Nat → Rat} (hk : k < m) : su (fun j => f j * (if k = j then 1 else 0)) m = f k := by
 induction m with
 | zero => omega
 | succ m ih =>
  rw [su_s]
  by_cases e : k = m
  ·subst e
   rw [if_pos rfl, su_0 (fun j hj => by rw [if_neg xq]; grind)]; grind
  rw [ih xq, if_neg e]; grind
theorem VE.made (hb : Back N s) (hV : VE U N s V) (hi : i < 1 + s + N.length) : V i = su (fun j => V j * (colQ U N s j).getD i 0) (1 + s) := by
 refine VE.uniq hb hV (VE.sum (a := V) (F := fun j i => (colQ U N s j).getD i 0) (fun j _ => col_ve hb j)) (fun i hi => ?_) i hi
 show V i = su (fun j => V j * (colQ U N s j).getD i 0) (1 + s)
 rw [su_congr (g := fun j => V j * (if i = j then 1 else 0)) (fun j hj => by rw [col_init hi]), su_pick hi]
structure Imp (U : Rat) (N : List (List TL)) (s : Nat) (nx : List Int) (V : Nat → Nat → Rat) : Prop where
 ve : ∀ t, VE U N s (V t)
 inp : ∀ t, V t 0 = if t = 0 then 1 else 0
 st0 : ∀ i, i < s → V 0 (1 + i) = 0
 st : ∀ t i, i < s → V (t + 1) (1 + i) = V t (nx.getD i 0).toNat
theorem net_run (hb : Back N s) (hnx : ∀ i, i < s → (nx.getD i 0).toNat < 1 + s + N.length) (hq : q.toNat < 1 + s + N.length) : ∃ V, Imp U N s nx V ∧ ∀ t, hC s (lnA U N s nx) (lnB U N s nx) (lnC U N s q) (lnD U N s q) t = V t q.toNat := by
 let x := lsX s (lnA U N s nx) (lnB U N s nx)
 let z : Nat → Rat := fun t => if t = 0 then 1 else 0
 let v0 : Nat → List Rat := fun t => (List.range (1 + s)).map fun i => if i = 0 then z t else x t (i - 1)
 let V : Nat → Nat → Rat := fun t i => (valQ U N (v0 t) N.length).getD i 0
 have hl : ∀ t, (v0 t).length = 1 + s := fun t => by simp [v0]
 have h0 : ∀ t i, i < 1 + s → V t i = if i = 0 then z t else x t (i - 1) := fun t i hi => by
  show (valQ U N (v0 t) N.length).getD i 0 = _
  rw [VE.init (hl t) hi]
  show ((List.range (1 + s)).map _).getD i 0 = _
  rw [List.getD_eq_getElem?_getD, List.getElem?_map, List.getElem?_range hi]; rfl
 have hve : ∀ t, VE U N s (V t) := fun t => VE.val hb (hl t)
 have hmade : ∀ t i, i < 1 + s + N.length → V t i = z t * (colQ U N s 0).getD i 0 + su (fun j => x t j * (colQ U N s (j + 1)).getD i 0) s := fun t i hi => by
  rw [VE.made hb (hve t) hi, Nat.add_comm 1 s, su_head, h0 t 0 xq, if_pos rfl]
  congr 1
  exact su_congr (fun j hj => by rw [h0 t (j + 1) xq, if_neg xq, Nat.add_sub_cancel])
 refine ⟨V, ⟨hve, fun t => ?_, fun i hi => ?_, fun t i hi => ?_⟩, fun t => ?_⟩
 ·rw [h0 t 0 xq, if_pos rfl]
 ·rw [h0 0 (1 + i) xq, if_neg xq]; rfl
 ·rw [h0 (t + 1) (1 + i) xq, if_neg xq, hmade t _ (hnx i hi), Nat.add_sub_cancel_left]
  show su (fun j => lnA U N s nx i j * x t j) s + lnB U N s nx i * z t = _
  rw [su_congr (g := fun j => x t j * (colQ U N s (j + 1)).getD (nx.getD i 0).toNat 0) (fun j hj => by unfold lnA; grind)]
  unfold lnB
  grind
 rw [hC_run, hmade t _ hq, su_congr (g := fun j => x t j * (colQ U N s (j + 1)).getD q.toNat 0) (fun j hj => by unfold lnC; show _ * x t j = _; grind)]
 unfold lnD
 show _ + _ * z t = _
 grind
theorem lnA_col (hb : Back N s) (j : Nat) : ∃ W : Nat → Rat, VE U N s W ∧ W 0 = 0 ∧ (∀ i, i < s → W (1 + i) = if i = j then 1 else 0) ∧ ∀ i, lnA U N s nx i j = W (nx.getD i 0).toNat :=
 ⟨fun i => (colQ U N s (j + 1)).getD i 0, col_ve hb _, (by show (colQ U N s (j + 1)).getD 0 0 = 0; rw [col_init xq, if_neg xq]), (fun i hi => by
  show (colQ U N s (j + 1)).getD (1 + i) 0 = _
  rw [col_init xq]
  by_cases e : i = j
  ·rw [if_pos e, if_pos xq]
  rw [if_neg e, if_neg xq]), fun i => rfl⟩
theorem fl_transfer {p b : Nat → Rat} (hb : Back N s) (hnx : ∀ i, i < s → (nx.getD i 0).toNat < 1 + s + N.length) (hq : q.toNat < 1 + s + N.length) (hp : ∀ k, k ≤ s → flC s (lnA U N s nx) k = p k) (hh : ∀ V, Imp U N s nx V → ∀ k, k ≤ s → cv p (fun t => V t q.toNat) k = b k) :
  ∀ k, k ≤ s → (if k = 0 then 0 else su (fun i => lnC U N s q i * su (fun j => flM s (lnA U N s nx) (k - 1) i j * lnB U N s nx j) s) s) + flC s (lnA U N s nx) k * lnD U N s q = b k := by
 intro k hk
 obtain ⟨V, hV, hO⟩ := net_run (U := U) (nx := nx) (q := q) hb hnx hq
 rw [fl_cv, show hC s (lnA U N s nx) (lnB U N s nx) (lnC U N s q) (lnD U N s q) = fun t => V t q.toNat from funext hO, ← hh V hV k hk]
 exact cv_congr (fun i hi => hp i xq) (fun i _ => rfl)
end
end Nt
namespace Nt
section
variable {n k i j m A B b D a : Nat} {F : Nat → Rat} {x y : Rat}
theorem wh_su (h : ∀ i, i < n → Wh (F i) A) (hn : n ≤ 2 ^ b) : Wh (su F n) (A + b) := by
 have key : ∀ m, m ≤ n → ∃ z : Int, su F m = (z : Rat) ∧ z.natAbs ≤ m * 2 ^ A := by
  intro m
  induction m with
  | zero => exact fun _ => ⟨0, rfl, by simp⟩
  | succ m ih =>
   intro hm
   obtain ⟨z, h1, h2⟩ := ih xq
   obtain ⟨y, h3, h4⟩ := h m xq
   refine ⟨z + y, by rw [su_s, h1, h3, Rat.intCast_add], ?_⟩
   have := Int.natAbs_add_le z y
   rw [Nat.add_mul]; omega
 obtain ⟨z, h1, h2⟩ := key n (Nat.le_refl _)
 refine ⟨z, h1, Nat.le_trans h2 ?_⟩
 rw [Nat.pow_add, Nat.mul_comm (2 ^ A)]
 exact Nat.mul_le_mul_right _ hn
def Wd (x : Rat) (D A : Nat) : Prop := Wh (x * ((D : Int) : Rat)) A
theorem Wd.more (h : Wd x D A) (k : A ≤ B) : Wd x D B := Wh.more h k
theorem Wd.zero (D A : Nat) : Wd 0 D A := by unfold Wd; rw [Rat.zero_mul]; exact Wh.zero _
theorem Wd.mul {E : Nat} (h : Wd x D A) (k : Wd y E B) : Wd (x * y) (D * E) (A + B) := by
 unfold Wd
 have e : x * y * (((D * E : Nat) : Int) : Rat) = (x * ((D : Int) : Rat)) * (y * ((E : Int) : Rat)) := by rw [Int.natCast_mul, Rat.intCast_mul]; grind
 rw [e]; exact Wh.mul h k
theorem Wd.over {E : Nat} (h : Wd x D A) (hE : E ≤ 2 ^ B) : Wd x (D * E) (A + B) := by
 unfold Wd
 have e : x * (((D * E : Nat) : Int) : Rat) = (x * ((D : Int) : Rat)) * ((E : Int) : Rat) := by rw [Int.natCast_mul, Rat.intCast_mul]; grind
 rw [e]; exact Wh.mul h ⟨(E : Int), rfl, by rw [Int.natAbs_natCast]; exact hE⟩
theorem Wd.su (h : ∀ i, i < n → Wd (F i) D A) (hn : n ≤ 2 ^ b) : Wd (su F n) D (A + b) := by
 unfold Wd
 rw [← su_mulr]
 exact wh_su h hn
theorem Wd.add (h : Wd x D A) (k : Wd y D A) : Wd (x + y) D (A + 1) := by
 unfold Wd
 rw [Rat.add_mul]; exact Wh.add h k
theorem Wd.int {z : Int} (hz : z.natAbs ≤ 2 ^ A) : Wd (z : Rat) 1 A := by
 unfold Wd
 exact ⟨z, by show (z : Rat) * ((1 : Int) : Rat) = z; have : ((1 : Int) : Rat) = 1 := rfl; rw [this, Rat.mul_one], hz⟩
theorem Wd.rs (h : Wd x D A) (h0 : 0 < D) (hD : D ≤ 2 ^ A) : rs x ≤ dg A := wh_rs h0 h hD
end
section
variable {D W : WL} {N : List (List TL)} {nx : List Int} {q : Int} {s j k i m : Nat}
theorem val_wd (hok : NetOK D W s N nx q) (j : Nat) : ∀ k, k ≤ N.length → ∀ i, Wd ((valQ (UQ W.f) N (unQ (1 + s) j) k).getD i 0) ((p2i W.f).toNat ^ k) (30 * k) := by
 have hp := zxq W.f
 have hw := hok.hw
 obtain ⟨w1, w2, w3, w4, w5, w6, w7, w8⟩ := id hw
 have hp24 := p2i_24 (n := W.f) xq
 have hpb : p2i (W.b - 1) ≤ 8388608 := zwh (b := 23) xq
 have hP : (p2i W.f).toNat ≤ 2 ^ 24 := by omega
 have hPU : UQ W.f = ((((p2i W.f).toNat : Nat) : Int) : Rat) := by rw [Int.toNat_of_nonneg xq]
 intro k
 induction k with
 | zero =>
  intro _ i
  show Wd ((unQ (1 + s) j).getD i 0) 1 0
  by_cases hi : i < 1 + s
  ·rw [unQ_at hi]
   split
   ·exact Wd.int (z := 1) yj
   exact Wd.zero _ _
  rw [List.getD_eq_getElem?_getD, List.getElem?_eq_none (by rw [unQ_len]; omega)]; exact Wd.zero _ _
 | succ k ih =>
  intro hk i
  have ih := ih xq
  have hl : (valQ (UQ W.f) N (unQ (1 + s) j) k).length = 1 + s + k := by rw [valQ_len, unQ_len]
  show Wd ((valQ (UQ W.f) N (unQ (1 + s) j) k ++ [sumQ (valQ (UQ W.f) N (unQ (1 + s) j) k) (N.getD k []) (N.getD k []).length / UQ W.f]).getD i 0) _ _
  rcases Nat.lt_trichotomy i (1 + s + k) with h | h | h
  ·rw [getD_appl xq, Nat.pow_succ]
   exact (Wd.over (ih i) hP).more xq
  ·rw [getD_appr xq, Nat.pow_succ]
   have hs : Wd (sumQ (valQ (UQ W.f) N (unQ (1 + s) j) k) (N.getD k []) (N.getD k []).length) ((p2i W.f).toNat ^ k) (24 + 30 * k + 6) := by
    obtain ⟨t1, t2⟩ := hok.ht k xq
    refine Wd.su (fun r hr => ?_) xq
    have h9 := (t2 r hr).2.2
    have hc : (((N.getD k []).getD r tl0).c).natAbs ≤ 2 ^ 24 := by
     rcases h9 with h9 | h9
     ·rw [h9]; omega
     have := fit_iff.1 h9; omega
    have := Wd.mul (Wd.int hc) (ih ((N.getD k []).getD r tl0).f.toNat)
    rw [Nat.one_mul] at this
    exact this
   have e : sumQ (valQ (UQ W.f) N (unQ (1 + s) j) k) (N.getD k []) (N.getD k []).length / UQ W.f * ((((p2i W.f).toNat ^ k * (p2i W.f).toNat : Nat) : Int) : Rat) = sumQ (valQ (UQ W.f) N (unQ (1 + s) j) k) (N.getD k []) (N.getD k []).length * ((((p2i W.f).toNat ^ k : Nat) : Int) : Rat) := by
    rw [Int.natCast_mul, Rat.intCast_mul, ← hPU]
    have h1 : UQ W.f * (UQ W.f)⁻¹ = 1 := Rat.mul_inv_cancel _ (fun e => by have h1 : p2i W.f = 0 := Rat.intCast_inj.1 e; omega)
    rw [Rat.div_def]; grind
   unfold Wd
   rw [e]
   exact Wh.more hs xq
  rw [List.getD_eq_getElem?_getD, List.getElem?_eq_none (by rw [List.length_append, hl]; simp; omega)]; exact Wd.zero _ _
theorem p_pow (hok : NetOK D W s N nx q) (k : Nat) : 0 < (p2i W.f).toNat ^ k ∧ (p2i W.f).toNat ^ k ≤ 2 ^ (30 * k) := by
 have hp := zxq W.f
 obtain ⟨w1, w2, w3, w4, w5, w6, w7, w8⟩ := id hok.hw
 have hp24 := p2i_24 (n := W.f) xq
 refine ⟨Nat.pow_pos xq, ?_⟩
 have h := Nat.pow_le_pow_left (show (p2i W.f).toNat ≤ 2 ^ 30 by omega) k
 rw [← Nat.pow_mul] at h
 exact h
theorem val_rs (hok : NetOK D W s N nx q) (j : Nat) {k : Nat} (hk : k ≤ N.length) (i : Nat) : rs ((valQ (UQ W.f) N (unQ (1 + s) j) k).getD i 0) ≤ 100 := by
 have h1 := p_pow hok k
 have h2 := (val_wd hok j k hk i).rs h1.1 h1.2
 have h3 := hok.hn
 unfold dg at h2; omega
theorem sum_rs (hok : NetOK D W s N nx q) (j : Nat) {k : Nat} (hk : k < N.length) {i : Nat} (hi : i ≤ (N.getD k []).length) : rs (sumQ (valQ (UQ W.f) N (unQ (1 + s) j) k) (N.getD k []) i) ≤ 100 := by
 obtain ⟨w1, w2, w3, w4, w5, w6, w7, w8⟩ := id hok.hw
 have hp24 := p2i_24 (n := W.f) xq
 have hpb : p2i (W.b - 1) ≤ 8388608 := zwh (b := 23) xq
 have hp := zxq W.f
 obtain ⟨t1, t2⟩ := hok.ht k hk
 have hs : Wd (sumQ (valQ (UQ W.f) N (unQ (1 + s) j) k) (N.getD k []) i) ((p2i W.f).toNat ^ k) (24 + 30 * k + 6) := by
  refine Wd.su (fun r hr => ?_) xq
  have h9 := (t2 r xq).2.2
  have hc : (((N.getD k []).getD r tl0).c).natAbs ≤ 2 ^ 24 := by
   rcases h9 with h9 | h9
   ·rw [h9]; omega
   have := fit_iff.1 h9; omega
  have := Wd.mul (Wd.int hc) (val_wd hok j k xq ((N.getD k []).getD r tl0).f.toNat)
  rw [Nat.one_mul] at this
  exact this
 have h1 := p_pow hok k
 have h2 := hs.rs h1.1 (Nat.le_trans h1.2 (Nat.pow_le_pow_right xq xq))
 have h3 := hok.hn
 unfold dg at h2; omega
end
structure FlB (n : Nat) (A : Nat → Nat → Rat) (B C : Nat → Rat) (D a : Nat) : Prop where
 hn : n ≤ 16
 h0 : 0 < D
 hD : D ≤ 2 ^ a
 hA : ∀ i j, Wd (A i j) D a
 hB : ∀ i, Wd (B i) D a
 hC : ∀ i, Wd (C i) D a
def fac : Nat → Nat
 | 0 => 1
 | k + 1 => fac k * (k + 1)
section
variable {n k i j m D a : Nat} {A : Nat → Nat → Rat} {B C : Nat → Rat}
def flE (D k : Nat) : Nat := D ^ k * fac k
theorem flE_s (D k : Nat) : flE D (k + 1) = (D * flE D k) * (k + 1) := by
 show D ^ (k + 1) * (fac k * (k + 1)) = D * (D ^ k * fac k) * (k + 1)
 rw [Nat.pow_succ, Nat.mul_comm (D ^ k) D, Nat.mul_assoc, Nat.mul_assoc, Nat.mul_assoc]
theorem FlB.e (h : FlB n A B C D a) : ∀ k, k ≤ 16 → 0 < flE D k ∧ flE D k ≤ 2 ^ (k * (a + 9)) := by
 intro k
 induction k with
 | zero => exact fun _ => ⟨(by show 0 < D ^ 0 * 1; rw [Nat.pow_zero]; decide), (by show D ^ 0 * 1 ≤ _; rw [Nat.pow_zero, Nat.zero_mul]; decide)⟩
 | succ k ih =>
  intro hk
  obtain ⟨i1, i2⟩ := ih xq
  rw [flE_s]
  refine ⟨Nat.mul_pos (Nat.mul_pos h.h0 i1) xq, ?_⟩
  have h1 := Nat.mul_le_mul (Nat.mul_le_mul h.hD i2) (show k + 1 ≤ 2 ^ 9 by omega)
  rw [← Nat.pow_add, ← Nat.pow_add] at h1
  exact Nat.le_trans h1 (Nat.pow_le_pow_right xq (by rw [Nat.add_mul]; omega))
theorem FlB.sum (h : FlB n A B C D a) {F G : Nat → Rat} {E b : Nat} (hF : ∀ l, Wd (F l) D a) (hG : ∀ l, l < n → Wd (G l) E b) (hm : m ≤ n) : Wd (su (fun l => F l * G l) m) (D * E) (a + b + 4) :=
 Wd.su (fun l hl => Wd.mul (hF l) (hG l xq)) (by have := h.hn; omega)
theorem FlB.mw (h : FlB n A B C D a) : ∀ k, k ≤ 16 → ∀ i j, i < n → j < n → Wd (flM n A k i j) (flE D k) (k * (a + 9)) := by
 intro k
 induction k with
 | zero =>
  intro _ i j _ _
  show Wd (if i = j then 1 else 0) (1 * 1) _
  split
  ·exact (Wd.int (z := 1) (by decide : (1 : Int).natAbs ≤ 2 ^ 0)).more xq
  exact Wd.zero _ _
 | succ k ih =>
  intro hk i j hi hj
  have ih := ih xq
  have hT : ∀ i j, j < n → Wd (mM n A (flM n A k) i j) (D * flE D k) (a + k * (a + 9) + 4) := fun i j hj => h.sum (h.hA i) (fun l hl => ih l j hl hj) (Nat.le_refl _)
  rw [flE_s]
  have h1 : Wd (mM n A (flM n A k) i j) (D * flE D k * (k + 1)) (a + k * (a + 9) + 8) := (Wd.over (hT i j hj) (show k + 1 ≤ 2 ^ 4 by omega)).more xq
  have h2 : Wd (if i = j then flN n (mM n A (flM n A k)) k else 0) (D * flE D k * (k + 1)) (a + k * (a + 9) + 8) := by
   split
   ·have ht : Wd (mT n (mM n A (flM n A k))) (D * flE D k) (a + k * (a + 9) + 4 + 4) := Wd.su (fun l hl => hT l l hl) (by have := h.hn; omega)
    obtain ⟨z, hz, hb⟩ := ht
    refine ⟨-z, ?_, by rw [Int.natAbs_neg]; exact Nat.le_trans hb (Nat.pow_le_pow_right xq xq)⟩
    have e1 : mT n (mM n A (flM n A k)) * (((D * flE D k : Nat) : Int) : Rat) = (z : Rat) := hz
    unfold flN
    have e5 : ((-z : Int) : Rat) = -(z : Rat) := Rat.intCast_neg z
    rw [Int.natCast_mul (D * flE D k), Rat.intCast_mul, e5, ← e1, Rat.div_def]
    have h3 : ((-1 : Int) : Rat) = -1 := rfl
    have h4 := Rat.mul_inv_cancel _ (castS_ne k)
    rw [h3]
    generalize (((k + 1 : Nat) : Int) : Rat) = y at *
    grind
   exact Wd.zero _ _
  exact (Wd.add h1 h2).more (by rw [Nat.add_mul]; omega)
theorem FlB.rs (h : FlB n A B C D a) (ha : a ≤ 1920) (hk : k ≤ n) (hm : m ≤ n) (hi : i < n) (hj : j < n) :
  Nt.rs (flM n A k i j) ≤ 2000 ∧ Nt.rs (su (fun l => A i l * flM n A k l j) m) ≤ 2000 ∧ Nt.rs (su (fun l => flM n A k i l * B l) m) ≤ 2000 ∧ Nt.rs (su (fun l => C l * su (fun r => flM n A k l r * B r) n) m) ≤ 2000 ∧ Nt.rs (su (fun l => mM n A (flM n A k) l l) m) ≤ 2000 := by
 have hn := h.hn
 have hk16 : k ≤ 16 := by omega
 obtain ⟨e1, e2⟩ := h.e k hk16
 have hM := h.mw k hk16
 have hkb : k * (a + 9) ≤ 16 * 1929 := Nat.mul_le_mul xq xq
 have d1 : 0 < D * flE D k := Nat.mul_pos h.h0 e1
 have d2 : D * flE D k ≤ 2 ^ (a + k * (a + 9) + 4) := by
  have := Nat.mul_le_mul h.hD e2
  rw [← Nat.pow_add] at this
  exact Nat.le_trans this (Nat.pow_le_pow_right xq xq)
 have dd : ∀ {b : Nat}, b ≤ 40000 → dg b ≤ 2000 := fun hb => by unfold dg; omega
 have hMB : ∀ i, i < n → ∀ m, m ≤ n → Wd (su (fun l => flM n A k i l * B l) m) (D * flE D k) (a + k * (a + 9) + 4) := fun i hi m hm => by
  rw [su_congr (g := fun l => B l * flM n A k i l) (fun l _ => Rat.mul_comm _ _)]
  exact h.sum h.hB (fun l hl => hM i l hi hl) hm
 refine ⟨Nat.le_trans ((hM i j hi hj).rs e1 e2) (dd xq), ?_, ?_, ?_, ?_⟩
 ·exact Nat.le_trans ((h.sum (h.hA i) (fun l hl => hM l j hl hj) hm).rs d1 d2) (dd xq)
 ·exact Nat.le_trans ((hMB i hi m hm).rs d1 d2) (dd xq)
 ·have h1 : Wd (su (fun l => C l * su (fun r => flM n A k l r * B r) n) m) (D * (D * flE D k)) (a + (a + k * (a + 9) + 4) + 4) := h.sum h.hC (fun l hl => hMB l hl n (Nat.le_refl _)) hm
  refine Nat.le_trans (h1.rs (Nat.mul_pos h.h0 d1) ?_) (dd xq)
  have := Nat.mul_le_mul h.hD d2
  rw [← Nat.pow_add] at this
  exact Nat.le_trans this (Nat.pow_le_pow_right xq xq)
 have hT : ∀ l, l < n → Wd (mM n A (flM n A k) l l) (D * flE D k) (a + k * (a + 9) + 4) := fun l hl => h.sum (h.hA l) (fun r hr => hM r l hr hl) (Nat.le_refl _)
 have h1 : Wd (su (fun l => mM n A (flM n A k) l l) m) (D * flE D k) (a + k * (a + 9) + 4 + 4) := Wd.su (fun l hl => hT l xq) xq
 exact Nat.le_trans (h1.rs d1 (Nat.le_trans d2 (Nat.pow_le_pow_right xq xq))) (dd xq)
theorem FlB.c_rs (h : FlB n A B C D a) (ha : a ≤ 1920) (hk : k < n) : Nt.rs (flC n A (k + 1)) ≤ 2000 := by
 have hn := h.hn
 obtain ⟨e1, e2⟩ := h.e (k + 1) xq
 have hkb : (k + 1) * (a + 9) ≤ 16 * 1929 := Nat.mul_le_mul xq xq
 obtain ⟨f1, f2⟩ := h.e k xq
 have hT : ∀ l, l < n → Wd (mM n A (flM n A k) l l) (D * flE D k) (a + k * (a + 9) + 4) := fun l hl => h.sum (h.hA l) (fun r hr => h.mw k xq r l hr hl) (Nat.le_refl _)
 have ht : Wd (mT n (mM n A (flM n A k))) (D * flE D k) (a + k * (a + 9) + 4 + 4) := Wd.su (fun l hl => hT l hl) xq
 have hc : Wd (flC n A (k + 1)) (flE D (k + 1)) ((k + 1) * (a + 9)) := by
  rw [flE_s]
  obtain ⟨z, hz, hb⟩ := ht
  refine ⟨-z, ?_, by rw [Int.natAbs_neg]; exact Nat.le_trans hb (Nat.pow_le_pow_right xq (by rw [Nat.add_mul]; omega))⟩
  have e1 : mT n (mM n A (flM n A k)) * (((D * flE D k : Nat) : Int) : Rat) = (z : Rat) := hz
  show flN n (mM n A (flM n A k)) k * _ = _
  unfold flN
  have e5 : ((-z : Int) : Rat) = -(z : Rat) := Rat.intCast_neg z
  rw [Int.natCast_mul (D * flE D k), Rat.intCast_mul, e5, ← e1, Rat.div_def]
  have h3 : ((-1 : Int) : Rat) = -1 := rfl
  have h4 := Rat.mul_inv_cancel _ (castS_ne k)
  rw [h3]
  generalize (((k + 1 : Nat) : Int) : Rat) = y at *
  grind
 refine Nat.le_trans (hc.rs e1 e2) ?_
 unfold dg; omega
end
end Nt
namespace Nt
def dotQ (l m : List Rat) (k : Nat) : Rat := su (fun i => l.getD i 0 * m.getD i 0) k
theorem dotQ_s {l m : List Rat} {k : Nat} : dotQ l m (k + 1) = dotQ l m k + l.getD k 0 * m.getD k 0 := rfl
theorem dotQ_skip {l m : List Rat} {k : Nat} (h : l.getD k 0 = 0 ∨ m.getD k 0 = 0) : dotQ l m k = dotQ l m (k + 1) := by
 rw [dotQ_s]
 rcases h with h | h <;> rw [h] <;> grind
theorem sgQ_0 {x : Rat} (h : (sgQ x != 0) = false) : x = 0 := by
 have h2 : (sgQ x == 0) = true := by simpa using h
 rw [sgQ_eq] at h2
 exact of_decide_eq_true h2
theorem rep_at {n j : Nat} : (List.replicate n (0 : Rat)).getD j 0 = 0 := by rw [List.getD_eq_getElem?_getD, List.getElem?_replicate]; split <;> rfl
end Nt
theorem k_nZeros {u w : World} {n : Nat} (d : Dat u w) (hn : n ≤ 100000) : Calls Tryz.prog 163 #[.int .i64 (n : Int)] w (Post u w fun v u' => ∃ (b : Nat) (L : List RL), v = .slice (some ⟨b, 0, none⟩) n n ∧ u.heap.size ≤ b ∧ u'.heap[b]? = some (.cells (rcs L).toArray 32 (0, 0)) ∧ L.length = n ∧ RatsN u' L (List.replicate n 0) 2) := by
 refine zzm (args := [.int .i64 n]) Tryz.func163 rfl Tryz.ntmps163 (rs := [.tmp 2]) Tryz.results163 (le_b rfl) (le_b rfl) d ?_
 refine sq9 (zza 2 (.v (.slice none 0 0)) (zzb (sq9 (zza 5 (zI n) (sy_make 6 (T := 26) (E := 32) (z := .agg #[.bool false, .slice none 0 0, .slice none 0 0]) (size := 3) (bytes := 56) n (rcs (List.replicate n rl0)) xj xj rfl rfl xq yv (made_rcs _) ?_)))))
 refine zza 3 (.slc 6 0 n n) (zzc 18 [(3, .slc 6 0 n n)] [(6, ⟨32, rcs (List.replicate n rl0)⟩)] (zzd (sq9 (zza 7 (.slc 6 0 n n) (zza 8 (zI n) (zza 9 (zI 0) (zzc 18 [(3, .slc 6 0 n n), (8, zI n), (9, zI 0)] [(6, ⟨32, rcs (List.replicate n rl0)⟩)] (zzt (zyn (I := fun ag S' u' => ∃ (i : Nat) (L : List RL), (ag = n - i) ∧ (i ≤ n) ∧ (L.length = n) ∧ (S' = St.of 18 [(3, .slc 6 0 n n), (8, zI n), (9, zI i)] [(6, ⟨32, rcs L⟩)]) ∧ (Ext u u') ∧ (RatsN u' (L.take i) ((List.replicate n (0 : Rat)).take i) 2)) (fun m S u1 u2 e h => by obtain ⟨i, L, hm, p0, p1, hS, hE, f0⟩ := h; exact ⟨i, L, hm, p0, p1, hS, hE.trans e, f0.ext e⟩) _ yz ⟨0, List.replicate n rl0, rfl, by omega, by simp, rfl, (Ext.refl _), RatsN.tnil _ _ _ _⟩ ?_)))))))))
 rintro ag _ u11 ⟨i, L, an, hi, hL, rfl, am, hR⟩
 refine sq9 (zza 10 (zB (decide ((i : Int) < (n : Int)))) (zzb (zzd (zzu (b := decide ((i : Int) < (n : Int))) xj (fun aa => ?_) (fun aa => ?_)))))
 ·have qhb12 := of_decide_eq_true aa
  refine zzs (zzp ?_)
  refine zzd (zzt (sq9 (zza 11 (zI i) (zza 4 (zI i) (zzb (zzf (zza 12 (.slc 6 0 n n) (zza 13 (zI i) (zzg 14 109 _ fun _ _ ai al => Post.mono (k_ratOf al (z := 0) xq xq) ?_)))))))))
  rintro _ u16 ak ⟨af, rfl, ao⟩
  refine zyw 15 (off' := i * 3) (n := n) (off := 0) (sz := 3) (i := (i : Int)) sl26 xq xq xq ?_
  refine zyv (V := ⟨32, rcs L⟩) (off := i * 3) (rcs ((L).set i af)) ty32 zv (zyx (r := af) (i := i) yy rfl) ?_
  refine zzx ?_
  refine zzp (zzf (zyq 16 (x := zI (IntKind.i64.wrap ((i : Int) + 1))) (zI (i + 1 : Nat)) (eqI yq) (zza 9 (zI (i + 1 : Nat)) (zzx ?_))))
  have ae : i < (List.replicate n (0 : Rat)).length := by rw [List.length_replicate]; omega
  refine ⟨_, ?_, _, by exact zzv _ _ _, i + 1, (L).set i af, rfl, by omega, by simpa using hL, rfl, (am.t (ai.t ak.ext)), RatsN.tstep (hR.ext (ai.t ak.ext)) xq ae (RatN.more (K := 2) ao xq) (by rw [Nt.rep_at]; rfl)⟩
  omega
 have qhb12 := of_decide_eq_false aa
 refine zyc (zzp (zzd (zyp (r := 3) (t := 6) [3, 6] xk xj zk zk xj (fun ab aq aj ad ac => ?_))))
 have ap : PolN aq ⟨some ⟨ab, 0, none⟩, n, n⟩ (List.replicate n (0 : Rat)) 2 := pol_data1 ac yv (RatsN.tdone (hR.ext aj) xq (by rw [List.length_replicate]; omega)) xq
 refine zzf (zza 17 (.v (.slice (some ⟨ab, 0, none⟩) n n)) (zza 2 (.v (.slice (some ⟨ab, 0, none⟩) n n)) (zzb (zzo (ret0 [.slice (some ⟨ab, 0, none⟩) n n] ⟨zzq, trivial⟩ fun u26 ah => ?_)))))
 exact ⟨ab, L, rfl, ad, (ah.cells ac), xq, (RatsN.tdone (hR.ext (aj.trans ah)) xq (by rw [List.length_replicate]; omega))⟩
set_option maxHeartbeats 1000000 in
theorem k_nProduct {u w : World} {x y : Sl} {l m : List Rat} {K M : Nat} (d : Dat u w) (hx : PolN u x l K) (hy : PolN u y m K) (hlm : l.length = m.length) (hl : l.length ≤ 1000) (hK : K ≤ 20000000) (h2 : 2 ≤ M) (hM9 : M ≤ 20000000) (hM : ∀ k, k ≤ l.length → Nt.rs (Nt.dotQ l m k) ≤ M) : Calls Tryz.prog 110 #[x.v, y.v] w (Post u w fun v u' => ∃ r : RL, v = r.v ∧ RatN u' r (Nt.dotQ l m l.length) M) := by
 have hlx := hx.len
 have hly := hy.len
 refine zzm (args := [x.v, y.v]) Tryz.func110 rfl Tryz.ntmps110 (rs := [.cell 4 32]) Tryz.results110 (le_b rfl) (le_b rfl) d ?_
 refine sq9 (zzk 4 ⟨32, zw3⟩ (zzb (sq9 (zzg 8 109 _ fun _ _ ag aM => Post.mono (k_ratOf aM (z := 0) xq xq) ?_))))
 rintro _ aN ah ⟨ax, rfl, aF⟩
 refine zzk 5 ⟨32, zw3⟩ (zzj ⟨32, ax.cs⟩ ty32 ?_)
 refine zzb (zzd (sq9 (zza 9 (.v (x.v)) (zza 10 (zI x.n) (zza 11 (zI 0) (zzb (zzt (zyn (I := fun aA S' u' => ∃ (i : Nat) (r : RL), (aA = x.n - i) ∧ (i ≤ x.n) ∧ (S' = St.of 37 [(1, .v (y.v)), (4, .adr 4 0), (5, .adr 5 0), (9, .v (x.v)), (10, zI x.n), (11, zI i)] [(4, ⟨32, zw3⟩), (5, ⟨32, r.cs⟩)]) ∧ (Ext aN u') ∧ (RatN u' r (Nt.dotQ l m i) M)) (fun m S u1 u2 e h => by obtain ⟨i, r, hm, p0, hS, hE, f0⟩ := h; exact ⟨i, r, hm, p0, hS, hE.trans e, f0.ext e⟩) _ yz ⟨0, ax, rfl, Nat.zero_le _, rfl, (Ext.refl _), (show RatN _ _ (Nt.dotQ l m 0) M from RatN.more (K := 2) aF xq)⟩ ?_))))))))
 rintro aA _ u17 ⟨i, r, aR, hi, rfl, ac, hr⟩
 refine sq9 (zza 12 (zB (decide ((i : Int) < (x.n : Int)))) (zzb (zzd (zzu (b := decide ((i : Int) < (x.n : Int))) xj (fun af => ?_) (fun af => ?_)))))
 ·have qhb18 := of_decide_eq_true af
  refine zzs (zzp ?_)
  refine zzd (zzt (sq9 (zza 13 (zI i) ?_)))
  have hl19 := (hx.ext (ag.t (ah.t ac))).len
  obtain ⟨al, b19, aC, aq, ar, aj⟩ := pol_atN (hx.ext (ag.t (ah.t ac))) (i := i) xq
  refine zya 14 (aC + i * 3) (n := x.n) (off := aC) (sz := 3) (i := (i : Int)) xq aq xq xq sl26 (zym 15 al.cs ar ty32 (zzk 7 ⟨32, zw3⟩ (zza 6 (zI i) (zzj ⟨32, al.cs⟩ ty32 ?_))))
  refine zzb (sq9 (zzi 16 (.v (al.v)) ty32 zze (zzg 17 66 _ fun _ _ aa aG => Post.mono (k_ratSign aG (aj.ext aa).raw) ?_)))
  rintro _ u21 ab rfl
  refine zza 18 (zB ((Nt.sgQ (l.getD i 0)) != 0)) ?_
  rcases Bool.eq_false_or_eq_true ((Nt.sgQ (l.getD i 0)) != 0) with hs24 | hs24
  ·refine zyq 19 (x := zB ((Nt.sgQ (l.getD i 0)) != 0)) (zB true) (by rw [hs24]) (zza 20 (.v (y.v)) ?_ (hw := w1 3 true 19))
   refine zza 21 (zI i) ?_ (hw := w1 3 true 19)
   have hl25 := (hy.ext (ag.t (ah.t (ac.t (aa.t ab.ext))))).len
   obtain ⟨aH, b25, aD, ap, aw, au⟩ := pol_atN (hy.ext (ag.t (ah.t (ac.t (aa.t ab.ext))))) (i := i) xq
   refine zya 22 (aD + i * 3) (n := y.n) (off := aD) (sz := 3) (i := (i : Int)) xq ap xq xq sl26 ?_ (hw := w1 3 true 19)
   refine zym 23 aH.cs aw ty32 ?_ (hw := w1 3 true 19)
   refine zzg 24 66 _ (fun _ _ ad aQ => Post.mono (k_ratSign aQ (au.ext ad).raw) ?_) (hw := w1 3 true 19)
   rintro _ u27 ae rfl
   refine zza 25 (zB ((Nt.sgQ (m.getD i 0)) != 0)) ?_ (hw := w1 3 true 19)
   refine zza 26 (zB ((Nt.sgQ (m.getD i 0)) != 0)) (zzb (zzu (b := (Nt.sgQ (m.getD i 0)) != 0) xj (fun ai => ?_) (fun ai => ?_)))
   ·refine zzz [0, 0, 0, 0, 12, 28, 62, 127, 255] [(0, []), (1, []), (2, []), (3, []), (4, []), (5, []), (6, []), (7, []), (8, [])] xj xj (zzi 27 (.v (r.v)) ty32 zze (zzi 28 (.v (al.v)) ty32 zze (zza 29 (.v (y.v)) (zza 30 (zI i) ?_))))
    have hl31 := (hy.ext (ag.t (ah.t (ac.t (aa.t (ab.t (ad.t ae.ext))))))).len
    obtain ⟨aE, b31, az, an, av, am⟩ := pol_atN (hy.ext (ag.t (ah.t (ac.t (aa.t (ab.t (ad.t ae.ext))))))) (i := i) xq
    refine zya 31 (az + i * 3) (n := y.n) (off := az) (sz := 3) (i := (i : Int)) xq an xq xq sl26 (zym 32 aE.cs av ty32 (zzg 33 113 _ fun _ _ ak aP => Post.mono (k_ratMul aP (aj.ext (aa.t (ab.t (ad.t (ae.t ak))))).raw (am.ext ak).raw xq xq) ?_))
    rintro _ u35 aB ⟨r33, rfl, aL⟩
    refine zzg 34 112 _ fun _ _ ao aO => Post.mono (k_ratAdd aO (hr.ext (aa.t (ab.t (ad.t (ae.t (ak.t (aB.t ao))))))).raw (aL.ext ao).raw xq xq) ?_
    rintro _ u41 aJ ⟨ay, rfl, aK⟩
    refine zzj ⟨32, ay.cs⟩ ty32 ?_
    refine zzx ?_
    refine zzp (zzf (zyq 35 (x := zI (IntKind.i64.wrap ((i : Int) + 1))) (zI (i + 1 : Nat)) (eqI yq) (zza 11 (zI (i + 1 : Nat)) (zzx ?_))))
    refine ⟨_, ?_, _, by exact zzv _ _ _, i + 1, ay, rfl, by omega, rfl, (ac.t (aa.t (ab.t (ad.t (ae.t (ak.t (aB.t (ao.t aJ.ext)))))))), (show RatN _ _ (Nt.dotQ l m (i + 1)) M from RatN.fit (L := M) aK (hM (i + 1) xq))⟩
    omega
   refine zzs (zzp ?_)
   refine zzf (zyq 35 (x := zI (IntKind.i64.wrap ((i : Int) + 1))) (zI (i + 1 : Nat)) (eqI yq) (zza 11 (zI (i + 1 : Nat)) (zzx ?_)))
   refine ⟨_, ?_, _, by exact zzv _ _ _, i + 1, r, rfl, by omega, rfl, (ac.t (aa.t (ab.t (ad.t ae.ext)))), (by rw [← Nt.dotQ_skip (.inr (Nt.sgQ_0 ai))]; exact (hr.ext (aa.t (ab.t (ad.t ae.ext)))))⟩
   omega
  refine zyq 19 (x := zB ((Nt.sgQ (l.getD i 0)) != 0)) (zB false) (by rw [hs24]) (zzn 20 (uw 3 true false 19) (zzn 21 (uw 3 true false 19) (zzn 22 (uw 3 true false 19) (zzn 23 (uw 3 true false 19) (zzn 24 (uw 3 true false 19) (zzn 25 (uw 3 true false 19) (zza 26 (zB false) (zzb (zys xj (zzs (zzp ?_)))))))))))
  refine zzf (zyq 35 (x := zI (IntKind.i64.wrap ((i : Int) + 1))) (zI (i + 1 : Nat)) (eqI yq) (zza 11 (zI (i + 1 : Nat)) (zzx ?_)))
  refine ⟨_, ?_, _, by exact zzv _ _ _, i + 1, r, rfl, by omega, rfl, (ac.t (aa.t ab.ext)), (by rw [← Nt.dotQ_skip (.inl (Nt.sgQ_0 hs24))]; exact (hr.ext (aa.t ab.ext)))⟩
  omega
 have qhb18 := of_decide_eq_false af
 refine zyc (zzp (sq9 (zzi 36 (.v (r.v)) ty32 zze (zzj ⟨32, r.cs⟩ ty32 ?_))))
 refine zzb (zzo (ret0 [r.v] ⟨zzr ty32 zze, trivial⟩ fun u44 aS => ?_))
 have aI : i = l.length := by omega
 rw [← aI]
 exact ⟨r, rfl, (hr.ext aS)⟩
section
variable {P : Program} {ops : Array Oper} {w0 : Base} {u0 : World} {S : St} {u w : World} {B : Tmp → Nat} {a : Act} {o : Oper} {p : List Tmp} {rest : List (Oper × List Tmp)} {K : St → World → Prop}
theorem Rep.pubX (h : Rep w0 u0 S B a w u) {r t : Tmp} {x : SV} {V : Vr} {pubs : List Tmp} (hno : NoAt S pubs) (ht : t ∈ pubs) (hall : ∀ s ∈ pubs, ∀ V', S.var s = some V' → s = t) (hr : S.reg r = some x) (hv : S.var t = some V) (htn : t < S.n) :
  Rep w0 u0 ((S.unpub pubs).set r (.v (x.conc B))) B a w (pubW u w [B t]) := by
 refine ⟨⟨fun s y hx => ?_, h.regs.size⟩, ⟨fun s y t' hx ht' => ?_⟩, h.defers, fun s V' hV => ?_, fun s s' V1 V2 h1 h2 e => ?_, pubW_dat h.dat, h.base, pubW_grow h.grow (fun b hb => ?_), h.bel⟩
 ·by_cases e : s = r
  ·subst e
   simp only [St.set, zxd] at hx
   injection hx with hx
   subst hx
   exact h.regs.reg s x hr
  simp only [St.set, upd_ne _ _ e] at hx
  exact h.regs.reg s y (zwi hx).1
 ·by_cases e : s = r
  ·subst e
   simp only [St.set, zxd] at hx
   injection hx with hx
   subst hx; cases ht'
  simp only [St.set, upd_ne _ _ e] at hx
  obtain ⟨k1, k2⟩ := zwi hx
  obtain ⟨V', hV'⟩ := h.wf.reg s y t' k1 ht'
  exact ⟨V', by show (S.unpub pubs).var t' = _; rw [unpub_var (fun hm => k2 (hno s y t' k1 ht' hm))]; exact hV'⟩
 ·obtain ⟨k1, k2⟩ := zxp hV
  obtain ⟨g1, g2, g3⟩ := h.var s V' k1
  refine ⟨g1, ?_, g3⟩
  rw [pubW_out]
  ·exact g2
  intro hm
  simp at hm
  exact k2 (h.inj s t V' V k1 hv hm ▸ ht)
 ·exact h.inj s s' V1 V2 (zxp h1).1 (zxp h2).1 e
 simp at hb; subst hb; exact (h.var t V hv).2.2.1 htn
theorem sy_pubM {r t : Tmp} {off n c : Nat} {cs ds : List Value} {V : Vr} (pubs : List Tmp) (hK : Mono K) (hno : NoAt S pubs) (hall : (pubs.all fun s => Nat.beq s t || (S.var s).isNone) = true) (hr : S.reg r = some (.agm cs t off n c ds)) (hv : S.var t = some V) (ht : pubs.contains t = true)
  (k : ∀ b u1, Ext u u1 → u0.heap.size ≤ b → u1.heap[b]? = some (.cells V.cs.toArray V.ty (0, 0)) → sym P ops w0 u0 true ((o, p) :: rest) ((S.unpub pubs).set r (.v (.agg (cs ++ Value.slice (some ⟨b, off, none⟩) n c :: ds).toArray))) u1 K)
  (hlt : Nat.blt t S.n = true := by kernel_rfl) (hw : Wants ops o S := by exact zwj xj) : sym P ops w0 u0 true ((o, p) :: rest) S u K := by
 refine .inr (.inr (.inl ⟨.inl rfl, fun B a w u' he hrep => ?_⟩))
 have hm := List.contains_iff_mem.1 ht
 obtain ⟨g1, g2, g3⟩ := hrep.var t V hv
 have hx : Ext u' (pubW u' w [B t]) := pubW_ext hrep.dat
 have hrep2 := hrep.pubX (x := .agm cs t off n c ds) hno hm (fun s hs V' hV' => by
  have := List.all_eq_true.1 hall s hs
  simp only [Bool.or_eq_true, Option.isNone_iff_eq_none] at this
  rcases this with h | h
  ·exact Nat.eq_of_beq_eq_true h
  rw [hV'] at h; cases h) hr hv (Nat.le_of_ble_eq_true hlt)
 have h := k (B t) (pubW u' w [B t]) (he.trans hx) (g3.1 (Nat.le_of_ble_eq_true hlt)) (by rw [pubW_in zj (zxa g2) hrep.dat.size]; exact g1)
 have hs := one_sound (Q := fun _ _ _ => False) (zwf hK) h (Ext.refl _) hrep2
 have hwt : Want ops o a true := hw B a hrep.regs
 refine ⟨hwt, ?_⟩
 dsimp only at hs
 rw [if_pos (show Region.wanted o (yielded ops a.tmps) = true from hwt)] at hs
 exact Oper.wp_mono (fun a' w' ⟨S', B', u3, k1, k2, k3⟩ => ⟨S', B', u3, u3, k1, (fun h => by cases h), (fun h => by cases h), Ext.refl _, k3⟩) hs
end
namespace Nt
theorem z_lw {n : Nat} {LB LC : List RL} (a : Nat) (h : a < (List.replicate n ([] : List RL) ++ [LB] ++ [LC]).length) : up1 (up1 (fun _ => 0) (List.replicate n ([] : List RL)).length (List.replicate n (0 : Rat)).length) (List.replicate n ([] : List RL) ++ [LB]).length (List.replicate n (0 : Rat)).length a = if a < n then 0 else n := by
 have h2 : a < n + 2 := by simpa using h
 unfold up1
 simp only [List.length_append, List.length_replicate, List.length_singleton]
 split
 ·rw [if_neg xq]
 split
 ·rw [if_neg xq]
 rw [if_pos xq]
theorem z_val {n : Nat} {LB LC : List RL} (a b : Nat) (q : Rat) (h : a < (List.replicate n ([] : List RL) ++ [LB] ++ [LC]).length) (hv : (if a < n then none else some (0 : Rat)) = some q) : upr (upr (fun _ _ => none) (List.replicate n ([] : List RL)).length (fun b => some ((List.replicate n (0 : Rat)).getD b 0))) (List.replicate n ([] : List RL) ++ [LB]).length (fun b => some ((List.replicate n (0 : Rat)).getD b 0)) a b = some q := by
 have h2 : a < n + 2 := by simpa using h
 have hn9 : ¬ a < n := fun h => by rw [if_pos h] at hv; cases hv
 rw [if_neg hn9] at hv
 unfold upr
 simp only [List.length_append, List.length_replicate, List.length_singleton, rep_at]
 split
 ·exact hv
 rw [if_pos xq]; exact hv
end Nt
theorem Nt.zf_lw {n a : Nat} : (if a < n then n else if a < n then 0 else n) = n := by
 split
 ·rfl
 rfl
theorem Nt.zf_val {n a : Nat} {q : Rat} (hv : some (0 : Rat) = some q) : (if a < n then some (0 : Rat) else if a < n then none else some 0) = some q := by
 split
 ·exact hv
 exact hv
theorem rep_get0 {n : Nat} {y z : Sl} : (List.replicate n sl0 ++ [y] ++ [z]).getD n sl0 = y := by rw [List.append_assoc, List.getD_eq_getElem?_getD, List.getElem?_append_right zj, List.length_replicate, Nat.sub_self]; rfl
theorem rep_get1 {n : Nat} {y z : Sl} : (List.replicate n sl0 ++ [y] ++ [z]).getD (n + 1) sl0 = z := by rw [List.append_assoc, List.getD_eq_getElem?_getD, List.getElem?_append_right zj, List.length_replicate, Nat.add_sub_cancel_left]; rfl
theorem sep_blk {b b' n n' c c' : Nat} (h : b ≠ b') : Sep ⟨some ⟨b, 0, none⟩, n, c⟩ ⟨some ⟨b', 0, none⟩, n', c'⟩ := fun a a' h1 h2 hc => by
 injection h1 with h1; injection h2 with h2; subst h1 h2; exact h hc
theorem SysE.zero2 {tO tR : TypeId} {lo b b' n K : Nat} {u : World} {x : Sl} {LB LC : List RL} (hm : MutQ 1 tO lo u x ((List.replicate n sl0).map Sl.v)) (hB : u.heap[b]? = some (.cells (rcs LB).toArray tR (0, 0))) (hC : u.heap[b']? = some (.cells (rcs LC).toArray tR (0, 0))) (hbc : b' ≠ b) (h1 : lo ≤ b) (h2 : lo ≤ b') (hn : n ≤ 100) (rB : RatsN u LB (List.replicate n 0) K) (rC : RatsN u LC (List.replicate n 0) K) :
  SysE tO tR lo u x n (List.replicate n sl0 ++ [⟨some ⟨b, 0, none⟩, n, n⟩] ++ [⟨some ⟨b', 0, none⟩, n, n⟩]) (List.replicate n [] ++ [LB] ++ [LC]) (fun a => if a < n then 0 else n) (fun a b => if a < n then none else some 0) K := by
 have lB : LB.length = n := rB.1.trans zj
 have lC : LC.length = n := rC.1.trans zj
 have s0 : SysE tO tR lo u x n (List.replicate n sl0) (List.replicate n []) (fun _ => 0) (fun _ _ => none) K := SysE.nil n hm
 have e : ∀ i, (List.replicate n sl0).getD i sl0 = sl0 := fun i => by
  rw [List.getD_eq_getElem?_getD, List.getElem?_replicate]; split <;> rfl
 have s1 := SysE.add (w := (List.replicate n (0 : Rat)).length) (g := fun b => some ((List.replicate n (0 : Rat)).getD b 0)) s0 (MutQ.lit (n := n) hB (by rw [zyy, lB] <;> omega) yv h1 (nu_rcs _)) (fun j _ => by rw [e]; exact fun a a' _ h => by cases h) rB.1 (rats_fn rB)
 have s2 := SysE.add (w := (List.replicate n (0 : Rat)).length) (g := fun b => some ((List.replicate n (0 : Rat)).getD b 0)) s1 (MutQ.lit (n := n) hC (by rw [zyy, lC] <;> omega) yv h2 (nu_rcs _)) (fun j hj => by
  rcases Nat.lt_or_ge j n with h | h
  ·rw [List.getD_eq_getElem?_getD, List.getElem?_append_left (by simpa using h), ← List.getD_eq_getElem?_getD, e]; exact fun a a' _ h => by cases h
  have hj2 : j < n + 1 := by simpa using hj
  rw [show j = n by omega, List.getD_eq_getElem?_getD, List.getElem?_append_right zj, List.length_replicate, Nat.sub_self]; exact sep_blk hbc) rC.1 (rats_fn rC)
 exact SysE.congr s2 Nt.z_lw (fun a b q ha _ hv => Nt.z_val a b q ha hv)
namespace Nt
theorem zi_lw {n i : Nat} (hi : i < n) (a : Nat) : up1 (fun a => if a < i then n else if a < n then 0 else n) i (List.replicate n (0 : Rat)).length a = if a < i + 1 then n else if a < n then 0 else n := by
 unfold up1
 dsimp only
 rw [List.length_replicate]
 by_cases h : a = i
 ·rw [if_pos h, if_pos xq]
 rw [if_neg h]
 by_cases h2 : a < i
 ·rw [if_pos h2, if_pos xq]
 rw [if_neg h2, if_neg (show ¬ a < i + 1 by omega)]
theorem zi_val {n i : Nat} (a b : Nat) (q : Rat) (hv : (if a < i + 1 then some (0 : Rat) else if a < n then none else some 0) = some q) : upr (fun a b => if a < i then some (0 : Rat) else if a < n then none else some 0) i (fun b => some ((List.replicate n (0 : Rat)).getD b 0)) a b = some q := by
 unfold upr
 dsimp only
 rw [rep_at]
 by_cases h1 : a = i
 ·rw [if_pos h1]; rw [if_pos xq] at hv; exact hv
 rw [if_neg h1]
 by_cases h2 : a < i
 ·rw [if_pos h2]; rw [if_pos xq] at hv; exact hv
 rw [if_neg h2]; rw [if_neg (show ¬ a < i + 1 by omega)] at hv; exact hv
end Nt
set_option maxHeartbeats 4000000 in
theorem k_nZero {u w : World} {n : Nat} (d : Dat u w) (hn : n ≤ 100) : Calls Tryz.prog 107 #[.int .i64 (n : Int)] w (Post u w fun v u' => ∃ (x y z : Sl) (r : RL) (Rs : List Sl) (Ls : List (List RL)), v = .agg #[x.v, y.v, z.v, .bool r.s, .slice r.m.a r.m.n r.m.c, .slice r.d.a r.d.n r.d.c] ∧ SysE 26 32 u.heap.size u' x n Rs Ls (fun _ => n) (fun _ _ => some 0) 2 ∧ Ls.length = n + 2 ∧ Rs.getD n sl0 = y ∧ Rs.getD (n + 1) sl0 = z ∧ RatN u' r ((0 : Int) : Rat) 2) := by
 refine zzm (args := [.int .i64 n]) Tryz.func107 rfl Tryz.ntmps107 (rs := [.cell 2 77]) Tryz.results107 (le_b rfl) (le_b rfl) d ?_
 refine sq9 (zzk 2 ⟨77, [.slice none 0 0, .slice none 0 0, .slice none 0 0, .bool false, .slice none 0 0, .slice none 0 0]⟩ (zzb (zzd (sw_anyC [0, 1, 0, 4, 0, 28, 60, 127, 0, 511] [(0, []), (1, []), (2, []), (4, []), (8, []), (3, []), (5, []), (6, []), (7, [])] [(9, [])] xj xj xj ?_))))
 refine zza 5 (zI n) (sy_make 6 (T := 75) (E := 26) (z := .slice none 0 0) (size := 1) (bytes := 24) n ((List.replicate n sl0).map Sl.v) xj xj rfl rfl xq yv (made_sls _) ?_)
 refine zza 7 (zI n) (zza 9 (zI n) (zzk 3 ⟨77, [.slice none 0 0, .slice none 0 0, .slice none 0 0, .bool false, .slice none 0 0, .slice none 0 0]⟩ (zzg 8 163 _ fun _ _ aF a4 => Post.mono (k_nZeros (n := n) a4 xq) ?_)))
 rintro _ u18 aP ⟨ab, aQ, rfl, ax, an, aO, aK⟩
 refine zzg 10 163 _ fun _ _ ap aZ => Post.mono (k_nZeros (n := n) aZ xq) ?_
 rintro _ u28 av ⟨aa, aV, rfl, aI, aE, aU, au⟩
 refine zzg 11 109 _ fun _ _ al a5 => Post.mono (k_ratOf a5 (z := 0) xq xq) ?_
 rintro _ u34 am ⟨ac, rfl, a7⟩
 refine zza 12 (.agm [] 6 0 n n ([.slice (some ⟨ab, 0, none⟩) n n, .slice (some ⟨aa, 0, none⟩) n n] ++ ac.cs)) (zzx ?_)
 refine sy_pubM (r := 12) (t := 6) [6, 12] (MP.mono _ _) xk xj zk zk xj (fun ad aX ah aB aG => ?_)
 have ay : MutQ 1 26 u.heap.size aX (⟨some ⟨ad, 0, none⟩, n, n⟩ : Sl) ((List.replicate n sl0).map Sl.v) := MutQ.lit aG (by rw [List.length_map, List.length_replicate, Nat.mul_one]) yv aB (nu_sls _)
 refine zzj ⟨77, [.slice (some ⟨ad, 0, none⟩) n n, .slice (some ⟨ab, 0, none⟩) n n, .slice (some ⟨aa, 0, none⟩) n n] ++ ac.cs⟩ ty77 ?_
 refine zzb (zzd (zzd ?_))
 have hlt9 := zxa an
 have hsz9 := Ext.size ap
 have s3 := SysE.zero2 (tR := 32) ay ((ap.t (av.t (al.t (am.t ah)))).cells an) ((al.t (am.t ah)).cells aE) (show aa ≠ ab by omega) (Nat.le_trans (Ext.size aF) ax) (Nat.le_trans (Ext.size (aF.t (aP.t ap))) aI) hn (RatsN.ext aK (ap.t (av.t (al.t (am.t ah))))) (RatsN.ext au (al.t (am.t ah)))
 have hRB : (List.replicate n sl0 ++ [(⟨some ⟨ab, 0, none⟩, n, n⟩ : Sl)] ++ [(⟨some ⟨aa, 0, none⟩, n, n⟩ : Sl)]).getD n sl0 = (⟨some ⟨ab, 0, none⟩, n, n⟩ : Sl) := rep_get0
 have hRC : (List.replicate n sl0 ++ [(⟨some ⟨ab, 0, none⟩, n, n⟩ : Sl)] ++ [(⟨some ⟨aa, 0, none⟩, n, n⟩ : Sl)]).getD (n + 1) sl0 = (⟨some ⟨aa, 0, none⟩, n, n⟩ : Sl) := rep_get1
 have aL : (List.replicate n ([] : List RL) ++ [aQ] ++ [aV]).length = n + 2 := by simp
 generalize (List.replicate n sl0 ++ [(⟨some ⟨ab, 0, none⟩, n, n⟩ : Sl)] ++ [(⟨some ⟨aa, 0, none⟩, n, n⟩ : Sl)]) = R0 at s3 hRB hRC
 generalize (List.replicate n ([] : List RL) ++ [aQ] ++ [aV]) = L0 at s3 aL
 refine zzf (zza 13 (.adr 3 0) (zzi 14 (.v (.slice (some ⟨ad, 0, none⟩) n n)) ty75 zzl (zza 15 (zI n) (zza 16 (zI 0) (zzb (zzt (zyn (I := fun aR S' u' => ∃ (i : Nat) (Rs : List Sl) (Ls : List (List RL)), (aR = n - i) ∧ (i ≤ n) ∧ (Ls.length = n + 2) ∧ (Rs.getD n sl0 = (⟨some ⟨ab, 0, none⟩, n, n⟩ : Sl)) ∧ (Rs.getD (n + 1) sl0 = (⟨some ⟨aa, 0, none⟩, n, n⟩ : Sl)) ∧ (S' = St.of 27 [(0, zI n), (2, .adr 2 0), (3, .adr 3 0), (15, zI n), (16, zI i)] [(2, ⟨77, [.slice none 0 0, .slice none 0 0, .slice none 0 0, .bool false, .slice none 0 0, .slice none 0 0]⟩), (3, ⟨77, [.slice (some ⟨ad, 0, none⟩) n n, .slice (some ⟨ab, 0, none⟩) n n, .slice (some ⟨aa, 0, none⟩) n n] ++ ac.cs⟩)]) ∧ (Ext u u') ∧ (SysE 26 32 u.heap.size u' (⟨some ⟨ad, 0, none⟩, n, n⟩ : Sl) n Rs Ls (fun a => if a < i then n else if a < n then 0 else n) (fun a b => if a < i then some 0 else if a < n then none else some 0) 2) ∧ (RatN u' ac ((0 : Int) : Rat) 2)) (fun m S u1 u2 e h => by obtain ⟨i, Rs, Ls, hm, p0, p1, p2, p3, hS, hE, f0, f1⟩ := h; exact ⟨i, Rs, Ls, hm, p0, p1, p2, p3, hS, hE.trans e, f0.ext e, f1.ext e⟩) _ yz ⟨0, R0, L0, rfl, Nat.zero_le _, aL, hRB, hRC, rfl, (aF.t (aP.t (ap.t (av.t (al.t (am.t ah)))))), (SysE.congr s3 (fun a ha => by simp) (fun a b q ha hb hv => by simpa using hv)), (a7.ext ah)⟩ ?_)))))))
 rintro aR _ u43 ⟨i, Rs, Ls, a1, hi, hLl, hB, hC, rfl, aS, f0, f1⟩
 refine sq9 (zza 17 (zB (decide ((i : Int) < (n : Int)))) (zzb (zzd (zzu (b := decide ((i : Int) < (n : Int))) xj (fun af => ?_) (fun af => ?_)))))
 ·have qhb44 := of_decide_eq_true af
  refine zzs (zzp ?_)
  refine zzd (zzt (sq9 (zza 18 (zI i) (zza 4 (zI i) (zzb (sw_anyC [0, 1, 0, 0, 8, 31, 63] [(0, []), (1, []), (2, []), (3, []), (4, [])] [(5, []), (6, [])] xj xj xj ?_))))))
  refine zza 19 (.adr 3 0) (zzi 20 (.v (.slice (some ⟨ad, 0, none⟩) n n)) ty75 zzl (zza 21 (zI i) (zza 22 (zI n) (zzg 23 163 _ fun _ _ ai a6 => Post.mono (k_nZeros (n := n) a6 xq) ?_))))
  rintro _ a3 ar ⟨ag, aT, rfl, ao, aD, aq, az⟩
  refine zzx ?_
  have hq55 := (SysE.ext f0 (ai.t ar.ext))
  obtain ⟨b55, ak, aY⟩ := SysE.cell (i := i) hq55 xq
  have hn55 := SysE.xn hq55
  change n = _ at hn55
  refine zya 24 (0 + i * 1) (n := n) (off := 0) (sz := 1) (i := (i : Int)) xq ak xq xq sl75 ?_
  have ho56 := (SysE.ext f0 (ai.t ar.ext))
  have hR56 := az
  have aH : MutQ (1 * 3) 32 u.heap.size a3 (⟨some ⟨ag, 0, none⟩, n, n⟩ : Sl) (rcs aT) := MutQ.lit (aD) (by rw [zyy, aq] <;> omega) yv (Nat.le_trans (Ext.size (aS.trans ai)) ao) (nu_rcs _)
  have aw : ∀ j, j < Ls.length → j ≠ i → Sep (⟨some ⟨ag, 0, none⟩, n, n⟩ : Sl) (Rs.getD j sl0) := fun j hj _ => SysE.fresh (SysE.ext f0 ai) ao j hj
  refine sy_storeQ (v := .slice (some ⟨ag, 0, none⟩) n n) (off := 0 + i * 1) (n := 1) (⟨some ⟨ad, 0, none⟩, n, n⟩ : Sl) (SysE.out ho56) (MutQ.mayA (SysE.out ho56) (Ext.size (Ext.refl _))) ak ty26 (by have h9 := SysE.hn ho56; rw [List.length_map, List.length_take]; omega) (nu_sls [(⟨some ⟨ag, 0, none⟩, n, n⟩ : Sl)]) (fun a2 aA ae => ?_)
  have aC : MutQ 1 26 u.heap.size a2 (⟨some ⟨ad, 0, none⟩, n, n⟩ : Sl) (((Rs.take n).set i (⟨some ⟨ag, 0, none⟩, n, n⟩ : Sl)).map Sl.v) := by rw [← setL_map (y := (⟨some ⟨ag, 0, none⟩, n, n⟩ : Sl)) (i := i) (by have h9 := SysE.hn ho56; rw [List.length_take]; omega)]; exact aA
  have eX56r := ExtX.root ae (MutQ.mutL (SysE.out ho56)) (aS.t (ai.t ar.ext))
  have hS56 := SysE.put (i := i) (w := (List.replicate n (0 : Rat)).length) (g := (fun b => some ((List.replicate n (0 : Rat)).getD b 0))) yj ho56 xq aC ae aH aw hR56.1 (rats_fn hR56)
  obtain ⟨aW, hR56⟩ : ∃ Z9, Rs.set i (⟨some ⟨ag, 0, none⟩, n, n⟩ : Sl) = Z9 := ⟨_, rfl⟩
  rewrite [hR56] at hS56
  obtain ⟨aN, aj⟩ : ∃ Z9, Ls.set i aT = Z9 := ⟨_, rfl⟩
  rewrite [aj] at hS56
  have aJ : aN.length = n + 2 := by rw [← aj, List.length_set]; exact hLl
  have hkr3256 := MutQ.keep (SysE.out ho56) ae (f1.ext (ai.t ar.ext))
  refine zzx ?_
  refine zzp (zzf (zyq 25 (x := zI (IntKind.i64.wrap ((i : Int) + 1))) (zI (i + 1 : Nat)) (eqI yq) (zza 16 (zI (i + 1 : Nat)) (zzx ?_))))
  have hgn : ∀ j, n ≤ j → aW.getD j sl0 = Rs.getD j sl0 := fun j hj => by rw [← hR56]; exact getD_set_other xq
  refine ⟨_, ?_, _, by exact zzv _ _ _, i + 1, aW, aN, rfl, by omega, aJ, (by rw [hgn n (Nat.le_refl n)]; exact hB), (by rw [hgn (n + 1) xq]; exact hC), rfl, eX56r, (SysE.congr hS56 (fun a ha => Nt.zi_lw xq a) (fun a b q ha hb hv => Nt.zi_val a b q hv)), hkr3256⟩
  omega
 have qhb44 := of_decide_eq_false af
 refine zyc (zzp (sq9 (zzi 26 (.v (.agg #[.slice (some ⟨ad, 0, none⟩) n n, .slice (some ⟨ab, 0, none⟩) n n, .slice (some ⟨aa, 0, none⟩) n n, .bool ac.s, ac.m.v, ac.d.v])) ty77 zze (zzj ⟨77, [.slice (some ⟨ad, 0, none⟩) n n, .slice (some ⟨ab, 0, none⟩) n n, .slice (some ⟨aa, 0, none⟩) n n] ++ ac.cs⟩ ty77 ?_))))
 refine zzb (zzo (ret0 [.agg #[.slice (some ⟨ad, 0, none⟩) n n, .slice (some ⟨ab, 0, none⟩) n n, .slice (some ⟨aa, 0, none⟩) n n, .bool ac.s, ac.m.v, ac.d.v]] ⟨zzr ty77 zze, trivial⟩ fun u57 aM => ?_))
 have a0 : n = i := by omega
 subst a0
 exact ⟨(⟨some ⟨ad, 0, none⟩, n, n⟩ : Sl), (⟨some ⟨ab, 0, none⟩, n, n⟩ : Sl), (⟨some ⟨aa, 0, none⟩, n, n⟩ : Sl), ac, Rs, Ls, rfl, SysE.congr (SysE.ext f0 aM) (fun a ha => Nt.zf_lw) (fun a b q ha hb hv => Nt.zf_val hv), hLl, hB, hC, (f1.ext aM)⟩
theorem SysE.front {tO tR : TypeId} {lo n K : Nat} {u : World} {x : Sl} {Rs : List Sl} {Ls : List (List RL)} {lw : Nat → Nat} {val : Nat → Nat → Option Rat} (m : SysE tO tR lo u x n Rs Ls lw val K) : SysE tO tR lo u x n (Rs.take n) (Ls.take n) lw val K := by
 have hn := m.hn
 have hl := m.len
 have e1 : ∀ i, i < n → (Rs.take n).getD i sl0 = Rs.getD i sl0 := fun i hi => by rw [List.getD_eq_getElem?_getD, List.getElem?_take_of_lt hi, ← List.getD_eq_getElem?_getD]
 have e2 : ∀ i, i < n → (Ls.take n).getD i [] = Ls.getD i [] := fun i hi => by rw [List.getD_eq_getElem?_getD, List.getElem?_take_of_lt hi, ← List.getD_eq_getElem?_getD]
 have e3 : ∀ {i : Nat}, i < (Ls.take n).length → i < n ∧ i < Ls.length := fun h => by rw [List.length_take] at h; omega
 refine ⟨by rw [List.take_take, Nat.min_self]; exact m.out, by rw [List.length_take]; omega, by rw [List.length_take, List.length_take]; omega, fun i hi => ?_, fun i j hi hj hij => ?_, fun i hi => ?_, fun i j q hi hj hv => ?_⟩
 ·rw [e1 i (e3 hi).1, e2 i (e3 hi).1]; exact m.row i (e3 hi).2
 ·rw [e1 i (e3 hi).1, e1 j (e3 hj).1]; exact m.sep i j (e3 hi).2 (e3 hj).2 hij
 ·rw [e2 i (e3 hi).1]; exact m.wid i (e3 hi).2
 rw [e2 i (e3 hi).1]; exact m.num i j q (e3 hi).2 hj hv
theorem Nt.dot_row {n k : Nat} {f g : Nat → Rat} (hk : k ≤ n) : Nt.dotQ (rowL n f) (rowL n g) k = Nt.su (fun l => f l * g l) k := Nt.su_congr (fun i hi => by rw [rowL_at xq, rowL_at xq])
theorem Nt.dot_rows {n : Nat} {f g : Nat → Rat} : Nt.dotQ (rowL n f) (rowL n g) (rowL n f).length = Nt.su (fun l => f l * g l) n := by rw [rowL_len]; exact Nt.dot_row (Nat.le_refl n)
theorem rep_sl {n i : Nat} : (List.replicate n sl0).getD i sl0 = sl0 := by rw [List.getD_eq_getElem?_getD, List.getElem?_replicate]; split <;> rfl
theorem rep_getN {n : Nat} {y : Sl} : (List.replicate n sl0 ++ [y]).getD n sl0 = y := by rw [List.getD_eq_getElem?_getD, List.getElem?_append_right zj, List.length_replicate, Nat.sub_self]; rfl
namespace Nt
theorem c_lw {n : Nat} (a : Nat) (h : a < (List.replicate n ([] : List RL) ++ [List.replicate n rl0]).length) : up1 (fun _ => 0) (List.replicate n ([] : List RL)).length n a = if a < n then 0 else n := by
 have h2 : a < n + 1 := by simpa using h
 unfold up1
 rw [List.length_replicate]
 by_cases e : a = n
 ·rw [if_pos e, if_neg xq]
 rw [if_neg e, if_pos xq]
theorem ci_lw {n i : Nat} (hi : i < n) (a : Nat) : up1 (fun a => if a < i then n else if a < n then 0 else n) i n a = if a < i + 1 then n else if a < n then 0 else n := by
 unfold up1
 dsimp only
 by_cases h : a = i
 ·rw [if_pos h, if_pos xq]
 rw [if_neg h]
 by_cases h2 : a < i
 ·rw [if_pos h2, if_pos xq]
 rw [if_neg h2, if_neg (show ¬ a < i + 1 by omega)]
theorem c_end {n i a : Nat} (h : i = n) : (if a < i then n else if a < n then 0 else n) = n := by
 subst h; split <;> rfl
section
variable {n i j a b : Nat} {q : Rat} {A M : Nat → Nat → Rat}
theorem c00 {x y : Option Rat} (h : (if a < n ∧ b < 0 then y else none) = some q) : x = some q := by rw [if_neg xq] at h; cases h
theorem c12 (hv : (if a < n then (if b < j then some (mM n A M a b) else none) else if b < 0 then some (M b j) else none) = some q) : (if a < n ∧ b < j then some (mM n A M a b) else none) = some q := by
 by_cases h1 : a < n
 ·rw [if_pos h1] at hv
  by_cases h2 : b < j
  ·rw [if_pos h2] at hv; rw [if_pos ⟨h1, h2⟩]; exact hv
  rw [if_neg h2] at hv; cases hv
 rw [if_neg h1, if_neg (Nat.not_lt_zero b)] at hv; cases hv
theorem c22 (ha : a < n + 1) (hv : (if a < n then (if b < j then some (mM n A M a b) else none) else if b < i + 1 then some (M b j) else none) = some q) : up2 (fun a b => if a < n then (if b < j then some (mM n A M a b) else none) else if b < i then some (M b j) else none) n i (M i j) a b = some q := by
 unfold up2
 dsimp only
 by_cases h1 : a < n
 ·rw [if_neg xq, if_pos h1]; rw [if_pos h1] at hv; exact hv
 rw [if_neg h1] at hv
 by_cases h2 : b = i
 ·rw [if_pos ⟨by omega, h2⟩]; rw [if_pos xq, h2] at hv; exact hv
 rw [if_neg xq, if_neg h1]
 by_cases h3 : b < i
 ·rw [if_pos h3]; rw [if_pos xq] at hv; exact hv
 rw [if_neg xq] at hv; cases hv
theorem c23 (hb : b < i) (hv : (if a < n then (if b < j ∨ b = j ∧ a < 0 then some (mM n A M a b) else none) else some (M b j)) = some q) : (if a < n then (if b < j then some (mM n A M a b) else none) else if b < i then some (M b j) else none) = some q := by
 by_cases h1 : a < n
 ·rw [if_pos h1] at hv ⊢
  by_cases h2 : b < j
  ·rw [if_pos (.inl h2)] at hv; rw [if_pos h2]; exact hv
  rw [if_neg xq] at hv; cases hv
 rw [if_neg h1] at hv ⊢; rw [if_pos hb]; exact hv
theorem c33 (ha : i < n) (hv : (if a < n then (if b < j ∨ b = j ∧ a < i + 1 then some (mM n A M a b) else none) else some (M b j)) = some q) : up2 (fun a b => if a < n then (if b < j ∨ b = j ∧ a < i then some (mM n A M a b) else none) else some (M b j)) i j (mM n A M i j) a b = some q := by
 unfold up2
 dsimp only
 by_cases h1 : a = i ∧ b = j
 ·rw [if_pos h1]
  rw [if_pos xq, if_pos xq, h1.1, h1.2] at hv; exact hv
 rw [if_neg h1]
 by_cases h2 : a < n
 ·rw [if_pos h2] at hv ⊢
  by_cases h3 : b < j ∨ b = j ∧ a < i
  ·rw [if_pos h3]; rw [if_pos xq] at hv; exact hv
  rw [if_neg xq] at hv; cases hv
 rw [if_neg h2] at hv ⊢; exact hv
theorem c31 (hi : i = n) (hv : (if a < n ∧ b < j + 1 then some (mM n A M a b) else none) = some q) : (if a < n then (if b < j ∨ b = j ∧ a < i then some (mM n A M a b) else none) else some (M b j)) = some q := by
 by_cases h1 : a < n ∧ b < j + 1
 ·rw [if_pos h1] at hv; rw [if_pos h1.1, if_pos xq]; exact hv
 rw [if_neg h1] at hv; cases hv
end
end Nt
set_option maxHeartbeats 8000000 in
theorem k_nTimes {u w : World} {x y : Sl} {n K M9 : Nat} {Ra Rb : List Sl} {A M : Nat → Nat → Rat} (d : Dat u w) (hA : MatV u x n Ra (fun i => rowL n (A i)) K) (hB : MatV u y n Rb (fun i => rowL n (M i)) K) (hn : n ≤ 100) (hK : K ≤ M9) (h2 : 2 ≤ M9) (hM9 : M9 ≤ 20000000) (hM : ∀ i j k, i < n → j < n → k ≤ n → Nt.rs (Nt.su (fun l => A i l * M l j) k) ≤ M9) : Calls Tryz.prog 111 #[x.v, y.v] w (Post u w fun v u' => ∃ (z : Sl) (Rs : List Sl) (Ls : List (List RL)), v = z.v ∧ SysE 26 32 u.heap.size u' z n Rs Ls (fun _ => n) (fun i j => some (Nt.mM n A M i j)) M9 ∧ Ls.length = n) := by
 obtain ⟨xa, xn, xc⟩ := x
 obtain ⟨ya, yn, yc⟩ := y
 obtain rfl : n = xn := hA.1.symm
 obtain rfl : n = yn := hB.1.symm
 refine zzm (args := [.slice xa n xc, .slice ya n yc]) Tryz.func111 rfl Tryz.ntmps111 (rs := [.tmp 4]) Tryz.results111 (le_b rfl) (le_b rfl) d ?_
 refine sq9 (zza 4 (.v (.slice none 0 0)) (zzb (sq9 (zza 11 (.v (.slice xa n xc)) (zza 12 (zI n) (sy_makeF 13 (T := 75) (E := 26) (z := .slice none 0 0) (size := 1) (bytes := 24) n ((List.replicate n sl0).map Sl.v) xj xj rfl rfl xq yv (made_sls _) (fun aa bh bd bu f11 bH => ?_)))))))
 have a3 : MutQ 1 26 u.heap.size bh (⟨some ⟨aa, 0, none⟩, n, n⟩ : Sl) ((List.replicate n sl0).map Sl.v) := MutQ.lit bu (by rw [List.length_map, List.length_replicate, Nat.mul_one]) yv bH (nu_sls _)
 refine zza 5 (.v (.slice (some ⟨aa, 0, none⟩) n n)) (zzb (sq9 (zza 14 (.v (.slice xa n xc)) (zza 15 (zI n) (sy_makeF 16 (T := 26) (E := 32) (z := .agg #[.bool false, .slice none 0 0, .slice none 0 0]) (size := 3) (bytes := 56) n (rcs (List.replicate n rl0)) xj xj rfl rfl xq yv (made_rcs _) (fun ab bt bj bI f13 bE => ?_))))))
 have aL : MutQ (1 * 3) 32 bh.heap.size bt (⟨some ⟨ab, 0, none⟩, n, n⟩ : Sl) (rcs (List.replicate n rl0)) := MutQ.lit bI (by rw [zyy, List.length_replicate]) yv bE (nu_rcs _)
 refine zza 6 (.v (.slice (some ⟨ab, 0, none⟩) n n)) (zzb (zzd (zzd ?_)))
 have s0 := SysE.nil (tR := 32) (val := fun _ _ => none) (K := M9) n (MutQ.low (MutQ.ext a3 bj) (Ext.size (Ext.refl _)))
 have s1 := SysE.add (w := n) (g := fun _ => none) s0 (MutQ.low aL (Ext.size bd)) (fun j _ => by rw [rep_sl]; exact fun a a' _ h => by cases h) (List.length_replicate ..) (fun b q _ h => by cases h)
 have s3 := SysE.congr (lw' := fun a => if a < n then 0 else n) (val' := fun _ _ => none) s1 (fun a ha => Nt.c_lw a ha) (fun a b q _ _ h => by cases h)
 have hRC : (List.replicate n sl0 ++ [(⟨some ⟨ab, 0, none⟩, n, n⟩ : Sl)]).getD n sl0 = (⟨some ⟨ab, 0, none⟩, n, n⟩ : Sl) := rep_getN
 have bb : (List.replicate n ([] : List RL) ++ [List.replicate n rl0]).length = n + 1 := by simp
 generalize (List.replicate n sl0 ++ [(⟨some ⟨ab, 0, none⟩, n, n⟩ : Sl)]) = R0 at s3 hRC
 generalize (List.replicate n ([] : List RL) ++ [List.replicate n rl0]) = L0 at s3 bb
 refine zzf (zza 17 (.v (.slice xa n xc)) (zza 18 (zI n) (zza 19 (zI 0) (zzb (zzt (zyn (I := fun bf S' u' => ∃ (i : Nat) (Rs : List Sl) (Ls : List (List RL)), (bf = n - i) ∧ (i ≤ n) ∧ (Ls.length = n + 1) ∧ (Rs.getD n sl0 = (⟨some ⟨ab, 0, none⟩, n, n⟩ : Sl)) ∧ (S' = St.of 70 [(0, .v (.slice xa n xc)), (1, .v (.slice ya n yc)), (5, .v (.slice (some ⟨aa, 0, none⟩) n n)), (6, .v (.slice (some ⟨ab, 0, none⟩) n n)), (18, zI n), (19, zI i)] []) ∧ (Ext u u') ∧ (SysE 26 32 u.heap.size u' (⟨some ⟨aa, 0, none⟩, n, n⟩ : Sl) n Rs Ls (fun a => if a < i then n else if a < n then 0 else n) (fun _ _ => none) M9)) (fun m S u1 u2 e h => by obtain ⟨i, Rs, Ls, hm, p0, p1, p2, hS, hE, f0⟩ := h; exact ⟨i, Rs, Ls, hm, p0, p1, p2, hS, hE.trans e, f0.ext e⟩) _ yz ⟨0, R0, L0, rfl, Nat.zero_le _, bb, hRC, rfl, (bd.trans bj), (SysE.congr s3 (fun a ha => by simp) (fun a b q _ _ h => by cases h))⟩ ?_))))))
 rintro bf _ bA ⟨i, Rs, Ls, bF, hi, hLl, hC, rfl, a4, f0⟩
 have hxn := SysE.xn f0
 refine sq9 (zza 20 (zB (decide ((i : Int) < (n : Int)))) (zzb (zzd (zzu (b := decide ((i : Int) < (n : Int))) xj (fun af => ?_) (fun af => ?_)))))
 ·have qhb16 := of_decide_eq_true af
  refine zzs (zzp ?_)
  refine zzd (zzt (sq9 (zza 21 (zI i) (zza 7 (zI i) (zzb (zzf (zza 22 (.v (.slice (some ⟨aa, 0, none⟩) n n)) (zza 23 (zI i) (zza 24 (.v (.slice xa n xc)) (zza 25 (zI n) (sy_makeF 26 (T := 26) (E := 32) (z := .agg #[.bool false, .slice none 0 0, .slice none 0 0]) (size := 3) (bytes := 56) n (rcs (List.replicate n rl0)) xj xj rfl rfl xq yv (made_rcs _) (fun ac bc aX ba f17 aY => ?_))))))))))))
  have bv : MutQ (1 * 3) 32 bA.heap.size bc (⟨some ⟨ac, 0, none⟩, n, n⟩ : Sl) (rcs (List.replicate n rl0)) := MutQ.lit ba (by rw [zyy, List.length_replicate]) yv aY (nu_rcs _)
  have hq19 := (SysE.ext f0 aX)
  obtain ⟨b19, av, bx⟩ := SysE.cell (i := i) hq19 xq
  have hn19 := SysE.xn hq19
  change n = _ at hn19
  refine zya 27 (0 + i * 1) (n := n) (off := 0) (sz := 1) (i := (i : Int)) xq av xq xq sl75 ?_
  have ho20 := (SysE.ext f0 aX)
  have aH : MutQ (1 * 3) 32 u.heap.size bc (⟨some ⟨ac, 0, none⟩, n, n⟩ : Sl) (rcs (List.replicate n rl0)) := MutQ.lit (ba) (by rw [zyy, List.length_replicate] <;> omega) yv (Nat.le_trans (Ext.size a4) aY) (nu_rcs _)
  have aD : ∀ j, j < Ls.length → j ≠ i → Sep (⟨some ⟨ac, 0, none⟩, n, n⟩ : Sl) (Rs.getD j sl0) := fun j hj _ => SysE.fresh (f0) aY j hj
  refine sy_storeQ (v := .slice (some ⟨ac, 0, none⟩) n n) (off := 0 + i * 1) (n := 1) (⟨some ⟨aa, 0, none⟩, n, n⟩ : Sl) (SysE.out ho20) (MutQ.mayA (SysE.out ho20) (Ext.size (Ext.refl _))) av ty26 (by have h9 := SysE.hn ho20; rw [List.length_map, List.length_take]; omega) (nu_sls [(⟨some ⟨ac, 0, none⟩, n, n⟩ : Sl)]) (fun bs aV az => ?_)
  have aW : MutQ 1 26 u.heap.size bs (⟨some ⟨aa, 0, none⟩, n, n⟩ : Sl) (((Rs.take n).set i (⟨some ⟨ac, 0, none⟩, n, n⟩ : Sl)).map Sl.v) := by rw [← setL_map (y := (⟨some ⟨ac, 0, none⟩, n, n⟩ : Sl)) (i := i) (by have h9 := SysE.hn ho20; rw [List.length_take]; omega)]; exact aV
  have eX20r := ExtX.root az (MutQ.mutL (SysE.out ho20)) (a4.trans aX)
  have hS20 := SysE.put (i := i) (w := n) (g := (fun _ => none)) yj ho20 xq aW az aH aD List.length_replicate (fun b q _ h => by cases h)
  obtain ⟨bg, ax⟩ : ∃ Z9, Rs.set i (⟨some ⟨ac, 0, none⟩, n, n⟩ : Sl) = Z9 := ⟨_, rfl⟩
  rewrite [ax] at hS20
  obtain ⟨a8, aw⟩ : ∃ Z9, Ls.set i (List.replicate n rl0) = Z9 := ⟨_, rfl⟩
  rewrite [aw] at hS20
  have aR : a8.length = n + 1 := by rw [← aw, List.length_set]; exact hLl
  refine zzx ?_
  refine zzp (zzf (zyq 28 (x := zI (IntKind.i64.wrap ((i : Int) + 1))) (zI (i + 1 : Nat)) (eqI yq) (zza 19 (zI (i + 1 : Nat)) (zzx ?_))))
  have hgn : ∀ j, n ≤ j → bg.getD j sl0 = Rs.getD j sl0 := fun j hj => by rw [← ax]; exact getD_set_other xq
  refine ⟨_, ?_, _, by exact zzv _ _ _, i + 1, bg, a8, rfl, by omega, aR, (by rw [hgn n (Nat.le_refl n)]; exact hC), rfl, eX20r, (SysE.congr hS20 (fun a ha => Nt.ci_lw xq a) (fun a b q _ _ h => by cases h))⟩
  omega
 have qhb16 := of_decide_eq_false af
 refine zyc (zzp (zzd (sq9 (zza 29 (.v (.slice xa n xc)) (zza 30 (zI n) (zza 31 (zI 0) (zzb (zzt (zyn (I := fun bn S' u' => ∃ (j : Nat) (Rt : List Sl) (Lt : List (List RL)), (bn = n - j) ∧ (j ≤ n) ∧ (Lt.length = n + 1) ∧ (Rt.getD n sl0 = (⟨some ⟨ab, 0, none⟩, n, n⟩ : Sl)) ∧ (S' = St.of 70 [(0, .v (.slice xa n xc)), (1, .v (.slice ya n yc)), (5, .v (.slice (some ⟨aa, 0, none⟩) n n)), (6, .v (.slice (some ⟨ab, 0, none⟩) n n)), (30, zI n), (31, zI j)] []) ∧ (Ext u u') ∧ (SysE 26 32 u.heap.size u' (⟨some ⟨aa, 0, none⟩, n, n⟩ : Sl) n Rt Lt (fun _ => n) (fun a b => if a < n ∧ b < j then some (Nt.mM n A M a b) else none) M9)) (fun m S u1 u2 e h => by obtain ⟨j, Rt, Lt, hm, p0, p1, p2, hS, hE, f0⟩ := h; exact ⟨j, Rt, Lt, hm, p0, p1, p2, hS, hE.trans e, f0.ext e⟩) _ yz ⟨0, Rs, Ls, rfl, Nat.zero_le _, hLl, hC, rfl, a4, (SysE.congr f0 (fun a ha => Nt.c_end xq) (fun a b q _ _ h => Nt.c00 h))⟩ ?_)))))))))
 rintro bn _ u21 ⟨j, Rt, Lt, bz, hj, hLt, hCt, rfl, bK, g0⟩
 refine sq9 (zza 32 (zB (decide ((j : Int) < (n : Int)))) (zzb (zzd (zzu (b := decide ((j : Int) < (n : Int))) xj (fun ad => ?_) (fun ad => ?_)))))
 ·have qhb22 := of_decide_eq_true ad
  refine zzs (zzp ?_)
  refine zzd (zzt (sq9 (zza 33 (zI j) (zza 8 (zI j) (zzb (zzd (sq9 (zza 34 (.v (.slice xa n xc)) (zza 35 (zI n) (zza 36 (zI 0) (zzb ?_)))))))))))
  refine zzt (zyn (I := fun bl S' u' => ∃ (i : Nat) (La : List (List RL)), (bl = n - i) ∧ (i ≤ n) ∧ (La.length = n + 1) ∧ (S' = St.of 70 [(0, .v (.slice xa n xc)), (1, .v (.slice ya n yc)), (5, .v (.slice (some ⟨aa, 0, none⟩) n n)), (6, .v (.slice (some ⟨ab, 0, none⟩) n n)), (8, zI j), (30, zI n), (31, zI j), (35, zI n), (36, zI i)] []) ∧ (Ext u u') ∧ (SysE 26 32 u.heap.size u' (⟨some ⟨aa, 0, none⟩, n, n⟩ : Sl) n Rt La (fun _ => n) (fun a b => if a < n then (if b < j then some (Nt.mM n A M a b) else none) else if b < i then some (M b j) else none) M9)) (fun m S u1 u2 e h => by obtain ⟨i, La, hm, p0, p1, hS, hE, f0⟩ := h; exact ⟨i, La, hm, p0, p1, hS, hE.trans e, f0.ext e⟩) _ yz ⟨0, Lt, rfl, Nat.zero_le _, hLt, rfl, bK, (SysE.congr g0 (fun a ha => rfl) (fun a b q _ _ hv => Nt.c12 hv))⟩ ?_)
  rintro bl _ bq ⟨i, La, br, hi, hLa, rfl, ar, a0⟩
  refine sq9 (zza 37 (zB (decide ((i : Int) < (n : Int)))) (zzb (zzd (zzu (b := decide ((i : Int) < (n : Int))) xj (fun ag => ?_) (fun ag => ?_)))))
  ·have qhb24 := of_decide_eq_true ag
   refine zzs (zzp ?_)
   refine zzd (zzt (sq9 (zza 38 (zI i) (zza 9 (zI i) (zzb ?_)))))
   have hrl := rowL_len (w := n) (f := M i)
   refine zzf (zza 39 (.v (.slice (some ⟨ab, 0, none⟩) n n)) (zza 40 (zI i) (zza 41 (.v (.slice ya n yc)) (zza 42 (zI i) ?_))))
   have hn25 := ((hB.ext ar)).1
   obtain ⟨b25, aU, aM⟩ := ((hB.ext ar)).2.1 i xq
   refine zya 43 (0 + i * 1) (n := n) (off := 0) (sz := 1) (i := (i : Int)) xq aU xq yy sl75 ?_
   have aq : PolN bq (Rb.getD i sl0) (rowL n (M i)) K := ((hB.ext ar)).2.2 i xq
   refine zyl 44 (.slice (Rb.getD i sl0).a (Rb.getD i sl0).n (Rb.getD i sl0).c) aM ty26 (zza 45 (zI j) ?_)
   have hl27 := aq.len
   obtain ⟨ai, b27, bk, aC, aK, aI⟩ := pol_atN aq (i := j) xq
   refine zya 46 (bk + j * 3) (n := (Rb.getD i sl0).n) (off := bk) (sz := 3) (i := (j : Int)) xq aC xq xq sl26 (zym 47 ai.cs aK ty32 ?_)
   have hq28 := a0
   have a1 : (La.getD n []).length = n := (SysE.wid hq28 n (by rw [hLa]; omega)).trans rfl
   have hr28 := SysE.row hq28 n (by rw [hLa]; omega)
   rw [hCt] at hr28
   have hz28 := MutQ.rown hr28
   change n = _ at hz28
   obtain ⟨b28, an, bL⟩ := MutQ.el1 (j := i) hr28 (by rw [a1]; omega)
   refine zya 48 (0 + i * 3) (n := n) (off := 0) (sz := 3) (i := (i : Int)) xq an xq xq sl26 ?_
   have ho29 := a0
   have aA : (La.getD n []).length = n := (SysE.wid ho29 n (by rw [hLa]; omega)).trans rfl
   have hy29 := SysE.row ho29 n (by rw [hLa]; omega)
   rw [hCt] at hy29
   refine sy_storeQ (v := ai.v) (off := 0 + i * 3) (n := 3) (⟨some ⟨ab, 0, none⟩, n, n⟩ : Sl) hy29 (MutQ.mayA hy29 (Ext.size (Ext.refl _))) an ty32 (by rw [zyy, aA]; omega) (nu_rl ai) (fun bD aO al => ?_)
   have aE : MutQ (1 * 3) 32 u.heap.size bD (⟨some ⟨ab, 0, none⟩, n, n⟩ : Sl) (rcs ((La.getD n []).set i ai)) := by rw [← zyx (off := 0 + i * 3) (by rw [aA]; omega) xq]; exact aO
   have eX29r := ExtX.root al (MutQ.mutL hy29) ar
   have hS29 := SysE.store (i := n) (j := i) (r := ai) (q := ((rowL n (M i)).getD j 0)) yj ho29 (by rw [hLa]; omega) (Nat.lt_of_lt_of_eq (show i < n by omega) (Eq.symm rfl)) (by rw [hCt]; exact aE) (by rw [hCt]; exact al) (RatN.more (K := K) aI xq)
   obtain ⟨a9, ak⟩ : ∃ Q9, La.set n ((La.getD n []).set i ai) = Q9 := ⟨_, rfl⟩
   rewrite [ak] at hS29
   have a2 : a9.length = n + 1 := by rw [← ak, List.length_set]; exact hLa
   refine zzx ?_
   refine zzp (zzf (zyq 49 (x := zI (IntKind.i64.wrap ((i : Int) + 1))) (zI (i + 1 : Nat)) (eqI yq) (zza 36 (zI (i + 1 : Nat)) (zzx ?_))))
   refine ⟨_, ?_, _, by exact zzv _ _ _, i + 1, a9, rfl, by omega, a2, rfl, eX29r, (SysE.congr hS29 (fun a ha => rfl) (fun a b q ha _ hv => by rw [rowL_at (w := n) (f := M i) (j := j) xq]; exact Nt.c22 xq hv))⟩
   omega
  have qhb24 := of_decide_eq_false ag
  refine zyc (zzp (sq9 (zza 50 (.v (.slice xa n xc)) (zza 51 (zI n) (zza 52 (zI 0) (zzb (zzt (zyn (I := fun bi S' u' => ∃ (i : Nat) (Lb : List (List RL)), (bi = n - i) ∧ (i ≤ n) ∧ (Lb.length = n + 1) ∧ (S' = St.of 70 [(0, .v (.slice xa n xc)), (1, .v (.slice ya n yc)), (5, .v (.slice (some ⟨aa, 0, none⟩) n n)), (6, .v (.slice (some ⟨ab, 0, none⟩) n n)), (8, zI j), (30, zI n), (31, zI j), (51, zI n), (52, zI i)] []) ∧ (Ext u u') ∧ (SysE 26 32 u.heap.size u' (⟨some ⟨aa, 0, none⟩, n, n⟩ : Sl) n Rt Lb (fun _ => n) (fun a b => if a < n then (if b < j ∨ b = j ∧ a < i then some (Nt.mM n A M a b) else none) else some (M b j)) M9)) (fun m S u1 u2 e h => by obtain ⟨i, Lb, hm, p0, p1, hS, hE, f0⟩ := h; exact ⟨i, Lb, hm, p0, p1, hS, hE.trans e, f0.ext e⟩) _ yz ⟨0, La, rfl, Nat.zero_le _, hLa, rfl, ar, (SysE.congr a0 (fun a ha => rfl) (fun a b q _ hb hv => Nt.c23 xq hv))⟩ ?_))))))))
  rintro bi _ bm ⟨i, Lb, bG, hi, hLb, rfl, ao, b0⟩
  refine sq9 (zza 53 (zB (decide ((i : Int) < (n : Int)))) (zzb (zzd (zzu (b := decide ((i : Int) < (n : Int))) xj (fun ae => ?_) (fun ae => ?_)))))
  ·have qhb31 := of_decide_eq_true ae
   refine zzs (zzp ?_)
   refine zzd (zzt (sq9 (zza 54 (zI i) (zza 10 (zI i) (zzb ?_)))))
   have aj : PolN bm (⟨some ⟨ab, 0, none⟩, n, n⟩ : Sl) (rowL n (fun b => M b j)) M9 := by have h9 := SysE.pol (i := n) (f := fun _ b => M b j) b0 xq (fun b hb => if_neg (Nat.lt_irrefl n)); rw [hCt] at h9; exact h9
   refine sw_anyC [0, 0, 3, 7, 0, 0, 0, 96, 224, 0, 992, 2047, 4095] [(0, []), (1, []), (2, []), (3, []), (4, []), (5, []), (6, []), (7, []), (8, []), (9, []), (10, [])] [(11, []), (12, [])] xj xj xj ?_
   refine zza 55 (.v (.slice (some ⟨aa, 0, none⟩) n n)) (zza 56 (zI i) ?_)
   have hq33 := b0
   obtain ⟨b33, aQ, aJ⟩ := SysE.cell (i := i) hq33 xq
   have hn33 := SysE.xn hq33
   change n = _ at hn33
   refine zya 57 (0 + i * 1) (n := n) (off := 0) (sz := 1) (i := (i : Int)) xq aQ xq xq sl75 (zyl 58 (.slice (Rt.getD i sl0).a (Rt.getD i sl0).n (Rt.getD i sl0).c) aJ ty26 (zza 59 (zI j) (zza 60 (.v (.slice xa n xc)) (zza 61 (zI i) ?_))))
   have hn34 := ((hA.ext ao)).1
   obtain ⟨b34, aZ, a7⟩ := ((hA.ext ao)).2.1 i xq
   refine zya 62 (0 + i * 1) (n := n) (off := 0) (sz := 1) (i := (i : Int)) xq aZ xq yy sl75 ?_
   have aG : PolN bm (Ra.getD i sl0) (rowL n (A i)) K := ((hA.ext ao)).2.2 i xq
   refine zyl 63 (.slice (Ra.getD i sl0).a (Ra.getD i sl0).n (Ra.getD i sl0).c) a7 ty26 (zza 64 (.v (.slice (some ⟨ab, 0, none⟩) n n)) (zzg 65 110 _ fun _ _ aB bB => Post.mono (k_nProduct (M := M9) bB (PolN.more (K' := (max K M9)) (aG.ext aB) xq) (PolN.more (K' := (max K M9)) (aj.ext aB) xq) (by simp [rowL_len]) (by rw [rowL_len]; omega) xq xq xq (fun k hk => by rw [rowL_len] at hk; rw [Nt.dot_row hk]; exact hM i j k xq xq hk)) ?_))
   rintro _ bw aN ⟨ah, rfl, a6⟩
   have aT : RatN bw ah (Nt.mM n A M i j) M9 := by have h9 := a6; rewrite [Nt.dot_rows] at h9; exact h9
   refine zzx ?_
   have hq43 := (SysE.ext b0 (aB.t aN.ext))
   have aS : (Lb.getD i []).length = n := (SysE.wid hq43 i (by rw [hLb]; omega)).trans rfl
   have hr43 := SysE.row hq43 i (by rw [hLb]; omega)
   have hz43 := MutQ.rown hr43
   obtain ⟨b43, am, bC⟩ := MutQ.el1 (j := j) hr43 (by rw [aS]; omega)
   refine zya 66 (0 + j * 3) (n := (Rt.getD i sl0).n) (off := 0) (sz := 3) (i := (j : Int)) xq am xq xq sl26 ?_
   have ho44 := (SysE.ext b0 (aB.t aN.ext))
   have ap : (Lb.getD i []).length = n := (SysE.wid ho44 i (by rw [hLb]; omega)).trans rfl
   have hy44 := SysE.row ho44 i (by rw [hLb]; omega)
   refine sy_storeQ (v := ah.v) (off := 0 + j * 3) (n := 3) (Rt.getD i sl0) hy44 (MutQ.mayA hy44 (Ext.size (Ext.refl _))) am ty32 (by rw [zyy, ap]; omega) (nu_rl ah) (fun bo aF ay => ?_)
   have aP : MutQ (1 * 3) 32 u.heap.size bo (Rt.getD i sl0) (rcs ((Lb.getD i []).set j ah)) := by rw [← zyx (off := 0 + j * 3) (by rw [ap]; omega) xq]; exact aF
   have eX44r := ExtX.root ay (MutQ.mutL hy44) (ao.t (aB.t aN.ext))
   have hS44 := SysE.store (i := i) (j := j) (r := ah) (q := (Nt.mM n A M i j)) yj ho44 (by rw [hLb]; omega) (Nat.lt_of_lt_of_eq (show j < n by omega) (Eq.symm rfl)) aP ay aT
   obtain ⟨be, au⟩ : ∃ Q9, Lb.set i ((Lb.getD i []).set j ah) = Q9 := ⟨_, rfl⟩
   rewrite [au] at hS44
   have a5 : be.length = n + 1 := by rw [← au, List.length_set]; exact hLb
   refine zzx ?_
   refine zzp (zzf (zyq 67 (x := zI (IntKind.i64.wrap ((i : Int) + 1))) (zI (i + 1 : Nat)) (eqI yq) (zza 52 (zI (i + 1 : Nat)) (zzx ?_))))
   refine ⟨_, ?_, _, by exact zzv _ _ _, i + 1, be, rfl, by omega, a5, rfl, eX44r, (SysE.congr hS44 (fun a ha => rfl) (fun a b q ha _ hv => Nt.c33 xq hv))⟩
   omega
  have qhb31 := of_decide_eq_false ae
  refine zyc (zzp (zzf (zyq 68 (x := zI (IntKind.i64.wrap ((j : Int) + 1))) (zI (j + 1 : Nat)) (eqI yq) (zza 31 (zI (j + 1 : Nat)) (zzx ?_)))))
  refine ⟨_, ?_, _, by exact zzv _ _ _, j + 1, Rt, Lb, rfl, by omega, hLb, hCt, rfl, ao, (SysE.congr b0 (fun a ha => rfl) (fun a b q _ _ hv => Nt.c31 xq hv))⟩
  omega
 have qhb22 := of_decide_eq_false ad
 refine zyc (zzp (sq9 (zza 69 (.v (.slice (some ⟨aa, 0, none⟩) n n)) (zza 4 (.v (.slice (some ⟨aa, 0, none⟩) n n)) (zzb (zzo (ret0 [.slice (some ⟨aa, 0, none⟩) n n] ⟨zzq, trivial⟩ fun u45 bp => ?_)))))))
 have bJ : n = j := by omega
 subst bJ
 exact ⟨(⟨some ⟨aa, 0, none⟩, n, n⟩ : Sl), _, _, rfl, SysE.congr (SysE.front (SysE.ext g0 bp)) (fun a ha => rfl) (fun a b q ha hb hv => by rw [List.length_take] at ha; rw [if_pos ⟨by omega, hb⟩]; exact hv), by rw [List.length_take]; omega⟩
section
variable {k lo b n m i j : Nat} {ty tO : TypeId} {u u' v : World} {x y : Sl} {cs : List Value} {L : List RL} {l : List Rat} {K : Nat} {Rs : List Sl} {T : Nat → List Rat}
theorem ExtX.cell (e : ExtX x u u') {b o : Nat} {v : Value} (hb : offB x b) (hc : u.cell? ⟨b, o, none⟩ = some v) : u'.cell? ⟨b, o, none⟩ = some v := by
 unfold World.cell? at hc ⊢
 cases h1 : u.heap[b]? with
 | none => dsimp only at hc; rw [h1] at hc; cases hc
 | some ob =>
  dsimp only at hc ⊢
  rw [h1] at hc
  cases ob with
  | cells c t fr => rw [e.vis _ _ hb h1 (by unfold hidO; exact fun e => by cases e)]; exact hc
  | _ => cases hc
theorem PolN.keepX (h : PolN u y l K) (m : MutQ k ty lo u x cs) (e : ExtX x u u') (hs : Sep x y) : PolN u' y l K := by
 obtain ⟨L, ⟨h1, h2, h3, h4⟩, h5⟩ := h
 refine ⟨L, ⟨h1, h2, h3, fun hp => ?_⟩, m.keeps e h5⟩
 obtain ⟨b, o, ha, hc⟩ := h4 hp
 refine ⟨b, o, ha, fun j hj => ?_⟩
 have hcj := hc j hj
 rw [List.getElem?_eq_getElem hj] at hcj ⊢
 exact e.cell (fun a hx hb => hs a ⟨b, o, none⟩ hx ha hb) hcj
structure ColQ (tO : TypeId) (lo : Nat) (u : World) (x : Sl) (n : Nat) (Rs : List Sl) (T : Nat → List Rat) (m K : Nat) : Prop where
 out : MutQ 1 tO lo u x (Rs.map Sl.v)
 len : Rs.length = n
 row : ∀ i, i < m → PolN u (Rs.getD i sl0) (T i) K ∧ Sep x (Rs.getD i sl0)
theorem ColQ.ext (h : ColQ tO lo u x n Rs T m K) (e : Ext u u') : ColQ tO lo u' x n Rs T m K := ⟨h.out.ext e, h.len, fun i hi => ⟨(h.row i hi).1.ext e, (h.row i hi).2⟩⟩
theorem ColQ.start (ho : MutQ 1 tO lo u x ((List.replicate n sl0).map Sl.v)) : ColQ tO lo u x n (List.replicate n sl0) T 0 K := ⟨ho, by simp, fun i hi => absurd hi (Nat.not_lt_zero i)⟩
theorem ColQ.next (h : ColQ tO lo u x n Rs T m K) (ho : MutQ 1 tO lo u' x ((Rs.set m y).map Sl.v)) (e : ExtX x u u') (hm : m < n) (hy : PolN u y (T m) K) (hs : Sep x y) : ColQ tO lo u' x n (Rs.set m y) T (m + 1) K := by
 refine ⟨ho, by rw [List.length_set]; exact h.len, fun i hi => ?_⟩
 by_cases e1 : m = i
 ·subst e1; rw [getD_set_same (by rw [h.len]; exact hm)]; exact ⟨hy.keepX h.out e hs, hs⟩
 rw [getD_set_other e1]
 obtain ⟨r1, r2⟩ := h.row i xq
 exact ⟨r1.keepX h.out e r2, r2⟩
theorem ColQ.xn (h : ColQ tO lo u x n Rs T m K) : x.n = n := by
 have h1 := h.out.1
 rw [List.length_map, h.len] at h1
 omega
theorem ColQ.cell (h : ColQ tO lo u x n Rs T m K) (hi : i < n) : ∃ b, x.a = some ⟨b, 0, none⟩ ∧ u.cell? ⟨b, 0 + i * 1, none⟩ = some (Rs.getD i sl0).v := by
 have hl := h.len
 obtain ⟨b, h1, h2⟩ := h.out.mutL.cell (j := i) (by rw [List.length_map]; omega)
 refine ⟨b, h1, ?_⟩
 rw [Nat.mul_one, h2, List.getElem?_map, List.getD_eq_getElem?_getD, List.getElem?_eq_getElem xq]; rfl
theorem ColQ.matV (h : ColQ tO lo u x n Rs T n K) : MatV u x n Rs T K := ⟨h.xn, fun i hi => h.cell hi, fun i hi => (h.row i hi).1⟩
theorem sep_new {b c : Nat} (h : b < lo) (hy : ∀ a, y.a = some a → lo ≤ a.block) : Sep ⟨some ⟨b, 0, none⟩, n, c⟩ y := fun a a' h1 h2 hc => by
 injection h1 with h1; subst h1
 have h3 := hy a' h2
 have hc : b = a'.block := hc
 omega
end
set_option maxHeartbeats 4000000 in
theorem k_netValid {u w : World} {D W : WL} {s : Nat} {X Y : Sl} {h lo : Nat} {N : List (List TL)} {nx : List Int} {q : Int} (d : Dat u w) (hN : NodesB lo h u X N) (hY : MutL 1 3 lo u Y (ics nx)) (hok : Nt.NetOK D W s N nx q) : Calls Tryz.prog 105 #[.agg #[.int .i64 D.b, .int .i64 D.f, .int .i64 D.r, .int .i64 D.o, .int .i64 W.b, .int .i64 W.f, .int .i64 W.r, .int .i64 W.o, .int .i64 (s : Int), X.v, Y.v, .int .i64 q]] w (Post u w fun y _ => y = .bool true) := by
 obtain ⟨La, gA, gB, gC⟩ := id hN
 have hNl := hN.len
 have hD := hok.hd
 have hWc := hok.hw
 have hs64 := hok.hs
 have hn64 := hok.hn
 have hxs := hok.hx
 have hYr := MutL.slr hY
 have hYl : nx.length = Y.n := hYr.1
 have hqq := hok.hq
 have hbx : ∀ z ∈ nx, -9223372036854775808 ≤ z ∧ z ≤ 9223372036854775807 := fun z hz => by
  obtain ⟨j, hj, rfl⟩ := Nt.mem_getD hz
  have h9 := hok.hr j hj
  omega
 have aG : ∀ i, i < N.length → (La.getD i sl0).n = (N.getD i []).length ∧ (N.getD i []).length ≤ 64 := fun i hi => ⟨tms_len (gC i hi).1, (hok.ht i hi).1⟩
 obtain ⟨hd1, hd2, hd3, hd4, hd5, hd6, hd7, hd8⟩ := id hD
 obtain ⟨hw1, hw2, hw3, hw4, hw5, hw6, hw7, hw8⟩ := id hWc
 have hpw1 := Nt.zxq W.f
 have hpw2 := Nt.p2i_24 (n := W.f) xq
 have hpd1 := Nt.zxq (D.b - 1)
 have aH : Nt.p2i (D.b - 1) ≤ 8388608 := Nt.zwh (b := 23) xq
 refine zzm (args := [.agg #[.int .i64 D.b, .int .i64 D.f, .int .i64 D.r, .int .i64 D.o, .int .i64 W.b, .int .i64 W.f, .int .i64 W.r, .int .i64 W.o, .int .i64 s, X.v, Y.v, .int .i64 q]]) Tryz.func105 rfl Tryz.ntmps105 (rs := [.tmp 2]) Tryz.results105 (le_b rfl) (le_b rfl) d ?_
 refine sq9 (zzk 1 ⟨72, [.int .i64 D.b, .int .i64 D.f, .int .i64 D.r, .int .i64 D.o, .int .i64 W.b, .int .i64 W.f, .int .i64 W.r, .int .i64 W.o, .int .i64 s, X.v, Y.v, .int .i64 q]⟩ (zza 2 (zB false) (zzb (zzd (sq9 (zza 10 (.adr 1 0) (zzi 11 (.v (D.v)) ty66 zze (zzg 12 103 _ fun _ _ ae aE => Post.mono (k_fxValid (W := D) aE hD) ?_))))))))
 rintro _ u12 ah rfl
 refine zza 13 (zB false) (zza 14 (zB false) (zza 15 (.adr 1 4) ?_ (hw := w1 4 false 14)))
 refine zzi 16 (.v (W.v)) ty66 zze ?_ (hw := w1 4 false 14)
 refine zzg 17 103 _ (fun _ _ ag ay => Post.mono (k_fxValid (W := W) ay hWc) ?_) (hw := w1 4 false 14)
 rintro _ ax ai rfl
 refine zza 18 (zB false) ?_ (hw := w1 4 false 14)
 refine zza 19 (zB false) (zzb (zys xj (zzs (zzp ?_))))
 refine zzd (sq9 (zza 20 (.adr 1 8) (zzi 21 (zI s) ty3 zzl (zza 22 (zB (decide ((s : Int) < 0))) (zyq 23 (x := zB (decide ((s : Int) < 0))) (zB false) (by rw [show (decide ((s : Int) < 0)) = false from decide_eq_false xq]) (zza 24 (.adr 1 8) ?_ (hw := w1 3 false 23)))))))
 refine zzi 25 (zI s) ty3 zzl ?_ (hw := w1 3 false 23)
 refine zza 26 (zB (decide ((64 : Int) < (s : Int)))) ?_ (hw := w1 3 false 23)
 refine zza 27 (zB (decide ((64 : Int) < (s : Int)))) (zyq 28 (x := zB (decide ((64 : Int) < (s : Int)))) (zB false) (by rw [show (decide ((64 : Int) < (s : Int))) = false from decide_eq_false xq]) (zza 29 (.adr 1 9) ?_ (hw := w1 8 false 28)))
 refine zzi 30 (.v (X.v)) ty70 zzl ?_ (hw := w1 8 false 28)
 refine zza 31 (zI X.n) ?_ (hw := w1 8 false 28)
 refine zza 32 (zB (decide ((64 : Int) < (X.n : Int)))) ?_ (hw := w1 8 false 28)
 refine zza 33 (zB (decide ((64 : Int) < (X.n : Int)))) (zyq 34 (x := zB (decide ((64 : Int) < (X.n : Int)))) (zB false) (by rw [show (decide ((64 : Int) < (X.n : Int))) = false from decide_eq_false xq]) (zza 35 (.adr 1 10) ?_ (hw := w1 14 false 34)))
 refine zzi 36 (.v (Y.v)) ty22 zzl ?_ (hw := w1 14 false 34)
 refine zza 37 (zI Y.n) ?_ (hw := w1 14 false 34)
 refine zza 38 (.adr 1 8) ?_ (hw := w1 14 false 34)
 refine zzi 39 (zI s) ty3 zzl ?_ (hw := w1 14 false 34)
 refine zza 40 (zB ((Y.n : Int) != (s : Int))) ?_ (hw := w1 14 false 34)
 refine zza 41 (zB ((Y.n : Int) != (s : Int))) (zzc 120 [(1, .adr 1 0), (41, zB ((Y.n : Int) != (s : Int)))] [(1, ⟨72, [.int .i64 D.b, .int .i64 D.f, .int .i64 D.r, .int .i64 D.o, .int .i64 W.b, .int .i64 W.f, .int .i64 W.r, .int .i64 W.o, .int .i64 s, X.v, Y.v, .int .i64 q]⟩)] (zzu (b := (Y.n : Int) != (s : Int)) xj (fun hb => ?_) (fun hb => ?_)))
 ·exact absurd hb (by rw [show ((Y.n : Int) != (s : Int)) = false from (by first | (simp; done) | (simp; omega))]; decide)
 clear hb
 refine zzs (zzp ?_)
 refine zzd (sq9 (zza 42 (.adr 1 9) (zzi 43 (.v (X.v)) ty70 zzl (zza 44 (zI X.n) (zza 45 (zI 0) (zzb (zzt (zyn (I := fun au S' u' => ∃ (i : Nat), (au = X.n - i) ∧ (i ≤ X.n) ∧ (S' = St.of 120 [(1, .adr 1 0), (43, .v (X.v)), (44, zI X.n), (45, zI i)] [(1, ⟨72, [.int .i64 D.b, .int .i64 D.f, .int .i64 D.r, .int .i64 D.o, .int .i64 W.b, .int .i64 W.f, .int .i64 W.r, .int .i64 W.o, .int .i64 s, X.v, Y.v, .int .i64 q]⟩)]) ∧ (Ext ax u')) (fun m S u1 u2 e h => by obtain ⟨i, hm, p0, hS, hE⟩ := h; exact ⟨i, hm, p0, hS, hE.trans e⟩) _ yz ⟨0, rfl, Nat.zero_le _, rfl, (Ext.refl _)⟩ ?_))))))))
 rintro au _ ar ⟨i, aD, hi, rfl, ad⟩
 refine sq9 (zza 46 (zB (decide ((i : Int) < (X.n : Int)))) (zzb (zzd (zzu (b := decide ((i : Int) < (X.n : Int))) xj (fun aa => ?_) (fun aa => ?_)))))
 ·have qhb23 := of_decide_eq_true aa
  refine zzs (zzp ?_)
  refine zzd (zzt (sq9 (zza 47 (zI i) ?_)))
  obtain ⟨b24, al, ak⟩ := nodes_at (i := i) gA xq
  refine zya 48 (0 + i * 1) (n := X.n) (off := 0) (sz := 1) (i := (i : Int)) xq al xq xq sl70 (zym 49 [.slice (La.getD i sl0).a (La.getD i sl0).n (La.getD i sl0).c] (fun j hj => by cases j with | zero => exact ((ae.t (ah.t (ag.t (ai.t ad)))).cell ak) | succ j => exact absurd hj zj) ty150 (zzk 4 ⟨150, [.slice none 0 0]⟩ (zza 3 (zI i) (zzj ⟨150, [.slice (La.getD i sl0).a (La.getD i sl0).n (La.getD i sl0).c]⟩ ty150 ?_))))
  refine zzb (zzd (zzd ?_))
  have hTi := aG i xq
  refine zzf (zza 50 (.adr 4 0) (zzi 51 (.v (.slice (La.getD i sl0).a (La.getD i sl0).n (La.getD i sl0).c)) ty148 zzl (zza 52 (zI (((La.getD i sl0).n : Nat) : Int)) (zza 53 (zB (decide ((64 : Int) < (((La.getD i sl0).n : Nat) : Int)))) (zzb (zzu (b := decide ((64 : Int) < (((La.getD i sl0).n : Nat) : Int))) xj (fun hb => ?_) (fun hb => ?_)))))))
  ·exact absurd hb (by rw [show (decide ((64 : Int) < (((La.getD i sl0).n : Nat) : Int))) = false from decide_eq_false xq]; decide)
  clear hb
  refine zzs (zzp ?_)
  refine sq9 (zza 54 (.adr 4 0) (zzi 55 (.v (.slice (La.getD i sl0).a (La.getD i sl0).n (La.getD i sl0).c)) ty148 zzl (zza 56 (zI (((La.getD i sl0).n : Nat) : Int)) (zza 57 (zI 0) (zzb (zzt (zyn (I := fun av S' u' => ∃ (j : Nat), (av = (La.getD i sl0).n - j) ∧ (j ≤ (La.getD i sl0).n) ∧ (S' = St.of 120 [(1, .adr 1 0), (3, zI i), (43, .v (X.v)), (44, zI X.n), (45, zI i), (55, .v (.slice (La.getD i sl0).a (La.getD i sl0).n (La.getD i sl0).c)), (56, zI (((La.getD i sl0).n : Nat) : Int)), (57, zI j)] [(1, ⟨72, [.int .i64 D.b, .int .i64 D.f, .int .i64 D.r, .int .i64 D.o, .int .i64 W.b, .int .i64 W.f, .int .i64 W.r, .int .i64 W.o, .int .i64 s, X.v, Y.v, .int .i64 q]⟩)]) ∧ (Ext ar u')) (fun m S u1 u2 e h => by obtain ⟨j, hm, p0, hS, hE⟩ := h; exact ⟨j, hm, p0, hS, hE.trans e⟩) _ yz ⟨0, rfl, Nat.zero_le _, rfl, (Ext.refl _)⟩ ?_)))))))
  rintro av _ u25 ⟨j, aF, hj, rfl, af⟩
  refine sq9 (zza 58 (zB (decide ((j : Int) < (((La.getD i sl0).n : Nat) : Int)))) (zzb (zzd (zzu (b := decide ((j : Int) < (((La.getD i sl0).n : Nat) : Int))) xj (fun ab => ?_) (fun ab => ?_)))))
  ·have qhb26 := of_decide_eq_true ab
   refine zzs (zzp ?_)
   refine zzd (zzt (sq9 ?_))
   obtain ⟨b27, aj, ap⟩ := terms_at (i := j) (T := (N.getD i [])) (gC i xq).1 xq
   refine zya 59 (0 + j * 2) (n := (La.getD i sl0).n) (off := 0) (sz := 2) (i := (j : Int)) xq aj xq xq sl148 (zym 60 ((N.getD i []).getD j tl0).cs (fun j hj => by have h9 := ap j hj; rw [List.getElem?_eq_getElem hj] at h9 ⊢; exact (ae.t (ah.t (ag.t (ai.t (ad.trans af))))).cell h9) ty147 ?_)
   refine zzk 6 ⟨147, [.int .i64 0, .int .i64 0]⟩ (zzj ⟨147, [.int .i64 (((N.getD i []).getD j tl0).f), .int .i64 (((N.getD i []).getD j tl0).c)]⟩ ty147 ?_)
   refine zzb (zzd (zzd ?_))
   have htj := (hok.ht i xq).2 j xq
   refine zzf (zza 61 (.adr 6 0) (zzi 62 (zI (((N.getD i []).getD j tl0).f)) ty3 zzl (zza 63 (zB (decide ((((N.getD i []).getD j tl0).f) < 0))) (zyq 64 (x := zB (decide ((((N.getD i []).getD j tl0).f) < 0))) (zB false) (by rw [show (decide ((((N.getD i []).getD j tl0).f) < 0)) = false from decide_eq_false xq]) (zza 65 (.adr 6 0) ?_ (hw := w1 3 false 64))))))
   refine zzi 66 (zI (((N.getD i []).getD j tl0).f)) ty3 zzl ?_ (hw := w1 3 false 64)
   refine zza 67 (.adr 1 8) ?_ (hw := w1 3 false 64)
   refine zzi 68 (zI s) ty3 zzl ?_ (hw := w1 3 false 64)
   refine zza 69 (zI i) ?_ (hw := w1 3 false 64)
   refine zyq 70 (x := zI (IntKind.i64.wrap ((s : Int) + (i : Int)))) (zI (s + i : Nat)) (eqI yq) ?_ (hw := w1 3 false 64)
   refine zza 71 (zB (decide (((s + i : Nat) : Int) < (((N.getD i []).getD j tl0).f)))) ?_ (hw := w1 3 false 64)
   refine zza 72 (zB (decide (((s + i : Nat) : Int) < (((N.getD i []).getD j tl0).f)))) (zzc 120 [(1, .adr 1 0), (3, zI i), (6, .adr 6 0), (43, .v (X.v)), (44, zI X.n), (45, zI i), (55, .v (.slice (La.getD i sl0).a (La.getD i sl0).n (La.getD i sl0).c)), (56, zI (((La.getD i sl0).n : Nat) : Int)), (57, zI j), (72, zB (decide (((s + i : Nat) : Int) < (((N.getD i []).getD j tl0).f))))] [(1, ⟨72, [.int .i64 D.b, .int .i64 D.f, .int .i64 D.r, .int .i64 D.o, .int .i64 W.b, .int .i64 W.f, .int .i64 W.r, .int .i64 W.o, .int .i64 s, X.v, Y.v, .int .i64 q]⟩), (6, ⟨147, [.int .i64 (((N.getD i []).getD j tl0).f), .int .i64 (((N.getD i []).getD j tl0).c)]⟩)] (zzu (b := decide (((s + i : Nat) : Int) < (((N.getD i []).getD j tl0).f))) xj (fun hb => ?_) (fun hb => ?_)))
   ·exact absurd hb (by rw [show (decide (((s + i : Nat) : Int) < (((N.getD i []).getD j tl0).f))) = false from decide_eq_false xq]; decide)
   clear hb
   refine zzs (zzp ?_)
   refine zzd (zzz [0, 1, 0, 4, 12, 28, 63, 127, 255, 511, 255, 1279, 4095, 8191, 16383] [(0, []), (1, []), (2, []), (3, []), (4, []), (5, []), (6, []), (7, []), (8, []), (9, []), (10, []), (11, []), (12, []), (13, []), (14, [])] xj xj (zza 73 (.adr 6 1) (zzi 74 (zI (((N.getD i []).getD j tl0).c)) ty3 zzl (zza 75 (.adr 1 4) (zza 76 (.adr 1 5) (zzi 77 (zI W.f) ty3 zzl (sy_shl 78 (k := .i64) (s := W.f) (Nt.p2i W.f) xq zx (shl_one xq xq) ?_)))))))
   refine zza 79 (zB ((((N.getD i []).getD j tl0).c) != (Nt.p2i W.f))) ?_
   rcases Bool.eq_false_or_eq_true ((((N.getD i []).getD j tl0).c) != (Nt.p2i W.f)) with hs29 | hs29
   ·refine zyq 80 (x := zB ((((N.getD i []).getD j tl0).c) != (Nt.p2i W.f))) (zB true) (by rw [hs29]) ?_
    have qhs29 := hs29
    simp at qhs29
    refine zza 81 (.adr 1 4) ?_ (hw := w1 7 true 80)
    refine zzi 82 (.v (W.v)) ty66 zze ?_ (hw := w1 7 true 80)
    refine zza 83 (.adr 6 1) ?_ (hw := w1 7 true 80)
    refine zzi 84 (zI (((N.getD i []).getD j tl0).c)) ty3 zzl ?_ (hw := w1 7 true 80)
    refine zzg 85 162 _ (fun _ _ aA aC => Post.mono (k_fxFitsG (W := W) (z := ((N.getD i []).getD j tl0).c) aC hWc) ?_) (hw := w1 7 true 80)
    rintro _ u31 aB rfl
    refine zza 86 (zB (!(Nt.fitB W (((N.getD i []).getD j tl0).c)))) ?_ (hw := w1 7 true 80)
    refine zza 87 (zB (!(Nt.fitB W (((N.getD i []).getD j tl0).c)))) (zzb (zzu (b := !(Nt.fitB W (((N.getD i []).getD j tl0).c))) xj (fun hb => ?_) (fun hb => ?_)))
    ·exact absurd hb (by rw [show (!(Nt.fitB W (((N.getD i []).getD j tl0).c))) = false from (by rw [(htj.2.2.resolve_left qhs29)]; rfl)]; decide)
    clear hb
    refine zzs (zzp ?_)
    refine zzf (zyq 88 (x := zI (IntKind.i64.wrap ((j : Int) + 1))) (zI (j + 1 : Nat)) (eqI yq) (zza 57 (zI (j + 1 : Nat)) (zzx ?_)))
    refine ⟨_, ?_, _, by exact zzv _ _ _, j + 1, rfl, by omega, rfl, (af.t (aA.t aB.ext))⟩
    omega
   refine zyq 80 (x := zB ((((N.getD i []).getD j tl0).c) != (Nt.p2i W.f))) (zB false) (by rw [hs29]) ?_
   have qhs29 := hs29
   simp at qhs29
   refine zzn 81 (uw 7 true false 80) (zzn 82 (uw 7 true false 80) (zzn 83 (uw 7 true false 80) (zzn 84 (uw 7 true false 80) (zzn 85 (uw 7 true false 80) (zzn 86 (uw 7 true false 80) (zza 87 (zB false) (zzb (zys xj (zzs (zzp ?_))))))))))
   refine zzf (zyq 88 (x := zI (IntKind.i64.wrap ((j : Int) + 1))) (zI (j + 1 : Nat)) (eqI yq) (zza 57 (zI (j + 1 : Nat)) (zzx ?_)))
   refine ⟨_, ?_, _, by exact zzv _ _ _, j + 1, rfl, by omega, rfl, af⟩
   omega
  have qhb26 := of_decide_eq_false ab
  refine zyc (zzp (zzf (zyq 89 (x := zI (IntKind.i64.wrap ((i : Int) + 1))) (zI (i + 1 : Nat)) (eqI yq) (zza 45 (zI (i + 1 : Nat)) (zzx ?_)))))
  refine ⟨_, ?_, _, by exact zzv _ _ _, i + 1, rfl, by omega, rfl, (ad.trans af)⟩
  omega
 have qhb23 := of_decide_eq_false aa
 refine zyc (zzp (sq9 (zza 90 (.adr 1 8) (zzi 91 (zI s) ty3 zzl (zza 92 (.adr 1 9) (zzi 93 (.v (X.v)) ty70 zzl (zza 94 (zI X.n) (zyq 95 (x := zI (IntKind.i64.wrap ((s : Int) + (X.n : Int)))) (zI (s + X.n : Nat)) (eqI yq) (zza 7 (zI (s + X.n : Nat)) (zzb (zzd ?_)))))))))))
 refine sq9 (zza 96 (.adr 1 10) (zzi 97 (.v (Y.v)) ty22 zzl (zza 98 (zI Y.n) (zza 99 (zI 0) (zzb (zzt (zyn (I := fun aw S' u' => ∃ (k : Nat), (aw = Y.n - k) ∧ (k ≤ Y.n) ∧ (S' = St.of 120 [(1, .adr 1 0), (7, zI (s + X.n : Nat)), (97, .v (Y.v)), (98, zI Y.n), (99, zI k)] [(1, ⟨72, [.int .i64 D.b, .int .i64 D.f, .int .i64 D.r, .int .i64 D.o, .int .i64 W.b, .int .i64 W.f, .int .i64 W.r, .int .i64 W.o, .int .i64 s, X.v, Y.v, .int .i64 q]⟩)]) ∧ (Ext ar u')) (fun m S u1 u2 e h => by obtain ⟨k, hm, p0, hS, hE⟩ := h; exact ⟨k, hm, p0, hS, hE.trans e⟩) _ yz ⟨0, rfl, Nat.zero_le _, rfl, (Ext.refl _)⟩ ?_)))))))
 rintro aw _ u34 ⟨k, az, hk, rfl, an⟩
 refine sq9 (zza 100 (zB (decide ((k : Int) < (Y.n : Int)))) (zzb (zzd (zzu (b := decide ((k : Int) < (Y.n : Int))) xj (fun ac => ?_) (fun ac => ?_)))))
 ·have qhb35 := of_decide_eq_true ac
  refine zzs (zzp ?_)
  refine zzd (zzt (sq9 ?_))
  have hl36 := ((hYr.ext (ae.t (ah.t (ag.t (ai.t (ad.trans an))))))).1
  obtain ⟨b36, aq, ao, am⟩ := ints_at (hYr.ext (ae.t (ah.t (ag.t (ai.t (ad.trans an)))))) (i := k) xq
  have hz36 := ints_bd hbx xq k
  refine zya 101 (aq + k * 1) (n := Y.n) (off := aq) (sz := 1) (i := (k : Int)) xq ao xq xq sl22 (zyl 102 (.int .i64 (nx.getD k 0)) am ty3 (zza 9 (zI (nx.getD k 0)) (zzb (zzd ?_))))
  have hrj := hok.hr k xq
  refine zzf (zza 103 (zI (nx.getD k 0)) (zza 104 (zB (decide ((nx.getD k 0) < 0))) (zyq 105 (x := zB (decide ((nx.getD k 0) < 0))) (zB false) (by rw [show (decide ((nx.getD k 0) < 0)) = false from decide_eq_false xq]) (zza 106 (zI (nx.getD k 0)) ?_ (hw := w1 2 false 105)))))
  refine zza 107 (zI (s + X.n : Nat)) ?_ (hw := w1 2 false 105)
  refine zza 108 (zB (decide (((s + X.n : Nat) : Int) < (nx.getD k 0)))) ?_ (hw := w1 2 false 105)
  refine zza 109 (zB (decide (((s + X.n : Nat) : Int) < (nx.getD k 0)))) (zzb (zzu (b := decide (((s + X.n : Nat) : Int) < (nx.getD k 0))) xj (fun hb => ?_) (fun hb => ?_)))
  ·exact absurd hb (by rw [show (decide (((s + X.n : Nat) : Int) < (nx.getD k 0))) = false from decide_eq_false xq]; decide)
  clear hb
  refine zzs (zzp ?_)
  refine zzf (zyq 110 (x := zI (IntKind.i64.wrap ((k : Int) + 1))) (zI (k + 1 : Nat)) (eqI yq) (zza 99 (zI (k + 1 : Nat)) (zzx ?_)))
  refine ⟨_, ?_, _, by exact zzv _ _ _, k + 1, rfl, by omega, rfl, an⟩
  omega
 have qhb35 := of_decide_eq_false ac
 refine zyc (zzp (sq9 (zza 111 (.adr 1 11) (zzi 112 (zI q) ty3 zzl (zza 113 (zB (decide ((0 : Int) ≤ q))) (zyq 114 (x := zB (decide ((0 : Int) ≤ q))) (zB true) (by rw [show (decide ((0 : Int) ≤ q)) = true from decide_eq_true xq]) (zza 115 (.adr 1 11) ?_ (hw := w1 3 true 114))))))))
 refine zzi 116 (zI q) ty3 zzl ?_ (hw := w1 3 true 114)
 refine zza 117 (zI (s + X.n : Nat)) ?_ (hw := w1 3 true 114)
 refine zza 118 (zB (decide (q ≤ ((s + X.n : Nat) : Int)))) ?_ (hw := w1 3 true 114)
 refine zza 119 (zB (decide (q ≤ ((s + X.n : Nat) : Int)))) (zza 2 (zB (decide (q ≤ ((s + X.n : Nat) : Int)))) (zzb (zzo (ret0 [.bool (decide (q ≤ ((s + X.n : Nat) : Int)))] ⟨zzq, trivial⟩ fun u39 e40 => ?_))))
 show Value.bool _ = Value.bool _
 congr 1
 exact decide_eq_true xq
end Go.Proofs.YtgmkhhfbckjaeaaGreat
