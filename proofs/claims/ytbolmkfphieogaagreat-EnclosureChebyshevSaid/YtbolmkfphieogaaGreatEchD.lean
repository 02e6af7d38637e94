/- Parts of the proof: contracts of functions, each walked once, and plain laws. -/
import Derived.Test.YtbolmkfphieogaaGreatEchC
import Derived.IntWalk
import Derived.ScopeJumps
import Derived.ArgAppend
namespace Go.Proofs.YtbolmkfphieogaaGreat
open Go.RowKit
set_option linter.unusedVariables false
theorem k_r4Trim {u w : World} {a1 a2 : RL} {x1 x2 : Rat} {K : Nat} (d : Dat u w) (ha1 : RatV u a1 x1 K) (ha2 : RatV u a2 x2 K) (hK : K ≤ 100000000) : Calls Tryz.prog 95 #[IV a1 a2] w (Post u w fun v u' => ∃ p q : RL, v = IV p q ∧ RatN u' p (Nt.lo x1 x2) K ∧ RatN u' q (Nt.hi x1 x2) K) := by
 refine zzm (args := [.agg #[.bool a1.s, .slice a1.m.a a1.m.n a1.m.c, .slice a1.d.a a1.d.n a1.d.c, .bool a2.s, .slice a2.m.a a2.m.n a2.m.c, .slice a2.d.a a2.d.n a2.d.c]]) Tryz.func95 rfl Tryz.ntmps95 (rs := [.cell 2 32]) Tryz.results95 (le_b rfl) (le_b rfl) d ?_
 refine sq9 (zzk 1 ⟨32, a1.cs ++ a2.cs⟩ (zzk 2 ⟨32, [.bool false, .slice none 0 0, .slice none 0 0, .bool false, .slice none 0 0, .slice none 0 0]⟩ (zzb (zzd (zzz [0, 1, 0, 4, 15, 0, 32, 0, 128, 511, 1023, 2047] [(0, []), (1, []), (2, []), (3, []), (5, []), (6, []), (7, []), (8, []), (4, []), (9, []), (10, []), (11, [])] xk xk (zza 3 (.adr 1 0) (zzi 4 (.v (a1.v)) ty26 zze (zza 5 (.adr 1 3) (zzi 6 (.v (a2.v)) ty26 zze (zza 8 (.adr 1 0) (zzi 9 (.v (a1.v)) ty26 zze ?_)))))))))))
 refine zza 10 (.adr 1 3) (zzi 11 (.v (a2.v)) ty26 zze (zzg 7 134 [a1.v, a2.v] ?_))
 intro w11 u11 e11 d11
 have k16 := k_rqMin d11 (ha1.ext e11) (ha2.ext e11) xq xq
 with_reducible refine zPm k16 ?_
 rintro _ u14 g15 ⟨r12, rfl, h13⟩
 refine zzg 12 135 [a1.v, a2.v] ?_
 intro w17 u17 e17 d17
 have k22 := k_rqMax d17 (ha1.ext (e11.trans (g15.ext.trans e17))) (ha2.ext (e11.trans (g15.ext.trans e17))) xq xq
 with_reducible refine zPm k22 ?_
 rintro _ u20 g21 ⟨r18, rfl, h19⟩
 refine zza 13 (.v (.agg #[.bool r12.s, r12.m.v, r12.d.v, .bool r18.s, r18.m.v, r18.d.v])) (zzj ⟨32, r12.cs ++ r18.cs⟩ ty32 ?_)
 refine zzb (zzo (ret0 [.agg #[.bool r12.s, .slice r12.m.a r12.m.n r12.m.c, .slice r12.d.a r12.d.n r12.d.c, .bool r18.s, .slice r18.m.a r18.m.n r18.m.c, .slice r18.d.a r18.d.n r18.d.c]] ⟨zzr ty32 zze, trivial⟩ fun u23 e24 => ?_))
 refine ⟨r12, r18, rfl, RatN.more (K := (max K K)) ?_ xq, RatN.more (K := (max K K)) ?_ xq⟩
 ·exact (h13.ext (e17.trans (g21.ext.trans e24)))
 ·exact (h19.ext e24)
theorem k_r4Same {u w : World} {a1 a2 : RL} {x1 x2 : Rat} {b1 b2 : RL} {y1 y2 : Rat} {K L : Nat} (d : Dat u w) (ha1 : RatN u a1 x1 K) (ha2 : RatN u a2 x2 K) (hb1 : RatN u b1 y1 L) (hb2 : RatN u b2 y2 L) : Calls Tryz.prog 22 #[IV a1 a2, IV b1 b2] w (Post u w fun v u' => v = .bool (decide (x1 = y1) && decide (x2 = y2))) := by
 refine zzm (args := [.agg #[.bool a1.s, .slice a1.m.a a1.m.n a1.m.c, .slice a1.d.a a1.d.n a1.d.c, .bool a2.s, .slice a2.m.a a2.m.n a2.m.c, .slice a2.d.a a2.d.n a2.d.c], .agg #[.bool b1.s, .slice b1.m.a b1.m.n b1.m.c, .slice b1.d.a b1.d.n b1.d.c, .bool b2.s, .slice b2.m.a b2.m.n b2.m.c, .slice b2.d.a b2.d.n b2.d.c]]) Tryz.func22 rfl Tryz.ntmps22 (rs := [.tmp 4]) Tryz.results22 (le_b rfl) (le_b rfl) d ?_
 refine sq9 (zzk 2 ⟨32, a1.cs ++ a2.cs⟩ (zzk 3 ⟨32, b1.cs ++ b2.cs⟩ (zza 4 (zB false) (zzb (sq9 (zza 5 (.adr 2 0) (zzi 6 (.v (a1.v)) ty26 zze (zza 7 (.adr 3 0) (zzi 8 (.v (b1.v)) ty26 zze (zzg 9 89 [a1.v, b1.v] ?_))))))))))
 intro w11 u11 e11 d11
 have k14 := k_rqSame d11 (ha1.ext e11) (hb1.ext e11)
 with_reducible refine zPm k14 ?_
 rintro _ u12 g13 rfl
 rcases Bool.eq_false_or_eq_true (decide (x1 = y1)) with hs15 | hs15
 ·refine zyq 10 (x := zB (decide (x1 = y1))) (zB true) (by rw [hs15]) ?_
  have qhs15 := of_decide_eq_true hs15
  refine zza 11 (.adr 2 3) ?_ (hw := w1 5 true 10)
  refine zzi 12 (.v (a2.v)) ty26 zze ?_ (hw := w1 5 true 10)
  refine zza 13 (.adr 3 3) ?_ (hw := w1 5 true 10)
  refine zzi 14 (.v (b2.v)) ty26 zze ?_ (hw := w1 5 true 10)
  refine zzg 15 89 [a2.v, b2.v] ?_ (hw := w1 5 true 10)
  intro w16 u16 e16 d16
  have k19 := k_rqSame d16 (ha2.ext (e11.trans (g13.ext.trans e16))) (hb2.ext (e11.trans (g13.ext.trans e16)))
  with_reducible refine zPm k19 ?_
  rintro _ u17 g18 rfl
  refine zza 16 (zB (decide (x2 = y2))) (zza 4 (zB (decide (x2 = y2))) (zzb (zzo (ret0 [.bool (decide (x2 = y2))] ⟨zzq, trivial⟩ fun u20 e21 => ?_))))
  show _ = _
  rw [hs15]
  rfl
 ·refine zyq 10 (x := zB (decide (x1 = y1))) (zB false) (by rw [hs15]) ?_
  have qhs15 := of_decide_eq_false hs15
  refine zzn 11 (uw 5 true false 10) (zzn 12 (uw 5 true false 10) (zzn 13 (uw 5 true false 10) (zzn 14 (uw 5 true false 10) (zzn 15 (uw 5 true false 10) (zza 16 (zB false) (zza 4 (zB false) (zzb (zzo (ret0 [.bool false] ⟨zzq, trivial⟩ fun u22 e23 => ?_)))))))))
  show _ = _
  rw [hs15]
  rfl
theorem k_r4Make {u w : World} {a : RL} {x : Rat} {b : RL} {y : Rat} {K : Nat} (d : Dat u w) (ha : RatV u a x K) (hb : RatV u b y K) (hK : K ≤ 100000000) : Calls Tryz.prog 38 #[a.v, b.v] w (Post u w fun v u' => ∃ p q : RL, v = IV p q ∧ RatN u' p (Nt.lo x y) K ∧ RatN u' q (Nt.hi x y) K) := by
 refine zzm (args := [a.v, b.v]) Tryz.func38 rfl Tryz.ntmps38 (rs := [.cell 4 32]) Tryz.results38 (le_b rfl) (le_b rfl) d ?_
 refine sq9 (zzk 2 ⟨26, a.cs⟩ (zzk 3 ⟨26, b.cs⟩ (zzk 4 ⟨32, [.bool false, .slice none 0 0, .slice none 0 0, .bool false, .slice none 0 0, .slice none 0 0]⟩ (zzb (sq9 (zzi 5 (.v (a.v)) ty26 zze (zzi 6 (.v (b.v)) ty26 zze (zza 7 (.v (.agg #[.bool a.s, a.m.v, a.d.v, .bool b.s, b.m.v, b.d.v])) (zzg 8 95 [.agg #[.bool a.s, a.m.v, a.d.v, .bool b.s, b.m.v, b.d.v]] ?_)))))))))
 intro w11 u11 e11 d11
 have k18 := k_r4Trim d11 (ha.ext e11) (hb.ext e11) xq
 with_reducible refine zPm k18 ?_
 rintro _ u16 g17 ⟨r12, r14, rfl, h13, h15⟩
 refine zzj ⟨32, r12.cs ++ r14.cs⟩ ty32 ?_
 refine zzb (zzo (ret0 [.agg #[.bool r12.s, .slice r12.m.a r12.m.n r12.m.c, .slice r12.d.a r12.d.n r12.d.c, .bool r14.s, .slice r14.m.a r14.m.n r14.m.c, .slice r14.d.a r14.d.n r14.d.c]] ⟨zzr ty32 zze, trivial⟩ fun u19 e20 => ?_))
 refine ⟨r12, r14, rfl, RatN.more (K := K) ?_ xq, RatN.more (K := K) ?_ xq⟩
 ·exact (h13.ext e20)
 ·exact (h15.ext e20)
theorem k_r4Contains {u w : World} {a1 a2 : RL} {x1 x2 : Rat} {b : RL} {y : Rat} {K L : Nat} (d : Dat u w) (ha1 : RatV u a1 x1 K) (ha2 : RatV u a2 x2 K) (hb : RatV u b y L) (hK : K ≤ 100000000) (hL : L ≤ 100000000) : Calls Tryz.prog 41 #[IV a1 a2, b.v] w (Post u w fun v u' => v = .bool (Nt.inI x1 x2 y)) := by
 refine zzm (args := [.agg #[.bool a1.s, .slice a1.m.a a1.m.n a1.m.c, .slice a1.d.a a1.d.n a1.d.c, .bool a2.s, .slice a2.m.a a2.m.n a2.m.c, .slice a2.d.a a2.d.n a2.d.c], b.v]) Tryz.func41 rfl Tryz.ntmps41 (rs := [.tmp 4]) Tryz.results41 (le_b rfl) (le_b rfl) d ?_
 refine sq9 (zzk 2 ⟨32, a1.cs ++ a2.cs⟩ (zzk 3 ⟨26, b.cs⟩ (zza 4 (zB false) (zzb (sq9 (zzi 5 (.v (.agg #[.bool a1.s, a1.m.v, a1.d.v, .bool a2.s, a2.m.v, a2.d.v])) ty32 zze (zzg 6 95 [.agg #[.bool a1.s, a1.m.v, a1.d.v, .bool a2.s, a2.m.v, a2.d.v]] ?_)))))))
 intro w11 u11 e11 d11
 have k18 := k_r4Trim d11 (ha1.ext e11) (ha2.ext e11) xq
 with_reducible refine zPm k18 ?_
 rintro _ u16 g17 ⟨r12, r14, rfl, h13, h15⟩
 refine zzj ⟨32, r12.cs ++ r14.cs⟩ ty32 ?_
 refine zzb (sq9 (zzi 7 (.v (b.v)) ty26 zze (zza 8 (.adr 2 0) (zzi 9 (.v (r12.v)) ty26 zze (zzg 10 110 [b.v, r12.v] ?_)))))
 intro w19 u19 e19 d19
 have k22 := k_rqLess d19 (hb.ext (e11.trans (g17.ext.trans e19))) (h13.ext e19).raw xq xq
 with_reducible refine zPm k22 ?_
 rintro _ u20 g21 rfl
 refine zza 11 (zB (!(decide (y < (Nt.lo x1 x2))))) ?_
 rcases Bool.eq_false_or_eq_true (!(decide (y < (Nt.lo x1 x2)))) with hs23 | hs23
 ·refine zyq 12 (x := zB (!(decide (y < (Nt.lo x1 x2))))) (zB true) (by rw [hs23]) (zza 13 (.adr 2 3) ?_ (hw := w1 5 true 12))
  refine zzi 14 (.v (r14.v)) ty26 zze ?_ (hw := w1 5 true 12)
  refine zzi 15 (.v (b.v)) ty26 zze ?_ (hw := w1 5 true 12)
  refine zzg 16 110 [r14.v, b.v] ?_ (hw := w1 5 true 12)
  intro w24 u24 e24 d24
  have k27 := k_rqLess d24 (h15.ext (e19.trans (g21.ext.trans e24))).raw (hb.ext (e11.trans (g17.ext.trans (e19.trans (g21.ext.trans e24))))) xq xq
  with_reducible refine zPm k27 ?_
  rintro _ u25 g26 rfl
  refine zza 17 (zB (!(decide ((Nt.hi x1 x2) < y)))) ?_ (hw := w1 5 true 12)
  refine zza 18 (zB (!(decide ((Nt.hi x1 x2) < y)))) (zza 4 (zB (!(decide ((Nt.hi x1 x2) < y)))) (zzb (zzo (ret0 [.bool (!(decide ((Nt.hi x1 x2) < y)))] ⟨zzq, trivial⟩ fun u28 e29 => ?_))))
  show _ = _
  rw [Nt.inI_less, hs23]
  rfl
 ·refine zyq 12 (x := zB (!(decide (y < (Nt.lo x1 x2))))) (zB false) (by rw [hs23]) (zzn 13 (uw 5 true false 12) (zzn 14 (uw 5 true false 12) (zzn 15 (uw 5 true false 12) (zzn 16 (uw 5 true false 12) (zzn 17 (uw 5 true false 12) (zza 18 (zB false) (zza 4 (zB false) (zzb (zzo (ret0 [.bool false] ⟨zzq, trivial⟩ fun u30 e31 => ?_))))))))))
  show _ = _
  rw [Nt.inI_less, hs23]
  rfl
theorem mod_pos (m : Int) (hm : 1 ≤ m) (n : Int) (h : decide (Int.tmod n m < 0) = false) : Int.tmod n m = n % m := by
 have h := of_decide_eq_false h
 rcases Int.lt_or_le n 0 with hn | hn
 ·have e := Int.tmod_add_mul_tdiv n m
  have h2 : -m < Int.tmod n m := Int.lt_tmod_of_pos n xq
  have h3 : Int.tmod n m ≤ 0 := by
   have h8 := Int.neg_tmod n m
   have h9 : Int.tmod (-n) m = (-n) % m := Int.tmod_eq_emod_of_nonneg xq
   have h10 := Int.emod_nonneg (-n) (show m ≠ 0 by omega)
   omega
  have h4 : Int.tmod n m = 0 := by omega
  rw [h4] at e ⊢
  have : m ∣ n := ⟨n.tdiv m, by omega⟩
  exact (Int.emod_eq_zero_of_dvd this).symm
 ·exact Int.tmod_eq_emod_of_nonneg hn
theorem mod_neg (m : Int) (hm : 1 ≤ m) (n : Int) (h : decide (Int.tmod n m < 0) = true) : Int.tmod n m + m = n % m := by
 have h := of_decide_eq_true h
 have e := Int.tmod_add_mul_tdiv n m
 have h2 : -m < Int.tmod n m := Int.lt_tmod_of_pos n xq
 have h5 : n = m * (n.tdiv m - 1) + (Int.tmod n m + m) := by rw [Int.mul_sub, Int.mul_one]; omega
 have := (Nt.ediv_uniq (z := n) (y := m) (q := n.tdiv m - 1) (r := Int.tmod n m + m) xq h5 xq xq).2
 exact this.symm
theorem k_Mod {u w : World} {n m : Int} (d : Dat u w) (hm : 1 ≤ m) (hm2 : m ≤ 4611686018427387904) (hn0 : -9223372036854775808 ≤ n) (hn1 : n ≤ 9223372036854775807) : Calls Tryz.prog 17 #[.int .i64 n, .int .i64 m] w (Post u w fun v _ => v = .int .i64 (n % m)) := by
 refine zzm (args := [.int .i64 n, .int .i64 m]) Tryz.func17 rfl Tryz.ntmps17 (rs := [.tmp 4]) Tryz.results17 (le_b rfl) (le_b rfl) d ?_
 refine sq9 (zza 4 (zI 0) (zzb (zzd (sq9 (zza 5 (zI m) (zyq 6 (x := zB (decide (m < 1))) (zB false) (by rw [show (decide (m < 1)) = false from yk]) (zzb (zys xk (zzs (zzp ?_))))))))))
 refine sq9 (zza 7 (zI n) (zza 8 (zI m) (sy_rem 9 (Int.tmod n m) xq rfl ?_)))
 refine zza 0 (zI (Int.tmod n m)) (zzb (zzd (sq9 (zza 10 (zI (Int.tmod n m)) (zza 11 (zB (decide ((Int.tmod n m) < 0))) (zzb (zzu (b := decide ((Int.tmod n m) < 0)) xk (fun hb11 => ?_) (fun hb11 => ?_))))))))
 ·replace hb11 : (decide ((Int.tmod n m) < 0)) = true := hb11
  have qhb11 := of_decide_eq_true hb11
  refine zzf (zza 12 (zI (Int.tmod n m)) (zza 13 (zI m) (zyq 14 (x := zI (IntKind.i64.wrap (Int.tmod n m + m))) (zI (Int.tmod n m + m)) (by rw [show (IntKind.i64.wrap (Int.tmod n m + m)) = (Int.tmod n m + m) from (IntWalk.i64_in _ (by have h2 := Int.lt_tmod_of_pos n (show 0 < m by omega); have h3 := Int.tmod_lt_of_pos n (show 0 < m by omega); omega))]) (zza 0 (zI (Int.tmod n m + m)) (zzb (sq9 (zza 15 (zI (Int.tmod n m + m)) (zza 4 (zI (Int.tmod n m + m)) (zzb (zzo (ret0 [.int .i64 (Int.tmod n m + m)] ⟨zzq, trivial⟩ fun u12 e13 => ?_)))))))))))
  show Value.int _ _ = Value.int _ _
  rw [mod_neg m hm n hb11]
 ·replace hb11 : (decide ((Int.tmod n m) < 0)) = false := hb11
  have qhb11 := of_decide_eq_false hb11
  refine zzs (zzp ?_)
  refine sq9 (zza 15 (zI (Int.tmod n m)) (zza 4 (zI (Int.tmod n m)) (zzb (zzo (ret0 [.int .i64 (Int.tmod n m)] ⟨zzq, trivial⟩ fun u14 e15 => ?_)))))
  show Value.int _ _ = Value.int _ _
  rw [mod_pos m hm n hb11]
namespace Nt
theorem lo4_eq (a b c d : Rat) : lo (lo a b) (lo c d) = lo4 a b c d := by unfold lo4 lo; grind
theorem hi4_eq (a b c d : Rat) : hi (hi a b) (hi c d) = hi4 a b c d := by unfold hi4 hi; grind
end Nt
theorem k_r4Add {u w : World} {a1 a2 : RL} {x1 x2 : Rat} {b1 b2 : RL} {y1 y2 : Rat} {K L : Nat} (d : Dat u w) (ha1 : RatV u a1 x1 K) (ha2 : RatV u a2 x2 K) (hb1 : RatV u b1 y1 L) (hb2 : RatV u b2 y2 L) (hK : K ≤ 40000000) (hL : L ≤ 40000000) : Calls Tryz.prog 43 #[IV a1 a2, IV b1 b2] w (Post u w fun v u' => ∃ p q : RL, v = IV p q ∧ RatN u' p (Nt.lo x1 x2 + Nt.lo y1 y2) (K + L + 2) ∧ RatN u' q (Nt.hi x1 x2 + Nt.hi y1 y2) (K + L + 2)) := by
 refine zzm (args := [.agg #[.bool a1.s, .slice a1.m.a a1.m.n a1.m.c, .slice a1.d.a a1.d.n a1.d.c, .bool a2.s, .slice a2.m.a a2.m.n a2.m.c, .slice a2.d.a a2.d.n a2.d.c], .agg #[.bool b1.s, .slice b1.m.a b1.m.n b1.m.c, .slice b1.d.a b1.d.n b1.d.c, .bool b2.s, .slice b2.m.a b2.m.n b2.m.c, .slice b2.d.a b2.d.n b2.d.c]]) Tryz.func43 rfl Tryz.ntmps43 (rs := [.cell 4 32]) Tryz.results43 (le_b rfl) (le_b rfl) d ?_
 refine sq9 (zzk 2 ⟨32, a1.cs ++ a2.cs⟩ (zzk 3 ⟨32, b1.cs ++ b2.cs⟩ (zzk 4 ⟨32, [.bool false, .slice none 0 0, .slice none 0 0, .bool false, .slice none 0 0, .slice none 0 0]⟩ (zzb (zzd (zzz [0, 1, 0, 7, 15, 31] [(0, []), (2, []), (1, []), (3, []), (4, []), (5, [])] xk xk (zzi 5 (.v (.agg #[.bool a1.s, a1.m.v, a1.d.v, .bool a2.s, a2.m.v, a2.d.v])) ty32 zze (zzi 7 (.v (.agg #[.bool b1.s, b1.m.v, b1.d.v, .bool b2.s, b2.m.v, b2.d.v])) ty32 zze (zzg 6 95 [.agg #[.bool a1.s, a1.m.v, a1.d.v, .bool a2.s, a2.m.v, a2.d.v]] ?_)))))))))
 intro w11 u11 e11 d11
 have k18 := k_r4Trim d11 (ha1.ext e11) (ha2.ext e11) xq
 with_reducible refine zPm k18 ?_
 rintro _ u16 g17 ⟨r12, r14, rfl, h13, h15⟩
 refine zzg 8 95 [.agg #[.bool b1.s, b1.m.v, b1.d.v, .bool b2.s, b2.m.v, b2.d.v]] ?_
 intro w19 u19 e19 d19
 have k26 := k_r4Trim d19 (hb1.ext (e11.trans (g17.ext.trans e19))) (hb2.ext (e11.trans (g17.ext.trans e19))) xq
 with_reducible refine zPm k26 ?_
 rintro _ u24 g25 ⟨r20, r22, rfl, h21, h23⟩
 refine zzj ⟨32, r12.cs ++ r14.cs⟩ ty32 ?_
 refine zzj ⟨32, r20.cs ++ r22.cs⟩ ty32 ?_
 refine zzb (zzd (zzz [0, 1, 0, 4, 15, 0, 32, 0, 128, 511, 1023, 2047] [(0, []), (1, []), (2, []), (3, []), (5, []), (6, []), (7, []), (8, []), (4, []), (9, []), (10, []), (11, [])] xk xk (zza 9 (.adr 2 0) (zzi 10 (.v (r12.v)) ty26 zze (zza 11 (.adr 3 0) (zzi 12 (.v (r20.v)) ty26 zze (zza 14 (.adr 2 3) (zzi 15 (.v (r14.v)) ty26 zze (zza 16 (.adr 3 3) (zzi 17 (.v (r22.v)) ty26 zze (zzg 13 57 [r12.v, r20.v] ?_)))))))))))
 intro w27 u27 e27 d27
 have k32 := k_rqAdd d27 (h13.ext (e19.trans (g25.ext.trans e27))).raw (h21.ext e27).raw xq xq
 with_reducible refine zPm k32 ?_
 rintro _ u30 g31 ⟨r28, rfl, h29⟩
 refine zzg 18 57 [r14.v, r22.v] ?_
 intro w33 u33 e33 d33
 have k38 := k_rqAdd d33 (h15.ext (e19.trans (g25.ext.trans (e27.trans (g31.ext.trans e33))))).raw (h23.ext (e27.trans (g31.ext.trans e33))).raw xq xq
 with_reducible refine zPm k38 ?_
 rintro _ u36 g37 ⟨r34, rfl, h35⟩
 refine zza 19 (.v (.agg #[.bool r28.s, r28.m.v, r28.d.v, .bool r34.s, r34.m.v, r34.d.v])) (zzj ⟨32, r28.cs ++ r34.cs⟩ ty32 ?_)
 refine zzb (zzo (ret0 [.agg #[.bool r28.s, .slice r28.m.a r28.m.n r28.m.c, .slice r28.d.a r28.d.n r28.d.c, .bool r34.s, .slice r34.m.a r34.m.n r34.m.c, .slice r34.d.a r34.d.n r34.d.c]] ⟨zzr ty32 zze, trivial⟩ fun u39 e40 => ?_))
 refine ⟨r28, r34, rfl, RatN.more (K := (K + L + 2)) ?_ xq, RatN.more (K := (K + L + 2)) ?_ xq⟩
 ·exact (h29.ext (e33.trans (g37.ext.trans e40)))
 ·exact (h35.ext e40)
theorem k_r4Mul {u w : World} {a1 a2 : RL} {x1 x2 : Rat} {b1 b2 : RL} {y1 y2 : Rat} {K L : Nat} (d : Dat u w) (ha1 : RatV u a1 x1 K) (ha2 : RatV u a2 x2 K) (hb1 : RatV u b1 y1 L) (hb2 : RatV u b2 y2 L) (hK : K ≤ 40000000) (hL : L ≤ 40000000) : Calls Tryz.prog 68 #[IV a1 a2, IV b1 b2] w (Post u w fun v u' => ∃ p q : RL, v = IV p q ∧ RatN u' p (Nt.lo4 (x1 * y1) (x1 * y2) (x2 * y1) (x2 * y2)) (K + L + 1) ∧ RatN u' q (Nt.hi4 (x1 * y1) (x1 * y2) (x2 * y1) (x2 * y2)) (K + L + 1)) := by
 refine zzm (args := [.agg #[.bool a1.s, .slice a1.m.a a1.m.n a1.m.c, .slice a1.d.a a1.d.n a1.d.c, .bool a2.s, .slice a2.m.a a2.m.n a2.m.c, .slice a2.d.a a2.d.n a2.d.c], .agg #[.bool b1.s, .slice b1.m.a b1.m.n b1.m.c, .slice b1.d.a b1.d.n b1.d.c, .bool b2.s, .slice b2.m.a b2.m.n b2.m.c, .slice b2.d.a b2.d.n b2.d.c]]) Tryz.func68 rfl Tryz.ntmps68 (rs := [.cell 4 32]) Tryz.results68 (le_b rfl) (le_b rfl) d ?_
 refine sq9 (zzk 2 ⟨32, a1.cs ++ a2.cs⟩ (zzk 3 ⟨32, b1.cs ++ b2.cs⟩ (zzk 4 ⟨32, [.bool false, .slice none 0 0, .slice none 0 0, .bool false, .slice none 0 0, .slice none 0 0]⟩ (zzb (zzd (zzz [0, 1, 0, 4, 15, 0, 32, 0, 128, 511, 0, 1024, 0, 4096, 16383, 0, 32768, 0, 131072, 524287, 0, 0, 0, 0, 16777215, 33554431, 67108863, 134217727] [(0, []), (1, []), (2, []), (3, []), (5, []), (6, []), (7, []), (8, []), (10, []), (11, []), (12, []), (13, []), (15, []), (16, []), (17, []), (18, []), (20, []), (21, []), (22, []), (23, []), (4, []), (9, []), (14, []), (19, []), (24, []), (25, []), (26, []), (27, [])] xk xk (zza 9 (.adr 2 0) (zzi 10 (.v (a1.v)) ty26 zze (zza 11 (.adr 3 0) (zzi 12 (.v (b1.v)) ty26 zze (zza 14 (.adr 2 0) ?_)))))))))))
 refine zzi 15 (.v (a1.v)) ty26 zze (zza 16 (.adr 3 3) (zzi 17 (.v (b2.v)) ty26 zze (zza 19 (.adr 2 3) (zzi 20 (.v (a2.v)) ty26 zze (zza 21 (.adr 3 0) (zzi 22 (.v (b1.v)) ty26 zze (zza 24 (.adr 2 3) (zzi 25 (.v (a2.v)) ty26 zze (zza 26 (.adr 3 3) (zzi 27 (.v (b2.v)) ty26 zze (zzk 5 ⟨26, [.bool false, .slice none 0 0, .slice none 0 0]⟩ ?_)))))))))))
 refine zzk 6 ⟨26, [.bool false, .slice none 0 0, .slice none 0 0]⟩ (zzk 7 ⟨26, [.bool false, .slice none 0 0, .slice none 0 0]⟩ (zzk 8 ⟨26, [.bool false, .slice none 0 0, .slice none 0 0]⟩ (zzg 13 25 [a1.v, b1.v] ?_)))
 intro w11 u11 e11 d11
 have k16 := k_rqMul d11 (ha1.ext e11) (hb1.ext e11) xq xq
 with_reducible refine zPm k16 ?_
 rintro _ u14 g15 ⟨r12, rfl, h13⟩
 refine zzg 18 25 [a1.v, b2.v] ?_
 intro w17 u17 e17 d17
 have k22 := k_rqMul d17 (ha1.ext (e11.trans (g15.ext.trans e17))) (hb2.ext (e11.trans (g15.ext.trans e17))) xq xq
 with_reducible refine zPm k22 ?_
 rintro _ u20 g21 ⟨r18, rfl, h19⟩
 refine zzg 23 25 [a2.v, b1.v] ?_
 intro w23 u23 e23 d23
 have k28 := k_rqMul d23 (ha2.ext (e11.trans (g15.ext.trans (e17.trans (g21.ext.trans e23))))) (hb1.ext (e11.trans (g15.ext.trans (e17.trans (g21.ext.trans e23))))) xq xq
 with_reducible refine zPm k28 ?_
 rintro _ u26 g27 ⟨r24, rfl, h25⟩
 refine zzg 28 25 [a2.v, b2.v] ?_
 intro w29 u29 e29 d29
 have k34 := k_rqMul d29 (ha2.ext (e11.trans (g15.ext.trans (e17.trans (g21.ext.trans (e23.trans (g27.ext.trans e29))))))) (hb2.ext (e11.trans (g15.ext.trans (e17.trans (g21.ext.trans (e23.trans (g27.ext.trans e29))))))) xq xq
 with_reducible refine zPm k34 ?_
 rintro _ u32 g33 ⟨r30, rfl, h31⟩
 refine zzj ⟨26, r12.cs⟩ ty26 ?_
 refine zzj ⟨26, r18.cs⟩ ty26 ?_
 refine zzj ⟨26, r24.cs⟩ ty26 ?_
 refine zzj ⟨26, r30.cs⟩ ty26 ?_
 refine zzc 44 [(4, .adr 4 0), (5, .adr 5 0), (6, .adr 6 0), (7, .adr 7 0), (8, .adr 8 0)] [(4, ⟨32, [.bool false, .slice none 0 0, .slice none 0 0, .bool false, .slice none 0 0, .slice none 0 0]⟩), (5, ⟨26, r12.cs⟩), (6, ⟨26, r18.cs⟩), (7, ⟨26, r24.cs⟩), (8, ⟨26, r30.cs⟩)] (zzd (zzz [0, 0, 3, 0, 0, 31, 63, 0, 0, 511, 0, 0, 4095, 8191, 16383, 32767] [(0, []), (1, []), (3, []), (4, []), (7, []), (8, []), (10, []), (11, []), (2, []), (5, []), (6, []), (9, []), (12, []), (13, []), (14, []), (15, [])] xk xk (zzi 29 (.v (r12.v)) ty26 zze (zzi 30 (.v (r18.v)) ty26 zze (zzi 32 (.v (r24.v)) ty26 zze (zzi 33 (.v (r30.v)) ty26 zze (zzi 36 (.v (r12.v)) ty26 zze (zzi 37 (.v (r18.v)) ty26 zze (zzi 39 (.v (r24.v)) ty26 zze (zzi 40 (.v (r30.v)) ty26 zze (zzg 31 134 [r12.v, r18.v] ?_)))))))))))
 intro w35 u35 e35 d35
 have k40 := k_rqMin d35 (h13.ext (e17.trans (g21.ext.trans (e23.trans (g27.ext.trans (e29.trans (g33.ext.trans e35))))))).raw (h19.ext (e23.trans (g27.ext.trans (e29.trans (g33.ext.trans e35))))).raw xq xq
 with_reducible refine zPm k40 ?_
 rintro _ u38 g39 ⟨r36, rfl, h37⟩
 refine zzg 34 134 [r24.v, r30.v] ?_
 intro w41 u41 e41 d41
 have k46 := k_rqMin d41 (h25.ext (e29.trans (g33.ext.trans (e35.trans (g39.ext.trans e41))))).raw (h31.ext (e35.trans (g39.ext.trans e41))).raw xq xq
 with_reducible refine zPm k46 ?_
 rintro _ u44 g45 ⟨r42, rfl, h43⟩
 refine zzg 35 134 [r36.v, r42.v] ?_
 intro w47 u47 e47 d47
 have k52 := k_rqMin d47 (h37.ext (e41.trans (g45.ext.trans e47))).raw (h43.ext e47).raw xq xq
 with_reducible refine zPm k52 ?_
 rintro _ u50 g51 ⟨r48, rfl, h49⟩
 refine zzg 38 135 [r12.v, r18.v] ?_
 intro w53 u53 e53 d53
 have k58 := k_rqMax d53 (h13.ext (e17.trans (g21.ext.trans (e23.trans (g27.ext.trans (e29.trans (g33.ext.trans (e35.trans (g39.ext.trans (e41.trans (g45.ext.trans (e47.trans (g51.ext.trans e53))))))))))))).raw (h19.ext (e23.trans (g27.ext.trans (e29.trans (g33.ext.trans (e35.trans (g39.ext.trans (e41.trans (g45.ext.trans (e47.trans (g51.ext.trans e53))))))))))).raw xq xq
 with_reducible refine zPm k58 ?_
 rintro _ u56 g57 ⟨r54, rfl, h55⟩
 refine zzg 41 135 [r24.v, r30.v] ?_
 intro w59 u59 e59 d59
 have k64 := k_rqMax d59 (h25.ext (e29.trans (g33.ext.trans (e35.trans (g39.ext.trans (e41.trans (g45.ext.trans (e47.trans (g51.ext.trans (e53.trans (g57.ext.trans e59))))))))))).raw (h31.ext (e35.trans (g39.ext.trans (e41.trans (g45.ext.trans (e47.trans (g51.ext.trans (e53.trans (g57.ext.trans e59))))))))).raw xq xq
 with_reducible refine zPm k64 ?_
 rintro _ u62 g63 ⟨r60, rfl, h61⟩
 refine zzg 42 135 [r54.v, r60.v] ?_
 intro w65 u65 e65 d65
 have k70 := k_rqMax d65 (h55.ext (e59.trans (g63.ext.trans e65))).raw (h61.ext e65).raw xq xq
 with_reducible refine zPm k70 ?_
 rintro _ u68 g69 ⟨r66, rfl, h67⟩
 refine zza 43 (.v (.agg #[.bool r48.s, r48.m.v, r48.d.v, .bool r66.s, r66.m.v, r66.d.v])) (zzj ⟨32, r48.cs ++ r66.cs⟩ ty32 ?_)
 refine zzb (zzo (ret0 [.agg #[.bool r48.s, .slice r48.m.a r48.m.n r48.m.c, .slice r48.d.a r48.d.n r48.d.c, .bool r66.s, .slice r66.m.a r66.m.n r66.m.c, .slice r66.d.a r66.d.n r66.d.c]] ⟨zzr ty32 zze, trivial⟩ fun u71 e72 => ?_))
 refine ⟨r48, r66, rfl, RatN.more (K := (max (max (K + L + 1) (K + L + 1)) (max (K + L + 1) (K + L + 1)))) ?_ xq, RatN.more (K := (max (max (K + L + 1) (K + L + 1)) (max (K + L + 1) (K + L + 1)))) ?_ xq⟩
 ·rw [← Nt.lo4_eq]; exact (h49.ext (e53.trans (g57.ext.trans (e59.trans (g63.ext.trans (e65.trans (g69.ext.trans e72)))))))
 ·rw [← Nt.hi4_eq]; exact (h67.ext e72)
section
variable {P : Program} (w : World)
theorem wpList_makeKC {ops : Array Oper} {rest : List Oper} {o : Oper} {a : Act} {Q : Exit → Act → World → Prop}
  (hg : o.guard = none) (l c : Operand) (t : TypeId) (hop : o.op = Op.makeSlice t l c) (e : TypeId) (k : IntKind) (bytes : Nat) (h1 : P.underlying t = some (.slice e))
  (h2 : (P.info? e).map (fun i => (i.zero, i.size, i.bytes)) = some (some (.int k 0), 1, bytes))
  (kl kc : IntKind) (L C : Int) (n m : Nat) (hl : a.eval l = .int kl L) (hc : a.eval c = .int kc C) (hL : L = (n : Int)) (hC : C = (m : Int)) (hnm : n ≤ m) (b2 : bytes * m ≤ 281474976710656) (b3 : m ≤ maxLen)
  (hK : ∀ w', OwnK k w' w.heap.size e (some ⟨w.heap.size, 0, none⟩) n m (List.replicate n 0) → Below w.heap.size w w' → w'.heap.size = w.heap.size + 1 → wpList P ops Q rest (a.put o.dst (.slice (some ⟨w.heap.size, 0, none⟩) n m)) w') :
  wpList P ops Q (o :: rest) a w := by
 obtain ⟨i, hi, hz, hs, hb⟩ := info_parts h2
 refine wpList_plain hg fun K hK' => ?_
 subst hL hC hb
 have h63 : (m : Int) ≤ 9223372036854775807 := by have := b3; unfold maxLen at this; omega
 have hb' : (i.bytes : Int) * (m : Int) ≤ 281474976710656 := by
  have h : ((i.bytes * m : Nat) : Int) ≤ 281474976710656 := by omega
  rwa [Int.natCast_mul] at h
 have hrun := run_make (P := P) w t e i _ h1 hi hz kl kc n m xq xq hb' h63
 unfold Oper.wp
 simp [execOp, hop, hl, hc, hrun, Result.andThen]
 have hblk : KBlk k (w.alloc (.cells (madeCells (Value.int k 0).cells (m * i.size)) e)) w.heap.size e (List.replicate m 0) := by
  unfold KBlk
  rw [heap_alloc_new, hs, Nat.mul_one]
  congr 2
  apply Array.ext'
  have h3 := toList_madeCells_one (.int k 0) m
  have h4 : (Value.int k 0).cells = #[Value.int k 0] := rfl
  rw [h4, h3]
  simp
 refine hK' _ _ (hK _ ⟨by simp, by simp, .inr ⟨w.heap.size, m, _, rfl, Nat.le_refl _, hblk, hnm, b3, by simp, by simp [List.take_replicate, Nat.min_eq_left hnm]⟩⟩ ((Below.refl _ _).alloc (Nat.le_refl _) _) (by simp))
end
namespace Nt
theorem bitLen_bitl {t : Nat} (h : t < 4294967296) : Lib.bitLen t = bitl t := by
 rcases Nat.eq_zero_or_pos t with h0 | h0
 ·subst h0; rfl
 ·have hb : 1 ≤ Lib.bitLen t ∧ 2 ^ (Lib.bitLen t - 1) ≤ t ∧ t < 2 ^ Lib.bitLen t := Lib.bitLenAux_bounds 64 t xq xq
  exact (bitl_unique xq hb.2.1 hb.2.2).symm
theorem bitl_le32 {t : Nat} (h : t < 4294967296) : bitl t ≤ 32 := by
 rcases Nat.eq_zero_or_pos t with h0 | h0
 ·subst h0; decide
 ·have h1 := bitl_le h0
  have h3 : 2 ^ (bitl t - 1) < 2 ^ 32 := by omega
  have := (Nat.pow_lt_pow_iff_right (show 1 < 2 by omega)).1 h3
  omega
end Nt
set_option maxHeartbeats 1000000 in
theorem BitLen_any (A : Option Addr) (n c : Nat) (a : List Int) (w : World) (ha : SlR .u32 w A n c a) (da : Nt.Dig a) (hn : n ≤ 1000000000) :
  Calls Tryz.prog 150 #[.slice A n c] w fun e w' => e = .returned (.int .i64 (Nt.bitl (Nt.val a).toNat)) ∧ w' = w := by
 have lx : (Nt.strip a).length ≤ n := by rw [← ha.1]; exact Nt.zyi a
 have hx := ha.upto (m := (Nt.strip a).length) lx
 rw [← Nt.strip_take] at hx
 have hcut := zwi A n c a w ha
 have eN := Nt.zxs da
 rw [eN] at hx lx hcut
 generalize hX : (Nt.val a).toNat = X at *
 obtain ⟨N, hN⟩ : ∃ N, N = (Nt.digits X).length := ⟨_, rfl⟩
 rw [← hN] at hx lx hcut
 clear eN hX
 rcases N with _ | k
 ·have h0 : Hid (Nt.bitl X = 0) := by
   have : X = 0 := by
    rcases Nat.eq_zero_or_pos X with h | h
    ·exact h
    ·have := Nt.zwm h; omega
   show _ = _
   rw [this]; rfl
  clear ha da
  go_enter Tryz.func150, Tryz.ntmps150
  go_wp2_with fail
  refine hcut.mono ?_
  rintro e w1 ⟨rfl, rfl⟩
  go_wp2
  go_ret
  exact ⟨by rw [h0.out]; rfl, rfl⟩
 ·obtain ⟨b, o, rfl, _, hc⟩ := hx.pos (i := k) xq
  have hcm := hx.2.1
  have ht := (Nt.zyk X).at k
  have hne := Nt.norm_last (k := k) (Nt.zxn X) hN.symm
  obtain ⟨t, ht2⟩ : ∃ t : Nat, (Nt.digits X)[k]?.getD 0 = (t : Int) := ⟨((Nt.digits X)[k]?.getD 0).toNat, by omega⟩
  have hfin := Nt.bitl_digits hN.symm ht2 xq
  rw [ht2] at hc hne ht
  have Hfin := Lib.hid hfin
  have HN := Lib.hid hN
  have hkb : ((k : Int) + 1 == 0) = false := by rw [beq_eq_false_iff_ne]; omega
  have hb32 := Nt.bitl_le32 (t := t) xq
  have hbe := Nt.bitLen_bitl (t := t) xq
  clear hfin ht2 hx ha da hN
  go_enter Tryz.func150, Tryz.ntmps150
  go_wp2_with fail
  refine hcut.mono ?_
  rintro e w1 ⟨rfl, rfl⟩
  go_wp2_with fail
  refine (Len32_any (t : Int) _ xq xq).mono ?_
  rintro e w1 ⟨rfl, rfl⟩
  rw [Int.toNat_natCast, hbe]
  generalize Nt.bitl t = bt at *
  go_wp2
  go_ret
  exact ⟨by rw [Hfin.out]; refine congrArg (fun z : Int => Ending.returned (.int .i64 z)) ?_; omega, rfl⟩
section
variable {u u' w w' : World} {x y : Sl} {i j : IL} {r r' : RL} {N M K L S b o n : Nat} {z z' : Int} {q q' : Rat} {l m : List Rat} {cs cs' : List Value}
theorem SlR.same {k : IntKind} {A : Option Addr} {n c : Nat} {l l' : List Int} (h : SlR k u A n c l) (h' : SlR k u A n c l') : l = l' := by
 apply List.ext_getElem?
 intro i
 have h1 := h.1
 have h2 := h'.1
 by_cases hi : i < n
 ·obtain ⟨b, o, e0, _, hc⟩ := h.pos hi
  obtain ⟨b', o', e, _, hc'⟩ := h'.pos hi
  rw [e0] at e
  cases e
  rw [hc] at hc'
  have e3 : l[i]?.getD 0 = l'[i]?.getD 0 := by simpa using hc'
  rw [List.getElem?_eq_getElem xq, List.getElem?_eq_getElem xq] at e3 ⊢
  simpa using e3
 ·rw [List.getElem?_eq_none xq, List.getElem?_eq_none xq]
theorem NatN.val (h : NatV u x N K) (k : NatN u x M L) : M = N := by
 obtain ⟨l, h1, h2, h3, h4⟩ := h
 have e := h1.same k.2.1
 have e2 := Nt.zyj M
 rw [← e, h4] at e2
 omega
theorem NatN.back (h : NatV u x N K) (e : Ext u u') (k : NatN u' x M L) : NatN u x N K := by
 have e1 := NatN.val (h.ext e) k
 subst e1
 obtain ⟨l, h1, h2, h3, h4⟩ := h
 have e2 := (h1.ext e).same k.2.1
 exact ⟨k.1, e2 ▸ h1, by rw [← k.1]; exact h3⟩
theorem IntN.val (h : IntV u i z K) (k : IntN u i z' L) : z' = z := by
 obtain ⟨N, h1, h2⟩ := h
 have e := NatN.val h1 k.2
 rw [h2, k.1]
 unfold Nt.sg
 by_cases hz : z' < 0
 ·simp [hz]; omega
 ·simp [hz]; omega
theorem IntN.back (h : IntV u i z K) (e : Ext u u') (k : IntN u' i z' L) : IntN u i z K := by
 have e1 := IntN.val (h.ext e) k
 subst e1
 exact ⟨k.1, NatN.back h.abs e k.2⟩
theorem RatN.val (h : RatV u r q K) (k : RatN u r q' L) : q' = q := by
 obtain ⟨⟨z, D, h1, h2, h3⟩, h4⟩ := h
 rw [h3, ← IntN.val h1 k.1, ← NatN.val h2 k.2, Rat.mkRat_self]
theorem RatN.back (h : RatV u r q K) (e : Ext u u') (k : RatN u' r q' L) : RatN u r q K := by
 have e1 := RatN.val (h.ext e) k
 subst e1
 obtain ⟨⟨z, D, h1, h2, h3⟩, h4⟩ := h
 have a1 := IntN.val (h1.ext e) k.1
 have a2 := NatN.val (h2.ext e) k.2
 exact ⟨by rw [a1]; exact IntN.back h1 e k.1, by rw [a2]; exact NatN.back h2 e k.2⟩
theorem rl_inj (h : r.cs = r'.cs) : r = r' := by
 obtain ⟨s, ⟨a, n, c⟩, ⟨a2, n2, c2⟩⟩ := r
 obtain ⟨s', ⟨a', n', c'⟩, ⟨a2', n2', c2'⟩⟩ := r'
 simp [RL.cs] at h
 obtain ⟨rfl, ⟨rfl, rfl, rfl⟩, rfl, rfl, rfl⟩ := h
 rfl
def ElN (u : World) (x : Sl) (n : Nat) (q : Rat) (K : Nat) : Prop := ∃ (r : RL) (b o : Nat), x.a = some ⟨b, o, none⟩ ∧ (∀ j, j < r.cs.length → u.cell? ⟨b, o + n * 3 + j, none⟩ = r.cs[j]?) ∧ RatN u r q K
theorem pol_els (h : PolV u x l K) (k : ∀ n, n < l.length → ElN u x n (l.getD n 0) K) : PolN u x l K := by
 have hn := h.len
 obtain ⟨L, h1, h5⟩ := h
 refine ⟨L, h1, h5.1, fun i hi => ?_⟩
 obtain ⟨r, b, o, e, hc, hr⟩ := k i hi
 obtain ⟨_, _, _, h4⟩ := h1
 obtain ⟨b', o', e', hc'⟩ := h4 xq
 rw [e] at e'
 cases e'
 have hL : i < L.length := by rw [h5.1]; exact hi
 have e9 : r = L.getD i rl0 := by
  apply rl_inj
  apply List.ext_getElem?
  intro j
  by_cases hj : j < 3
  ·have a := hc j hj
   have b' := hc' (i * 3 + j) (by rw [zyy]; omega)
   rw [← Nat.add_assoc, a] at b'
   rw [b', ← rcs_get hL, List.getElem?_take_of_lt hj, List.getElem?_drop]
  ·rw [List.getElem?_eq_none (show r.cs.length ≤ j by show 3 ≤ j; omega), List.getElem?_eq_none (show (L.getD i rl0).cs.length ≤ j by show 3 ≤ j; omega)]
 rw [← e9]; exact hr
theorem pol_el (h : PolN u x l K) (hi : n < l.length) (hA : x.a = some ⟨b, o, none⟩) (hc : ∀ j, j < r.cs.length → u.cell? ⟨b, o + n * 3 + j, none⟩ = r.cs[j]?) : RatN u r (l.getD n 0) K := by
 obtain ⟨r', b', o', e, hc', hr⟩ := pol_atN h hi
 rw [hA] at e
 cases e
 have e9 : r = r' := by
  apply rl_inj
  apply List.ext_getElem?
  intro j
  by_cases hj : j < 3
  ·rw [← hc j hj, ← hc' j hj]
  ·rw [List.getElem?_eq_none (show r.cs.length ≤ j by show 3 ≤ j; omega), List.getElem?_eq_none (show r'.cs.length ≤ j by show 3 ≤ j; omega)]
 rw [e9]; exact hr
theorem NatN.same (h : NatV u x N K) (e : Ext u u') : NatN u' x N K ↔ NatN u x N K := ⟨fun k => NatN.back h e k, fun k => k.ext e⟩
theorem IntN.same (h : IntV u i z K) (e : Ext u u') : IntN u' i z K ↔ IntN u i z K := ⟨fun k => IntN.back h e k, fun k => k.ext e⟩
theorem RatN.same (h : RatV u r q K) (e : Ext u u') : RatN u' r q K ↔ RatN u r q K := ⟨fun k => RatN.back h e k, fun k => k.ext e⟩
def ElsN (u : World) (x : Sl) (l : List Rat) (n K : Nat) : Prop := ∀ i, i < n → ElN u x i (l.getD i 0) K
theorem ElN.ext (h : ElN u x n q K) (e : Ext u u') : ElN u' x n q K := by
 obtain ⟨r, b, o, hA, hc, hr⟩ := h
 refine ⟨r, b, o, hA, fun j hj => ?_, hr.ext e⟩
 have h9 := hc j hj
 rw [List.getElem?_eq_getElem hj] at h9 ⊢
 exact e.cell h9
theorem ElsN.ext (h : ElsN u x l n K) (e : Ext u u') : ElsN u' x l n K := fun i hi => (h i hi).ext e
theorem ElsN.nil (u : World) (x : Sl) (l : List Rat) (K : Nat) : ElsN u x l 0 K := fun i hi => absurd hi (Nat.not_lt_zero i)
theorem ElsN.step (h : ElsN u' x l n K) (hA : x.a = some ⟨b, o, none⟩) (hc : ∀ j, j < r.cs.length → u.cell? ⟨b, o + n * 3 + j, none⟩ = r.cs[j]?) (e : Ext u u') (hr : RatN u' r (l.getD n 0) K) : ElsN u' x l (n + 1) K := by
 intro i hi
 by_cases e1 : i = n
 ·subst e1
  refine ⟨r, b, o, hA, fun j hj => ?_, hr⟩
  have h9 := hc j hj
  rw [List.getElem?_eq_getElem hj] at h9 ⊢
  exact e.cell h9
 ·exact h i xq
theorem ElsN.done (hx : PolV u x l K) (h : ElsN u x l n K) (hn : n = l.length) : PolN u x l K := pol_els hx fun i hi => h i xq
theorem PolN.back (h : PolV u x l K) (e : Ext u u') (k : PolN u' x l L) : PolN u x l K := by
 refine pol_els h fun n hn => ?_
 obtain ⟨r, b, o, hA, hc, hr⟩ := pol_at h hn
 refine ⟨r, b, o, hA, hc, RatN.back hr e (pol_el k hn hA fun j hj => ?_)⟩
 have h9 := hc j hj
 rw [List.getElem?_eq_getElem hj] at h9 ⊢
 exact e.cell h9
theorem PolN.same (h : PolV u x l K) (e : Ext u u') : PolN u' x l K ↔ PolN u x l K := ⟨fun k => PolN.back h e k, fun k => k.ext e⟩
end
section
variable {u u' w w' : World} {x y : Sl} {i j : IL} {N M K L : Nat}
end
section
variable {P : Program} {ops : Array Oper} {w0 : Base} {u0 : World} {S : St} {u u' w : World} {o : Oper} {p : List Tmp} {seq : Bool} {rest : List (Oper × List Tmp)} {K : St → World → Prop}
theorem sy_conv (d : Tmp) {src dst : TypeId} {x : Operand} {k0 k : IntKind} {n : Int} (v : Int) (hT : ∀ w, (convert src dst (.int k0 n)).run P w = .ok (.int k (k.wrap n)) w) (hv : k.wrap n = v) (kk : sym P ops w0 u0 seq rest (S.set d (.v (.int k v))) u K) (hw : Wants ops o S := by exact zwf xk) (hd : o.dst = some d := by kernel_rfl) (hop : o.op = .convert src dst x := by rfl) (hf : freeB S d = true := by kernel_rfl)
  (hx : evO S x = some (.v (.int k0 n)) := by rfl) : sym P ops w0 u0 seq ((o, p) :: rest) S u K := by
 subst hv
 refine .inl ⟨by rw [hop]; exact (by decide : (0 : Nat) ≠ 2), .set (.v (.int k (k.wrap n))), ⟨zxy hd hf, .inl ⟨(fun t ht => by cases ht), fun B a w u' hr he hdt => ⟨hw B a hr, ?_⟩⟩⟩, ?_⟩
 ·have e1 : (execOp a.eval o).run P w = (do pure (Next.value (← convert src dst (a.eval x))) : Sem Next).run P w := by unfold execOp; rw [hop]
  rw [e1, ev_eval hr hx]
  exact run_val (hT w)
 ·show sym P ops w0 u0 seq rest (S.put o.dst (some _)) u K
  rw [hd]; exact kk
end
section
variable {u u' : World} {A : Option Addr} {n c i : Nat} {l : List Int} {k : IntKind}
end
theorem own_strip {w0 w : World} {B : Nat} {A : Option Addr} {n c : Nat} {l : List Int} (h : OwnK .u32 w B 104 A n c l) (hd : Nt.Dig l) (hB : w0.heap.size ≤ B) : NatF w0 w A (Nt.strip l).length c (Nt.val l).toNat := by
 have e := Nt.zxs hd
 have hl := Nt.zyi l
 have h1 := h.1
 have hx := h.slr.upto (m := (Nt.strip l).length) xq
 rw [← Nt.strip_take, e] at hx
 refine ⟨by rw [e], by rw [e]; exact hx, fun hp => ?_⟩
 obtain ⟨a, ha, hb, ht⟩ := h.ty xq
 exact ⟨a, ha, by omega, ht⟩
theorem Nt.raise_val {q s : Nat} {a S : List Int} (hq : q = s / 32) (h : Nt.val S = Nt.val a * 2 ^ (s % 32)) : Nt.val (List.replicate q 0 ++ S) = Nt.val a * 2 ^ s := by
 rw [Nt.val_append, Nt.val_repl, h, Nt.p2_pw s, ← hq]
 simp
 rw [Int.mul_comm, Int.mul_assoc]
theorem Nt.bitl_le_len (l : List Int) (h : Nt.Dig l) : Nt.bitl (Nt.val l).toNat ≤ 32 * l.length := by
 rcases Nat.eq_zero_or_pos (Nt.val l).toNat with h0 | h0
 ·rw [h0]; exact Nat.zero_le _
 ·have h1 := Nt.val_lt h
  rw [Nt.pw_two] at h1
  have h2 := Nt.bitl_le h0
  have h3 : 2 ^ (Nt.bitl (Nt.val l).toNat - 1) < 2 ^ (32 * l.length) := by omega
  have := (Nat.pow_lt_pow_iff_right (show 1 < 2 by omega)).1 h3
  omega
theorem Nt.dl_shift {N K s : Nat} (h : dl N ≤ K) : dl (N * 2 ^ s) ≤ K + s / 32 + 1 := by
 apply Nt.dl_le
 have h1 := Nt.dl_lt (x := N)
 have h2 := Nt.pw_mono h
 rw [Nt.pw_two] at h1 ⊢
 rw [Nt.pw_two, Nt.pw_two] at h2
 have h3 : N < 2 ^ (32 * K) := by omega
 have h4 : N * 2 ^ s < 2 ^ (32 * K) * 2 ^ s := Nat.mul_lt_mul_of_pos_right h3 (Nat.pow_pos xq)
 rw [← Nat.pow_add] at h4
 have h5 : 2 ^ (32 * K + s) ≤ 2 ^ (32 * (K + s / 32 + 1)) := Nat.pow_le_pow_right xq xq
 have h6 := Nat.lt_of_lt_of_le h4 h5
 exact_mod_cast h6
set_option maxHeartbeats 2000000 in
theorem raise_any (A : Option Addr) (n c s : Nat) (a : List Int) (w : World) (ha : SlR .u32 w A n c a) (da : Nt.Dig a) (hn : n ≤ 1000000000) (hs : s ≤ 65536) :
  Calls Tryz.prog 151 #[.slice A n c, .int .i64 s] w fun e w' => ∃ A' n' c', e = .returned (.slice A' n' c') ∧ NatF w w' A' n' c' (Nt.val a * 2 ^ s).toNat ∧ Below w.heap.size w w' := by
 rcases Nat.eq_zero_or_pos n with h0 | h0
 ·subst h0
  have hz : Hid ((Nt.val a * 2 ^ s).toNat = 0) := by
   have e1 : a = [] := List.eq_nil_of_length_eq_zero ha.1
   show _ = _
   rw [e1]; simp [Nt.val]
  clear da ha
  go_enter Tryz.func151, Tryz.ntmps151
  go_wp2
  go_ret
  refine ⟨none, 0, 0, rfl, ?_, Below.refl _ _⟩
  rw [hz.out]
  exact ⟨by rw [Nt.zxb]; rfl, by rw [Nt.zxb]; exact SlR.nil _ _ _ (Nat.zero_le _), fun h => absurd h xq⟩
 ·have hn0 : ((n : Int) == 0) = false := by rw [beq_eq_false_iff_ne]; omega
  obtain ⟨q, hq1, hq2⟩ : ∃ q, 32 * q ≤ s ∧ s < 32 * q + 32 := ⟨s / 32, by omega, by omega⟩
  have hqs : Hid (q = s / 32) := by show _ = _; omega
  have hr32 : s % 32 < 32 := by omega
  have Hda := Lib.hid da
  clear da
  go_enter Tryz.func151, Tryz.ntmps151
  go_wp2_with (at_make; refine wpList_makeKC _ rfl (.tmp 10) (.tmp 16) _ rfl 104 .u32 4 Tryz.underlying22 zxk _ _ _ _ q (q + n + 1) rfl rfl ?L ?C ?nm ?b2 ?b3 ?_)
  case L => show _ = _; omega
  case C => show _ = _; omega
  case nm => omega
  case b2 => omega
  case b3 => unfold maxLen; omega
  intro w2 hk2 hb2 hz2
  have hx2 := ha.below hb2
  have HB2 := Lib.hid hb2
  clear hz2 hb2 ha
  go_wp2_with fail
  refine (lift_any A n c (s % 32) (n + 1) a w2 hx2 Hda.out hn hr32 (.inr rfl)).mono ?_
  rintro e w3 ⟨g, rfl, ⟨S, lo, hg, hk, hSl, hSd, hlo, hlo0, hv⟩, hb3⟩
  have hlo0 := hlo0 rfl
  rw [hlo0] at hv
  have hval := Nt.raise_val hqs.out (a := a) (S := S) xq
  have hs3 := Lib.hid (hk.slr_all (n := n + 1) (c := n + 1) hSl (Nat.le_refl _) yv)
  have hk3 := Lib.hid (hk2.below hb3)
  have Hval := Lib.hid hval
  have Hd := Lib.hid (Nt.Dig.append (Nt.Dig.repl q) hSd)
  have HB3 : Hid (Below w.heap.size w w3) := HB2.out.trans (hb3.mono HB2.out.size)
  have hw3 := HB3.out.size
  clear hval hv hk hg hk2 hlo hlo0 hSl hSd hx2 hb3
  go_wp2_with (at_builtin; refine zxi _ rfl (.tmp 18) (.tmp 26) _ rfl 104 .u32 4 Tryz.underlying22 zxk w.heap.size (some ⟨w.heap.size, 0, none⟩) q (q + n + 1) (List.replicate q 0) rfl ?own (some ⟨g, 0, none⟩) (n + 1) (n + 1) S rfl ?slr ?h63 ?hby ?hbase ?_)
  case own => exact hk3.out
  case slr => exact hs3.out
  case h63 => unfold maxLen; omega
  case hby => omega
  case hbase => omega
  intro A3 c3 w4 ho hb4
  have HO := Lib.hid ho
  have HB4 : Hid (Below w.heap.size w w4) := HB3.out.trans hb4
  clear hs3 hk3 ho hb4
  go_wp2_with fail
  refine (zwi _ _ _ _ _ HO.out.slr).mono ?_
  rintro e w5 ⟨rfl, rfl⟩
  go_wp2
  go_ret
  have hf := own_strip HO.out Hd.out (Nat.le_refl _)
  rw [Hval.out] at hf
  exact ⟨_, _, _, rfl, hf, HB4.out⟩
set_option maxHeartbeats 1000000 in
theorem Shift_pos (A : Option Addr) (n c s : Nat) (a : List Int) (w : World) (ha : SlR .u32 w A n c a) (da : Nt.Dig a) (hn : n ≤ 1000000000) (hs : s ≤ 65536) :
  Calls Tryz.prog 79 #[.slice A n c, .int .i64 s] w fun e w' => ∃ A' n' c', e = .returned (.slice A' n' c') ∧ NatF w w' A' n' c' (Nt.val a * 2 ^ s).toNat ∧ Below w.heap.size w w' := by
 have lx : (Nt.strip a).length ≤ n := by rw [← ha.1]; exact Nt.zyi a
 have hx := ha.upto (m := (Nt.strip a).length) lx
 rw [← Nt.strip_take] at hx
 have hd := Nt.strip_dig da
 have hv := Nt.zwl a
 have hsd : decide (65536 < (s : Int)) = false := by simp; omega
 have hbl := Nt.bitl_le_len (Nt.strip a) hd
 have hraise := raise_any A (Nt.strip a).length c s (Nt.strip a) w hx hd xq hs
 have hbit := BitLen_any A (Nt.strip a).length c (Nt.strip a) w hx hd xq
 rw [hv] at hraise hbit hbl
 have hz : Nt.bitl (Nt.val a).toNat = 0 → Nt.val a = 0 := fun h => by
  have h1 := Nt.bitl_lt (Nt.val a).toNat
  have h2 := Nt.zxd da
  rw [h] at h1
  simp at h1
  omega
 generalize Nt.bitl (Nt.val a).toNat = B at *
 have hcut := zwi A n c a w ha
 generalize (Nt.strip a).length = m at *
 by_cases h0 : (s : Int) ≤ -(B : Int)
 ·have hz2 : Hid ((Nt.val a * 2 ^ s).toNat = 0) := by
   show _ = _
   rw [hz xq]; simp
  have hle : decide ((s : Int) ≤ -(B : Int)) = true := decide_eq_true h0
  clear hx ha hd hv hraise hz h0
  go_enter Tryz.func79, Tryz.ntmps79
  go_wp2_with fail
  refine hcut.mono ?_
  rintro e w1 ⟨rfl, rfl⟩
  go_wp2_with fail
  refine hbit.mono ?_
  rintro e w1 ⟨rfl, rfl⟩
  go_wp2
  go_ret
  refine ⟨none, 0, 0, rfl, ?_, Below.refl _ _⟩
  rw [hz2.out]
  exact ⟨by rw [Nt.zxb]; rfl, by rw [Nt.zxb]; exact SlR.nil _ _ _ (Nat.zero_le _), fun h => absurd h xq⟩
 ·have hle : decide ((s : Int) ≤ -(B : Int)) = false := decide_eq_false h0
  clear hx ha hd hv hz
  go_enter Tryz.func79, Tryz.ntmps79
  go_wp2_with fail
  refine hcut.mono ?_
  rintro e w1 ⟨rfl, rfl⟩
  go_wp2_with fail
  refine hbit.mono ?_
  rintro e w1 ⟨rfl, rfl⟩
  go_wp2_with fail
  refine hraise.mono ?_
  rintro e w1 ⟨A1, n1, c1, rfl, f1, hb1⟩
  have F1 := Lib.hid f1
  clear f1
  go_wp2
  go_ret
  exact ⟨A1, n1, c1, rfl, F1.out, hb1⟩
theorem k_natShift {u w : World} {x : Sl} {N K s : Nat} (d : Dat u w) (h1 : NatV u x N K) (hK : K ≤ 500000000) (hs : s ≤ 65536) : Calls Tryz.prog 79 #[x.v, .int .i64 (s : Int)] w (Post u w fun v u' => ∃ x : Sl, v = x.v ∧ NatN u' x (N * 2 ^ s) (K + s / 32 + 1)) := by
 have hs1 := h1.size
 obtain ⟨a, a1, a2, a3, a4⟩ := h1
 refine (Shift_pos _ _ _ _ _ _ (a1.ext d.ext) a2 xq hs).mono fun e w' ⟨A', n', c', h⟩ => ?_
 rw [a4] at h
 exact post_nat d (nat_fits h (by simp [Int.natCast_mul, Int.natCast_pow])) (Nt.dl_shift hs1)
set_option maxHeartbeats 1000000 in
theorem k_intDivP {u w : World} {i1 : IL} {y : Sl} {zN : Int} {M K L : Nat} (d : Dat u w) (hi : IntV u i1 zN K) (hy : NatV u y M L) (hM : 0 < M) (hK : K ≤ 100000000) (hL : L ≤ 100000000) : Calls Tryz.prog 180 #[i1.v, .agg #[.bool false, y.v]] w (Post u w fun v u' => ∃ i j : IL, v = .tuple #[i.v, j.v, .int .i64 0] ∧ IntN u' i (zN / (M : Int)) (K + 1) ∧ IntN u' j (zN % (M : Int)) L) := by
 have hL1 : 1 ≤ L := by have h2 := hy.size; have h3 := Nt.dl_mono (x := M) (y := 1) xq; rw [Nt.dl_one] at h3; omega
 obtain ⟨N, hN, hzN⟩ := hi
 refine zzm (args := [i1.v, .agg #[.bool false, .slice y.a y.n y.c]]) Tryz.func180 rfl Tryz.ntmps180 (rs := [.cell 4 24, .cell 5 24, .tmp 6]) Tryz.results180 (le_b rfl) (le_b rfl) d ?_
 refine sq9 (zzk 2 ⟨24, i1.cs⟩ (zzk 3 ⟨24, [.bool false, y.v]⟩ (zzk 4 ⟨24, [.bool false, .slice none 0 0]⟩ (zzk 5 ⟨24, [.bool false, .slice none 0 0]⟩ (zza 6 (zI 0) (zzb (sq9 (zza 11 (.adr 2 1) (zzi 12 (.v i1.m.v) ty22 zzl (zza 13 (.adr 3 1) (zzi 14 (.v y.v) ty22 zzl ?_)))))))))))
 refine zzg 15 80 [i1.m.v, y.v] ?_
 intro w11 u11 e11 d11
 have k18 := k_natDivMod d11 (hN.ext e11) (hy.ext e11) hM xq xq
 with_reducible refine zPm k18 ?_
 rintro _ u16 g17 ⟨x12, x13, rfl, h14, h15⟩
 refine zza 10 (.v (.tuple #[x12.v, x13.v, .int .i64 0])) (zza 16 (.v x12.v) (zza 17 (.v x13.v) (zza 18 (zI 0) (zza 7 (.v x12.v) (zza 8 (.v x13.v) (zza 9 (zI 0) (zzb (zzd (sq9 (zza 19 (zI 0) (zza 20 (zB false) ?_)))))))))))
 refine zzb (zys xk (zzs (zzp ?_)))
 refine zzd (sq9 (zza 24 (.adr 2 0) (zzi 25 (zB i1.s) ty4 zzl ?_)))
 rcases Bool.eq_false_or_eq_true i1.s with hs19 | hs19
 ·refine zyq 26 (x := zB i1.s) (zB true) (by rw [hs19]) (zza 27 (.v x13.v) ?_ (hw := w1 2 true 26))
  refine zza 28 (zI x13.n) ?_ (hw := w1 2 true 26)
  refine zza 29 (zB (decide ((0 : Int) < (x13.n : Int)))) ?_ (hw := w1 2 true 26)
  refine zza 30 (zB (decide ((0 : Int) < (x13.n : Int)))) (zzb (zzu (b := decide ((0 : Int) < (x13.n : Int))) xk (fun hb20 => ?_) (fun hb20 => ?_)))
  ·replace hb20 : (decide ((0 : Int) < (x13.n : Int))) = true := hb20
   have qhb20 := of_decide_eq_true hb20
   refine sq9 (zza 31 (.v x12.v) (zxx 32 ⟨104, [.int .u32 1]⟩ 1 (fun b21 u22 e23 h24 => ?_)))
   refine zzg 33 155 [x12.v, .slice (some ⟨b21, 0, none⟩) 1 1] ?_
   intro w25 u25 e25 d25
   have k30 := k_natAdd d25 (h14.ext (e23.trans e25)).raw ((one_data h24).ext e25).raw xq xq
   with_reducible refine zPm k30 ?_
   rintro _ u28 g29 ⟨x26, rfl, h27⟩
   refine zza 7 (.v x26.v) (zzb (zzf (zza 34 (.adr 3 1) (zzi 35 (.v y.v) ty22 zzl (zza 36 (.v x13.v) (zzg 37 223 [y.v, x13.v] ?_))))))
   intro w31 u31 e31 d31
   have k36 := k_natSub d31 (hy.ext (e11.trans (g17.ext.trans (e23.trans (e25.trans (g29.ext.trans e31)))))) (h15.ext (e23.trans (e25.trans (g29.ext.trans e31)))).raw xq xq
   with_reducible refine zPm k36 ?_
   rintro _ u34 g35 ⟨x32, rfl, h33⟩
   refine zza 8 (.v x32.v) (zzc 47 [(2, .adr 2 0), (3, .adr 3 0), (4, .adr 4 0), (5, .adr 5 0), (7, .v x26.v), (8, .v x32.v)] [(2, ⟨24, i1.cs⟩), (3, ⟨24, [.bool false, y.v]⟩), (4, ⟨24, [.bool false, .slice none 0 0]⟩), (5, ⟨24, [.bool false, .slice none 0 0]⟩)] (sq9 (zza 38 (.adr 2 0) (zzi 39 (zB i1.s) ty4 zzl (zza 40 (.adr 3 0) (zzi 41 (zB false) ty4 zzl (zza 42 (zB (!(i1.s == false))) (zza 43 (.v x26.v) (zzg 44 222 [.bool (!(i1.s == false)), x26.v] ?_)))))))))
   intro w37 u37 e37 d37
   have k42 := k_signed d37 (s := !(i1.s == false)) (h27.ext (e31.trans (g35.ext.trans e37)))
   with_reducible refine zPm k42 ?_
   rintro _ u40 g41 ⟨i38, rfl, h39⟩
   refine zza 45 (.v x32.v) (zzg 46 222 [.bool false, x32.v] ?_)
   intro w43 u43 e43 d43
   have k48 := k_signed d43 (s := false) (h33.ext (e37.trans (g41.ext.trans e43)))
   with_reducible refine zPm k48 ?_
   rintro _ u46 g47 ⟨i44, rfl, h45⟩
   refine zzj ⟨24, i38.cs⟩ ty24 ?_
   refine zzj ⟨24, i44.cs⟩ ty24 ?_
   refine zza 6 (zI 0) (zzb (zzo (ret0 [i38.v, i44.v, .int .i64 0] ⟨zzr ty24 zze, zzr ty24 zze, zzq, trivial⟩ fun u49 e50 => ?_)))
   have hrp := h15.pos
   have e9 := hs19
   have key := Nt.rdiv1 (N := N) hM xq
   have g1 := (h39.ext (e43.trans (g47.ext.trans e50)))
   have g2 := (h45.ext e50)
   rw [e9] at g1
   rw [e9] at hzN
   have hK1 : 1 ≤ K := by have h2 := hN.size; have h3 := (Nt.dl_pos (x := N)).2 (by rcases Nat.eq_zero_or_pos N with e | e; (rw [e, Nat.zero_mod] at hrp; omega); exact e); omega
   rw [hzN]
   refine ⟨i38, i44, rfl, IntN.more (K := (max K 1 + 1)) ?_ xq, IntN.more (K := L) ?_ xq⟩
   ·rw [key.1]; exact g1
   ·rw [key.2]; exact g2
  ·replace hb20 : (decide ((0 : Int) < (x13.n : Int))) = false := hb20
   have qhb20 := of_decide_eq_false hb20
   refine zzs (zzp ?_)
   refine sq9 (zza 38 (.adr 2 0) (zzi 39 (zB i1.s) ty4 zzl (zza 40 (.adr 3 0) (zzi 41 (zB false) ty4 zzl (zza 42 (zB (!(i1.s == false))) (zza 43 (.v x12.v) (zzg 44 222 [.bool (!(i1.s == false)), x12.v] ?_)))))))
   intro w51 u51 e51 d51
   have k56 := k_signed d51 (s := !(i1.s == false)) (h14.ext e51)
   with_reducible refine zPm k56 ?_
   rintro _ u54 g55 ⟨i52, rfl, h53⟩
   refine zza 45 (.v x13.v) (zzg 46 222 [.bool false, x13.v] ?_)
   intro w57 u57 e57 d57
   have k62 := k_signed d57 (s := false) (h15.ext (e51.trans (g55.ext.trans e57)))
   with_reducible refine zPm k62 ?_
   rintro _ u60 g61 ⟨i58, rfl, h59⟩
   refine zzj ⟨24, i52.cs⟩ ty24 ?_
   refine zzj ⟨24, i58.cs⟩ ty24 ?_
   refine zza 6 (zI 0) (zzc 47 [(4, .adr 4 0), (5, .adr 5 0), (6, zI 0)] [(4, ⟨24, i52.cs⟩), (5, ⟨24, i58.cs⟩)] (zzo (ret0 [i52.v, i58.v, .int .i64 0] ⟨zzr ty24 zze, zzr ty24 zze, zzq, trivial⟩ fun u63 e64 => ?_)))
   have hrp := h15.pos
   have key := Nt.rdiv0 (s := i1.s) (N := N) hM (by rintro ⟨k1, k2⟩; omega)
   have g1 := (h53.ext (e57.trans (g61.ext.trans e64)))
   have g2 := (h59.ext e64)
   rw [hzN]
   refine ⟨i52, i58, rfl, IntN.more (K := K) ?_ xq, IntN.more (K := L) ?_ xq⟩
   ·rw [key.1]; exact g1
   ·rw [key.2]; exact g2
 ·refine zyq 26 (x := zB i1.s) (zB false) (by rw [hs19]) (zzn 27 (uw 2 true false 26) (zzn 28 (uw 2 true false 26) (zzn 29 (uw 2 true false 26) (zza 30 (zB false) (zzb (zys xk (zzs (zzp ?_))))))))
  refine sq9 (zza 38 (.adr 2 0) (zzi 39 (zB i1.s) ty4 zzl (zza 40 (.adr 3 0) (zzi 41 (zB false) ty4 zzl (zza 42 (zB (!(i1.s == false))) (zza 43 (.v x12.v) (zzg 44 222 [.bool (!(i1.s == false)), x12.v] ?_)))))))
  intro w65 u65 e65 d65
  have k70 := k_signed d65 (s := !(i1.s == false)) (h14.ext e65)
  with_reducible refine zPm k70 ?_
  rintro _ u68 g69 ⟨i66, rfl, h67⟩
  refine zza 45 (.v x13.v) (zzg 46 222 [.bool false, x13.v] ?_)
  intro w71 u71 e71 d71
  have k76 := k_signed d71 (s := false) (h15.ext (e65.trans (g69.ext.trans e71)))
  with_reducible refine zPm k76 ?_
  rintro _ u74 g75 ⟨i72, rfl, h73⟩
  refine zzj ⟨24, i66.cs⟩ ty24 ?_
  refine zzj ⟨24, i72.cs⟩ ty24 ?_
  refine zza 6 (zI 0) (zzc 47 [(4, .adr 4 0), (5, .adr 5 0), (6, zI 0)] [(4, ⟨24, i66.cs⟩), (5, ⟨24, i72.cs⟩)] (zzo (ret0 [i66.v, i72.v, .int .i64 0] ⟨zzr ty24 zze, zzr ty24 zze, zzq, trivial⟩ fun u77 e78 => ?_)))
  have hrp := h15.pos
  have key := Nt.rdiv0 (s := i1.s) (N := N) hM (by rintro ⟨k1, k2⟩; rw [k1] at hs19; exact absurd hs19 yq)
  have g1 := (h67.ext (e71.trans (g75.ext.trans e78)))
  have g2 := (h73.ext e78)
  rw [hzN]
  refine ⟨i66, i72, rfl, IntN.more (K := K) ?_ xq, IntN.more (K := L) ?_ xq⟩
  ·rw [key.1]; exact g1
  ·rw [key.2]; exact g2
theorem k_double {u w : World} {i : IL} {z : Int} {K s : Nat} (d : Dat u w) (hi : IntV u i z K) (hK : K ≤ 100000000) (hs : s ≤ 65536) : Calls Tryz.prog 242 #[i.v, .int .i64 (s : Int)] w (Post u w fun v u' => ∃ y : Sl, v = .agg #[.bool i.s, y.v] ∧ IntV u' ⟨i.s, y⟩ (z * ((2 ^ s : Nat) : Int)) (K + s / 32 + 1)) := by
 refine zzm (args := [i.v, .int .i64 s]) Tryz.func242 rfl Tryz.ntmps242 (rs := [.cell 4 24]) Tryz.results242 (le_b rfl) (le_b rfl) d ?_
 refine sq9 (zzk 2 ⟨24, i.cs⟩ (zzk 4 ⟨24, [.bool false, .slice none 0 0]⟩ (zzb (zzd (zzz [0, 1, 0, 4, 0, 28, 63, 127] [(0, []), (1, []), (2, []), (3, []), (4, []), (5, []), (6, []), (7, [])] xk xk (zza 5 (.adr 2 0) (zzi 6 (zB i.s) ty4 zzl (zza 7 (.adr 2 1) (zzi 8 (.v i.m.v) ty22 zzl (zza 9 (zI s) (zzg 10 79 [i.m.v, .int .i64 s] ?_)))))))))))
 intro w11 u11 e11 d11
 have k16 := k_natShift (s := s) d11 ((IntV.abs hi).ext e11) xq xq
 with_reducible refine zPm k16 ?_
 rintro _ u14 g15 ⟨x12, rfl, h13⟩
 refine zza 11 (.v (.agg #[.bool i.s, x12.v])) (zzj ⟨24, [.bool i.s, x12.v]⟩ ty24 ?_)
 refine zzb (zzo (ret0 [.agg #[.bool i.s, .slice x12.a x12.n x12.c]] ⟨zzr ty24 zze, trivial⟩ fun u17 e18 => ?_))
 obtain ⟨N9, hN9, hz9⟩ := hi
 refine ⟨x12, rfl, ?_⟩
 rw [hz9, ← Nt.sg_mulN]
 have h9 := IntV.same (s := i.s) (h13.ext e18).raw
 rw [hz9] at h9
 exact h9
theorem k_onGrid {u w : World} {i : IL} {y : Sl} {z : Int} {D K L s : Nat} (d : Dat u w) (hi : IntV u i z K) (hy : NatV u y D L) (hD : 0 < D) (hK : K ≤ 10000000) (hL : L ≤ 10000000) (hs : s ≤ 65536) : Calls Tryz.prog 243 #[i.v, y.v, .int .i64 (s : Int)] w (Post u w fun v u' => ∃ r : RL, v = r.v ∧ RatN u' r (mkRat (z / (D : Int)) (2 ^ s)) (K + s / 32 + 3)) := by
 have hp2 : 0 < 1 * 2 ^ s := by rw [Nat.one_mul]; exact Nat.pow_pos yq
 refine zzm (args := [i.v, .slice y.a y.n y.c, .int .i64 s]) Tryz.func243 rfl Tryz.ntmps243 (rs := [.cell 6 26]) Tryz.results243 (le_b rfl) (le_b rfl) d ?_
 refine sq9 (zzk 3 ⟨24, i.cs⟩ (zzk 6 ⟨26, [.bool false, .slice none 0 0, .slice none 0 0]⟩ (zzb (zzd (zzz [0, 0, 2, 7, 15, 31, 31, 31, 0, 0, 831, 1919, 4095] [(0, []), (1, []), (8, []), (9, []), (2, []), (3, []), (4, []), (5, []), (6, []), (7, []), (10, []), (11, []), (12, [])] xk xk (zzi 11 (.v (i.v)) ty24 zze (zza 12 (.v y.v) (zzk 7 ⟨24, [.bool false, .slice none 0 0]⟩ (zzk 8 ⟨24, [.bool false, .slice none 0 0]⟩ (zzg 13 195 [y.v] ?_))))))))))
 intro w11 u11 e11 d11
 have k14 := k_natural (x := y) d11
 with_reducible refine zPm k14 ?_
 rintro _ u12 g13 rfl
 refine zzg 14 180 [i.v, .agg #[.bool false, y.v]] ?_
 intro w15 u15 e15 d15
 have k22 := k_intDivP d15 (hi.ext (e11.trans (g13.ext.trans e15))) (hy.ext (e11.trans (g13.ext.trans e15))) hD xq xq
 with_reducible refine zPm k22 ?_
 rintro _ u20 g21 ⟨i16, i18, rfl, h17, h19⟩
 refine zza 10 (.v (.tuple #[i16.v, i18.v, .int .i64 0])) (zza 15 (.v (i16.v)) (zza 16 (.v (i18.v)) (zza 17 (zI 0) (zzj ⟨24, i16.cs⟩ ty24 ?_))))
 refine zzj ⟨24, i18.cs⟩ ty24 ?_
 refine zza 9 (zI 0) (zzb (zzd (zzz [0, 0, 0, 6, 15, 31, 63] [(0, []), (1, []), (2, []), (3, [19]), (4, []), (5, []), (6, [])] xk xk (zzi 18 (.v (i16.v)) ty24 zze (sy_lit 19 ⟨104, [.int .u32 1]⟩ 1 ?_)))))
 refine zza 20 (zI s) (zyo 21 79 [.slc 19 0 1 1, zI s] [19] (.inr rfl) (pub_mk xz) (k := ?_))
 intro B23 w23 u23 e23 d23 v23
 have h25 : u23.heap[B23 19]? = some (.cells #[.int .u32 1] 104 (0, 0)) := v23 19 (by simp) _ rfl
 obtain ⟨b24, hBb24⟩ : ∃ b, B23 19 = b := ⟨_, rfl⟩
 rw [hBb24] at h25
 show Calls _ _ #[.slice (some ⟨B23 19, 0, none⟩) 1 1, .int .i64 (s : Int)] _ _
 rw [hBb24]
 have k30 := k_natShift (s := s) d23 (one_data h25).raw xq xq
 with_reducible refine zPm k30 ?_
 rintro _ u28 g29 ⟨x26, rfl, h27⟩
 refine zza 22 (.v (.agg #[.bool i16.s, i16.m.v, x26.v])) (zzg 23 148 [.agg #[.bool i16.s, i16.m.v, x26.v]] ?_)
 intro w31 u31 e31 d31
 have k36 := k_lowest d31 (h17.ext (e23.trans (g29.ext.trans e31))).raw (h27.ext e31).raw hp2 xq xq
 with_reducible refine zPm k36 ?_
 rintro _ u34 g35 ⟨r32, rfl, h33⟩
 refine zzj ⟨26, r32.cs⟩ ty26 ?_
 refine zzb (zzo (ret0 [r32.v] ⟨zzr ty26 zze, trivial⟩ fun u37 e38 => ?_))
 refine ⟨r32, rfl, RatN.more (K := (max (K + 1) (1 + s / 32 + 1))) ?_ xq⟩
 have h9 := (h33.ext e38)
 rw [Nat.one_mul] at h9
 exact h9
set_option maxHeartbeats 1000000 in
theorem k_downG {u w : World} {r : RL} {q : Rat} {K : Nat} {k : Nat} (hk : k ≤ 256) (d : Dat u w) (hr : RatV u r q K) (hK : K ≤ 1000000) : Calls Tryz.prog 252 #[r.v, .int .i64 (k : Int)] w (Post u w fun v u' => ∃ p : RL, v = .tuple #[p.v, .int .i64 0] ∧ RatN u' p (Nt.dnQ q k) (K + 20)) := by
 refine zzm (args := [r.v, .int .i64 k]) Tryz.func252 rfl Tryz.ntmps252 (rs := [.cell 4 26, .tmp 5]) Tryz.results252 (le_b rfl) (le_b rfl) d ?_
 refine sq9 (zzk 2 ⟨26, r.cs⟩ (zzk 4 ⟨26, [.bool false, .slice none 0 0, .slice none 0 0]⟩ (zza 5 (zI 0) (zzb (zzd (sq9 (zza 7 (zI k) (zza 8 (zB (decide ((k : Int) < 0))) (zyq 9 (x := zB (decide ((k : Int) < 0))) (zB false) (by rw [show (decide ((k : Int) < 0)) = false from decide_eq_false xq]) (zza 10 (zI k) ?_ (hw := w1 2 false 9)))))))))))
 refine zza 11 (zB (decide ((256 : Int) < (k : Int)))) ?_ (hw := w1 2 false 9)
 refine zza 12 (zB (decide ((256 : Int) < (k : Int)))) (zzb (zzu (b := decide ((256 : Int) < (k : Int))) xk (fun hb => ?_) (fun hb => ?_)))
 ·exact absurd hb (by rw [show (decide ((256 : Int) < (k : Int))) = false from decide_eq_false xq]; decide)
 ·clear hb
  refine zzs (zzp ?_)
  refine sq9 (zzi 14 (.v (r.v)) ty26 zze (zzg 15 147 [r.v] ?_))
  intro w12 u12 e12 d12
  have k16 := k_read d12 (hr.ext e12)
  with_reducible refine zPm k16 ?_
  rintro _ u14 g15 ⟨r13, wh13, rfl, z13, D13, hi13, hd13, hp13, hq13, hw13, hk13⟩
  refine zzk 6 ⟨149, [.bool false, .slice none 0 0, .slice none 0 0, .bool false]⟩ (zzj ⟨149, r13.cs ++ [.bool wh13]⟩ ty149 ?_)
  refine zzb (zzd (zzz [0, 1, 3, 0, 15, 0, 32, 96, 0, 511, 1023, 2047] [(0, []), (1, []), (2, []), (3, []), (5, []), (6, []), (7, []), (8, []), (4, []), (9, []), (10, []), (11, [])] xk xk (zza 16 (.adr 6 0) (zza 17 (.adr 6 0) (zzi 18 (.v (.agg #[.bool r13.s, r13.m.v])) ty24 zze (zza 19 (zI k) (zza 21 (.adr 6 0) (zza 22 (.adr 6 2) (zzi 23 (.v r13.d.v) ty22 zzl (zza 24 (zI k) (zzg 20 242 [.agg #[.bool r13.s, r13.m.v], .int .i64 k] ?_)))))))))))
  intro w17 u17 e17 d17
  have k22 := k_double (s := k) d17 (hi13.ext e17) xq xq
  with_reducible refine zPm k22 ?_
  rintro _ u20 g21 ⟨y18, rfl, h19⟩
  refine zzg 25 243 [.agg #[.bool r13.s, y18.v], r13.d.v, .int .i64 k] ?_
  intro w23 u23 e23 d23
  have k28 := k_onGrid (s := k) d23 (h19.ext e23) (hd13.ext (e17.trans (g21.ext.trans e23))) hp13 xq xq xq
  with_reducible refine zPm k28 ?_
  rintro _ u26 g27 ⟨r24, rfl, h25⟩
  refine zzj ⟨26, r24.cs⟩ ty26 ?_
  refine zza 5 (zI 0) (zzb (zzo (ret0 [r24.v, .int .i64 0] ⟨zzr ty26 zze, zzq, trivial⟩ fun u29 e30 => ?_)))
  refine ⟨r24, rfl, RatN.more (K := ((K + k / 32 + 1) + k / 32 + 3)) ?_ xq⟩
  rw [hq13, Nt.dn_mk hp13]
  exact (h25.ext e30)
set_option maxHeartbeats 1000000 in
theorem k_upG {u w : World} {r : RL} {q : Rat} {K : Nat} {k : Nat} (hk : k ≤ 256) (d : Dat u w) (hr : RatV u r q K) (hK : K ≤ 1000000) : Calls Tryz.prog 253 #[r.v, .int .i64 (k : Int)] w (Post u w fun v u' => ∃ p : RL, v = .tuple #[p.v, .int .i64 0] ∧ RatN u' p (-Nt.dnQ (-q) k) (K + 20)) := by
 refine zzm (args := [r.v, .int .i64 k]) Tryz.func253 rfl Tryz.ntmps253 (rs := [.cell 4 26, .tmp 5]) Tryz.results253 (le_b rfl) (le_b rfl) d ?_
 refine sq9 (zzk 2 ⟨26, r.cs⟩ (zzk 4 ⟨26, [.bool false, .slice none 0 0, .slice none 0 0]⟩ (zza 5 (zI 0) (zzb (sq9 (zzi 9 (.v (r.v)) ty26 zze (zzg 10 226 [r.v] ?_)))))))
 intro w11 u11 e11 d11
 have k14 := k_flip (r := r) d11
 with_reducible refine zPm k14 ?_
 rintro _ u12 g13 rfl
 refine zza 11 (zI k) (zzg 12 252 [.agg #[.bool (!r.s), r.m.v, r.d.v], .int .i64 k] ?_)
 intro w15 u15 e15 d15
 have k20 := k_downG (k := k) xq d15 ((flip_rat (hr.ext (e11.trans g13.ext))).ext e15) xq
 with_reducible refine zPm k20 ?_
 rintro _ u18 g19 ⟨r16, rfl, h17⟩
 refine zza 8 (.v (.tuple #[r16.v, .int .i64 0])) (zza 13 (.v (r16.v)) (zza 14 (zI 0) (zzk 6 ⟨26, [.bool false, .slice none 0 0, .slice none 0 0]⟩ (zzj ⟨26, r16.cs⟩ ty26 ?_))))
 refine zza 7 (zI 0) (zzb (zzd (sq9 (zza 15 (zI 0) (zza 16 (zB false) (zzb (zys xk (zzs (zzp ?_)))))))))
 refine sq9 (zzi 19 (.v (r16.v)) ty26 zze (zzg 20 176 [r16.v] ?_))
 intro w21 u21 e21 d21
 have k26 := k_ratNeg d21 (h17.ext e21).raw xq
 with_reducible refine zPm k26 ?_
 rintro _ u24 g25 ⟨r22, rfl, h23⟩
 refine zzj ⟨26, r22.cs⟩ ty26 ?_
 refine zza 5 (zI 0) (zzb (zzo (ret0 [r22.v, .int .i64 0] ⟨zzr ty26 zze, zzq, trivial⟩ fun u27 e28 => ?_)))
 refine ⟨r22, rfl, RatN.more (K := (K + 20)) ?_ xq⟩
 exact (h23.ext e28)
namespace Nt
def rndO (x1 x2 : Rat) (n : Int) : Option (Rat × Rat) := if n < 0 ∨ 256 < n then none else some (dnQ (lo x1 x2) n.toNat, -dnQ (-hi x1 x2) n.toNat)
def rndE (n : Int) : Int := if n < 0 ∨ 256 < n then 1 else 0
end Nt
def OptI (u : World) (a b : RL) (o : Option (Rat × Rat)) (K : Nat) : Prop := match o with | none => a = rl0 ∧ b = rl0 | some (p, q) => RatN u a p K ∧ RatN u b q K
theorem OptI.ext {u u' : World} {a b : RL} {o : Option (Rat × Rat)} {K : Nat} (h : OptI u a b o K) (e : Ext u u') : OptI u' a b o K := by
 cases o with
 | none => exact h
 | some x => exact ⟨h.1.ext e, h.2.ext e⟩
theorem k_r4Sign {u w : World} {a1 a2 : RL} {x1 x2 : Rat} {K : Nat} (d : Dat u w) (ha1 : RatV u a1 x1 K) (ha2 : RatV u a2 x2 K) (hK : K ≤ 4000000) : Calls Tryz.prog 112 #[IV a1 a2] w (Post u w fun v u' => v = .int .i64 (Nt.sgI x1 x2)) := by
 refine zzm (args := [.agg #[.bool a1.s, .slice a1.m.a a1.m.n a1.m.c, .slice a1.d.a a1.d.n a1.d.c, .bool a2.s, .slice a2.m.a a2.m.n a2.m.c, .slice a2.d.a a2.d.n a2.d.c]]) Tryz.func112 rfl Tryz.ntmps112 (rs := [.tmp 2]) Tryz.results112 (le_b rfl) (le_b rfl) d ?_
 refine sq9 (zzk 1 ⟨32, a1.cs ++ a2.cs⟩ (zza 2 (zI 0) (zzb (sq9 (zzi 3 (.v (.agg #[.bool a1.s, a1.m.v, a1.d.v, .bool a2.s, a2.m.v, a2.d.v])) ty32 zze (zzg 4 95 [.agg #[.bool a1.s, a1.m.v, a1.d.v, .bool a2.s, a2.m.v, a2.d.v]] ?_))))))
 intro w11 u11 e11 d11
 have k18 := k_r4Trim d11 (ha1.ext e11) (ha2.ext e11) xq
 with_reducible refine zPm k18 ?_
 rintro _ u16 g17 ⟨r12, r14, rfl, h13, h15⟩
 refine zzj ⟨32, r12.cs ++ r14.cs⟩ ty32 ?_
 refine zzb (zzd (zzt (sq9 (zza 6 (.adr 1 0) (zzi 7 (.v (r12.v)) ty26 zze (zzg 8 29 [r12.v] ?_))))))
 intro w19 u19 e19 d19
 have k22 := k_rqSign d19 (h13.ext e19).raw xq
 with_reducible refine zPm k22 ?_
 rintro _ u20 g21 rfl
 refine zza 9 (zB (decide ((0 : Int) < (Nt.sgQ (Nt.lo x1 x2))))) (zza 5 (zB (decide ((0 : Int) < (Nt.sgQ (Nt.lo x1 x2))))) (zzb (zzu (b := decide ((0 : Int) < (Nt.sgQ (Nt.lo x1 x2)))) xk (fun hb23 => ?_) (fun hb23 => ?_))))
 ·replace hb23 : (decide ((0 : Int) < (Nt.sgQ (Nt.lo x1 x2)))) = true := hb23
  have qhb23 := of_decide_eq_true hb23
  refine sq9 (zza 2 (zI 1) (zzb (zzo (zyu (zzw (ret0 [.int .i64 1] ⟨zzq, trivial⟩ fun u24 e25 => ?_))))))
  show _ = _
  unfold Nt.sgI
  rw [Nt.sgQ_gt] at hb23
  rw [if_pos (of_decide_eq_true hb23)]
  rfl
 ·replace hb23 : (decide ((0 : Int) < (Nt.sgQ (Nt.lo x1 x2)))) = false := hb23
  have qhb23 := of_decide_eq_false hb23
  refine sq9 (zza 11 (.adr 1 3) (zzi 12 (.v (r14.v)) ty26 zze (zzg 13 29 [r14.v] ?_)))
  intro w26 u26 e26 d26
  have k29 := k_rqSign d26 (h15.ext (e19.trans (g21.ext.trans e26))).raw xq
  with_reducible refine zPm k29 ?_
  rintro _ u27 g28 rfl
  refine zza 14 (zB (decide ((Nt.sgQ (Nt.hi x1 x2)) < 0))) (zza 10 (zB (decide ((Nt.sgQ (Nt.hi x1 x2)) < 0))) (zzb (zzu (b := decide ((Nt.sgQ (Nt.hi x1 x2)) < 0)) xk (fun hb30 => ?_) (fun hb30 => ?_))))
  ·replace hb30 : (decide ((Nt.sgQ (Nt.hi x1 x2)) < 0)) = true := hb30
   have qhb30 := of_decide_eq_true hb30
   refine sq9 (zza 2 (zI (-1)) (zzb (zzo (zyu (zzw (ret0 [.int .i64 (-1)] ⟨zzq, trivial⟩ fun u31 e32 => ?_))))))
   show _ = _
   unfold Nt.sgI
   rw [Nt.sgQ_gt] at hb23
   rw [if_neg (of_decide_eq_false hb23)]
   rw [Nt.sgQ_lt] at hb30
   rw [if_pos (of_decide_eq_true hb30)]
   rfl
  ·replace hb30 : (decide ((Nt.sgQ (Nt.hi x1 x2)) < 0)) = false := hb30
   have qhb30 := of_decide_eq_false hb30
   refine zzs (zzp ?_)
   refine sq9 (zza 2 (zI 0) (zzb (zzo (ret0 [.int .i64 0] ⟨zzq, trivial⟩ fun u33 e34 => ?_))))
   show _ = _
   unfold Nt.sgI
   rw [Nt.sgQ_gt] at hb23
   rw [if_neg (of_decide_eq_false hb23)]
   rw [Nt.sgQ_lt] at hb30
   rw [if_neg (of_decide_eq_false hb30)]
   rfl
theorem k_r4Square {u w : World} {a1 a2 : RL} {x1 x2 : Rat} {K : Nat} (d : Dat u w) (ha1 : RatV u a1 x1 K) (ha2 : RatV u a2 x2 K) (hK : K ≤ 4000000) : Calls Tryz.prog 44 #[IV a1 a2] w (Post u w fun v u' => ∃ p q : RL, v = IV p q ∧ RatN u' p (if Nt.sgI x1 x2 = 0 then 0 else Nt.lo (x1 * x1) (x2 * x2)) (K + K + 3) ∧ RatN u' q (Nt.hi (x1 * x1) (x2 * x2)) (K + K + 3)) := by
 refine zzm (args := [.agg #[.bool a1.s, .slice a1.m.a a1.m.n a1.m.c, .slice a1.d.a a1.d.n a1.d.c, .bool a2.s, .slice a2.m.a a2.m.n a2.m.c, .slice a2.d.a a2.d.n a2.d.c]]) Tryz.func44 rfl Tryz.ntmps44 (rs := [.cell 2 32]) Tryz.results44 (le_b rfl) (le_b rfl) d ?_
 refine sq9 (zzk 1 ⟨32, a1.cs ++ a2.cs⟩ (zzk 2 ⟨32, [.bool false, .slice none 0 0, .slice none 0 0, .bool false, .slice none 0 0, .slice none 0 0]⟩ (zzb (zzd (zzz [0, 1, 0, 4, 15, 0, 32, 0, 128, 511, 1023, 0, 4095] [(0, []), (1, []), (2, []), (3, []), (5, []), (6, []), (7, []), (8, []), (11, []), (4, []), (9, []), (10, []), (12, [])] xk xk (zza 4 (.adr 1 0) (zzi 5 (.v (a1.v)) ty26 zze (zza 6 (.adr 1 0) (zzi 7 (.v (a1.v)) ty26 zze (zza 9 (.adr 1 3) (zzi 10 (.v (a2.v)) ty26 zze ?_)))))))))))
 refine zza 11 (.adr 1 3) (zzi 12 (.v (a2.v)) ty26 zze (zzk 3 ⟨32, [.bool false, .slice none 0 0, .slice none 0 0, .bool false, .slice none 0 0, .slice none 0 0]⟩ (zzg 8 25 [a1.v, a1.v] ?_)))
 intro w11 u11 e11 d11
 have k16 := k_rqMul d11 (ha1.ext e11) (ha1.ext e11) xq xq
 with_reducible refine zPm k16 ?_
 rintro _ u14 g15 ⟨r12, rfl, h13⟩
 refine zzg 13 25 [a2.v, a2.v] ?_
 intro w17 u17 e17 d17
 have k22 := k_rqMul d17 (ha2.ext (e11.trans (g15.ext.trans e17))) (ha2.ext (e11.trans (g15.ext.trans e17))) xq xq
 with_reducible refine zPm k22 ?_
 rintro _ u20 g21 ⟨r18, rfl, h19⟩
 refine zzg 14 38 [r12.v, r18.v] ?_
 intro w23 u23 e23 d23
 have k30 := k_r4Make d23 (h13.ext (e17.trans (g21.ext.trans e23))).raw (h19.ext e23).raw xq
 with_reducible refine zPm k30 ?_
 rintro _ u28 g29 ⟨r24, r26, rfl, h25, h27⟩
 refine zzj ⟨32, r24.cs ++ r26.cs⟩ ty32 ?_
 refine zzb (zzd (sq9 (zzi 15 (.v (.agg #[.bool a1.s, a1.m.v, a1.d.v, .bool a2.s, a2.m.v, a2.d.v])) ty32 zze (zzg 16 112 [.agg #[.bool a1.s, a1.m.v, a1.d.v, .bool a2.s, a2.m.v, a2.d.v]] ?_))))
 intro w31 u31 e31 d31
 have k34 := k_r4Sign d31 (ha1.ext (e11.trans (g15.ext.trans (e17.trans (g21.ext.trans (e23.trans (g29.ext.trans e31))))))) (ha2.ext (e11.trans (g15.ext.trans (e17.trans (g21.ext.trans (e23.trans (g29.ext.trans e31))))))) xq
 with_reducible refine zPm k34 ?_
 rintro _ u32 g33 rfl
 refine zza 17 (zB ((Nt.sgI x1 x2) == 0)) (zzb (zzu (b := (Nt.sgI x1 x2) == 0) xk (fun hb35 => ?_) (fun hb35 => ?_)))
 ·replace hb35 : ((Nt.sgI x1 x2) == 0) = true := hb35
  refine zzf (zzg 18 30 [.int .i64 0] ?_)
  intro w36 u36 e36 d36
  have k41 := k_rqOf d36 (z := 0) xq xq
  with_reducible refine zPm k41 ?_
  rintro _ u39 g40 ⟨r37, rfl, h38⟩
  refine zza 19 (.adr 3 0) (zzj ⟨32, r37.cs ++ r26.cs⟩ ty26 ?_)
  refine zzb (sq9 (zzi 20 (.v (.agg #[.bool r37.s, r37.m.v, r37.d.v, .bool r26.s, r26.m.v, r26.d.v])) ty32 zze (zzj ⟨32, r37.cs ++ r26.cs⟩ ty32 ?_)))
  refine zzb (zzo (ret0 [.agg #[.bool r37.s, .slice r37.m.a r37.m.n r37.m.c, .slice r37.d.a r37.d.n r37.d.c, .bool r26.s, .slice r26.m.a r26.m.n r26.m.c, .slice r26.d.a r26.d.n r26.d.c]] ⟨zzr ty32 zze, trivial⟩ fun u42 e43 => ?_))
  refine ⟨r37, r26, rfl, RatN.more (K := 2) ?_ xq, RatN.more (K := (K + K + 1)) ?_ xq⟩
  ·rw [if_pos (by simpa using hb35)]; exact (h38.ext e43)
  ·exact (h27.ext (e31.trans (g33.ext.trans (e36.trans (g40.ext.trans e43)))))
 ·replace hb35 : ((Nt.sgI x1 x2) == 0) = false := hb35
  refine zzs (zzp ?_)
  refine sq9 (zzi 20 (.v (.agg #[.bool r24.s, r24.m.v, r24.d.v, .bool r26.s, r26.m.v, r26.d.v])) ty32 zze (zzj ⟨32, r24.cs ++ r26.cs⟩ ty32 ?_))
  refine zzb (zzo (ret0 [.agg #[.bool r24.s, .slice r24.m.a r24.m.n r24.m.c, .slice r24.d.a r24.d.n r24.d.c, .bool r26.s, .slice r26.m.a r26.m.n r26.m.c, .slice r26.d.a r26.d.n r26.d.c]] ⟨zzr ty32 zze, trivial⟩ fun u44 e45 => ?_))
  refine ⟨r24, r26, rfl, RatN.more (K := (K + K + 1)) ?_ xq, RatN.more (K := (K + K + 1)) ?_ xq⟩
  ·rw [if_neg (by simpa using hb35)]; exact (h25.ext (e31.trans (g33.ext.trans e45)))
  ·exact (h27.ext (e31.trans (g33.ext.trans e45)))
set_option maxHeartbeats 1000000 in
theorem k_ivRoundG {u w : World} {a1 a2 : RL} {x1 x2 : Rat} {K : Nat} {k : Nat} (hk : k ≤ 256) (d : Dat u w) (ha1 : RatV u a1 x1 K) (ha2 : RatV u a2 x2 K) (hK : K ≤ 100000) : Calls Tryz.prog 227 #[IV a1 a2, .int .i64 (k : Int)] w (Post u w fun v u' => ∃ p q : RL, v = .tuple #[IV p q, .int .i64 (Nt.rndE (k : Int))] ∧ OptI u' p q (Nt.rndO x1 x2 (k : Int)) (K + 70)) := by
 refine zzm (args := [.agg #[.bool a1.s, .slice a1.m.a a1.m.n a1.m.c, .slice a1.d.a a1.d.n a1.d.c, .bool a2.s, .slice a2.m.a a2.m.n a2.m.c, .slice a2.d.a a2.d.n a2.d.c], .int .i64 k]) Tryz.func227 rfl Tryz.ntmps227 (rs := [.cell 4 32, .tmp 5]) Tryz.results227 (le_b rfl) (le_b rfl) d ?_
 refine sq9 (zzk 2 ⟨32, a1.cs ++ a2.cs⟩ (zzk 4 ⟨32, [.bool false, .slice none 0 0, .slice none 0 0, .bool false, .slice none 0 0, .slice none 0 0]⟩ (zza 5 (zI 0) (zzb (zzd (sq9 (zza 12 (zI k) (zza 13 (zB (decide ((k : Int) < 0))) (zyq 14 (x := zB (decide ((k : Int) < 0))) (zB false) (by rw [show (decide ((k : Int) < 0)) = false from decide_eq_false xq]) (zza 15 (zI k) ?_ (hw := w1 2 false 14)))))))))))
 refine zza 16 (zB (decide ((256 : Int) < (k : Int)))) ?_ (hw := w1 2 false 14)
 refine zza 17 (zB (decide ((256 : Int) < (k : Int)))) (zzb (zzu (b := decide ((256 : Int) < (k : Int))) xk (fun hb => ?_) (fun hb => ?_)))
 ·exact absurd hb (by rw [show (decide ((256 : Int) < (k : Int))) = false from decide_eq_false xq]; decide)
 ·clear hb
  refine zzs (zzp ?_)
  refine sq9 (zzi 20 (.v (.agg #[.bool a1.s, a1.m.v, a1.d.v, .bool a2.s, a2.m.v, a2.d.v])) ty32 zze (zzg 21 208 [.agg #[.bool a1.s, a1.m.v, a1.d.v, .bool a2.s, a2.m.v, a2.d.v]] ?_))
  intro w12 u12 e12 d12
  have k19 := k_ends d12 (ha1.ext e12) (ha2.ext e12) xq
  with_reducible refine zPm k19 ?_
  rintro _ u17 g18 ⟨r13, r15, rfl, h14, h16⟩
  refine zza 19 (.v (.tuple #[r13.v, r15.v])) (zza 22 (.v (r13.v)) (zza 23 (.v (r15.v)) (zzk 6 ⟨26, [.bool false, .slice none 0 0, .slice none 0 0]⟩ (zzk 7 ⟨26, [.bool false, .slice none 0 0, .slice none 0 0]⟩ (zzj ⟨26, r13.cs⟩ ty26 ?_)))))
  refine zzj ⟨26, r15.cs⟩ ty26 ?_
  refine zzb (sq9 (zzi 25 (.v (r13.v)) ty26 zze (zza 26 (zI k) (zzg 27 252 [r13.v, .int .i64 k] ?_))))
  intro w20 u20 e20 d20
  have k25 := k_downG (k := k) xq d20 (h14.ext e20) xq
  with_reducible refine zPm k25 ?_
  rintro _ u23 g24 ⟨r21, rfl, h22⟩
  refine zza 24 (.v (.tuple #[r21.v, .int .i64 0])) (zza 28 (.v (r21.v)) (zza 29 (zI 0) (zzk 8 ⟨26, [.bool false, .slice none 0 0, .slice none 0 0]⟩ (zzj ⟨26, r21.cs⟩ ty26 ?_))))
  refine zza 9 (zI 0) (zzb (sq9 (zzi 31 (.v (r15.v)) ty26 zze (zza 32 (zI k) (zzg 33 253 [r15.v, .int .i64 k] ?_)))))
  intro w26 u26 e26 d26
  have k31 := k_upG (k := k) xq d26 (h16.ext (e20.trans (g24.ext.trans e26))) xq
  with_reducible refine zPm k31 ?_
  rintro _ u29 g30 ⟨r27, rfl, h28⟩
  refine zza 30 (.v (.tuple #[r27.v, .int .i64 0])) (zza 34 (.v (r27.v)) (zza 35 (zI 0) (zzk 10 ⟨26, [.bool false, .slice none 0 0, .slice none 0 0]⟩ (zzj ⟨26, r27.cs⟩ ty26 ?_))))
  refine zza 11 (zI 0) (zzc 39 [(4, .adr 4 0), (8, .adr 8 0), (10, .adr 10 0)] [(4, ⟨32, [.bool false, .slice none 0 0, .slice none 0 0, .bool false, .slice none 0 0, .slice none 0 0]⟩), (8, ⟨26, r21.cs⟩), (10, ⟨26, r27.cs⟩)] (sq9 (zzi 36 (.v (r21.v)) ty26 zze (zzi 37 (.v (r27.v)) ty26 zze (zza 38 (.v (.agg #[.bool r21.s, r21.m.v, r21.d.v, .bool r27.s, r27.m.v, r27.d.v])) (zzj ⟨32, r21.cs ++ r27.cs⟩ ty32 ?_))))))
  refine zza 5 (zI 0) (zzb (zzo (ret0 [.agg #[.bool r21.s, .slice r21.m.a r21.m.n r21.m.c, .slice r21.d.a r21.d.n r21.d.c, .bool r27.s, .slice r27.m.a r27.m.n r27.m.c, .slice r27.d.a r27.d.n r27.d.c], .int .i64 0] ⟨zzr ty32 zze, zzq, trivial⟩ fun u32 e33 => ?_)))
  have h9 : ¬ ((k : Int) < 0 ∨ 256 < (k : Int)) := by omega
  refine ⟨r21, r27, by unfold Nt.rndE; rw [if_neg h9]; rfl, ?_⟩
  unfold Nt.rndO
  rw [if_neg h9, Int.toNat_natCast]
  exact ⟨RatN.more (K := (K + 20)) (h22.ext (e26.trans (g30.ext.trans e33))) xq, RatN.more (K := (K + 20)) (h28.ext e33) xq⟩
@[reducible] def SP (a b : IL) : Value := .agg #[.bool a.s, .slice a.m.a a.m.n a.m.c, .bool b.s, .slice b.m.a b.m.n b.m.c]
namespace Nt
theorem pw_u2 (k : Nat) : pw k = u2 (32 * k) := by
 induction k with
 | zero => rfl
 | succ k ih =>
  have h : u2 (32 * (k + 1)) = u2 (32 * k) * u2 32 := by rw [← u2_add]; rfl
  have e : u2 32 = 4294967296 := by decide +kernel
  show 4294967296 * pw k = _
  rw [ih, h, e, Int.mul_comm]
theorem dl_u2 {z : Int} {L b : Nat} (h0 : -(u2 b) ≤ z) (h1 : z ≤ u2 b) (h : b < 32 * L) : dl z.natAbs ≤ L := by
 refine dl_le ?_
 rw [pw_u2]
 have h2 := u2_mono (a := b + 1) (b := 32 * L) xq
 have h3 : u2 (b + 1) = u2 b * 2 := u2_add b 1
 have h4 := u2_pos b
 omega
theorem big {w : Nat} (hw : w ≤ 800) : 8 * u2 w + 1152921504606846976 ≤ u2 1000 := by
 have h1 := u2_mono hw
 have h2 : 8 * u2 800 + 1152921504606846976 ≤ u2 1000 := by decide +kernel
 omega
theorem cmp_le (x y : Int) : decide (cmpS x y ≤ 0) = decide (x ≤ y) := by
 rw [decide_eq_decide]
 rcases cmp_range x y with ⟨e, h⟩ | ⟨e, h⟩ | ⟨e, h⟩ <;> rw [e] <;> omega
theorem cmp_ne (x y : Int) : (cmpS x y != 0) = decide (x ≠ y) := by
 rcases cmp_range x y with ⟨e, h⟩ | ⟨e, h⟩ | ⟨e, h⟩ <;> rw [e] <;> simp <;> omega
theorem csW_le {w : Nat} (hw : w ≤ 800) : csW w * ((w : Int) + 4) + 2 ≤ 1000000000 ∧ 0 ≤ csW w * ((w : Int) + 2) ∧ csW w * ((w : Int) + 2) ≤ 1000000000 := by
 have h0 : 0 ≤ csW w := by unfold csW; omega
 have h1 : csW w ≤ 411211 := by unfold csW; omega
 have h2 := Int.mul_le_mul h1 (show (w : Int) + 4 ≤ 804 by omega) xq yq
 have h3 := Int.mul_le_mul_of_nonneg_left (show (w : Int) + 2 ≤ (w : Int) + 4 by omega) h0
 have h4 := Int.mul_nonneg h0 (show 0 ≤ (w : Int) + 2 by omega)
 omega
theorem width_lt {lo hi : Int} {g w : Nat} (h : hi - lo ≤ 1000000000) (hw : g + 37 ≤ w) : hi - lo < u2 (w - g) := by
 have h1 := u2_mono (a := 37) (b := w - g) xq
 have h2 : u2 37 = 137438953472 := by decide +kernel
 omega
theorem atR_bd {n w : Nat} {a b : Int} (h : AtR n w a b) (hn : 0 < n) : -(5 * (w : Int) + 8) ≤ a ∧ a ≤ u2 w ∧ 0 ≤ b ∧ b ≤ u2 w + 5 * (w : Int) + 8 ∧ a ≤ b := by
 obtain ⟨⟨N, h1⟩, h2⟩ := h
 have h3 := h1 (N + 1) xq
 have k1 := atT_b (n := n) hn (m := N + 1) xq
 have k2 := atT_le hn 0
 have hU := castI_pos (u2_pos w)
 have h4 : alt (atT n) (N + 1) ≤ 1 := by
  refine Rat.le_trans k1.2 ?_
  refine Rat.le_trans (div_le_self (atP_nn hn 0) (cast_one xq)) ?_
  show 1 / (n : Rat) ≤ 1
  exact div_le_self yq (cast_one hn)
 have h5 := h3.lo_le (c := u2 w) (by
  have := Rat.mul_le_mul_of_nonneg_right h4 (Rat.le_of_lt hU)
  rwa [Rat.one_mul] at this)
 have h6 := h3.nonneg (by grind) (u2_pos w)
 have := h3.le
 omega
theorem coD_mul {j : Nat} (h : j ≤ 1000) : IntKind.i64.wrap (((2 * j + 2 : Nat) : Int) * ((2 * j + 2 - 1 : Nat) : Int)) = coD j ∧ coD j ≤ 10000000 := by
 have h1 := Nat.mul_le_mul (show 2 * j + 2 ≤ 2002 by omega) (show 2 * j + 1 ≤ 2001 by omega)
 have e : ((2 * j + 2 : Nat) : Int) * ((2 * j + 2 - 1 : Nat) : Int) = coD j := by
  unfold coD
  rw [Int.natCast_mul, show 2 * j + 2 - 1 = 2 * j + 1 by omega]
 have h2 : coD j ≤ 10000000 := by unfold coD; omega
 have h3 := coD_pos j
 rw [e]
 exact ⟨IntWalk.i64_in _ xq, h2⟩
theorem csR_bd {p q w : Nat} {a b : Int} (h : CsR p q w a b) (h0 : 0 < q) (hp : 2 * p ≤ q) (hw : w ≤ 800) : -(3 * u2 w) - 1000000000 ≤ a ∧ a ≤ 3 * u2 w ∧ -(3 * u2 w) ≤ b ∧ b ≤ 3 * u2 w + 1000000000 ∧ a ≤ b ∧ b - a ≤ 1000000000 := by
 have h9 := csW_le hw
 obtain ⟨⟨N, h1⟩, h2⟩ := h
 have h3 := h1 (N + 1) xq
 have h4 := cs_bd (N := N) (m := N + 1) h0 hp xq xq h3
 have := h3.le
 omega
theorem piR_w {w : Nat} {a b : Int} (h : PiR w a b) (hw : w ≤ 800) : b - a ≤ 1000000000 := by have := h.2; omega
theorem flo_of {X : Nat → Rat} {b w : Nat} {lo hi : Int} (h : ∃ N : Nat, ∀ m, N ≤ m → Enc (u2 w) lo hi (X m)) (hb : b ≤ w) (he : (cmpS (lo / u2 (w - b)) (hi / u2 (w - b)) != 0) = false) : lo / u2 (w - b) = flo X b := by
 rw [cmp_ne] at he
 have h1 : lo / u2 (w - b) = hi / u2 (w - b) := by simpa using he
 exact (FlO.of h hb rfl h1.symm).flo.symm
theorem not_yet {X : Nat → Rat} {b g w : Nat} {lo hi : Int} (hg : Gap X b g) (h : ∃ N : Nat, ∀ m, N ≤ m → Enc (u2 w) lo hi (X m)) (hw : hi - lo ≤ 1000000000) (he : (cmpS (lo / u2 (w - b)) (hi / u2 (w - b)) != 0) = true) : w < g + 37 := by
 rcases Nat.lt_or_ge w (g + 37) with k | k
 ·exact k
 ·have := hg.decides h xq (width_lt hw k)
  rw [cmp_ne] at he
  exact absurd this (by simpa using he)
theorem dnQ_int (z : Int) (b : Nat) : dnQ (z : Rat) b = (z : Rat) := by
 unfold dnQ
 have e : (z : Rat) * ((2 ^ b : Nat) : Rat) = ((z * ((2 ^ b : Nat) : Int) : Int) : Rat) := by rw [Rat.intCast_mul]; rfl
 have f : flr ((z * ((2 ^ b : Nat) : Int) : Int) : Rat) = z * ((2 ^ b : Nat) : Int) := by
  unfold flr
  show (z * ((2 ^ b : Nat) : Int)) / ((1 : Nat) : Int) = _
  exact Int.ediv_one _
 have hp : (2 ^ b : Nat) ≠ 0 := by have := Nat.pow_pos (n := b) (show 0 < 2 by decide); omega
 rw [e, f, Rat.mkRat_eq_div, Rat.intCast_mul]
 show (z : Rat) * ((2 ^ b : Nat) : Rat) / ((2 ^ b : Nat) : Rat) = _
 have : ((2 ^ b : Nat) : Rat) ≠ 0 := by
  have := cast_pos (Nat.pow_pos (n := b) (show 0 < 2 by decide))
  grind
 generalize ((2 ^ b : Nat) : Rat) = x at *
 grind
theorem rnd_pt {q : Rat} {k : Nat} (hk : k ≤ 256) : rndO (lo q q) (hi q q) (k : Int) = some (dnQ q k, -dnQ (-q) k) := by
 unfold rndO
 have e := lo_of_le (Rat.le_refl (a := q))
 rw [if_neg (show ¬ ((k : Int) < 0 ∨ 256 < (k : Int)) by omega), e.1, e.2, e.1, e.2, Int.toNat_natCast]
theorem cosA_0 {r q b : Nat} (h : r = 0) : cosA r q b = (dnQ ((1 : Int) : Rat) b, -dnQ (-((1 : Int) : Rat)) b) := by
 have e : -((1 : Int) : Rat) = ((-1 : Int) : Rat) := rfl
 unfold cosA
 rw [if_pos h, dnQ_int, e, dnQ_int]; rfl
theorem cosA_h {r q b : Nat} (h : ¬ r = 0) (h2 : 2 * r = q) : cosA r q b = (dnQ ((0 : Int) : Rat) b, -dnQ (-((0 : Int) : Rat)) b) := by
 have e : -((0 : Int) : Rat) = ((0 : Int) : Rat) := rfl
 unfold cosA
 rw [if_neg h, if_pos h2, e, dnQ_int]; rfl
theorem cosA_3 {r q b : Nat} (h : ¬ r = 0) (h2 : ¬ 2 * r = q) (h3 : 3 * r = q) : cosA r q b = (dnQ (((1 : Int) : Rat) / ((2 : Int) : Rat)) b, -dnQ (-(((1 : Int) : Rat) / ((2 : Int) : Rat))) b) := by
 unfold cosA
 rw [if_neg h, if_neg h2, if_pos h3]; rfl
theorem cosA_g {r q b : Nat} (h : ¬ r = 0) (h2 : ¬ 2 * r = q) (h3 : ¬ 3 * r = q) : cosA r q b = (gr b (flo (coN r q) b), gr b (flo (coN r q) b + 1)) := by
 unfold cosA
 rw [if_neg h, if_neg h2, if_neg h3]
theorem cosV_lo {p : Int} {q b r : Nat} (h : fold p q = r) (h2 : ¬ q < 2 * r) : cosV p q b = cosA r q b := by
 unfold cosV cosF; rw [h, if_neg h2]
theorem cosV_hi {p : Int} {q b r : Nat} (h : fold p q = r) (h2 : q < 2 * r) : cosV p q b = (-(cosA (q - r) q b).2, -(cosA (q - r) q b).1) := by
 unfold cosV cosF; rw [h, if_pos h2]
theorem fold_id {r q : Nat} (h : r ≤ q) : fold (r : Int) q = r := by
 unfold fold
 dsimp only
 rcases Nat.eq_zero_or_pos q with h0 | h0
 ·have : r = 0 := by omega
  subst this; subst h0; rfl
 ·rw [Int.tmod_eq_of_lt xq xq, if_neg xq]
  omega
theorem tmod_bd (p : Int) {q : Nat} (hq : 0 < q) : -(2 * (q : Int)) < Int.tmod p (2 * (q : Int)) ∧ Int.tmod p (2 * (q : Int)) < 2 * (q : Int) := ⟨Int.lt_tmod_of_pos p xq, Int.tmod_lt_of_pos p xq⟩
end Nt
theorem IntN.fit {u : World} {i : IL} {z : Int} {K L : Nat} (h : IntN u i z K) (k : dl z.natAbs ≤ L) : IntN u i z L := ⟨h.1, h.2.1, h.2.2.1, k⟩
theorem IntN.lim {u : World} {i : IL} {z : Int} {K : Nat} (h : IntN u i z K) (h0 : -(Nt.u2 1000) ≤ z) (h1 : z ≤ Nt.u2 1000) : IntN u i z 40 := h.fit (Nt.dl_u2 h0 h1 yq)
theorem IntN.lim2 {u : World} {i : IL} {z : Int} {K : Nat} (h : IntN u i z K) (h0 : -(Nt.u2 1000) ≤ z) (h1 : z ≤ Nt.u2 1000) : IntN u i z 42 := (h.lim h0 h1).more yq
theorem k_intDivI {u w : World} {i1 i2 : IL} {z D : Int} {K L : Nat} (d : Dat u w) (h1 : IntV u i1 z K) (h2 : IntN u i2 D L) (hD : 0 < D) (hK : K ≤ 100000000) (hL : L ≤ 100000000) : Calls Tryz.prog 180 #[i1.v, i2.v] w (Post u w fun v u' => ∃ i j : IL, v = .tuple #[i.v, j.v, .int .i64 0] ∧ IntN u' i (z / D) (K + 1) ∧ IntN u' j (z % D) L) := by
 obtain ⟨s, y⟩ := i2
 have hs : s = false := by have h3 := h2.1; rw [decide_eq_false xq] at h3; exact h3
 subst hs
 have hd : ((D.natAbs : Nat) : Int) = D := by omega
 have := k_intDivP d h1 (y := y) (M := D.natAbs) h2.2.raw xq hK hL
 rw [hd] at this
 exact this
theorem k_intSub {u w : World} {i1 : IL} {zN : Int} {K : Nat} {i2 : IL} {zM : Int} {L : Nat} (d : Dat u w) (hi1 : IntV u i1 zN K) (hi2 : IntV u i2 zM L) (hK : K ≤ 400000000) (hL : L ≤ 400000000) : Calls Tryz.prog 233 #[i1.v, i2.v] w (Post u w fun v u' => ∃ i : IL, v = i.v ∧ IntN u' i (zN - zM) (max K L + 1)) := by
 obtain ⟨N, hN, hzN⟩ := hi1
 obtain ⟨M, hM, hzM⟩ := hi2
 refine zzm (args := [i1.v, i2.v]) Tryz.func233 rfl Tryz.ntmps233 (rs := [.cell 4 24]) Tryz.results233 (le_b rfl) (le_b rfl) d ?_
 refine sq9 (zzk 2 ⟨24, i1.cs⟩ (zzk 3 ⟨24, i2.cs⟩ (zzk 4 ⟨24, [.bool false, .slice none 0 0]⟩ (zzb (sq9 (zzi 5 (.v (i1.v)) ty24 zze (zza 6 (.adr 3 0) (zzi 7 (zB i2.s) ty4 zzl (zza 8 (zB (!i2.s)) (zza 9 (.adr 3 1) (zzi 10 (.v i2.m.v) ty22 zzl ?_)))))))))))
 refine zza 11 (.v (.agg #[.bool (!i2.s), i2.m.v])) (zzg 12 159 [i1.v, .agg #[.bool (!i2.s), i2.m.v]] ?_)
 intro w11 u11 e11 d11
 have k16 := k_intAdd d11 (IntV.same (s := i1.s) (hN.ext e11)) (IntV.same (s := !i2.s) (hM.ext e11)) xq xq
 with_reducible refine zPm k16 ?_
 rintro _ u14 g15 ⟨i12, rfl, h13⟩
 refine zzj ⟨24, i12.cs⟩ ty24 ?_
 refine zzb (zzo (ret0 [i12.v] ⟨zzr ty24 zze, trivial⟩ fun u17 e18 => ?_))
 refine ⟨i12, rfl, IntN.more (K := (max K L + 1)) ?_ xq⟩
 have e9 : zN - zM = Nt.sg i1.s N + Nt.sg (!i2.s) M := by rw [hzN, hzM]; unfold Nt.sg; cases i1.s <;> cases i2.s <;> simp <;> omega
 rw [e9]
 exact (h13.ext e18)
theorem k_eUnit {u w : World} {k : Nat} (d : Dat u w) (hk : k ≤ 65536) : Calls Tryz.prog 161 #[.int .i64 (k : Int)] w (Post u w fun v u' => ∃ i : IL, v = SP i i ∧ IntN u' i (Nt.u2 k) (k / 32 + 2)) := by
 refine zzm (args := [.int .i64 k]) Tryz.func161 rfl Tryz.ntmps161 (rs := [.cell 2 160]) Tryz.results161 (le_b rfl) (le_b rfl) d ?_
 refine sq9 (zzk 2 ⟨160, [.bool false, .slice none 0 0, .bool false, .slice none 0 0]⟩ (zzb (sq9 (zxx 4 ⟨104, [.int .u32 1]⟩ 1 (fun b11 u12 e13 h14 => ?_)))))
 refine zza 5 (zI k) (zzg 6 79 [.slice (some ⟨b11, 0, none⟩) 1 1, .int .i64 k] ?_)
 intro w15 u15 e15 d15
 have k20 := k_natShift (s := k) d15 ((one_data h14).ext e15).raw xq xq
 with_reducible refine zPm k20 ?_
 rintro _ u18 g19 ⟨x16, rfl, h17⟩
 refine zza 7 (.v (.agg #[.bool false, x16.v])) (zzk 3 ⟨24, [.bool false, .slice none 0 0]⟩ (zzj ⟨24, [.bool false, x16.v]⟩ ty24 ?_))
 refine zzb (sq9 (zzi 8 (.v (.agg #[.bool false, x16.v])) ty24 zze (zzi 9 (.v (.agg #[.bool false, x16.v])) ty24 zze (zza 10 (.v (.agg #[.bool false, x16.v, .bool false, x16.v])) (zzj ⟨160, [.bool false, x16.v, .bool false, x16.v]⟩ ty160 ?_)))))
 refine zzb (zzo (ret0 [.agg #[.bool false, .slice x16.a x16.n x16.c, .bool false, .slice x16.a x16.n x16.c]] ⟨zzr ty160 zze, trivial⟩ fun u21 e22 => ?_))
 refine ⟨(⟨false, x16⟩ : IL), rfl, ?_⟩
 have h9 := nat_intN (h17.ext e22)
 rw [Nat.one_mul] at h9
 exact h9.more xq
theorem k_eAdd {u w : World} {i j : IL} {a b : Int} {K : Nat} {k l : IL} {e f : Int} {L : Nat} (d : Dat u w) (hi : IntN u i a K) (hj : IntN u j b K) (hk : IntN u k e L) (hl : IntN u l f L) (hK : K ≤ 1000000) (hL : L ≤ 1000000) : Calls Tryz.prog 230 #[SP i j, SP k l] w (Post u w fun v u' => ∃ i j : IL, v = SP i j ∧ IntN u' i (a + e) (max K L + 1) ∧ IntN u' j (b + f) (max K L + 1)) := by
 refine zzm (args := [.agg #[.bool i.s, .slice i.m.a i.m.n i.m.c, .bool j.s, .slice j.m.a j.m.n j.m.c], .agg #[.bool k.s, .slice k.m.a k.m.n k.m.c, .bool l.s, .slice l.m.a l.m.n l.m.c]]) Tryz.func230 rfl Tryz.ntmps230 (rs := [.cell 4 160]) Tryz.results230 (le_b rfl) (le_b rfl) d ?_
 refine sq9 (zzk 2 ⟨160, i.cs ++ j.cs⟩ (zzk 3 ⟨160, k.cs ++ l.cs⟩ (zzk 4 ⟨160, [.bool false, .slice none 0 0, .bool false, .slice none 0 0]⟩ (zzb (zzd (zzz [0, 1, 0, 4, 15, 0, 32, 0, 128, 511, 1023, 2047] [(0, []), (1, []), (2, []), (3, []), (5, []), (6, []), (7, []), (8, []), (4, []), (9, []), (10, []), (11, [])] xk xk (zza 5 (.adr 2 0) (zzi 6 (.v (i.v)) ty24 zze (zza 7 (.adr 3 0) (zzi 8 (.v (k.v)) ty24 zze (zza 10 (.adr 2 2) ?_)))))))))))
 refine zzi 11 (.v (j.v)) ty24 zze (zza 12 (.adr 3 2) (zzi 13 (.v (l.v)) ty24 zze (zzg 9 159 [i.v, k.v] ?_)))
 intro w11 u11 e11 d11
 have k16 := k_intAdd d11 (hi.ext e11).raw (hk.ext e11).raw xq xq
 with_reducible refine zPm k16 ?_
 rintro _ u14 g15 ⟨i12, rfl, h13⟩
 refine zzg 14 159 [j.v, l.v] ?_
 intro w17 u17 e17 d17
 have k22 := k_intAdd d17 (hj.ext (e11.trans (g15.ext.trans e17))).raw (hl.ext (e11.trans (g15.ext.trans e17))).raw xq xq
 with_reducible refine zPm k22 ?_
 rintro _ u20 g21 ⟨i18, rfl, h19⟩
 refine zza 15 (.v (.agg #[.bool i12.s, i12.m.v, .bool i18.s, i18.m.v])) (zzj ⟨160, i12.cs ++ i18.cs⟩ ty160 ?_)
 refine zzb (zzo (ret0 [.agg #[.bool i12.s, .slice i12.m.a i12.m.n i12.m.c, .bool i18.s, .slice i18.m.a i18.m.n i18.m.c]] ⟨zzr ty160 zze, trivial⟩ fun u23 e24 => ?_))
 refine ⟨i12, i18, rfl, IntN.more (K := (max K L + 1)) ?_ xq, IntN.more (K := (max K L + 1)) ?_ xq⟩
 ·exact (h13.ext (e17.trans (g21.ext.trans e24)))
 ·exact (h19.ext e24)
theorem k_eSub {u w : World} {i j : IL} {a b : Int} {K : Nat} {k l : IL} {e f : Int} {L : Nat} (d : Dat u w) (hi : IntN u i a K) (hj : IntN u j b K) (hk : IntN u k e L) (hl : IntN u l f L) (hK : K ≤ 1000000) (hL : L ≤ 1000000) : Calls Tryz.prog 184 #[SP i j, SP k l] w (Post u w fun v u' => ∃ i j : IL, v = SP i j ∧ IntN u' i (a - f) (max K L + 1) ∧ IntN u' j (b - e) (max K L + 1)) := by
 refine zzm (args := [.agg #[.bool i.s, .slice i.m.a i.m.n i.m.c, .bool j.s, .slice j.m.a j.m.n j.m.c], .agg #[.bool k.s, .slice k.m.a k.m.n k.m.c, .bool l.s, .slice l.m.a l.m.n l.m.c]]) Tryz.func184 rfl Tryz.ntmps184 (rs := [.cell 4 160]) Tryz.results184 (le_b rfl) (le_b rfl) d ?_
 refine sq9 (zzk 2 ⟨160, i.cs ++ j.cs⟩ (zzk 3 ⟨160, k.cs ++ l.cs⟩ (zzk 4 ⟨160, [.bool false, .slice none 0 0, .bool false, .slice none 0 0]⟩ (zzb (zzd (zzz [0, 1, 0, 4, 15, 0, 32, 0, 128, 511, 1023, 2047] [(0, []), (1, []), (2, []), (3, []), (5, []), (6, []), (7, []), (8, []), (4, []), (9, []), (10, []), (11, [])] xk xk (zza 5 (.adr 2 0) (zzi 6 (.v (i.v)) ty24 zze (zza 7 (.adr 3 2) (zzi 8 (.v (l.v)) ty24 zze (zza 10 (.adr 2 2) ?_)))))))))))
 refine zzi 11 (.v (j.v)) ty24 zze (zza 12 (.adr 3 0) (zzi 13 (.v (k.v)) ty24 zze (zzg 9 233 [i.v, l.v] ?_)))
 intro w11 u11 e11 d11
 have k16 := k_intSub d11 (hi.ext e11).raw (hl.ext e11).raw xq xq
 with_reducible refine zPm k16 ?_
 rintro _ u14 g15 ⟨i12, rfl, h13⟩
 refine zzg 14 233 [j.v, k.v] ?_
 intro w17 u17 e17 d17
 have k22 := k_intSub d17 (hj.ext (e11.trans (g15.ext.trans e17))).raw (hk.ext (e11.trans (g15.ext.trans e17))).raw xq xq
 with_reducible refine zPm k22 ?_
 rintro _ u20 g21 ⟨i18, rfl, h19⟩
 refine zza 15 (.v (.agg #[.bool i12.s, i12.m.v, .bool i18.s, i18.m.v])) (zzj ⟨160, i12.cs ++ i18.cs⟩ ty160 ?_)
 refine zzb (zzo (ret0 [.agg #[.bool i12.s, .slice i12.m.a i12.m.n i12.m.c, .bool i18.s, .slice i18.m.a i18.m.n i18.m.c]] ⟨zzr ty160 zze, trivial⟩ fun u23 e24 => ?_))
 refine ⟨i12, i18, rfl, IntN.more (K := (max K L + 1)) ?_ xq, IntN.more (K := (max K L + 1)) ?_ xq⟩
 ·exact (h13.ext (e17.trans (g21.ext.trans e24)))
 ·exact (h19.ext e24)
theorem k_eTimes {u w : World} {i j : IL} {a b : Int} {K : Nat} {n9 : Nat} (d : Dat u w) (hi : IntN u i a K) (hj : IntN u j b K)  (hK : K ≤ 1000000) (hn : n9 ≤ 1000000000) : Calls Tryz.prog 183 #[SP i j, .int .i64 (n9 : Int)] w (Post u w fun v u' => ∃ i j : IL, v = SP i j ∧ IntN u' i (a * (n9 : Int)) (K + 2) ∧ IntN u' j (b * (n9 : Int)) (K + 2)) := by
 refine zzm (args := [.agg #[.bool i.s, .slice i.m.a i.m.n i.m.c, .bool j.s, .slice j.m.a j.m.n j.m.c], .int .i64 n9]) Tryz.func183 rfl Tryz.ntmps183 (rs := [.cell 4 160]) Tryz.results183 (le_b rfl) (le_b rfl) d ?_
 refine sq9 (zzk 2 ⟨160, i.cs ++ j.cs⟩ (zzk 4 ⟨160, [.bool false, .slice none 0 0, .bool false, .slice none 0 0]⟩ (zzb (zzd (zzz [0, 1, 0, 4, 15, 0, 32, 0, 159, 511, 1023, 2047] [(0, []), (1, []), (2, []), (5, []), (6, []), (7, []), (3, []), (4, []), (8, []), (9, []), (10, []), (11, [])] xk xk (zza 5 (.adr 2 0) (zzi 6 (.v (i.v)) ty24 zze (zza 7 (zI n9) (zza 10 (.adr 2 2) (zzi 11 (.v (j.v)) ty24 zze (zza 12 (zI n9) ?_)))))))))))
 refine zzg 8 160 [.int .i64 n9] ?_
 intro w11 u11 e11 d11
 have k16 := k_intOf d11 (z := (n9 : Int)) xq xq
 with_reducible refine zPm k16 ?_
 rintro _ u14 g15 ⟨i12, rfl, h13⟩
 refine zzg 9 194 [i.v, i12.v] ?_
 intro w17 u17 e17 d17
 have k22 := k_intMul d17 (hi.ext (e11.trans (g15.ext.trans e17))).raw (h13.ext e17).raw xq xq
 with_reducible refine zPm k22 ?_
 rintro _ u20 g21 ⟨i18, rfl, h19⟩
 refine zzg 13 160 [.int .i64 n9] ?_
 intro w23 u23 e23 d23
 have k28 := k_intOf d23 (z := (n9 : Int)) xq xq
 with_reducible refine zPm k28 ?_
 rintro _ u26 g27 ⟨i24, rfl, h25⟩
 refine zzg 14 194 [j.v, i24.v] ?_
 intro w29 u29 e29 d29
 have k34 := k_intMul d29 (hj.ext (e11.trans (g15.ext.trans (e17.trans (g21.ext.trans (e23.trans (g27.ext.trans e29))))))).raw (h25.ext e29).raw xq xq
 with_reducible refine zPm k34 ?_
 rintro _ u32 g33 ⟨i30, rfl, h31⟩
 refine zza 15 (.v (.agg #[.bool i18.s, i18.m.v, .bool i30.s, i30.m.v])) (zzj ⟨160, i18.cs ++ i30.cs⟩ ty160 ?_)
 refine zzb (zzo (ret0 [.agg #[.bool i18.s, .slice i18.m.a i18.m.n i18.m.c, .bool i30.s, .slice i30.m.a i30.m.n i30.m.c]] ⟨zzr ty160 zze, trivial⟩ fun u35 e36 => ?_))
 refine ⟨i18, i30, rfl, IntN.more (K := (K + 2)) ?_ xq, IntN.more (K := (K + 2)) ?_ xq⟩
 ·exact (h19.ext (e23.trans (g27.ext.trans (e29.trans (g33.ext.trans e36)))))
 ·exact (h31.ext e36)
theorem k_eOver {u w : World} {i j : IL} {a b : Int} {K : Nat} {l : IL} {D : Int} {L : Nat} (d : Dat u w) (hi : IntN u i a K) (hj : IntN u j b K) (hl : IntN u l D L) (hD : 0 < D) (hK : K ≤ 1000000) (hL : L ≤ 1000000) : Calls Tryz.prog 228 #[SP i j, l.v] w (Post u w fun v u' => ∃ i j : IL, v = SP i j ∧ IntN u' i (a / D) (K + 3) ∧ IntN u' j (Nt.cdiv b D) (K + 3)) := by
 refine zzm (args := [.agg #[.bool i.s, .slice i.m.a i.m.n i.m.c, .bool j.s, .slice j.m.a j.m.n j.m.c], l.v]) Tryz.func228 rfl Tryz.ntmps228 (rs := [.cell 4 160]) Tryz.results228 (le_b rfl) (le_b rfl) d ?_
 refine sq9 (zzk 2 ⟨160, i.cs ++ j.cs⟩ (zzk 3 ⟨24, l.cs⟩ (zzk 4 ⟨160, [.bool false, .slice none 0 0, .bool false, .slice none 0 0]⟩ (zzb (sq9 (zza 12 (.adr 2 0) (zzi 13 (.v (i.v)) ty24 zze (zzi 14 (.v (l.v)) ty24 zze (zzg 15 180 [i.v, l.v] ?_)))))))))
 intro w11 u11 e11 d11
 have k18 := k_intDivI d11 (hi.ext e11).raw (hl.ext e11) hD xq xq
 with_reducible refine zPm k18 ?_
 rintro _ u16 g17 ⟨i12, i14, rfl, h13, h15⟩
 refine zza 11 (.v (.tuple #[i12.v, i14.v, .int .i64 0])) (zza 16 (.v (i12.v)) (zza 17 (.v (i14.v)) (zza 18 (zI 0) (zzk 5 ⟨24, [.bool false, .slice none 0 0]⟩ (zzk 6 ⟨24, [.bool false, .slice none 0 0]⟩ (zzj ⟨24, i12.cs⟩ ty24 ?_))))))
 refine zzj ⟨24, i14.cs⟩ ty24 ?_
 refine zza 7 (zI 0) (zzb (sq9 (zza 20 (.adr 2 2) (zzi 21 (.v (j.v)) ty24 zze (zzi 22 (.v (l.v)) ty24 zze (zzg 23 180 [j.v, l.v] ?_))))))
 intro w19 u19 e19 d19
 have k26 := k_intDivI d19 (hj.ext (e11.trans (g17.ext.trans e19))).raw (hl.ext (e11.trans (g17.ext.trans e19))) hD xq xq
 with_reducible refine zPm k26 ?_
 rintro _ u24 g25 ⟨i20, i22, rfl, h21, h23⟩
 refine zza 19 (.v (.tuple #[i20.v, i22.v, .int .i64 0])) (zza 24 (.v (i20.v)) (zza 25 (.v (i22.v)) (zza 26 (zI 0) (zzk 8 ⟨24, [.bool false, .slice none 0 0]⟩ (zzk 9 ⟨24, [.bool false, .slice none 0 0]⟩ (zzj ⟨24, i20.cs⟩ ty24 ?_))))))
 refine zzj ⟨24, i22.cs⟩ ty24 ?_
 refine zza 10 (zI 0) (zzb (zzd (sq9 (zzi 27 (.v (i22.v)) ty24 zze (zzg 28 146 [i22.v] ?_)))))
 intro w27 u27 e27 d27
 have k30 := k_intSign d27 (h23.ext e27).raw
 with_reducible refine zPm k30 ?_
 rintro _ u28 g29 rfl
 refine zza 29 (zB ((Nt.cmpS (b % D) 0) != 0)) (zzc 36 [(4, .adr 4 0), (5, .adr 5 0), (8, .adr 8 0), (29, zB ((Nt.cmpS (b % D) 0) != 0))] [(4, ⟨160, [.bool false, .slice none 0 0, .bool false, .slice none 0 0]⟩), (5, ⟨24, i12.cs⟩), (8, ⟨24, i20.cs⟩)] (zzu (b := (Nt.cmpS (b % D) 0) != 0) xk (fun hb31 => ?_) (fun hb31 => ?_)))
 ·replace hb31 : ((Nt.cmpS (b % D) 0) != 0) = true := hb31
  refine zzz [0, 0, 3, 7] [(0, []), (1, []), (2, []), (3, [])] xk xk (zzi 30 (.v (i20.v)) ty24 zze (zzg 31 160 [.int .i64 1] ?_))
  intro w32 u32 e32 d32
  have k37 := k_intOf d32 (z := 1) xq xq
  with_reducible refine zPm k37 ?_
  rintro _ u35 g36 ⟨i33, rfl, h34⟩
  refine zzg 32 159 [i20.v, i33.v] ?_
  intro w38 u38 e38 d38
  have k43 := k_intAdd d38 (h21.ext (e27.trans (g29.ext.trans (e32.trans (g36.ext.trans e38))))).raw (h34.ext e38).raw xq xq
  with_reducible refine zPm k43 ?_
  rintro _ u41 g42 ⟨i39, rfl, h40⟩
  refine zzj ⟨24, i39.cs⟩ ty24 ?_
  refine zzb (sq9 (zzi 33 (.v (i12.v)) ty24 zze (zzi 34 (.v (i39.v)) ty24 zze (zza 35 (.v (.agg #[.bool i12.s, i12.m.v, .bool i39.s, i39.m.v])) (zzj ⟨160, i12.cs ++ i39.cs⟩ ty160 ?_)))))
  refine zzb (zzo (ret0 [.agg #[.bool i12.s, .slice i12.m.a i12.m.n i12.m.c, .bool i39.s, .slice i39.m.a i39.m.n i39.m.c]] ⟨zzr ty160 zze, trivial⟩ fun u44 e45 => ?_))
  have h8 : ¬ b % D = 0 := by intro h7; rw [h7] at hb31; exact absurd hb31 yq
  rw [Nt.cd_eq1 hD h8]
  refine ⟨i12, i39, rfl, IntN.more (K := (K + 1)) ?_ xq, IntN.more (K := (max (K + 1) 2 + 1)) ?_ xq⟩
  ·exact (h13.ext (e19.trans (g25.ext.trans (e27.trans (g29.ext.trans (e32.trans (g36.ext.trans (e38.trans (g42.ext.trans e45)))))))))
  ·exact (h40.ext e45)
 ·replace hb31 : ((Nt.cmpS (b % D) 0) != 0) = false := hb31
  refine zzs (zzp ?_)
  refine sq9 (zzi 33 (.v (i12.v)) ty24 zze (zzi 34 (.v (i20.v)) ty24 zze (zza 35 (.v (.agg #[.bool i12.s, i12.m.v, .bool i20.s, i20.m.v])) (zzj ⟨160, i12.cs ++ i20.cs⟩ ty160 ?_))))
  refine zzb (zzo (ret0 [.agg #[.bool i12.s, .slice i12.m.a i12.m.n i12.m.c, .bool i20.s, .slice i20.m.a i20.m.n i20.m.c]] ⟨zzr ty160 zze, trivial⟩ fun u46 e47 => ?_))
  have h8 : b % D = 0 := by rw [Nt.cmp_ne] at hb31; simpa using hb31
  rw [Nt.cd_eq0 hD h8]
  refine ⟨i12, i20, rfl, IntN.more (K := (K + 1)) ?_ xq, IntN.more (K := (K + 1)) ?_ xq⟩
  ·exact (h13.ext (e19.trans (g25.ext.trans (e27.trans (g29.ext.trans e47)))))
  ·exact (h21.ext (e27.trans (g29.ext.trans e47)))
theorem k_eProd {u w : World} {i j : IL} {a b : Int} {K : Nat} {k l : IL} {e f : Int} {L p : Nat} (d : Dat u w) (hi : IntN u i a K) (hj : IntN u j b K) (hk : IntN u k e L) (hl : IntN u l f L) (hK : K ≤ 400000) (hL : L ≤ 400000) (hp : p ≤ 60000) : Calls Tryz.prog 229 #[SP i j, SP k l, .int .i64 (p : Int)] w (Post u w fun v u' => ∃ i j : IL, v = SP i j ∧ IntN u' i (a * e / Nt.u2 p) (K + L + 3) ∧ IntN u' j (Nt.cdiv (b * f) (Nt.u2 p)) (K + L + 3)) := by
 refine zzm (args := [.agg #[.bool i.s, .slice i.m.a i.m.n i.m.c, .bool j.s, .slice j.m.a j.m.n j.m.c], .agg #[.bool k.s, .slice k.m.a k.m.n k.m.c, .bool l.s, .slice l.m.a l.m.n l.m.c], .int .i64 p]) Tryz.func229 rfl Tryz.ntmps229 (rs := [.cell 6 160]) Tryz.results229 (le_b rfl) (le_b rfl) d ?_
 refine sq9 (zzk 3 ⟨160, i.cs ++ j.cs⟩ (zzk 4 ⟨160, k.cs ++ l.cs⟩ (zzk 6 ⟨160, [.bool false, .slice none 0 0, .bool false, .slice none 0 0]⟩ (zzb (zzd (zzz [0, 1, 0, 4, 15, 0, 32, 0, 128, 511, 1023, 0, 3071, 7167, 16383, 32767] [(0, []), (1, []), (2, []), (3, []), (5, []), (6, []), (7, []), (8, []), (11, []), (4, []), (9, []), (10, []), (12, []), (13, []), (14, []), (15, [])] xk xk (zza 7 (.adr 3 0) (zzi 8 (.v (i.v)) ty24 zze (zza 9 (.adr 4 0) (zzi 10 (.v (k.v)) ty24 zze (zza 12 (.adr 3 2) ?_)))))))))))
 refine zzi 13 (.v (j.v)) ty24 zze (zza 14 (.adr 4 2) (zzi 15 (.v (l.v)) ty24 zze (zza 18 (zI p) (zzg 11 194 [i.v, k.v] ?_))))
 intro w11 u11 e11 d11
 have k16 := k_intMul d11 (hi.ext e11).raw (hk.ext e11).raw xq xq
 with_reducible refine zPm k16 ?_
 rintro _ u14 g15 ⟨i12, rfl, h13⟩
 refine zzg 16 194 [j.v, l.v] ?_
 intro w17 u17 e17 d17
 have k22 := k_intMul d17 (hj.ext (e11.trans (g15.ext.trans e17))).raw (hl.ext (e11.trans (g15.ext.trans e17))).raw xq xq
 with_reducible refine zPm k22 ?_
 rintro _ u20 g21 ⟨i18, rfl, h19⟩
 refine zza 17 (.v (.agg #[.bool i12.s, i12.m.v, .bool i18.s, i18.m.v])) (zzg 19 161 [.int .i64 p] ?_)
 intro w23 u23 e23 d23
 have k28 := k_eUnit (k := p) d23 xq
 with_reducible refine zPm k28 ?_
 rintro _ u26 g27 ⟨i24, rfl, h25⟩
 refine zza 20 (.v (i24.v)) (zzg 21 228 [.agg #[.bool i12.s, i12.m.v, .bool i18.s, i18.m.v], i24.v] ?_)
 intro w29 u29 e29 d29
 have k36 := k_eOver d29 (h13.ext (e17.trans (g21.ext.trans (e23.trans (g27.ext.trans e29))))) (h19.ext (e23.trans (g27.ext.trans e29))) (h25.ext e29) (Nt.u2_pos p) xq xq
 with_reducible refine zPm k36 ?_
 rintro _ u34 g35 ⟨i30, i32, rfl, h31, h33⟩
 refine zzj ⟨160, i30.cs ++ i32.cs⟩ ty160 ?_
 refine zzb (zzo (ret0 [.agg #[.bool i30.s, .slice i30.m.a i30.m.n i30.m.c, .bool i32.s, .slice i32.m.a i32.m.n i32.m.c]] ⟨zzr ty160 zze, trivial⟩ fun u37 e38 => ?_))
 refine ⟨i30, i32, rfl, IntN.more (K := ((K + L) + 3)) ?_ xq, IntN.more (K := ((K + L) + 3)) ?_ xq⟩
 ·exact (h31.ext e38)
 ·exact (h33.ext e38)
theorem k_eWider {u w : World} {i j : IL} {a b : Int} {K : Nat}  (d : Dat u w) (hi : IntN u i a K) (hj : IntN u j b K)  (hK : K ≤ 1000000)  : Calls Tryz.prog 232 #[SP i j] w (Post u w fun v u' => ∃ i j : IL, v = SP i j ∧ IntN u' i (a - 1) (K + 3) ∧ IntN u' j (b + 1) (K + 3)) := by
 refine zzm (args := [.agg #[.bool i.s, .slice i.m.a i.m.n i.m.c, .bool j.s, .slice j.m.a j.m.n j.m.c]]) Tryz.func232 rfl Tryz.ntmps232 (rs := [.cell 2 160]) Tryz.results232 (le_b rfl) (le_b rfl) d ?_
 refine sq9 (zzk 1 ⟨160, i.cs ++ j.cs⟩ (zzk 2 ⟨160, [.bool false, .slice none 0 0, .bool false, .slice none 0 0]⟩ (zzb (sq9 (zzg 4 160 [.int .i64 1] ?_)))))
 intro w11 u11 e11 d11
 have k16 := k_intOf d11 (z := 1) xq xq
 with_reducible refine zPm k16 ?_
 rintro _ u14 g15 ⟨i12, rfl, h13⟩
 refine zzk 3 ⟨24, [.bool false, .slice none 0 0]⟩ (zzj ⟨24, i12.cs⟩ ty24 ?_)
 refine zzb (zzd (zzz [0, 1, 0, 7, 0, 16, 0, 127, 255, 511] [(0, []), (1, []), (2, []), (4, []), (5, []), (6, []), (3, []), (7, []), (8, []), (9, [])] xk xk (zza 5 (.adr 1 0) (zzi 6 (.v (i.v)) ty24 zze (zzi 7 (.v (i12.v)) ty24 zze (zza 9 (.adr 1 2) (zzi 10 (.v (j.v)) ty24 zze (zzi 11 (.v (i12.v)) ty24 zze (zzg 8 233 [i.v, i12.v] ?_)))))))))
 intro w17 u17 e17 d17
 have k22 := k_intSub d17 (hi.ext (e11.trans (g15.ext.trans e17))).raw (h13.ext e17).raw xq xq
 with_reducible refine zPm k22 ?_
 rintro _ u20 g21 ⟨i18, rfl, h19⟩
 refine zzg 12 159 [j.v, i12.v] ?_
 intro w23 u23 e23 d23
 have k28 := k_intAdd d23 (hj.ext (e11.trans (g15.ext.trans (e17.trans (g21.ext.trans e23))))).raw (h13.ext (e17.trans (g21.ext.trans e23))).raw xq xq
 with_reducible refine zPm k28 ?_
 rintro _ u26 g27 ⟨i24, rfl, h25⟩
 refine zza 13 (.v (.agg #[.bool i18.s, i18.m.v, .bool i24.s, i24.m.v])) (zzj ⟨160, i18.cs ++ i24.cs⟩ ty160 ?_)
 refine zzb (zzo (ret0 [.agg #[.bool i18.s, .slice i18.m.a i18.m.n i18.m.c, .bool i24.s, .slice i24.m.a i24.m.n i24.m.c]] ⟨zzr ty160 zze, trivial⟩ fun u29 e30 => ?_))
 refine ⟨i18, i24, rfl, IntN.more (K := (max K 2 + 1)) ?_ xq, IntN.more (K := (max K 2 + 1)) ?_ xq⟩
 ·exact (h19.ext (e23.trans (g27.ext.trans e30)))
 ·exact (h25.ext e30)
theorem k_eTiny {u w : World} {i j : IL} {a b : Int} {K : Nat}  (d : Dat u w) (hi : IntN u i a K) (hj : IntN u j b K)  (hK : K ≤ 1000000)  : Calls Tryz.prog 231 #[SP i j] w (Post u w fun v u' => v = .bool (decide (b ≤ 1))) := by
 refine zzm (args := [.agg #[.bool i.s, .slice i.m.a i.m.n i.m.c, .bool j.s, .slice j.m.a j.m.n j.m.c]]) Tryz.func231 rfl Tryz.ntmps231 (rs := [.tmp 2]) Tryz.results231 (le_b rfl) (le_b rfl) d ?_
 refine sq9 (zzk 1 ⟨160, i.cs ++ j.cs⟩ (zza 2 (zB false) (zzb (zzd (zzz [0, 1, 0, 7, 15, 31] [(0, []), (1, []), (2, []), (3, []), (4, []), (5, [])] xk xk (zza 3 (.adr 1 2) (zzi 4 (.v (j.v)) ty24 zze (zzg 5 160 [.int .i64 1] ?_))))))))
 intro w11 u11 e11 d11
 have k16 := k_intOf d11 (z := 1) xq xq
 with_reducible refine zPm k16 ?_
 rintro _ u14 g15 ⟨i12, rfl, h13⟩
 refine zzg 6 181 [j.v, i12.v] ?_
 intro w17 u17 e17 d17
 have k20 := k_intCompare d17 (hj.ext (e11.trans (g15.ext.trans e17))).raw (h13.ext e17).raw
 with_reducible refine zPm k20 ?_
 rintro _ u18 g19 rfl
 refine zza 7 (zB (decide ((Nt.cmpS b 1) ≤ 0))) (zza 2 (zB (decide ((Nt.cmpS b 1) ≤ 0))) (zzb (zzo (ret0 [.bool (decide ((Nt.cmpS b 1) ≤ 0))] ⟨zzq, trivial⟩ fun u21 e22 => ?_))))
 show Value.bool _ = Value.bool _
 rw [Nt.cmp_le]
set_option maxHeartbeats 4000000 in
theorem k_arctan {u w : World} {n k : Nat} (d : Dat u w) (hn : 2 ≤ n) (hn2 : n ≤ 1000) (hk : k ≤ 800) : Calls Tryz.prog 182 #[.int .i64 (n : Int), .int .i64 (k : Int)] w (Post u w fun v u' => ∃ (i j : IL) (a b : Int), v = SP i j ∧ IntN u' i a 42 ∧ IntN u' j b 42 ∧ Nt.AtR n k a b) := by
 have hN2 : 4 ≤ n * n := Nat.mul_le_mul hn hn
 have hN3 : n * n ≤ 1000000 := Nat.mul_le_mul hn2 hn2
 have hnn : -9223372036854775808 ≤ (n : Int) * (n : Int) ∧ (n : Int) * (n : Int) ≤ 9223372036854775807 := by rw [← Int.natCast_mul]; omega
 have hbig := Nt.big hk
 have hu2 := Nt.u2_pos k
 refine zzm (args := [.int .i64 n, .int .i64 k]) Tryz.func182 rfl Tryz.ntmps182 (rs := [.cell 4 160]) Tryz.results182 (le_b rfl) (le_b rfl) d ?_
 refine sq9 (zzk 4 ⟨160, [.bool false, .slice none 0 0, .bool false, .slice none 0 0]⟩ (zzb (sq9 (zza 9 (zI k) (zzg 10 161 [.int .i64 k] ?_)))))
 intro w11 u11 e11 d11
 have k16 := k_eUnit (k := k) d11 xq
 with_reducible refine zPm k16 ?_
 rintro _ u14 g15 ⟨i12, rfl, h13⟩
 refine zza 11 (zI n) (zzg 12 160 [.int .i64 n] ?_)
 intro w17 u17 e17 d17
 have k22 := k_intOf d17 (z := (n : Int)) xq xq
 with_reducible refine zPm k22 ?_
 rintro _ u20 g21 ⟨i18, rfl, h19⟩
 refine zzg 13 228 [.agg #[.bool i12.s, i12.m.v, .bool i12.s, i12.m.v], i18.v] ?_
 intro w23 u23 e23 d23
 have k30 := k_eOver d23 (h13.ext (e17.trans (g21.ext.trans e23))) (h13.ext (e17.trans (g21.ext.trans e23))) (h19.ext e23) xq xq xq
 with_reducible refine zPm k30 ?_
 rintro _ u28 g29 ⟨i24, i26, rfl, h25, h27⟩
 refine zzk 5 ⟨160, [.bool false, .slice none 0 0, .bool false, .slice none 0 0]⟩ (zzj ⟨160, i24.cs ++ i26.cs⟩ ty160 ?_)
 refine zzb (sq9 (zzi 14 (.v (.agg #[.bool i24.s, i24.m.v, .bool i26.s, i26.m.v])) ty160 zze (zzk 6 ⟨160, [.bool false, .slice none 0 0, .bool false, .slice none 0 0]⟩ (zzj ⟨160, i24.cs ++ i26.cs⟩ ty160 ?_))))
 refine zzb (sq9 (zza 7 (zI 3) (zzb (zzt (zyn (I := fun m31 S' u' => ∃ (j : Nat) (x1 : IL) (x2 : IL) (y1 : IL) (y2 : IL) (a : Int) (b : Int) (cc : Int) (dd : Int), (m31 = b.toNat) ∧ (Nt.AtI n k j a b cc dd) ∧ (S' = St.of 40 [(0, zI n), (4, .adr 4 0), (5, .adr 5 0), (6, .adr 6 0), (7, zI (2 * j + 3 : Nat))] [(4, ⟨160, [.bool false, .slice none 0 0, .bool false, .slice none 0 0]⟩), (5, ⟨160, x1.cs ++ x2.cs⟩), (6, ⟨160, y1.cs ++ y2.cs⟩)]) ∧ (Ext u28 u') ∧ (IntN u' x1 a 40) ∧ (IntN u' x2 b 40) ∧ (IntN u' y1 cc 40) ∧ (IntN u' y2 dd 40)) (fun m S u1 u2 e h => by obtain ⟨j, x1, x2, y1, y2, a, b, cc, dd, hm, p0, hS, hE, f0, f1, f2, f3⟩ := h; exact ⟨j, x1, x2, y1, y2, a, b, cc, dd, hm, p0, hS, hE.trans e, f0.ext e, f1.ext e, f2.ext e, f3.ext e⟩) _ yw ⟨0, i24, i26, i24, i26, ((Nt.u2 k) / (n : Int)), (Nt.cdiv (Nt.u2 k) (n : Int)), ((Nt.u2 k) / (n : Int)), (Nt.cdiv (Nt.u2 k) (n : Int)), rfl, (Nt.AtI.start xq), rfl, (Ext.refl _), (IntN.lim h25 (by have h8 := (Nt.AtI.start (n := n) (w := k) xq).bd xq; omega) (by have h8 := (Nt.AtI.start (n := n) (w := k) xq).bd xq; omega)), (IntN.lim h27 (by have h8 := (Nt.AtI.start (n := n) (w := k) xq).bd xq; have h9 := (Nt.AtI.start (n := n) (w := k) xq).p1; omega) (by have h8 := (Nt.AtI.start (n := n) (w := k) xq).bd xq; omega)), (IntN.lim h25 (by have h8 := (Nt.AtI.start (n := n) (w := k) xq).bd xq; omega) (by have h8 := (Nt.AtI.start (n := n) (w := k) xq).bd xq; omega)), (IntN.lim h27 (by have h8 := (Nt.AtI.start (n := n) (w := k) xq).bd xq; have h9 := (Nt.AtI.start (n := n) (w := k) xq).p1; omega) (by have h8 := (Nt.AtI.start (n := n) (w := k) xq).bd xq; omega))⟩ ?_)))))
 rintro m31 _ u31 ⟨j, x1, x2, y1, y2, a, b, cc, dd, hm31, hI, rfl, e31, f0, f1, f2, f3⟩
 have hjw := hI.jw
 refine zzd (zzt (zzd (zzz [0, 0, 0, 6, 14, 31, 63] [(0, []), (1, []), (2, []), (3, []), (4, []), (5, []), (6, [])] xk xk (zzi 17 (.v (.agg #[.bool x1.s, x1.m.v, .bool x2.s, x2.m.v])) ty160 zze (zza 18 (zI n) (zza 19 (zI n) (zyq 20 (x := zI (IntKind.i64.wrap ((n : Int) * (n : Int)))) (zI (((n * n : Nat) : Int))) (by rw [show (IntKind.i64.wrap ((n : Int) * (n : Int))) = ((n * n : Nat) : Int) from (by rw [IntWalk.i64_in _ hnn]; rfl)]) (zzg 21 160 [.int .i64 (n * n : Nat)] ?_))))))))
 intro w32 u32 e32 d32
 have k37 := k_intOf d32 (z := ((n * n : Nat) : Int)) xq xq
 with_reducible refine zPm k37 ?_
 rintro _ u35 g36 ⟨i33, rfl, h34⟩
 refine zzg 22 228 [.agg #[.bool x1.s, x1.m.v, .bool x2.s, x2.m.v], i33.v] ?_
 intro w38 u38 e38 d38
 have k45 := k_eOver d38 (f0.ext (e32.trans (g36.ext.trans e38))) (f1.ext (e32.trans (g36.ext.trans e38))) (h34.ext e38) xq xq xq
 with_reducible refine zPm k45 ?_
 rintro _ u43 g44 ⟨i39, i41, rfl, h40, h42⟩
 refine zzj ⟨160, i39.cs ++ i41.cs⟩ ty160 ?_
 refine zzb (zzd (zzz [0, 0, 2, 7, 0, 31] [(0, []), (1, []), (4, []), (2, []), (3, []), (5, [])] xk xk (zzi 23 (.v (.agg #[.bool i39.s, i39.m.v, .bool i41.s, i41.m.v])) ty160 zze (zza 24 (zI (2 * j + 3 : Nat)) (zzk 8 ⟨160, [.bool false, .slice none 0 0, .bool false, .slice none 0 0]⟩ (zzg 25 160 [.int .i64 (2 * j + 3 : Nat)] ?_))))))
 intro w46 u46 e46 d46
 have k51 := k_intOf d46 (z := ((2 * j + 3 : Nat) : Int)) xq xq
 with_reducible refine zPm k51 ?_
 rintro _ u49 g50 ⟨i47, rfl, h48⟩
 refine zzg 26 228 [.agg #[.bool i39.s, i39.m.v, .bool i41.s, i41.m.v], i47.v] ?_
 intro w52 u52 e52 d52
 have k59 := k_eOver d52 (h40.ext (e46.trans (g50.ext.trans e52))) (h42.ext (e46.trans (g50.ext.trans e52))) (h48.ext e52) xq xq xq
 with_reducible refine zPm k59 ?_
 rintro _ u57 g58 ⟨i53, i55, rfl, h54, h56⟩
 refine zzj ⟨160, i53.cs ++ i55.cs⟩ ty160 ?_
 refine zzb (zzd (sq9 (zza 27 (zI (2 * j + 3 : Nat)) (zza 28 (zI (Int.tmod ((2 * j + 3 : Nat) : Int) 4)) (zza 29 (zB ((Int.tmod ((2 * j + 3 : Nat) : Int) 4) == 3)) (zzb (zzu (b := (Int.tmod ((2 * j + 3 : Nat) : Int) 4) == 3) xk (fun hb60 => ?_) (fun hb60 => ?_))))))))
 ·replace hb60 : ((Int.tmod ((2 * j + 3 : Nat) : Int) 4) == 3) = true := hb60
  have ehb60 : Int.tmod ((2 * j + 3 : Nat) : Int) 4 = ((2 * j + 3 : Nat) : Int) % 4 := Int.tmod_eq_emod_of_nonneg xq
  have q2hb60 :  j % 2 = 0 := by have h9 := hb60; rw [ehb60] at h9; simp at h9; omega
  refine zzf (zzi 30 (.v (.agg #[.bool y1.s, y1.m.v, .bool y2.s, y2.m.v])) ty160 zze (zzi 31 (.v (.agg #[.bool i53.s, i53.m.v, .bool i55.s, i55.m.v])) ty160 zze (zzg 32 184 [.agg #[.bool y1.s, y1.m.v, .bool y2.s, y2.m.v], .agg #[.bool i53.s, i53.m.v, .bool i55.s, i55.m.v]] ?_)))
  intro w61 u61 e61 d61
  have k68 := k_eSub d61 (f2.ext (e32.trans (g36.ext.trans (e38.trans (g44.ext.trans (e46.trans (g50.ext.trans (e52.trans (g58.ext.trans e61))))))))) (f3.ext (e32.trans (g36.ext.trans (e38.trans (g44.ext.trans (e46.trans (g50.ext.trans (e52.trans (g58.ext.trans e61))))))))) (h54.ext e61) (h56.ext e61) xq xq
  with_reducible refine zPm k68 ?_
  rintro _ u66 g67 ⟨i62, i64, rfl, h63, h65⟩
  refine zzj ⟨160, i62.cs ++ i64.cs⟩ ty160 ?_
  refine zzc 40 [(0, zI n), (4, .adr 4 0), (5, .adr 5 0), (6, .adr 6 0), (7, zI (2 * j + 3 : Nat)), (8, .adr 8 0)] [(4, ⟨160, [.bool false, .slice none 0 0, .bool false, .slice none 0 0]⟩), (5, ⟨160, i39.cs ++ i41.cs⟩), (6, ⟨160, i62.cs ++ i64.cs⟩), (8, ⟨160, i53.cs ++ i55.cs⟩)] (sq9 (zzi 36 (.v (.agg #[.bool i53.s, i53.m.v, .bool i55.s, i55.m.v])) ty160 zze (zzg 37 231 [.agg #[.bool i53.s, i53.m.v, .bool i55.s, i55.m.v]] ?_)))
  intro w69 u69 e69 d69
  have k72 := k_eTiny d69 (h54.ext (e61.trans (g67.ext.trans e69))) (h56.ext (e61.trans (g67.ext.trans e69))) xq
  with_reducible refine zPm k72 ?_
  rintro _ u70 g71 rfl
  refine zzb (zzu (b := decide ((Nt.cdiv (Nt.cdiv b ((n * n : Nat) : Int)) ((2 * j + 3 : Nat) : Int)) ≤ 1)) xk (fun hb73 => ?_) (fun hb73 => ?_))
  ·replace hb73 : (decide ((Nt.cdiv (Nt.cdiv b ((n * n : Nat) : Int)) ((2 * j + 3 : Nat) : Int)) ≤ 1)) = true := hb73
   have qhb73 := of_decide_eq_true hb73
   refine sq9 (zzi 38 (.v (.agg #[.bool i62.s, i62.m.v, .bool i64.s, i64.m.v])) ty160 zze (zzg 39 232 [.agg #[.bool i62.s, i62.m.v, .bool i64.s, i64.m.v]] ?_))
   intro w74 u74 e74 d74
   have k81 := k_eWider d74 (h63.ext (e69.trans (g71.ext.trans e74))) (h65.ext (e69.trans (g71.ext.trans e74))) xq
   with_reducible refine zPm k81 ?_
   rintro _ u79 g80 ⟨i75, i77, rfl, h76, h78⟩
   refine zzj ⟨160, i75.cs ++ i77.cs⟩ ty160 ?_
   refine zzb (zzo (zyu (zzw (zyt (zyu (ret0 [.agg #[.bool i75.s, .slice i75.m.a i75.m.n i75.m.c, .bool i77.s, .slice i77.m.a i77.m.n i77.m.c]] ⟨zzr ty160 zze, trivial⟩ fun u82 e83 => ?_))))))
   have ho := hI.out xq (of_decide_eq_true hb73) (hI.sub xq q2hb60) (by have h9 := hI.tw xq; omega)
   have hob := Nt.atR_bd ho xq
   exact ⟨i75, i77, _, _, rfl, IntN.lim2 (h76.ext e83) xq xq, IntN.lim2 (h78.ext e83) xq xq, ho⟩
  ·replace hb73 : (decide ((Nt.cdiv (Nt.cdiv b ((n * n : Nat) : Int)) ((2 * j + 3 : Nat) : Int)) ≤ 1)) = false := hb73
   have qhb73 := of_decide_eq_false hb73
   refine zzs (zzp ?_)
   refine zzf (zza 15 (zI (2 * j + 3 : Nat)) (zyq 16 (x := zI (IntKind.i64.wrap (((2 * j + 3 : Nat) : Int) + 2))) (zI (((2 * j + 3) + 2 : Nat) : Int)) (eqI xw) (zza 7 (zI (((2 * j + 3) + 2 : Nat) : Int)) (zzx ?_))))
   have hgo := hI.go xq (by have h9 := of_decide_eq_false hb73; omega) (hI.sub xq q2hb60) (by have h9 := hI.tw xq; omega)
   have hb := hgo.1.bd xq
   have hp0 := hgo.1.p0
   have hp1 := hgo.1.p1
   have hple := hgo.1.p.le
   have hpp := hI.p1
   refine ⟨_, ?_, _, by exact zzv _ _ _, j + 1, i39, i41, i62, i64, (a / ((n * n : Nat) : Int)), (Nt.cdiv b ((n * n : Nat) : Int)), (cc - (Nt.cdiv (Nt.cdiv b ((n * n : Nat) : Int)) ((2 * j + 3 : Nat) : Int))), (dd - ((a / ((n * n : Nat) : Int)) / ((2 * j + 3 : Nat) : Int))), rfl, hgo.1, rfl, (e31.trans (e32.trans (g36.ext.trans (e38.trans (g44.ext.trans (e46.trans (g50.ext.trans (e52.trans (g58.ext.trans (e61.trans (g67.ext.trans (e69.trans g71.ext)))))))))))), (IntN.lim (h40.ext (e46.trans (g50.ext.trans (e52.trans (g58.ext.trans (e61.trans (g67.ext.trans (e69.trans g71.ext)))))))) xq xq), (IntN.lim (h42.ext (e46.trans (g50.ext.trans (e52.trans (g58.ext.trans (e61.trans (g67.ext.trans (e69.trans g71.ext)))))))) xq xq), (IntN.lim (h63.ext (e69.trans g71.ext)) xq xq), (IntN.lim (h65.ext (e69.trans g71.ext)) xq xq)⟩
   omega
 ·replace hb60 : ((Int.tmod ((2 * j + 3 : Nat) : Int) 4) == 3) = false := hb60
  have ehb60 : Int.tmod ((2 * j + 3 : Nat) : Int) 4 = ((2 * j + 3 : Nat) : Int) % 4 := Int.tmod_eq_emod_of_nonneg xq
  have q2hb60 : ¬ j % 2 = 0 := by have h9 := hb60; rw [ehb60] at h9; simp at h9; omega
  refine zzf (zzi 33 (.v (.agg #[.bool y1.s, y1.m.v, .bool y2.s, y2.m.v])) ty160 zze (zzi 34 (.v (.agg #[.bool i53.s, i53.m.v, .bool i55.s, i55.m.v])) ty160 zze (zzg 35 230 [.agg #[.bool y1.s, y1.m.v, .bool y2.s, y2.m.v], .agg #[.bool i53.s, i53.m.v, .bool i55.s, i55.m.v]] ?_)))
  intro w84 u84 e84 d84
  have k91 := k_eAdd d84 (f2.ext (e32.trans (g36.ext.trans (e38.trans (g44.ext.trans (e46.trans (g50.ext.trans (e52.trans (g58.ext.trans e84))))))))) (f3.ext (e32.trans (g36.ext.trans (e38.trans (g44.ext.trans (e46.trans (g50.ext.trans (e52.trans (g58.ext.trans e84))))))))) (h54.ext e84) (h56.ext e84) xq xq
  with_reducible refine zPm k91 ?_
  rintro _ u89 g90 ⟨i85, i87, rfl, h86, h88⟩
  refine zzj ⟨160, i85.cs ++ i87.cs⟩ ty160 ?_
  refine zzc 40 [(0, zI n), (4, .adr 4 0), (5, .adr 5 0), (6, .adr 6 0), (7, zI (2 * j + 3 : Nat)), (8, .adr 8 0)] [(4, ⟨160, [.bool false, .slice none 0 0, .bool false, .slice none 0 0]⟩), (5, ⟨160, i39.cs ++ i41.cs⟩), (6, ⟨160, i85.cs ++ i87.cs⟩), (8, ⟨160, i53.cs ++ i55.cs⟩)] (sq9 (zzi 36 (.v (.agg #[.bool i53.s, i53.m.v, .bool i55.s, i55.m.v])) ty160 zze (zzg 37 231 [.agg #[.bool i53.s, i53.m.v, .bool i55.s, i55.m.v]] ?_)))
  intro w92 u92 e92 d92
  have k95 := k_eTiny d92 (h54.ext (e84.trans (g90.ext.trans e92))) (h56.ext (e84.trans (g90.ext.trans e92))) xq
  with_reducible refine zPm k95 ?_
  rintro _ u93 g94 rfl
  refine zzb (zzu (b := decide ((Nt.cdiv (Nt.cdiv b ((n * n : Nat) : Int)) ((2 * j + 3 : Nat) : Int)) ≤ 1)) xk (fun hb96 => ?_) (fun hb96 => ?_))
  ·replace hb96 : (decide ((Nt.cdiv (Nt.cdiv b ((n * n : Nat) : Int)) ((2 * j + 3 : Nat) : Int)) ≤ 1)) = true := hb96
   have qhb96 := of_decide_eq_true hb96
   refine sq9 (zzi 38 (.v (.agg #[.bool i85.s, i85.m.v, .bool i87.s, i87.m.v])) ty160 zze (zzg 39 232 [.agg #[.bool i85.s, i85.m.v, .bool i87.s, i87.m.v]] ?_))
   intro w97 u97 e97 d97
   have k104 := k_eWider d97 (h86.ext (e92.trans (g94.ext.trans e97))) (h88.ext (e92.trans (g94.ext.trans e97))) xq
   with_reducible refine zPm k104 ?_
   rintro _ u102 g103 ⟨i98, i100, rfl, h99, h101⟩
   refine zzj ⟨160, i98.cs ++ i100.cs⟩ ty160 ?_
   refine zzb (zzo (zyu (zzw (zyt (zyu (ret0 [.agg #[.bool i98.s, .slice i98.m.a i98.m.n i98.m.c, .bool i100.s, .slice i100.m.a i100.m.n i100.m.c]] ⟨zzr ty160 zze, trivial⟩ fun u105 e106 => ?_))))))
   have ho := hI.out xq (of_decide_eq_true hb96) (hI.add xq q2hb60) (by have h9 := hI.tw xq; omega)
   have hob := Nt.atR_bd ho xq
   exact ⟨i98, i100, _, _, rfl, IntN.lim2 (h99.ext e106) xq xq, IntN.lim2 (h101.ext e106) xq xq, ho⟩
  ·replace hb96 : (decide ((Nt.cdiv (Nt.cdiv b ((n * n : Nat) : Int)) ((2 * j + 3 : Nat) : Int)) ≤ 1)) = false := hb96
   have qhb96 := of_decide_eq_false hb96
   refine zzs (zzp ?_)
   refine zzf (zza 15 (zI (2 * j + 3 : Nat)) (zyq 16 (x := zI (IntKind.i64.wrap (((2 * j + 3 : Nat) : Int) + 2))) (zI (((2 * j + 3) + 2 : Nat) : Int)) (eqI xw) (zza 7 (zI (((2 * j + 3) + 2 : Nat) : Int)) (zzx ?_))))
   have hgo := hI.go xq (by have h9 := of_decide_eq_false hb96; omega) (hI.add xq q2hb60) (by have h9 := hI.tw xq; omega)
   have hb := hgo.1.bd xq
   have hp0 := hgo.1.p0
   have hp1 := hgo.1.p1
   have hple := hgo.1.p.le
   have hpp := hI.p1
   refine ⟨_, ?_, _, by exact zzv _ _ _, j + 1, i39, i41, i85, i87, (a / ((n * n : Nat) : Int)), (Nt.cdiv b ((n * n : Nat) : Int)), (cc + ((a / ((n * n : Nat) : Int)) / ((2 * j + 3 : Nat) : Int))), (dd + (Nt.cdiv (Nt.cdiv b ((n * n : Nat) : Int)) ((2 * j + 3 : Nat) : Int))), rfl, hgo.1, rfl, (e31.trans (e32.trans (g36.ext.trans (e38.trans (g44.ext.trans (e46.trans (g50.ext.trans (e52.trans (g58.ext.trans (e84.trans (g90.ext.trans (e92.trans g94.ext)))))))))))), (IntN.lim (h40.ext (e46.trans (g50.ext.trans (e52.trans (g58.ext.trans (e84.trans (g90.ext.trans (e92.trans g94.ext)))))))) xq xq), (IntN.lim (h42.ext (e46.trans (g50.ext.trans (e52.trans (g58.ext.trans (e84.trans (g90.ext.trans (e92.trans g94.ext)))))))) xq xq), (IntN.lim (h86.ext (e92.trans g94.ext)) xq xq), (IntN.lim (h88.ext (e92.trans g94.ext)) xq xq)⟩
   omega
set_option maxHeartbeats 1000000 in
theorem k_ePi {u w : World} {k : Nat} (d : Dat u w) (hk0 : 16 ≤ k) (hk : k ≤ 800) : Calls Tryz.prog 102 #[.int .i64 (k : Int)] w (Post u w fun v u' => ∃ (i j : IL) (a b : Int), v = SP i j ∧ IntN u' i a 42 ∧ IntN u' j b 42 ∧ Nt.PiR k a b) := by
 have hbig := Nt.big hk
 have hu2 := Nt.u2_pos k
 refine zzm (args := [.int .i64 k]) Tryz.func102 rfl Tryz.ntmps102 (rs := [.cell 2 160]) Tryz.results102 (le_b rfl) (le_b rfl) d ?_
 refine sq9 (zzk 2 ⟨160, [.bool false, .slice none 0 0, .bool false, .slice none 0 0]⟩ (zzb (sq9 (zza 3 (zI k) (zzg 4 182 [.int .i64 5, .int .i64 k] ?_)))))
 intro w11 u11 e11 d11
 have k15 := k_arctan d11 (n := 5) (k := k) xq xq xq
 with_reducible refine zPm k15 ?_
 rintro _ u13 g14 ⟨si12, sj12, sa12, sb12, rfl, ha12, hb12, hR12⟩
 refine zzg 5 183 [.agg #[.bool si12.s, si12.m.v, .bool sj12.s, sj12.m.v], .int .i64 16] ?_
 intro w16 u16 e16 d16
 have k23 := k_eTimes d16 (ha12.ext e16) (hb12.ext e16) (n9 := 16) xq xq
 with_reducible refine zPm k23 ?_
 rintro _ u21 g22 ⟨i17, i19, rfl, h18, h20⟩
 refine zza 6 (zI k) (zzg 7 182 [.int .i64 239, .int .i64 k] ?_)
 intro w24 u24 e24 d24
 have k28 := k_arctan d24 (n := 239) (k := k) xq xq xq
 with_reducible refine zPm k28 ?_
 rintro _ u26 g27 ⟨si25, sj25, sa25, sb25, rfl, ha25, hb25, hR25⟩
 refine zzg 8 183 [.agg #[.bool si25.s, si25.m.v, .bool sj25.s, sj25.m.v], .int .i64 4] ?_
 intro w29 u29 e29 d29
 have k36 := k_eTimes d29 (ha25.ext e29) (hb25.ext e29) (n9 := 4) xq xq
 with_reducible refine zPm k36 ?_
 rintro _ u34 g35 ⟨i30, i32, rfl, h31, h33⟩
 refine zzg 9 184 [.agg #[.bool i17.s, i17.m.v, .bool i19.s, i19.m.v], .agg #[.bool i30.s, i30.m.v, .bool i32.s, i32.m.v]] ?_
 intro w37 u37 e37 d37
 have k44 := k_eSub d37 (h18.ext (e24.trans (g27.ext.trans (e29.trans (g35.ext.trans e37))))) (h20.ext (e24.trans (g27.ext.trans (e29.trans (g35.ext.trans e37))))) (h31.ext e37) (h33.ext e37) xq xq
 with_reducible refine zPm k44 ?_
 rintro _ u42 g43 ⟨i38, i40, rfl, h39, h41⟩
 refine zzj ⟨160, i38.cs ++ i40.cs⟩ ty160 ?_
 refine zzb (zzo (ret0 [.agg #[.bool i38.s, .slice i38.m.a i38.m.n i38.m.c, .bool i40.s, .slice i40.m.a i40.m.n i40.m.c]] ⟨zzr ty160 zze, trivial⟩ fun u45 e46 => ?_))
 have hP := Nt.PiR.of hR12 hR25
 have hb9 := hP.bd hk0
 exact ⟨i38, i40, _, _, rfl, IntN.lim2 (h39.ext e46) xq xq, IntN.lim2 (h41.ext e46) xq xq, hP⟩
set_option maxHeartbeats 4000000 in
theorem k_cosineOf {u w : World} {p q k : Nat} (d : Dat u w) (hq0 : 0 < q) (hq : q ≤ 100000) (hp : 2 * p ≤ q) (hp1 : 1 ≤ p) (hk0 : 16 ≤ k) (hk : k ≤ 800) : Calls Tryz.prog 179 #[.int .i64 (p : Int), .int .i64 (q : Int), .int .i64 (k : Int)] w (Post u w fun v u' => ∃ (i j : IL) (a b : Int), v = SP i j ∧ IntN u' i a 42 ∧ IntN u' j b 42 ∧ Nt.CsR p q k a b) := by
 have hbig := Nt.big hk
 have hu2 := Nt.u2_pos k
 refine zzm (args := [.int .i64 p, .int .i64 q, .int .i64 k]) Tryz.func179 rfl Tryz.ntmps179 (rs := [.cell 6 160]) Tryz.results179 (le_b rfl) (le_b rfl) d ?_
 refine sq9 (zzk 6 ⟨160, [.bool false, .slice none 0 0, .bool false, .slice none 0 0]⟩ (zzb (sq9 (zza 12 (zI k) (zzg 13 102 [.int .i64 k] ?_)))))
 intro w11 u11 e11 d11
 have k15 := k_ePi d11 (k := k) xq xq
 with_reducible refine zPm k15 ?_
 rintro _ u13 g14 ⟨si12, sj12, sa12, sb12, rfl, ha12, hb12, hR12⟩
 refine zza 14 (zI p) (zzg 15 183 [.agg #[.bool si12.s, si12.m.v, .bool sj12.s, sj12.m.v], .int .i64 p] ?_)
 intro w16 u16 e16 d16
 have k23 := k_eTimes d16 (ha12.ext e16) (hb12.ext e16) (n9 := p) xq xq
 with_reducible refine zPm k23 ?_
 rintro _ u21 g22 ⟨i17, i19, rfl, h18, h20⟩
 refine zza 16 (zI q) (zzg 17 160 [.int .i64 q] ?_)
 intro w24 u24 e24 d24
 have k29 := k_intOf d24 (z := (q : Int)) xq xq
 with_reducible refine zPm k29 ?_
 rintro _ u27 g28 ⟨i25, rfl, h26⟩
 refine zzg 18 228 [.agg #[.bool i17.s, i17.m.v, .bool i19.s, i19.m.v], i25.v] ?_
 intro w30 u30 e30 d30
 have k37 := k_eOver d30 (h18.ext (e24.trans (g28.ext.trans e30))) (h20.ext (e24.trans (g28.ext.trans e30))) (h26.ext e30) xq xq xq
 with_reducible refine zPm k37 ?_
 rintro _ u35 g36 ⟨i31, i33, rfl, h32, h34⟩
 refine zzk 7 ⟨160, [.bool false, .slice none 0 0, .bool false, .slice none 0 0]⟩ (zzj ⟨160, i31.cs ++ i33.cs⟩ ty160 ?_)
 refine zzb (zzd ?_)
 have hY : Nt.CsY p q k ((sa12 * ((p : Nat) : Int)) / (q : Int)) (Nt.cdiv (sb12 * ((p : Nat) : Int)) (q : Int)) := Nt.CsY.of hR12 hk0 hq0 hp hp1
 refine zzf (zzi 19 (.v (.agg #[.bool i31.s, i31.m.v, .bool i33.s, i33.m.v])) ty160 zze (zzi 20 (.v (.agg #[.bool i31.s, i31.m.v, .bool i33.s, i33.m.v])) ty160 zze (zza 21 (zI k) (zzg 22 229 [.agg #[.bool i31.s, i31.m.v, .bool i33.s, i33.m.v], .agg #[.bool i31.s, i31.m.v, .bool i33.s, i33.m.v], .int .i64 k] ?_))))
 intro w38 u38 e38 d38
 have k45 := k_eProd (p := k) d38 (h32.ext e38) (h34.ext e38) (h32.ext e38) (h34.ext e38) xq xq xq
 with_reducible refine zPm k45 ?_
 rintro _ u43 g44 ⟨i39, i41, rfl, h40, h42⟩
 refine zzk 8 ⟨160, [.bool false, .slice none 0 0, .bool false, .slice none 0 0]⟩ (zzj ⟨160, i39.cs ++ i41.cs⟩ ty160 ?_)
 refine zzb (zzd ?_)
 have hQ : Nt.CsQ p q k (((sa12 * ((p : Nat) : Int)) / (q : Int)) * ((sa12 * ((p : Nat) : Int)) / (q : Int)) / Nt.u2 k) (Nt.cdiv ((Nt.cdiv (sb12 * ((p : Nat) : Int)) (q : Int)) * (Nt.cdiv (sb12 * ((p : Nat) : Int)) (q : Int))) (Nt.u2 k)) := Nt.CsQ.of hY
 obtain ⟨_, hQ2, hQ3, hQ4, hQ5, hQ6⟩ := id hQ
 obtain ⟨ql, hql⟩ : ∃ z : Int, (((sa12 * ((p : Nat) : Int)) / (q : Int)) * ((sa12 * ((p : Nat) : Int)) / (q : Int)) / Nt.u2 k) = z := ⟨_, rfl⟩
 obtain ⟨qh, hqh⟩ : ∃ z : Int, (Nt.cdiv ((Nt.cdiv (sb12 * ((p : Nat) : Int)) (q : Int)) * (Nt.cdiv (sb12 * ((p : Nat) : Int)) (q : Int))) (Nt.u2 k)) = z := ⟨_, rfl⟩
 have hs46 := h40
 have hs47 := h42
 rw [hql] at hQ hQ2 hQ3 hQ5 hs46
 rw [hqh] at hQ hQ2 hQ4 hQ5 hQ6 hs47
 have hs48 := IntN.lim2 hs46 xq xq
 have hs49 := IntN.lim2 hs47 xq xq
 refine zzf (zza 23 (zI k) (zzg 24 161 [.int .i64 k] ?_))
 intro w50 u50 e50 d50
 have k55 := k_eUnit (k := k) d50 xq
 with_reducible refine zPm k55 ?_
 rintro _ u53 g54 ⟨i51, rfl, h52⟩
 refine zzk 9 ⟨160, [.bool false, .slice none 0 0, .bool false, .slice none 0 0]⟩ (zzj ⟨160, i51.cs ++ i51.cs⟩ ty160 ?_)
 refine zzb (sq9 (zzi 25 (.v (.agg #[.bool i51.s, i51.m.v, .bool i51.s, i51.m.v])) ty160 zze (zzk 10 ⟨160, [.bool false, .slice none 0 0, .bool false, .slice none 0 0]⟩ (zzj ⟨160, i51.cs ++ i51.cs⟩ ty160 ?_))))
 refine zzb (sq9 (zza 11 (zI 2) (zzb (zzt (zyn (I := fun m56 S' u' => ∃ (j : Nat) (x1 : IL) (x2 : IL) (y1 : IL) (y2 : IL) (tl : Int) (th : Int) (sl : Int) (sh : Int), (m56 = Nt.csM k j th) ∧ (Nt.CsI p q k j tl th sl sh) ∧ (S' = St.of 55 [(2, zI k), (6, .adr 6 0), (8, .adr 8 0), (9, .adr 9 0), (10, .adr 10 0), (11, zI (2 * j + 2 : Nat))] [(6, ⟨160, [.bool false, .slice none 0 0, .bool false, .slice none 0 0]⟩), (8, ⟨160, i39.cs ++ i41.cs⟩), (9, ⟨160, x1.cs ++ x2.cs⟩), (10, ⟨160, y1.cs ++ y2.cs⟩)]) ∧ (Ext u53 u') ∧ (IntN u' x1 tl 42) ∧ (IntN u' x2 th 42) ∧ (IntN u' y1 sl 42) ∧ (IntN u' y2 sh 42)) (fun m S u1 u2 e h => by obtain ⟨j, x1, x2, y1, y2, tl, th, sl, sh, hm, p0, hS, hE, f0, f1, f2, f3⟩ := h; exact ⟨j, x1, x2, y1, y2, tl, th, sl, sh, hm, p0, hS, hE.trans e, f0.ext e, f1.ext e, f2.ext e, f3.ext e⟩) _ yw ⟨0, i51, i51, i51, i51, (Nt.u2 k), (Nt.u2 k), (Nt.u2 k), (Nt.u2 k), rfl, Nt.CsI.start, rfl, (Ext.refl _), (IntN.lim2 h52 xq xq), (IntN.lim2 h52 xq xq), (IntN.lim2 h52 xq xq), (IntN.lim2 h52 xq xq)⟩ ?_)))))
 rintro m56 _ u56 ⟨j, x1, x2, y1, y2, tl, th, sl, sh, hm56, hI, rfl, e56, f0, f1, f2, f3⟩
 have hjw := hI.c.jw
 have hD1 := Nt.coD_pos j
 have hD2 := Nt.coD_mul (j := j) xq
 refine zzd (zzt (sq9 (zzi 28 (.v (.agg #[.bool x1.s, x1.m.v, .bool x2.s, x2.m.v])) ty160 zze (zzi 29 (.v (.agg #[.bool i39.s, i39.m.v, .bool i41.s, i41.m.v])) ty160 zze (zza 30 (zI k) (zzg 31 229 [.agg #[.bool x1.s, x1.m.v, .bool x2.s, x2.m.v], .agg #[.bool i39.s, i39.m.v, .bool i41.s, i41.m.v], .int .i64 k] ?_))))))
 intro w57 u57 e57 d57
 have k64 := k_eProd (p := k) d57 (f0.ext e57) (f1.ext e57) (hs48.ext (e50.trans (g54.ext.trans (e56.trans e57)))) (hs49.ext (e50.trans (g54.ext.trans (e56.trans e57)))) xq xq xq
 with_reducible refine zPm k64 ?_
 rintro _ u62 g63 ⟨i58, i60, rfl, h59, h61⟩
 refine zza 32 (zI (2 * j + 2 : Nat)) (zza 33 (zI (2 * j + 2 : Nat)) (zyq 34 (x := zI (IntKind.i64.wrap (((2 * j + 2 : Nat) : Int) - 1))) (zI (((2 * j + 2) - 1 : Nat) : Int)) (eqI xw) (zyq 35 (x := zI (IntKind.i64.wrap (((2 * j + 2 : Nat) : Int) * ((2 * j + 2 - 1 : Nat) : Int)))) (zI (Nt.coD j)) (by rw [show (IntKind.i64.wrap (((2 * j + 2 : Nat) : Int) * ((2 * j + 2 - 1 : Nat) : Int))) = (Nt.coD j) from hD2.1]) (zzg 36 160 [.int .i64 (Nt.coD j)] ?_))))
 intro w65 u65 e65 d65
 have k70 := k_intOf d65 (z := (Nt.coD j)) xq xq
 with_reducible refine zPm k70 ?_
 rintro _ u68 g69 ⟨i66, rfl, h67⟩
 refine zzg 37 228 [.agg #[.bool i58.s, i58.m.v, .bool i60.s, i60.m.v], i66.v] ?_
 intro w71 u71 e71 d71
 have k78 := k_eOver d71 (h59.ext (e65.trans (g69.ext.trans e71))) (h61.ext (e65.trans (g69.ext.trans e71))) (h67.ext e71) xq xq xq
 with_reducible refine zPm k78 ?_
 rintro _ u76 g77 ⟨i72, i74, rfl, h73, h75⟩
 refine zzj ⟨160, i72.cs ++ i74.cs⟩ ty160 ?_
 refine zzc 55 [(2, zI k), (6, .adr 6 0), (8, .adr 8 0), (9, .adr 9 0), (10, .adr 10 0), (11, zI (2 * j + 2 : Nat))] [(6, ⟨160, [.bool false, .slice none 0 0, .bool false, .slice none 0 0]⟩), (8, ⟨160, i39.cs ++ i41.cs⟩), (9, ⟨160, i72.cs ++ i74.cs⟩), (10, ⟨160, y1.cs ++ y2.cs⟩)] (zzd (sq9 (zza 38 (zI (2 * j + 2 : Nat)) (zza 39 (zI (Int.tmod ((2 * j + 2 : Nat) : Int) 4)) (zza 40 (zB ((Int.tmod ((2 * j + 2 : Nat) : Int) 4) == 2)) (zzb (zzu (b := (Int.tmod ((2 * j + 2 : Nat) : Int) 4) == 2) xk (fun hb79 => ?_) (fun hb79 => ?_))))))))
 ·replace hb79 : ((Int.tmod ((2 * j + 2 : Nat) : Int) 4) == 2) = true := hb79
  have ehb79 : Int.tmod ((2 * j + 2 : Nat) : Int) 4 = ((2 * j + 2 : Nat) : Int) % 4 := Int.tmod_eq_emod_of_nonneg xq
  have q2hb79 :  j % 2 = 0 := by have h9 := hb79; rw [ehb79] at h9; simp at h9; omega
  refine zzf (zzi 41 (.v (.agg #[.bool y1.s, y1.m.v, .bool y2.s, y2.m.v])) ty160 zze (zzi 42 (.v (.agg #[.bool i72.s, i72.m.v, .bool i74.s, i74.m.v])) ty160 zze (zzg 43 184 [.agg #[.bool y1.s, y1.m.v, .bool y2.s, y2.m.v], .agg #[.bool i72.s, i72.m.v, .bool i74.s, i74.m.v]] ?_)))
  intro w80 u80 e80 d80
  have k87 := k_eSub d80 (f2.ext (e57.trans (g63.ext.trans (e65.trans (g69.ext.trans (e71.trans (g77.ext.trans e80))))))) (f3.ext (e57.trans (g63.ext.trans (e65.trans (g69.ext.trans (e71.trans (g77.ext.trans e80))))))) (h73.ext e80) (h75.ext e80) xq xq
  with_reducible refine zPm k87 ?_
  rintro _ u85 g86 ⟨i81, i83, rfl, h82, h84⟩
  refine zzj ⟨160, i81.cs ++ i83.cs⟩ ty160 ?_
  refine zzb (sq9 (zza 47 (zI (2 * j + 2 : Nat)) (zza 48 (zB (decide ((4 : Int) ≤ ((2 * j + 2 : Nat) : Int)))) ?_)))
  rcases Bool.eq_false_or_eq_true (decide ((4 : Int) ≤ ((2 * j + 2 : Nat) : Int))) with hs88 | hs88
  ·refine zyq 49 (x := zB (decide ((4 : Int) ≤ ((2 * j + 2 : Nat) : Int)))) (zB true) (by rw [hs88]) ?_
   have qhs88 := of_decide_eq_true hs88
   refine zzi 50 (.v (.agg #[.bool i72.s, i72.m.v, .bool i74.s, i74.m.v])) ty160 zze ?_ (hw := w1 2 true 49)
   refine zzg 51 231 [.agg #[.bool i72.s, i72.m.v, .bool i74.s, i74.m.v]] ?_ (hw := w1 2 true 49)
   intro w89 u89 e89 d89
   have k92 := k_eTiny d89 (h73.ext (e80.trans (g86.ext.trans e89))) (h75.ext (e80.trans (g86.ext.trans e89))) xq
   with_reducible refine zPm k92 ?_
   rintro _ u90 g91 rfl
   refine zza 52 (zB (decide ((Nt.cdiv (Nt.cdiv (th * qh) (Nt.u2 k)) (Nt.coD j)) ≤ 1))) (zzb (zzu (b := decide ((Nt.cdiv (Nt.cdiv (th * qh) (Nt.u2 k)) (Nt.coD j)) ≤ 1)) xk (fun hb93 => ?_) (fun hb93 => ?_)))
   ·replace hb93 : (decide ((Nt.cdiv (Nt.cdiv (th * qh) (Nt.u2 k)) (Nt.coD j)) ≤ 1)) = true := hb93
    have qhb93 := of_decide_eq_true hb93
    refine sq9 (zzi 53 (.v (.agg #[.bool i81.s, i81.m.v, .bool i83.s, i83.m.v])) ty160 zze (zzg 54 232 [.agg #[.bool i81.s, i81.m.v, .bool i83.s, i83.m.v]] ?_))
    intro w94 u94 e94 d94
    have k101 := k_eWider d94 (h82.ext (e89.trans (g91.ext.trans e94))) (h84.ext (e89.trans (g91.ext.trans e94))) xq
    with_reducible refine zPm k101 ?_
    rintro _ u99 g100 ⟨i95, i97, rfl, h96, h98⟩
    refine zzj ⟨160, i95.cs ++ i97.cs⟩ ty160 ?_
    refine zzb (zzo (zyu (zzw (zyt (zyu (ret0 [.agg #[.bool i95.s, .slice i95.m.a i95.m.n i95.m.c, .bool i97.s, .slice i97.m.a i97.m.n i97.m.c]] ⟨zzr ty160 zze, trivial⟩ fun u102 e103 => ?_))))))
    have ho := hI.out hQ hq0 hp (by have h9 := of_decide_eq_true hs88; omega) (of_decide_eq_true hb93) (sl' := (sl - (Nt.cdiv (Nt.cdiv (th * qh) (Nt.u2 k)) (Nt.coD j)))) (sh' := (sh - ((tl * ql / Nt.u2 k) / (Nt.coD j)))) (.inl ⟨q2hb79, rfl, rfl⟩)
    have hob := Nt.csR_bd ho hq0 hp hk
    exact ⟨i95, i97, _, _, rfl, IntN.lim2 (h96.ext e103) xq xq, IntN.lim2 (h98.ext e103) xq xq, ho⟩
   ·replace hb93 : (decide ((Nt.cdiv (Nt.cdiv (th * qh) (Nt.u2 k)) (Nt.coD j)) ≤ 1)) = false := hb93
    have qhb93 := of_decide_eq_false hb93
    refine zzs (zzp ?_)
    refine zzf (zza 26 (zI (2 * j + 2 : Nat)) (zyq 27 (x := zI (IntKind.i64.wrap (((2 * j + 2 : Nat) : Int) + 2))) (zI (((2 * j + 2) + 2 : Nat) : Int)) (eqI xw) (zza 11 (zI (((2 * j + 2) + 2 : Nat) : Int)) (zzx ?_))))
    have hgo := hI.go hQ (.inr (by have h9 : ¬ Nt.csH k j th qh ≤ 1 := of_decide_eq_false hb93; omega)) (sl' := (sl - (Nt.cdiv (Nt.cdiv (th * qh) (Nt.u2 k)) (Nt.coD j)))) (sh' := (sh - ((tl * ql / Nt.u2 k) / (Nt.coD j)))) (.inl ⟨q2hb79, rfl, rfl⟩)
    have hb9 := hgo.1.bd hq0 hp
    have hw9 := Nt.csW_le hk
    have ht0 := hgo.1.c.t0
    have ht1 := hgo.1.c.t1
    have htt := hgo.1.c.tt
    have ht2 := hgo.1.c.t2
    have hmm := hgo.2
    simp only [Nt.csL, Nt.csH] at ht0 ht1 htt ht2 hmm
    refine ⟨_, ?_, _, by exact zzv _ _ _, j + 1, i72, i74, i81, i83, ((tl * ql / Nt.u2 k) / (Nt.coD j)), (Nt.cdiv (Nt.cdiv (th * qh) (Nt.u2 k)) (Nt.coD j)), (sl - (Nt.cdiv (Nt.cdiv (th * qh) (Nt.u2 k)) (Nt.coD j))), (sh - ((tl * ql / Nt.u2 k) / (Nt.coD j))), rfl, hgo.1, rfl, (e56.trans (e57.trans (g63.ext.trans (e65.trans (g69.ext.trans (e71.trans (g77.ext.trans (e80.trans (g86.ext.trans (e89.trans g91.ext)))))))))), (IntN.lim2 (h73.ext (e80.trans (g86.ext.trans (e89.trans g91.ext)))) xq xq), (IntN.lim2 (h75.ext (e80.trans (g86.ext.trans (e89.trans g91.ext)))) xq xq), (IntN.lim2 (h82.ext (e89.trans g91.ext)) xq xq), (IntN.lim2 (h84.ext (e89.trans g91.ext)) xq xq)⟩
    omega
  ·refine zyq 49 (x := zB (decide ((4 : Int) ≤ ((2 * j + 2 : Nat) : Int)))) (zB false) (by rw [hs88]) ?_
   have qhs88 := of_decide_eq_false hs88
   refine zzn 50 (uw 2 true false 49) (zzn 51 (uw 2 true false 49) (zza 52 (zB false) (zzb (zys xk (zzs (zzp ?_))))))
   refine zzf (zza 26 (zI (2 * j + 2 : Nat)) (zyq 27 (x := zI (IntKind.i64.wrap (((2 * j + 2 : Nat) : Int) + 2))) (zI (((2 * j + 2) + 2 : Nat) : Int)) (eqI xw) (zza 11 (zI (((2 * j + 2) + 2 : Nat) : Int)) (zzx ?_))))
   have hgo := hI.go hQ (.inl (by have h9 := of_decide_eq_false hs88; omega)) (sl' := (sl - (Nt.cdiv (Nt.cdiv (th * qh) (Nt.u2 k)) (Nt.coD j)))) (sh' := (sh - ((tl * ql / Nt.u2 k) / (Nt.coD j)))) (.inl ⟨q2hb79, rfl, rfl⟩)
   have hb9 := hgo.1.bd hq0 hp
   have hw9 := Nt.csW_le hk
   have ht0 := hgo.1.c.t0
   have ht1 := hgo.1.c.t1
   have htt := hgo.1.c.tt
   have ht2 := hgo.1.c.t2
   have hmm := hgo.2
   simp only [Nt.csL, Nt.csH] at ht0 ht1 htt ht2 hmm
   refine ⟨_, ?_, _, by exact zzv _ _ _, j + 1, i72, i74, i81, i83, ((tl * ql / Nt.u2 k) / (Nt.coD j)), (Nt.cdiv (Nt.cdiv (th * qh) (Nt.u2 k)) (Nt.coD j)), (sl - (Nt.cdiv (Nt.cdiv (th * qh) (Nt.u2 k)) (Nt.coD j))), (sh - ((tl * ql / Nt.u2 k) / (Nt.coD j))), rfl, hgo.1, rfl, (e56.trans (e57.trans (g63.ext.trans (e65.trans (g69.ext.trans (e71.trans (g77.ext.trans (e80.trans g86.ext)))))))), (IntN.lim2 (h73.ext (e80.trans g86.ext)) xq xq), (IntN.lim2 (h75.ext (e80.trans g86.ext)) xq xq), (IntN.lim2 h82 xq xq), (IntN.lim2 h84 xq xq)⟩
   omega
 ·replace hb79 : ((Int.tmod ((2 * j + 2 : Nat) : Int) 4) == 2) = false := hb79
  have ehb79 : Int.tmod ((2 * j + 2 : Nat) : Int) 4 = ((2 * j + 2 : Nat) : Int) % 4 := Int.tmod_eq_emod_of_nonneg xq
  have q2hb79 : ¬ j % 2 = 0 := by have h9 := hb79; rw [ehb79] at h9; simp at h9; omega
  refine zzf (zzi 44 (.v (.agg #[.bool y1.s, y1.m.v, .bool y2.s, y2.m.v])) ty160 zze (zzi 45 (.v (.agg #[.bool i72.s, i72.m.v, .bool i74.s, i74.m.v])) ty160 zze (zzg 46 230 [.agg #[.bool y1.s, y1.m.v, .bool y2.s, y2.m.v], .agg #[.bool i72.s, i72.m.v, .bool i74.s, i74.m.v]] ?_)))
  intro w104 u104 e104 d104
  have k111 := k_eAdd d104 (f2.ext (e57.trans (g63.ext.trans (e65.trans (g69.ext.trans (e71.trans (g77.ext.trans e104))))))) (f3.ext (e57.trans (g63.ext.trans (e65.trans (g69.ext.trans (e71.trans (g77.ext.trans e104))))))) (h73.ext e104) (h75.ext e104) xq xq
  with_reducible refine zPm k111 ?_
  rintro _ u109 g110 ⟨i105, i107, rfl, h106, h108⟩
  refine zzj ⟨160, i105.cs ++ i107.cs⟩ ty160 ?_
  refine zzb (sq9 (zza 47 (zI (2 * j + 2 : Nat)) (zza 48 (zB (decide ((4 : Int) ≤ ((2 * j + 2 : Nat) : Int)))) ?_)))
  rcases Bool.eq_false_or_eq_true (decide ((4 : Int) ≤ ((2 * j + 2 : Nat) : Int))) with hs112 | hs112
  ·refine zyq 49 (x := zB (decide ((4 : Int) ≤ ((2 * j + 2 : Nat) : Int)))) (zB true) (by rw [hs112]) ?_
   have qhs112 := of_decide_eq_true hs112
   refine zzi 50 (.v (.agg #[.bool i72.s, i72.m.v, .bool i74.s, i74.m.v])) ty160 zze ?_ (hw := w1 2 true 49)
   refine zzg 51 231 [.agg #[.bool i72.s, i72.m.v, .bool i74.s, i74.m.v]] ?_ (hw := w1 2 true 49)
   intro w113 u113 e113 d113
   have k116 := k_eTiny d113 (h73.ext (e104.trans (g110.ext.trans e113))) (h75.ext (e104.trans (g110.ext.trans e113))) xq
   with_reducible refine zPm k116 ?_
   rintro _ u114 g115 rfl
   refine zza 52 (zB (decide ((Nt.cdiv (Nt.cdiv (th * qh) (Nt.u2 k)) (Nt.coD j)) ≤ 1))) (zzb (zzu (b := decide ((Nt.cdiv (Nt.cdiv (th * qh) (Nt.u2 k)) (Nt.coD j)) ≤ 1)) xk (fun hb117 => ?_) (fun hb117 => ?_)))
   ·replace hb117 : (decide ((Nt.cdiv (Nt.cdiv (th * qh) (Nt.u2 k)) (Nt.coD j)) ≤ 1)) = true := hb117
    have qhb117 := of_decide_eq_true hb117
    refine sq9 (zzi 53 (.v (.agg #[.bool i105.s, i105.m.v, .bool i107.s, i107.m.v])) ty160 zze (zzg 54 232 [.agg #[.bool i105.s, i105.m.v, .bool i107.s, i107.m.v]] ?_))
    intro w118 u118 e118 d118
    have k125 := k_eWider d118 (h106.ext (e113.trans (g115.ext.trans e118))) (h108.ext (e113.trans (g115.ext.trans e118))) xq
    with_reducible refine zPm k125 ?_
    rintro _ u123 g124 ⟨i119, i121, rfl, h120, h122⟩
    refine zzj ⟨160, i119.cs ++ i121.cs⟩ ty160 ?_
    refine zzb (zzo (zyu (zzw (zyt (zyu (ret0 [.agg #[.bool i119.s, .slice i119.m.a i119.m.n i119.m.c, .bool i121.s, .slice i121.m.a i121.m.n i121.m.c]] ⟨zzr ty160 zze, trivial⟩ fun u126 e127 => ?_))))))
    have ho := hI.out hQ hq0 hp (by have h9 := of_decide_eq_true hs112; omega) (of_decide_eq_true hb117) (sl' := (sl + ((tl * ql / Nt.u2 k) / (Nt.coD j)))) (sh' := (sh + (Nt.cdiv (Nt.cdiv (th * qh) (Nt.u2 k)) (Nt.coD j)))) (.inr ⟨q2hb79, rfl, rfl⟩)
    have hob := Nt.csR_bd ho hq0 hp hk
    exact ⟨i119, i121, _, _, rfl, IntN.lim2 (h120.ext e127) xq xq, IntN.lim2 (h122.ext e127) xq xq, ho⟩
   ·replace hb117 : (decide ((Nt.cdiv (Nt.cdiv (th * qh) (Nt.u2 k)) (Nt.coD j)) ≤ 1)) = false := hb117
    have qhb117 := of_decide_eq_false hb117
    refine zzs (zzp ?_)
    refine zzf (zza 26 (zI (2 * j + 2 : Nat)) (zyq 27 (x := zI (IntKind.i64.wrap (((2 * j + 2 : Nat) : Int) + 2))) (zI (((2 * j + 2) + 2 : Nat) : Int)) (eqI xw) (zza 11 (zI (((2 * j + 2) + 2 : Nat) : Int)) (zzx ?_))))
    have hgo := hI.go hQ (.inr (by have h9 : ¬ Nt.csH k j th qh ≤ 1 := of_decide_eq_false hb117; omega)) (sl' := (sl + ((tl * ql / Nt.u2 k) / (Nt.coD j)))) (sh' := (sh + (Nt.cdiv (Nt.cdiv (th * qh) (Nt.u2 k)) (Nt.coD j)))) (.inr ⟨q2hb79, rfl, rfl⟩)
    have hb9 := hgo.1.bd hq0 hp
    have hw9 := Nt.csW_le hk
    have ht0 := hgo.1.c.t0
    have ht1 := hgo.1.c.t1
    have htt := hgo.1.c.tt
    have ht2 := hgo.1.c.t2
    have hmm := hgo.2
    simp only [Nt.csL, Nt.csH] at ht0 ht1 htt ht2 hmm
    refine ⟨_, ?_, _, by exact zzv _ _ _, j + 1, i72, i74, i105, i107, ((tl * ql / Nt.u2 k) / (Nt.coD j)), (Nt.cdiv (Nt.cdiv (th * qh) (Nt.u2 k)) (Nt.coD j)), (sl + ((tl * ql / Nt.u2 k) / (Nt.coD j))), (sh + (Nt.cdiv (Nt.cdiv (th * qh) (Nt.u2 k)) (Nt.coD j))), rfl, hgo.1, rfl, (e56.trans (e57.trans (g63.ext.trans (e65.trans (g69.ext.trans (e71.trans (g77.ext.trans (e104.trans (g110.ext.trans (e113.trans g115.ext)))))))))), (IntN.lim2 (h73.ext (e104.trans (g110.ext.trans (e113.trans g115.ext)))) xq xq), (IntN.lim2 (h75.ext (e104.trans (g110.ext.trans (e113.trans g115.ext)))) xq xq), (IntN.lim2 (h106.ext (e113.trans g115.ext)) xq xq), (IntN.lim2 (h108.ext (e113.trans g115.ext)) xq xq)⟩
    omega
  ·refine zyq 49 (x := zB (decide ((4 : Int) ≤ ((2 * j + 2 : Nat) : Int)))) (zB false) (by rw [hs112]) ?_
   have qhs112 := of_decide_eq_false hs112
   refine zzn 50 (uw 2 true false 49) (zzn 51 (uw 2 true false 49) (zza 52 (zB false) (zzb (zys xk (zzs (zzp ?_))))))
   refine zzf (zza 26 (zI (2 * j + 2 : Nat)) (zyq 27 (x := zI (IntKind.i64.wrap (((2 * j + 2 : Nat) : Int) + 2))) (zI (((2 * j + 2) + 2 : Nat) : Int)) (eqI xw) (zza 11 (zI (((2 * j + 2) + 2 : Nat) : Int)) (zzx ?_))))
   have hgo := hI.go hQ (.inl (by have h9 := of_decide_eq_false hs112; omega)) (sl' := (sl + ((tl * ql / Nt.u2 k) / (Nt.coD j)))) (sh' := (sh + (Nt.cdiv (Nt.cdiv (th * qh) (Nt.u2 k)) (Nt.coD j)))) (.inr ⟨q2hb79, rfl, rfl⟩)
   have hb9 := hgo.1.bd hq0 hp
   have hw9 := Nt.csW_le hk
   have ht0 := hgo.1.c.t0
   have ht1 := hgo.1.c.t1
   have htt := hgo.1.c.tt
   have ht2 := hgo.1.c.t2
   have hmm := hgo.2
   simp only [Nt.csL, Nt.csH] at ht0 ht1 htt ht2 hmm
   refine ⟨_, ?_, _, by exact zzv _ _ _, j + 1, i72, i74, i105, i107, ((tl * ql / Nt.u2 k) / (Nt.coD j)), (Nt.cdiv (Nt.cdiv (th * qh) (Nt.u2 k)) (Nt.coD j)), (sl + ((tl * ql / Nt.u2 k) / (Nt.coD j))), (sh + (Nt.cdiv (Nt.cdiv (th * qh) (Nt.u2 k)) (Nt.coD j))), rfl, hgo.1, rfl, (e56.trans (e57.trans (g63.ext.trans (e65.trans (g69.ext.trans (e71.trans (g77.ext.trans (e104.trans g110.ext)))))))), (IntN.lim2 (h73.ext (e104.trans g110.ext)) xq xq), (IntN.lim2 (h75.ext (e104.trans g110.ext)) xq xq), (IntN.lim2 h106 xq xq), (IntN.lim2 h108 xq xq)⟩
   omega
section
variable (P : Program) (w0 : Base) (u0 : World)
def MP.into (I : Nat → St → World → Prop) (Q : MP) (hI : ∀ m, Mono (I m)) : MP where
 f e S u := match e with | .normal => ∃ m T, Weak S T ∧ I m T u | .goto _ => False | e => Q.f e S u
 mono e := by
  cases e <;> first | exact Q.mono _ | skip
  ·rintro S u u' he ⟨m, T, h1, h2⟩
   exact ⟨m, T, h1, hI m T u u' he h2⟩
  ·exact fun S u u' he h => h
def MP.jump (l : Nat) (I : Nat → St → World → Prop) (n : Nat) (Q : MP) (hI : ∀ m, Mono (I m)) : MP where
 f e S u := match e with | .goto l' => l' = l ∧ ∃ m, m < n ∧ ∃ T, Weak S T ∧ I m T u | e => Q.f e S u
 mono e := by
  cases e <;> first | exact Q.mono _ | skip
  rintro S u u' he ⟨hl, m, hm, T, h1, h2⟩
  exact ⟨hl, m, hm, T, h1, hI m T u u' he h2⟩
end
section
variable {P : Program} {w0 : Base} {u0 : World} {S T : St} {B : Tmp → Nat} {a : Act} {w u u' : World} {Q : MP} {c d A R : Code}
theorem sw_goto {l : Nat} (h : Q.f (.goto l) S u) : SW P w0 u0 (.goto l) S u Q := fun B a w u' e hr => wp_goto ⟨S, B, u', hr, Q.mono _ _ _ _ e h⟩
theorem mpg_seq {l : Nat} {c : Code} {Q : MP} (h : Q.f (.goto l) S u) : (MP.seq P w0 u0 c Q).f (.goto l) S u := h
theorem mpg_jump {l n m : Nat} {I : Nat → St → World → Prop} {Q : MP} {hI : ∀ m, Mono (I m)} (hm : m < n) (hw : Weak S T) (h : I m T u) : (MP.jump l I n Q hI).f (.goto l) S u := ⟨rfl, m, hm, T, hw, h⟩
theorem mpr_jump {l n : Nat} {I : Nat → St → World → Prop} {Q : MP} {hI : ∀ m, Mono (I m)} (h : Q.f .ret S u) : (MP.jump l I n Q hI).f .ret S u := h
theorem mpi_into {m : Nat} {I : Nat → St → World → Prop} {Q : MP} {hI : ∀ m, Mono (I m)} (hw : Weak S T) (h : I m T u) : (MP.into I Q hI).f .normal S u := ⟨m, T, hw, h⟩
theorem sw_scope {l : Nat} {I : Nat → St → World → Prop} (hI : ∀ m, Mono (I m)) (hf : findLabel (.seq A (.seq (.label l) R)) l = some (.seq .skip R)) (hA : SW P w0 u0 A S u (MP.into I Q hI)) (h : ∀ n S u, I n S u → SW P w0 u0 R S u (MP.jump l I n Q hI)) : SW P w0 u0 (.scope (.seq A (.seq (.label l) R))) S u Q := by
 intro B a w u' e hr
 let J : Nat → Act → World → Prop := fun n a w => ∃ S B u'', Rep w0 u0 S B a w u'' ∧ I n S u''
 let μ : Act → World → Nat := fun a w => Classical.epsilon fun m => J m a w ∧ ∀ k, J k a w → m ≤ k
 have hμ : ∀ a w n, J n a w → J (μ a w) a w ∧ μ a w ≤ n := fun a w n hn => by
  have := Classical.epsilon_spec (p := fun m => J m a w ∧ ∀ k, J k a w → m ≤ k) (least n hn)
  exact ⟨this.1, this.2 n hn⟩
 refine wp_scope_jumps l (fun a w => ∃ n, J n a w) μ hf ?_ ?_
 ·refine wp_seq (wp_mono (hA B a w u' e hr) fun ex a' w' ⟨S', B', u'', k1, k3⟩ => ?_)
  cases ex with
  | normal =>
   obtain ⟨m, T', t1, t2⟩ := k3
   refine wp_seq (wp_label ?_)
   refine wp_mono (h m T' u'' t2 B' a' w' u'' (Ext.refl _) (k1.weak t1)) fun ex a' w' ⟨S', B', u'', k1, k3⟩ => ?_
   cases ex with
   | goto l' =>
    obtain ⟨rfl, m, hm, T', t1, t2⟩ := k3
    exact ⟨rfl, m, T', B', u'', k1.weak t1, t2⟩
   | _ => exact ⟨S', B', u'', k1, k3⟩
  | goto l' => exact k3.elim
  | _ => exact ⟨S', B', u'', k1, k3⟩
 ·rintro a w ⟨n, hn⟩
  obtain ⟨S1, B1, u1, r1, i1⟩ := (hμ a w n hn).1
  refine wp_seq (wp_skip ?_)
  refine wp_mono (h _ S1 u1 i1 B1 a w u1 (Ext.refl _) r1) fun ex a' w' ⟨S', B', u'', k1, k3⟩ => ?_
  cases ex with
  | goto l' =>
   obtain ⟨rfl, m, hm, T', t1, t2⟩ := k3
   have hJ : J m a' w' := ⟨T', B', u'', k1.weak t1, t2⟩
   exact ⟨rfl, ⟨m, hJ⟩, Nat.lt_of_le_of_lt (hμ a' w' m hJ).2 hm⟩
  | _ => exact ⟨S', B', u'', k1, k3⟩
end
section
variable {P : Program} {u0 u u' w w' : World} {S : St} {B : Tmp → Nat} {a : Act} {c : Code} {w0 : Base}
variable {ops : Array Oper} {o : Oper} {p : List Tmp} {rest : List (Oper × List Tmp)} {K : St → World → Prop}
end
section
variable {u u' : World} {L : List RL} {l : List Rat} {q : Rat} {r : RL} {K i b n c : Nat} {x : Sl}
theorem RatsV.set (h : RatsV u L l K) (hi : i < l.length) (hr : RatV u r q K) : RatsV u (L.set i r) (l.set i q) K := by
 refine ⟨by simpa using h.1, fun j hj => ?_⟩
 rw [List.length_set] at hj
 rw [List.getD_eq_getElem?_getD, List.getD_eq_getElem?_getD, List.getElem?_set, List.getElem?_set]
 by_cases e : i = j
 ·subst e
  rw [if_pos rfl, if_pos rfl, if_pos hi, if_pos (by rw [h.1]; exact hi)]
  exact hr
 ·rw [if_neg e, if_neg e, ← List.getD_eq_getElem?_getD, ← List.getD_eq_getElem?_getD]
  exact h.2 j hj
theorem RatsV.zeros (u : World) (n : Nat) : RatsV u (List.replicate n rl0) (List.replicate n 0) 1 := by
 refine ⟨by simp, fun i hi => ?_⟩
 rw [List.length_replicate] at hi
 rw [List.getD_eq_getElem?_getD, List.getD_eq_getElem?_getD, List.getElem?_replicate, List.getElem?_replicate, if_pos hi, if_pos hi]
 exact rat_nil _
theorem pol_data1V {t : TypeId} (h : u.heap[b]? = some (.cells (rcs L).toArray t (0, 0))) (hm : L.length ≤ maxLen) (hL : RatsV u L l K) (hn : n = L.length) : PolV u ⟨some ⟨b, 0, none⟩, n, n⟩ l K := by
 subst hn
 exact ⟨L, ⟨by rw [zyy], Nat.le_refl _, hm, fun _ => ⟨b, 0, rfl, fun j hj => by rw [Nat.zero_add, cells_at h]; simp⟩⟩, hL⟩
theorem RatsN.fitR {M : Nat} (h : RatsN u L l K) (k : ∀ i, Nt.rs (l.getD i 0) ≤ M) : RatsN u L l M := ⟨h.1, fun i hi => (h.2 i hi).fit (k i)⟩
theorem PolN.fitR {M : Nat} (h : PolN u x l K) (k : ∀ i, Nt.rs (l.getD i 0) ≤ M) : PolN u x l M := by obtain ⟨L, h1, h2⟩ := h; exact ⟨L, h1, h2.fitR k⟩
end
section
variable {P : Program} {ops : Array Oper} {w0 : Base} {u0 : World} {S T : St} {B : Tmp → Nat} {a : Act} {w w' u u' : World} {o : Oper} {p : List Tmp} {seq : Bool} {rest : List (Oper × List Tmp)} {K : St → World → Prop}
theorem Rep.pubA (h : Rep w0 u0 S B a w u) {r t : Tmp} {V : Vr} {pubs : List Tmp} (hno : NoAt S pubs) (ht : t ∈ pubs) (hall : ∀ s ∈ pubs, ∀ V', S.var s = some V' → s = t) (hr : S.reg r = some (.adr t 0)) (hv : S.var t = some V) (htn : t < S.n) :
  Rep w0 u0 ((S.unpub pubs).set r (.v (.pointer (some ⟨B t, 0, none⟩)))) B a w (pubW u w [B t]) := by
 refine ⟨⟨fun s x hx => ?_, h.regs.size⟩, ⟨fun s x t' hx ht' => ?_⟩, h.defers, fun s V' hV => ?_, fun s s' V1 V2 h1 h2 e => ?_, pubW_dat h.dat, h.base, pubW_grow h.grow (fun b hb => ?_), h.bel⟩
 ·by_cases e : s = r
  ·subst e
   simp only [St.set, zxc] at hx
   injection hx with hx
   subst hx
   exact h.regs.reg s (.adr t 0) hr
  ·simp only [St.set, upd_ne _ _ e] at hx
   exact h.regs.reg s x (zwe hx).1
 ·by_cases e : s = r
  ·subst e
   simp only [St.set, zxc] at hx
   injection hx with hx
   subst hx; cases ht'
  ·simp only [St.set, upd_ne _ _ e] at hx
   obtain ⟨k1, k2⟩ := zwe hx
   obtain ⟨V', hV'⟩ := h.wf.reg s x t' k1 ht'
   exact ⟨V', by show (S.unpub pubs).var t' = _; rw [unpub_var (fun hm => k2 (hno s x t' k1 ht' hm))]; exact hV'⟩
 ·obtain ⟨k1, k2⟩ := zxo hV
  obtain ⟨g1, g2, g3⟩ := h.var s V' k1
  refine ⟨g1, ?_, g3⟩
  rw [pubW_out]
  ·exact g2
  ·intro hm
   simp at hm
   exact k2 (h.inj s t V' V k1 hv hm ▸ ht)
 ·exact h.inj s s' V1 V2 (zxo h1).1 (zxo h2).1 e
 ·simp at hb; subst hb; exact (h.var t V hv).2.2.1 htn
theorem sw_pubA {c0 : Code} {Q : MP} {r t : Tmp} {V : Vr} (pubs : List Tmp) (hno : NoAt S pubs) (hall : (pubs.all fun s => Nat.beq s t || (S.var s).isNone) = true) (hr : S.reg r = some (.adr t 0)) (hv : S.var t = some V) (ht : pubs.contains t = true)
  (k : ∀ b u1, Ext u u1 → u0.heap.size ≤ b → (∀ ob, u.heap[b]? = some ob → ob = hidO) → u1.heap[b]? = some (.cells V.cs.toArray V.ty (0, 0)) → SW P w0 u0 c0 ((S.unpub pubs).set r (.v (.pointer (some ⟨b, 0, none⟩)))) u1 Q) (hlt : Nat.blt t S.n = true := by kernel_rfl) : SW P w0 u0 c0 S u Q := by
 intro B a w u' e hrep
 have hm := List.contains_iff_mem.1 ht
 obtain ⟨g1, g2, g3⟩ := hrep.var t V hv
 have hx : Ext u' (pubW u' w [B t]) := pubW_ext hrep.dat
 have hrep2 := hrep.pubA hno hm (fun s hs V' hV' => by
  have := List.all_eq_true.1 hall s hs
  simp only [Bool.or_eq_true, Option.isNone_iff_eq_none] at this
  rcases this with h | h
  ·exact Nat.eq_of_beq_eq_true h
  ·rw [hV'] at h; cases h) hr hv (Nat.le_of_ble_eq_true hlt)
 refine k (B t) (pubW u' w [B t]) (e.trans hx) (g3.1 (Nat.le_of_ble_eq_true hlt)) (fun ob hob => ?_) (by rw [pubW_in (by simp) (zxa g2) hrep.dat.size]; exact g1) B a w _ (Ext.refl _) hrep2
 by_cases hh : ob = hidO
 ·exact hh
 ·have := e.vis _ ob hob hh
  rw [g2] at this; injection this with this; exact this.symm
theorem sy_fun (d : Tmp) {f : FuncId} {cs : List Operand} (vs : List Value) (k : sym P ops w0 u0 true rest (S.set d (.v (.func (.func f) #[] vs.toArray))) u K) (hw : Wants ops o S := by exact zwf xk) (hd : o.dst = some d := by kernel_rfl) (hop : o.op = .makeFunc (.func f) #[] cs.toArray := by rfl) (hf : freeB S d = true := by kernel_rfl)
  (hev : cs.map (evO S) = vs.map (fun v => some (.v v)) := by rfl) : sym P ops w0 u0 true ((o, p) :: rest) S u K := by
 refine .inr (.inr (.inl ⟨.inl rfl, fun B a w u' he hrep => ⟨hw B a hrep.regs, ?_⟩⟩))
 have hcs : cs.map a.eval = vs := by
  clear hop k
  induction cs generalizing vs with
  | nil => cases vs with
   | nil => rfl
   | cons v vs => cases hev
  | cons c cs ih => cases vs with
   | nil => cases hev
   | cons v vs =>
    simp only [List.map_cons, List.cons.injEq] at hev ⊢
    refine ⟨?_, ih vs hev.2⟩
    rw [ev_of hrep.regs hev.1]; rfl
 have hrun : (execOp a.eval o).run P w = .ok (.value (.func (.func f) #[] vs.toArray)) w := by
  unfold execOp
  simp only [hop]
  simp [Instr.makeFunc, Sem.run_pure, ← hcs]
 unfold Oper.wp
 rw [hrun]
 have hr2 := hrep.set (d := o.dst) (x := some (.v (.func (.func f) #[] vs.toArray))) (v := .func (.func f) #[] vs.toArray) (fun s hs => (zxy hd hf s hs).1) (fun z e => by injection e with e; rw [← e]; rfl) (fun z t e ht => by injection e with e; rw [← e] at ht; cases ht)
 show ∃ S' B' u'' u2, Rep w0 u0 S' B' (a.put o.dst _) w u'' ∧ _
 refine ⟨_, B, u', u, hr2, fun _ => Ext.refl _, fun _ => Ext.refl _, he, ?_⟩
 rw [hd]; exact k
def SL (P : Program) (w0 : Base) (u0 : World) (ops : Array Oper) (l : List Oper) (S : St) (u : World) (Q : MP) : Prop :=
 ∀ B a w u', Ext u u' → Rep w0 u0 S B a w u' → wpList P ops (fun e a' w' => ∃ S' B' u'', Rep w0 u0 S' B' a' w' u'' ∧ Q.f e S' u'') l a w
theorem SL.mono {l : List Oper} {Q : MP} : Mono (fun S u => SL P w0 u0 ops l S u Q) := fun S u u' e h B a w u'' e' hr => h B a w u'' (e.trans e') hr
end
section
variable {u u' u1 : World} {L : List RL} {r : RL} {l : List Rat} {q : Rat} {K n b b6 : Nat} {cs : List Value} {t t6 : TypeId}
theorem var_cell1 {v : Value} (h : u.heap[b]? = some (.cells [v].toArray t (0, 0))) : u.cell? ⟨b, 0, none⟩ = some v := by rw [cells_at h]; rfl
theorem SlR.extB0 {A : Option Addr} {m c : Nat} {z : List Int} (h : SlR .u32 u A m c z) (hb : u.heap[b]? = some (.cells cs.toArray t (0, 0))) (hn : ∀ v ∈ cs, ∀ y, v ≠ .int .u32 y) (e : ExtB b u u') : SlR .u32 u' A m c z := by
 obtain ⟨h1, h2, h3, h4⟩ := h
 refine ⟨h1, h2, h3, fun hp => ?_⟩
 obtain ⟨b', o, rfl, hlt, hc⟩ := h4 hp
 have hne : b' ≠ b := by
  rintro rfl
  have := hc 0 hp
  rw [cells_at hb] at this
  have h9 : cs[o + 0]? = some (.int .u32 (z[0]?.getD 0)) := by simpa using this
  exact hn _ (List.mem_of_getElem? h9) _ rfl
 refine ⟨b', o, rfl, Nat.lt_of_lt_of_le hlt e.size, fun i hi => ?_⟩
 have := hc i hi
 unfold World.cell? at this ⊢
 cases hb' : u.heap[b']? with
 | none => simp only [hb'] at this; cases this
 | some ob =>
  simp only [hb'] at this
  cases ob with
  | cells cs t' fr => rw [e.vis b' _ hne hb' (by unfold hidO; exact fun e => by cases e)]; exact this
  | _ => cases this
theorem RatN.extB0 (h : RatN u r q K) (hb : u.heap[b]? = some (.cells cs.toArray t (0, 0))) (hn : ∀ v ∈ cs, ∀ y, v ≠ .int .u32 y) (e : ExtB b u u') : RatN u' r q K :=
 ⟨⟨h.1.1, h.1.2.1, h.1.2.2.1.extB0 hb hn e, h.1.2.2.2⟩, h.2.1, h.2.2.1.extB0 hb hn e, h.2.2.2⟩
end
theorem k_ratMake {u w : World} {i j : IL} {z D : Int} {K L : Nat} (d : Dat u w) (hi : IntN u i z K) (hj : IntN u j D L) (hD : 0 < D) (hK : K ≤ 1000000) (hL : L ≤ 1000000) : Calls Tryz.prog 162 #[i.v, j.v] w (Post u w fun v u' => ∃ r : RL, v = .tuple #[r.v, .int .i64 0] ∧ RatN u' r ((z : Rat) / (D : Rat)) (K + L + 1)) := by
 refine zzm (args := [i.v, j.v]) Tryz.func162 rfl Tryz.ntmps162 (rs := [.cell 4 26, .tmp 5]) Tryz.results162 (le_b rfl) (le_b rfl) d ?_
 refine sq9 (zzk 2 ⟨24, i.cs⟩ (zzk 3 ⟨24, j.cs⟩ (zzk 4 ⟨26, [.bool false, .slice none 0 0, .slice none 0 0]⟩ (zza 5 (zI 0) (zzb (zzd (sq9 (zzi 6 (.v (j.v)) ty24 zze (zzg 7 146 [j.v] ?_)))))))))
 intro w11 u11 e11 d11
 have k14 := k_intSign d11 (hj.ext e11).raw
 with_reducible refine zPm k14 ?_
 rintro _ u12 g13 rfl
 refine zza 8 (zB ((Nt.cmpS D 0) == 0)) (zzb (zzu (b := (Nt.cmpS D 0) == 0) xk (fun hb => ?_) (fun hb => ?_)))
 ·exact absurd hb (by rw [show ((Nt.cmpS D 0) == 0) = false from (by rw [Nt.cmp_gt hD]; rfl)]; decide)
 ·clear hb
  refine zzs (zzp ?_)
  refine sq9 (zzi 10 (.v (i.v)) ty24 zze (zzi 11 (.v (j.v)) ty24 zze (zzg 12 196 [i.v, j.v] ?_)))
  intro w15 u15 e15 d15
  have k18 := k_quotient (i := i) (j := j) d15
  with_reducible refine zPm k18 ?_
  rintro _ u16 g17 rfl
  refine zzg 13 148 [.agg #[.bool (!(i.s == j.s)), i.m.v, j.m.v]] ?_
  intro w19 u19 e19 d19
  have k24 := k_lowest d19 ((quot_int (hi.ext (e11.trans (g13.ext.trans (e15.trans g17.ext)))) (hj.ext (e11.trans (g13.ext.trans (e15.trans g17.ext))))).ext e19) ((int_mag (hj.ext (e11.trans (g13.ext.trans (e15.trans g17.ext))))).ext e19).raw (show 0 < (D : Int).natAbs by omega) xq xq
  with_reducible refine zPm k24 ?_
  rintro _ u22 g23 ⟨r20, rfl, h21⟩
  refine zzj ⟨26, r20.cs⟩ ty26 ?_
  refine zza 5 (zI 0) (zzb (zzo (ret0 [r20.v, .int .i64 0] ⟨zzr ty26 zze, zzq, trivial⟩ fun u25 e26 => ?_)))
  refine ⟨r20, rfl, RatN.more (K := (max K L)) ?_ xq⟩
  rw [← Nt.div_mk2 xq]
  exact (h21.ext e26)
theorem k_betweenN {u w : World} {i : IL} {z : Int} {k K : Nat} (d : Dat u w) (hi : IntN u i z K) (hk : k ≤ 256) (hK0 : 1 ≤ K) (hK : K ≤ 900000) : Calls Tryz.prog 84 #[i.v, .bool false, .int .i64 (k : Int)] w (Post u w fun v u' => ∃ r1 r2 : RL, v = IV r1 r2 ∧ RatN u' r1 (Nt.gr k z) (K + 20) ∧ RatN u' r2 (Nt.gr k (z + 1)) (K + 20)) := by
 refine zzm (args := [i.v, .bool false, .int .i64 k]) Tryz.func84 rfl Tryz.ntmps84 (rs := [.cell 6 32]) Tryz.results84 (le_b rfl) (le_b rfl) d ?_
 refine sq9 (zzk 3 ⟨24, i.cs⟩ (zzk 6 ⟨32, [.bool false, .slice none 0 0, .slice none 0 0, .bool false, .slice none 0 0, .slice none 0 0]⟩ (zzb (sq9 (zzi 13 (.v (i.v)) ty24 zze (zzk 7 ⟨24, [.bool false, .slice none 0 0]⟩ (zzj ⟨24, i.cs⟩ ty24 ?_)))))))
 refine zzb (zzd (sq9 (zza 14 (zB false) (zza 15 (zB true) (zzb (zyr xk (zzz [0, 0, 3, 7] [(0, []), (1, []), (2, []), (3, [])] xk xk (zzi 16 (.v (i.v)) ty24 zze (zzg 17 160 [.int .i64 1] ?_)))))))))
 intro w11 u11 e11 d11
 have k16 := k_intOf d11 (z := 1) xq xq
 with_reducible refine zPm k16 ?_
 rintro _ u14 g15 ⟨i12, rfl, h13⟩
 refine zzg 18 159 [i.v, i12.v] ?_
 intro w17 u17 e17 d17
 have k22 := k_intAdd d17 (hi.ext (e11.trans (g15.ext.trans e17))).raw (h13.ext e17).raw xq xq
 with_reducible refine zPm k22 ?_
 rintro _ u20 g21 ⟨i18, rfl, h19⟩
 refine zzj ⟨24, i18.cs⟩ ty24 ?_
 refine zzb (sq9 (zza 19 (zI k) (zzg 20 161 [.int .i64 k] ?_)))
 intro w23 u23 e23 d23
 have k28 := k_eUnit (k := k) d23 xq
 with_reducible refine zPm k28 ?_
 rintro _ u26 g27 ⟨i24, rfl, h25⟩
 refine zza 21 (.v (i24.v)) (zzk 8 ⟨24, [.bool false, .slice none 0 0]⟩ (zzj ⟨24, i24.cs⟩ ty24 ?_))
 refine zzb (sq9 (zzi 23 (.v (i.v)) ty24 zze (zzi 24 (.v (i24.v)) ty24 zze (zzg 25 162 [i.v, i24.v] ?_))))
 intro w29 u29 e29 d29
 have k34 := k_ratMake d29 (hi.ext (e11.trans (g15.ext.trans (e17.trans (g21.ext.trans (e23.trans (g27.ext.trans e29))))))) (h25.ext e29) (Nt.u2_pos _) xq xq
 with_reducible refine zPm k34 ?_
 rintro _ u32 g33 ⟨r30, rfl, h31⟩
 refine zza 22 (.v (.tuple #[r30.v, .int .i64 0])) (zza 26 (.v (r30.v)) (zza 27 (zI 0) (zzk 9 ⟨26, [.bool false, .slice none 0 0, .slice none 0 0]⟩ (zzj ⟨26, r30.cs⟩ ty26 ?_))))
 refine zza 10 (zI 0) (zzb (sq9 (zzi 29 (.v (i18.v)) ty24 zze (zzi 30 (.v (i24.v)) ty24 zze (zzg 31 162 [i18.v, i24.v] ?_)))))
 intro w35 u35 e35 d35
 have k40 := k_ratMake d35 (h19.ext (e23.trans (g27.ext.trans (e29.trans (g33.ext.trans e35))))) (h25.ext (e29.trans (g33.ext.trans e35))) (Nt.u2_pos _) xq xq
 with_reducible refine zPm k40 ?_
 rintro _ u38 g39 ⟨r36, rfl, h37⟩
 refine zza 28 (.v (.tuple #[r36.v, .int .i64 0])) (zza 32 (.v (r36.v)) (zza 33 (zI 0) (zzk 11 ⟨26, [.bool false, .slice none 0 0, .slice none 0 0]⟩ (zzj ⟨26, r36.cs⟩ ty26 ?_))))
 refine zza 12 (zI 0) (zzc 37 [(6, .adr 6 0), (9, .adr 9 0), (11, .adr 11 0)] [(6, ⟨32, [.bool false, .slice none 0 0, .slice none 0 0, .bool false, .slice none 0 0, .slice none 0 0]⟩), (9, ⟨26, r30.cs⟩), (11, ⟨26, r36.cs⟩)] (sq9 (zzi 34 (.v (r30.v)) ty26 zze (zzi 35 (.v (r36.v)) ty26 zze (zza 36 (.v (.agg #[.bool r30.s, r30.m.v, r30.d.v, .bool r36.s, r36.m.v, r36.d.v])) (zzj ⟨32, r30.cs ++ r36.cs⟩ ty32 ?_))))))
 refine zzb (zzo (ret0 [.agg #[.bool r30.s, .slice r30.m.a r30.m.n r30.m.c, .slice r30.d.a r30.d.n r30.d.c, .bool r36.s, .slice r36.m.a r36.m.n r36.m.c, .slice r36.d.a r36.d.n r36.d.c]] ⟨zzr ty32 zze, trivial⟩ fun u41 e42 => ?_))
 refine ⟨r30, r36, rfl, RatN.more (K := (K + (k / 32 + 2) + 1)) ?_ xq, RatN.more (K := ((max K 2 + 1) + (k / 32 + 2) + 1)) ?_ xq⟩
 ·exact (h31.ext (e35.trans (g39.ext.trans e42)))
 ·exact (h37.ext e42)
theorem k_betweenE {u w : World} {i : IL} {z : Int} {k K : Nat} (d : Dat u w) (hi : IntN u i z K) (hk : k ≤ 256) (hK0 : 1 ≤ K) (hK : K ≤ 900000) : Calls Tryz.prog 84 #[i.v, .bool true, .int .i64 (k : Int)] w (Post u w fun v u' => ∃ r1 r2 : RL, v = IV r1 r2 ∧ RatN u' r1 (Nt.gr k z) (K + 20) ∧ RatN u' r2 (Nt.gr k z) (K + 20)) := by
 refine zzm (args := [i.v, .bool true, .int .i64 k]) Tryz.func84 rfl Tryz.ntmps84 (rs := [.cell 6 32]) Tryz.results84 (le_b rfl) (le_b rfl) d ?_
 refine sq9 (zzk 3 ⟨24, i.cs⟩ (zzk 6 ⟨32, [.bool false, .slice none 0 0, .slice none 0 0, .bool false, .slice none 0 0, .slice none 0 0]⟩ (zzb (sq9 (zzi 13 (.v (i.v)) ty24 zze (zzk 7 ⟨24, [.bool false, .slice none 0 0]⟩ (zzj ⟨24, i.cs⟩ ty24 ?_)))))))
 refine zzb (zzd (sq9 (zza 14 (zB true) (zza 15 (zB false) (zzb (zys xk (zzs (zzp ?_))))))))
 refine sq9 (zza 19 (zI k) (zzg 20 161 [.int .i64 k] ?_))
 intro w11 u11 e11 d11
 have k16 := k_eUnit (k := k) d11 xq
 with_reducible refine zPm k16 ?_
 rintro _ u14 g15 ⟨i12, rfl, h13⟩
 refine zza 21 (.v (i12.v)) (zzk 8 ⟨24, [.bool false, .slice none 0 0]⟩ (zzj ⟨24, i12.cs⟩ ty24 ?_))
 refine zzb (sq9 (zzi 23 (.v (i.v)) ty24 zze (zzi 24 (.v (i12.v)) ty24 zze (zzg 25 162 [i.v, i12.v] ?_))))
 intro w17 u17 e17 d17
 have k22 := k_ratMake d17 (hi.ext (e11.trans (g15.ext.trans e17))) (h13.ext e17) (Nt.u2_pos _) xq xq
 with_reducible refine zPm k22 ?_
 rintro _ u20 g21 ⟨r18, rfl, h19⟩
 refine zza 22 (.v (.tuple #[r18.v, .int .i64 0])) (zza 26 (.v (r18.v)) (zza 27 (zI 0) (zzk 9 ⟨26, [.bool false, .slice none 0 0, .slice none 0 0]⟩ (zzj ⟨26, r18.cs⟩ ty26 ?_))))
 refine zza 10 (zI 0) (zzb (sq9 (zzi 29 (.v (i.v)) ty24 zze (zzi 30 (.v (i12.v)) ty24 zze (zzg 31 162 [i.v, i12.v] ?_)))))
 intro w23 u23 e23 d23
 have k28 := k_ratMake d23 (hi.ext (e11.trans (g15.ext.trans (e17.trans (g21.ext.trans e23))))) (h13.ext (e17.trans (g21.ext.trans e23))) (Nt.u2_pos _) xq xq
 with_reducible refine zPm k28 ?_
 rintro _ u26 g27 ⟨r24, rfl, h25⟩
 refine zza 28 (.v (.tuple #[r24.v, .int .i64 0])) (zza 32 (.v (r24.v)) (zza 33 (zI 0) (zzk 11 ⟨26, [.bool false, .slice none 0 0, .slice none 0 0]⟩ (zzj ⟨26, r24.cs⟩ ty26 ?_))))
 refine zza 12 (zI 0) (zzb (sq9 (zzi 34 (.v (r18.v)) ty26 zze (zzi 35 (.v (r24.v)) ty26 zze (zza 36 (.v (.agg #[.bool r18.s, r18.m.v, r18.d.v, .bool r24.s, r24.m.v, r24.d.v])) (zzj ⟨32, r18.cs ++ r24.cs⟩ ty32 ?_))))))
 refine zzc 37 [(6, .adr 6 0)] [(6, ⟨32, r18.cs ++ r24.cs⟩)] (zzo (ret0 [.agg #[.bool r18.s, .slice r18.m.a r18.m.n r18.m.c, .slice r18.d.a r18.d.n r18.d.c, .bool r24.s, .slice r24.m.a r24.m.n r24.m.c, .slice r24.d.a r24.d.n r24.d.c]] ⟨zzr ty32 zze, trivial⟩ fun u29 e30 => ?_))
 refine ⟨r18, r24, rfl, RatN.more (K := (K + (k / 32 + 2) + 1)) ?_ xq, RatN.more (K := (K + (k / 32 + 2) + 1)) ?_ xq⟩
 ·exact (h19.ext (e23.trans (g27.ext.trans e30)))
 ·exact (h25.ext e30)
theorem k_betweenB {u w : World} {i : IL} {z : Int} {e : Bool} {k K : Nat} (d : Dat u w) (hi : IntN u i z K) (hk : k ≤ 256) (hK0 : 1 ≤ K) (hK : K ≤ 900000) : Calls Tryz.prog 84 #[i.v, .bool e, .int .i64 (k : Int)] w (Post u w fun v u' => ∃ r1 r2 : RL, v = IV r1 r2 ∧ RatN u' r1 (Nt.gr k z) (K + 20) ∧ RatN u' r2 (Nt.gr k (if e = true then z else z + 1)) (K + 20)) := by
 cases e with
 | true => exact k_betweenE d hi hk hK0 hK
 | false => exact k_betweenN d hi hk hK0 hK
set_option maxHeartbeats 2000000 in
theorem k_irrPi {u w : World}  {k g : Nat} (d : Dat u w)  (hg : Nt.Gap Nt.piN k g) (hg3 : g ≤ 300) (hk : k ≤ 256) : Calls Tryz.prog 101 #[.func (.func 102) #[] #[], .int .i64 (k : Int)] w (Post u w fun v u' => ∃ r1 r2 : RL, v = IV r1 r2 ∧ RatN u' r1 (Nt.gr k (Nt.flo Nt.piN k)) 70 ∧ RatN u' r2 (Nt.gr k (Nt.flo Nt.piN k + 1)) 70) := by
 refine zzm (args := [.func (.func 102) #[] #[], .int .i64 k]) Tryz.func101 rfl Tryz.ntmps101 (rs := [.cell 4 32]) Tryz.results101 (le_b rfl) (le_b rfl) d ?_
 refine sq9 (zzk 4 ⟨32, [.bool false, .slice none 0 0, .slice none 0 0, .bool false, .slice none 0 0, .slice none 0 0]⟩ (zzb (sw_scope (I := fun m11 S' u' => ∃ (wk : Nat), (m11 = 1000 - wk) ∧ (k + 32 ≤ wk) ∧ (wk ≤ 674 ∨ wk = k + 32) ∧ (S' = St.of 49 [(0, .v (.func (.func 102) #[] #[])), (1, zI k), (4, .adr 4 0), (5, zI wk)] [(4, ⟨32, [.bool false, .slice none 0 0, .slice none 0 0, .bool false, .slice none 0 0, .slice none 0 0]⟩)]) ∧ (Ext u u')) (fun m S u1 u2 e h => by obtain ⟨wk, hm, p0, p1, hS, hE⟩ := h; exact ⟨wk, hm, p0, p1, hS, hE.trans e⟩) xk ?_ ?_)))
 ·skip
  refine zzf (zza 14 (zI k) (zyq 15 (x := zI (IntKind.i64.wrap ((k : Int) + 32))) (zI (k + 32 : Nat)) (eqI xw) (zza 5 (zI (k + 32 : Nat)) (zzx ?_))))
  exact mpi_into (T := St.of 49 [(0, .v (.func (.func 102) #[] #[])), (1, .v (.int .i64 (k : Int))), (4, .adr 4 0), (5, .v (.int .i64 ((k + 32 : Nat) : Int)))] [(4, ⟨32, [.bool false, .slice none 0 0, .slice none 0 0, .bool false, .slice none 0 0, .slice none 0 0]⟩)]) yw ⟨k + 32, rfl, by omega, .inr rfl, rfl, (Ext.refl _)⟩
 ·skip
  rintro m11 _ u11 ⟨wk, hm11, hw0, hw1, rfl, e11⟩
  refine sq9 (zza 16 (.v (.func (.func 102) #[] #[])) (zza 17 (zI wk) (zzg 18 102 [.int .i64 wk] ?_)))
  intro w12 u12 e12 d12
  have k16 := k_ePi d12 (k := wk) xq xq
  with_reducible refine zPm k16 ?_
  rintro _ u14 g15 ⟨si13, sj13, sa13, sb13, rfl, ha13, hb13, hR13⟩
  refine zzk 6 ⟨160, [.bool false, .slice none 0 0, .bool false, .slice none 0 0]⟩ (zzj ⟨160, si13.cs ++ sj13.cs⟩ ty160 ?_)
  refine zzb (sq9 (zza 19 (zI wk) (zza 20 (zI k) (zyq 21 (x := zI (IntKind.i64.wrap ((wk : Int) - (k : Int)))) (zI (wk - k : Nat)) (eqI xw) (zzg 22 161 [.int .i64 (wk - k : Nat)] ?_)))))
  intro w17 u17 e17 d17
  have k22 := k_eUnit (k := wk - k) d17 xq
  with_reducible refine zPm k22 ?_
  rintro _ u20 g21 ⟨i18, rfl, h19⟩
  refine zza 23 (.v (i18.v)) (zzk 7 ⟨24, [.bool false, .slice none 0 0]⟩ (zzj ⟨24, i18.cs⟩ ty24 ?_))
  refine zzb (sq9 (zza 25 (.adr 6 0) (zzi 26 (.v (si13.v)) ty24 zze (zzi 27 (.v (i18.v)) ty24 zze (zzg 28 180 [si13.v, i18.v] ?_)))))
  intro w23 u23 e23 d23
  have k30 := k_intDivI d23 (ha13.ext (e17.trans (g21.ext.trans e23))).raw (h19.ext e23) (Nt.u2_pos _) xq xq
  with_reducible refine zPm k30 ?_
  rintro _ u28 g29 ⟨i24, i26, rfl, h25, h27⟩
  refine zza 24 (.v (.tuple #[i24.v, i26.v, .int .i64 0])) (zza 29 (.v (i24.v)) (zza 30 (.v (i26.v)) (zza 31 (zI 0) (zzk 8 ⟨24, [.bool false, .slice none 0 0]⟩ (zzk 9 ⟨24, [.bool false, .slice none 0 0]⟩ (zzj ⟨24, i24.cs⟩ ty24 ?_))))))
  refine zzj ⟨24, i26.cs⟩ ty24 ?_
  refine zza 10 (zI 0) (zzb (sq9 (zza 33 (.adr 6 2) (zzi 34 (.v (sj13.v)) ty24 zze (zzi 35 (.v (i18.v)) ty24 zze (zzg 36 180 [sj13.v, i18.v] ?_))))))
  intro w31 u31 e31 d31
  have k38 := k_intDivI d31 (hb13.ext (e17.trans (g21.ext.trans (e23.trans (g29.ext.trans e31))))).raw (h19.ext (e23.trans (g29.ext.trans e31))) (Nt.u2_pos _) xq xq
  with_reducible refine zPm k38 ?_
  rintro _ u36 g37 ⟨i32, i34, rfl, h33, h35⟩
  refine zza 32 (.v (.tuple #[i32.v, i34.v, .int .i64 0])) (zza 37 (.v (i32.v)) (zza 38 (.v (i34.v)) (zza 39 (zI 0) (zzk 11 ⟨24, [.bool false, .slice none 0 0]⟩ (zzk 12 ⟨24, [.bool false, .slice none 0 0]⟩ (zzj ⟨24, i32.cs⟩ ty24 ?_))))))
  refine zzj ⟨24, i34.cs⟩ ty24 ?_
  refine zza 13 (zI 0) (zzc 49 [(0, .v (.func (.func 102) #[] #[])), (1, zI k), (4, .adr 4 0), (5, zI wk), (8, .adr 8 0), (11, .adr 11 0)] [(4, ⟨32, [.bool false, .slice none 0 0, .slice none 0 0, .bool false, .slice none 0 0, .slice none 0 0]⟩), (8, ⟨24, i24.cs⟩), (11, ⟨24, i32.cs⟩)] (zzd (sq9 (zzi 40 (.v (i24.v)) ty24 zze (zzi 41 (.v (i32.v)) ty24 zze (zzg 42 181 [i24.v, i32.v] ?_))))))
  intro w39 u39 e39 d39
  have k42 := k_intCompare d39 (h25.ext (e31.trans (g37.ext.trans e39))).raw (h33.ext e39).raw
  with_reducible refine zPm k42 ?_
  rintro _ u40 g41 rfl
  refine zza 43 (zB ((Nt.cmpS (sa13 / (Nt.u2 (wk - k))) (sb13 / (Nt.u2 (wk - k)))) != 0)) (zzb (zzu (b := (Nt.cmpS (sa13 / (Nt.u2 (wk - k))) (sb13 / (Nt.u2 (wk - k)))) != 0) xk (fun hb43 => ?_) (fun hb43 => ?_)))
  ·replace hb43 : ((Nt.cmpS (sa13 / (Nt.u2 (wk - k))) (sb13 / (Nt.u2 (wk - k)))) != 0) = true := hb43
   refine sq9 (zza 44 (zI wk) (zyq 45 (x := zI (IntKind.i64.wrap ((wk : Int) * 2))) (zI (wk * 2 : Nat)) (eqI xw) (zza 5 (zI (wk * 2 : Nat)) (zzb ?_))))
   have hny := Nt.not_yet hg hR13.1 (Nt.piR_w hR13 xq) hb43
   refine sw_goto (mpg_seq (mpg_jump (m := _) (T := St.of 49 [(0, .v (.func (.func 102) #[] #[])), (1, zI k), (4, .adr 4 0), (5, zI (wk * 2 : Nat))] [(4, ⟨32, [.bool false, .slice none 0 0, .slice none 0 0, .bool false, .slice none 0 0, .slice none 0 0]⟩)]) ?_ yw ⟨wk * 2, rfl, by omega, by omega, rfl, (e11.trans (e12.trans (g15.ext.trans (e17.trans (g21.ext.trans (e23.trans (g29.ext.trans (e31.trans (g37.ext.trans (e39.trans g41.ext))))))))))⟩))
   omega
  ·replace hb43 : ((Nt.cmpS (sa13 / (Nt.u2 (wk - k))) (sb13 / (Nt.u2 (wk - k)))) != 0) = false := hb43
   refine zzs (zzp ?_)
   refine sq9 (zzi 46 (.v (i24.v)) ty24 zze (zza 47 (zI k) (zzg 48 84 [i24.v, .bool false, .int .i64 k] ?_)))
   intro w44 u44 e44 d44
   have k51 := k_betweenN (k := k) d44 (h25.ext (e31.trans (g37.ext.trans (e39.trans (g41.ext.trans e44))))) xq xq xq
   with_reducible refine zPm k51 ?_
   rintro _ u49 g50 ⟨r45, r47, rfl, h46, h48⟩
   refine zzj ⟨32, r45.cs ++ r47.cs⟩ ty32 ?_
   refine zzb (zzo (mpr_jump (ret0 [.agg #[.bool r45.s, .slice r45.m.a r45.m.n r45.m.c, .slice r45.d.a r45.d.n r45.d.c, .bool r47.s, .slice r47.m.a r47.m.n r47.m.c, .slice r47.d.a r47.d.n r47.d.c]] ⟨zzr ty32 zze, trivial⟩ fun u52 e53 => ?_)))
   have hfl := Nt.flo_of hR13.1 xq hb43
   refine ⟨r45, r47, rfl, RatN.more (K := ((42 + 1) + 20)) ?_ xq, RatN.more (K := ((42 + 1) + 20)) ?_ xq⟩
   ·rw [← hfl]; exact (h46.ext e53)
   ·rw [← hfl]; exact (h48.ext e53)
theorem k_cos1 {u w : World} {p q k bp bq : Nat} (d : Dat u w) (hbp : u.heap[bp]? = some (.cells [Value.int .i64 (p : Int)].toArray 3 (0, 0))) (hbq : u.heap[bq]? = some (.cells [Value.int .i64 (q : Int)].toArray 3 (0, 0))) (hq0 : 0 < q) (hq : q ≤ 100000) (hp : 2 * p ≤ q) (hp1 : 1 ≤ p) (hk0 : 16 ≤ k) (hk : k ≤ 800) : Calls Tryz.prog 178 #[.int .i64 (k : Int), .pointer (some ⟨bp, 0, none⟩), .pointer (some ⟨bq, 0, none⟩)] w (Post u w fun v u' => ∃ (i j : IL) (a b : Int), v = SP i j ∧ IntN u' i a 42 ∧ IntN u' j b 42 ∧ Nt.CsR p q k a b) := by
 refine zzm (args := [.int .i64 k, .pointer (some ⟨bp, 0, none⟩), .pointer (some ⟨bq, 0, none⟩)]) Tryz.func178 rfl Tryz.ntmps178 (rs := [.cell 4 160]) Tryz.results178 (le_b rfl) (le_b rfl) d ?_
 refine sq9 (zzk 4 ⟨160, [.bool false, .slice none 0 0, .bool false, .slice none 0 0]⟩ (zzb (sq9 (zyl 5 (.int .i64 p) (var_cell1 hbp) ty3 (zyl 6 (.int .i64 q) (var_cell1 hbq) ty3 (zza 7 (zI k) (zzg 8 179 [.int .i64 p, .int .i64 q, .int .i64 k] ?_)))))))
 intro w11 u11 e11 d11
 have k15 := k_cosineOf d11 (p := p) (q := q) (k := k) hq0 hq hp hp1 xq xq
 with_reducible refine zPm k15 ?_
 rintro _ u13 g14 ⟨si12, sj12, sa12, sb12, rfl, ha12, hb12, hR12⟩
 refine zzj ⟨160, si12.cs ++ sj12.cs⟩ ty160 ?_
 refine zzb (zzo (ret0 [.agg #[.bool si12.s, .slice si12.m.a si12.m.n si12.m.c, .bool sj12.s, .slice sj12.m.a sj12.m.n sj12.m.c]] ⟨zzr ty160 zze, trivial⟩ fun u16 e17 => ?_))
 exact ⟨si12, sj12, _, _, rfl, (ha12.ext e17), (hb12.ext e17), hR12⟩
set_option maxHeartbeats 2000000 in
theorem k_irrCos {u w : World} {p q bp bq : Nat} {k g : Nat} (d : Dat u w) (hbp : u.heap[bp]? = some (.cells [Value.int .i64 (p : Int)].toArray 3 (0, 0))) (hbq : u.heap[bq]? = some (.cells [Value.int .i64 (q : Int)].toArray 3 (0, 0))) (hq0 : 0 < q) (hq : q ≤ 100000) (hp : 2 * p ≤ q) (hp1 : 1 ≤ p) (hg : Nt.Gap (Nt.coN p q) k g) (hg3 : g ≤ 300) (hk : k ≤ 256) : Calls Tryz.prog 101 #[.func (.func 178) #[] #[.pointer (some ⟨bp, 0, none⟩), .pointer (some ⟨bq, 0, none⟩)], .int .i64 (k : Int)] w (Post u w fun v u' => ∃ r1 r2 : RL, v = IV r1 r2 ∧ RatN u' r1 (Nt.gr k (Nt.flo (Nt.coN p q) k)) 70 ∧ RatN u' r2 (Nt.gr k (Nt.flo (Nt.coN p q) k + 1)) 70) := by
 refine zzm (args := [.func (.func 178) #[] #[.pointer (some ⟨bp, 0, none⟩), .pointer (some ⟨bq, 0, none⟩)], .int .i64 k]) Tryz.func101 rfl Tryz.ntmps101 (rs := [.cell 4 32]) Tryz.results101 (le_b rfl) (le_b rfl) d ?_
 refine sq9 (zzk 4 ⟨32, [.bool false, .slice none 0 0, .slice none 0 0, .bool false, .slice none 0 0, .slice none 0 0]⟩ (zzb (sw_scope (I := fun m11 S' u' => ∃ (wk : Nat), (m11 = 1000 - wk) ∧ (k + 32 ≤ wk) ∧ (wk ≤ 674 ∨ wk = k + 32) ∧ (S' = St.of 49 [(0, .v (.func (.func 178) #[] #[.pointer (some ⟨bp, 0, none⟩), .pointer (some ⟨bq, 0, none⟩)])), (1, zI k), (4, .adr 4 0), (5, zI wk)] [(4, ⟨32, [.bool false, .slice none 0 0, .slice none 0 0, .bool false, .slice none 0 0, .slice none 0 0]⟩)]) ∧ (Ext u u')) (fun m S u1 u2 e h => by obtain ⟨wk, hm, p0, p1, hS, hE⟩ := h; exact ⟨wk, hm, p0, p1, hS, hE.trans e⟩) xk ?_ ?_)))
 ·skip
  refine zzf (zza 14 (zI k) (zyq 15 (x := zI (IntKind.i64.wrap ((k : Int) + 32))) (zI (k + 32 : Nat)) (eqI xw) (zza 5 (zI (k + 32 : Nat)) (zzx ?_))))
  exact mpi_into (T := St.of 49 [(0, .v (.func (.func 178) #[] #[.pointer (some ⟨bp, 0, none⟩), .pointer (some ⟨bq, 0, none⟩)])), (1, .v (.int .i64 (k : Int))), (4, .adr 4 0), (5, .v (.int .i64 ((k + 32 : Nat) : Int)))] [(4, ⟨32, [.bool false, .slice none 0 0, .slice none 0 0, .bool false, .slice none 0 0, .slice none 0 0]⟩)]) yw ⟨k + 32, rfl, by omega, .inr rfl, rfl, (Ext.refl _)⟩
 ·skip
  rintro m11 _ u11 ⟨wk, hm11, hw0, hw1, rfl, e11⟩
  refine sq9 (zza 16 (.v (.func (.func 178) #[] #[.pointer (some ⟨bp, 0, none⟩), .pointer (some ⟨bq, 0, none⟩)])) (zza 17 (zI wk) (zzg 18 178 [.int .i64 wk, .pointer (some ⟨bp, 0, none⟩), .pointer (some ⟨bq, 0, none⟩)] ?_)))
  intro w12 u12 e12 d12
  have k16 := k_cos1 d12 (k := wk) ((e11.trans e12).cells hbp) ((e11.trans e12).cells hbq) hq0 hq hp hp1 xq xq
  with_reducible refine zPm k16 ?_
  rintro _ u14 g15 ⟨si13, sj13, sa13, sb13, rfl, ha13, hb13, hR13⟩
  refine zzk 6 ⟨160, [.bool false, .slice none 0 0, .bool false, .slice none 0 0]⟩ (zzj ⟨160, si13.cs ++ sj13.cs⟩ ty160 ?_)
  refine zzb (sq9 (zza 19 (zI wk) (zza 20 (zI k) (zyq 21 (x := zI (IntKind.i64.wrap ((wk : Int) - (k : Int)))) (zI (wk - k : Nat)) (eqI xw) (zzg 22 161 [.int .i64 (wk - k : Nat)] ?_)))))
  intro w17 u17 e17 d17
  have k22 := k_eUnit (k := wk - k) d17 xq
  with_reducible refine zPm k22 ?_
  rintro _ u20 g21 ⟨i18, rfl, h19⟩
  refine zza 23 (.v (i18.v)) (zzk 7 ⟨24, [.bool false, .slice none 0 0]⟩ (zzj ⟨24, i18.cs⟩ ty24 ?_))
  refine zzb (sq9 (zza 25 (.adr 6 0) (zzi 26 (.v (si13.v)) ty24 zze (zzi 27 (.v (i18.v)) ty24 zze (zzg 28 180 [si13.v, i18.v] ?_)))))
  intro w23 u23 e23 d23
  have k30 := k_intDivI d23 (ha13.ext (e17.trans (g21.ext.trans e23))).raw (h19.ext e23) (Nt.u2_pos _) xq xq
  with_reducible refine zPm k30 ?_
  rintro _ u28 g29 ⟨i24, i26, rfl, h25, h27⟩
  refine zza 24 (.v (.tuple #[i24.v, i26.v, .int .i64 0])) (zza 29 (.v (i24.v)) (zza 30 (.v (i26.v)) (zza 31 (zI 0) (zzk 8 ⟨24, [.bool false, .slice none 0 0]⟩ (zzk 9 ⟨24, [.bool false, .slice none 0 0]⟩ (zzj ⟨24, i24.cs⟩ ty24 ?_))))))
  refine zzj ⟨24, i26.cs⟩ ty24 ?_
  refine zza 10 (zI 0) (zzb (sq9 (zza 33 (.adr 6 2) (zzi 34 (.v (sj13.v)) ty24 zze (zzi 35 (.v (i18.v)) ty24 zze (zzg 36 180 [sj13.v, i18.v] ?_))))))
  intro w31 u31 e31 d31
  have k38 := k_intDivI d31 (hb13.ext (e17.trans (g21.ext.trans (e23.trans (g29.ext.trans e31))))).raw (h19.ext (e23.trans (g29.ext.trans e31))) (Nt.u2_pos _) xq xq
  with_reducible refine zPm k38 ?_
  rintro _ u36 g37 ⟨i32, i34, rfl, h33, h35⟩
  refine zza 32 (.v (.tuple #[i32.v, i34.v, .int .i64 0])) (zza 37 (.v (i32.v)) (zza 38 (.v (i34.v)) (zza 39 (zI 0) (zzk 11 ⟨24, [.bool false, .slice none 0 0]⟩ (zzk 12 ⟨24, [.bool false, .slice none 0 0]⟩ (zzj ⟨24, i32.cs⟩ ty24 ?_))))))
  refine zzj ⟨24, i34.cs⟩ ty24 ?_
  refine zza 13 (zI 0) (zzc 49 [(0, .v (.func (.func 178) #[] #[.pointer (some ⟨bp, 0, none⟩), .pointer (some ⟨bq, 0, none⟩)])), (1, zI k), (4, .adr 4 0), (5, zI wk), (8, .adr 8 0), (11, .adr 11 0)] [(4, ⟨32, [.bool false, .slice none 0 0, .slice none 0 0, .bool false, .slice none 0 0, .slice none 0 0]⟩), (8, ⟨24, i24.cs⟩), (11, ⟨24, i32.cs⟩)] (zzd (sq9 (zzi 40 (.v (i24.v)) ty24 zze (zzi 41 (.v (i32.v)) ty24 zze (zzg 42 181 [i24.v, i32.v] ?_))))))
  intro w39 u39 e39 d39
  have k42 := k_intCompare d39 (h25.ext (e31.trans (g37.ext.trans e39))).raw (h33.ext e39).raw
  with_reducible refine zPm k42 ?_
  rintro _ u40 g41 rfl
  refine zza 43 (zB ((Nt.cmpS (sa13 / (Nt.u2 (wk - k))) (sb13 / (Nt.u2 (wk - k)))) != 0)) (zzb (zzu (b := (Nt.cmpS (sa13 / (Nt.u2 (wk - k))) (sb13 / (Nt.u2 (wk - k)))) != 0) xk (fun hb43 => ?_) (fun hb43 => ?_)))
  ·replace hb43 : ((Nt.cmpS (sa13 / (Nt.u2 (wk - k))) (sb13 / (Nt.u2 (wk - k)))) != 0) = true := hb43
   refine sq9 (zza 44 (zI wk) (zyq 45 (x := zI (IntKind.i64.wrap ((wk : Int) * 2))) (zI (wk * 2 : Nat)) (eqI xw) (zza 5 (zI (wk * 2 : Nat)) (zzb ?_))))
   have hny := Nt.not_yet hg hR13.1 ((Nt.csR_bd hR13 hq0 hp xq).2.2.2.2.2) hb43
   refine sw_goto (mpg_seq (mpg_jump (m := _) (T := St.of 49 [(0, .v (.func (.func 178) #[] #[.pointer (some ⟨bp, 0, none⟩), .pointer (some ⟨bq, 0, none⟩)])), (1, zI k), (4, .adr 4 0), (5, zI (wk * 2 : Nat))] [(4, ⟨32, [.bool false, .slice none 0 0, .slice none 0 0, .bool false, .slice none 0 0, .slice none 0 0]⟩)]) ?_ yw ⟨wk * 2, rfl, by omega, by omega, rfl, (e11.trans (e12.trans (g15.ext.trans (e17.trans (g21.ext.trans (e23.trans (g29.ext.trans (e31.trans (g37.ext.trans (e39.trans g41.ext))))))))))⟩))
   omega
  ·replace hb43 : ((Nt.cmpS (sa13 / (Nt.u2 (wk - k))) (sb13 / (Nt.u2 (wk - k)))) != 0) = false := hb43
   refine zzs (zzp ?_)
   refine sq9 (zzi 46 (.v (i24.v)) ty24 zze (zza 47 (zI k) (zzg 48 84 [i24.v, .bool false, .int .i64 k] ?_)))
   intro w44 u44 e44 d44
   have k51 := k_betweenN (k := k) d44 (h25.ext (e31.trans (g37.ext.trans (e39.trans (g41.ext.trans e44))))) xq xq xq
   with_reducible refine zPm k51 ?_
   rintro _ u49 g50 ⟨r45, r47, rfl, h46, h48⟩
   refine zzj ⟨32, r45.cs ++ r47.cs⟩ ty32 ?_
   refine zzb (zzo (mpr_jump (ret0 [.agg #[.bool r45.s, .slice r45.m.a r45.m.n r45.m.c, .slice r45.d.a r45.d.n r45.d.c, .bool r47.s, .slice r47.m.a r47.m.n r47.m.c, .slice r47.d.a r47.d.n r47.d.c]] ⟨zzr ty32 zze, trivial⟩ fun u52 e53 => ?_)))
   have hfl := Nt.flo_of hR13.1 xq hb43
   refine ⟨r45, r47, rfl, RatN.more (K := ((42 + 1) + 20)) ?_ xq, RatN.more (K := ((42 + 1) + 20)) ?_ xq⟩
   ·rw [← hfl]; exact (h46.ext e53)
   ·rw [← hfl]; exact (h48.ext e53)
end Go.Proofs.YtbolmkfphieogaaGreat
