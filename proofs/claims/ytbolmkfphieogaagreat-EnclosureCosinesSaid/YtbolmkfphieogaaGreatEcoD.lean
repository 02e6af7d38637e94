/- Parts of the proof: contracts of functions, each walked once, and plain laws. -/
import Derived.Test.YtbolmkfphieogaaGreatEcoC
import Derived.IntWalk
import Derived.ScopeJumps
import Derived.ArgAppend
namespace Go.Proofs.YtbolmkfphieogaaGreat
open Go.RowKit
set_option linter.unusedVariables false
theorem k_unit {u w : World} {k : Nat} (d : Dat u w) (hk : k ≤ 65536) : Calls Tryz.prog 27 #[.int .i64 (k : Int)] w (Post u w fun v u' => ∃ r : RL, v = r.v ∧ RatN u' r (((2 ^ k : Nat) : Int) : Rat) (k / 32 + 2)) := by
 refine zzl (args := [.int .i64 k]) Tryz.func27 rfl Tryz.ntmps27 (rs := [.cell 2 26]) Tryz.results27 (le_b rfl) (le_b rfl) d ?_
 refine sq9 (zzj 2 ⟨26, [.bool false, .slice none 0 0, .slice none 0 0]⟩ (zzb (sq9 (zxp 3 ⟨104, [.int .u32 1]⟩ 1 (fun b11 u12 e13 h14 => ?_)))))
 refine zza 4 (zI k) (zzg 5 96 [.slice (some ⟨b11, 0, none⟩) 1 1, .int .i64 k] ?_)
 intro w15 u15 e15 d15
 have k20 := k_rnShift (s := k) d15 ((one_data h14).ext e15).raw xq xq
 with_reducible refine zPm k20 ?_
 rintro _ u18 g19 ⟨x16, rfl, h17⟩
 refine zza 6 (.v (.agg #[.bool false, x16.v])) (zxp 7 ⟨104, [.int .u32 1]⟩ 1 (fun b21 u22 e23 h24 => ?_))
 refine zza 8 (.v (.agg #[.bool false, x16.v, .slice (some ⟨b21, 0, none⟩) 1 1])) (zzi ⟨26, [.bool false, x16.v, .slice (some ⟨b21, 0, none⟩) 1 1]⟩ ty26 ?_)
 refine zzb (zzn (ret0 [.agg #[.bool false, .slice x16.a x16.n x16.c, .slice (some ⟨b21, 0, none⟩) 1 1]] ⟨zzq ty26 zze, trivial⟩ fun u25 e26 => ?_))
 refine ⟨(⟨false, x16, (⟨some ⟨b21, 0, none⟩, 1, 1⟩ : Sl)⟩ : RL), rfl, ?_⟩
 have h9 := whole_rat (nat_intN (h17.ext (e23.trans e26))) ((one_data h24).ext e26)
 rw [Nat.one_mul] at h9
 exact h9.more xq
theorem k_floor {u w : World} {r : RL} {q : Rat} {K : Nat} (d : Dat u w) (hr : RatV u r q K) (hK : K ≤ 10000000) : Calls Tryz.prog 87 #[r.v] w (Post u w fun v u' => ∃ i : IL, v = i.v ∧ IntN u' i (Nt.flr q) (K + 1)) := by
 refine zzl (args := [r.v]) Tryz.func87 rfl Tryz.ntmps87 (rs := [.cell 2 24]) Tryz.results87 (le_b rfl) (le_b rfl) d ?_
 refine sq9 (zzj 1 ⟨26, r.cs⟩ (zzj 2 ⟨24, [.bool false, .slice none 0 0]⟩ (zzb (sq9 (zzh 9 (.v (r.v)) ty26 zze (zzg 10 92 [r.v] ?_))))))
 intro w11 u11 e11 d11
 have k15 := k_parts d11 (hr.ext e11) xq
 with_reducible refine zPm k15 ?_
 rintro _ u13 g14 ⟨i12, j12, z12, D12, rfl, hi12, hj12, hp12, hq12, hk12⟩
 refine zza 8 (.v (.tuple #[i12.v, j12.v])) (zza 11 (.v (i12.v)) (zza 12 (.v (j12.v)) (zzj 3 ⟨24, [.bool false, .slice none 0 0]⟩ (zzj 4 ⟨24, [.bool false, .slice none 0 0]⟩ (zzi ⟨24, i12.cs⟩ ty24 ?_)))))
 refine zzi ⟨24, j12.cs⟩ ty24 ?_
 refine zzb (sq9 (zzh 14 (.v (i12.v)) ty24 zze (zzh 15 (.v (j12.v)) ty24 zze (zzg 16 167 [i12.v, j12.v] ?_))))
 intro w16 u16 e16 d16
 have k23 := k_riDiv d16 (hi12.ext e16) (hj12.ext e16).raw (show ((D12 : Nat) : Int) ≠ 0 by have h9 := hp12; omega) xq xq
 with_reducible refine zPm k23 ?_
 rintro _ u21 g22 ⟨i17, i19, rfl, h18, h20⟩
 refine zza 13 (.v (.tuple #[i17.v, i19.v, .int .i64 0])) (zza 17 (.v (i17.v)) (zza 18 (.v (i19.v)) (zza 19 (zI 0) (zzj 5 ⟨24, [.bool false, .slice none 0 0]⟩ (zzj 6 ⟨24, [.bool false, .slice none 0 0]⟩ (zzi ⟨24, i17.cs⟩ ty24 ?_))))))
 refine zzi ⟨24, i19.cs⟩ ty24 ?_
 refine zza 7 (zI 0) (zzb (sq9 (zzh 20 (.v (i17.v)) ty24 zze (zzi ⟨24, i17.cs⟩ ty24 ?_))))
 refine zzb (zzn (ret0 [i17.v] ⟨zzq ty24 zze, trivial⟩ fun u24 e25 => ?_))
 refine ⟨i17, rfl, IntN.more (K := (K + 1)) ?_ xq⟩
 rw [hq12, Nt.flr_mk hp12]
 exact (h18.ext e25)
theorem k_bad {u w : World} {n : Int} (d : Dat u w) : Calls Tryz.prog 247 #[.int .i64 n] w (Post u w fun v _ => v = .bool (decide (n < 0 ∨ 256 < n))) := by
 refine zzl (args := [.int .i64 n]) Tryz.func247 rfl Tryz.ntmps247 (rs := [.tmp 2]) Tryz.results247 (le_b rfl) (le_b rfl) d ?_
 refine sq9 (zza 2 (zB false) (zzb (sq9 (zza 3 (zI n) (zza 4 (zB (decide (n < 0))) ?_)))))
 rcases Bool.eq_false_or_eq_true (decide (n < 0)) with hs11 | hs11
 ·refine zyn 5 (x := zB (decide (n < 0))) (zB true) (by rw [hs11]) ?_
  have qhs11 := of_decide_eq_true hs11
  refine zzm 6 (uw 2 false true 5) (zzm 7 (uw 2 false true 5) (zza 8 (zB true) (zza 2 (zB true) (zzb (zzn (ret0 [.bool true] ⟨zzp, trivial⟩ fun u12 e13 => ?_))))))
  show Value.bool _ = Value.bool _
  congr 1
  symm
  exact decide_eq_true (.inl (of_decide_eq_true hs11))
 ·refine zyn 5 (x := zB (decide (n < 0))) (zB false) (by rw [hs11]) ?_
  have qhs11 := of_decide_eq_false hs11
  refine zza 6 (zI n) ?_ (hw := w1 2 false 5)
  refine zza 7 (zB (decide ((256 : Int) < n))) ?_ (hw := w1 2 false 5)
  refine zza 8 (zB (decide ((256 : Int) < n))) (zza 2 (zB (decide ((256 : Int) < n))) (zzb (zzn (ret0 [.bool (decide ((256 : Int) < n))] ⟨zzp, trivial⟩ fun u14 e15 => ?_))))
  show Value.bool _ = Value.bool _
  congr 1
  symm
  have h9 := of_decide_eq_false hs11
  by_cases h8 : (256 : Int) < n
  ·rw [decide_eq_true h8]; exact decide_eq_true (.inr h8)
  ·rw [decide_eq_false h8]; exact decide_eq_false xq
set_option maxHeartbeats 1000000 in
theorem k_rdown {u w : World} {r : RL} {q : Rat} {K k : Nat} (hk : k ≤ 256) (d : Dat u w) (hr : RatV u r q K) (hK : K ≤ 1000000) : Calls Tryz.prog 248 #[r.v, .int .i64 (k : Int)] w (Post u w fun v u' => ∃ p : RL, v = p.v ∧ RatN u' p (Nt.dnQ q k) (K + 40)) := by
 refine zzl (args := [r.v, .int .i64 k]) Tryz.func248 rfl Tryz.ntmps248 (rs := [.cell 4 26]) Tryz.results248 (le_b rfl) (le_b rfl) d ?_
 refine sq9 (zzj 2 ⟨26, r.cs⟩ (zzj 4 ⟨26, [.bool false, .slice none 0 0, .slice none 0 0]⟩ (zzb (sq9 (zza 6 (zI k) (zzg 7 27 [.int .i64 k] ?_))))))
 intro w11 u11 e11 d11
 have k16 := k_unit (k := k) d11 xq
 with_reducible refine zPm k16 ?_
 rintro _ u14 g15 ⟨r12, rfl, h13⟩
 refine zzj 5 ⟨26, [.bool false, .slice none 0 0, .slice none 0 0]⟩ (zzi ⟨26, r12.cs⟩ ty26 ?_)
 refine zzb (zzd (zzy [0, 0, 3, 7, 0, 31, 0, 127, 255] [(0, []), (1, []), (4, []), (6, []), (2, []), (3, []), (5, []), (7, [12, 13]), (8, [])] xk xk (zzh 8 (.v (r.v)) ty26 zze (zzh 9 (.v (r12.v)) ty26 zze (sy_lit 12 ⟨104, [.int .u32 1]⟩ 1 ?_)))))
 refine zzh 14 (.v (r12.v)) ty26 zze (zzg 10 25 [r.v, r12.v] ?_)
 intro w17 u17 e17 d17
 have k22 := k_rqMul d17 (hr.ext (e11.trans (g15.ext.trans e17))) (h13.ext e17).raw xq xq
 with_reducible refine zPm k22 ?_
 rintro _ u20 g21 ⟨r18, rfl, h19⟩
 refine zzg 11 87 [r18.v] ?_
 intro w23 u23 e23 d23
 have k28 := k_floor d23 (h19.ext e23).raw xq
 with_reducible refine zPm k28 ?_
 rintro _ u26 g27 ⟨i24, rfl, h25⟩
 refine zza 13 (.ags i24.cs 12 0 1 1) (zym 15 88 [.ags i24.cs 12 0 1 1, .v (r12.v)] [12, 13] (.inr rfl) (pub_mk xz) (k := ?_))
 intro B29 w29 u29 e29 d29 v29
 have h31 : u29.heap[B29 12]? = some (.cells #[.int .u32 1] 104 (0, 0)) := v29 12 (by simp) _ rfl
 obtain ⟨b30, hBb30⟩ : ∃ b, B29 12 = b := ⟨_, rfl⟩
 rw [hBb30] at h31
 show Calls _ _ #[.agg #[.bool i24.s, .slice i24.m.a i24.m.n i24.m.c, .slice (some ⟨B29 12, 0, none⟩) 1 1], r12.v] _ _
 rw [hBb30]
 have k36 := k_rqOver d29 (rat_mk2 (s := i24.s) (h25.ext e29).raw (one_data h31).raw) (h13.ext (e17.trans (g21.ext.trans (e23.trans (g27.ext.trans e29))))).raw xq xq
 with_reducible refine zPm k36 ?_
 rintro _ u34 g35 ⟨r32, rfl, h33⟩
 refine zzi ⟨26, r32.cs⟩ ty26 ?_
 refine zzb (zzn (ret0 [r32.v] ⟨zzq ty26 zze, trivial⟩ fun u37 e38 => ?_))
 refine ⟨r32, rfl, RatN.more (K := ((max (max ((K + (k / 32 + 2) + 1) + 1) 1) 1) + (k / 32 + 2) + 2)) ?_ xq⟩
 unfold Nt.dnQ
 rw [Rat.mkRat_eq_div]
 have h9 := (h33.ext e38)
 rw [Nt.mk_one] at h9
 exact h9
set_option maxHeartbeats 1000000 in
theorem k_rdownG {u w : World} {r : RL} {q : Rat} {K : Nat} {k : Nat} (hk : k ≤ 256) (d : Dat u w) (hr : RatV u r q K) (hK : K ≤ 1000000) : Calls Tryz.prog 234 #[r.v, .int .i64 (k : Int)] w (Post u w fun v u' => ∃ p : RL, v = .tuple #[p.v, .int .i64 0] ∧ RatN u' p (Nt.dnQ q k) (K + 60)) := by
 refine zzl (args := [r.v, .int .i64 k]) Tryz.func234 rfl Tryz.ntmps234 (rs := [.cell 4 26, .tmp 5]) Tryz.results234 (le_b rfl) (le_b rfl) d ?_
 refine sq9 (zzj 2 ⟨26, r.cs⟩ (zzj 4 ⟨26, [.bool false, .slice none 0 0, .slice none 0 0]⟩ (zza 5 (zI 0) (zzb (zzd (sq9 (zza 6 (zI k) (zzg 7 247 [.int .i64 k] ?_))))))))
 intro w11 u11 e11 d11
 have k14 := k_bad (n := (k : Int)) d11
 with_reducible refine zPm k14 ?_
 rintro _ u12 g13 rfl
 refine zzb (zzt (b := decide ((k : Int) < 0 ∨ 256 < (k : Int))) xk (fun hb => ?_) (fun hb => ?_))
 ·exact absurd hb (by rw [show (decide ((k : Int) < 0 ∨ 256 < (k : Int))) = false from decide_eq_false xq]; decide)
 ·clear hb
  refine zzr (zzo ?_)
  refine sq9 (zzh 9 (.v (r.v)) ty26 zze (zza 10 (zI k) (zzg 11 248 [r.v, .int .i64 k] ?_)))
  intro w15 u15 e15 d15
  have k20 := k_rdown (k := k) xq d15 (hr.ext (e11.trans (g13.ext.trans e15))) xq
  with_reducible refine zPm k20 ?_
  rintro _ u18 g19 ⟨r16, rfl, h17⟩
  refine zzi ⟨26, r16.cs⟩ ty26 ?_
  refine zza 5 (zI 0) (zzb (zzn (ret0 [r16.v, .int .i64 0] ⟨zzq ty26 zze, zzp, trivial⟩ fun u21 e22 => ?_)))
  refine ⟨r16, rfl, RatN.more (K := (K + 40)) ?_ xq⟩
  exact (h17.ext e22)
set_option maxHeartbeats 1000000 in
theorem k_rupG {u w : World} {r : RL} {q : Rat} {K : Nat} {k : Nat} (hk : k ≤ 256) (d : Dat u w) (hr : RatV u r q K) (hK : K ≤ 1000000) : Calls Tryz.prog 235 #[r.v, .int .i64 (k : Int)] w (Post u w fun v u' => ∃ p : RL, v = .tuple #[p.v, .int .i64 0] ∧ RatN u' p (-Nt.dnQ (-q) k) (K + 60)) := by
 refine zzl (args := [r.v, .int .i64 k]) Tryz.func235 rfl Tryz.ntmps235 (rs := [.cell 4 26, .tmp 5]) Tryz.results235 (le_b rfl) (le_b rfl) d ?_
 refine sq9 (zzj 2 ⟨26, r.cs⟩ (zzj 4 ⟨26, [.bool false, .slice none 0 0, .slice none 0 0]⟩ (zza 5 (zI 0) (zzb (zzd (sq9 (zza 6 (zI k) (zzg 7 247 [.int .i64 k] ?_))))))))
 intro w11 u11 e11 d11
 have k14 := k_bad (n := (k : Int)) d11
 with_reducible refine zPm k14 ?_
 rintro _ u12 g13 rfl
 refine zzb (zzt (b := decide ((k : Int) < 0 ∨ 256 < (k : Int))) xk (fun hb => ?_) (fun hb => ?_))
 ·exact absurd hb (by rw [show (decide ((k : Int) < 0 ∨ 256 < (k : Int))) = false from decide_eq_false xq]; decide)
 ·clear hb
  refine zzr (zzo ?_)
  refine sq9 (zzh 9 (.v (r.v)) ty26 zze (zzg 10 39 [r.v] ?_))
  intro w15 u15 e15 d15
  have k20 := k_rqNeg d15 (hr.ext (e11.trans (g13.ext.trans e15))) xq
  with_reducible refine zPm k20 ?_
  rintro _ u18 g19 ⟨r16, rfl, h17⟩
  refine zza 11 (zI k) (zzg 12 248 [r16.v, .int .i64 k] ?_)
  intro w21 u21 e21 d21
  have k26 := k_rdown (k := k) xq d21 (h17.ext e21).raw xq
  with_reducible refine zPm k26 ?_
  rintro _ u24 g25 ⟨r22, rfl, h23⟩
  refine zzg 13 39 [r22.v] ?_
  intro w27 u27 e27 d27
  have k32 := k_rqNeg d27 (h23.ext e27).raw xq
  with_reducible refine zPm k32 ?_
  rintro _ u30 g31 ⟨r28, rfl, h29⟩
  refine zzi ⟨26, r28.cs⟩ ty26 ?_
  refine zza 5 (zI 0) (zzb (zzn (ret0 [r28.v, .int .i64 0] ⟨zzq ty26 zze, zzp, trivial⟩ fun u33 e34 => ?_)))
  refine ⟨r28, rfl, RatN.more (K := (K + 40)) ?_ xq⟩
  exact (h29.ext e34)
namespace Nt
theorem lo_neg (a b : Rat) : lo (-a) (-b) = -hi a b ∧ hi (-a) (-b) = -lo a b := by unfold lo hi; grind
theorem lohi9 (x y : Rat) : lo (lo x y) (hi x y) = lo x y ∧ hi (lo x y) (hi x y) = hi x y := lo_of_le (lo_le_hi x y)
theorem sub_ends (a b : Rat) (x : Rat) : x + lo (lo (-a) (-b)) (hi (-a) (-b)) = x - hi a b ∧ x + hi (lo (-a) (-b)) (hi (-a) (-b)) = x - lo a b := by
 rw [(lohi9 _ _).1, (lohi9 _ _).2, (lo_neg a b).1, (lo_neg a b).2, Rat.sub_eq_add_neg, Rat.sub_eq_add_neg]
 exact ⟨rfl, rfl⟩
def rndO (x1 x2 : Rat) (n : Int) : Option (Rat × Rat) := if n < 0 ∨ 256 < n then none else some (dnQ (lo x1 x2) n.toNat, -dnQ (-hi x1 x2) n.toNat)
def rndE (n : Int) : Int := if n < 0 ∨ 256 < n then 1 else 0
end Nt
def OptI (u : World) (a b : RL) (o : Option (Rat × Rat)) (K : Nat) : Prop := match o with | none => a = rl0 ∧ b = rl0 | some (p, q) => RatN u a p K ∧ RatN u b q K
theorem OptI.ext {u u' : World} {a b : RL} {o : Option (Rat × Rat)} {K : Nat} (h : OptI u a b o K) (e : Ext u u') : OptI u' a b o K := by
 cases o with
 | none => exact h
 | some x => exact ⟨h.1.ext e, h.2.ext e⟩
theorem k_r4neg {u w : World} {a1 a2 : RL} {x1 x2 : Rat} {K : Nat} (d : Dat u w) (ha1 : RatV u a1 x1 K) (ha2 : RatV u a2 x2 K) (hK : K ≤ 4000000) : Calls Tryz.prog 210 #[IV a1 a2] w (Post u w fun v u' => ∃ p q : RL, v = IV p q ∧ RatN u' p (Nt.lo (-x1) (-x2)) K ∧ RatN u' q (Nt.hi (-x1) (-x2)) K) := by
 refine zzl (args := [.agg #[.bool a1.s, .slice a1.m.a a1.m.n a1.m.c, .slice a1.d.a a1.d.n a1.d.c, .bool a2.s, .slice a2.m.a a2.m.n a2.m.c, .slice a2.d.a a2.d.n a2.d.c]]) Tryz.func210 rfl Tryz.ntmps210 (rs := [.cell 2 32]) Tryz.results210 (le_b rfl) (le_b rfl) d ?_
 refine sq9 (zzj 1 ⟨32, a1.cs ++ a2.cs⟩ (zzj 2 ⟨32, [.bool false, .slice none 0 0, .slice none 0 0, .bool false, .slice none 0 0, .slice none 0 0]⟩ (zzb (zzd (zzy [0, 1, 3, 0, 8, 31, 63, 127] [(0, []), (1, []), (3, []), (4, []), (2, []), (5, []), (6, []), (7, [])] xk xk (zza 3 (.adr 1 0) (zzh 4 (.v (a1.v)) ty26 zze (zza 6 (.adr 1 3) (zzh 7 (.v (a2.v)) ty26 zze (zzg 5 39 [a1.v] ?_))))))))))
 intro w11 u11 e11 d11
 have k16 := k_rqNeg d11 (ha1.ext e11) xq
 with_reducible refine zPm k16 ?_
 rintro _ u14 g15 ⟨r12, rfl, h13⟩
 refine zzg 8 39 [a2.v] ?_
 intro w17 u17 e17 d17
 have k22 := k_rqNeg d17 (ha2.ext (e11.trans (g15.ext.trans e17))) xq
 with_reducible refine zPm k22 ?_
 rintro _ u20 g21 ⟨r18, rfl, h19⟩
 refine zzg 9 38 [r12.v, r18.v] ?_
 intro w23 u23 e23 d23
 have k30 := k_r4Make d23 (h13.ext (e17.trans (g21.ext.trans e23))).raw (h19.ext e23).raw xq
 with_reducible refine zPm k30 ?_
 rintro _ u28 g29 ⟨r24, r26, rfl, h25, h27⟩
 refine zzi ⟨32, r24.cs ++ r26.cs⟩ ty32 ?_
 refine zzb (zzn (ret0 [.agg #[.bool r24.s, .slice r24.m.a r24.m.n r24.m.c, .slice r24.d.a r24.d.n r24.d.c, .bool r26.s, .slice r26.m.a r26.m.n r26.m.c, .slice r26.d.a r26.d.n r26.d.c]] ⟨zzq ty32 zze, trivial⟩ fun u31 e32 => ?_))
 refine ⟨r24, r26, rfl, RatN.more (K := K) ?_ xq, RatN.more (K := K) ?_ xq⟩
 ·exact (h25.ext e32)
 ·exact (h27.ext e32)
theorem k_r4Sub {u w : World} {a1 a2 : RL} {x1 x2 : Rat} {b1 b2 : RL} {y1 y2 : Rat} {K L : Nat} (d : Dat u w) (ha1 : RatV u a1 x1 K) (ha2 : RatV u a2 x2 K) (hb1 : RatV u b1 y1 L) (hb2 : RatV u b2 y2 L) (hK : K ≤ 4000000) (hL : L ≤ 4000000) : Calls Tryz.prog 145 #[IV a1 a2, IV b1 b2] w (Post u w fun v u' => ∃ p q : RL, v = IV p q ∧ RatN u' p (Nt.lo x1 x2 - Nt.hi y1 y2) (K + L + 2) ∧ RatN u' q (Nt.hi x1 x2 - Nt.lo y1 y2) (K + L + 2)) := by
 refine zzl (args := [.agg #[.bool a1.s, .slice a1.m.a a1.m.n a1.m.c, .slice a1.d.a a1.d.n a1.d.c, .bool a2.s, .slice a2.m.a a2.m.n a2.m.c, .slice a2.d.a a2.d.n a2.d.c], .agg #[.bool b1.s, .slice b1.m.a b1.m.n b1.m.c, .slice b1.d.a b1.d.n b1.d.c, .bool b2.s, .slice b2.m.a b2.m.n b2.m.c, .slice b2.d.a b2.d.n b2.d.c]]) Tryz.func145 rfl Tryz.ntmps145 (rs := [.cell 4 32]) Tryz.results145 (le_b rfl) (le_b rfl) d ?_
 refine sq9 (zzj 2 ⟨32, a1.cs ++ a2.cs⟩ (zzj 3 ⟨32, b1.cs ++ b2.cs⟩ (zzj 4 ⟨32, [.bool false, .slice none 0 0, .slice none 0 0, .bool false, .slice none 0 0, .slice none 0 0]⟩ (zzb (zzd (zzy [0, 0, 2, 7, 15] [(0, []), (1, []), (2, []), (3, []), (4, [])] xk xk (zzh 5 (.v (.agg #[.bool a1.s, a1.m.v, a1.d.v, .bool a2.s, a2.m.v, a2.d.v])) ty32 zze (zzh 6 (.v (.agg #[.bool b1.s, b1.m.v, b1.d.v, .bool b2.s, b2.m.v, b2.d.v])) ty32 zze (zzg 7 210 [.agg #[.bool b1.s, b1.m.v, b1.d.v, .bool b2.s, b2.m.v, b2.d.v]] ?_)))))))))
 intro w11 u11 e11 d11
 have k18 := k_r4neg d11 (hb1.ext e11) (hb2.ext e11) xq
 with_reducible refine zPm k18 ?_
 rintro _ u16 g17 ⟨r12, r14, rfl, h13, h15⟩
 refine zzg 8 43 [.agg #[.bool a1.s, a1.m.v, a1.d.v, .bool a2.s, a2.m.v, a2.d.v], .agg #[.bool r12.s, r12.m.v, r12.d.v, .bool r14.s, r14.m.v, r14.d.v]] ?_
 intro w19 u19 e19 d19
 have k26 := k_r4Add d19 (ha1.ext (e11.trans (g17.ext.trans e19))) (ha2.ext (e11.trans (g17.ext.trans e19))) (h13.ext e19).raw (h15.ext e19).raw xq xq
 with_reducible refine zPm k26 ?_
 rintro _ u24 g25 ⟨r20, r22, rfl, h21, h23⟩
 refine zzi ⟨32, r20.cs ++ r22.cs⟩ ty32 ?_
 refine zzb (zzn (ret0 [.agg #[.bool r20.s, .slice r20.m.a r20.m.n r20.m.c, .slice r20.d.a r20.d.n r20.d.c, .bool r22.s, .slice r22.m.a r22.m.n r22.m.c, .slice r22.d.a r22.d.n r22.d.c]] ⟨zzq ty32 zze, trivial⟩ fun u27 e28 => ?_))
 refine ⟨r20, r22, rfl, RatN.more (K := (K + L + 2)) ?_ xq, RatN.more (K := (K + L + 2)) ?_ xq⟩
 ·rw [← (Nt.sub_ends y1 y2 _).1]; exact (h21.ext e28)
 ·rw [← (Nt.sub_ends y1 y2 _).2]; exact (h23.ext e28)
theorem k_r4Sign {u w : World} {a1 a2 : RL} {x1 x2 : Rat} {K : Nat} (d : Dat u w) (ha1 : RatV u a1 x1 K) (ha2 : RatV u a2 x2 K) (hK : K ≤ 4000000) : Calls Tryz.prog 112 #[IV a1 a2] w (Post u w fun v u' => v = .int .i64 (Nt.sgI x1 x2)) := by
 refine zzl (args := [.agg #[.bool a1.s, .slice a1.m.a a1.m.n a1.m.c, .slice a1.d.a a1.d.n a1.d.c, .bool a2.s, .slice a2.m.a a2.m.n a2.m.c, .slice a2.d.a a2.d.n a2.d.c]]) Tryz.func112 rfl Tryz.ntmps112 (rs := [.tmp 2]) Tryz.results112 (le_b rfl) (le_b rfl) d ?_
 refine sq9 (zzj 1 ⟨32, a1.cs ++ a2.cs⟩ (zza 2 (zI 0) (zzb (sq9 (zzh 3 (.v (.agg #[.bool a1.s, a1.m.v, a1.d.v, .bool a2.s, a2.m.v, a2.d.v])) ty32 zze (zzg 4 95 [.agg #[.bool a1.s, a1.m.v, a1.d.v, .bool a2.s, a2.m.v, a2.d.v]] ?_))))))
 intro w11 u11 e11 d11
 have k18 := k_r4Trim d11 (ha1.ext e11) (ha2.ext e11) xq
 with_reducible refine zPm k18 ?_
 rintro _ u16 g17 ⟨r12, r14, rfl, h13, h15⟩
 refine zzi ⟨32, r12.cs ++ r14.cs⟩ ty32 ?_
 refine zzb (zzd (zzs (sq9 (zza 6 (.adr 1 0) (zzh 7 (.v (r12.v)) ty26 zze (zzg 8 29 [r12.v] ?_))))))
 intro w19 u19 e19 d19
 have k22 := k_rqSign d19 (h13.ext e19).raw xq
 with_reducible refine zPm k22 ?_
 rintro _ u20 g21 rfl
 refine zza 9 (zB (decide ((0 : Int) < (Nt.sgQ (Nt.lo x1 x2))))) (zza 5 (zB (decide ((0 : Int) < (Nt.sgQ (Nt.lo x1 x2))))) (zzb (zzt (b := decide ((0 : Int) < (Nt.sgQ (Nt.lo x1 x2)))) xk (fun hb23 => ?_) (fun hb23 => ?_))))
 ·replace hb23 : (decide ((0 : Int) < (Nt.sgQ (Nt.lo x1 x2)))) = true := hb23
  have qhb23 := of_decide_eq_true hb23
  refine sq9 (zza 2 (zI 1) (zzb (zzn (zyr (zzv (ret0 [.int .i64 1] ⟨zzp, trivial⟩ fun u24 e25 => ?_))))))
  show _ = _
  unfold Nt.sgI
  rw [Nt.sgQ_gt] at hb23
  rw [if_pos (of_decide_eq_true hb23)]
  rfl
 ·replace hb23 : (decide ((0 : Int) < (Nt.sgQ (Nt.lo x1 x2)))) = false := hb23
  have qhb23 := of_decide_eq_false hb23
  refine sq9 (zza 11 (.adr 1 3) (zzh 12 (.v (r14.v)) ty26 zze (zzg 13 29 [r14.v] ?_)))
  intro w26 u26 e26 d26
  have k29 := k_rqSign d26 (h15.ext (e19.trans (g21.ext.trans e26))).raw xq
  with_reducible refine zPm k29 ?_
  rintro _ u27 g28 rfl
  refine zza 14 (zB (decide ((Nt.sgQ (Nt.hi x1 x2)) < 0))) (zza 10 (zB (decide ((Nt.sgQ (Nt.hi x1 x2)) < 0))) (zzb (zzt (b := decide ((Nt.sgQ (Nt.hi x1 x2)) < 0)) xk (fun hb30 => ?_) (fun hb30 => ?_))))
  ·replace hb30 : (decide ((Nt.sgQ (Nt.hi x1 x2)) < 0)) = true := hb30
   have qhb30 := of_decide_eq_true hb30
   refine sq9 (zza 2 (zI (-1)) (zzb (zzn (zyr (zzv (ret0 [.int .i64 (-1)] ⟨zzp, trivial⟩ fun u31 e32 => ?_))))))
   show _ = _
   unfold Nt.sgI
   rw [Nt.sgQ_gt] at hb23
   rw [if_neg (of_decide_eq_false hb23)]
   rw [Nt.sgQ_lt] at hb30
   rw [if_pos (of_decide_eq_true hb30)]
   rfl
  ·replace hb30 : (decide ((Nt.sgQ (Nt.hi x1 x2)) < 0)) = false := hb30
   have qhb30 := of_decide_eq_false hb30
   refine zzr (zzo ?_)
   refine sq9 (zza 2 (zI 0) (zzb (zzn (ret0 [.int .i64 0] ⟨zzp, trivial⟩ fun u33 e34 => ?_))))
   show _ = _
   unfold Nt.sgI
   rw [Nt.sgQ_gt] at hb23
   rw [if_neg (of_decide_eq_false hb23)]
   rw [Nt.sgQ_lt] at hb30
   rw [if_neg (of_decide_eq_false hb30)]
   rfl
theorem k_r4Square {u w : World} {a1 a2 : RL} {x1 x2 : Rat} {K : Nat} (d : Dat u w) (ha1 : RatV u a1 x1 K) (ha2 : RatV u a2 x2 K) (hK : K ≤ 4000000) : Calls Tryz.prog 44 #[IV a1 a2] w (Post u w fun v u' => ∃ p q : RL, v = IV p q ∧ RatN u' p (if Nt.sgI x1 x2 = 0 then 0 else Nt.lo (x1 * x1) (x2 * x2)) (K + K + 3) ∧ RatN u' q (Nt.hi (x1 * x1) (x2 * x2)) (K + K + 3)) := by
 refine zzl (args := [.agg #[.bool a1.s, .slice a1.m.a a1.m.n a1.m.c, .slice a1.d.a a1.d.n a1.d.c, .bool a2.s, .slice a2.m.a a2.m.n a2.m.c, .slice a2.d.a a2.d.n a2.d.c]]) Tryz.func44 rfl Tryz.ntmps44 (rs := [.cell 2 32]) Tryz.results44 (le_b rfl) (le_b rfl) d ?_
 refine sq9 (zzj 1 ⟨32, a1.cs ++ a2.cs⟩ (zzj 2 ⟨32, [.bool false, .slice none 0 0, .slice none 0 0, .bool false, .slice none 0 0, .slice none 0 0]⟩ (zzb (zzd (zzy [0, 1, 0, 4, 15, 0, 32, 0, 128, 511, 1023, 0, 4095] [(0, []), (1, []), (2, []), (3, []), (5, []), (6, []), (7, []), (8, []), (11, []), (4, []), (9, []), (10, []), (12, [])] xk xk (zza 4 (.adr 1 0) (zzh 5 (.v (a1.v)) ty26 zze (zza 6 (.adr 1 0) (zzh 7 (.v (a1.v)) ty26 zze (zza 9 (.adr 1 3) (zzh 10 (.v (a2.v)) ty26 zze ?_)))))))))))
 refine zza 11 (.adr 1 3) (zzh 12 (.v (a2.v)) ty26 zze (zzj 3 ⟨32, [.bool false, .slice none 0 0, .slice none 0 0, .bool false, .slice none 0 0, .slice none 0 0]⟩ (zzg 8 25 [a1.v, a1.v] ?_)))
 intro w11 u11 e11 d11
 have k16 := k_rqMul d11 (ha1.ext e11) (ha1.ext e11) xq xq
 with_reducible refine zPm k16 ?_
 rintro _ u14 g15 ⟨r12, rfl, h13⟩
 refine zzg 13 25 [a2.v, a2.v] ?_
 intro w17 u17 e17 d17
 have k22 := k_rqMul d17 (ha2.ext (e11.trans (g15.ext.trans e17))) (ha2.ext (e11.trans (g15.ext.trans e17))) xq xq
 with_reducible refine zPm k22 ?_
 rintro _ u20 g21 ⟨r18, rfl, h19⟩
 refine zzg 14 38 [r12.v, r18.v] ?_
 intro w23 u23 e23 d23
 have k30 := k_r4Make d23 (h13.ext (e17.trans (g21.ext.trans e23))).raw (h19.ext e23).raw xq
 with_reducible refine zPm k30 ?_
 rintro _ u28 g29 ⟨r24, r26, rfl, h25, h27⟩
 refine zzi ⟨32, r24.cs ++ r26.cs⟩ ty32 ?_
 refine zzb (zzd (sq9 (zzh 15 (.v (.agg #[.bool a1.s, a1.m.v, a1.d.v, .bool a2.s, a2.m.v, a2.d.v])) ty32 zze (zzg 16 112 [.agg #[.bool a1.s, a1.m.v, a1.d.v, .bool a2.s, a2.m.v, a2.d.v]] ?_))))
 intro w31 u31 e31 d31
 have k34 := k_r4Sign d31 (ha1.ext (e11.trans (g15.ext.trans (e17.trans (g21.ext.trans (e23.trans (g29.ext.trans e31))))))) (ha2.ext (e11.trans (g15.ext.trans (e17.trans (g21.ext.trans (e23.trans (g29.ext.trans e31))))))) xq
 with_reducible refine zPm k34 ?_
 rintro _ u32 g33 rfl
 refine zza 17 (zB ((Nt.sgI x1 x2) == 0)) (zzb (zzt (b := (Nt.sgI x1 x2) == 0) xk (fun hb35 => ?_) (fun hb35 => ?_)))
 ·replace hb35 : ((Nt.sgI x1 x2) == 0) = true := hb35
  refine zzf (zzg 18 30 [.int .i64 0] ?_)
  intro w36 u36 e36 d36
  have k41 := k_rqOf d36 (z := 0) xq xq
  with_reducible refine zPm k41 ?_
  rintro _ u39 g40 ⟨r37, rfl, h38⟩
  refine zza 19 (.adr 3 0) (zzi ⟨32, r37.cs ++ r26.cs⟩ ty26 ?_)
  refine zzb (sq9 (zzh 20 (.v (.agg #[.bool r37.s, r37.m.v, r37.d.v, .bool r26.s, r26.m.v, r26.d.v])) ty32 zze (zzi ⟨32, r37.cs ++ r26.cs⟩ ty32 ?_)))
  refine zzb (zzn (ret0 [.agg #[.bool r37.s, .slice r37.m.a r37.m.n r37.m.c, .slice r37.d.a r37.d.n r37.d.c, .bool r26.s, .slice r26.m.a r26.m.n r26.m.c, .slice r26.d.a r26.d.n r26.d.c]] ⟨zzq ty32 zze, trivial⟩ fun u42 e43 => ?_))
  refine ⟨r37, r26, rfl, RatN.more (K := 2) ?_ xq, RatN.more (K := (K + K + 1)) ?_ xq⟩
  ·rw [if_pos (by simpa using hb35)]; exact (h38.ext e43)
  ·exact (h27.ext (e31.trans (g33.ext.trans (e36.trans (g40.ext.trans e43)))))
 ·replace hb35 : ((Nt.sgI x1 x2) == 0) = false := hb35
  refine zzr (zzo ?_)
  refine sq9 (zzh 20 (.v (.agg #[.bool r24.s, r24.m.v, r24.d.v, .bool r26.s, r26.m.v, r26.d.v])) ty32 zze (zzi ⟨32, r24.cs ++ r26.cs⟩ ty32 ?_))
  refine zzb (zzn (ret0 [.agg #[.bool r24.s, .slice r24.m.a r24.m.n r24.m.c, .slice r24.d.a r24.d.n r24.d.c, .bool r26.s, .slice r26.m.a r26.m.n r26.m.c, .slice r26.d.a r26.d.n r26.d.c]] ⟨zzq ty32 zze, trivial⟩ fun u44 e45 => ?_))
  refine ⟨r24, r26, rfl, RatN.more (K := (K + K + 1)) ?_ xq, RatN.more (K := (K + K + 1)) ?_ xq⟩
  ·rw [if_neg (by simpa using hb35)]; exact (h25.ext (e31.trans (g33.ext.trans e45)))
  ·exact (h27.ext (e31.trans (g33.ext.trans e45)))
set_option maxHeartbeats 1000000 in
theorem k_ivRoundG {u w : World} {a1 a2 : RL} {x1 x2 : Rat} {K : Nat} {k : Nat} (hk : k ≤ 256) (d : Dat u w) (ha1 : RatV u a1 x1 K) (ha2 : RatV u a2 x2 K) (hK : K ≤ 100000) : Calls Tryz.prog 227 #[IV a1 a2, .int .i64 (k : Int)] w (Post u w fun v u' => ∃ p q : RL, v = .tuple #[IV p q, .int .i64 (Nt.rndE (k : Int))] ∧ OptI u' p q (Nt.rndO x1 x2 (k : Int)) (K + 70)) := by
 refine zzl (args := [.agg #[.bool a1.s, .slice a1.m.a a1.m.n a1.m.c, .slice a1.d.a a1.d.n a1.d.c, .bool a2.s, .slice a2.m.a a2.m.n a2.m.c, .slice a2.d.a a2.d.n a2.d.c], .int .i64 k]) Tryz.func227 rfl Tryz.ntmps227 (rs := [.cell 4 32, .tmp 5]) Tryz.results227 (le_b rfl) (le_b rfl) d ?_
 refine sq9 (zzj 2 ⟨32, a1.cs ++ a2.cs⟩ (zzj 4 ⟨32, [.bool false, .slice none 0 0, .slice none 0 0, .bool false, .slice none 0 0, .slice none 0 0]⟩ (zza 5 (zI 0) (zzb (zzd (sq9 (zza 12 (zI k) (zza 13 (zB (decide ((k : Int) < 0))) (zyn 14 (x := zB (decide ((k : Int) < 0))) (zB false) (by rw [show (decide ((k : Int) < 0)) = false from decide_eq_false xq]) (zza 15 (zI k) ?_ (hw := w1 2 false 14)))))))))))
 refine zza 16 (zB (decide ((256 : Int) < (k : Int)))) ?_ (hw := w1 2 false 14)
 refine zza 17 (zB (decide ((256 : Int) < (k : Int)))) (zzb (zzt (b := decide ((256 : Int) < (k : Int))) xk (fun hb => ?_) (fun hb => ?_)))
 ·exact absurd hb (by rw [show (decide ((256 : Int) < (k : Int))) = false from decide_eq_false xq]; decide)
 ·clear hb
  refine zzr (zzo ?_)
  refine sq9 (zzh 20 (.v (.agg #[.bool a1.s, a1.m.v, a1.d.v, .bool a2.s, a2.m.v, a2.d.v])) ty32 zze (zzg 21 208 [.agg #[.bool a1.s, a1.m.v, a1.d.v, .bool a2.s, a2.m.v, a2.d.v]] ?_))
  intro w12 u12 e12 d12
  have k19 := k_ends d12 (ha1.ext e12) (ha2.ext e12) xq
  with_reducible refine zPm k19 ?_
  rintro _ u17 g18 ⟨r13, r15, rfl, h14, h16⟩
  refine zza 19 (.v (.tuple #[r13.v, r15.v])) (zza 22 (.v (r13.v)) (zza 23 (.v (r15.v)) (zzj 6 ⟨26, [.bool false, .slice none 0 0, .slice none 0 0]⟩ (zzj 7 ⟨26, [.bool false, .slice none 0 0, .slice none 0 0]⟩ (zzi ⟨26, r13.cs⟩ ty26 ?_)))))
  refine zzi ⟨26, r15.cs⟩ ty26 ?_
  refine zzb (sq9 (zzh 25 (.v (r13.v)) ty26 zze (zza 26 (zI k) (zzg 27 252 [r13.v, .int .i64 k] ?_))))
  intro w20 u20 e20 d20
  have k25 := k_downG (k := k) xq d20 (h14.ext e20) xq
  with_reducible refine zPm k25 ?_
  rintro _ u23 g24 ⟨r21, rfl, h22⟩
  refine zza 24 (.v (.tuple #[r21.v, .int .i64 0])) (zza 28 (.v (r21.v)) (zza 29 (zI 0) (zzj 8 ⟨26, [.bool false, .slice none 0 0, .slice none 0 0]⟩ (zzi ⟨26, r21.cs⟩ ty26 ?_))))
  refine zza 9 (zI 0) (zzb (sq9 (zzh 31 (.v (r15.v)) ty26 zze (zza 32 (zI k) (zzg 33 253 [r15.v, .int .i64 k] ?_)))))
  intro w26 u26 e26 d26
  have k31 := k_upG (k := k) xq d26 (h16.ext (e20.trans (g24.ext.trans e26))) xq
  with_reducible refine zPm k31 ?_
  rintro _ u29 g30 ⟨r27, rfl, h28⟩
  refine zza 30 (.v (.tuple #[r27.v, .int .i64 0])) (zza 34 (.v (r27.v)) (zza 35 (zI 0) (zzj 10 ⟨26, [.bool false, .slice none 0 0, .slice none 0 0]⟩ (zzi ⟨26, r27.cs⟩ ty26 ?_))))
  refine zza 11 (zI 0) (zzc 39 [(4, .adr 4 0), (8, .adr 8 0), (10, .adr 10 0)] [(4, ⟨32, [.bool false, .slice none 0 0, .slice none 0 0, .bool false, .slice none 0 0, .slice none 0 0]⟩), (8, ⟨26, r21.cs⟩), (10, ⟨26, r27.cs⟩)] (sq9 (zzh 36 (.v (r21.v)) ty26 zze (zzh 37 (.v (r27.v)) ty26 zze (zza 38 (.v (.agg #[.bool r21.s, r21.m.v, r21.d.v, .bool r27.s, r27.m.v, r27.d.v])) (zzi ⟨32, r21.cs ++ r27.cs⟩ ty32 ?_))))))
  refine zza 5 (zI 0) (zzb (zzn (ret0 [.agg #[.bool r21.s, .slice r21.m.a r21.m.n r21.m.c, .slice r21.d.a r21.d.n r21.d.c, .bool r27.s, .slice r27.m.a r27.m.n r27.m.c, .slice r27.d.a r27.d.n r27.d.c], .int .i64 0] ⟨zzq ty32 zze, zzp, trivial⟩ fun u32 e33 => ?_)))
  have h9 : ¬ ((k : Int) < 0 ∨ 256 < (k : Int)) := by omega
  refine ⟨r21, r27, by unfold Nt.rndE; rw [if_neg h9]; rfl, ?_⟩
  unfold Nt.rndO
  rw [if_neg h9, Int.toNat_natCast]
  exact ⟨RatN.more (K := (K + 20)) (h22.ext (e26.trans (g30.ext.trans e33))) xq, RatN.more (K := (K + 20)) (h28.ext e33) xq⟩
set_option maxHeartbeats 1000000 in
theorem k_r4RoundG {u w : World} {a1 a2 : RL} {x1 x2 : Rat} {K : Nat} {k : Nat} (hk : k ≤ 256) (d : Dat u w) (ha1 : RatV u a1 x1 K) (ha2 : RatV u a2 x2 K) (hK : K ≤ 100000) : Calls Tryz.prog 186 #[IV a1 a2, .int .i64 (k : Int)] w (Post u w fun v u' => ∃ p q : RL, v = .tuple #[IV p q, .int .i64 (Nt.rndE (k : Int))] ∧ OptI u' p q (Nt.rndO x1 x2 (k : Int)) (K + 70)) := by
 refine zzl (args := [.agg #[.bool a1.s, .slice a1.m.a a1.m.n a1.m.c, .slice a1.d.a a1.d.n a1.d.c, .bool a2.s, .slice a2.m.a a2.m.n a2.m.c, .slice a2.d.a a2.d.n a2.d.c], .int .i64 k]) Tryz.func186 rfl Tryz.ntmps186 (rs := [.cell 4 32, .tmp 5]) Tryz.results186 (le_b rfl) (le_b rfl) d ?_
 refine sq9 (zzj 2 ⟨32, a1.cs ++ a2.cs⟩ (zzj 4 ⟨32, [.bool false, .slice none 0 0, .slice none 0 0, .bool false, .slice none 0 0, .slice none 0 0]⟩ (zza 5 (zI 0) (zzb (sq9 (zzh 10 (.v (.agg #[.bool a1.s, a1.m.v, a1.d.v, .bool a2.s, a2.m.v, a2.d.v])) ty32 zze (zzg 11 95 [.agg #[.bool a1.s, a1.m.v, a1.d.v, .bool a2.s, a2.m.v, a2.d.v]] ?_)))))))
 intro w11 u11 e11 d11
 have k18 := k_r4Trim d11 (ha1.ext e11) (ha2.ext e11) xq
 with_reducible refine zPm k18 ?_
 rintro _ u16 g17 ⟨r12, r14, rfl, h13, h15⟩
 refine zzi ⟨32, r12.cs ++ r14.cs⟩ ty32 ?_
 refine zzb (sq9 (zza 13 (.adr 2 0) (zzh 14 (.v (r12.v)) ty26 zze (zza 15 (zI k) (zzg 16 234 [r12.v, .int .i64 k] ?_)))))
 intro w19 u19 e19 d19
 have k24 := k_rdownG (k := k) xq d19 (h13.ext e19).raw xq
 with_reducible refine zPm k24 ?_
 rintro _ u22 g23 ⟨r20, rfl, h21⟩
 refine zza 12 (.v (.tuple #[r20.v, .int .i64 0])) (zza 17 (.v (r20.v)) (zza 18 (zI 0) (zzj 6 ⟨26, [.bool false, .slice none 0 0, .slice none 0 0]⟩ (zzi ⟨26, r20.cs⟩ ty26 ?_))))
 refine zza 7 (zI 0) (zzb (zzd (sq9 (zza 19 (zI 0) (zza 20 (zB false) (zzb (zyp xk (zzr (zzo ?_)))))))))
 refine sq9 (zza 24 (.adr 2 3) (zzh 25 (.v (r14.v)) ty26 zze (zza 26 (zI k) (zzg 27 235 [r14.v, .int .i64 k] ?_))))
 intro w25 u25 e25 d25
 have k30 := k_rupG (k := k) xq d25 (h15.ext (e19.trans (g23.ext.trans e25))).raw xq
 with_reducible refine zPm k30 ?_
 rintro _ u28 g29 ⟨r26, rfl, h27⟩
 refine zza 23 (.v (.tuple #[r26.v, .int .i64 0])) (zza 28 (.v (r26.v)) (zza 29 (zI 0) (zzj 8 ⟨26, [.bool false, .slice none 0 0, .slice none 0 0]⟩ (zzi ⟨26, r26.cs⟩ ty26 ?_))))
 refine zza 9 (zI 0) (zzb (sq9 (zzh 30 (.v (r20.v)) ty26 zze (zzh 31 (.v (r26.v)) ty26 zze (zza 32 (.v (.agg #[.bool r20.s, r20.m.v, r20.d.v, .bool r26.s, r26.m.v, r26.d.v])) (zzi ⟨32, r20.cs ++ r26.cs⟩ ty32 ?_))))))
 refine zza 5 (zI 0) (zzc 33 [(4, .adr 4 0), (5, zI 0)] [(4, ⟨32, r20.cs ++ r26.cs⟩)] (zzn (ret0 [.agg #[.bool r20.s, .slice r20.m.a r20.m.n r20.m.c, .slice r20.d.a r20.d.n r20.d.c, .bool r26.s, .slice r26.m.a r26.m.n r26.m.c, .slice r26.d.a r26.d.n r26.d.c], .int .i64 0] ⟨zzq ty32 zze, zzp, trivial⟩ fun u31 e32 => ?_)))
 have h9 : ¬ ((k : Int) < 0 ∨ 256 < (k : Int)) := by omega
 refine ⟨r20, r26, by unfold Nt.rndE; rw [if_neg h9]; rfl, ?_⟩
 unfold Nt.rndO
 rw [if_neg h9, Int.toNat_natCast]
 exact ⟨RatN.more (K := (K + 60)) (h21.ext (e25.trans (g29.ext.trans e32))) xq, RatN.more (K := (K + 60)) (h27.ext e32) xq⟩
@[reducible] def SP (a b : IL) : Value := .agg #[.bool a.s, .slice a.m.a a.m.n a.m.c, .bool b.s, .slice b.m.a b.m.n b.m.c]
namespace Nt
theorem pw_u2 (k : Nat) : pw k = u2 (32 * k) := by
 induction k with
 | zero => rfl
 | succ k ih =>
  have h : u2 (32 * (k + 1)) = u2 (32 * k) * u2 32 := by rw [← u2_add]; rfl
  have e : u2 32 = 4294967296 := by decide +kernel
  show 4294967296 * pw k = _
  rw [ih, h, e, Int.mul_comm]
theorem dl_u2 {z : Int} {L b : Nat} (h0 : -(u2 b) ≤ z) (h1 : z ≤ u2 b) (h : b < 32 * L) : dl z.natAbs ≤ L := by
 refine dl_le ?_
 rw [pw_u2]
 have h2 := u2_mono (a := b + 1) (b := 32 * L) xq
 have h3 : u2 (b + 1) = u2 b * 2 := u2_add b 1
 have h4 := u2_pos b
 omega
theorem big {w : Nat} (hw : w ≤ 800) : 8 * u2 w + 1152921504606846976 ≤ u2 1000 := by
 have h1 := u2_mono hw
 have h2 : 8 * u2 800 + 1152921504606846976 ≤ u2 1000 := by decide +kernel
 omega
theorem cmp_le (x y : Int) : decide (cmpS x y ≤ 0) = decide (x ≤ y) := by
 rw [decide_eq_decide]
 rcases cmp_range x y with ⟨e, h⟩ | ⟨e, h⟩ | ⟨e, h⟩ <;> rw [e] <;> omega
theorem cmp_ne (x y : Int) : (cmpS x y != 0) = decide (x ≠ y) := by
 rcases cmp_range x y with ⟨e, h⟩ | ⟨e, h⟩ | ⟨e, h⟩ <;> rw [e] <;> simp <;> omega
theorem csW_le {w : Nat} (hw : w ≤ 800) : csW w * ((w : Int) + 4) + 2 ≤ 1000000000 ∧ 0 ≤ csW w * ((w : Int) + 2) ∧ csW w * ((w : Int) + 2) ≤ 1000000000 := by
 have h0 : 0 ≤ csW w := by unfold csW; omega
 have h1 : csW w ≤ 411211 := by unfold csW; omega
 have h2 := Int.mul_le_mul h1 (show (w : Int) + 4 ≤ 804 by omega) xq xw
 have h3 := Int.mul_le_mul_of_nonneg_left (show (w : Int) + 2 ≤ (w : Int) + 4 by omega) h0
 have h4 := Int.mul_nonneg h0 (show 0 ≤ (w : Int) + 2 by omega)
 omega
theorem width_lt {lo hi : Int} {g w : Nat} (h : hi - lo ≤ 1000000000) (hw : g + 37 ≤ w) : hi - lo < u2 (w - g) := by
 have h1 := u2_mono (a := 37) (b := w - g) xq
 have h2 : u2 37 = 137438953472 := by decide +kernel
 omega
theorem atR_bd {n w : Nat} {a b : Int} (h : AtR n w a b) (hn : 0 < n) : -(5 * (w : Int) + 8) ≤ a ∧ a ≤ u2 w ∧ 0 ≤ b ∧ b ≤ u2 w + 5 * (w : Int) + 8 ∧ a ≤ b := by
 obtain ⟨⟨N, h1⟩, h2⟩ := h
 have h3 := h1 (N + 1) xq
 have k1 := atT_b (n := n) hn (m := N + 1) xq
 have k2 := atT_le hn 0
 have hU := castI_pos (u2_pos w)
 have h4 : alt (atT n) (N + 1) ≤ 1 := by
  refine Rat.le_trans k1.2 ?_
  refine Rat.le_trans (div_le_self (atP_nn hn 0) (cast_one xq)) ?_
  show 1 / (n : Rat) ≤ 1
  exact div_le_self xw (cast_one hn)
 have h5 := h3.lo_le (c := u2 w) (by
  have := Rat.mul_le_mul_of_nonneg_right h4 (Rat.le_of_lt hU)
  rwa [Rat.one_mul] at this)
 have h6 := h3.nonneg (by grind) (u2_pos w)
 have := h3.le
 omega
theorem coD_mul {j : Nat} (h : j ≤ 1000) : IntKind.i64.wrap (((2 * j + 2 : Nat) : Int) * ((2 * j + 2 - 1 : Nat) : Int)) = coD j ∧ coD j ≤ 10000000 := by
 have h1 := Nat.mul_le_mul (show 2 * j + 2 ≤ 2002 by omega) (show 2 * j + 1 ≤ 2001 by omega)
 have e : ((2 * j + 2 : Nat) : Int) * ((2 * j + 2 - 1 : Nat) : Int) = coD j := by
  unfold coD
  rw [Int.natCast_mul, show 2 * j + 2 - 1 = 2 * j + 1 by omega]
 have h2 : coD j ≤ 10000000 := by unfold coD; omega
 have h3 := coD_pos j
 rw [e]
 exact ⟨IntWalk.i64_in _ xq, h2⟩
theorem csR_bd {p q w : Nat} {a b : Int} (h : CsR p q w a b) (h0 : 0 < q) (hp : 2 * p ≤ q) (hw : w ≤ 800) : -(3 * u2 w) - 1000000000 ≤ a ∧ a ≤ 3 * u2 w ∧ -(3 * u2 w) ≤ b ∧ b ≤ 3 * u2 w + 1000000000 ∧ a ≤ b ∧ b - a ≤ 1000000000 := by
 have h9 := csW_le hw
 obtain ⟨⟨N, h1⟩, h2⟩ := h
 have h3 := h1 (N + 1) xq
 have h4 := cs_bd (N := N) (m := N + 1) h0 hp xq xq h3
 have := h3.le
 omega
theorem piR_w {w : Nat} {a b : Int} (h : PiR w a b) (hw : w ≤ 800) : b - a ≤ 1000000000 := by have := h.2; omega
theorem flo_of {X : Nat → Rat} {b w : Nat} {lo hi : Int} (h : ∃ N : Nat, ∀ m, N ≤ m → Enc (u2 w) lo hi (X m)) (hb : b ≤ w) (he : (cmpS (lo / u2 (w - b)) (hi / u2 (w - b)) != 0) = false) : lo / u2 (w - b) = flo X b := by
 rw [cmp_ne] at he
 have h1 : lo / u2 (w - b) = hi / u2 (w - b) := by simpa using he
 exact (FlO.of h hb rfl h1.symm).flo.symm
theorem not_yet {X : Nat → Rat} {b g w : Nat} {lo hi : Int} (hg : Gap X b g) (h : ∃ N : Nat, ∀ m, N ≤ m → Enc (u2 w) lo hi (X m)) (hw : hi - lo ≤ 1000000000) (he : (cmpS (lo / u2 (w - b)) (hi / u2 (w - b)) != 0) = true) : w < g + 37 := by
 rcases Nat.lt_or_ge w (g + 37) with k | k
 ·exact k
 ·have := hg.decides h xq (width_lt hw k)
  rw [cmp_ne] at he
  exact absurd this (by simpa using he)
theorem dnQ_int (z : Int) (b : Nat) : dnQ (z : Rat) b = (z : Rat) := by
 unfold dnQ
 have e : (z : Rat) * ((2 ^ b : Nat) : Rat) = ((z * ((2 ^ b : Nat) : Int) : Int) : Rat) := by rw [Rat.intCast_mul]; rfl
 have f : flr ((z * ((2 ^ b : Nat) : Int) : Int) : Rat) = z * ((2 ^ b : Nat) : Int) := by
  unfold flr
  show (z * ((2 ^ b : Nat) : Int)) / ((1 : Nat) : Int) = _
  exact Int.ediv_one _
 have hp : (2 ^ b : Nat) ≠ 0 := by have := Nat.pow_pos (n := b) (show 0 < 2 by decide); omega
 rw [e, f, Rat.mkRat_eq_div, Rat.intCast_mul]
 show (z : Rat) * ((2 ^ b : Nat) : Rat) / ((2 ^ b : Nat) : Rat) = _
 have : ((2 ^ b : Nat) : Rat) ≠ 0 := by
  have := cast_pos (Nat.pow_pos (n := b) (show 0 < 2 by decide))
  grind
 generalize ((2 ^ b : Nat) : Rat) = x at *
 grind
theorem rnd_pt {q : Rat} {k : Nat} (hk : k ≤ 256) : rndO (lo q q) (hi q q) (k : Int) = some (dnQ q k, -dnQ (-q) k) := by
 unfold rndO
 have e := lo_of_le (Rat.le_refl (a := q))
 rw [if_neg (show ¬ ((k : Int) < 0 ∨ 256 < (k : Int)) by omega), e.1, e.2, e.1, e.2, Int.toNat_natCast]
theorem cosA_0 {r q b : Nat} (h : r = 0) : cosA r q b = (dnQ ((1 : Int) : Rat) b, -dnQ (-((1 : Int) : Rat)) b) := by
 have e : -((1 : Int) : Rat) = ((-1 : Int) : Rat) := rfl
 unfold cosA
 rw [if_pos h, dnQ_int, e, dnQ_int]; rfl
theorem cosA_h {r q b : Nat} (h : ¬ r = 0) (h2 : 2 * r = q) : cosA r q b = (dnQ ((0 : Int) : Rat) b, -dnQ (-((0 : Int) : Rat)) b) := by
 have e : -((0 : Int) : Rat) = ((0 : Int) : Rat) := rfl
 unfold cosA
 rw [if_neg h, if_pos h2, e, dnQ_int]; rfl
theorem cosA_3 {r q b : Nat} (h : ¬ r = 0) (h2 : ¬ 2 * r = q) (h3 : 3 * r = q) : cosA r q b = (dnQ (((1 : Int) : Rat) / ((2 : Int) : Rat)) b, -dnQ (-(((1 : Int) : Rat) / ((2 : Int) : Rat))) b) := by
 unfold cosA
 rw [if_neg h, if_neg h2, if_pos h3]; rfl
theorem cosA_g {r q b : Nat} (h : ¬ r = 0) (h2 : ¬ 2 * r = q) (h3 : ¬ 3 * r = q) : cosA r q b = (gr b (flo (coN r q) b), gr b (flo (coN r q) b + 1)) := by
 unfold cosA
 rw [if_neg h, if_neg h2, if_neg h3]
theorem cosV_lo {p : Int} {q b r : Nat} (h : fold p q = r) (h2 : ¬ q < 2 * r) : cosV p q b = cosA r q b := by
 unfold cosV cosF; rw [h, if_neg h2]
theorem cosV_hi {p : Int} {q b r : Nat} (h : fold p q = r) (h2 : q < 2 * r) : cosV p q b = (-(cosA (q - r) q b).2, -(cosA (q - r) q b).1) := by
 unfold cosV cosF; rw [h, if_pos h2]
theorem fold_id {r q : Nat} (h : r ≤ q) : fold (r : Int) q = r := by
 unfold fold
 dsimp only
 rcases Nat.eq_zero_or_pos q with h0 | h0
 ·have : r = 0 := by omega
  subst this; subst h0; rfl
 ·rw [Int.tmod_eq_of_lt xq xq, if_neg xq]
  omega
theorem tmod_bd (p : Int) {q : Nat} (hq : 0 < q) : -(2 * (q : Int)) < Int.tmod p (2 * (q : Int)) ∧ Int.tmod p (2 * (q : Int)) < 2 * (q : Int) := ⟨Int.lt_tmod_of_pos p xq, Int.tmod_lt_of_pos p xq⟩
end Nt
theorem IntN.fit {u : World} {i : IL} {z : Int} {K L : Nat} (h : IntN u i z K) (k : dl z.natAbs ≤ L) : IntN u i z L := ⟨h.1, h.2.1, h.2.2.1, k⟩
theorem IntN.lim {u : World} {i : IL} {z : Int} {K : Nat} (h : IntN u i z K) (h0 : -(Nt.u2 1000) ≤ z) (h1 : z ≤ Nt.u2 1000) : IntN u i z 40 := h.fit (Nt.dl_u2 h0 h1 xw)
theorem IntN.lim2 {u : World} {i : IL} {z : Int} {K : Nat} (h : IntN u i z K) (h0 : -(Nt.u2 1000) ≤ z) (h1 : z ≤ Nt.u2 1000) : IntN u i z 42 := (h.lim h0 h1).more xw
theorem k_intDivI {u w : World} {i1 i2 : IL} {z D : Int} {K L : Nat} (d : Dat u w) (h1 : IntV u i1 z K) (h2 : IntN u i2 D L) (hD : 0 < D) (hK : K ≤ 100000000) (hL : L ≤ 100000000) : Calls Tryz.prog 180 #[i1.v, i2.v] w (Post u w fun v u' => ∃ i j : IL, v = .tuple #[i.v, j.v, .int .i64 0] ∧ IntN u' i (z / D) (K + 1) ∧ IntN u' j (z % D) L) := by
 obtain ⟨s, y⟩ := i2
 have hs : s = false := by have h3 := h2.1; rw [decide_eq_false xq] at h3; exact h3
 subst hs
 have hd : ((D.natAbs : Nat) : Int) = D := by omega
 have := k_intDivP d h1 (y := y) (M := D.natAbs) h2.2.raw xq hK hL
 rw [hd] at this
 exact this
theorem k_intSub {u w : World} {i1 : IL} {zN : Int} {K : Nat} {i2 : IL} {zM : Int} {L : Nat} (d : Dat u w) (hi1 : IntV u i1 zN K) (hi2 : IntV u i2 zM L) (hK : K ≤ 400000000) (hL : L ≤ 400000000) : Calls Tryz.prog 233 #[i1.v, i2.v] w (Post u w fun v u' => ∃ i : IL, v = i.v ∧ IntN u' i (zN - zM) (max K L + 1)) := by
 obtain ⟨N, hN, hzN⟩ := hi1
 obtain ⟨M, hM, hzM⟩ := hi2
 refine zzl (args := [i1.v, i2.v]) Tryz.func233 rfl Tryz.ntmps233 (rs := [.cell 4 24]) Tryz.results233 (le_b rfl) (le_b rfl) d ?_
 refine sq9 (zzj 2 ⟨24, i1.cs⟩ (zzj 3 ⟨24, i2.cs⟩ (zzj 4 ⟨24, [.bool false, .slice none 0 0]⟩ (zzb (sq9 (zzh 5 (.v (i1.v)) ty24 zze (zza 6 (.adr 3 0) (zzh 7 (zB i2.s) ty4 zzk (zza 8 (zB (!i2.s)) (zza 9 (.adr 3 1) (zzh 10 (.v i2.m.v) ty22 zzk ?_)))))))))))
 refine zza 11 (.v (.agg #[.bool (!i2.s), i2.m.v])) (zzg 12 159 [i1.v, .agg #[.bool (!i2.s), i2.m.v]] ?_)
 intro w11 u11 e11 d11
 have k16 := k_intAdd d11 (IntV.same (s := i1.s) (hN.ext e11)) (IntV.same (s := !i2.s) (hM.ext e11)) xq xq
 with_reducible refine zPm k16 ?_
 rintro _ u14 g15 ⟨i12, rfl, h13⟩
 refine zzi ⟨24, i12.cs⟩ ty24 ?_
 refine zzb (zzn (ret0 [i12.v] ⟨zzq ty24 zze, trivial⟩ fun u17 e18 => ?_))
 refine ⟨i12, rfl, IntN.more (K := (max K L + 1)) ?_ xq⟩
 have e9 : zN - zM = Nt.sg i1.s N + Nt.sg (!i2.s) M := by rw [hzN, hzM]; unfold Nt.sg; cases i1.s <;> cases i2.s <;> simp <;> omega
 rw [e9]
 exact (h13.ext e18)
theorem k_eUnit {u w : World} {k : Nat} (d : Dat u w) (hk : k ≤ 65536) : Calls Tryz.prog 161 #[.int .i64 (k : Int)] w (Post u w fun v u' => ∃ i : IL, v = SP i i ∧ IntN u' i (Nt.u2 k) (k / 32 + 2)) := by
 refine zzl (args := [.int .i64 k]) Tryz.func161 rfl Tryz.ntmps161 (rs := [.cell 2 160]) Tryz.results161 (le_b rfl) (le_b rfl) d ?_
 refine sq9 (zzj 2 ⟨160, [.bool false, .slice none 0 0, .bool false, .slice none 0 0]⟩ (zzb (sq9 (zxp 4 ⟨104, [.int .u32 1]⟩ 1 (fun b11 u12 e13 h14 => ?_)))))
 refine zza 5 (zI k) (zzg 6 79 [.slice (some ⟨b11, 0, none⟩) 1 1, .int .i64 k] ?_)
 intro w15 u15 e15 d15
 have k20 := k_natShift (s := k) d15 ((one_data h14).ext e15).raw xq xq
 with_reducible refine zPm k20 ?_
 rintro _ u18 g19 ⟨x16, rfl, h17⟩
 refine zza 7 (.v (.agg #[.bool false, x16.v])) (zzj 3 ⟨24, [.bool false, .slice none 0 0]⟩ (zzi ⟨24, [.bool false, x16.v]⟩ ty24 ?_))
 refine zzb (sq9 (zzh 8 (.v (.agg #[.bool false, x16.v])) ty24 zze (zzh 9 (.v (.agg #[.bool false, x16.v])) ty24 zze (zza 10 (.v (.agg #[.bool false, x16.v, .bool false, x16.v])) (zzi ⟨160, [.bool false, x16.v, .bool false, x16.v]⟩ ty160 ?_)))))
 refine zzb (zzn (ret0 [.agg #[.bool false, .slice x16.a x16.n x16.c, .bool false, .slice x16.a x16.n x16.c]] ⟨zzq ty160 zze, trivial⟩ fun u21 e22 => ?_))
 refine ⟨(⟨false, x16⟩ : IL), rfl, ?_⟩
 have h9 := nat_intN (h17.ext e22)
 rw [Nat.one_mul] at h9
 exact h9.more xq
theorem k_eAdd {u w : World} {i j : IL} {a b : Int} {K : Nat} {k l : IL} {e f : Int} {L : Nat} (d : Dat u w) (hi : IntN u i a K) (hj : IntN u j b K) (hk : IntN u k e L) (hl : IntN u l f L) (hK : K ≤ 1000000) (hL : L ≤ 1000000) : Calls Tryz.prog 230 #[SP i j, SP k l] w (Post u w fun v u' => ∃ i j : IL, v = SP i j ∧ IntN u' i (a + e) (max K L + 1) ∧ IntN u' j (b + f) (max K L + 1)) := by
 refine zzl (args := [.agg #[.bool i.s, .slice i.m.a i.m.n i.m.c, .bool j.s, .slice j.m.a j.m.n j.m.c], .agg #[.bool k.s, .slice k.m.a k.m.n k.m.c, .bool l.s, .slice l.m.a l.m.n l.m.c]]) Tryz.func230 rfl Tryz.ntmps230 (rs := [.cell 4 160]) Tryz.results230 (le_b rfl) (le_b rfl) d ?_
 refine sq9 (zzj 2 ⟨160, i.cs ++ j.cs⟩ (zzj 3 ⟨160, k.cs ++ l.cs⟩ (zzj 4 ⟨160, [.bool false, .slice none 0 0, .bool false, .slice none 0 0]⟩ (zzb (zzd (zzy [0, 1, 0, 4, 15, 0, 32, 0, 128, 511, 1023, 2047] [(0, []), (1, []), (2, []), (3, []), (5, []), (6, []), (7, []), (8, []), (4, []), (9, []), (10, []), (11, [])] xk xk (zza 5 (.adr 2 0) (zzh 6 (.v (i.v)) ty24 zze (zza 7 (.adr 3 0) (zzh 8 (.v (k.v)) ty24 zze (zza 10 (.adr 2 2) ?_)))))))))))
 refine zzh 11 (.v (j.v)) ty24 zze (zza 12 (.adr 3 2) (zzh 13 (.v (l.v)) ty24 zze (zzg 9 159 [i.v, k.v] ?_)))
 intro w11 u11 e11 d11
 have k16 := k_intAdd d11 (hi.ext e11).raw (hk.ext e11).raw xq xq
 with_reducible refine zPm k16 ?_
 rintro _ u14 g15 ⟨i12, rfl, h13⟩
 refine zzg 14 159 [j.v, l.v] ?_
 intro w17 u17 e17 d17
 have k22 := k_intAdd d17 (hj.ext (e11.trans (g15.ext.trans e17))).raw (hl.ext (e11.trans (g15.ext.trans e17))).raw xq xq
 with_reducible refine zPm k22 ?_
 rintro _ u20 g21 ⟨i18, rfl, h19⟩
 refine zza 15 (.v (.agg #[.bool i12.s, i12.m.v, .bool i18.s, i18.m.v])) (zzi ⟨160, i12.cs ++ i18.cs⟩ ty160 ?_)
 refine zzb (zzn (ret0 [.agg #[.bool i12.s, .slice i12.m.a i12.m.n i12.m.c, .bool i18.s, .slice i18.m.a i18.m.n i18.m.c]] ⟨zzq ty160 zze, trivial⟩ fun u23 e24 => ?_))
 refine ⟨i12, i18, rfl, IntN.more (K := (max K L + 1)) ?_ xq, IntN.more (K := (max K L + 1)) ?_ xq⟩
 ·exact (h13.ext (e17.trans (g21.ext.trans e24)))
 ·exact (h19.ext e24)
theorem k_eSub {u w : World} {i j : IL} {a b : Int} {K : Nat} {k l : IL} {e f : Int} {L : Nat} (d : Dat u w) (hi : IntN u i a K) (hj : IntN u j b K) (hk : IntN u k e L) (hl : IntN u l f L) (hK : K ≤ 1000000) (hL : L ≤ 1000000) : Calls Tryz.prog 184 #[SP i j, SP k l] w (Post u w fun v u' => ∃ i j : IL, v = SP i j ∧ IntN u' i (a - f) (max K L + 1) ∧ IntN u' j (b - e) (max K L + 1)) := by
 refine zzl (args := [.agg #[.bool i.s, .slice i.m.a i.m.n i.m.c, .bool j.s, .slice j.m.a j.m.n j.m.c], .agg #[.bool k.s, .slice k.m.a k.m.n k.m.c, .bool l.s, .slice l.m.a l.m.n l.m.c]]) Tryz.func184 rfl Tryz.ntmps184 (rs := [.cell 4 160]) Tryz.results184 (le_b rfl) (le_b rfl) d ?_
 refine sq9 (zzj 2 ⟨160, i.cs ++ j.cs⟩ (zzj 3 ⟨160, k.cs ++ l.cs⟩ (zzj 4 ⟨160, [.bool false, .slice none 0 0, .bool false, .slice none 0 0]⟩ (zzb (zzd (zzy [0, 1, 0, 4, 15, 0, 32, 0, 128, 511, 1023, 2047] [(0, []), (1, []), (2, []), (3, []), (5, []), (6, []), (7, []), (8, []), (4, []), (9, []), (10, []), (11, [])] xk xk (zza 5 (.adr 2 0) (zzh 6 (.v (i.v)) ty24 zze (zza 7 (.adr 3 2) (zzh 8 (.v (l.v)) ty24 zze (zza 10 (.adr 2 2) ?_)))))))))))
 refine zzh 11 (.v (j.v)) ty24 zze (zza 12 (.adr 3 0) (zzh 13 (.v (k.v)) ty24 zze (zzg 9 233 [i.v, l.v] ?_)))
 intro w11 u11 e11 d11
 have k16 := k_intSub d11 (hi.ext e11).raw (hl.ext e11).raw xq xq
 with_reducible refine zPm k16 ?_
 rintro _ u14 g15 ⟨i12, rfl, h13⟩
 refine zzg 14 233 [j.v, k.v] ?_
 intro w17 u17 e17 d17
 have k22 := k_intSub d17 (hj.ext (e11.trans (g15.ext.trans e17))).raw (hk.ext (e11.trans (g15.ext.trans e17))).raw xq xq
 with_reducible refine zPm k22 ?_
 rintro _ u20 g21 ⟨i18, rfl, h19⟩
 refine zza 15 (.v (.agg #[.bool i12.s, i12.m.v, .bool i18.s, i18.m.v])) (zzi ⟨160, i12.cs ++ i18.cs⟩ ty160 ?_)
 refine zzb (zzn (ret0 [.agg #[.bool i12.s, .slice i12.m.a i12.m.n i12.m.c, .bool i18.s, .slice i18.m.a i18.m.n i18.m.c]] ⟨zzq ty160 zze, trivial⟩ fun u23 e24 => ?_))
 refine ⟨i12, i18, rfl, IntN.more (K := (max K L + 1)) ?_ xq, IntN.more (K := (max K L + 1)) ?_ xq⟩
 ·exact (h13.ext (e17.trans (g21.ext.trans e24)))
 ·exact (h19.ext e24)
theorem k_eTimes {u w : World} {i j : IL} {a b : Int} {K : Nat} {n9 : Nat} (d : Dat u w) (hi : IntN u i a K) (hj : IntN u j b K)  (hK : K ≤ 1000000) (hn : n9 ≤ 1000000000) : Calls Tryz.prog 183 #[SP i j, .int .i64 (n9 : Int)] w (Post u w fun v u' => ∃ i j : IL, v = SP i j ∧ IntN u' i (a * (n9 : Int)) (K + 2) ∧ IntN u' j (b * (n9 : Int)) (K + 2)) := by
 refine zzl (args := [.agg #[.bool i.s, .slice i.m.a i.m.n i.m.c, .bool j.s, .slice j.m.a j.m.n j.m.c], .int .i64 n9]) Tryz.func183 rfl Tryz.ntmps183 (rs := [.cell 4 160]) Tryz.results183 (le_b rfl) (le_b rfl) d ?_
 refine sq9 (zzj 2 ⟨160, i.cs ++ j.cs⟩ (zzj 4 ⟨160, [.bool false, .slice none 0 0, .bool false, .slice none 0 0]⟩ (zzb (zzd (zzy [0, 1, 0, 4, 15, 0, 32, 0, 159, 511, 1023, 2047] [(0, []), (1, []), (2, []), (5, []), (6, []), (7, []), (3, []), (4, []), (8, []), (9, []), (10, []), (11, [])] xk xk (zza 5 (.adr 2 0) (zzh 6 (.v (i.v)) ty24 zze (zza 7 (zI n9) (zza 10 (.adr 2 2) (zzh 11 (.v (j.v)) ty24 zze (zza 12 (zI n9) ?_)))))))))))
 refine zzg 8 160 [.int .i64 n9] ?_
 intro w11 u11 e11 d11
 have k16 := k_intOf d11 (z := (n9 : Int)) xq xq
 with_reducible refine zPm k16 ?_
 rintro _ u14 g15 ⟨i12, rfl, h13⟩
 refine zzg 9 194 [i.v, i12.v] ?_
 intro w17 u17 e17 d17
 have k22 := k_intMul d17 (hi.ext (e11.trans (g15.ext.trans e17))).raw (h13.ext e17).raw xq xq
 with_reducible refine zPm k22 ?_
 rintro _ u20 g21 ⟨i18, rfl, h19⟩
 refine zzg 13 160 [.int .i64 n9] ?_
 intro w23 u23 e23 d23
 have k28 := k_intOf d23 (z := (n9 : Int)) xq xq
 with_reducible refine zPm k28 ?_
 rintro _ u26 g27 ⟨i24, rfl, h25⟩
 refine zzg 14 194 [j.v, i24.v] ?_
 intro w29 u29 e29 d29
 have k34 := k_intMul d29 (hj.ext (e11.trans (g15.ext.trans (e17.trans (g21.ext.trans (e23.trans (g27.ext.trans e29))))))).raw (h25.ext e29).raw xq xq
 with_reducible refine zPm k34 ?_
 rintro _ u32 g33 ⟨i30, rfl, h31⟩
 refine zza 15 (.v (.agg #[.bool i18.s, i18.m.v, .bool i30.s, i30.m.v])) (zzi ⟨160, i18.cs ++ i30.cs⟩ ty160 ?_)
 refine zzb (zzn (ret0 [.agg #[.bool i18.s, .slice i18.m.a i18.m.n i18.m.c, .bool i30.s, .slice i30.m.a i30.m.n i30.m.c]] ⟨zzq ty160 zze, trivial⟩ fun u35 e36 => ?_))
 refine ⟨i18, i30, rfl, IntN.more (K := (K + 2)) ?_ xq, IntN.more (K := (K + 2)) ?_ xq⟩
 ·exact (h19.ext (e23.trans (g27.ext.trans (e29.trans (g33.ext.trans e36)))))
 ·exact (h31.ext e36)
theorem k_eOver {u w : World} {i j : IL} {a b : Int} {K : Nat} {l : IL} {D : Int} {L : Nat} (d : Dat u w) (hi : IntN u i a K) (hj : IntN u j b K) (hl : IntN u l D L) (hD : 0 < D) (hK : K ≤ 1000000) (hL : L ≤ 1000000) : Calls Tryz.prog 228 #[SP i j, l.v] w (Post u w fun v u' => ∃ i j : IL, v = SP i j ∧ IntN u' i (a / D) (K + 3) ∧ IntN u' j (Nt.cdiv b D) (K + 3)) := by
 refine zzl (args := [.agg #[.bool i.s, .slice i.m.a i.m.n i.m.c, .bool j.s, .slice j.m.a j.m.n j.m.c], l.v]) Tryz.func228 rfl Tryz.ntmps228 (rs := [.cell 4 160]) Tryz.results228 (le_b rfl) (le_b rfl) d ?_
 refine sq9 (zzj 2 ⟨160, i.cs ++ j.cs⟩ (zzj 3 ⟨24, l.cs⟩ (zzj 4 ⟨160, [.bool false, .slice none 0 0, .bool false, .slice none 0 0]⟩ (zzb (sq9 (zza 12 (.adr 2 0) (zzh 13 (.v (i.v)) ty24 zze (zzh 14 (.v (l.v)) ty24 zze (zzg 15 180 [i.v, l.v] ?_)))))))))
 intro w11 u11 e11 d11
 have k18 := k_intDivI d11 (hi.ext e11).raw (hl.ext e11) hD xq xq
 with_reducible refine zPm k18 ?_
 rintro _ u16 g17 ⟨i12, i14, rfl, h13, h15⟩
 refine zza 11 (.v (.tuple #[i12.v, i14.v, .int .i64 0])) (zza 16 (.v (i12.v)) (zza 17 (.v (i14.v)) (zza 18 (zI 0) (zzj 5 ⟨24, [.bool false, .slice none 0 0]⟩ (zzj 6 ⟨24, [.bool false, .slice none 0 0]⟩ (zzi ⟨24, i12.cs⟩ ty24 ?_))))))
 refine zzi ⟨24, i14.cs⟩ ty24 ?_
 refine zza 7 (zI 0) (zzb (sq9 (zza 20 (.adr 2 2) (zzh 21 (.v (j.v)) ty24 zze (zzh 22 (.v (l.v)) ty24 zze (zzg 23 180 [j.v, l.v] ?_))))))
 intro w19 u19 e19 d19
 have k26 := k_intDivI d19 (hj.ext (e11.trans (g17.ext.trans e19))).raw (hl.ext (e11.trans (g17.ext.trans e19))) hD xq xq
 with_reducible refine zPm k26 ?_
 rintro _ u24 g25 ⟨i20, i22, rfl, h21, h23⟩
 refine zza 19 (.v (.tuple #[i20.v, i22.v, .int .i64 0])) (zza 24 (.v (i20.v)) (zza 25 (.v (i22.v)) (zza 26 (zI 0) (zzj 8 ⟨24, [.bool false, .slice none 0 0]⟩ (zzj 9 ⟨24, [.bool false, .slice none 0 0]⟩ (zzi ⟨24, i20.cs⟩ ty24 ?_))))))
 refine zzi ⟨24, i22.cs⟩ ty24 ?_
 refine zza 10 (zI 0) (zzb (zzd (sq9 (zzh 27 (.v (i22.v)) ty24 zze (zzg 28 146 [i22.v] ?_)))))
 intro w27 u27 e27 d27
 have k30 := k_intSign d27 (h23.ext e27).raw
 with_reducible refine zPm k30 ?_
 rintro _ u28 g29 rfl
 refine zza 29 (zB ((Nt.cmpS (b % D) 0) != 0)) (zzc 36 [(4, .adr 4 0), (5, .adr 5 0), (8, .adr 8 0), (29, zB ((Nt.cmpS (b % D) 0) != 0))] [(4, ⟨160, [.bool false, .slice none 0 0, .bool false, .slice none 0 0]⟩), (5, ⟨24, i12.cs⟩), (8, ⟨24, i20.cs⟩)] (zzt (b := (Nt.cmpS (b % D) 0) != 0) xk (fun hb31 => ?_) (fun hb31 => ?_)))
 ·replace hb31 : ((Nt.cmpS (b % D) 0) != 0) = true := hb31
  refine zzy [0, 0, 3, 7] [(0, []), (1, []), (2, []), (3, [])] xk xk (zzh 30 (.v (i20.v)) ty24 zze (zzg 31 160 [.int .i64 1] ?_))
  intro w32 u32 e32 d32
  have k37 := k_intOf d32 (z := 1) xq xq
  with_reducible refine zPm k37 ?_
  rintro _ u35 g36 ⟨i33, rfl, h34⟩
  refine zzg 32 159 [i20.v, i33.v] ?_
  intro w38 u38 e38 d38
  have k43 := k_intAdd d38 (h21.ext (e27.trans (g29.ext.trans (e32.trans (g36.ext.trans e38))))).raw (h34.ext e38).raw xq xq
  with_reducible refine zPm k43 ?_
  rintro _ u41 g42 ⟨i39, rfl, h40⟩
  refine zzi ⟨24, i39.cs⟩ ty24 ?_
  refine zzb (sq9 (zzh 33 (.v (i12.v)) ty24 zze (zzh 34 (.v (i39.v)) ty24 zze (zza 35 (.v (.agg #[.bool i12.s, i12.m.v, .bool i39.s, i39.m.v])) (zzi ⟨160, i12.cs ++ i39.cs⟩ ty160 ?_)))))
  refine zzb (zzn (ret0 [.agg #[.bool i12.s, .slice i12.m.a i12.m.n i12.m.c, .bool i39.s, .slice i39.m.a i39.m.n i39.m.c]] ⟨zzq ty160 zze, trivial⟩ fun u44 e45 => ?_))
  have h8 : ¬ b % D = 0 := by intro h7; rw [h7] at hb31; exact absurd hb31 xw
  rw [Nt.cd_eq1 hD h8]
  refine ⟨i12, i39, rfl, IntN.more (K := (K + 1)) ?_ xq, IntN.more (K := (max (K + 1) 2 + 1)) ?_ xq⟩
  ·exact (h13.ext (e19.trans (g25.ext.trans (e27.trans (g29.ext.trans (e32.trans (g36.ext.trans (e38.trans (g42.ext.trans e45)))))))))
  ·exact (h40.ext e45)
 ·replace hb31 : ((Nt.cmpS (b % D) 0) != 0) = false := hb31
  refine zzr (zzo ?_)
  refine sq9 (zzh 33 (.v (i12.v)) ty24 zze (zzh 34 (.v (i20.v)) ty24 zze (zza 35 (.v (.agg #[.bool i12.s, i12.m.v, .bool i20.s, i20.m.v])) (zzi ⟨160, i12.cs ++ i20.cs⟩ ty160 ?_))))
  refine zzb (zzn (ret0 [.agg #[.bool i12.s, .slice i12.m.a i12.m.n i12.m.c, .bool i20.s, .slice i20.m.a i20.m.n i20.m.c]] ⟨zzq ty160 zze, trivial⟩ fun u46 e47 => ?_))
  have h8 : b % D = 0 := by rw [Nt.cmp_ne] at hb31; simpa using hb31
  rw [Nt.cd_eq0 hD h8]
  refine ⟨i12, i20, rfl, IntN.more (K := (K + 1)) ?_ xq, IntN.more (K := (K + 1)) ?_ xq⟩
  ·exact (h13.ext (e19.trans (g25.ext.trans (e27.trans (g29.ext.trans e47)))))
  ·exact (h21.ext (e27.trans (g29.ext.trans e47)))
theorem k_eProd {u w : World} {i j : IL} {a b : Int} {K : Nat} {k l : IL} {e f : Int} {L p : Nat} (d : Dat u w) (hi : IntN u i a K) (hj : IntN u j b K) (hk : IntN u k e L) (hl : IntN u l f L) (hK : K ≤ 400000) (hL : L ≤ 400000) (hp : p ≤ 60000) : Calls Tryz.prog 229 #[SP i j, SP k l, .int .i64 (p : Int)] w (Post u w fun v u' => ∃ i j : IL, v = SP i j ∧ IntN u' i (a * e / Nt.u2 p) (K + L + 3) ∧ IntN u' j (Nt.cdiv (b * f) (Nt.u2 p)) (K + L + 3)) := by
 refine zzl (args := [.agg #[.bool i.s, .slice i.m.a i.m.n i.m.c, .bool j.s, .slice j.m.a j.m.n j.m.c], .agg #[.bool k.s, .slice k.m.a k.m.n k.m.c, .bool l.s, .slice l.m.a l.m.n l.m.c], .int .i64 p]) Tryz.func229 rfl Tryz.ntmps229 (rs := [.cell 6 160]) Tryz.results229 (le_b rfl) (le_b rfl) d ?_
 refine sq9 (zzj 3 ⟨160, i.cs ++ j.cs⟩ (zzj 4 ⟨160, k.cs ++ l.cs⟩ (zzj 6 ⟨160, [.bool false, .slice none 0 0, .bool false, .slice none 0 0]⟩ (zzb (zzd (zzy [0, 1, 0, 4, 15, 0, 32, 0, 128, 511, 1023, 0, 3071, 7167, 16383, 32767] [(0, []), (1, []), (2, []), (3, []), (5, []), (6, []), (7, []), (8, []), (11, []), (4, []), (9, []), (10, []), (12, []), (13, []), (14, []), (15, [])] xk xk (zza 7 (.adr 3 0) (zzh 8 (.v (i.v)) ty24 zze (zza 9 (.adr 4 0) (zzh 10 (.v (k.v)) ty24 zze (zza 12 (.adr 3 2) ?_)))))))))))
 refine zzh 13 (.v (j.v)) ty24 zze (zza 14 (.adr 4 2) (zzh 15 (.v (l.v)) ty24 zze (zza 18 (zI p) (zzg 11 194 [i.v, k.v] ?_))))
 intro w11 u11 e11 d11
 have k16 := k_intMul d11 (hi.ext e11).raw (hk.ext e11).raw xq xq
 with_reducible refine zPm k16 ?_
 rintro _ u14 g15 ⟨i12, rfl, h13⟩
 refine zzg 16 194 [j.v, l.v] ?_
 intro w17 u17 e17 d17
 have k22 := k_intMul d17 (hj.ext (e11.trans (g15.ext.trans e17))).raw (hl.ext (e11.trans (g15.ext.trans e17))).raw xq xq
 with_reducible refine zPm k22 ?_
 rintro _ u20 g21 ⟨i18, rfl, h19⟩
 refine zza 17 (.v (.agg #[.bool i12.s, i12.m.v, .bool i18.s, i18.m.v])) (zzg 19 161 [.int .i64 p] ?_)
 intro w23 u23 e23 d23
 have k28 := k_eUnit (k := p) d23 xq
 with_reducible refine zPm k28 ?_
 rintro _ u26 g27 ⟨i24, rfl, h25⟩
 refine zza 20 (.v (i24.v)) (zzg 21 228 [.agg #[.bool i12.s, i12.m.v, .bool i18.s, i18.m.v], i24.v] ?_)
 intro w29 u29 e29 d29
 have k36 := k_eOver d29 (h13.ext (e17.trans (g21.ext.trans (e23.trans (g27.ext.trans e29))))) (h19.ext (e23.trans (g27.ext.trans e29))) (h25.ext e29) (Nt.u2_pos p) xq xq
 with_reducible refine zPm k36 ?_
 rintro _ u34 g35 ⟨i30, i32, rfl, h31, h33⟩
 refine zzi ⟨160, i30.cs ++ i32.cs⟩ ty160 ?_
 refine zzb (zzn (ret0 [.agg #[.bool i30.s, .slice i30.m.a i30.m.n i30.m.c, .bool i32.s, .slice i32.m.a i32.m.n i32.m.c]] ⟨zzq ty160 zze, trivial⟩ fun u37 e38 => ?_))
 refine ⟨i30, i32, rfl, IntN.more (K := ((K + L) + 3)) ?_ xq, IntN.more (K := ((K + L) + 3)) ?_ xq⟩
 ·exact (h31.ext e38)
 ·exact (h33.ext e38)
theorem k_eWider {u w : World} {i j : IL} {a b : Int} {K : Nat}  (d : Dat u w) (hi : IntN u i a K) (hj : IntN u j b K)  (hK : K ≤ 1000000)  : Calls Tryz.prog 232 #[SP i j] w (Post u w fun v u' => ∃ i j : IL, v = SP i j ∧ IntN u' i (a - 1) (K + 3) ∧ IntN u' j (b + 1) (K + 3)) := by
 refine zzl (args := [.agg #[.bool i.s, .slice i.m.a i.m.n i.m.c, .bool j.s, .slice j.m.a j.m.n j.m.c]]) Tryz.func232 rfl Tryz.ntmps232 (rs := [.cell 2 160]) Tryz.results232 (le_b rfl) (le_b rfl) d ?_
 refine sq9 (zzj 1 ⟨160, i.cs ++ j.cs⟩ (zzj 2 ⟨160, [.bool false, .slice none 0 0, .bool false, .slice none 0 0]⟩ (zzb (sq9 (zzg 4 160 [.int .i64 1] ?_)))))
 intro w11 u11 e11 d11
 have k16 := k_intOf d11 (z := 1) xq xq
 with_reducible refine zPm k16 ?_
 rintro _ u14 g15 ⟨i12, rfl, h13⟩
 refine zzj 3 ⟨24, [.bool false, .slice none 0 0]⟩ (zzi ⟨24, i12.cs⟩ ty24 ?_)
 refine zzb (zzd (zzy [0, 1, 0, 7, 0, 16, 0, 127, 255, 511] [(0, []), (1, []), (2, []), (4, []), (5, []), (6, []), (3, []), (7, []), (8, []), (9, [])] xk xk (zza 5 (.adr 1 0) (zzh 6 (.v (i.v)) ty24 zze (zzh 7 (.v (i12.v)) ty24 zze (zza 9 (.adr 1 2) (zzh 10 (.v (j.v)) ty24 zze (zzh 11 (.v (i12.v)) ty24 zze (zzg 8 233 [i.v, i12.v] ?_)))))))))
 intro w17 u17 e17 d17
 have k22 := k_intSub d17 (hi.ext (e11.trans (g15.ext.trans e17))).raw (h13.ext e17).raw xq xq
 with_reducible refine zPm k22 ?_
 rintro _ u20 g21 ⟨i18, rfl, h19⟩
 refine zzg 12 159 [j.v, i12.v] ?_
 intro w23 u23 e23 d23
 have k28 := k_intAdd d23 (hj.ext (e11.trans (g15.ext.trans (e17.trans (g21.ext.trans e23))))).raw (h13.ext (e17.trans (g21.ext.trans e23))).raw xq xq
 with_reducible refine zPm k28 ?_
 rintro _ u26 g27 ⟨i24, rfl, h25⟩
 refine zza 13 (.v (.agg #[.bool i18.s, i18.m.v, .bool i24.s, i24.m.v])) (zzi ⟨160, i18.cs ++ i24.cs⟩ ty160 ?_)
 refine zzb (zzn (ret0 [.agg #[.bool i18.s, .slice i18.m.a i18.m.n i18.m.c, .bool i24.s, .slice i24.m.a i24.m.n i24.m.c]] ⟨zzq ty160 zze, trivial⟩ fun u29 e30 => ?_))
 refine ⟨i18, i24, rfl, IntN.more (K := (max K 2 + 1)) ?_ xq, IntN.more (K := (max K 2 + 1)) ?_ xq⟩
 ·exact (h19.ext (e23.trans (g27.ext.trans e30)))
 ·exact (h25.ext e30)
theorem k_eTiny {u w : World} {i j : IL} {a b : Int} {K : Nat}  (d : Dat u w) (hi : IntN u i a K) (hj : IntN u j b K)  (hK : K ≤ 1000000)  : Calls Tryz.prog 231 #[SP i j] w (Post u w fun v u' => v = .bool (decide (b ≤ 1))) := by
 refine zzl (args := [.agg #[.bool i.s, .slice i.m.a i.m.n i.m.c, .bool j.s, .slice j.m.a j.m.n j.m.c]]) Tryz.func231 rfl Tryz.ntmps231 (rs := [.tmp 2]) Tryz.results231 (le_b rfl) (le_b rfl) d ?_
 refine sq9 (zzj 1 ⟨160, i.cs ++ j.cs⟩ (zza 2 (zB false) (zzb (zzd (zzy [0, 1, 0, 7, 15, 31] [(0, []), (1, []), (2, []), (3, []), (4, []), (5, [])] xk xk (zza 3 (.adr 1 2) (zzh 4 (.v (j.v)) ty24 zze (zzg 5 160 [.int .i64 1] ?_))))))))
 intro w11 u11 e11 d11
 have k16 := k_intOf d11 (z := 1) xq xq
 with_reducible refine zPm k16 ?_
 rintro _ u14 g15 ⟨i12, rfl, h13⟩
 refine zzg 6 181 [j.v, i12.v] ?_
 intro w17 u17 e17 d17
 have k20 := k_intCompare d17 (hj.ext (e11.trans (g15.ext.trans e17))).raw (h13.ext e17).raw
 with_reducible refine zPm k20 ?_
 rintro _ u18 g19 rfl
 refine zza 7 (zB (decide ((Nt.cmpS b 1) ≤ 0))) (zza 2 (zB (decide ((Nt.cmpS b 1) ≤ 0))) (zzb (zzn (ret0 [.bool (decide ((Nt.cmpS b 1) ≤ 0))] ⟨zzp, trivial⟩ fun u21 e22 => ?_))))
 show Value.bool _ = Value.bool _
 rw [Nt.cmp_le]
set_option maxHeartbeats 4000000 in
theorem k_arctan {u w : World} {n k : Nat} (d : Dat u w) (hn : 2 ≤ n) (hn2 : n ≤ 1000) (hk : k ≤ 800) : Calls Tryz.prog 182 #[.int .i64 (n : Int), .int .i64 (k : Int)] w (Post u w fun v u' => ∃ (i j : IL) (a b : Int), v = SP i j ∧ IntN u' i a 42 ∧ IntN u' j b 42 ∧ Nt.AtR n k a b) := by
 have hN2 : 4 ≤ n * n := Nat.mul_le_mul hn hn
 have hN3 : n * n ≤ 1000000 := Nat.mul_le_mul hn2 hn2
 have hnn : -9223372036854775808 ≤ (n : Int) * (n : Int) ∧ (n : Int) * (n : Int) ≤ 9223372036854775807 := by rw [← Int.natCast_mul]; omega
 have hbig := Nt.big hk
 have hu2 := Nt.u2_pos k
 refine zzl (args := [.int .i64 n, .int .i64 k]) Tryz.func182 rfl Tryz.ntmps182 (rs := [.cell 4 160]) Tryz.results182 (le_b rfl) (le_b rfl) d ?_
 refine sq9 (zzj 4 ⟨160, [.bool false, .slice none 0 0, .bool false, .slice none 0 0]⟩ (zzb (sq9 (zza 9 (zI k) (zzg 10 161 [.int .i64 k] ?_)))))
 intro w11 u11 e11 d11
 have k16 := k_eUnit (k := k) d11 xq
 with_reducible refine zPm k16 ?_
 rintro _ u14 g15 ⟨i12, rfl, h13⟩
 refine zza 11 (zI n) (zzg 12 160 [.int .i64 n] ?_)
 intro w17 u17 e17 d17
 have k22 := k_intOf d17 (z := (n : Int)) xq xq
 with_reducible refine zPm k22 ?_
 rintro _ u20 g21 ⟨i18, rfl, h19⟩
 refine zzg 13 228 [.agg #[.bool i12.s, i12.m.v, .bool i12.s, i12.m.v], i18.v] ?_
 intro w23 u23 e23 d23
 have k30 := k_eOver d23 (h13.ext (e17.trans (g21.ext.trans e23))) (h13.ext (e17.trans (g21.ext.trans e23))) (h19.ext e23) xq xq xq
 with_reducible refine zPm k30 ?_
 rintro _ u28 g29 ⟨i24, i26, rfl, h25, h27⟩
 refine zzj 5 ⟨160, [.bool false, .slice none 0 0, .bool false, .slice none 0 0]⟩ (zzi ⟨160, i24.cs ++ i26.cs⟩ ty160 ?_)
 refine zzb (sq9 (zzh 14 (.v (.agg #[.bool i24.s, i24.m.v, .bool i26.s, i26.m.v])) ty160 zze (zzj 6 ⟨160, [.bool false, .slice none 0 0, .bool false, .slice none 0 0]⟩ (zzi ⟨160, i24.cs ++ i26.cs⟩ ty160 ?_))))
 refine zzb (sq9 (zza 7 (zI 3) (zzb (zzs (zyl (I := fun m31 S' u' => ∃ (j : Nat) (x1 : IL) (x2 : IL) (y1 : IL) (y2 : IL) (a : Int) (b : Int) (cc : Int) (dd : Int), (m31 = b.toNat) ∧ (Nt.AtI n k j a b cc dd) ∧ (S' = St.of 40 [(0, zI n), (4, .adr 4 0), (5, .adr 5 0), (6, .adr 6 0), (7, zI (2 * j + 3 : Nat))] [(4, ⟨160, [.bool false, .slice none 0 0, .bool false, .slice none 0 0]⟩), (5, ⟨160, x1.cs ++ x2.cs⟩), (6, ⟨160, y1.cs ++ y2.cs⟩)]) ∧ (Ext u28 u') ∧ (IntN u' x1 a 40) ∧ (IntN u' x2 b 40) ∧ (IntN u' y1 cc 40) ∧ (IntN u' y2 dd 40)) (fun m S u1 u2 e h => by obtain ⟨j, x1, x2, y1, y2, a, b, cc, dd, hm, p0, hS, hE, f0, f1, f2, f3⟩ := h; exact ⟨j, x1, x2, y1, y2, a, b, cc, dd, hm, p0, hS, hE.trans e, f0.ext e, f1.ext e, f2.ext e, f3.ext e⟩) _ yq ⟨0, i24, i26, i24, i26, ((Nt.u2 k) / (n : Int)), (Nt.cdiv (Nt.u2 k) (n : Int)), ((Nt.u2 k) / (n : Int)), (Nt.cdiv (Nt.u2 k) (n : Int)), rfl, (Nt.AtI.start xq), rfl, (Ext.refl _), (IntN.lim h25 (by have h8 := (Nt.AtI.start (n := n) (w := k) xq).bd xq; omega) (by have h8 := (Nt.AtI.start (n := n) (w := k) xq).bd xq; omega)), (IntN.lim h27 (by have h8 := (Nt.AtI.start (n := n) (w := k) xq).bd xq; have h9 := (Nt.AtI.start (n := n) (w := k) xq).p1; omega) (by have h8 := (Nt.AtI.start (n := n) (w := k) xq).bd xq; omega)), (IntN.lim h25 (by have h8 := (Nt.AtI.start (n := n) (w := k) xq).bd xq; omega) (by have h8 := (Nt.AtI.start (n := n) (w := k) xq).bd xq; omega)), (IntN.lim h27 (by have h8 := (Nt.AtI.start (n := n) (w := k) xq).bd xq; have h9 := (Nt.AtI.start (n := n) (w := k) xq).p1; omega) (by have h8 := (Nt.AtI.start (n := n) (w := k) xq).bd xq; omega))⟩ ?_)))))
 rintro m31 _ u31 ⟨j, x1, x2, y1, y2, a, b, cc, dd, hm31, hI, rfl, e31, f0, f1, f2, f3⟩
 have hjw := hI.jw
 refine zzd (zzs (zzd (zzy [0, 0, 0, 6, 14, 31, 63] [(0, []), (1, []), (2, []), (3, []), (4, []), (5, []), (6, [])] xk xk (zzh 17 (.v (.agg #[.bool x1.s, x1.m.v, .bool x2.s, x2.m.v])) ty160 zze (zza 18 (zI n) (zza 19 (zI n) (zyn 20 (x := zI (IntKind.i64.wrap ((n : Int) * (n : Int)))) (zI (((n * n : Nat) : Int))) (by rw [show (IntKind.i64.wrap ((n : Int) * (n : Int))) = ((n * n : Nat) : Int) from (by rw [IntWalk.i64_in _ hnn]; rfl)]) (zzg 21 160 [.int .i64 (n * n : Nat)] ?_))))))))
 intro w32 u32 e32 d32
 have k37 := k_intOf d32 (z := ((n * n : Nat) : Int)) xq xq
 with_reducible refine zPm k37 ?_
 rintro _ u35 g36 ⟨i33, rfl, h34⟩
 refine zzg 22 228 [.agg #[.bool x1.s, x1.m.v, .bool x2.s, x2.m.v], i33.v] ?_
 intro w38 u38 e38 d38
 have k45 := k_eOver d38 (f0.ext (e32.trans (g36.ext.trans e38))) (f1.ext (e32.trans (g36.ext.trans e38))) (h34.ext e38) xq xq xq
 with_reducible refine zPm k45 ?_
 rintro _ u43 g44 ⟨i39, i41, rfl, h40, h42⟩
 refine zzi ⟨160, i39.cs ++ i41.cs⟩ ty160 ?_
 refine zzb (zzd (zzy [0, 0, 2, 7, 0, 31] [(0, []), (1, []), (4, []), (2, []), (3, []), (5, [])] xk xk (zzh 23 (.v (.agg #[.bool i39.s, i39.m.v, .bool i41.s, i41.m.v])) ty160 zze (zza 24 (zI (2 * j + 3 : Nat)) (zzj 8 ⟨160, [.bool false, .slice none 0 0, .bool false, .slice none 0 0]⟩ (zzg 25 160 [.int .i64 (2 * j + 3 : Nat)] ?_))))))
 intro w46 u46 e46 d46
 have k51 := k_intOf d46 (z := ((2 * j + 3 : Nat) : Int)) xq xq
 with_reducible refine zPm k51 ?_
 rintro _ u49 g50 ⟨i47, rfl, h48⟩
 refine zzg 26 228 [.agg #[.bool i39.s, i39.m.v, .bool i41.s, i41.m.v], i47.v] ?_
 intro w52 u52 e52 d52
 have k59 := k_eOver d52 (h40.ext (e46.trans (g50.ext.trans e52))) (h42.ext (e46.trans (g50.ext.trans e52))) (h48.ext e52) xq xq xq
 with_reducible refine zPm k59 ?_
 rintro _ u57 g58 ⟨i53, i55, rfl, h54, h56⟩
 refine zzi ⟨160, i53.cs ++ i55.cs⟩ ty160 ?_
 refine zzb (zzd (sq9 (zza 27 (zI (2 * j + 3 : Nat)) (zza 28 (zI (Int.tmod ((2 * j + 3 : Nat) : Int) 4)) (zza 29 (zB ((Int.tmod ((2 * j + 3 : Nat) : Int) 4) == 3)) (zzb (zzt (b := (Int.tmod ((2 * j + 3 : Nat) : Int) 4) == 3) xk (fun hb60 => ?_) (fun hb60 => ?_))))))))
 ·replace hb60 : ((Int.tmod ((2 * j + 3 : Nat) : Int) 4) == 3) = true := hb60
  have ehb60 : Int.tmod ((2 * j + 3 : Nat) : Int) 4 = ((2 * j + 3 : Nat) : Int) % 4 := Int.tmod_eq_emod_of_nonneg xq
  have q2hb60 :  j % 2 = 0 := by have h9 := hb60; rw [ehb60] at h9; simp at h9; omega
  refine zzf (zzh 30 (.v (.agg #[.bool y1.s, y1.m.v, .bool y2.s, y2.m.v])) ty160 zze (zzh 31 (.v (.agg #[.bool i53.s, i53.m.v, .bool i55.s, i55.m.v])) ty160 zze (zzg 32 184 [.agg #[.bool y1.s, y1.m.v, .bool y2.s, y2.m.v], .agg #[.bool i53.s, i53.m.v, .bool i55.s, i55.m.v]] ?_)))
  intro w61 u61 e61 d61
  have k68 := k_eSub d61 (f2.ext (e32.trans (g36.ext.trans (e38.trans (g44.ext.trans (e46.trans (g50.ext.trans (e52.trans (g58.ext.trans e61))))))))) (f3.ext (e32.trans (g36.ext.trans (e38.trans (g44.ext.trans (e46.trans (g50.ext.trans (e52.trans (g58.ext.trans e61))))))))) (h54.ext e61) (h56.ext e61) xq xq
  with_reducible refine zPm k68 ?_
  rintro _ u66 g67 ⟨i62, i64, rfl, h63, h65⟩
  refine zzi ⟨160, i62.cs ++ i64.cs⟩ ty160 ?_
  refine zzc 40 [(0, zI n), (4, .adr 4 0), (5, .adr 5 0), (6, .adr 6 0), (7, zI (2 * j + 3 : Nat)), (8, .adr 8 0)] [(4, ⟨160, [.bool false, .slice none 0 0, .bool false, .slice none 0 0]⟩), (5, ⟨160, i39.cs ++ i41.cs⟩), (6, ⟨160, i62.cs ++ i64.cs⟩), (8, ⟨160, i53.cs ++ i55.cs⟩)] (sq9 (zzh 36 (.v (.agg #[.bool i53.s, i53.m.v, .bool i55.s, i55.m.v])) ty160 zze (zzg 37 231 [.agg #[.bool i53.s, i53.m.v, .bool i55.s, i55.m.v]] ?_)))
  intro w69 u69 e69 d69
  have k72 := k_eTiny d69 (h54.ext (e61.trans (g67.ext.trans e69))) (h56.ext (e61.trans (g67.ext.trans e69))) xq
  with_reducible refine zPm k72 ?_
  rintro _ u70 g71 rfl
  refine zzb (zzt (b := decide ((Nt.cdiv (Nt.cdiv b ((n * n : Nat) : Int)) ((2 * j + 3 : Nat) : Int)) ≤ 1)) xk (fun hb73 => ?_) (fun hb73 => ?_))
  ·replace hb73 : (decide ((Nt.cdiv (Nt.cdiv b ((n * n : Nat) : Int)) ((2 * j + 3 : Nat) : Int)) ≤ 1)) = true := hb73
   have qhb73 := of_decide_eq_true hb73
   refine sq9 (zzh 38 (.v (.agg #[.bool i62.s, i62.m.v, .bool i64.s, i64.m.v])) ty160 zze (zzg 39 232 [.agg #[.bool i62.s, i62.m.v, .bool i64.s, i64.m.v]] ?_))
   intro w74 u74 e74 d74
   have k81 := k_eWider d74 (h63.ext (e69.trans (g71.ext.trans e74))) (h65.ext (e69.trans (g71.ext.trans e74))) xq
   with_reducible refine zPm k81 ?_
   rintro _ u79 g80 ⟨i75, i77, rfl, h76, h78⟩
   refine zzi ⟨160, i75.cs ++ i77.cs⟩ ty160 ?_
   refine zzb (zzn (zyr (zzv (zyq (zyr (ret0 [.agg #[.bool i75.s, .slice i75.m.a i75.m.n i75.m.c, .bool i77.s, .slice i77.m.a i77.m.n i77.m.c]] ⟨zzq ty160 zze, trivial⟩ fun u82 e83 => ?_))))))
   have ho := hI.out xq (of_decide_eq_true hb73) (hI.sub xq q2hb60) (by have h9 := hI.tw xq; omega)
   have hob := Nt.atR_bd ho xq
   exact ⟨i75, i77, _, _, rfl, IntN.lim2 (h76.ext e83) xq xq, IntN.lim2 (h78.ext e83) xq xq, ho⟩
  ·replace hb73 : (decide ((Nt.cdiv (Nt.cdiv b ((n * n : Nat) : Int)) ((2 * j + 3 : Nat) : Int)) ≤ 1)) = false := hb73
   have qhb73 := of_decide_eq_false hb73
   refine zzr (zzo ?_)
   refine zzf (zza 15 (zI (2 * j + 3 : Nat)) (zyn 16 (x := zI (IntKind.i64.wrap (((2 * j + 3 : Nat) : Int) + 2))) (zI (((2 * j + 3) + 2 : Nat) : Int)) (eqI xj) (zza 7 (zI (((2 * j + 3) + 2 : Nat) : Int)) (zzw ?_))))
   have hgo := hI.go xq (by have h9 := of_decide_eq_false hb73; omega) (hI.sub xq q2hb60) (by have h9 := hI.tw xq; omega)
   have hb := hgo.1.bd xq
   have hp0 := hgo.1.p0
   have hp1 := hgo.1.p1
   have hple := hgo.1.p.le
   have hpp := hI.p1
   refine ⟨_, ?_, _, by exact zzu _ _ _, j + 1, i39, i41, i62, i64, (a / ((n * n : Nat) : Int)), (Nt.cdiv b ((n * n : Nat) : Int)), (cc - (Nt.cdiv (Nt.cdiv b ((n * n : Nat) : Int)) ((2 * j + 3 : Nat) : Int))), (dd - ((a / ((n * n : Nat) : Int)) / ((2 * j + 3 : Nat) : Int))), rfl, hgo.1, rfl, (e31.trans (e32.trans (g36.ext.trans (e38.trans (g44.ext.trans (e46.trans (g50.ext.trans (e52.trans (g58.ext.trans (e61.trans (g67.ext.trans (e69.trans g71.ext)))))))))))), (IntN.lim (h40.ext (e46.trans (g50.ext.trans (e52.trans (g58.ext.trans (e61.trans (g67.ext.trans (e69.trans g71.ext)))))))) xq xq), (IntN.lim (h42.ext (e46.trans (g50.ext.trans (e52.trans (g58.ext.trans (e61.trans (g67.ext.trans (e69.trans g71.ext)))))))) xq xq), (IntN.lim (h63.ext (e69.trans g71.ext)) xq xq), (IntN.lim (h65.ext (e69.trans g71.ext)) xq xq)⟩
   omega
 ·replace hb60 : ((Int.tmod ((2 * j + 3 : Nat) : Int) 4) == 3) = false := hb60
  have ehb60 : Int.tmod ((2 * j + 3 : Nat) : Int) 4 = ((2 * j + 3 : Nat) : Int) % 4 := Int.tmod_eq_emod_of_nonneg xq
  have q2hb60 : ¬ j % 2 = 0 := by have h9 := hb60; rw [ehb60] at h9; simp at h9; omega
  refine zzf (zzh 33 (.v (.agg #[.bool y1.s, y1.m.v, .bool y2.s, y2.m.v])) ty160 zze (zzh 34 (.v (.agg #[.bool i53.s, i53.m.v, .bool i55.s, i55.m.v])) ty160 zze (zzg 35 230 [.agg #[.bool y1.s, y1.m.v, .bool y2.s, y2.m.v], .agg #[.bool i53.s, i53.m.v, .bool i55.s, i55.m.v]] ?_)))
  intro w84 u84 e84 d84
  have k91 := k_eAdd d84 (f2.ext (e32.trans (g36.ext.trans (e38.trans (g44.ext.trans (e46.trans (g50.ext.trans (e52.trans (g58.ext.trans e84))))))))) (f3.ext (e32.trans (g36.ext.trans (e38.trans (g44.ext.trans (e46.trans (g50.ext.trans (e52.trans (g58.ext.trans e84))))))))) (h54.ext e84) (h56.ext e84) xq xq
  with_reducible refine zPm k91 ?_
  rintro _ u89 g90 ⟨i85, i87, rfl, h86, h88⟩
  refine zzi ⟨160, i85.cs ++ i87.cs⟩ ty160 ?_
  refine zzc 40 [(0, zI n), (4, .adr 4 0), (5, .adr 5 0), (6, .adr 6 0), (7, zI (2 * j + 3 : Nat)), (8, .adr 8 0)] [(4, ⟨160, [.bool false, .slice none 0 0, .bool false, .slice none 0 0]⟩), (5, ⟨160, i39.cs ++ i41.cs⟩), (6, ⟨160, i85.cs ++ i87.cs⟩), (8, ⟨160, i53.cs ++ i55.cs⟩)] (sq9 (zzh 36 (.v (.agg #[.bool i53.s, i53.m.v, .bool i55.s, i55.m.v])) ty160 zze (zzg 37 231 [.agg #[.bool i53.s, i53.m.v, .bool i55.s, i55.m.v]] ?_)))
  intro w92 u92 e92 d92
  have k95 := k_eTiny d92 (h54.ext (e84.trans (g90.ext.trans e92))) (h56.ext (e84.trans (g90.ext.trans e92))) xq
  with_reducible refine zPm k95 ?_
  rintro _ u93 g94 rfl
  refine zzb (zzt (b := decide ((Nt.cdiv (Nt.cdiv b ((n * n : Nat) : Int)) ((2 * j + 3 : Nat) : Int)) ≤ 1)) xk (fun hb96 => ?_) (fun hb96 => ?_))
  ·replace hb96 : (decide ((Nt.cdiv (Nt.cdiv b ((n * n : Nat) : Int)) ((2 * j + 3 : Nat) : Int)) ≤ 1)) = true := hb96
   have qhb96 := of_decide_eq_true hb96
   refine sq9 (zzh 38 (.v (.agg #[.bool i85.s, i85.m.v, .bool i87.s, i87.m.v])) ty160 zze (zzg 39 232 [.agg #[.bool i85.s, i85.m.v, .bool i87.s, i87.m.v]] ?_))
   intro w97 u97 e97 d97
   have k104 := k_eWider d97 (h86.ext (e92.trans (g94.ext.trans e97))) (h88.ext (e92.trans (g94.ext.trans e97))) xq
   with_reducible refine zPm k104 ?_
   rintro _ u102 g103 ⟨i98, i100, rfl, h99, h101⟩
   refine zzi ⟨160, i98.cs ++ i100.cs⟩ ty160 ?_
   refine zzb (zzn (zyr (zzv (zyq (zyr (ret0 [.agg #[.bool i98.s, .slice i98.m.a i98.m.n i98.m.c, .bool i100.s, .slice i100.m.a i100.m.n i100.m.c]] ⟨zzq ty160 zze, trivial⟩ fun u105 e106 => ?_))))))
   have ho := hI.out xq (of_decide_eq_true hb96) (hI.add xq q2hb60) (by have h9 := hI.tw xq; omega)
   have hob := Nt.atR_bd ho xq
   exact ⟨i98, i100, _, _, rfl, IntN.lim2 (h99.ext e106) xq xq, IntN.lim2 (h101.ext e106) xq xq, ho⟩
  ·replace hb96 : (decide ((Nt.cdiv (Nt.cdiv b ((n * n : Nat) : Int)) ((2 * j + 3 : Nat) : Int)) ≤ 1)) = false := hb96
   have qhb96 := of_decide_eq_false hb96
   refine zzr (zzo ?_)
   refine zzf (zza 15 (zI (2 * j + 3 : Nat)) (zyn 16 (x := zI (IntKind.i64.wrap (((2 * j + 3 : Nat) : Int) + 2))) (zI (((2 * j + 3) + 2 : Nat) : Int)) (eqI xj) (zza 7 (zI (((2 * j + 3) + 2 : Nat) : Int)) (zzw ?_))))
   have hgo := hI.go xq (by have h9 := of_decide_eq_false hb96; omega) (hI.add xq q2hb60) (by have h9 := hI.tw xq; omega)
   have hb := hgo.1.bd xq
   have hp0 := hgo.1.p0
   have hp1 := hgo.1.p1
   have hple := hgo.1.p.le
   have hpp := hI.p1
   refine ⟨_, ?_, _, by exact zzu _ _ _, j + 1, i39, i41, i85, i87, (a / ((n * n : Nat) : Int)), (Nt.cdiv b ((n * n : Nat) : Int)), (cc + ((a / ((n * n : Nat) : Int)) / ((2 * j + 3 : Nat) : Int))), (dd + (Nt.cdiv (Nt.cdiv b ((n * n : Nat) : Int)) ((2 * j + 3 : Nat) : Int))), rfl, hgo.1, rfl, (e31.trans (e32.trans (g36.ext.trans (e38.trans (g44.ext.trans (e46.trans (g50.ext.trans (e52.trans (g58.ext.trans (e84.trans (g90.ext.trans (e92.trans g94.ext)))))))))))), (IntN.lim (h40.ext (e46.trans (g50.ext.trans (e52.trans (g58.ext.trans (e84.trans (g90.ext.trans (e92.trans g94.ext)))))))) xq xq), (IntN.lim (h42.ext (e46.trans (g50.ext.trans (e52.trans (g58.ext.trans (e84.trans (g90.ext.trans (e92.trans g94.ext)))))))) xq xq), (IntN.lim (h86.ext (e92.trans g94.ext)) xq xq), (IntN.lim (h88.ext (e92.trans g94.ext)) xq xq)⟩
   omega
set_option maxHeartbeats 1000000 in
theorem k_ePi {u w : World} {k : Nat} (d : Dat u w) (hk0 : 16 ≤ k) (hk : k ≤ 800) : Calls Tryz.prog 102 #[.int .i64 (k : Int)] w (Post u w fun v u' => ∃ (i j : IL) (a b : Int), v = SP i j ∧ IntN u' i a 42 ∧ IntN u' j b 42 ∧ Nt.PiR k a b) := by
 have hbig := Nt.big hk
 have hu2 := Nt.u2_pos k
 refine zzl (args := [.int .i64 k]) Tryz.func102 rfl Tryz.ntmps102 (rs := [.cell 2 160]) Tryz.results102 (le_b rfl) (le_b rfl) d ?_
 refine sq9 (zzj 2 ⟨160, [.bool false, .slice none 0 0, .bool false, .slice none 0 0]⟩ (zzb (sq9 (zza 3 (zI k) (zzg 4 182 [.int .i64 5, .int .i64 k] ?_)))))
 intro w11 u11 e11 d11
 have k15 := k_arctan d11 (n := 5) (k := k) xq xq xq
 with_reducible refine zPm k15 ?_
 rintro _ u13 g14 ⟨si12, sj12, sa12, sb12, rfl, ha12, hb12, hR12⟩
 refine zzg 5 183 [.agg #[.bool si12.s, si12.m.v, .bool sj12.s, sj12.m.v], .int .i64 16] ?_
 intro w16 u16 e16 d16
 have k23 := k_eTimes d16 (ha12.ext e16) (hb12.ext e16) (n9 := 16) xq xq
 with_reducible refine zPm k23 ?_
 rintro _ u21 g22 ⟨i17, i19, rfl, h18, h20⟩
 refine zza 6 (zI k) (zzg 7 182 [.int .i64 239, .int .i64 k] ?_)
 intro w24 u24 e24 d24
 have k28 := k_arctan d24 (n := 239) (k := k) xq xq xq
 with_reducible refine zPm k28 ?_
 rintro _ u26 g27 ⟨si25, sj25, sa25, sb25, rfl, ha25, hb25, hR25⟩
 refine zzg 8 183 [.agg #[.bool si25.s, si25.m.v, .bool sj25.s, sj25.m.v], .int .i64 4] ?_
 intro w29 u29 e29 d29
 have k36 := k_eTimes d29 (ha25.ext e29) (hb25.ext e29) (n9 := 4) xq xq
 with_reducible refine zPm k36 ?_
 rintro _ u34 g35 ⟨i30, i32, rfl, h31, h33⟩
 refine zzg 9 184 [.agg #[.bool i17.s, i17.m.v, .bool i19.s, i19.m.v], .agg #[.bool i30.s, i30.m.v, .bool i32.s, i32.m.v]] ?_
 intro w37 u37 e37 d37
 have k44 := k_eSub d37 (h18.ext (e24.trans (g27.ext.trans (e29.trans (g35.ext.trans e37))))) (h20.ext (e24.trans (g27.ext.trans (e29.trans (g35.ext.trans e37))))) (h31.ext e37) (h33.ext e37) xq xq
 with_reducible refine zPm k44 ?_
 rintro _ u42 g43 ⟨i38, i40, rfl, h39, h41⟩
 refine zzi ⟨160, i38.cs ++ i40.cs⟩ ty160 ?_
 refine zzb (zzn (ret0 [.agg #[.bool i38.s, .slice i38.m.a i38.m.n i38.m.c, .bool i40.s, .slice i40.m.a i40.m.n i40.m.c]] ⟨zzq ty160 zze, trivial⟩ fun u45 e46 => ?_))
 have hP := Nt.PiR.of hR12 hR25
 have hb9 := hP.bd hk0
 exact ⟨i38, i40, _, _, rfl, IntN.lim2 (h39.ext e46) xq xq, IntN.lim2 (h41.ext e46) xq xq, hP⟩
set_option maxHeartbeats 4000000 in
theorem k_cosineOf {u w : World} {p q k : Nat} (d : Dat u w) (hq0 : 0 < q) (hq : q ≤ 100000) (hp : 2 * p ≤ q) (hp1 : 1 ≤ p) (hk0 : 16 ≤ k) (hk : k ≤ 800) : Calls Tryz.prog 179 #[.int .i64 (p : Int), .int .i64 (q : Int), .int .i64 (k : Int)] w (Post u w fun v u' => ∃ (i j : IL) (a b : Int), v = SP i j ∧ IntN u' i a 42 ∧ IntN u' j b 42 ∧ Nt.CsR p q k a b) := by
 have hbig := Nt.big hk
 have hu2 := Nt.u2_pos k
 refine zzl (args := [.int .i64 p, .int .i64 q, .int .i64 k]) Tryz.func179 rfl Tryz.ntmps179 (rs := [.cell 6 160]) Tryz.results179 (le_b rfl) (le_b rfl) d ?_
 refine sq9 (zzj 6 ⟨160, [.bool false, .slice none 0 0, .bool false, .slice none 0 0]⟩ (zzb (sq9 (zza 12 (zI k) (zzg 13 102 [.int .i64 k] ?_)))))
 intro w11 u11 e11 d11
 have k15 := k_ePi d11 (k := k) xq xq
 with_reducible refine zPm k15 ?_
 rintro _ u13 g14 ⟨si12, sj12, sa12, sb12, rfl, ha12, hb12, hR12⟩
 refine zza 14 (zI p) (zzg 15 183 [.agg #[.bool si12.s, si12.m.v, .bool sj12.s, sj12.m.v], .int .i64 p] ?_)
 intro w16 u16 e16 d16
 have k23 := k_eTimes d16 (ha12.ext e16) (hb12.ext e16) (n9 := p) xq xq
 with_reducible refine zPm k23 ?_
 rintro _ u21 g22 ⟨i17, i19, rfl, h18, h20⟩
 refine zza 16 (zI q) (zzg 17 160 [.int .i64 q] ?_)
 intro w24 u24 e24 d24
 have k29 := k_intOf d24 (z := (q : Int)) xq xq
 with_reducible refine zPm k29 ?_
 rintro _ u27 g28 ⟨i25, rfl, h26⟩
 refine zzg 18 228 [.agg #[.bool i17.s, i17.m.v, .bool i19.s, i19.m.v], i25.v] ?_
 intro w30 u30 e30 d30
 have k37 := k_eOver d30 (h18.ext (e24.trans (g28.ext.trans e30))) (h20.ext (e24.trans (g28.ext.trans e30))) (h26.ext e30) xq xq xq
 with_reducible refine zPm k37 ?_
 rintro _ u35 g36 ⟨i31, i33, rfl, h32, h34⟩
 refine zzj 7 ⟨160, [.bool false, .slice none 0 0, .bool false, .slice none 0 0]⟩ (zzi ⟨160, i31.cs ++ i33.cs⟩ ty160 ?_)
 refine zzb (zzd ?_)
 have hY : Nt.CsY p q k ((sa12 * ((p : Nat) : Int)) / (q : Int)) (Nt.cdiv (sb12 * ((p : Nat) : Int)) (q : Int)) := Nt.CsY.of hR12 hk0 hq0 hp hp1
 refine zzf (zzh 19 (.v (.agg #[.bool i31.s, i31.m.v, .bool i33.s, i33.m.v])) ty160 zze (zzh 20 (.v (.agg #[.bool i31.s, i31.m.v, .bool i33.s, i33.m.v])) ty160 zze (zza 21 (zI k) (zzg 22 229 [.agg #[.bool i31.s, i31.m.v, .bool i33.s, i33.m.v], .agg #[.bool i31.s, i31.m.v, .bool i33.s, i33.m.v], .int .i64 k] ?_))))
 intro w38 u38 e38 d38
 have k45 := k_eProd (p := k) d38 (h32.ext e38) (h34.ext e38) (h32.ext e38) (h34.ext e38) xq xq xq
 with_reducible refine zPm k45 ?_
 rintro _ u43 g44 ⟨i39, i41, rfl, h40, h42⟩
 refine zzj 8 ⟨160, [.bool false, .slice none 0 0, .bool false, .slice none 0 0]⟩ (zzi ⟨160, i39.cs ++ i41.cs⟩ ty160 ?_)
 refine zzb (zzd ?_)
 have hQ : Nt.CsQ p q k (((sa12 * ((p : Nat) : Int)) / (q : Int)) * ((sa12 * ((p : Nat) : Int)) / (q : Int)) / Nt.u2 k) (Nt.cdiv ((Nt.cdiv (sb12 * ((p : Nat) : Int)) (q : Int)) * (Nt.cdiv (sb12 * ((p : Nat) : Int)) (q : Int))) (Nt.u2 k)) := Nt.CsQ.of hY
 obtain ⟨_, hQ2, hQ3, hQ4, hQ5, hQ6⟩ := id hQ
 obtain ⟨ql, hql⟩ : ∃ z : Int, (((sa12 * ((p : Nat) : Int)) / (q : Int)) * ((sa12 * ((p : Nat) : Int)) / (q : Int)) / Nt.u2 k) = z := ⟨_, rfl⟩
 obtain ⟨qh, hqh⟩ : ∃ z : Int, (Nt.cdiv ((Nt.cdiv (sb12 * ((p : Nat) : Int)) (q : Int)) * (Nt.cdiv (sb12 * ((p : Nat) : Int)) (q : Int))) (Nt.u2 k)) = z := ⟨_, rfl⟩
 have hs46 := h40
 have hs47 := h42
 rw [hql] at hQ hQ2 hQ3 hQ5 hs46
 rw [hqh] at hQ hQ2 hQ4 hQ5 hQ6 hs47
 have hs48 := IntN.lim2 hs46 xq xq
 have hs49 := IntN.lim2 hs47 xq xq
 refine zzf (zza 23 (zI k) (zzg 24 161 [.int .i64 k] ?_))
 intro w50 u50 e50 d50
 have k55 := k_eUnit (k := k) d50 xq
 with_reducible refine zPm k55 ?_
 rintro _ u53 g54 ⟨i51, rfl, h52⟩
 refine zzj 9 ⟨160, [.bool false, .slice none 0 0, .bool false, .slice none 0 0]⟩ (zzi ⟨160, i51.cs ++ i51.cs⟩ ty160 ?_)
 refine zzb (sq9 (zzh 25 (.v (.agg #[.bool i51.s, i51.m.v, .bool i51.s, i51.m.v])) ty160 zze (zzj 10 ⟨160, [.bool false, .slice none 0 0, .bool false, .slice none 0 0]⟩ (zzi ⟨160, i51.cs ++ i51.cs⟩ ty160 ?_))))
 refine zzb (sq9 (zza 11 (zI 2) (zzb (zzs (zyl (I := fun m56 S' u' => ∃ (j : Nat) (x1 : IL) (x2 : IL) (y1 : IL) (y2 : IL) (tl : Int) (th : Int) (sl : Int) (sh : Int), (m56 = Nt.csM k j th) ∧ (Nt.CsI p q k j tl th sl sh) ∧ (S' = St.of 55 [(2, zI k), (6, .adr 6 0), (8, .adr 8 0), (9, .adr 9 0), (10, .adr 10 0), (11, zI (2 * j + 2 : Nat))] [(6, ⟨160, [.bool false, .slice none 0 0, .bool false, .slice none 0 0]⟩), (8, ⟨160, i39.cs ++ i41.cs⟩), (9, ⟨160, x1.cs ++ x2.cs⟩), (10, ⟨160, y1.cs ++ y2.cs⟩)]) ∧ (Ext u53 u') ∧ (IntN u' x1 tl 42) ∧ (IntN u' x2 th 42) ∧ (IntN u' y1 sl 42) ∧ (IntN u' y2 sh 42)) (fun m S u1 u2 e h => by obtain ⟨j, x1, x2, y1, y2, tl, th, sl, sh, hm, p0, hS, hE, f0, f1, f2, f3⟩ := h; exact ⟨j, x1, x2, y1, y2, tl, th, sl, sh, hm, p0, hS, hE.trans e, f0.ext e, f1.ext e, f2.ext e, f3.ext e⟩) _ yq ⟨0, i51, i51, i51, i51, (Nt.u2 k), (Nt.u2 k), (Nt.u2 k), (Nt.u2 k), rfl, Nt.CsI.start, rfl, (Ext.refl _), (IntN.lim2 h52 xq xq), (IntN.lim2 h52 xq xq), (IntN.lim2 h52 xq xq), (IntN.lim2 h52 xq xq)⟩ ?_)))))
 rintro m56 _ u56 ⟨j, x1, x2, y1, y2, tl, th, sl, sh, hm56, hI, rfl, e56, f0, f1, f2, f3⟩
 have hjw := hI.c.jw
 have hD1 := Nt.coD_pos j
 have hD2 := Nt.coD_mul (j := j) xq
 refine zzd (zzs (sq9 (zzh 28 (.v (.agg #[.bool x1.s, x1.m.v, .bool x2.s, x2.m.v])) ty160 zze (zzh 29 (.v (.agg #[.bool i39.s, i39.m.v, .bool i41.s, i41.m.v])) ty160 zze (zza 30 (zI k) (zzg 31 229 [.agg #[.bool x1.s, x1.m.v, .bool x2.s, x2.m.v], .agg #[.bool i39.s, i39.m.v, .bool i41.s, i41.m.v], .int .i64 k] ?_))))))
 intro w57 u57 e57 d57
 have k64 := k_eProd (p := k) d57 (f0.ext e57) (f1.ext e57) (hs48.ext (e50.trans (g54.ext.trans (e56.trans e57)))) (hs49.ext (e50.trans (g54.ext.trans (e56.trans e57)))) xq xq xq
 with_reducible refine zPm k64 ?_
 rintro _ u62 g63 ⟨i58, i60, rfl, h59, h61⟩
 refine zza 32 (zI (2 * j + 2 : Nat)) (zza 33 (zI (2 * j + 2 : Nat)) (zyn 34 (x := zI (IntKind.i64.wrap (((2 * j + 2 : Nat) : Int) - 1))) (zI (((2 * j + 2) - 1 : Nat) : Int)) (eqI xj) (zyn 35 (x := zI (IntKind.i64.wrap (((2 * j + 2 : Nat) : Int) * ((2 * j + 2 - 1 : Nat) : Int)))) (zI (Nt.coD j)) (by rw [show (IntKind.i64.wrap (((2 * j + 2 : Nat) : Int) * ((2 * j + 2 - 1 : Nat) : Int))) = (Nt.coD j) from hD2.1]) (zzg 36 160 [.int .i64 (Nt.coD j)] ?_))))
 intro w65 u65 e65 d65
 have k70 := k_intOf d65 (z := (Nt.coD j)) xq xq
 with_reducible refine zPm k70 ?_
 rintro _ u68 g69 ⟨i66, rfl, h67⟩
 refine zzg 37 228 [.agg #[.bool i58.s, i58.m.v, .bool i60.s, i60.m.v], i66.v] ?_
 intro w71 u71 e71 d71
 have k78 := k_eOver d71 (h59.ext (e65.trans (g69.ext.trans e71))) (h61.ext (e65.trans (g69.ext.trans e71))) (h67.ext e71) xq xq xq
 with_reducible refine zPm k78 ?_
 rintro _ u76 g77 ⟨i72, i74, rfl, h73, h75⟩
 refine zzi ⟨160, i72.cs ++ i74.cs⟩ ty160 ?_
 refine zzc 55 [(2, zI k), (6, .adr 6 0), (8, .adr 8 0), (9, .adr 9 0), (10, .adr 10 0), (11, zI (2 * j + 2 : Nat))] [(6, ⟨160, [.bool false, .slice none 0 0, .bool false, .slice none 0 0]⟩), (8, ⟨160, i39.cs ++ i41.cs⟩), (9, ⟨160, i72.cs ++ i74.cs⟩), (10, ⟨160, y1.cs ++ y2.cs⟩)] (zzd (sq9 (zza 38 (zI (2 * j + 2 : Nat)) (zza 39 (zI (Int.tmod ((2 * j + 2 : Nat) : Int) 4)) (zza 40 (zB ((Int.tmod ((2 * j + 2 : Nat) : Int) 4) == 2)) (zzb (zzt (b := (Int.tmod ((2 * j + 2 : Nat) : Int) 4) == 2) xk (fun hb79 => ?_) (fun hb79 => ?_))))))))
 ·replace hb79 : ((Int.tmod ((2 * j + 2 : Nat) : Int) 4) == 2) = true := hb79
  have ehb79 : Int.tmod ((2 * j + 2 : Nat) : Int) 4 = ((2 * j + 2 : Nat) : Int) % 4 := Int.tmod_eq_emod_of_nonneg xq
  have q2hb79 :  j % 2 = 0 := by have h9 := hb79; rw [ehb79] at h9; simp at h9; omega
  refine zzf (zzh 41 (.v (.agg #[.bool y1.s, y1.m.v, .bool y2.s, y2.m.v])) ty160 zze (zzh 42 (.v (.agg #[.bool i72.s, i72.m.v, .bool i74.s, i74.m.v])) ty160 zze (zzg 43 184 [.agg #[.bool y1.s, y1.m.v, .bool y2.s, y2.m.v], .agg #[.bool i72.s, i72.m.v, .bool i74.s, i74.m.v]] ?_)))
  intro w80 u80 e80 d80
  have k87 := k_eSub d80 (f2.ext (e57.trans (g63.ext.trans (e65.trans (g69.ext.trans (e71.trans (g77.ext.trans e80))))))) (f3.ext (e57.trans (g63.ext.trans (e65.trans (g69.ext.trans (e71.trans (g77.ext.trans e80))))))) (h73.ext e80) (h75.ext e80) xq xq
  with_reducible refine zPm k87 ?_
  rintro _ u85 g86 ⟨i81, i83, rfl, h82, h84⟩
  refine zzi ⟨160, i81.cs ++ i83.cs⟩ ty160 ?_
  refine zzb (sq9 (zza 47 (zI (2 * j + 2 : Nat)) (zza 48 (zB (decide ((4 : Int) ≤ ((2 * j + 2 : Nat) : Int)))) ?_)))
  rcases Bool.eq_false_or_eq_true (decide ((4 : Int) ≤ ((2 * j + 2 : Nat) : Int))) with hs88 | hs88
  ·refine zyn 49 (x := zB (decide ((4 : Int) ≤ ((2 * j + 2 : Nat) : Int)))) (zB true) (by rw [hs88]) ?_
   have qhs88 := of_decide_eq_true hs88
   refine zzh 50 (.v (.agg #[.bool i72.s, i72.m.v, .bool i74.s, i74.m.v])) ty160 zze ?_ (hw := w1 2 true 49)
   refine zzg 51 231 [.agg #[.bool i72.s, i72.m.v, .bool i74.s, i74.m.v]] ?_ (hw := w1 2 true 49)
   intro w89 u89 e89 d89
   have k92 := k_eTiny d89 (h73.ext (e80.trans (g86.ext.trans e89))) (h75.ext (e80.trans (g86.ext.trans e89))) xq
   with_reducible refine zPm k92 ?_
   rintro _ u90 g91 rfl
   refine zza 52 (zB (decide ((Nt.cdiv (Nt.cdiv (th * qh) (Nt.u2 k)) (Nt.coD j)) ≤ 1))) (zzb (zzt (b := decide ((Nt.cdiv (Nt.cdiv (th * qh) (Nt.u2 k)) (Nt.coD j)) ≤ 1)) xk (fun hb93 => ?_) (fun hb93 => ?_)))
   ·replace hb93 : (decide ((Nt.cdiv (Nt.cdiv (th * qh) (Nt.u2 k)) (Nt.coD j)) ≤ 1)) = true := hb93
    have qhb93 := of_decide_eq_true hb93
    refine sq9 (zzh 53 (.v (.agg #[.bool i81.s, i81.m.v, .bool i83.s, i83.m.v])) ty160 zze (zzg 54 232 [.agg #[.bool i81.s, i81.m.v, .bool i83.s, i83.m.v]] ?_))
    intro w94 u94 e94 d94
    have k101 := k_eWider d94 (h82.ext (e89.trans (g91.ext.trans e94))) (h84.ext (e89.trans (g91.ext.trans e94))) xq
    with_reducible refine zPm k101 ?_
    rintro _ u99 g100 ⟨i95, i97, rfl, h96, h98⟩
    refine zzi ⟨160, i95.cs ++ i97.cs⟩ ty160 ?_
    refine zzb (zzn (zyr (zzv (zyq (zyr (ret0 [.agg #[.bool i95.s, .slice i95.m.a i95.m.n i95.m.c, .bool i97.s, .slice i97.m.a i97.m.n i97.m.c]] ⟨zzq ty160 zze, trivial⟩ fun u102 e103 => ?_))))))
    have ho := hI.out hQ hq0 hp (by have h9 := of_decide_eq_true hs88; omega) (of_decide_eq_true hb93) (sl' := (sl - (Nt.cdiv (Nt.cdiv (th * qh) (Nt.u2 k)) (Nt.coD j)))) (sh' := (sh - ((tl * ql / Nt.u2 k) / (Nt.coD j)))) (.inl ⟨q2hb79, rfl, rfl⟩)
    have hob := Nt.csR_bd ho hq0 hp hk
    exact ⟨i95, i97, _, _, rfl, IntN.lim2 (h96.ext e103) xq xq, IntN.lim2 (h98.ext e103) xq xq, ho⟩
   ·replace hb93 : (decide ((Nt.cdiv (Nt.cdiv (th * qh) (Nt.u2 k)) (Nt.coD j)) ≤ 1)) = false := hb93
    have qhb93 := of_decide_eq_false hb93
    refine zzr (zzo ?_)
    refine zzf (zza 26 (zI (2 * j + 2 : Nat)) (zyn 27 (x := zI (IntKind.i64.wrap (((2 * j + 2 : Nat) : Int) + 2))) (zI (((2 * j + 2) + 2 : Nat) : Int)) (eqI xj) (zza 11 (zI (((2 * j + 2) + 2 : Nat) : Int)) (zzw ?_))))
    have hgo := hI.go hQ (.inr (by have h9 : ¬ Nt.csH k j th qh ≤ 1 := of_decide_eq_false hb93; omega)) (sl' := (sl - (Nt.cdiv (Nt.cdiv (th * qh) (Nt.u2 k)) (Nt.coD j)))) (sh' := (sh - ((tl * ql / Nt.u2 k) / (Nt.coD j)))) (.inl ⟨q2hb79, rfl, rfl⟩)
    have hb9 := hgo.1.bd hq0 hp
    have hw9 := Nt.csW_le hk
    have ht0 := hgo.1.c.t0
    have ht1 := hgo.1.c.t1
    have htt := hgo.1.c.tt
    have ht2 := hgo.1.c.t2
    have hmm := hgo.2
    simp only [Nt.csL, Nt.csH] at ht0 ht1 htt ht2 hmm
    refine ⟨_, ?_, _, by exact zzu _ _ _, j + 1, i72, i74, i81, i83, ((tl * ql / Nt.u2 k) / (Nt.coD j)), (Nt.cdiv (Nt.cdiv (th * qh) (Nt.u2 k)) (Nt.coD j)), (sl - (Nt.cdiv (Nt.cdiv (th * qh) (Nt.u2 k)) (Nt.coD j))), (sh - ((tl * ql / Nt.u2 k) / (Nt.coD j))), rfl, hgo.1, rfl, (e56.trans (e57.trans (g63.ext.trans (e65.trans (g69.ext.trans (e71.trans (g77.ext.trans (e80.trans (g86.ext.trans (e89.trans g91.ext)))))))))), (IntN.lim2 (h73.ext (e80.trans (g86.ext.trans (e89.trans g91.ext)))) xq xq), (IntN.lim2 (h75.ext (e80.trans (g86.ext.trans (e89.trans g91.ext)))) xq xq), (IntN.lim2 (h82.ext (e89.trans g91.ext)) xq xq), (IntN.lim2 (h84.ext (e89.trans g91.ext)) xq xq)⟩
    omega
  ·refine zyn 49 (x := zB (decide ((4 : Int) ≤ ((2 * j + 2 : Nat) : Int)))) (zB false) (by rw [hs88]) ?_
   have qhs88 := of_decide_eq_false hs88
   refine zzm 50 (uw 2 true false 49) (zzm 51 (uw 2 true false 49) (zza 52 (zB false) (zzb (zyp xk (zzr (zzo ?_))))))
   refine zzf (zza 26 (zI (2 * j + 2 : Nat)) (zyn 27 (x := zI (IntKind.i64.wrap (((2 * j + 2 : Nat) : Int) + 2))) (zI (((2 * j + 2) + 2 : Nat) : Int)) (eqI xj) (zza 11 (zI (((2 * j + 2) + 2 : Nat) : Int)) (zzw ?_))))
   have hgo := hI.go hQ (.inl (by have h9 := of_decide_eq_false hs88; omega)) (sl' := (sl - (Nt.cdiv (Nt.cdiv (th * qh) (Nt.u2 k)) (Nt.coD j)))) (sh' := (sh - ((tl * ql / Nt.u2 k) / (Nt.coD j)))) (.inl ⟨q2hb79, rfl, rfl⟩)
   have hb9 := hgo.1.bd hq0 hp
   have hw9 := Nt.csW_le hk
   have ht0 := hgo.1.c.t0
   have ht1 := hgo.1.c.t1
   have htt := hgo.1.c.tt
   have ht2 := hgo.1.c.t2
   have hmm := hgo.2
   simp only [Nt.csL, Nt.csH] at ht0 ht1 htt ht2 hmm
   refine ⟨_, ?_, _, by exact zzu _ _ _, j + 1, i72, i74, i81, i83, ((tl * ql / Nt.u2 k) / (Nt.coD j)), (Nt.cdiv (Nt.cdiv (th * qh) (Nt.u2 k)) (Nt.coD j)), (sl - (Nt.cdiv (Nt.cdiv (th * qh) (Nt.u2 k)) (Nt.coD j))), (sh - ((tl * ql / Nt.u2 k) / (Nt.coD j))), rfl, hgo.1, rfl, (e56.trans (e57.trans (g63.ext.trans (e65.trans (g69.ext.trans (e71.trans (g77.ext.trans (e80.trans g86.ext)))))))), (IntN.lim2 (h73.ext (e80.trans g86.ext)) xq xq), (IntN.lim2 (h75.ext (e80.trans g86.ext)) xq xq), (IntN.lim2 h82 xq xq), (IntN.lim2 h84 xq xq)⟩
   omega
 ·replace hb79 : ((Int.tmod ((2 * j + 2 : Nat) : Int) 4) == 2) = false := hb79
  have ehb79 : Int.tmod ((2 * j + 2 : Nat) : Int) 4 = ((2 * j + 2 : Nat) : Int) % 4 := Int.tmod_eq_emod_of_nonneg xq
  have q2hb79 : ¬ j % 2 = 0 := by have h9 := hb79; rw [ehb79] at h9; simp at h9; omega
  refine zzf (zzh 44 (.v (.agg #[.bool y1.s, y1.m.v, .bool y2.s, y2.m.v])) ty160 zze (zzh 45 (.v (.agg #[.bool i72.s, i72.m.v, .bool i74.s, i74.m.v])) ty160 zze (zzg 46 230 [.agg #[.bool y1.s, y1.m.v, .bool y2.s, y2.m.v], .agg #[.bool i72.s, i72.m.v, .bool i74.s, i74.m.v]] ?_)))
  intro w104 u104 e104 d104
  have k111 := k_eAdd d104 (f2.ext (e57.trans (g63.ext.trans (e65.trans (g69.ext.trans (e71.trans (g77.ext.trans e104))))))) (f3.ext (e57.trans (g63.ext.trans (e65.trans (g69.ext.trans (e71.trans (g77.ext.trans e104))))))) (h73.ext e104) (h75.ext e104) xq xq
  with_reducible refine zPm k111 ?_
  rintro _ u109 g110 ⟨i105, i107, rfl, h106, h108⟩
  refine zzi ⟨160, i105.cs ++ i107.cs⟩ ty160 ?_
  refine zzb (sq9 (zza 47 (zI (2 * j + 2 : Nat)) (zza 48 (zB (decide ((4 : Int) ≤ ((2 * j + 2 : Nat) : Int)))) ?_)))
  rcases Bool.eq_false_or_eq_true (decide ((4 : Int) ≤ ((2 * j + 2 : Nat) : Int))) with hs112 | hs112
  ·refine zyn 49 (x := zB (decide ((4 : Int) ≤ ((2 * j + 2 : Nat) : Int)))) (zB true) (by rw [hs112]) ?_
   have qhs112 := of_decide_eq_true hs112
   refine zzh 50 (.v (.agg #[.bool i72.s, i72.m.v, .bool i74.s, i74.m.v])) ty160 zze ?_ (hw := w1 2 true 49)
   refine zzg 51 231 [.agg #[.bool i72.s, i72.m.v, .bool i74.s, i74.m.v]] ?_ (hw := w1 2 true 49)
   intro w113 u113 e113 d113
   have k116 := k_eTiny d113 (h73.ext (e104.trans (g110.ext.trans e113))) (h75.ext (e104.trans (g110.ext.trans e113))) xq
   with_reducible refine zPm k116 ?_
   rintro _ u114 g115 rfl
   refine zza 52 (zB (decide ((Nt.cdiv (Nt.cdiv (th * qh) (Nt.u2 k)) (Nt.coD j)) ≤ 1))) (zzb (zzt (b := decide ((Nt.cdiv (Nt.cdiv (th * qh) (Nt.u2 k)) (Nt.coD j)) ≤ 1)) xk (fun hb117 => ?_) (fun hb117 => ?_)))
   ·replace hb117 : (decide ((Nt.cdiv (Nt.cdiv (th * qh) (Nt.u2 k)) (Nt.coD j)) ≤ 1)) = true := hb117
    have qhb117 := of_decide_eq_true hb117
    refine sq9 (zzh 53 (.v (.agg #[.bool i105.s, i105.m.v, .bool i107.s, i107.m.v])) ty160 zze (zzg 54 232 [.agg #[.bool i105.s, i105.m.v, .bool i107.s, i107.m.v]] ?_))
    intro w118 u118 e118 d118
    have k125 := k_eWider d118 (h106.ext (e113.trans (g115.ext.trans e118))) (h108.ext (e113.trans (g115.ext.trans e118))) xq
    with_reducible refine zPm k125 ?_
    rintro _ u123 g124 ⟨i119, i121, rfl, h120, h122⟩
    refine zzi ⟨160, i119.cs ++ i121.cs⟩ ty160 ?_
    refine zzb (zzn (zyr (zzv (zyq (zyr (ret0 [.agg #[.bool i119.s, .slice i119.m.a i119.m.n i119.m.c, .bool i121.s, .slice i121.m.a i121.m.n i121.m.c]] ⟨zzq ty160 zze, trivial⟩ fun u126 e127 => ?_))))))
    have ho := hI.out hQ hq0 hp (by have h9 := of_decide_eq_true hs112; omega) (of_decide_eq_true hb117) (sl' := (sl + ((tl * ql / Nt.u2 k) / (Nt.coD j)))) (sh' := (sh + (Nt.cdiv (Nt.cdiv (th * qh) (Nt.u2 k)) (Nt.coD j)))) (.inr ⟨q2hb79, rfl, rfl⟩)
    have hob := Nt.csR_bd ho hq0 hp hk
    exact ⟨i119, i121, _, _, rfl, IntN.lim2 (h120.ext e127) xq xq, IntN.lim2 (h122.ext e127) xq xq, ho⟩
   ·replace hb117 : (decide ((Nt.cdiv (Nt.cdiv (th * qh) (Nt.u2 k)) (Nt.coD j)) ≤ 1)) = false := hb117
    have qhb117 := of_decide_eq_false hb117
    refine zzr (zzo ?_)
    refine zzf (zza 26 (zI (2 * j + 2 : Nat)) (zyn 27 (x := zI (IntKind.i64.wrap (((2 * j + 2 : Nat) : Int) + 2))) (zI (((2 * j + 2) + 2 : Nat) : Int)) (eqI xj) (zza 11 (zI (((2 * j + 2) + 2 : Nat) : Int)) (zzw ?_))))
    have hgo := hI.go hQ (.inr (by have h9 : ¬ Nt.csH k j th qh ≤ 1 := of_decide_eq_false hb117; omega)) (sl' := (sl + ((tl * ql / Nt.u2 k) / (Nt.coD j)))) (sh' := (sh + (Nt.cdiv (Nt.cdiv (th * qh) (Nt.u2 k)) (Nt.coD j)))) (.inr ⟨q2hb79, rfl, rfl⟩)
    have hb9 := hgo.1.bd hq0 hp
    have hw9 := Nt.csW_le hk
    have ht0 := hgo.1.c.t0
    have ht1 := hgo.1.c.t1
    have htt := hgo.1.c.tt
    have ht2 := hgo.1.c.t2
    have hmm := hgo.2
    simp only [Nt.csL, Nt.csH] at ht0 ht1 htt ht2 hmm
    refine ⟨_, ?_, _, by exact zzu _ _ _, j + 1, i72, i74, i105, i107, ((tl * ql / Nt.u2 k) / (Nt.coD j)), (Nt.cdiv (Nt.cdiv (th * qh) (Nt.u2 k)) (Nt.coD j)), (sl + ((tl * ql / Nt.u2 k) / (Nt.coD j))), (sh + (Nt.cdiv (Nt.cdiv (th * qh) (Nt.u2 k)) (Nt.coD j))), rfl, hgo.1, rfl, (e56.trans (e57.trans (g63.ext.trans (e65.trans (g69.ext.trans (e71.trans (g77.ext.trans (e104.trans (g110.ext.trans (e113.trans g115.ext)))))))))), (IntN.lim2 (h73.ext (e104.trans (g110.ext.trans (e113.trans g115.ext)))) xq xq), (IntN.lim2 (h75.ext (e104.trans (g110.ext.trans (e113.trans g115.ext)))) xq xq), (IntN.lim2 (h106.ext (e113.trans g115.ext)) xq xq), (IntN.lim2 (h108.ext (e113.trans g115.ext)) xq xq)⟩
    omega
  ·refine zyn 49 (x := zB (decide ((4 : Int) ≤ ((2 * j + 2 : Nat) : Int)))) (zB false) (by rw [hs112]) ?_
   have qhs112 := of_decide_eq_false hs112
   refine zzm 50 (uw 2 true false 49) (zzm 51 (uw 2 true false 49) (zza 52 (zB false) (zzb (zyp xk (zzr (zzo ?_))))))
   refine zzf (zza 26 (zI (2 * j + 2 : Nat)) (zyn 27 (x := zI (IntKind.i64.wrap (((2 * j + 2 : Nat) : Int) + 2))) (zI (((2 * j + 2) + 2 : Nat) : Int)) (eqI xj) (zza 11 (zI (((2 * j + 2) + 2 : Nat) : Int)) (zzw ?_))))
   have hgo := hI.go hQ (.inl (by have h9 := of_decide_eq_false hs112; omega)) (sl' := (sl + ((tl * ql / Nt.u2 k) / (Nt.coD j)))) (sh' := (sh + (Nt.cdiv (Nt.cdiv (th * qh) (Nt.u2 k)) (Nt.coD j)))) (.inr ⟨q2hb79, rfl, rfl⟩)
   have hb9 := hgo.1.bd hq0 hp
   have hw9 := Nt.csW_le hk
   have ht0 := hgo.1.c.t0
   have ht1 := hgo.1.c.t1
   have htt := hgo.1.c.tt
   have ht2 := hgo.1.c.t2
   have hmm := hgo.2
   simp only [Nt.csL, Nt.csH] at ht0 ht1 htt ht2 hmm
   refine ⟨_, ?_, _, by exact zzu _ _ _, j + 1, i72, i74, i105, i107, ((tl * ql / Nt.u2 k) / (Nt.coD j)), (Nt.cdiv (Nt.cdiv (th * qh) (Nt.u2 k)) (Nt.coD j)), (sl + ((tl * ql / Nt.u2 k) / (Nt.coD j))), (sh + (Nt.cdiv (Nt.cdiv (th * qh) (Nt.u2 k)) (Nt.coD j))), rfl, hgo.1, rfl, (e56.trans (e57.trans (g63.ext.trans (e65.trans (g69.ext.trans (e71.trans (g77.ext.trans (e104.trans g110.ext)))))))), (IntN.lim2 (h73.ext (e104.trans g110.ext)) xq xq), (IntN.lim2 (h75.ext (e104.trans g110.ext)) xq xq), (IntN.lim2 h106 xq xq), (IntN.lim2 h108 xq xq)⟩
   omega
section
variable (P : Program) (w0 : Base) (u0 : World)
def MP.into (I : Nat → St → World → Prop) (Q : MP) (hI : ∀ m, Mono (I m)) : MP where
 f e S u := match e with | .normal => ∃ m T, Weak S T ∧ I m T u | .goto _ => False | e => Q.f e S u
 mono e := by
  cases e <;> first | exact Q.mono _ | skip
  ·rintro S u u' he ⟨m, T, h1, h2⟩
   exact ⟨m, T, h1, hI m T u u' he h2⟩
  ·exact fun S u u' he h => h
def MP.jump (l : Nat) (I : Nat → St → World → Prop) (n : Nat) (Q : MP) (hI : ∀ m, Mono (I m)) : MP where
 f e S u := match e with | .goto l' => l' = l ∧ ∃ m, m < n ∧ ∃ T, Weak S T ∧ I m T u | e => Q.f e S u
 mono e := by
  cases e <;> first | exact Q.mono _ | skip
  rintro S u u' he ⟨hl, m, hm, T, h1, h2⟩
  exact ⟨hl, m, hm, T, h1, hI m T u u' he h2⟩
end
section
variable {P : Program} {w0 : Base} {u0 : World} {S T : St} {B : Tmp → Nat} {a : Act} {w u u' : World} {Q : MP} {c d A R : Code}
theorem sw_goto {l : Nat} (h : Q.f (.goto l) S u) : SW P w0 u0 (.goto l) S u Q := fun B a w u' e hr => wp_goto ⟨S, B, u', hr, Q.mono _ _ _ _ e h⟩
theorem mpg_seq {l : Nat} {c : Code} {Q : MP} (h : Q.f (.goto l) S u) : (MP.seq P w0 u0 c Q).f (.goto l) S u := h
theorem mpg_jump {l n m : Nat} {I : Nat → St → World → Prop} {Q : MP} {hI : ∀ m, Mono (I m)} (hm : m < n) (hw : Weak S T) (h : I m T u) : (MP.jump l I n Q hI).f (.goto l) S u := ⟨rfl, m, hm, T, hw, h⟩
theorem mpr_jump {l n : Nat} {I : Nat → St → World → Prop} {Q : MP} {hI : ∀ m, Mono (I m)} (h : Q.f .ret S u) : (MP.jump l I n Q hI).f .ret S u := h
theorem mpi_into {m : Nat} {I : Nat → St → World → Prop} {Q : MP} {hI : ∀ m, Mono (I m)} (hw : Weak S T) (h : I m T u) : (MP.into I Q hI).f .normal S u := ⟨m, T, hw, h⟩
theorem sw_scope {l : Nat} {I : Nat → St → World → Prop} (hI : ∀ m, Mono (I m)) (hf : findLabel (.seq A (.seq (.label l) R)) l = some (.seq .skip R)) (hA : SW P w0 u0 A S u (MP.into I Q hI)) (h : ∀ n S u, I n S u → SW P w0 u0 R S u (MP.jump l I n Q hI)) : SW P w0 u0 (.scope (.seq A (.seq (.label l) R))) S u Q := by
 intro B a w u' e hr
 let J : Nat → Act → World → Prop := fun n a w => ∃ S B u'', Rep w0 u0 S B a w u'' ∧ I n S u''
 let μ : Act → World → Nat := fun a w => Classical.epsilon fun m => J m a w ∧ ∀ k, J k a w → m ≤ k
 have hμ : ∀ a w n, J n a w → J (μ a w) a w ∧ μ a w ≤ n := fun a w n hn => by
  have := Classical.epsilon_spec (p := fun m => J m a w ∧ ∀ k, J k a w → m ≤ k) (least n hn)
  exact ⟨this.1, this.2 n hn⟩
 refine wp_scope_jumps l (fun a w => ∃ n, J n a w) μ hf ?_ ?_
 ·refine wp_seq (wp_mono (hA B a w u' e hr) fun ex a' w' ⟨S', B', u'', k1, k3⟩ => ?_)
  cases ex with
  | normal =>
   obtain ⟨m, T', t1, t2⟩ := k3
   refine wp_seq (wp_label ?_)
   refine wp_mono (h m T' u'' t2 B' a' w' u'' (Ext.refl _) (k1.weak t1)) fun ex a' w' ⟨S', B', u'', k1, k3⟩ => ?_
   cases ex with
   | goto l' =>
    obtain ⟨rfl, m, hm, T', t1, t2⟩ := k3
    exact ⟨rfl, m, T', B', u'', k1.weak t1, t2⟩
   | _ => exact ⟨S', B', u'', k1, k3⟩
  | goto l' => exact k3.elim
  | _ => exact ⟨S', B', u'', k1, k3⟩
 ·rintro a w ⟨n, hn⟩
  obtain ⟨S1, B1, u1, r1, i1⟩ := (hμ a w n hn).1
  refine wp_seq (wp_skip ?_)
  refine wp_mono (h _ S1 u1 i1 B1 a w u1 (Ext.refl _) r1) fun ex a' w' ⟨S', B', u'', k1, k3⟩ => ?_
  cases ex with
  | goto l' =>
   obtain ⟨rfl, m, hm, T', t1, t2⟩ := k3
   have hJ : J m a' w' := ⟨T', B', u'', k1.weak t1, t2⟩
   exact ⟨rfl, ⟨m, hJ⟩, Nat.lt_of_le_of_lt (hμ a' w' m hJ).2 hm⟩
  | _ => exact ⟨S', B', u'', k1, k3⟩
end
theorem sw_joinP {P : Program} {w0 : Base} {u0 u : World} {S : St} {r c : Code} {Q : MP} (I : St → World → Prop) (h1 : ∀ S' u1, Ext u u1 → I S' u1 → SW P w0 u0 c S' u1 Q) (h2 : (∀ S' u1, Ext u u1 → I S' u1 → SW P w0 u0 c S' u1 Q) → SW P w0 u0 r S u (MP.seq P w0 u0 c Q)) : SW P w0 u0 r S u (MP.seq P w0 u0 c Q) := h2 h1
section
variable {P : Program} {u0 u u' w w' : World} {S : St} {B : Tmp → Nat} {a : Act} {c : Code} {w0 : Base}
variable {ops : Array Oper} {o : Oper} {p : List Tmp} {rest : List (Oper × List Tmp)} {K : St → World → Prop}
end
section
variable {u u' : World} {L : List RL} {l : List Rat} {q : Rat} {r : RL} {K i b n c : Nat} {x : Sl}
end
section
variable {P : Program} {ops : Array Oper} {w0 : Base} {u0 : World} {S T : St} {B : Tmp → Nat} {a : Act} {w w' u u' : World} {o : Oper} {p : List Tmp} {seq : Bool} {rest : List (Oper × List Tmp)} {K : St → World → Prop}
theorem Rep.pubA (h : Rep w0 u0 S B a w u) {r t : Tmp} {V : Vr} {pubs : List Tmp} (hno : NoAt S pubs) (ht : t ∈ pubs) (hall : ∀ s ∈ pubs, ∀ V', S.var s = some V' → s = t) (hr : S.reg r = some (.adr t 0)) (hv : S.var t = some V) (htn : t < S.n) :
  Rep w0 u0 ((S.unpub pubs).set r (.v (.pointer (some ⟨B t, 0, none⟩)))) B a w (pubW u w [B t]) := by
 refine ⟨⟨fun s x hx => ?_, h.regs.size⟩, ⟨fun s x t' hx ht' => ?_⟩, h.defers, fun s V' hV => ?_, fun s s' V1 V2 h1 h2 e => ?_, pubW_dat h.dat, h.base, pubW_grow h.grow (fun b hb => ?_), h.bel⟩
 ·by_cases e : s = r
  ·subst e
   simp only [St.set, zyv] at hx
   injection hx with hx
   subst hx
   exact h.regs.reg s (.adr t 0) hr
  ·simp only [St.set, upd_ne _ _ e] at hx
   exact h.regs.reg s x (zxw hx).1
 ·by_cases e : s = r
  ·subst e
   simp only [St.set, zyv] at hx
   injection hx with hx
   subst hx; cases ht'
  ·simp only [St.set, upd_ne _ _ e] at hx
   obtain ⟨k1, k2⟩ := zxw hx
   obtain ⟨V', hV'⟩ := h.wf.reg s x t' k1 ht'
   exact ⟨V', by show (S.unpub pubs).var t' = _; rw [unpub_var (fun hm => k2 (hno s x t' k1 ht' hm))]; exact hV'⟩
 ·obtain ⟨k1, k2⟩ := zxh hV
  obtain ⟨g1, g2, g3⟩ := h.var s V' k1
  refine ⟨g1, ?_, g3⟩
  rw [pubW_out]
  ·exact g2
  ·intro hm
   simp at hm
   exact k2 (h.inj s t V' V k1 hv hm ▸ ht)
 ·exact h.inj s s' V1 V2 (zxh h1).1 (zxh h2).1 e
 ·simp at hb; subst hb; exact (h.var t V hv).2.2.1 htn
theorem sw_pubA {c0 : Code} {Q : MP} {r t : Tmp} {V : Vr} (pubs : List Tmp) (hno : NoAt S pubs) (hall : (pubs.all fun s => Nat.beq s t || (S.var s).isNone) = true) (hr : S.reg r = some (.adr t 0)) (hv : S.var t = some V) (ht : pubs.contains t = true)
  (k : ∀ b u1, Ext u u1 → u0.heap.size ≤ b → (∀ ob, u.heap[b]? = some ob → ob = hidO) → u1.heap[b]? = some (.cells V.cs.toArray V.ty (0, 0)) → SW P w0 u0 c0 ((S.unpub pubs).set r (.v (.pointer (some ⟨b, 0, none⟩)))) u1 Q) (hlt : Nat.blt t S.n = true := by kernel_rfl) : SW P w0 u0 c0 S u Q := by
 intro B a w u' e hrep
 have hm := List.contains_iff_mem.1 ht
 obtain ⟨g1, g2, g3⟩ := hrep.var t V hv
 have hx : Ext u' (pubW u' w [B t]) := pubW_ext hrep.dat
 have hrep2 := hrep.pubA hno hm (fun s hs V' hV' => by
  have := List.all_eq_true.1 hall s hs
  simp only [Bool.or_eq_true, Option.isNone_iff_eq_none] at this
  rcases this with h | h
  ·exact Nat.eq_of_beq_eq_true h
  ·rw [hV'] at h; cases h) hr hv (Nat.le_of_ble_eq_true hlt)
 refine k (B t) (pubW u' w [B t]) (e.trans hx) (g3.1 (Nat.le_of_ble_eq_true hlt)) (fun ob hob => ?_) (by rw [pubW_in (by simp) (zyt g2) hrep.dat.size]; exact g1) B a w _ (Ext.refl _) hrep2
 by_cases hh : ob = hidO
 ·exact hh
 ·have := e.vis _ ob hob hh
  rw [g2] at this; injection this with this; exact this.symm
theorem sy_fun (d : Tmp) {f : FuncId} {cs : List Operand} (vs : List Value) (k : sym P ops w0 u0 true rest (S.set d (.v (.func (.func f) #[] vs.toArray))) u K) (hw : Wants ops o S := by exact zxx xk) (hd : o.dst = some d := by kernel_rfl) (hop : o.op = .makeFunc (.func f) #[] cs.toArray := by rfl) (hf : freeB S d = true := by kernel_rfl)
  (hev : cs.map (evO S) = vs.map (fun v => some (.v v)) := by rfl) : sym P ops w0 u0 true ((o, p) :: rest) S u K := by
 refine .inr (.inr (.inl ⟨.inl rfl, fun B a w u' he hrep => ⟨hw B a hrep.regs, ?_⟩⟩))
 have hcs : cs.map a.eval = vs := by
  clear hop k
  induction cs generalizing vs with
  | nil => cases vs with
   | nil => rfl
   | cons v vs => cases hev
  | cons c cs ih => cases vs with
   | nil => cases hev
   | cons v vs =>
    simp only [List.map_cons, List.cons.injEq] at hev ⊢
    refine ⟨?_, ih vs hev.2⟩
    rw [ev_of hrep.regs hev.1]; rfl
 have hrun : (execOp a.eval o).run P w = .ok (.value (.func (.func f) #[] vs.toArray)) w := by
  unfold execOp
  simp only [hop]
  simp [Instr.makeFunc, Sem.run_pure, ← hcs]
 unfold Oper.wp
 rw [hrun]
 have hr2 := hrep.set (d := o.dst) (x := some (.v (.func (.func f) #[] vs.toArray))) (v := .func (.func f) #[] vs.toArray) (fun s hs => (zxq hd hf s hs).1) (fun z e => by injection e with e; rw [← e]; rfl) (fun z t e ht => by injection e with e; rw [← e] at ht; cases ht)
 show ∃ S' B' u'' u2, Rep w0 u0 S' B' (a.put o.dst _) w u'' ∧ _
 refine ⟨_, B, u', u, hr2, fun _ => Ext.refl _, fun _ => Ext.refl _, he, ?_⟩
 rw [hd]; exact k
def SL (P : Program) (w0 : Base) (u0 : World) (ops : Array Oper) (l : List Oper) (S : St) (u : World) (Q : MP) : Prop :=
 ∀ B a w u', Ext u u' → Rep w0 u0 S B a w u' → wpList P ops (fun e a' w' => ∃ S' B' u'', Rep w0 u0 S' B' a' w' u'' ∧ Q.f e S' u'') l a w
end
section
variable {u u' u1 : World} {L : List RL} {r : RL} {l : List Rat} {q : Rat} {K n b b6 : Nat} {cs : List Value} {t t6 : TypeId}
theorem var_cell1 {v : Value} (h : u.heap[b]? = some (.cells [v].toArray t (0, 0))) : u.cell? ⟨b, 0, none⟩ = some v := by rw [cells_at h]; rfl
end
theorem k_ratMake {u w : World} {i j : IL} {z D : Int} {K L : Nat} (d : Dat u w) (hi : IntN u i z K) (hj : IntN u j D L) (hD : 0 < D) (hK : K ≤ 1000000) (hL : L ≤ 1000000) : Calls Tryz.prog 162 #[i.v, j.v] w (Post u w fun v u' => ∃ r : RL, v = .tuple #[r.v, .int .i64 0] ∧ RatN u' r ((z : Rat) / (D : Rat)) (K + L + 1)) := by
 refine zzl (args := [i.v, j.v]) Tryz.func162 rfl Tryz.ntmps162 (rs := [.cell 4 26, .tmp 5]) Tryz.results162 (le_b rfl) (le_b rfl) d ?_
 refine sq9 (zzj 2 ⟨24, i.cs⟩ (zzj 3 ⟨24, j.cs⟩ (zzj 4 ⟨26, [.bool false, .slice none 0 0, .slice none 0 0]⟩ (zza 5 (zI 0) (zzb (zzd (sq9 (zzh 6 (.v (j.v)) ty24 zze (zzg 7 146 [j.v] ?_)))))))))
 intro w11 u11 e11 d11
 have k14 := k_intSign d11 (hj.ext e11).raw
 with_reducible refine zPm k14 ?_
 rintro _ u12 g13 rfl
 refine zza 8 (zB ((Nt.cmpS D 0) == 0)) (zzb (zzt (b := (Nt.cmpS D 0) == 0) xk (fun hb => ?_) (fun hb => ?_)))
 ·exact absurd hb (by rw [show ((Nt.cmpS D 0) == 0) = false from (by rw [Nt.cmp_gt hD]; rfl)]; decide)
 ·clear hb
  refine zzr (zzo ?_)
  refine sq9 (zzh 10 (.v (i.v)) ty24 zze (zzh 11 (.v (j.v)) ty24 zze (zzg 12 196 [i.v, j.v] ?_)))
  intro w15 u15 e15 d15
  have k18 := k_quotient (i := i) (j := j) d15
  with_reducible refine zPm k18 ?_
  rintro _ u16 g17 rfl
  refine zzg 13 148 [.agg #[.bool (!(i.s == j.s)), i.m.v, j.m.v]] ?_
  intro w19 u19 e19 d19
  have k24 := k_lowest d19 ((quot_int (hi.ext (e11.trans (g13.ext.trans (e15.trans g17.ext)))) (hj.ext (e11.trans (g13.ext.trans (e15.trans g17.ext))))).ext e19) ((int_mag (hj.ext (e11.trans (g13.ext.trans (e15.trans g17.ext))))).ext e19).raw (show 0 < (D : Int).natAbs by omega) xq xq
  with_reducible refine zPm k24 ?_
  rintro _ u22 g23 ⟨r20, rfl, h21⟩
  refine zzi ⟨26, r20.cs⟩ ty26 ?_
  refine zza 5 (zI 0) (zzb (zzn (ret0 [r20.v, .int .i64 0] ⟨zzq ty26 zze, zzp, trivial⟩ fun u25 e26 => ?_)))
  refine ⟨r20, rfl, RatN.more (K := (max K L)) ?_ xq⟩
  rw [← Nt.div_mk2 xq]
  exact (h21.ext e26)
theorem k_betweenN {u w : World} {i : IL} {z : Int} {k K : Nat} (d : Dat u w) (hi : IntN u i z K) (hk : k ≤ 256) (hK0 : 1 ≤ K) (hK : K ≤ 900000) : Calls Tryz.prog 84 #[i.v, .bool false, .int .i64 (k : Int)] w (Post u w fun v u' => ∃ r1 r2 : RL, v = IV r1 r2 ∧ RatN u' r1 (Nt.gr k z) (K + 20) ∧ RatN u' r2 (Nt.gr k (z + 1)) (K + 20)) := by
 refine zzl (args := [i.v, .bool false, .int .i64 k]) Tryz.func84 rfl Tryz.ntmps84 (rs := [.cell 6 32]) Tryz.results84 (le_b rfl) (le_b rfl) d ?_
 refine sq9 (zzj 3 ⟨24, i.cs⟩ (zzj 6 ⟨32, [.bool false, .slice none 0 0, .slice none 0 0, .bool false, .slice none 0 0, .slice none 0 0]⟩ (zzb (sq9 (zzh 13 (.v (i.v)) ty24 zze (zzj 7 ⟨24, [.bool false, .slice none 0 0]⟩ (zzi ⟨24, i.cs⟩ ty24 ?_)))))))
 refine zzb (zzd (sq9 (zza 14 (zB false) (zza 15 (zB true) (zzb (zyo xk (zzy [0, 0, 3, 7] [(0, []), (1, []), (2, []), (3, [])] xk xk (zzh 16 (.v (i.v)) ty24 zze (zzg 17 160 [.int .i64 1] ?_)))))))))
 intro w11 u11 e11 d11
 have k16 := k_intOf d11 (z := 1) xq xq
 with_reducible refine zPm k16 ?_
 rintro _ u14 g15 ⟨i12, rfl, h13⟩
 refine zzg 18 159 [i.v, i12.v] ?_
 intro w17 u17 e17 d17
 have k22 := k_intAdd d17 (hi.ext (e11.trans (g15.ext.trans e17))).raw (h13.ext e17).raw xq xq
 with_reducible refine zPm k22 ?_
 rintro _ u20 g21 ⟨i18, rfl, h19⟩
 refine zzi ⟨24, i18.cs⟩ ty24 ?_
 refine zzb (sq9 (zza 19 (zI k) (zzg 20 161 [.int .i64 k] ?_)))
 intro w23 u23 e23 d23
 have k28 := k_eUnit (k := k) d23 xq
 with_reducible refine zPm k28 ?_
 rintro _ u26 g27 ⟨i24, rfl, h25⟩
 refine zza 21 (.v (i24.v)) (zzj 8 ⟨24, [.bool false, .slice none 0 0]⟩ (zzi ⟨24, i24.cs⟩ ty24 ?_))
 refine zzb (sq9 (zzh 23 (.v (i.v)) ty24 zze (zzh 24 (.v (i24.v)) ty24 zze (zzg 25 162 [i.v, i24.v] ?_))))
 intro w29 u29 e29 d29
 have k34 := k_ratMake d29 (hi.ext (e11.trans (g15.ext.trans (e17.trans (g21.ext.trans (e23.trans (g27.ext.trans e29))))))) (h25.ext e29) (Nt.u2_pos _) xq xq
 with_reducible refine zPm k34 ?_
 rintro _ u32 g33 ⟨r30, rfl, h31⟩
 refine zza 22 (.v (.tuple #[r30.v, .int .i64 0])) (zza 26 (.v (r30.v)) (zza 27 (zI 0) (zzj 9 ⟨26, [.bool false, .slice none 0 0, .slice none 0 0]⟩ (zzi ⟨26, r30.cs⟩ ty26 ?_))))
 refine zza 10 (zI 0) (zzb (sq9 (zzh 29 (.v (i18.v)) ty24 zze (zzh 30 (.v (i24.v)) ty24 zze (zzg 31 162 [i18.v, i24.v] ?_)))))
 intro w35 u35 e35 d35
 have k40 := k_ratMake d35 (h19.ext (e23.trans (g27.ext.trans (e29.trans (g33.ext.trans e35))))) (h25.ext (e29.trans (g33.ext.trans e35))) (Nt.u2_pos _) xq xq
 with_reducible refine zPm k40 ?_
 rintro _ u38 g39 ⟨r36, rfl, h37⟩
 refine zza 28 (.v (.tuple #[r36.v, .int .i64 0])) (zza 32 (.v (r36.v)) (zza 33 (zI 0) (zzj 11 ⟨26, [.bool false, .slice none 0 0, .slice none 0 0]⟩ (zzi ⟨26, r36.cs⟩ ty26 ?_))))
 refine zza 12 (zI 0) (zzc 37 [(6, .adr 6 0), (9, .adr 9 0), (11, .adr 11 0)] [(6, ⟨32, [.bool false, .slice none 0 0, .slice none 0 0, .bool false, .slice none 0 0, .slice none 0 0]⟩), (9, ⟨26, r30.cs⟩), (11, ⟨26, r36.cs⟩)] (sq9 (zzh 34 (.v (r30.v)) ty26 zze (zzh 35 (.v (r36.v)) ty26 zze (zza 36 (.v (.agg #[.bool r30.s, r30.m.v, r30.d.v, .bool r36.s, r36.m.v, r36.d.v])) (zzi ⟨32, r30.cs ++ r36.cs⟩ ty32 ?_))))))
 refine zzb (zzn (ret0 [.agg #[.bool r30.s, .slice r30.m.a r30.m.n r30.m.c, .slice r30.d.a r30.d.n r30.d.c, .bool r36.s, .slice r36.m.a r36.m.n r36.m.c, .slice r36.d.a r36.d.n r36.d.c]] ⟨zzq ty32 zze, trivial⟩ fun u41 e42 => ?_))
 refine ⟨r30, r36, rfl, RatN.more (K := (K + (k / 32 + 2) + 1)) ?_ xq, RatN.more (K := ((max K 2 + 1) + (k / 32 + 2) + 1)) ?_ xq⟩
 ·exact (h31.ext (e35.trans (g39.ext.trans e42)))
 ·exact (h37.ext e42)
theorem k_betweenE {u w : World} {i : IL} {z : Int} {k K : Nat} (d : Dat u w) (hi : IntN u i z K) (hk : k ≤ 256) (hK0 : 1 ≤ K) (hK : K ≤ 900000) : Calls Tryz.prog 84 #[i.v, .bool true, .int .i64 (k : Int)] w (Post u w fun v u' => ∃ r1 r2 : RL, v = IV r1 r2 ∧ RatN u' r1 (Nt.gr k z) (K + 20) ∧ RatN u' r2 (Nt.gr k z) (K + 20)) := by
 refine zzl (args := [i.v, .bool true, .int .i64 k]) Tryz.func84 rfl Tryz.ntmps84 (rs := [.cell 6 32]) Tryz.results84 (le_b rfl) (le_b rfl) d ?_
 refine sq9 (zzj 3 ⟨24, i.cs⟩ (zzj 6 ⟨32, [.bool false, .slice none 0 0, .slice none 0 0, .bool false, .slice none 0 0, .slice none 0 0]⟩ (zzb (sq9 (zzh 13 (.v (i.v)) ty24 zze (zzj 7 ⟨24, [.bool false, .slice none 0 0]⟩ (zzi ⟨24, i.cs⟩ ty24 ?_)))))))
 refine zzb (zzd (sq9 (zza 14 (zB true) (zza 15 (zB false) (zzb (zyp xk (zzr (zzo ?_))))))))
 refine sq9 (zza 19 (zI k) (zzg 20 161 [.int .i64 k] ?_))
 intro w11 u11 e11 d11
 have k16 := k_eUnit (k := k) d11 xq
 with_reducible refine zPm k16 ?_
 rintro _ u14 g15 ⟨i12, rfl, h13⟩
 refine zza 21 (.v (i12.v)) (zzj 8 ⟨24, [.bool false, .slice none 0 0]⟩ (zzi ⟨24, i12.cs⟩ ty24 ?_))
 refine zzb (sq9 (zzh 23 (.v (i.v)) ty24 zze (zzh 24 (.v (i12.v)) ty24 zze (zzg 25 162 [i.v, i12.v] ?_))))
 intro w17 u17 e17 d17
 have k22 := k_ratMake d17 (hi.ext (e11.trans (g15.ext.trans e17))) (h13.ext e17) (Nt.u2_pos _) xq xq
 with_reducible refine zPm k22 ?_
 rintro _ u20 g21 ⟨r18, rfl, h19⟩
 refine zza 22 (.v (.tuple #[r18.v, .int .i64 0])) (zza 26 (.v (r18.v)) (zza 27 (zI 0) (zzj 9 ⟨26, [.bool false, .slice none 0 0, .slice none 0 0]⟩ (zzi ⟨26, r18.cs⟩ ty26 ?_))))
 refine zza 10 (zI 0) (zzb (sq9 (zzh 29 (.v (i.v)) ty24 zze (zzh 30 (.v (i12.v)) ty24 zze (zzg 31 162 [i.v, i12.v] ?_)))))
 intro w23 u23 e23 d23
 have k28 := k_ratMake d23 (hi.ext (e11.trans (g15.ext.trans (e17.trans (g21.ext.trans e23))))) (h13.ext (e17.trans (g21.ext.trans e23))) (Nt.u2_pos _) xq xq
 with_reducible refine zPm k28 ?_
 rintro _ u26 g27 ⟨r24, rfl, h25⟩
 refine zza 28 (.v (.tuple #[r24.v, .int .i64 0])) (zza 32 (.v (r24.v)) (zza 33 (zI 0) (zzj 11 ⟨26, [.bool false, .slice none 0 0, .slice none 0 0]⟩ (zzi ⟨26, r24.cs⟩ ty26 ?_))))
 refine zza 12 (zI 0) (zzb (sq9 (zzh 34 (.v (r18.v)) ty26 zze (zzh 35 (.v (r24.v)) ty26 zze (zza 36 (.v (.agg #[.bool r18.s, r18.m.v, r18.d.v, .bool r24.s, r24.m.v, r24.d.v])) (zzi ⟨32, r18.cs ++ r24.cs⟩ ty32 ?_))))))
 refine zzc 37 [(6, .adr 6 0)] [(6, ⟨32, r18.cs ++ r24.cs⟩)] (zzn (ret0 [.agg #[.bool r18.s, .slice r18.m.a r18.m.n r18.m.c, .slice r18.d.a r18.d.n r18.d.c, .bool r24.s, .slice r24.m.a r24.m.n r24.m.c, .slice r24.d.a r24.d.n r24.d.c]] ⟨zzq ty32 zze, trivial⟩ fun u29 e30 => ?_))
 refine ⟨r18, r24, rfl, RatN.more (K := (K + (k / 32 + 2) + 1)) ?_ xq, RatN.more (K := (K + (k / 32 + 2) + 1)) ?_ xq⟩
 ·exact (h19.ext (e23.trans (g27.ext.trans e30)))
 ·exact (h25.ext e30)
theorem k_betweenB {u w : World} {i : IL} {z : Int} {e : Bool} {k K : Nat} (d : Dat u w) (hi : IntN u i z K) (hk : k ≤ 256) (hK0 : 1 ≤ K) (hK : K ≤ 900000) : Calls Tryz.prog 84 #[i.v, .bool e, .int .i64 (k : Int)] w (Post u w fun v u' => ∃ r1 r2 : RL, v = IV r1 r2 ∧ RatN u' r1 (Nt.gr k z) (K + 20) ∧ RatN u' r2 (Nt.gr k (if e = true then z else z + 1)) (K + 20)) := by
 cases e with
 | true => exact k_betweenE d hi hk hK0 hK
 | false => exact k_betweenN d hi hk hK0 hK
set_option maxHeartbeats 2000000 in
theorem k_irrPi {u w : World}  {k g : Nat} (d : Dat u w)  (hg : Nt.Gap Nt.piN k g) (hg3 : g ≤ 300) (hk : k ≤ 256) : Calls Tryz.prog 101 #[.func (.func 102) #[] #[], .int .i64 (k : Int)] w (Post u w fun v u' => ∃ r1 r2 : RL, v = IV r1 r2 ∧ RatN u' r1 (Nt.gr k (Nt.flo Nt.piN k)) 70 ∧ RatN u' r2 (Nt.gr k (Nt.flo Nt.piN k + 1)) 70) := by
 refine zzl (args := [.func (.func 102) #[] #[], .int .i64 k]) Tryz.func101 rfl Tryz.ntmps101 (rs := [.cell 4 32]) Tryz.results101 (le_b rfl) (le_b rfl) d ?_
 refine sq9 (zzj 4 ⟨32, [.bool false, .slice none 0 0, .slice none 0 0, .bool false, .slice none 0 0, .slice none 0 0]⟩ (zzb (sw_scope (I := fun m11 S' u' => ∃ (wk : Nat), (m11 = 1000 - wk) ∧ (k + 32 ≤ wk) ∧ (wk ≤ 674 ∨ wk = k + 32) ∧ (S' = St.of 49 [(0, .v (.func (.func 102) #[] #[])), (1, zI k), (4, .adr 4 0), (5, zI wk)] [(4, ⟨32, [.bool false, .slice none 0 0, .slice none 0 0, .bool false, .slice none 0 0, .slice none 0 0]⟩)]) ∧ (Ext u u')) (fun m S u1 u2 e h => by obtain ⟨wk, hm, p0, p1, hS, hE⟩ := h; exact ⟨wk, hm, p0, p1, hS, hE.trans e⟩) xk ?_ ?_)))
 ·skip
  refine zzf (zza 14 (zI k) (zyn 15 (x := zI (IntKind.i64.wrap ((k : Int) + 32))) (zI (k + 32 : Nat)) (eqI xj) (zza 5 (zI (k + 32 : Nat)) (zzw ?_))))
  exact mpi_into (T := St.of 49 [(0, .v (.func (.func 102) #[] #[])), (1, .v (.int .i64 (k : Int))), (4, .adr 4 0), (5, .v (.int .i64 ((k + 32 : Nat) : Int)))] [(4, ⟨32, [.bool false, .slice none 0 0, .slice none 0 0, .bool false, .slice none 0 0, .slice none 0 0]⟩)]) yq ⟨k + 32, rfl, by omega, .inr rfl, rfl, (Ext.refl _)⟩
 ·skip
  rintro m11 _ u11 ⟨wk, hm11, hw0, hw1, rfl, e11⟩
  refine sq9 (zza 16 (.v (.func (.func 102) #[] #[])) (zza 17 (zI wk) (zzg 18 102 [.int .i64 wk] ?_)))
  intro w12 u12 e12 d12
  have k16 := k_ePi d12 (k := wk) xq xq
  with_reducible refine zPm k16 ?_
  rintro _ u14 g15 ⟨si13, sj13, sa13, sb13, rfl, ha13, hb13, hR13⟩
  refine zzj 6 ⟨160, [.bool false, .slice none 0 0, .bool false, .slice none 0 0]⟩ (zzi ⟨160, si13.cs ++ sj13.cs⟩ ty160 ?_)
  refine zzb (sq9 (zza 19 (zI wk) (zza 20 (zI k) (zyn 21 (x := zI (IntKind.i64.wrap ((wk : Int) - (k : Int)))) (zI (wk - k : Nat)) (eqI xj) (zzg 22 161 [.int .i64 (wk - k : Nat)] ?_)))))
  intro w17 u17 e17 d17
  have k22 := k_eUnit (k := wk - k) d17 xq
  with_reducible refine zPm k22 ?_
  rintro _ u20 g21 ⟨i18, rfl, h19⟩
  refine zza 23 (.v (i18.v)) (zzj 7 ⟨24, [.bool false, .slice none 0 0]⟩ (zzi ⟨24, i18.cs⟩ ty24 ?_))
  refine zzb (sq9 (zza 25 (.adr 6 0) (zzh 26 (.v (si13.v)) ty24 zze (zzh 27 (.v (i18.v)) ty24 zze (zzg 28 180 [si13.v, i18.v] ?_)))))
  intro w23 u23 e23 d23
  have k30 := k_intDivI d23 (ha13.ext (e17.trans (g21.ext.trans e23))).raw (h19.ext e23) (Nt.u2_pos _) xq xq
  with_reducible refine zPm k30 ?_
  rintro _ u28 g29 ⟨i24, i26, rfl, h25, h27⟩
  refine zza 24 (.v (.tuple #[i24.v, i26.v, .int .i64 0])) (zza 29 (.v (i24.v)) (zza 30 (.v (i26.v)) (zza 31 (zI 0) (zzj 8 ⟨24, [.bool false, .slice none 0 0]⟩ (zzj 9 ⟨24, [.bool false, .slice none 0 0]⟩ (zzi ⟨24, i24.cs⟩ ty24 ?_))))))
  refine zzi ⟨24, i26.cs⟩ ty24 ?_
  refine zza 10 (zI 0) (zzb (sq9 (zza 33 (.adr 6 2) (zzh 34 (.v (sj13.v)) ty24 zze (zzh 35 (.v (i18.v)) ty24 zze (zzg 36 180 [sj13.v, i18.v] ?_))))))
  intro w31 u31 e31 d31
  have k38 := k_intDivI d31 (hb13.ext (e17.trans (g21.ext.trans (e23.trans (g29.ext.trans e31))))).raw (h19.ext (e23.trans (g29.ext.trans e31))) (Nt.u2_pos _) xq xq
  with_reducible refine zPm k38 ?_
  rintro _ u36 g37 ⟨i32, i34, rfl, h33, h35⟩
  refine zza 32 (.v (.tuple #[i32.v, i34.v, .int .i64 0])) (zza 37 (.v (i32.v)) (zza 38 (.v (i34.v)) (zza 39 (zI 0) (zzj 11 ⟨24, [.bool false, .slice none 0 0]⟩ (zzj 12 ⟨24, [.bool false, .slice none 0 0]⟩ (zzi ⟨24, i32.cs⟩ ty24 ?_))))))
  refine zzi ⟨24, i34.cs⟩ ty24 ?_
  refine zza 13 (zI 0) (zzc 49 [(0, .v (.func (.func 102) #[] #[])), (1, zI k), (4, .adr 4 0), (5, zI wk), (8, .adr 8 0), (11, .adr 11 0)] [(4, ⟨32, [.bool false, .slice none 0 0, .slice none 0 0, .bool false, .slice none 0 0, .slice none 0 0]⟩), (8, ⟨24, i24.cs⟩), (11, ⟨24, i32.cs⟩)] (zzd (sq9 (zzh 40 (.v (i24.v)) ty24 zze (zzh 41 (.v (i32.v)) ty24 zze (zzg 42 181 [i24.v, i32.v] ?_))))))
  intro w39 u39 e39 d39
  have k42 := k_intCompare d39 (h25.ext (e31.trans (g37.ext.trans e39))).raw (h33.ext e39).raw
  with_reducible refine zPm k42 ?_
  rintro _ u40 g41 rfl
  refine zza 43 (zB ((Nt.cmpS (sa13 / (Nt.u2 (wk - k))) (sb13 / (Nt.u2 (wk - k)))) != 0)) (zzb (zzt (b := (Nt.cmpS (sa13 / (Nt.u2 (wk - k))) (sb13 / (Nt.u2 (wk - k)))) != 0) xk (fun hb43 => ?_) (fun hb43 => ?_)))
  ·replace hb43 : ((Nt.cmpS (sa13 / (Nt.u2 (wk - k))) (sb13 / (Nt.u2 (wk - k)))) != 0) = true := hb43
   refine sq9 (zza 44 (zI wk) (zyn 45 (x := zI (IntKind.i64.wrap ((wk : Int) * 2))) (zI (wk * 2 : Nat)) (eqI xj) (zza 5 (zI (wk * 2 : Nat)) (zzb ?_))))
   have hny := Nt.not_yet hg hR13.1 (Nt.piR_w hR13 xq) hb43
   refine sw_goto (mpg_seq (mpg_jump (m := _) (T := St.of 49 [(0, .v (.func (.func 102) #[] #[])), (1, zI k), (4, .adr 4 0), (5, zI (wk * 2 : Nat))] [(4, ⟨32, [.bool false, .slice none 0 0, .slice none 0 0, .bool false, .slice none 0 0, .slice none 0 0]⟩)]) ?_ yq ⟨wk * 2, rfl, by omega, by omega, rfl, (e11.trans (e12.trans (g15.ext.trans (e17.trans (g21.ext.trans (e23.trans (g29.ext.trans (e31.trans (g37.ext.trans (e39.trans g41.ext))))))))))⟩))
   omega
  ·replace hb43 : ((Nt.cmpS (sa13 / (Nt.u2 (wk - k))) (sb13 / (Nt.u2 (wk - k)))) != 0) = false := hb43
   refine zzr (zzo ?_)
   refine sq9 (zzh 46 (.v (i24.v)) ty24 zze (zza 47 (zI k) (zzg 48 84 [i24.v, .bool false, .int .i64 k] ?_)))
   intro w44 u44 e44 d44
   have k51 := k_betweenN (k := k) d44 (h25.ext (e31.trans (g37.ext.trans (e39.trans (g41.ext.trans e44))))) xq xq xq
   with_reducible refine zPm k51 ?_
   rintro _ u49 g50 ⟨r45, r47, rfl, h46, h48⟩
   refine zzi ⟨32, r45.cs ++ r47.cs⟩ ty32 ?_
   refine zzb (zzn (mpr_jump (ret0 [.agg #[.bool r45.s, .slice r45.m.a r45.m.n r45.m.c, .slice r45.d.a r45.d.n r45.d.c, .bool r47.s, .slice r47.m.a r47.m.n r47.m.c, .slice r47.d.a r47.d.n r47.d.c]] ⟨zzq ty32 zze, trivial⟩ fun u52 e53 => ?_)))
   have hfl := Nt.flo_of hR13.1 xq hb43
   refine ⟨r45, r47, rfl, RatN.more (K := ((42 + 1) + 20)) ?_ xq, RatN.more (K := ((42 + 1) + 20)) ?_ xq⟩
   ·rw [← hfl]; exact (h46.ext e53)
   ·rw [← hfl]; exact (h48.ext e53)
theorem k_cos1 {u w : World} {p q k bp bq : Nat} (d : Dat u w) (hbp : u.heap[bp]? = some (.cells [Value.int .i64 (p : Int)].toArray 3 (0, 0))) (hbq : u.heap[bq]? = some (.cells [Value.int .i64 (q : Int)].toArray 3 (0, 0))) (hq0 : 0 < q) (hq : q ≤ 100000) (hp : 2 * p ≤ q) (hp1 : 1 ≤ p) (hk0 : 16 ≤ k) (hk : k ≤ 800) : Calls Tryz.prog 178 #[.int .i64 (k : Int), .pointer (some ⟨bp, 0, none⟩), .pointer (some ⟨bq, 0, none⟩)] w (Post u w fun v u' => ∃ (i j : IL) (a b : Int), v = SP i j ∧ IntN u' i a 42 ∧ IntN u' j b 42 ∧ Nt.CsR p q k a b) := by
 refine zzl (args := [.int .i64 k, .pointer (some ⟨bp, 0, none⟩), .pointer (some ⟨bq, 0, none⟩)]) Tryz.func178 rfl Tryz.ntmps178 (rs := [.cell 4 160]) Tryz.results178 (le_b rfl) (le_b rfl) d ?_
 refine sq9 (zzj 4 ⟨160, [.bool false, .slice none 0 0, .bool false, .slice none 0 0]⟩ (zzb (sq9 (zyk 5 (.int .i64 p) (var_cell1 hbp) ty3 (zyk 6 (.int .i64 q) (var_cell1 hbq) ty3 (zza 7 (zI k) (zzg 8 179 [.int .i64 p, .int .i64 q, .int .i64 k] ?_)))))))
 intro w11 u11 e11 d11
 have k15 := k_cosineOf d11 (p := p) (q := q) (k := k) hq0 hq hp hp1 xq xq
 with_reducible refine zPm k15 ?_
 rintro _ u13 g14 ⟨si12, sj12, sa12, sb12, rfl, ha12, hb12, hR12⟩
 refine zzi ⟨160, si12.cs ++ sj12.cs⟩ ty160 ?_
 refine zzb (zzn (ret0 [.agg #[.bool si12.s, .slice si12.m.a si12.m.n si12.m.c, .bool sj12.s, .slice sj12.m.a sj12.m.n sj12.m.c]] ⟨zzq ty160 zze, trivial⟩ fun u16 e17 => ?_))
 exact ⟨si12, sj12, _, _, rfl, (ha12.ext e17), (hb12.ext e17), hR12⟩
set_option maxHeartbeats 2000000 in
theorem k_irrCos {u w : World} {p q bp bq : Nat} {k g : Nat} (d : Dat u w) (hbp : u.heap[bp]? = some (.cells [Value.int .i64 (p : Int)].toArray 3 (0, 0))) (hbq : u.heap[bq]? = some (.cells [Value.int .i64 (q : Int)].toArray 3 (0, 0))) (hq0 : 0 < q) (hq : q ≤ 100000) (hp : 2 * p ≤ q) (hp1 : 1 ≤ p) (hg : Nt.Gap (Nt.coN p q) k g) (hg3 : g ≤ 300) (hk : k ≤ 256) : Calls Tryz.prog 101 #[.func (.func 178) #[] #[.pointer (some ⟨bp, 0, none⟩), .pointer (some ⟨bq, 0, none⟩)], .int .i64 (k : Int)] w (Post u w fun v u' => ∃ r1 r2 : RL, v = IV r1 r2 ∧ RatN u' r1 (Nt.gr k (Nt.flo (Nt.coN p q) k)) 70 ∧ RatN u' r2 (Nt.gr k (Nt.flo (Nt.coN p q) k + 1)) 70) := by
 refine zzl (args := [.func (.func 178) #[] #[.pointer (some ⟨bp, 0, none⟩), .pointer (some ⟨bq, 0, none⟩)], .int .i64 k]) Tryz.func101 rfl Tryz.ntmps101 (rs := [.cell 4 32]) Tryz.results101 (le_b rfl) (le_b rfl) d ?_
 refine sq9 (zzj 4 ⟨32, [.bool false, .slice none 0 0, .slice none 0 0, .bool false, .slice none 0 0, .slice none 0 0]⟩ (zzb (sw_scope (I := fun m11 S' u' => ∃ (wk : Nat), (m11 = 1000 - wk) ∧ (k + 32 ≤ wk) ∧ (wk ≤ 674 ∨ wk = k + 32) ∧ (S' = St.of 49 [(0, .v (.func (.func 178) #[] #[.pointer (some ⟨bp, 0, none⟩), .pointer (some ⟨bq, 0, none⟩)])), (1, zI k), (4, .adr 4 0), (5, zI wk)] [(4, ⟨32, [.bool false, .slice none 0 0, .slice none 0 0, .bool false, .slice none 0 0, .slice none 0 0]⟩)]) ∧ (Ext u u')) (fun m S u1 u2 e h => by obtain ⟨wk, hm, p0, p1, hS, hE⟩ := h; exact ⟨wk, hm, p0, p1, hS, hE.trans e⟩) xk ?_ ?_)))
 ·skip
  refine zzf (zza 14 (zI k) (zyn 15 (x := zI (IntKind.i64.wrap ((k : Int) + 32))) (zI (k + 32 : Nat)) (eqI xj) (zza 5 (zI (k + 32 : Nat)) (zzw ?_))))
  exact mpi_into (T := St.of 49 [(0, .v (.func (.func 178) #[] #[.pointer (some ⟨bp, 0, none⟩), .pointer (some ⟨bq, 0, none⟩)])), (1, .v (.int .i64 (k : Int))), (4, .adr 4 0), (5, .v (.int .i64 ((k + 32 : Nat) : Int)))] [(4, ⟨32, [.bool false, .slice none 0 0, .slice none 0 0, .bool false, .slice none 0 0, .slice none 0 0]⟩)]) yq ⟨k + 32, rfl, by omega, .inr rfl, rfl, (Ext.refl _)⟩
 ·skip
  rintro m11 _ u11 ⟨wk, hm11, hw0, hw1, rfl, e11⟩
  refine sq9 (zza 16 (.v (.func (.func 178) #[] #[.pointer (some ⟨bp, 0, none⟩), .pointer (some ⟨bq, 0, none⟩)])) (zza 17 (zI wk) (zzg 18 178 [.int .i64 wk, .pointer (some ⟨bp, 0, none⟩), .pointer (some ⟨bq, 0, none⟩)] ?_)))
  intro w12 u12 e12 d12
  have k16 := k_cos1 d12 (k := wk) ((e11.trans e12).cells hbp) ((e11.trans e12).cells hbq) hq0 hq hp hp1 xq xq
  with_reducible refine zPm k16 ?_
  rintro _ u14 g15 ⟨si13, sj13, sa13, sb13, rfl, ha13, hb13, hR13⟩
  refine zzj 6 ⟨160, [.bool false, .slice none 0 0, .bool false, .slice none 0 0]⟩ (zzi ⟨160, si13.cs ++ sj13.cs⟩ ty160 ?_)
  refine zzb (sq9 (zza 19 (zI wk) (zza 20 (zI k) (zyn 21 (x := zI (IntKind.i64.wrap ((wk : Int) - (k : Int)))) (zI (wk - k : Nat)) (eqI xj) (zzg 22 161 [.int .i64 (wk - k : Nat)] ?_)))))
  intro w17 u17 e17 d17
  have k22 := k_eUnit (k := wk - k) d17 xq
  with_reducible refine zPm k22 ?_
  rintro _ u20 g21 ⟨i18, rfl, h19⟩
  refine zza 23 (.v (i18.v)) (zzj 7 ⟨24, [.bool false, .slice none 0 0]⟩ (zzi ⟨24, i18.cs⟩ ty24 ?_))
  refine zzb (sq9 (zza 25 (.adr 6 0) (zzh 26 (.v (si13.v)) ty24 zze (zzh 27 (.v (i18.v)) ty24 zze (zzg 28 180 [si13.v, i18.v] ?_)))))
  intro w23 u23 e23 d23
  have k30 := k_intDivI d23 (ha13.ext (e17.trans (g21.ext.trans e23))).raw (h19.ext e23) (Nt.u2_pos _) xq xq
  with_reducible refine zPm k30 ?_
  rintro _ u28 g29 ⟨i24, i26, rfl, h25, h27⟩
  refine zza 24 (.v (.tuple #[i24.v, i26.v, .int .i64 0])) (zza 29 (.v (i24.v)) (zza 30 (.v (i26.v)) (zza 31 (zI 0) (zzj 8 ⟨24, [.bool false, .slice none 0 0]⟩ (zzj 9 ⟨24, [.bool false, .slice none 0 0]⟩ (zzi ⟨24, i24.cs⟩ ty24 ?_))))))
  refine zzi ⟨24, i26.cs⟩ ty24 ?_
  refine zza 10 (zI 0) (zzb (sq9 (zza 33 (.adr 6 2) (zzh 34 (.v (sj13.v)) ty24 zze (zzh 35 (.v (i18.v)) ty24 zze (zzg 36 180 [sj13.v, i18.v] ?_))))))
  intro w31 u31 e31 d31
  have k38 := k_intDivI d31 (hb13.ext (e17.trans (g21.ext.trans (e23.trans (g29.ext.trans e31))))).raw (h19.ext (e23.trans (g29.ext.trans e31))) (Nt.u2_pos _) xq xq
  with_reducible refine zPm k38 ?_
  rintro _ u36 g37 ⟨i32, i34, rfl, h33, h35⟩
  refine zza 32 (.v (.tuple #[i32.v, i34.v, .int .i64 0])) (zza 37 (.v (i32.v)) (zza 38 (.v (i34.v)) (zza 39 (zI 0) (zzj 11 ⟨24, [.bool false, .slice none 0 0]⟩ (zzj 12 ⟨24, [.bool false, .slice none 0 0]⟩ (zzi ⟨24, i32.cs⟩ ty24 ?_))))))
  refine zzi ⟨24, i34.cs⟩ ty24 ?_
  refine zza 13 (zI 0) (zzc 49 [(0, .v (.func (.func 178) #[] #[.pointer (some ⟨bp, 0, none⟩), .pointer (some ⟨bq, 0, none⟩)])), (1, zI k), (4, .adr 4 0), (5, zI wk), (8, .adr 8 0), (11, .adr 11 0)] [(4, ⟨32, [.bool false, .slice none 0 0, .slice none 0 0, .bool false, .slice none 0 0, .slice none 0 0]⟩), (8, ⟨24, i24.cs⟩), (11, ⟨24, i32.cs⟩)] (zzd (sq9 (zzh 40 (.v (i24.v)) ty24 zze (zzh 41 (.v (i32.v)) ty24 zze (zzg 42 181 [i24.v, i32.v] ?_))))))
  intro w39 u39 e39 d39
  have k42 := k_intCompare d39 (h25.ext (e31.trans (g37.ext.trans e39))).raw (h33.ext e39).raw
  with_reducible refine zPm k42 ?_
  rintro _ u40 g41 rfl
  refine zza 43 (zB ((Nt.cmpS (sa13 / (Nt.u2 (wk - k))) (sb13 / (Nt.u2 (wk - k)))) != 0)) (zzb (zzt (b := (Nt.cmpS (sa13 / (Nt.u2 (wk - k))) (sb13 / (Nt.u2 (wk - k)))) != 0) xk (fun hb43 => ?_) (fun hb43 => ?_)))
  ·replace hb43 : ((Nt.cmpS (sa13 / (Nt.u2 (wk - k))) (sb13 / (Nt.u2 (wk - k)))) != 0) = true := hb43
   refine sq9 (zza 44 (zI wk) (zyn 45 (x := zI (IntKind.i64.wrap ((wk : Int) * 2))) (zI (wk * 2 : Nat)) (eqI xj) (zza 5 (zI (wk * 2 : Nat)) (zzb ?_))))
   have hny := Nt.not_yet hg hR13.1 ((Nt.csR_bd hR13 hq0 hp xq).2.2.2.2.2) hb43
   refine sw_goto (mpg_seq (mpg_jump (m := _) (T := St.of 49 [(0, .v (.func (.func 178) #[] #[.pointer (some ⟨bp, 0, none⟩), .pointer (some ⟨bq, 0, none⟩)])), (1, zI k), (4, .adr 4 0), (5, zI (wk * 2 : Nat))] [(4, ⟨32, [.bool false, .slice none 0 0, .slice none 0 0, .bool false, .slice none 0 0, .slice none 0 0]⟩)]) ?_ yq ⟨wk * 2, rfl, by omega, by omega, rfl, (e11.trans (e12.trans (g15.ext.trans (e17.trans (g21.ext.trans (e23.trans (g29.ext.trans (e31.trans (g37.ext.trans (e39.trans g41.ext))))))))))⟩))
   omega
  ·replace hb43 : ((Nt.cmpS (sa13 / (Nt.u2 (wk - k))) (sb13 / (Nt.u2 (wk - k)))) != 0) = false := hb43
   refine zzr (zzo ?_)
   refine sq9 (zzh 46 (.v (i24.v)) ty24 zze (zza 47 (zI k) (zzg 48 84 [i24.v, .bool false, .int .i64 k] ?_)))
   intro w44 u44 e44 d44
   have k51 := k_betweenN (k := k) d44 (h25.ext (e31.trans (g37.ext.trans (e39.trans (g41.ext.trans e44))))) xq xq xq
   with_reducible refine zPm k51 ?_
   rintro _ u49 g50 ⟨r45, r47, rfl, h46, h48⟩
   refine zzi ⟨32, r45.cs ++ r47.cs⟩ ty32 ?_
   refine zzb (zzn (mpr_jump (ret0 [.agg #[.bool r45.s, .slice r45.m.a r45.m.n r45.m.c, .slice r45.d.a r45.d.n r45.d.c, .bool r47.s, .slice r47.m.a r47.m.n r47.m.c, .slice r47.d.a r47.d.n r47.d.c]] ⟨zzq ty32 zze, trivial⟩ fun u52 e53 => ?_)))
   have hfl := Nt.flo_of hR13.1 xq hb43
   refine ⟨r45, r47, rfl, RatN.more (K := ((42 + 1) + 20)) ?_ xq, RatN.more (K := ((42 + 1) + 20)) ?_ xq⟩
   ·rw [← hfl]; exact (h46.ext e53)
   ·rw [← hfl]; exact (h48.ext e53)
end Go.Proofs.YtbolmkfphieogaaGreat
