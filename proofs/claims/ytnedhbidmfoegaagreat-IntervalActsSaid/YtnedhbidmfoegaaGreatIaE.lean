/- Contracts of the reference: rounding to multiples of a power of two. Printed by wip/sym/g_re.py. Contracts for IntervalActs. Printed by wip/sym/g_r9.py. IntervalActs, walked. Printed by wip/sym/g_l4i.py. -/
import Derived.Test.YtnedhbidmfoegaaGreatIaD
namespace Go.Proofs.YtnedhbidmfoegaaGreat
open Go.RowKit
set_option linter.unusedVariables false
theorem k_unit {u w : World} {k : Nat} (d : Dat u w) (hk : k ≤ 65536) : Calls Tryz.prog 197 #[.int .i64 (k : Int)] w (Post u w fun v u' => ∃ r : RL, v = r.v ∧ RatN u' r (((2 ^ k : Nat) : Int) : Rat) (k / 32 + 2)) := by
 refine zzk (args := [.int .i64 (k : Int)]) Tryz.func197 rfl Tryz.ntmps197 (rs := [.cell 2 26]) Tryz.results197 (le_b rfl) (le_b rfl) d ?_
 refine sq9 ?_
 refine zzi 2 ⟨26, [.bool false, .slice none 0 0, .slice none 0 0]⟩ ?_
 refine zzb 9 [(0, .v (.int .i64 (k : Int))), (2, .adr 2 0)] [(2, ⟨26, [.bool false, .slice none 0 0, .slice none 0 0]⟩)] ?_
 refine sq9 ?_
 refine sy_data 3 ⟨105, [.int .u32 1]⟩ 1 (fun b11 u12 e13 h14 => ?_)
 refine zza 4 (.v (.int .i64 (k : Int))) ?_
 refine zzf 5 203 [.slice (some ⟨b11, 0, none⟩) 1 1, .int .i64 (k : Int)] ?_
 intro w15 u15 e15 d15
 have k20 := k_rnShift (s := k) d15 ((one_data h14).ext e15).raw (by omega) (by omega)
 with_reducible refine Post.mono k20 ?_
 rintro _ u18 g19 ⟨x16, rfl, h17⟩
 refine zza 6 (.v (.agg #[.bool false, x16.v])) ?_
 refine sy_data 7 ⟨105, [.int .u32 1]⟩ 1 (fun b21 u22 e23 h24 => ?_)
 refine zza 8 (.v (.agg #[.bool false, x16.v, .slice (some ⟨b21, 0, none⟩) 1 1])) ?_
 refine zzh ⟨26, [.bool false, x16.v, .slice (some ⟨b21, 0, none⟩) 1 1]⟩ ty26 ?_
 refine zzb 9 [(2, .adr 2 0)] [(2, ⟨26, [.bool false, x16.v, .slice (some ⟨b21, 0, none⟩) 1 1]⟩)] ?_
 refine zzm (ret0 [.agg #[.bool false, .slice x16.a x16.n x16.c, .slice (some ⟨b21, 0, none⟩) 1 1]] ⟨zzp ty26 zzd, trivial⟩ fun u25 e26 => ?_)
 refine ⟨(⟨false, x16, (⟨some ⟨b21, 0, none⟩, 1, 1⟩ : Sl)⟩ : RL), rfl, ?_⟩
 have h9 := whole_rat (nat_intN (h17.ext (e23.trans e26))) ((one_data h24).ext e26)
 rw [Nat.one_mul] at h9
 exact h9.more (by omega)
theorem k_floor {u w : World} {r : RL} {q : Rat} {K : Nat} (d : Dat u w) (hr : RatV u r q K) (hK : K ≤ 10000000) : Calls Tryz.prog 198 #[r.v] w (Post u w fun v u' => ∃ i : IL, v = i.v ∧ IntN u' i (Nt.flr q) (K + 1)) := by
 refine zzk (args := [r.v]) Tryz.func198 rfl Tryz.ntmps198 (rs := [.cell 2 24]) Tryz.results198 (le_b rfl) (le_b rfl) d ?_
 refine sq9 ?_
 refine zzi 1 ⟨26, r.cs⟩ ?_
 refine zzi 2 ⟨24, [.bool false, .slice none 0 0]⟩ ?_
 refine zzb 21 [(1, .adr 1 0), (2, .adr 2 0)] [(1, ⟨26, r.cs⟩), (2, ⟨24, [.bool false, .slice none 0 0]⟩)] ?_
 refine sq9 ?_
 refine zzg 9 (.v (r.v)) ty26 zzd ?_
 refine zzf 10 105 [r.v] ?_
 intro w11 u11 e11 d11
 have k15 := k_parts d11 (hr.ext e11) (by omega)
 with_reducible refine Post.mono k15 ?_
 rintro _ u13 g14 ⟨i12, j12, z12, D12, rfl, hi12, hj12, hp12, hq12, hk12⟩
 refine zza 8 (.v (.tuple #[i12.v, j12.v])) ?_
 refine zza 11 (.v (i12.v)) ?_
 refine zza 12 (.v (j12.v)) ?_
 refine zzi 3 ⟨24, [.bool false, .slice none 0 0]⟩ ?_
 refine zzi 4 ⟨24, [.bool false, .slice none 0 0]⟩ ?_
 refine zzh ⟨24, i12.cs⟩ ty24 ?_
 refine zzh ⟨24, j12.cs⟩ ty24 ?_
 refine zzb 21 [(2, .adr 2 0), (3, .adr 3 0), (4, .adr 4 0)] [(2, ⟨24, [.bool false, .slice none 0 0]⟩), (3, ⟨24, i12.cs⟩), (4, ⟨24, j12.cs⟩)] ?_
 refine sq9 ?_
 refine zzg 14 (.v (i12.v)) ty24 zzd ?_
 refine zzg 15 (.v (j12.v)) ty24 zzd ?_
 refine zzf 16 158 [i12.v, j12.v] ?_
 intro w16 u16 e16 d16
 have k23 := k_riDiv d16 (hi12.ext e16) (hj12.ext e16).raw (show ((D12 : Nat) : Int) ≠ 0 by have h9 := hp12; omega) (by omega) (by omega)
 with_reducible refine Post.mono k23 ?_
 rintro _ u21 g22 ⟨i17, i19, rfl, h18, h20⟩
 refine zza 13 (.v (.tuple #[i17.v, i19.v, .int .i64 0])) ?_
 refine zza 17 (.v (i17.v)) ?_
 refine zza 18 (.v (i19.v)) ?_
 refine zza 19 (.v (.int .i64 0)) ?_
 refine zzi 5 ⟨24, [.bool false, .slice none 0 0]⟩ ?_
 refine zzi 6 ⟨24, [.bool false, .slice none 0 0]⟩ ?_
 refine zzh ⟨24, i17.cs⟩ ty24 ?_
 refine zzh ⟨24, i19.cs⟩ ty24 ?_
 refine zza 7 (.v (.int .i64 0)) ?_
 refine zzb 21 [(2, .adr 2 0), (5, .adr 5 0)] [(2, ⟨24, [.bool false, .slice none 0 0]⟩), (5, ⟨24, i17.cs⟩)] ?_
 refine sq9 ?_
 refine zzg 20 (.v (i17.v)) ty24 zzd ?_
 refine zzh ⟨24, i17.cs⟩ ty24 ?_
 refine zzb 21 [(2, .adr 2 0)] [(2, ⟨24, i17.cs⟩)] ?_
 refine zzm (ret0 [i17.v] ⟨zzp ty24 zzd, trivial⟩ fun u24 e25 => ?_)
 refine ⟨i17, rfl, IntN.more (K := (K + 1)) ?_ (by omega)⟩
 rw [hq12, Nt.flr_mk hp12]
 exact (h18.ext e25)
theorem k_bad {u w : World} {n : Int} (d : Dat u w) : Calls Tryz.prog 178 #[.int .i64 n] w (Post u w fun v _ => v = .bool (decide (n < 0 ∨ 256 < n))) := by
 refine zzk (args := [.int .i64 n]) Tryz.func178 rfl Tryz.ntmps178 (rs := [.tmp 2]) Tryz.results178 (le_b rfl) (le_b rfl) d ?_
 refine sq9 ?_
 refine zza 2 (.v (.bool false)) ?_
 refine zzb 9 [(0, .v (.int .i64 n))] [] ?_
 refine sq9 ?_
 refine zza 3 (.v (.int .i64 n)) ?_
 refine zza 4 (.v (.bool (decide (n < 0)))) ?_
 rcases Bool.eq_false_or_eq_true (decide (n < 0)) with hs11 | hs11
 ·refine zyl 5 (x := .v (.bool (decide (n < 0)))) (.v (.bool true)) (by rw [hs11]) ?_
  have qhs11 := of_decide_eq_true hs11
  refine zzl 6 (uw 2 false true 5) ?_
  refine zzl 7 (uw 2 false true 5) ?_
  refine zza 8 (.v (.bool true)) ?_
  refine zza 2 (.v (.bool true)) ?_
  refine zzb 9 [(2, .v (.bool true))] [] ?_
  refine zzm (ret0 [.bool true] ⟨zzo, trivial⟩ fun u12 e13 => ?_)
  show Value.bool _ = Value.bool _
  congr 1
  symm
  exact decide_eq_true (.inl (of_decide_eq_true hs11))
 ·refine zyl 5 (x := .v (.bool (decide (n < 0)))) (.v (.bool false)) (by rw [hs11]) ?_
  have qhs11 := of_decide_eq_false hs11
  refine zza 6 (.v (.int .i64 n)) ?_ (hw := w1 2 false 5)
  refine zza 7 (.v (.bool (decide ((256 : Int) < n)))) ?_ (hw := w1 2 false 5)
  refine zza 8 (.v (.bool (decide ((256 : Int) < n)))) ?_
  refine zza 2 (.v (.bool (decide ((256 : Int) < n)))) ?_
  refine zzb 9 [(2, .v (.bool (decide ((256 : Int) < n))))] [] ?_
  refine zzm (ret0 [.bool (decide ((256 : Int) < n))] ⟨zzo, trivial⟩ fun u14 e15 => ?_)
  show Value.bool _ = Value.bool _
  congr 1
  symm
  have h9 := of_decide_eq_false hs11
  by_cases h8 : (256 : Int) < n
  ·rw [decide_eq_true h8]; exact decide_eq_true (.inr h8)
  ·rw [decide_eq_false h8]; exact decide_eq_false (by omega)
set_option maxHeartbeats 1000000 in
theorem k_rdown {u w : World} {r : RL} {q : Rat} {K k : Nat} (hk : k ≤ 256) (d : Dat u w) (hr : RatV u r q K) (hK : K ≤ 1000000) : Calls Tryz.prog 179 #[r.v, .int .i64 (k : Int)] w (Post u w fun v u' => ∃ p : RL, v = p.v ∧ RatN u' p (Nt.dnQ q k) (K + 40)) := by
 refine zzk (args := [r.v, .int .i64 (k : Int)]) Tryz.func179 rfl Tryz.ntmps179 (rs := [.cell 4 26]) Tryz.results179 (le_b rfl) (le_b rfl) d ?_
 refine sq9 ?_
 refine zzi 2 ⟨26, r.cs⟩ ?_
 refine zzi 4 ⟨26, [.bool false, .slice none 0 0, .slice none 0 0]⟩ ?_
 refine zzb 16 [(1, .v (.int .i64 (k : Int))), (2, .adr 2 0), (4, .adr 4 0)] [(2, ⟨26, r.cs⟩), (4, ⟨26, [.bool false, .slice none 0 0, .slice none 0 0]⟩)] ?_
 refine sq9 ?_
 refine zza 6 (.v (.int .i64 (k : Int))) ?_
 refine zzf 7 197 [.int .i64 (k : Int)] ?_
 intro w11 u11 e11 d11
 have k16 := k_unit (k := k) d11 (by omega)
 with_reducible refine Post.mono k16 ?_
 rintro _ u14 g15 ⟨r12, rfl, h13⟩
 refine zzi 5 ⟨26, [.bool false, .slice none 0 0, .slice none 0 0]⟩ ?_
 refine zzh ⟨26, r12.cs⟩ ty26 ?_
 refine zzb 16 [(2, .adr 2 0), (4, .adr 4 0), (5, .adr 5 0)] [(2, ⟨26, r.cs⟩), (4, ⟨26, [.bool false, .slice none 0 0, .slice none 0 0]⟩), (5, ⟨26, r12.cs⟩)] ?_
 refine zzc ?_
 refine zzx [0, 0, 3, 7, 0, 31, 0, 127, 255] [(0, []), (1, []), (4, []), (6, []), (2, []), (3, []), (5, []), (7, [12, 13]), (8, [])] (by kernel_rfl) (by kernel_rfl) ?_
 refine zzg 8 (.v (r.v)) ty26 zzd ?_
 refine zzg 9 (.v (r12.v)) ty26 zzd ?_
 refine sy_lit 12 ⟨105, [.int .u32 1]⟩ 1 ?_
 refine zzg 14 (.v (r12.v)) ty26 zzd ?_
 refine zzf 10 22 [r.v, r12.v] ?_
 intro w17 u17 e17 d17
 have k22 := k_rqMul d17 (hr.ext (e11.trans (g15.ext.trans e17))) (h13.ext e17).raw (by omega) (by omega)
 with_reducible refine Post.mono k22 ?_
 rintro _ u20 g21 ⟨r18, rfl, h19⟩
 refine zzf 11 198 [r18.v] ?_
 intro w23 u23 e23 d23
 have k28 := k_floor d23 (h19.ext e23).raw (by omega)
 with_reducible refine Post.mono k28 ?_
 rintro _ u26 g27 ⟨i24, rfl, h25⟩
 refine zza 13 (.ags i24.cs 12 0 1 1) ?_
 refine zyk 15 16 [.ags i24.cs 12 0 1 1, .v (r12.v)] [12, 13] (.inr rfl) (pub_mk (by repeat first | exact noAt_of | refine zyb ?_ | refine zyd ?_ | refine zyc ?_ | refine zzw ?_ | refine zzz ?_)) (k := ?_)
 intro B29 w29 u29 e29 d29 v29
 have h31 : u29.heap[B29 12]? = some (.cells #[.int .u32 1] 105 (0, 0)) := v29 12 (by simp) _ rfl
 obtain ⟨b30, hBb30⟩ : ∃ b, B29 12 = b := ⟨_, rfl⟩
 rw [hBb30] at h31
 show Calls _ _ #[.agg #[.bool i24.s, .slice i24.m.a i24.m.n i24.m.c, .slice (some ⟨B29 12, 0, none⟩) 1 1], r12.v] _ _
 rw [hBb30]
 have k36 := k_rqOver d29 (rat_mk2 (s := i24.s) (h25.ext e29).raw (one_data h31).raw) (h13.ext (e17.trans (g21.ext.trans (e23.trans (g27.ext.trans e29))))).raw (by omega) (by omega)
 with_reducible refine Post.mono k36 ?_
 rintro _ u34 g35 ⟨r32, rfl, h33⟩
 refine zzh ⟨26, r32.cs⟩ ty26 ?_
 refine zzb 16 [(4, .adr 4 0)] [(4, ⟨26, r32.cs⟩)] ?_
 refine zzm (ret0 [r32.v] ⟨zzp ty26 zzd, trivial⟩ fun u37 e38 => ?_)
 refine ⟨r32, rfl, RatN.more (K := ((max (max ((K + (k / 32 + 2) + 1) + 1) 1) 1) + (k / 32 + 2) + 2)) ?_ (by omega)⟩
 unfold Nt.dnQ
 rw [Rat.mkRat_eq_div]
 have h9 := (h33.ext e38)
 rw [Nt.mk_one] at h9
 exact h9
set_option maxHeartbeats 1000000 in
theorem k_rdownG {u w : World} {r : RL} {q : Rat} {K : Nat} {k : Nat} (hk : k ≤ 256) (d : Dat u w) (hr : RatV u r q K) (hK : K ≤ 1000000) : Calls Tryz.prog 135 #[r.v, .int .i64 (k : Int)] w (Post u w fun v u' => ∃ p : RL, v = .tuple #[p.v, .int .i64 0] ∧ RatN u' p (Nt.dnQ q k) (K + 60)) := by
 refine zzk (args := [r.v, .int .i64 (k : Int)]) Tryz.func135 rfl Tryz.ntmps135 (rs := [.cell 4 26, .tmp 5]) Tryz.results135 (le_b rfl) (le_b rfl) d ?_
 refine sq9 ?_
 refine zzi 2 ⟨26, r.cs⟩ ?_
 refine zzi 4 ⟨26, [.bool false, .slice none 0 0, .slice none 0 0]⟩ ?_
 refine zza 5 (.v (.int .i64 0)) ?_
 refine zzb 12 [(1, .v (.int .i64 (k : Int))), (2, .adr 2 0), (4, .adr 4 0)] [(2, ⟨26, r.cs⟩), (4, ⟨26, [.bool false, .slice none 0 0, .slice none 0 0]⟩)] ?_
 refine zzc ?_
 refine sq9 ?_
 refine zza 6 (.v (.int .i64 (k : Int))) ?_
 refine zzf 7 178 [.int .i64 (k : Int)] ?_
 intro w11 u11 e11 d11
 have k14 := k_bad (n := (k : Int)) d11
 with_reducible refine Post.mono k14 ?_
 rintro _ u12 g13 rfl
 refine zzb 12 [(1, .v (.int .i64 (k : Int))), (2, .adr 2 0), (4, .adr 4 0), (7, .v (.bool (decide ((k : Int) < 0 ∨ 256 < (k : Int)))))] [(2, ⟨26, r.cs⟩), (4, ⟨26, [.bool false, .slice none 0 0, .slice none 0 0]⟩)] ?_
 refine zzs (b := decide ((k : Int) < 0 ∨ 256 < (k : Int))) (by kernel_rfl) (fun hb => ?_) (fun hb => ?_)
 ·exact absurd hb (by rw [show (decide ((k : Int) < 0 ∨ 256 < (k : Int))) = false from decide_eq_false (by omega)]; decide)
 ·clear hb
  refine zzq (zzn ?_)
  refine sq9 ?_
  refine zzg 9 (.v (r.v)) ty26 zzd ?_
  refine zza 10 (.v (.int .i64 (k : Int))) ?_
  refine zzf 11 179 [r.v, .int .i64 (k : Int)] ?_
  intro w15 u15 e15 d15
  have k20 := k_rdown (k := k) (by omega) d15 (hr.ext (e11.trans (g13.ext.trans e15))) (by omega)
  with_reducible refine Post.mono k20 ?_
  rintro _ u18 g19 ⟨r16, rfl, h17⟩
  refine zzh ⟨26, r16.cs⟩ ty26 ?_
  refine zza 5 (.v (.int .i64 0)) ?_
  refine zzb 12 [(4, .adr 4 0), (5, .v (.int .i64 0))] [(4, ⟨26, r16.cs⟩)] ?_
  refine zzm (ret0 [r16.v, .int .i64 0] ⟨zzp ty26 zzd, zzo, trivial⟩ fun u21 e22 => ?_)
  refine ⟨r16, rfl, RatN.more (K := (K + 40)) ?_ (by omega)⟩
  exact (h17.ext e22)
theorem k_rdownB {u w : World} {r : RL} {q : Rat} {K : Nat} {n : Int} (hn : n < 0 ∨ 256 < n) (d : Dat u w) (hr : RatV u r q K) (hK : K ≤ 1000000) : Calls Tryz.prog 135 #[r.v, .int .i64 n] w (Post u w fun v u' => v = .tuple #[.agg #[.bool false, .slice none 0 0, .slice none 0 0], .int .i64 1]) := by
 refine zzk (args := [r.v, .int .i64 n]) Tryz.func135 rfl Tryz.ntmps135 (rs := [.cell 4 26, .tmp 5]) Tryz.results135 (le_b rfl) (le_b rfl) d ?_
 refine sq9 ?_
 refine zzi 2 ⟨26, r.cs⟩ ?_
 refine zzi 4 ⟨26, [.bool false, .slice none 0 0, .slice none 0 0]⟩ ?_
 refine zza 5 (.v (.int .i64 0)) ?_
 refine zzb 12 [(1, .v (.int .i64 n)), (2, .adr 2 0), (4, .adr 4 0)] [(2, ⟨26, r.cs⟩), (4, ⟨26, [.bool false, .slice none 0 0, .slice none 0 0]⟩)] ?_
 refine zzc ?_
 refine sq9 ?_
 refine zza 6 (.v (.int .i64 n)) ?_
 refine zzf 7 178 [.int .i64 n] ?_
 intro w11 u11 e11 d11
 have k14 := k_bad (n := n) d11
 with_reducible refine Post.mono k14 ?_
 rintro _ u12 g13 rfl
 refine zzb 12 [(1, .v (.int .i64 n)), (2, .adr 2 0), (4, .adr 4 0), (7, .v (.bool (decide (n < 0 ∨ 256 < n))))] [(2, ⟨26, r.cs⟩), (4, ⟨26, [.bool false, .slice none 0 0, .slice none 0 0]⟩)] ?_
 refine zzs (b := decide (n < 0 ∨ 256 < n)) (by kernel_rfl) (fun hb => ?_) (fun hb => ?_)
 ·clear hb
  refine sq9 ?_
  refine zza 8 (.v (.agg #[.bool false, .slice none 0 0, .slice none 0 0])) ?_
  refine zzh ⟨26, [.bool false, .slice none 0 0, .slice none 0 0]⟩ ty26 ?_
  refine zza 5 (.v (.int .i64 1)) ?_
  refine zzb 12 [(4, .adr 4 0), (5, .v (.int .i64 1))] [(4, ⟨26, [.bool false, .slice none 0 0, .slice none 0 0]⟩)] ?_
  refine zzm (zzu (ret0 [.agg #[.bool false, .slice none 0 0, .slice none 0 0], .int .i64 1] ⟨zzp ty26 zzd, zzo, trivial⟩ fun u15 e16 => ?_))
  rfl
 ·exact absurd hb (by rw [show (decide (n < 0 ∨ 256 < n)) = true from decide_eq_true hn]; decide)
set_option maxHeartbeats 1000000 in
theorem k_rupG {u w : World} {r : RL} {q : Rat} {K : Nat} {k : Nat} (hk : k ≤ 256) (d : Dat u w) (hr : RatV u r q K) (hK : K ≤ 1000000) : Calls Tryz.prog 136 #[r.v, .int .i64 (k : Int)] w (Post u w fun v u' => ∃ p : RL, v = .tuple #[p.v, .int .i64 0] ∧ RatN u' p (-Nt.dnQ (-q) k) (K + 60)) := by
 refine zzk (args := [r.v, .int .i64 (k : Int)]) Tryz.func136 rfl Tryz.ntmps136 (rs := [.cell 4 26, .tmp 5]) Tryz.results136 (le_b rfl) (le_b rfl) d ?_
 refine sq9 ?_
 refine zzi 2 ⟨26, r.cs⟩ ?_
 refine zzi 4 ⟨26, [.bool false, .slice none 0 0, .slice none 0 0]⟩ ?_
 refine zza 5 (.v (.int .i64 0)) ?_
 refine zzb 14 [(1, .v (.int .i64 (k : Int))), (2, .adr 2 0), (4, .adr 4 0)] [(2, ⟨26, r.cs⟩), (4, ⟨26, [.bool false, .slice none 0 0, .slice none 0 0]⟩)] ?_
 refine zzc ?_
 refine sq9 ?_
 refine zza 6 (.v (.int .i64 (k : Int))) ?_
 refine zzf 7 178 [.int .i64 (k : Int)] ?_
 intro w11 u11 e11 d11
 have k14 := k_bad (n := (k : Int)) d11
 with_reducible refine Post.mono k14 ?_
 rintro _ u12 g13 rfl
 refine zzb 14 [(1, .v (.int .i64 (k : Int))), (2, .adr 2 0), (4, .adr 4 0), (7, .v (.bool (decide ((k : Int) < 0 ∨ 256 < (k : Int)))))] [(2, ⟨26, r.cs⟩), (4, ⟨26, [.bool false, .slice none 0 0, .slice none 0 0]⟩)] ?_
 refine zzs (b := decide ((k : Int) < 0 ∨ 256 < (k : Int))) (by kernel_rfl) (fun hb => ?_) (fun hb => ?_)
 ·exact absurd hb (by rw [show (decide ((k : Int) < 0 ∨ 256 < (k : Int))) = false from decide_eq_false (by omega)]; decide)
 ·clear hb
  refine zzq (zzn ?_)
  refine sq9 ?_
  refine zzg 9 (.v (r.v)) ty26 zzd ?_
  refine zzf 10 110 [r.v] ?_
  intro w15 u15 e15 d15
  have k20 := k_rqNeg d15 (hr.ext (e11.trans (g13.ext.trans e15))) (by omega)
  with_reducible refine Post.mono k20 ?_
  rintro _ u18 g19 ⟨r16, rfl, h17⟩
  refine zza 11 (.v (.int .i64 (k : Int))) ?_
  refine zzf 12 179 [r16.v, .int .i64 (k : Int)] ?_
  intro w21 u21 e21 d21
  have k26 := k_rdown (k := k) (by omega) d21 (h17.ext e21).raw (by omega)
  with_reducible refine Post.mono k26 ?_
  rintro _ u24 g25 ⟨r22, rfl, h23⟩
  refine zzf 13 110 [r22.v] ?_
  intro w27 u27 e27 d27
  have k32 := k_rqNeg d27 (h23.ext e27).raw (by omega)
  with_reducible refine Post.mono k32 ?_
  rintro _ u30 g31 ⟨r28, rfl, h29⟩
  refine zzh ⟨26, r28.cs⟩ ty26 ?_
  refine zza 5 (.v (.int .i64 0)) ?_
  refine zzb 14 [(4, .adr 4 0), (5, .v (.int .i64 0))] [(4, ⟨26, r28.cs⟩)] ?_
  refine zzm (ret0 [r28.v, .int .i64 0] ⟨zzp ty26 zzd, zzo, trivial⟩ fun u33 e34 => ?_)
  refine ⟨r28, rfl, RatN.more (K := (K + 40)) ?_ (by omega)⟩
  exact (h29.ext e34)
namespace Nt
theorem lo_neg (a b : Rat) : lo (-a) (-b) = -hi a b ∧ hi (-a) (-b) = -lo a b := by unfold lo hi; grind
theorem lohi9 (x y : Rat) : lo (lo x y) (hi x y) = lo x y ∧ hi (lo x y) (hi x y) = hi x y := lo_of_le (lo_le_hi x y)
theorem sub_ends (a b : Rat) (x : Rat) : x + lo (lo (-a) (-b)) (hi (-a) (-b)) = x - hi a b ∧ x + hi (lo (-a) (-b)) (hi (-a) (-b)) = x - lo a b := by
 rw [(lohi9 _ _).1, (lohi9 _ _).2, (lo_neg a b).1, (lo_neg a b).2, Rat.sub_eq_add_neg, Rat.sub_eq_add_neg]
 exact ⟨rfl, rfl⟩
theorem lo4_swap (a b c d : Rat) : lo4 a b c d = lo4 b a d c := by unfold lo4 lo; grind
theorem hi4_swap (a b c d : Rat) : hi4 a b c d = hi4 b a d c := by unfold hi4 hi; grind
theorem over4 (x y m n : Rat) : lo4 (x * lo m n) (x * hi m n) (y * lo m n) (y * hi m n) = lo4 (x * m) (x * n) (y * m) (y * n) ∧ hi4 (x * lo m n) (x * hi m n) (y * lo m n) (y * hi m n) = hi4 (x * m) (x * n) (y * m) (y * n) := by
 rcases Rat.le_total (a := m) (b := n) with h | h
 ·rw [(lo_of_le h).1, (lo_of_le h).2]; exact ⟨rfl, rfl⟩
 ·have e : lo m n = n ∧ hi m n = m := by unfold lo hi; grind
  rw [e.1, e.2]
  exact ⟨lo4_swap _ _ _ _, hi4_swap _ _ _ _⟩
theorem mul_over (x y : Rat) : x * (((1 : Int) : Rat) / y) = x / y := by
 rw [Rat.div_def, Rat.div_def]
 simp
theorem ord_iff (x y : Rat) : x ≤ y ↔ (x = lo x y ∧ y = hi x y) := by unfold lo hi; grind
def divO (x1 x2 y1 y2 : Rat) : Option (Rat × Rat) := if sgI y1 y2 = 0 then none else some (lo4 (x1 / y1) (x1 / y2) (x2 / y1) (x2 / y2), hi4 (x1 / y1) (x1 / y2) (x2 / y1) (x2 / y2))
def divE (y1 y2 : Rat) : Int := if sgI y1 y2 = 0 then 3 else 0
def optE (o : Option (Rat × Rat)) (l h : Rat) : Option (Rat × Rat) := if h < l then none else o
def rndO (x1 x2 : Rat) (n : Int) : Option (Rat × Rat) := if n < 0 ∨ 256 < n then none else some (dnQ (lo x1 x2) n.toNat, -dnQ (-hi x1 x2) n.toNat)
def rndE (n : Int) : Int := if n < 0 ∨ 256 < n then 1 else 0
end Nt
def OptI (u : World) (a b : RL) (o : Option (Rat × Rat)) (K : Nat) : Prop := match o with | none => a = rl0 ∧ b = rl0 | some (p, q) => RatN u a p K ∧ RatN u b q K
theorem OptI.ext {u u' : World} {a b : RL} {o : Option (Rat × Rat)} {K : Nat} (h : OptI u a b o K) (e : Ext u u') : OptI u' a b o K := by
 cases o with
 | none => exact h
 | some x => exact ⟨h.1.ext e, h.2.ext e⟩
theorem k_r4Mid {u w : World} {a1 a2 : RL} {x1 x2 : Rat} {K : Nat} (d : Dat u w) (ha1 : RatV u a1 x1 K) (ha2 : RatV u a2 x2 K) (hK : K ≤ 4000000) : Calls Tryz.prog 74 #[IV a1 a2] w (Post u w fun v u' => ∃ p : RL, v = p.v ∧ RatN u' p ((x1 + x2) * (((1 : Int) : Rat) / ((2 : Int) : Rat))) (K + K + 6)) := by
 refine zzk (args := [.agg #[.bool a1.s, .slice a1.m.a a1.m.n a1.m.c, .slice a1.d.a a1.d.n a1.d.c, .bool a2.s, .slice a2.m.a a2.m.n a2.m.c, .slice a2.d.a a2.d.n a2.d.c]]) Tryz.func74 rfl Tryz.ntmps74 (rs := [.cell 2 26]) Tryz.results74 (le_b rfl) (le_b rfl) d ?_
 refine sq9 ?_
 refine zzi 1 ⟨28, a1.cs ++ a2.cs⟩ ?_
 refine zzi 2 ⟨26, [.bool false, .slice none 0 0, .slice none 0 0]⟩ ?_
 refine zzb 10 [(1, .adr 1 0), (2, .adr 2 0)] [(1, ⟨28, a1.cs ++ a2.cs⟩), (2, ⟨26, [.bool false, .slice none 0 0, .slice none 0 0]⟩)] ?_
 refine sq9 ?_
 refine zza 3 (.adr 1 0) ?_
 refine zzg 4 (.v (a1.v)) ty26 zzd ?_
 refine zza 5 (.adr 1 3) ?_
 refine zzg 6 (.v (a2.v)) ty26 zzd ?_
 refine zzf 7 18 [a1.v, a2.v] ?_
 intro w11 u11 e11 d11
 have k16 := k_rqAdd d11 (ha1.ext e11) (ha2.ext e11) (by omega) (by omega)
 with_reducible refine Post.mono k16 ?_
 rintro _ u14 g15 ⟨r12, rfl, h13⟩
 refine zzf 8 49 [.int .i64 1, .int .i64 2] ?_
 intro w17 u17 e17 d17
 have k22 := k_rqFrac d17 (a := 1) (b := 2) (by omega) (by omega) (by omega) (by omega)
 with_reducible refine Post.mono k22 ?_
 rintro _ u20 g21 ⟨r18, rfl, h19⟩
 refine zzf 9 22 [r12.v, r18.v] ?_
 intro w23 u23 e23 d23
 have k28 := k_rqMul d23 (h13.ext (e17.trans (g21.ext.trans e23))).raw (h19.ext e23).raw (by omega) (by omega)
 with_reducible refine Post.mono k28 ?_
 rintro _ u26 g27 ⟨r24, rfl, h25⟩
 refine zzh ⟨26, r24.cs⟩ ty26 ?_
 refine zzb 10 [(2, .adr 2 0)] [(2, ⟨26, r24.cs⟩)] ?_
 refine zzm (ret0 [r24.v] ⟨zzp ty26 zzd, trivial⟩ fun u29 e30 => ?_)
 exact ⟨r24, rfl, RatN.more (K := ((K + K + 2) + 3 + 1)) (h25.ext e30) (by omega)⟩
theorem k_r4neg {u w : World} {a1 a2 : RL} {x1 x2 : Rat} {K : Nat} (d : Dat u w) (ha1 : RatV u a1 x1 K) (ha2 : RatV u a2 x2 K) (hK : K ≤ 4000000) : Calls Tryz.prog 141 #[IV a1 a2] w (Post u w fun v u' => ∃ p q : RL, v = IV p q ∧ RatN u' p (Nt.lo (-x1) (-x2)) K ∧ RatN u' q (Nt.hi (-x1) (-x2)) K) := by
 refine zzk (args := [.agg #[.bool a1.s, .slice a1.m.a a1.m.n a1.m.c, .slice a1.d.a a1.d.n a1.d.c, .bool a2.s, .slice a2.m.a a2.m.n a2.m.c, .slice a2.d.a a2.d.n a2.d.c]]) Tryz.func141 rfl Tryz.ntmps141 (rs := [.cell 2 28]) Tryz.results141 (le_b rfl) (le_b rfl) d ?_
 refine sq9 ?_
 refine zzi 1 ⟨28, a1.cs ++ a2.cs⟩ ?_
 refine zzi 2 ⟨28, [.bool false, .slice none 0 0, .slice none 0 0, .bool false, .slice none 0 0, .slice none 0 0]⟩ ?_
 refine zzb 10 [(1, .adr 1 0), (2, .adr 2 0)] [(1, ⟨28, a1.cs ++ a2.cs⟩), (2, ⟨28, [.bool false, .slice none 0 0, .slice none 0 0, .bool false, .slice none 0 0, .slice none 0 0]⟩)] ?_
 refine zzc ?_
 refine zzx [0, 1, 3, 0, 8, 31, 63, 127] [(0, []), (1, []), (3, []), (4, []), (2, []), (5, []), (6, []), (7, [])] (by kernel_rfl) (by kernel_rfl) ?_
 refine zza 3 (.adr 1 0) ?_
 refine zzg 4 (.v (a1.v)) ty26 zzd ?_
 refine zza 6 (.adr 1 3) ?_
 refine zzg 7 (.v (a2.v)) ty26 zzd ?_
 refine zzf 5 110 [a1.v] ?_
 intro w11 u11 e11 d11
 have k16 := k_rqNeg d11 (ha1.ext e11) (by omega)
 with_reducible refine Post.mono k16 ?_
 rintro _ u14 g15 ⟨r12, rfl, h13⟩
 refine zzf 8 110 [a2.v] ?_
 intro w17 u17 e17 d17
 have k22 := k_rqNeg d17 (ha2.ext (e11.trans (g15.ext.trans e17))) (by omega)
 with_reducible refine Post.mono k22 ?_
 rintro _ u20 g21 ⟨r18, rfl, h19⟩
 refine zzf 9 46 [r12.v, r18.v] ?_
 intro w23 u23 e23 d23
 have k30 := k_r4Make d23 (h13.ext (e17.trans (g21.ext.trans e23))).raw (h19.ext e23).raw (by omega)
 with_reducible refine Post.mono k30 ?_
 rintro _ u28 g29 ⟨r24, r26, rfl, h25, h27⟩
 refine zzh ⟨28, r24.cs ++ r26.cs⟩ ty28 ?_
 refine zzb 10 [(2, .adr 2 0)] [(2, ⟨28, r24.cs ++ r26.cs⟩)] ?_
 refine zzm (ret0 [.agg #[.bool r24.s, .slice r24.m.a r24.m.n r24.m.c, .slice r24.d.a r24.d.n r24.d.c, .bool r26.s, .slice r26.m.a r26.m.n r26.m.c, .slice r26.d.a r26.d.n r26.d.c]] ⟨zzp ty28 zzd, trivial⟩ fun u31 e32 => ?_)
 refine ⟨r24, r26, rfl, RatN.more (K := K) ?_ (by omega), RatN.more (K := K) ?_ (by omega)⟩
 ·exact (h25.ext e32)
 ·exact (h27.ext e32)
theorem k_r4Sub {u w : World} {a1 a2 : RL} {x1 x2 : Rat} {b1 b2 : RL} {y1 y2 : Rat} {K L : Nat} (d : Dat u w) (ha1 : RatV u a1 x1 K) (ha2 : RatV u a2 x2 K) (hb1 : RatV u b1 y1 L) (hb2 : RatV u b2 y2 L) (hK : K ≤ 4000000) (hL : L ≤ 4000000) : Calls Tryz.prog 76 #[IV a1 a2, IV b1 b2] w (Post u w fun v u' => ∃ p q : RL, v = IV p q ∧ RatN u' p (Nt.lo x1 x2 - Nt.hi y1 y2) (K + L + 2) ∧ RatN u' q (Nt.hi x1 x2 - Nt.lo y1 y2) (K + L + 2)) := by
 refine zzk (args := [.agg #[.bool a1.s, .slice a1.m.a a1.m.n a1.m.c, .slice a1.d.a a1.d.n a1.d.c, .bool a2.s, .slice a2.m.a a2.m.n a2.m.c, .slice a2.d.a a2.d.n a2.d.c], .agg #[.bool b1.s, .slice b1.m.a b1.m.n b1.m.c, .slice b1.d.a b1.d.n b1.d.c, .bool b2.s, .slice b2.m.a b2.m.n b2.m.c, .slice b2.d.a b2.d.n b2.d.c]]) Tryz.func76 rfl Tryz.ntmps76 (rs := [.cell 4 28]) Tryz.results76 (le_b rfl) (le_b rfl) d ?_
 refine sq9 ?_
 refine zzi 2 ⟨28, a1.cs ++ a2.cs⟩ ?_
 refine zzi 3 ⟨28, b1.cs ++ b2.cs⟩ ?_
 refine zzi 4 ⟨28, [.bool false, .slice none 0 0, .slice none 0 0, .bool false, .slice none 0 0, .slice none 0 0]⟩ ?_
 refine zzb 9 [(2, .adr 2 0), (3, .adr 3 0), (4, .adr 4 0)] [(2, ⟨28, a1.cs ++ a2.cs⟩), (3, ⟨28, b1.cs ++ b2.cs⟩), (4, ⟨28, [.bool false, .slice none 0 0, .slice none 0 0, .bool false, .slice none 0 0, .slice none 0 0]⟩)] ?_
 refine zzc ?_
 refine zzx [0, 0, 2, 7, 15] [(0, []), (1, []), (2, []), (3, []), (4, [])] (by kernel_rfl) (by kernel_rfl) ?_
 refine zzg 5 (.v (.agg #[.bool a1.s, a1.m.v, a1.d.v, .bool a2.s, a2.m.v, a2.d.v])) ty28 zzd ?_
 refine zzg 6 (.v (.agg #[.bool b1.s, b1.m.v, b1.d.v, .bool b2.s, b2.m.v, b2.d.v])) ty28 zzd ?_
 refine zzf 7 141 [.agg #[.bool b1.s, b1.m.v, b1.d.v, .bool b2.s, b2.m.v, b2.d.v]] ?_
 intro w11 u11 e11 d11
 have k18 := k_r4neg d11 (hb1.ext e11) (hb2.ext e11) (by omega)
 with_reducible refine Post.mono k18 ?_
 rintro _ u16 g17 ⟨r12, r14, rfl, h13, h15⟩
 refine zzf 8 75 [.agg #[.bool a1.s, a1.m.v, a1.d.v, .bool a2.s, a2.m.v, a2.d.v], .agg #[.bool r12.s, r12.m.v, r12.d.v, .bool r14.s, r14.m.v, r14.d.v]] ?_
 intro w19 u19 e19 d19
 have k26 := k_r4Add d19 (ha1.ext (e11.trans (g17.ext.trans e19))) (ha2.ext (e11.trans (g17.ext.trans e19))) (h13.ext e19).raw (h15.ext e19).raw (by omega) (by omega)
 with_reducible refine Post.mono k26 ?_
 rintro _ u24 g25 ⟨r20, r22, rfl, h21, h23⟩
 refine zzh ⟨28, r20.cs ++ r22.cs⟩ ty28 ?_
 refine zzb 9 [(4, .adr 4 0)] [(4, ⟨28, r20.cs ++ r22.cs⟩)] ?_
 refine zzm (ret0 [.agg #[.bool r20.s, .slice r20.m.a r20.m.n r20.m.c, .slice r20.d.a r20.d.n r20.d.c, .bool r22.s, .slice r22.m.a r22.m.n r22.m.c, .slice r22.d.a r22.d.n r22.d.c]] ⟨zzp ty28 zzd, trivial⟩ fun u27 e28 => ?_)
 refine ⟨r20, r22, rfl, RatN.more (K := (K + L + 2)) ?_ (by omega), RatN.more (K := (K + L + 2)) ?_ (by omega)⟩
 ·rw [← (Nt.sub_ends y1 y2 _).1]; exact (h21.ext e28)
 ·rw [← (Nt.sub_ends y1 y2 _).2]; exact (h23.ext e28)
theorem k_r4Sign {u w : World} {a1 a2 : RL} {x1 x2 : Rat} {K : Nat} (d : Dat u w) (ha1 : RatV u a1 x1 K) (ha2 : RatV u a2 x2 K) (hK : K ≤ 4000000) : Calls Tryz.prog 65 #[IV a1 a2] w (Post u w fun v u' => v = .int .i64 (Nt.sgI x1 x2)) := by
 refine zzk (args := [.agg #[.bool a1.s, .slice a1.m.a a1.m.n a1.m.c, .slice a1.d.a a1.d.n a1.d.c, .bool a2.s, .slice a2.m.a a2.m.n a2.m.c, .slice a2.d.a a2.d.n a2.d.c]]) Tryz.func65 rfl Tryz.ntmps65 (rs := [.tmp 2]) Tryz.results65 (le_b rfl) (le_b rfl) d ?_
 refine sq9 ?_
 refine zzi 1 ⟨28, a1.cs ++ a2.cs⟩ ?_
 refine zza 2 (.v (.int .i64 0)) ?_
 refine zzb 15 [(1, .adr 1 0)] [(1, ⟨28, a1.cs ++ a2.cs⟩)] ?_
 refine sq9 ?_
 refine zzg 3 (.v (.agg #[.bool a1.s, a1.m.v, a1.d.v, .bool a2.s, a2.m.v, a2.d.v])) ty28 zzd ?_
 refine zzf 4 69 [.agg #[.bool a1.s, a1.m.v, a1.d.v, .bool a2.s, a2.m.v, a2.d.v]] ?_
 intro w11 u11 e11 d11
 have k18 := k_r4Trim d11 (ha1.ext e11) (ha2.ext e11) (by omega)
 with_reducible refine Post.mono k18 ?_
 rintro _ u16 g17 ⟨r12, r14, rfl, h13, h15⟩
 refine zzh ⟨28, r12.cs ++ r14.cs⟩ ty28 ?_
 refine zzb 15 [(1, .adr 1 0)] [(1, ⟨28, r12.cs ++ r14.cs⟩)] ?_
 refine zzc ?_
 refine zzr ?_
 refine sq9 ?_
 refine zza 6 (.adr 1 0) ?_
 refine zzg 7 (.v (r12.v)) ty26 zzd ?_
 refine zzf 8 43 [r12.v] ?_
 intro w19 u19 e19 d19
 have k22 := k_rqSign d19 (h13.ext e19).raw (by omega)
 with_reducible refine Post.mono k22 ?_
 rintro _ u20 g21 rfl
 refine zza 9 (.v (.bool (decide ((0 : Int) < (Nt.sgQ (Nt.lo x1 x2)))))) ?_
 refine zza 5 (.v (.bool (decide ((0 : Int) < (Nt.sgQ (Nt.lo x1 x2)))))) ?_
 refine zzb 15 [(1, .adr 1 0), (5, .v (.bool (decide ((0 : Int) < (Nt.sgQ (Nt.lo x1 x2))))))] [(1, ⟨28, r12.cs ++ r14.cs⟩)] ?_
 refine zzs (b := decide ((0 : Int) < (Nt.sgQ (Nt.lo x1 x2)))) (by kernel_rfl) (fun hb23 => ?_) (fun hb23 => ?_)
 ·replace hb23 : (decide ((0 : Int) < (Nt.sgQ (Nt.lo x1 x2)))) = true := hb23
  have qhb23 := of_decide_eq_true hb23
  refine sq9 ?_
  refine zza 2 (.v (.int .i64 1)) ?_
  refine zzb 15 [(2, .v (.int .i64 1))] [] ?_
  refine zzm (zyo (zzu (ret0 [.int .i64 1] ⟨zzo, trivial⟩ fun u24 e25 => ?_)))
  show _ = _
  unfold Nt.sgI
  rw [Nt.sgQ_gt] at hb23
  rw [if_pos (of_decide_eq_true hb23)]
  rfl
 ·replace hb23 : (decide ((0 : Int) < (Nt.sgQ (Nt.lo x1 x2)))) = false := hb23
  have qhb23 := of_decide_eq_false hb23
  refine sq9 ?_
  refine zza 11 (.adr 1 3) ?_
  refine zzg 12 (.v (r14.v)) ty26 zzd ?_
  refine zzf 13 43 [r14.v] ?_
  intro w26 u26 e26 d26
  have k29 := k_rqSign d26 (h15.ext (e19.trans (g21.ext.trans e26))).raw (by omega)
  with_reducible refine Post.mono k29 ?_
  rintro _ u27 g28 rfl
  refine zza 14 (.v (.bool (decide ((Nt.sgQ (Nt.hi x1 x2)) < 0)))) ?_
  refine zza 10 (.v (.bool (decide ((Nt.sgQ (Nt.hi x1 x2)) < 0)))) ?_
  refine zzb 15 [(10, .v (.bool (decide ((Nt.sgQ (Nt.hi x1 x2)) < 0))))] [] ?_
  refine zzs (b := decide ((Nt.sgQ (Nt.hi x1 x2)) < 0)) (by kernel_rfl) (fun hb30 => ?_) (fun hb30 => ?_)
  ·replace hb30 : (decide ((Nt.sgQ (Nt.hi x1 x2)) < 0)) = true := hb30
   have qhb30 := of_decide_eq_true hb30
   refine sq9 ?_
   refine zza 2 (.v (.int .i64 (-1))) ?_
   refine zzb 15 [(2, .v (.int .i64 (-1)))] [] ?_
   refine zzm (zyo (zzu (ret0 [.int .i64 (-1)] ⟨zzo, trivial⟩ fun u31 e32 => ?_)))
   show _ = _
   unfold Nt.sgI
   rw [Nt.sgQ_gt] at hb23
   rw [if_neg (of_decide_eq_false hb23)]
   rw [Nt.sgQ_lt] at hb30
   rw [if_pos (of_decide_eq_true hb30)]
   rfl
  ·replace hb30 : (decide ((Nt.sgQ (Nt.hi x1 x2)) < 0)) = false := hb30
   have qhb30 := of_decide_eq_false hb30
   refine zzq (zzn ?_)
   refine sq9 ?_
   refine zza 2 (.v (.int .i64 0)) ?_
   refine zzb 15 [(2, .v (.int .i64 0))] [] ?_
   refine zzm (ret0 [.int .i64 0] ⟨zzo, trivial⟩ fun u33 e34 => ?_)
   show _ = _
   unfold Nt.sgI
   rw [Nt.sgQ_gt] at hb23
   rw [if_neg (of_decide_eq_false hb23)]
   rw [Nt.sgQ_lt] at hb30
   rw [if_neg (of_decide_eq_false hb30)]
   rfl
theorem k_r4Square {u w : World} {a1 a2 : RL} {x1 x2 : Rat} {K : Nat} (d : Dat u w) (ha1 : RatV u a1 x1 K) (ha2 : RatV u a2 x2 K) (hK : K ≤ 4000000) : Calls Tryz.prog 78 #[IV a1 a2] w (Post u w fun v u' => ∃ p q : RL, v = IV p q ∧ RatN u' p (if Nt.sgI x1 x2 = 0 then 0 else Nt.lo (x1 * x1) (x2 * x2)) (K + K + 3) ∧ RatN u' q (Nt.hi (x1 * x1) (x2 * x2)) (K + K + 3)) := by
 refine zzk (args := [.agg #[.bool a1.s, .slice a1.m.a a1.m.n a1.m.c, .slice a1.d.a a1.d.n a1.d.c, .bool a2.s, .slice a2.m.a a2.m.n a2.m.c, .slice a2.d.a a2.d.n a2.d.c]]) Tryz.func78 rfl Tryz.ntmps78 (rs := [.cell 2 28]) Tryz.results78 (le_b rfl) (le_b rfl) d ?_
 refine sq9 ?_
 refine zzi 1 ⟨28, a1.cs ++ a2.cs⟩ ?_
 refine zzi 2 ⟨28, [.bool false, .slice none 0 0, .slice none 0 0, .bool false, .slice none 0 0, .slice none 0 0]⟩ ?_
 refine zzb 21 [(1, .adr 1 0), (2, .adr 2 0)] [(1, ⟨28, a1.cs ++ a2.cs⟩), (2, ⟨28, [.bool false, .slice none 0 0, .slice none 0 0, .bool false, .slice none 0 0, .slice none 0 0]⟩)] ?_
 refine zzc ?_
 refine zzx [0, 1, 0, 4, 15, 0, 32, 0, 128, 511, 1023, 0, 4095] [(0, []), (1, []), (2, []), (3, []), (5, []), (6, []), (7, []), (8, []), (11, []), (4, []), (9, []), (10, []), (12, [])] (by kernel_rfl) (by kernel_rfl) ?_
 refine zza 4 (.adr 1 0) ?_
 refine zzg 5 (.v (a1.v)) ty26 zzd ?_
 refine zza 6 (.adr 1 0) ?_
 refine zzg 7 (.v (a1.v)) ty26 zzd ?_
 refine zza 9 (.adr 1 3) ?_
 refine zzg 10 (.v (a2.v)) ty26 zzd ?_
 refine zza 11 (.adr 1 3) ?_
 refine zzg 12 (.v (a2.v)) ty26 zzd ?_
 refine zzi 3 ⟨28, [.bool false, .slice none 0 0, .slice none 0 0, .bool false, .slice none 0 0, .slice none 0 0]⟩ ?_
 refine zzf 8 22 [a1.v, a1.v] ?_
 intro w11 u11 e11 d11
 have k16 := k_rqMul d11 (ha1.ext e11) (ha1.ext e11) (by omega) (by omega)
 with_reducible refine Post.mono k16 ?_
 rintro _ u14 g15 ⟨r12, rfl, h13⟩
 refine zzf 13 22 [a2.v, a2.v] ?_
 intro w17 u17 e17 d17
 have k22 := k_rqMul d17 (ha2.ext (e11.trans (g15.ext.trans e17))) (ha2.ext (e11.trans (g15.ext.trans e17))) (by omega) (by omega)
 with_reducible refine Post.mono k22 ?_
 rintro _ u20 g21 ⟨r18, rfl, h19⟩
 refine zzf 14 46 [r12.v, r18.v] ?_
 intro w23 u23 e23 d23
 have k30 := k_r4Make d23 (h13.ext (e17.trans (g21.ext.trans e23))).raw (h19.ext e23).raw (by omega)
 with_reducible refine Post.mono k30 ?_
 rintro _ u28 g29 ⟨r24, r26, rfl, h25, h27⟩
 refine zzh ⟨28, r24.cs ++ r26.cs⟩ ty28 ?_
 refine zzb 21 [(1, .adr 1 0), (2, .adr 2 0), (3, .adr 3 0)] [(1, ⟨28, a1.cs ++ a2.cs⟩), (2, ⟨28, [.bool false, .slice none 0 0, .slice none 0 0, .bool false, .slice none 0 0, .slice none 0 0]⟩), (3, ⟨28, r24.cs ++ r26.cs⟩)] ?_
 refine zzc ?_
 refine sq9 ?_
 refine zzg 15 (.v (.agg #[.bool a1.s, a1.m.v, a1.d.v, .bool a2.s, a2.m.v, a2.d.v])) ty28 zzd ?_
 refine zzf 16 65 [.agg #[.bool a1.s, a1.m.v, a1.d.v, .bool a2.s, a2.m.v, a2.d.v]] ?_
 intro w31 u31 e31 d31
 have k34 := k_r4Sign d31 (ha1.ext (e11.trans (g15.ext.trans (e17.trans (g21.ext.trans (e23.trans (g29.ext.trans e31))))))) (ha2.ext (e11.trans (g15.ext.trans (e17.trans (g21.ext.trans (e23.trans (g29.ext.trans e31))))))) (by omega)
 with_reducible refine Post.mono k34 ?_
 rintro _ u32 g33 rfl
 refine zza 17 (.v (.bool ((Nt.sgI x1 x2) == 0))) ?_
 refine zzb 21 [(2, .adr 2 0), (3, .adr 3 0), (17, .v (.bool ((Nt.sgI x1 x2) == 0)))] [(2, ⟨28, [.bool false, .slice none 0 0, .slice none 0 0, .bool false, .slice none 0 0, .slice none 0 0]⟩), (3, ⟨28, r24.cs ++ r26.cs⟩)] ?_
 refine zzs (b := (Nt.sgI x1 x2) == 0) (by kernel_rfl) (fun hb35 => ?_) (fun hb35 => ?_)
 ·replace hb35 : ((Nt.sgI x1 x2) == 0) = true := hb35
  refine zze ?_
  refine zzf 18 41 [.int .i64 0] ?_
  intro w36 u36 e36 d36
  have k41 := k_rqOf d36 (z := 0) (by omega) (by omega)
  with_reducible refine Post.mono k41 ?_
  rintro _ u39 g40 ⟨r37, rfl, h38⟩
  refine zza 19 (.adr 3 0) ?_
  refine zzh ⟨28, r37.cs ++ r26.cs⟩ ty26 ?_
  refine zzb 21 [(2, .adr 2 0), (3, .adr 3 0)] [(2, ⟨28, [.bool false, .slice none 0 0, .slice none 0 0, .bool false, .slice none 0 0, .slice none 0 0]⟩), (3, ⟨28, r37.cs ++ r26.cs⟩)] ?_
  refine sq9 ?_
  refine zzg 20 (.v (.agg #[.bool r37.s, r37.m.v, r37.d.v, .bool r26.s, r26.m.v, r26.d.v])) ty28 zzd ?_
  refine zzh ⟨28, r37.cs ++ r26.cs⟩ ty28 ?_
  refine zzb 21 [(2, .adr 2 0)] [(2, ⟨28, r37.cs ++ r26.cs⟩)] ?_
  refine zzm (ret0 [.agg #[.bool r37.s, .slice r37.m.a r37.m.n r37.m.c, .slice r37.d.a r37.d.n r37.d.c, .bool r26.s, .slice r26.m.a r26.m.n r26.m.c, .slice r26.d.a r26.d.n r26.d.c]] ⟨zzp ty28 zzd, trivial⟩ fun u42 e43 => ?_)
  refine ⟨r37, r26, rfl, RatN.more (K := 2) ?_ (by omega), RatN.more (K := (K + K + 1)) ?_ (by omega)⟩
  ·rw [if_pos (by simpa using hb35)]; exact (h38.ext e43)
  ·exact (h27.ext (e31.trans (g33.ext.trans (e36.trans (g40.ext.trans e43)))))
 ·replace hb35 : ((Nt.sgI x1 x2) == 0) = false := hb35
  refine zzq (zzn ?_)
  refine sq9 ?_
  refine zzg 20 (.v (.agg #[.bool r24.s, r24.m.v, r24.d.v, .bool r26.s, r26.m.v, r26.d.v])) ty28 zzd ?_
  refine zzh ⟨28, r24.cs ++ r26.cs⟩ ty28 ?_
  refine zzb 21 [(2, .adr 2 0)] [(2, ⟨28, r24.cs ++ r26.cs⟩)] ?_
  refine zzm (ret0 [.agg #[.bool r24.s, .slice r24.m.a r24.m.n r24.m.c, .slice r24.d.a r24.d.n r24.d.c, .bool r26.s, .slice r26.m.a r26.m.n r26.m.c, .slice r26.d.a r26.d.n r26.d.c]] ⟨zzp ty28 zzd, trivial⟩ fun u44 e45 => ?_)
  refine ⟨r24, r26, rfl, RatN.more (K := (K + K + 1)) ?_ (by omega), RatN.more (K := (K + K + 1)) ?_ (by omega)⟩
  ·rw [if_neg (by simpa using hb35)]; exact (h25.ext (e31.trans (g33.ext.trans e45)))
  ·exact (h27.ext (e31.trans (g33.ext.trans e45)))
theorem k_r4Hull {u w : World} {a1 a2 : RL} {x1 x2 : Rat} {b1 b2 : RL} {y1 y2 : Rat} {K L : Nat} (d : Dat u w) (ha1 : RatV u a1 x1 K) (ha2 : RatV u a2 x2 K) (hb1 : RatV u b1 y1 L) (hb2 : RatV u b2 y2 L) (hK : K ≤ 4000000) (hL : L ≤ 4000000) : Calls Tryz.prog 80 #[IV a1 a2, IV b1 b2] w (Post u w fun v u' => ∃ p q : RL, v = IV p q ∧ RatN u' p (Nt.lo (Nt.lo x1 x2) (Nt.lo y1 y2)) (max K L) ∧ RatN u' q (Nt.hi (Nt.hi x1 x2) (Nt.hi y1 y2)) (max K L)) := by
 refine zzk (args := [.agg #[.bool a1.s, .slice a1.m.a a1.m.n a1.m.c, .slice a1.d.a a1.d.n a1.d.c, .bool a2.s, .slice a2.m.a a2.m.n a2.m.c, .slice a2.d.a a2.d.n a2.d.c], .agg #[.bool b1.s, .slice b1.m.a b1.m.n b1.m.c, .slice b1.d.a b1.d.n b1.d.c, .bool b2.s, .slice b2.m.a b2.m.n b2.m.c, .slice b2.d.a b2.d.n b2.d.c]]) Tryz.func80 rfl Tryz.ntmps80 (rs := [.cell 4 28]) Tryz.results80 (le_b rfl) (le_b rfl) d ?_
 refine sq9 ?_
 refine zzi 2 ⟨28, a1.cs ++ a2.cs⟩ ?_
 refine zzi 3 ⟨28, b1.cs ++ b2.cs⟩ ?_
 refine zzi 4 ⟨28, [.bool false, .slice none 0 0, .slice none 0 0, .bool false, .slice none 0 0, .slice none 0 0]⟩ ?_
 refine zzb 20 [(2, .adr 2 0), (3, .adr 3 0), (4, .adr 4 0)] [(2, ⟨28, a1.cs ++ a2.cs⟩), (3, ⟨28, b1.cs ++ b2.cs⟩), (4, ⟨28, [.bool false, .slice none 0 0, .slice none 0 0, .bool false, .slice none 0 0, .slice none 0 0]⟩)] ?_
 refine zzc ?_
 refine zzx [0, 1, 0, 7, 15, 31] [(0, []), (2, []), (1, []), (3, []), (4, []), (5, [])] (by kernel_rfl) (by kernel_rfl) ?_
 refine zzg 5 (.v (.agg #[.bool a1.s, a1.m.v, a1.d.v, .bool a2.s, a2.m.v, a2.d.v])) ty28 zzd ?_
 refine zzg 7 (.v (.agg #[.bool b1.s, b1.m.v, b1.d.v, .bool b2.s, b2.m.v, b2.d.v])) ty28 zzd ?_
 refine zzf 6 69 [.agg #[.bool a1.s, a1.m.v, a1.d.v, .bool a2.s, a2.m.v, a2.d.v]] ?_
 intro w11 u11 e11 d11
 have k18 := k_r4Trim d11 (ha1.ext e11) (ha2.ext e11) (by omega)
 with_reducible refine Post.mono k18 ?_
 rintro _ u16 g17 ⟨r12, r14, rfl, h13, h15⟩
 refine zzf 8 69 [.agg #[.bool b1.s, b1.m.v, b1.d.v, .bool b2.s, b2.m.v, b2.d.v]] ?_
 intro w19 u19 e19 d19
 have k26 := k_r4Trim d19 (hb1.ext (e11.trans (g17.ext.trans e19))) (hb2.ext (e11.trans (g17.ext.trans e19))) (by omega)
 with_reducible refine Post.mono k26 ?_
 rintro _ u24 g25 ⟨r20, r22, rfl, h21, h23⟩
 refine zzh ⟨28, r12.cs ++ r14.cs⟩ ty28 ?_
 refine zzh ⟨28, r20.cs ++ r22.cs⟩ ty28 ?_
 refine zzb 20 [(2, .adr 2 0), (3, .adr 3 0), (4, .adr 4 0)] [(2, ⟨28, r12.cs ++ r14.cs⟩), (3, ⟨28, r20.cs ++ r22.cs⟩), (4, ⟨28, [.bool false, .slice none 0 0, .slice none 0 0, .bool false, .slice none 0 0, .slice none 0 0]⟩)] ?_
 refine zzc ?_
 refine zzx [0, 1, 0, 4, 15, 0, 32, 0, 128, 511, 1023, 2047] [(0, []), (1, []), (2, []), (3, []), (5, []), (6, []), (7, []), (8, []), (4, []), (9, []), (10, []), (11, [])] (by kernel_rfl) (by kernel_rfl) ?_
 refine zza 9 (.adr 2 0) ?_
 refine zzg 10 (.v (r12.v)) ty26 zzd ?_
 refine zza 11 (.adr 3 0) ?_
 refine zzg 12 (.v (r20.v)) ty26 zzd ?_
 refine zza 14 (.adr 2 3) ?_
 refine zzg 15 (.v (r14.v)) ty26 zzd ?_
 refine zza 16 (.adr 3 3) ?_
 refine zzg 17 (.v (r22.v)) ty26 zzd ?_
 refine zzf 13 130 [r12.v, r20.v] ?_
 intro w27 u27 e27 d27
 have k32 := k_rqMin d27 (h13.ext (e19.trans (g25.ext.trans e27))).raw (h21.ext e27).raw (by omega) (by omega)
 with_reducible refine Post.mono k32 ?_
 rintro _ u30 g31 ⟨r28, rfl, h29⟩
 refine zzf 18 129 [r14.v, r22.v] ?_
 intro w33 u33 e33 d33
 have k38 := k_rqMax d33 (h15.ext (e19.trans (g25.ext.trans (e27.trans (g31.ext.trans e33))))).raw (h23.ext (e27.trans (g31.ext.trans e33))).raw (by omega) (by omega)
 with_reducible refine Post.mono k38 ?_
 rintro _ u36 g37 ⟨r34, rfl, h35⟩
 refine zza 19 (.v (.agg #[.bool r28.s, r28.m.v, r28.d.v, .bool r34.s, r34.m.v, r34.d.v])) ?_
 refine zzh ⟨28, r28.cs ++ r34.cs⟩ ty28 ?_
 refine zzb 20 [(4, .adr 4 0)] [(4, ⟨28, r28.cs ++ r34.cs⟩)] ?_
 refine zzm (ret0 [.agg #[.bool r28.s, .slice r28.m.a r28.m.n r28.m.c, .slice r28.d.a r28.d.n r28.d.c, .bool r34.s, .slice r34.m.a r34.m.n r34.m.c, .slice r34.d.a r34.d.n r34.d.c]] ⟨zzp ty28 zzd, trivial⟩ fun u39 e40 => ?_)
 refine ⟨r28, r34, rfl, RatN.more (K := (max K L)) ?_ (by omega), RatN.more (K := (max K L)) ?_ (by omega)⟩
 ·exact (h29.ext (e33.trans (g37.ext.trans e40)))
 ·exact (h35.ext e40)
set_option maxHeartbeats 1000000 in
theorem k_r4Div {u w : World} {a1 a2 : RL} {x1 x2 : Rat} {b1 b2 : RL} {y1 y2 : Rat} {K L : Nat} (d : Dat u w) (ha1 : RatV u a1 x1 K) (ha2 : RatV u a2 x2 K) (hb1 : RatV u b1 y1 L) (hb2 : RatV u b2 y2 L) (hK : K ≤ 4000000) (hL : L ≤ 4000000) : Calls Tryz.prog 56 #[IV a1 a2, IV b1 b2] w (Post u w fun v u' => ∃ p q : RL, v = .tuple #[IV p q, .int .i64 (Nt.divE y1 y2)] ∧ OptI u' p q (Nt.divO x1 x2 y1 y2) (K + L + 20)) := by
 refine zzk (args := [.agg #[.bool a1.s, .slice a1.m.a a1.m.n a1.m.c, .slice a1.d.a a1.d.n a1.d.c, .bool a2.s, .slice a2.m.a a2.m.n a2.m.c, .slice a2.d.a a2.d.n a2.d.c], .agg #[.bool b1.s, .slice b1.m.a b1.m.n b1.m.c, .slice b1.d.a b1.d.n b1.d.c, .bool b2.s, .slice b2.m.a b2.m.n b2.m.c, .slice b2.d.a b2.d.n b2.d.c]]) Tryz.func56 rfl Tryz.ntmps56 (rs := [.cell 4 28, .tmp 5]) Tryz.results56 (le_b rfl) (le_b rfl) d ?_
 refine sq9 ?_
 refine zzi 2 ⟨28, a1.cs ++ a2.cs⟩ ?_
 refine zzi 3 ⟨28, b1.cs ++ b2.cs⟩ ?_
 refine zzi 4 ⟨28, [.bool false, .slice none 0 0, .slice none 0 0, .bool false, .slice none 0 0, .slice none 0 0]⟩ ?_
 refine zza 5 (.v (.int .i64 0)) ?_
 refine zzb 21 [(2, .adr 2 0), (3, .adr 3 0), (4, .adr 4 0)] [(2, ⟨28, a1.cs ++ a2.cs⟩), (3, ⟨28, b1.cs ++ b2.cs⟩), (4, ⟨28, [.bool false, .slice none 0 0, .slice none 0 0, .bool false, .slice none 0 0, .slice none 0 0]⟩)] ?_
 refine zzc ?_
 refine sq9 ?_
 refine zzg 6 (.v (.agg #[.bool b1.s, b1.m.v, b1.d.v, .bool b2.s, b2.m.v, b2.d.v])) ty28 zzd ?_
 refine zzf 7 65 [.agg #[.bool b1.s, b1.m.v, b1.d.v, .bool b2.s, b2.m.v, b2.d.v]] ?_
 intro w11 u11 e11 d11
 have k14 := k_r4Sign d11 (hb1.ext e11) (hb2.ext e11) (by omega)
 with_reducible refine Post.mono k14 ?_
 rintro _ u12 g13 rfl
 refine zza 8 (.v (.bool ((Nt.sgI y1 y2) == 0))) ?_
 refine zzb 21 [(2, .adr 2 0), (3, .adr 3 0), (4, .adr 4 0), (8, .v (.bool ((Nt.sgI y1 y2) == 0)))] [(2, ⟨28, a1.cs ++ a2.cs⟩), (3, ⟨28, b1.cs ++ b2.cs⟩), (4, ⟨28, [.bool false, .slice none 0 0, .slice none 0 0, .bool false, .slice none 0 0, .slice none 0 0]⟩)] ?_
 refine zzs (b := (Nt.sgI y1 y2) == 0) (by kernel_rfl) (fun hb15 => ?_) (fun hb15 => ?_)
 ·replace hb15 : ((Nt.sgI y1 y2) == 0) = true := hb15
  refine sq9 ?_
  refine zza 9 (.v (.agg #[.bool false, .slice none 0 0, .slice none 0 0, .bool false, .slice none 0 0, .slice none 0 0])) ?_
  refine zzh ⟨28, [.bool false, .slice none 0 0, .slice none 0 0, .bool false, .slice none 0 0, .slice none 0 0]⟩ ty28 ?_
  refine zza 5 (.v (.int .i64 3)) ?_
  refine zzb 21 [(4, .adr 4 0), (5, .v (.int .i64 3))] [(4, ⟨28, [.bool false, .slice none 0 0, .slice none 0 0, .bool false, .slice none 0 0, .slice none 0 0]⟩)] ?_
  refine zzm (zzu (ret0 [.agg #[.bool false, .slice none 0 0, .slice none 0 0, .bool false, .slice none 0 0, .slice none 0 0], .int .i64 3] ⟨zzp ty28 zzd, zzo, trivial⟩ fun u16 e17 => ?_))
  have h0 : Nt.sgI y1 y2 = 0 := by simpa using hb15
  refine ⟨rl0, rl0, by unfold Nt.divE; rw [if_pos h0]; rfl, ?_⟩
  unfold Nt.divO
  rw [if_pos h0]
  exact ⟨rfl, rfl⟩
 ·replace hb15 : ((Nt.sgI y1 y2) == 0) = false := hb15
  refine zzq (zzn ?_)
  refine zzc ?_
  refine zzx [0, 0, 0, 4, 14, 30, 0, 64, 254, 510, 1023, 2047, 4095] [(0, []), (2, []), (3, []), (6, []), (7, []), (1, []), (4, []), (5, []), (8, []), (9, []), (10, []), (11, []), (12, [])] (by kernel_rfl) (by kernel_rfl) ?_
  refine zzg 10 (.v (.agg #[.bool a1.s, a1.m.v, a1.d.v, .bool a2.s, a2.m.v, a2.d.v])) ty28 zzd ?_
  refine zza 12 (.adr 3 0) ?_
  refine zzg 13 (.v (b1.v)) ty26 zzd ?_
  refine zza 16 (.adr 3 3) ?_
  refine zzg 17 (.v (b2.v)) ty26 zzd ?_
  refine zzf 11 41 [.int .i64 1] ?_
  intro w18 u18 e18 d18
  have k23 := k_rqOf d18 (z := 1) (by omega) (by omega)
  with_reducible refine Post.mono k23 ?_
  rintro _ u21 g22 ⟨r19, rfl, h20⟩
  refine zzf 14 16 [r19.v, b1.v] ?_
  intro w24 u24 e24 d24
  have k29 := k_rqOver d24 (h20.ext e24).raw (hb1.ext (e11.trans (g13.ext.trans (e18.trans (g22.ext.trans e24))))) (by omega) (by omega)
  with_reducible refine Post.mono k29 ?_
  rintro _ u27 g28 ⟨r25, rfl, h26⟩
  refine zzf 15 41 [.int .i64 1] ?_
  intro w30 u30 e30 d30
  have k35 := k_rqOf d30 (z := 1) (by omega) (by omega)
  with_reducible refine Post.mono k35 ?_
  rintro _ u33 g34 ⟨r31, rfl, h32⟩
  refine zzf 18 16 [r31.v, b2.v] ?_
  intro w36 u36 e36 d36
  have k41 := k_rqOver d36 (h32.ext e36).raw (hb2.ext (e11.trans (g13.ext.trans (e18.trans (g22.ext.trans (e24.trans (g28.ext.trans (e30.trans (g34.ext.trans e36))))))))) (by omega) (by omega)
  with_reducible refine Post.mono k41 ?_
  rintro _ u39 g40 ⟨r37, rfl, h38⟩
  refine zzf 19 46 [r25.v, r37.v] ?_
  intro w42 u42 e42 d42
  have k49 := k_r4Make d42 (h26.ext (e30.trans (g34.ext.trans (e36.trans (g40.ext.trans e42))))).raw (h38.ext e42).raw (by omega)
  with_reducible refine Post.mono k49 ?_
  rintro _ u47 g48 ⟨r43, r45, rfl, h44, h46⟩
  refine zzf 20 77 [.agg #[.bool a1.s, a1.m.v, a1.d.v, .bool a2.s, a2.m.v, a2.d.v], .agg #[.bool r43.s, r43.m.v, r43.d.v, .bool r45.s, r45.m.v, r45.d.v]] ?_
  intro w50 u50 e50 d50
  have k57 := k_r4Mul d50 (ha1.ext (e11.trans (g13.ext.trans (e18.trans (g22.ext.trans (e24.trans (g28.ext.trans (e30.trans (g34.ext.trans (e36.trans (g40.ext.trans (e42.trans (g48.ext.trans e50))))))))))))) (ha2.ext (e11.trans (g13.ext.trans (e18.trans (g22.ext.trans (e24.trans (g28.ext.trans (e30.trans (g34.ext.trans (e36.trans (g40.ext.trans (e42.trans (g48.ext.trans e50))))))))))))) (h44.ext e50).raw (h46.ext e50).raw (by omega) (by omega)
  with_reducible refine Post.mono k57 ?_
  rintro _ u55 g56 ⟨r51, r53, rfl, h52, h54⟩
  refine zzh ⟨28, r51.cs ++ r53.cs⟩ ty28 ?_
  refine zza 5 (.v (.int .i64 0)) ?_
  refine zzb 21 [(4, .adr 4 0), (5, .v (.int .i64 0))] [(4, ⟨28, r51.cs ++ r53.cs⟩)] ?_
  refine zzm (ret0 [.agg #[.bool r51.s, .slice r51.m.a r51.m.n r51.m.c, .slice r51.d.a r51.d.n r51.d.c, .bool r53.s, .slice r53.m.a r53.m.n r53.m.c, .slice r53.d.a r53.d.n r53.d.c], .int .i64 0] ⟨zzp ty28 zzd, zzo, trivial⟩ fun u58 e59 => ?_)
  have h0 : ¬ Nt.sgI y1 y2 = 0 := by simpa using hb15
  refine ⟨r51, r53, by unfold Nt.divE; rw [if_neg h0]; rfl, ?_⟩
  unfold Nt.divO
  rw [if_neg h0]
  have o9 := Nt.over4 x1 x2 (((1 : Int) : Rat) / y1) (((1 : Int) : Rat) / y2)
  simp only [Nt.mul_over] at o9
  refine ⟨RatN.more (K := (K + (2 + L + 2) + 1)) ?_ (by omega), RatN.more (K := (K + (2 + L + 2) + 1)) ?_ (by omega)⟩
  ·rw [← o9.1]; exact (h52.ext e59)
  ·rw [← o9.2]; exact (h54.ext e59)
theorem k_ivDivO {u w : World} {a1 a2 b1 b2 : RL} {x1 x2 y1 y2 : Rat} {K L : Nat} (d : Dat u w) (ha1 : RatV u a1 x1 K) (ha2 : RatV u a2 x2 K) (hb1 : RatV u b1 y1 L) (hb2 : RatV u b2 y2 L) (hK : K ≤ 4000000) (hL : L ≤ 4000000) : Calls Tryz.prog 14 #[IV a1 a2, IV b1 b2] w (Post u w fun v u' => ∃ p q : RL, v = .tuple #[IV p q, .int .i64 (Nt.divE y1 y2)] ∧ OptI u' p q (Nt.divO x1 x2 y1 y2) (K + L + 20)) :=
 Post.mono (k_ivDiv d ha1 ha2 hb1 hb2 (by omega) (by omega)) fun v u' _ h => by
  rcases h with ⟨h0, h1⟩ | ⟨h0, p, q, h1, h2, h3⟩
  ·exact ⟨rl0, rl0, by unfold Nt.divE; rw [if_pos h0, h1]; rfl, by unfold Nt.divO; rw [if_pos h0]; exact ⟨rfl, rfl⟩⟩
  ·exact ⟨p, q, by unfold Nt.divE; rw [if_neg h0, h1], by unfold Nt.divO; rw [if_neg h0]; exact ⟨h2.more (by omega), h3.more (by omega)⟩⟩
theorem k_ivMeetO {u w : World} {a1 a2 b1 b2 : RL} {x1 x2 y1 y2 : Rat} {K L : Nat} (d : Dat u w) (ha1 : RatV u a1 x1 K) (ha2 : RatV u a2 x2 K) (hb1 : RatV u b1 y1 L) (hb2 : RatV u b2 y2 L) (hK : K ≤ 4000000) (hL : L ≤ 4000000) : Calls Tryz.prog 57 #[IV a1 a2, IV b1 b2] w (Post u w fun v u' => ∃ p q : RL, v = .tuple #[IV p q, .bool (decide ((Nt.hi (Nt.lo x1 x2) (Nt.lo y1 y2)) ≤ (Nt.lo (Nt.hi x1 x2) (Nt.hi y1 y2))))] ∧ OptI u' p q (Nt.optE (some ((Nt.hi (Nt.lo x1 x2) (Nt.lo y1 y2)), (Nt.lo (Nt.hi x1 x2) (Nt.hi y1 y2)))) (Nt.hi (Nt.lo x1 x2) (Nt.lo y1 y2)) (Nt.lo (Nt.hi x1 x2) (Nt.hi y1 y2))) (max K L)) :=
 Post.mono (k_ivMeet d ha1 ha2 hb1 hb2 (by omega) (by omega)) fun v u' _ h => by
  rcases h with ⟨h0, h1⟩ | ⟨h0, p, q, h1, h2, h3⟩
  ·exact ⟨rl0, rl0, by rw [decide_eq_false (by grind), h1]; rfl, by unfold Nt.optE; rw [if_pos h0]; exact ⟨rfl, rfl⟩⟩
  ·exact ⟨p, q, by rw [decide_eq_true h0, h1], by unfold Nt.optE; rw [if_neg (by grind)]; exact ⟨h2, h3⟩⟩
set_option maxHeartbeats 1000000 in
theorem k_r4Meet {u w : World} {a1 a2 : RL} {x1 x2 : Rat} {b1 b2 : RL} {y1 y2 : Rat} {K L : Nat} (d : Dat u w) (ha1 : RatV u a1 x1 K) (ha2 : RatV u a2 x2 K) (hb1 : RatV u b1 y1 L) (hb2 : RatV u b2 y2 L) (hK : K ≤ 4000000) (hL : L ≤ 4000000) : Calls Tryz.prog 58 #[IV a1 a2, IV b1 b2] w (Post u w fun v u' => ∃ p q : RL, v = .tuple #[IV p q, .bool (decide ((Nt.hi (Nt.lo x1 x2) (Nt.lo y1 y2)) ≤ (Nt.lo (Nt.hi x1 x2) (Nt.hi y1 y2))))] ∧ OptI u' p q (Nt.optE (some ((Nt.hi (Nt.lo x1 x2) (Nt.lo y1 y2)), (Nt.lo (Nt.hi x1 x2) (Nt.hi y1 y2)))) (Nt.hi (Nt.lo x1 x2) (Nt.lo y1 y2)) (Nt.lo (Nt.hi x1 x2) (Nt.hi y1 y2))) (max K L)) := by
 refine zzk (args := [.agg #[.bool a1.s, .slice a1.m.a a1.m.n a1.m.c, .slice a1.d.a a1.d.n a1.d.c, .bool a2.s, .slice a2.m.a a2.m.n a2.m.c, .slice a2.d.a a2.d.n a2.d.c], .agg #[.bool b1.s, .slice b1.m.a b1.m.n b1.m.c, .slice b1.d.a b1.d.n b1.d.c, .bool b2.s, .slice b2.m.a b2.m.n b2.m.c, .slice b2.d.a b2.d.n b2.d.c]]) Tryz.func58 rfl Tryz.ntmps58 (rs := [.cell 4 28, .tmp 5]) Tryz.results58 (le_b rfl) (le_b rfl) d ?_
 refine sq9 ?_
 refine zzi 2 ⟨28, a1.cs ++ a2.cs⟩ ?_
 refine zzi 3 ⟨28, b1.cs ++ b2.cs⟩ ?_
 refine zzi 4 ⟨28, [.bool false, .slice none 0 0, .slice none 0 0, .bool false, .slice none 0 0, .slice none 0 0]⟩ ?_
 refine zza 5 (.v (.bool false)) ?_
 refine zzb 29 [(2, .adr 2 0), (3, .adr 3 0), (4, .adr 4 0)] [(2, ⟨28, a1.cs ++ a2.cs⟩), (3, ⟨28, b1.cs ++ b2.cs⟩), (4, ⟨28, [.bool false, .slice none 0 0, .slice none 0 0, .bool false, .slice none 0 0, .slice none 0 0]⟩)] ?_
 refine zzc ?_
 refine zzx [0, 1, 0, 7, 15, 31] [(0, []), (2, []), (1, []), (3, []), (4, []), (5, [])] (by kernel_rfl) (by kernel_rfl) ?_
 refine zzg 8 (.v (.agg #[.bool a1.s, a1.m.v, a1.d.v, .bool a2.s, a2.m.v, a2.d.v])) ty28 zzd ?_
 refine zzg 10 (.v (.agg #[.bool b1.s, b1.m.v, b1.d.v, .bool b2.s, b2.m.v, b2.d.v])) ty28 zzd ?_
 refine zzf 9 69 [.agg #[.bool a1.s, a1.m.v, a1.d.v, .bool a2.s, a2.m.v, a2.d.v]] ?_
 intro w11 u11 e11 d11
 have k18 := k_r4Trim d11 (ha1.ext e11) (ha2.ext e11) (by omega)
 with_reducible refine Post.mono k18 ?_
 rintro _ u16 g17 ⟨r12, r14, rfl, h13, h15⟩
 refine zzf 11 69 [.agg #[.bool b1.s, b1.m.v, b1.d.v, .bool b2.s, b2.m.v, b2.d.v]] ?_
 intro w19 u19 e19 d19
 have k26 := k_r4Trim d19 (hb1.ext (e11.trans (g17.ext.trans e19))) (hb2.ext (e11.trans (g17.ext.trans e19))) (by omega)
 with_reducible refine Post.mono k26 ?_
 rintro _ u24 g25 ⟨r20, r22, rfl, h21, h23⟩
 refine zzh ⟨28, r12.cs ++ r14.cs⟩ ty28 ?_
 refine zzh ⟨28, r20.cs ++ r22.cs⟩ ty28 ?_
 refine zzb 29 [(2, .adr 2 0), (3, .adr 3 0), (4, .adr 4 0)] [(2, ⟨28, r12.cs ++ r14.cs⟩), (3, ⟨28, r20.cs ++ r22.cs⟩), (4, ⟨28, [.bool false, .slice none 0 0, .slice none 0 0, .bool false, .slice none 0 0, .slice none 0 0]⟩)] ?_
 refine zzc ?_
 refine zzx [0, 1, 0, 4, 15, 0, 32, 0, 128, 511, 0, 0, 4095, 8191] [(0, []), (1, []), (2, []), (3, []), (5, []), (6, []), (7, []), (8, []), (10, []), (11, []), (4, []), (9, []), (12, []), (13, [])] (by kernel_rfl) (by kernel_rfl) ?_
 refine zza 12 (.adr 2 0) ?_
 refine zzg 13 (.v (r12.v)) ty26 zzd ?_
 refine zza 14 (.adr 3 0) ?_
 refine zzg 15 (.v (r20.v)) ty26 zzd ?_
 refine zza 17 (.adr 2 3) ?_
 refine zzg 18 (.v (r14.v)) ty26 zzd ?_
 refine zza 19 (.adr 3 3) ?_
 refine zzg 20 (.v (r22.v)) ty26 zzd ?_
 refine zzi 6 ⟨26, [.bool false, .slice none 0 0, .slice none 0 0]⟩ ?_
 refine zzi 7 ⟨26, [.bool false, .slice none 0 0, .slice none 0 0]⟩ ?_
 refine zzf 16 129 [r12.v, r20.v] ?_
 intro w27 u27 e27 d27
 have k32 := k_rqMax d27 (h13.ext (e19.trans (g25.ext.trans e27))).raw (h21.ext e27).raw (by omega) (by omega)
 with_reducible refine Post.mono k32 ?_
 rintro _ u30 g31 ⟨r28, rfl, h29⟩
 refine zzf 21 130 [r14.v, r22.v] ?_
 intro w33 u33 e33 d33
 have k38 := k_rqMin d33 (h15.ext (e19.trans (g25.ext.trans (e27.trans (g31.ext.trans e33))))).raw (h23.ext (e27.trans (g31.ext.trans e33))).raw (by omega) (by omega)
 with_reducible refine Post.mono k38 ?_
 rintro _ u36 g37 ⟨r34, rfl, h35⟩
 refine zzh ⟨26, r28.cs⟩ ty26 ?_
 refine zzh ⟨26, r34.cs⟩ ty26 ?_
 refine zzb 29 [(4, .adr 4 0), (6, .adr 6 0), (7, .adr 7 0)] [(4, ⟨28, [.bool false, .slice none 0 0, .slice none 0 0, .bool false, .slice none 0 0, .slice none 0 0]⟩), (6, ⟨26, r28.cs⟩), (7, ⟨26, r34.cs⟩)] ?_
 refine zzc ?_
 refine sq9 ?_
 refine zzg 22 (.v (r34.v)) ty26 zzd ?_
 refine zzg 23 (.v (r28.v)) ty26 zzd ?_
 refine zzf 24 101 [r34.v, r28.v] ?_
 intro w39 u39 e39 d39
 have k42 := k_rqLess d39 (h35.ext e39).raw (h29.ext (e33.trans (g37.ext.trans e39))).raw (by omega) (by omega)
 with_reducible refine Post.mono k42 ?_
 rintro _ u40 g41 rfl
 refine zzb 29 [(4, .adr 4 0), (6, .adr 6 0), (7, .adr 7 0), (24, .v (.bool (decide ((Nt.lo (Nt.hi x1 x2) (Nt.hi y1 y2)) < (Nt.hi (Nt.lo x1 x2) (Nt.lo y1 y2))))))] [(4, ⟨28, [.bool false, .slice none 0 0, .slice none 0 0, .bool false, .slice none 0 0, .slice none 0 0]⟩), (6, ⟨26, r28.cs⟩), (7, ⟨26, r34.cs⟩)] ?_
 refine zzs (b := decide ((Nt.lo (Nt.hi x1 x2) (Nt.hi y1 y2)) < (Nt.hi (Nt.lo x1 x2) (Nt.lo y1 y2)))) (by kernel_rfl) (fun hb43 => ?_) (fun hb43 => ?_)
 ·replace hb43 : (decide ((Nt.lo (Nt.hi x1 x2) (Nt.hi y1 y2)) < (Nt.hi (Nt.lo x1 x2) (Nt.lo y1 y2)))) = true := hb43
  have qhb43 := of_decide_eq_true hb43
  refine sq9 ?_
  refine zza 25 (.v (.agg #[.bool false, .slice none 0 0, .slice none 0 0, .bool false, .slice none 0 0, .slice none 0 0])) ?_
  refine zzh ⟨28, [.bool false, .slice none 0 0, .slice none 0 0, .bool false, .slice none 0 0, .slice none 0 0]⟩ ty28 ?_
  refine zza 5 (.v (.bool false)) ?_
  refine zzb 29 [(4, .adr 4 0), (5, .v (.bool false))] [(4, ⟨28, [.bool false, .slice none 0 0, .slice none 0 0, .bool false, .slice none 0 0, .slice none 0 0]⟩)] ?_
  refine zzm (zzu (ret0 [.agg #[.bool false, .slice none 0 0, .slice none 0 0, .bool false, .slice none 0 0, .slice none 0 0], .bool false] ⟨zzp ty28 zzd, zzo, trivial⟩ fun u44 e45 => ?_))
  have h0 := of_decide_eq_true hb43
  exact ⟨rl0, rl0, by rw [decide_eq_false (by grind)]; rfl, by unfold Nt.optE; rw [if_pos h0]; exact ⟨rfl, rfl⟩⟩
 ·replace hb43 : (decide ((Nt.lo (Nt.hi x1 x2) (Nt.hi y1 y2)) < (Nt.hi (Nt.lo x1 x2) (Nt.lo y1 y2)))) = false := hb43
  have qhb43 := of_decide_eq_false hb43
  refine zzq (zzn ?_)
  refine sq9 ?_
  refine zzg 26 (.v (r28.v)) ty26 zzd ?_
  refine zzg 27 (.v (r34.v)) ty26 zzd ?_
  refine zza 28 (.v (.agg #[.bool r28.s, r28.m.v, r28.d.v, .bool r34.s, r34.m.v, r34.d.v])) ?_
  refine zzh ⟨28, r28.cs ++ r34.cs⟩ ty28 ?_
  refine zza 5 (.v (.bool true)) ?_
  refine zzb 29 [(4, .adr 4 0), (5, .v (.bool true))] [(4, ⟨28, r28.cs ++ r34.cs⟩)] ?_
  refine zzm (ret0 [.agg #[.bool r28.s, .slice r28.m.a r28.m.n r28.m.c, .slice r28.d.a r28.d.n r28.d.c, .bool r34.s, .slice r34.m.a r34.m.n r34.m.c, .slice r34.d.a r34.d.n r34.d.c], .bool true] ⟨zzp ty28 zzd, zzo, trivial⟩ fun u46 e47 => ?_)
  have h0 := of_decide_eq_false hb43
  exact ⟨r28, r34, by rw [decide_eq_true (by grind)]; rfl, by unfold Nt.optE; rw [if_neg h0]; exact ⟨(h29.ext (e33.trans (g37.ext.trans (e39.trans (g41.ext.trans e47))))), (h35.ext (e39.trans (g41.ext.trans e47)))⟩⟩
set_option maxHeartbeats 1000000 in
theorem k_ivRoundG {u w : World} {a1 a2 : RL} {x1 x2 : Rat} {K : Nat} {k : Nat} (hk : k ≤ 256) (d : Dat u w) (ha1 : RatV u a1 x1 K) (ha2 : RatV u a2 x2 K) (hK : K ≤ 100000) : Calls Tryz.prog 66 #[IV a1 a2, .int .i64 (k : Int)] w (Post u w fun v u' => ∃ p q : RL, v = .tuple #[IV p q, .int .i64 (Nt.rndE (k : Int))] ∧ OptI u' p q (Nt.rndO x1 x2 (k : Int)) (K + 70)) := by
 refine zzk (args := [.agg #[.bool a1.s, .slice a1.m.a a1.m.n a1.m.c, .slice a1.d.a a1.d.n a1.d.c, .bool a2.s, .slice a2.m.a a2.m.n a2.m.c, .slice a2.d.a a2.d.n a2.d.c], .int .i64 (k : Int)]) Tryz.func66 rfl Tryz.ntmps66 (rs := [.cell 4 28, .tmp 5]) Tryz.results66 (le_b rfl) (le_b rfl) d ?_
 refine sq9 ?_
 refine zzi 2 ⟨28, a1.cs ++ a2.cs⟩ ?_
 refine zzi 4 ⟨28, [.bool false, .slice none 0 0, .slice none 0 0, .bool false, .slice none 0 0, .slice none 0 0]⟩ ?_
 refine zza 5 (.v (.int .i64 0)) ?_
 refine zzb 39 [(1, .v (.int .i64 (k : Int))), (2, .adr 2 0), (4, .adr 4 0)] [(2, ⟨28, a1.cs ++ a2.cs⟩), (4, ⟨28, [.bool false, .slice none 0 0, .slice none 0 0, .bool false, .slice none 0 0, .slice none 0 0]⟩)] ?_
 refine zzc ?_
 refine sq9 ?_
 refine zza 12 (.v (.int .i64 (k : Int))) ?_
 refine zza 13 (.v (.bool (decide ((k : Int) < 0)))) ?_
 refine zyl 14 (x := .v (.bool (decide ((k : Int) < 0)))) (.v (.bool false)) (by rw [show (decide ((k : Int) < 0)) = false from decide_eq_false (by omega)]) ?_
 refine zza 15 (.v (.int .i64 (k : Int))) ?_ (hw := w1 2 false 14)
 refine zza 16 (.v (.bool (decide ((256 : Int) < (k : Int))))) ?_ (hw := w1 2 false 14)
 refine zza 17 (.v (.bool (decide ((256 : Int) < (k : Int))))) ?_
 refine zzb 39 [(1, .v (.int .i64 (k : Int))), (2, .adr 2 0), (4, .adr 4 0), (17, .v (.bool (decide ((256 : Int) < (k : Int)))))] [(2, ⟨28, a1.cs ++ a2.cs⟩), (4, ⟨28, [.bool false, .slice none 0 0, .slice none 0 0, .bool false, .slice none 0 0, .slice none 0 0]⟩)] ?_
 refine zzs (b := decide ((256 : Int) < (k : Int))) (by kernel_rfl) (fun hb => ?_) (fun hb => ?_)
 ·exact absurd hb (by rw [show (decide ((256 : Int) < (k : Int))) = false from decide_eq_false (by omega)]; decide)
 ·clear hb
  refine zzq (zzn ?_)
  refine sq9 ?_
  refine zzg 20 (.v (.agg #[.bool a1.s, a1.m.v, a1.d.v, .bool a2.s, a2.m.v, a2.d.v])) ty28 zzd ?_
  refine zzf 21 103 [.agg #[.bool a1.s, a1.m.v, a1.d.v, .bool a2.s, a2.m.v, a2.d.v]] ?_
  intro w12 u12 e12 d12
  have k19 := k_ends d12 (ha1.ext e12) (ha2.ext e12) (by omega)
  with_reducible refine Post.mono k19 ?_
  rintro _ u17 g18 ⟨r13, r15, rfl, h14, h16⟩
  refine zza 19 (.v (.tuple #[r13.v, r15.v])) ?_
  refine zza 22 (.v (r13.v)) ?_
  refine zza 23 (.v (r15.v)) ?_
  refine zzi 6 ⟨26, [.bool false, .slice none 0 0, .slice none 0 0]⟩ ?_
  refine zzi 7 ⟨26, [.bool false, .slice none 0 0, .slice none 0 0]⟩ ?_
  refine zzh ⟨26, r13.cs⟩ ty26 ?_
  refine zzh ⟨26, r15.cs⟩ ty26 ?_
  refine zzb 39 [(1, .v (.int .i64 (k : Int))), (4, .adr 4 0), (6, .adr 6 0), (7, .adr 7 0)] [(4, ⟨28, [.bool false, .slice none 0 0, .slice none 0 0, .bool false, .slice none 0 0, .slice none 0 0]⟩), (6, ⟨26, r13.cs⟩), (7, ⟨26, r15.cs⟩)] ?_
  refine sq9 ?_
  refine zzg 25 (.v (r13.v)) ty26 zzd ?_
  refine zza 26 (.v (.int .i64 (k : Int))) ?_
  refine zzf 27 133 [r13.v, .int .i64 (k : Int)] ?_
  intro w20 u20 e20 d20
  have k25 := k_downG (k := k) (by omega) d20 (h14.ext e20) (by omega)
  with_reducible refine Post.mono k25 ?_
  rintro _ u23 g24 ⟨r21, rfl, h22⟩
  refine zza 24 (.v (.tuple #[r21.v, .int .i64 0])) ?_
  refine zza 28 (.v (r21.v)) ?_
  refine zza 29 (.v (.int .i64 0)) ?_
  refine zzi 8 ⟨26, [.bool false, .slice none 0 0, .slice none 0 0]⟩ ?_
  refine zzh ⟨26, r21.cs⟩ ty26 ?_
  refine zza 9 (.v (.int .i64 0)) ?_
  refine zzb 39 [(1, .v (.int .i64 (k : Int))), (4, .adr 4 0), (7, .adr 7 0), (8, .adr 8 0)] [(4, ⟨28, [.bool false, .slice none 0 0, .slice none 0 0, .bool false, .slice none 0 0, .slice none 0 0]⟩), (7, ⟨26, r15.cs⟩), (8, ⟨26, r21.cs⟩)] ?_
  refine sq9 ?_
  refine zzg 31 (.v (r15.v)) ty26 zzd ?_
  refine zza 32 (.v (.int .i64 (k : Int))) ?_
  refine zzf 33 134 [r15.v, .int .i64 (k : Int)] ?_
  intro w26 u26 e26 d26
  have k31 := k_upG (k := k) (by omega) d26 (h16.ext (e20.trans (g24.ext.trans e26))) (by omega)
  with_reducible refine Post.mono k31 ?_
  rintro _ u29 g30 ⟨r27, rfl, h28⟩
  refine zza 30 (.v (.tuple #[r27.v, .int .i64 0])) ?_
  refine zza 34 (.v (r27.v)) ?_
  refine zza 35 (.v (.int .i64 0)) ?_
  refine zzi 10 ⟨26, [.bool false, .slice none 0 0, .slice none 0 0]⟩ ?_
  refine zzh ⟨26, r27.cs⟩ ty26 ?_
  refine zza 11 (.v (.int .i64 0)) ?_
  refine zzb 39 [(4, .adr 4 0), (8, .adr 8 0), (10, .adr 10 0)] [(4, ⟨28, [.bool false, .slice none 0 0, .slice none 0 0, .bool false, .slice none 0 0, .slice none 0 0]⟩), (8, ⟨26, r21.cs⟩), (10, ⟨26, r27.cs⟩)] ?_
  refine sq9 ?_
  refine zzg 36 (.v (r21.v)) ty26 zzd ?_
  refine zzg 37 (.v (r27.v)) ty26 zzd ?_
  refine zza 38 (.v (.agg #[.bool r21.s, r21.m.v, r21.d.v, .bool r27.s, r27.m.v, r27.d.v])) ?_
  refine zzh ⟨28, r21.cs ++ r27.cs⟩ ty28 ?_
  refine zza 5 (.v (.int .i64 0)) ?_
  refine zzb 39 [(4, .adr 4 0), (5, .v (.int .i64 0))] [(4, ⟨28, r21.cs ++ r27.cs⟩)] ?_
  refine zzm (ret0 [.agg #[.bool r21.s, .slice r21.m.a r21.m.n r21.m.c, .slice r21.d.a r21.d.n r21.d.c, .bool r27.s, .slice r27.m.a r27.m.n r27.m.c, .slice r27.d.a r27.d.n r27.d.c], .int .i64 0] ⟨zzp ty28 zzd, zzo, trivial⟩ fun u32 e33 => ?_)
  have h9 : ¬ ((k : Int) < 0 ∨ 256 < (k : Int)) := by omega
  refine ⟨r21, r27, by unfold Nt.rndE; rw [if_neg h9]; rfl, ?_⟩
  unfold Nt.rndO
  rw [if_neg h9, Int.toNat_natCast]
  exact ⟨RatN.more (K := (K + 20)) (h22.ext (e26.trans (g30.ext.trans e33))) (by omega), RatN.more (K := (K + 20)) (h28.ext e33) (by omega)⟩
set_option maxHeartbeats 1000000 in
theorem k_ivRoundB {u w : World} {a1 a2 : RL} {x1 x2 : Rat} {K : Nat} {n : Int} (hn : n < 0 ∨ 256 < n) (d : Dat u w) (ha1 : RatV u a1 x1 K) (ha2 : RatV u a2 x2 K) (hK : K ≤ 100000) : Calls Tryz.prog 66 #[IV a1 a2, .int .i64 n] w (Post u w fun v u' => ∃ p q : RL, v = .tuple #[IV p q, .int .i64 (Nt.rndE n)] ∧ OptI u' p q (Nt.rndO x1 x2 n) (K + 70)) := by
 refine zzk (args := [.agg #[.bool a1.s, .slice a1.m.a a1.m.n a1.m.c, .slice a1.d.a a1.d.n a1.d.c, .bool a2.s, .slice a2.m.a a2.m.n a2.m.c, .slice a2.d.a a2.d.n a2.d.c], .int .i64 n]) Tryz.func66 rfl Tryz.ntmps66 (rs := [.cell 4 28, .tmp 5]) Tryz.results66 (le_b rfl) (le_b rfl) d ?_
 refine sq9 ?_
 refine zzi 2 ⟨28, a1.cs ++ a2.cs⟩ ?_
 refine zzi 4 ⟨28, [.bool false, .slice none 0 0, .slice none 0 0, .bool false, .slice none 0 0, .slice none 0 0]⟩ ?_
 refine zza 5 (.v (.int .i64 0)) ?_
 refine zzb 39 [(1, .v (.int .i64 n)), (2, .adr 2 0), (4, .adr 4 0)] [(2, ⟨28, a1.cs ++ a2.cs⟩), (4, ⟨28, [.bool false, .slice none 0 0, .slice none 0 0, .bool false, .slice none 0 0, .slice none 0 0]⟩)] ?_
 refine zzc ?_
 refine sq9 ?_
 refine zza 12 (.v (.int .i64 n)) ?_
 refine zza 13 (.v (.bool (decide (n < 0)))) ?_
 rcases Bool.eq_false_or_eq_true (decide (n < 0)) with hs11 | hs11
 ·refine zyl 14 (x := .v (.bool (decide (n < 0)))) (.v (.bool true)) (by rw [hs11]) ?_
  have qhs11 := of_decide_eq_true hs11
  refine zzl 15 (uw 2 false true 14) ?_
  refine zzl 16 (uw 2 false true 14) ?_
  refine zza 17 (.v (.bool true)) ?_
  refine zzb 39 [(1, .v (.int .i64 n)), (2, .adr 2 0), (4, .adr 4 0), (17, .v (.bool true))] [(2, ⟨28, a1.cs ++ a2.cs⟩), (4, ⟨28, [.bool false, .slice none 0 0, .slice none 0 0, .bool false, .slice none 0 0, .slice none 0 0]⟩)] ?_
  refine zym (by kernel_rfl) ?_
  refine sq9 ?_
  refine zza 18 (.v (.agg #[.bool false, .slice none 0 0, .slice none 0 0, .bool false, .slice none 0 0, .slice none 0 0])) ?_
  refine zzh ⟨28, [.bool false, .slice none 0 0, .slice none 0 0, .bool false, .slice none 0 0, .slice none 0 0]⟩ ty28 ?_
  refine zza 5 (.v (.int .i64 1)) ?_
  refine zzb 39 [(4, .adr 4 0), (5, .v (.int .i64 1))] [(4, ⟨28, [.bool false, .slice none 0 0, .slice none 0 0, .bool false, .slice none 0 0, .slice none 0 0]⟩)] ?_
  refine zzm (zzu (ret0 [.agg #[.bool false, .slice none 0 0, .slice none 0 0, .bool false, .slice none 0 0, .slice none 0 0], .int .i64 1] ⟨zzp ty28 zzd, zzo, trivial⟩ fun u12 e13 => ?_))
  refine ⟨rl0, rl0, by unfold Nt.rndE; rw [if_pos hn]; rfl, ?_⟩
  unfold Nt.rndO
  rw [if_pos hn]
  exact ⟨rfl, rfl⟩
 ·refine zyl 14 (x := .v (.bool (decide (n < 0)))) (.v (.bool false)) (by rw [hs11]) ?_
  have qhs11 := of_decide_eq_false hs11
  refine zza 15 (.v (.int .i64 n)) ?_ (hw := w1 2 false 14)
  refine zza 16 (.v (.bool (decide ((256 : Int) < n)))) ?_ (hw := w1 2 false 14)
  refine zza 17 (.v (.bool (decide ((256 : Int) < n)))) ?_
  refine zzb 39 [(1, .v (.int .i64 n)), (2, .adr 2 0), (4, .adr 4 0), (17, .v (.bool (decide ((256 : Int) < n))))] [(2, ⟨28, a1.cs ++ a2.cs⟩), (4, ⟨28, [.bool false, .slice none 0 0, .slice none 0 0, .bool false, .slice none 0 0, .slice none 0 0]⟩)] ?_
  refine zzs (b := decide ((256 : Int) < n)) (by kernel_rfl) (fun hb => ?_) (fun hb => ?_)
  ·clear hb
   refine sq9 ?_
   refine zza 18 (.v (.agg #[.bool false, .slice none 0 0, .slice none 0 0, .bool false, .slice none 0 0, .slice none 0 0])) ?_
   refine zzh ⟨28, [.bool false, .slice none 0 0, .slice none 0 0, .bool false, .slice none 0 0, .slice none 0 0]⟩ ty28 ?_
   refine zza 5 (.v (.int .i64 1)) ?_
   refine zzb 39 [(4, .adr 4 0), (5, .v (.int .i64 1))] [(4, ⟨28, [.bool false, .slice none 0 0, .slice none 0 0, .bool false, .slice none 0 0, .slice none 0 0]⟩)] ?_
   refine zzm (zzu (ret0 [.agg #[.bool false, .slice none 0 0, .slice none 0 0, .bool false, .slice none 0 0, .slice none 0 0], .int .i64 1] ⟨zzp ty28 zzd, zzo, trivial⟩ fun u14 e15 => ?_))
   refine ⟨rl0, rl0, by unfold Nt.rndE; rw [if_pos hn]; rfl, ?_⟩
   unfold Nt.rndO
   rw [if_pos hn]
   exact ⟨rfl, rfl⟩
  ·exact absurd hb (by rw [show (decide ((256 : Int) < n)) = true from decide_eq_true (by omega)]; decide)
theorem k_ivRound {u w : World} {a1 a2 : RL} {x1 x2 : Rat} {K : Nat} {n : Int} (d : Dat u w) (ha1 : RatV u a1 x1 K) (ha2 : RatV u a2 x2 K) (hK : K ≤ 100000) : Calls Tryz.prog 66 #[IV a1 a2, .int .i64 n] w (Post u w fun v u' => ∃ p q : RL, v = .tuple #[IV p q, .int .i64 (Nt.rndE n)] ∧ OptI u' p q (Nt.rndO x1 x2 n) (K + 70)) := by
 by_cases hn : n < 0 ∨ 256 < n
 ·exact k_ivRoundB hn d ha1 ha2 hK
 ·obtain ⟨k, rfl⟩ : ∃ k : Nat, n = (k : Int) := ⟨n.toNat, by omega⟩
  exact k_ivRoundG (by omega) d ha1 ha2 hK
set_option maxHeartbeats 1000000 in
theorem k_r4RoundG {u w : World} {a1 a2 : RL} {x1 x2 : Rat} {K : Nat} {k : Nat} (hk : k ≤ 256) (d : Dat u w) (ha1 : RatV u a1 x1 K) (ha2 : RatV u a2 x2 K) (hK : K ≤ 100000) : Calls Tryz.prog 67 #[IV a1 a2, .int .i64 (k : Int)] w (Post u w fun v u' => ∃ p q : RL, v = .tuple #[IV p q, .int .i64 (Nt.rndE (k : Int))] ∧ OptI u' p q (Nt.rndO x1 x2 (k : Int)) (K + 70)) := by
 refine zzk (args := [.agg #[.bool a1.s, .slice a1.m.a a1.m.n a1.m.c, .slice a1.d.a a1.d.n a1.d.c, .bool a2.s, .slice a2.m.a a2.m.n a2.m.c, .slice a2.d.a a2.d.n a2.d.c], .int .i64 (k : Int)]) Tryz.func67 rfl Tryz.ntmps67 (rs := [.cell 4 28, .tmp 5]) Tryz.results67 (le_b rfl) (le_b rfl) d ?_
 refine sq9 ?_
 refine zzi 2 ⟨28, a1.cs ++ a2.cs⟩ ?_
 refine zzi 4 ⟨28, [.bool false, .slice none 0 0, .slice none 0 0, .bool false, .slice none 0 0, .slice none 0 0]⟩ ?_
 refine zza 5 (.v (.int .i64 0)) ?_
 refine zzb 33 [(1, .v (.int .i64 (k : Int))), (2, .adr 2 0), (4, .adr 4 0)] [(2, ⟨28, a1.cs ++ a2.cs⟩), (4, ⟨28, [.bool false, .slice none 0 0, .slice none 0 0, .bool false, .slice none 0 0, .slice none 0 0]⟩)] ?_
 refine sq9 ?_
 refine zzg 10 (.v (.agg #[.bool a1.s, a1.m.v, a1.d.v, .bool a2.s, a2.m.v, a2.d.v])) ty28 zzd ?_
 refine zzf 11 69 [.agg #[.bool a1.s, a1.m.v, a1.d.v, .bool a2.s, a2.m.v, a2.d.v]] ?_
 intro w11 u11 e11 d11
 have k18 := k_r4Trim d11 (ha1.ext e11) (ha2.ext e11) (by omega)
 with_reducible refine Post.mono k18 ?_
 rintro _ u16 g17 ⟨r12, r14, rfl, h13, h15⟩
 refine zzh ⟨28, r12.cs ++ r14.cs⟩ ty28 ?_
 refine zzb 33 [(1, .v (.int .i64 (k : Int))), (2, .adr 2 0), (4, .adr 4 0)] [(2, ⟨28, r12.cs ++ r14.cs⟩), (4, ⟨28, [.bool false, .slice none 0 0, .slice none 0 0, .bool false, .slice none 0 0, .slice none 0 0]⟩)] ?_
 refine sq9 ?_
 refine zza 13 (.adr 2 0) ?_
 refine zzg 14 (.v (r12.v)) ty26 zzd ?_
 refine zza 15 (.v (.int .i64 (k : Int))) ?_
 refine zzf 16 135 [r12.v, .int .i64 (k : Int)] ?_
 intro w19 u19 e19 d19
 have k24 := k_rdownG (k := k) (by omega) d19 (h13.ext e19).raw (by omega)
 with_reducible refine Post.mono k24 ?_
 rintro _ u22 g23 ⟨r20, rfl, h21⟩
 refine zza 12 (.v (.tuple #[r20.v, .int .i64 0])) ?_
 refine zza 17 (.v (r20.v)) ?_
 refine zza 18 (.v (.int .i64 0)) ?_
 refine zzi 6 ⟨26, [.bool false, .slice none 0 0, .slice none 0 0]⟩ ?_
 refine zzh ⟨26, r20.cs⟩ ty26 ?_
 refine zza 7 (.v (.int .i64 0)) ?_
 refine zzb 33 [(1, .v (.int .i64 (k : Int))), (2, .adr 2 0), (4, .adr 4 0), (6, .adr 6 0), (7, .v (.int .i64 0))] [(2, ⟨28, r12.cs ++ r14.cs⟩), (4, ⟨28, [.bool false, .slice none 0 0, .slice none 0 0, .bool false, .slice none 0 0, .slice none 0 0]⟩), (6, ⟨26, r20.cs⟩)] ?_
 refine zzc ?_
 refine sq9 ?_
 refine zza 19 (.v (.int .i64 0)) ?_
 refine zza 20 (.v (.bool false)) ?_
 refine zzb 33 [(1, .v (.int .i64 (k : Int))), (2, .adr 2 0), (4, .adr 4 0), (6, .adr 6 0), (7, .v (.int .i64 0)), (20, .v (.bool false))] [(2, ⟨28, r12.cs ++ r14.cs⟩), (4, ⟨28, [.bool false, .slice none 0 0, .slice none 0 0, .bool false, .slice none 0 0, .slice none 0 0]⟩), (6, ⟨26, r20.cs⟩)] ?_
 refine zyn (by kernel_rfl) ?_
 refine zzq (zzn ?_)
 refine sq9 ?_
 refine zza 24 (.adr 2 3) ?_
 refine zzg 25 (.v (r14.v)) ty26 zzd ?_
 refine zza 26 (.v (.int .i64 (k : Int))) ?_
 refine zzf 27 136 [r14.v, .int .i64 (k : Int)] ?_
 intro w25 u25 e25 d25
 have k30 := k_rupG (k := k) (by omega) d25 (h15.ext (e19.trans (g23.ext.trans e25))).raw (by omega)
 with_reducible refine Post.mono k30 ?_
 rintro _ u28 g29 ⟨r26, rfl, h27⟩
 refine zza 23 (.v (.tuple #[r26.v, .int .i64 0])) ?_
 refine zza 28 (.v (r26.v)) ?_
 refine zza 29 (.v (.int .i64 0)) ?_
 refine zzi 8 ⟨26, [.bool false, .slice none 0 0, .slice none 0 0]⟩ ?_
 refine zzh ⟨26, r26.cs⟩ ty26 ?_
 refine zza 9 (.v (.int .i64 0)) ?_
 refine zzb 33 [(4, .adr 4 0), (6, .adr 6 0), (8, .adr 8 0)] [(4, ⟨28, [.bool false, .slice none 0 0, .slice none 0 0, .bool false, .slice none 0 0, .slice none 0 0]⟩), (6, ⟨26, r20.cs⟩), (8, ⟨26, r26.cs⟩)] ?_
 refine sq9 ?_
 refine zzg 30 (.v (r20.v)) ty26 zzd ?_
 refine zzg 31 (.v (r26.v)) ty26 zzd ?_
 refine zza 32 (.v (.agg #[.bool r20.s, r20.m.v, r20.d.v, .bool r26.s, r26.m.v, r26.d.v])) ?_
 refine zzh ⟨28, r20.cs ++ r26.cs⟩ ty28 ?_
 refine zza 5 (.v (.int .i64 0)) ?_
 refine zzb 33 [(4, .adr 4 0), (5, .v (.int .i64 0))] [(4, ⟨28, r20.cs ++ r26.cs⟩)] ?_
 refine zzm (ret0 [.agg #[.bool r20.s, .slice r20.m.a r20.m.n r20.m.c, .slice r20.d.a r20.d.n r20.d.c, .bool r26.s, .slice r26.m.a r26.m.n r26.m.c, .slice r26.d.a r26.d.n r26.d.c], .int .i64 0] ⟨zzp ty28 zzd, zzo, trivial⟩ fun u31 e32 => ?_)
 have h9 : ¬ ((k : Int) < 0 ∨ 256 < (k : Int)) := by omega
 refine ⟨r20, r26, by unfold Nt.rndE; rw [if_neg h9]; rfl, ?_⟩
 unfold Nt.rndO
 rw [if_neg h9, Int.toNat_natCast]
 exact ⟨RatN.more (K := (K + 60)) (h21.ext (e25.trans (g29.ext.trans e32))) (by omega), RatN.more (K := (K + 60)) (h27.ext e32) (by omega)⟩
set_option maxHeartbeats 1000000 in
theorem k_r4RoundB {u w : World} {a1 a2 : RL} {x1 x2 : Rat} {K : Nat} {n : Int} (hn : n < 0 ∨ 256 < n) (d : Dat u w) (ha1 : RatV u a1 x1 K) (ha2 : RatV u a2 x2 K) (hK : K ≤ 100000) : Calls Tryz.prog 67 #[IV a1 a2, .int .i64 n] w (Post u w fun v u' => ∃ p q : RL, v = .tuple #[IV p q, .int .i64 (Nt.rndE n)] ∧ OptI u' p q (Nt.rndO x1 x2 n) (K + 70)) := by
 refine zzk (args := [.agg #[.bool a1.s, .slice a1.m.a a1.m.n a1.m.c, .slice a1.d.a a1.d.n a1.d.c, .bool a2.s, .slice a2.m.a a2.m.n a2.m.c, .slice a2.d.a a2.d.n a2.d.c], .int .i64 n]) Tryz.func67 rfl Tryz.ntmps67 (rs := [.cell 4 28, .tmp 5]) Tryz.results67 (le_b rfl) (le_b rfl) d ?_
 refine sq9 ?_
 refine zzi 2 ⟨28, a1.cs ++ a2.cs⟩ ?_
 refine zzi 4 ⟨28, [.bool false, .slice none 0 0, .slice none 0 0, .bool false, .slice none 0 0, .slice none 0 0]⟩ ?_
 refine zza 5 (.v (.int .i64 0)) ?_
 refine zzb 33 [(1, .v (.int .i64 n)), (2, .adr 2 0), (4, .adr 4 0)] [(2, ⟨28, a1.cs ++ a2.cs⟩), (4, ⟨28, [.bool false, .slice none 0 0, .slice none 0 0, .bool false, .slice none 0 0, .slice none 0 0]⟩)] ?_
 refine sq9 ?_
 refine zzg 10 (.v (.agg #[.bool a1.s, a1.m.v, a1.d.v, .bool a2.s, a2.m.v, a2.d.v])) ty28 zzd ?_
 refine zzf 11 69 [.agg #[.bool a1.s, a1.m.v, a1.d.v, .bool a2.s, a2.m.v, a2.d.v]] ?_
 intro w11 u11 e11 d11
 have k18 := k_r4Trim d11 (ha1.ext e11) (ha2.ext e11) (by omega)
 with_reducible refine Post.mono k18 ?_
 rintro _ u16 g17 ⟨r12, r14, rfl, h13, h15⟩
 refine zzh ⟨28, r12.cs ++ r14.cs⟩ ty28 ?_
 refine zzb 33 [(1, .v (.int .i64 n)), (2, .adr 2 0), (4, .adr 4 0)] [(2, ⟨28, r12.cs ++ r14.cs⟩), (4, ⟨28, [.bool false, .slice none 0 0, .slice none 0 0, .bool false, .slice none 0 0, .slice none 0 0]⟩)] ?_
 refine sq9 ?_
 refine zza 13 (.adr 2 0) ?_
 refine zzg 14 (.v (r12.v)) ty26 zzd ?_
 refine zza 15 (.v (.int .i64 n)) ?_
 refine zzf 16 135 [r12.v, .int .i64 n] ?_
 intro w19 u19 e19 d19
 have k22 := k_rdownB hn d19 (h13.ext e19).raw (by omega)
 with_reducible refine Post.mono k22 ?_
 rintro _ u20 g21 rfl
 refine zza 12 (.v (.tuple #[.agg #[.bool false, .slice none 0 0, .slice none 0 0], .int .i64 1])) ?_
 refine zza 17 (.v (.agg #[.bool false, .slice none 0 0, .slice none 0 0])) ?_
 refine zza 18 (.v (.int .i64 1)) ?_
 refine zzi 6 ⟨26, [.bool false, .slice none 0 0, .slice none 0 0]⟩ ?_
 refine zzh ⟨26, [.bool false, .slice none 0 0, .slice none 0 0]⟩ ty26 ?_
 refine zza 7 (.v (.int .i64 1)) ?_
 refine zzb 33 [(1, .v (.int .i64 n)), (2, .adr 2 0), (4, .adr 4 0), (6, .adr 6 0), (7, .v (.int .i64 1))] [(2, ⟨28, r12.cs ++ r14.cs⟩), (4, ⟨28, [.bool false, .slice none 0 0, .slice none 0 0, .bool false, .slice none 0 0, .slice none 0 0]⟩), (6, ⟨26, [.bool false, .slice none 0 0, .slice none 0 0]⟩)] ?_
 refine zzc ?_
 refine sq9 ?_
 refine zza 19 (.v (.int .i64 1)) ?_
 refine zza 20 (.v (.bool true)) ?_
 refine zzb 33 [(1, .v (.int .i64 n)), (2, .adr 2 0), (4, .adr 4 0), (6, .adr 6 0), (7, .v (.int .i64 1)), (20, .v (.bool true))] [(2, ⟨28, r12.cs ++ r14.cs⟩), (4, ⟨28, [.bool false, .slice none 0 0, .slice none 0 0, .bool false, .slice none 0 0, .slice none 0 0]⟩), (6, ⟨26, [.bool false, .slice none 0 0, .slice none 0 0]⟩)] ?_
 refine zym (by kernel_rfl) ?_
 refine sq9 ?_
 refine zza 21 (.v (.agg #[.bool false, .slice none 0 0, .slice none 0 0, .bool false, .slice none 0 0, .slice none 0 0])) ?_
 refine zza 22 (.v (.int .i64 1)) ?_
 refine zzh ⟨28, [.bool false, .slice none 0 0, .slice none 0 0, .bool false, .slice none 0 0, .slice none 0 0]⟩ ty28 ?_
 refine zza 5 (.v (.int .i64 1)) ?_
 refine zzb 33 [(4, .adr 4 0), (5, .v (.int .i64 1))] [(4, ⟨28, [.bool false, .slice none 0 0, .slice none 0 0, .bool false, .slice none 0 0, .slice none 0 0]⟩)] ?_
 refine zzm (zzu (ret0 [.agg #[.bool false, .slice none 0 0, .slice none 0 0, .bool false, .slice none 0 0, .slice none 0 0], .int .i64 1] ⟨zzp ty28 zzd, zzo, trivial⟩ fun u23 e24 => ?_))
 refine ⟨rl0, rl0, by unfold Nt.rndE; rw [if_pos hn]; rfl, ?_⟩
 unfold Nt.rndO
 rw [if_pos hn]
 exact ⟨rfl, rfl⟩
theorem k_r4Round {u w : World} {a1 a2 : RL} {x1 x2 : Rat} {K : Nat} {n : Int} (d : Dat u w) (ha1 : RatV u a1 x1 K) (ha2 : RatV u a2 x2 K) (hK : K ≤ 100000) : Calls Tryz.prog 67 #[IV a1 a2, .int .i64 n] w (Post u w fun v u' => ∃ p q : RL, v = .tuple #[IV p q, .int .i64 (Nt.rndE n)] ∧ OptI u' p q (Nt.rndO x1 x2 n) (K + 70)) := by
 by_cases hn : n < 0 ∨ 256 < n
 ·exact k_r4RoundB hn d ha1 ha2 hK
 ·obtain ⟨k, rfl⟩ : ∃ k : Nat, n = (k : Int) := ⟨n.toNat, by omega⟩
  exact k_r4RoundG (by omega) d ha1 ha2 hK
theorem k_rqSameNil {u w : World} (d : Dat u w) : Calls Tryz.prog 71 #[rl0.v, rl0.v] w (Post u w fun v _ => v = .bool true) := by
 refine zzk (args := [.agg #[.bool false, .slice none 0 0, .slice none 0 0], .agg #[.bool false, .slice none 0 0, .slice none 0 0]]) Tryz.func71 rfl Tryz.ntmps71 (rs := [.tmp 4]) Tryz.results71 (le_b rfl) (le_b rfl) d ?_
 refine sq9 ?_
 refine zzi 2 ⟨26, [.bool false, .slice none 0 0, .slice none 0 0]⟩ ?_
 refine zzi 3 ⟨26, [.bool false, .slice none 0 0, .slice none 0 0]⟩ ?_
 refine zza 4 (.v (.bool false)) ?_
 refine zzb 17 [(2, .adr 2 0), (3, .adr 3 0)] [(2, ⟨26, [.bool false, .slice none 0 0, .slice none 0 0]⟩), (3, ⟨26, [.bool false, .slice none 0 0, .slice none 0 0]⟩)] ?_
 refine sq9 ?_
 refine zza 5 (.adr 2 0) ?_
 refine zzg 6 (.v (.agg #[.bool false, .slice none 0 0])) ty24 zzd ?_
 refine zza 7 (.adr 3 0) ?_
 refine zzg 8 (.v (.agg #[.bool false, .slice none 0 0])) ty24 zzd ?_
 refine zzf 9 137 [.agg #[.bool false, .slice none 0 0], .agg #[.bool false, .slice none 0 0]] ?_
 intro w11 u11 e11 d11
 have k14 := k_riSame d11 (int_zero _ 1) (int_zero _ 1)
 with_reducible refine Post.mono k14 ?_
 rintro _ u12 g13 rfl
 refine zyl 10 (x := .v (.bool (decide ((0 : Int) = (0 : Int))))) (.v (.bool true)) (by rw [show (decide ((0 : Int) = (0 : Int))) = true from (by decide)]) ?_
 refine zza 11 (.adr 2 2) ?_ (hw := w1 5 true 10)
 refine zzg 12 (.v (.slice none 0 0)) ty22 zzj ?_ (hw := w1 5 true 10)
 refine zza 13 (.adr 3 2) ?_ (hw := w1 5 true 10)
 refine zzg 14 (.v (.slice none 0 0)) ty22 zzj ?_ (hw := w1 5 true 10)
 refine zzf 15 138 [.slice none 0 0, .slice none 0 0] ?_ (hw := w1 5 true 10)
 intro w16 u16 e16 d16
 have k19 := k_rnSame d16 (nat_nilN _ 1) (nat_nilN _ 1)
 with_reducible refine Post.mono k19 ?_
 rintro _ u17 g18 rfl
 refine zza 16 (.v (.bool (decide (0 = 0)))) ?_
 refine zza 4 (.v (.bool (decide (0 = 0)))) ?_
 refine zzb 17 [(4, .v (.bool (decide (0 = 0))))] [] ?_
 refine zzm (ret0 [.bool (decide (0 = 0))] ⟨zzo, trivial⟩ fun u20 e21 => ?_)
 show Value.bool _ = _
 congr 1
theorem k_r4SameNil {u w : World} (d : Dat u w) : Calls Tryz.prog 59 #[IV rl0 rl0, IV rl0 rl0] w (Post u w fun v _ => v = .bool true) := by
 refine zzk (args := [.agg #[.bool false, .slice none 0 0, .slice none 0 0, .bool false, .slice none 0 0, .slice none 0 0], .agg #[.bool false, .slice none 0 0, .slice none 0 0, .bool false, .slice none 0 0, .slice none 0 0]]) Tryz.func59 rfl Tryz.ntmps59 (rs := [.tmp 4]) Tryz.results59 (le_b rfl) (le_b rfl) d ?_
 refine sq9 ?_
 refine zzi 2 ⟨28, [.bool false, .slice none 0 0, .slice none 0 0, .bool false, .slice none 0 0, .slice none 0 0]⟩ ?_
 refine zzi 3 ⟨28, [.bool false, .slice none 0 0, .slice none 0 0, .bool false, .slice none 0 0, .slice none 0 0]⟩ ?_
 refine zza 4 (.v (.bool false)) ?_
 refine zzb 17 [(2, .adr 2 0), (3, .adr 3 0)] [(2, ⟨28, [.bool false, .slice none 0 0, .slice none 0 0, .bool false, .slice none 0 0, .slice none 0 0]⟩), (3, ⟨28, [.bool false, .slice none 0 0, .slice none 0 0, .bool false, .slice none 0 0, .slice none 0 0]⟩)] ?_
 refine sq9 ?_
 refine zza 5 (.adr 2 0) ?_
 refine zzg 6 (.v (.agg #[.bool false, .slice none 0 0, .slice none 0 0])) ty26 zzd ?_
 refine zza 7 (.adr 3 0) ?_
 refine zzg 8 (.v (.agg #[.bool false, .slice none 0 0, .slice none 0 0])) ty26 zzd ?_
 refine zzf 9 71 [.agg #[.bool false, .slice none 0 0, .slice none 0 0], .agg #[.bool false, .slice none 0 0, .slice none 0 0]] ?_
 intro w11 u11 e11 d11
 have k14 := (show Calls _ _ #[.agg #[.bool false, .slice none 0 0, .slice none 0 0], .agg #[.bool false, .slice none 0 0, .slice none 0 0]] _ _ from k_rqSameNil d11)
 with_reducible refine Post.mono k14 ?_
 rintro _ u12 g13 rfl
 refine zza 10 (.v (.bool true)) ?_
 refine zza 11 (.adr 2 3) ?_ (hw := w1 5 true 10)
 refine zzg 12 (.v (.agg #[.bool false, .slice none 0 0, .slice none 0 0])) ty26 zzd ?_ (hw := w1 5 true 10)
 refine zza 13 (.adr 3 3) ?_ (hw := w1 5 true 10)
 refine zzg 14 (.v (.agg #[.bool false, .slice none 0 0, .slice none 0 0])) ty26 zzd ?_ (hw := w1 5 true 10)
 refine zzf 15 71 [.agg #[.bool false, .slice none 0 0, .slice none 0 0], .agg #[.bool false, .slice none 0 0, .slice none 0 0]] ?_ (hw := w1 5 true 10)
 intro w15 u15 e15 d15
 have k18 := (show Calls _ _ #[.agg #[.bool false, .slice none 0 0, .slice none 0 0], .agg #[.bool false, .slice none 0 0, .slice none 0 0]] _ _ from k_rqSameNil d15)
 with_reducible refine Post.mono k18 ?_
 rintro _ u16 g17 rfl
 refine zza 16 (.v (.bool true)) ?_
 refine zza 4 (.v (.bool true)) ?_
 refine zzb 17 [(4, .v (.bool true))] [] ?_
 refine zzm (ret0 [.bool true] ⟨zzo, trivial⟩ fun u19 e20 => ?_)
 rfl
theorem k_r4SameO {u w : World} {a1 a2 b1 b2 : RL} {o : Option (Rat × Rat)} {K L : Nat} (d : Dat u w) (h1 : OptI u a1 a2 o K) (h2 : OptI u b1 b2 o L) : Calls Tryz.prog 59 #[IV a1 a2, IV b1 b2] w (Post u w fun v _ => v = .bool true) := by
 cases o with
 | none =>
  obtain ⟨rfl, rfl⟩ := h1
  obtain ⟨rfl, rfl⟩ := h2
  exact k_r4SameNil d
 | some x =>
  refine Post.mono (k_r4Same d h1.1 h1.2 h2.1 h2.2) fun v u' _ h => ?_
  rw [h]; simp
theorem Nt.cmpQ_le0 (x y : Rat) : Nt.cmpQ x y ≤ 0 ↔ x ≤ y := by unfold Nt.cmpQ; grind
theorem k_ivValid {u w : World} {a1 a2 : RL} {x1 x2 : Rat} {K : Nat} (d : Dat u w) (ha1 : RatV u a1 x1 K) (ha2 : RatV u a2 x2 K) (hK : K ≤ 4000000) : Calls Tryz.prog 60 #[IV a1 a2] w (Post u w fun v u' => ∃ b : Bool, v = .bool b ∧ (b = true ↔ (RatN u a1 x1 K ∧ RatN u a2 x2 K ∧ x1 ≤ x2))) := by
 refine zzk (args := [.agg #[.bool a1.s, .slice a1.m.a a1.m.n a1.m.c, .slice a1.d.a a1.d.n a1.d.c, .bool a2.s, .slice a2.m.a a2.m.n a2.m.c, .slice a2.d.a a2.d.n a2.d.c]]) Tryz.func60 rfl Tryz.ntmps60 (rs := [.tmp 2]) Tryz.results60 (le_b rfl) (le_b rfl) d ?_
 refine sq9 ?_
 refine zzi 1 ⟨28, a1.cs ++ a2.cs⟩ ?_
 refine zza 2 (.v (.bool false)) ?_
 refine zzb 19 [(1, .adr 1 0)] [(1, ⟨28, a1.cs ++ a2.cs⟩)] ?_
 refine sq9 ?_
 refine zza 3 (.adr 1 0) ?_
 refine zzg 4 (.v (a1.v)) ty26 zzd ?_
 refine zzf 5 131 [a1.v] ?_
 intro w11 u11 e11 d11
 have k16 := k_ratValid (r := a1) d11 (ha1.ext e11) (by omega)
 with_reducible refine Post.mono k16 ?_
 rintro _ u14 g15 ⟨b12, rfl, hv13⟩
 rcases Bool.eq_false_or_eq_true b12 with hs17 | hs17
 ·refine zyl 6 (x := .v (.bool b12)) (.v (.bool true)) (by rw [hs17]) ?_
  refine zza 7 (.adr 1 3) ?_ (hw := w1 3 true 6)
  refine zzg 8 (.v (a2.v)) ty26 zzd ?_ (hw := w1 3 true 6)
  refine zzf 9 131 [a2.v] ?_ (hw := w1 3 true 6)
  intro w18 u18 e18 d18
  have k23 := k_ratValid (r := a2) d18 (ha2.ext (e11.trans (g15.ext.trans e18))) (by omega)
  with_reducible refine Post.mono k23 ?_
  rintro _ u21 g22 ⟨b19, rfl, hv20⟩
  refine zza 10 (.v (.bool b19)) ?_
  rcases Bool.eq_false_or_eq_true b19 with hs24 | hs24
  ·refine zyl 11 (x := .v (.bool b19)) (.v (.bool true)) (by rw [hs24]) ?_
   refine zza 12 (.adr 1 0) ?_ (hw := w1 8 true 11)
   refine zzg 13 (.v (a1.v)) ty26 zzd ?_ (hw := w1 8 true 11)
   refine zza 14 (.adr 1 3) ?_ (hw := w1 8 true 11)
   refine zzg 15 (.v (a2.v)) ty26 zzd ?_ (hw := w1 8 true 11)
   refine zzf 16 114 [a1.v, a2.v] ?_ (hw := w1 8 true 11)
   intro w25 u25 e25 d25
   have k28 := k_ratCompare d25 (ha1.ext (e11.trans (g15.ext.trans (e18.trans (g22.ext.trans e25))))) (ha2.ext (e11.trans (g15.ext.trans (e18.trans (g22.ext.trans e25))))) (by omega) (by omega)
   with_reducible refine Post.mono k28 ?_
   rintro _ u26 g27 rfl
   refine zza 17 (.v (.bool (decide ((Nt.cmpQ x1 x2) ≤ 0)))) ?_ (hw := w1 8 true 11)
   refine zza 18 (.v (.bool (decide ((Nt.cmpQ x1 x2) ≤ 0)))) ?_
   refine zza 2 (.v (.bool (decide ((Nt.cmpQ x1 x2) ≤ 0)))) ?_
   refine zzb 19 [(2, .v (.bool (decide ((Nt.cmpQ x1 x2) ≤ 0))))] [] ?_
   refine zzm (ret0 [.bool (decide ((Nt.cmpQ x1 x2) ≤ 0))] ⟨zzo, trivial⟩ fun u29 e30 => ?_)
   have hgb12 : b12 = true ↔ RatN u a1 x1 K := hv13.trans (RatN.same ha1 e11)
   have hgb19 : b19 = true ↔ RatN u a2 x2 K := hv20.trans (RatN.same ha2 (e11.trans (g15.ext.trans e18)))
   refine ⟨_, rfl, ?_⟩
   rw [← hgb12, ← hgb19]
   simp [hs17, hs24, Nt.cmpQ_le0]
  ·refine zyl 11 (x := .v (.bool b19)) (.v (.bool false)) (by rw [hs24]) ?_
   refine zzl 12 (uw 8 true false 11) ?_
   refine zzl 13 (uw 8 true false 11) ?_
   refine zzl 14 (uw 8 true false 11) ?_
   refine zzl 15 (uw 8 true false 11) ?_
   refine zzl 16 (uw 8 true false 11) ?_
   refine zzl 17 (uw 8 true false 11) ?_
   refine zza 18 (.v (.bool false)) ?_
   refine zza 2 (.v (.bool false)) ?_
   refine zzb 19 [(2, .v (.bool false))] [] ?_
   refine zzm (ret0 [.bool false] ⟨zzo, trivial⟩ fun u31 e32 => ?_)
   have hgb12 : b12 = true ↔ RatN u a1 x1 K := hv13.trans (RatN.same ha1 e11)
   have hgb19 : b19 = true ↔ RatN u a2 x2 K := hv20.trans (RatN.same ha2 (e11.trans (g15.ext.trans e18)))
   refine ⟨_, rfl, ?_⟩
   rw [← hgb12, ← hgb19]
   simp [hs17, hs24]
 ·refine zyl 6 (x := .v (.bool b12)) (.v (.bool false)) (by rw [hs17]) ?_
  refine zzl 7 (uw 3 true false 6) ?_
  refine zzl 8 (uw 3 true false 6) ?_
  refine zzl 9 (uw 3 true false 6) ?_
  refine zza 10 (.v (.bool false)) ?_
  refine zza 11 (.v (.bool false)) ?_
  refine zzl 12 (uw 8 true false 11) ?_
  refine zzl 13 (uw 8 true false 11) ?_
  refine zzl 14 (uw 8 true false 11) ?_
  refine zzl 15 (uw 8 true false 11) ?_
  refine zzl 16 (uw 8 true false 11) ?_
  refine zzl 17 (uw 8 true false 11) ?_
  refine zza 18 (.v (.bool false)) ?_
  refine zza 2 (.v (.bool false)) ?_
  refine zzb 19 [(2, .v (.bool false))] [] ?_
  refine zzm (ret0 [.bool false] ⟨zzo, trivial⟩ fun u33 e34 => ?_)
  have hgb12 : b12 = true ↔ RatN u a1 x1 K := hv13.trans (RatN.same ha1 e11)
  refine ⟨_, rfl, ?_⟩
  rw [← hgb12]
  simp [hs17]
theorem k_r4SameV {u w : World} {a1 a2 b1 b2 : RL} {x1 x2 y1 y2 : Rat} {K L : Nat} (d : Dat u w) (ha1 : RatV u a1 x1 K) (ha2 : RatV u a2 x2 K) (hb1 : RatN u b1 y1 L) (hb2 : RatN u b2 y2 L) : Calls Tryz.prog 59 #[IV a1 a2, IV b1 b2] w (Post u w fun v _ => ∃ b : Bool, v = .bool b ∧ (b = true ↔ ((RatN u a1 x1 K ∧ x1 = y1) ∧ (RatN u a2 x2 K ∧ x2 = y2)))) := by
 refine zzk (args := [.agg #[.bool a1.s, .slice a1.m.a a1.m.n a1.m.c, .slice a1.d.a a1.d.n a1.d.c, .bool a2.s, .slice a2.m.a a2.m.n a2.m.c, .slice a2.d.a a2.d.n a2.d.c], .agg #[.bool b1.s, .slice b1.m.a b1.m.n b1.m.c, .slice b1.d.a b1.d.n b1.d.c, .bool b2.s, .slice b2.m.a b2.m.n b2.m.c, .slice b2.d.a b2.d.n b2.d.c]]) Tryz.func59 rfl Tryz.ntmps59 (rs := [.tmp 4]) Tryz.results59 (le_b rfl) (le_b rfl) d ?_
 refine sq9 ?_
 refine zzi 2 ⟨28, a1.cs ++ a2.cs⟩ ?_
 refine zzi 3 ⟨28, b1.cs ++ b2.cs⟩ ?_
 refine zza 4 (.v (.bool false)) ?_
 refine zzb 17 [(2, .adr 2 0), (3, .adr 3 0)] [(2, ⟨28, a1.cs ++ a2.cs⟩), (3, ⟨28, b1.cs ++ b2.cs⟩)] ?_
 refine sq9 ?_
 refine zza 5 (.adr 2 0) ?_
 refine zzg 6 (.v (a1.v)) ty26 zzd ?_
 refine zza 7 (.adr 3 0) ?_
 refine zzg 8 (.v (b1.v)) ty26 zzd ?_
 refine zzf 9 71 [a1.v, b1.v] ?_
 intro w11 u11 e11 d11
 have k16 := k_rqSameV (r := a1) (s := b1) d11 (ha1.ext e11) (hb1.ext e11)
 with_reducible refine Post.mono k16 ?_
 rintro _ u14 g15 ⟨b12, rfl, hv13⟩
 rcases Bool.eq_false_or_eq_true b12 with hs17 | hs17
 ·refine zyl 10 (x := .v (.bool b12)) (.v (.bool true)) (by rw [hs17]) ?_
  refine zza 11 (.adr 2 3) ?_ (hw := w1 5 true 10)
  refine zzg 12 (.v (a2.v)) ty26 zzd ?_ (hw := w1 5 true 10)
  refine zza 13 (.adr 3 3) ?_ (hw := w1 5 true 10)
  refine zzg 14 (.v (b2.v)) ty26 zzd ?_ (hw := w1 5 true 10)
  refine zzf 15 71 [a2.v, b2.v] ?_ (hw := w1 5 true 10)
  intro w18 u18 e18 d18
  have k23 := k_rqSameV (r := a2) (s := b2) d18 (ha2.ext (e11.trans (g15.ext.trans e18))) (hb2.ext (e11.trans (g15.ext.trans e18)))
  with_reducible refine Post.mono k23 ?_
  rintro _ u21 g22 ⟨b19, rfl, hv20⟩
  refine zza 16 (.v (.bool b19)) ?_
  refine zza 4 (.v (.bool b19)) ?_
  refine zzb 17 [(4, .v (.bool b19))] [] ?_
  refine zzm (ret0 [.bool b19] ⟨zzo, trivial⟩ fun u24 e25 => ?_)
  have hgb12 : b12 = true ↔ (RatN u a1 x1 K ∧ x1 = y1) := hv13.trans (and_congr_left' (RatN.same ha1 e11))
  have hgb19 : b19 = true ↔ (RatN u a2 x2 K ∧ x2 = y2) := hv20.trans (and_congr_left' (RatN.same ha2 (e11.trans (g15.ext.trans e18))))
  refine ⟨_, rfl, ?_⟩
  rw [← hgb12, ← hgb19]
  simp [hs17]
 ·refine zyl 10 (x := .v (.bool b12)) (.v (.bool false)) (by rw [hs17]) ?_
  refine zzl 11 (uw 5 true false 10) ?_
  refine zzl 12 (uw 5 true false 10) ?_
  refine zzl 13 (uw 5 true false 10) ?_
  refine zzl 14 (uw 5 true false 10) ?_
  refine zzl 15 (uw 5 true false 10) ?_
  refine zza 16 (.v (.bool false)) ?_
  refine zza 4 (.v (.bool false)) ?_
  refine zzb 17 [(4, .v (.bool false))] [] ?_
  refine zzm (ret0 [.bool false] ⟨zzo, trivial⟩ fun u26 e27 => ?_)
  have hgb12 : b12 = true ↔ (RatN u a1 x1 K ∧ x1 = y1) := hv13.trans (and_congr_left' (RatN.same ha1 e11))
  refine ⟨_, rfl, ?_⟩
  rw [← hgb12]
  simp [hs17]
theorem k_r4Valid {u w : World} {a1 a2 : RL} {x1 x2 : Rat} {K : Nat} (d : Dat u w) (ha1 : RatV u a1 x1 K) (ha2 : RatV u a2 x2 K) (hK : K ≤ 4000000) : Calls Tryz.prog 61 #[IV a1 a2] w (Post u w fun v u' => ∃ b : Bool, v = .bool b ∧ (b = true ↔ (RatN u a1 x1 K ∧ RatN u a2 x2 K ∧ x1 ≤ x2))) := by
 refine zzk (args := [.agg #[.bool a1.s, .slice a1.m.a a1.m.n a1.m.c, .slice a1.d.a a1.d.n a1.d.c, .bool a2.s, .slice a2.m.a a2.m.n a2.m.c, .slice a2.d.a a2.d.n a2.d.c]]) Tryz.func61 rfl Tryz.ntmps61 (rs := [.tmp 2]) Tryz.results61 (le_b rfl) (le_b rfl) d ?_
 refine sq9 ?_
 refine zzi 1 ⟨28, a1.cs ++ a2.cs⟩ ?_
 refine zza 2 (.v (.bool false)) ?_
 refine zzb 7 [(1, .adr 1 0)] [(1, ⟨28, a1.cs ++ a2.cs⟩)] ?_
 refine zzc ?_
 refine zzx [0, 0, 2, 7, 15] [(0, []), (1, []), (2, []), (3, []), (4, [])] (by kernel_rfl) (by kernel_rfl) ?_
 refine zzg 3 (.v (.agg #[.bool a1.s, a1.m.v, a1.d.v, .bool a2.s, a2.m.v, a2.d.v])) ty28 zzd ?_
 refine zzg 4 (.v (.agg #[.bool a1.s, a1.m.v, a1.d.v, .bool a2.s, a2.m.v, a2.d.v])) ty28 zzd ?_
 refine zzf 5 69 [.agg #[.bool a1.s, a1.m.v, a1.d.v, .bool a2.s, a2.m.v, a2.d.v]] ?_
 intro w11 u11 e11 d11
 have k18 := k_r4Trim d11 (ha1.ext e11) (ha2.ext e11) (by omega)
 with_reducible refine Post.mono k18 ?_
 rintro _ u16 g17 ⟨r12, r14, rfl, h13, h15⟩
 refine zzf 6 59 [.agg #[.bool a1.s, a1.m.v, a1.d.v, .bool a2.s, a2.m.v, a2.d.v], .agg #[.bool r12.s, r12.m.v, r12.d.v, .bool r14.s, r14.m.v, r14.d.v]] ?_
 intro w19 u19 e19 d19
 have k24 := k_r4SameV d19 (ha1.ext (e11.trans (g17.ext.trans e19))) (ha2.ext (e11.trans (g17.ext.trans e19))) (h13.ext e19) (h15.ext e19)
 with_reducible refine Post.mono k24 ?_
 rintro _ u22 g23 ⟨b20, rfl, hv21⟩
 refine zza 2 (.v (.bool b20)) ?_
 refine zzb 7 [(2, .v (.bool b20))] [] ?_
 refine zzm (ret0 [.bool b20] ⟨zzo, trivial⟩ fun u25 e26 => ?_)
 refine ⟨_, rfl, hv21.trans ?_⟩
 rw [RatN.same ha1 (e11.trans (g17.ext.trans e19)), RatN.same ha2 (e11.trans (g17.ext.trans e19)), Nt.ord_iff x1 x2]
 constructor
 ·rintro ⟨⟨k1, k2⟩, k3, k4⟩; exact ⟨k1, k3, k2, k4⟩
 ·rintro ⟨k1, k2, k3, k4⟩; exact ⟨⟨k1, k3⟩, k2, k4⟩
theorem Nt.width_eq (a b : Rat) : Nt.absQ (b - a) = Nt.hi a b - Nt.lo a b := by unfold Nt.absQ Nt.hi Nt.lo; grind
set_option maxHeartbeats 16000000 in
theorem w_iacts {u w : World} {a1 a2 : RL} {x1 x2 : Rat} {K : Nat} {b1 b2 : RL} {y1 y2 : Rat} {L : Nat} {r : RL} {q : Rat} {M : Nat} {n : Int} (d : Dat u w) (ha1 : RatV u a1 x1 K) (ha2 : RatV u a2 x2 K) (hb1 : RatV u b1 y1 L) (hb2 : RatV u b2 y2 L) (hr : RatV u r q M) (hn0 : -9223372036854775808 ≤ n) (hn1 : n ≤ 9223372036854775807) : Calls Tryz.prog 9 #[IV a1 a2, IV b1 b2, r.v, .int .i64 n] w (Post u w fun v _ => v = .bool true) := by
 refine zzk (args := [.agg #[.bool a1.s, .slice a1.m.a a1.m.n a1.m.c, .slice a1.d.a a1.d.n a1.d.c, .bool a2.s, .slice a2.m.a a2.m.n a2.m.c, .slice a2.d.a a2.d.n a2.d.c], .agg #[.bool b1.s, .slice b1.m.a b1.m.n b1.m.c, .slice b1.d.a b1.d.n b1.d.c, .bool b2.s, .slice b2.m.a b2.m.n b2.m.c, .slice b2.d.a b2.d.n b2.d.c], r.v, .int .i64 n]) Tryz.func9 rfl Tryz.ntmps9 (rs := [.tmp 8]) Tryz.results9 (le_b rfl) (le_b rfl) d ?_
 refine sq9 ?_
 refine zzi 4 ⟨28, a1.cs ++ a2.cs⟩ ?_
 refine zzi 5 ⟨28, b1.cs ++ b2.cs⟩ ?_
 refine zzi 6 ⟨26, r.cs⟩ ?_
 refine zza 8 (.v (.bool false)) ?_
 refine zzb 222 [(3, .v (.int .i64 n)), (4, .adr 4 0), (5, .adr 5 0), (6, .adr 6 0)] [(4, ⟨28, a1.cs ++ a2.cs⟩), (5, ⟨28, b1.cs ++ b2.cs⟩), (6, ⟨26, r.cs⟩)] ?_
 refine zzc ?_
 refine sq9 ?_
 refine zzg 23 (.v (.agg #[.bool a1.s, a1.m.v, a1.d.v, .bool a2.s, a2.m.v, a2.d.v])) ty28 zzd ?_
 refine zzf 24 11 [.agg #[.bool a1.s, a1.m.v, a1.d.v, .bool a2.s, a2.m.v, a2.d.v]] ?_
 intro w11 u11 e11 d11
 have k14 := k_smallOn (a := a1) (b := a2) d11
 with_reducible refine Post.mono k14 ?_
 rintro _ u12 g13 rfl
 refine zza 25 (.v (.bool (!(smR a1 && smR a2)))) ?_
 rcases Bool.eq_false_or_eq_true (!(smR a1 && smR a2)) with hs15 | hs15
 ·refine zyl 26 (x := .v (.bool (!(smR a1 && smR a2)))) (.v (.bool true)) (by rw [hs15]) ?_
  refine zzl 27 (uw 3 false true 26) ?_
  refine zzl 28 (uw 3 false true 26) ?_
  refine zzl 29 (uw 3 false true 26) ?_
  refine zza 30 (.v (.bool true)) ?_
  refine zza 31 (.v (.bool true)) ?_
  refine zzl 32 (uw 8 false true 31) ?_
  refine zzl 33 (uw 8 false true 31) ?_
  refine zzl 34 (uw 8 false true 31) ?_
  refine zza 35 (.v (.bool true)) ?_
  refine zzb 222 [(3, .v (.int .i64 n)), (4, .adr 4 0), (5, .adr 5 0), (6, .adr 6 0), (35, .v (.bool true))] [(4, ⟨28, a1.cs ++ a2.cs⟩), (5, ⟨28, b1.cs ++ b2.cs⟩), (6, ⟨26, r.cs⟩)] ?_
  refine zym (by kernel_rfl) ?_
  refine sq9 ?_
  refine zzf 36 12 [] ?_
  intro w16 u16 e16 d16
  have k19 := k_awake4 d16
  with_reducible refine Post.mono k19 ?_
  rintro _ u17 g18 rfl
  refine zza 8 (.v (.bool true)) ?_
  refine zzb 222 [(8, .v (.bool true))] [] ?_
  refine zzm (zzu (ret0 [.bool true] ⟨zzo, trivial⟩ fun u20 e21 => ?_))
  exact rfl
 ·refine zyl 26 (x := .v (.bool (!(smR a1 && smR a2)))) (.v (.bool false)) (by rw [hs15]) ?_
  have qhs15 : smR a1 = true ∧ smR a2 = true := by simpa using hs15
  have ha1f := smR_few ha1 qhs15.1
  have ha2f := smR_few ha2 qhs15.2
  refine zzg 27 (.v (.agg #[.bool b1.s, b1.m.v, b1.d.v, .bool b2.s, b2.m.v, b2.d.v])) ty28 zzd ?_ (hw := w1 3 false 26)
  refine zzf 28 11 [.agg #[.bool b1.s, b1.m.v, b1.d.v, .bool b2.s, b2.m.v, b2.d.v]] ?_ (hw := w1 3 false 26)
  intro w22 u22 e22 d22
  have k25 := k_smallOn (a := b1) (b := b2) d22
  with_reducible refine Post.mono k25 ?_
  rintro _ u23 g24 rfl
  refine zza 29 (.v (.bool (!(smR b1 && smR b2)))) ?_ (hw := w1 3 false 26)
  refine zza 30 (.v (.bool (!(smR b1 && smR b2)))) ?_
  rcases Bool.eq_false_or_eq_true (!(smR b1 && smR b2)) with hs26 | hs26
  ·refine zyl 31 (x := .v (.bool (!(smR b1 && smR b2)))) (.v (.bool true)) (by rw [hs26]) ?_
   refine zzl 32 (uw 8 false true 31) ?_
   refine zzl 33 (uw 8 false true 31) ?_
   refine zzl 34 (uw 8 false true 31) ?_
   refine zza 35 (.v (.bool true)) ?_
   refine zzb 222 [(3, .v (.int .i64 n)), (4, .adr 4 0), (5, .adr 5 0), (6, .adr 6 0), (35, .v (.bool true))] [(4, ⟨28, a1.cs ++ a2.cs⟩), (5, ⟨28, b1.cs ++ b2.cs⟩), (6, ⟨26, r.cs⟩)] ?_
   refine zym (by kernel_rfl) ?_
   refine sq9 ?_
   refine zzf 36 12 [] ?_
   intro w27 u27 e27 d27
   have k30 := k_awake4 d27
   with_reducible refine Post.mono k30 ?_
   rintro _ u28 g29 rfl
   refine zza 8 (.v (.bool true)) ?_
   refine zzb 222 [(8, .v (.bool true))] [] ?_
   refine zzm (zzu (ret0 [.bool true] ⟨zzo, trivial⟩ fun u31 e32 => ?_))
   exact rfl
  ·refine zyl 31 (x := .v (.bool (!(smR b1 && smR b2)))) (.v (.bool false)) (by rw [hs26]) ?_
   have qhs26 : smR b1 = true ∧ smR b2 = true := by simpa using hs26
   have hb1f := smR_few hb1 qhs26.1
   have hb2f := smR_few hb2 qhs26.2
   refine zzg 32 (.v (r.v)) ty26 zzd ?_ (hw := w1 8 false 31)
   refine zzf 33 55 [r.v] ?_ (hw := w1 8 false 31)
   intro w33 u33 e33 d33
   have k36 := k_smallRat (r := r) d33
   with_reducible refine Post.mono k36 ?_
   rintro _ u34 g35 rfl
   refine zza 34 (.v (.bool (!(smR r)))) ?_ (hw := w1 8 false 31)
   refine zza 35 (.v (.bool (!(smR r)))) ?_
   refine zzb 222 [(3, .v (.int .i64 n)), (4, .adr 4 0), (5, .adr 5 0), (6, .adr 6 0), (35, .v (.bool (!(smR r))))] [(4, ⟨28, a1.cs ++ a2.cs⟩), (5, ⟨28, b1.cs ++ b2.cs⟩), (6, ⟨26, r.cs⟩)] ?_
   refine zzs (b := !(smR r)) (by kernel_rfl) (fun hb37 => ?_) (fun hb37 => ?_)
   ·replace hb37 : (!(smR r)) = true := hb37
    refine sq9 ?_
    refine zzf 36 12 [] ?_
    intro w38 u38 e38 d38
    have k41 := k_awake4 d38
    with_reducible refine Post.mono k41 ?_
    rintro _ u39 g40 rfl
    refine zza 8 (.v (.bool true)) ?_
    refine zzb 222 [(8, .v (.bool true))] [] ?_
    refine zzm (zzu (ret0 [.bool true] ⟨zzo, trivial⟩ fun u42 e43 => ?_))
    exact rfl
   ·replace hb37 : (!(smR r)) = false := hb37
    have qhb37 : smR r = true := by simpa using hb37
    have hrf := smR_few hr qhb37
    refine zzq (zzn ?_)
    refine sq9 ?_
    refine zzg 38 (.v (.agg #[.bool a1.s, a1.m.v, a1.d.v, .bool a2.s, a2.m.v, a2.d.v])) ty28 zzd ?_
    refine zzg 39 (.v (.agg #[.bool b1.s, b1.m.v, b1.d.v, .bool b2.s, b2.m.v, b2.d.v])) ty28 zzd ?_
    refine zzf 40 14 [.agg #[.bool a1.s, a1.m.v, a1.d.v, .bool a2.s, a2.m.v, a2.d.v], .agg #[.bool b1.s, b1.m.v, b1.d.v, .bool b2.s, b2.m.v, b2.d.v]] ?_
    intro w44 u44 e44 d44
    have k50 := k_ivDivO d44 (ha1f.ext (e11.trans (g13.ext.trans (e22.trans (g24.ext.trans (e33.trans (g35.ext.trans e44))))))) (ha2f.ext (e11.trans (g13.ext.trans (e22.trans (g24.ext.trans (e33.trans (g35.ext.trans e44))))))) (hb1f.ext (e11.trans (g13.ext.trans (e22.trans (g24.ext.trans (e33.trans (g35.ext.trans e44))))))) (hb2f.ext (e11.trans (g13.ext.trans (e22.trans (g24.ext.trans (e33.trans (g35.ext.trans e44))))))) (by omega) (by omega)
    with_reducible refine Post.mono k50 ?_
    rintro _ u48 g49 ⟨r45, r46, rfl, h47⟩
    refine zza 37 (.v (.tuple #[.agg #[.bool r45.s, r45.m.v, r45.d.v, .bool r46.s, r46.m.v, r46.d.v], .int .i64 (Nt.divE y1 y2)])) ?_
    refine zza 41 (.v (.agg #[.bool r45.s, r45.m.v, r45.d.v, .bool r46.s, r46.m.v, r46.d.v])) ?_
    refine zza 42 (.v (.int .i64 (Nt.divE y1 y2))) ?_
    refine zzi 9 ⟨28, [.bool false, .slice none 0 0, .slice none 0 0, .bool false, .slice none 0 0, .slice none 0 0]⟩ ?_
    refine zzh ⟨28, r45.cs ++ r46.cs⟩ ty28 ?_
    refine zza 10 (.v (.int .i64 (Nt.divE y1 y2))) ?_
    refine zzb 222 [(3, .v (.int .i64 n)), (4, .adr 4 0), (5, .adr 5 0), (6, .adr 6 0), (9, .adr 9 0), (10, .v (.int .i64 (Nt.divE y1 y2)))] [(4, ⟨28, a1.cs ++ a2.cs⟩), (5, ⟨28, b1.cs ++ b2.cs⟩), (6, ⟨26, r.cs⟩), (9, ⟨28, r45.cs ++ r46.cs⟩)] ?_
    refine sq9 ?_
    refine zzg 44 (.v (.agg #[.bool a1.s, a1.m.v, a1.d.v, .bool a2.s, a2.m.v, a2.d.v])) ty28 zzd ?_
    refine zzg 45 (.v (.agg #[.bool b1.s, b1.m.v, b1.d.v, .bool b2.s, b2.m.v, b2.d.v])) ty28 zzd ?_
    refine zzf 46 56 [.agg #[.bool a1.s, a1.m.v, a1.d.v, .bool a2.s, a2.m.v, a2.d.v], .agg #[.bool b1.s, b1.m.v, b1.d.v, .bool b2.s, b2.m.v, b2.d.v]] ?_
    intro w51 u51 e51 d51
    have k57 := k_r4Div d51 (ha1f.ext (e11.trans (g13.ext.trans (e22.trans (g24.ext.trans (e33.trans (g35.ext.trans (e44.trans (g49.ext.trans e51))))))))) (ha2f.ext (e11.trans (g13.ext.trans (e22.trans (g24.ext.trans (e33.trans (g35.ext.trans (e44.trans (g49.ext.trans e51))))))))) (hb1f.ext (e11.trans (g13.ext.trans (e22.trans (g24.ext.trans (e33.trans (g35.ext.trans (e44.trans (g49.ext.trans e51))))))))) (hb2f.ext (e11.trans (g13.ext.trans (e22.trans (g24.ext.trans (e33.trans (g35.ext.trans (e44.trans (g49.ext.trans e51))))))))) (by omega) (by omega)
    with_reducible refine Post.mono k57 ?_
    rintro _ u55 g56 ⟨r52, r53, rfl, h54⟩
    refine zza 43 (.v (.tuple #[.agg #[.bool r52.s, r52.m.v, r52.d.v, .bool r53.s, r53.m.v, r53.d.v], .int .i64 (Nt.divE y1 y2)])) ?_
    refine zza 47 (.v (.agg #[.bool r52.s, r52.m.v, r52.d.v, .bool r53.s, r53.m.v, r53.d.v])) ?_
    refine zza 48 (.v (.int .i64 (Nt.divE y1 y2))) ?_
    refine zzi 11 ⟨28, [.bool false, .slice none 0 0, .slice none 0 0, .bool false, .slice none 0 0, .slice none 0 0]⟩ ?_
    refine zzh ⟨28, r52.cs ++ r53.cs⟩ ty28 ?_
    refine zza 12 (.v (.int .i64 (Nt.divE y1 y2))) ?_
    refine zzb 222 [(3, .v (.int .i64 n)), (4, .adr 4 0), (5, .adr 5 0), (6, .adr 6 0), (9, .adr 9 0), (10, .v (.int .i64 (Nt.divE y1 y2))), (11, .adr 11 0), (12, .v (.int .i64 (Nt.divE y1 y2)))] [(4, ⟨28, a1.cs ++ a2.cs⟩), (5, ⟨28, b1.cs ++ b2.cs⟩), (6, ⟨26, r.cs⟩), (9, ⟨28, r45.cs ++ r46.cs⟩), (11, ⟨28, r52.cs ++ r53.cs⟩)] ?_
    refine sq9 ?_
    refine zzg 50 (.v (.agg #[.bool a1.s, a1.m.v, a1.d.v, .bool a2.s, a2.m.v, a2.d.v])) ty28 zzd ?_
    refine zzg 51 (.v (.agg #[.bool b1.s, b1.m.v, b1.d.v, .bool b2.s, b2.m.v, b2.d.v])) ty28 zzd ?_
    refine zzf 52 57 [.agg #[.bool a1.s, a1.m.v, a1.d.v, .bool a2.s, a2.m.v, a2.d.v], .agg #[.bool b1.s, b1.m.v, b1.d.v, .bool b2.s, b2.m.v, b2.d.v]] ?_
    intro w58 u58 e58 d58
    have k64 := k_ivMeetO d58 (ha1f.ext (e11.trans (g13.ext.trans (e22.trans (g24.ext.trans (e33.trans (g35.ext.trans (e44.trans (g49.ext.trans (e51.trans (g56.ext.trans e58))))))))))) (ha2f.ext (e11.trans (g13.ext.trans (e22.trans (g24.ext.trans (e33.trans (g35.ext.trans (e44.trans (g49.ext.trans (e51.trans (g56.ext.trans e58))))))))))) (hb1f.ext (e11.trans (g13.ext.trans (e22.trans (g24.ext.trans (e33.trans (g35.ext.trans (e44.trans (g49.ext.trans (e51.trans (g56.ext.trans e58))))))))))) (hb2f.ext (e11.trans (g13.ext.trans (e22.trans (g24.ext.trans (e33.trans (g35.ext.trans (e44.trans (g49.ext.trans (e51.trans (g56.ext.trans e58))))))))))) (by omega) (by omega)
    with_reducible refine Post.mono k64 ?_
    rintro _ u62 g63 ⟨r59, r60, rfl, h61⟩
    refine zza 49 (.v (.tuple #[.agg #[.bool r59.s, r59.m.v, r59.d.v, .bool r60.s, r60.m.v, r60.d.v], .bool (decide ((Nt.hi (Nt.lo x1 x2) (Nt.lo y1 y2)) ≤ (Nt.lo (Nt.hi x1 x2) (Nt.hi y1 y2))))])) ?_
    refine zza 53 (.v (.agg #[.bool r59.s, r59.m.v, r59.d.v, .bool r60.s, r60.m.v, r60.d.v])) ?_
    refine zza 54 (.v (.bool (decide ((Nt.hi (Nt.lo x1 x2) (Nt.lo y1 y2)) ≤ (Nt.lo (Nt.hi x1 x2) (Nt.hi y1 y2)))))) ?_
    refine zzi 13 ⟨28, [.bool false, .slice none 0 0, .slice none 0 0, .bool false, .slice none 0 0, .slice none 0 0]⟩ ?_
    refine zzh ⟨28, r59.cs ++ r60.cs⟩ ty28 ?_
    refine zza 14 (.v (.bool (decide ((Nt.hi (Nt.lo x1 x2) (Nt.lo y1 y2)) ≤ (Nt.lo (Nt.hi x1 x2) (Nt.hi y1 y2)))))) ?_
    refine zzb 222 [(3, .v (.int .i64 n)), (4, .adr 4 0), (5, .adr 5 0), (6, .adr 6 0), (9, .adr 9 0), (10, .v (.int .i64 (Nt.divE y1 y2))), (11, .adr 11 0), (12, .v (.int .i64 (Nt.divE y1 y2))), (13, .adr 13 0), (14, .v (.bool (decide ((Nt.hi (Nt.lo x1 x2) (Nt.lo y1 y2)) ≤ (Nt.lo (Nt.hi x1 x2) (Nt.hi y1 y2))))))] [(4, ⟨28, a1.cs ++ a2.cs⟩), (5, ⟨28, b1.cs ++ b2.cs⟩), (6, ⟨26, r.cs⟩), (9, ⟨28, r45.cs ++ r46.cs⟩), (11, ⟨28, r52.cs ++ r53.cs⟩), (13, ⟨28, r59.cs ++ r60.cs⟩)] ?_
    refine sq9 ?_
    refine zzg 56 (.v (.agg #[.bool a1.s, a1.m.v, a1.d.v, .bool a2.s, a2.m.v, a2.d.v])) ty28 zzd ?_
    refine zzg 57 (.v (.agg #[.bool b1.s, b1.m.v, b1.d.v, .bool b2.s, b2.m.v, b2.d.v])) ty28 zzd ?_
    refine zzf 58 58 [.agg #[.bool a1.s, a1.m.v, a1.d.v, .bool a2.s, a2.m.v, a2.d.v], .agg #[.bool b1.s, b1.m.v, b1.d.v, .bool b2.s, b2.m.v, b2.d.v]] ?_
    intro w65 u65 e65 d65
    have k71 := k_r4Meet d65 (ha1f.ext (e11.trans (g13.ext.trans (e22.trans (g24.ext.trans (e33.trans (g35.ext.trans (e44.trans (g49.ext.trans (e51.trans (g56.ext.trans (e58.trans (g63.ext.trans e65))))))))))))) (ha2f.ext (e11.trans (g13.ext.trans (e22.trans (g24.ext.trans (e33.trans (g35.ext.trans (e44.trans (g49.ext.trans (e51.trans (g56.ext.trans (e58.trans (g63.ext.trans e65))))))))))))) (hb1f.ext (e11.trans (g13.ext.trans (e22.trans (g24.ext.trans (e33.trans (g35.ext.trans (e44.trans (g49.ext.trans (e51.trans (g56.ext.trans (e58.trans (g63.ext.trans e65))))))))))))) (hb2f.ext (e11.trans (g13.ext.trans (e22.trans (g24.ext.trans (e33.trans (g35.ext.trans (e44.trans (g49.ext.trans (e51.trans (g56.ext.trans (e58.trans (g63.ext.trans e65))))))))))))) (by omega) (by omega)
    with_reducible refine Post.mono k71 ?_
    rintro _ u69 g70 ⟨r66, r67, rfl, h68⟩
    refine zza 55 (.v (.tuple #[.agg #[.bool r66.s, r66.m.v, r66.d.v, .bool r67.s, r67.m.v, r67.d.v], .bool (decide ((Nt.hi (Nt.lo x1 x2) (Nt.lo y1 y2)) ≤ (Nt.lo (Nt.hi x1 x2) (Nt.hi y1 y2))))])) ?_
    refine zza 59 (.v (.agg #[.bool r66.s, r66.m.v, r66.d.v, .bool r67.s, r67.m.v, r67.d.v])) ?_
    refine zza 60 (.v (.bool (decide ((Nt.hi (Nt.lo x1 x2) (Nt.lo y1 y2)) ≤ (Nt.lo (Nt.hi x1 x2) (Nt.hi y1 y2)))))) ?_
    refine zzi 15 ⟨28, [.bool false, .slice none 0 0, .slice none 0 0, .bool false, .slice none 0 0, .slice none 0 0]⟩ ?_
    refine zzh ⟨28, r66.cs ++ r67.cs⟩ ty28 ?_
    refine zza 16 (.v (.bool (decide ((Nt.hi (Nt.lo x1 x2) (Nt.lo y1 y2)) ≤ (Nt.lo (Nt.hi x1 x2) (Nt.hi y1 y2)))))) ?_
    refine zzb 222 [(3, .v (.int .i64 n)), (4, .adr 4 0), (5, .adr 5 0), (6, .adr 6 0), (9, .adr 9 0), (10, .v (.int .i64 (Nt.divE y1 y2))), (11, .adr 11 0), (12, .v (.int .i64 (Nt.divE y1 y2))), (13, .adr 13 0), (14, .v (.bool (decide ((Nt.hi (Nt.lo x1 x2) (Nt.lo y1 y2)) ≤ (Nt.lo (Nt.hi x1 x2) (Nt.hi y1 y2)))))), (15, .adr 15 0), (16, .v (.bool (decide ((Nt.hi (Nt.lo x1 x2) (Nt.lo y1 y2)) ≤ (Nt.lo (Nt.hi x1 x2) (Nt.hi y1 y2))))))] [(4, ⟨28, a1.cs ++ a2.cs⟩), (5, ⟨28, b1.cs ++ b2.cs⟩), (6, ⟨26, r.cs⟩), (9, ⟨28, r45.cs ++ r46.cs⟩), (11, ⟨28, r52.cs ++ r53.cs⟩), (13, ⟨28, r59.cs ++ r60.cs⟩), (15, ⟨28, r66.cs ++ r67.cs⟩)] ?_
    refine zzc ?_
    refine zzc ?_
    refine zzx [0, 0, 3, 7, 15, 15, 63, 127, 255, 511, 511, 2047, 4095, 8191, 16383, 32767, 32767, 131071, 262143, 524287, 1048575, 2097151, 4194303, 2097151, 16777215, 33554431, 67108863, 134217727, 268435455, 268435455, 1073741823, 268435455, 268435455, 8589934591, 17179869183, 34359738367, 68719476735, 137438953471, 137438953471, 549755813887, 137438953471, 137438953471, 4398046511103, 8796093022207, 17592186044415, 35184372088831, 70368744177663, 140737488355327, 70368744177663, 562949953421311, 1125899906842623, 2251799813685247] [(0, []), (1, []), (2, []), (3, []), (4, []), (5, []), (6, []), (7, []), (8, []), (9, []), (10, []), (11, []), (12, []), (13, []), (14, []), (15, []), (16, []), (17, []), (18, []), (19, []), (20, []), (21, []), (23, []), (22, []), (24, []), (25, []), (26, []), (27, []), (28, []), (29, []), (31, []), (32, []), (30, []), (33, []), (34, []), (35, []), (36, []), (37, []), (38, []), (40, []), (41, []), (39, []), (42, []), (43, []), (44, []), (45, []), (46, []), (48, []), (47, []), (49, []), (50, []), (51, [])] (by kernel_rfl) (by kernel_rfl) ?_
    refine zza 61 (.v (.int .i64 (Nt.divE y1 y2))) ?_
    refine zza 62 (.v (.int .i64 (Nt.divE y1 y2))) ?_
    refine zza 63 (.v (.bool ((Nt.divE y1 y2) != (Nt.divE y1 y2)))) ?_
    refine zyl 64 (x := .v (.bool ((Nt.divE y1 y2) != (Nt.divE y1 y2)))) (.v (.bool false)) (by rw [show ((Nt.divE y1 y2) != (Nt.divE y1 y2)) = false from (by simp)]) ?_
    refine zza 65 (.v (.bool (decide ((Nt.hi (Nt.lo x1 x2) (Nt.lo y1 y2)) ≤ (Nt.lo (Nt.hi x1 x2) (Nt.hi y1 y2)))))) ?_ (hw := w1 3 false 64)
    refine zza 66 (.v (.bool (decide ((Nt.hi (Nt.lo x1 x2) (Nt.lo y1 y2)) ≤ (Nt.lo (Nt.hi x1 x2) (Nt.hi y1 y2)))))) ?_ (hw := w1 3 false 64)
    refine zza 67 (.v (.bool (!((decide ((Nt.hi (Nt.lo x1 x2) (Nt.lo y1 y2)) ≤ (Nt.lo (Nt.hi x1 x2) (Nt.hi y1 y2)))) == (decide ((Nt.hi (Nt.lo x1 x2) (Nt.lo y1 y2)) ≤ (Nt.lo (Nt.hi x1 x2) (Nt.hi y1 y2)))))))) ?_ (hw := w1 3 false 64)
    refine zza 68 (.v (.bool (!((decide ((Nt.hi (Nt.lo x1 x2) (Nt.lo y1 y2)) ≤ (Nt.lo (Nt.hi x1 x2) (Nt.hi y1 y2)))) == (decide ((Nt.hi (Nt.lo x1 x2) (Nt.lo y1 y2)) ≤ (Nt.lo (Nt.hi x1 x2) (Nt.hi y1 y2)))))))) ?_
    refine zyl 69 (x := .v (.bool (!((decide ((Nt.hi (Nt.lo x1 x2) (Nt.lo y1 y2)) ≤ (Nt.lo (Nt.hi x1 x2) (Nt.hi y1 y2)))) == (decide ((Nt.hi (Nt.lo x1 x2) (Nt.lo y1 y2)) ≤ (Nt.lo (Nt.hi x1 x2) (Nt.hi y1 y2)))))))) (.v (.bool false)) (by rw [show (!((decide ((Nt.hi (Nt.lo x1 x2) (Nt.lo y1 y2)) ≤ (Nt.lo (Nt.hi x1 x2) (Nt.hi y1 y2)))) == (decide ((Nt.hi (Nt.lo x1 x2) (Nt.lo y1 y2)) ≤ (Nt.lo (Nt.hi x1 x2) (Nt.hi y1 y2)))))) = false from (by simp)]) ?_
    refine zzg 70 (.v (.agg #[.bool r45.s, r45.m.v, r45.d.v, .bool r46.s, r46.m.v, r46.d.v])) ty28 zzd ?_ (hw := w1 8 false 69)
    refine zzg 71 (.v (.agg #[.bool r52.s, r52.m.v, r52.d.v, .bool r53.s, r53.m.v, r53.d.v])) ty28 zzd ?_ (hw := w1 8 false 69)
    refine zzf 72 59 [.agg #[.bool r45.s, r45.m.v, r45.d.v, .bool r46.s, r46.m.v, r46.d.v], .agg #[.bool r52.s, r52.m.v, r52.d.v, .bool r53.s, r53.m.v, r53.d.v]] ?_ (hw := w1 8 false 69)
    intro w74 u74 e74 d74
    have k77 := k_r4SameO d74 (h47.ext (e51.trans (g56.ext.trans (e58.trans (g63.ext.trans (e65.trans (g70.ext.trans e74))))))) (h54.ext (e58.trans (g63.ext.trans (e65.trans (g70.ext.trans e74)))))
    with_reducible refine Post.mono k77 ?_
    rintro _ u75 g76 rfl
    refine zza 73 (.v (.bool false)) ?_ (hw := w1 8 false 69)
    refine zza 74 (.v (.bool false)) ?_
    refine zza 75 (.v (.bool false)) ?_
    refine zzg 76 (.v (.agg #[.bool r59.s, r59.m.v, r59.d.v, .bool r60.s, r60.m.v, r60.d.v])) ty28 zzd ?_ (hw := w1 14 false 75)
    refine zzg 77 (.v (.agg #[.bool r66.s, r66.m.v, r66.d.v, .bool r67.s, r67.m.v, r67.d.v])) ty28 zzd ?_ (hw := w1 14 false 75)
    refine zzf 78 59 [.agg #[.bool r59.s, r59.m.v, r59.d.v, .bool r60.s, r60.m.v, r60.d.v], .agg #[.bool r66.s, r66.m.v, r66.d.v, .bool r67.s, r67.m.v, r67.d.v]] ?_ (hw := w1 14 false 75)
    intro w78 u78 e78 d78
    have k81 := k_r4SameO d78 (h61.ext (e65.trans (g70.ext.trans (e74.trans (g76.ext.trans e78))))) (h68.ext (e74.trans (g76.ext.trans e78)))
    with_reducible refine Post.mono k81 ?_
    rintro _ u79 g80 rfl
    refine zza 79 (.v (.bool false)) ?_ (hw := w1 14 false 75)
    refine zza 80 (.v (.bool false)) ?_
    refine zza 81 (.v (.bool false)) ?_
    refine zzg 82 (.v (.agg #[.bool a1.s, a1.m.v, a1.d.v, .bool a2.s, a2.m.v, a2.d.v])) ty28 zzd ?_ (hw := w1 20 false 81)
    refine zzg 84 (.v (.agg #[.bool a1.s, a1.m.v, a1.d.v, .bool a2.s, a2.m.v, a2.d.v])) ty28 zzd ?_ (hw := w1 20 false 81)
    refine zzf 83 60 [.agg #[.bool a1.s, a1.m.v, a1.d.v, .bool a2.s, a2.m.v, a2.d.v]] ?_ (hw := w1 20 false 81)
    intro w82 u82 e82 d82
    have k87 := k_ivValid d82 (ha1f.ext (e11.trans (g13.ext.trans (e22.trans (g24.ext.trans (e33.trans (g35.ext.trans (e44.trans (g49.ext.trans (e51.trans (g56.ext.trans (e58.trans (g63.ext.trans (e65.trans (g70.ext.trans (e74.trans (g76.ext.trans (e78.trans (g80.ext.trans e82))))))))))))))))))) (ha2f.ext (e11.trans (g13.ext.trans (e22.trans (g24.ext.trans (e33.trans (g35.ext.trans (e44.trans (g49.ext.trans (e51.trans (g56.ext.trans (e58.trans (g63.ext.trans (e65.trans (g70.ext.trans (e74.trans (g76.ext.trans (e78.trans (g80.ext.trans e82))))))))))))))))))) (by omega)
    with_reducible refine Post.mono k87 ?_
    rintro _ u85 g86 ⟨b83, rfl, hv84⟩
    refine zzf 85 61 [.agg #[.bool a1.s, a1.m.v, a1.d.v, .bool a2.s, a2.m.v, a2.d.v]] ?_ (hw := w1 20 false 81)
    intro w88 u88 e88 d88
    have k93 := k_r4Valid d88 (ha1f.ext (e11.trans (g13.ext.trans (e22.trans (g24.ext.trans (e33.trans (g35.ext.trans (e44.trans (g49.ext.trans (e51.trans (g56.ext.trans (e58.trans (g63.ext.trans (e65.trans (g70.ext.trans (e74.trans (g76.ext.trans (e78.trans (g80.ext.trans (e82.trans (g86.ext.trans e88))))))))))))))))))))) (ha2f.ext (e11.trans (g13.ext.trans (e22.trans (g24.ext.trans (e33.trans (g35.ext.trans (e44.trans (g49.ext.trans (e51.trans (g56.ext.trans (e58.trans (g63.ext.trans (e65.trans (g70.ext.trans (e74.trans (g76.ext.trans (e78.trans (g80.ext.trans (e82.trans (g86.ext.trans e88))))))))))))))))))))) (by omega)
    with_reducible refine Post.mono k93 ?_
    rintro _ u91 g92 ⟨b89, rfl, hv90⟩
    refine zza 86 (.v (.bool (!(b83 == b89)))) ?_ (hw := w1 20 false 81)
    refine zza 87 (.v (.bool (!(b83 == b89)))) ?_
    refine zyl 88 (x := .v (.bool (!(b83 == b89)))) (.v (.bool false)) (by rw [show (!(b83 == b89)) = false from (by rw [show b83 = b89 from Bool.eq_iff_iff.2 (hv84.trans ((and_congr (RatN.same (ha1f.ext (e11.trans (g13.ext.trans (e22.trans (g24.ext.trans (e33.trans (g35.ext.trans (e44.trans (g49.ext.trans (e51.trans (g56.ext.trans (e58.trans (g63.ext.trans (e65.trans (g70.ext.trans (e74.trans (g76.ext.trans (e78.trans (g80.ext.trans e82))))))))))))))))))) (g86.ext.trans e88)) (and_congr_left' (RatN.same (ha2f.ext (e11.trans (g13.ext.trans (e22.trans (g24.ext.trans (e33.trans (g35.ext.trans (e44.trans (g49.ext.trans (e51.trans (g56.ext.trans (e58.trans (g63.ext.trans (e65.trans (g70.ext.trans (e74.trans (g76.ext.trans (e78.trans (g80.ext.trans e82))))))))))))))))))) (g86.ext.trans e88)))).symm.trans hv90.symm))]; simp)]) ?_
    refine zzg 89 (.v (.agg #[.bool a1.s, a1.m.v, a1.d.v, .bool a2.s, a2.m.v, a2.d.v])) ty28 zzd ?_ (hw := w1 27 false 88)
    refine zzg 90 (.v (r.v)) ty26 zzd ?_ (hw := w1 27 false 88)
    refine zzg 92 (.v (.agg #[.bool a1.s, a1.m.v, a1.d.v, .bool a2.s, a2.m.v, a2.d.v])) ty28 zzd ?_ (hw := w1 27 false 88)
    refine zzg 93 (.v (r.v)) ty26 zzd ?_ (hw := w1 27 false 88)
    refine zzf 91 24 [.agg #[.bool a1.s, a1.m.v, a1.d.v, .bool a2.s, a2.m.v, a2.d.v], r.v] ?_ (hw := w1 27 false 88)
    intro w95 u95 e95 d95
    have k98 := k_ivContains d95 (ha1f.ext (e11.trans (g13.ext.trans (e22.trans (g24.ext.trans (e33.trans (g35.ext.trans (e44.trans (g49.ext.trans (e51.trans (g56.ext.trans (e58.trans (g63.ext.trans (e65.trans (g70.ext.trans (e74.trans (g76.ext.trans (e78.trans (g80.ext.trans (e82.trans (g86.ext.trans (e88.trans (g92.ext.trans e95))))))))))))))))))))))) (ha2f.ext (e11.trans (g13.ext.trans (e22.trans (g24.ext.trans (e33.trans (g35.ext.trans (e44.trans (g49.ext.trans (e51.trans (g56.ext.trans (e58.trans (g63.ext.trans (e65.trans (g70.ext.trans (e74.trans (g76.ext.trans (e78.trans (g80.ext.trans (e82.trans (g86.ext.trans (e88.trans (g92.ext.trans e95))))))))))))))))))))))) (hrf.ext (e11.trans (g13.ext.trans (e22.trans (g24.ext.trans (e33.trans (g35.ext.trans (e44.trans (g49.ext.trans (e51.trans (g56.ext.trans (e58.trans (g63.ext.trans (e65.trans (g70.ext.trans (e74.trans (g76.ext.trans (e78.trans (g80.ext.trans (e82.trans (g86.ext.trans (e88.trans (g92.ext.trans e95))))))))))))))))))))))) (by omega) (by omega)
    with_reducible refine Post.mono k98 ?_
    rintro _ u96 g97 rfl
    refine zzf 94 15 [.agg #[.bool a1.s, a1.m.v, a1.d.v, .bool a2.s, a2.m.v, a2.d.v], r.v] ?_ (hw := w1 27 false 88)
    intro w99 u99 e99 d99
    have k102 := k_r4Contains d99 (ha1f.ext (e11.trans (g13.ext.trans (e22.trans (g24.ext.trans (e33.trans (g35.ext.trans (e44.trans (g49.ext.trans (e51.trans (g56.ext.trans (e58.trans (g63.ext.trans (e65.trans (g70.ext.trans (e74.trans (g76.ext.trans (e78.trans (g80.ext.trans (e82.trans (g86.ext.trans (e88.trans (g92.ext.trans (e95.trans (g97.ext.trans e99))))))))))))))))))))))))) (ha2f.ext (e11.trans (g13.ext.trans (e22.trans (g24.ext.trans (e33.trans (g35.ext.trans (e44.trans (g49.ext.trans (e51.trans (g56.ext.trans (e58.trans (g63.ext.trans (e65.trans (g70.ext.trans (e74.trans (g76.ext.trans (e78.trans (g80.ext.trans (e82.trans (g86.ext.trans (e88.trans (g92.ext.trans (e95.trans (g97.ext.trans e99))))))))))))))))))))))))) (hrf.ext (e11.trans (g13.ext.trans (e22.trans (g24.ext.trans (e33.trans (g35.ext.trans (e44.trans (g49.ext.trans (e51.trans (g56.ext.trans (e58.trans (g63.ext.trans (e65.trans (g70.ext.trans (e74.trans (g76.ext.trans (e78.trans (g80.ext.trans (e82.trans (g86.ext.trans (e88.trans (g92.ext.trans (e95.trans (g97.ext.trans e99))))))))))))))))))))))))) (by omega) (by omega)
    with_reducible refine Post.mono k102 ?_
    rintro _ u100 g101 rfl
    refine zza 95 (.v (.bool (!((Nt.inI x1 x2 q) == (Nt.inI x1 x2 q))))) ?_ (hw := w1 27 false 88)
    refine zza 96 (.v (.bool (!((Nt.inI x1 x2 q) == (Nt.inI x1 x2 q))))) ?_
    refine zyl 97 (x := .v (.bool (!((Nt.inI x1 x2 q) == (Nt.inI x1 x2 q))))) (.v (.bool false)) (by rw [show (!((Nt.inI x1 x2 q) == (Nt.inI x1 x2 q))) = false from (by simp)]) ?_
    refine zzg 98 (.v (.agg #[.bool a1.s, a1.m.v, a1.d.v, .bool a2.s, a2.m.v, a2.d.v])) ty28 zzd ?_ (hw := w1 36 false 97)
    refine zzg 99 (.v (.agg #[.bool b1.s, b1.m.v, b1.d.v, .bool b2.s, b2.m.v, b2.d.v])) ty28 zzd ?_ (hw := w1 36 false 97)
    refine zzg 101 (.v (.agg #[.bool a1.s, a1.m.v, a1.d.v, .bool a2.s, a2.m.v, a2.d.v])) ty28 zzd ?_ (hw := w1 36 false 97)
    refine zzg 102 (.v (.agg #[.bool b1.s, b1.m.v, b1.d.v, .bool b2.s, b2.m.v, b2.d.v])) ty28 zzd ?_ (hw := w1 36 false 97)
    refine zzf 100 62 [.agg #[.bool a1.s, a1.m.v, a1.d.v, .bool a2.s, a2.m.v, a2.d.v], .agg #[.bool b1.s, b1.m.v, b1.d.v, .bool b2.s, b2.m.v, b2.d.v]] ?_ (hw := w1 36 false 97)
    intro w104 u104 e104 d104
    have k107 := k_ivInside d104 (ha1f.ext (e11.trans (g13.ext.trans (e22.trans (g24.ext.trans (e33.trans (g35.ext.trans (e44.trans (g49.ext.trans (e51.trans (g56.ext.trans (e58.trans (g63.ext.trans (e65.trans (g70.ext.trans (e74.trans (g76.ext.trans (e78.trans (g80.ext.trans (e82.trans (g86.ext.trans (e88.trans (g92.ext.trans (e95.trans (g97.ext.trans (e99.trans (g101.ext.trans e104))))))))))))))))))))))))))) (ha2f.ext (e11.trans (g13.ext.trans (e22.trans (g24.ext.trans (e33.trans (g35.ext.trans (e44.trans (g49.ext.trans (e51.trans (g56.ext.trans (e58.trans (g63.ext.trans (e65.trans (g70.ext.trans (e74.trans (g76.ext.trans (e78.trans (g80.ext.trans (e82.trans (g86.ext.trans (e88.trans (g92.ext.trans (e95.trans (g97.ext.trans (e99.trans (g101.ext.trans e104))))))))))))))))))))))))))) (hb1f.ext (e11.trans (g13.ext.trans (e22.trans (g24.ext.trans (e33.trans (g35.ext.trans (e44.trans (g49.ext.trans (e51.trans (g56.ext.trans (e58.trans (g63.ext.trans (e65.trans (g70.ext.trans (e74.trans (g76.ext.trans (e78.trans (g80.ext.trans (e82.trans (g86.ext.trans (e88.trans (g92.ext.trans (e95.trans (g97.ext.trans (e99.trans (g101.ext.trans e104))))))))))))))))))))))))))) (hb2f.ext (e11.trans (g13.ext.trans (e22.trans (g24.ext.trans (e33.trans (g35.ext.trans (e44.trans (g49.ext.trans (e51.trans (g56.ext.trans (e58.trans (g63.ext.trans (e65.trans (g70.ext.trans (e74.trans (g76.ext.trans (e78.trans (g80.ext.trans (e82.trans (g86.ext.trans (e88.trans (g92.ext.trans (e95.trans (g97.ext.trans (e99.trans (g101.ext.trans e104))))))))))))))))))))))))))) (by omega) (by omega)
    with_reducible refine Post.mono k107 ?_
    rintro _ u105 g106 rfl
    refine zzf 103 63 [.agg #[.bool a1.s, a1.m.v, a1.d.v, .bool a2.s, a2.m.v, a2.d.v], .agg #[.bool b1.s, b1.m.v, b1.d.v, .bool b2.s, b2.m.v, b2.d.v]] ?_ (hw := w1 36 false 97)
    intro w108 u108 e108 d108
    have k111 := k_r4Inside d108 (ha1f.ext (e11.trans (g13.ext.trans (e22.trans (g24.ext.trans (e33.trans (g35.ext.trans (e44.trans (g49.ext.trans (e51.trans (g56.ext.trans (e58.trans (g63.ext.trans (e65.trans (g70.ext.trans (e74.trans (g76.ext.trans (e78.trans (g80.ext.trans (e82.trans (g86.ext.trans (e88.trans (g92.ext.trans (e95.trans (g97.ext.trans (e99.trans (g101.ext.trans (e104.trans (g106.ext.trans e108))))))))))))))))))))))))))))) (ha2f.ext (e11.trans (g13.ext.trans (e22.trans (g24.ext.trans (e33.trans (g35.ext.trans (e44.trans (g49.ext.trans (e51.trans (g56.ext.trans (e58.trans (g63.ext.trans (e65.trans (g70.ext.trans (e74.trans (g76.ext.trans (e78.trans (g80.ext.trans (e82.trans (g86.ext.trans (e88.trans (g92.ext.trans (e95.trans (g97.ext.trans (e99.trans (g101.ext.trans (e104.trans (g106.ext.trans e108))))))))))))))))))))))))))))) (hb1f.ext (e11.trans (g13.ext.trans (e22.trans (g24.ext.trans (e33.trans (g35.ext.trans (e44.trans (g49.ext.trans (e51.trans (g56.ext.trans (e58.trans (g63.ext.trans (e65.trans (g70.ext.trans (e74.trans (g76.ext.trans (e78.trans (g80.ext.trans (e82.trans (g86.ext.trans (e88.trans (g92.ext.trans (e95.trans (g97.ext.trans (e99.trans (g101.ext.trans (e104.trans (g106.ext.trans e108))))))))))))))))))))))))))))) (hb2f.ext (e11.trans (g13.ext.trans (e22.trans (g24.ext.trans (e33.trans (g35.ext.trans (e44.trans (g49.ext.trans (e51.trans (g56.ext.trans (e58.trans (g63.ext.trans (e65.trans (g70.ext.trans (e74.trans (g76.ext.trans (e78.trans (g80.ext.trans (e82.trans (g86.ext.trans (e88.trans (g92.ext.trans (e95.trans (g97.ext.trans (e99.trans (g101.ext.trans (e104.trans (g106.ext.trans e108))))))))))))))))))))))))))))) (by omega) (by omega)
    with_reducible refine Post.mono k111 ?_
    rintro _ u109 g110 rfl
    refine zza 104 (.v (.bool (!((Nt.inI y1 y2 x1 && Nt.inI y1 y2 x2) == (Nt.inI y1 y2 x1 && Nt.inI y1 y2 x2))))) ?_ (hw := w1 36 false 97)
    refine zza 105 (.v (.bool (!((Nt.inI y1 y2 x1 && Nt.inI y1 y2 x2) == (Nt.inI y1 y2 x1 && Nt.inI y1 y2 x2))))) ?_
    refine zyl 106 (x := .v (.bool (!((Nt.inI y1 y2 x1 && Nt.inI y1 y2 x2) == (Nt.inI y1 y2 x1 && Nt.inI y1 y2 x2))))) (.v (.bool false)) (by rw [show (!((Nt.inI y1 y2 x1 && Nt.inI y1 y2 x2) == (Nt.inI y1 y2 x1 && Nt.inI y1 y2 x2))) = false from (by simp)]) ?_
    refine zzg 107 (.v (.agg #[.bool a1.s, a1.m.v, a1.d.v, .bool a2.s, a2.m.v, a2.d.v])) ty28 zzd ?_ (hw := w1 45 false 106)
    refine zzg 109 (.v (.agg #[.bool a1.s, a1.m.v, a1.d.v, .bool a2.s, a2.m.v, a2.d.v])) ty28 zzd ?_ (hw := w1 45 false 106)
    refine zzf 108 64 [.agg #[.bool a1.s, a1.m.v, a1.d.v, .bool a2.s, a2.m.v, a2.d.v]] ?_ (hw := w1 45 false 106)
    intro w113 u113 e113 d113
    have k116 := k_ivSign d113 (ha1f.ext (e11.trans (g13.ext.trans (e22.trans (g24.ext.trans (e33.trans (g35.ext.trans (e44.trans (g49.ext.trans (e51.trans (g56.ext.trans (e58.trans (g63.ext.trans (e65.trans (g70.ext.trans (e74.trans (g76.ext.trans (e78.trans (g80.ext.trans (e82.trans (g86.ext.trans (e88.trans (g92.ext.trans (e95.trans (g97.ext.trans (e99.trans (g101.ext.trans (e104.trans (g106.ext.trans (e108.trans (g110.ext.trans e113))))))))))))))))))))))))))))))) (ha2f.ext (e11.trans (g13.ext.trans (e22.trans (g24.ext.trans (e33.trans (g35.ext.trans (e44.trans (g49.ext.trans (e51.trans (g56.ext.trans (e58.trans (g63.ext.trans (e65.trans (g70.ext.trans (e74.trans (g76.ext.trans (e78.trans (g80.ext.trans (e82.trans (g86.ext.trans (e88.trans (g92.ext.trans (e95.trans (g97.ext.trans (e99.trans (g101.ext.trans (e104.trans (g106.ext.trans (e108.trans (g110.ext.trans e113))))))))))))))))))))))))))))))) (by omega)
    with_reducible refine Post.mono k116 ?_
    rintro _ u114 g115 rfl
    refine zzf 110 65 [.agg #[.bool a1.s, a1.m.v, a1.d.v, .bool a2.s, a2.m.v, a2.d.v]] ?_ (hw := w1 45 false 106)
    intro w117 u117 e117 d117
    have k120 := k_r4Sign d117 (ha1f.ext (e11.trans (g13.ext.trans (e22.trans (g24.ext.trans (e33.trans (g35.ext.trans (e44.trans (g49.ext.trans (e51.trans (g56.ext.trans (e58.trans (g63.ext.trans (e65.trans (g70.ext.trans (e74.trans (g76.ext.trans (e78.trans (g80.ext.trans (e82.trans (g86.ext.trans (e88.trans (g92.ext.trans (e95.trans (g97.ext.trans (e99.trans (g101.ext.trans (e104.trans (g106.ext.trans (e108.trans (g110.ext.trans (e113.trans (g115.ext.trans e117))))))))))))))))))))))))))))))))) (ha2f.ext (e11.trans (g13.ext.trans (e22.trans (g24.ext.trans (e33.trans (g35.ext.trans (e44.trans (g49.ext.trans (e51.trans (g56.ext.trans (e58.trans (g63.ext.trans (e65.trans (g70.ext.trans (e74.trans (g76.ext.trans (e78.trans (g80.ext.trans (e82.trans (g86.ext.trans (e88.trans (g92.ext.trans (e95.trans (g97.ext.trans (e99.trans (g101.ext.trans (e104.trans (g106.ext.trans (e108.trans (g110.ext.trans (e113.trans (g115.ext.trans e117))))))))))))))))))))))))))))))))) (by omega)
    with_reducible refine Post.mono k120 ?_
    rintro _ u118 g119 rfl
    refine zza 111 (.v (.bool ((Nt.sgI x1 x2) != (Nt.sgI x1 x2)))) ?_ (hw := w1 45 false 106)
    refine zza 112 (.v (.bool ((Nt.sgI x1 x2) != (Nt.sgI x1 x2)))) ?_
    refine zzb 222 [(3, .v (.int .i64 n)), (4, .adr 4 0), (5, .adr 5 0), (112, .v (.bool ((Nt.sgI x1 x2) != (Nt.sgI x1 x2))))] [(4, ⟨28, a1.cs ++ a2.cs⟩), (5, ⟨28, b1.cs ++ b2.cs⟩)] ?_
    refine zzs (b := (Nt.sgI x1 x2) != (Nt.sgI x1 x2)) (by kernel_rfl) (fun hb => ?_) (fun hb => ?_)
    ·exact absurd hb (by rw [show ((Nt.sgI x1 x2) != (Nt.sgI x1 x2)) = false from (by simp)]; decide)
    ·clear hb
     refine zzq (zzn ?_)
     refine zzc ?_
     refine sq9 ?_
     refine zza 113 (.v (.int .i64 n)) ?_
     refine zza 114 (.v (.int .i64 n)) ?_
     refine zzf 115 50 [.int .i64 n, .int .i64 20] ?_
     intro w121 u121 e121 d121
     have k124 := k_Mod d121 (n := n) (m := 20) (by omega) (by omega) (by omega) (by omega)
     with_reducible refine Post.mono k124 ?_
     rintro _ u122 g123 rfl
     refine sy_lit 116 ⟨3, [.int .i64 n, .int .i64 (n % 20)]⟩ 2 ?_
     refine zza 117 (.v (.int .i64 2)) ?_
     refine zza 118 (.v (.int .i64 0)) ?_
     refine zzb 222 [(4, .adr 4 0), (5, .adr 5 0), (116, .slc 116 0 2 2), (117, .v (.int .i64 2)), (118, .v (.int .i64 0))] [(4, ⟨28, a1.cs ++ a2.cs⟩), (5, ⟨28, b1.cs ++ b2.cs⟩), (116, ⟨3, [.int .i64 n, .int .i64 (n % 20)]⟩)] ?_
     refine zzr ?_
     refine sw_rounds 2 ?_
     refine sq9 ?_
     refine zza 119 (.v (.bool true)) ?_
     refine zzb 222 [(4, .adr 4 0), (5, .adr 5 0), (116, .slc 116 0 2 2), (117, .v (.int .i64 2)), (118, .v (.int .i64 0)), (119, .v (.bool true))] [(4, ⟨28, a1.cs ++ a2.cs⟩), (5, ⟨28, b1.cs ++ b2.cs⟩), (116, ⟨3, [.int .i64 n, .int .i64 (n % 20)]⟩)] ?_
     refine zzc ?_
     refine zym (by kernel_rfl) ?_
     refine zzq (zzn ?_)
     refine zzc ?_
     refine zzr ?_
     refine sq9 ?_
     refine zza 120 (.adr 116 0) ?_
     refine zzg 121 (.v (.int .i64 n)) ty3 zzj ?_
     refine zza 18 (.v (.int .i64 n)) ?_
     refine zzb 222 [(4, .adr 4 0), (5, .adr 5 0), (18, .v (.int .i64 n)), (116, .slc 116 0 2 2), (117, .v (.int .i64 2)), (118, .v (.int .i64 0))] [(4, ⟨28, a1.cs ++ a2.cs⟩), (5, ⟨28, b1.cs ++ b2.cs⟩), (116, ⟨3, [.int .i64 n, .int .i64 (n % 20)]⟩)] ?_
     refine sq9 ?_
     refine zzg 123 (.v (.agg #[.bool a1.s, a1.m.v, a1.d.v, .bool a2.s, a2.m.v, a2.d.v])) ty28 zzd ?_
     refine zza 124 (.v (.int .i64 n)) ?_
     refine zzf 125 66 [.agg #[.bool a1.s, a1.m.v, a1.d.v, .bool a2.s, a2.m.v, a2.d.v], .int .i64 n] ?_
     intro w125 u125 e125 d125
     have k131 := k_ivRound (n := n) d125 (ha1f.ext (e11.trans (g13.ext.trans (e22.trans (g24.ext.trans (e33.trans (g35.ext.trans (e44.trans (g49.ext.trans (e51.trans (g56.ext.trans (e58.trans (g63.ext.trans (e65.trans (g70.ext.trans (e74.trans (g76.ext.trans (e78.trans (g80.ext.trans (e82.trans (g86.ext.trans (e88.trans (g92.ext.trans (e95.trans (g97.ext.trans (e99.trans (g101.ext.trans (e104.trans (g106.ext.trans (e108.trans (g110.ext.trans (e113.trans (g115.ext.trans (e117.trans (g119.ext.trans (e121.trans (g123.ext.trans e125))))))))))))))))))))))))))))))))))))) (ha2f.ext (e11.trans (g13.ext.trans (e22.trans (g24.ext.trans (e33.trans (g35.ext.trans (e44.trans (g49.ext.trans (e51.trans (g56.ext.trans (e58.trans (g63.ext.trans (e65.trans (g70.ext.trans (e74.trans (g76.ext.trans (e78.trans (g80.ext.trans (e82.trans (g86.ext.trans (e88.trans (g92.ext.trans (e95.trans (g97.ext.trans (e99.trans (g101.ext.trans (e104.trans (g106.ext.trans (e108.trans (g110.ext.trans (e113.trans (g115.ext.trans (e117.trans (g119.ext.trans (e121.trans (g123.ext.trans e125))))))))))))))))))))))))))))))))))))) (by omega)
     with_reducible refine Post.mono k131 ?_
     rintro _ u129 g130 ⟨r126, r127, rfl, h128⟩
     refine zza 122 (.v (.tuple #[.agg #[.bool r126.s, r126.m.v, r126.d.v, .bool r127.s, r127.m.v, r127.d.v], .int .i64 (Nt.rndE n)])) ?_
     refine zza 126 (.v (.agg #[.bool r126.s, r126.m.v, r126.d.v, .bool r127.s, r127.m.v, r127.d.v])) ?_
     refine zza 127 (.v (.int .i64 (Nt.rndE n))) ?_
     refine zzi 19 ⟨28, [.bool false, .slice none 0 0, .slice none 0 0, .bool false, .slice none 0 0, .slice none 0 0]⟩ ?_
     refine zzh ⟨28, r126.cs ++ r127.cs⟩ ty28 ?_
     refine zza 20 (.v (.int .i64 (Nt.rndE n))) ?_
     refine zzb 222 [(4, .adr 4 0), (5, .adr 5 0), (18, .v (.int .i64 n)), (19, .adr 19 0), (20, .v (.int .i64 (Nt.rndE n))), (116, .slc 116 0 2 2), (117, .v (.int .i64 2)), (118, .v (.int .i64 0))] [(4, ⟨28, a1.cs ++ a2.cs⟩), (5, ⟨28, b1.cs ++ b2.cs⟩), (19, ⟨28, r126.cs ++ r127.cs⟩), (116, ⟨3, [.int .i64 n, .int .i64 (n % 20)]⟩)] ?_
     refine sq9 ?_
     refine zzg 129 (.v (.agg #[.bool a1.s, a1.m.v, a1.d.v, .bool a2.s, a2.m.v, a2.d.v])) ty28 zzd ?_
     refine zza 130 (.v (.int .i64 n)) ?_
     refine zzf 131 67 [.agg #[.bool a1.s, a1.m.v, a1.d.v, .bool a2.s, a2.m.v, a2.d.v], .int .i64 n] ?_
     intro w132 u132 e132 d132
     have k138 := k_r4Round (n := n) d132 (ha1f.ext (e11.trans (g13.ext.trans (e22.trans (g24.ext.trans (e33.trans (g35.ext.trans (e44.trans (g49.ext.trans (e51.trans (g56.ext.trans (e58.trans (g63.ext.trans (e65.trans (g70.ext.trans (e74.trans (g76.ext.trans (e78.trans (g80.ext.trans (e82.trans (g86.ext.trans (e88.trans (g92.ext.trans (e95.trans (g97.ext.trans (e99.trans (g101.ext.trans (e104.trans (g106.ext.trans (e108.trans (g110.ext.trans (e113.trans (g115.ext.trans (e117.trans (g119.ext.trans (e121.trans (g123.ext.trans (e125.trans (g130.ext.trans e132))))))))))))))))))))))))))))))))))))))) (ha2f.ext (e11.trans (g13.ext.trans (e22.trans (g24.ext.trans (e33.trans (g35.ext.trans (e44.trans (g49.ext.trans (e51.trans (g56.ext.trans (e58.trans (g63.ext.trans (e65.trans (g70.ext.trans (e74.trans (g76.ext.trans (e78.trans (g80.ext.trans (e82.trans (g86.ext.trans (e88.trans (g92.ext.trans (e95.trans (g97.ext.trans (e99.trans (g101.ext.trans (e104.trans (g106.ext.trans (e108.trans (g110.ext.trans (e113.trans (g115.ext.trans (e117.trans (g119.ext.trans (e121.trans (g123.ext.trans (e125.trans (g130.ext.trans e132))))))))))))))))))))))))))))))))))))))) (by omega)
     with_reducible refine Post.mono k138 ?_
     rintro _ u136 g137 ⟨r133, r134, rfl, h135⟩
     refine zza 128 (.v (.tuple #[.agg #[.bool r133.s, r133.m.v, r133.d.v, .bool r134.s, r134.m.v, r134.d.v], .int .i64 (Nt.rndE n)])) ?_
     refine zza 132 (.v (.agg #[.bool r133.s, r133.m.v, r133.d.v, .bool r134.s, r134.m.v, r134.d.v])) ?_
     refine zza 133 (.v (.int .i64 (Nt.rndE n))) ?_
     refine zzi 21 ⟨28, [.bool false, .slice none 0 0, .slice none 0 0, .bool false, .slice none 0 0, .slice none 0 0]⟩ ?_
     refine zzh ⟨28, r133.cs ++ r134.cs⟩ ty28 ?_
     refine zza 22 (.v (.int .i64 (Nt.rndE n))) ?_
     refine zzb 222 [(4, .adr 4 0), (5, .adr 5 0), (19, .adr 19 0), (20, .v (.int .i64 (Nt.rndE n))), (21, .adr 21 0), (22, .v (.int .i64 (Nt.rndE n))), (116, .slc 116 0 2 2), (117, .v (.int .i64 2)), (118, .v (.int .i64 0))] [(4, ⟨28, a1.cs ++ a2.cs⟩), (5, ⟨28, b1.cs ++ b2.cs⟩), (19, ⟨28, r126.cs ++ r127.cs⟩), (21, ⟨28, r133.cs ++ r134.cs⟩), (116, ⟨3, [.int .i64 n, .int .i64 (n % 20)]⟩)] ?_
     refine sq9 ?_
     refine zza 134 (.v (.int .i64 (Nt.rndE n))) ?_
     refine zza 135 (.v (.int .i64 (Nt.rndE n))) ?_
     refine zza 136 (.v (.bool ((Nt.rndE n) != (Nt.rndE n)))) ?_
     refine zyl 137 (x := .v (.bool ((Nt.rndE n) != (Nt.rndE n)))) (.v (.bool false)) (by rw [show ((Nt.rndE n) != (Nt.rndE n)) = false from (by simp)]) ?_
     refine zzg 138 (.v (.agg #[.bool r126.s, r126.m.v, r126.d.v, .bool r127.s, r127.m.v, r127.d.v])) ty28 zzd ?_ (hw := w1 3 false 137)
     refine zzg 139 (.v (.agg #[.bool r133.s, r133.m.v, r133.d.v, .bool r134.s, r134.m.v, r134.d.v])) ty28 zzd ?_ (hw := w1 3 false 137)
     refine zzf 140 59 [.agg #[.bool r126.s, r126.m.v, r126.d.v, .bool r127.s, r127.m.v, r127.d.v], .agg #[.bool r133.s, r133.m.v, r133.d.v, .bool r134.s, r134.m.v, r134.d.v]] ?_ (hw := w1 3 false 137)
     intro w140 u140 e140 d140
     have k143 := k_r4SameO d140 (h128.ext (e132.trans (g137.ext.trans e140))) (h135.ext e140)
     with_reducible refine Post.mono k143 ?_
     rintro _ u141 g142 rfl
     refine zza 141 (.v (.bool false)) ?_ (hw := w1 3 false 137)
     refine zza 142 (.v (.bool false)) ?_
     refine zzb 222 [(4, .adr 4 0), (5, .adr 5 0), (116, .slc 116 0 2 2), (117, .v (.int .i64 2)), (118, .v (.int .i64 0)), (142, .v (.bool false))] [(4, ⟨28, a1.cs ++ a2.cs⟩), (5, ⟨28, b1.cs ++ b2.cs⟩), (116, ⟨3, [.int .i64 n, .int .i64 (n % 20)]⟩)] ?_
     refine zyn (by kernel_rfl) ?_
     refine zzq (zzn ?_)
     refine zze ?_
     refine zza 143 (.v (.int .i64 1)) ?_
     refine zza 118 (.v (.int .i64 1)) ?_
     refine zzv ?_
     refine rn_next ?_
     refine sw_weak (T := St.of 222 [(4, .adr 4 0), (5, .adr 5 0), (116, .slc 116 0 2 2), (117, .v (.int .i64 2)), (118, .v (.int .i64 1))] [(4, ⟨28, a1.cs ++ a2.cs⟩), (5, ⟨28, b1.cs ++ b2.cs⟩), (116, ⟨3, [.int .i64 n, .int .i64 (n % 20)]⟩)]) (by exact zzt _ _ _) ?_
     refine sq9 ?_
     refine zza 119 (.v (.bool true)) ?_
     refine zzb 222 [(4, .adr 4 0), (5, .adr 5 0), (116, .slc 116 0 2 2), (117, .v (.int .i64 2)), (118, .v (.int .i64 1)), (119, .v (.bool true))] [(4, ⟨28, a1.cs ++ a2.cs⟩), (5, ⟨28, b1.cs ++ b2.cs⟩), (116, ⟨3, [.int .i64 n, .int .i64 (n % 20)]⟩)] ?_
     refine zzc ?_
     refine zym (by kernel_rfl) ?_
     refine zzq (zzn ?_)
     refine zzc ?_
     refine zzr ?_
     refine sq9 ?_
     refine zza 120 (.adr 116 1) ?_
     refine zzg 121 (.v (.int .i64 (n % 20))) ty3 zzj ?_
     refine zza 18 (.v (.int .i64 (n % 20))) ?_
     refine zzb 222 [(4, .adr 4 0), (5, .adr 5 0), (18, .v (.int .i64 (n % 20))), (116, .slc 116 0 2 2), (117, .v (.int .i64 2)), (118, .v (.int .i64 1))] [(4, ⟨28, a1.cs ++ a2.cs⟩), (5, ⟨28, b1.cs ++ b2.cs⟩), (116, ⟨3, [.int .i64 n, .int .i64 (n % 20)]⟩)] ?_
     refine sq9 ?_
     refine zzg 123 (.v (.agg #[.bool a1.s, a1.m.v, a1.d.v, .bool a2.s, a2.m.v, a2.d.v])) ty28 zzd ?_
     refine zza 124 (.v (.int .i64 (n % 20))) ?_
     refine zzf 125 66 [.agg #[.bool a1.s, a1.m.v, a1.d.v, .bool a2.s, a2.m.v, a2.d.v], .int .i64 (n % 20)] ?_
     intro w144 u144 e144 d144
     have k150 := k_ivRound (n := n % 20) d144 (ha1f.ext (e11.trans (g13.ext.trans (e22.trans (g24.ext.trans (e33.trans (g35.ext.trans (e44.trans (g49.ext.trans (e51.trans (g56.ext.trans (e58.trans (g63.ext.trans (e65.trans (g70.ext.trans (e74.trans (g76.ext.trans (e78.trans (g80.ext.trans (e82.trans (g86.ext.trans (e88.trans (g92.ext.trans (e95.trans (g97.ext.trans (e99.trans (g101.ext.trans (e104.trans (g106.ext.trans (e108.trans (g110.ext.trans (e113.trans (g115.ext.trans (e117.trans (g119.ext.trans (e121.trans (g123.ext.trans (e125.trans (g130.ext.trans (e132.trans (g137.ext.trans (e140.trans (g142.ext.trans e144))))))))))))))))))))))))))))))))))))))))))) (ha2f.ext (e11.trans (g13.ext.trans (e22.trans (g24.ext.trans (e33.trans (g35.ext.trans (e44.trans (g49.ext.trans (e51.trans (g56.ext.trans (e58.trans (g63.ext.trans (e65.trans (g70.ext.trans (e74.trans (g76.ext.trans (e78.trans (g80.ext.trans (e82.trans (g86.ext.trans (e88.trans (g92.ext.trans (e95.trans (g97.ext.trans (e99.trans (g101.ext.trans (e104.trans (g106.ext.trans (e108.trans (g110.ext.trans (e113.trans (g115.ext.trans (e117.trans (g119.ext.trans (e121.trans (g123.ext.trans (e125.trans (g130.ext.trans (e132.trans (g137.ext.trans (e140.trans (g142.ext.trans e144))))))))))))))))))))))))))))))))))))))))))) (by omega)
     with_reducible refine Post.mono k150 ?_
     rintro _ u148 g149 ⟨r145, r146, rfl, h147⟩
     refine zza 122 (.v (.tuple #[.agg #[.bool r145.s, r145.m.v, r145.d.v, .bool r146.s, r146.m.v, r146.d.v], .int .i64 (Nt.rndE (n % 20))])) ?_
     refine zza 126 (.v (.agg #[.bool r145.s, r145.m.v, r145.d.v, .bool r146.s, r146.m.v, r146.d.v])) ?_
     refine zza 127 (.v (.int .i64 (Nt.rndE (n % 20)))) ?_
     refine zzi 19 ⟨28, [.bool false, .slice none 0 0, .slice none 0 0, .bool false, .slice none 0 0, .slice none 0 0]⟩ ?_
     refine zzh ⟨28, r145.cs ++ r146.cs⟩ ty28 ?_
     refine zza 20 (.v (.int .i64 (Nt.rndE (n % 20)))) ?_
     refine zzb 222 [(4, .adr 4 0), (5, .adr 5 0), (18, .v (.int .i64 (n % 20))), (19, .adr 19 0), (20, .v (.int .i64 (Nt.rndE (n % 20)))), (116, .slc 116 0 2 2), (117, .v (.int .i64 2)), (118, .v (.int .i64 1))] [(4, ⟨28, a1.cs ++ a2.cs⟩), (5, ⟨28, b1.cs ++ b2.cs⟩), (19, ⟨28, r145.cs ++ r146.cs⟩), (116, ⟨3, [.int .i64 n, .int .i64 (n % 20)]⟩)] ?_
     refine sq9 ?_
     refine zzg 129 (.v (.agg #[.bool a1.s, a1.m.v, a1.d.v, .bool a2.s, a2.m.v, a2.d.v])) ty28 zzd ?_
     refine zza 130 (.v (.int .i64 (n % 20))) ?_
     refine zzf 131 67 [.agg #[.bool a1.s, a1.m.v, a1.d.v, .bool a2.s, a2.m.v, a2.d.v], .int .i64 (n % 20)] ?_
     intro w151 u151 e151 d151
     have k157 := k_r4Round (n := n % 20) d151 (ha1f.ext (e11.trans (g13.ext.trans (e22.trans (g24.ext.trans (e33.trans (g35.ext.trans (e44.trans (g49.ext.trans (e51.trans (g56.ext.trans (e58.trans (g63.ext.trans (e65.trans (g70.ext.trans (e74.trans (g76.ext.trans (e78.trans (g80.ext.trans (e82.trans (g86.ext.trans (e88.trans (g92.ext.trans (e95.trans (g97.ext.trans (e99.trans (g101.ext.trans (e104.trans (g106.ext.trans (e108.trans (g110.ext.trans (e113.trans (g115.ext.trans (e117.trans (g119.ext.trans (e121.trans (g123.ext.trans (e125.trans (g130.ext.trans (e132.trans (g137.ext.trans (e140.trans (g142.ext.trans (e144.trans (g149.ext.trans e151))))))))))))))))))))))))))))))))))))))))))))) (ha2f.ext (e11.trans (g13.ext.trans (e22.trans (g24.ext.trans (e33.trans (g35.ext.trans (e44.trans (g49.ext.trans (e51.trans (g56.ext.trans (e58.trans (g63.ext.trans (e65.trans (g70.ext.trans (e74.trans (g76.ext.trans (e78.trans (g80.ext.trans (e82.trans (g86.ext.trans (e88.trans (g92.ext.trans (e95.trans (g97.ext.trans (e99.trans (g101.ext.trans (e104.trans (g106.ext.trans (e108.trans (g110.ext.trans (e113.trans (g115.ext.trans (e117.trans (g119.ext.trans (e121.trans (g123.ext.trans (e125.trans (g130.ext.trans (e132.trans (g137.ext.trans (e140.trans (g142.ext.trans (e144.trans (g149.ext.trans e151))))))))))))))))))))))))))))))))))))))))))))) (by omega)
     with_reducible refine Post.mono k157 ?_
     rintro _ u155 g156 ⟨r152, r153, rfl, h154⟩
     refine zza 128 (.v (.tuple #[.agg #[.bool r152.s, r152.m.v, r152.d.v, .bool r153.s, r153.m.v, r153.d.v], .int .i64 (Nt.rndE (n % 20))])) ?_
     refine zza 132 (.v (.agg #[.bool r152.s, r152.m.v, r152.d.v, .bool r153.s, r153.m.v, r153.d.v])) ?_
     refine zza 133 (.v (.int .i64 (Nt.rndE (n % 20)))) ?_
     refine zzi 21 ⟨28, [.bool false, .slice none 0 0, .slice none 0 0, .bool false, .slice none 0 0, .slice none 0 0]⟩ ?_
     refine zzh ⟨28, r152.cs ++ r153.cs⟩ ty28 ?_
     refine zza 22 (.v (.int .i64 (Nt.rndE (n % 20)))) ?_
     refine zzb 222 [(4, .adr 4 0), (5, .adr 5 0), (19, .adr 19 0), (20, .v (.int .i64 (Nt.rndE (n % 20)))), (21, .adr 21 0), (22, .v (.int .i64 (Nt.rndE (n % 20)))), (116, .slc 116 0 2 2), (117, .v (.int .i64 2)), (118, .v (.int .i64 1))] [(4, ⟨28, a1.cs ++ a2.cs⟩), (5, ⟨28, b1.cs ++ b2.cs⟩), (19, ⟨28, r145.cs ++ r146.cs⟩), (21, ⟨28, r152.cs ++ r153.cs⟩), (116, ⟨3, [.int .i64 n, .int .i64 (n % 20)]⟩)] ?_
     refine sq9 ?_
     refine zza 134 (.v (.int .i64 (Nt.rndE (n % 20)))) ?_
     refine zza 135 (.v (.int .i64 (Nt.rndE (n % 20)))) ?_
     refine zza 136 (.v (.bool ((Nt.rndE (n % 20)) != (Nt.rndE (n % 20))))) ?_
     refine zyl 137 (x := .v (.bool ((Nt.rndE (n % 20)) != (Nt.rndE (n % 20))))) (.v (.bool false)) (by rw [show ((Nt.rndE (n % 20)) != (Nt.rndE (n % 20))) = false from (by simp)]) ?_
     refine zzg 138 (.v (.agg #[.bool r145.s, r145.m.v, r145.d.v, .bool r146.s, r146.m.v, r146.d.v])) ty28 zzd ?_ (hw := w1 3 false 137)
     refine zzg 139 (.v (.agg #[.bool r152.s, r152.m.v, r152.d.v, .bool r153.s, r153.m.v, r153.d.v])) ty28 zzd ?_ (hw := w1 3 false 137)
     refine zzf 140 59 [.agg #[.bool r145.s, r145.m.v, r145.d.v, .bool r146.s, r146.m.v, r146.d.v], .agg #[.bool r152.s, r152.m.v, r152.d.v, .bool r153.s, r153.m.v, r153.d.v]] ?_ (hw := w1 3 false 137)
     intro w159 u159 e159 d159
     have k162 := k_r4SameO d159 (h147.ext (e151.trans (g156.ext.trans e159))) (h154.ext e159)
     with_reducible refine Post.mono k162 ?_
     rintro _ u160 g161 rfl
     refine zza 141 (.v (.bool false)) ?_ (hw := w1 3 false 137)
     refine zza 142 (.v (.bool false)) ?_
     refine zzb 222 [(4, .adr 4 0), (5, .adr 5 0), (116, .slc 116 0 2 2), (117, .v (.int .i64 2)), (118, .v (.int .i64 1)), (142, .v (.bool false))] [(4, ⟨28, a1.cs ++ a2.cs⟩), (5, ⟨28, b1.cs ++ b2.cs⟩), (116, ⟨3, [.int .i64 n, .int .i64 (n % 20)]⟩)] ?_
     refine zyn (by kernel_rfl) ?_
     refine zzq (zzn ?_)
     refine zze ?_
     refine zza 143 (.v (.int .i64 2)) ?_
     refine zza 118 (.v (.int .i64 2)) ?_
     refine zzv ?_
     refine rn_next ?_
     refine sw_weak (T := St.of 222 [(4, .adr 4 0), (5, .adr 5 0), (116, .slc 116 0 2 2), (117, .v (.int .i64 2)), (118, .v (.int .i64 2))] [(4, ⟨28, a1.cs ++ a2.cs⟩), (5, ⟨28, b1.cs ++ b2.cs⟩), (116, ⟨3, [.int .i64 n, .int .i64 (n % 20)]⟩)]) (by exact zzt _ _ _) ?_
     refine sq9 ?_
     refine zza 119 (.v (.bool false)) ?_
     refine zzb 222 [(4, .adr 4 0), (5, .adr 5 0), (116, .slc 116 0 2 2), (117, .v (.int .i64 2)), (118, .v (.int .i64 2)), (119, .v (.bool false))] [(4, ⟨28, a1.cs ++ a2.cs⟩), (5, ⟨28, b1.cs ++ b2.cs⟩), (116, ⟨3, [.int .i64 n, .int .i64 (n % 20)]⟩)] ?_
     refine zzc ?_
     refine zyn (by kernel_rfl) ?_
     refine zya ?_
     refine zzn ?_
     refine zzc ?_
     refine zzx [0, 1, 3, 7, 3, 31, 63, 127, 255, 511, 1023, 511, 2559, 8191, 511, 16895, 511, 66047, 262143, 524287, 1048575, 2097151, 4194303, 8388607, 4194303, 33554431, 67108863, 134217727, 268435455, 536870911, 1073741823, 536870911, 4294967295, 8589934591, 17179869183, 34359738367, 68719476735, 68719476735, 274877906943, 68719476735, 68719476735, 2199023255551, 4398046511103, 8796093022207, 17592186044415, 35184372088831, 35184372088831, 140737488355327, 35184372088831, 35184372088831, 1125899906842623, 2251799813685247, 4503599627370495, 9007199254740991, 18014398509481983, 18014398509481983, 72057594037927935, 18014398509481983, 18014398509481983, 576460752303423487, 1152921504606846975, 2305843009213693951, 4611686018427387903, 9223372036854775807, 18446744073709551615, 9223372036854775807, 73786976294838206463, 147573952589676412927, 295147905179352825855, 590295810358705651711, 1180591620717411303423, 1180591620717411303423, 4722366482869645213695, 1180591620717411303423, 1180591620717411303423, 37778931862957161709567, 75557863725914323419135, 151115727451828646838271, 302231454903657293676543] [(0, []), (1, []), (2, []), (4, []), (3, []), (5, []), (6, []), (7, []), (8, []), (9, []), (10, []), (11, []), (12, []), (14, []), (15, []), (16, []), (17, []), (13, []), (18, []), (19, []), (20, []), (21, []), (22, []), (24, []), (23, []), (25, []), (26, []), (27, []), (28, []), (29, []), (31, []), (30, []), (32, []), (33, []), (34, []), (35, []), (36, []), (37, []), (39, []), (40, []), (38, []), (41, []), (42, []), (43, []), (44, []), (45, []), (46, []), (48, []), (49, []), (47, []), (50, []), (51, []), (52, []), (53, []), (54, []), (55, []), (57, []), (58, []), (56, []), (59, []), (60, []), (61, []), (62, []), (63, []), (65, []), (64, []), (66, []), (67, []), (68, []), (69, []), (70, []), (71, []), (73, []), (74, []), (72, []), (75, []), (76, []), (77, []), (78, [])] (by kernel_rfl) (by kernel_rfl) ?_
     refine zzf 144 12 [] ?_
     intro w163 u163 e163 d163
     have k166 := k_awake4 d163
     with_reducible refine Post.mono k166 ?_
     rintro _ u164 g165 rfl
     refine zza 145 (.v (.bool true)) ?_
     refine zzg 146 (.v (.agg #[.bool a1.s, a1.m.v, a1.d.v, .bool a2.s, a2.m.v, a2.d.v])) ty28 zzd ?_ (hw := w1 1 true 145)
     refine zzg 148 (.v (.agg #[.bool a1.s, a1.m.v, a1.d.v, .bool a2.s, a2.m.v, a2.d.v])) ty28 zzd ?_ (hw := w1 1 true 145)
     refine zzf 147 68 [.agg #[.bool a1.s, a1.m.v, a1.d.v, .bool a2.s, a2.m.v, a2.d.v]] ?_ (hw := w1 1 true 145)
     intro w167 u167 e167 d167
     have k174 := k_ivTrim d167 (ha1f.ext (e11.trans (g13.ext.trans (e22.trans (g24.ext.trans (e33.trans (g35.ext.trans (e44.trans (g49.ext.trans (e51.trans (g56.ext.trans (e58.trans (g63.ext.trans (e65.trans (g70.ext.trans (e74.trans (g76.ext.trans (e78.trans (g80.ext.trans (e82.trans (g86.ext.trans (e88.trans (g92.ext.trans (e95.trans (g97.ext.trans (e99.trans (g101.ext.trans (e104.trans (g106.ext.trans (e108.trans (g110.ext.trans (e113.trans (g115.ext.trans (e117.trans (g119.ext.trans (e121.trans (g123.ext.trans (e125.trans (g130.ext.trans (e132.trans (g137.ext.trans (e140.trans (g142.ext.trans (e144.trans (g149.ext.trans (e151.trans (g156.ext.trans (e159.trans (g161.ext.trans (e163.trans (g165.ext.trans e167))))))))))))))))))))))))))))))))))))))))))))))))))) (ha2f.ext (e11.trans (g13.ext.trans (e22.trans (g24.ext.trans (e33.trans (g35.ext.trans (e44.trans (g49.ext.trans (e51.trans (g56.ext.trans (e58.trans (g63.ext.trans (e65.trans (g70.ext.trans (e74.trans (g76.ext.trans (e78.trans (g80.ext.trans (e82.trans (g86.ext.trans (e88.trans (g92.ext.trans (e95.trans (g97.ext.trans (e99.trans (g101.ext.trans (e104.trans (g106.ext.trans (e108.trans (g110.ext.trans (e113.trans (g115.ext.trans (e117.trans (g119.ext.trans (e121.trans (g123.ext.trans (e125.trans (g130.ext.trans (e132.trans (g137.ext.trans (e140.trans (g142.ext.trans (e144.trans (g149.ext.trans (e151.trans (g156.ext.trans (e159.trans (g161.ext.trans (e163.trans (g165.ext.trans e167))))))))))))))))))))))))))))))))))))))))))))))))))) (by omega)
     with_reducible refine Post.mono k174 ?_
     rintro _ u172 g173 ⟨r168, r170, rfl, h169, h171⟩
     refine zzf 149 69 [.agg #[.bool a1.s, a1.m.v, a1.d.v, .bool a2.s, a2.m.v, a2.d.v]] ?_ (hw := w1 1 true 145)
     intro w175 u175 e175 d175
     have k182 := k_r4Trim d175 (ha1f.ext (e11.trans (g13.ext.trans (e22.trans (g24.ext.trans (e33.trans (g35.ext.trans (e44.trans (g49.ext.trans (e51.trans (g56.ext.trans (e58.trans (g63.ext.trans (e65.trans (g70.ext.trans (e74.trans (g76.ext.trans (e78.trans (g80.ext.trans (e82.trans (g86.ext.trans (e88.trans (g92.ext.trans (e95.trans (g97.ext.trans (e99.trans (g101.ext.trans (e104.trans (g106.ext.trans (e108.trans (g110.ext.trans (e113.trans (g115.ext.trans (e117.trans (g119.ext.trans (e121.trans (g123.ext.trans (e125.trans (g130.ext.trans (e132.trans (g137.ext.trans (e140.trans (g142.ext.trans (e144.trans (g149.ext.trans (e151.trans (g156.ext.trans (e159.trans (g161.ext.trans (e163.trans (g165.ext.trans (e167.trans (g173.ext.trans e175))))))))))))))))))))))))))))))))))))))))))))))))))))) (ha2f.ext (e11.trans (g13.ext.trans (e22.trans (g24.ext.trans (e33.trans (g35.ext.trans (e44.trans (g49.ext.trans (e51.trans (g56.ext.trans (e58.trans (g63.ext.trans (e65.trans (g70.ext.trans (e74.trans (g76.ext.trans (e78.trans (g80.ext.trans (e82.trans (g86.ext.trans (e88.trans (g92.ext.trans (e95.trans (g97.ext.trans (e99.trans (g101.ext.trans (e104.trans (g106.ext.trans (e108.trans (g110.ext.trans (e113.trans (g115.ext.trans (e117.trans (g119.ext.trans (e121.trans (g123.ext.trans (e125.trans (g130.ext.trans (e132.trans (g137.ext.trans (e140.trans (g142.ext.trans (e144.trans (g149.ext.trans (e151.trans (g156.ext.trans (e159.trans (g161.ext.trans (e163.trans (g165.ext.trans (e167.trans (g173.ext.trans e175))))))))))))))))))))))))))))))))))))))))))))))))))))) (by omega)
     with_reducible refine Post.mono k182 ?_
     rintro _ u180 g181 ⟨r176, r178, rfl, h177, h179⟩
     refine zzf 150 59 [.agg #[.bool r168.s, r168.m.v, r168.d.v, .bool r170.s, r170.m.v, r170.d.v], .agg #[.bool r176.s, r176.m.v, r176.d.v, .bool r178.s, r178.m.v, r178.d.v]] ?_ (hw := w1 1 true 145)
     intro w183 u183 e183 d183
     have k186 := k_r4Same d183 (h169.ext (e175.trans (g181.ext.trans e183))) (h171.ext (e175.trans (g181.ext.trans e183))) (h177.ext e183) (h179.ext e183)
     with_reducible refine Post.mono k186 ?_
     rintro _ u184 g185 rfl
     refine zza 151 (.v (.bool (decide ((Nt.lo x1 x2) = (Nt.lo x1 x2)) && decide ((Nt.hi x1 x2) = (Nt.hi x1 x2))))) ?_
     refine zyl 152 (x := .v (.bool (decide ((Nt.lo x1 x2) = (Nt.lo x1 x2)) && decide ((Nt.hi x1 x2) = (Nt.hi x1 x2))))) (.v (.bool true)) (by rw [show (decide ((Nt.lo x1 x2) = (Nt.lo x1 x2)) && decide ((Nt.hi x1 x2) = (Nt.hi x1 x2))) = true from (by rw [decide_eq_true rfl, decide_eq_true rfl]; rfl)]) ?_
     refine zza 153 (.adr 4 0) ?_ (hw := w1 8 true 152)
     refine zzg 154 (.v (a1.v)) ty26 zzd ?_ (hw := w1 8 true 152)
     refine zza 155 (.adr 5 3) ?_ (hw := w1 8 true 152)
     refine zzg 156 (.v (b2.v)) ty26 zzd ?_ (hw := w1 8 true 152)
     refine zza 158 (.adr 4 0) ?_ (hw := w1 8 true 152)
     refine zzg 159 (.v (a1.v)) ty26 zzd ?_ (hw := w1 8 true 152)
     refine zza 160 (.adr 5 3) ?_ (hw := w1 8 true 152)
     refine zzg 161 (.v (b2.v)) ty26 zzd ?_ (hw := w1 8 true 152)
     refine zzf 157 70 [a1.v, b2.v] ?_ (hw := w1 8 true 152)
     intro w188 u188 e188 d188
     have k195 := k_ivMake d188 (ha1f.ext (e11.trans (g13.ext.trans (e22.trans (g24.ext.trans (e33.trans (g35.ext.trans (e44.trans (g49.ext.trans (e51.trans (g56.ext.trans (e58.trans (g63.ext.trans (e65.trans (g70.ext.trans (e74.trans (g76.ext.trans (e78.trans (g80.ext.trans (e82.trans (g86.ext.trans (e88.trans (g92.ext.trans (e95.trans (g97.ext.trans (e99.trans (g101.ext.trans (e104.trans (g106.ext.trans (e108.trans (g110.ext.trans (e113.trans (g115.ext.trans (e117.trans (g119.ext.trans (e121.trans (g123.ext.trans (e125.trans (g130.ext.trans (e132.trans (g137.ext.trans (e140.trans (g142.ext.trans (e144.trans (g149.ext.trans (e151.trans (g156.ext.trans (e159.trans (g161.ext.trans (e163.trans (g165.ext.trans (e167.trans (g173.ext.trans (e175.trans (g181.ext.trans (e183.trans (g185.ext.trans e188))))))))))))))))))))))))))))))))))))))))))))))))))))))))) (hb2f.ext (e11.trans (g13.ext.trans (e22.trans (g24.ext.trans (e33.trans (g35.ext.trans (e44.trans (g49.ext.trans (e51.trans (g56.ext.trans (e58.trans (g63.ext.trans (e65.trans (g70.ext.trans (e74.trans (g76.ext.trans (e78.trans (g80.ext.trans (e82.trans (g86.ext.trans (e88.trans (g92.ext.trans (e95.trans (g97.ext.trans (e99.trans (g101.ext.trans (e104.trans (g106.ext.trans (e108.trans (g110.ext.trans (e113.trans (g115.ext.trans (e117.trans (g119.ext.trans (e121.trans (g123.ext.trans (e125.trans (g130.ext.trans (e132.trans (g137.ext.trans (e140.trans (g142.ext.trans (e144.trans (g149.ext.trans (e151.trans (g156.ext.trans (e159.trans (g161.ext.trans (e163.trans (g165.ext.trans (e167.trans (g173.ext.trans (e175.trans (g181.ext.trans (e183.trans (g185.ext.trans e188))))))))))))))))))))))))))))))))))))))))))))))))))))))))) (by omega)
     with_reducible refine Post.mono k195 ?_
     rintro _ u193 g194 ⟨r189, r191, rfl, h190, h192⟩
     refine zzf 162 46 [a1.v, b2.v] ?_ (hw := w1 8 true 152)
     intro w196 u196 e196 d196
     have k203 := k_r4Make d196 (ha1f.ext (e11.trans (g13.ext.trans (e22.trans (g24.ext.trans (e33.trans (g35.ext.trans (e44.trans (g49.ext.trans (e51.trans (g56.ext.trans (e58.trans (g63.ext.trans (e65.trans (g70.ext.trans (e74.trans (g76.ext.trans (e78.trans (g80.ext.trans (e82.trans (g86.ext.trans (e88.trans (g92.ext.trans (e95.trans (g97.ext.trans (e99.trans (g101.ext.trans (e104.trans (g106.ext.trans (e108.trans (g110.ext.trans (e113.trans (g115.ext.trans (e117.trans (g119.ext.trans (e121.trans (g123.ext.trans (e125.trans (g130.ext.trans (e132.trans (g137.ext.trans (e140.trans (g142.ext.trans (e144.trans (g149.ext.trans (e151.trans (g156.ext.trans (e159.trans (g161.ext.trans (e163.trans (g165.ext.trans (e167.trans (g173.ext.trans (e175.trans (g181.ext.trans (e183.trans (g185.ext.trans (e188.trans (g194.ext.trans e196))))))))))))))))))))))))))))))))))))))))))))))))))))))))))) (hb2f.ext (e11.trans (g13.ext.trans (e22.trans (g24.ext.trans (e33.trans (g35.ext.trans (e44.trans (g49.ext.trans (e51.trans (g56.ext.trans (e58.trans (g63.ext.trans (e65.trans (g70.ext.trans (e74.trans (g76.ext.trans (e78.trans (g80.ext.trans (e82.trans (g86.ext.trans (e88.trans (g92.ext.trans (e95.trans (g97.ext.trans (e99.trans (g101.ext.trans (e104.trans (g106.ext.trans (e108.trans (g110.ext.trans (e113.trans (g115.ext.trans (e117.trans (g119.ext.trans (e121.trans (g123.ext.trans (e125.trans (g130.ext.trans (e132.trans (g137.ext.trans (e140.trans (g142.ext.trans (e144.trans (g149.ext.trans (e151.trans (g156.ext.trans (e159.trans (g161.ext.trans (e163.trans (g165.ext.trans (e167.trans (g173.ext.trans (e175.trans (g181.ext.trans (e183.trans (g185.ext.trans (e188.trans (g194.ext.trans e196))))))))))))))))))))))))))))))))))))))))))))))))))))))))))) (by omega)
     with_reducible refine Post.mono k203 ?_
     rintro _ u201 g202 ⟨r197, r199, rfl, h198, h200⟩
     refine zzf 163 59 [.agg #[.bool r189.s, r189.m.v, r189.d.v, .bool r191.s, r191.m.v, r191.d.v], .agg #[.bool r197.s, r197.m.v, r197.d.v, .bool r199.s, r199.m.v, r199.d.v]] ?_ (hw := w1 8 true 152)
     intro w204 u204 e204 d204
     have k207 := k_r4Same d204 (h190.ext (e196.trans (g202.ext.trans e204))) (h192.ext (e196.trans (g202.ext.trans e204))) (h198.ext e204) (h200.ext e204)
     with_reducible refine Post.mono k207 ?_
     rintro _ u205 g206 rfl
     refine zza 164 (.v (.bool (decide ((Nt.lo x1 y2) = (Nt.lo x1 y2)) && decide ((Nt.hi x1 y2) = (Nt.hi x1 y2))))) ?_
     refine zyl 165 (x := .v (.bool (decide ((Nt.lo x1 y2) = (Nt.lo x1 y2)) && decide ((Nt.hi x1 y2) = (Nt.hi x1 y2))))) (.v (.bool true)) (by rw [show (decide ((Nt.lo x1 y2) = (Nt.lo x1 y2)) && decide ((Nt.hi x1 y2) = (Nt.hi x1 y2))) = true from (by rw [decide_eq_true rfl, decide_eq_true rfl]; rfl)]) ?_
     refine zzg 166 (.v (.agg #[.bool a1.s, a1.m.v, a1.d.v, .bool a2.s, a2.m.v, a2.d.v])) ty28 zzd ?_ (hw := w1 21 true 165)
     refine zzg 168 (.v (.agg #[.bool a1.s, a1.m.v, a1.d.v, .bool a2.s, a2.m.v, a2.d.v])) ty28 zzd ?_ (hw := w1 21 true 165)
     refine zzf 167 72 [.agg #[.bool a1.s, a1.m.v, a1.d.v, .bool a2.s, a2.m.v, a2.d.v]] ?_ (hw := w1 21 true 165)
     intro w209 u209 e209 d209
     have k214 := k_ivWidth d209 (ha1f.ext (e11.trans (g13.ext.trans (e22.trans (g24.ext.trans (e33.trans (g35.ext.trans (e44.trans (g49.ext.trans (e51.trans (g56.ext.trans (e58.trans (g63.ext.trans (e65.trans (g70.ext.trans (e74.trans (g76.ext.trans (e78.trans (g80.ext.trans (e82.trans (g86.ext.trans (e88.trans (g92.ext.trans (e95.trans (g97.ext.trans (e99.trans (g101.ext.trans (e104.trans (g106.ext.trans (e108.trans (g110.ext.trans (e113.trans (g115.ext.trans (e117.trans (g119.ext.trans (e121.trans (g123.ext.trans (e125.trans (g130.ext.trans (e132.trans (g137.ext.trans (e140.trans (g142.ext.trans (e144.trans (g149.ext.trans (e151.trans (g156.ext.trans (e159.trans (g161.ext.trans (e163.trans (g165.ext.trans (e167.trans (g173.ext.trans (e175.trans (g181.ext.trans (e183.trans (g185.ext.trans (e188.trans (g194.ext.trans (e196.trans (g202.ext.trans (e204.trans (g206.ext.trans e209))))))))))))))))))))))))))))))))))))))))))))))))))))))))))))))) (ha2f.ext (e11.trans (g13.ext.trans (e22.trans (g24.ext.trans (e33.trans (g35.ext.trans (e44.trans (g49.ext.trans (e51.trans (g56.ext.trans (e58.trans (g63.ext.trans (e65.trans (g70.ext.trans (e74.trans (g76.ext.trans (e78.trans (g80.ext.trans (e82.trans (g86.ext.trans (e88.trans (g92.ext.trans (e95.trans (g97.ext.trans (e99.trans (g101.ext.trans (e104.trans (g106.ext.trans (e108.trans (g110.ext.trans (e113.trans (g115.ext.trans (e117.trans (g119.ext.trans (e121.trans (g123.ext.trans (e125.trans (g130.ext.trans (e132.trans (g137.ext.trans (e140.trans (g142.ext.trans (e144.trans (g149.ext.trans (e151.trans (g156.ext.trans (e159.trans (g161.ext.trans (e163.trans (g165.ext.trans (e167.trans (g173.ext.trans (e175.trans (g181.ext.trans (e183.trans (g185.ext.trans (e188.trans (g194.ext.trans (e196.trans (g202.ext.trans (e204.trans (g206.ext.trans e209))))))))))))))))))))))))))))))))))))))))))))))))))))))))))))))) (by omega)
     with_reducible refine Post.mono k214 ?_
     rintro _ u212 g213 ⟨r210, rfl, h211⟩
     refine zzf 169 48 [.agg #[.bool a1.s, a1.m.v, a1.d.v, .bool a2.s, a2.m.v, a2.d.v]] ?_ (hw := w1 21 true 165)
     intro w215 u215 e215 d215
     have k220 := k_r4Width d215 (ha1f.ext (e11.trans (g13.ext.trans (e22.trans (g24.ext.trans (e33.trans (g35.ext.trans (e44.trans (g49.ext.trans (e51.trans (g56.ext.trans (e58.trans (g63.ext.trans (e65.trans (g70.ext.trans (e74.trans (g76.ext.trans (e78.trans (g80.ext.trans (e82.trans (g86.ext.trans (e88.trans (g92.ext.trans (e95.trans (g97.ext.trans (e99.trans (g101.ext.trans (e104.trans (g106.ext.trans (e108.trans (g110.ext.trans (e113.trans (g115.ext.trans (e117.trans (g119.ext.trans (e121.trans (g123.ext.trans (e125.trans (g130.ext.trans (e132.trans (g137.ext.trans (e140.trans (g142.ext.trans (e144.trans (g149.ext.trans (e151.trans (g156.ext.trans (e159.trans (g161.ext.trans (e163.trans (g165.ext.trans (e167.trans (g173.ext.trans (e175.trans (g181.ext.trans (e183.trans (g185.ext.trans (e188.trans (g194.ext.trans (e196.trans (g202.ext.trans (e204.trans (g206.ext.trans (e209.trans (g213.ext.trans e215))))))))))))))))))))))))))))))))))))))))))))))))))))))))))))))))) (ha2f.ext (e11.trans (g13.ext.trans (e22.trans (g24.ext.trans (e33.trans (g35.ext.trans (e44.trans (g49.ext.trans (e51.trans (g56.ext.trans (e58.trans (g63.ext.trans (e65.trans (g70.ext.trans (e74.trans (g76.ext.trans (e78.trans (g80.ext.trans (e82.trans (g86.ext.trans (e88.trans (g92.ext.trans (e95.trans (g97.ext.trans (e99.trans (g101.ext.trans (e104.trans (g106.ext.trans (e108.trans (g110.ext.trans (e113.trans (g115.ext.trans (e117.trans (g119.ext.trans (e121.trans (g123.ext.trans (e125.trans (g130.ext.trans (e132.trans (g137.ext.trans (e140.trans (g142.ext.trans (e144.trans (g149.ext.trans (e151.trans (g156.ext.trans (e159.trans (g161.ext.trans (e163.trans (g165.ext.trans (e167.trans (g173.ext.trans (e175.trans (g181.ext.trans (e183.trans (g185.ext.trans (e188.trans (g194.ext.trans (e196.trans (g202.ext.trans (e204.trans (g206.ext.trans (e209.trans (g213.ext.trans e215))))))))))))))))))))))))))))))))))))))))))))))))))))))))))))))))) (by omega)
     with_reducible refine Post.mono k220 ?_
     rintro _ u218 g219 ⟨r216, rfl, h217⟩
     refine zzf 170 71 [r210.v, r216.v] ?_ (hw := w1 21 true 165)
     intro w221 u221 e221 d221
     have k224 := k_rqSame d221 (h211.ext (e215.trans (g219.ext.trans e221))) (h217.ext e221)
     with_reducible refine Post.mono k224 ?_
     rintro _ u222 g223 rfl
     refine zza 171 (.v (.bool (decide ((Nt.absQ (x2 - x1)) = (Nt.hi x1 x2 - Nt.lo x1 x2))))) ?_
     refine zyl 172 (x := .v (.bool (decide ((Nt.absQ (x2 - x1)) = (Nt.hi x1 x2 - Nt.lo x1 x2))))) (.v (.bool true)) (by rw [show (decide ((Nt.absQ (x2 - x1)) = (Nt.hi x1 x2 - Nt.lo x1 x2))) = true from (decide_eq_true (Nt.width_eq _ _))]) ?_
     refine zzg 173 (.v (.agg #[.bool a1.s, a1.m.v, a1.d.v, .bool a2.s, a2.m.v, a2.d.v])) ty28 zzd ?_ (hw := w1 28 true 172)
     refine zzg 175 (.v (.agg #[.bool a1.s, a1.m.v, a1.d.v, .bool a2.s, a2.m.v, a2.d.v])) ty28 zzd ?_ (hw := w1 28 true 172)
     refine zzf 174 73 [.agg #[.bool a1.s, a1.m.v, a1.d.v, .bool a2.s, a2.m.v, a2.d.v]] ?_ (hw := w1 28 true 172)
     intro w226 u226 e226 d226
     have k231 := k_ivMid d226 (ha1f.ext (e11.trans (g13.ext.trans (e22.trans (g24.ext.trans (e33.trans (g35.ext.trans (e44.trans (g49.ext.trans (e51.trans (g56.ext.trans (e58.trans (g63.ext.trans (e65.trans (g70.ext.trans (e74.trans (g76.ext.trans (e78.trans (g80.ext.trans (e82.trans (g86.ext.trans (e88.trans (g92.ext.trans (e95.trans (g97.ext.trans (e99.trans (g101.ext.trans (e104.trans (g106.ext.trans (e108.trans (g110.ext.trans (e113.trans (g115.ext.trans (e117.trans (g119.ext.trans (e121.trans (g123.ext.trans (e125.trans (g130.ext.trans (e132.trans (g137.ext.trans (e140.trans (g142.ext.trans (e144.trans (g149.ext.trans (e151.trans (g156.ext.trans (e159.trans (g161.ext.trans (e163.trans (g165.ext.trans (e167.trans (g173.ext.trans (e175.trans (g181.ext.trans (e183.trans (g185.ext.trans (e188.trans (g194.ext.trans (e196.trans (g202.ext.trans (e204.trans (g206.ext.trans (e209.trans (g213.ext.trans (e215.trans (g219.ext.trans (e221.trans (g223.ext.trans e226))))))))))))))))))))))))))))))))))))))))))))))))))))))))))))))))))))) (ha2f.ext (e11.trans (g13.ext.trans (e22.trans (g24.ext.trans (e33.trans (g35.ext.trans (e44.trans (g49.ext.trans (e51.trans (g56.ext.trans (e58.trans (g63.ext.trans (e65.trans (g70.ext.trans (e74.trans (g76.ext.trans (e78.trans (g80.ext.trans (e82.trans (g86.ext.trans (e88.trans (g92.ext.trans (e95.trans (g97.ext.trans (e99.trans (g101.ext.trans (e104.trans (g106.ext.trans (e108.trans (g110.ext.trans (e113.trans (g115.ext.trans (e117.trans (g119.ext.trans (e121.trans (g123.ext.trans (e125.trans (g130.ext.trans (e132.trans (g137.ext.trans (e140.trans (g142.ext.trans (e144.trans (g149.ext.trans (e151.trans (g156.ext.trans (e159.trans (g161.ext.trans (e163.trans (g165.ext.trans (e167.trans (g173.ext.trans (e175.trans (g181.ext.trans (e183.trans (g185.ext.trans (e188.trans (g194.ext.trans (e196.trans (g202.ext.trans (e204.trans (g206.ext.trans (e209.trans (g213.ext.trans (e215.trans (g219.ext.trans (e221.trans (g223.ext.trans e226))))))))))))))))))))))))))))))))))))))))))))))))))))))))))))))))))))) (by omega)
     with_reducible refine Post.mono k231 ?_
     rintro _ u229 g230 ⟨r227, rfl, h228⟩
     refine zzf 176 74 [.agg #[.bool a1.s, a1.m.v, a1.d.v, .bool a2.s, a2.m.v, a2.d.v]] ?_ (hw := w1 28 true 172)
     intro w232 u232 e232 d232
     have k237 := k_r4Mid d232 (ha1f.ext (e11.trans (g13.ext.trans (e22.trans (g24.ext.trans (e33.trans (g35.ext.trans (e44.trans (g49.ext.trans (e51.trans (g56.ext.trans (e58.trans (g63.ext.trans (e65.trans (g70.ext.trans (e74.trans (g76.ext.trans (e78.trans (g80.ext.trans (e82.trans (g86.ext.trans (e88.trans (g92.ext.trans (e95.trans (g97.ext.trans (e99.trans (g101.ext.trans (e104.trans (g106.ext.trans (e108.trans (g110.ext.trans (e113.trans (g115.ext.trans (e117.trans (g119.ext.trans (e121.trans (g123.ext.trans (e125.trans (g130.ext.trans (e132.trans (g137.ext.trans (e140.trans (g142.ext.trans (e144.trans (g149.ext.trans (e151.trans (g156.ext.trans (e159.trans (g161.ext.trans (e163.trans (g165.ext.trans (e167.trans (g173.ext.trans (e175.trans (g181.ext.trans (e183.trans (g185.ext.trans (e188.trans (g194.ext.trans (e196.trans (g202.ext.trans (e204.trans (g206.ext.trans (e209.trans (g213.ext.trans (e215.trans (g219.ext.trans (e221.trans (g223.ext.trans (e226.trans (g230.ext.trans e232))))))))))))))))))))))))))))))))))))))))))))))))))))))))))))))))))))))) (ha2f.ext (e11.trans (g13.ext.trans (e22.trans (g24.ext.trans (e33.trans (g35.ext.trans (e44.trans (g49.ext.trans (e51.trans (g56.ext.trans (e58.trans (g63.ext.trans (e65.trans (g70.ext.trans (e74.trans (g76.ext.trans (e78.trans (g80.ext.trans (e82.trans (g86.ext.trans (e88.trans (g92.ext.trans (e95.trans (g97.ext.trans (e99.trans (g101.ext.trans (e104.trans (g106.ext.trans (e108.trans (g110.ext.trans (e113.trans (g115.ext.trans (e117.trans (g119.ext.trans (e121.trans (g123.ext.trans (e125.trans (g130.ext.trans (e132.trans (g137.ext.trans (e140.trans (g142.ext.trans (e144.trans (g149.ext.trans (e151.trans (g156.ext.trans (e159.trans (g161.ext.trans (e163.trans (g165.ext.trans (e167.trans (g173.ext.trans (e175.trans (g181.ext.trans (e183.trans (g185.ext.trans (e188.trans (g194.ext.trans (e196.trans (g202.ext.trans (e204.trans (g206.ext.trans (e209.trans (g213.ext.trans (e215.trans (g219.ext.trans (e221.trans (g223.ext.trans (e226.trans (g230.ext.trans e232))))))))))))))))))))))))))))))))))))))))))))))))))))))))))))))))))))))) (by omega)
     with_reducible refine Post.mono k237 ?_
     rintro _ u235 g236 ⟨r233, rfl, h234⟩
     refine zzf 177 71 [r227.v, r233.v] ?_ (hw := w1 28 true 172)
     intro w238 u238 e238 d238
     have k241 := k_rqSame d238 (h228.ext (e232.trans (g236.ext.trans e238))) (h234.ext e238)
     with_reducible refine Post.mono k241 ?_
     rintro _ u239 g240 rfl
     refine zza 178 (.v (.bool (decide (((x1 + x2) * (((1 : Int) : Rat) / ((2 : Int) : Rat))) = ((x1 + x2) * (((1 : Int) : Rat) / ((2 : Int) : Rat))))))) ?_
     refine zyl 179 (x := .v (.bool (decide (((x1 + x2) * (((1 : Int) : Rat) / ((2 : Int) : Rat))) = ((x1 + x2) * (((1 : Int) : Rat) / ((2 : Int) : Rat))))))) (.v (.bool true)) (by rw [show (decide (((x1 + x2) * (((1 : Int) : Rat) / ((2 : Int) : Rat))) = ((x1 + x2) * (((1 : Int) : Rat) / ((2 : Int) : Rat))))) = true from (decide_eq_true rfl)]) ?_
     refine zzg 180 (.v (.agg #[.bool a1.s, a1.m.v, a1.d.v, .bool a2.s, a2.m.v, a2.d.v])) ty28 zzd ?_ (hw := w1 35 true 179)
     refine zzg 181 (.v (.agg #[.bool b1.s, b1.m.v, b1.d.v, .bool b2.s, b2.m.v, b2.d.v])) ty28 zzd ?_ (hw := w1 35 true 179)
     refine zzg 183 (.v (.agg #[.bool a1.s, a1.m.v, a1.d.v, .bool a2.s, a2.m.v, a2.d.v])) ty28 zzd ?_ (hw := w1 35 true 179)
     refine zzg 184 (.v (.agg #[.bool b1.s, b1.m.v, b1.d.v, .bool b2.s, b2.m.v, b2.d.v])) ty28 zzd ?_ (hw := w1 35 true 179)
     refine zzf 182 17 [.agg #[.bool a1.s, a1.m.v, a1.d.v, .bool a2.s, a2.m.v, a2.d.v], .agg #[.bool b1.s, b1.m.v, b1.d.v, .bool b2.s, b2.m.v, b2.d.v]] ?_ (hw := w1 35 true 179)
     intro w243 u243 e243 d243
     have k250 := k_ivAdd d243 (ha1f.ext (e11.trans (g13.ext.trans (e22.trans (g24.ext.trans (e33.trans (g35.ext.trans (e44.trans (g49.ext.trans (e51.trans (g56.ext.trans (e58.trans (g63.ext.trans (e65.trans (g70.ext.trans (e74.trans (g76.ext.trans (e78.trans (g80.ext.trans (e82.trans (g86.ext.trans (e88.trans (g92.ext.trans (e95.trans (g97.ext.trans (e99.trans (g101.ext.trans (e104.trans (g106.ext.trans (e108.trans (g110.ext.trans (e113.trans (g115.ext.trans (e117.trans (g119.ext.trans (e121.trans (g123.ext.trans (e125.trans (g130.ext.trans (e132.trans (g137.ext.trans (e140.trans (g142.ext.trans (e144.trans (g149.ext.trans (e151.trans (g156.ext.trans (e159.trans (g161.ext.trans (e163.trans (g165.ext.trans (e167.trans (g173.ext.trans (e175.trans (g181.ext.trans (e183.trans (g185.ext.trans (e188.trans (g194.ext.trans (e196.trans (g202.ext.trans (e204.trans (g206.ext.trans (e209.trans (g213.ext.trans (e215.trans (g219.ext.trans (e221.trans (g223.ext.trans (e226.trans (g230.ext.trans (e232.trans (g236.ext.trans (e238.trans (g240.ext.trans e243))))))))))))))))))))))))))))))))))))))))))))))))))))))))))))))))))))))))))) (ha2f.ext (e11.trans (g13.ext.trans (e22.trans (g24.ext.trans (e33.trans (g35.ext.trans (e44.trans (g49.ext.trans (e51.trans (g56.ext.trans (e58.trans (g63.ext.trans (e65.trans (g70.ext.trans (e74.trans (g76.ext.trans (e78.trans (g80.ext.trans (e82.trans (g86.ext.trans (e88.trans (g92.ext.trans (e95.trans (g97.ext.trans (e99.trans (g101.ext.trans (e104.trans (g106.ext.trans (e108.trans (g110.ext.trans (e113.trans (g115.ext.trans (e117.trans (g119.ext.trans (e121.trans (g123.ext.trans (e125.trans (g130.ext.trans (e132.trans (g137.ext.trans (e140.trans (g142.ext.trans (e144.trans (g149.ext.trans (e151.trans (g156.ext.trans (e159.trans (g161.ext.trans (e163.trans (g165.ext.trans (e167.trans (g173.ext.trans (e175.trans (g181.ext.trans (e183.trans (g185.ext.trans (e188.trans (g194.ext.trans (e196.trans (g202.ext.trans (e204.trans (g206.ext.trans (e209.trans (g213.ext.trans (e215.trans (g219.ext.trans (e221.trans (g223.ext.trans (e226.trans (g230.ext.trans (e232.trans (g236.ext.trans (e238.trans (g240.ext.trans e243))))))))))))))))))))))))))))))))))))))))))))))))))))))))))))))))))))))))))) (hb1f.ext (e11.trans (g13.ext.trans (e22.trans (g24.ext.trans (e33.trans (g35.ext.trans (e44.trans (g49.ext.trans (e51.trans (g56.ext.trans (e58.trans (g63.ext.trans (e65.trans (g70.ext.trans (e74.trans (g76.ext.trans (e78.trans (g80.ext.trans (e82.trans (g86.ext.trans (e88.trans (g92.ext.trans (e95.trans (g97.ext.trans (e99.trans (g101.ext.trans (e104.trans (g106.ext.trans (e108.trans (g110.ext.trans (e113.trans (g115.ext.trans (e117.trans (g119.ext.trans (e121.trans (g123.ext.trans (e125.trans (g130.ext.trans (e132.trans (g137.ext.trans (e140.trans (g142.ext.trans (e144.trans (g149.ext.trans (e151.trans (g156.ext.trans (e159.trans (g161.ext.trans (e163.trans (g165.ext.trans (e167.trans (g173.ext.trans (e175.trans (g181.ext.trans (e183.trans (g185.ext.trans (e188.trans (g194.ext.trans (e196.trans (g202.ext.trans (e204.trans (g206.ext.trans (e209.trans (g213.ext.trans (e215.trans (g219.ext.trans (e221.trans (g223.ext.trans (e226.trans (g230.ext.trans (e232.trans (g236.ext.trans (e238.trans (g240.ext.trans e243))))))))))))))))))))))))))))))))))))))))))))))))))))))))))))))))))))))))))) (hb2f.ext (e11.trans (g13.ext.trans (e22.trans (g24.ext.trans (e33.trans (g35.ext.trans (e44.trans (g49.ext.trans (e51.trans (g56.ext.trans (e58.trans (g63.ext.trans (e65.trans (g70.ext.trans (e74.trans (g76.ext.trans (e78.trans (g80.ext.trans (e82.trans (g86.ext.trans (e88.trans (g92.ext.trans (e95.trans (g97.ext.trans (e99.trans (g101.ext.trans (e104.trans (g106.ext.trans (e108.trans (g110.ext.trans (e113.trans (g115.ext.trans (e117.trans (g119.ext.trans (e121.trans (g123.ext.trans (e125.trans (g130.ext.trans (e132.trans (g137.ext.trans (e140.trans (g142.ext.trans (e144.trans (g149.ext.trans (e151.trans (g156.ext.trans (e159.trans (g161.ext.trans (e163.trans (g165.ext.trans (e167.trans (g173.ext.trans (e175.trans (g181.ext.trans (e183.trans (g185.ext.trans (e188.trans (g194.ext.trans (e196.trans (g202.ext.trans (e204.trans (g206.ext.trans (e209.trans (g213.ext.trans (e215.trans (g219.ext.trans (e221.trans (g223.ext.trans (e226.trans (g230.ext.trans (e232.trans (g236.ext.trans (e238.trans (g240.ext.trans e243))))))))))))))))))))))))))))))))))))))))))))))))))))))))))))))))))))))))))) (by omega) (by omega)
     with_reducible refine Post.mono k250 ?_
     rintro _ u248 g249 ⟨r244, r246, rfl, h245, h247⟩
     refine zzf 185 75 [.agg #[.bool a1.s, a1.m.v, a1.d.v, .bool a2.s, a2.m.v, a2.d.v], .agg #[.bool b1.s, b1.m.v, b1.d.v, .bool b2.s, b2.m.v, b2.d.v]] ?_ (hw := w1 35 true 179)
     intro w251 u251 e251 d251
     have k258 := k_r4Add d251 (ha1f.ext (e11.trans (g13.ext.trans (e22.trans (g24.ext.trans (e33.trans (g35.ext.trans (e44.trans (g49.ext.trans (e51.trans (g56.ext.trans (e58.trans (g63.ext.trans (e65.trans (g70.ext.trans (e74.trans (g76.ext.trans (e78.trans (g80.ext.trans (e82.trans (g86.ext.trans (e88.trans (g92.ext.trans (e95.trans (g97.ext.trans (e99.trans (g101.ext.trans (e104.trans (g106.ext.trans (e108.trans (g110.ext.trans (e113.trans (g115.ext.trans (e117.trans (g119.ext.trans (e121.trans (g123.ext.trans (e125.trans (g130.ext.trans (e132.trans (g137.ext.trans (e140.trans (g142.ext.trans (e144.trans (g149.ext.trans (e151.trans (g156.ext.trans (e159.trans (g161.ext.trans (e163.trans (g165.ext.trans (e167.trans (g173.ext.trans (e175.trans (g181.ext.trans (e183.trans (g185.ext.trans (e188.trans (g194.ext.trans (e196.trans (g202.ext.trans (e204.trans (g206.ext.trans (e209.trans (g213.ext.trans (e215.trans (g219.ext.trans (e221.trans (g223.ext.trans (e226.trans (g230.ext.trans (e232.trans (g236.ext.trans (e238.trans (g240.ext.trans (e243.trans (g249.ext.trans e251))))))))))))))))))))))))))))))))))))))))))))))))))))))))))))))))))))))))))))) (ha2f.ext (e11.trans (g13.ext.trans (e22.trans (g24.ext.trans (e33.trans (g35.ext.trans (e44.trans (g49.ext.trans (e51.trans (g56.ext.trans (e58.trans (g63.ext.trans (e65.trans (g70.ext.trans (e74.trans (g76.ext.trans (e78.trans (g80.ext.trans (e82.trans (g86.ext.trans (e88.trans (g92.ext.trans (e95.trans (g97.ext.trans (e99.trans (g101.ext.trans (e104.trans (g106.ext.trans (e108.trans (g110.ext.trans (e113.trans (g115.ext.trans (e117.trans (g119.ext.trans (e121.trans (g123.ext.trans (e125.trans (g130.ext.trans (e132.trans (g137.ext.trans (e140.trans (g142.ext.trans (e144.trans (g149.ext.trans (e151.trans (g156.ext.trans (e159.trans (g161.ext.trans (e163.trans (g165.ext.trans (e167.trans (g173.ext.trans (e175.trans (g181.ext.trans (e183.trans (g185.ext.trans (e188.trans (g194.ext.trans (e196.trans (g202.ext.trans (e204.trans (g206.ext.trans (e209.trans (g213.ext.trans (e215.trans (g219.ext.trans (e221.trans (g223.ext.trans (e226.trans (g230.ext.trans (e232.trans (g236.ext.trans (e238.trans (g240.ext.trans (e243.trans (g249.ext.trans e251))))))))))))))))))))))))))))))))))))))))))))))))))))))))))))))))))))))))))))) (hb1f.ext (e11.trans (g13.ext.trans (e22.trans (g24.ext.trans (e33.trans (g35.ext.trans (e44.trans (g49.ext.trans (e51.trans (g56.ext.trans (e58.trans (g63.ext.trans (e65.trans (g70.ext.trans (e74.trans (g76.ext.trans (e78.trans (g80.ext.trans (e82.trans (g86.ext.trans (e88.trans (g92.ext.trans (e95.trans (g97.ext.trans (e99.trans (g101.ext.trans (e104.trans (g106.ext.trans (e108.trans (g110.ext.trans (e113.trans (g115.ext.trans (e117.trans (g119.ext.trans (e121.trans (g123.ext.trans (e125.trans (g130.ext.trans (e132.trans (g137.ext.trans (e140.trans (g142.ext.trans (e144.trans (g149.ext.trans (e151.trans (g156.ext.trans (e159.trans (g161.ext.trans (e163.trans (g165.ext.trans (e167.trans (g173.ext.trans (e175.trans (g181.ext.trans (e183.trans (g185.ext.trans (e188.trans (g194.ext.trans (e196.trans (g202.ext.trans (e204.trans (g206.ext.trans (e209.trans (g213.ext.trans (e215.trans (g219.ext.trans (e221.trans (g223.ext.trans (e226.trans (g230.ext.trans (e232.trans (g236.ext.trans (e238.trans (g240.ext.trans (e243.trans (g249.ext.trans e251))))))))))))))))))))))))))))))))))))))))))))))))))))))))))))))))))))))))))))) (hb2f.ext (e11.trans (g13.ext.trans (e22.trans (g24.ext.trans (e33.trans (g35.ext.trans (e44.trans (g49.ext.trans (e51.trans (g56.ext.trans (e58.trans (g63.ext.trans (e65.trans (g70.ext.trans (e74.trans (g76.ext.trans (e78.trans (g80.ext.trans (e82.trans (g86.ext.trans (e88.trans (g92.ext.trans (e95.trans (g97.ext.trans (e99.trans (g101.ext.trans (e104.trans (g106.ext.trans (e108.trans (g110.ext.trans (e113.trans (g115.ext.trans (e117.trans (g119.ext.trans (e121.trans (g123.ext.trans (e125.trans (g130.ext.trans (e132.trans (g137.ext.trans (e140.trans (g142.ext.trans (e144.trans (g149.ext.trans (e151.trans (g156.ext.trans (e159.trans (g161.ext.trans (e163.trans (g165.ext.trans (e167.trans (g173.ext.trans (e175.trans (g181.ext.trans (e183.trans (g185.ext.trans (e188.trans (g194.ext.trans (e196.trans (g202.ext.trans (e204.trans (g206.ext.trans (e209.trans (g213.ext.trans (e215.trans (g219.ext.trans (e221.trans (g223.ext.trans (e226.trans (g230.ext.trans (e232.trans (g236.ext.trans (e238.trans (g240.ext.trans (e243.trans (g249.ext.trans e251))))))))))))))))))))))))))))))))))))))))))))))))))))))))))))))))))))))))))))) (by omega) (by omega)
     with_reducible refine Post.mono k258 ?_
     rintro _ u256 g257 ⟨r252, r254, rfl, h253, h255⟩
     refine zzf 186 59 [.agg #[.bool r244.s, r244.m.v, r244.d.v, .bool r246.s, r246.m.v, r246.d.v], .agg #[.bool r252.s, r252.m.v, r252.d.v, .bool r254.s, r254.m.v, r254.d.v]] ?_ (hw := w1 35 true 179)
     intro w259 u259 e259 d259
     have k262 := k_r4Same d259 (h245.ext (e251.trans (g257.ext.trans e259))) (h247.ext (e251.trans (g257.ext.trans e259))) (h253.ext e259) (h255.ext e259)
     with_reducible refine Post.mono k262 ?_
     rintro _ u260 g261 rfl
     refine zza 187 (.v (.bool (decide ((Nt.lo x1 x2 + Nt.lo y1 y2) = (Nt.lo x1 x2 + Nt.lo y1 y2)) && decide ((Nt.hi x1 x2 + Nt.hi y1 y2) = (Nt.hi x1 x2 + Nt.hi y1 y2))))) ?_
     refine zyl 188 (x := .v (.bool (decide ((Nt.lo x1 x2 + Nt.lo y1 y2) = (Nt.lo x1 x2 + Nt.lo y1 y2)) && decide ((Nt.hi x1 x2 + Nt.hi y1 y2) = (Nt.hi x1 x2 + Nt.hi y1 y2))))) (.v (.bool true)) (by rw [show (decide ((Nt.lo x1 x2 + Nt.lo y1 y2) = (Nt.lo x1 x2 + Nt.lo y1 y2)) && decide ((Nt.hi x1 x2 + Nt.hi y1 y2) = (Nt.hi x1 x2 + Nt.hi y1 y2))) = true from (by rw [decide_eq_true rfl, decide_eq_true rfl]; rfl)]) ?_
     refine zzg 189 (.v (.agg #[.bool a1.s, a1.m.v, a1.d.v, .bool a2.s, a2.m.v, a2.d.v])) ty28 zzd ?_ (hw := w1 44 true 188)
     refine zzg 190 (.v (.agg #[.bool b1.s, b1.m.v, b1.d.v, .bool b2.s, b2.m.v, b2.d.v])) ty28 zzd ?_ (hw := w1 44 true 188)
     refine zzg 192 (.v (.agg #[.bool a1.s, a1.m.v, a1.d.v, .bool a2.s, a2.m.v, a2.d.v])) ty28 zzd ?_ (hw := w1 44 true 188)
     refine zzg 193 (.v (.agg #[.bool b1.s, b1.m.v, b1.d.v, .bool b2.s, b2.m.v, b2.d.v])) ty28 zzd ?_ (hw := w1 44 true 188)
     refine zzf 191 19 [.agg #[.bool a1.s, a1.m.v, a1.d.v, .bool a2.s, a2.m.v, a2.d.v], .agg #[.bool b1.s, b1.m.v, b1.d.v, .bool b2.s, b2.m.v, b2.d.v]] ?_ (hw := w1 44 true 188)
     intro w264 u264 e264 d264
     have k271 := k_ivSub d264 (ha1f.ext (e11.trans (g13.ext.trans (e22.trans (g24.ext.trans (e33.trans (g35.ext.trans (e44.trans (g49.ext.trans (e51.trans (g56.ext.trans (e58.trans (g63.ext.trans (e65.trans (g70.ext.trans (e74.trans (g76.ext.trans (e78.trans (g80.ext.trans (e82.trans (g86.ext.trans (e88.trans (g92.ext.trans (e95.trans (g97.ext.trans (e99.trans (g101.ext.trans (e104.trans (g106.ext.trans (e108.trans (g110.ext.trans (e113.trans (g115.ext.trans (e117.trans (g119.ext.trans (e121.trans (g123.ext.trans (e125.trans (g130.ext.trans (e132.trans (g137.ext.trans (e140.trans (g142.ext.trans (e144.trans (g149.ext.trans (e151.trans (g156.ext.trans (e159.trans (g161.ext.trans (e163.trans (g165.ext.trans (e167.trans (g173.ext.trans (e175.trans (g181.ext.trans (e183.trans (g185.ext.trans (e188.trans (g194.ext.trans (e196.trans (g202.ext.trans (e204.trans (g206.ext.trans (e209.trans (g213.ext.trans (e215.trans (g219.ext.trans (e221.trans (g223.ext.trans (e226.trans (g230.ext.trans (e232.trans (g236.ext.trans (e238.trans (g240.ext.trans (e243.trans (g249.ext.trans (e251.trans (g257.ext.trans (e259.trans (g261.ext.trans e264))))))))))))))))))))))))))))))))))))))))))))))))))))))))))))))))))))))))))))))))) (ha2f.ext (e11.trans (g13.ext.trans (e22.trans (g24.ext.trans (e33.trans (g35.ext.trans (e44.trans (g49.ext.trans (e51.trans (g56.ext.trans (e58.trans (g63.ext.trans (e65.trans (g70.ext.trans (e74.trans (g76.ext.trans (e78.trans (g80.ext.trans (e82.trans (g86.ext.trans (e88.trans (g92.ext.trans (e95.trans (g97.ext.trans (e99.trans (g101.ext.trans (e104.trans (g106.ext.trans (e108.trans (g110.ext.trans (e113.trans (g115.ext.trans (e117.trans (g119.ext.trans (e121.trans (g123.ext.trans (e125.trans (g130.ext.trans (e132.trans (g137.ext.trans (e140.trans (g142.ext.trans (e144.trans (g149.ext.trans (e151.trans (g156.ext.trans (e159.trans (g161.ext.trans (e163.trans (g165.ext.trans (e167.trans (g173.ext.trans (e175.trans (g181.ext.trans (e183.trans (g185.ext.trans (e188.trans (g194.ext.trans (e196.trans (g202.ext.trans (e204.trans (g206.ext.trans (e209.trans (g213.ext.trans (e215.trans (g219.ext.trans (e221.trans (g223.ext.trans (e226.trans (g230.ext.trans (e232.trans (g236.ext.trans (e238.trans (g240.ext.trans (e243.trans (g249.ext.trans (e251.trans (g257.ext.trans (e259.trans (g261.ext.trans e264))))))))))))))))))))))))))))))))))))))))))))))))))))))))))))))))))))))))))))))))) (hb1f.ext (e11.trans (g13.ext.trans (e22.trans (g24.ext.trans (e33.trans (g35.ext.trans (e44.trans (g49.ext.trans (e51.trans (g56.ext.trans (e58.trans (g63.ext.trans (e65.trans (g70.ext.trans (e74.trans (g76.ext.trans (e78.trans (g80.ext.trans (e82.trans (g86.ext.trans (e88.trans (g92.ext.trans (e95.trans (g97.ext.trans (e99.trans (g101.ext.trans (e104.trans (g106.ext.trans (e108.trans (g110.ext.trans (e113.trans (g115.ext.trans (e117.trans (g119.ext.trans (e121.trans (g123.ext.trans (e125.trans (g130.ext.trans (e132.trans (g137.ext.trans (e140.trans (g142.ext.trans (e144.trans (g149.ext.trans (e151.trans (g156.ext.trans (e159.trans (g161.ext.trans (e163.trans (g165.ext.trans (e167.trans (g173.ext.trans (e175.trans (g181.ext.trans (e183.trans (g185.ext.trans (e188.trans (g194.ext.trans (e196.trans (g202.ext.trans (e204.trans (g206.ext.trans (e209.trans (g213.ext.trans (e215.trans (g219.ext.trans (e221.trans (g223.ext.trans (e226.trans (g230.ext.trans (e232.trans (g236.ext.trans (e238.trans (g240.ext.trans (e243.trans (g249.ext.trans (e251.trans (g257.ext.trans (e259.trans (g261.ext.trans e264))))))))))))))))))))))))))))))))))))))))))))))))))))))))))))))))))))))))))))))))) (hb2f.ext (e11.trans (g13.ext.trans (e22.trans (g24.ext.trans (e33.trans (g35.ext.trans (e44.trans (g49.ext.trans (e51.trans (g56.ext.trans (e58.trans (g63.ext.trans (e65.trans (g70.ext.trans (e74.trans (g76.ext.trans (e78.trans (g80.ext.trans (e82.trans (g86.ext.trans (e88.trans (g92.ext.trans (e95.trans (g97.ext.trans (e99.trans (g101.ext.trans (e104.trans (g106.ext.trans (e108.trans (g110.ext.trans (e113.trans (g115.ext.trans (e117.trans (g119.ext.trans (e121.trans (g123.ext.trans (e125.trans (g130.ext.trans (e132.trans (g137.ext.trans (e140.trans (g142.ext.trans (e144.trans (g149.ext.trans (e151.trans (g156.ext.trans (e159.trans (g161.ext.trans (e163.trans (g165.ext.trans (e167.trans (g173.ext.trans (e175.trans (g181.ext.trans (e183.trans (g185.ext.trans (e188.trans (g194.ext.trans (e196.trans (g202.ext.trans (e204.trans (g206.ext.trans (e209.trans (g213.ext.trans (e215.trans (g219.ext.trans (e221.trans (g223.ext.trans (e226.trans (g230.ext.trans (e232.trans (g236.ext.trans (e238.trans (g240.ext.trans (e243.trans (g249.ext.trans (e251.trans (g257.ext.trans (e259.trans (g261.ext.trans e264))))))))))))))))))))))))))))))))))))))))))))))))))))))))))))))))))))))))))))))))) (by omega) (by omega)
     with_reducible refine Post.mono k271 ?_
     rintro _ u269 g270 ⟨r265, r267, rfl, h266, h268⟩
     refine zzf 194 76 [.agg #[.bool a1.s, a1.m.v, a1.d.v, .bool a2.s, a2.m.v, a2.d.v], .agg #[.bool b1.s, b1.m.v, b1.d.v, .bool b2.s, b2.m.v, b2.d.v]] ?_ (hw := w1 44 true 188)
     intro w272 u272 e272 d272
     have k279 := k_r4Sub d272 (ha1f.ext (e11.trans (g13.ext.trans (e22.trans (g24.ext.trans (e33.trans (g35.ext.trans (e44.trans (g49.ext.trans (e51.trans (g56.ext.trans (e58.trans (g63.ext.trans (e65.trans (g70.ext.trans (e74.trans (g76.ext.trans (e78.trans (g80.ext.trans (e82.trans (g86.ext.trans (e88.trans (g92.ext.trans (e95.trans (g97.ext.trans (e99.trans (g101.ext.trans (e104.trans (g106.ext.trans (e108.trans (g110.ext.trans (e113.trans (g115.ext.trans (e117.trans (g119.ext.trans (e121.trans (g123.ext.trans (e125.trans (g130.ext.trans (e132.trans (g137.ext.trans (e140.trans (g142.ext.trans (e144.trans (g149.ext.trans (e151.trans (g156.ext.trans (e159.trans (g161.ext.trans (e163.trans (g165.ext.trans (e167.trans (g173.ext.trans (e175.trans (g181.ext.trans (e183.trans (g185.ext.trans (e188.trans (g194.ext.trans (e196.trans (g202.ext.trans (e204.trans (g206.ext.trans (e209.trans (g213.ext.trans (e215.trans (g219.ext.trans (e221.trans (g223.ext.trans (e226.trans (g230.ext.trans (e232.trans (g236.ext.trans (e238.trans (g240.ext.trans (e243.trans (g249.ext.trans (e251.trans (g257.ext.trans (e259.trans (g261.ext.trans (e264.trans (g270.ext.trans e272))))))))))))))))))))))))))))))))))))))))))))))))))))))))))))))))))))))))))))))))))) (ha2f.ext (e11.trans (g13.ext.trans (e22.trans (g24.ext.trans (e33.trans (g35.ext.trans (e44.trans (g49.ext.trans (e51.trans (g56.ext.trans (e58.trans (g63.ext.trans (e65.trans (g70.ext.trans (e74.trans (g76.ext.trans (e78.trans (g80.ext.trans (e82.trans (g86.ext.trans (e88.trans (g92.ext.trans (e95.trans (g97.ext.trans (e99.trans (g101.ext.trans (e104.trans (g106.ext.trans (e108.trans (g110.ext.trans (e113.trans (g115.ext.trans (e117.trans (g119.ext.trans (e121.trans (g123.ext.trans (e125.trans (g130.ext.trans (e132.trans (g137.ext.trans (e140.trans (g142.ext.trans (e144.trans (g149.ext.trans (e151.trans (g156.ext.trans (e159.trans (g161.ext.trans (e163.trans (g165.ext.trans (e167.trans (g173.ext.trans (e175.trans (g181.ext.trans (e183.trans (g185.ext.trans (e188.trans (g194.ext.trans (e196.trans (g202.ext.trans (e204.trans (g206.ext.trans (e209.trans (g213.ext.trans (e215.trans (g219.ext.trans (e221.trans (g223.ext.trans (e226.trans (g230.ext.trans (e232.trans (g236.ext.trans (e238.trans (g240.ext.trans (e243.trans (g249.ext.trans (e251.trans (g257.ext.trans (e259.trans (g261.ext.trans (e264.trans (g270.ext.trans e272))))))))))))))))))))))))))))))))))))))))))))))))))))))))))))))))))))))))))))))))))) (hb1f.ext (e11.trans (g13.ext.trans (e22.trans (g24.ext.trans (e33.trans (g35.ext.trans (e44.trans (g49.ext.trans (e51.trans (g56.ext.trans (e58.trans (g63.ext.trans (e65.trans (g70.ext.trans (e74.trans (g76.ext.trans (e78.trans (g80.ext.trans (e82.trans (g86.ext.trans (e88.trans (g92.ext.trans (e95.trans (g97.ext.trans (e99.trans (g101.ext.trans (e104.trans (g106.ext.trans (e108.trans (g110.ext.trans (e113.trans (g115.ext.trans (e117.trans (g119.ext.trans (e121.trans (g123.ext.trans (e125.trans (g130.ext.trans (e132.trans (g137.ext.trans (e140.trans (g142.ext.trans (e144.trans (g149.ext.trans (e151.trans (g156.ext.trans (e159.trans (g161.ext.trans (e163.trans (g165.ext.trans (e167.trans (g173.ext.trans (e175.trans (g181.ext.trans (e183.trans (g185.ext.trans (e188.trans (g194.ext.trans (e196.trans (g202.ext.trans (e204.trans (g206.ext.trans (e209.trans (g213.ext.trans (e215.trans (g219.ext.trans (e221.trans (g223.ext.trans (e226.trans (g230.ext.trans (e232.trans (g236.ext.trans (e238.trans (g240.ext.trans (e243.trans (g249.ext.trans (e251.trans (g257.ext.trans (e259.trans (g261.ext.trans (e264.trans (g270.ext.trans e272))))))))))))))))))))))))))))))))))))))))))))))))))))))))))))))))))))))))))))))))))) (hb2f.ext (e11.trans (g13.ext.trans (e22.trans (g24.ext.trans (e33.trans (g35.ext.trans (e44.trans (g49.ext.trans (e51.trans (g56.ext.trans (e58.trans (g63.ext.trans (e65.trans (g70.ext.trans (e74.trans (g76.ext.trans (e78.trans (g80.ext.trans (e82.trans (g86.ext.trans (e88.trans (g92.ext.trans (e95.trans (g97.ext.trans (e99.trans (g101.ext.trans (e104.trans (g106.ext.trans (e108.trans (g110.ext.trans (e113.trans (g115.ext.trans (e117.trans (g119.ext.trans (e121.trans (g123.ext.trans (e125.trans (g130.ext.trans (e132.trans (g137.ext.trans (e140.trans (g142.ext.trans (e144.trans (g149.ext.trans (e151.trans (g156.ext.trans (e159.trans (g161.ext.trans (e163.trans (g165.ext.trans (e167.trans (g173.ext.trans (e175.trans (g181.ext.trans (e183.trans (g185.ext.trans (e188.trans (g194.ext.trans (e196.trans (g202.ext.trans (e204.trans (g206.ext.trans (e209.trans (g213.ext.trans (e215.trans (g219.ext.trans (e221.trans (g223.ext.trans (e226.trans (g230.ext.trans (e232.trans (g236.ext.trans (e238.trans (g240.ext.trans (e243.trans (g249.ext.trans (e251.trans (g257.ext.trans (e259.trans (g261.ext.trans (e264.trans (g270.ext.trans e272))))))))))))))))))))))))))))))))))))))))))))))))))))))))))))))))))))))))))))))))))) (by omega) (by omega)
     with_reducible refine Post.mono k279 ?_
     rintro _ u277 g278 ⟨r273, r275, rfl, h274, h276⟩
     refine zzf 195 59 [.agg #[.bool r265.s, r265.m.v, r265.d.v, .bool r267.s, r267.m.v, r267.d.v], .agg #[.bool r273.s, r273.m.v, r273.d.v, .bool r275.s, r275.m.v, r275.d.v]] ?_ (hw := w1 44 true 188)
     intro w280 u280 e280 d280
     have k283 := k_r4Same d280 (h266.ext (e272.trans (g278.ext.trans e280))) (h268.ext (e272.trans (g278.ext.trans e280))) (h274.ext e280) (h276.ext e280)
     with_reducible refine Post.mono k283 ?_
     rintro _ u281 g282 rfl
     refine zza 196 (.v (.bool (decide ((Nt.lo x1 x2 - Nt.hi y1 y2) = (Nt.lo x1 x2 - Nt.hi y1 y2)) && decide ((Nt.hi x1 x2 - Nt.lo y1 y2) = (Nt.hi x1 x2 - Nt.lo y1 y2))))) ?_
     refine zyl 197 (x := .v (.bool (decide ((Nt.lo x1 x2 - Nt.hi y1 y2) = (Nt.lo x1 x2 - Nt.hi y1 y2)) && decide ((Nt.hi x1 x2 - Nt.lo y1 y2) = (Nt.hi x1 x2 - Nt.lo y1 y2))))) (.v (.bool true)) (by rw [show (decide ((Nt.lo x1 x2 - Nt.hi y1 y2) = (Nt.lo x1 x2 - Nt.hi y1 y2)) && decide ((Nt.hi x1 x2 - Nt.lo y1 y2) = (Nt.hi x1 x2 - Nt.lo y1 y2))) = true from (by rw [decide_eq_true rfl, decide_eq_true rfl]; rfl)]) ?_
     refine zzg 198 (.v (.agg #[.bool a1.s, a1.m.v, a1.d.v, .bool a2.s, a2.m.v, a2.d.v])) ty28 zzd ?_ (hw := w1 53 true 197)
     refine zzg 199 (.v (.agg #[.bool b1.s, b1.m.v, b1.d.v, .bool b2.s, b2.m.v, b2.d.v])) ty28 zzd ?_ (hw := w1 53 true 197)
     refine zzg 201 (.v (.agg #[.bool a1.s, a1.m.v, a1.d.v, .bool a2.s, a2.m.v, a2.d.v])) ty28 zzd ?_ (hw := w1 53 true 197)
     refine zzg 202 (.v (.agg #[.bool b1.s, b1.m.v, b1.d.v, .bool b2.s, b2.m.v, b2.d.v])) ty28 zzd ?_ (hw := w1 53 true 197)
     refine zzf 200 21 [.agg #[.bool a1.s, a1.m.v, a1.d.v, .bool a2.s, a2.m.v, a2.d.v], .agg #[.bool b1.s, b1.m.v, b1.d.v, .bool b2.s, b2.m.v, b2.d.v]] ?_ (hw := w1 53 true 197)
     intro w285 u285 e285 d285
     have k292 := k_ivMul d285 (ha1f.ext (e11.trans (g13.ext.trans (e22.trans (g24.ext.trans (e33.trans (g35.ext.trans (e44.trans (g49.ext.trans (e51.trans (g56.ext.trans (e58.trans (g63.ext.trans (e65.trans (g70.ext.trans (e74.trans (g76.ext.trans (e78.trans (g80.ext.trans (e82.trans (g86.ext.trans (e88.trans (g92.ext.trans (e95.trans (g97.ext.trans (e99.trans (g101.ext.trans (e104.trans (g106.ext.trans (e108.trans (g110.ext.trans (e113.trans (g115.ext.trans (e117.trans (g119.ext.trans (e121.trans (g123.ext.trans (e125.trans (g130.ext.trans (e132.trans (g137.ext.trans (e140.trans (g142.ext.trans (e144.trans (g149.ext.trans (e151.trans (g156.ext.trans (e159.trans (g161.ext.trans (e163.trans (g165.ext.trans (e167.trans (g173.ext.trans (e175.trans (g181.ext.trans (e183.trans (g185.ext.trans (e188.trans (g194.ext.trans (e196.trans (g202.ext.trans (e204.trans (g206.ext.trans (e209.trans (g213.ext.trans (e215.trans (g219.ext.trans (e221.trans (g223.ext.trans (e226.trans (g230.ext.trans (e232.trans (g236.ext.trans (e238.trans (g240.ext.trans (e243.trans (g249.ext.trans (e251.trans (g257.ext.trans (e259.trans (g261.ext.trans (e264.trans (g270.ext.trans (e272.trans (g278.ext.trans (e280.trans (g282.ext.trans e285))))))))))))))))))))))))))))))))))))))))))))))))))))))))))))))))))))))))))))))))))))))) (ha2f.ext (e11.trans (g13.ext.trans (e22.trans (g24.ext.trans (e33.trans (g35.ext.trans (e44.trans (g49.ext.trans (e51.trans (g56.ext.trans (e58.trans (g63.ext.trans (e65.trans (g70.ext.trans (e74.trans (g76.ext.trans (e78.trans (g80.ext.trans (e82.trans (g86.ext.trans (e88.trans (g92.ext.trans (e95.trans (g97.ext.trans (e99.trans (g101.ext.trans (e104.trans (g106.ext.trans (e108.trans (g110.ext.trans (e113.trans (g115.ext.trans (e117.trans (g119.ext.trans (e121.trans (g123.ext.trans (e125.trans (g130.ext.trans (e132.trans (g137.ext.trans (e140.trans (g142.ext.trans (e144.trans (g149.ext.trans (e151.trans (g156.ext.trans (e159.trans (g161.ext.trans (e163.trans (g165.ext.trans (e167.trans (g173.ext.trans (e175.trans (g181.ext.trans (e183.trans (g185.ext.trans (e188.trans (g194.ext.trans (e196.trans (g202.ext.trans (e204.trans (g206.ext.trans (e209.trans (g213.ext.trans (e215.trans (g219.ext.trans (e221.trans (g223.ext.trans (e226.trans (g230.ext.trans (e232.trans (g236.ext.trans (e238.trans (g240.ext.trans (e243.trans (g249.ext.trans (e251.trans (g257.ext.trans (e259.trans (g261.ext.trans (e264.trans (g270.ext.trans (e272.trans (g278.ext.trans (e280.trans (g282.ext.trans e285))))))))))))))))))))))))))))))))))))))))))))))))))))))))))))))))))))))))))))))))))))))) (hb1f.ext (e11.trans (g13.ext.trans (e22.trans (g24.ext.trans (e33.trans (g35.ext.trans (e44.trans (g49.ext.trans (e51.trans (g56.ext.trans (e58.trans (g63.ext.trans (e65.trans (g70.ext.trans (e74.trans (g76.ext.trans (e78.trans (g80.ext.trans (e82.trans (g86.ext.trans (e88.trans (g92.ext.trans (e95.trans (g97.ext.trans (e99.trans (g101.ext.trans (e104.trans (g106.ext.trans (e108.trans (g110.ext.trans (e113.trans (g115.ext.trans (e117.trans (g119.ext.trans (e121.trans (g123.ext.trans (e125.trans (g130.ext.trans (e132.trans (g137.ext.trans (e140.trans (g142.ext.trans (e144.trans (g149.ext.trans (e151.trans (g156.ext.trans (e159.trans (g161.ext.trans (e163.trans (g165.ext.trans (e167.trans (g173.ext.trans (e175.trans (g181.ext.trans (e183.trans (g185.ext.trans (e188.trans (g194.ext.trans (e196.trans (g202.ext.trans (e204.trans (g206.ext.trans (e209.trans (g213.ext.trans (e215.trans (g219.ext.trans (e221.trans (g223.ext.trans (e226.trans (g230.ext.trans (e232.trans (g236.ext.trans (e238.trans (g240.ext.trans (e243.trans (g249.ext.trans (e251.trans (g257.ext.trans (e259.trans (g261.ext.trans (e264.trans (g270.ext.trans (e272.trans (g278.ext.trans (e280.trans (g282.ext.trans e285))))))))))))))))))))))))))))))))))))))))))))))))))))))))))))))))))))))))))))))))))))))) (hb2f.ext (e11.trans (g13.ext.trans (e22.trans (g24.ext.trans (e33.trans (g35.ext.trans (e44.trans (g49.ext.trans (e51.trans (g56.ext.trans (e58.trans (g63.ext.trans (e65.trans (g70.ext.trans (e74.trans (g76.ext.trans (e78.trans (g80.ext.trans (e82.trans (g86.ext.trans (e88.trans (g92.ext.trans (e95.trans (g97.ext.trans (e99.trans (g101.ext.trans (e104.trans (g106.ext.trans (e108.trans (g110.ext.trans (e113.trans (g115.ext.trans (e117.trans (g119.ext.trans (e121.trans (g123.ext.trans (e125.trans (g130.ext.trans (e132.trans (g137.ext.trans (e140.trans (g142.ext.trans (e144.trans (g149.ext.trans (e151.trans (g156.ext.trans (e159.trans (g161.ext.trans (e163.trans (g165.ext.trans (e167.trans (g173.ext.trans (e175.trans (g181.ext.trans (e183.trans (g185.ext.trans (e188.trans (g194.ext.trans (e196.trans (g202.ext.trans (e204.trans (g206.ext.trans (e209.trans (g213.ext.trans (e215.trans (g219.ext.trans (e221.trans (g223.ext.trans (e226.trans (g230.ext.trans (e232.trans (g236.ext.trans (e238.trans (g240.ext.trans (e243.trans (g249.ext.trans (e251.trans (g257.ext.trans (e259.trans (g261.ext.trans (e264.trans (g270.ext.trans (e272.trans (g278.ext.trans (e280.trans (g282.ext.trans e285))))))))))))))))))))))))))))))))))))))))))))))))))))))))))))))))))))))))))))))))))))))) (by omega) (by omega)
     with_reducible refine Post.mono k292 ?_
     rintro _ u290 g291 ⟨r286, r288, rfl, h287, h289⟩
     refine zzf 203 77 [.agg #[.bool a1.s, a1.m.v, a1.d.v, .bool a2.s, a2.m.v, a2.d.v], .agg #[.bool b1.s, b1.m.v, b1.d.v, .bool b2.s, b2.m.v, b2.d.v]] ?_ (hw := w1 53 true 197)
     intro w293 u293 e293 d293
     have k300 := k_r4Mul d293 (ha1f.ext (e11.trans (g13.ext.trans (e22.trans (g24.ext.trans (e33.trans (g35.ext.trans (e44.trans (g49.ext.trans (e51.trans (g56.ext.trans (e58.trans (g63.ext.trans (e65.trans (g70.ext.trans (e74.trans (g76.ext.trans (e78.trans (g80.ext.trans (e82.trans (g86.ext.trans (e88.trans (g92.ext.trans (e95.trans (g97.ext.trans (e99.trans (g101.ext.trans (e104.trans (g106.ext.trans (e108.trans (g110.ext.trans (e113.trans (g115.ext.trans (e117.trans (g119.ext.trans (e121.trans (g123.ext.trans (e125.trans (g130.ext.trans (e132.trans (g137.ext.trans (e140.trans (g142.ext.trans (e144.trans (g149.ext.trans (e151.trans (g156.ext.trans (e159.trans (g161.ext.trans (e163.trans (g165.ext.trans (e167.trans (g173.ext.trans (e175.trans (g181.ext.trans (e183.trans (g185.ext.trans (e188.trans (g194.ext.trans (e196.trans (g202.ext.trans (e204.trans (g206.ext.trans (e209.trans (g213.ext.trans (e215.trans (g219.ext.trans (e221.trans (g223.ext.trans (e226.trans (g230.ext.trans (e232.trans (g236.ext.trans (e238.trans (g240.ext.trans (e243.trans (g249.ext.trans (e251.trans (g257.ext.trans (e259.trans (g261.ext.trans (e264.trans (g270.ext.trans (e272.trans (g278.ext.trans (e280.trans (g282.ext.trans (e285.trans (g291.ext.trans e293))))))))))))))))))))))))))))))))))))))))))))))))))))))))))))))))))))))))))))))))))))))))) (ha2f.ext (e11.trans (g13.ext.trans (e22.trans (g24.ext.trans (e33.trans (g35.ext.trans (e44.trans (g49.ext.trans (e51.trans (g56.ext.trans (e58.trans (g63.ext.trans (e65.trans (g70.ext.trans (e74.trans (g76.ext.trans (e78.trans (g80.ext.trans (e82.trans (g86.ext.trans (e88.trans (g92.ext.trans (e95.trans (g97.ext.trans (e99.trans (g101.ext.trans (e104.trans (g106.ext.trans (e108.trans (g110.ext.trans (e113.trans (g115.ext.trans (e117.trans (g119.ext.trans (e121.trans (g123.ext.trans (e125.trans (g130.ext.trans (e132.trans (g137.ext.trans (e140.trans (g142.ext.trans (e144.trans (g149.ext.trans (e151.trans (g156.ext.trans (e159.trans (g161.ext.trans (e163.trans (g165.ext.trans (e167.trans (g173.ext.trans (e175.trans (g181.ext.trans (e183.trans (g185.ext.trans (e188.trans (g194.ext.trans (e196.trans (g202.ext.trans (e204.trans (g206.ext.trans (e209.trans (g213.ext.trans (e215.trans (g219.ext.trans (e221.trans (g223.ext.trans (e226.trans (g230.ext.trans (e232.trans (g236.ext.trans (e238.trans (g240.ext.trans (e243.trans (g249.ext.trans (e251.trans (g257.ext.trans (e259.trans (g261.ext.trans (e264.trans (g270.ext.trans (e272.trans (g278.ext.trans (e280.trans (g282.ext.trans (e285.trans (g291.ext.trans e293))))))))))))))))))))))))))))))))))))))))))))))))))))))))))))))))))))))))))))))))))))))))) (hb1f.ext (e11.trans (g13.ext.trans (e22.trans (g24.ext.trans (e33.trans (g35.ext.trans (e44.trans (g49.ext.trans (e51.trans (g56.ext.trans (e58.trans (g63.ext.trans (e65.trans (g70.ext.trans (e74.trans (g76.ext.trans (e78.trans (g80.ext.trans (e82.trans (g86.ext.trans (e88.trans (g92.ext.trans (e95.trans (g97.ext.trans (e99.trans (g101.ext.trans (e104.trans (g106.ext.trans (e108.trans (g110.ext.trans (e113.trans (g115.ext.trans (e117.trans (g119.ext.trans (e121.trans (g123.ext.trans (e125.trans (g130.ext.trans (e132.trans (g137.ext.trans (e140.trans (g142.ext.trans (e144.trans (g149.ext.trans (e151.trans (g156.ext.trans (e159.trans (g161.ext.trans (e163.trans (g165.ext.trans (e167.trans (g173.ext.trans (e175.trans (g181.ext.trans (e183.trans (g185.ext.trans (e188.trans (g194.ext.trans (e196.trans (g202.ext.trans (e204.trans (g206.ext.trans (e209.trans (g213.ext.trans (e215.trans (g219.ext.trans (e221.trans (g223.ext.trans (e226.trans (g230.ext.trans (e232.trans (g236.ext.trans (e238.trans (g240.ext.trans (e243.trans (g249.ext.trans (e251.trans (g257.ext.trans (e259.trans (g261.ext.trans (e264.trans (g270.ext.trans (e272.trans (g278.ext.trans (e280.trans (g282.ext.trans (e285.trans (g291.ext.trans e293))))))))))))))))))))))))))))))))))))))))))))))))))))))))))))))))))))))))))))))))))))))))) (hb2f.ext (e11.trans (g13.ext.trans (e22.trans (g24.ext.trans (e33.trans (g35.ext.trans (e44.trans (g49.ext.trans (e51.trans (g56.ext.trans (e58.trans (g63.ext.trans (e65.trans (g70.ext.trans (e74.trans (g76.ext.trans (e78.trans (g80.ext.trans (e82.trans (g86.ext.trans (e88.trans (g92.ext.trans (e95.trans (g97.ext.trans (e99.trans (g101.ext.trans (e104.trans (g106.ext.trans (e108.trans (g110.ext.trans (e113.trans (g115.ext.trans (e117.trans (g119.ext.trans (e121.trans (g123.ext.trans (e125.trans (g130.ext.trans (e132.trans (g137.ext.trans (e140.trans (g142.ext.trans (e144.trans (g149.ext.trans (e151.trans (g156.ext.trans (e159.trans (g161.ext.trans (e163.trans (g165.ext.trans (e167.trans (g173.ext.trans (e175.trans (g181.ext.trans (e183.trans (g185.ext.trans (e188.trans (g194.ext.trans (e196.trans (g202.ext.trans (e204.trans (g206.ext.trans (e209.trans (g213.ext.trans (e215.trans (g219.ext.trans (e221.trans (g223.ext.trans (e226.trans (g230.ext.trans (e232.trans (g236.ext.trans (e238.trans (g240.ext.trans (e243.trans (g249.ext.trans (e251.trans (g257.ext.trans (e259.trans (g261.ext.trans (e264.trans (g270.ext.trans (e272.trans (g278.ext.trans (e280.trans (g282.ext.trans (e285.trans (g291.ext.trans e293))))))))))))))))))))))))))))))))))))))))))))))))))))))))))))))))))))))))))))))))))))))))) (by omega) (by omega)
     with_reducible refine Post.mono k300 ?_
     rintro _ u298 g299 ⟨r294, r296, rfl, h295, h297⟩
     refine zzf 204 59 [.agg #[.bool r286.s, r286.m.v, r286.d.v, .bool r288.s, r288.m.v, r288.d.v], .agg #[.bool r294.s, r294.m.v, r294.d.v, .bool r296.s, r296.m.v, r296.d.v]] ?_ (hw := w1 53 true 197)
     intro w301 u301 e301 d301
     have k304 := k_r4Same d301 (h287.ext (e293.trans (g299.ext.trans e301))) (h289.ext (e293.trans (g299.ext.trans e301))) (h295.ext e301) (h297.ext e301)
     with_reducible refine Post.mono k304 ?_
     rintro _ u302 g303 rfl
     refine zza 205 (.v (.bool (decide ((Nt.lo4 (x1 * y1) (x1 * y2) (x2 * y1) (x2 * y2)) = (Nt.lo4 (x1 * y1) (x1 * y2) (x2 * y1) (x2 * y2))) && decide ((Nt.hi4 (x1 * y1) (x1 * y2) (x2 * y1) (x2 * y2)) = (Nt.hi4 (x1 * y1) (x1 * y2) (x2 * y1) (x2 * y2)))))) ?_
     refine zyl 206 (x := .v (.bool (decide ((Nt.lo4 (x1 * y1) (x1 * y2) (x2 * y1) (x2 * y2)) = (Nt.lo4 (x1 * y1) (x1 * y2) (x2 * y1) (x2 * y2))) && decide ((Nt.hi4 (x1 * y1) (x1 * y2) (x2 * y1) (x2 * y2)) = (Nt.hi4 (x1 * y1) (x1 * y2) (x2 * y1) (x2 * y2)))))) (.v (.bool true)) (by rw [show (decide ((Nt.lo4 (x1 * y1) (x1 * y2) (x2 * y1) (x2 * y2)) = (Nt.lo4 (x1 * y1) (x1 * y2) (x2 * y1) (x2 * y2))) && decide ((Nt.hi4 (x1 * y1) (x1 * y2) (x2 * y1) (x2 * y2)) = (Nt.hi4 (x1 * y1) (x1 * y2) (x2 * y1) (x2 * y2)))) = true from (by rw [decide_eq_true rfl, decide_eq_true rfl]; rfl)]) ?_
     refine zzg 207 (.v (.agg #[.bool a1.s, a1.m.v, a1.d.v, .bool a2.s, a2.m.v, a2.d.v])) ty28 zzd ?_ (hw := w1 62 true 206)
     refine zzg 209 (.v (.agg #[.bool a1.s, a1.m.v, a1.d.v, .bool a2.s, a2.m.v, a2.d.v])) ty28 zzd ?_ (hw := w1 62 true 206)
     refine zzf 208 23 [.agg #[.bool a1.s, a1.m.v, a1.d.v, .bool a2.s, a2.m.v, a2.d.v]] ?_ (hw := w1 62 true 206)
     intro w306 u306 e306 d306
     have k313 := k_ivSquare d306 (ha1f.ext (e11.trans (g13.ext.trans (e22.trans (g24.ext.trans (e33.trans (g35.ext.trans (e44.trans (g49.ext.trans (e51.trans (g56.ext.trans (e58.trans (g63.ext.trans (e65.trans (g70.ext.trans (e74.trans (g76.ext.trans (e78.trans (g80.ext.trans (e82.trans (g86.ext.trans (e88.trans (g92.ext.trans (e95.trans (g97.ext.trans (e99.trans (g101.ext.trans (e104.trans (g106.ext.trans (e108.trans (g110.ext.trans (e113.trans (g115.ext.trans (e117.trans (g119.ext.trans (e121.trans (g123.ext.trans (e125.trans (g130.ext.trans (e132.trans (g137.ext.trans (e140.trans (g142.ext.trans (e144.trans (g149.ext.trans (e151.trans (g156.ext.trans (e159.trans (g161.ext.trans (e163.trans (g165.ext.trans (e167.trans (g173.ext.trans (e175.trans (g181.ext.trans (e183.trans (g185.ext.trans (e188.trans (g194.ext.trans (e196.trans (g202.ext.trans (e204.trans (g206.ext.trans (e209.trans (g213.ext.trans (e215.trans (g219.ext.trans (e221.trans (g223.ext.trans (e226.trans (g230.ext.trans (e232.trans (g236.ext.trans (e238.trans (g240.ext.trans (e243.trans (g249.ext.trans (e251.trans (g257.ext.trans (e259.trans (g261.ext.trans (e264.trans (g270.ext.trans (e272.trans (g278.ext.trans (e280.trans (g282.ext.trans (e285.trans (g291.ext.trans (e293.trans (g299.ext.trans (e301.trans (g303.ext.trans e306))))))))))))))))))))))))))))))))))))))))))))))))))))))))))))))))))))))))))))))))))))))))))))) (ha2f.ext (e11.trans (g13.ext.trans (e22.trans (g24.ext.trans (e33.trans (g35.ext.trans (e44.trans (g49.ext.trans (e51.trans (g56.ext.trans (e58.trans (g63.ext.trans (e65.trans (g70.ext.trans (e74.trans (g76.ext.trans (e78.trans (g80.ext.trans (e82.trans (g86.ext.trans (e88.trans (g92.ext.trans (e95.trans (g97.ext.trans (e99.trans (g101.ext.trans (e104.trans (g106.ext.trans (e108.trans (g110.ext.trans (e113.trans (g115.ext.trans (e117.trans (g119.ext.trans (e121.trans (g123.ext.trans (e125.trans (g130.ext.trans (e132.trans (g137.ext.trans (e140.trans (g142.ext.trans (e144.trans (g149.ext.trans (e151.trans (g156.ext.trans (e159.trans (g161.ext.trans (e163.trans (g165.ext.trans (e167.trans (g173.ext.trans (e175.trans (g181.ext.trans (e183.trans (g185.ext.trans (e188.trans (g194.ext.trans (e196.trans (g202.ext.trans (e204.trans (g206.ext.trans (e209.trans (g213.ext.trans (e215.trans (g219.ext.trans (e221.trans (g223.ext.trans (e226.trans (g230.ext.trans (e232.trans (g236.ext.trans (e238.trans (g240.ext.trans (e243.trans (g249.ext.trans (e251.trans (g257.ext.trans (e259.trans (g261.ext.trans (e264.trans (g270.ext.trans (e272.trans (g278.ext.trans (e280.trans (g282.ext.trans (e285.trans (g291.ext.trans (e293.trans (g299.ext.trans (e301.trans (g303.ext.trans e306))))))))))))))))))))))))))))))))))))))))))))))))))))))))))))))))))))))))))))))))))))))))))))) (by omega)
     with_reducible refine Post.mono k313 ?_
     rintro _ u311 g312 ⟨r307, r309, rfl, h308, h310⟩
     refine zzf 210 78 [.agg #[.bool a1.s, a1.m.v, a1.d.v, .bool a2.s, a2.m.v, a2.d.v]] ?_ (hw := w1 62 true 206)
     intro w314 u314 e314 d314
     have k321 := k_r4Square d314 (ha1f.ext (e11.trans (g13.ext.trans (e22.trans (g24.ext.trans (e33.trans (g35.ext.trans (e44.trans (g49.ext.trans (e51.trans (g56.ext.trans (e58.trans (g63.ext.trans (e65.trans (g70.ext.trans (e74.trans (g76.ext.trans (e78.trans (g80.ext.trans (e82.trans (g86.ext.trans (e88.trans (g92.ext.trans (e95.trans (g97.ext.trans (e99.trans (g101.ext.trans (e104.trans (g106.ext.trans (e108.trans (g110.ext.trans (e113.trans (g115.ext.trans (e117.trans (g119.ext.trans (e121.trans (g123.ext.trans (e125.trans (g130.ext.trans (e132.trans (g137.ext.trans (e140.trans (g142.ext.trans (e144.trans (g149.ext.trans (e151.trans (g156.ext.trans (e159.trans (g161.ext.trans (e163.trans (g165.ext.trans (e167.trans (g173.ext.trans (e175.trans (g181.ext.trans (e183.trans (g185.ext.trans (e188.trans (g194.ext.trans (e196.trans (g202.ext.trans (e204.trans (g206.ext.trans (e209.trans (g213.ext.trans (e215.trans (g219.ext.trans (e221.trans (g223.ext.trans (e226.trans (g230.ext.trans (e232.trans (g236.ext.trans (e238.trans (g240.ext.trans (e243.trans (g249.ext.trans (e251.trans (g257.ext.trans (e259.trans (g261.ext.trans (e264.trans (g270.ext.trans (e272.trans (g278.ext.trans (e280.trans (g282.ext.trans (e285.trans (g291.ext.trans (e293.trans (g299.ext.trans (e301.trans (g303.ext.trans (e306.trans (g312.ext.trans e314))))))))))))))))))))))))))))))))))))))))))))))))))))))))))))))))))))))))))))))))))))))))))))))) (ha2f.ext (e11.trans (g13.ext.trans (e22.trans (g24.ext.trans (e33.trans (g35.ext.trans (e44.trans (g49.ext.trans (e51.trans (g56.ext.trans (e58.trans (g63.ext.trans (e65.trans (g70.ext.trans (e74.trans (g76.ext.trans (e78.trans (g80.ext.trans (e82.trans (g86.ext.trans (e88.trans (g92.ext.trans (e95.trans (g97.ext.trans (e99.trans (g101.ext.trans (e104.trans (g106.ext.trans (e108.trans (g110.ext.trans (e113.trans (g115.ext.trans (e117.trans (g119.ext.trans (e121.trans (g123.ext.trans (e125.trans (g130.ext.trans (e132.trans (g137.ext.trans (e140.trans (g142.ext.trans (e144.trans (g149.ext.trans (e151.trans (g156.ext.trans (e159.trans (g161.ext.trans (e163.trans (g165.ext.trans (e167.trans (g173.ext.trans (e175.trans (g181.ext.trans (e183.trans (g185.ext.trans (e188.trans (g194.ext.trans (e196.trans (g202.ext.trans (e204.trans (g206.ext.trans (e209.trans (g213.ext.trans (e215.trans (g219.ext.trans (e221.trans (g223.ext.trans (e226.trans (g230.ext.trans (e232.trans (g236.ext.trans (e238.trans (g240.ext.trans (e243.trans (g249.ext.trans (e251.trans (g257.ext.trans (e259.trans (g261.ext.trans (e264.trans (g270.ext.trans (e272.trans (g278.ext.trans (e280.trans (g282.ext.trans (e285.trans (g291.ext.trans (e293.trans (g299.ext.trans (e301.trans (g303.ext.trans (e306.trans (g312.ext.trans e314))))))))))))))))))))))))))))))))))))))))))))))))))))))))))))))))))))))))))))))))))))))))))))))) (by omega)
     with_reducible refine Post.mono k321 ?_
     rintro _ u319 g320 ⟨r315, r317, rfl, h316, h318⟩
     refine zzf 211 59 [.agg #[.bool r307.s, r307.m.v, r307.d.v, .bool r309.s, r309.m.v, r309.d.v], .agg #[.bool r315.s, r315.m.v, r315.d.v, .bool r317.s, r317.m.v, r317.d.v]] ?_ (hw := w1 62 true 206)
     intro w322 u322 e322 d322
     have k325 := k_r4Same d322 (h308.ext (e314.trans (g320.ext.trans e322))) (h310.ext (e314.trans (g320.ext.trans e322))) (h316.ext e322) (h318.ext e322)
     with_reducible refine Post.mono k325 ?_
     rintro _ u323 g324 rfl
     refine zza 212 (.v (.bool (decide ((if Nt.sgI x1 x2 = 0 then 0 else Nt.lo (x1 * x1) (x2 * x2)) = (if Nt.sgI x1 x2 = 0 then 0 else Nt.lo (x1 * x1) (x2 * x2))) && decide ((Nt.hi (x1 * x1) (x2 * x2)) = (Nt.hi (x1 * x1) (x2 * x2)))))) ?_
     refine zyl 213 (x := .v (.bool (decide ((if Nt.sgI x1 x2 = 0 then 0 else Nt.lo (x1 * x1) (x2 * x2)) = (if Nt.sgI x1 x2 = 0 then 0 else Nt.lo (x1 * x1) (x2 * x2))) && decide ((Nt.hi (x1 * x1) (x2 * x2)) = (Nt.hi (x1 * x1) (x2 * x2)))))) (.v (.bool true)) (by rw [show (decide ((if Nt.sgI x1 x2 = 0 then 0 else Nt.lo (x1 * x1) (x2 * x2)) = (if Nt.sgI x1 x2 = 0 then 0 else Nt.lo (x1 * x1) (x2 * x2))) && decide ((Nt.hi (x1 * x1) (x2 * x2)) = (Nt.hi (x1 * x1) (x2 * x2)))) = true from (by rw [decide_eq_true rfl, decide_eq_true rfl]; rfl)]) ?_
     refine zzg 214 (.v (.agg #[.bool a1.s, a1.m.v, a1.d.v, .bool a2.s, a2.m.v, a2.d.v])) ty28 zzd ?_ (hw := w1 69 true 213)
     refine zzg 215 (.v (.agg #[.bool b1.s, b1.m.v, b1.d.v, .bool b2.s, b2.m.v, b2.d.v])) ty28 zzd ?_ (hw := w1 69 true 213)
     refine zzg 217 (.v (.agg #[.bool a1.s, a1.m.v, a1.d.v, .bool a2.s, a2.m.v, a2.d.v])) ty28 zzd ?_ (hw := w1 69 true 213)
     refine zzg 218 (.v (.agg #[.bool b1.s, b1.m.v, b1.d.v, .bool b2.s, b2.m.v, b2.d.v])) ty28 zzd ?_ (hw := w1 69 true 213)
     refine zzf 216 79 [.agg #[.bool a1.s, a1.m.v, a1.d.v, .bool a2.s, a2.m.v, a2.d.v], .agg #[.bool b1.s, b1.m.v, b1.d.v, .bool b2.s, b2.m.v, b2.d.v]] ?_ (hw := w1 69 true 213)
     intro w327 u327 e327 d327
     have k334 := k_ivHull d327 (ha1f.ext (e11.trans (g13.ext.trans (e22.trans (g24.ext.trans (e33.trans (g35.ext.trans (e44.trans (g49.ext.trans (e51.trans (g56.ext.trans (e58.trans (g63.ext.trans (e65.trans (g70.ext.trans (e74.trans (g76.ext.trans (e78.trans (g80.ext.trans (e82.trans (g86.ext.trans (e88.trans (g92.ext.trans (e95.trans (g97.ext.trans (e99.trans (g101.ext.trans (e104.trans (g106.ext.trans (e108.trans (g110.ext.trans (e113.trans (g115.ext.trans (e117.trans (g119.ext.trans (e121.trans (g123.ext.trans (e125.trans (g130.ext.trans (e132.trans (g137.ext.trans (e140.trans (g142.ext.trans (e144.trans (g149.ext.trans (e151.trans (g156.ext.trans (e159.trans (g161.ext.trans (e163.trans (g165.ext.trans (e167.trans (g173.ext.trans (e175.trans (g181.ext.trans (e183.trans (g185.ext.trans (e188.trans (g194.ext.trans (e196.trans (g202.ext.trans (e204.trans (g206.ext.trans (e209.trans (g213.ext.trans (e215.trans (g219.ext.trans (e221.trans (g223.ext.trans (e226.trans (g230.ext.trans (e232.trans (g236.ext.trans (e238.trans (g240.ext.trans (e243.trans (g249.ext.trans (e251.trans (g257.ext.trans (e259.trans (g261.ext.trans (e264.trans (g270.ext.trans (e272.trans (g278.ext.trans (e280.trans (g282.ext.trans (e285.trans (g291.ext.trans (e293.trans (g299.ext.trans (e301.trans (g303.ext.trans (e306.trans (g312.ext.trans (e314.trans (g320.ext.trans (e322.trans (g324.ext.trans e327))))))))))))))))))))))))))))))))))))))))))))))))))))))))))))))))))))))))))))))))))))))))))))))))))) (ha2f.ext (e11.trans (g13.ext.trans (e22.trans (g24.ext.trans (e33.trans (g35.ext.trans (e44.trans (g49.ext.trans (e51.trans (g56.ext.trans (e58.trans (g63.ext.trans (e65.trans (g70.ext.trans (e74.trans (g76.ext.trans (e78.trans (g80.ext.trans (e82.trans (g86.ext.trans (e88.trans (g92.ext.trans (e95.trans (g97.ext.trans (e99.trans (g101.ext.trans (e104.trans (g106.ext.trans (e108.trans (g110.ext.trans (e113.trans (g115.ext.trans (e117.trans (g119.ext.trans (e121.trans (g123.ext.trans (e125.trans (g130.ext.trans (e132.trans (g137.ext.trans (e140.trans (g142.ext.trans (e144.trans (g149.ext.trans (e151.trans (g156.ext.trans (e159.trans (g161.ext.trans (e163.trans (g165.ext.trans (e167.trans (g173.ext.trans (e175.trans (g181.ext.trans (e183.trans (g185.ext.trans (e188.trans (g194.ext.trans (e196.trans (g202.ext.trans (e204.trans (g206.ext.trans (e209.trans (g213.ext.trans (e215.trans (g219.ext.trans (e221.trans (g223.ext.trans (e226.trans (g230.ext.trans (e232.trans (g236.ext.trans (e238.trans (g240.ext.trans (e243.trans (g249.ext.trans (e251.trans (g257.ext.trans (e259.trans (g261.ext.trans (e264.trans (g270.ext.trans (e272.trans (g278.ext.trans (e280.trans (g282.ext.trans (e285.trans (g291.ext.trans (e293.trans (g299.ext.trans (e301.trans (g303.ext.trans (e306.trans (g312.ext.trans (e314.trans (g320.ext.trans (e322.trans (g324.ext.trans e327))))))))))))))))))))))))))))))))))))))))))))))))))))))))))))))))))))))))))))))))))))))))))))))))))) (hb1f.ext (e11.trans (g13.ext.trans (e22.trans (g24.ext.trans (e33.trans (g35.ext.trans (e44.trans (g49.ext.trans (e51.trans (g56.ext.trans (e58.trans (g63.ext.trans (e65.trans (g70.ext.trans (e74.trans (g76.ext.trans (e78.trans (g80.ext.trans (e82.trans (g86.ext.trans (e88.trans (g92.ext.trans (e95.trans (g97.ext.trans (e99.trans (g101.ext.trans (e104.trans (g106.ext.trans (e108.trans (g110.ext.trans (e113.trans (g115.ext.trans (e117.trans (g119.ext.trans (e121.trans (g123.ext.trans (e125.trans (g130.ext.trans (e132.trans (g137.ext.trans (e140.trans (g142.ext.trans (e144.trans (g149.ext.trans (e151.trans (g156.ext.trans (e159.trans (g161.ext.trans (e163.trans (g165.ext.trans (e167.trans (g173.ext.trans (e175.trans (g181.ext.trans (e183.trans (g185.ext.trans (e188.trans (g194.ext.trans (e196.trans (g202.ext.trans (e204.trans (g206.ext.trans (e209.trans (g213.ext.trans (e215.trans (g219.ext.trans (e221.trans (g223.ext.trans (e226.trans (g230.ext.trans (e232.trans (g236.ext.trans (e238.trans (g240.ext.trans (e243.trans (g249.ext.trans (e251.trans (g257.ext.trans (e259.trans (g261.ext.trans (e264.trans (g270.ext.trans (e272.trans (g278.ext.trans (e280.trans (g282.ext.trans (e285.trans (g291.ext.trans (e293.trans (g299.ext.trans (e301.trans (g303.ext.trans (e306.trans (g312.ext.trans (e314.trans (g320.ext.trans (e322.trans (g324.ext.trans e327))))))))))))))))))))))))))))))))))))))))))))))))))))))))))))))))))))))))))))))))))))))))))))))))))) (hb2f.ext (e11.trans (g13.ext.trans (e22.trans (g24.ext.trans (e33.trans (g35.ext.trans (e44.trans (g49.ext.trans (e51.trans (g56.ext.trans (e58.trans (g63.ext.trans (e65.trans (g70.ext.trans (e74.trans (g76.ext.trans (e78.trans (g80.ext.trans (e82.trans (g86.ext.trans (e88.trans (g92.ext.trans (e95.trans (g97.ext.trans (e99.trans (g101.ext.trans (e104.trans (g106.ext.trans (e108.trans (g110.ext.trans (e113.trans (g115.ext.trans (e117.trans (g119.ext.trans (e121.trans (g123.ext.trans (e125.trans (g130.ext.trans (e132.trans (g137.ext.trans (e140.trans (g142.ext.trans (e144.trans (g149.ext.trans (e151.trans (g156.ext.trans (e159.trans (g161.ext.trans (e163.trans (g165.ext.trans (e167.trans (g173.ext.trans (e175.trans (g181.ext.trans (e183.trans (g185.ext.trans (e188.trans (g194.ext.trans (e196.trans (g202.ext.trans (e204.trans (g206.ext.trans (e209.trans (g213.ext.trans (e215.trans (g219.ext.trans (e221.trans (g223.ext.trans (e226.trans (g230.ext.trans (e232.trans (g236.ext.trans (e238.trans (g240.ext.trans (e243.trans (g249.ext.trans (e251.trans (g257.ext.trans (e259.trans (g261.ext.trans (e264.trans (g270.ext.trans (e272.trans (g278.ext.trans (e280.trans (g282.ext.trans (e285.trans (g291.ext.trans (e293.trans (g299.ext.trans (e301.trans (g303.ext.trans (e306.trans (g312.ext.trans (e314.trans (g320.ext.trans (e322.trans (g324.ext.trans e327))))))))))))))))))))))))))))))))))))))))))))))))))))))))))))))))))))))))))))))))))))))))))))))))))) (by omega) (by omega)
     with_reducible refine Post.mono k334 ?_
     rintro _ u332 g333 ⟨r328, r330, rfl, h329, h331⟩
     refine zzf 219 80 [.agg #[.bool a1.s, a1.m.v, a1.d.v, .bool a2.s, a2.m.v, a2.d.v], .agg #[.bool b1.s, b1.m.v, b1.d.v, .bool b2.s, b2.m.v, b2.d.v]] ?_ (hw := w1 69 true 213)
     intro w335 u335 e335 d335
     have k342 := k_r4Hull d335 (ha1f.ext (e11.trans (g13.ext.trans (e22.trans (g24.ext.trans (e33.trans (g35.ext.trans (e44.trans (g49.ext.trans (e51.trans (g56.ext.trans (e58.trans (g63.ext.trans (e65.trans (g70.ext.trans (e74.trans (g76.ext.trans (e78.trans (g80.ext.trans (e82.trans (g86.ext.trans (e88.trans (g92.ext.trans (e95.trans (g97.ext.trans (e99.trans (g101.ext.trans (e104.trans (g106.ext.trans (e108.trans (g110.ext.trans (e113.trans (g115.ext.trans (e117.trans (g119.ext.trans (e121.trans (g123.ext.trans (e125.trans (g130.ext.trans (e132.trans (g137.ext.trans (e140.trans (g142.ext.trans (e144.trans (g149.ext.trans (e151.trans (g156.ext.trans (e159.trans (g161.ext.trans (e163.trans (g165.ext.trans (e167.trans (g173.ext.trans (e175.trans (g181.ext.trans (e183.trans (g185.ext.trans (e188.trans (g194.ext.trans (e196.trans (g202.ext.trans (e204.trans (g206.ext.trans (e209.trans (g213.ext.trans (e215.trans (g219.ext.trans (e221.trans (g223.ext.trans (e226.trans (g230.ext.trans (e232.trans (g236.ext.trans (e238.trans (g240.ext.trans (e243.trans (g249.ext.trans (e251.trans (g257.ext.trans (e259.trans (g261.ext.trans (e264.trans (g270.ext.trans (e272.trans (g278.ext.trans (e280.trans (g282.ext.trans (e285.trans (g291.ext.trans (e293.trans (g299.ext.trans (e301.trans (g303.ext.trans (e306.trans (g312.ext.trans (e314.trans (g320.ext.trans (e322.trans (g324.ext.trans (e327.trans (g333.ext.trans e335))))))))))))))))))))))))))))))))))))))))))))))))))))))))))))))))))))))))))))))))))))))))))))))))))))) (ha2f.ext (e11.trans (g13.ext.trans (e22.trans (g24.ext.trans (e33.trans (g35.ext.trans (e44.trans (g49.ext.trans (e51.trans (g56.ext.trans (e58.trans (g63.ext.trans (e65.trans (g70.ext.trans (e74.trans (g76.ext.trans (e78.trans (g80.ext.trans (e82.trans (g86.ext.trans (e88.trans (g92.ext.trans (e95.trans (g97.ext.trans (e99.trans (g101.ext.trans (e104.trans (g106.ext.trans (e108.trans (g110.ext.trans (e113.trans (g115.ext.trans (e117.trans (g119.ext.trans (e121.trans (g123.ext.trans (e125.trans (g130.ext.trans (e132.trans (g137.ext.trans (e140.trans (g142.ext.trans (e144.trans (g149.ext.trans (e151.trans (g156.ext.trans (e159.trans (g161.ext.trans (e163.trans (g165.ext.trans (e167.trans (g173.ext.trans (e175.trans (g181.ext.trans (e183.trans (g185.ext.trans (e188.trans (g194.ext.trans (e196.trans (g202.ext.trans (e204.trans (g206.ext.trans (e209.trans (g213.ext.trans (e215.trans (g219.ext.trans (e221.trans (g223.ext.trans (e226.trans (g230.ext.trans (e232.trans (g236.ext.trans (e238.trans (g240.ext.trans (e243.trans (g249.ext.trans (e251.trans (g257.ext.trans (e259.trans (g261.ext.trans (e264.trans (g270.ext.trans (e272.trans (g278.ext.trans (e280.trans (g282.ext.trans (e285.trans (g291.ext.trans (e293.trans (g299.ext.trans (e301.trans (g303.ext.trans (e306.trans (g312.ext.trans (e314.trans (g320.ext.trans (e322.trans (g324.ext.trans (e327.trans (g333.ext.trans e335))))))))))))))))))))))))))))))))))))))))))))))))))))))))))))))))))))))))))))))))))))))))))))))))))))) (hb1f.ext (e11.trans (g13.ext.trans (e22.trans (g24.ext.trans (e33.trans (g35.ext.trans (e44.trans (g49.ext.trans (e51.trans (g56.ext.trans (e58.trans (g63.ext.trans (e65.trans (g70.ext.trans (e74.trans (g76.ext.trans (e78.trans (g80.ext.trans (e82.trans (g86.ext.trans (e88.trans (g92.ext.trans (e95.trans (g97.ext.trans (e99.trans (g101.ext.trans (e104.trans (g106.ext.trans (e108.trans (g110.ext.trans (e113.trans (g115.ext.trans (e117.trans (g119.ext.trans (e121.trans (g123.ext.trans (e125.trans (g130.ext.trans (e132.trans (g137.ext.trans (e140.trans (g142.ext.trans (e144.trans (g149.ext.trans (e151.trans (g156.ext.trans (e159.trans (g161.ext.trans (e163.trans (g165.ext.trans (e167.trans (g173.ext.trans (e175.trans (g181.ext.trans (e183.trans (g185.ext.trans (e188.trans (g194.ext.trans (e196.trans (g202.ext.trans (e204.trans (g206.ext.trans (e209.trans (g213.ext.trans (e215.trans (g219.ext.trans (e221.trans (g223.ext.trans (e226.trans (g230.ext.trans (e232.trans (g236.ext.trans (e238.trans (g240.ext.trans (e243.trans (g249.ext.trans (e251.trans (g257.ext.trans (e259.trans (g261.ext.trans (e264.trans (g270.ext.trans (e272.trans (g278.ext.trans (e280.trans (g282.ext.trans (e285.trans (g291.ext.trans (e293.trans (g299.ext.trans (e301.trans (g303.ext.trans (e306.trans (g312.ext.trans (e314.trans (g320.ext.trans (e322.trans (g324.ext.trans (e327.trans (g333.ext.trans e335))))))))))))))))))))))))))))))))))))))))))))))))))))))))))))))))))))))))))))))))))))))))))))))))))))) (hb2f.ext (e11.trans (g13.ext.trans (e22.trans (g24.ext.trans (e33.trans (g35.ext.trans (e44.trans (g49.ext.trans (e51.trans (g56.ext.trans (e58.trans (g63.ext.trans (e65.trans (g70.ext.trans (e74.trans (g76.ext.trans (e78.trans (g80.ext.trans (e82.trans (g86.ext.trans (e88.trans (g92.ext.trans (e95.trans (g97.ext.trans (e99.trans (g101.ext.trans (e104.trans (g106.ext.trans (e108.trans (g110.ext.trans (e113.trans (g115.ext.trans (e117.trans (g119.ext.trans (e121.trans (g123.ext.trans (e125.trans (g130.ext.trans (e132.trans (g137.ext.trans (e140.trans (g142.ext.trans (e144.trans (g149.ext.trans (e151.trans (g156.ext.trans (e159.trans (g161.ext.trans (e163.trans (g165.ext.trans (e167.trans (g173.ext.trans (e175.trans (g181.ext.trans (e183.trans (g185.ext.trans (e188.trans (g194.ext.trans (e196.trans (g202.ext.trans (e204.trans (g206.ext.trans (e209.trans (g213.ext.trans (e215.trans (g219.ext.trans (e221.trans (g223.ext.trans (e226.trans (g230.ext.trans (e232.trans (g236.ext.trans (e238.trans (g240.ext.trans (e243.trans (g249.ext.trans (e251.trans (g257.ext.trans (e259.trans (g261.ext.trans (e264.trans (g270.ext.trans (e272.trans (g278.ext.trans (e280.trans (g282.ext.trans (e285.trans (g291.ext.trans (e293.trans (g299.ext.trans (e301.trans (g303.ext.trans (e306.trans (g312.ext.trans (e314.trans (g320.ext.trans (e322.trans (g324.ext.trans (e327.trans (g333.ext.trans e335))))))))))))))))))))))))))))))))))))))))))))))))))))))))))))))))))))))))))))))))))))))))))))))))))))) (by omega) (by omega)
     with_reducible refine Post.mono k342 ?_
     rintro _ u340 g341 ⟨r336, r338, rfl, h337, h339⟩
     refine zzf 220 59 [.agg #[.bool r328.s, r328.m.v, r328.d.v, .bool r330.s, r330.m.v, r330.d.v], .agg #[.bool r336.s, r336.m.v, r336.d.v, .bool r338.s, r338.m.v, r338.d.v]] ?_ (hw := w1 69 true 213)
     intro w343 u343 e343 d343
     have k346 := k_r4Same d343 (h329.ext (e335.trans (g341.ext.trans e343))) (h331.ext (e335.trans (g341.ext.trans e343))) (h337.ext e343) (h339.ext e343)
     with_reducible refine Post.mono k346 ?_
     rintro _ u344 g345 rfl
     refine zza 221 (.v (.bool (decide ((Nt.lo (Nt.lo x1 x2) (Nt.lo y1 y2)) = (Nt.lo (Nt.lo x1 x2) (Nt.lo y1 y2))) && decide ((Nt.hi (Nt.hi x1 x2) (Nt.hi y1 y2)) = (Nt.hi (Nt.hi x1 x2) (Nt.hi y1 y2)))))) ?_
     refine zza 8 (.v (.bool (decide ((Nt.lo (Nt.lo x1 x2) (Nt.lo y1 y2)) = (Nt.lo (Nt.lo x1 x2) (Nt.lo y1 y2))) && decide ((Nt.hi (Nt.hi x1 x2) (Nt.hi y1 y2)) = (Nt.hi (Nt.hi x1 x2) (Nt.hi y1 y2)))))) ?_
     refine zzb 222 [(8, .v (.bool (decide ((Nt.lo (Nt.lo x1 x2) (Nt.lo y1 y2)) = (Nt.lo (Nt.lo x1 x2) (Nt.lo y1 y2))) && decide ((Nt.hi (Nt.hi x1 x2) (Nt.hi y1 y2)) = (Nt.hi (Nt.hi x1 x2) (Nt.hi y1 y2))))))] [] ?_
     refine zzm (ret0 [.bool (decide ((Nt.lo (Nt.lo x1 x2) (Nt.lo y1 y2)) = (Nt.lo (Nt.lo x1 x2) (Nt.lo y1 y2))) && decide ((Nt.hi (Nt.hi x1 x2) (Nt.hi y1 y2)) = (Nt.hi (Nt.hi x1 x2) (Nt.hi y1 y2))))] ⟨zzo, trivial⟩ fun u347 e348 => ?_)
     show Value.bool _ = Value.bool _
     rw [show (decide ((Nt.lo (Nt.lo x1 x2) (Nt.lo y1 y2)) = (Nt.lo (Nt.lo x1 x2) (Nt.lo y1 y2))) && decide ((Nt.hi (Nt.hi x1 x2) (Nt.hi y1 y2)) = (Nt.hi (Nt.hi x1 x2) (Nt.hi y1 y2)))) = true from (by rw [decide_eq_true rfl, decide_eq_true rfl]; rfl)]
end Go.Proofs.YtnedhbidmfoegaaGreat
