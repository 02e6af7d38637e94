/- Formats and sections out of numbers. Printed by wip/sym/g_wl.py. WaveIsComplementary, walked. Printed by wip/sym/g_wm.py. -/
import Derived.Test.YtmonfdlnihaabaaGreatWavE
namespace Go.Proofs.YtmonfdlnihaabaaGreat
open Go.RowKit
set_option linter.unusedVariables false
theorem k_withinB {u w : World} {n m : Int} (d : Dat u w) (hm : 1 ≤ m) (hm2 : m ≤ 4611686018427387904) (hn0 : -9223372036854775808 ≤ n) (hn1 : n ≤ 9223372036854775807) : Calls Tryz.prog 9 #[.int .i64 n, .int .i64 m] w (Post u w fun v _ => ∃ z : Int, v = .int .i64 z ∧ 0 ≤ z ∧ z < m) :=
 Post.mono (k_within d hm hm2 hn0 hn1) fun v u' _ h => ⟨n % m, h, Int.emod_nonneg _ (by omega), Int.emod_lt_of_pos _ (by omega)⟩
set_option maxHeartbeats 1000000 in
theorem k_word {u w : World} {k : Int} (d : Dat u w) (hk0 : -9223372036854775808 ≤ k) (hk1 : k ≤ 9223372036854775807) : Calls Tryz.prog 63 #[.int .i64 k, .int .i64 6, .int .i64 9, .int .i64 1] w (Post u w fun v _ => ∃ W : WL, v = W.v ∧ CoefOK W) := by
 refine zzl (args := [.int .i64 k, .int .i64 6, .int .i64 9, .int .i64 1]) Tryz.func63 rfl Tryz.ntmps63 (rs := [.cell 8 51]) Tryz.results63 (le_b rfl) (le_b rfl) d ?_
 refine sq9 ?_
 refine zzj 8 ⟨51, [.int .i64 0, .int .i64 0, .int .i64 0, .int .i64 0]⟩ ?_
 refine zzb 52 [(0, .v (.int .i64 k)), (1, .v (.int .i64 6)), (2, .v (.int .i64 9)), (3, .v (.int .i64 1)), (8, .adr 8 0)] [(8, ⟨51, [.int .i64 0, .int .i64 0, .int .i64 0, .int .i64 0]⟩)] ?_
 refine sq9 ?_
 refine zza 10 (.v (.int .i64 k)) ?_
 refine zzf 11 9 [.int .i64 k, .int .i64 1099511627776] ?_
 intro w11 u11 e11 d11
 have k17 := (show Calls _ _ #[.int .i64 k, .int .i64 1099511627776] _ _ from k_withinB (n := k) (m := 1099511627776) d11 (by omega) (by omega) (by omega) (by omega))
 with_reducible refine Post.mono k17 ?_
 rintro _ u15 g16 ⟨z12, rfl, h13, h14⟩
 refine zza 0 (.v (.int .i64 z12)) ?_
 refine zzb 52 [(0, .v (.int .i64 z12)), (1, .v (.int .i64 6)), (2, .v (.int .i64 9)), (3, .v (.int .i64 1)), (8, .adr 8 0)] [(8, ⟨51, [.int .i64 0, .int .i64 0, .int .i64 0, .int .i64 0]⟩)] ?_
 refine sq9 ?_
 refine zza 12 (.v (.int .i64 6)) ?_
 refine zza 13 (.v (.int .i64 z12)) ?_
 refine zza 14 (.v (.int .i64 9)) ?_
 refine zza 15 (.v (.int .i64 6)) ?_
 refine zza 16 (.v (.int .i64 3)) ?_
 refine zza 17 (.v (.int .i64 4)) ?_
 refine sy_rem 18 (n := z12) (m := 4) (z12 % 4) (by decide) (Int.tmod_eq_emod_of_nonneg (by omega)) ?_
 refine zyp 19 (x := .v (.int .i64 (IntKind.i64.wrap ((6 : Int) + (z12 % 4))))) (.v (.int .i64 ((6 : Int) + (z12 % 4)))) (by rw [IntWalk.i64_in _ (by omega)]) ?_
 refine zza 20 (.v (.agg #[.int .i64 ((6 : Int) + (z12 % 4)), .int .i64 0, .int .i64 0, .int .i64 0])) ?_
 refine zzj 9 ⟨51, [.int .i64 0, .int .i64 0, .int .i64 0, .int .i64 0]⟩ ?_
 refine zzi ⟨51, [.int .i64 ((6 : Int) + (z12 % 4)), .int .i64 0, .int .i64 0, .int .i64 0]⟩ ty51 ?_
 refine zzb 52 [(0, .v (.int .i64 z12)), (1, .v (.int .i64 6)), (2, .v (.int .i64 9)), (3, .v (.int .i64 1)), (8, .adr 8 0), (9, .adr 9 0)] [(8, ⟨51, [.int .i64 0, .int .i64 0, .int .i64 0, .int .i64 0]⟩), (9, ⟨51, [.int .i64 ((6 : Int) + (z12 % 4)), .int .i64 0, .int .i64 0, .int .i64 0]⟩)] ?_
 refine sq9 ?_
 refine zza 21 (.v (.int .i64 z12)) ?_
 refine zza 22 (.v (.int .i64 9)) ?_
 refine zza 23 (.v (.int .i64 6)) ?_
 refine zza 24 (.v (.int .i64 3)) ?_
 refine zza 25 (.v (.int .i64 4)) ?_
 refine sy_quo 26 (n := z12) (m := 4) (z12 / 4) (by decide) (by rw [Int.tdiv_eq_ediv_of_nonneg (by omega)]; exact IntWalk.i64_in _ (by omega)) ?_
 refine zza 0 (.v (.int .i64 (z12 / 4))) ?_
 refine zzb 52 [(0, .v (.int .i64 (z12 / 4))), (3, .v (.int .i64 1)), (8, .adr 8 0), (9, .adr 9 0)] [(8, ⟨51, [.int .i64 0, .int .i64 0, .int .i64 0, .int .i64 0]⟩), (9, ⟨51, [.int .i64 ((6 : Int) + (z12 % 4)), .int .i64 0, .int .i64 0, .int .i64 0]⟩)] ?_
 refine sq9 ?_
 refine zza 27 (.adr 9 0) ?_
 refine zzh 28 (.v (.int .i64 ((6 : Int) + (z12 % 4)))) ty3 zzk ?_
 refine zyp 29 (x := .v (.int .i64 (IntKind.i64.wrap (((6 : Int) + (z12 % 4)) - 1)))) (.v (.int .i64 (((6 : Int) + (z12 % 4)) - 1))) (by rw [IntWalk.i64_in _ (by omega)]) ?_
 refine zza 30 (.v (.int .i64 1)) ?_
 refine zyp 31 (x := .v (.int .i64 (IntKind.i64.wrap ((((6 : Int) + (z12 % 4)) - 1) - 1)))) (.v (.int .i64 ((((6 : Int) + (z12 % 4)) - 1) - 1))) (by rw [IntWalk.i64_in _ (by omega)]) ?_
 refine zza 32 (.v (.int .i64 (z12 / 4))) ?_
 refine sy_rem 33 (n := z12 / 4) (m := 2) ((z12 / 4) % 2) (by decide) (Int.tmod_eq_emod_of_nonneg (by omega)) ?_
 refine zyp 34 (x := .v (.int .i64 (IntKind.i64.wrap (((((6 : Int) + (z12 % 4)) - 1) - 1) - ((z12 / 4) % 2))))) (.v (.int .i64 (((((6 : Int) + (z12 % 4)) - 1) - 1) - ((z12 / 4) % 2)))) (by rw [IntWalk.i64_in _ (by omega)]) ?_
 refine zza 35 (.adr 9 1) ?_
 refine zzi ⟨51, [.int .i64 ((6 : Int) + (z12 % 4)), .int .i64 (((((6 : Int) + (z12 % 4)) - 1) - 1) - ((z12 / 4) % 2)), .int .i64 0, .int .i64 0]⟩ ty3 ?_
 refine zzb 52 [(0, .v (.int .i64 (z12 / 4))), (8, .adr 8 0), (9, .adr 9 0)] [(8, ⟨51, [.int .i64 0, .int .i64 0, .int .i64 0, .int .i64 0]⟩), (9, ⟨51, [.int .i64 ((6 : Int) + (z12 % 4)), .int .i64 (((((6 : Int) + (z12 % 4)) - 1) - 1) - ((z12 / 4) % 2)), .int .i64 0, .int .i64 0]⟩)] ?_
 refine sq9 ?_
 refine zza 36 (.v (.int .i64 (z12 / 4))) ?_
 refine sy_quo 37 (n := z12 / 4) (m := 2) ((z12 / 4) / 2) (by decide) (by rw [Int.tdiv_eq_ediv_of_nonneg (by omega)]; exact IntWalk.i64_in _ (by omega)) ?_
 refine zza 0 (.v (.int .i64 ((z12 / 4) / 2))) ?_
 refine zzb 52 [(0, .v (.int .i64 ((z12 / 4) / 2))), (8, .adr 8 0), (9, .adr 9 0)] [(8, ⟨51, [.int .i64 0, .int .i64 0, .int .i64 0, .int .i64 0]⟩), (9, ⟨51, [.int .i64 ((6 : Int) + (z12 % 4)), .int .i64 (((((6 : Int) + (z12 % 4)) - 1) - 1) - ((z12 / 4) % 2)), .int .i64 0, .int .i64 0]⟩)] ?_
 refine sq9 ?_
 refine zza 38 (.adr 9 1) ?_
 refine zzh 39 (.v (.int .i64 (((((6 : Int) + (z12 % 4)) - 1) - 1) - ((z12 / 4) % 2)))) ty3 zzk ?_
 refine sy_max0 40 (n := ((((6 : Int) + (z12 % 4)) - 1) - 1) - ((z12 / 4) % 2)) (v := ((((6 : Int) + (z12 % 4)) - 1) - 1) - ((z12 / 4) % 2)) (by split <;> omega) ?_
 refine zza 41 (.adr 9 1) ?_
 refine zzi ⟨51, [.int .i64 ((6 : Int) + (z12 % 4)), .int .i64 (((((6 : Int) + (z12 % 4)) - 1) - 1) - ((z12 / 4) % 2)), .int .i64 0, .int .i64 0]⟩ ty3 ?_
 refine zzb 52 [(0, .v (.int .i64 ((z12 / 4) / 2))), (8, .adr 8 0), (9, .adr 9 0)] [(8, ⟨51, [.int .i64 0, .int .i64 0, .int .i64 0, .int .i64 0]⟩), (9, ⟨51, [.int .i64 ((6 : Int) + (z12 % 4)), .int .i64 (((((6 : Int) + (z12 % 4)) - 1) - 1) - ((z12 / 4) % 2)), .int .i64 0, .int .i64 0]⟩)] ?_
 refine sq9 ?_
 refine zza 42 (.v (.int .i64 ((z12 / 4) / 2))) ?_
 refine sy_rem 43 (n := (z12 / 4) / 2) (m := 3) (((z12 / 4) / 2) % 3) (by decide) (Int.tmod_eq_emod_of_nonneg (by omega)) ?_
 refine zyp 44 (x := .v (.int .i64 (IntKind.i64.wrap ((1 : Int) + (((z12 / 4) / 2) % 3))))) (.v (.int .i64 ((1 : Int) + (((z12 / 4) / 2) % 3)))) (by rw [IntWalk.i64_in _ (by omega)]) ?_
 refine zza 45 (.v (.int .i64 ((z12 / 4) / 2))) ?_
 refine sy_quo 46 (n := (z12 / 4) / 2) (m := 3) (((z12 / 4) / 2) / 3) (by decide) (by rw [Int.tdiv_eq_ediv_of_nonneg (by omega)]; exact IntWalk.i64_in _ (by omega)) ?_
 refine sy_rem 47 (n := ((z12 / 4) / 2) / 3) (m := 2) ((((z12 / 4) / 2) / 3) % 2) (by decide) (Int.tmod_eq_emod_of_nonneg (by omega)) ?_
 refine zyp 48 (x := .v (.int .i64 (IntKind.i64.wrap ((1 : Int) + ((((z12 / 4) / 2) / 3) % 2))))) (.v (.int .i64 ((1 : Int) + ((((z12 / 4) / 2) / 3) % 2)))) (by rw [IntWalk.i64_in _ (by omega)]) ?_
 refine zza 49 (.adr 9 2) ?_
 refine zzi ⟨51, [.int .i64 ((6 : Int) + (z12 % 4)), .int .i64 (((((6 : Int) + (z12 % 4)) - 1) - 1) - ((z12 / 4) % 2)), .int .i64 ((1 : Int) + (((z12 / 4) / 2) % 3)), .int .i64 0]⟩ ty3 ?_
 refine zza 50 (.adr 9 3) ?_
 refine zzi ⟨51, [.int .i64 ((6 : Int) + (z12 % 4)), .int .i64 (((((6 : Int) + (z12 % 4)) - 1) - 1) - ((z12 / 4) % 2)), .int .i64 ((1 : Int) + (((z12 / 4) / 2) % 3)), .int .i64 ((1 : Int) + ((((z12 / 4) / 2) / 3) % 2))]⟩ ty3 ?_
 refine zzb 52 [(8, .adr 8 0), (9, .adr 9 0)] [(8, ⟨51, [.int .i64 0, .int .i64 0, .int .i64 0, .int .i64 0]⟩), (9, ⟨51, [.int .i64 ((6 : Int) + (z12 % 4)), .int .i64 (((((6 : Int) + (z12 % 4)) - 1) - 1) - ((z12 / 4) % 2)), .int .i64 ((1 : Int) + (((z12 / 4) / 2) % 3)), .int .i64 ((1 : Int) + ((((z12 / 4) / 2) / 3) % 2))]⟩)] ?_
 refine sq9 ?_
 refine zzh 51 (.v (.agg #[.int .i64 ((6 : Int) + (z12 % 4)), .int .i64 (((((6 : Int) + (z12 % 4)) - 1) - 1) - ((z12 / 4) % 2)), .int .i64 ((1 : Int) + (((z12 / 4) / 2) % 3)), .int .i64 ((1 : Int) + ((((z12 / 4) / 2) / 3) % 2))])) ty51 zzd ?_
 refine zzi ⟨51, [.int .i64 ((6 : Int) + (z12 % 4)), .int .i64 (((((6 : Int) + (z12 % 4)) - 1) - 1) - ((z12 / 4) % 2)), .int .i64 ((1 : Int) + (((z12 / 4) / 2) % 3)), .int .i64 ((1 : Int) + ((((z12 / 4) / 2) / 3) % 2))]⟩ ty51 ?_
 refine zzb 52 [(8, .adr 8 0)] [(8, ⟨51, [.int .i64 ((6 : Int) + (z12 % 4)), .int .i64 (((((6 : Int) + (z12 % 4)) - 1) - 1) - ((z12 / 4) % 2)), .int .i64 ((1 : Int) + (((z12 / 4) / 2) % 3)), .int .i64 ((1 : Int) + ((((z12 / 4) / 2) / 3) % 2))]⟩)] ?_
 refine zzn (ret0 [.agg #[.int .i64 ((6 : Int) + (z12 % 4)), .int .i64 (((((6 : Int) + (z12 % 4)) - 1) - 1) - ((z12 / 4) % 2)), .int .i64 ((1 : Int) + (((z12 / 4) / 2) % 3)), .int .i64 ((1 : Int) + ((((z12 / 4) / 2) / 3) % 2))]] ⟨zzq ty51 zzd, trivial⟩ fun u18 e19 => ?_)
 exact ⟨⟨(6 : Int) + (z12 % 4), ((((6 : Int) + (z12 % 4)) - 1) - 1) - ((z12 / 4) % 2), (1 : Int) + (((z12 / 4) / 2) % 3), (1 : Int) + ((((z12 / 4) / 2) / 3) % 2)⟩, rfl, by unfold CoefOK; dsimp only; omega⟩
theorem k_coef {u w : World} {k : Int} (d : Dat u w) (hk0 : -9223372036854775808 ≤ k) (hk1 : k ≤ 9223372036854775807) : Calls Tryz.prog 23 #[.int .i64 k] w (Post u w fun v _ => ∃ W : WL, v = W.v ∧ CoefOK W) := by
 refine zzl (args := [.int .i64 k]) Tryz.func23 rfl Tryz.ntmps23 (rs := [.cell 2 51]) Tryz.results23 (le_b rfl) (le_b rfl) d ?_
 refine sq9 ?_
 refine zzj 2 ⟨51, [.int .i64 0, .int .i64 0, .int .i64 0, .int .i64 0]⟩ ?_
 refine zzb 5 [(0, .v (.int .i64 k)), (2, .adr 2 0)] [(2, ⟨51, [.int .i64 0, .int .i64 0, .int .i64 0, .int .i64 0]⟩)] ?_
 refine sq9 ?_
 refine zza 3 (.v (.int .i64 k)) ?_
 refine zzf 4 63 [.int .i64 k, .int .i64 6, .int .i64 9, .int .i64 1] ?_
 intro w11 u11 e11 d11
 have k16 := k_word (k := k) d11 (by omega) (by omega)
 with_reducible refine Post.mono k16 ?_
 rintro _ u14 g15 ⟨W12, rfl, hW13⟩
 have hw17 := hW13.ok
 have hw17f : 1 ≤ W12.f := by have h9 := hW13; unfold CoefOK at h9; omega
 have hw17g : W12.f ≤ 24 := by have h9 := hW13; unfold CoefOK at h9; omega
 refine zzi ⟨51, [.int .i64 W12.b, .int .i64 W12.f, .int .i64 W12.r, .int .i64 W12.o]⟩ ty51 ?_
 refine zzb 5 [(2, .adr 2 0)] [(2, ⟨51, [.int .i64 W12.b, .int .i64 W12.f, .int .i64 W12.r, .int .i64 W12.o]⟩)] ?_
 refine zzn (ret0 [.agg #[.int .i64 W12.b, .int .i64 W12.f, .int .i64 W12.r, .int .i64 W12.o]] ⟨zzq ty51 zzd, trivial⟩ fun u18 e19 => ?_)
 exact ⟨W12, rfl, by assumption⟩
theorem k_wat {u w : World} {x : Sl} {l : List Int} {i : Nat} (d : Dat u w) (hx : SlR .i64 u x.a x.n x.c l) (hb : ∀ z ∈ l, -9223372036854775808 ≤ z ∧ z ≤ 9223372036854775807) (hi9 : i ≤ 1000000000) : Calls Tryz.prog 11 #[x.v, .int .i64 (i : Int)] w (Post u w fun v _ => v = .int .i64 (l.getD i 0)) := by
 have hlen : l.length = x.n := hx.1
 refine zzl (args := [.slice x.a x.n x.c, .int .i64 (i : Int)]) Tryz.func11 rfl Tryz.ntmps11 (rs := [.tmp 4]) Tryz.results11 (le_b rfl) (le_b rfl) d ?_
 refine sq9 ?_
 refine zza 4 (.v (.int .i64 0)) ?_
 refine zzb 17 [(0, .v x.v), (1, .v (.int .i64 (i : Int)))] [] ?_
 refine zzc ?_
 refine sq9 ?_
 refine zza 5 (.v (.int .i64 (i : Int))) ?_
 refine zza 6 (.v (.bool (decide ((0 : Int) ≤ (i : Int))))) ?_
 refine zyp 7 (x := .v (.bool (decide ((0 : Int) ≤ (i : Int))))) (.v (.bool true)) (by rw [show (decide ((0 : Int) ≤ (i : Int))) = true from decide_eq_true (by omega)]) ?_
 refine zza 8 (.v (.int .i64 (i : Int))) ?_ (hw := w1 2 true 7)
 refine zza 9 (.v x.v) ?_ (hw := w1 2 true 7)
 refine zza 10 (.v (.int .i64 (x.n : Int))) ?_ (hw := w1 2 true 7)
 refine zza 11 (.v (.bool (decide ((i : Int) < (x.n : Int))))) ?_ (hw := w1 2 true 7)
 refine zza 12 (.v (.bool (decide ((i : Int) < (x.n : Int))))) ?_
 refine zzb 17 [(0, .v x.v), (1, .v (.int .i64 (i : Int))), (12, .v (.bool (decide ((i : Int) < (x.n : Int)))))] [] ?_
 refine zzt (b := decide ((i : Int) < (x.n : Int))) (by kernel_rfl) (fun hb12 => ?_) (fun hb12 => ?_)
 ·replace hb12 : (decide ((i : Int) < (x.n : Int))) = true := hb12
  have qhb12 := of_decide_eq_true hb12
  refine sq9 ?_
  refine zza 13 (.v x.v) ?_
  refine zza 14 (.v (.int .i64 (i : Int))) ?_
  have hl13 := (hx).1
  obtain ⟨b13, o13, hA13, hc13⟩ := ints_at hx (i := i) (by omega)
  have hz13 := ints_bd hb (by omega) i
  refine zzz 15 (o13 + i * 1) (n := x.n) (off := o13) (sz := 1) (i := (i : Int)) (by omega) hA13 (by omega) (by omega) sl22 ?_
  refine zyk 16 (.int .i64 (l.getD i 0)) hc13 ty3 ?_
  refine zza 4 (.v (.int .i64 (l.getD i 0))) ?_
  refine zzb 17 [(4, .v (.int .i64 (l.getD i 0)))] [] ?_
  refine zzn (zzv (ret0 [.int .i64 (l.getD i 0)] ⟨zzp, trivial⟩ fun u14 e15 => ?_))
  rfl
 ·replace hb12 : (decide ((i : Int) < (x.n : Int))) = false := hb12
  have qhb12 := of_decide_eq_false hb12
  refine zzr (zzo ?_)
  refine sq9 ?_
  refine zza 4 (.v (.int .i64 0)) ?_
  refine zzb 17 [(4, .v (.int .i64 0))] [] ?_
  refine zzn (ret0 [.int .i64 0] ⟨zzp, trivial⟩ fun u16 e17 => ?_)
  show Value.int _ _ = Value.int _ _
  rw [show l.getD i 0 = 0 by rw [List.getD_eq_getElem?_getD, List.getElem?_eq_none (by omega)]; rfl]
set_option maxHeartbeats 1000000 in
theorem k_below {u w : World} {x : Sl} {l : List Int} {b : Int} (d : Dat u w) (hx : SlR .i64 u x.a x.n x.c l) (hb : ∀ z ∈ l, -9223372036854775808 ≤ z ∧ z ≤ 9223372036854775807) (hb0 : 0 ≤ b) (hb1 : b ≤ 16777216) : Calls Tryz.prog 41 #[.int .i64 b, x.v, .int .i64 2] w (Post u w fun v u' => ∃ (y : Sl) (g h : Int), v = y.v ∧ y.n = 2 ∧ SlR .i64 u' y.a y.n y.c [g, h] ∧ -b ≤ g ∧ g ≤ b ∧ -b ≤ h ∧ h ≤ b) := by
 refine zzl (args := [.int .i64 b, .slice x.a x.n x.c, .int .i64 2]) Tryz.func41 rfl Tryz.ntmps41 (rs := [.tmp 6]) Tryz.results41 (le_b rfl) (le_b rfl) d ?_
 refine sq9 ?_
 refine zza 6 (.v (.slice none 0 0)) ?_
 refine zzb 29 [(0, .v (.int .i64 b)), (1, .v x.v), (2, .v (.int .i64 2))] [] ?_
 refine sq9 ?_
 refine zza 7 (.v (.slice none 0 0)) ?_
 refine zzb 29 [(0, .v (.int .i64 b)), (1, .v x.v), (2, .v (.int .i64 2)), (7, .v (.slice none 0 0))] [] ?_
 refine zzc ?_
 refine sq9 ?_
 refine zza 8 (.v (.int .i64 0)) ?_
 refine zzb 29 [(0, .v (.int .i64 b)), (1, .v x.v), (2, .v (.int .i64 2)), (7, .v (.slice none 0 0)), (8, .v (.int .i64 0))] [] ?_
 refine zzs ?_
 refine sw_rounds 2 ?_
 refine zzc ?_
 refine sq9 ?_
 refine zza 9 (.v (.int .i64 0)) ?_
 refine zza 10 (.v (.int .i64 2)) ?_
 refine zza 11 (.v (.bool true)) ?_
 refine zzb 29 [(0, .v (.int .i64 b)), (1, .v x.v), (2, .v (.int .i64 2)), (7, .v (.slice none 0 0)), (8, .v (.int .i64 0)), (11, .v (.bool true))] [] ?_
 refine zyq (by kernel_rfl) ?_
 refine zzr (zzo ?_)
 refine zzc ?_
 refine zzs ?_
 refine zze ?_
 refine zza 14 (.v (.slice none 0 0)) ?_
 refine zza 15 (.v x.v) ?_
 refine zza 16 (.v (.int .i64 0)) ?_
 refine zzf 17 11 [x.v, .int .i64 0] ?_
 intro w11 u11 e11 d11
 have k14 := (show Calls _ _ #[_, .int .i64 0] _ _ from k_wat (x := x) (i := 0) d11 (hx.ext e11) hb (by omega))
 with_reducible refine Post.mono k14 ?_
 rintro _ u12 g13 rfl
 have hz15 := ints_bd hb (by omega) 0
 refine zza 18 (.v (.int .i64 b)) ?_
 obtain ⟨z16, hz16, ha16, hb16⟩ := wrap64_ex ((l.getD 0 0) + b)
 refine zyp 19 (x := .v (.int .i64 (IntKind.i64.wrap ((l.getD 0 0) + b)))) (.v (.int .i64 z16)) (eqI hz16) ?_
 refine zza 20 (.v (.int .i64 b)) ?_
 refine zyp 21 (x := .v (.int .i64 (IntKind.i64.wrap ((2 : Int) * b)))) (.v (.int .i64 ((2 : Int) * b))) (by rw [IntWalk.i64_in _ (by omega)]) ?_
 refine zyp 22 (x := .v (.int .i64 (IntKind.i64.wrap (((2 : Int) * b) + 1)))) (.v (.int .i64 (((2 : Int) * b) + 1))) (by rw [IntWalk.i64_in _ (by omega)]) ?_
 refine zzf 23 9 [.int .i64 z16, .int .i64 (((2 : Int) * b) + 1)] ?_
 intro w17 u17 e17 d17
 have k23 := (show Calls _ _ #[.int .i64 z16, .int .i64 (((2 : Int) * b) + 1)] _ _ from k_withinB (n := z16) (m := ((2 : Int) * b) + 1) d17 (by omega) (by omega) (by omega) (by omega))
 with_reducible refine Post.mono k23 ?_
 rintro _ u21 g22 ⟨z18, rfl, h19, h20⟩
 refine zza 24 (.v (.int .i64 b)) ?_
 obtain ⟨g24, hg24⟩ : ∃ g, z18 - b = g := ⟨_, rfl⟩
 refine zyp 25 (x := .v (.int .i64 (IntKind.i64.wrap (z18 - b)))) (.v (.int .i64 g24)) (eqI (by rw [IntWalk.i64_in _ (by omega)]; exact hg24)) ?_
 refine sy_data 26 ⟨3, [.int .i64 g24]⟩ 1 (fun b25 u26 e27 h28 => ?_)
 refine sy_app0 27 (T := 22) (E := 3) (z := .int .i64 0) (size := 1) (bytes := 8) (b := b25) (off := 0) (m := 1) [.int .i64 g24] (by kernel_rfl) (by kernel_rfl) (by kernel_rfl) (by decide) rfl (lit_news ((Ext.refl _).cells h28)) (int_one _) (by decide) (by decide) (by decide) ?_
 intro c29 cs29 ha29 hb29 hc29 hd29
 have hd29r : cs29.take (1 * 1) = [g24].map (Value.int .i64) := hd29
 refine zza 7 (.slc 27 0 1 c29) ?_
 refine zzw ?_
 refine zzo ?_
 refine zze ?_
 refine zza 12 (.v (.int .i64 0)) ?_
 refine zza 13 (.v (.int .i64 1)) ?_
 refine zza 8 (.v (.int .i64 1)) ?_
 refine zzw ?_
 refine rn_next ?_
 refine sw_weak (T := St.of 29 [(0, .v (.int .i64 b)), (1, .v (.slice x.a x.n x.c)), (2, .v (.int .i64 2)), (7, .slc 27 0 1 c29), (8, .v (.int .i64 1))] [(27, ⟨3, cs29⟩)]) (by exact zzu _ _ _) ?_
 refine zzc ?_
 refine sq9 ?_
 refine zza 9 (.v (.int .i64 1)) ?_
 refine zza 10 (.v (.int .i64 2)) ?_
 refine zza 11 (.v (.bool true)) ?_
 refine zzb 29 [(0, .v (.int .i64 b)), (1, .v x.v), (2, .v (.int .i64 2)), (7, .slc 27 0 1 c29), (8, .v (.int .i64 1)), (11, .v (.bool true))] [(27, ⟨3, cs29⟩)] ?_
 refine zyq (by kernel_rfl) ?_
 refine zzr (zzo ?_)
 refine zzc ?_
 refine zzs ?_
 refine zze ?_
 refine zza 14 (.slc 27 0 1 c29) ?_
 refine zza 15 (.v x.v) ?_
 refine zza 16 (.v (.int .i64 1)) ?_
 refine zzf 17 11 [x.v, .int .i64 1] ?_
 intro w30 u30 e30 d30
 have k33 := (show Calls _ _ #[_, .int .i64 1] _ _ from k_wat (x := x) (i := 1) d30 (hx.ext (e11.trans (g13.ext.trans (e17.trans (g22.ext.trans (e27.trans e30)))))) hb (by omega))
 with_reducible refine Post.mono k33 ?_
 rintro _ u31 g32 rfl
 have hz34 := ints_bd hb (by omega) 1
 refine zza 18 (.v (.int .i64 b)) ?_
 obtain ⟨z35, hz35, ha35, hb35⟩ := wrap64_ex ((l.getD 1 0) + b)
 refine zyp 19 (x := .v (.int .i64 (IntKind.i64.wrap ((l.getD 1 0) + b)))) (.v (.int .i64 z35)) (eqI hz35) ?_
 refine zza 20 (.v (.int .i64 b)) ?_
 refine zyp 21 (x := .v (.int .i64 (IntKind.i64.wrap ((2 : Int) * b)))) (.v (.int .i64 ((2 : Int) * b))) (by rw [IntWalk.i64_in _ (by omega)]) ?_
 refine zyp 22 (x := .v (.int .i64 (IntKind.i64.wrap (((2 : Int) * b) + 1)))) (.v (.int .i64 (((2 : Int) * b) + 1))) (by rw [IntWalk.i64_in _ (by omega)]) ?_
 refine zzf 23 9 [.int .i64 z35, .int .i64 (((2 : Int) * b) + 1)] ?_
 intro w36 u36 e36 d36
 have k42 := (show Calls _ _ #[.int .i64 z35, .int .i64 (((2 : Int) * b) + 1)] _ _ from k_withinB (n := z35) (m := ((2 : Int) * b) + 1) d36 (by omega) (by omega) (by omega) (by omega))
 with_reducible refine Post.mono k42 ?_
 rintro _ u40 g41 ⟨z37, rfl, h38, h39⟩
 refine zza 24 (.v (.int .i64 b)) ?_
 obtain ⟨g43, hg43⟩ : ∃ g, z37 - b = g := ⟨_, rfl⟩
 refine zyp 25 (x := .v (.int .i64 (IntKind.i64.wrap (z37 - b)))) (.v (.int .i64 g43)) (eqI (by rw [IntWalk.i64_in _ (by omega)]; exact hg43)) ?_
 refine sy_data 26 ⟨3, [.int .i64 g43]⟩ 1 (fun b44 u45 e46 h47 => ?_)
 refine sy_app1 27 (T := 22) (E := 3) (z := .int .i64 0) (size := 1) (bytes := 8) (b := b44) (off := 0) (m := 1) (n := 1) (cap := c29) (t := 27) (cs0 := cs29) [7, 14, 27] [.int .i64 g43] (by kernel_rfl) (by kernel_rfl) (by kernel_rfl) (by decide) rfl (lit_news ((Ext.refl _).cells h47)) (int_one _) (by decide) (by unfold maxLen; omega) (by omega) (by omega) (by omega) (by omega) (by repeat first | exact noAt_of | refine zyc ?_ | refine zye ?_ | refine zyd ?_ | refine zzx ?_ | refine zya ?_) ?_
 intro c48 cs48 ha48 hb48 hc48 hd48
 have hd48r : cs48.take (2 * 1) = [g24, g43].map (Value.int .i64) := by rw [show 2 * 1 = (1 + 1) * 1 from rfl, hd48, hd29r]; rfl
 replace ha48 : 2 ≤ c48 := ha48
 refine zza 7 (.slc 27 0 2 c48) ?_
 refine zzw ?_
 refine zzo ?_
 refine zze ?_
 refine zza 12 (.v (.int .i64 1)) ?_
 refine zza 13 (.v (.int .i64 2)) ?_
 refine zza 8 (.v (.int .i64 2)) ?_
 refine zzw ?_
 refine rn_next ?_
 refine sw_weak (T := St.of 29 [(0, .v (.int .i64 b)), (1, .v (.slice x.a x.n x.c)), (2, .v (.int .i64 2)), (7, .slc 27 0 2 c48), (8, .v (.int .i64 2))] [(27, ⟨3, cs48⟩)]) (by exact zzu _ _ _) ?_
 refine zzc ?_
 refine sq9 ?_
 refine zza 9 (.v (.int .i64 2)) ?_
 refine zza 10 (.v (.int .i64 2)) ?_
 refine zza 11 (.v (.bool false)) ?_
 refine zzb 29 [(0, .v (.int .i64 b)), (1, .v x.v), (2, .v (.int .i64 2)), (7, .slc 27 0 2 c48), (8, .v (.int .i64 2)), (11, .v (.bool false))] [(27, ⟨3, cs48⟩)] ?_
 refine zyr (by kernel_rfl) ?_
 refine zyb ?_
 refine zzo ?_
 refine zzc ?_
 refine zyo (r := 7) (t := 27) [7, 27] (by repeat first | exact noAt_of | refine zyc ?_ | refine zye ?_ | refine zyd ?_ | refine zzx ?_ | refine zya ?_) (by kernel_rfl) (by rfl) (by rfl) (by kernel_rfl) (fun b49 u50 e51 hb52 hh53 => ?_)
 have hp54 : SlR .i64 u50 (some ⟨b49, 0, none⟩) 2 c48 [g24, g43] := ints_data hh53 hd48r (show cs48.length = c48 by omega) ha48 hb48
 refine zze ?_
 refine zza 28 (.v (.slice (some ⟨b49, 0, none⟩) 2 c48)) ?_
 refine zza 6 (.v (.slice (some ⟨b49, 0, none⟩) 2 c48)) ?_
 refine zzb 29 [(6, .v (.slice (some ⟨b49, 0, none⟩) 2 c48))] [] ?_
 refine zzn (ret0 [.slice (some ⟨b49, 0, none⟩) 2 c48] ⟨zzp, trivial⟩ fun u55 e56 => ?_)
 exact ⟨(⟨some ⟨b49, 0, none⟩, 2, c48⟩ : Sl), g24, g43, rfl, rfl, (hp54.ext e56), by omega, by omega, by omega, by omega⟩
set_option maxHeartbeats 4000000 in
theorem k_sections {u w : World} {x : Sl} {l : List Int} {W : WL} (d : Dat u w) (hx : SlR .i64 u x.a x.n x.c l) (hb : ∀ z ∈ l, -9223372036854775808 ≤ z ∧ z ≤ 9223372036854775807) (hW : WdOK W) : Calls Tryz.prog 69 #[x.v, W.v] w (Post u w fun v u' => ∃ (y : Sl) (L : List PL), v = y.v ∧ PasV u' y L ∧ (∀ p ∈ L, PasOK W.f p) ∧ L.length ≤ 4) := by
 obtain ⟨hw1, hw2, hw3, hw4, hw5, hw6, hw7, hw8⟩ := id hW
 have hlen : l.length = x.n := hx.1
 have hu0 := Nt.p2i_pos W.f
 have hu1 := Nt.p2i_24 (n := W.f) (by omega)
 refine zzl (args := [.slice x.a x.n x.c, .agg #[.int .i64 W.b, .int .i64 W.f, .int .i64 W.r, .int .i64 W.o]]) Tryz.func69 rfl Tryz.ntmps69 (rs := [.tmp 4]) Tryz.results69 (le_b rfl) (le_b rfl) d ?_
 refine sq9 ?_
 refine zzj 3 ⟨51, [.int .i64 W.b, .int .i64 W.f, .int .i64 W.r, .int .i64 W.o]⟩ ?_
 refine zza 4 (.v (.slice none 0 0)) ?_
 refine zzb 53 [(0, .v x.v), (3, .adr 3 0)] [(3, ⟨51, [.int .i64 W.b, .int .i64 W.f, .int .i64 W.r, .int .i64 W.o]⟩)] ?_
 refine sq9 ?_
 refine zza 5 (.v (.slice none 0 0)) ?_
 refine zzb 53 [(0, .v x.v), (3, .adr 3 0), (5, .v (.slice none 0 0))] [(3, ⟨51, [.int .i64 W.b, .int .i64 W.f, .int .i64 W.r, .int .i64 W.o]⟩)] ?_
 refine zzc ?_
 refine sq9 ?_
 refine zza 6 (.v (.int .i64 0)) ?_
 refine zzb 53 [(0, .v x.v), (3, .adr 3 0), (5, .v (.slice none 0 0)), (6, .v (.int .i64 0))] [(3, ⟨51, [.int .i64 W.b, .int .i64 W.f, .int .i64 W.r, .int .i64 W.o]⟩)] ?_
 refine zzs ?_
 refine sw_rounds 2 ?_
 refine zzc ?_
 refine sq9 ?_
 refine zza 9 (.v (.int .i64 0)) ?_
 refine zza 10 (.v (.int .i64 2)) ?_
 refine zza 11 (.v x.v) ?_
 refine zza 12 (.v (.int .i64 (x.n : Int))) ?_
 refine zza 13 (.v (.bool (decide ((2 : Int) < (x.n : Int))))) ?_
 rcases Bool.eq_false_or_eq_true (decide ((2 : Int) < (x.n : Int))) with hs11 | hs11
 ·refine zyp 14 (x := .v (.bool (decide ((2 : Int) < (x.n : Int))))) (.v (.bool true)) (by rw [hs11]) ?_
  have qhs11 := of_decide_eq_true hs11
  refine zza 15 (.v (.slice none 0 0)) ?_ (hw := w1 5 true 14)
  refine zza 16 (.v (.int .i64 0)) ?_ (hw := w1 5 true 14)
  refine zza 17 (.v (.bool true)) ?_ (hw := w1 5 true 14)
  refine zza 18 (.v (.bool true)) ?_
  refine zzb 53 [(0, .v x.v), (3, .adr 3 0), (5, .v (.slice none 0 0)), (6, .v (.int .i64 0)), (18, .v (.bool true))] [(3, ⟨51, [.int .i64 W.b, .int .i64 W.f, .int .i64 W.r, .int .i64 W.o]⟩)] ?_
  refine zyq (by kernel_rfl) ?_
  refine zzr (zzo ?_)
  refine zzc ?_
  refine zzs ?_
  refine zzc ?_
  refine zzy [0, 1, 3, 0, 0, 16, 56, 127, 255] [(0, []), (3, []), (4, []), (5, []), (6, []), (1, []), (2, []), (7, []), (8, [])] (by kernel_rfl) (by kernel_rfl) ?_
  refine zzh 21 (.v (.agg #[.int .i64 W.b, .int .i64 W.f, .int .i64 W.r, .int .i64 W.o])) ty51 zzd ?_
  refine zza 24 (.v x.v) ?_
  refine zza 25 (.v (.int .i64 0)) ?_
  refine zza 26 (.v (.int .i64 1)) ?_
  have hl12 := (hx).1
  refine sy_tail 27 (n := x.n) (c := x.c) (i := 1) 1 sl22 (by omega) (by omega) ?_
  intro A12 hA12
  refine zzf 22 132 [.agg #[.int .i64 W.b, .int .i64 W.f, .int .i64 W.r, .int .i64 W.o]] ?_
  intro w13 u13 e13 d13
  have k16 := k_wunit (W := W) d13 hW
  with_reducible refine Post.mono k16 ?_
  rintro _ u14 g15 rfl
  refine zyp 23 (x := .v (.int .i64 (IntKind.i64.wrap ((Nt.p2i W.f) - 1)))) (.v (.int .i64 ((Nt.p2i W.f) - 1))) (by rw [IntWalk.i64_in _ (by omega)]) ?_
  refine zzf 28 41 [.int .i64 ((Nt.p2i W.f) - 1), .slice A12 (x.n - 1) (x.c - 1), .int .i64 2] ?_
  intro w17 u17 e17 d17
  have k21 := (show Calls _ _ #[_, .slice (⟨A12, x.n - 1, x.c - 1⟩ : Sl).a (⟨A12, x.n - 1, x.c - 1⟩ : Sl).n (⟨A12, x.n - 1, x.c - 1⟩ : Sl).c, _] _ _ from k_below (x := (⟨A12, x.n - 1, x.c - 1⟩ : Sl)) (b := (Nt.p2i W.f) - 1) d17 ((ints_drop (m := 1) hx (by omega) hA12).ext (e13.trans (g15.ext.trans e17))) (bd_drop hb 1) (by omega) (by omega))
  with_reducible refine Post.mono k21 ?_
  rintro _ u19 g20 ⟨y18, g18, h18, rfl, hn18, hs18, h118, h218, h318, h418⟩
  refine zza 7 (.v y18.v) ?_
  refine zzb 53 [(0, .v x.v), (3, .adr 3 0), (5, .v (.slice none 0 0)), (6, .v (.int .i64 0)), (7, .v y18.v)] [(3, ⟨51, [.int .i64 W.b, .int .i64 W.f, .int .i64 W.r, .int .i64 W.o]⟩)] ?_
  refine zzc ?_
  refine zzy [0, 0, 3, 7, 15, 31, 0, 64, 192, 0, 512, 1536, 4032, 8191, 0, 32767] [(0, []), (1, []), (2, []), (3, []), (6, []), (7, []), (8, []), (9, []), (10, []), (11, []), (12, []), (14, []), (4, []), (5, []), (13, []), (15, [])] (by kernel_rfl) (by kernel_rfl) ?_
  refine zza 29 (.v x.v) ?_
  refine zza 30 (.v (.int .i64 0)) ?_
  have hl22 := ((hx.ext (e13.trans (g15.ext.trans (e17.trans g20.ext))))).1
  obtain ⟨b22, o22, hA22, hc22⟩ := ints_at (hx.ext (e13.trans (g15.ext.trans (e17.trans g20.ext)))) (i := 0) (by omega)
  have hz22 := ints_bd hb (by omega) 0
  refine zzz 31 (o22 + 0 * 1) (n := x.n) (off := o22) (sz := 1) (i := 0) (by omega) hA22 (by omega) (by omega) sl22 ?_
  refine zyk 32 (.int .i64 (l.getD 0 0)) hc22 ty3 ?_
  refine zza 35 (.v y18.v) ?_
  have hl23 := (hs18).1
  obtain ⟨b23, o23, hA23, hc23⟩ := ints_at hs18 (i := 0) (by omega)
  have hz23 := ints_bd (bd_two (lo := -9223372036854775808) (hi := 9223372036854775807) (g := g18) (h := h18) ⟨by omega, by omega⟩ ⟨by omega, by omega⟩) (by omega) 0
  refine zzz 36 (o23 + 0 * 1) (n := y18.n) (off := o23) (sz := 1) (i := 0) (by omega) hA23 (by omega) (by omega) sl22 ?_
  refine zyk 37 (.int .i64 g18) hc23 ty3 ?_
  refine zza 38 (.v y18.v) ?_
  have hl24 := (hs18).1
  obtain ⟨b24, o24, hA24, hc24⟩ := ints_at hs18 (i := 1) (by omega)
  have hz24 := ints_bd (bd_two (lo := -9223372036854775808) (hi := 9223372036854775807) (g := g18) (h := h18) ⟨by omega, by omega⟩ ⟨by omega, by omega⟩) (by omega) 1
  refine zzz 39 (o24 + 1 * 1) (n := y18.n) (off := o24) (sz := 1) (i := 1) (by omega) hA24 (by omega) (by omega) sl22 ?_
  refine zyk 40 (.int .i64 h18) hc24 ty3 ?_
  refine zza 41 (.v (.agg #[.int .i64 g18, .int .i64 h18])) ?_
  refine zzj 8 ⟨65, [.int .i64 0, .int .i64 0, .int .i64 0]⟩ ?_
  refine zzf 33 9 [.int .i64 (l.getD 0 0), .int .i64 2] ?_
  intro w25 u25 e25 d25
  have k31 := (show Calls _ _ #[.int .i64 (l.getD 0 0), .int .i64 2] _ _ from k_withinB (n := (l.getD 0 0)) (m := 2) d25 (by omega) (by omega) (by omega) (by omega))
  with_reducible refine Post.mono k31 ?_
  rintro _ u29 g30 ⟨z26, rfl, h27, h28⟩
  refine zyp 34 (x := .v (.int .i64 (IntKind.i64.wrap ((1 : Int) + z26)))) (.v (.int .i64 ((1 : Int) + z26))) (by rw [IntWalk.i64_in _ (by omega)]) ?_
  refine zza 42 (.v (.agg #[.int .i64 ((1 : Int) + z26), .int .i64 g18, .int .i64 h18])) ?_
  refine zzi ⟨65, [.int .i64 ((1 : Int) + z26), .int .i64 g18, .int .i64 h18]⟩ ty65 ?_
  refine zzb 53 [(0, .v x.v), (3, .adr 3 0), (5, .v (.slice none 0 0)), (6, .v (.int .i64 0)), (8, .adr 8 0)] [(3, ⟨51, [.int .i64 W.b, .int .i64 W.f, .int .i64 W.r, .int .i64 W.o]⟩), (8, ⟨65, [.int .i64 ((1 : Int) + z26), .int .i64 g18, .int .i64 h18]⟩)] ?_
  refine zzc ?_
  refine sq9 ?_
  refine zza 43 (.adr 8 0) ?_
  refine zzh 44 (.v (.int .i64 ((1 : Int) + z26))) ty3 zzk ?_
  refine zza 45 (.v (.bool (((1 : Int) + z26) == 1))) ?_
  refine zzb 53 [(0, .v x.v), (3, .adr 3 0), (5, .v (.slice none 0 0)), (6, .v (.int .i64 0)), (8, .adr 8 0), (45, .v (.bool (((1 : Int) + z26) == 1)))] [(3, ⟨51, [.int .i64 W.b, .int .i64 W.f, .int .i64 W.r, .int .i64 W.o]⟩), (8, ⟨65, [.int .i64 ((1 : Int) + z26), .int .i64 g18, .int .i64 h18]⟩)] ?_
  refine zzt (b := ((1 : Int) + z26) == 1) (by kernel_rfl) (fun hb32 => ?_) (fun hb32 => ?_)
  ·replace hb32 : (((1 : Int) + z26) == 1) = true := hb32
   have qhb32 : (((1 : Int) + z26) = 1) := by simpa using hb32
   refine zze ?_
   refine zza 46 (.adr 8 1) ?_
   refine zza 47 (.adr 8 2) ?_
   refine zzi ⟨65, [.int .i64 ((1 : Int) + z26), .int .i64 g18, .int .i64 0]⟩ ty3 ?_
   refine zzb 53 [(0, .v x.v), (3, .adr 3 0), (5, .v (.slice none 0 0)), (6, .v (.int .i64 0)), (8, .adr 8 0)] [(3, ⟨51, [.int .i64 W.b, .int .i64 W.f, .int .i64 W.r, .int .i64 W.o]⟩), (8, ⟨65, [.int .i64 ((1 : Int) + z26), .int .i64 g18, .int .i64 0]⟩)] ?_
   have hk33 : PasOK W.f (⟨(1 : Int) + z26, g18, 0⟩ : PL) := ⟨by show (1 : Int) + z26 = 1 ∧ (0 : Int) = 0 ∨ (1 : Int) + z26 = 2; omega, by show _ < g18; omega, by show g18 < _; omega, by show _ < (0 : Int); omega, by show (0 : Int) < _; omega⟩
   refine zze ?_
   refine zza 48 (.v (.slice none 0 0)) ?_
   refine zzh 49 (.v (.agg #[.int .i64 ((1 : Int) + z26), .int .i64 g18, .int .i64 0])) ty65 zzd ?_
   refine sy_data 50 ⟨65, [.int .i64 ((1 : Int) + z26), .int .i64 g18, .int .i64 0]⟩ 1 (fun b34 u35 e36 h37 => ?_)
   refine sy_app0 51 (T := 57) (E := 65) (z := .agg #[.int .i64 0, .int .i64 0, .int .i64 0]) (size := 3) (bytes := 24) (b := b34) (off := 0) (m := 1) [.int .i64 ((1 : Int) + z26), .int .i64 g18, .int .i64 0] (by kernel_rfl) (by kernel_rfl) (by kernel_rfl) (by decide) rfl (lit_news ((Ext.refl _).cells h37)) (pl_one (⟨(1 : Int) + z26, g18, 0⟩ : PL)) (by decide) (by decide) (by decide) ?_
   intro c38 cs38 ha38 hb38 hc38 hd38
   have hd38r : cs38.take (1 * 3) = pcs [(⟨(1 : Int) + z26, g18, 0⟩ : PL)] := hd38
   refine zza 5 (.slc 51 0 1 c38) ?_
   refine zzw ?_
   refine zzo ?_
   refine zze ?_
   refine zza 19 (.v (.int .i64 0)) ?_
   refine zza 20 (.v (.int .i64 3)) ?_
   refine zza 6 (.v (.int .i64 3)) ?_
   refine zzw ?_
   refine rn_next ?_
   refine sw_weak (T := St.of 53 [(0, .v (.slice x.a x.n x.c)), (3, .adr 3 0), (5, .slc 51 0 1 c38), (6, .v (.int .i64 3))] [(3, ⟨51, [.int .i64 W.b, .int .i64 W.f, .int .i64 W.r, .int .i64 W.o]⟩), (51, ⟨65, cs38⟩)]) (by exact zzu _ _ _) ?_
   refine zzc ?_
   refine sq9 ?_
   refine zza 9 (.v (.int .i64 3)) ?_
   refine zza 10 (.v (.int .i64 5)) ?_
   refine zza 11 (.v x.v) ?_
   refine zza 12 (.v (.int .i64 (x.n : Int))) ?_
   refine zza 13 (.v (.bool (decide ((5 : Int) < (x.n : Int))))) ?_
   rcases Bool.eq_false_or_eq_true (decide ((5 : Int) < (x.n : Int))) with hs39 | hs39
   ·refine zyp 14 (x := .v (.bool (decide ((5 : Int) < (x.n : Int))))) (.v (.bool true)) (by rw [hs39]) ?_
    have qhs39 := of_decide_eq_true hs39
    refine zza 15 (.slc 51 0 1 c38) ?_ (hw := w1 5 true 14)
    refine zza 16 (.v (.int .i64 1)) ?_ (hw := w1 5 true 14)
    refine zza 17 (.v (.bool true)) ?_ (hw := w1 5 true 14)
    refine zza 18 (.v (.bool true)) ?_
    refine zzb 53 [(0, .v x.v), (3, .adr 3 0), (5, .slc 51 0 1 c38), (6, .v (.int .i64 3)), (18, .v (.bool true))] [(3, ⟨51, [.int .i64 W.b, .int .i64 W.f, .int .i64 W.r, .int .i64 W.o]⟩), (51, ⟨65, cs38⟩)] ?_
    refine zyq (by kernel_rfl) ?_
    refine zzr (zzo ?_)
    refine zzc ?_
    refine zzs ?_
    refine zzc ?_
    refine zzy [0, 1, 3, 0, 0, 16, 56, 127, 255] [(0, []), (3, []), (4, []), (5, []), (6, []), (1, []), (2, []), (7, []), (8, [])] (by kernel_rfl) (by kernel_rfl) ?_
    refine zzh 21 (.v (.agg #[.int .i64 W.b, .int .i64 W.f, .int .i64 W.r, .int .i64 W.o])) ty51 zzd ?_
    refine zza 24 (.v x.v) ?_
    refine zza 25 (.v (.int .i64 3)) ?_
    refine zza 26 (.v (.int .i64 4)) ?_
    have hl40 := ((hx.ext (e13.trans (g15.ext.trans (e17.trans (g20.ext.trans (e25.trans (g30.ext.trans e36)))))))).1
    refine sy_tail 27 (n := x.n) (c := x.c) (i := 4) 4 sl22 (by omega) (by omega) ?_
    intro A40 hA40
    refine zzf 22 132 [.agg #[.int .i64 W.b, .int .i64 W.f, .int .i64 W.r, .int .i64 W.o]] ?_
    intro w41 u41 e41 d41
    have k44 := k_wunit (W := W) d41 hW
    with_reducible refine Post.mono k44 ?_
    rintro _ u42 g43 rfl
    refine zyp 23 (x := .v (.int .i64 (IntKind.i64.wrap ((Nt.p2i W.f) - 1)))) (.v (.int .i64 ((Nt.p2i W.f) - 1))) (by rw [IntWalk.i64_in _ (by omega)]) ?_
    refine zzf 28 41 [.int .i64 ((Nt.p2i W.f) - 1), .slice A40 (x.n - 4) (x.c - 4), .int .i64 2] ?_
    intro w45 u45 e45 d45
    have k49 := (show Calls _ _ #[_, .slice (⟨A40, x.n - 4, x.c - 4⟩ : Sl).a (⟨A40, x.n - 4, x.c - 4⟩ : Sl).n (⟨A40, x.n - 4, x.c - 4⟩ : Sl).c, _] _ _ from k_below (x := (⟨A40, x.n - 4, x.c - 4⟩ : Sl)) (b := (Nt.p2i W.f) - 1) d45 ((ints_drop (m := 4) (hx.ext (e13.trans (g15.ext.trans (e17.trans (g20.ext.trans (e25.trans (g30.ext.trans e36))))))) (by omega) hA40).ext (e41.trans (g43.ext.trans e45))) (bd_drop hb 4) (by omega) (by omega))
    with_reducible refine Post.mono k49 ?_
    rintro _ u47 g48 ⟨y46, g46, h46, rfl, hn46, hs46, h146, h246, h346, h446⟩
    refine zza 7 (.v y46.v) ?_
    refine zzb 53 [(0, .v x.v), (3, .adr 3 0), (5, .slc 51 0 1 c38), (6, .v (.int .i64 3)), (7, .v y46.v)] [(3, ⟨51, [.int .i64 W.b, .int .i64 W.f, .int .i64 W.r, .int .i64 W.o]⟩), (51, ⟨65, cs38⟩)] ?_
    refine zzc ?_
    refine zzy [0, 0, 3, 7, 15, 31, 0, 64, 192, 0, 512, 1536, 4032, 8191, 0, 32767] [(0, []), (1, []), (2, []), (3, []), (6, []), (7, []), (8, []), (9, []), (10, []), (11, []), (12, []), (14, []), (4, []), (5, []), (13, []), (15, [])] (by kernel_rfl) (by kernel_rfl) ?_
    refine zza 29 (.v x.v) ?_
    refine zza 30 (.v (.int .i64 3)) ?_
    have hl50 := ((hx.ext (e13.trans (g15.ext.trans (e17.trans (g20.ext.trans (e25.trans (g30.ext.trans (e36.trans (e41.trans (g43.ext.trans (e45.trans g48.ext)))))))))))).1
    obtain ⟨b50, o50, hA50, hc50⟩ := ints_at (hx.ext (e13.trans (g15.ext.trans (e17.trans (g20.ext.trans (e25.trans (g30.ext.trans (e36.trans (e41.trans (g43.ext.trans (e45.trans g48.ext))))))))))) (i := 3) (by omega)
    have hz50 := ints_bd hb (by omega) 3
    refine zzz 31 (o50 + 3 * 1) (n := x.n) (off := o50) (sz := 1) (i := 3) (by omega) hA50 (by omega) (by omega) sl22 ?_
    refine zyk 32 (.int .i64 (l.getD 3 0)) hc50 ty3 ?_
    refine zza 35 (.v y46.v) ?_
    have hl51 := (hs46).1
    obtain ⟨b51, o51, hA51, hc51⟩ := ints_at hs46 (i := 0) (by omega)
    have hz51 := ints_bd (bd_two (lo := -9223372036854775808) (hi := 9223372036854775807) (g := g46) (h := h46) ⟨by omega, by omega⟩ ⟨by omega, by omega⟩) (by omega) 0
    refine zzz 36 (o51 + 0 * 1) (n := y46.n) (off := o51) (sz := 1) (i := 0) (by omega) hA51 (by omega) (by omega) sl22 ?_
    refine zyk 37 (.int .i64 g46) hc51 ty3 ?_
    refine zza 38 (.v y46.v) ?_
    have hl52 := (hs46).1
    obtain ⟨b52, o52, hA52, hc52⟩ := ints_at hs46 (i := 1) (by omega)
    have hz52 := ints_bd (bd_two (lo := -9223372036854775808) (hi := 9223372036854775807) (g := g46) (h := h46) ⟨by omega, by omega⟩ ⟨by omega, by omega⟩) (by omega) 1
    refine zzz 39 (o52 + 1 * 1) (n := y46.n) (off := o52) (sz := 1) (i := 1) (by omega) hA52 (by omega) (by omega) sl22 ?_
    refine zyk 40 (.int .i64 h46) hc52 ty3 ?_
    refine zza 41 (.v (.agg #[.int .i64 g46, .int .i64 h46])) ?_
    refine zzj 8 ⟨65, [.int .i64 0, .int .i64 0, .int .i64 0]⟩ ?_
    refine zzf 33 9 [.int .i64 (l.getD 3 0), .int .i64 2] ?_
    intro w53 u53 e53 d53
    have k59 := (show Calls _ _ #[.int .i64 (l.getD 3 0), .int .i64 2] _ _ from k_withinB (n := (l.getD 3 0)) (m := 2) d53 (by omega) (by omega) (by omega) (by omega))
    with_reducible refine Post.mono k59 ?_
    rintro _ u57 g58 ⟨z54, rfl, h55, h56⟩
    refine zyp 34 (x := .v (.int .i64 (IntKind.i64.wrap ((1 : Int) + z54)))) (.v (.int .i64 ((1 : Int) + z54))) (by rw [IntWalk.i64_in _ (by omega)]) ?_
    refine zza 42 (.v (.agg #[.int .i64 ((1 : Int) + z54), .int .i64 g46, .int .i64 h46])) ?_
    refine zzi ⟨65, [.int .i64 ((1 : Int) + z54), .int .i64 g46, .int .i64 h46]⟩ ty65 ?_
    refine zzb 53 [(0, .v x.v), (3, .adr 3 0), (5, .slc 51 0 1 c38), (6, .v (.int .i64 3)), (8, .adr 8 0)] [(3, ⟨51, [.int .i64 W.b, .int .i64 W.f, .int .i64 W.r, .int .i64 W.o]⟩), (8, ⟨65, [.int .i64 ((1 : Int) + z54), .int .i64 g46, .int .i64 h46]⟩), (51, ⟨65, cs38⟩)] ?_
    refine zzc ?_
    refine sq9 ?_
    refine zza 43 (.adr 8 0) ?_
    refine zzh 44 (.v (.int .i64 ((1 : Int) + z54))) ty3 zzk ?_
    refine zza 45 (.v (.bool (((1 : Int) + z54) == 1))) ?_
    refine zzb 53 [(0, .v x.v), (3, .adr 3 0), (5, .slc 51 0 1 c38), (6, .v (.int .i64 3)), (8, .adr 8 0), (45, .v (.bool (((1 : Int) + z54) == 1)))] [(3, ⟨51, [.int .i64 W.b, .int .i64 W.f, .int .i64 W.r, .int .i64 W.o]⟩), (8, ⟨65, [.int .i64 ((1 : Int) + z54), .int .i64 g46, .int .i64 h46]⟩), (51, ⟨65, cs38⟩)] ?_
    refine zzt (b := ((1 : Int) + z54) == 1) (by kernel_rfl) (fun hb60 => ?_) (fun hb60 => ?_)
    ·replace hb60 : (((1 : Int) + z54) == 1) = true := hb60
     have qhb60 : (((1 : Int) + z54) = 1) := by simpa using hb60
     refine zze ?_
     refine zza 46 (.adr 8 1) ?_
     refine zza 47 (.adr 8 2) ?_
     refine zzi ⟨65, [.int .i64 ((1 : Int) + z54), .int .i64 g46, .int .i64 0]⟩ ty3 ?_
     refine zzb 53 [(0, .v x.v), (3, .adr 3 0), (5, .slc 51 0 1 c38), (6, .v (.int .i64 3)), (8, .adr 8 0)] [(3, ⟨51, [.int .i64 W.b, .int .i64 W.f, .int .i64 W.r, .int .i64 W.o]⟩), (8, ⟨65, [.int .i64 ((1 : Int) + z54), .int .i64 g46, .int .i64 0]⟩), (51, ⟨65, cs38⟩)] ?_
     have hk61 : PasOK W.f (⟨(1 : Int) + z54, g46, 0⟩ : PL) := ⟨by show (1 : Int) + z54 = 1 ∧ (0 : Int) = 0 ∨ (1 : Int) + z54 = 2; omega, by show _ < g46; omega, by show g46 < _; omega, by show _ < (0 : Int); omega, by show (0 : Int) < _; omega⟩
     refine zze ?_
     refine zza 48 (.slc 51 0 1 c38) ?_
     refine zzh 49 (.v (.agg #[.int .i64 ((1 : Int) + z54), .int .i64 g46, .int .i64 0])) ty65 zzd ?_
     refine sy_data 50 ⟨65, [.int .i64 ((1 : Int) + z54), .int .i64 g46, .int .i64 0]⟩ 1 (fun b62 u63 e64 h65 => ?_)
     refine sy_app1 51 (T := 57) (E := 65) (z := .agg #[.int .i64 0, .int .i64 0, .int .i64 0]) (size := 3) (bytes := 24) (b := b62) (off := 0) (m := 1) (n := 1) (cap := c38) (t := 51) (cs0 := cs38) [5, 48, 51] [.int .i64 ((1 : Int) + z54), .int .i64 g46, .int .i64 0] (by kernel_rfl) (by kernel_rfl) (by kernel_rfl) (by decide) rfl (lit_news ((Ext.refl _).cells h65)) (pl_one (⟨(1 : Int) + z54, g46, 0⟩ : PL)) (by decide) (by unfold maxLen; omega) (by omega) (by omega) (by omega) (by omega) (by repeat first | exact noAt_of | refine zyc ?_ | refine zye ?_ | refine zyd ?_ | refine zzx ?_ | refine zya ?_) ?_
     intro c66 cs66 ha66 hb66 hc66 hd66
     have hd66r : cs66.take (2 * 3) = pcs [(⟨(1 : Int) + z26, g18, 0⟩ : PL), (⟨(1 : Int) + z54, g46, 0⟩ : PL)] := by rw [show 2 * 3 = (1 + 1) * 3 from rfl, hd66, hd38r]; rfl
     replace ha66 : 2 ≤ c66 := ha66
     refine zza 5 (.slc 51 0 2 c66) ?_
     refine zzw ?_
     refine zzo ?_
     refine zze ?_
     refine zza 19 (.v (.int .i64 3)) ?_
     refine zza 20 (.v (.int .i64 6)) ?_
     refine zza 6 (.v (.int .i64 6)) ?_
     refine zzw ?_
     refine rn_next ?_
     refine sw_weak (T := St.of 53 [(0, .v (.slice x.a x.n x.c)), (3, .adr 3 0), (5, .slc 51 0 2 c66), (6, .v (.int .i64 6))] [(3, ⟨51, [.int .i64 W.b, .int .i64 W.f, .int .i64 W.r, .int .i64 W.o]⟩), (51, ⟨65, cs66⟩)]) (by exact zzu _ _ _) ?_
     refine zzc ?_
     refine sq9 ?_
     refine zza 9 (.v (.int .i64 6)) ?_
     refine zza 10 (.v (.int .i64 8)) ?_
     refine zza 11 (.v x.v) ?_
     refine zza 12 (.v (.int .i64 (x.n : Int))) ?_
     refine zza 13 (.v (.bool (decide ((8 : Int) < (x.n : Int))))) ?_
     rcases Bool.eq_false_or_eq_true (decide ((8 : Int) < (x.n : Int))) with hs67 | hs67
     ·refine zyp 14 (x := .v (.bool (decide ((8 : Int) < (x.n : Int))))) (.v (.bool true)) (by rw [hs67]) ?_
      have qhs67 := of_decide_eq_true hs67
      refine zza 15 (.slc 51 0 2 c66) ?_ (hw := w1 5 true 14)
      refine zza 16 (.v (.int .i64 2)) ?_ (hw := w1 5 true 14)
      refine zza 17 (.v (.bool false)) ?_ (hw := w1 5 true 14)
      refine zza 18 (.v (.bool false)) ?_
      refine zzb 53 [(0, .v x.v), (3, .adr 3 0), (5, .slc 51 0 2 c66), (6, .v (.int .i64 6)), (18, .v (.bool false))] [(3, ⟨51, [.int .i64 W.b, .int .i64 W.f, .int .i64 W.r, .int .i64 W.o]⟩), (51, ⟨65, cs66⟩)] ?_
      refine zyr (by kernel_rfl) ?_
      refine zyb ?_
      refine zzo ?_
      refine zzc ?_
      refine zyo (r := 5) (t := 51) [5, 51] (by repeat first | exact noAt_of | refine zyc ?_ | refine zye ?_ | refine zyd ?_ | refine zzx ?_ | refine zya ?_) (by kernel_rfl) (by rfl) (by rfl) (by kernel_rfl) (fun b68 u69 e70 hb71 hh72 => ?_)
      have hp73 : PasV u69 ⟨some ⟨b68, 0, none⟩, 2, c66⟩ [(⟨(1 : Int) + z26, g18, 0⟩ : PL), (⟨(1 : Int) + z54, g46, 0⟩ : PL)] := pas_data hh72 hd66r hc66 ha66 hb66
      refine zze ?_
      refine zza 52 (.v (.slice (some ⟨b68, 0, none⟩) 2 c66)) ?_
      refine zza 4 (.v (.slice (some ⟨b68, 0, none⟩) 2 c66)) ?_
      refine zzb 53 [(4, .v (.slice (some ⟨b68, 0, none⟩) 2 c66))] [] ?_
      refine zzn (ret0 [.slice (some ⟨b68, 0, none⟩) 2 c66] ⟨zzp, trivial⟩ fun u74 e75 => ?_)
      exact ⟨(⟨some ⟨b68, 0, none⟩, 2, c66⟩ : Sl), [(⟨(1 : Int) + z26, g18, 0⟩ : PL), (⟨(1 : Int) + z54, g46, 0⟩ : PL)], rfl, (hp73.ext e75), pas_all2 hk33 hk61, by simp⟩
     ·refine zyp 14 (x := .v (.bool (decide ((8 : Int) < (x.n : Int))))) (.v (.bool false)) (by rw [hs67]) ?_
      have qhs67 := of_decide_eq_false hs67
      refine zzm 15 (uw 5 true false 14) ?_
      refine zzm 16 (uw 5 true false 14) ?_
      refine zzm 17 (uw 5 true false 14) ?_
      refine zza 18 (.v (.bool false)) ?_
      refine zzb 53 [(0, .v x.v), (3, .adr 3 0), (5, .slc 51 0 2 c66), (6, .v (.int .i64 6)), (18, .v (.bool false))] [(3, ⟨51, [.int .i64 W.b, .int .i64 W.f, .int .i64 W.r, .int .i64 W.o]⟩), (51, ⟨65, cs66⟩)] ?_
      refine zyr (by kernel_rfl) ?_
      refine zyb ?_
      refine zzo ?_
      refine zzc ?_
      refine zyo (r := 5) (t := 51) [5, 51] (by repeat first | exact noAt_of | refine zyc ?_ | refine zye ?_ | refine zyd ?_ | refine zzx ?_ | refine zya ?_) (by kernel_rfl) (by rfl) (by rfl) (by kernel_rfl) (fun b76 u77 e78 hb79 hh80 => ?_)
      have hp81 : PasV u77 ⟨some ⟨b76, 0, none⟩, 2, c66⟩ [(⟨(1 : Int) + z26, g18, 0⟩ : PL), (⟨(1 : Int) + z54, g46, 0⟩ : PL)] := pas_data hh80 hd66r hc66 ha66 hb66
      refine zze ?_
      refine zza 52 (.v (.slice (some ⟨b76, 0, none⟩) 2 c66)) ?_
      refine zza 4 (.v (.slice (some ⟨b76, 0, none⟩) 2 c66)) ?_
      refine zzb 53 [(4, .v (.slice (some ⟨b76, 0, none⟩) 2 c66))] [] ?_
      refine zzn (ret0 [.slice (some ⟨b76, 0, none⟩) 2 c66] ⟨zzp, trivial⟩ fun u82 e83 => ?_)
      exact ⟨(⟨some ⟨b76, 0, none⟩, 2, c66⟩ : Sl), [(⟨(1 : Int) + z26, g18, 0⟩ : PL), (⟨(1 : Int) + z54, g46, 0⟩ : PL)], rfl, (hp81.ext e83), pas_all2 hk33 hk61, by simp⟩
    ·replace hb60 : (((1 : Int) + z54) == 1) = false := hb60
     have qhb60 : ¬ (((1 : Int) + z54) = 1) := by simpa using hb60
     refine zzr (zzo ?_)
     have hk84 : PasOK W.f (⟨(1 : Int) + z54, g46, h46⟩ : PL) := ⟨by show (1 : Int) + z54 = 1 ∧ h46 = 0 ∨ (1 : Int) + z54 = 2; omega, by show _ < g46; omega, by show g46 < _; omega, by show _ < h46; omega, by show h46 < _; omega⟩
     refine zze ?_
     refine zza 48 (.slc 51 0 1 c38) ?_
     refine zzh 49 (.v (.agg #[.int .i64 ((1 : Int) + z54), .int .i64 g46, .int .i64 h46])) ty65 zzd ?_
     refine sy_data 50 ⟨65, [.int .i64 ((1 : Int) + z54), .int .i64 g46, .int .i64 h46]⟩ 1 (fun b85 u86 e87 h88 => ?_)
     refine sy_app1 51 (T := 57) (E := 65) (z := .agg #[.int .i64 0, .int .i64 0, .int .i64 0]) (size := 3) (bytes := 24) (b := b85) (off := 0) (m := 1) (n := 1) (cap := c38) (t := 51) (cs0 := cs38) [5, 48, 51] [.int .i64 ((1 : Int) + z54), .int .i64 g46, .int .i64 h46] (by kernel_rfl) (by kernel_rfl) (by kernel_rfl) (by decide) rfl (lit_news ((Ext.refl _).cells h88)) (pl_one (⟨(1 : Int) + z54, g46, h46⟩ : PL)) (by decide) (by unfold maxLen; omega) (by omega) (by omega) (by omega) (by omega) (by repeat first | exact noAt_of | refine zyc ?_ | refine zye ?_ | refine zyd ?_ | refine zzx ?_ | refine zya ?_) ?_
     intro c89 cs89 ha89 hb89 hc89 hd89
     have hd89r : cs89.take (2 * 3) = pcs [(⟨(1 : Int) + z26, g18, 0⟩ : PL), (⟨(1 : Int) + z54, g46, h46⟩ : PL)] := by rw [show 2 * 3 = (1 + 1) * 3 from rfl, hd89, hd38r]; rfl
     replace ha89 : 2 ≤ c89 := ha89
     refine zza 5 (.slc 51 0 2 c89) ?_
     refine zzw ?_
     refine zzo ?_
     refine zze ?_
     refine zza 19 (.v (.int .i64 3)) ?_
     refine zza 20 (.v (.int .i64 6)) ?_
     refine zza 6 (.v (.int .i64 6)) ?_
     refine zzw ?_
     refine rn_next ?_
     refine sw_weak (T := St.of 53 [(0, .v (.slice x.a x.n x.c)), (3, .adr 3 0), (5, .slc 51 0 2 c89), (6, .v (.int .i64 6))] [(3, ⟨51, [.int .i64 W.b, .int .i64 W.f, .int .i64 W.r, .int .i64 W.o]⟩), (51, ⟨65, cs89⟩)]) (by exact zzu _ _ _) ?_
     refine zzc ?_
     refine sq9 ?_
     refine zza 9 (.v (.int .i64 6)) ?_
     refine zza 10 (.v (.int .i64 8)) ?_
     refine zza 11 (.v x.v) ?_
     refine zza 12 (.v (.int .i64 (x.n : Int))) ?_
     refine zza 13 (.v (.bool (decide ((8 : Int) < (x.n : Int))))) ?_
     rcases Bool.eq_false_or_eq_true (decide ((8 : Int) < (x.n : Int))) with hs90 | hs90
     ·refine zyp 14 (x := .v (.bool (decide ((8 : Int) < (x.n : Int))))) (.v (.bool true)) (by rw [hs90]) ?_
      have qhs90 := of_decide_eq_true hs90
      refine zza 15 (.slc 51 0 2 c89) ?_ (hw := w1 5 true 14)
      refine zza 16 (.v (.int .i64 2)) ?_ (hw := w1 5 true 14)
      refine zza 17 (.v (.bool false)) ?_ (hw := w1 5 true 14)
      refine zza 18 (.v (.bool false)) ?_
      refine zzb 53 [(0, .v x.v), (3, .adr 3 0), (5, .slc 51 0 2 c89), (6, .v (.int .i64 6)), (18, .v (.bool false))] [(3, ⟨51, [.int .i64 W.b, .int .i64 W.f, .int .i64 W.r, .int .i64 W.o]⟩), (51, ⟨65, cs89⟩)] ?_
      refine zyr (by kernel_rfl) ?_
      refine zyb ?_
      refine zzo ?_
      refine zzc ?_
      refine zyo (r := 5) (t := 51) [5, 51] (by repeat first | exact noAt_of | refine zyc ?_ | refine zye ?_ | refine zyd ?_ | refine zzx ?_ | refine zya ?_) (by kernel_rfl) (by rfl) (by rfl) (by kernel_rfl) (fun b91 u92 e93 hb94 hh95 => ?_)
      have hp96 : PasV u92 ⟨some ⟨b91, 0, none⟩, 2, c89⟩ [(⟨(1 : Int) + z26, g18, 0⟩ : PL), (⟨(1 : Int) + z54, g46, h46⟩ : PL)] := pas_data hh95 hd89r hc89 ha89 hb89
      refine zze ?_
      refine zza 52 (.v (.slice (some ⟨b91, 0, none⟩) 2 c89)) ?_
      refine zza 4 (.v (.slice (some ⟨b91, 0, none⟩) 2 c89)) ?_
      refine zzb 53 [(4, .v (.slice (some ⟨b91, 0, none⟩) 2 c89))] [] ?_
      refine zzn (ret0 [.slice (some ⟨b91, 0, none⟩) 2 c89] ⟨zzp, trivial⟩ fun u97 e98 => ?_)
      exact ⟨(⟨some ⟨b91, 0, none⟩, 2, c89⟩ : Sl), [(⟨(1 : Int) + z26, g18, 0⟩ : PL), (⟨(1 : Int) + z54, g46, h46⟩ : PL)], rfl, (hp96.ext e98), pas_all2 hk33 hk84, by simp⟩
     ·refine zyp 14 (x := .v (.bool (decide ((8 : Int) < (x.n : Int))))) (.v (.bool false)) (by rw [hs90]) ?_
      have qhs90 := of_decide_eq_false hs90
      refine zzm 15 (uw 5 true false 14) ?_
      refine zzm 16 (uw 5 true false 14) ?_
      refine zzm 17 (uw 5 true false 14) ?_
      refine zza 18 (.v (.bool false)) ?_
      refine zzb 53 [(0, .v x.v), (3, .adr 3 0), (5, .slc 51 0 2 c89), (6, .v (.int .i64 6)), (18, .v (.bool false))] [(3, ⟨51, [.int .i64 W.b, .int .i64 W.f, .int .i64 W.r, .int .i64 W.o]⟩), (51, ⟨65, cs89⟩)] ?_
      refine zyr (by kernel_rfl) ?_
      refine zyb ?_
      refine zzo ?_
      refine zzc ?_
      refine zyo (r := 5) (t := 51) [5, 51] (by repeat first | exact noAt_of | refine zyc ?_ | refine zye ?_ | refine zyd ?_ | refine zzx ?_ | refine zya ?_) (by kernel_rfl) (by rfl) (by rfl) (by kernel_rfl) (fun b99 u100 e101 hb102 hh103 => ?_)
      have hp104 : PasV u100 ⟨some ⟨b99, 0, none⟩, 2, c89⟩ [(⟨(1 : Int) + z26, g18, 0⟩ : PL), (⟨(1 : Int) + z54, g46, h46⟩ : PL)] := pas_data hh103 hd89r hc89 ha89 hb89
      refine zze ?_
      refine zza 52 (.v (.slice (some ⟨b99, 0, none⟩) 2 c89)) ?_
      refine zza 4 (.v (.slice (some ⟨b99, 0, none⟩) 2 c89)) ?_
      refine zzb 53 [(4, .v (.slice (some ⟨b99, 0, none⟩) 2 c89))] [] ?_
      refine zzn (ret0 [.slice (some ⟨b99, 0, none⟩) 2 c89] ⟨zzp, trivial⟩ fun u105 e106 => ?_)
      exact ⟨(⟨some ⟨b99, 0, none⟩, 2, c89⟩ : Sl), [(⟨(1 : Int) + z26, g18, 0⟩ : PL), (⟨(1 : Int) + z54, g46, h46⟩ : PL)], rfl, (hp104.ext e106), pas_all2 hk33 hk84, by simp⟩
   ·refine zyp 14 (x := .v (.bool (decide ((5 : Int) < (x.n : Int))))) (.v (.bool false)) (by rw [hs39]) ?_
    have qhs39 := of_decide_eq_false hs39
    refine zzm 15 (uw 5 true false 14) ?_
    refine zzm 16 (uw 5 true false 14) ?_
    refine zzm 17 (uw 5 true false 14) ?_
    refine zza 18 (.v (.bool false)) ?_
    refine zzb 53 [(0, .v x.v), (3, .adr 3 0), (5, .slc 51 0 1 c38), (6, .v (.int .i64 3)), (18, .v (.bool false))] [(3, ⟨51, [.int .i64 W.b, .int .i64 W.f, .int .i64 W.r, .int .i64 W.o]⟩), (51, ⟨65, cs38⟩)] ?_
    refine zyr (by kernel_rfl) ?_
    refine zyb ?_
    refine zzo ?_
    refine zzc ?_
    refine zyo (r := 5) (t := 51) [5, 51] (by repeat first | exact noAt_of | refine zyc ?_ | refine zye ?_ | refine zyd ?_ | refine zzx ?_ | refine zya ?_) (by kernel_rfl) (by rfl) (by rfl) (by kernel_rfl) (fun b107 u108 e109 hb110 hh111 => ?_)
    have hp112 : PasV u108 ⟨some ⟨b107, 0, none⟩, 1, c38⟩ [(⟨(1 : Int) + z26, g18, 0⟩ : PL)] := pas_data hh111 hd38r hc38 ha38 hb38
    refine zze ?_
    refine zza 52 (.v (.slice (some ⟨b107, 0, none⟩) 1 c38)) ?_
    refine zza 4 (.v (.slice (some ⟨b107, 0, none⟩) 1 c38)) ?_
    refine zzb 53 [(4, .v (.slice (some ⟨b107, 0, none⟩) 1 c38))] [] ?_
    refine zzn (ret0 [.slice (some ⟨b107, 0, none⟩) 1 c38] ⟨zzp, trivial⟩ fun u113 e114 => ?_)
    exact ⟨(⟨some ⟨b107, 0, none⟩, 1, c38⟩ : Sl), [(⟨(1 : Int) + z26, g18, 0⟩ : PL)], rfl, (hp112.ext e114), pas_all1 hk33, by simp⟩
  ·replace hb32 : (((1 : Int) + z26) == 1) = false := hb32
   have qhb32 : ¬ (((1 : Int) + z26) = 1) := by simpa using hb32
   refine zzr (zzo ?_)
   have hk115 : PasOK W.f (⟨(1 : Int) + z26, g18, h18⟩ : PL) := ⟨by show (1 : Int) + z26 = 1 ∧ h18 = 0 ∨ (1 : Int) + z26 = 2; omega, by show _ < g18; omega, by show g18 < _; omega, by show _ < h18; omega, by show h18 < _; omega⟩
   refine zze ?_
   refine zza 48 (.v (.slice none 0 0)) ?_
   refine zzh 49 (.v (.agg #[.int .i64 ((1 : Int) + z26), .int .i64 g18, .int .i64 h18])) ty65 zzd ?_
   refine sy_data 50 ⟨65, [.int .i64 ((1 : Int) + z26), .int .i64 g18, .int .i64 h18]⟩ 1 (fun b116 u117 e118 h119 => ?_)
   refine sy_app0 51 (T := 57) (E := 65) (z := .agg #[.int .i64 0, .int .i64 0, .int .i64 0]) (size := 3) (bytes := 24) (b := b116) (off := 0) (m := 1) [.int .i64 ((1 : Int) + z26), .int .i64 g18, .int .i64 h18] (by kernel_rfl) (by kernel_rfl) (by kernel_rfl) (by decide) rfl (lit_news ((Ext.refl _).cells h119)) (pl_one (⟨(1 : Int) + z26, g18, h18⟩ : PL)) (by decide) (by decide) (by decide) ?_
   intro c120 cs120 ha120 hb120 hc120 hd120
   have hd120r : cs120.take (1 * 3) = pcs [(⟨(1 : Int) + z26, g18, h18⟩ : PL)] := hd120
   refine zza 5 (.slc 51 0 1 c120) ?_
   refine zzw ?_
   refine zzo ?_
   refine zze ?_
   refine zza 19 (.v (.int .i64 0)) ?_
   refine zza 20 (.v (.int .i64 3)) ?_
   refine zza 6 (.v (.int .i64 3)) ?_
   refine zzw ?_
   refine rn_next ?_
   refine sw_weak (T := St.of 53 [(0, .v (.slice x.a x.n x.c)), (3, .adr 3 0), (5, .slc 51 0 1 c120), (6, .v (.int .i64 3))] [(3, ⟨51, [.int .i64 W.b, .int .i64 W.f, .int .i64 W.r, .int .i64 W.o]⟩), (51, ⟨65, cs120⟩)]) (by exact zzu _ _ _) ?_
   refine zzc ?_
   refine sq9 ?_
   refine zza 9 (.v (.int .i64 3)) ?_
   refine zza 10 (.v (.int .i64 5)) ?_
   refine zza 11 (.v x.v) ?_
   refine zza 12 (.v (.int .i64 (x.n : Int))) ?_
   refine zza 13 (.v (.bool (decide ((5 : Int) < (x.n : Int))))) ?_
   rcases Bool.eq_false_or_eq_true (decide ((5 : Int) < (x.n : Int))) with hs121 | hs121
   ·refine zyp 14 (x := .v (.bool (decide ((5 : Int) < (x.n : Int))))) (.v (.bool true)) (by rw [hs121]) ?_
    have qhs121 := of_decide_eq_true hs121
    refine zza 15 (.slc 51 0 1 c120) ?_ (hw := w1 5 true 14)
    refine zza 16 (.v (.int .i64 1)) ?_ (hw := w1 5 true 14)
    refine zza 17 (.v (.bool true)) ?_ (hw := w1 5 true 14)
    refine zza 18 (.v (.bool true)) ?_
    refine zzb 53 [(0, .v x.v), (3, .adr 3 0), (5, .slc 51 0 1 c120), (6, .v (.int .i64 3)), (18, .v (.bool true))] [(3, ⟨51, [.int .i64 W.b, .int .i64 W.f, .int .i64 W.r, .int .i64 W.o]⟩), (51, ⟨65, cs120⟩)] ?_
    refine zyq (by kernel_rfl) ?_
    refine zzr (zzo ?_)
    refine zzc ?_
    refine zzs ?_
    refine zzc ?_
    refine zzy [0, 1, 3, 0, 0, 16, 56, 127, 255] [(0, []), (3, []), (4, []), (5, []), (6, []), (1, []), (2, []), (7, []), (8, [])] (by kernel_rfl) (by kernel_rfl) ?_
    refine zzh 21 (.v (.agg #[.int .i64 W.b, .int .i64 W.f, .int .i64 W.r, .int .i64 W.o])) ty51 zzd ?_
    refine zza 24 (.v x.v) ?_
    refine zza 25 (.v (.int .i64 3)) ?_
    refine zza 26 (.v (.int .i64 4)) ?_
    have hl122 := ((hx.ext (e13.trans (g15.ext.trans (e17.trans (g20.ext.trans (e25.trans (g30.ext.trans e118)))))))).1
    refine sy_tail 27 (n := x.n) (c := x.c) (i := 4) 4 sl22 (by omega) (by omega) ?_
    intro A122 hA122
    refine zzf 22 132 [.agg #[.int .i64 W.b, .int .i64 W.f, .int .i64 W.r, .int .i64 W.o]] ?_
    intro w123 u123 e123 d123
    have k126 := k_wunit (W := W) d123 hW
    with_reducible refine Post.mono k126 ?_
    rintro _ u124 g125 rfl
    refine zyp 23 (x := .v (.int .i64 (IntKind.i64.wrap ((Nt.p2i W.f) - 1)))) (.v (.int .i64 ((Nt.p2i W.f) - 1))) (by rw [IntWalk.i64_in _ (by omega)]) ?_
    refine zzf 28 41 [.int .i64 ((Nt.p2i W.f) - 1), .slice A122 (x.n - 4) (x.c - 4), .int .i64 2] ?_
    intro w127 u127 e127 d127
    have k131 := (show Calls _ _ #[_, .slice (⟨A122, x.n - 4, x.c - 4⟩ : Sl).a (⟨A122, x.n - 4, x.c - 4⟩ : Sl).n (⟨A122, x.n - 4, x.c - 4⟩ : Sl).c, _] _ _ from k_below (x := (⟨A122, x.n - 4, x.c - 4⟩ : Sl)) (b := (Nt.p2i W.f) - 1) d127 ((ints_drop (m := 4) (hx.ext (e13.trans (g15.ext.trans (e17.trans (g20.ext.trans (e25.trans (g30.ext.trans e118))))))) (by omega) hA122).ext (e123.trans (g125.ext.trans e127))) (bd_drop hb 4) (by omega) (by omega))
    with_reducible refine Post.mono k131 ?_
    rintro _ u129 g130 ⟨y128, g128, h128, rfl, hn128, hs128, h1128, h2128, h3128, h4128⟩
    refine zza 7 (.v y128.v) ?_
    refine zzb 53 [(0, .v x.v), (3, .adr 3 0), (5, .slc 51 0 1 c120), (6, .v (.int .i64 3)), (7, .v y128.v)] [(3, ⟨51, [.int .i64 W.b, .int .i64 W.f, .int .i64 W.r, .int .i64 W.o]⟩), (51, ⟨65, cs120⟩)] ?_
    refine zzc ?_
    refine zzy [0, 0, 3, 7, 15, 31, 0, 64, 192, 0, 512, 1536, 4032, 8191, 0, 32767] [(0, []), (1, []), (2, []), (3, []), (6, []), (7, []), (8, []), (9, []), (10, []), (11, []), (12, []), (14, []), (4, []), (5, []), (13, []), (15, [])] (by kernel_rfl) (by kernel_rfl) ?_
    refine zza 29 (.v x.v) ?_
    refine zza 30 (.v (.int .i64 3)) ?_
    have hl132 := ((hx.ext (e13.trans (g15.ext.trans (e17.trans (g20.ext.trans (e25.trans (g30.ext.trans (e118.trans (e123.trans (g125.ext.trans (e127.trans g130.ext)))))))))))).1
    obtain ⟨b132, o132, hA132, hc132⟩ := ints_at (hx.ext (e13.trans (g15.ext.trans (e17.trans (g20.ext.trans (e25.trans (g30.ext.trans (e118.trans (e123.trans (g125.ext.trans (e127.trans g130.ext))))))))))) (i := 3) (by omega)
    have hz132 := ints_bd hb (by omega) 3
    refine zzz 31 (o132 + 3 * 1) (n := x.n) (off := o132) (sz := 1) (i := 3) (by omega) hA132 (by omega) (by omega) sl22 ?_
    refine zyk 32 (.int .i64 (l.getD 3 0)) hc132 ty3 ?_
    refine zza 35 (.v y128.v) ?_
    have hl133 := (hs128).1
    obtain ⟨b133, o133, hA133, hc133⟩ := ints_at hs128 (i := 0) (by omega)
    have hz133 := ints_bd (bd_two (lo := -9223372036854775808) (hi := 9223372036854775807) (g := g128) (h := h128) ⟨by omega, by omega⟩ ⟨by omega, by omega⟩) (by omega) 0
    refine zzz 36 (o133 + 0 * 1) (n := y128.n) (off := o133) (sz := 1) (i := 0) (by omega) hA133 (by omega) (by omega) sl22 ?_
    refine zyk 37 (.int .i64 g128) hc133 ty3 ?_
    refine zza 38 (.v y128.v) ?_
    have hl134 := (hs128).1
    obtain ⟨b134, o134, hA134, hc134⟩ := ints_at hs128 (i := 1) (by omega)
    have hz134 := ints_bd (bd_two (lo := -9223372036854775808) (hi := 9223372036854775807) (g := g128) (h := h128) ⟨by omega, by omega⟩ ⟨by omega, by omega⟩) (by omega) 1
    refine zzz 39 (o134 + 1 * 1) (n := y128.n) (off := o134) (sz := 1) (i := 1) (by omega) hA134 (by omega) (by omega) sl22 ?_
    refine zyk 40 (.int .i64 h128) hc134 ty3 ?_
    refine zza 41 (.v (.agg #[.int .i64 g128, .int .i64 h128])) ?_
    refine zzj 8 ⟨65, [.int .i64 0, .int .i64 0, .int .i64 0]⟩ ?_
    refine zzf 33 9 [.int .i64 (l.getD 3 0), .int .i64 2] ?_
    intro w135 u135 e135 d135
    have k141 := (show Calls _ _ #[.int .i64 (l.getD 3 0), .int .i64 2] _ _ from k_withinB (n := (l.getD 3 0)) (m := 2) d135 (by omega) (by omega) (by omega) (by omega))
    with_reducible refine Post.mono k141 ?_
    rintro _ u139 g140 ⟨z136, rfl, h137, h138⟩
    refine zyp 34 (x := .v (.int .i64 (IntKind.i64.wrap ((1 : Int) + z136)))) (.v (.int .i64 ((1 : Int) + z136))) (by rw [IntWalk.i64_in _ (by omega)]) ?_
    refine zza 42 (.v (.agg #[.int .i64 ((1 : Int) + z136), .int .i64 g128, .int .i64 h128])) ?_
    refine zzi ⟨65, [.int .i64 ((1 : Int) + z136), .int .i64 g128, .int .i64 h128]⟩ ty65 ?_
    refine zzb 53 [(0, .v x.v), (3, .adr 3 0), (5, .slc 51 0 1 c120), (6, .v (.int .i64 3)), (8, .adr 8 0)] [(3, ⟨51, [.int .i64 W.b, .int .i64 W.f, .int .i64 W.r, .int .i64 W.o]⟩), (8, ⟨65, [.int .i64 ((1 : Int) + z136), .int .i64 g128, .int .i64 h128]⟩), (51, ⟨65, cs120⟩)] ?_
    refine zzc ?_
    refine sq9 ?_
    refine zza 43 (.adr 8 0) ?_
    refine zzh 44 (.v (.int .i64 ((1 : Int) + z136))) ty3 zzk ?_
    refine zza 45 (.v (.bool (((1 : Int) + z136) == 1))) ?_
    refine zzb 53 [(0, .v x.v), (3, .adr 3 0), (5, .slc 51 0 1 c120), (6, .v (.int .i64 3)), (8, .adr 8 0), (45, .v (.bool (((1 : Int) + z136) == 1)))] [(3, ⟨51, [.int .i64 W.b, .int .i64 W.f, .int .i64 W.r, .int .i64 W.o]⟩), (8, ⟨65, [.int .i64 ((1 : Int) + z136), .int .i64 g128, .int .i64 h128]⟩), (51, ⟨65, cs120⟩)] ?_
    refine zzt (b := ((1 : Int) + z136) == 1) (by kernel_rfl) (fun hb142 => ?_) (fun hb142 => ?_)
    ·replace hb142 : (((1 : Int) + z136) == 1) = true := hb142
     have qhb142 : (((1 : Int) + z136) = 1) := by simpa using hb142
     refine zze ?_
     refine zza 46 (.adr 8 1) ?_
     refine zza 47 (.adr 8 2) ?_
     refine zzi ⟨65, [.int .i64 ((1 : Int) + z136), .int .i64 g128, .int .i64 0]⟩ ty3 ?_
     refine zzb 53 [(0, .v x.v), (3, .adr 3 0), (5, .slc 51 0 1 c120), (6, .v (.int .i64 3)), (8, .adr 8 0)] [(3, ⟨51, [.int .i64 W.b, .int .i64 W.f, .int .i64 W.r, .int .i64 W.o]⟩), (8, ⟨65, [.int .i64 ((1 : Int) + z136), .int .i64 g128, .int .i64 0]⟩), (51, ⟨65, cs120⟩)] ?_
     have hk143 : PasOK W.f (⟨(1 : Int) + z136, g128, 0⟩ : PL) := ⟨by show (1 : Int) + z136 = 1 ∧ (0 : Int) = 0 ∨ (1 : Int) + z136 = 2; omega, by show _ < g128; omega, by show g128 < _; omega, by show _ < (0 : Int); omega, by show (0 : Int) < _; omega⟩
     refine zze ?_
     refine zza 48 (.slc 51 0 1 c120) ?_
     refine zzh 49 (.v (.agg #[.int .i64 ((1 : Int) + z136), .int .i64 g128, .int .i64 0])) ty65 zzd ?_
     refine sy_data 50 ⟨65, [.int .i64 ((1 : Int) + z136), .int .i64 g128, .int .i64 0]⟩ 1 (fun b144 u145 e146 h147 => ?_)
     refine sy_app1 51 (T := 57) (E := 65) (z := .agg #[.int .i64 0, .int .i64 0, .int .i64 0]) (size := 3) (bytes := 24) (b := b144) (off := 0) (m := 1) (n := 1) (cap := c120) (t := 51) (cs0 := cs120) [5, 48, 51] [.int .i64 ((1 : Int) + z136), .int .i64 g128, .int .i64 0] (by kernel_rfl) (by kernel_rfl) (by kernel_rfl) (by decide) rfl (lit_news ((Ext.refl _).cells h147)) (pl_one (⟨(1 : Int) + z136, g128, 0⟩ : PL)) (by decide) (by unfold maxLen; omega) (by omega) (by omega) (by omega) (by omega) (by repeat first | exact noAt_of | refine zyc ?_ | refine zye ?_ | refine zyd ?_ | refine zzx ?_ | refine zya ?_) ?_
     intro c148 cs148 ha148 hb148 hc148 hd148
     have hd148r : cs148.take (2 * 3) = pcs [(⟨(1 : Int) + z26, g18, h18⟩ : PL), (⟨(1 : Int) + z136, g128, 0⟩ : PL)] := by rw [show 2 * 3 = (1 + 1) * 3 from rfl, hd148, hd120r]; rfl
     replace ha148 : 2 ≤ c148 := ha148
     refine zza 5 (.slc 51 0 2 c148) ?_
     refine zzw ?_
     refine zzo ?_
     refine zze ?_
     refine zza 19 (.v (.int .i64 3)) ?_
     refine zza 20 (.v (.int .i64 6)) ?_
     refine zza 6 (.v (.int .i64 6)) ?_
     refine zzw ?_
     refine rn_next ?_
     refine sw_weak (T := St.of 53 [(0, .v (.slice x.a x.n x.c)), (3, .adr 3 0), (5, .slc 51 0 2 c148), (6, .v (.int .i64 6))] [(3, ⟨51, [.int .i64 W.b, .int .i64 W.f, .int .i64 W.r, .int .i64 W.o]⟩), (51, ⟨65, cs148⟩)]) (by exact zzu _ _ _) ?_
     refine zzc ?_
     refine sq9 ?_
     refine zza 9 (.v (.int .i64 6)) ?_
     refine zza 10 (.v (.int .i64 8)) ?_
     refine zza 11 (.v x.v) ?_
     refine zza 12 (.v (.int .i64 (x.n : Int))) ?_
     refine zza 13 (.v (.bool (decide ((8 : Int) < (x.n : Int))))) ?_
     rcases Bool.eq_false_or_eq_true (decide ((8 : Int) < (x.n : Int))) with hs149 | hs149
     ·refine zyp 14 (x := .v (.bool (decide ((8 : Int) < (x.n : Int))))) (.v (.bool true)) (by rw [hs149]) ?_
      have qhs149 := of_decide_eq_true hs149
      refine zza 15 (.slc 51 0 2 c148) ?_ (hw := w1 5 true 14)
      refine zza 16 (.v (.int .i64 2)) ?_ (hw := w1 5 true 14)
      refine zza 17 (.v (.bool false)) ?_ (hw := w1 5 true 14)
      refine zza 18 (.v (.bool false)) ?_
      refine zzb 53 [(0, .v x.v), (3, .adr 3 0), (5, .slc 51 0 2 c148), (6, .v (.int .i64 6)), (18, .v (.bool false))] [(3, ⟨51, [.int .i64 W.b, .int .i64 W.f, .int .i64 W.r, .int .i64 W.o]⟩), (51, ⟨65, cs148⟩)] ?_
      refine zyr (by kernel_rfl) ?_
      refine zyb ?_
      refine zzo ?_
      refine zzc ?_
      refine zyo (r := 5) (t := 51) [5, 51] (by repeat first | exact noAt_of | refine zyc ?_ | refine zye ?_ | refine zyd ?_ | refine zzx ?_ | refine zya ?_) (by kernel_rfl) (by rfl) (by rfl) (by kernel_rfl) (fun b150 u151 e152 hb153 hh154 => ?_)
      have hp155 : PasV u151 ⟨some ⟨b150, 0, none⟩, 2, c148⟩ [(⟨(1 : Int) + z26, g18, h18⟩ : PL), (⟨(1 : Int) + z136, g128, 0⟩ : PL)] := pas_data hh154 hd148r hc148 ha148 hb148
      refine zze ?_
      refine zza 52 (.v (.slice (some ⟨b150, 0, none⟩) 2 c148)) ?_
      refine zza 4 (.v (.slice (some ⟨b150, 0, none⟩) 2 c148)) ?_
      refine zzb 53 [(4, .v (.slice (some ⟨b150, 0, none⟩) 2 c148))] [] ?_
      refine zzn (ret0 [.slice (some ⟨b150, 0, none⟩) 2 c148] ⟨zzp, trivial⟩ fun u156 e157 => ?_)
      exact ⟨(⟨some ⟨b150, 0, none⟩, 2, c148⟩ : Sl), [(⟨(1 : Int) + z26, g18, h18⟩ : PL), (⟨(1 : Int) + z136, g128, 0⟩ : PL)], rfl, (hp155.ext e157), pas_all2 hk115 hk143, by simp⟩
     ·refine zyp 14 (x := .v (.bool (decide ((8 : Int) < (x.n : Int))))) (.v (.bool false)) (by rw [hs149]) ?_
      have qhs149 := of_decide_eq_false hs149
      refine zzm 15 (uw 5 true false 14) ?_
      refine zzm 16 (uw 5 true false 14) ?_
      refine zzm 17 (uw 5 true false 14) ?_
      refine zza 18 (.v (.bool false)) ?_
      refine zzb 53 [(0, .v x.v), (3, .adr 3 0), (5, .slc 51 0 2 c148), (6, .v (.int .i64 6)), (18, .v (.bool false))] [(3, ⟨51, [.int .i64 W.b, .int .i64 W.f, .int .i64 W.r, .int .i64 W.o]⟩), (51, ⟨65, cs148⟩)] ?_
      refine zyr (by kernel_rfl) ?_
      refine zyb ?_
      refine zzo ?_
      refine zzc ?_
      refine zyo (r := 5) (t := 51) [5, 51] (by repeat first | exact noAt_of | refine zyc ?_ | refine zye ?_ | refine zyd ?_ | refine zzx ?_ | refine zya ?_) (by kernel_rfl) (by rfl) (by rfl) (by kernel_rfl) (fun b158 u159 e160 hb161 hh162 => ?_)
      have hp163 : PasV u159 ⟨some ⟨b158, 0, none⟩, 2, c148⟩ [(⟨(1 : Int) + z26, g18, h18⟩ : PL), (⟨(1 : Int) + z136, g128, 0⟩ : PL)] := pas_data hh162 hd148r hc148 ha148 hb148
      refine zze ?_
      refine zza 52 (.v (.slice (some ⟨b158, 0, none⟩) 2 c148)) ?_
      refine zza 4 (.v (.slice (some ⟨b158, 0, none⟩) 2 c148)) ?_
      refine zzb 53 [(4, .v (.slice (some ⟨b158, 0, none⟩) 2 c148))] [] ?_
      refine zzn (ret0 [.slice (some ⟨b158, 0, none⟩) 2 c148] ⟨zzp, trivial⟩ fun u164 e165 => ?_)
      exact ⟨(⟨some ⟨b158, 0, none⟩, 2, c148⟩ : Sl), [(⟨(1 : Int) + z26, g18, h18⟩ : PL), (⟨(1 : Int) + z136, g128, 0⟩ : PL)], rfl, (hp163.ext e165), pas_all2 hk115 hk143, by simp⟩
    ·replace hb142 : (((1 : Int) + z136) == 1) = false := hb142
     have qhb142 : ¬ (((1 : Int) + z136) = 1) := by simpa using hb142
     refine zzr (zzo ?_)
     have hk166 : PasOK W.f (⟨(1 : Int) + z136, g128, h128⟩ : PL) := ⟨by show (1 : Int) + z136 = 1 ∧ h128 = 0 ∨ (1 : Int) + z136 = 2; omega, by show _ < g128; omega, by show g128 < _; omega, by show _ < h128; omega, by show h128 < _; omega⟩
     refine zze ?_
     refine zza 48 (.slc 51 0 1 c120) ?_
     refine zzh 49 (.v (.agg #[.int .i64 ((1 : Int) + z136), .int .i64 g128, .int .i64 h128])) ty65 zzd ?_
     refine sy_data 50 ⟨65, [.int .i64 ((1 : Int) + z136), .int .i64 g128, .int .i64 h128]⟩ 1 (fun b167 u168 e169 h170 => ?_)
     refine sy_app1 51 (T := 57) (E := 65) (z := .agg #[.int .i64 0, .int .i64 0, .int .i64 0]) (size := 3) (bytes := 24) (b := b167) (off := 0) (m := 1) (n := 1) (cap := c120) (t := 51) (cs0 := cs120) [5, 48, 51] [.int .i64 ((1 : Int) + z136), .int .i64 g128, .int .i64 h128] (by kernel_rfl) (by kernel_rfl) (by kernel_rfl) (by decide) rfl (lit_news ((Ext.refl _).cells h170)) (pl_one (⟨(1 : Int) + z136, g128, h128⟩ : PL)) (by decide) (by unfold maxLen; omega) (by omega) (by omega) (by omega) (by omega) (by repeat first | exact noAt_of | refine zyc ?_ | refine zye ?_ | refine zyd ?_ | refine zzx ?_ | refine zya ?_) ?_
     intro c171 cs171 ha171 hb171 hc171 hd171
     have hd171r : cs171.take (2 * 3) = pcs [(⟨(1 : Int) + z26, g18, h18⟩ : PL), (⟨(1 : Int) + z136, g128, h128⟩ : PL)] := by rw [show 2 * 3 = (1 + 1) * 3 from rfl, hd171, hd120r]; rfl
     replace ha171 : 2 ≤ c171 := ha171
     refine zza 5 (.slc 51 0 2 c171) ?_
     refine zzw ?_
     refine zzo ?_
     refine zze ?_
     refine zza 19 (.v (.int .i64 3)) ?_
     refine zza 20 (.v (.int .i64 6)) ?_
     refine zza 6 (.v (.int .i64 6)) ?_
     refine zzw ?_
     refine rn_next ?_
     refine sw_weak (T := St.of 53 [(0, .v (.slice x.a x.n x.c)), (3, .adr 3 0), (5, .slc 51 0 2 c171), (6, .v (.int .i64 6))] [(3, ⟨51, [.int .i64 W.b, .int .i64 W.f, .int .i64 W.r, .int .i64 W.o]⟩), (51, ⟨65, cs171⟩)]) (by exact zzu _ _ _) ?_
     refine zzc ?_
     refine sq9 ?_
     refine zza 9 (.v (.int .i64 6)) ?_
     refine zza 10 (.v (.int .i64 8)) ?_
     refine zza 11 (.v x.v) ?_
     refine zza 12 (.v (.int .i64 (x.n : Int))) ?_
     refine zza 13 (.v (.bool (decide ((8 : Int) < (x.n : Int))))) ?_
     rcases Bool.eq_false_or_eq_true (decide ((8 : Int) < (x.n : Int))) with hs172 | hs172
     ·refine zyp 14 (x := .v (.bool (decide ((8 : Int) < (x.n : Int))))) (.v (.bool true)) (by rw [hs172]) ?_
      have qhs172 := of_decide_eq_true hs172
      refine zza 15 (.slc 51 0 2 c171) ?_ (hw := w1 5 true 14)
      refine zza 16 (.v (.int .i64 2)) ?_ (hw := w1 5 true 14)
      refine zza 17 (.v (.bool false)) ?_ (hw := w1 5 true 14)
      refine zza 18 (.v (.bool false)) ?_
      refine zzb 53 [(0, .v x.v), (3, .adr 3 0), (5, .slc 51 0 2 c171), (6, .v (.int .i64 6)), (18, .v (.bool false))] [(3, ⟨51, [.int .i64 W.b, .int .i64 W.f, .int .i64 W.r, .int .i64 W.o]⟩), (51, ⟨65, cs171⟩)] ?_
      refine zyr (by kernel_rfl) ?_
      refine zyb ?_
      refine zzo ?_
      refine zzc ?_
      refine zyo (r := 5) (t := 51) [5, 51] (by repeat first | exact noAt_of | refine zyc ?_ | refine zye ?_ | refine zyd ?_ | refine zzx ?_ | refine zya ?_) (by kernel_rfl) (by rfl) (by rfl) (by kernel_rfl) (fun b173 u174 e175 hb176 hh177 => ?_)
      have hp178 : PasV u174 ⟨some ⟨b173, 0, none⟩, 2, c171⟩ [(⟨(1 : Int) + z26, g18, h18⟩ : PL), (⟨(1 : Int) + z136, g128, h128⟩ : PL)] := pas_data hh177 hd171r hc171 ha171 hb171
      refine zze ?_
      refine zza 52 (.v (.slice (some ⟨b173, 0, none⟩) 2 c171)) ?_
      refine zza 4 (.v (.slice (some ⟨b173, 0, none⟩) 2 c171)) ?_
      refine zzb 53 [(4, .v (.slice (some ⟨b173, 0, none⟩) 2 c171))] [] ?_
      refine zzn (ret0 [.slice (some ⟨b173, 0, none⟩) 2 c171] ⟨zzp, trivial⟩ fun u179 e180 => ?_)
      exact ⟨(⟨some ⟨b173, 0, none⟩, 2, c171⟩ : Sl), [(⟨(1 : Int) + z26, g18, h18⟩ : PL), (⟨(1 : Int) + z136, g128, h128⟩ : PL)], rfl, (hp178.ext e180), pas_all2 hk115 hk166, by simp⟩
     ·refine zyp 14 (x := .v (.bool (decide ((8 : Int) < (x.n : Int))))) (.v (.bool false)) (by rw [hs172]) ?_
      have qhs172 := of_decide_eq_false hs172
      refine zzm 15 (uw 5 true false 14) ?_
      refine zzm 16 (uw 5 true false 14) ?_
      refine zzm 17 (uw 5 true false 14) ?_
      refine zza 18 (.v (.bool false)) ?_
      refine zzb 53 [(0, .v x.v), (3, .adr 3 0), (5, .slc 51 0 2 c171), (6, .v (.int .i64 6)), (18, .v (.bool false))] [(3, ⟨51, [.int .i64 W.b, .int .i64 W.f, .int .i64 W.r, .int .i64 W.o]⟩), (51, ⟨65, cs171⟩)] ?_
      refine zyr (by kernel_rfl) ?_
      refine zyb ?_
      refine zzo ?_
      refine zzc ?_
      refine zyo (r := 5) (t := 51) [5, 51] (by repeat first | exact noAt_of | refine zyc ?_ | refine zye ?_ | refine zyd ?_ | refine zzx ?_ | refine zya ?_) (by kernel_rfl) (by rfl) (by rfl) (by kernel_rfl) (fun b181 u182 e183 hb184 hh185 => ?_)
      have hp186 : PasV u182 ⟨some ⟨b181, 0, none⟩, 2, c171⟩ [(⟨(1 : Int) + z26, g18, h18⟩ : PL), (⟨(1 : Int) + z136, g128, h128⟩ : PL)] := pas_data hh185 hd171r hc171 ha171 hb171
      refine zze ?_
      refine zza 52 (.v (.slice (some ⟨b181, 0, none⟩) 2 c171)) ?_
      refine zza 4 (.v (.slice (some ⟨b181, 0, none⟩) 2 c171)) ?_
      refine zzb 53 [(4, .v (.slice (some ⟨b181, 0, none⟩) 2 c171))] [] ?_
      refine zzn (ret0 [.slice (some ⟨b181, 0, none⟩) 2 c171] ⟨zzp, trivial⟩ fun u187 e188 => ?_)
      exact ⟨(⟨some ⟨b181, 0, none⟩, 2, c171⟩ : Sl), [(⟨(1 : Int) + z26, g18, h18⟩ : PL), (⟨(1 : Int) + z136, g128, h128⟩ : PL)], rfl, (hp186.ext e188), pas_all2 hk115 hk166, by simp⟩
   ·refine zyp 14 (x := .v (.bool (decide ((5 : Int) < (x.n : Int))))) (.v (.bool false)) (by rw [hs121]) ?_
    have qhs121 := of_decide_eq_false hs121
    refine zzm 15 (uw 5 true false 14) ?_
    refine zzm 16 (uw 5 true false 14) ?_
    refine zzm 17 (uw 5 true false 14) ?_
    refine zza 18 (.v (.bool false)) ?_
    refine zzb 53 [(0, .v x.v), (3, .adr 3 0), (5, .slc 51 0 1 c120), (6, .v (.int .i64 3)), (18, .v (.bool false))] [(3, ⟨51, [.int .i64 W.b, .int .i64 W.f, .int .i64 W.r, .int .i64 W.o]⟩), (51, ⟨65, cs120⟩)] ?_
    refine zyr (by kernel_rfl) ?_
    refine zyb ?_
    refine zzo ?_
    refine zzc ?_
    refine zyo (r := 5) (t := 51) [5, 51] (by repeat first | exact noAt_of | refine zyc ?_ | refine zye ?_ | refine zyd ?_ | refine zzx ?_ | refine zya ?_) (by kernel_rfl) (by rfl) (by rfl) (by kernel_rfl) (fun b189 u190 e191 hb192 hh193 => ?_)
    have hp194 : PasV u190 ⟨some ⟨b189, 0, none⟩, 1, c120⟩ [(⟨(1 : Int) + z26, g18, h18⟩ : PL)] := pas_data hh193 hd120r hc120 ha120 hb120
    refine zze ?_
    refine zza 52 (.v (.slice (some ⟨b189, 0, none⟩) 1 c120)) ?_
    refine zza 4 (.v (.slice (some ⟨b189, 0, none⟩) 1 c120)) ?_
    refine zzb 53 [(4, .v (.slice (some ⟨b189, 0, none⟩) 1 c120))] [] ?_
    refine zzn (ret0 [.slice (some ⟨b189, 0, none⟩) 1 c120] ⟨zzp, trivial⟩ fun u195 e196 => ?_)
    exact ⟨(⟨some ⟨b189, 0, none⟩, 1, c120⟩ : Sl), [(⟨(1 : Int) + z26, g18, h18⟩ : PL)], rfl, (hp194.ext e196), pas_all1 hk115, by simp⟩
 ·refine zyp 14 (x := .v (.bool (decide ((2 : Int) < (x.n : Int))))) (.v (.bool false)) (by rw [hs11]) ?_
  have qhs11 := of_decide_eq_false hs11
  refine zzm 15 (uw 5 true false 14) ?_
  refine zzm 16 (uw 5 true false 14) ?_
  refine zzm 17 (uw 5 true false 14) ?_
  refine zza 18 (.v (.bool false)) ?_
  refine zzb 53 [(0, .v x.v), (3, .adr 3 0), (5, .v (.slice none 0 0)), (6, .v (.int .i64 0)), (18, .v (.bool false))] [(3, ⟨51, [.int .i64 W.b, .int .i64 W.f, .int .i64 W.r, .int .i64 W.o]⟩)] ?_
  refine zyr (by kernel_rfl) ?_
  refine zyb ?_
  refine zzo ?_
  refine sq9 ?_
  refine zza 52 (.v (.slice none 0 0)) ?_
  refine zza 4 (.v (.slice none 0 0)) ?_
  refine zzb 53 [(4, .v (.slice none 0 0))] [] ?_
  refine zzn (ret0 [.slice none 0 0] ⟨zzp, trivial⟩ fun u197 e198 => ?_)
  exact ⟨⟨none, 0, 0⟩, [], rfl, pas_nil _, pas_all0, by decide⟩
set_option maxHeartbeats 1000000 in
theorem k_filter {u w : World} {x y : Sl} {l m : List Int} {W : WL} (d : Dat u w) (hx : SlR .i64 u x.a x.n x.c l) (hb : ∀ z ∈ l, -9223372036854775808 ≤ z ∧ z ≤ 9223372036854775807) (hy : SlR .i64 u y.a y.n y.c m) (hc : ∀ z ∈ m, -9223372036854775808 ≤ z ∧ z ≤ 9223372036854775807) (hW : WdOK W) : Calls Tryz.prog 25 #[.agg #[x.v, y.v], W.v] w (Post u w fun v u' => ∃ (y z : Sl) (L M : List PL), v = .agg #[y.v, z.v] ∧ PasV u' y L ∧ (∀ p ∈ L, PasOK W.f p) ∧ L.length ≤ 4 ∧ PasV u' z M ∧ (∀ p ∈ M, PasOK W.f p) ∧ M.length ≤ 4) := by
 refine zzl (args := [.agg #[.slice x.a x.n x.c, .slice y.a y.n y.c], .agg #[.int .i64 W.b, .int .i64 W.f, .int .i64 W.r, .int .i64 W.o]]) Tryz.func25 rfl Tryz.ntmps25 (rs := [.cell 4 59]) Tryz.results25 (le_b rfl) (le_b rfl) d ?_
 refine sq9 ?_
 refine zzj 2 ⟨49, [x.v, y.v]⟩ ?_
 refine zzj 3 ⟨51, [.int .i64 W.b, .int .i64 W.f, .int .i64 W.r, .int .i64 W.o]⟩ ?_
 refine zzj 4 ⟨59, [.slice none 0 0, .slice none 0 0]⟩ ?_
 refine zzb 14 [(2, .adr 2 0), (3, .adr 3 0), (4, .adr 4 0)] [(2, ⟨49, [x.v, y.v]⟩), (3, ⟨51, [.int .i64 W.b, .int .i64 W.f, .int .i64 W.r, .int .i64 W.o]⟩), (4, ⟨59, [.slice none 0 0, .slice none 0 0]⟩)] ?_
 refine zzc ?_
 refine zzy [0, 1, 0, 7, 0, 16, 0, 127, 255, 511] [(0, []), (1, []), (2, []), (4, []), (5, []), (6, []), (3, []), (7, []), (8, []), (9, [])] (by kernel_rfl) (by kernel_rfl) ?_
 refine zza 5 (.adr 2 0) ?_
 refine zzh 6 (.v x.v) ty22 zzk ?_
 refine zzh 7 (.v (.agg #[.int .i64 W.b, .int .i64 W.f, .int .i64 W.r, .int .i64 W.o])) ty51 zzd ?_
 refine zza 9 (.adr 2 1) ?_
 refine zzh 10 (.v y.v) ty22 zzk ?_
 refine zzh 11 (.v (.agg #[.int .i64 W.b, .int .i64 W.f, .int .i64 W.r, .int .i64 W.o])) ty51 zzd ?_
 refine zzf 8 69 [x.v, .agg #[.int .i64 W.b, .int .i64 W.f, .int .i64 W.r, .int .i64 W.o]] ?_
 intro w11 u11 e11 d11
 have k15 := k_sections (W := W) d11 (hx.ext e11) hb hW
 with_reducible refine Post.mono k15 ?_
 rintro _ u13 g14 ⟨y12, L12, rfl, h12, hp12, hn12⟩
 have hly12 := h12.len
 refine zzf 12 69 [y.v, .agg #[.int .i64 W.b, .int .i64 W.f, .int .i64 W.r, .int .i64 W.o]] ?_
 intro w16 u16 e16 d16
 have k20 := k_sections (W := W) d16 (hy.ext (e11.trans (g14.ext.trans e16))) hc hW
 with_reducible refine Post.mono k20 ?_
 rintro _ u18 g19 ⟨y17, L17, rfl, h17, hp17, hn17⟩
 have hly17 := h17.len
 refine zza 13 (.v (.agg #[y12.v, y17.v])) ?_
 refine zzi ⟨59, [y12.v, y17.v]⟩ ty59 ?_
 refine zzb 14 [(4, .adr 4 0)] [(4, ⟨59, [y12.v, y17.v]⟩)] ?_
 refine zzn (ret0 [.agg #[.slice y12.a y12.n y12.c, .slice y17.a y17.n y17.c]] ⟨zzq ty59 zzd, trivial⟩ fun u21 e22 => ?_)
 exact ⟨y12, y17, L12, L17, rfl, (h12.ext (e16.trans (g19.ext.trans e22))), hp12, hn12, (h17.ext e22), hp17, hn17⟩
theorem Nt.id_len {f : Int} {L M : List PL} (hL : L.length ≤ 4) (hM : M.length ≤ 4) : (Nt.trimQ ((Nt.trimQ (Nt.addQ (Nt.trimQ (Nt.mulQ (Nt.prodB f L L.length) (Nt.prodA f M M.length))) (Nt.trimQ (Nt.mulQ (Nt.prodB f M M.length) (Nt.prodA f L L.length))))).map (· * (((1 : Int) : Rat) / ((2 : Int) : Rat))))).length ≤ 17 ∧ (Nt.trimQ ((Nt.trimQ (Nt.addQ (Nt.trimQ (Nt.mulQ (Nt.prodB f L L.length) (Nt.prodA f M M.length))) ((Nt.trimQ (Nt.mulQ (Nt.prodB f M M.length) (Nt.prodA f L L.length))).map (fun z => -z)))).map (· * (((1 : Int) : Rat) / ((2 : Int) : Rat))))).length ≤ 17 ∧ (Nt.trimQ (Nt.mulQ (Nt.prodA f L L.length) (Nt.prodA f M M.length))).length ≤ 17 := by
 have hb : ∀ {L : List PL}, L.length ≤ 4 → (Nt.prodB f L L.length).length ≤ 9 := fun {L} h => by have h9 := (Nt.prod_len f L L.length).1; omega
 have ha : ∀ {L : List PL}, L.length ≤ 4 → (Nt.prodA f L L.length).length ≤ 9 := fun {L} h => by have h9 := (Nt.prod_len f L L.length).2; omega
 have h1 := Nt.mul_lenQ (hb hL) (ha hM)
 have h2 := Nt.mul_lenQ (hb hM) (ha hL)
 exact ⟨Nt.map_lenQ (Nt.add_lenQ h1 h2), Nt.map_lenQ (Nt.add_lenQ h1 (by rw [List.length_map]; exact h2 : (List.map (fun z : Rat => -z) _).length ≤ 9 + 9 - 1)), Nt.mul_lenQ (ha hL) (ha hM)⟩
set_option maxHeartbeats 4000000 in
theorem k_known26 {u w : World} (d : Dat u w) : Calls Tryz.prog 27 #[] w (Post u w fun v _ => v = .bool true) := by
 refine zzl (args := []) Tryz.func27 rfl Tryz.ntmps27 (rs := [.tmp 0]) Tryz.results27 (le_b rfl) (le_b rfl) d ?_
 refine sq9 ?_
 refine zza 0 (.v (.bool false)) ?_
 refine zzb 59 [] [] ?_
 refine sq9 ?_
 refine zza 8 (.v (.agg #[.int .i64 8, .int .i64 4, .int .i64 1, .int .i64 1])) ?_
 refine zzj 1 ⟨51, [.int .i64 0, .int .i64 0, .int .i64 0, .int .i64 0]⟩ ?_
 refine zzi ⟨51, [.int .i64 8, .int .i64 4, .int .i64 1, .int .i64 1]⟩ ty51 ?_
 refine zzb 59 [(1, .adr 1 0)] [(1, ⟨51, [.int .i64 8, .int .i64 4, .int .i64 1, .int .i64 1]⟩)] ?_
 refine sq9 ?_
 refine zza 10 (.v (.agg #[.int .i64 8, .int .i64 0])) ?_
 refine zza 11 (.v (.agg #[.int .i64 1, .int .i64 8, .int .i64 0])) ?_
 refine zzh 12 (.v (.agg #[.int .i64 8, .int .i64 4, .int .i64 1, .int .i64 1])) ty51 zzd ?_
 refine zzf 13 28 [.agg #[.int .i64 1, .int .i64 8, .int .i64 0], .agg #[.int .i64 8, .int .i64 4, .int .i64 1, .int .i64 1]] ?_
 intro w11 u11 e11 d11
 have k18 := k_wAllPass (p := (⟨1, 8, 0⟩ : PL)) (W := (⟨8, 4, 1, 1⟩ : WL)) d11 (show WdOK (⟨8, 4, 1, 1⟩ : WL) by unfold WdOK; decide) (by decide) (show PasOK (⟨8, 4, 1, 1⟩ : WL).f (⟨1, 8, 0⟩ : PL) by unfold PasOK; decide)
 with_reducible refine Post.mono k18 ?_
 rintro _ u16 g17 ⟨y12, y13, rfl, h14, h15⟩
 have hly12 := h14.len
 have hmy12 := Nat.le_trans (Nt.zzg (Nt.secB (⟨8, 4, 1, 1⟩ : WL).f (⟨1, 8, 0⟩ : PL))) (Nt.sec_len (⟨8, 4, 1, 1⟩ : WL).f (⟨1, 8, 0⟩ : PL)).1
 have hly13 := h15.len
 have hmy13 := Nat.le_trans (Nt.zzg (Nt.secA (⟨8, 4, 1, 1⟩ : WL).f (⟨1, 8, 0⟩ : PL))) (Nt.sec_len (⟨8, 4, 1, 1⟩ : WL).f (⟨1, 8, 0⟩ : PL)).2
 refine zza 9 (.v (.tuple #[.agg #[y12.v, y13.v], .int .i64 0])) ?_
 refine zza 14 (.v (.agg #[y12.v, y13.v])) ?_
 refine zza 15 (.v (.int .i64 0)) ?_
 refine zzj 2 ⟨54, [.slice none 0 0, .slice none 0 0]⟩ ?_
 refine zzi ⟨54, [y12.v, y13.v]⟩ ty54 ?_
 refine zza 3 (.v (.int .i64 0)) ?_
 refine zzb 59 [(1, .adr 1 0), (2, .adr 2 0), (3, .v (.int .i64 0))] [(1, ⟨51, [.int .i64 8, .int .i64 4, .int .i64 1, .int .i64 1]⟩), (2, ⟨54, [y12.v, y13.v]⟩)] ?_
 refine sq9 ?_
 refine zza 17 (.v (.agg #[.slice none 0 0, .slice none 0 0])) ?_
 refine zzh 18 (.v (.agg #[.int .i64 8, .int .i64 4, .int .i64 1, .int .i64 1])) ty51 zzd ?_
 refine zzf 19 24 [.agg #[.slice none 0 0, .slice none 0 0], .agg #[.int .i64 8, .int .i64 4, .int .i64 1, .int .i64 1]] ?_
 intro w19 u19 e19 d19
 have k31 := k_wIdeal (W := (⟨8, 4, 1, 1⟩ : WL)) d19 (pas_nil _) pas_all0 (by decide) (pas_nil _) pas_all0 (by decide) (show WdOK (⟨8, 4, 1, 1⟩ : WL) by unfold WdOK; decide) (by decide)
 with_reducible refine Post.mono k31 ?_
 rintro _ u29 g30 ⟨y20, y21, y22, y23, rfl, h24, h25, h26, h27⟩
 have hly20 := h24.len
 have hly21 := h25.len
 have hly22 := h26.len
 have hly23 := h27.len
 have hq28 := Nt.id_len (f := (⟨8, 4, 1, 1⟩ : WL).f) (L := []) (M := []) (by decide) (by decide)
 refine zza 16 (.v (.tuple #[.agg #[y20.v, y21.v], .agg #[y22.v, y23.v], .int .i64 0])) ?_
 refine zza 20 (.v (.agg #[y20.v, y21.v])) ?_
 refine zza 21 (.v (.agg #[y22.v, y23.v])) ?_
 refine zza 22 (.v (.int .i64 0)) ?_
 refine zzj 4 ⟨54, [.slice none 0 0, .slice none 0 0]⟩ ?_
 refine zzj 5 ⟨54, [.slice none 0 0, .slice none 0 0]⟩ ?_
 refine zzi ⟨54, [y20.v, y21.v]⟩ ty54 ?_
 refine zzi ⟨54, [y22.v, y23.v]⟩ ty54 ?_
 refine zza 6 (.v (.int .i64 0)) ?_
 refine zzb 59 [(2, .adr 2 0), (3, .v (.int .i64 0)), (4, .adr 4 0), (5, .adr 5 0), (6, .v (.int .i64 0))] [(2, ⟨54, [y12.v, y13.v]⟩), (4, ⟨54, [y20.v, y21.v]⟩), (5, ⟨54, [y22.v, y23.v]⟩)] ?_
 refine sq9 ?_
 refine zzf 23 10 [.int .i64 (-1), .int .i64 2] ?_
 intro w32 u32 e32 d32
 have k37 := k_rqFrac d32 (a := (-1)) (b := 2) (by omega) (by omega) (by omega) (by omega)
 with_reducible refine Post.mono k37 ?_
 rintro _ u35 g36 ⟨r33, rfl, h34⟩
 refine zzj 7 ⟨29, [.bool false, .slice none 0 0, .slice none 0 0]⟩ ?_
 refine zzi ⟨29, r33.cs⟩ ty29 ?_
 refine zzb 59 [(2, .adr 2 0), (3, .v (.int .i64 0)), (4, .adr 4 0), (5, .adr 5 0), (6, .v (.int .i64 0)), (7, .adr 7 0)] [(2, ⟨54, [y12.v, y13.v]⟩), (4, ⟨54, [y20.v, y21.v]⟩), (5, ⟨54, [y22.v, y23.v]⟩), (7, ⟨29, r33.cs⟩)] ?_
 refine zzc ?_
 refine zzy [0, 1, 3, 7, 15, 31, 63, 127, 255, 127, 127, 1663, 4095, 8191, 16383, 32767, 65535, 32767, 32767, 425983, 1048575, 2097151, 4194303, 8388607, 16777215, 8388607, 41943039, 134217727, 268435455, 536870911, 1073741823, 2147483647, 4294967295, 8589934591, 17179869183, 34359738367] [(0, []), (1, []), (2, []), (3, []), (4, []), (5, []), (6, []), (7, []), (8, []), (9, []), (10, []), (11, []), (12, [35]), (13, []), (14, []), (15, []), (16, []), (18, []), (17, []), (19, []), (20, [43]), (21, []), (22, []), (23, []), (24, []), (25, []), (26, []), (27, []), (28, []), (29, []), (30, []), (31, []), (32, []), (33, []), (34, []), (35, [])] (by kernel_rfl) (by kernel_rfl) ?_
 refine zza 24 (.v (.int .i64 0)) ?_
 refine zza 25 (.v (.bool true)) ?_
 refine zza 26 (.v (.bool true)) ?_
 refine zza 27 (.v (.int .i64 0)) ?_ (hw := w1 2 true 26)
 refine zza 28 (.v (.bool true)) ?_ (hw := w1 2 true 26)
 refine zza 29 (.v (.bool true)) ?_
 refine zza 30 (.v (.bool true)) ?_
 refine zza 31 (.adr 2 0) ?_ (hw := w1 6 true 30)
 refine zzh 32 (.v y12.v) ty32 zzk ?_ (hw := w1 6 true 30)
 refine zzh 33 (.v (r33.v)) ty29 zzd ?_ (hw := w1 6 true 30)
 refine zzf 34 19 [.int .i64 1] ?_ (hw := w1 6 true 30)
 intro w38 u38 e38 d38
 have k43 := k_rqOf d38 (z := 1) (by omega) (by omega)
 with_reducible refine Post.mono k43 ?_
 rintro _ u41 g42 ⟨r39, rfl, h40⟩
 refine sy_lit 35 ⟨29, r33.cs ++ r39.cs⟩ 2 ?_ (hw := w1 6 true 30)
 refine zyn 36 22 [.v y12.v, .slc 35 0 2 2] [35] (.inr rfl) (pub_mk (by repeat first | exact noAt_of | refine zyc ?_ | refine zye ?_ | refine zyd ?_ | refine zzx ?_ | refine zya ?_)) (k := ?_) (hw := w1 6 true 30)
 intro B44 w44 u44 e44 d44 v44
 have h46 : u44.heap[B44 35]? = some (.cells #[.bool r33.s, .slice r33.m.a r33.m.n r33.m.c, .slice r33.d.a r33.d.n r33.d.c, .bool r39.s, .slice r39.m.a r39.m.n r39.m.c, .slice r39.d.a r39.d.n r39.d.c] 29 (0, 0)) := v44 35 (by simp) _ rfl
 obtain ⟨b45, hBb45⟩ : ∃ b, B44 35 = b := ⟨_, rfl⟩
 rw [hBb45] at h46
 have hp47 : PolN u44 (⟨some ⟨b45, 0, none⟩, 2, 2⟩ : Sl) [((((-1) : Int) : Rat) / ((2 : Int) : Rat)), ((1 : Int) : Rat)] (max 3 2) := pol_lit (L := [r33, r39]) h46 (rats2 (RatN.more (L := (max 3 2)) (h34.ext (e38.trans (g42.ext.trans e44))) (by omega)) (RatN.more (L := (max 3 2)) (h40.ext e44) (by omega))) rfl (by decide)
 show Calls _ _ #[.slice y12.a y12.n y12.c, .slice (some ⟨B44 35, 0, none⟩) 2 2] _ _
 rw [hBb45]
 have k50 := k_r5Same d44 (h14.ext (e19.trans (g30.ext.trans (e32.trans (g36.ext.trans (e38.trans (g42.ext.trans e44))))))).raw hp47.raw (by omega) (by omega) (by have h9 := hmy12; omega) (by first | omega | (simp; done) | (simp; omega) | (refine Nat.le_trans (Nt.zzg _) ?_; rw [Nt.addQ_len]; omega) | (refine Nat.le_trans (Nt.zzg _) ?_; have h9 := Nt.sec_len; exact Nat.le_trans (h9 _ _).1 (by decide)) | (refine Nat.le_trans (Nt.zzg _) ?_; have h9 := Nt.sec_len; exact Nat.le_trans (h9 _ _).2 (by decide)))
 with_reducible refine Post.mono k50 ?_
 rintro _ u48 g49 rfl
 refine zza 37 (.v (.bool (decide (Nt.trimQ (Nt.trimQ (Nt.secB (⟨8, 4, 1, 1⟩ : WL).f (⟨1, 8, 0⟩ : PL))) = Nt.trimQ [((((-1) : Int) : Rat) / ((2 : Int) : Rat)), ((1 : Int) : Rat)])))) ?_
 refine zyp 38 (x := .v (.bool (decide (Nt.trimQ (Nt.trimQ (Nt.secB (⟨8, 4, 1, 1⟩ : WL).f (⟨1, 8, 0⟩ : PL))) = Nt.trimQ [((((-1) : Int) : Rat) / ((2 : Int) : Rat)), ((1 : Int) : Rat)])))) (.v (.bool true)) (by rw [show (decide (Nt.trimQ (Nt.trimQ (Nt.secB (⟨8, 4, 1, 1⟩ : WL).f (⟨1, 8, 0⟩ : PL))) = Nt.trimQ [((((-1) : Int) : Rat) / ((2 : Int) : Rat)), ((1 : Int) : Rat)])) = true from decide_eq_true (by decide +kernel)]) ?_
 refine zza 39 (.adr 2 1) ?_ (hw := w1 14 true 38)
 refine zzh 40 (.v y13.v) ty32 zzk ?_ (hw := w1 14 true 38)
 refine zzh 42 (.v (r33.v)) ty29 zzd ?_ (hw := w1 14 true 38)
 refine zzf 41 19 [.int .i64 1] ?_ (hw := w1 14 true 38)
 intro w52 u52 e52 d52
 have k57 := k_rqOf d52 (z := 1) (by omega) (by omega)
 with_reducible refine Post.mono k57 ?_
 rintro _ u55 g56 ⟨r53, rfl, h54⟩
 refine sy_lit 43 ⟨29, r53.cs ++ r33.cs⟩ 2 ?_ (hw := w1 14 true 38)
 refine zyn 44 22 [.v y13.v, .slc 43 0 2 2] [43] (.inr rfl) (pub_mk (by repeat first | exact noAt_of | refine zyc ?_ | refine zye ?_ | refine zyd ?_ | refine zzx ?_ | refine zya ?_)) (k := ?_) (hw := w1 14 true 38)
 intro B58 w58 u58 e58 d58 v58
 have h60 : u58.heap[B58 43]? = some (.cells #[.bool r53.s, .slice r53.m.a r53.m.n r53.m.c, .slice r53.d.a r53.d.n r53.d.c, .bool r33.s, .slice r33.m.a r33.m.n r33.m.c, .slice r33.d.a r33.d.n r33.d.c] 29 (0, 0)) := v58 43 (by simp) _ rfl
 obtain ⟨b59, hBb59⟩ : ∃ b, B58 43 = b := ⟨_, rfl⟩
 rw [hBb59] at h60
 have hp61 : PolN u58 (⟨some ⟨b59, 0, none⟩, 2, 2⟩ : Sl) [((1 : Int) : Rat), ((((-1) : Int) : Rat) / ((2 : Int) : Rat))] (max 2 3) := pol_lit (L := [r53, r33]) h60 (rats2 (RatN.more (L := (max 2 3)) (h54.ext e58) (by omega)) (RatN.more (L := (max 2 3)) (h34.ext (e38.trans (g42.ext.trans (e44.trans (g49.ext.trans (e52.trans (g56.ext.trans e58))))))) (by omega))) rfl (by decide)
 show Calls _ _ #[.slice y13.a y13.n y13.c, .slice (some ⟨B58 43, 0, none⟩) 2 2] _ _
 rw [hBb59]
 have k64 := k_r5Same d58 (h15.ext (e19.trans (g30.ext.trans (e32.trans (g36.ext.trans (e38.trans (g42.ext.trans (e44.trans (g49.ext.trans (e52.trans (g56.ext.trans e58))))))))))).raw hp61.raw (by omega) (by omega) (by have h9 := hmy13; omega) (by first | omega | (simp; done) | (simp; omega) | (refine Nat.le_trans (Nt.zzg _) ?_; rw [Nt.addQ_len]; omega) | (refine Nat.le_trans (Nt.zzg _) ?_; have h9 := Nt.sec_len; exact Nat.le_trans (h9 _ _).1 (by decide)) | (refine Nat.le_trans (Nt.zzg _) ?_; have h9 := Nt.sec_len; exact Nat.le_trans (h9 _ _).2 (by decide)))
 with_reducible refine Post.mono k64 ?_
 rintro _ u62 g63 rfl
 refine zza 45 (.v (.bool (decide (Nt.trimQ (Nt.trimQ (Nt.secA (⟨8, 4, 1, 1⟩ : WL).f (⟨1, 8, 0⟩ : PL))) = Nt.trimQ [((1 : Int) : Rat), ((((-1) : Int) : Rat) / ((2 : Int) : Rat))])))) ?_
 refine zyp 46 (x := .v (.bool (decide (Nt.trimQ (Nt.trimQ (Nt.secA (⟨8, 4, 1, 1⟩ : WL).f (⟨1, 8, 0⟩ : PL))) = Nt.trimQ [((1 : Int) : Rat), ((((-1) : Int) : Rat) / ((2 : Int) : Rat))])))) (.v (.bool true)) (by rw [show (decide (Nt.trimQ (Nt.trimQ (Nt.secA (⟨8, 4, 1, 1⟩ : WL).f (⟨1, 8, 0⟩ : PL))) = Nt.trimQ [((1 : Int) : Rat), ((((-1) : Int) : Rat) / ((2 : Int) : Rat))])) = true from decide_eq_true (by decide +kernel)]) ?_
 refine zza 47 (.adr 4 0) ?_ (hw := w1 22 true 46)
 refine zzh 48 (.v y20.v) ty32 zzk ?_ (hw := w1 22 true 46)
 refine zza 49 (.adr 4 1) ?_ (hw := w1 22 true 46)
 refine zzh 50 (.v y21.v) ty32 zzk ?_ (hw := w1 22 true 46)
 refine zzf 51 22 [y20.v, y21.v] ?_ (hw := w1 22 true 46)
 intro w66 u66 e66 d66
 have k69 := k_r5Same d66 (h24.ext (e32.trans (g36.ext.trans (e38.trans (g42.ext.trans (e44.trans (g49.ext.trans (e52.trans (g56.ext.trans (e58.trans (g63.ext.trans e66))))))))))).raw (h25.ext (e32.trans (g36.ext.trans (e38.trans (g42.ext.trans (e44.trans (g49.ext.trans (e52.trans (g56.ext.trans (e58.trans (g63.ext.trans e66))))))))))).raw (by omega) (by omega) (by have h9 := hq28.1; omega) (by have h9 := hq28.2.2; omega)
 with_reducible refine Post.mono k69 ?_
 rintro _ u67 g68 rfl
 refine zza 52 (.v (.bool (decide (Nt.trimQ (Nt.trimQ ((Nt.trimQ (Nt.addQ (Nt.trimQ (Nt.mulQ (Nt.prodB (⟨8, 4, 1, 1⟩ : WL).f ([] : List PL) ([] : List PL).length) (Nt.prodA (⟨8, 4, 1, 1⟩ : WL).f ([] : List PL) ([] : List PL).length))) (Nt.trimQ (Nt.mulQ (Nt.prodB (⟨8, 4, 1, 1⟩ : WL).f ([] : List PL) ([] : List PL).length) (Nt.prodA (⟨8, 4, 1, 1⟩ : WL).f ([] : List PL) ([] : List PL).length))))).map (· * (((1 : Int) : Rat) / ((2 : Int) : Rat))))) = Nt.trimQ (Nt.trimQ (Nt.mulQ (Nt.prodA (⟨8, 4, 1, 1⟩ : WL).f ([] : List PL) ([] : List PL).length) (Nt.prodA (⟨8, 4, 1, 1⟩ : WL).f ([] : List PL) ([] : List PL).length))))))) ?_
 refine zyp 53 (x := .v (.bool (decide (Nt.trimQ (Nt.trimQ ((Nt.trimQ (Nt.addQ (Nt.trimQ (Nt.mulQ (Nt.prodB (⟨8, 4, 1, 1⟩ : WL).f ([] : List PL) ([] : List PL).length) (Nt.prodA (⟨8, 4, 1, 1⟩ : WL).f ([] : List PL) ([] : List PL).length))) (Nt.trimQ (Nt.mulQ (Nt.prodB (⟨8, 4, 1, 1⟩ : WL).f ([] : List PL) ([] : List PL).length) (Nt.prodA (⟨8, 4, 1, 1⟩ : WL).f ([] : List PL) ([] : List PL).length))))).map (· * (((1 : Int) : Rat) / ((2 : Int) : Rat))))) = Nt.trimQ (Nt.trimQ (Nt.mulQ (Nt.prodA (⟨8, 4, 1, 1⟩ : WL).f ([] : List PL) ([] : List PL).length) (Nt.prodA (⟨8, 4, 1, 1⟩ : WL).f ([] : List PL) ([] : List PL).length))))))) (.v (.bool true)) (by rw [show (decide (Nt.trimQ (Nt.trimQ ((Nt.trimQ (Nt.addQ (Nt.trimQ (Nt.mulQ (Nt.prodB (⟨8, 4, 1, 1⟩ : WL).f ([] : List PL) ([] : List PL).length) (Nt.prodA (⟨8, 4, 1, 1⟩ : WL).f ([] : List PL) ([] : List PL).length))) (Nt.trimQ (Nt.mulQ (Nt.prodB (⟨8, 4, 1, 1⟩ : WL).f ([] : List PL) ([] : List PL).length) (Nt.prodA (⟨8, 4, 1, 1⟩ : WL).f ([] : List PL) ([] : List PL).length))))).map (· * (((1 : Int) : Rat) / ((2 : Int) : Rat))))) = Nt.trimQ (Nt.trimQ (Nt.mulQ (Nt.prodA (⟨8, 4, 1, 1⟩ : WL).f ([] : List PL) ([] : List PL).length) (Nt.prodA (⟨8, 4, 1, 1⟩ : WL).f ([] : List PL) ([] : List PL).length))))) = true from decide_eq_true (by decide +kernel)]) ?_
 refine zza 54 (.adr 5 0) ?_ (hw := w1 29 true 53)
 refine zzh 55 (.v y22.v) ty32 zzk ?_ (hw := w1 29 true 53)
 refine zza 56 (.v (.int .i64 (y22.n : Int))) ?_ (hw := w1 29 true 53)
 refine zza 57 (.v (.bool ((y22.n : Int) == 0))) ?_ (hw := w1 29 true 53)
 refine zza 58 (.v (.bool ((y22.n : Int) == 0))) ?_
 refine zza 0 (.v (.bool ((y22.n : Int) == 0))) ?_
 refine zzb 59 [(0, .v (.bool ((y22.n : Int) == 0)))] [] ?_
 refine zzn (ret0 [.bool ((y22.n : Int) == 0)] ⟨zzp, trivial⟩ fun u71 e72 => ?_)
 show Value.bool _ = Value.bool _
 rw [show ((y22.n : Int) == 0) = true from (by have h9 := hly22; rw [show (Nt.trimQ ((Nt.trimQ (Nt.addQ (Nt.trimQ (Nt.mulQ (Nt.prodB (⟨8, 4, 1, 1⟩ : WL).f ([] : List PL) ([] : List PL).length) (Nt.prodA (⟨8, 4, 1, 1⟩ : WL).f ([] : List PL) ([] : List PL).length))) ((Nt.trimQ (Nt.mulQ (Nt.prodB (⟨8, 4, 1, 1⟩ : WL).f ([] : List PL) ([] : List PL).length) (Nt.prodA (⟨8, 4, 1, 1⟩ : WL).f ([] : List PL) ([] : List PL).length))).map (fun z => -z)))).map (· * (((1 : Int) : Rat) / ((2 : Int) : Rat))))).length = 0 from by decide +kernel] at h9; rw [h9]; rfl)]
set_option maxHeartbeats 4000000 in
theorem w_wavec {u w : World} {x y : Sl} {l m : List Int} {k : Int} (d : Dat u w) (hx : SlR .i64 u x.a x.n x.c l) (hb : ∀ z ∈ l, -9223372036854775808 ≤ z ∧ z ≤ 9223372036854775807) (hy : SlR .i64 u y.a y.n y.c m) (hc : ∀ z ∈ m, -9223372036854775808 ≤ z ∧ z ≤ 9223372036854775807) (hk0 : -9223372036854775808 ≤ k) (hk1 : k ≤ 9223372036854775807) : Calls Tryz.prog 5 #[.agg #[x.v, y.v], .int .i64 k] w (Post u w fun v _ => v = .bool true) := by
 refine zzl (args := [.agg #[.slice x.a x.n x.c, .slice y.a y.n y.c], .int .i64 k]) Tryz.func5 rfl Tryz.ntmps5 (rs := [.tmp 4]) Tryz.results5 (le_b rfl) (le_b rfl) d ?_
 refine sq9 ?_
 refine zzj 2 ⟨49, [x.v, y.v]⟩ ?_
 refine zza 4 (.v (.bool false)) ?_
 refine zzb 75 [(1, .v (.int .i64 k)), (2, .adr 2 0)] [(2, ⟨49, [x.v, y.v]⟩)] ?_
 refine sq9 ?_
 refine zza 15 (.v (.int .i64 k)) ?_
 refine zzf 16 23 [.int .i64 k] ?_
 intro w11 u11 e11 d11
 have k16 := k_coef (k := k) d11 (by omega) (by omega)
 with_reducible refine Post.mono k16 ?_
 rintro _ u14 g15 ⟨W12, rfl, hW13⟩
 have hw17 := hW13.ok
 have hw17f : 1 ≤ W12.f := by have h9 := hW13; unfold CoefOK at h9; omega
 have hw17g : W12.f ≤ 24 := by have h9 := hW13; unfold CoefOK at h9; omega
 refine zzj 5 ⟨51, [.int .i64 0, .int .i64 0, .int .i64 0, .int .i64 0]⟩ ?_
 refine zzi ⟨51, [.int .i64 W12.b, .int .i64 W12.f, .int .i64 W12.r, .int .i64 W12.o]⟩ ty51 ?_
 refine zzb 75 [(2, .adr 2 0), (5, .adr 5 0)] [(2, ⟨49, [x.v, y.v]⟩), (5, ⟨51, [.int .i64 W12.b, .int .i64 W12.f, .int .i64 W12.r, .int .i64 W12.o]⟩)] ?_
 refine zzc ?_
 refine zzy [0, 0, 3, 0, 15, 31, 63, 63, 63, 0, 0, 1663, 3839, 8191] [(0, []), (1, []), (3, []), (9, []), (10, []), (2, []), (4, []), (5, []), (6, []), (7, []), (8, []), (11, []), (12, []), (13, [])] (by kernel_rfl) (by kernel_rfl) ?_
 refine zzh 18 (.v (.agg #[x.v, y.v])) ty49 zzd ?_
 refine zzh 19 (.v (.agg #[.int .i64 W12.b, .int .i64 W12.f, .int .i64 W12.r, .int .i64 W12.o])) ty51 zzd ?_
 refine zzh 21 (.v (.agg #[.int .i64 W12.b, .int .i64 W12.f, .int .i64 W12.r, .int .i64 W12.o])) ty51 zzd ?_
 refine zzj 6 ⟨54, [.slice none 0 0, .slice none 0 0]⟩ ?_
 refine zzj 7 ⟨54, [.slice none 0 0, .slice none 0 0]⟩ ?_
 refine zzf 20 25 [.agg #[x.v, y.v], .agg #[.int .i64 W12.b, .int .i64 W12.f, .int .i64 W12.r, .int .i64 W12.o]] ?_
 intro w18 u18 e18 d18
 have k22 := k_filter (W := W12) d18 (hx.ext (e11.trans (g15.ext.trans e18))) hb (hy.ext (e11.trans (g15.ext.trans e18))) hc hw17
 with_reducible refine Post.mono k22 ?_
 rintro _ u20 g21 ⟨y19, z19, L19, M19, rfl, h119, h219, h319, h419, h519, h619⟩
 have hly19 := h119.len
 have hlz19 := h419.len
 refine zzf 22 24 [.agg #[y19.v, z19.v], .agg #[.int .i64 W12.b, .int .i64 W12.f, .int .i64 W12.r, .int .i64 W12.o]] ?_
 intro w23 u23 e23 d23
 have k35 := k_wIdeal (W := W12) d23 (h119.ext e23) h219 h319 (h419.ext e23) h519 h619 hw17 hw17f
 with_reducible refine Post.mono k35 ?_
 rintro _ u33 g34 ⟨y24, y25, y26, y27, rfl, h28, h29, h30, h31⟩
 have hly24 := h28.len
 have hly25 := h29.len
 have hly26 := h30.len
 have hly27 := h31.len
 have hq32 := Nt.id_len (f := W12.f) h319 h619
 refine zza 17 (.v (.tuple #[.agg #[y24.v, y25.v], .agg #[y26.v, y27.v], .int .i64 0])) ?_
 refine zza 23 (.v (.agg #[y24.v, y25.v])) ?_
 refine zza 24 (.v (.agg #[y26.v, y27.v])) ?_
 refine zza 25 (.v (.int .i64 0)) ?_
 refine zzi ⟨54, [y24.v, y25.v]⟩ ty54 ?_
 refine zzi ⟨54, [y26.v, y27.v]⟩ ty54 ?_
 refine zza 8 (.v (.int .i64 0)) ?_
 refine zzb 75 [(6, .adr 6 0), (7, .adr 7 0), (8, .v (.int .i64 0))] [(6, ⟨54, [y24.v, y25.v]⟩), (7, ⟨54, [y26.v, y27.v]⟩)] ?_
 refine sq9 ?_
 refine zza 27 (.adr 6 0) ?_
 refine zzh 28 (.v y24.v) ty32 zzk ?_
 refine zzf 29 26 [y24.v] ?_
 intro w36 u36 e36 d36
 have k41 := k_magnitude d36 (h28.ext e36).raw (by omega) (by have h9 := hq32.1; omega)
 with_reducible refine Post.mono k41 ?_
 rintro _ u39 g40 ⟨y37, rfl, h38⟩
 have hly37 := h38.len
 have hmy37 : (Nt.magL (Nt.trimQ ((Nt.trimQ (Nt.addQ (Nt.trimQ (Nt.mulQ (Nt.prodB W12.f L19 L19.length) (Nt.prodA W12.f M19 M19.length))) (Nt.trimQ (Nt.mulQ (Nt.prodB W12.f M19 M19.length) (Nt.prodA W12.f L19 L19.length))))).map (· * (((1 : Int) : Rat) / ((2 : Int) : Rat)))))).length ≤ 20 := Nat.le_trans (Nt.sumL_len _ _) (Nat.le_trans (Nt.zzg _) (by have h9 := hq32.1; omega))
 refine zza 26 (.v (.tuple #[y37.v, .int .i64 0])) ?_
 refine zza 30 (.v y37.v) ?_
 refine zza 31 (.v (.int .i64 0)) ?_
 refine zza 9 (.v y37.v) ?_
 refine zza 10 (.v (.int .i64 0)) ?_
 refine zzb 75 [(6, .adr 6 0), (7, .adr 7 0), (8, .v (.int .i64 0)), (9, .v y37.v), (10, .v (.int .i64 0))] [(6, ⟨54, [y24.v, y25.v]⟩), (7, ⟨54, [y26.v, y27.v]⟩)] ?_
 refine sq9 ?_
 refine zza 33 (.adr 7 0) ?_
 refine zzh 34 (.v y26.v) ty32 zzk ?_
 refine zzf 35 26 [y26.v] ?_
 intro w42 u42 e42 d42
 have k47 := k_magnitude d42 (h30.ext (e36.trans (g40.ext.trans e42))).raw (by omega) (by have h9 := hq32.2.1; omega)
 with_reducible refine Post.mono k47 ?_
 rintro _ u45 g46 ⟨y43, rfl, h44⟩
 have hly43 := h44.len
 have hmy43 : (Nt.magL (Nt.trimQ ((Nt.trimQ (Nt.addQ (Nt.trimQ (Nt.mulQ (Nt.prodB W12.f L19 L19.length) (Nt.prodA W12.f M19 M19.length))) ((Nt.trimQ (Nt.mulQ (Nt.prodB W12.f M19 M19.length) (Nt.prodA W12.f L19 L19.length))).map (fun z => -z)))).map (· * (((1 : Int) : Rat) / ((2 : Int) : Rat)))))).length ≤ 20 := Nat.le_trans (Nt.sumL_len _ _) (Nat.le_trans (Nt.zzg _) (by have h9 := hq32.2.1; omega))
 refine zza 32 (.v (.tuple #[y43.v, .int .i64 0])) ?_
 refine zza 36 (.v y43.v) ?_
 refine zza 37 (.v (.int .i64 0)) ?_
 refine zza 11 (.v y43.v) ?_
 refine zza 12 (.v (.int .i64 0)) ?_
 refine zzb 75 [(6, .adr 6 0), (7, .adr 7 0), (8, .v (.int .i64 0)), (9, .v y37.v), (10, .v (.int .i64 0)), (11, .v y43.v), (12, .v (.int .i64 0))] [(6, ⟨54, [y24.v, y25.v]⟩), (7, ⟨54, [y26.v, y27.v]⟩)] ?_
 refine sq9 ?_
 refine zza 39 (.adr 6 1) ?_
 refine zzh 40 (.v y25.v) ty32 zzk ?_
 refine zzf 41 26 [y25.v] ?_
 intro w48 u48 e48 d48
 have k53 := k_magnitude d48 (h29.ext (e36.trans (g40.ext.trans (e42.trans (g46.ext.trans e48))))).raw (by omega) (by have h9 := hq32.2.2; omega)
 with_reducible refine Post.mono k53 ?_
 rintro _ u51 g52 ⟨y49, rfl, h50⟩
 have hly49 := h50.len
 have hmy49 : (Nt.magL (Nt.trimQ (Nt.mulQ (Nt.prodA W12.f L19 L19.length) (Nt.prodA W12.f M19 M19.length)))).length ≤ 20 := Nat.le_trans (Nt.sumL_len _ _) (Nat.le_trans (Nt.zzg _) (by have h9 := hq32.2.2; omega))
 refine zza 38 (.v (.tuple #[y49.v, .int .i64 0])) ?_
 refine zza 42 (.v y49.v) ?_
 refine zza 43 (.v (.int .i64 0)) ?_
 refine zza 13 (.v y49.v) ?_
 refine zza 14 (.v (.int .i64 0)) ?_
 refine zzb 75 [(6, .adr 6 0), (7, .adr 7 0), (8, .v (.int .i64 0)), (9, .v y37.v), (10, .v (.int .i64 0)), (11, .v y43.v), (12, .v (.int .i64 0)), (13, .v y49.v), (14, .v (.int .i64 0))] [(6, ⟨54, [y24.v, y25.v]⟩), (7, ⟨54, [y26.v, y27.v]⟩)] ?_
 refine sq9 ?_
 refine zzf 44 27 [] ?_
 intro w54 u54 e54 d54
 have k57 := k_known26 d54
 with_reducible refine Post.mono k57 ?_
 rintro _ u55 g56 rfl
 refine zza 45 (.v (.bool true)) ?_
 refine zza 46 (.v (.int .i64 0)) ?_ (hw := w1 1 true 45)
 refine zza 47 (.v (.bool true)) ?_ (hw := w1 1 true 45)
 refine zza 48 (.v (.bool true)) ?_
 refine zza 49 (.v (.bool true)) ?_
 refine zza 50 (.v (.int .i64 0)) ?_ (hw := w1 5 true 49)
 refine zza 51 (.v (.bool true)) ?_ (hw := w1 5 true 49)
 refine zza 52 (.v (.bool true)) ?_
 refine zza 53 (.v (.bool true)) ?_
 refine zza 54 (.v (.int .i64 0)) ?_ (hw := w1 9 true 53)
 refine zza 55 (.v (.bool true)) ?_ (hw := w1 9 true 53)
 refine zza 56 (.v (.bool true)) ?_
 refine zza 57 (.v (.bool true)) ?_
 refine zza 58 (.v (.int .i64 0)) ?_ (hw := w1 13 true 57)
 refine zza 59 (.v (.bool true)) ?_ (hw := w1 13 true 57)
 refine zza 60 (.v (.bool true)) ?_
 refine zza 61 (.v (.bool true)) ?_
 refine zza 62 (.v y37.v) ?_ (hw := w1 17 true 61)
 refine zza 63 (.v y43.v) ?_ (hw := w1 17 true 61)
 refine zzf 64 20 [y37.v, y43.v] ?_ (hw := w1 17 true 61)
 intro w58 u58 e58 d58
 have k63 := k_r5Add d58 (h38.ext (e42.trans (g46.ext.trans (e48.trans (g52.ext.trans (e54.trans (g56.ext.trans e58))))))).raw (h44.ext (e48.trans (g52.ext.trans (e54.trans (g56.ext.trans e58))))).raw (by omega) (by omega) (by first|omega|(simp;omega) | (refine Nat.le_trans (Nt.zzg _) ?_; first|omega|(simp;omega)) | (refine Nat.le_trans (Nt.zzg _) ?_; simp only [List.length_map]; refine Nat.le_trans (Nt.zzg _) ?_; first|omega|(simp;omega))) (by first|omega|(simp;omega) | (refine Nat.le_trans (Nt.zzg _) ?_; first|omega|(simp;omega)) | (refine Nat.le_trans (Nt.zzg _) ?_; simp only [List.length_map]; refine Nat.le_trans (Nt.zzg _) ?_; first|omega|(simp;omega)))
 with_reducible refine Post.mono k63 ?_
 rintro _ u61 g62 ⟨y59, rfl, h60⟩
 have hly59 := h60.len
 refine zza 65 (.v y49.v) ?_ (hw := w1 17 true 61)
 refine zzf 66 22 [y59.v, y49.v] ?_ (hw := w1 17 true 61)
 intro w64 u64 e64 d64
 have k67 := k_r5Same d64 (h60.ext e64).raw (h50.ext (e54.trans (g56.ext.trans (e58.trans (g62.ext.trans e64))))).raw (by omega) (by omega) (by first | omega | (simp; done) | (simp; omega) | (refine Nat.le_trans (Nt.zzg _) ?_; rw [Nt.addQ_len]; omega) | (refine Nat.le_trans (Nt.zzg _) ?_; have h9 := Nt.sec_len; exact Nat.le_trans (h9 _ _).1 (by decide)) | (refine Nat.le_trans (Nt.zzg _) ?_; have h9 := Nt.sec_len; exact Nat.le_trans (h9 _ _).2 (by decide))) (by first | omega | (simp; done) | (simp; omega) | (refine Nat.le_trans (Nt.zzg _) ?_; rw [Nt.addQ_len]; omega) | (refine Nat.le_trans (Nt.zzg _) ?_; have h9 := Nt.sec_len; exact Nat.le_trans (h9 _ _).1 (by decide)) | (refine Nat.le_trans (Nt.zzg _) ?_; have h9 := Nt.sec_len; exact Nat.le_trans (h9 _ _).2 (by decide)))
 with_reducible refine Post.mono k67 ?_
 rintro _ u65 g66 rfl
 refine zza 67 (.v (.bool (decide (Nt.trimQ (Nt.trimQ (Nt.addQ (Nt.magL (Nt.trimQ ((Nt.trimQ (Nt.addQ (Nt.trimQ (Nt.mulQ (Nt.prodB W12.f L19 L19.length) (Nt.prodA W12.f M19 M19.length))) (Nt.trimQ (Nt.mulQ (Nt.prodB W12.f M19 M19.length) (Nt.prodA W12.f L19 L19.length))))).map (· * (((1 : Int) : Rat) / ((2 : Int) : Rat)))))) (Nt.magL (Nt.trimQ ((Nt.trimQ (Nt.addQ (Nt.trimQ (Nt.mulQ (Nt.prodB W12.f L19 L19.length) (Nt.prodA W12.f M19 M19.length))) ((Nt.trimQ (Nt.mulQ (Nt.prodB W12.f M19 M19.length) (Nt.prodA W12.f L19 L19.length))).map (fun z => -z)))).map (· * (((1 : Int) : Rat) / ((2 : Int) : Rat)))))))) = Nt.trimQ (Nt.magL (Nt.trimQ (Nt.mulQ (Nt.prodA W12.f L19 L19.length) (Nt.prodA W12.f M19 M19.length)))))))) ?_
 refine zyp 68 (x := .v (.bool (decide (Nt.trimQ (Nt.trimQ (Nt.addQ (Nt.magL (Nt.trimQ ((Nt.trimQ (Nt.addQ (Nt.trimQ (Nt.mulQ (Nt.prodB W12.f L19 L19.length) (Nt.prodA W12.f M19 M19.length))) (Nt.trimQ (Nt.mulQ (Nt.prodB W12.f M19 M19.length) (Nt.prodA W12.f L19 L19.length))))).map (· * (((1 : Int) : Rat) / ((2 : Int) : Rat)))))) (Nt.magL (Nt.trimQ ((Nt.trimQ (Nt.addQ (Nt.trimQ (Nt.mulQ (Nt.prodB W12.f L19 L19.length) (Nt.prodA W12.f M19 M19.length))) ((Nt.trimQ (Nt.mulQ (Nt.prodB W12.f M19 M19.length) (Nt.prodA W12.f L19 L19.length))).map (fun z => -z)))).map (· * (((1 : Int) : Rat) / ((2 : Int) : Rat)))))))) = Nt.trimQ (Nt.magL (Nt.trimQ (Nt.mulQ (Nt.prodA W12.f L19 L19.length) (Nt.prodA W12.f M19 M19.length)))))))) (.v (.bool true)) (by rw [show (decide (Nt.trimQ (Nt.trimQ (Nt.addQ (Nt.magL (Nt.trimQ ((Nt.trimQ (Nt.addQ (Nt.trimQ (Nt.mulQ (Nt.prodB W12.f L19 L19.length) (Nt.prodA W12.f M19 M19.length))) (Nt.trimQ (Nt.mulQ (Nt.prodB W12.f M19 M19.length) (Nt.prodA W12.f L19 L19.length))))).map (· * (((1 : Int) : Rat) / ((2 : Int) : Rat)))))) (Nt.magL (Nt.trimQ ((Nt.trimQ (Nt.addQ (Nt.trimQ (Nt.mulQ (Nt.prodB W12.f L19 L19.length) (Nt.prodA W12.f M19 M19.length))) ((Nt.trimQ (Nt.mulQ (Nt.prodB W12.f M19 M19.length) (Nt.prodA W12.f L19 L19.length))).map (fun z => -z)))).map (· * (((1 : Int) : Rat) / ((2 : Int) : Rat)))))))) = Nt.trimQ (Nt.magL (Nt.trimQ (Nt.mulQ (Nt.prodA W12.f L19 L19.length) (Nt.prodA W12.f M19 M19.length)))))) = true from decide_eq_true (by rw [Nt.trim_trim]; exact Nt.wave_law (Nt.prod_ap W12.f L19 L19.length) (Nt.prod_ap W12.f M19 M19.length) _ (by decide +kernel))]) ?_
 refine zza 69 (.adr 6 1) ?_ (hw := w1 24 true 68)
 refine zzh 70 (.v y25.v) ty32 zzk ?_ (hw := w1 24 true 68)
 refine zza 71 (.adr 7 1) ?_ (hw := w1 24 true 68)
 refine zzh 72 (.v y27.v) ty32 zzk ?_ (hw := w1 24 true 68)
 refine zzf 73 22 [y25.v, y27.v] ?_ (hw := w1 24 true 68)
 intro w69 u69 e69 d69
 have k72 := k_r5Same d69 (h29.ext (e36.trans (g40.ext.trans (e42.trans (g46.ext.trans (e48.trans (g52.ext.trans (e54.trans (g56.ext.trans (e58.trans (g62.ext.trans (e64.trans (g66.ext.trans e69))))))))))))).raw (h31.ext (e36.trans (g40.ext.trans (e42.trans (g46.ext.trans (e48.trans (g52.ext.trans (e54.trans (g56.ext.trans (e58.trans (g62.ext.trans (e64.trans (g66.ext.trans e69))))))))))))).raw (by omega) (by omega) (by have h9 := hq32.2.2; omega) (by have h9 := hq32.2.2; omega)
 with_reducible refine Post.mono k72 ?_
 rintro _ u70 g71 rfl
 refine zza 74 (.v (.bool (decide (Nt.trimQ (Nt.trimQ (Nt.mulQ (Nt.prodA W12.f L19 L19.length) (Nt.prodA W12.f M19 M19.length))) = Nt.trimQ (Nt.trimQ (Nt.mulQ (Nt.prodA W12.f L19 L19.length) (Nt.prodA W12.f M19 M19.length))))))) ?_
 refine zza 4 (.v (.bool (decide (Nt.trimQ (Nt.trimQ (Nt.mulQ (Nt.prodA W12.f L19 L19.length) (Nt.prodA W12.f M19 M19.length))) = Nt.trimQ (Nt.trimQ (Nt.mulQ (Nt.prodA W12.f L19 L19.length) (Nt.prodA W12.f M19 M19.length))))))) ?_
 refine zzb 75 [(4, .v (.bool (decide (Nt.trimQ (Nt.trimQ (Nt.mulQ (Nt.prodA W12.f L19 L19.length) (Nt.prodA W12.f M19 M19.length))) = Nt.trimQ (Nt.trimQ (Nt.mulQ (Nt.prodA W12.f L19 L19.length) (Nt.prodA W12.f M19 M19.length)))))))] [] ?_
 refine zzn (ret0 [.bool (decide (Nt.trimQ (Nt.trimQ (Nt.mulQ (Nt.prodA W12.f L19 L19.length) (Nt.prodA W12.f M19 M19.length))) = Nt.trimQ (Nt.trimQ (Nt.mulQ (Nt.prodA W12.f L19 L19.length) (Nt.prodA W12.f M19 M19.length)))))] ⟨zzp, trivial⟩ fun u73 e74 => ?_)
 show Value.bool _ = Value.bool _
 rw [show (decide (Nt.trimQ (Nt.trimQ (Nt.mulQ (Nt.prodA W12.f L19 L19.length) (Nt.prodA W12.f M19 M19.length))) = Nt.trimQ (Nt.trimQ (Nt.mulQ (Nt.prodA W12.f L19 L19.length) (Nt.prodA W12.f M19 M19.length))))) = true from decide_eq_true rfl]
end Go.Proofs.YtmonfdlnihaabaaGreat
