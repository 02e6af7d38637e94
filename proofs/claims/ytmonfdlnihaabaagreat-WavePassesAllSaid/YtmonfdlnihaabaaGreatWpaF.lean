/- Parts of the proof: contracts of functions, each walked once, and plain laws. -/
import Derived.Test.YtmonfdlnihaabaaGreatWpaE
import Derived.ArgAppend
namespace Go.Proofs.YtmonfdlnihaabaaGreat
open Go.RowKit
set_option linter.unusedVariables false
theorem k_withinB {u w : World} {n m : Int} (d : Dat u w) (hm : 1 ≤ m) (hm2 : m ≤ 4611686018427387904) (hn0 : -9223372036854775808 ≤ n) (hn1 : n ≤ 9223372036854775807) : Calls Tryz.prog 9 #[.int .i64 n, .int .i64 m] w (Post u w fun v _ => ∃ z : Int, v = .int .i64 z ∧ 0 ≤ z ∧ z < m) :=
 Post.mono (k_within d hm hm2 hn0 hn1) fun v u' _ h => ⟨n % m, h, Int.emod_nonneg _ (by omega), Int.emod_lt_of_pos _ (by omega)⟩
set_option maxHeartbeats 1000000 in
theorem k_word {u w : World} {k : Int} (d : Dat u w) (hk0 : -9223372036854775808 ≤ k) (hk1 : k ≤ 9223372036854775807) : Calls Tryz.prog 63 #[.int .i64 k, .int .i64 6, .int .i64 9, .int .i64 1] w (Post u w fun v _ => ∃ W : WL, v = W.v ∧ CoefOK W) := by
 refine zzl (args := [.int .i64 k, .int .i64 6, .int .i64 9, .int .i64 1]) Tryz.func63 rfl Tryz.ntmps63 (rs := [.cell 8 51]) Tryz.results63 (le_b rfl) (le_b rfl) d ?_
 refine sq9 ?_
 refine zzj 8 ⟨51, [.int .i64 0, .int .i64 0, .int .i64 0, .int .i64 0]⟩ ?_
 refine zzb 52 [(0, .v (.int .i64 k)), (1, .v (.int .i64 6)), (2, .v (.int .i64 9)), (3, .v (.int .i64 1)), (8, .adr 8 0)] [(8, ⟨51, [.int .i64 0, .int .i64 0, .int .i64 0, .int .i64 0]⟩)] ?_
 refine sq9 ?_
 refine zza 10 (.v (.int .i64 k)) ?_
 refine zzf 11 9 [.int .i64 k, .int .i64 1099511627776] ?_
 intro w11 u11 e11 d11
 have k17 := (show Calls _ _ #[.int .i64 k, .int .i64 1099511627776] _ _ from k_withinB (n := k) (m := 1099511627776) d11 (by omega) (by omega) (by omega) (by omega))
 with_reducible refine Post.mono k17 ?_
 rintro _ u15 g16 ⟨z12, rfl, h13, h14⟩
 refine zza 0 (.v (.int .i64 z12)) ?_
 refine zzb 52 [(0, .v (.int .i64 z12)), (1, .v (.int .i64 6)), (2, .v (.int .i64 9)), (3, .v (.int .i64 1)), (8, .adr 8 0)] [(8, ⟨51, [.int .i64 0, .int .i64 0, .int .i64 0, .int .i64 0]⟩)] ?_
 refine sq9 ?_
 refine zza 12 (.v (.int .i64 6)) ?_
 refine zza 13 (.v (.int .i64 z12)) ?_
 refine zza 14 (.v (.int .i64 9)) ?_
 refine zza 15 (.v (.int .i64 6)) ?_
 refine zza 16 (.v (.int .i64 3)) ?_
 refine zza 17 (.v (.int .i64 4)) ?_
 refine sy_rem 18 (n := z12) (m := 4) (z12 % 4) (by decide) (Int.tmod_eq_emod_of_nonneg (by omega)) ?_
 refine zyp 19 (x := .v (.int .i64 (IntKind.i64.wrap ((6 : Int) + (z12 % 4))))) (.v (.int .i64 ((6 : Int) + (z12 % 4)))) (by rw [IntWalk.i64_in _ (by omega)]) ?_
 refine zza 20 (.v (.agg #[.int .i64 ((6 : Int) + (z12 % 4)), .int .i64 0, .int .i64 0, .int .i64 0])) ?_
 refine zzj 9 ⟨51, [.int .i64 0, .int .i64 0, .int .i64 0, .int .i64 0]⟩ ?_
 refine zzi ⟨51, [.int .i64 ((6 : Int) + (z12 % 4)), .int .i64 0, .int .i64 0, .int .i64 0]⟩ ty51 ?_
 refine zzb 52 [(0, .v (.int .i64 z12)), (1, .v (.int .i64 6)), (2, .v (.int .i64 9)), (3, .v (.int .i64 1)), (8, .adr 8 0), (9, .adr 9 0)] [(8, ⟨51, [.int .i64 0, .int .i64 0, .int .i64 0, .int .i64 0]⟩), (9, ⟨51, [.int .i64 ((6 : Int) + (z12 % 4)), .int .i64 0, .int .i64 0, .int .i64 0]⟩)] ?_
 refine sq9 ?_
 refine zza 21 (.v (.int .i64 z12)) ?_
 refine zza 22 (.v (.int .i64 9)) ?_
 refine zza 23 (.v (.int .i64 6)) ?_
 refine zza 24 (.v (.int .i64 3)) ?_
 refine zza 25 (.v (.int .i64 4)) ?_
 refine sy_quo 26 (n := z12) (m := 4) (z12 / 4) (by decide) (by rw [Int.tdiv_eq_ediv_of_nonneg (by omega)]; exact IntWalk.i64_in _ (by omega)) ?_
 refine zza 0 (.v (.int .i64 (z12 / 4))) ?_
 refine zzb 52 [(0, .v (.int .i64 (z12 / 4))), (3, .v (.int .i64 1)), (8, .adr 8 0), (9, .adr 9 0)] [(8, ⟨51, [.int .i64 0, .int .i64 0, .int .i64 0, .int .i64 0]⟩), (9, ⟨51, [.int .i64 ((6 : Int) + (z12 % 4)), .int .i64 0, .int .i64 0, .int .i64 0]⟩)] ?_
 refine sq9 ?_
 refine zza 27 (.adr 9 0) ?_
 refine zzh 28 (.v (.int .i64 ((6 : Int) + (z12 % 4)))) ty3 zzk ?_
 refine zyp 29 (x := .v (.int .i64 (IntKind.i64.wrap (((6 : Int) + (z12 % 4)) - 1)))) (.v (.int .i64 (((6 : Int) + (z12 % 4)) - 1))) (by rw [IntWalk.i64_in _ (by omega)]) ?_
 refine zza 30 (.v (.int .i64 1)) ?_
 refine zyp 31 (x := .v (.int .i64 (IntKind.i64.wrap ((((6 : Int) + (z12 % 4)) - 1) - 1)))) (.v (.int .i64 ((((6 : Int) + (z12 % 4)) - 1) - 1))) (by rw [IntWalk.i64_in _ (by omega)]) ?_
 refine zza 32 (.v (.int .i64 (z12 / 4))) ?_
 refine sy_rem 33 (n := z12 / 4) (m := 2) ((z12 / 4) % 2) (by decide) (Int.tmod_eq_emod_of_nonneg (by omega)) ?_
 refine zyp 34 (x := .v (.int .i64 (IntKind.i64.wrap (((((6 : Int) + (z12 % 4)) - 1) - 1) - ((z12 / 4) % 2))))) (.v (.int .i64 (((((6 : Int) + (z12 % 4)) - 1) - 1) - ((z12 / 4) % 2)))) (by rw [IntWalk.i64_in _ (by omega)]) ?_
 refine zza 35 (.adr 9 1) ?_
 refine zzi ⟨51, [.int .i64 ((6 : Int) + (z12 % 4)), .int .i64 (((((6 : Int) + (z12 % 4)) - 1) - 1) - ((z12 / 4) % 2)), .int .i64 0, .int .i64 0]⟩ ty3 ?_
 refine zzb 52 [(0, .v (.int .i64 (z12 / 4))), (8, .adr 8 0), (9, .adr 9 0)] [(8, ⟨51, [.int .i64 0, .int .i64 0, .int .i64 0, .int .i64 0]⟩), (9, ⟨51, [.int .i64 ((6 : Int) + (z12 % 4)), .int .i64 (((((6 : Int) + (z12 % 4)) - 1) - 1) - ((z12 / 4) % 2)), .int .i64 0, .int .i64 0]⟩)] ?_
 refine sq9 ?_
 refine zza 36 (.v (.int .i64 (z12 / 4))) ?_
 refine sy_quo 37 (n := z12 / 4) (m := 2) ((z12 / 4) / 2) (by decide) (by rw [Int.tdiv_eq_ediv_of_nonneg (by omega)]; exact IntWalk.i64_in _ (by omega)) ?_
 refine zza 0 (.v (.int .i64 ((z12 / 4) / 2))) ?_
 refine zzb 52 [(0, .v (.int .i64 ((z12 / 4) / 2))), (8, .adr 8 0), (9, .adr 9 0)] [(8, ⟨51, [.int .i64 0, .int .i64 0, .int .i64 0, .int .i64 0]⟩), (9, ⟨51, [.int .i64 ((6 : Int) + (z12 % 4)), .int .i64 (((((6 : Int) + (z12 % 4)) - 1) - 1) - ((z12 / 4) % 2)), .int .i64 0, .int .i64 0]⟩)] ?_
 refine sq9 ?_
 refine zza 38 (.adr 9 1) ?_
 refine zzh 39 (.v (.int .i64 (((((6 : Int) + (z12 % 4)) - 1) - 1) - ((z12 / 4) % 2)))) ty3 zzk ?_
 refine sy_max0 40 (n := ((((6 : Int) + (z12 % 4)) - 1) - 1) - ((z12 / 4) % 2)) (v := ((((6 : Int) + (z12 % 4)) - 1) - 1) - ((z12 / 4) % 2)) (by split <;> omega) ?_
 refine zza 41 (.adr 9 1) ?_
 refine zzi ⟨51, [.int .i64 ((6 : Int) + (z12 % 4)), .int .i64 (((((6 : Int) + (z12 % 4)) - 1) - 1) - ((z12 / 4) % 2)), .int .i64 0, .int .i64 0]⟩ ty3 ?_
 refine zzb 52 [(0, .v (.int .i64 ((z12 / 4) / 2))), (8, .adr 8 0), (9, .adr 9 0)] [(8, ⟨51, [.int .i64 0, .int .i64 0, .int .i64 0, .int .i64 0]⟩), (9, ⟨51, [.int .i64 ((6 : Int) + (z12 % 4)), .int .i64 (((((6 : Int) + (z12 % 4)) - 1) - 1) - ((z12 / 4) % 2)), .int .i64 0, .int .i64 0]⟩)] ?_
 refine sq9 ?_
 refine zza 42 (.v (.int .i64 ((z12 / 4) / 2))) ?_
 refine sy_rem 43 (n := (z12 / 4) / 2) (m := 3) (((z12 / 4) / 2) % 3) (by decide) (Int.tmod_eq_emod_of_nonneg (by omega)) ?_
 refine zyp 44 (x := .v (.int .i64 (IntKind.i64.wrap ((1 : Int) + (((z12 / 4) / 2) % 3))))) (.v (.int .i64 ((1 : Int) + (((z12 / 4) / 2) % 3)))) (by rw [IntWalk.i64_in _ (by omega)]) ?_
 refine zza 45 (.v (.int .i64 ((z12 / 4) / 2))) ?_
 refine sy_quo 46 (n := (z12 / 4) / 2) (m := 3) (((z12 / 4) / 2) / 3) (by decide) (by rw [Int.tdiv_eq_ediv_of_nonneg (by omega)]; exact IntWalk.i64_in _ (by omega)) ?_
 refine sy_rem 47 (n := ((z12 / 4) / 2) / 3) (m := 2) ((((z12 / 4) / 2) / 3) % 2) (by decide) (Int.tmod_eq_emod_of_nonneg (by omega)) ?_
 refine zyp 48 (x := .v (.int .i64 (IntKind.i64.wrap ((1 : Int) + ((((z12 / 4) / 2) / 3) % 2))))) (.v (.int .i64 ((1 : Int) + ((((z12 / 4) / 2) / 3) % 2)))) (by rw [IntWalk.i64_in _ (by omega)]) ?_
 refine zza 49 (.adr 9 2) ?_
 refine zzi ⟨51, [.int .i64 ((6 : Int) + (z12 % 4)), .int .i64 (((((6 : Int) + (z12 % 4)) - 1) - 1) - ((z12 / 4) % 2)), .int .i64 ((1 : Int) + (((z12 / 4) / 2) % 3)), .int .i64 0]⟩ ty3 ?_
 refine zza 50 (.adr 9 3) ?_
 refine zzi ⟨51, [.int .i64 ((6 : Int) + (z12 % 4)), .int .i64 (((((6 : Int) + (z12 % 4)) - 1) - 1) - ((z12 / 4) % 2)), .int .i64 ((1 : Int) + (((z12 / 4) / 2) % 3)), .int .i64 ((1 : Int) + ((((z12 / 4) / 2) / 3) % 2))]⟩ ty3 ?_
 refine zzb 52 [(8, .adr 8 0), (9, .adr 9 0)] [(8, ⟨51, [.int .i64 0, .int .i64 0, .int .i64 0, .int .i64 0]⟩), (9, ⟨51, [.int .i64 ((6 : Int) + (z12 % 4)), .int .i64 (((((6 : Int) + (z12 % 4)) - 1) - 1) - ((z12 / 4) % 2)), .int .i64 ((1 : Int) + (((z12 / 4) / 2) % 3)), .int .i64 ((1 : Int) + ((((z12 / 4) / 2) / 3) % 2))]⟩)] ?_
 refine sq9 ?_
 refine zzh 51 (.v (.agg #[.int .i64 ((6 : Int) + (z12 % 4)), .int .i64 (((((6 : Int) + (z12 % 4)) - 1) - 1) - ((z12 / 4) % 2)), .int .i64 ((1 : Int) + (((z12 / 4) / 2) % 3)), .int .i64 ((1 : Int) + ((((z12 / 4) / 2) / 3) % 2))])) ty51 zzd ?_
 refine zzi ⟨51, [.int .i64 ((6 : Int) + (z12 % 4)), .int .i64 (((((6 : Int) + (z12 % 4)) - 1) - 1) - ((z12 / 4) % 2)), .int .i64 ((1 : Int) + (((z12 / 4) / 2) % 3)), .int .i64 ((1 : Int) + ((((z12 / 4) / 2) / 3) % 2))]⟩ ty51 ?_
 refine zzb 52 [(8, .adr 8 0)] [(8, ⟨51, [.int .i64 ((6 : Int) + (z12 % 4)), .int .i64 (((((6 : Int) + (z12 % 4)) - 1) - 1) - ((z12 / 4) % 2)), .int .i64 ((1 : Int) + (((z12 / 4) / 2) % 3)), .int .i64 ((1 : Int) + ((((z12 / 4) / 2) / 3) % 2))]⟩)] ?_
 refine zzn (ret0 [.agg #[.int .i64 ((6 : Int) + (z12 % 4)), .int .i64 (((((6 : Int) + (z12 % 4)) - 1) - 1) - ((z12 / 4) % 2)), .int .i64 ((1 : Int) + (((z12 / 4) / 2) % 3)), .int .i64 ((1 : Int) + ((((z12 / 4) / 2) / 3) % 2))]] ⟨zzq ty51 zzd, trivial⟩ fun u18 e19 => ?_)
 exact ⟨⟨(6 : Int) + (z12 % 4), ((((6 : Int) + (z12 % 4)) - 1) - 1) - ((z12 / 4) % 2), (1 : Int) + (((z12 / 4) / 2) % 3), (1 : Int) + ((((z12 / 4) / 2) / 3) % 2)⟩, rfl, by unfold CoefOK; dsimp only; omega⟩
theorem k_coef {u w : World} {k : Int} (d : Dat u w) (hk0 : -9223372036854775808 ≤ k) (hk1 : k ≤ 9223372036854775807) : Calls Tryz.prog 23 #[.int .i64 k] w (Post u w fun v _ => ∃ W : WL, v = W.v ∧ CoefOK W) := by
 refine zzl (args := [.int .i64 k]) Tryz.func23 rfl Tryz.ntmps23 (rs := [.cell 2 51]) Tryz.results23 (le_b rfl) (le_b rfl) d ?_
 refine sq9 ?_
 refine zzj 2 ⟨51, [.int .i64 0, .int .i64 0, .int .i64 0, .int .i64 0]⟩ ?_
 refine zzb 5 [(0, .v (.int .i64 k)), (2, .adr 2 0)] [(2, ⟨51, [.int .i64 0, .int .i64 0, .int .i64 0, .int .i64 0]⟩)] ?_
 refine sq9 ?_
 refine zza 3 (.v (.int .i64 k)) ?_
 refine zzf 4 63 [.int .i64 k, .int .i64 6, .int .i64 9, .int .i64 1] ?_
 intro w11 u11 e11 d11
 have k16 := k_word (k := k) d11 (by omega) (by omega)
 with_reducible refine Post.mono k16 ?_
 rintro _ u14 g15 ⟨W12, rfl, hW13⟩
 have hw17 := hW13.ok
 have hw17f : 1 ≤ W12.f := by have h9 := hW13; unfold CoefOK at h9; omega
 have hw17g : W12.f ≤ 24 := by have h9 := hW13; unfold CoefOK at h9; omega
 refine zzi ⟨51, [.int .i64 W12.b, .int .i64 W12.f, .int .i64 W12.r, .int .i64 W12.o]⟩ ty51 ?_
 refine zzb 5 [(2, .adr 2 0)] [(2, ⟨51, [.int .i64 W12.b, .int .i64 W12.f, .int .i64 W12.r, .int .i64 W12.o]⟩)] ?_
 refine zzn (ret0 [.agg #[.int .i64 W12.b, .int .i64 W12.f, .int .i64 W12.r, .int .i64 W12.o]] ⟨zzq ty51 zzd, trivial⟩ fun u18 e19 => ?_)
 exact ⟨W12, rfl, by assumption⟩
theorem k_wat {u w : World} {x : Sl} {l : List Int} {i : Nat} (d : Dat u w) (hx : SlR .i64 u x.a x.n x.c l) (hb : ∀ z ∈ l, -9223372036854775808 ≤ z ∧ z ≤ 9223372036854775807) (hi9 : i ≤ 1000000000) : Calls Tryz.prog 11 #[x.v, .int .i64 (i : Int)] w (Post u w fun v _ => v = .int .i64 (l.getD i 0)) := by
 have hlen : l.length = x.n := hx.1
 refine zzl (args := [.slice x.a x.n x.c, .int .i64 (i : Int)]) Tryz.func11 rfl Tryz.ntmps11 (rs := [.tmp 4]) Tryz.results11 (le_b rfl) (le_b rfl) d ?_
 refine sq9 ?_
 refine zza 4 (.v (.int .i64 0)) ?_
 refine zzb 17 [(0, .v x.v), (1, .v (.int .i64 (i : Int)))] [] ?_
 refine zzc ?_
 refine sq9 ?_
 refine zza 5 (.v (.int .i64 (i : Int))) ?_
 refine zza 6 (.v (.bool (decide ((0 : Int) ≤ (i : Int))))) ?_
 refine zyp 7 (x := .v (.bool (decide ((0 : Int) ≤ (i : Int))))) (.v (.bool true)) (by rw [show (decide ((0 : Int) ≤ (i : Int))) = true from decide_eq_true (by omega)]) ?_
 refine zza 8 (.v (.int .i64 (i : Int))) ?_ (hw := w1 2 true 7)
 refine zza 9 (.v x.v) ?_ (hw := w1 2 true 7)
 refine zza 10 (.v (.int .i64 (x.n : Int))) ?_ (hw := w1 2 true 7)
 refine zza 11 (.v (.bool (decide ((i : Int) < (x.n : Int))))) ?_ (hw := w1 2 true 7)
 refine zza 12 (.v (.bool (decide ((i : Int) < (x.n : Int))))) ?_
 refine zzb 17 [(0, .v x.v), (1, .v (.int .i64 (i : Int))), (12, .v (.bool (decide ((i : Int) < (x.n : Int)))))] [] ?_
 refine zzt (b := decide ((i : Int) < (x.n : Int))) (by kernel_rfl) (fun hb12 => ?_) (fun hb12 => ?_)
 ·replace hb12 : (decide ((i : Int) < (x.n : Int))) = true := hb12
  have qhb12 := of_decide_eq_true hb12
  refine sq9 ?_
  refine zza 13 (.v x.v) ?_
  refine zza 14 (.v (.int .i64 (i : Int))) ?_
  have hl13 := (hx).1
  obtain ⟨b13, o13, hA13, hc13⟩ := ints_at hx (i := i) (by omega)
  have hz13 := ints_bd hb (by omega) i
  refine zzz 15 (o13 + i * 1) (n := x.n) (off := o13) (sz := 1) (i := (i : Int)) (by omega) hA13 (by omega) (by omega) sl22 ?_
  refine zyk 16 (.int .i64 (l.getD i 0)) hc13 ty3 ?_
  refine zza 4 (.v (.int .i64 (l.getD i 0))) ?_
  refine zzb 17 [(4, .v (.int .i64 (l.getD i 0)))] [] ?_
  refine zzn (zzv (ret0 [.int .i64 (l.getD i 0)] ⟨zzp, trivial⟩ fun u14 e15 => ?_))
  rfl
 ·replace hb12 : (decide ((i : Int) < (x.n : Int))) = false := hb12
  have qhb12 := of_decide_eq_false hb12
  refine zzr (zzo ?_)
  refine sq9 ?_
  refine zza 4 (.v (.int .i64 0)) ?_
  refine zzb 17 [(4, .v (.int .i64 0))] [] ?_
  refine zzn (ret0 [.int .i64 0] ⟨zzp, trivial⟩ fun u16 e17 => ?_)
  show Value.int _ _ = Value.int _ _
  rw [show l.getD i 0 = 0 by rw [List.getD_eq_getElem?_getD, List.getElem?_eq_none (by omega)]; rfl]
set_option maxHeartbeats 1000000 in
theorem k_below {u w : World} {x : Sl} {l : List Int} {b : Int} (d : Dat u w) (hx : SlR .i64 u x.a x.n x.c l) (hb : ∀ z ∈ l, -9223372036854775808 ≤ z ∧ z ≤ 9223372036854775807) (hb0 : 0 ≤ b) (hb1 : b ≤ 16777216) : Calls Tryz.prog 41 #[.int .i64 b, x.v, .int .i64 2] w (Post u w fun v u' => ∃ (y : Sl) (g h : Int), v = y.v ∧ y.n = 2 ∧ SlR .i64 u' y.a y.n y.c [g, h] ∧ -b ≤ g ∧ g ≤ b ∧ -b ≤ h ∧ h ≤ b) := by
 refine zzl (args := [.int .i64 b, .slice x.a x.n x.c, .int .i64 2]) Tryz.func41 rfl Tryz.ntmps41 (rs := [.tmp 6]) Tryz.results41 (le_b rfl) (le_b rfl) d ?_
 refine sq9 ?_
 refine zza 6 (.v (.slice none 0 0)) ?_
 refine zzb 29 [(0, .v (.int .i64 b)), (1, .v x.v), (2, .v (.int .i64 2))] [] ?_
 refine sq9 ?_
 refine zza 7 (.v (.slice none 0 0)) ?_
 refine zzb 29 [(0, .v (.int .i64 b)), (1, .v x.v), (2, .v (.int .i64 2)), (7, .v (.slice none 0 0))] [] ?_
 refine zzc ?_
 refine sq9 ?_
 refine zza 8 (.v (.int .i64 0)) ?_
 refine zzb 29 [(0, .v (.int .i64 b)), (1, .v x.v), (2, .v (.int .i64 2)), (7, .v (.slice none 0 0)), (8, .v (.int .i64 0))] [] ?_
 refine zzs ?_
 refine sw_rounds 2 ?_
 refine zzc ?_
 refine sq9 ?_
 refine zza 9 (.v (.int .i64 0)) ?_
 refine zza 10 (.v (.int .i64 2)) ?_
 refine zza 11 (.v (.bool true)) ?_
 refine zzb 29 [(0, .v (.int .i64 b)), (1, .v x.v), (2, .v (.int .i64 2)), (7, .v (.slice none 0 0)), (8, .v (.int .i64 0)), (11, .v (.bool true))] [] ?_
 refine zyq (by kernel_rfl) ?_
 refine zzr (zzo ?_)
 refine zzc ?_
 refine zzs ?_
 refine zze ?_
 refine zza 14 (.v (.slice none 0 0)) ?_
 refine zza 15 (.v x.v) ?_
 refine zza 16 (.v (.int .i64 0)) ?_
 refine zzf 17 11 [x.v, .int .i64 0] ?_
 intro w11 u11 e11 d11
 have k14 := (show Calls _ _ #[_, .int .i64 0] _ _ from k_wat (x := x) (i := 0) d11 (hx.ext e11) hb (by omega))
 with_reducible refine Post.mono k14 ?_
 rintro _ u12 g13 rfl
 have hz15 := ints_bd hb (by omega) 0
 refine zza 18 (.v (.int .i64 b)) ?_
 obtain ⟨z16, hz16, ha16, hb16⟩ := wrap64_ex ((l.getD 0 0) + b)
 refine zyp 19 (x := .v (.int .i64 (IntKind.i64.wrap ((l.getD 0 0) + b)))) (.v (.int .i64 z16)) (eqI hz16) ?_
 refine zza 20 (.v (.int .i64 b)) ?_
 refine zyp 21 (x := .v (.int .i64 (IntKind.i64.wrap ((2 : Int) * b)))) (.v (.int .i64 ((2 : Int) * b))) (by rw [IntWalk.i64_in _ (by omega)]) ?_
 refine zyp 22 (x := .v (.int .i64 (IntKind.i64.wrap (((2 : Int) * b) + 1)))) (.v (.int .i64 (((2 : Int) * b) + 1))) (by rw [IntWalk.i64_in _ (by omega)]) ?_
 refine zzf 23 9 [.int .i64 z16, .int .i64 (((2 : Int) * b) + 1)] ?_
 intro w17 u17 e17 d17
 have k23 := (show Calls _ _ #[.int .i64 z16, .int .i64 (((2 : Int) * b) + 1)] _ _ from k_withinB (n := z16) (m := ((2 : Int) * b) + 1) d17 (by omega) (by omega) (by omega) (by omega))
 with_reducible refine Post.mono k23 ?_
 rintro _ u21 g22 ⟨z18, rfl, h19, h20⟩
 refine zza 24 (.v (.int .i64 b)) ?_
 obtain ⟨g24, hg24⟩ : ∃ g, z18 - b = g := ⟨_, rfl⟩
 refine zyp 25 (x := .v (.int .i64 (IntKind.i64.wrap (z18 - b)))) (.v (.int .i64 g24)) (eqI (by rw [IntWalk.i64_in _ (by omega)]; exact hg24)) ?_
 refine sy_data 26 ⟨3, [.int .i64 g24]⟩ 1 (fun b25 u26 e27 h28 => ?_)
 refine sy_app0 27 (T := 22) (E := 3) (z := .int .i64 0) (size := 1) (bytes := 8) (b := b25) (off := 0) (m := 1) [.int .i64 g24] (by kernel_rfl) (by kernel_rfl) (by kernel_rfl) (by decide) rfl (lit_news ((Ext.refl _).cells h28)) (int_one _) (by decide) (by decide) (by decide) ?_
 intro c29 cs29 ha29 hb29 hc29 hd29
 have hd29r : cs29.take (1 * 1) = [g24].map (Value.int .i64) := hd29
 refine zza 7 (.slc 27 0 1 c29) ?_
 refine zzw ?_
 refine zzo ?_
 refine zze ?_
 refine zza 12 (.v (.int .i64 0)) ?_
 refine zza 13 (.v (.int .i64 1)) ?_
 refine zza 8 (.v (.int .i64 1)) ?_
 refine zzw ?_
 refine rn_next ?_
 refine sw_weak (T := St.of 29 [(0, .v (.int .i64 b)), (1, .v (.slice x.a x.n x.c)), (2, .v (.int .i64 2)), (7, .slc 27 0 1 c29), (8, .v (.int .i64 1))] [(27, ⟨3, cs29⟩)]) (by exact zzu _ _ _) ?_
 refine zzc ?_
 refine sq9 ?_
 refine zza 9 (.v (.int .i64 1)) ?_
 refine zza 10 (.v (.int .i64 2)) ?_
 refine zza 11 (.v (.bool true)) ?_
 refine zzb 29 [(0, .v (.int .i64 b)), (1, .v x.v), (2, .v (.int .i64 2)), (7, .slc 27 0 1 c29), (8, .v (.int .i64 1)), (11, .v (.bool true))] [(27, ⟨3, cs29⟩)] ?_
 refine zyq (by kernel_rfl) ?_
 refine zzr (zzo ?_)
 refine zzc ?_
 refine zzs ?_
 refine zze ?_
 refine zza 14 (.slc 27 0 1 c29) ?_
 refine zza 15 (.v x.v) ?_
 refine zza 16 (.v (.int .i64 1)) ?_
 refine zzf 17 11 [x.v, .int .i64 1] ?_
 intro w30 u30 e30 d30
 have k33 := (show Calls _ _ #[_, .int .i64 1] _ _ from k_wat (x := x) (i := 1) d30 (hx.ext (e11.trans (g13.ext.trans (e17.trans (g22.ext.trans (e27.trans e30)))))) hb (by omega))
 with_reducible refine Post.mono k33 ?_
 rintro _ u31 g32 rfl
 have hz34 := ints_bd hb (by omega) 1
 refine zza 18 (.v (.int .i64 b)) ?_
 obtain ⟨z35, hz35, ha35, hb35⟩ := wrap64_ex ((l.getD 1 0) + b)
 refine zyp 19 (x := .v (.int .i64 (IntKind.i64.wrap ((l.getD 1 0) + b)))) (.v (.int .i64 z35)) (eqI hz35) ?_
 refine zza 20 (.v (.int .i64 b)) ?_
 refine zyp 21 (x := .v (.int .i64 (IntKind.i64.wrap ((2 : Int) * b)))) (.v (.int .i64 ((2 : Int) * b))) (by rw [IntWalk.i64_in _ (by omega)]) ?_
 refine zyp 22 (x := .v (.int .i64 (IntKind.i64.wrap (((2 : Int) * b) + 1)))) (.v (.int .i64 (((2 : Int) * b) + 1))) (by rw [IntWalk.i64_in _ (by omega)]) ?_
 refine zzf 23 9 [.int .i64 z35, .int .i64 (((2 : Int) * b) + 1)] ?_
 intro w36 u36 e36 d36
 have k42 := (show Calls _ _ #[.int .i64 z35, .int .i64 (((2 : Int) * b) + 1)] _ _ from k_withinB (n := z35) (m := ((2 : Int) * b) + 1) d36 (by omega) (by omega) (by omega) (by omega))
 with_reducible refine Post.mono k42 ?_
 rintro _ u40 g41 ⟨z37, rfl, h38, h39⟩
 refine zza 24 (.v (.int .i64 b)) ?_
 obtain ⟨g43, hg43⟩ : ∃ g, z37 - b = g := ⟨_, rfl⟩
 refine zyp 25 (x := .v (.int .i64 (IntKind.i64.wrap (z37 - b)))) (.v (.int .i64 g43)) (eqI (by rw [IntWalk.i64_in _ (by omega)]; exact hg43)) ?_
 refine sy_data 26 ⟨3, [.int .i64 g43]⟩ 1 (fun b44 u45 e46 h47 => ?_)
 refine sy_app1 27 (T := 22) (E := 3) (z := .int .i64 0) (size := 1) (bytes := 8) (b := b44) (off := 0) (m := 1) (n := 1) (cap := c29) (t := 27) (cs0 := cs29) [7, 14, 27] [.int .i64 g43] (by kernel_rfl) (by kernel_rfl) (by kernel_rfl) (by decide) rfl (lit_news ((Ext.refl _).cells h47)) (int_one _) (by decide) (by unfold maxLen; omega) (by omega) (by omega) (by omega) (by omega) (by repeat first | exact noAt_of | refine zyc ?_ | refine zye ?_ | refine zyd ?_ | refine zzx ?_ | refine zya ?_) ?_
 intro c48 cs48 ha48 hb48 hc48 hd48
 have hd48r : cs48.take (2 * 1) = [g24, g43].map (Value.int .i64) := by rw [show 2 * 1 = (1 + 1) * 1 from rfl, hd48, hd29r]; rfl
 replace ha48 : 2 ≤ c48 := ha48
 refine zza 7 (.slc 27 0 2 c48) ?_
 refine zzw ?_
 refine zzo ?_
 refine zze ?_
 refine zza 12 (.v (.int .i64 1)) ?_
 refine zza 13 (.v (.int .i64 2)) ?_
 refine zza 8 (.v (.int .i64 2)) ?_
 refine zzw ?_
 refine rn_next ?_
 refine sw_weak (T := St.of 29 [(0, .v (.int .i64 b)), (1, .v (.slice x.a x.n x.c)), (2, .v (.int .i64 2)), (7, .slc 27 0 2 c48), (8, .v (.int .i64 2))] [(27, ⟨3, cs48⟩)]) (by exact zzu _ _ _) ?_
 refine zzc ?_
 refine sq9 ?_
 refine zza 9 (.v (.int .i64 2)) ?_
 refine zza 10 (.v (.int .i64 2)) ?_
 refine zza 11 (.v (.bool false)) ?_
 refine zzb 29 [(0, .v (.int .i64 b)), (1, .v x.v), (2, .v (.int .i64 2)), (7, .slc 27 0 2 c48), (8, .v (.int .i64 2)), (11, .v (.bool false))] [(27, ⟨3, cs48⟩)] ?_
 refine zyr (by kernel_rfl) ?_
 refine zyb ?_
 refine zzo ?_
 refine zzc ?_
 refine zyo (r := 7) (t := 27) [7, 27] (by repeat first | exact noAt_of | refine zyc ?_ | refine zye ?_ | refine zyd ?_ | refine zzx ?_ | refine zya ?_) (by kernel_rfl) (by rfl) (by rfl) (by kernel_rfl) (fun b49 u50 e51 hb52 hh53 => ?_)
 have hp54 : SlR .i64 u50 (some ⟨b49, 0, none⟩) 2 c48 [g24, g43] := ints_data hh53 hd48r (show cs48.length = c48 by omega) ha48 hb48
 refine zze ?_
 refine zza 28 (.v (.slice (some ⟨b49, 0, none⟩) 2 c48)) ?_
 refine zza 6 (.v (.slice (some ⟨b49, 0, none⟩) 2 c48)) ?_
 refine zzb 29 [(6, .v (.slice (some ⟨b49, 0, none⟩) 2 c48))] [] ?_
 refine zzn (ret0 [.slice (some ⟨b49, 0, none⟩) 2 c48] ⟨zzp, trivial⟩ fun u55 e56 => ?_)
 exact ⟨(⟨some ⟨b49, 0, none⟩, 2, c48⟩ : Sl), g24, g43, rfl, rfl, (hp54.ext e56), by omega, by omega, by omega, by omega⟩
set_option maxHeartbeats 4000000 in
theorem k_sections {u w : World} {x : Sl} {l : List Int} {W : WL} (d : Dat u w) (hx : SlR .i64 u x.a x.n x.c l) (hb : ∀ z ∈ l, -9223372036854775808 ≤ z ∧ z ≤ 9223372036854775807) (hW : WdOK W) : Calls Tryz.prog 69 #[x.v, W.v] w (Post u w fun v u' => ∃ (y : Sl) (L : List PL), v = y.v ∧ PasV u' y L ∧ (∀ p ∈ L, PasOK W.f p) ∧ L.length ≤ 4) := by
 obtain ⟨hw1, hw2, hw3, hw4, hw5, hw6, hw7, hw8⟩ := id hW
 have hlen : l.length = x.n := hx.1
 have hu0 := Nt.p2i_pos W.f
 have hu1 := Nt.p2i_24 (n := W.f) (by omega)
 refine zzl (args := [.slice x.a x.n x.c, .agg #[.int .i64 W.b, .int .i64 W.f, .int .i64 W.r, .int .i64 W.o]]) Tryz.func69 rfl Tryz.ntmps69 (rs := [.tmp 4]) Tryz.results69 (le_b rfl) (le_b rfl) d ?_
 refine sq9 ?_
 refine zzj 3 ⟨51, [.int .i64 W.b, .int .i64 W.f, .int .i64 W.r, .int .i64 W.o]⟩ ?_
 refine zza 4 (.v (.slice none 0 0)) ?_
 refine zzb 53 [(0, .v x.v), (3, .adr 3 0)] [(3, ⟨51, [.int .i64 W.b, .int .i64 W.f, .int .i64 W.r, .int .i64 W.o]⟩)] ?_
 refine sq9 ?_
 refine zza 5 (.v (.slice none 0 0)) ?_
 refine zzb 53 [(0, .v x.v), (3, .adr 3 0), (5, .v (.slice none 0 0))] [(3, ⟨51, [.int .i64 W.b, .int .i64 W.f, .int .i64 W.r, .int .i64 W.o]⟩)] ?_
 refine zzc ?_
 refine sq9 ?_
 refine zza 6 (.v (.int .i64 0)) ?_
 refine zzb 53 [(0, .v x.v), (3, .adr 3 0), (5, .v (.slice none 0 0)), (6, .v (.int .i64 0))] [(3, ⟨51, [.int .i64 W.b, .int .i64 W.f, .int .i64 W.r, .int .i64 W.o]⟩)] ?_
 refine zzs ?_
 refine sw_rounds 2 ?_
 refine zzc ?_
 refine sq9 ?_
 refine zza 9 (.v (.int .i64 0)) ?_
 refine zza 10 (.v (.int .i64 2)) ?_
 refine zza 11 (.v x.v) ?_
 refine zza 12 (.v (.int .i64 (x.n : Int))) ?_
 refine zza 13 (.v (.bool (decide ((2 : Int) < (x.n : Int))))) ?_
 rcases Bool.eq_false_or_eq_true (decide ((2 : Int) < (x.n : Int))) with hs11 | hs11
 ·refine zyp 14 (x := .v (.bool (decide ((2 : Int) < (x.n : Int))))) (.v (.bool true)) (by rw [hs11]) ?_
  have qhs11 := of_decide_eq_true hs11
  refine zza 15 (.v (.slice none 0 0)) ?_ (hw := w1 5 true 14)
  refine zza 16 (.v (.int .i64 0)) ?_ (hw := w1 5 true 14)
  refine zza 17 (.v (.bool true)) ?_ (hw := w1 5 true 14)
  refine zza 18 (.v (.bool true)) ?_
  refine zzb 53 [(0, .v x.v), (3, .adr 3 0), (5, .v (.slice none 0 0)), (6, .v (.int .i64 0)), (18, .v (.bool true))] [(3, ⟨51, [.int .i64 W.b, .int .i64 W.f, .int .i64 W.r, .int .i64 W.o]⟩)] ?_
  refine zyq (by kernel_rfl) ?_
  refine zzr (zzo ?_)
  refine zzc ?_
  refine zzs ?_
  refine zzc ?_
  refine zzy [0, 1, 3, 0, 0, 16, 56, 127, 255] [(0, []), (3, []), (4, []), (5, []), (6, []), (1, []), (2, []), (7, []), (8, [])] (by kernel_rfl) (by kernel_rfl) ?_
  refine zzh 21 (.v (.agg #[.int .i64 W.b, .int .i64 W.f, .int .i64 W.r, .int .i64 W.o])) ty51 zzd ?_
  refine zza 24 (.v x.v) ?_
  refine zza 25 (.v (.int .i64 0)) ?_
  refine zza 26 (.v (.int .i64 1)) ?_
  have hl12 := (hx).1
  refine sy_tail 27 (n := x.n) (c := x.c) (i := 1) 1 sl22 (by omega) (by omega) ?_
  intro A12 hA12
  refine zzf 22 132 [.agg #[.int .i64 W.b, .int .i64 W.f, .int .i64 W.r, .int .i64 W.o]] ?_
  intro w13 u13 e13 d13
  have k16 := k_wunit (W := W) d13 hW
  with_reducible refine Post.mono k16 ?_
  rintro _ u14 g15 rfl
  refine zyp 23 (x := .v (.int .i64 (IntKind.i64.wrap ((Nt.p2i W.f) - 1)))) (.v (.int .i64 ((Nt.p2i W.f) - 1))) (by rw [IntWalk.i64_in _ (by omega)]) ?_
  refine zzf 28 41 [.int .i64 ((Nt.p2i W.f) - 1), .slice A12 (x.n - 1) (x.c - 1), .int .i64 2] ?_
  intro w17 u17 e17 d17
  have k21 := (show Calls _ _ #[_, .slice (⟨A12, x.n - 1, x.c - 1⟩ : Sl).a (⟨A12, x.n - 1, x.c - 1⟩ : Sl).n (⟨A12, x.n - 1, x.c - 1⟩ : Sl).c, _] _ _ from k_below (x := (⟨A12, x.n - 1, x.c - 1⟩ : Sl)) (b := (Nt.p2i W.f) - 1) d17 ((ints_drop (m := 1) hx (by omega) hA12).ext (e13.trans (g15.ext.trans e17))) (bd_drop hb 1) (by omega) (by omega))
  with_reducible refine Post.mono k21 ?_
  rintro _ u19 g20 ⟨y18, g18, h18, rfl, hn18, hs18, h118, h218, h318, h418⟩
  refine zza 7 (.v y18.v) ?_
  refine zzb 53 [(0, .v x.v), (3, .adr 3 0), (5, .v (.slice none 0 0)), (6, .v (.int .i64 0)), (7, .v y18.v)] [(3, ⟨51, [.int .i64 W.b, .int .i64 W.f, .int .i64 W.r, .int .i64 W.o]⟩)] ?_
  refine zzc ?_
  refine zzy [0, 0, 3, 7, 15, 31, 0, 64, 192, 0, 512, 1536, 4032, 8191, 0, 32767] [(0, []), (1, []), (2, []), (3, []), (6, []), (7, []), (8, []), (9, []), (10, []), (11, []), (12, []), (14, []), (4, []), (5, []), (13, []), (15, [])] (by kernel_rfl) (by kernel_rfl) ?_
  refine zza 29 (.v x.v) ?_
  refine zza 30 (.v (.int .i64 0)) ?_
  have hl22 := ((hx.ext (e13.trans (g15.ext.trans (e17.trans g20.ext))))).1
  obtain ⟨b22, o22, hA22, hc22⟩ := ints_at (hx.ext (e13.trans (g15.ext.trans (e17.trans g20.ext)))) (i := 0) (by omega)
  have hz22 := ints_bd hb (by omega) 0
  refine zzz 31 (o22 + 0 * 1) (n := x.n) (off := o22) (sz := 1) (i := 0) (by omega) hA22 (by omega) (by omega) sl22 ?_
  refine zyk 32 (.int .i64 (l.getD 0 0)) hc22 ty3 ?_
  refine zza 35 (.v y18.v) ?_
  have hl23 := (hs18).1
  obtain ⟨b23, o23, hA23, hc23⟩ := ints_at hs18 (i := 0) (by omega)
  have hz23 := ints_bd (bd_two (lo := -9223372036854775808) (hi := 9223372036854775807) (g := g18) (h := h18) ⟨by omega, by omega⟩ ⟨by omega, by omega⟩) (by omega) 0
  refine zzz 36 (o23 + 0 * 1) (n := y18.n) (off := o23) (sz := 1) (i := 0) (by omega) hA23 (by omega) (by omega) sl22 ?_
  refine zyk 37 (.int .i64 g18) hc23 ty3 ?_
  refine zza 38 (.v y18.v) ?_
  have hl24 := (hs18).1
  obtain ⟨b24, o24, hA24, hc24⟩ := ints_at hs18 (i := 1) (by omega)
  have hz24 := ints_bd (bd_two (lo := -9223372036854775808) (hi := 9223372036854775807) (g := g18) (h := h18) ⟨by omega, by omega⟩ ⟨by omega, by omega⟩) (by omega) 1
  refine zzz 39 (o24 + 1 * 1) (n := y18.n) (off := o24) (sz := 1) (i := 1) (by omega) hA24 (by omega) (by omega) sl22 ?_
  refine zyk 40 (.int .i64 h18) hc24 ty3 ?_
  refine zza 41 (.v (.agg #[.int .i64 g18, .int .i64 h18])) ?_
  refine zzj 8 ⟨65, [.int .i64 0, .int .i64 0, .int .i64 0]⟩ ?_
  refine zzf 33 9 [.int .i64 (l.getD 0 0), .int .i64 2] ?_
  intro w25 u25 e25 d25
  have k31 := (show Calls _ _ #[.int .i64 (l.getD 0 0), .int .i64 2] _ _ from k_withinB (n := (l.getD 0 0)) (m := 2) d25 (by omega) (by omega) (by omega) (by omega))
  with_reducible refine Post.mono k31 ?_
  rintro _ u29 g30 ⟨z26, rfl, h27, h28⟩
  refine zyp 34 (x := .v (.int .i64 (IntKind.i64.wrap ((1 : Int) + z26)))) (.v (.int .i64 ((1 : Int) + z26))) (by rw [IntWalk.i64_in _ (by omega)]) ?_
  refine zza 42 (.v (.agg #[.int .i64 ((1 : Int) + z26), .int .i64 g18, .int .i64 h18])) ?_
  refine zzi ⟨65, [.int .i64 ((1 : Int) + z26), .int .i64 g18, .int .i64 h18]⟩ ty65 ?_
  refine zzb 53 [(0, .v x.v), (3, .adr 3 0), (5, .v (.slice none 0 0)), (6, .v (.int .i64 0)), (8, .adr 8 0)] [(3, ⟨51, [.int .i64 W.b, .int .i64 W.f, .int .i64 W.r, .int .i64 W.o]⟩), (8, ⟨65, [.int .i64 ((1 : Int) + z26), .int .i64 g18, .int .i64 h18]⟩)] ?_
  refine zzc ?_
  refine sq9 ?_
  refine zza 43 (.adr 8 0) ?_
  refine zzh 44 (.v (.int .i64 ((1 : Int) + z26))) ty3 zzk ?_
  refine zza 45 (.v (.bool (((1 : Int) + z26) == 1))) ?_
  refine zzb 53 [(0, .v x.v), (3, .adr 3 0), (5, .v (.slice none 0 0)), (6, .v (.int .i64 0)), (8, .adr 8 0), (45, .v (.bool (((1 : Int) + z26) == 1)))] [(3, ⟨51, [.int .i64 W.b, .int .i64 W.f, .int .i64 W.r, .int .i64 W.o]⟩), (8, ⟨65, [.int .i64 ((1 : Int) + z26), .int .i64 g18, .int .i64 h18]⟩)] ?_
  refine zzt (b := ((1 : Int) + z26) == 1) (by kernel_rfl) (fun hb32 => ?_) (fun hb32 => ?_)
  ·replace hb32 : (((1 : Int) + z26) == 1) = true := hb32
   have qhb32 : (((1 : Int) + z26) = 1) := by simpa using hb32
   refine zze ?_
   refine zza 46 (.adr 8 1) ?_
   refine zza 47 (.adr 8 2) ?_
   refine zzi ⟨65, [.int .i64 ((1 : Int) + z26), .int .i64 g18, .int .i64 0]⟩ ty3 ?_
   refine zzb 53 [(0, .v x.v), (3, .adr 3 0), (5, .v (.slice none 0 0)), (6, .v (.int .i64 0)), (8, .adr 8 0)] [(3, ⟨51, [.int .i64 W.b, .int .i64 W.f, .int .i64 W.r, .int .i64 W.o]⟩), (8, ⟨65, [.int .i64 ((1 : Int) + z26), .int .i64 g18, .int .i64 0]⟩)] ?_
   have hk33 : PasOK W.f (⟨(1 : Int) + z26, g18, 0⟩ : PL) := ⟨by show (1 : Int) + z26 = 1 ∧ (0 : Int) = 0 ∨ (1 : Int) + z26 = 2; omega, by show _ < g18; omega, by show g18 < _; omega, by show _ < (0 : Int); omega, by show (0 : Int) < _; omega⟩
   refine zze ?_
   refine zza 48 (.v (.slice none 0 0)) ?_
   refine zzh 49 (.v (.agg #[.int .i64 ((1 : Int) + z26), .int .i64 g18, .int .i64 0])) ty65 zzd ?_
   refine sy_data 50 ⟨65, [.int .i64 ((1 : Int) + z26), .int .i64 g18, .int .i64 0]⟩ 1 (fun b34 u35 e36 h37 => ?_)
   refine sy_app0 51 (T := 57) (E := 65) (z := .agg #[.int .i64 0, .int .i64 0, .int .i64 0]) (size := 3) (bytes := 24) (b := b34) (off := 0) (m := 1) [.int .i64 ((1 : Int) + z26), .int .i64 g18, .int .i64 0] (by kernel_rfl) (by kernel_rfl) (by kernel_rfl) (by decide) rfl (lit_news ((Ext.refl _).cells h37)) (pl_one (⟨(1 : Int) + z26, g18, 0⟩ : PL)) (by decide) (by decide) (by decide) ?_
   intro c38 cs38 ha38 hb38 hc38 hd38
   have hd38r : cs38.take (1 * 3) = pcs [(⟨(1 : Int) + z26, g18, 0⟩ : PL)] := hd38
   refine zza 5 (.slc 51 0 1 c38) ?_
   refine zzw ?_
   refine zzo ?_
   refine zze ?_
   refine zza 19 (.v (.int .i64 0)) ?_
   refine zza 20 (.v (.int .i64 3)) ?_
   refine zza 6 (.v (.int .i64 3)) ?_
   refine zzw ?_
   refine rn_next ?_
   refine sw_weak (T := St.of 53 [(0, .v (.slice x.a x.n x.c)), (3, .adr 3 0), (5, .slc 51 0 1 c38), (6, .v (.int .i64 3))] [(3, ⟨51, [.int .i64 W.b, .int .i64 W.f, .int .i64 W.r, .int .i64 W.o]⟩), (51, ⟨65, cs38⟩)]) (by exact zzu _ _ _) ?_
   refine zzc ?_
   refine sq9 ?_
   refine zza 9 (.v (.int .i64 3)) ?_
   refine zza 10 (.v (.int .i64 5)) ?_
   refine zza 11 (.v x.v) ?_
   refine zza 12 (.v (.int .i64 (x.n : Int))) ?_
   refine zza 13 (.v (.bool (decide ((5 : Int) < (x.n : Int))))) ?_
   rcases Bool.eq_false_or_eq_true (decide ((5 : Int) < (x.n : Int))) with hs39 | hs39
   ·refine zyp 14 (x := .v (.bool (decide ((5 : Int) < (x.n : Int))))) (.v (.bool true)) (by rw [hs39]) ?_
    have qhs39 := of_decide_eq_true hs39
    refine zza 15 (.slc 51 0 1 c38) ?_ (hw := w1 5 true 14)
    refine zza 16 (.v (.int .i64 1)) ?_ (hw := w1 5 true 14)
    refine zza 17 (.v (.bool true)) ?_ (hw := w1 5 true 14)
    refine zza 18 (.v (.bool true)) ?_
    refine zzb 53 [(0, .v x.v), (3, .adr 3 0), (5, .slc 51 0 1 c38), (6, .v (.int .i64 3)), (18, .v (.bool true))] [(3, ⟨51, [.int .i64 W.b, .int .i64 W.f, .int .i64 W.r, .int .i64 W.o]⟩), (51, ⟨65, cs38⟩)] ?_
    refine zyq (by kernel_rfl) ?_
    refine zzr (zzo ?_)
    refine zzc ?_
    refine zzs ?_
    refine zzc ?_
    refine zzy [0, 1, 3, 0, 0, 16, 56, 127, 255] [(0, []), (3, []), (4, []), (5, []), (6, []), (1, []), (2, []), (7, []), (8, [])] (by kernel_rfl) (by kernel_rfl) ?_
    refine zzh 21 (.v (.agg #[.int .i64 W.b, .int .i64 W.f, .int .i64 W.r, .int .i64 W.o])) ty51 zzd ?_
    refine zza 24 (.v x.v) ?_
    refine zza 25 (.v (.int .i64 3)) ?_
    refine zza 26 (.v (.int .i64 4)) ?_
    have hl40 := ((hx.ext (e13.trans (g15.ext.trans (e17.trans (g20.ext.trans (e25.trans (g30.ext.trans e36)))))))).1
    refine sy_tail 27 (n := x.n) (c := x.c) (i := 4) 4 sl22 (by omega) (by omega) ?_
    intro A40 hA40
    refine zzf 22 132 [.agg #[.int .i64 W.b, .int .i64 W.f, .int .i64 W.r, .int .i64 W.o]] ?_
    intro w41 u41 e41 d41
    have k44 := k_wunit (W := W) d41 hW
    with_reducible refine Post.mono k44 ?_
    rintro _ u42 g43 rfl
    refine zyp 23 (x := .v (.int .i64 (IntKind.i64.wrap ((Nt.p2i W.f) - 1)))) (.v (.int .i64 ((Nt.p2i W.f) - 1))) (by rw [IntWalk.i64_in _ (by omega)]) ?_
    refine zzf 28 41 [.int .i64 ((Nt.p2i W.f) - 1), .slice A40 (x.n - 4) (x.c - 4), .int .i64 2] ?_
    intro w45 u45 e45 d45
    have k49 := (show Calls _ _ #[_, .slice (⟨A40, x.n - 4, x.c - 4⟩ : Sl).a (⟨A40, x.n - 4, x.c - 4⟩ : Sl).n (⟨A40, x.n - 4, x.c - 4⟩ : Sl).c, _] _ _ from k_below (x := (⟨A40, x.n - 4, x.c - 4⟩ : Sl)) (b := (Nt.p2i W.f) - 1) d45 ((ints_drop (m := 4) (hx.ext (e13.trans (g15.ext.trans (e17.trans (g20.ext.trans (e25.trans (g30.ext.trans e36))))))) (by omega) hA40).ext (e41.trans (g43.ext.trans e45))) (bd_drop hb 4) (by omega) (by omega))
    with_reducible refine Post.mono k49 ?_
    rintro _ u47 g48 ⟨y46, g46, h46, rfl, hn46, hs46, h146, h246, h346, h446⟩
    refine zza 7 (.v y46.v) ?_
    refine zzb 53 [(0, .v x.v), (3, .adr 3 0), (5, .slc 51 0 1 c38), (6, .v (.int .i64 3)), (7, .v y46.v)] [(3, ⟨51, [.int .i64 W.b, .int .i64 W.f, .int .i64 W.r, .int .i64 W.o]⟩), (51, ⟨65, cs38⟩)] ?_
    refine zzc ?_
    refine zzy [0, 0, 3, 7, 15, 31, 0, 64, 192, 0, 512, 1536, 4032, 8191, 0, 32767] [(0, []), (1, []), (2, []), (3, []), (6, []), (7, []), (8, []), (9, []), (10, []), (11, []), (12, []), (14, []), (4, []), (5, []), (13, []), (15, [])] (by kernel_rfl) (by kernel_rfl) ?_
    refine zza 29 (.v x.v) ?_
    refine zza 30 (.v (.int .i64 3)) ?_
    have hl50 := ((hx.ext (e13.trans (g15.ext.trans (e17.trans (g20.ext.trans (e25.trans (g30.ext.trans (e36.trans (e41.trans (g43.ext.trans (e45.trans g48.ext)))))))))))).1
    obtain ⟨b50, o50, hA50, hc50⟩ := ints_at (hx.ext (e13.trans (g15.ext.trans (e17.trans (g20.ext.trans (e25.trans (g30.ext.trans (e36.trans (e41.trans (g43.ext.trans (e45.trans g48.ext))))))))))) (i := 3) (by omega)
    have hz50 := ints_bd hb (by omega) 3
    refine zzz 31 (o50 + 3 * 1) (n := x.n) (off := o50) (sz := 1) (i := 3) (by omega) hA50 (by omega) (by omega) sl22 ?_
    refine zyk 32 (.int .i64 (l.getD 3 0)) hc50 ty3 ?_
    refine zza 35 (.v y46.v) ?_
    have hl51 := (hs46).1
    obtain ⟨b51, o51, hA51, hc51⟩ := ints_at hs46 (i := 0) (by omega)
    have hz51 := ints_bd (bd_two (lo := -9223372036854775808) (hi := 9223372036854775807) (g := g46) (h := h46) ⟨by omega, by omega⟩ ⟨by omega, by omega⟩) (by omega) 0
    refine zzz 36 (o51 + 0 * 1) (n := y46.n) (off := o51) (sz := 1) (i := 0) (by omega) hA51 (by omega) (by omega) sl22 ?_
    refine zyk 37 (.int .i64 g46) hc51 ty3 ?_
    refine zza 38 (.v y46.v) ?_
    have hl52 := (hs46).1
    obtain ⟨b52, o52, hA52, hc52⟩ := ints_at hs46 (i := 1) (by omega)
    have hz52 := ints_bd (bd_two (lo := -9223372036854775808) (hi := 9223372036854775807) (g := g46) (h := h46) ⟨by omega, by omega⟩ ⟨by omega, by omega⟩) (by omega) 1
    refine zzz 39 (o52 + 1 * 1) (n := y46.n) (off := o52) (sz := 1) (i := 1) (by omega) hA52 (by omega) (by omega) sl22 ?_
    refine zyk 40 (.int .i64 h46) hc52 ty3 ?_
    refine zza 41 (.v (.agg #[.int .i64 g46, .int .i64 h46])) ?_
    refine zzj 8 ⟨65, [.int .i64 0, .int .i64 0, .int .i64 0]⟩ ?_
    refine zzf 33 9 [.int .i64 (l.getD 3 0), .int .i64 2] ?_
    intro w53 u53 e53 d53
    have k59 := (show Calls _ _ #[.int .i64 (l.getD 3 0), .int .i64 2] _ _ from k_withinB (n := (l.getD 3 0)) (m := 2) d53 (by omega) (by omega) (by omega) (by omega))
    with_reducible refine Post.mono k59 ?_
    rintro _ u57 g58 ⟨z54, rfl, h55, h56⟩
    refine zyp 34 (x := .v (.int .i64 (IntKind.i64.wrap ((1 : Int) + z54)))) (.v (.int .i64 ((1 : Int) + z54))) (by rw [IntWalk.i64_in _ (by omega)]) ?_
    refine zza 42 (.v (.agg #[.int .i64 ((1 : Int) + z54), .int .i64 g46, .int .i64 h46])) ?_
    refine zzi ⟨65, [.int .i64 ((1 : Int) + z54), .int .i64 g46, .int .i64 h46]⟩ ty65 ?_
    refine zzb 53 [(0, .v x.v), (3, .adr 3 0), (5, .slc 51 0 1 c38), (6, .v (.int .i64 3)), (8, .adr 8 0)] [(3, ⟨51, [.int .i64 W.b, .int .i64 W.f, .int .i64 W.r, .int .i64 W.o]⟩), (8, ⟨65, [.int .i64 ((1 : Int) + z54), .int .i64 g46, .int .i64 h46]⟩), (51, ⟨65, cs38⟩)] ?_
    refine zzc ?_
    refine sq9 ?_
    refine zza 43 (.adr 8 0) ?_
    refine zzh 44 (.v (.int .i64 ((1 : Int) + z54))) ty3 zzk ?_
    refine zza 45 (.v (.bool (((1 : Int) + z54) == 1))) ?_
    refine zzb 53 [(0, .v x.v), (3, .adr 3 0), (5, .slc 51 0 1 c38), (6, .v (.int .i64 3)), (8, .adr 8 0), (45, .v (.bool (((1 : Int) + z54) == 1)))] [(3, ⟨51, [.int .i64 W.b, .int .i64 W.f, .int .i64 W.r, .int .i64 W.o]⟩), (8, ⟨65, [.int .i64 ((1 : Int) + z54), .int .i64 g46, .int .i64 h46]⟩), (51, ⟨65, cs38⟩)] ?_
    refine zzt (b := ((1 : Int) + z54) == 1) (by kernel_rfl) (fun hb60 => ?_) (fun hb60 => ?_)
    ·replace hb60 : (((1 : Int) + z54) == 1) = true := hb60
     have qhb60 : (((1 : Int) + z54) = 1) := by simpa using hb60
     refine zze ?_
     refine zza 46 (.adr 8 1) ?_
     refine zza 47 (.adr 8 2) ?_
     refine zzi ⟨65, [.int .i64 ((1 : Int) + z54), .int .i64 g46, .int .i64 0]⟩ ty3 ?_
     refine zzb 53 [(0, .v x.v), (3, .adr 3 0), (5, .slc 51 0 1 c38), (6, .v (.int .i64 3)), (8, .adr 8 0)] [(3, ⟨51, [.int .i64 W.b, .int .i64 W.f, .int .i64 W.r, .int .i64 W.o]⟩), (8, ⟨65, [.int .i64 ((1 : Int) + z54), .int .i64 g46, .int .i64 0]⟩), (51, ⟨65, cs38⟩)] ?_
     have hk61 : PasOK W.f (⟨(1 : Int) + z54, g46, 0⟩ : PL) := ⟨by show (1 : Int) + z54 = 1 ∧ (0 : Int) = 0 ∨ (1 : Int) + z54 = 2; omega, by show _ < g46; omega, by show g46 < _; omega, by show _ < (0 : Int); omega, by show (0 : Int) < _; omega⟩
     refine zze ?_
     refine zza 48 (.slc 51 0 1 c38) ?_
     refine zzh 49 (.v (.agg #[.int .i64 ((1 : Int) + z54), .int .i64 g46, .int .i64 0])) ty65 zzd ?_
     refine sy_data 50 ⟨65, [.int .i64 ((1 : Int) + z54), .int .i64 g46, .int .i64 0]⟩ 1 (fun b62 u63 e64 h65 => ?_)
     refine sy_app1 51 (T := 57) (E := 65) (z := .agg #[.int .i64 0, .int .i64 0, .int .i64 0]) (size := 3) (bytes := 24) (b := b62) (off := 0) (m := 1) (n := 1) (cap := c38) (t := 51) (cs0 := cs38) [5, 48, 51] [.int .i64 ((1 : Int) + z54), .int .i64 g46, .int .i64 0] (by kernel_rfl) (by kernel_rfl) (by kernel_rfl) (by decide) rfl (lit_news ((Ext.refl _).cells h65)) (pl_one (⟨(1 : Int) + z54, g46, 0⟩ : PL)) (by decide) (by unfold maxLen; omega) (by omega) (by omega) (by omega) (by omega) (by repeat first | exact noAt_of | refine zyc ?_ | refine zye ?_ | refine zyd ?_ | refine zzx ?_ | refine zya ?_) ?_
     intro c66 cs66 ha66 hb66 hc66 hd66
     have hd66r : cs66.take (2 * 3) = pcs [(⟨(1 : Int) + z26, g18, 0⟩ : PL), (⟨(1 : Int) + z54, g46, 0⟩ : PL)] := by rw [show 2 * 3 = (1 + 1) * 3 from rfl, hd66, hd38r]; rfl
     replace ha66 : 2 ≤ c66 := ha66
     refine zza 5 (.slc 51 0 2 c66) ?_
     refine zzw ?_
     refine zzo ?_
     refine zze ?_
     refine zza 19 (.v (.int .i64 3)) ?_
     refine zza 20 (.v (.int .i64 6)) ?_
     refine zza 6 (.v (.int .i64 6)) ?_
     refine zzw ?_
     refine rn_next ?_
     refine sw_weak (T := St.of 53 [(0, .v (.slice x.a x.n x.c)), (3, .adr 3 0), (5, .slc 51 0 2 c66), (6, .v (.int .i64 6))] [(3, ⟨51, [.int .i64 W.b, .int .i64 W.f, .int .i64 W.r, .int .i64 W.o]⟩), (51, ⟨65, cs66⟩)]) (by exact zzu _ _ _) ?_
     refine zzc ?_
     refine sq9 ?_
     refine zza 9 (.v (.int .i64 6)) ?_
     refine zza 10 (.v (.int .i64 8)) ?_
     refine zza 11 (.v x.v) ?_
     refine zza 12 (.v (.int .i64 (x.n : Int))) ?_
     refine zza 13 (.v (.bool (decide ((8 : Int) < (x.n : Int))))) ?_
     rcases Bool.eq_false_or_eq_true (decide ((8 : Int) < (x.n : Int))) with hs67 | hs67
     ·refine zyp 14 (x := .v (.bool (decide ((8 : Int) < (x.n : Int))))) (.v (.bool true)) (by rw [hs67]) ?_
      have qhs67 := of_decide_eq_true hs67
      refine zza 15 (.slc 51 0 2 c66) ?_ (hw := w1 5 true 14)
      refine zza 16 (.v (.int .i64 2)) ?_ (hw := w1 5 true 14)
      refine zza 17 (.v (.bool false)) ?_ (hw := w1 5 true 14)
      refine zza 18 (.v (.bool false)) ?_
      refine zzb 53 [(0, .v x.v), (3, .adr 3 0), (5, .slc 51 0 2 c66), (6, .v (.int .i64 6)), (18, .v (.bool false))] [(3, ⟨51, [.int .i64 W.b, .int .i64 W.f, .int .i64 W.r, .int .i64 W.o]⟩), (51, ⟨65, cs66⟩)] ?_
      refine zyr (by kernel_rfl) ?_
      refine zyb ?_
      refine zzo ?_
      refine zzc ?_
      refine zyo (r := 5) (t := 51) [5, 51] (by repeat first | exact noAt_of | refine zyc ?_ | refine zye ?_ | refine zyd ?_ | refine zzx ?_ | refine zya ?_) (by kernel_rfl) (by rfl) (by rfl) (by kernel_rfl) (fun b68 u69 e70 hb71 hh72 => ?_)
      have hp73 : PasV u69 ⟨some ⟨b68, 0, none⟩, 2, c66⟩ [(⟨(1 : Int) + z26, g18, 0⟩ : PL), (⟨(1 : Int) + z54, g46, 0⟩ : PL)] := pas_data hh72 hd66r hc66 ha66 hb66
      refine zze ?_
      refine zza 52 (.v (.slice (some ⟨b68, 0, none⟩) 2 c66)) ?_
      refine zza 4 (.v (.slice (some ⟨b68, 0, none⟩) 2 c66)) ?_
      refine zzb 53 [(4, .v (.slice (some ⟨b68, 0, none⟩) 2 c66))] [] ?_
      refine zzn (ret0 [.slice (some ⟨b68, 0, none⟩) 2 c66] ⟨zzp, trivial⟩ fun u74 e75 => ?_)
      exact ⟨(⟨some ⟨b68, 0, none⟩, 2, c66⟩ : Sl), [(⟨(1 : Int) + z26, g18, 0⟩ : PL), (⟨(1 : Int) + z54, g46, 0⟩ : PL)], rfl, (hp73.ext e75), pas_all2 hk33 hk61, by simp⟩
     ·refine zyp 14 (x := .v (.bool (decide ((8 : Int) < (x.n : Int))))) (.v (.bool false)) (by rw [hs67]) ?_
      have qhs67 := of_decide_eq_false hs67
      refine zzm 15 (uw 5 true false 14) ?_
      refine zzm 16 (uw 5 true false 14) ?_
      refine zzm 17 (uw 5 true false 14) ?_
      refine zza 18 (.v (.bool false)) ?_
      refine zzb 53 [(0, .v x.v), (3, .adr 3 0), (5, .slc 51 0 2 c66), (6, .v (.int .i64 6)), (18, .v (.bool false))] [(3, ⟨51, [.int .i64 W.b, .int .i64 W.f, .int .i64 W.r, .int .i64 W.o]⟩), (51, ⟨65, cs66⟩)] ?_
      refine zyr (by kernel_rfl) ?_
      refine zyb ?_
      refine zzo ?_
      refine zzc ?_
      refine zyo (r := 5) (t := 51) [5, 51] (by repeat first | exact noAt_of | refine zyc ?_ | refine zye ?_ | refine zyd ?_ | refine zzx ?_ | refine zya ?_) (by kernel_rfl) (by rfl) (by rfl) (by kernel_rfl) (fun b76 u77 e78 hb79 hh80 => ?_)
      have hp81 : PasV u77 ⟨some ⟨b76, 0, none⟩, 2, c66⟩ [(⟨(1 : Int) + z26, g18, 0⟩ : PL), (⟨(1 : Int) + z54, g46, 0⟩ : PL)] := pas_data hh80 hd66r hc66 ha66 hb66
      refine zze ?_
      refine zza 52 (.v (.slice (some ⟨b76, 0, none⟩) 2 c66)) ?_
      refine zza 4 (.v (.slice (some ⟨b76, 0, none⟩) 2 c66)) ?_
      refine zzb 53 [(4, .v (.slice (some ⟨b76, 0, none⟩) 2 c66))] [] ?_
      refine zzn (ret0 [.slice (some ⟨b76, 0, none⟩) 2 c66] ⟨zzp, trivial⟩ fun u82 e83 => ?_)
      exact ⟨(⟨some ⟨b76, 0, none⟩, 2, c66⟩ : Sl), [(⟨(1 : Int) + z26, g18, 0⟩ : PL), (⟨(1 : Int) + z54, g46, 0⟩ : PL)], rfl, (hp81.ext e83), pas_all2 hk33 hk61, by simp⟩
    ·replace hb60 : (((1 : Int) + z54) == 1) = false := hb60
     have qhb60 : ¬ (((1 : Int) + z54) = 1) := by simpa using hb60
     refine zzr (zzo ?_)
     have hk84 : PasOK W.f (⟨(1 : Int) + z54, g46, h46⟩ : PL) := ⟨by show (1 : Int) + z54 = 1 ∧ h46 = 0 ∨ (1 : Int) + z54 = 2; omega, by show _ < g46; omega, by show g46 < _; omega, by show _ < h46; omega, by show h46 < _; omega⟩
     refine zze ?_
     refine zza 48 (.slc 51 0 1 c38) ?_
     refine zzh 49 (.v (.agg #[.int .i64 ((1 : Int) + z54), .int .i64 g46, .int .i64 h46])) ty65 zzd ?_
     refine sy_data 50 ⟨65, [.int .i64 ((1 : Int) + z54), .int .i64 g46, .int .i64 h46]⟩ 1 (fun b85 u86 e87 h88 => ?_)
     refine sy_app1 51 (T := 57) (E := 65) (z := .agg #[.int .i64 0, .int .i64 0, .int .i64 0]) (size := 3) (bytes := 24) (b := b85) (off := 0) (m := 1) (n := 1) (cap := c38) (t := 51) (cs0 := cs38) [5, 48, 51] [.int .i64 ((1 : Int) + z54), .int .i64 g46, .int .i64 h46] (by kernel_rfl) (by kernel_rfl) (by kernel_rfl) (by decide) rfl (lit_news ((Ext.refl _).cells h88)) (pl_one (⟨(1 : Int) + z54, g46, h46⟩ : PL)) (by decide) (by unfold maxLen; omega) (by omega) (by omega) (by omega) (by omega) (by repeat first | exact noAt_of | refine zyc ?_ | refine zye ?_ | refine zyd ?_ | refine zzx ?_ | refine zya ?_) ?_
     intro c89 cs89 ha89 hb89 hc89 hd89
     have hd89r : cs89.take (2 * 3) = pcs [(⟨(1 : Int) + z26, g18, 0⟩ : PL), (⟨(1 : Int) + z54, g46, h46⟩ : PL)] := by rw [show 2 * 3 = (1 + 1) * 3 from rfl, hd89, hd38r]; rfl
     replace ha89 : 2 ≤ c89 := ha89
     refine zza 5 (.slc 51 0 2 c89) ?_
     refine zzw ?_
     refine zzo ?_
     refine zze ?_
     refine zza 19 (.v (.int .i64 3)) ?_
     refine zza 20 (.v (.int .i64 6)) ?_
     refine zza 6 (.v (.int .i64 6)) ?_
     refine zzw ?_
     refine rn_next ?_
     refine sw_weak (T := St.of 53 [(0, .v (.slice x.a x.n x.c)), (3, .adr 3 0), (5, .slc 51 0 2 c89), (6, .v (.int .i64 6))] [(3, ⟨51, [.int .i64 W.b, .int .i64 W.f, .int .i64 W.r, .int .i64 W.o]⟩), (51, ⟨65, cs89⟩)]) (by exact zzu _ _ _) ?_
     refine zzc ?_
     refine sq9 ?_
     refine zza 9 (.v (.int .i64 6)) ?_
     refine zza 10 (.v (.int .i64 8)) ?_
     refine zza 11 (.v x.v) ?_
     refine zza 12 (.v (.int .i64 (x.n : Int))) ?_
     refine zza 13 (.v (.bool (decide ((8 : Int) < (x.n : Int))))) ?_
     rcases Bool.eq_false_or_eq_true (decide ((8 : Int) < (x.n : Int))) with hs90 | hs90
     ·refine zyp 14 (x := .v (.bool (decide ((8 : Int) < (x.n : Int))))) (.v (.bool true)) (by rw [hs90]) ?_
      have qhs90 := of_decide_eq_true hs90
      refine zza 15 (.slc 51 0 2 c89) ?_ (hw := w1 5 true 14)
      refine zza 16 (.v (.int .i64 2)) ?_ (hw := w1 5 true 14)
      refine zza 17 (.v (.bool false)) ?_ (hw := w1 5 true 14)
      refine zza 18 (.v (.bool false)) ?_
      refine zzb 53 [(0, .v x.v), (3, .adr 3 0), (5, .slc 51 0 2 c89), (6, .v (.int .i64 6)), (18, .v (.bool false))] [(3, ⟨51, [.int .i64 W.b, .int .i64 W.f, .int .i64 W.r, .int .i64 W.o]⟩), (51, ⟨65, cs89⟩)] ?_
      refine zyr (by kernel_rfl) ?_
      refine zyb ?_
      refine zzo ?_
      refine zzc ?_
      refine zyo (r := 5) (t := 51) [5, 51] (by repeat first | exact noAt_of | refine zyc ?_ | refine zye ?_ | refine zyd ?_ | refine zzx ?_ | refine zya ?_) (by kernel_rfl) (by rfl) (by rfl) (by kernel_rfl) (fun b91 u92 e93 hb94 hh95 => ?_)
      have hp96 : PasV u92 ⟨some ⟨b91, 0, none⟩, 2, c89⟩ [(⟨(1 : Int) + z26, g18, 0⟩ : PL), (⟨(1 : Int) + z54, g46, h46⟩ : PL)] := pas_data hh95 hd89r hc89 ha89 hb89
      refine zze ?_
      refine zza 52 (.v (.slice (some ⟨b91, 0, none⟩) 2 c89)) ?_
      refine zza 4 (.v (.slice (some ⟨b91, 0, none⟩) 2 c89)) ?_
      refine zzb 53 [(4, .v (.slice (some ⟨b91, 0, none⟩) 2 c89))] [] ?_
      refine zzn (ret0 [.slice (some ⟨b91, 0, none⟩) 2 c89] ⟨zzp, trivial⟩ fun u97 e98 => ?_)
      exact ⟨(⟨some ⟨b91, 0, none⟩, 2, c89⟩ : Sl), [(⟨(1 : Int) + z26, g18, 0⟩ : PL), (⟨(1 : Int) + z54, g46, h46⟩ : PL)], rfl, (hp96.ext e98), pas_all2 hk33 hk84, by simp⟩
     ·refine zyp 14 (x := .v (.bool (decide ((8 : Int) < (x.n : Int))))) (.v (.bool false)) (by rw [hs90]) ?_
      have qhs90 := of_decide_eq_false hs90
      refine zzm 15 (uw 5 true false 14) ?_
      refine zzm 16 (uw 5 true false 14) ?_
      refine zzm 17 (uw 5 true false 14) ?_
      refine zza 18 (.v (.bool false)) ?_
      refine zzb 53 [(0, .v x.v), (3, .adr 3 0), (5, .slc 51 0 2 c89), (6, .v (.int .i64 6)), (18, .v (.bool false))] [(3, ⟨51, [.int .i64 W.b, .int .i64 W.f, .int .i64 W.r, .int .i64 W.o]⟩), (51, ⟨65, cs89⟩)] ?_
      refine zyr (by kernel_rfl) ?_
      refine zyb ?_
      refine zzo ?_
      refine zzc ?_
      refine zyo (r := 5) (t := 51) [5, 51] (by repeat first | exact noAt_of | refine zyc ?_ | refine zye ?_ | refine zyd ?_ | refine zzx ?_ | refine zya ?_) (by kernel_rfl) (by rfl) (by rfl) (by kernel_rfl) (fun b99 u100 e101 hb102 hh103 => ?_)
      have hp104 : PasV u100 ⟨some ⟨b99, 0, none⟩, 2, c89⟩ [(⟨(1 : Int) + z26, g18, 0⟩ : PL), (⟨(1 : Int) + z54, g46, h46⟩ : PL)] := pas_data hh103 hd89r hc89 ha89 hb89
      refine zze ?_
      refine zza 52 (.v (.slice (some ⟨b99, 0, none⟩) 2 c89)) ?_
      refine zza 4 (.v (.slice (some ⟨b99, 0, none⟩) 2 c89)) ?_
      refine zzb 53 [(4, .v (.slice (some ⟨b99, 0, none⟩) 2 c89))] [] ?_
      refine zzn (ret0 [.slice (some ⟨b99, 0, none⟩) 2 c89] ⟨zzp, trivial⟩ fun u105 e106 => ?_)
      exact ⟨(⟨some ⟨b99, 0, none⟩, 2, c89⟩ : Sl), [(⟨(1 : Int) + z26, g18, 0⟩ : PL), (⟨(1 : Int) + z54, g46, h46⟩ : PL)], rfl, (hp104.ext e106), pas_all2 hk33 hk84, by simp⟩
   ·refine zyp 14 (x := .v (.bool (decide ((5 : Int) < (x.n : Int))))) (.v (.bool false)) (by rw [hs39]) ?_
    have qhs39 := of_decide_eq_false hs39
    refine zzm 15 (uw 5 true false 14) ?_
    refine zzm 16 (uw 5 true false 14) ?_
    refine zzm 17 (uw 5 true false 14) ?_
    refine zza 18 (.v (.bool false)) ?_
    refine zzb 53 [(0, .v x.v), (3, .adr 3 0), (5, .slc 51 0 1 c38), (6, .v (.int .i64 3)), (18, .v (.bool false))] [(3, ⟨51, [.int .i64 W.b, .int .i64 W.f, .int .i64 W.r, .int .i64 W.o]⟩), (51, ⟨65, cs38⟩)] ?_
    refine zyr (by kernel_rfl) ?_
    refine zyb ?_
    refine zzo ?_
    refine zzc ?_
    refine zyo (r := 5) (t := 51) [5, 51] (by repeat first | exact noAt_of | refine zyc ?_ | refine zye ?_ | refine zyd ?_ | refine zzx ?_ | refine zya ?_) (by kernel_rfl) (by rfl) (by rfl) (by kernel_rfl) (fun b107 u108 e109 hb110 hh111 => ?_)
    have hp112 : PasV u108 ⟨some ⟨b107, 0, none⟩, 1, c38⟩ [(⟨(1 : Int) + z26, g18, 0⟩ : PL)] := pas_data hh111 hd38r hc38 ha38 hb38
    refine zze ?_
    refine zza 52 (.v (.slice (some ⟨b107, 0, none⟩) 1 c38)) ?_
    refine zza 4 (.v (.slice (some ⟨b107, 0, none⟩) 1 c38)) ?_
    refine zzb 53 [(4, .v (.slice (some ⟨b107, 0, none⟩) 1 c38))] [] ?_
    refine zzn (ret0 [.slice (some ⟨b107, 0, none⟩) 1 c38] ⟨zzp, trivial⟩ fun u113 e114 => ?_)
    exact ⟨(⟨some ⟨b107, 0, none⟩, 1, c38⟩ : Sl), [(⟨(1 : Int) + z26, g18, 0⟩ : PL)], rfl, (hp112.ext e114), pas_all1 hk33, by simp⟩
  ·replace hb32 : (((1 : Int) + z26) == 1) = false := hb32
   have qhb32 : ¬ (((1 : Int) + z26) = 1) := by simpa using hb32
   refine zzr (zzo ?_)
   have hk115 : PasOK W.f (⟨(1 : Int) + z26, g18, h18⟩ : PL) := ⟨by show (1 : Int) + z26 = 1 ∧ h18 = 0 ∨ (1 : Int) + z26 = 2; omega, by show _ < g18; omega, by show g18 < _; omega, by show _ < h18; omega, by show h18 < _; omega⟩
   refine zze ?_
   refine zza 48 (.v (.slice none 0 0)) ?_
   refine zzh 49 (.v (.agg #[.int .i64 ((1 : Int) + z26), .int .i64 g18, .int .i64 h18])) ty65 zzd ?_
   refine sy_data 50 ⟨65, [.int .i64 ((1 : Int) + z26), .int .i64 g18, .int .i64 h18]⟩ 1 (fun b116 u117 e118 h119 => ?_)
   refine sy_app0 51 (T := 57) (E := 65) (z := .agg #[.int .i64 0, .int .i64 0, .int .i64 0]) (size := 3) (bytes := 24) (b := b116) (off := 0) (m := 1) [.int .i64 ((1 : Int) + z26), .int .i64 g18, .int .i64 h18] (by kernel_rfl) (by kernel_rfl) (by kernel_rfl) (by decide) rfl (lit_news ((Ext.refl _).cells h119)) (pl_one (⟨(1 : Int) + z26, g18, h18⟩ : PL)) (by decide) (by decide) (by decide) ?_
   intro c120 cs120 ha120 hb120 hc120 hd120
   have hd120r : cs120.take (1 * 3) = pcs [(⟨(1 : Int) + z26, g18, h18⟩ : PL)] := hd120
   refine zza 5 (.slc 51 0 1 c120) ?_
   refine zzw ?_
   refine zzo ?_
   refine zze ?_
   refine zza 19 (.v (.int .i64 0)) ?_
   refine zza 20 (.v (.int .i64 3)) ?_
   refine zza 6 (.v (.int .i64 3)) ?_
   refine zzw ?_
   refine rn_next ?_
   refine sw_weak (T := St.of 53 [(0, .v (.slice x.a x.n x.c)), (3, .adr 3 0), (5, .slc 51 0 1 c120), (6, .v (.int .i64 3))] [(3, ⟨51, [.int .i64 W.b, .int .i64 W.f, .int .i64 W.r, .int .i64 W.o]⟩), (51, ⟨65, cs120⟩)]) (by exact zzu _ _ _) ?_
   refine zzc ?_
   refine sq9 ?_
   refine zza 9 (.v (.int .i64 3)) ?_
   refine zza 10 (.v (.int .i64 5)) ?_
   refine zza 11 (.v x.v) ?_
   refine zza 12 (.v (.int .i64 (x.n : Int))) ?_
   refine zza 13 (.v (.bool (decide ((5 : Int) < (x.n : Int))))) ?_
   rcases Bool.eq_false_or_eq_true (decide ((5 : Int) < (x.n : Int))) with hs121 | hs121
   ·refine zyp 14 (x := .v (.bool (decide ((5 : Int) < (x.n : Int))))) (.v (.bool true)) (by rw [hs121]) ?_
    have qhs121 := of_decide_eq_true hs121
    refine zza 15 (.slc 51 0 1 c120) ?_ (hw := w1 5 true 14)
    refine zza 16 (.v (.int .i64 1)) ?_ (hw := w1 5 true 14)
    refine zza 17 (.v (.bool true)) ?_ (hw := w1 5 true 14)
    refine zza 18 (.v (.bool true)) ?_
    refine zzb 53 [(0, .v x.v), (3, .adr 3 0), (5, .slc 51 0 1 c120), (6, .v (.int .i64 3)), (18, .v (.bool true))] [(3, ⟨51, [.int .i64 W.b, .int .i64 W.f, .int .i64 W.r, .int .i64 W.o]⟩), (51, ⟨65, cs120⟩)] ?_
    refine zyq (by kernel_rfl) ?_
    refine zzr (zzo ?_)
    refine zzc ?_
    refine zzs ?_
    refine zzc ?_
    refine zzy [0, 1, 3, 0, 0, 16, 56, 127, 255] [(0, []), (3, []), (4, []), (5, []), (6, []), (1, []), (2, []), (7, []), (8, [])] (by kernel_rfl) (by kernel_rfl) ?_
    refine zzh 21 (.v (.agg #[.int .i64 W.b, .int .i64 W.f, .int .i64 W.r, .int .i64 W.o])) ty51 zzd ?_
    refine zza 24 (.v x.v) ?_
    refine zza 25 (.v (.int .i64 3)) ?_
    refine zza 26 (.v (.int .i64 4)) ?_
    have hl122 := ((hx.ext (e13.trans (g15.ext.trans (e17.trans (g20.ext.trans (e25.trans (g30.ext.trans e118)))))))).1
    refine sy_tail 27 (n := x.n) (c := x.c) (i := 4) 4 sl22 (by omega) (by omega) ?_
    intro A122 hA122
    refine zzf 22 132 [.agg #[.int .i64 W.b, .int .i64 W.f, .int .i64 W.r, .int .i64 W.o]] ?_
    intro w123 u123 e123 d123
    have k126 := k_wunit (W := W) d123 hW
    with_reducible refine Post.mono k126 ?_
    rintro _ u124 g125 rfl
    refine zyp 23 (x := .v (.int .i64 (IntKind.i64.wrap ((Nt.p2i W.f) - 1)))) (.v (.int .i64 ((Nt.p2i W.f) - 1))) (by rw [IntWalk.i64_in _ (by omega)]) ?_
    refine zzf 28 41 [.int .i64 ((Nt.p2i W.f) - 1), .slice A122 (x.n - 4) (x.c - 4), .int .i64 2] ?_
    intro w127 u127 e127 d127
    have k131 := (show Calls _ _ #[_, .slice (⟨A122, x.n - 4, x.c - 4⟩ : Sl).a (⟨A122, x.n - 4, x.c - 4⟩ : Sl).n (⟨A122, x.n - 4, x.c - 4⟩ : Sl).c, _] _ _ from k_below (x := (⟨A122, x.n - 4, x.c - 4⟩ : Sl)) (b := (Nt.p2i W.f) - 1) d127 ((ints_drop (m := 4) (hx.ext (e13.trans (g15.ext.trans (e17.trans (g20.ext.trans (e25.trans (g30.ext.trans e118))))))) (by omega) hA122).ext (e123.trans (g125.ext.trans e127))) (bd_drop hb 4) (by omega) (by omega))
    with_reducible refine Post.mono k131 ?_
    rintro _ u129 g130 ⟨y128, g128, h128, rfl, hn128, hs128, h1128, h2128, h3128, h4128⟩
    refine zza 7 (.v y128.v) ?_
    refine zzb 53 [(0, .v x.v), (3, .adr 3 0), (5, .slc 51 0 1 c120), (6, .v (.int .i64 3)), (7, .v y128.v)] [(3, ⟨51, [.int .i64 W.b, .int .i64 W.f, .int .i64 W.r, .int .i64 W.o]⟩), (51, ⟨65, cs120⟩)] ?_
    refine zzc ?_
    refine zzy [0, 0, 3, 7, 15, 31, 0, 64, 192, 0, 512, 1536, 4032, 8191, 0, 32767] [(0, []), (1, []), (2, []), (3, []), (6, []), (7, []), (8, []), (9, []), (10, []), (11, []), (12, []), (14, []), (4, []), (5, []), (13, []), (15, [])] (by kernel_rfl) (by kernel_rfl) ?_
    refine zza 29 (.v x.v) ?_
    refine zza 30 (.v (.int .i64 3)) ?_
    have hl132 := ((hx.ext (e13.trans (g15.ext.trans (e17.trans (g20.ext.trans (e25.trans (g30.ext.trans (e118.trans (e123.trans (g125.ext.trans (e127.trans g130.ext)))))))))))).1
    obtain ⟨b132, o132, hA132, hc132⟩ := ints_at (hx.ext (e13.trans (g15.ext.trans (e17.trans (g20.ext.trans (e25.trans (g30.ext.trans (e118.trans (e123.trans (g125.ext.trans (e127.trans g130.ext))))))))))) (i := 3) (by omega)
    have hz132 := ints_bd hb (by omega) 3
    refine zzz 31 (o132 + 3 * 1) (n := x.n) (off := o132) (sz := 1) (i := 3) (by omega) hA132 (by omega) (by omega) sl22 ?_
    refine zyk 32 (.int .i64 (l.getD 3 0)) hc132 ty3 ?_
    refine zza 35 (.v y128.v) ?_
    have hl133 := (hs128).1
    obtain ⟨b133, o133, hA133, hc133⟩ := ints_at hs128 (i := 0) (by omega)
    have hz133 := ints_bd (bd_two (lo := -9223372036854775808) (hi := 9223372036854775807) (g := g128) (h := h128) ⟨by omega, by omega⟩ ⟨by omega, by omega⟩) (by omega) 0
    refine zzz 36 (o133 + 0 * 1) (n := y128.n) (off := o133) (sz := 1) (i := 0) (by omega) hA133 (by omega) (by omega) sl22 ?_
    refine zyk 37 (.int .i64 g128) hc133 ty3 ?_
    refine zza 38 (.v y128.v) ?_
    have hl134 := (hs128).1
    obtain ⟨b134, o134, hA134, hc134⟩ := ints_at hs128 (i := 1) (by omega)
    have hz134 := ints_bd (bd_two (lo := -9223372036854775808) (hi := 9223372036854775807) (g := g128) (h := h128) ⟨by omega, by omega⟩ ⟨by omega, by omega⟩) (by omega) 1
    refine zzz 39 (o134 + 1 * 1) (n := y128.n) (off := o134) (sz := 1) (i := 1) (by omega) hA134 (by omega) (by omega) sl22 ?_
    refine zyk 40 (.int .i64 h128) hc134 ty3 ?_
    refine zza 41 (.v (.agg #[.int .i64 g128, .int .i64 h128])) ?_
    refine zzj 8 ⟨65, [.int .i64 0, .int .i64 0, .int .i64 0]⟩ ?_
    refine zzf 33 9 [.int .i64 (l.getD 3 0), .int .i64 2] ?_
    intro w135 u135 e135 d135
    have k141 := (show Calls _ _ #[.int .i64 (l.getD 3 0), .int .i64 2] _ _ from k_withinB (n := (l.getD 3 0)) (m := 2) d135 (by omega) (by omega) (by omega) (by omega))
    with_reducible refine Post.mono k141 ?_
    rintro _ u139 g140 ⟨z136, rfl, h137, h138⟩
    refine zyp 34 (x := .v (.int .i64 (IntKind.i64.wrap ((1 : Int) + z136)))) (.v (.int .i64 ((1 : Int) + z136))) (by rw [IntWalk.i64_in _ (by omega)]) ?_
    refine zza 42 (.v (.agg #[.int .i64 ((1 : Int) + z136), .int .i64 g128, .int .i64 h128])) ?_
    refine zzi ⟨65, [.int .i64 ((1 : Int) + z136), .int .i64 g128, .int .i64 h128]⟩ ty65 ?_
    refine zzb 53 [(0, .v x.v), (3, .adr 3 0), (5, .slc 51 0 1 c120), (6, .v (.int .i64 3)), (8, .adr 8 0)] [(3, ⟨51, [.int .i64 W.b, .int .i64 W.f, .int .i64 W.r, .int .i64 W.o]⟩), (8, ⟨65, [.int .i64 ((1 : Int) + z136), .int .i64 g128, .int .i64 h128]⟩), (51, ⟨65, cs120⟩)] ?_
    refine zzc ?_
    refine sq9 ?_
    refine zza 43 (.adr 8 0) ?_
    refine zzh 44 (.v (.int .i64 ((1 : Int) + z136))) ty3 zzk ?_
    refine zza 45 (.v (.bool (((1 : Int) + z136) == 1))) ?_
    refine zzb 53 [(0, .v x.v), (3, .adr 3 0), (5, .slc 51 0 1 c120), (6, .v (.int .i64 3)), (8, .adr 8 0), (45, .v (.bool (((1 : Int) + z136) == 1)))] [(3, ⟨51, [.int .i64 W.b, .int .i64 W.f, .int .i64 W.r, .int .i64 W.o]⟩), (8, ⟨65, [.int .i64 ((1 : Int) + z136), .int .i64 g128, .int .i64 h128]⟩), (51, ⟨65, cs120⟩)] ?_
    refine zzt (b := ((1 : Int) + z136) == 1) (by kernel_rfl) (fun hb142 => ?_) (fun hb142 => ?_)
    ·replace hb142 : (((1 : Int) + z136) == 1) = true := hb142
     have qhb142 : (((1 : Int) + z136) = 1) := by simpa using hb142
     refine zze ?_
     refine zza 46 (.adr 8 1) ?_
     refine zza 47 (.adr 8 2) ?_
     refine zzi ⟨65, [.int .i64 ((1 : Int) + z136), .int .i64 g128, .int .i64 0]⟩ ty3 ?_
     refine zzb 53 [(0, .v x.v), (3, .adr 3 0), (5, .slc 51 0 1 c120), (6, .v (.int .i64 3)), (8, .adr 8 0)] [(3, ⟨51, [.int .i64 W.b, .int .i64 W.f, .int .i64 W.r, .int .i64 W.o]⟩), (8, ⟨65, [.int .i64 ((1 : Int) + z136), .int .i64 g128, .int .i64 0]⟩), (51, ⟨65, cs120⟩)] ?_
     have hk143 : PasOK W.f (⟨(1 : Int) + z136, g128, 0⟩ : PL) := ⟨by show (1 : Int) + z136 = 1 ∧ (0 : Int) = 0 ∨ (1 : Int) + z136 = 2; omega, by show _ < g128; omega, by show g128 < _; omega, by show _ < (0 : Int); omega, by show (0 : Int) < _; omega⟩
     refine zze ?_
     refine zza 48 (.slc 51 0 1 c120) ?_
     refine zzh 49 (.v (.agg #[.int .i64 ((1 : Int) + z136), .int .i64 g128, .int .i64 0])) ty65 zzd ?_
     refine sy_data 50 ⟨65, [.int .i64 ((1 : Int) + z136), .int .i64 g128, .int .i64 0]⟩ 1 (fun b144 u145 e146 h147 => ?_)
     refine sy_app1 51 (T := 57) (E := 65) (z := .agg #[.int .i64 0, .int .i64 0, .int .i64 0]) (size := 3) (bytes := 24) (b := b144) (off := 0) (m := 1) (n := 1) (cap := c120) (t := 51) (cs0 := cs120) [5, 48, 51] [.int .i64 ((1 : Int) + z136), .int .i64 g128, .int .i64 0] (by kernel_rfl) (by kernel_rfl) (by kernel_rfl) (by decide) rfl (lit_news ((Ext.refl _).cells h147)) (pl_one (⟨(1 : Int) + z136, g128, 0⟩ : PL)) (by decide) (by unfold maxLen; omega) (by omega) (by omega) (by omega) (by omega) (by repeat first | exact noAt_of | refine zyc ?_ | refine zye ?_ | refine zyd ?_ | refine zzx ?_ | refine zya ?_) ?_
     intro c148 cs148 ha148 hb148 hc148 hd148
     have hd148r : cs148.take (2 * 3) = pcs [(⟨(1 : Int) + z26, g18, h18⟩ : PL), (⟨(1 : Int) + z136, g128, 0⟩ : PL)] := by rw [show 2 * 3 = (1 + 1) * 3 from rfl, hd148, hd120r]; rfl
     replace ha148 : 2 ≤ c148 := ha148
     refine zza 5 (.slc 51 0 2 c148) ?_
     refine zzw ?_
     refine zzo ?_
     refine zze ?_
     refine zza 19 (.v (.int .i64 3)) ?_
     refine zza 20 (.v (.int .i64 6)) ?_
     refine zza 6 (.v (.int .i64 6)) ?_
     refine zzw ?_
     refine rn_next ?_
     refine sw_weak (T := St.of 53 [(0, .v (.slice x.a x.n x.c)), (3, .adr 3 0), (5, .slc 51 0 2 c148), (6, .v (.int .i64 6))] [(3, ⟨51, [.int .i64 W.b, .int .i64 W.f, .int .i64 W.r, .int .i64 W.o]⟩), (51, ⟨65, cs148⟩)]) (by exact zzu _ _ _) ?_
     refine zzc ?_
     refine sq9 ?_
     refine zza 9 (.v (.int .i64 6)) ?_
     refine zza 10 (.v (.int .i64 8)) ?_
     refine zza 11 (.v x.v) ?_
     refine zza 12 (.v (.int .i64 (x.n : Int))) ?_
     refine zza 13 (.v (.bool (decide ((8 : Int) < (x.n : Int))))) ?_
     rcases Bool.eq_false_or_eq_true (decide ((8 : Int) < (x.n : Int))) with hs149 | hs149
     ·refine zyp 14 (x := .v (.bool (decide ((8 : Int) < (x.n : Int))))) (.v (.bool true)) (by rw [hs149]) ?_
      have qhs149 := of_decide_eq_true hs149
      refine zza 15 (.slc 51 0 2 c148) ?_ (hw := w1 5 true 14)
      refine zza 16 (.v (.int .i64 2)) ?_ (hw := w1 5 true 14)
      refine zza 17 (.v (.bool false)) ?_ (hw := w1 5 true 14)
      refine zza 18 (.v (.bool false)) ?_
      refine zzb 53 [(0, .v x.v), (3, .adr 3 0), (5, .slc 51 0 2 c148), (6, .v (.int .i64 6)), (18, .v (.bool false))] [(3, ⟨51, [.int .i64 W.b, .int .i64 W.f, .int .i64 W.r, .int .i64 W.o]⟩), (51, ⟨65, cs148⟩)] ?_
      refine zyr (by kernel_rfl) ?_
      refine zyb ?_
      refine zzo ?_
      refine zzc ?_
      refine zyo (r := 5) (t := 51) [5, 51] (by repeat first | exact noAt_of | refine zyc ?_ | refine zye ?_ | refine zyd ?_ | refine zzx ?_ | refine zya ?_) (by kernel_rfl) (by rfl) (by rfl) (by kernel_rfl) (fun b150 u151 e152 hb153 hh154 => ?_)
      have hp155 : PasV u151 ⟨some ⟨b150, 0, none⟩, 2, c148⟩ [(⟨(1 : Int) + z26, g18, h18⟩ : PL), (⟨(1 : Int) + z136, g128, 0⟩ : PL)] := pas_data hh154 hd148r hc148 ha148 hb148
      refine zze ?_
      refine zza 52 (.v (.slice (some ⟨b150, 0, none⟩) 2 c148)) ?_
      refine zza 4 (.v (.slice (some ⟨b150, 0, none⟩) 2 c148)) ?_
      refine zzb 53 [(4, .v (.slice (some ⟨b150, 0, none⟩) 2 c148))] [] ?_
      refine zzn (ret0 [.slice (some ⟨b150, 0, none⟩) 2 c148] ⟨zzp, trivial⟩ fun u156 e157 => ?_)
      exact ⟨(⟨some ⟨b150, 0, none⟩, 2, c148⟩ : Sl), [(⟨(1 : Int) + z26, g18, h18⟩ : PL), (⟨(1 : Int) + z136, g128, 0⟩ : PL)], rfl, (hp155.ext e157), pas_all2 hk115 hk143, by simp⟩
     ·refine zyp 14 (x := .v (.bool (decide ((8 : Int) < (x.n : Int))))) (.v (.bool false)) (by rw [hs149]) ?_
      have qhs149 := of_decide_eq_false hs149
      refine zzm 15 (uw 5 true false 14) ?_
      refine zzm 16 (uw 5 true false 14) ?_
      refine zzm 17 (uw 5 true false 14) ?_
      refine zza 18 (.v (.bool false)) ?_
      refine zzb 53 [(0, .v x.v), (3, .adr 3 0), (5, .slc 51 0 2 c148), (6, .v (.int .i64 6)), (18, .v (.bool false))] [(3, ⟨51, [.int .i64 W.b, .int .i64 W.f, .int .i64 W.r, .int .i64 W.o]⟩), (51, ⟨65, cs148⟩)] ?_
      refine zyr (by kernel_rfl) ?_
      refine zyb ?_
      refine zzo ?_
      refine zzc ?_
      refine zyo (r := 5) (t := 51) [5, 51] (by repeat first | exact noAt_of | refine zyc ?_ | refine zye ?_ | refine zyd ?_ | refine zzx ?_ | refine zya ?_) (by kernel_rfl) (by rfl) (by rfl) (by kernel_rfl) (fun b158 u159 e160 hb161 hh162 => ?_)
      have hp163 : PasV u159 ⟨some ⟨b158, 0, none⟩, 2, c148⟩ [(⟨(1 : Int) + z26, g18, h18⟩ : PL), (⟨(1 : Int) + z136, g128, 0⟩ : PL)] := pas_data hh162 hd148r hc148 ha148 hb148
      refine zze ?_
      refine zza 52 (.v (.slice (some ⟨b158, 0, none⟩) 2 c148)) ?_
      refine zza 4 (.v (.slice (some ⟨b158, 0, none⟩) 2 c148)) ?_
      refine zzb 53 [(4, .v (.slice (some ⟨b158, 0, none⟩) 2 c148))] [] ?_
      refine zzn (ret0 [.slice (some ⟨b158, 0, none⟩) 2 c148] ⟨zzp, trivial⟩ fun u164 e165 => ?_)
      exact ⟨(⟨some ⟨b158, 0, none⟩, 2, c148⟩ : Sl), [(⟨(1 : Int) + z26, g18, h18⟩ : PL), (⟨(1 : Int) + z136, g128, 0⟩ : PL)], rfl, (hp163.ext e165), pas_all2 hk115 hk143, by simp⟩
    ·replace hb142 : (((1 : Int) + z136) == 1) = false := hb142
     have qhb142 : ¬ (((1 : Int) + z136) = 1) := by simpa using hb142
     refine zzr (zzo ?_)
     have hk166 : PasOK W.f (⟨(1 : Int) + z136, g128, h128⟩ : PL) := ⟨by show (1 : Int) + z136 = 1 ∧ h128 = 0 ∨ (1 : Int) + z136 = 2; omega, by show _ < g128; omega, by show g128 < _; omega, by show _ < h128; omega, by show h128 < _; omega⟩
     refine zze ?_
     refine zza 48 (.slc 51 0 1 c120) ?_
     refine zzh 49 (.v (.agg #[.int .i64 ((1 : Int) + z136), .int .i64 g128, .int .i64 h128])) ty65 zzd ?_
     refine sy_data 50 ⟨65, [.int .i64 ((1 : Int) + z136), .int .i64 g128, .int .i64 h128]⟩ 1 (fun b167 u168 e169 h170 => ?_)
     refine sy_app1 51 (T := 57) (E := 65) (z := .agg #[.int .i64 0, .int .i64 0, .int .i64 0]) (size := 3) (bytes := 24) (b := b167) (off := 0) (m := 1) (n := 1) (cap := c120) (t := 51) (cs0 := cs120) [5, 48, 51] [.int .i64 ((1 : Int) + z136), .int .i64 g128, .int .i64 h128] (by kernel_rfl) (by kernel_rfl) (by kernel_rfl) (by decide) rfl (lit_news ((Ext.refl _).cells h170)) (pl_one (⟨(1 : Int) + z136, g128, h128⟩ : PL)) (by decide) (by unfold maxLen; omega) (by omega) (by omega) (by omega) (by omega) (by repeat first | exact noAt_of | refine zyc ?_ | refine zye ?_ | refine zyd ?_ | refine zzx ?_ | refine zya ?_) ?_
     intro c171 cs171 ha171 hb171 hc171 hd171
     have hd171r : cs171.take (2 * 3) = pcs [(⟨(1 : Int) + z26, g18, h18⟩ : PL), (⟨(1 : Int) + z136, g128, h128⟩ : PL)] := by rw [show 2 * 3 = (1 + 1) * 3 from rfl, hd171, hd120r]; rfl
     replace ha171 : 2 ≤ c171 := ha171
     refine zza 5 (.slc 51 0 2 c171) ?_
     refine zzw ?_
     refine zzo ?_
     refine zze ?_
     refine zza 19 (.v (.int .i64 3)) ?_
     refine zza 20 (.v (.int .i64 6)) ?_
     refine zza 6 (.v (.int .i64 6)) ?_
     refine zzw ?_
     refine rn_next ?_
     refine sw_weak (T := St.of 53 [(0, .v (.slice x.a x.n x.c)), (3, .adr 3 0), (5, .slc 51 0 2 c171), (6, .v (.int .i64 6))] [(3, ⟨51, [.int .i64 W.b, .int .i64 W.f, .int .i64 W.r, .int .i64 W.o]⟩), (51, ⟨65, cs171⟩)]) (by exact zzu _ _ _) ?_
     refine zzc ?_
     refine sq9 ?_
     refine zza 9 (.v (.int .i64 6)) ?_
     refine zza 10 (.v (.int .i64 8)) ?_
     refine zza 11 (.v x.v) ?_
     refine zza 12 (.v (.int .i64 (x.n : Int))) ?_
     refine zza 13 (.v (.bool (decide ((8 : Int) < (x.n : Int))))) ?_
     rcases Bool.eq_false_or_eq_true (decide ((8 : Int) < (x.n : Int))) with hs172 | hs172
     ·refine zyp 14 (x := .v (.bool (decide ((8 : Int) < (x.n : Int))))) (.v (.bool true)) (by rw [hs172]) ?_
      have qhs172 := of_decide_eq_true hs172
      refine zza 15 (.slc 51 0 2 c171) ?_ (hw := w1 5 true 14)
      refine zza 16 (.v (.int .i64 2)) ?_ (hw := w1 5 true 14)
      refine zza 17 (.v (.bool false)) ?_ (hw := w1 5 true 14)
      refine zza 18 (.v (.bool false)) ?_
      refine zzb 53 [(0, .v x.v), (3, .adr 3 0), (5, .slc 51 0 2 c171), (6, .v (.int .i64 6)), (18, .v (.bool false))] [(3, ⟨51, [.int .i64 W.b, .int .i64 W.f, .int .i64 W.r, .int .i64 W.o]⟩), (51, ⟨65, cs171⟩)] ?_
      refine zyr (by kernel_rfl) ?_
      refine zyb ?_
      refine zzo ?_
      refine zzc ?_
      refine zyo (r := 5) (t := 51) [5, 51] (by repeat first | exact noAt_of | refine zyc ?_ | refine zye ?_ | refine zyd ?_ | refine zzx ?_ | refine zya ?_) (by kernel_rfl) (by rfl) (by rfl) (by kernel_rfl) (fun b173 u174 e175 hb176 hh177 => ?_)
      have hp178 : PasV u174 ⟨some ⟨b173, 0, none⟩, 2, c171⟩ [(⟨(1 : Int) + z26, g18, h18⟩ : PL), (⟨(1 : Int) + z136, g128, h128⟩ : PL)] := pas_data hh177 hd171r hc171 ha171 hb171
      refine zze ?_
      refine zza 52 (.v (.slice (some ⟨b173, 0, none⟩) 2 c171)) ?_
      refine zza 4 (.v (.slice (some ⟨b173, 0, none⟩) 2 c171)) ?_
      refine zzb 53 [(4, .v (.slice (some ⟨b173, 0, none⟩) 2 c171))] [] ?_
      refine zzn (ret0 [.slice (some ⟨b173, 0, none⟩) 2 c171] ⟨zzp, trivial⟩ fun u179 e180 => ?_)
      exact ⟨(⟨some ⟨b173, 0, none⟩, 2, c171⟩ : Sl), [(⟨(1 : Int) + z26, g18, h18⟩ : PL), (⟨(1 : Int) + z136, g128, h128⟩ : PL)], rfl, (hp178.ext e180), pas_all2 hk115 hk166, by simp⟩
     ·refine zyp 14 (x := .v (.bool (decide ((8 : Int) < (x.n : Int))))) (.v (.bool false)) (by rw [hs172]) ?_
      have qhs172 := of_decide_eq_false hs172
      refine zzm 15 (uw 5 true false 14) ?_
      refine zzm 16 (uw 5 true false 14) ?_
      refine zzm 17 (uw 5 true false 14) ?_
      refine zza 18 (.v (.bool false)) ?_
      refine zzb 53 [(0, .v x.v), (3, .adr 3 0), (5, .slc 51 0 2 c171), (6, .v (.int .i64 6)), (18, .v (.bool false))] [(3, ⟨51, [.int .i64 W.b, .int .i64 W.f, .int .i64 W.r, .int .i64 W.o]⟩), (51, ⟨65, cs171⟩)] ?_
      refine zyr (by kernel_rfl) ?_
      refine zyb ?_
      refine zzo ?_
      refine zzc ?_
      refine zyo (r := 5) (t := 51) [5, 51] (by repeat first | exact noAt_of | refine zyc ?_ | refine zye ?_ | refine zyd ?_ | refine zzx ?_ | refine zya ?_) (by kernel_rfl) (by rfl) (by rfl) (by kernel_rfl) (fun b181 u182 e183 hb184 hh185 => ?_)
      have hp186 : PasV u182 ⟨some ⟨b181, 0, none⟩, 2, c171⟩ [(⟨(1 : Int) + z26, g18, h18⟩ : PL), (⟨(1 : Int) + z136, g128, h128⟩ : PL)] := pas_data hh185 hd171r hc171 ha171 hb171
      refine zze ?_
      refine zza 52 (.v (.slice (some ⟨b181, 0, none⟩) 2 c171)) ?_
      refine zza 4 (.v (.slice (some ⟨b181, 0, none⟩) 2 c171)) ?_
      refine zzb 53 [(4, .v (.slice (some ⟨b181, 0, none⟩) 2 c171))] [] ?_
      refine zzn (ret0 [.slice (some ⟨b181, 0, none⟩) 2 c171] ⟨zzp, trivial⟩ fun u187 e188 => ?_)
      exact ⟨(⟨some ⟨b181, 0, none⟩, 2, c171⟩ : Sl), [(⟨(1 : Int) + z26, g18, h18⟩ : PL), (⟨(1 : Int) + z136, g128, h128⟩ : PL)], rfl, (hp186.ext e188), pas_all2 hk115 hk166, by simp⟩
   ·refine zyp 14 (x := .v (.bool (decide ((5 : Int) < (x.n : Int))))) (.v (.bool false)) (by rw [hs121]) ?_
    have qhs121 := of_decide_eq_false hs121
    refine zzm 15 (uw 5 true false 14) ?_
    refine zzm 16 (uw 5 true false 14) ?_
    refine zzm 17 (uw 5 true false 14) ?_
    refine zza 18 (.v (.bool false)) ?_
    refine zzb 53 [(0, .v x.v), (3, .adr 3 0), (5, .slc 51 0 1 c120), (6, .v (.int .i64 3)), (18, .v (.bool false))] [(3, ⟨51, [.int .i64 W.b, .int .i64 W.f, .int .i64 W.r, .int .i64 W.o]⟩), (51, ⟨65, cs120⟩)] ?_
    refine zyr (by kernel_rfl) ?_
    refine zyb ?_
    refine zzo ?_
    refine zzc ?_
    refine zyo (r := 5) (t := 51) [5, 51] (by repeat first | exact noAt_of | refine zyc ?_ | refine zye ?_ | refine zyd ?_ | refine zzx ?_ | refine zya ?_) (by kernel_rfl) (by rfl) (by rfl) (by kernel_rfl) (fun b189 u190 e191 hb192 hh193 => ?_)
    have hp194 : PasV u190 ⟨some ⟨b189, 0, none⟩, 1, c120⟩ [(⟨(1 : Int) + z26, g18, h18⟩ : PL)] := pas_data hh193 hd120r hc120 ha120 hb120
    refine zze ?_
    refine zza 52 (.v (.slice (some ⟨b189, 0, none⟩) 1 c120)) ?_
    refine zza 4 (.v (.slice (some ⟨b189, 0, none⟩) 1 c120)) ?_
    refine zzb 53 [(4, .v (.slice (some ⟨b189, 0, none⟩) 1 c120))] [] ?_
    refine zzn (ret0 [.slice (some ⟨b189, 0, none⟩) 1 c120] ⟨zzp, trivial⟩ fun u195 e196 => ?_)
    exact ⟨(⟨some ⟨b189, 0, none⟩, 1, c120⟩ : Sl), [(⟨(1 : Int) + z26, g18, h18⟩ : PL)], rfl, (hp194.ext e196), pas_all1 hk115, by simp⟩
 ·refine zyp 14 (x := .v (.bool (decide ((2 : Int) < (x.n : Int))))) (.v (.bool false)) (by rw [hs11]) ?_
  have qhs11 := of_decide_eq_false hs11
  refine zzm 15 (uw 5 true false 14) ?_
  refine zzm 16 (uw 5 true false 14) ?_
  refine zzm 17 (uw 5 true false 14) ?_
  refine zza 18 (.v (.bool false)) ?_
  refine zzb 53 [(0, .v x.v), (3, .adr 3 0), (5, .v (.slice none 0 0)), (6, .v (.int .i64 0)), (18, .v (.bool false))] [(3, ⟨51, [.int .i64 W.b, .int .i64 W.f, .int .i64 W.r, .int .i64 W.o]⟩)] ?_
  refine zyr (by kernel_rfl) ?_
  refine zyb ?_
  refine zzo ?_
  refine sq9 ?_
  refine zza 52 (.v (.slice none 0 0)) ?_
  refine zza 4 (.v (.slice none 0 0)) ?_
  refine zzb 53 [(4, .v (.slice none 0 0))] [] ?_
  refine zzn (ret0 [.slice none 0 0] ⟨zzp, trivial⟩ fun u197 e198 => ?_)
  exact ⟨⟨none, 0, 0⟩, [], rfl, pas_nil _, pas_all0, by decide⟩
set_option maxHeartbeats 1000000 in
theorem k_filter {u w : World} {x y : Sl} {l m : List Int} {W : WL} (d : Dat u w) (hx : SlR .i64 u x.a x.n x.c l) (hb : ∀ z ∈ l, -9223372036854775808 ≤ z ∧ z ≤ 9223372036854775807) (hy : SlR .i64 u y.a y.n y.c m) (hc : ∀ z ∈ m, -9223372036854775808 ≤ z ∧ z ≤ 9223372036854775807) (hW : WdOK W) : Calls Tryz.prog 25 #[.agg #[x.v, y.v], W.v] w (Post u w fun v u' => ∃ (y z : Sl) (L M : List PL), v = .agg #[y.v, z.v] ∧ PasV u' y L ∧ (∀ p ∈ L, PasOK W.f p) ∧ L.length ≤ 4 ∧ PasV u' z M ∧ (∀ p ∈ M, PasOK W.f p) ∧ M.length ≤ 4) := by
 refine zzl (args := [.agg #[.slice x.a x.n x.c, .slice y.a y.n y.c], .agg #[.int .i64 W.b, .int .i64 W.f, .int .i64 W.r, .int .i64 W.o]]) Tryz.func25 rfl Tryz.ntmps25 (rs := [.cell 4 59]) Tryz.results25 (le_b rfl) (le_b rfl) d ?_
 refine sq9 ?_
 refine zzj 2 ⟨49, [x.v, y.v]⟩ ?_
 refine zzj 3 ⟨51, [.int .i64 W.b, .int .i64 W.f, .int .i64 W.r, .int .i64 W.o]⟩ ?_
 refine zzj 4 ⟨59, [.slice none 0 0, .slice none 0 0]⟩ ?_
 refine zzb 14 [(2, .adr 2 0), (3, .adr 3 0), (4, .adr 4 0)] [(2, ⟨49, [x.v, y.v]⟩), (3, ⟨51, [.int .i64 W.b, .int .i64 W.f, .int .i64 W.r, .int .i64 W.o]⟩), (4, ⟨59, [.slice none 0 0, .slice none 0 0]⟩)] ?_
 refine zzc ?_
 refine zzy [0, 1, 0, 7, 0, 16, 0, 127, 255, 511] [(0, []), (1, []), (2, []), (4, []), (5, []), (6, []), (3, []), (7, []), (8, []), (9, [])] (by kernel_rfl) (by kernel_rfl) ?_
 refine zza 5 (.adr 2 0) ?_
 refine zzh 6 (.v x.v) ty22 zzk ?_
 refine zzh 7 (.v (.agg #[.int .i64 W.b, .int .i64 W.f, .int .i64 W.r, .int .i64 W.o])) ty51 zzd ?_
 refine zza 9 (.adr 2 1) ?_
 refine zzh 10 (.v y.v) ty22 zzk ?_
 refine zzh 11 (.v (.agg #[.int .i64 W.b, .int .i64 W.f, .int .i64 W.r, .int .i64 W.o])) ty51 zzd ?_
 refine zzf 8 69 [x.v, .agg #[.int .i64 W.b, .int .i64 W.f, .int .i64 W.r, .int .i64 W.o]] ?_
 intro w11 u11 e11 d11
 have k15 := k_sections (W := W) d11 (hx.ext e11) hb hW
 with_reducible refine Post.mono k15 ?_
 rintro _ u13 g14 ⟨y12, L12, rfl, h12, hp12, hn12⟩
 have hly12 := h12.len
 refine zzf 12 69 [y.v, .agg #[.int .i64 W.b, .int .i64 W.f, .int .i64 W.r, .int .i64 W.o]] ?_
 intro w16 u16 e16 d16
 have k20 := k_sections (W := W) d16 (hy.ext (e11.trans (g14.ext.trans e16))) hc hW
 with_reducible refine Post.mono k20 ?_
 rintro _ u18 g19 ⟨y17, L17, rfl, h17, hp17, hn17⟩
 have hly17 := h17.len
 refine zza 13 (.v (.agg #[y12.v, y17.v])) ?_
 refine zzi ⟨59, [y12.v, y17.v]⟩ ty59 ?_
 refine zzb 14 [(4, .adr 4 0)] [(4, ⟨59, [y12.v, y17.v]⟩)] ?_
 refine zzn (ret0 [.agg #[.slice y12.a y12.n y12.c, .slice y17.a y17.n y17.c]] ⟨zzq ty59 zzd, trivial⟩ fun u21 e22 => ?_)
 exact ⟨y12, y17, L12, L17, rfl, (h12.ext (e16.trans (g19.ext.trans e22))), hp12, hn12, (h17.ext e22), hp17, hn17⟩
theorem Nt.id_len {f : Int} {L M : List PL} (hL : L.length ≤ 4) (hM : M.length ≤ 4) : (Nt.trimQ ((Nt.trimQ (Nt.addQ (Nt.trimQ (Nt.mulQ (Nt.prodB f L L.length) (Nt.prodA f M M.length))) (Nt.trimQ (Nt.mulQ (Nt.prodB f M M.length) (Nt.prodA f L L.length))))).map (· * (((1 : Int) : Rat) / ((2 : Int) : Rat))))).length ≤ 17 ∧ (Nt.trimQ ((Nt.trimQ (Nt.addQ (Nt.trimQ (Nt.mulQ (Nt.prodB f L L.length) (Nt.prodA f M M.length))) ((Nt.trimQ (Nt.mulQ (Nt.prodB f M M.length) (Nt.prodA f L L.length))).map (fun z => -z)))).map (· * (((1 : Int) : Rat) / ((2 : Int) : Rat))))).length ≤ 17 ∧ (Nt.trimQ (Nt.mulQ (Nt.prodA f L L.length) (Nt.prodA f M M.length))).length ≤ 17 := by
 have hb : ∀ {L : List PL}, L.length ≤ 4 → (Nt.prodB f L L.length).length ≤ 9 := fun {L} h => by have h9 := (Nt.prod_len f L L.length).1; omega
 have ha : ∀ {L : List PL}, L.length ≤ 4 → (Nt.prodA f L L.length).length ≤ 9 := fun {L} h => by have h9 := (Nt.prod_len f L L.length).2; omega
 have h1 := Nt.mul_lenQ (hb hL) (ha hM)
 have h2 := Nt.mul_lenQ (hb hM) (ha hL)
 exact ⟨Nt.map_lenQ (Nt.add_lenQ h1 h2), Nt.map_lenQ (Nt.add_lenQ h1 (by rw [List.length_map]; exact h2 : (List.map (fun z : Rat => -z) _).length ≤ 9 + 9 - 1)), Nt.mul_lenQ (ha hL) (ha hM)⟩
set_option maxHeartbeats 4000000 in
theorem k_known26 {u w : World} (d : Dat u w) : Calls Tryz.prog 27 #[] w (Post u w fun v _ => v = .bool true) := by
 refine zzl (args := []) Tryz.func27 rfl Tryz.ntmps27 (rs := [.tmp 0]) Tryz.results27 (le_b rfl) (le_b rfl) d ?_
 refine sq9 ?_
 refine zza 0 (.v (.bool false)) ?_
 refine zzb 59 [] [] ?_
 refine sq9 ?_
 refine zza 8 (.v (.agg #[.int .i64 8, .int .i64 4, .int .i64 1, .int .i64 1])) ?_
 refine zzj 1 ⟨51, [.int .i64 0, .int .i64 0, .int .i64 0, .int .i64 0]⟩ ?_
 refine zzi ⟨51, [.int .i64 8, .int .i64 4, .int .i64 1, .int .i64 1]⟩ ty51 ?_
 refine zzb 59 [(1, .adr 1 0)] [(1, ⟨51, [.int .i64 8, .int .i64 4, .int .i64 1, .int .i64 1]⟩)] ?_
 refine sq9 ?_
 refine zza 10 (.v (.agg #[.int .i64 8, .int .i64 0])) ?_
 refine zza 11 (.v (.agg #[.int .i64 1, .int .i64 8, .int .i64 0])) ?_
 refine zzh 12 (.v (.agg #[.int .i64 8, .int .i64 4, .int .i64 1, .int .i64 1])) ty51 zzd ?_
 refine zzf 13 28 [.agg #[.int .i64 1, .int .i64 8, .int .i64 0], .agg #[.int .i64 8, .int .i64 4, .int .i64 1, .int .i64 1]] ?_
 intro w11 u11 e11 d11
 have k18 := k_wAllPass (p := (⟨1, 8, 0⟩ : PL)) (W := (⟨8, 4, 1, 1⟩ : WL)) d11 (show WdOK (⟨8, 4, 1, 1⟩ : WL) by unfold WdOK; decide) (by decide) (show PasOK (⟨8, 4, 1, 1⟩ : WL).f (⟨1, 8, 0⟩ : PL) by unfold PasOK; decide)
 with_reducible refine Post.mono k18 ?_
 rintro _ u16 g17 ⟨y12, y13, rfl, h14, h15⟩
 have hly12 := h14.len
 have hmy12 := Nat.le_trans (Nt.zzg (Nt.secB (⟨8, 4, 1, 1⟩ : WL).f (⟨1, 8, 0⟩ : PL))) (Nt.sec_len (⟨8, 4, 1, 1⟩ : WL).f (⟨1, 8, 0⟩ : PL)).1
 have hly13 := h15.len
 have hmy13 := Nat.le_trans (Nt.zzg (Nt.secA (⟨8, 4, 1, 1⟩ : WL).f (⟨1, 8, 0⟩ : PL))) (Nt.sec_len (⟨8, 4, 1, 1⟩ : WL).f (⟨1, 8, 0⟩ : PL)).2
 refine zza 9 (.v (.tuple #[.agg #[y12.v, y13.v], .int .i64 0])) ?_
 refine zza 14 (.v (.agg #[y12.v, y13.v])) ?_
 refine zza 15 (.v (.int .i64 0)) ?_
 refine zzj 2 ⟨54, [.slice none 0 0, .slice none 0 0]⟩ ?_
 refine zzi ⟨54, [y12.v, y13.v]⟩ ty54 ?_
 refine zza 3 (.v (.int .i64 0)) ?_
 refine zzb 59 [(1, .adr 1 0), (2, .adr 2 0), (3, .v (.int .i64 0))] [(1, ⟨51, [.int .i64 8, .int .i64 4, .int .i64 1, .int .i64 1]⟩), (2, ⟨54, [y12.v, y13.v]⟩)] ?_
 refine sq9 ?_
 refine zza 17 (.v (.agg #[.slice none 0 0, .slice none 0 0])) ?_
 refine zzh 18 (.v (.agg #[.int .i64 8, .int .i64 4, .int .i64 1, .int .i64 1])) ty51 zzd ?_
 refine zzf 19 24 [.agg #[.slice none 0 0, .slice none 0 0], .agg #[.int .i64 8, .int .i64 4, .int .i64 1, .int .i64 1]] ?_
 intro w19 u19 e19 d19
 have k31 := k_wIdeal (W := (⟨8, 4, 1, 1⟩ : WL)) d19 (pas_nil _) pas_all0 (by decide) (pas_nil _) pas_all0 (by decide) (show WdOK (⟨8, 4, 1, 1⟩ : WL) by unfold WdOK; decide) (by decide)
 with_reducible refine Post.mono k31 ?_
 rintro _ u29 g30 ⟨y20, y21, y22, y23, rfl, h24, h25, h26, h27⟩
 have hly20 := h24.len
 have hly21 := h25.len
 have hly22 := h26.len
 have hly23 := h27.len
 have hq28 := Nt.id_len (f := (⟨8, 4, 1, 1⟩ : WL).f) (L := []) (M := []) (by decide) (by decide)
 refine zza 16 (.v (.tuple #[.agg #[y20.v, y21.v], .agg #[y22.v, y23.v], .int .i64 0])) ?_
 refine zza 20 (.v (.agg #[y20.v, y21.v])) ?_
 refine zza 21 (.v (.agg #[y22.v, y23.v])) ?_
 refine zza 22 (.v (.int .i64 0)) ?_
 refine zzj 4 ⟨54, [.slice none 0 0, .slice none 0 0]⟩ ?_
 refine zzj 5 ⟨54, [.slice none 0 0, .slice none 0 0]⟩ ?_
 refine zzi ⟨54, [y20.v, y21.v]⟩ ty54 ?_
 refine zzi ⟨54, [y22.v, y23.v]⟩ ty54 ?_
 refine zza 6 (.v (.int .i64 0)) ?_
 refine zzb 59 [(2, .adr 2 0), (3, .v (.int .i64 0)), (4, .adr 4 0), (5, .adr 5 0), (6, .v (.int .i64 0))] [(2, ⟨54, [y12.v, y13.v]⟩), (4, ⟨54, [y20.v, y21.v]⟩), (5, ⟨54, [y22.v, y23.v]⟩)] ?_
 refine sq9 ?_
 refine zzf 23 10 [.int .i64 (-1), .int .i64 2] ?_
 intro w32 u32 e32 d32
 have k37 := k_rqFrac d32 (a := (-1)) (b := 2) (by omega) (by omega) (by omega) (by omega)
 with_reducible refine Post.mono k37 ?_
 rintro _ u35 g36 ⟨r33, rfl, h34⟩
 refine zzj 7 ⟨29, [.bool false, .slice none 0 0, .slice none 0 0]⟩ ?_
 refine zzi ⟨29, r33.cs⟩ ty29 ?_
 refine zzb 59 [(2, .adr 2 0), (3, .v (.int .i64 0)), (4, .adr 4 0), (5, .adr 5 0), (6, .v (.int .i64 0)), (7, .adr 7 0)] [(2, ⟨54, [y12.v, y13.v]⟩), (4, ⟨54, [y20.v, y21.v]⟩), (5, ⟨54, [y22.v, y23.v]⟩), (7, ⟨29, r33.cs⟩)] ?_
 refine zzc ?_
 refine zzy [0, 1, 3, 7, 15, 31, 63, 127, 255, 127, 127, 1663, 4095, 8191, 16383, 32767, 65535, 32767, 32767, 425983, 1048575, 2097151, 4194303, 8388607, 16777215, 8388607, 41943039, 134217727, 268435455, 536870911, 1073741823, 2147483647, 4294967295, 8589934591, 17179869183, 34359738367] [(0, []), (1, []), (2, []), (3, []), (4, []), (5, []), (6, []), (7, []), (8, []), (9, []), (10, []), (11, []), (12, [35]), (13, []), (14, []), (15, []), (16, []), (18, []), (17, []), (19, []), (20, [43]), (21, []), (22, []), (23, []), (24, []), (25, []), (26, []), (27, []), (28, []), (29, []), (30, []), (31, []), (32, []), (33, []), (34, []), (35, [])] (by kernel_rfl) (by kernel_rfl) ?_
 refine zza 24 (.v (.int .i64 0)) ?_
 refine zza 25 (.v (.bool true)) ?_
 refine zza 26 (.v (.bool true)) ?_
 refine zza 27 (.v (.int .i64 0)) ?_ (hw := w1 2 true 26)
 refine zza 28 (.v (.bool true)) ?_ (hw := w1 2 true 26)
 refine zza 29 (.v (.bool true)) ?_
 refine zza 30 (.v (.bool true)) ?_
 refine zza 31 (.adr 2 0) ?_ (hw := w1 6 true 30)
 refine zzh 32 (.v y12.v) ty32 zzk ?_ (hw := w1 6 true 30)
 refine zzh 33 (.v (r33.v)) ty29 zzd ?_ (hw := w1 6 true 30)
 refine zzf 34 19 [.int .i64 1] ?_ (hw := w1 6 true 30)
 intro w38 u38 e38 d38
 have k43 := k_rqOf d38 (z := 1) (by omega) (by omega)
 with_reducible refine Post.mono k43 ?_
 rintro _ u41 g42 ⟨r39, rfl, h40⟩
 refine sy_lit 35 ⟨29, r33.cs ++ r39.cs⟩ 2 ?_ (hw := w1 6 true 30)
 refine zyn 36 22 [.v y12.v, .slc 35 0 2 2] [35] (.inr rfl) (pub_mk (by repeat first | exact noAt_of | refine zyc ?_ | refine zye ?_ | refine zyd ?_ | refine zzx ?_ | refine zya ?_)) (k := ?_) (hw := w1 6 true 30)
 intro B44 w44 u44 e44 d44 v44
 have h46 : u44.heap[B44 35]? = some (.cells #[.bool r33.s, .slice r33.m.a r33.m.n r33.m.c, .slice r33.d.a r33.d.n r33.d.c, .bool r39.s, .slice r39.m.a r39.m.n r39.m.c, .slice r39.d.a r39.d.n r39.d.c] 29 (0, 0)) := v44 35 (by simp) _ rfl
 obtain ⟨b45, hBb45⟩ : ∃ b, B44 35 = b := ⟨_, rfl⟩
 rw [hBb45] at h46
 have hp47 : PolN u44 (⟨some ⟨b45, 0, none⟩, 2, 2⟩ : Sl) [((((-1) : Int) : Rat) / ((2 : Int) : Rat)), ((1 : Int) : Rat)] (max 3 2) := pol_lit (L := [r33, r39]) h46 (rats2 (RatN.more (L := (max 3 2)) (h34.ext (e38.trans (g42.ext.trans e44))) (by omega)) (RatN.more (L := (max 3 2)) (h40.ext e44) (by omega))) rfl (by decide)
 show Calls _ _ #[.slice y12.a y12.n y12.c, .slice (some ⟨B44 35, 0, none⟩) 2 2] _ _
 rw [hBb45]
 have k50 := k_r5Same d44 (h14.ext (e19.trans (g30.ext.trans (e32.trans (g36.ext.trans (e38.trans (g42.ext.trans e44))))))).raw hp47.raw (by omega) (by omega) (by have h9 := hmy12; omega) (by first | omega | (simp; done) | (simp; omega) | (refine Nat.le_trans (Nt.zzg _) ?_; rw [Nt.addQ_len]; omega) | (refine Nat.le_trans (Nt.zzg _) ?_; have h9 := Nt.sec_len; exact Nat.le_trans (h9 _ _).1 (by decide)) | (refine Nat.le_trans (Nt.zzg _) ?_; have h9 := Nt.sec_len; exact Nat.le_trans (h9 _ _).2 (by decide)))
 with_reducible refine Post.mono k50 ?_
 rintro _ u48 g49 rfl
 refine zza 37 (.v (.bool (decide (Nt.trimQ (Nt.trimQ (Nt.secB (⟨8, 4, 1, 1⟩ : WL).f (⟨1, 8, 0⟩ : PL))) = Nt.trimQ [((((-1) : Int) : Rat) / ((2 : Int) : Rat)), ((1 : Int) : Rat)])))) ?_
 refine zyp 38 (x := .v (.bool (decide (Nt.trimQ (Nt.trimQ (Nt.secB (⟨8, 4, 1, 1⟩ : WL).f (⟨1, 8, 0⟩ : PL))) = Nt.trimQ [((((-1) : Int) : Rat) / ((2 : Int) : Rat)), ((1 : Int) : Rat)])))) (.v (.bool true)) (by rw [show (decide (Nt.trimQ (Nt.trimQ (Nt.secB (⟨8, 4, 1, 1⟩ : WL).f (⟨1, 8, 0⟩ : PL))) = Nt.trimQ [((((-1) : Int) : Rat) / ((2 : Int) : Rat)), ((1 : Int) : Rat)])) = true from decide_eq_true (by decide +kernel)]) ?_
 refine zza 39 (.adr 2 1) ?_ (hw := w1 14 true 38)
 refine zzh 40 (.v y13.v) ty32 zzk ?_ (hw := w1 14 true 38)
 refine zzh 42 (.v (r33.v)) ty29 zzd ?_ (hw := w1 14 true 38)
 refine zzf 41 19 [.int .i64 1] ?_ (hw := w1 14 true 38)
 intro w52 u52 e52 d52
 have k57 := k_rqOf d52 (z := 1) (by omega) (by omega)
 with_reducible refine Post.mono k57 ?_
 rintro _ u55 g56 ⟨r53, rfl, h54⟩
 refine sy_lit 43 ⟨29, r53.cs ++ r33.cs⟩ 2 ?_ (hw := w1 14 true 38)
 refine zyn 44 22 [.v y13.v, .slc 43 0 2 2] [43] (.inr rfl) (pub_mk (by repeat first | exact noAt_of | refine zyc ?_ | refine zye ?_ | refine zyd ?_ | refine zzx ?_ | refine zya ?_)) (k := ?_) (hw := w1 14 true 38)
 intro B58 w58 u58 e58 d58 v58
 have h60 : u58.heap[B58 43]? = some (.cells #[.bool r53.s, .slice r53.m.a r53.m.n r53.m.c, .slice r53.d.a r53.d.n r53.d.c, .bool r33.s, .slice r33.m.a r33.m.n r33.m.c, .slice r33.d.a r33.d.n r33.d.c] 29 (0, 0)) := v58 43 (by simp) _ rfl
 obtain ⟨b59, hBb59⟩ : ∃ b, B58 43 = b := ⟨_, rfl⟩
 rw [hBb59] at h60
 have hp61 : PolN u58 (⟨some ⟨b59, 0, none⟩, 2, 2⟩ : Sl) [((1 : Int) : Rat), ((((-1) : Int) : Rat) / ((2 : Int) : Rat))] (max 2 3) := pol_lit (L := [r53, r33]) h60 (rats2 (RatN.more (L := (max 2 3)) (h54.ext e58) (by omega)) (RatN.more (L := (max 2 3)) (h34.ext (e38.trans (g42.ext.trans (e44.trans (g49.ext.trans (e52.trans (g56.ext.trans e58))))))) (by omega))) rfl (by decide)
 show Calls _ _ #[.slice y13.a y13.n y13.c, .slice (some ⟨B58 43, 0, none⟩) 2 2] _ _
 rw [hBb59]
 have k64 := k_r5Same d58 (h15.ext (e19.trans (g30.ext.trans (e32.trans (g36.ext.trans (e38.trans (g42.ext.trans (e44.trans (g49.ext.trans (e52.trans (g56.ext.trans e58))))))))))).raw hp61.raw (by omega) (by omega) (by have h9 := hmy13; omega) (by first | omega | (simp; done) | (simp; omega) | (refine Nat.le_trans (Nt.zzg _) ?_; rw [Nt.addQ_len]; omega) | (refine Nat.le_trans (Nt.zzg _) ?_; have h9 := Nt.sec_len; exact Nat.le_trans (h9 _ _).1 (by decide)) | (refine Nat.le_trans (Nt.zzg _) ?_; have h9 := Nt.sec_len; exact Nat.le_trans (h9 _ _).2 (by decide)))
 with_reducible refine Post.mono k64 ?_
 rintro _ u62 g63 rfl
 refine zza 45 (.v (.bool (decide (Nt.trimQ (Nt.trimQ (Nt.secA (⟨8, 4, 1, 1⟩ : WL).f (⟨1, 8, 0⟩ : PL))) = Nt.trimQ [((1 : Int) : Rat), ((((-1) : Int) : Rat) / ((2 : Int) : Rat))])))) ?_
 refine zyp 46 (x := .v (.bool (decide (Nt.trimQ (Nt.trimQ (Nt.secA (⟨8, 4, 1, 1⟩ : WL).f (⟨1, 8, 0⟩ : PL))) = Nt.trimQ [((1 : Int) : Rat), ((((-1) : Int) : Rat) / ((2 : Int) : Rat))])))) (.v (.bool true)) (by rw [show (decide (Nt.trimQ (Nt.trimQ (Nt.secA (⟨8, 4, 1, 1⟩ : WL).f (⟨1, 8, 0⟩ : PL))) = Nt.trimQ [((1 : Int) : Rat), ((((-1) : Int) : Rat) / ((2 : Int) : Rat))])) = true from decide_eq_true (by decide +kernel)]) ?_
 refine zza 47 (.adr 4 0) ?_ (hw := w1 22 true 46)
 refine zzh 48 (.v y20.v) ty32 zzk ?_ (hw := w1 22 true 46)
 refine zza 49 (.adr 4 1) ?_ (hw := w1 22 true 46)
 refine zzh 50 (.v y21.v) ty32 zzk ?_ (hw := w1 22 true 46)
 refine zzf 51 22 [y20.v, y21.v] ?_ (hw := w1 22 true 46)
 intro w66 u66 e66 d66
 have k69 := k_r5Same d66 (h24.ext (e32.trans (g36.ext.trans (e38.trans (g42.ext.trans (e44.trans (g49.ext.trans (e52.trans (g56.ext.trans (e58.trans (g63.ext.trans e66))))))))))).raw (h25.ext (e32.trans (g36.ext.trans (e38.trans (g42.ext.trans (e44.trans (g49.ext.trans (e52.trans (g56.ext.trans (e58.trans (g63.ext.trans e66))))))))))).raw (by omega) (by omega) (by have h9 := hq28.1; omega) (by have h9 := hq28.2.2; omega)
 with_reducible refine Post.mono k69 ?_
 rintro _ u67 g68 rfl
 refine zza 52 (.v (.bool (decide (Nt.trimQ (Nt.trimQ ((Nt.trimQ (Nt.addQ (Nt.trimQ (Nt.mulQ (Nt.prodB (⟨8, 4, 1, 1⟩ : WL).f ([] : List PL) ([] : List PL).length) (Nt.prodA (⟨8, 4, 1, 1⟩ : WL).f ([] : List PL) ([] : List PL).length))) (Nt.trimQ (Nt.mulQ (Nt.prodB (⟨8, 4, 1, 1⟩ : WL).f ([] : List PL) ([] : List PL).length) (Nt.prodA (⟨8, 4, 1, 1⟩ : WL).f ([] : List PL) ([] : List PL).length))))).map (· * (((1 : Int) : Rat) / ((2 : Int) : Rat))))) = Nt.trimQ (Nt.trimQ (Nt.mulQ (Nt.prodA (⟨8, 4, 1, 1⟩ : WL).f ([] : List PL) ([] : List PL).length) (Nt.prodA (⟨8, 4, 1, 1⟩ : WL).f ([] : List PL) ([] : List PL).length))))))) ?_
 refine zyp 53 (x := .v (.bool (decide (Nt.trimQ (Nt.trimQ ((Nt.trimQ (Nt.addQ (Nt.trimQ (Nt.mulQ (Nt.prodB (⟨8, 4, 1, 1⟩ : WL).f ([] : List PL) ([] : List PL).length) (Nt.prodA (⟨8, 4, 1, 1⟩ : WL).f ([] : List PL) ([] : List PL).length))) (Nt.trimQ (Nt.mulQ (Nt.prodB (⟨8, 4, 1, 1⟩ : WL).f ([] : List PL) ([] : List PL).length) (Nt.prodA (⟨8, 4, 1, 1⟩ : WL).f ([] : List PL) ([] : List PL).length))))).map (· * (((1 : Int) : Rat) / ((2 : Int) : Rat))))) = Nt.trimQ (Nt.trimQ (Nt.mulQ (Nt.prodA (⟨8, 4, 1, 1⟩ : WL).f ([] : List PL) ([] : List PL).length) (Nt.prodA (⟨8, 4, 1, 1⟩ : WL).f ([] : List PL) ([] : List PL).length))))))) (.v (.bool true)) (by rw [show (decide (Nt.trimQ (Nt.trimQ ((Nt.trimQ (Nt.addQ (Nt.trimQ (Nt.mulQ (Nt.prodB (⟨8, 4, 1, 1⟩ : WL).f ([] : List PL) ([] : List PL).length) (Nt.prodA (⟨8, 4, 1, 1⟩ : WL).f ([] : List PL) ([] : List PL).length))) (Nt.trimQ (Nt.mulQ (Nt.prodB (⟨8, 4, 1, 1⟩ : WL).f ([] : List PL) ([] : List PL).length) (Nt.prodA (⟨8, 4, 1, 1⟩ : WL).f ([] : List PL) ([] : List PL).length))))).map (· * (((1 : Int) : Rat) / ((2 : Int) : Rat))))) = Nt.trimQ (Nt.trimQ (Nt.mulQ (Nt.prodA (⟨8, 4, 1, 1⟩ : WL).f ([] : List PL) ([] : List PL).length) (Nt.prodA (⟨8, 4, 1, 1⟩ : WL).f ([] : List PL) ([] : List PL).length))))) = true from decide_eq_true (by decide +kernel)]) ?_
 refine zza 54 (.adr 5 0) ?_ (hw := w1 29 true 53)
 refine zzh 55 (.v y22.v) ty32 zzk ?_ (hw := w1 29 true 53)
 refine zza 56 (.v (.int .i64 (y22.n : Int))) ?_ (hw := w1 29 true 53)
 refine zza 57 (.v (.bool ((y22.n : Int) == 0))) ?_ (hw := w1 29 true 53)
 refine zza 58 (.v (.bool ((y22.n : Int) == 0))) ?_
 refine zza 0 (.v (.bool ((y22.n : Int) == 0))) ?_
 refine zzb 59 [(0, .v (.bool ((y22.n : Int) == 0)))] [] ?_
 refine zzn (ret0 [.bool ((y22.n : Int) == 0)] ⟨zzp, trivial⟩ fun u71 e72 => ?_)
 show Value.bool _ = Value.bool _
 rw [show ((y22.n : Int) == 0) = true from (by have h9 := hly22; rw [show (Nt.trimQ ((Nt.trimQ (Nt.addQ (Nt.trimQ (Nt.mulQ (Nt.prodB (⟨8, 4, 1, 1⟩ : WL).f ([] : List PL) ([] : List PL).length) (Nt.prodA (⟨8, 4, 1, 1⟩ : WL).f ([] : List PL) ([] : List PL).length))) ((Nt.trimQ (Nt.mulQ (Nt.prodB (⟨8, 4, 1, 1⟩ : WL).f ([] : List PL) ([] : List PL).length) (Nt.prodA (⟨8, 4, 1, 1⟩ : WL).f ([] : List PL) ([] : List PL).length))).map (fun z => -z)))).map (· * (((1 : Int) : Rat) / ((2 : Int) : Rat))))).length = 0 from by decide +kernel] at h9; rw [h9]; rfl)]
section
variable {P : Program} {ops : Array Oper} {w0 : Base} {u0 : World} {S T : St} {B : Tmp → Nat} {a : Act} {w w' u u' : World} {o : Oper} {p : List Tmp} {seq : Bool} {rest : List (Oper × List Tmp)} {K : St → World → Prop}
theorem Rep.pubA (h : Rep w0 u0 S B a w u) {r t : Tmp} {V : Vr} {pubs : List Tmp} (hno : NoAt S pubs) (ht : t ∈ pubs) (hall : ∀ s ∈ pubs, ∀ V', S.var s = some V' → s = t) (hr : S.reg r = some (.adr t 0)) (hv : S.var t = some V) (htn : t < S.n) :
  Rep w0 u0 ((S.unpub pubs).set r (.v (.pointer (some ⟨B t, 0, none⟩)))) B a w (pubW u w [B t]) := by
 refine ⟨⟨fun s x hx => ?_, h.regs.size⟩, ⟨fun s x t' hx ht' => ?_⟩, h.defers, fun s V' hV => ?_, fun s s' V1 V2 h1 h2 e => ?_, pubW_dat h.dat, h.base, pubW_grow h.grow (fun b hb => ?_), h.bel⟩
 ·by_cases e : s = r
  ·subst e
   simp only [St.set, upd_same] at hx
   injection hx with hx
   subst hx
   exact h.regs.reg s (.adr t 0) hr
  ·simp only [St.set, upd_ne _ _ e] at hx
   exact h.regs.reg s x (unpub_spec_reg hx).1
 ·by_cases e : s = r
  ·subst e
   simp only [St.set, upd_same] at hx
   injection hx with hx
   subst hx; cases ht'
  ·simp only [St.set, upd_ne _ _ e] at hx
   obtain ⟨k1, k2⟩ := unpub_spec_reg hx
   obtain ⟨V', hV'⟩ := h.wf.reg s x t' k1 ht'
   exact ⟨V', by show (S.unpub pubs).var t' = _; rw [unpub_var (fun hm => k2 (hno s x t' k1 ht' hm))]; exact hV'⟩
 ·obtain ⟨k1, k2⟩ := unpub_spec_var hV
  obtain ⟨g1, g2, g3⟩ := h.var s V' k1
  refine ⟨g1, ?_, g3⟩
  rw [pubW_out]
  ·exact g2
  ·intro hm
   simp at hm
   exact k2 (h.inj s t V' V k1 hv hm ▸ ht)
 ·exact h.inj s s' V1 V2 (unpub_spec_var h1).1 (unpub_spec_var h2).1 e
 ·simp at hb; subst hb; exact (h.var t V hv).2.2.1 htn
theorem sw_pubA {c0 : Code} {Q : MP} {r t : Tmp} {V : Vr} (pubs : List Tmp) (hno : NoAt S pubs) (hall : (pubs.all fun s => Nat.beq s t || (S.var s).isNone) = true) (hr : S.reg r = some (.adr t 0)) (hv : S.var t = some V) (ht : pubs.contains t = true)
  (k : ∀ b u1, Ext u u1 → u0.heap.size ≤ b → (∀ ob, u.heap[b]? = some ob → ob = hidO) → u1.heap[b]? = some (.cells V.cs.toArray V.ty (0, 0)) → SW P w0 u0 c0 ((S.unpub pubs).set r (.v (.pointer (some ⟨b, 0, none⟩)))) u1 Q) (hlt : Nat.blt t S.n = true := by kernel_rfl) : SW P w0 u0 c0 S u Q := by
 intro B a w u' e hrep
 have hm := List.contains_iff_mem.1 ht
 obtain ⟨g1, g2, g3⟩ := hrep.var t V hv
 have hx : Ext u' (pubW u' w [B t]) := pubW_ext hrep.dat
 have hrep2 := hrep.pubA hno hm (fun s hs V' hV' => by
  have := List.all_eq_true.1 hall s hs
  simp only [Bool.or_eq_true, Option.isNone_iff_eq_none] at this
  rcases this with h | h
  ·exact Nat.eq_of_beq_eq_true h
  ·rw [hV'] at h; cases h) hr hv (Nat.le_of_ble_eq_true hlt)
 refine k (B t) (pubW u' w [B t]) (e.trans hx) (g3.1 (Nat.le_of_ble_eq_true hlt)) (fun ob hob => ?_) (by rw [pubW_in (by simp) (lt_of_get g2) hrep.dat.size]; exact g1) B a w _ (Ext.refl _) hrep2
 by_cases hh : ob = hidO
 ·exact hh
 ·have := e.vis _ ob hob hh
  rw [g2] at this; injection this with this; exact this.symm
theorem ExtB.old2 {b : Nat} {v : World} (h : ExtB b u u') (e : Ext v u) (hb : ∀ ob, v.heap[b]? = some ob → ob = hidO) : Ext v u' :=
 ⟨Nat.le_trans e.size h.size, fun k o hk hh => h.vis k o (fun e' => hh (hb o (e' ▸ hk))) (e.vis k o hk hh) hh⟩
theorem sy_fun (d : Tmp) {f : FuncId} {cs : List Operand} (vs : List Value) (k : sym P ops w0 u0 true rest (S.set d (.v (.func (.func f) #[] vs.toArray))) u K) (hw : Wants ops o S := by exact wants0 (by kernel_rfl)) (hd : o.dst = some d := by kernel_rfl) (hop : o.op = .makeFunc (.func f) #[] cs.toArray := by rfl) (hf : freeB S d = true := by kernel_rfl)
  (hev : cs.map (evO S) = vs.map (fun v => some (.v v)) := by rfl) : sym P ops w0 u0 true ((o, p) :: rest) S u K := by
 refine .inr (.inr (.inl ⟨.inl rfl, fun B a w u' he hrep => ⟨hw B a hrep.regs, ?_⟩⟩))
 have hcs : cs.map a.eval = vs := by
  clear hop k
  induction cs generalizing vs with
  | nil => cases vs with
   | nil => rfl
   | cons v vs => cases hev
  | cons c cs ih => cases vs with
   | nil => cases hev
   | cons v vs =>
    simp only [List.map_cons, List.cons.injEq] at hev ⊢
    refine ⟨?_, ih vs hev.2⟩
    rw [ev_of hrep.regs hev.1]; rfl
 have hrun : (execOp a.eval o).run P w = .ok (.value (.func (.func f) #[] vs.toArray)) w := by
  unfold execOp
  simp only [hop]
  simp [Instr.makeFunc, Sem.run_pure, ← hcs]
 unfold Oper.wp
 rw [hrun]
 have hr2 := hrep.set (d := o.dst) (x := some (.v (.func (.func f) #[] vs.toArray))) (v := .func (.func f) #[] vs.toArray) (fun s hs => (free_of hd hf s hs).1) (fun z e => by injection e with e; rw [← e]; rfl) (fun z t e ht => by injection e with e; rw [← e] at ht; cases ht)
 show ∃ S' B' u'' u2, Rep w0 u0 S' B' (a.put o.dst _) w u'' ∧ _
 refine ⟨_, B, u', u, hr2, Ext.refl _, Ext.refl _, he, ?_⟩
 rw [hd]; exact k
def SL (P : Program) (w0 : Base) (u0 : World) (ops : Array Oper) (l : List Oper) (S : St) (u : World) (Q : MP) : Prop :=
 ∀ B a w u', Ext u u' → Rep w0 u0 S B a w u' → wpList P ops (fun e a' w' => ∃ S' B' u'', Rep w0 u0 S' B' a' w' u'' ∧ Q.f e S' u'') l a w
theorem SL.mono {l : List Oper} {Q : MP} : Mono (fun S u => SL P w0 u0 ops l S u Q) := fun S u u' e h B a w u'' e' hr => h B a w u'' (e.trans e') hr
theorem sl_key {Q : Exit → Act → World → Prop} (hK : Mono K) (l2 : List Oper) (hQ : ∀ S u, K S u → ∀ B a w, Rep w0 u0 S B a w u → wpList P ops Q l2 a w) :
  ∀ (l : List Oper) (S : St) (B : Tmp → Nat) (a : Act) (w u : World), Rep w0 u0 S B a w u → sym P ops w0 u0 true (l.map fun o => (o, [])) S u K → wpList P ops Q (l ++ l2) a w := by
 intro l
 induction l with
 | nil => intro S B a w u hr h; exact hQ S u h B a w hr
 | cons o l ih =>
  intro S B a w u hr h
  have hs := one_sound (Q := Q) (sym_mono hK) h (Ext.refl _) hr
  refine wpList_step fun K' hK' => ?_
  have hfin : ∀ a' w', (∃ S' B' u'', Rep w0 u0 S' B' a' w' u'' ∧ Ext u u'' ∧ sym P ops w0 u0 true (l.map fun o => (o, [])) S' u'' K) → K' a' w' := by
   rintro a' w' ⟨S', B', u'', g1, _, g3⟩
   exact hK' _ _ (ih S' B' a' w' u'' g1 g3)
  show if Region.wanted o (yielded ops a.tmps) = true then _ else _
  split
  ·rename_i hw
   rw [if_pos hw] at hs
   exact Oper.wp_mono hfin hs
  ·rename_i hw
   rw [if_neg hw] at hs
   exact hfin _ _ hs
theorem sw_cut {id : Nat} {Q : MP} (n : Nat) (h : sym P ops w0 u0 true ((ops.toList.take n).map fun o => (o, [])) S u (fun S' u' => SL P w0 u0 ops (ops.toList.drop n) S' u' Q)) : SW P w0 u0 (.region id ops false) S u Q := by
 intro B a w u' e hr
 refine wp_region_list ?_
 have := sl_key (Q := fun e a' w' => ∃ S' B' u'', Rep w0 u0 S' B' a' w' u'' ∧ Q.f e S' u'') (SL.mono (l := ops.toList.drop n) (Q := Q)) (ops.toList.drop n) (fun S u h B a w hr => h B a w u (Ext.refl _) hr) (ops.toList.take n) S B a w u' hr (sym_mono SL.mono _ _ _ e h)
 rw [List.take_append_drop] at this
 exact this
theorem sl_sym {l : List Oper} {Q : MP} (h : sym P ops w0 u0 true (l.map fun o => (o, [])) S u (Q.f .normal)) : SL P w0 u0 ops l S u Q := by
 intro B a w u' e hr
 have := sl_key (P := P) (ops := ops) (Q := fun e a' w' => ∃ S' B' u'', Rep w0 u0 S' B' a' w' u'' ∧ Q.f e S' u'') (K := Q.f .normal) (Q.mono _) [] (fun S u h B a w hr => by exact ⟨S, B, u, hr, h⟩) l S B a w u' hr (sym_mono (Q.mono _) _ _ _ e h)
 rw [List.append_nil] at this
 exact this
theorem Rep.adoptA (hrep : Rep w0 u0 S B a w u') {r k : Tmp} {b : Nat} {cs : List Value} {ty : TypeId} (hr : S.reg r = some (.v (.pointer (some ⟨b, 0, none⟩)))) (hbu : u'.heap[b]? = some (.cells cs.toArray ty (0, 0))) (hb0 : u0.heap.size ≤ b) (hk : S.var k = none) (hkn : k < S.n) :
  Rep w0 u0 ⟨S.n, upd S.reg r (some (.adr k 0)), upd S.var k (some ⟨ty, cs⟩)⟩ (setB B k b) a w (hideB u' b) := by
 have hbw : w.heap[b]? = some (.cells cs.toArray ty (0, 0)) := hrep.dat.ext.cells hbu
 have hlt := lt_of_get hbu
 have hno : ∀ s x, S.reg s = some x → x.at? ≠ some k := fun s x hx hc => by
  obtain ⟨V, hV⟩ := hrep.wf.reg s x k hx hc; rw [hk] at hV; cases hV
 have hBt : ∀ t V, S.var t = some V → B t ≠ b := fun t V hV hc => by
  have := (hrep.var t V hV).2.1
  rw [hc, hbu] at this
  injection this with this
  unfold hidO at this; cases this
 refine ⟨⟨fun s x hx => ?_, hrep.regs.size⟩, ⟨fun s x t hx ht => ?_⟩, hrep.defers, fun t V hV => ?_, fun t t' V1 V2 h1 h2 he => ?_, ⟨by rw [hideB_size]; exact hrep.dat.size, fun b' o hb' hh => ?_⟩, hrep.base, ⟨by rw [hideB_size]; exact hrep.grow.size, fun b' hb' => ?_⟩, hrep.bel⟩
 ·by_cases e1 : s = r
  ·subst e1
   simp only [upd_same] at hx
   injection hx with hx
   subst hx
   have := hrep.regs.reg s _ hr
   simpa [SV.conc, setB] using this
  ·simp only [upd_ne _ _ e1] at hx
   rw [conc_setB (hno s x hx)]
   exact hrep.regs.reg s x hx
 ·show ∃ V, upd S.var k (some ⟨ty, cs⟩) t = some V
  by_cases e2 : t = k
  ·subst e2; exact ⟨_, upd_same _ _ _⟩
  ·rw [upd_ne _ _ e2]
   by_cases e1 : s = r
   ·subst e1
    simp only [upd_same] at hx
    injection hx with hx
    subst hx
    injection ht with ht; exact absurd ht.symm e2
   ·simp only [upd_ne _ _ e1] at hx
    exact hrep.wf.reg s x t hx ht
 ·by_cases e2 : t = k
  ·subst e2
   simp only [upd_same] at hV
   injection hV with hV
   subst hV
   rw [show setB B t b t = b by simp [setB]]
   exact ⟨hbw, hideB_eq hlt, .mk0 hkn hb0⟩
  ·simp only [upd_ne _ _ e2] at hV
   obtain ⟨g1, g2, g3⟩ := hrep.var t V hV
   rw [show setB B k b t = B t by simp [setB, e2]]
   exact ⟨g1, by rw [hideB_ne (hBt t V hV)]; exact g2, g3⟩
 ·by_cases e1 : t = k
  ·by_cases e2 : t' = k
   ·rw [e1, e2]
   ·simp only [upd_ne _ _ e2] at h2
    simp [setB, e1, e2] at he
    exact absurd he.symm (hBt t' V2 h2)
  ·simp only [upd_ne _ _ e1] at h1
   by_cases e2 : t' = k
   ·simp [setB, e1, e2] at he
    exact absurd he (hBt t V1 h1)
   ·simp only [upd_ne _ _ e2] at h2
    simp [setB, e1, e2] at he
    exact hrep.inj t t' V1 V2 h1 h2 he
 ·by_cases e1 : b' = b
  ·subst e1
   rw [hideB_eq hlt] at hb'; injection hb' with hb'; exact absurd hb'.symm hh
  ·rw [hideB_ne e1] at hb'; exact hrep.dat.vis b' o hb' hh
 ·rw [hideB_ne (by omega)]; exact hrep.grow.old b' hb'
theorem sl_adoptA {l : List Oper} {Q : MP} {r k : Tmp} {b : Nat} {cs : List Value} {ty : TypeId} (hr : S.reg r = some (.v (.pointer (some ⟨b, 0, none⟩)))) (hb : u.heap[b]? = some (.cells cs.toArray ty (0, 0))) (hb0 : u0.heap.size ≤ b) (hk : S.var k = none)
  (kk : ∀ u1, ExtB b u u1 → SL P w0 u0 ops l ⟨S.n, upd S.reg r (some (.adr k 0)), upd S.var k (some ⟨ty, cs⟩)⟩ u1 Q) (hkn : Nat.blt k S.n = true := by kernel_rfl) : SL P w0 u0 ops l S u Q := by
 intro B a w u' e hrep
 have hex : ExtB b u (hideB u' b) := ⟨by rw [hideB_size]; exact e.size, fun k' o hk' ho hh => by rw [hideB_ne hk']; exact e.vis k' o ho hh⟩
 exact kk (hideB u' b) hex (setB B k b) a w _ (Ext.refl _) (hrep.adoptA hr (e.cells hb) hb0 hk (Nat.le_of_ble_eq_true hkn))
end
section
variable {u u' u1 : World} {L : List RL} {r : RL} {l : List Rat} {q : Rat} {K n b b6 : Nat} {cs : List Value} {t t6 : TypeId}
theorem var_cells (h : u.heap[b]? = some (.cells cs.toArray t (0, 0))) : ∀ i, i < cs.length → u.cell? ⟨b, 0 + i, none⟩ = cs[i]? := fun i _ => by rw [Nat.zero_add, cells_at h]; simp
theorem var_cell1 {v : Value} (h : u.heap[b]? = some (.cells [v].toArray t (0, 0))) : u.cell? ⟨b, 0, none⟩ = some v := by rw [cells_at h]; rfl
theorem SlR.extB0 {A : Option Addr} {m c : Nat} {z : List Int} (h : SlR .u32 u A m c z) (hb : u.heap[b]? = some (.cells cs.toArray t (0, 0))) (hn : ∀ v ∈ cs, ∀ y, v ≠ .int .u32 y) (e : ExtB b u u') : SlR .u32 u' A m c z := by
 obtain ⟨h1, h2, h3, h4⟩ := h
 refine ⟨h1, h2, h3, fun hp => ?_⟩
 obtain ⟨b', o, rfl, hlt, hc⟩ := h4 hp
 have hne : b' ≠ b := by
  rintro rfl
  have := hc 0 hp
  rw [cells_at hb] at this
  have h9 : cs[o + 0]? = some (.int .u32 (z[0]?.getD 0)) := by simpa using this
  exact hn _ (List.mem_of_getElem? h9) _ rfl
 refine ⟨b', o, rfl, Nat.lt_of_lt_of_le hlt e.size, fun i hi => ?_⟩
 have := hc i hi
 unfold World.cell? at this ⊢
 cases hb' : u.heap[b']? with
 | none => simp only [hb'] at this; cases this
 | some ob =>
  simp only [hb'] at this
  cases ob with
  | cells cs t' fr => rw [e.vis b' _ hne hb' (by unfold hidO; exact fun e => by cases e)]; exact this
  | _ => cases this
theorem RatN.extB0 (h : RatN u r q K) (hb : u.heap[b]? = some (.cells cs.toArray t (0, 0))) (hn : ∀ v ∈ cs, ∀ y, v ≠ .int .u32 y) (e : ExtB b u u') : RatN u' r q K :=
 ⟨⟨h.1.1, h.1.2.1, h.1.2.2.1.extB0 hb hn e, h.1.2.2.2⟩, h.2.1, h.2.2.1.extB0 hb hn e, h.2.2.2⟩
theorem newR_adopt (hb : u.heap.size ≤ b) (hh : u'.heap[b]? = some (.cells (rcs L).toArray t (0, 0))) (hL : L.length = n) (hR : RatsN u' L l K) (hm : n ≤ maxLen) (h6 : u.heap[b6]? = some (.cells cs.toArray t6 (0, 0))) (h6' : u'.heap[b6]? = some (.cells cs.toArray t6 (0, 0))) (hn : ∀ v ∈ cs, ∀ y, v ≠ .int .u32 y) (e : ExtB b6 u' u1) : PolN u1 ⟨some ⟨b, 0, none⟩, n, n⟩ l K := by
 have hlt := lt_of_get h6
 exact pol_data1 (e.vis b _ (by omega) hh (by unfold hidO; exact fun e => by cases e)) (by omega) ⟨hR.1, fun i hi => (hR.2 i hi).extB0 h6' hn e⟩ hL.symm
end
namespace Nt
def smallQ (q : Rat) : Bool := decide (absQ q < ((1 : Int) : Rat))
end Nt
theorem k_small {u w : World} {r : RL} {q : Rat} {K : Nat} (d : Dat u w) (hr : RatV u r q K) (hK : K ≤ 10000000) : Calls Tryz.prog 108 #[r.v] w (Post u w fun v u' => v = .bool (Nt.smallQ q)) := by
 refine zzl (args := [r.v]) Tryz.func108 rfl Tryz.ntmps108 (rs := [.tmp 2]) Tryz.results108 (le_b rfl) (le_b rfl) d ?_
 refine sq9 ?_
 refine zzj 1 ⟨29, r.cs⟩ ?_
 refine zza 2 (.v (.bool false)) ?_
 refine zzb 8 [(1, .adr 1 0)] [(1, ⟨29, r.cs⟩)] ?_
 refine sq9 ?_
 refine zzh 3 (.v (r.v)) ty29 zzd ?_
 refine zzf 4 153 [r.v] ?_
 intro w11 u11 e11 d11
 have k16 := k_ratAbs d11 (hr.ext e11) (by omega)
 with_reducible refine Post.mono k16 ?_
 rintro _ u14 g15 ⟨r12, rfl, h13⟩
 refine zzf 5 48 [.int .i64 1] ?_
 intro w17 u17 e17 d17
 have k22 := k_ratOf d17 (z := 1) (by omega) (by omega)
 with_reducible refine Post.mono k22 ?_
 rintro _ u20 g21 ⟨r18, rfl, h19⟩
 refine zzf 6 152 [r12.v, r18.v] ?_
 intro w23 u23 e23 d23
 have k26 := k_ratCompare d23 (h13.ext (e17.trans (g21.ext.trans e23))).raw (h19.ext e23).raw (by omega) (by omega)
 with_reducible refine Post.mono k26 ?_
 rintro _ u24 g25 rfl
 refine zza 7 (.v (.bool (decide ((Nt.cmpQ (Nt.absQ q) ((1 : Int) : Rat)) < 0)))) ?_
 refine zza 2 (.v (.bool (decide ((Nt.cmpQ (Nt.absQ q) ((1 : Int) : Rat)) < 0)))) ?_
 refine zzb 8 [(2, .v (.bool (decide ((Nt.cmpQ (Nt.absQ q) ((1 : Int) : Rat)) < 0))))] [] ?_
 refine zzn (ret0 [.bool (decide ((Nt.cmpQ (Nt.absQ q) ((1 : Int) : Rat)) < 0))] ⟨zzp, trivial⟩ fun u27 e28 => ?_)
 show Value.bool (decide (Nt.cmpQ _ _ < 0)) = Value.bool (Nt.smallQ q)
 unfold Nt.smallQ
 rw [← Nt.cmpQ_lt]
namespace Nt
def divS (l : List Rat) (q : Rat) : List Rat := l.map (· / q)
theorem divS_len (l : List Rat) (q : Rat) : (divS l q).length = l.length := by unfold divS; simp
theorem divS_at (l : List Rat) (q : Rat) {j : Nat} (h : j < l.length) : (divS l q).getD j 0 = l.getD j 0 / q := by
 unfold divS
 rw [List.getD_eq_getElem?_getD, List.getElem?_map, List.getD_eq_getElem?_getD, List.getElem?_eq_getElem h]; rfl
def dnS (l : List Rat) (m : Nat) : List Rat := (List.range m).map fun j => (l.getD j 0 - l.getD m 0 * l.getD (m - j) 0) / (((1 : Int) : Rat) - l.getD m 0 * l.getD m 0)
theorem dnS_len (l : List Rat) (m : Nat) : (dnS l m).length = m := by unfold dnS; simp
theorem dnS_at (l : List Rat) {m j : Nat} (h : j < m) : (dnS l m).getD j 0 = (l.getD j 0 - l.getD m 0 * l.getD (m - j) 0) / (((1 : Int) : Rat) - l.getD m 0 * l.getD m 0) := by
 unfold dnS
 rw [List.getD_eq_getElem?_getD, List.getElem?_map, List.getElem?_range h]; rfl
def refL (D : Nat → List Rat) (n : Nat) : List Rat := (List.range n).map fun i => (D (i + 1)).getD (i + 1) 0
theorem refL_len (D : Nat → List Rat) (n : Nat) : (refL D n).length = n := by unfold refL; simp
theorem refL_at (D : Nat → List Rat) {n i : Nat} (h : i < n) : (refL D n).getD i 0 = (D (i + 1)).getD (i + 1) 0 := by
 unfold refL
 rw [List.getD_eq_getElem?_getD, List.getElem?_map, List.getElem?_range h]; rfl
theorem small_iff {q : Rat} : smallQ q = true ↔ -1 < q ∧ q < 1 := by
 have e1 : ((1 : Int) : Rat) = 1 := rfl
 unfold smallQ absQ
 rw [e1]
 split <;> rw [decide_eq_true_iff] <;> grind
theorem small_nz {q : Rat} (h : smallQ q = true) : ((1 : Int) : Rat) - q * q ≠ 0 := by
 have h := small_iff.1 h
 have e1 : ((1 : Int) : Rat) = 1 := rfl
 rw [e1]
 intro e
 have e2 : (1 - q) * (1 + q) = 0 := by grind
 rcases Rat.mul_eq_zero.1 e2 with h3 | h3 <;> grind
theorem divI (l : List Rat) : divS l ((1 : Int) : Rat) = l := by
 unfold divS
 have : (fun x : Rat => x / ((1 : Int) : Rat)) = id := by
  funext x
  show x / 1 = x
  grind
 rw [this, List.map_id]
structure Down (l : List Rat) (D : Nat → List Rat) (n S : Nat) : Prop where
 len : l.length = n + 1
 nz : l.getD 0 0 ≠ 0
 top : D n = divS l (l.getD 0 0)
 dlen : ∀ m, m ≤ n → (D m).length = m + 1
 step : ∀ m, m < n → D m = dnS (D (m + 1)) (m + 1)
 small : ∀ m, 1 ≤ m → m ≤ n → smallQ ((D m).getD m 0) = true
 sm : ∀ m, m ≤ n → ∃ E A, Sm (D m) E A ∧ E ≤ 2 ^ A ∧ dg A ≤ S
end Nt
theorem Nt.Down.fit {l : List Rat} {D : Nat → List Rat} {n S m K : Nat} {u : World} {x : Sl} (h : Nt.Down l D n S) (hm : m ≤ n) (hx : PolN u x (D m) K) : PolN u x (D m) S := by
 obtain ⟨E, A, h1, h2, h3⟩ := h.sm m hm
 exact (hx.fitS h1 h2).more h3
theorem getD_drop {α : Type} (l : List α) (m i : Nat) (z : α) : (l.drop m).getD i z = l.getD (m + i) z := by
 rw [List.getD_eq_getElem?_getD, List.getD_eq_getElem?_getD, List.getElem?_drop]
theorem RatsN.dstep {u : World} {L : List RL} {T : List Rat} {r : RL} {m K : Nat} (h : RatsN u (L.drop m) (T.drop m) K) (hm : 1 ≤ m) (hL : m ≤ L.length) (ht : L.length = T.length) (hr : RatN u r (T.getD (m - 1) 0) K) : RatsN u ((L.set (m - 1) r).drop (m - 1)) (T.drop (m - 1)) K := by
 refine ⟨by simp [ht], fun i hi => ?_⟩
 rw [getD_drop, getD_drop]
 simp at hi
 cases i with
 | zero =>
  rw [Nat.add_zero]
  have e : (L.set (m - 1) r).getD (m - 1) rl0 = r := by
   rw [List.getD_eq_getElem?_getD, List.getElem?_set_self (by omega)]; rfl
  rw [e]; exact hr
 | succ i =>
  have e : (L.set (m - 1) r).getD (m - 1 + (i + 1)) rl0 = L.getD (m + i) rl0 := by
   rw [show m - 1 + (i + 1) = m + i by omega, List.getD_eq_getElem?_getD, List.getD_eq_getElem?_getD, List.getElem?_set_ne (by omega)]
  have h9 := h.2 i (by simp; omega)
  rw [getD_drop, getD_drop] at h9
  rw [e, show m - 1 + (i + 1) = m + i by omega]
  exact h9
theorem RatsN.dnil {u : World} {L : List RL} {T : List Rat} {m K : Nat} (hL : L.length = m) (ht : T.length = m) : RatsN u (L.drop m) (T.drop m) K := by
 rw [List.drop_of_length_le (by omega), List.drop_of_length_le (by omega)]; exact RatsN.nil u K
theorem RatsN.dall {u : World} {L : List RL} {T : List Rat} {m K : Nat} (h : RatsN u (L.drop m) (T.drop m) K) (hm : m = 0) : RatsN u L T K := by subst hm; exact h
set_option maxHeartbeats 1000000 in
theorem k_dn1 {u w : World} {r v : RL} {q y : Rat} {K M j b6 : Nat} (d : Dat u w) (hr : RatV u r q M) (hv : RatN u v y K) (h6 : u.heap[b6]? = some (.cells r.cs.toArray 29 (0, 0))) (hq : q ≠ 0) (hK : K ≤ 10000000) (hM : M ≤ 10000000) : Calls Tryz.prog 142 #[.int .i64 (j : Int), v.v, .pointer (some ⟨b6, 0, none⟩)] w (Post u w fun v u' => ∃ r : RL, v = r.v ∧ RatN u' r (y / q) (K + M)) := by
 refine zzl (args := [.int .i64 (j : Int), v.v, .pointer (some ⟨b6, 0, none⟩)]) Tryz.func142 rfl Tryz.ntmps142 (rs := [.cell 5 29]) Tryz.results142 (le_b rfl) (le_b rfl) d ?_
 refine sq9 ?_
 refine zzj 4 ⟨29, v.cs⟩ ?_
 refine zzj 5 ⟨29, [.bool false, .slice none 0 0, .slice none 0 0]⟩ ?_
 refine zzb 15 [(2, .v (.pointer (some ⟨b6, 0, none⟩))), (4, .adr 4 0), (5, .adr 5 0)] [(4, ⟨29, v.cs⟩), (5, ⟨29, [.bool false, .slice none 0 0, .slice none 0 0]⟩)] ?_
 refine sq9 ?_
 refine zzh 9 (.v (v.v)) ty29 zzd ?_
 refine zyl 10 (r.cs) (var_cells h6) ty29 ?_
 refine zzf 11 143 [v.v, r.v] ?_
 intro w11 u11 e11 d11
 have k16 := k_ratDiv1 d11 (hv.ext e11).raw (hr.ext e11) hq (by omega) (by omega)
 with_reducible refine Post.mono k16 ?_
 rintro _ u14 g15 ⟨r12, rfl, h13⟩
 refine zza 8 (.v (.tuple #[r12.v, .int .i64 0])) ?_
 refine zza 12 (.v (r12.v)) ?_
 refine zza 13 (.v (.int .i64 0)) ?_
 refine zzj 6 ⟨29, [.bool false, .slice none 0 0, .slice none 0 0]⟩ ?_
 refine zzi ⟨29, r12.cs⟩ ty29 ?_
 refine zza 7 (.v (.int .i64 0)) ?_
 refine zzb 15 [(5, .adr 5 0), (6, .adr 6 0)] [(5, ⟨29, [.bool false, .slice none 0 0, .slice none 0 0]⟩), (6, ⟨29, r12.cs⟩)] ?_
 refine sq9 ?_
 refine zzh 14 (.v (r12.v)) ty29 zzd ?_
 refine zzi ⟨29, r12.cs⟩ ty29 ?_
 refine zzb 15 [(5, .adr 5 0)] [(5, ⟨29, r12.cs⟩)] ?_
 refine zzn (ret0 [r12.v] ⟨zzq ty29 zzd, trivial⟩ fun u17 e18 => ?_)
 exact ⟨r12, rfl, RatN.more (K := (K + M)) (h13.ext e18) (by omega)⟩
set_option maxHeartbeats 2000000 in
theorem k_mapDn1 {u w : World} {x : Sl} {l : List Rat} {r : RL} {q : Rat} {K M b6 : Nat} (d : Dat u w) (hx : PolN u x l K) (hr : RatV u r q M) (h6 : u.heap[b6]? = some (.cells r.cs.toArray 29 (0, 0))) (hq : q ≠ 0) (hK : K ≤ 10000000) (hM : M ≤ 10000000) (hl : l.length ≤ 1000000) : Calls Tryz.prog 109 #[x.v, .func (.func 142) #[] #[.pointer (some ⟨b6, 0, none⟩)]] w (Post u w fun v u' => NewR u x.n (Nt.divS l q) (K + M) v u') := by
 have hlen := hx.len
 have hul := Nt.divS_len l q
 refine zzl (args := [.slice x.a x.n x.c, .func (.func 142) #[] #[.pointer (some ⟨b6, 0, none⟩)]]) Tryz.func109 rfl Tryz.ntmps109 (rs := [.tmp 4]) Tryz.results109 (le_b rfl) (le_b rfl) d ?_
 refine sq9 ?_
 refine zza 4 (.v (.slice none 0 0)) ?_
 refine zzb 27 [(0, .v x.v), (1, .v (.func (.func 142) #[] #[.pointer (some ⟨b6, 0, none⟩)]))] [] ?_
 refine sq9 ?_
 refine zza 8 (.v x.v) ?_
 refine zza 9 (.v (.int .i64 (x.n : Int))) ?_
 refine sy_make 10 (T := 24) (E := 29) (z := .agg #[.bool false, .slice none 0 0, .slice none 0 0]) (size := 3) (bytes := 56) x.n (rcs (List.replicate x.n rl0)) (by kernel_rfl) (by kernel_rfl) rfl rfl (by omega) (by unfold maxLen; omega) (made_rcs _) ?_
 refine zza 5 (.slc 10 0 x.n x.n) ?_
 refine zzb 27 [(0, .v x.v), (1, .v (.func (.func 142) #[] #[.pointer (some ⟨b6, 0, none⟩)])), (5, .slc 10 0 x.n x.n)] [(10, ⟨29, rcs (List.replicate x.n rl0)⟩)] ?_
 refine zzc ?_
 refine sq9 ?_
 refine zza 11 (.v x.v) ?_
 refine zza 12 (.v (.int .i64 (x.n : Int))) ?_
 refine zza 13 (.v (.int .i64 0)) ?_
 refine zzb 27 [(1, .v (.func (.func 142) #[] #[.pointer (some ⟨b6, 0, none⟩)])), (5, .slc 10 0 x.n x.n), (11, .v x.v), (12, .v (.int .i64 (x.n : Int))), (13, .v (.int .i64 0))] [(10, ⟨29, rcs (List.replicate x.n rl0)⟩)] ?_
 refine zzs ?_
 refine zym (I := fun m11 S' u' => ∃ (i : Nat) (L : List RL), (m11 = x.n - i) ∧ (i ≤ x.n) ∧ (L.length = x.n) ∧ (S' = St.of 27 [(1, .v (.func (.func 142) #[] #[.pointer (some ⟨b6, 0, none⟩)])), (5, .slc 10 0 x.n x.n), (11, .v (.slice x.a x.n x.c)), (12, .v (.int .i64 (x.n : Int))), (13, .v (.int .i64 (i : Int)))] [(10, ⟨29, rcs L⟩)]) ∧ (Ext u u') ∧ (RatsN u' (L.take i) ((Nt.divS l q).take i) (K + M))) (fun m S u1 u2 e h => by obtain ⟨i, L, hm, p0, p1, hS, hE, f0⟩ := h; exact ⟨i, L, hm, p0, p1, hS, hE.trans e, f0.ext e⟩) _ (T := St.of 27 [(1, .v (.func (.func 142) #[] #[.pointer (some ⟨b6, 0, none⟩)])), (5, .slc 10 0 x.n x.n), (11, .v (.slice x.a x.n x.c)), (12, .v (.int .i64 (x.n : Int))), (13, .v (.int .i64 0))] [(10, ⟨29, rcs (List.replicate x.n rl0)⟩)]) (by exact zzu _ _ _) ⟨0, List.replicate x.n rl0, rfl, by omega, by simp, rfl, Ext.refl _, RatsN.tnil _ _ _ _⟩ ?_
 rintro m11 _ u11 ⟨i, L, hm11, hi, hL, rfl, e11, hR⟩
 refine sq9 ?_
 refine zza 14 (.v (.bool (decide ((i : Int) < (x.n : Int))))) ?_
 refine zzb 27 [(1, .v (.func (.func 142) #[] #[.pointer (some ⟨b6, 0, none⟩)])), (5, .slc 10 0 x.n x.n), (11, .v x.v), (12, .v (.int .i64 (x.n : Int))), (13, .v (.int .i64 (i : Int))), (14, .v (.bool (decide ((i : Int) < (x.n : Int)))))] [(10, ⟨29, rcs L⟩)] ?_
 refine zzc ?_
 refine zzt (b := decide ((i : Int) < (x.n : Int))) (by kernel_rfl) (fun hb12 => ?_) (fun hb12 => ?_)
 ·replace hb12 : (decide ((i : Int) < (x.n : Int))) = true := hb12
  have qhb12 := of_decide_eq_true hb12
  refine zzr (zzo ?_)
  refine zzc ?_
  refine zzs ?_
  refine sq9 ?_
  refine zza 15 (.v (.int .i64 (i : Int))) ?_
  have hl13 := (hx.ext e11).len
  obtain ⟨r13, b13, o13, hA13, hc13, hr13⟩ := pol_atN (hx.ext e11) (i := i) (by omega)
  refine zzz 16 (o13 + i * 3) (n := x.n) (off := o13) (sz := 3) (i := (i : Int)) (by omega) hA13 (by omega) (by omega) sl24 ?_
  refine zyl 17 r13.cs hc13 ty29 ?_
  refine zzj 7 ⟨29, [.bool false, .slice none 0 0, .slice none 0 0]⟩ ?_
  refine zza 6 (.v (.int .i64 (i : Int))) ?_
  refine zzi ⟨29, r13.cs⟩ ty29 ?_
  refine zzb 27 [(1, .v (.func (.func 142) #[] #[.pointer (some ⟨b6, 0, none⟩)])), (5, .slc 10 0 x.n x.n), (6, .v (.int .i64 (i : Int))), (7, .adr 7 0), (11, .v x.v), (12, .v (.int .i64 (x.n : Int))), (13, .v (.int .i64 (i : Int)))] [(7, ⟨29, r13.cs⟩), (10, ⟨29, rcs L⟩)] ?_
  refine zze ?_
  refine zza 18 (.slc 10 0 x.n x.n) ?_
  refine zza 19 (.v (.int .i64 (i : Int))) ?_
  refine zza 20 (.v (.func (.func 142) #[] #[.pointer (some ⟨b6, 0, none⟩)])) ?_
  refine zza 21 (.v (.int .i64 (i : Int))) ?_
  refine zzh 22 (.v (r13.v)) ty29 zzd ?_
  refine zzf 23 142 [.int .i64 (i : Int), r13.v, .pointer (some ⟨b6, 0, none⟩)] ?_
  intro w14 u14 e14 d14
  have k19 := k_dn1 (j := i) d14 (hr.ext (e11.trans e14)) (hr13.ext e14) ((e11.trans e14).cells h6) hq (by omega) (by omega)
  with_reducible refine Post.mono k19 ?_
  rintro _ u17 g18 ⟨r15, rfl, h16⟩
  refine zyv 24 (off' := i * 3) (n := x.n) (off := 0) (sz := 3) (i := (i : Int)) sl24 (by omega) (by omega) (by omega) ?_
  refine zyu (V := ⟨29, rcs L⟩) (off := i * 3) (rcs ((L).set i r15)) ty29 (by rw [zyx]; first|omega|(simp;omega)) (zyw (r := r15) (i := i) (by first|omega|(simp;omega)) rfl) ?_
  refine zzw ?_
  refine zzo ?_
  refine zze ?_
  refine zyp 25 (x := .v (.int .i64 (IntKind.i64.wrap ((i : Int) + 1)))) (.v (.int .i64 ((i + 1 : Nat) : Int))) (eqI (by rw [IntWalk.i64_in _ (by omega)]; omega)) ?_
  refine zza 13 (.v (.int .i64 ((i + 1 : Nat) : Int))) ?_
  refine zzw ?_
  have ht20 : i < (Nt.divS l q).length := by rw [hul]; omega
  refine ⟨_, ?_, St.of 27 [(1, .v (.func (.func 142) #[] #[.pointer (some ⟨b6, 0, none⟩)])), (5, .slc 10 0 x.n x.n), (11, .v (.slice x.a x.n x.c)), (12, .v (.int .i64 (x.n : Int))), (13, .v (.int .i64 ((i + 1 : Nat) : Int)))] [(10, ⟨29, rcs ((L).set i r15)⟩)], by exact zzu _ _ _, i + 1, (L).set i r15, rfl, by omega, by simpa using hL, rfl, (e11.trans (e14.trans g18.ext)), RatsN.tstep (hR.ext (e14.trans g18.ext)) (by omega) ht20 (RatN.more (K := (K + M)) h16 (by omega)) (by rw [← Nt.divS_at l q (j := i) (by omega)])⟩
  omega
 ·replace hb12 : (decide ((i : Int) < (x.n : Int))) = false := hb12
  have qhb12 := of_decide_eq_false hb12
  refine zyb ?_
  refine zzo ?_
  refine zzc ?_
  refine zyo (r := 5) (t := 10) [5, 10] (by repeat first | exact noAt_of | refine zyc ?_ | refine zye ?_ | refine zyd ?_ | refine zzx ?_ | refine zya ?_) (by kernel_rfl) (by rfl) (by rfl) (by kernel_rfl) (fun b21 u22 e23 hb24 hh25 => ?_)
  have hp26 : PolN u22 ⟨some ⟨b21, 0, none⟩, x.n, x.n⟩ (Nt.divS l q) (K + M) := pol_data1 hh25 (by unfold maxLen; omega) (RatsN.tdone (hR.ext e23) (by omega) (by rw [hul]; omega)) (by omega)
  refine zze ?_
  refine zza 26 (.v (.slice (some ⟨b21, 0, none⟩) x.n x.n)) ?_
  refine zza 4 (.v (.slice (some ⟨b21, 0, none⟩) x.n x.n)) ?_
  refine zzb 27 [(4, .v (.slice (some ⟨b21, 0, none⟩) x.n x.n))] [] ?_
  refine zzn (ret0 [.slice (some ⟨b21, 0, none⟩) x.n x.n] ⟨zzp, trivial⟩ fun u27 e28 => ?_)
  exact ⟨b21, L, rfl, hb24, e28.cells hh25, by omega, (RatsN.tdone (hR.ext (e23.trans e28)) (by omega) (by rw [hul]; omega))⟩
set_option maxHeartbeats 2000000 in
theorem k_dn2 {u w : World} {x : Sl} {l : List Rat} {r s v : RL} {q p y : Rat} {K M N m j b10 b7 b9 b11 : Nat} (d : Dat u w) (hx : PolN u x l K) (hr : RatV u r q M) (hs : RatV u s p N) (hv : RatN u v y K) (h10 : u.heap[b10]? = some (.cells r.cs.toArray 29 (0, 0))) (h7 : u.heap[b7]? = some (.cells [Value.slice x.a x.n x.c].toArray 24 (0, 0))) (h9 : u.heap[b9]? = some (.cells [Value.int .i64 (m : Int)].toArray 3 (0, 0))) (h11 : u.heap[b11]? = some (.cells s.cs.toArray 29 (0, 0))) (hp : p ≠ 0) (hm : m + 1 = l.length) (hj : j < m) (hK : K ≤ 10000000) (hM : M ≤ 10000000) (hN : N ≤ 10000000) (hl : l.length ≤ 1000000) : Calls Tryz.prog 144 #[.int .i64 (j : Int), v.v, .pointer (some ⟨b10, 0, none⟩), .pointer (some ⟨b7, 0, none⟩), .pointer (some ⟨b9, 0, none⟩), .pointer (some ⟨b11, 0, none⟩)] w (Post u w fun v u' => ∃ r : RL, v = r.v ∧ RatN u' r ((y - q * l.getD (m - j) 0) / p) (2 * K + M + N + 1)) := by
 have hlen := hx.len
 refine zzl (args := [.int .i64 (j : Int), v.v, .pointer (some ⟨b10, 0, none⟩), .pointer (some ⟨b7, 0, none⟩), .pointer (some ⟨b9, 0, none⟩), .pointer (some ⟨b11, 0, none⟩)]) Tryz.func144 rfl Tryz.ntmps144 (rs := [.cell 8 29]) Tryz.results144 (le_b rfl) (le_b rfl) d ?_
 refine sq9 ?_
 refine zzj 7 ⟨29, v.cs⟩ ?_
 refine zzj 8 ⟨29, [.bool false, .slice none 0 0, .slice none 0 0]⟩ ?_
 refine zzb 27 [(0, .v (.int .i64 (j : Int))), (2, .v (.pointer (some ⟨b10, 0, none⟩))), (3, .v (.pointer (some ⟨b7, 0, none⟩))), (4, .v (.pointer (some ⟨b9, 0, none⟩))), (5, .v (.pointer (some ⟨b11, 0, none⟩))), (7, .adr 7 0), (8, .adr 8 0)] [(7, ⟨29, v.cs⟩), (8, ⟨29, [.bool false, .slice none 0 0, .slice none 0 0]⟩)] ?_
 refine zzc ?_
 refine zzy [0, 0, 0, 0, 0, 24, 60, 124, 254, 511, 0, 2047, 4095, 8191, 8191, 0, 49151, 131071] [(0, []), (1, []), (2, []), (3, []), (4, []), (5, []), (6, []), (7, []), (10, []), (15, []), (8, []), (9, []), (11, []), (12, []), (13, []), (14, []), (16, []), (17, [])] (by kernel_rfl) (by kernel_rfl) ?_
 refine zzh 12 (.v (v.v)) ty29 zzd ?_
 refine zyl 13 (r.cs) (var_cells h10) ty29 ?_
 refine zyk 14 x.v (var_cell1 h7) ty24 ?_
 refine zyk 15 (.int .i64 (m : Int)) (var_cell1 h9) ty3 ?_
 refine zza 16 (.v (.int .i64 (j : Int))) ?_
 refine zyp 17 (x := .v (.int .i64 (IntKind.i64.wrap ((m : Int) - (j : Int))))) (.v (.int .i64 ((m - j : Nat) : Int))) (eqI (by rw [IntWalk.i64_in _ (by omega)]; omega)) ?_
 have hl11 := hx.len
 obtain ⟨r11, b11, o11, hA11, hc11, hr11⟩ := pol_atN hx (i := m - j) (by omega)
 refine zzz 18 (o11 + (m - j) * 3) (n := x.n) (off := o11) (sz := 3) (i := ((m - j : Nat) : Int)) (by omega) hA11 (by omega) (by omega) sl24 ?_
 refine zyl 19 r11.cs hc11 ty29 ?_
 refine zyl 22 (s.cs) (var_cells h11) ty29 ?_
 refine zzj 9 ⟨29, [.bool false, .slice none 0 0, .slice none 0 0]⟩ ?_
 refine zzf 20 112 [r.v, r11.v] ?_
 intro w12 u12 e12 d12
 have k17 := k_ratMul d12 (hr.ext e12) (hr11.ext e12).raw (by omega) (by omega)
 with_reducible refine Post.mono k17 ?_
 rintro _ u15 g16 ⟨r13, rfl, h14⟩
 refine zzf 21 135 [v.v, r13.v] ?_
 intro w18 u18 e18 d18
 have k23 := k_ratSub d18 (hv.ext (e12.trans (g16.ext.trans e18))).raw (h14.ext e18).raw (by omega) (by omega)
 with_reducible refine Post.mono k23 ?_
 rintro _ u21 g22 ⟨r19, rfl, h20⟩
 refine zzf 23 143 [r19.v, s.v] ?_
 intro w24 u24 e24 d24
 have k29 := k_ratDiv1 d24 (h20.ext e24).raw (hs.ext (e12.trans (g16.ext.trans (e18.trans (g22.ext.trans e24))))) hp (by omega) (by omega)
 with_reducible refine Post.mono k29 ?_
 rintro _ u27 g28 ⟨r25, rfl, h26⟩
 refine zza 11 (.v (.tuple #[r25.v, .int .i64 0])) ?_
 refine zza 24 (.v (r25.v)) ?_
 refine zza 25 (.v (.int .i64 0)) ?_
 refine zzi ⟨29, r25.cs⟩ ty29 ?_
 refine zza 10 (.v (.int .i64 0)) ?_
 refine zzb 27 [(8, .adr 8 0), (9, .adr 9 0)] [(8, ⟨29, [.bool false, .slice none 0 0, .slice none 0 0]⟩), (9, ⟨29, r25.cs⟩)] ?_
 refine sq9 ?_
 refine zzh 26 (.v (r25.v)) ty29 zzd ?_
 refine zzi ⟨29, r25.cs⟩ ty29 ?_
 refine zzb 27 [(8, .adr 8 0)] [(8, ⟨29, r25.cs⟩)] ?_
 refine zzn (ret0 [r25.v] ⟨zzq ty29 zzd, trivial⟩ fun u30 e31 => ?_)
 exact ⟨r25, rfl, RatN.more (K := ((K + (M + K) + 1) + N)) (h26.ext e31) (by omega)⟩
theorem getD_take (l : List Rat) {m i : Nat} (h : i < m) : (l.take m).getD i 0 = l.getD i 0 := by
 rw [List.getD_eq_getElem?_getD, List.getD_eq_getElem?_getD, List.getElem?_take_of_lt h]
set_option maxHeartbeats 2000000 in
theorem k_mapDn2 {u w : World} {x z : Sl} {l : List Rat} {r s : RL} {q p : Rat} {K M N m b10 b7 b9 b11 : Nat} (d : Dat u w) (hx : PolN u x l K) (hr : RatV u r q M) (hs : RatV u s p N) (hz : PolN u z (l.take m) K) (h10 : u.heap[b10]? = some (.cells r.cs.toArray 29 (0, 0))) (h7 : u.heap[b7]? = some (.cells [Value.slice x.a x.n x.c].toArray 24 (0, 0))) (h9 : u.heap[b9]? = some (.cells [Value.int .i64 (m : Int)].toArray 3 (0, 0))) (h11 : u.heap[b11]? = some (.cells s.cs.toArray 29 (0, 0))) (hp : p ≠ 0) (hm : m + 1 = l.length) (hqe : q = l.getD m 0) (hpe : p = ((1 : Int) : Rat) - q * q) (hK : K ≤ 10000000) (hM : M ≤ 10000000) (hN : N ≤ 10000000) (hl : l.length ≤ 1000000) : Calls Tryz.prog 109 #[z.v, .func (.func 144) #[] #[.pointer (some ⟨b10, 0, none⟩), .pointer (some ⟨b7, 0, none⟩), .pointer (some ⟨b9, 0, none⟩), .pointer (some ⟨b11, 0, none⟩)]] w (Post u w fun v u' => NewR u z.n (Nt.dnS l m) (2 * K + M + N + 1) v u') := by
 have hlen := hx.len
 have hlez := hz.len
 rw [List.length_take] at hlez
 have hul := Nt.dnS_len l m
 refine zzl (args := [.slice z.a z.n z.c, .func (.func 144) #[] #[.pointer (some ⟨b10, 0, none⟩), .pointer (some ⟨b7, 0, none⟩), .pointer (some ⟨b9, 0, none⟩), .pointer (some ⟨b11, 0, none⟩)]]) Tryz.func109 rfl Tryz.ntmps109 (rs := [.tmp 4]) Tryz.results109 (le_b rfl) (le_b rfl) d ?_
 refine sq9 ?_
 refine zza 4 (.v (.slice none 0 0)) ?_
 refine zzb 27 [(0, .v z.v), (1, .v (.func (.func 144) #[] #[.pointer (some ⟨b10, 0, none⟩), .pointer (some ⟨b7, 0, none⟩), .pointer (some ⟨b9, 0, none⟩), .pointer (some ⟨b11, 0, none⟩)]))] [] ?_
 refine sq9 ?_
 refine zza 8 (.v z.v) ?_
 refine zza 9 (.v (.int .i64 (z.n : Int))) ?_
 refine sy_make 10 (T := 24) (E := 29) (z := .agg #[.bool false, .slice none 0 0, .slice none 0 0]) (size := 3) (bytes := 56) z.n (rcs (List.replicate z.n rl0)) (by kernel_rfl) (by kernel_rfl) rfl rfl (by omega) (by unfold maxLen; omega) (made_rcs _) ?_
 refine zza 5 (.slc 10 0 z.n z.n) ?_
 refine zzb 27 [(0, .v z.v), (1, .v (.func (.func 144) #[] #[.pointer (some ⟨b10, 0, none⟩), .pointer (some ⟨b7, 0, none⟩), .pointer (some ⟨b9, 0, none⟩), .pointer (some ⟨b11, 0, none⟩)])), (5, .slc 10 0 z.n z.n)] [(10, ⟨29, rcs (List.replicate z.n rl0)⟩)] ?_
 refine zzc ?_
 refine sq9 ?_
 refine zza 11 (.v z.v) ?_
 refine zza 12 (.v (.int .i64 (z.n : Int))) ?_
 refine zza 13 (.v (.int .i64 0)) ?_
 refine zzb 27 [(1, .v (.func (.func 144) #[] #[.pointer (some ⟨b10, 0, none⟩), .pointer (some ⟨b7, 0, none⟩), .pointer (some ⟨b9, 0, none⟩), .pointer (some ⟨b11, 0, none⟩)])), (5, .slc 10 0 z.n z.n), (11, .v z.v), (12, .v (.int .i64 (z.n : Int))), (13, .v (.int .i64 0))] [(10, ⟨29, rcs (List.replicate z.n rl0)⟩)] ?_
 refine zzs ?_
 refine zym (I := fun m11 S' u' => ∃ (i : Nat) (L : List RL), (m11 = z.n - i) ∧ (i ≤ z.n) ∧ (L.length = z.n) ∧ (S' = St.of 27 [(1, .v (.func (.func 144) #[] #[.pointer (some ⟨b10, 0, none⟩), .pointer (some ⟨b7, 0, none⟩), .pointer (some ⟨b9, 0, none⟩), .pointer (some ⟨b11, 0, none⟩)])), (5, .slc 10 0 z.n z.n), (11, .v (.slice z.a z.n z.c)), (12, .v (.int .i64 (z.n : Int))), (13, .v (.int .i64 (i : Int)))] [(10, ⟨29, rcs L⟩)]) ∧ (Ext u u') ∧ (RatsN u' (L.take i) ((Nt.dnS l m).take i) (2 * K + M + N + 1))) (fun m S u1 u2 e h => by obtain ⟨i, L, hm, p0, p1, hS, hE, f0⟩ := h; exact ⟨i, L, hm, p0, p1, hS, hE.trans e, f0.ext e⟩) _ (T := St.of 27 [(1, .v (.func (.func 144) #[] #[.pointer (some ⟨b10, 0, none⟩), .pointer (some ⟨b7, 0, none⟩), .pointer (some ⟨b9, 0, none⟩), .pointer (some ⟨b11, 0, none⟩)])), (5, .slc 10 0 z.n z.n), (11, .v (.slice z.a z.n z.c)), (12, .v (.int .i64 (z.n : Int))), (13, .v (.int .i64 0))] [(10, ⟨29, rcs (List.replicate z.n rl0)⟩)]) (by exact zzu _ _ _) ⟨0, List.replicate z.n rl0, rfl, by omega, by simp, rfl, Ext.refl _, RatsN.tnil _ _ _ _⟩ ?_
 rintro m11 _ u11 ⟨i, L, hm11, hi, hL, rfl, e11, hR⟩
 refine sq9 ?_
 refine zza 14 (.v (.bool (decide ((i : Int) < (z.n : Int))))) ?_
 refine zzb 27 [(1, .v (.func (.func 144) #[] #[.pointer (some ⟨b10, 0, none⟩), .pointer (some ⟨b7, 0, none⟩), .pointer (some ⟨b9, 0, none⟩), .pointer (some ⟨b11, 0, none⟩)])), (5, .slc 10 0 z.n z.n), (11, .v z.v), (12, .v (.int .i64 (z.n : Int))), (13, .v (.int .i64 (i : Int))), (14, .v (.bool (decide ((i : Int) < (z.n : Int)))))] [(10, ⟨29, rcs L⟩)] ?_
 refine zzc ?_
 refine zzt (b := decide ((i : Int) < (z.n : Int))) (by kernel_rfl) (fun hb12 => ?_) (fun hb12 => ?_)
 ·replace hb12 : (decide ((i : Int) < (z.n : Int))) = true := hb12
  have qhb12 := of_decide_eq_true hb12
  refine zzr (zzo ?_)
  refine zzc ?_
  refine zzs ?_
  refine sq9 ?_
  refine zza 15 (.v (.int .i64 (i : Int))) ?_
  have hl13 := (hz.ext e11).len
  obtain ⟨r13, b13, o13, hA13, hc13, hr13⟩ := pol_atN (hz.ext e11) (i := i) (by omega)
  refine zzz 16 (o13 + i * 3) (n := z.n) (off := o13) (sz := 3) (i := (i : Int)) (by omega) hA13 (by omega) (by omega) sl24 ?_
  refine zyl 17 r13.cs hc13 ty29 ?_
  refine zzj 7 ⟨29, [.bool false, .slice none 0 0, .slice none 0 0]⟩ ?_
  refine zza 6 (.v (.int .i64 (i : Int))) ?_
  refine zzi ⟨29, r13.cs⟩ ty29 ?_
  refine zzb 27 [(1, .v (.func (.func 144) #[] #[.pointer (some ⟨b10, 0, none⟩), .pointer (some ⟨b7, 0, none⟩), .pointer (some ⟨b9, 0, none⟩), .pointer (some ⟨b11, 0, none⟩)])), (5, .slc 10 0 z.n z.n), (6, .v (.int .i64 (i : Int))), (7, .adr 7 0), (11, .v z.v), (12, .v (.int .i64 (z.n : Int))), (13, .v (.int .i64 (i : Int)))] [(7, ⟨29, r13.cs⟩), (10, ⟨29, rcs L⟩)] ?_
  refine zze ?_
  refine zza 18 (.slc 10 0 z.n z.n) ?_
  refine zza 19 (.v (.int .i64 (i : Int))) ?_
  refine zza 20 (.v (.func (.func 144) #[] #[.pointer (some ⟨b10, 0, none⟩), .pointer (some ⟨b7, 0, none⟩), .pointer (some ⟨b9, 0, none⟩), .pointer (some ⟨b11, 0, none⟩)])) ?_
  refine zza 21 (.v (.int .i64 (i : Int))) ?_
  refine zzh 22 (.v (r13.v)) ty29 zzd ?_
  refine zzf 23 144 [.int .i64 (i : Int), r13.v, .pointer (some ⟨b10, 0, none⟩), .pointer (some ⟨b7, 0, none⟩), .pointer (some ⟨b9, 0, none⟩), .pointer (some ⟨b11, 0, none⟩)] ?_
  intro w14 u14 e14 d14
  have k19 := k_dn2 (j := i) d14 (hx.ext (e11.trans e14)) (hr.ext (e11.trans e14)) (hs.ext (e11.trans e14)) (hr13.ext e14) ((e11.trans e14).cells h10) ((e11.trans e14).cells h7) ((e11.trans e14).cells h9) ((e11.trans e14).cells h11) hp hm (by omega) (by omega) (by omega) (by omega) (by omega)
  with_reducible refine Post.mono k19 ?_
  rintro _ u17 g18 ⟨r15, rfl, h16⟩
  refine zyv 24 (off' := i * 3) (n := z.n) (off := 0) (sz := 3) (i := (i : Int)) sl24 (by omega) (by omega) (by omega) ?_
  refine zyu (V := ⟨29, rcs L⟩) (off := i * 3) (rcs ((L).set i r15)) ty29 (by rw [zyx]; first|omega|(simp;omega)) (zyw (r := r15) (i := i) (by first|omega|(simp;omega)) rfl) ?_
  refine zzw ?_
  refine zzo ?_
  refine zze ?_
  refine zyp 25 (x := .v (.int .i64 (IntKind.i64.wrap ((i : Int) + 1)))) (.v (.int .i64 ((i + 1 : Nat) : Int))) (eqI (by rw [IntWalk.i64_in _ (by omega)]; omega)) ?_
  refine zza 13 (.v (.int .i64 ((i + 1 : Nat) : Int))) ?_
  refine zzw ?_
  have ht20 : i < (Nt.dnS l m).length := by rw [hul]; omega
  refine ⟨_, ?_, St.of 27 [(1, .v (.func (.func 144) #[] #[.pointer (some ⟨b10, 0, none⟩), .pointer (some ⟨b7, 0, none⟩), .pointer (some ⟨b9, 0, none⟩), .pointer (some ⟨b11, 0, none⟩)])), (5, .slc 10 0 z.n z.n), (11, .v (.slice z.a z.n z.c)), (12, .v (.int .i64 (z.n : Int))), (13, .v (.int .i64 ((i + 1 : Nat) : Int)))] [(10, ⟨29, rcs ((L).set i r15)⟩)], by exact zzu _ _ _, i + 1, (L).set i r15, rfl, by omega, by simpa using hL, rfl, (e11.trans (e14.trans g18.ext)), RatsN.tstep (hR.ext (e14.trans g18.ext)) (by omega) ht20 (RatN.more (K := (2 * K + M + N + 1)) h16 (by omega)) (by rw [Nt.dnS_at l (by omega), hqe, hpe, hqe, getD_take l (by omega)])⟩
  omega
 ·replace hb12 : (decide ((i : Int) < (z.n : Int))) = false := hb12
  have qhb12 := of_decide_eq_false hb12
  refine zyb ?_
  refine zzo ?_
  refine zzc ?_
  refine zyo (r := 5) (t := 10) [5, 10] (by repeat first | exact noAt_of | refine zyc ?_ | refine zye ?_ | refine zyd ?_ | refine zzx ?_ | refine zya ?_) (by kernel_rfl) (by rfl) (by rfl) (by kernel_rfl) (fun b21 u22 e23 hb24 hh25 => ?_)
  have hp26 : PolN u22 ⟨some ⟨b21, 0, none⟩, z.n, z.n⟩ (Nt.dnS l m) (2 * K + M + N + 1) := pol_data1 hh25 (by unfold maxLen; omega) (RatsN.tdone (hR.ext e23) (by omega) (by rw [hul]; omega)) (by omega)
  refine zze ?_
  refine zza 26 (.v (.slice (some ⟨b21, 0, none⟩) z.n z.n)) ?_
  refine zza 4 (.v (.slice (some ⟨b21, 0, none⟩) z.n z.n)) ?_
  refine zzb 27 [(4, .v (.slice (some ⟨b21, 0, none⟩) z.n z.n))] [] ?_
  refine zzn (ret0 [.slice (some ⟨b21, 0, none⟩) z.n z.n] ⟨zzp, trivial⟩ fun u27 e28 => ?_)
  exact ⟨b21, L, rfl, hb24, e28.cells hh25, by omega, (RatsN.tdone (hR.ext (e23.trans e28)) (by omega) (by rw [hul]; omega))⟩
theorem k_stWrong {u w : World} {x : Sl} {l : List Rat} {K : Nat} (d : Dat u w) (hx : PolV u x l K) (hn : l.getD 0 0 ≠ 0) (hK : K ≤ 10000000) (hl : l.length ≤ 40) : Calls Tryz.prog 141 #[x.v] w (Post u w fun v _ => v = .int .i64 0) := by
 have hlen := hx.len
 have hpos : 0 < l.length := by
  cases l with
  | nil => exact absurd rfl hn
  | cons a l => simp
 refine zzl (args := [.slice x.a x.n x.c]) Tryz.func141 rfl Tryz.ntmps141 (rs := [.tmp 2]) Tryz.results141 (le_b rfl) (le_b rfl) d ?_
 refine sq9 ?_
 refine zza 2 (.v (.int .i64 0)) ?_
 refine zzb 16 [(0, .v x.v)] [] ?_
 refine zzc ?_
 refine sq9 ?_
 refine zza 3 (.v x.v) ?_
 refine zzf 4 46 [x.v] ?_
 intro w11 u11 e11 d11
 have k14 := k_poDegree d11 (hx.ext e11) (by omega) (by first|omega|(simp;omega) | (refine Nat.le_trans (Nt.zzg _) ?_; first|omega|(simp;omega)) | (refine Nat.le_trans (Nt.zzg _) ?_; simp only [List.length_map]; refine Nat.le_trans (Nt.zzg _) ?_; first|omega|(simp;omega)))
 with_reducible refine Post.mono k14 ?_
 rintro _ u12 g13 rfl
 refine zza 5 (.v (.bool (decide ((48 : Int) < (((Nt.trimQ l).length : Int) - 1))))) ?_
 refine zzb 16 [(0, .v x.v), (5, .v (.bool (decide ((48 : Int) < (((Nt.trimQ l).length : Int) - 1)))))] [] ?_
 refine zzt (b := decide ((48 : Int) < (((Nt.trimQ l).length : Int) - 1))) (by kernel_rfl) (fun hb => ?_) (fun hb => ?_)
 ·exact absurd hb (by rw [show (decide ((48 : Int) < (((Nt.trimQ l).length : Int) - 1))) = false from decide_eq_false (by have h9 := Nt.zzg l; omega)]; decide)
 ·clear hb
  refine zzr (zzo ?_)
  refine zzc ?_
  refine sq9 ?_
  refine zza 6 (.v x.v) ?_
  refine zza 7 (.v (.int .i64 (x.n : Int))) ?_
  refine zza 8 (.v (.bool ((x.n : Int) == 0))) ?_
  refine zyp 9 (x := .v (.bool ((x.n : Int) == 0))) (.v (.bool false)) (by rw [show ((x.n : Int) == 0) = false from (by simp; omega)]) ?_
  refine zza 10 (.v x.v) ?_ (hw := w1 3 false 9)
  have hl16 := (hx.ext (e11.trans g13.ext)).len
  obtain ⟨r16, b16, o16, hA16, hc16, hr16⟩ := pol_at (hx.ext (e11.trans g13.ext)) (i := 0) (by omega)
  refine zzz 11 (o16 + 0 * 3) (n := x.n) (off := o16) (sz := 3) (i := 0) (by omega) hA16 (by omega) (by omega) sl32 ?_ (hw := w1 3 false 9)
  refine zyl 12 r16.cs hc16 ty29 ?_ (hw := w1 3 false 9)
  refine zzf 13 159 [r16.v] ?_ (hw := w1 3 false 9)
  intro w17 u17 e17 d17
  have k20 := k_ratSign d17 (hr16.ext e17)
  with_reducible refine Post.mono k20 ?_
  rintro _ u18 g19 rfl
  refine zza 14 (.v (.bool ((Nt.sgQ (l.getD 0 0)) == 0))) ?_ (hw := w1 3 false 9)
  refine zza 15 (.v (.bool ((Nt.sgQ (l.getD 0 0)) == 0))) ?_
  refine zzb 16 [(15, .v (.bool ((Nt.sgQ (l.getD 0 0)) == 0)))] [] ?_
  refine zzt (b := (Nt.sgQ (l.getD 0 0)) == 0) (by kernel_rfl) (fun hb => ?_) (fun hb => ?_)
  ·exact absurd hb (by rw [show ((Nt.sgQ (l.getD 0 0)) == 0) = false from (by rw [Nt.sgQ_eq]; exact decide_eq_false hn)]; decide)
  ·clear hb
   refine zzr (zzo ?_)
   refine sq9 ?_
   refine zza 2 (.v (.int .i64 0)) ?_
   refine zzb 16 [(2, .v (.int .i64 0))] [] ?_
   refine zzn (ret0 [.int .i64 0] ⟨zzp, trivial⟩ fun u21 e22 => ?_)
   rfl
set_option maxHeartbeats 4000000 in
theorem k_reflect {u w : World} {x : Sl} {l : List Rat} {D : Nat → List Rat} {K n S : Nat} (d : Dat u w) (hx : PolV u x l K) (hD : Nt.Down (Nt.trimQ l) D n S) (hK : K ≤ 10000) (hS : S ≤ 10000) (hl : l.length ≤ 40) : Calls Tryz.prog 88 #[x.v] w (Post u w fun v u' => ∃ y : Sl, v = .tuple #[y.v, .int .i64 0] ∧ PolN u' y (Nt.refL D n) S) := by
 have hlen := hx.len
 have hDl := hD.len
 have htl := Nt.zzg l
 refine zzl (args := [.slice x.a x.n x.c]) Tryz.func88 rfl Tryz.ntmps88 (rs := [.tmp 2, .tmp 3]) Tryz.results88 (le_b rfl) (le_b rfl) d ?_
 refine sq9 ?_
 refine zza 2 (.v (.slice none 0 0)) ?_
 refine zza 3 (.v (.int .i64 0)) ?_
 refine zzb 61 [(0, .v x.v)] [] ?_
 refine zzc ?_
 refine sq9 ?_
 refine zza 12 (.v x.v) ?_
 refine zzf 13 141 [x.v] ?_
 intro w11 u11 e11 d11
 have k14 := k_stWrong d11 (hx.ext e11) (fun h => hD.nz ((Nt.trim_co l 0).trans h)) (by omega) (by omega)
 with_reducible refine Post.mono k14 ?_
 rintro _ u12 g13 rfl
 refine zza 4 (.v (.int .i64 0)) ?_
 refine zzb 61 [(0, .v x.v), (4, .v (.int .i64 0))] [] ?_
 refine sq9 ?_
 refine zza 14 (.v (.int .i64 0)) ?_
 refine zza 15 (.v (.bool false)) ?_
 refine zzb 61 [(0, .v x.v), (4, .v (.int .i64 0)), (15, .v (.bool false))] [] ?_
 refine zyr (by kernel_rfl) ?_
 refine zzr (zzo ?_)
 refine sq9 ?_
 refine zza 17 (.v x.v) ?_
 refine zzf 18 47 [x.v] ?_
 intro w15 u15 e15 d15
 have k20 := k_poTrim d15 (hx.ext (e11.trans (g13.ext.trans e15))) (by omega) (by first | omega | (simp; done) | (simp; omega))
 with_reducible refine Post.mono k20 ?_
 rintro _ u18 g19 ⟨y16, rfl, h17⟩
 have hly16 := h17.len
 refine zza 5 (.v y16.v) ?_
 refine zzb 61 [(5, .v y16.v)] [] ?_
 refine sq9 ?_
 refine zza 19 (.v y16.v) ?_
 have hl21 := h17.len
 obtain ⟨r21, b21, o21, hA21, hc21, hr21⟩ := pol_atN h17 (i := 0) (by omega)
 refine zzz 20 (o21 + 0 * 3) (n := y16.n) (off := o21) (sz := 3) (i := 0) (by omega) hA21 (by omega) (by omega) sl32 ?_
 refine zyl 21 r21.cs hc21 ty29 ?_
 refine zzj 6 ⟨29, [.bool false, .slice none 0 0, .slice none 0 0]⟩ ?_
 refine zzi ⟨29, r21.cs⟩ ty29 ?_
 refine zzb 61 [(5, .v y16.v), (6, .adr 6 0)] [(6, ⟨29, r21.cs⟩)] ?_
 refine zzc ?_
 refine sw_pubA (r := 6) (t := 6) [6] (by repeat first | exact noAt_of | refine zyc ?_ | refine zye ?_ | refine zyd ?_ | refine zzx ?_ | refine zya ?_) (by kernel_rfl) (by rfl) (by rfl) (by kernel_rfl) (fun b22 u23 e24 hb25 hv26 hh27 => ?_)
 refine zze ?_
 refine zza 22 (.v y16.v) ?_
 refine sy_fun 23 [.pointer (some ⟨b22, 0, none⟩)] ?_
 refine zzf 24 109 [y16.v, .func (.func 142) #[] #[.pointer (some ⟨b22, 0, none⟩)]] ?_
 intro w28 u28 e28 d28
 have k37 := k_mapDn1 d28 (h17.ext (e24.trans e28)) (hr21.ext (e24.trans e28)).raw (e28.cells hh27) hD.nz (by omega) (by omega) (by omega)
 with_reducible refine Post.mono k37 ?_
 rintro _ u35 g36 ⟨b29, L30, rfl, hb31, hh32, hL33, hR34⟩
 have hp38 : PolN u35 (⟨some ⟨b29, 0, none⟩, y16.n, y16.n⟩ : Sl) (Nt.divS (Nt.trimQ l) ((Nt.trimQ l).getD 0 0)) (K + K) := pol_data1 hh32 (by unfold maxLen; omega) hR34 (by omega)
 refine zzj 7 ⟨24, [.slice none 0 0]⟩ ?_
 refine zzi ⟨24, [.slice (some ⟨b29, 0, none⟩) y16.n y16.n]⟩ ty24 ?_
 refine zzb 61 [(7, .adr 7 0)] [(7, ⟨24, [.slice (some ⟨b29, 0, none⟩) y16.n y16.n]⟩)] ?_
 refine sq9 ?_
 refine zzh 25 (.v (.slice (some ⟨b29, 0, none⟩) y16.n y16.n)) ty24 zzk ?_
 refine zza 26 (.v (.int .i64 (y16.n : Int))) ?_
 refine zyp 27 (x := .v (.int .i64 (IntKind.i64.wrap ((y16.n : Int) - 1)))) (.v (.int .i64 (n : Int))) (eqI (by rw [IntWalk.i64_in _ (by omega)]; omega)) ?_
 refine sy_make 28 (T := 24) (E := 29) (z := .agg #[.bool false, .slice none 0 0, .slice none 0 0]) (size := 3) (bytes := 56) n (rcs (List.replicate n rl0)) (by kernel_rfl) (by kernel_rfl) rfl rfl (by omega) (by unfold maxLen; omega) (made_rcs _) ?_
 refine zza 8 (.slc 28 0 n n) ?_
 refine zzb 61 [(7, .adr 7 0), (8, .slc 28 0 n n)] [(7, ⟨24, [.slice (some ⟨b29, 0, none⟩) y16.n y16.n]⟩), (28, ⟨29, rcs (List.replicate n rl0)⟩)] ?_
 refine zzc ?_
 refine sq9 ?_
 refine zzh 29 (.v (.slice (some ⟨b29, 0, none⟩) y16.n y16.n)) ty24 zzk ?_
 refine zza 30 (.v (.int .i64 (y16.n : Int))) ?_
 refine zyp 31 (x := .v (.int .i64 (IntKind.i64.wrap ((y16.n : Int) - 1)))) (.v (.int .i64 (n : Int))) (eqI (by rw [IntWalk.i64_in _ (by omega)]; omega)) ?_
 refine zzj 9 ⟨3, [.int .i64 0]⟩ ?_
 refine zzi ⟨3, [.int .i64 (n : Int)]⟩ ty3 ?_
 refine zzb 61 [(7, .adr 7 0), (8, .slc 28 0 n n), (9, .adr 9 0)] [(7, ⟨24, [.slice (some ⟨b29, 0, none⟩) y16.n y16.n]⟩), (9, ⟨3, [.int .i64 (n : Int)]⟩), (28, ⟨29, rcs (List.replicate n rl0)⟩)] ?_
 refine zzs ?_
 have hn9 : n ≤ 40 := by have h9 := Nt.zzg l; omega
 refine zym (I := fun m39 S' u' => ∃ (m : Nat) (c : Sl) (L : List RL), (m39 = m) ∧ (m ≤ n) ∧ (L.length = n) ∧ (S' = St.of 61 [(7, .adr 7 0), (8, .slc 28 0 n n), (9, .adr 9 0)] [(7, ⟨24, [.slice c.a c.n c.c]⟩), (9, ⟨3, [.int .i64 (m : Int)]⟩), (28, ⟨29, rcs L⟩)]) ∧ (Ext u35 u') ∧ (PolN u' c (D m) S) ∧ (RatsN u' (L.drop m) ((Nt.refL D n).drop m) S)) (fun m S u1 u2 e h => by obtain ⟨m, c, L, hm, p0, p1, hS, hE, f0, f1⟩ := h; exact ⟨m, c, L, hm, p0, p1, hS, hE.trans e, f0.ext e, f1.ext e⟩) _ (T := St.of 61 [(7, .adr 7 0), (8, .slc 28 0 n n), (9, .adr 9 0)] [(7, ⟨24, [.slice (some ⟨b29, 0, none⟩) y16.n y16.n]⟩), (9, ⟨3, [.int .i64 (n : Int)]⟩), (28, ⟨29, rcs (List.replicate n rl0)⟩)]) (by exact zzu _ _ _) ⟨n, (⟨some ⟨b29, 0, none⟩, y16.n, y16.n⟩ : Sl), List.replicate n rl0, rfl, Nat.le_refl _, (by simp), rfl, Ext.refl _, (hD.fit (Nat.le_refl _) (by rw [hD.top]; exact hp38)), (RatsN.dnil (by simp) (Nt.refL_len D n))⟩ ?_
 rintro m39 _ u39 ⟨m, c, L, hm39, hm9, hL, rfl, e39, hC, hR⟩
 have hcl := hC.len
 have hdl := hD.dlen m hm9
 refine zzc ?_
 refine sq9 ?_
 refine zzh 32 (.v (.int .i64 (m : Int))) ty3 zzk ?_
 refine zza 33 (.v (.bool (decide ((1 : Int) ≤ (m : Int))))) ?_
 refine zzb 61 [(7, .adr 7 0), (8, .slc 28 0 n n), (9, .adr 9 0), (33, .v (.bool (decide ((1 : Int) ≤ (m : Int)))))] [(7, ⟨24, [c.v]⟩), (9, ⟨3, [.int .i64 (m : Int)]⟩), (28, ⟨29, rcs L⟩)] ?_
 refine zzt (b := decide ((1 : Int) ≤ (m : Int))) (by kernel_rfl) (fun hb40 => ?_) (fun hb40 => ?_)
 ·replace hb40 : (decide ((1 : Int) ≤ (m : Int))) = true := hb40
  have qhb40 := of_decide_eq_true hb40
  refine zzr (zzo ?_)
  refine zzc ?_
  refine zzs ?_
  refine sq9 ?_
  refine zzh 36 (.v c.v) ty24 zzk ?_
  refine zzh 37 (.v (.int .i64 (m : Int))) ty3 zzk ?_
  have hl41 := hC.len
  obtain ⟨r41, b41, o41, hA41, hc41, hr41⟩ := pol_atN hC (i := m) (by omega)
  refine zzz 38 (o41 + m * 3) (n := c.n) (off := o41) (sz := 3) (i := (m : Int)) (by omega) hA41 (by omega) (by omega) sl24 ?_
  refine zyl 39 r41.cs hc41 ty29 ?_
  refine zzf 40 49 [r41.v] ?_
  intro w42 u42 e42 d42
  have k47 := k_ratTrim d42 (hr41.ext e42).raw (by omega)
  with_reducible refine Post.mono k47 ?_
  rintro _ u45 g46 ⟨r43, rfl, h44⟩
  refine zzj 10 ⟨29, [.bool false, .slice none 0 0, .slice none 0 0]⟩ ?_
  refine zzi ⟨29, r43.cs⟩ ty29 ?_
  refine zzb 61 [(7, .adr 7 0), (8, .slc 28 0 n n), (9, .adr 9 0), (10, .adr 10 0)] [(7, ⟨24, [c.v]⟩), (9, ⟨3, [.int .i64 (m : Int)]⟩), (10, ⟨29, r43.cs⟩), (28, ⟨29, rcs L⟩)] ?_
  refine zzc ?_
  refine sq9 ?_
  refine zzh 41 (.v (r43.v)) ty29 zzd ?_
  refine zzf 42 108 [r43.v] ?_
  intro w48 u48 e48 d48
  have k51 := k_small d48 (h44.ext e48).raw (by omega)
  with_reducible refine Post.mono k51 ?_
  rintro _ u49 g50 rfl
  refine zza 43 (.v (.bool (!(Nt.smallQ ((D m).getD m 0))))) ?_
  refine zzb 61 [(7, .adr 7 0), (8, .slc 28 0 n n), (9, .adr 9 0), (10, .adr 10 0), (43, .v (.bool (!(Nt.smallQ ((D m).getD m 0)))))] [(7, ⟨24, [c.v]⟩), (9, ⟨3, [.int .i64 (m : Int)]⟩), (10, ⟨29, r43.cs⟩), (28, ⟨29, rcs L⟩)] ?_
  refine zzt (b := !(Nt.smallQ ((D m).getD m 0))) (by kernel_rfl) (fun hb => ?_) (fun hb => ?_)
  ·exact absurd hb (by rw [show (!(Nt.smallQ ((D m).getD m 0))) = false from (by rw [hD.small m (by omega) (by omega)]; rfl)]; decide)
  ·clear hb
   refine zzr (zzo ?_)
   refine sq9 ?_
   refine zza 44 (.slc 28 0 n n) ?_
   refine zzh 45 (.v (.int .i64 (m : Int))) ty3 zzk ?_
   refine zyp 46 (x := .v (.int .i64 (IntKind.i64.wrap ((m : Int) - 1)))) (.v (.int .i64 ((m - 1 : Nat) : Int))) (eqI (by rw [IntWalk.i64_in _ (by omega)]; omega)) ?_
   refine zzh 47 (.v (r43.v)) ty29 zzd ?_
   refine zyv 48 (off' := (m - 1) * 3) (n := n) (off := 0) (sz := 3) (i := ((m - 1 : Nat) : Int)) sl24 (by omega) (by omega) (by omega) ?_
   refine zyu (V := ⟨29, rcs L⟩) (off := (m - 1) * 3) (rcs ((L).set (m - 1) r43)) ty29 (by rw [zyx]; first|omega|(simp;omega)) (zyw (r := r43) (i := m - 1) (by first|omega|(simp;omega)) rfl) ?_
   refine zzb 61 [(7, .adr 7 0), (8, .slc 28 0 n n), (9, .adr 9 0), (10, .adr 10 0)] [(7, ⟨24, [c.v]⟩), (9, ⟨3, [.int .i64 (m : Int)]⟩), (10, ⟨29, r43.cs⟩), (28, ⟨29, rcs ((L).set (m - 1) r43)⟩)] ?_
   refine zzc ?_
   refine zzy [0, 0, 0, 7, 15, 0, 63] [(1, []), (2, []), (5, []), (0, []), (3, []), (4, []), (6, [])] (by kernel_rfl) (by kernel_rfl) ?_
   refine zzh 50 (.v (r43.v)) ty29 zzd ?_
   refine zzh 51 (.v (r43.v)) ty29 zzd ?_
   refine zzj 11 ⟨29, [.bool false, .slice none 0 0, .slice none 0 0]⟩ ?_
   refine zzf 49 48 [.int .i64 1] ?_
   intro w52 u52 e52 d52
   have k57 := k_ratOf d52 (z := 1) (by omega) (by omega)
   with_reducible refine Post.mono k57 ?_
   rintro _ u55 g56 ⟨r53, rfl, h54⟩
   refine zzf 52 112 [r43.v, r43.v] ?_
   intro w58 u58 e58 d58
   have k63 := k_ratMul d58 (h44.ext (e48.trans (g50.ext.trans (e52.trans (g56.ext.trans e58))))).raw (h44.ext (e48.trans (g50.ext.trans (e52.trans (g56.ext.trans e58))))).raw (by omega) (by omega)
   with_reducible refine Post.mono k63 ?_
   rintro _ u61 g62 ⟨r59, rfl, h60⟩
   refine zzf 53 135 [r53.v, r59.v] ?_
   intro w64 u64 e64 d64
   have k69 := k_ratSub d64 (h54.ext (e58.trans (g62.ext.trans e64))).raw (h60.ext e64).raw (by omega) (by omega)
   with_reducible refine Post.mono k69 ?_
   rintro _ u67 g68 ⟨r65, rfl, h66⟩
   refine zzi ⟨29, r65.cs⟩ ty29 ?_
   refine zzb 61 [(7, .adr 7 0), (8, .slc 28 0 n n), (9, .adr 9 0), (10, .adr 10 0), (11, .adr 11 0)] [(7, ⟨24, [c.v]⟩), (9, ⟨3, [.int .i64 (m : Int)]⟩), (10, ⟨29, r43.cs⟩), (11, ⟨29, r65.cs⟩), (28, ⟨29, rcs ((L).set (m - 1) r43)⟩)] ?_
   refine sw_pubA (r := 10) (t := 10) [10] (by repeat first | exact noAt_of | refine zyc ?_ | refine zye ?_ | refine zyd ?_ | refine zzx ?_ | refine zya ?_) (by kernel_rfl) (by rfl) (by rfl) (by kernel_rfl) (fun b70 u71 e72 hb73 hv74 hh75 => ?_)
   refine sw_pubA (r := 9) (t := 9) [9] (by repeat first | exact noAt_of | refine zyc ?_ | refine zye ?_ | refine zyd ?_ | refine zzx ?_ | refine zya ?_) (by kernel_rfl) (by rfl) (by rfl) (by kernel_rfl) (fun b76 u77 e78 hb79 hv80 hh81 => ?_)
   refine sw_pubA (r := 11) (t := 11) [11] (by repeat first | exact noAt_of | refine zyc ?_ | refine zye ?_ | refine zyd ?_ | refine zzx ?_ | refine zya ?_) (by kernel_rfl) (by rfl) (by rfl) (by kernel_rfl) (fun b82 u83 e84 hb85 hv86 hh87 => ?_)
   refine sw_pubA (r := 7) (t := 7) [7] (by repeat first | exact noAt_of | refine zyc ?_ | refine zye ?_ | refine zyd ?_ | refine zzx ?_ | refine zya ?_) (by kernel_rfl) (by rfl) (by rfl) (by kernel_rfl) (fun b88 u89 e90 hb91 hv92 hh93 => ?_)
   refine sw_cut 5 ?_
   refine zyk 54 c.v (var_cell1 hh93) ty24 ?_
   refine zyk 55 (.int .i64 (m : Int)) (var_cell1 ((e84.trans e90).cells hh81)) ty3 ?_
   have hl94 := (hC.ext (e42.trans (g46.ext.trans (e48.trans (g50.ext.trans (e52.trans (g56.ext.trans (e58.trans (g62.ext.trans (e64.trans (g68.ext.trans (e72.trans (e78.trans (e84.trans e90)))))))))))))).len
   have hc94 := (hC.ext (e42.trans (g46.ext.trans (e48.trans (g50.ext.trans (e52.trans (g56.ext.trans (e58.trans (g62.ext.trans (e64.trans (g68.ext.trans (e72.trans (e78.trans (e84.trans e90)))))))))))))).cap
   refine sy_front 56 (n := c.n) (c := c.c) m sl24 rfl (by omega) ?_
   refine sy_fun 57 [.pointer (some ⟨b70, 0, none⟩), .pointer (some ⟨b88, 0, none⟩), .pointer (some ⟨b76, 0, none⟩), .pointer (some ⟨b82, 0, none⟩)] ?_
   refine zzf 58 109 [.slice c.a m c.c, .func (.func 144) #[] #[.pointer (some ⟨b70, 0, none⟩), .pointer (some ⟨b88, 0, none⟩), .pointer (some ⟨b76, 0, none⟩), .pointer (some ⟨b82, 0, none⟩)]] ?_
   intro w95 u95 e95 d95
   have k104 := k_mapDn2 (m := m) d95 (hC.ext (e42.trans (g46.ext.trans (e48.trans (g50.ext.trans (e52.trans (g56.ext.trans (e58.trans (g62.ext.trans (e64.trans (g68.ext.trans (e72.trans (e78.trans (e84.trans (e90.trans e95))))))))))))))) (h44.ext (e48.trans (g50.ext.trans (e52.trans (g56.ext.trans (e58.trans (g62.ext.trans (e64.trans (g68.ext.trans (e72.trans (e78.trans (e84.trans (e90.trans e95))))))))))))).raw (h66.ext (e72.trans (e78.trans (e84.trans (e90.trans e95))))).raw ((pol_takeN (hC.ext (e42.trans (g46.ext.trans (e48.trans (g50.ext.trans (e52.trans (g56.ext.trans (e58.trans (g62.ext.trans (e64.trans (g68.ext.trans (e72.trans (e78.trans (e84.trans e90)))))))))))))) (by omega)).ext e95) ((e78.trans (e84.trans (e90.trans e95))).cells hh75) (e95.cells hh93) ((e84.trans (e90.trans e95)).cells hh81) ((e90.trans e95).cells hh87) (Nt.small_nz (hD.small m (by omega) (by omega))) (by rw [hD.dlen m (by omega)]) rfl rfl (by omega) (by omega) (by omega) (by rw [hD.dlen m (by omega)]; omega)
   with_reducible refine Post.mono k104 ?_
   rintro _ u102 g103 ⟨b96, L97, rfl, hb98, hh99, hL100, hR101⟩
   refine zzw ?_
   refine sl_adoptA (r := 7) (k := 7) (by rfl) ((e95.trans g103.ext).cells hh93) hb91 (by kernel_rfl) (fun u105 eB106 => ?_)
   have hp107 : PolN u105 (⟨some ⟨b96, 0, none⟩, m, m⟩ : Sl) (Nt.dnS (D m) m) (2 * S + S + (2 + (S + S) + 1) + 1) := newR_adopt hb98 ((Ext.refl _).cells hh99) hL100 (hR101.ext (Ext.refl _)) (by unfold maxLen; omega) (e95.cells hh93) ((e95.trans g103.ext).cells hh93) (by simp) eB106
   refine sl_sym ?_
   refine zzi ⟨24, [.slice (some ⟨b96, 0, none⟩) m m]⟩ ty24 ?_
   refine zzw ?_
   refine zzo ?_
   refine zzc ?_
   refine sq9 ?_
   refine zyk 59 (.int .i64 (m : Int)) (var_cell1 ((e84.trans (ExtB.old2 eB106 (e90.trans (e95.trans g103.ext)) hv92)).cells hh81)) ty3 ?_
   refine zzb 61 [(7, .adr 7 0), (8, .slc 28 0 n n), (59, .v (.int .i64 (m : Int)))] [(7, ⟨24, [.slice (some ⟨b96, 0, none⟩) m m]⟩), (28, ⟨29, rcs ((L).set (m - 1) r43)⟩)] ?_
   refine zze ?_
   refine zzj 9 ⟨3, [.int .i64 0]⟩ ?_
   refine zzi ⟨3, [.int .i64 (m : Int)]⟩ ty3 ?_
   refine zzb 61 [(7, .adr 7 0), (8, .slc 28 0 n n), (9, .adr 9 0)] [(7, ⟨24, [.slice (some ⟨b96, 0, none⟩) m m]⟩), (9, ⟨3, [.int .i64 (m : Int)]⟩), (28, ⟨29, rcs ((L).set (m - 1) r43)⟩)] ?_
   refine zze ?_
   refine zzh 34 (.v (.int .i64 (m : Int))) ty3 zzk ?_
   refine zyp 35 (x := .v (.int .i64 (IntKind.i64.wrap ((m : Int) - 1)))) (.v (.int .i64 ((m - 1 : Nat) : Int))) (eqI (by rw [IntWalk.i64_in _ (by omega)]; omega)) ?_
   refine zzi ⟨3, [.int .i64 ((m - 1 : Nat) : Int)]⟩ ty3 ?_
   refine zzw ?_
   refine ⟨_, ?_, St.of 61 [(7, .adr 7 0), (8, .slc 28 0 n n), (9, .adr 9 0)] [(7, ⟨24, [.slice (some ⟨b96, 0, none⟩) m m]⟩), (9, ⟨3, [.int .i64 ((m - 1 : Nat) : Int)]⟩), (28, ⟨29, rcs ((L).set (m - 1) r43)⟩)], by exact zzu _ _ _, m - 1, (⟨some ⟨b96, 0, none⟩, m, m⟩ : Sl), (L).set (m - 1) r43, rfl, by omega, by simpa using hL, rfl, (e39.trans (e42.trans (g46.ext.trans (e48.trans (g50.ext.trans (e52.trans (g56.ext.trans (e58.trans (g62.ext.trans (e64.trans (g68.ext.trans (e72.trans (e78.trans (e84.trans (ExtB.old2 eB106 (e90.trans (e95.trans g103.ext)) hv92))))))))))))))), (hD.fit (by omega) (by rw [hD.step (m - 1) (by omega), show m - 1 + 1 = m by omega]; exact hp107)), (RatsN.dstep (hR.ext (e42.trans (g46.ext.trans (e48.trans (g50.ext.trans (e52.trans (g56.ext.trans (e58.trans (g62.ext.trans (e64.trans (g68.ext.trans (e72.trans (e78.trans (e84.trans (ExtB.old2 eB106 (e90.trans (e95.trans g103.ext)) hv92))))))))))))))) (by omega) (by omega) (by rw [Nt.refL_len]; exact hL) (by rw [Nt.refL_at D (by omega), show m - 1 + 1 = m by omega]; exact (h44.ext (e48.trans (g50.ext.trans (e52.trans (g56.ext.trans (e58.trans (g62.ext.trans (e64.trans (g68.ext.trans (e72.trans (e78.trans (e84.trans (ExtB.old2 eB106 (e90.trans (e95.trans g103.ext)) hv92)))))))))))))))⟩
   omega
 ·replace hb40 : (decide ((1 : Int) ≤ (m : Int))) = false := hb40
  have qhb40 := of_decide_eq_false hb40
  refine zyb ?_
  refine zzo ?_
  refine zzc ?_
  have hm0 : m = 0 := by omega
  refine zyo (r := 8) (t := 28) [8, 28] (by repeat first | exact noAt_of | refine zyc ?_ | refine zye ?_ | refine zyd ?_ | refine zzx ?_ | refine zya ?_) (by kernel_rfl) (by rfl) (by rfl) (by kernel_rfl) (fun b108 u109 e110 hb111 hh112 => ?_)
  have hp113 : PolN u109 ⟨some ⟨b108, 0, none⟩, n, n⟩ (Nt.refL D n) S := pol_data1 hh112 (by unfold maxLen; omega) ((RatsN.dall hR hm0).ext e110) (by omega)
  refine zze ?_
  refine zza 60 (.v (.slice (some ⟨b108, 0, none⟩) n n)) ?_
  refine zza 2 (.v (.slice (some ⟨b108, 0, none⟩) n n)) ?_
  refine zza 3 (.v (.int .i64 0)) ?_
  refine zzb 61 [(2, .v (.slice (some ⟨b108, 0, none⟩) n n)), (3, .v (.int .i64 0))] [] ?_
  refine zzn (ret0 [.slice (some ⟨b108, 0, none⟩) n n, .int .i64 0] ⟨zzp, zzp, trivial⟩ fun u114 e115 => ?_)
  exact ⟨(⟨some ⟨b108, 0, none⟩, n, n⟩ : Sl), rfl, (hp113.ext e115)⟩
theorem k_stable {u w : World} {x : Sl} {l : List Rat} {D : Nat → List Rat} {K n S : Nat} (d : Dat u w) (hx : PolV u x l K) (hD : Nt.Down (Nt.trimQ l) D n S) (hK : K ≤ 10000) (hS : S ≤ 10000) (hl : l.length ≤ 40) : Calls Tryz.prog 37 #[x.v] w (Post u w fun v u' => v = .tuple #[.bool true, .int .i64 0]) := by
 refine zzl (args := [.slice x.a x.n x.c]) Tryz.func37 rfl Tryz.ntmps37 (rs := [.tmp 2, .tmp 3]) Tryz.results37 (le_b rfl) (le_b rfl) d ?_
 refine sq9 ?_
 refine zza 2 (.v (.bool false)) ?_
 refine zza 3 (.v (.int .i64 0)) ?_
 refine zzb 16 [(0, .v x.v)] [] ?_
 refine sq9 ?_
 refine zza 7 (.v x.v) ?_
 refine zzf 8 88 [x.v] ?_
 intro w11 u11 e11 d11
 have k16 := k_reflect d11 (hx.ext e11) hD (by omega) (by omega) (by omega)
 with_reducible refine Post.mono k16 ?_
 rintro _ u14 g15 ⟨y12, rfl, h13⟩
 have hly12 := h13.len
 rw [Nt.refL_len] at hly12
 refine zza 6 (.v (.tuple #[y12.v, .int .i64 0])) ?_
 refine zza 9 (.v y12.v) ?_
 refine zza 10 (.v (.int .i64 0)) ?_
 refine zza 4 (.v y12.v) ?_
 refine zza 5 (.v (.int .i64 0)) ?_
 refine zzb 16 [(5, .v (.int .i64 0))] [] ?_
 refine zzc ?_
 refine sq9 ?_
 refine zza 11 (.v (.int .i64 0)) ?_
 refine zza 12 (.v (.bool false)) ?_
 refine zzb 16 [(5, .v (.int .i64 0)), (12, .v (.bool false))] [] ?_
 refine zyr (by kernel_rfl) ?_
 refine zzr (zzo ?_)
 refine sq9 ?_
 refine zza 13 (.v (.int .i64 0)) ?_
 refine zza 14 (.v (.bool true)) ?_
 refine zza 15 (.v (.int .i64 0)) ?_
 refine zza 2 (.v (.bool true)) ?_
 refine zza 3 (.v (.int .i64 0)) ?_
 refine zzb 16 [(2, .v (.bool true)), (3, .v (.int .i64 0))] [] ?_
 refine zzn (ret0 [.bool true, .int .i64 0] ⟨zzp, zzp, trivial⟩ fun u17 e18 => ?_)
 rfl
namespace Nt
theorem wq_small {z f : Int} (h0 : -p2i f < z) (h1 : z < p2i f) : -1 < wq z f ∧ wq z f < 1 := by
 have hF := p2i_pos f
 have hP : (0 : Rat) < ((p2i f : Int) : Rat) := Rat.intCast_pos.2 hF
 have k0 : -((p2i f : Int) : Rat) < (z : Rat) := by rw [← Rat.intCast_neg]; exact Rat.intCast_lt_intCast.2 h0
 have k1 : (z : Rat) < ((p2i f : Int) : Rat) := Rat.intCast_lt_intCast.2 h1
 have e : wq z f * ((p2i f : Int) : Rat) = (z : Rat) := by unfold wq; exact Rat.div_mul_cancel (Ne.symm (Rat.ne_of_lt hP))
 generalize ((p2i f : Int) : Rat) = P at *
 generalize wq z f = q at *
 constructor
 ·refine Rat.not_le.1 fun hc => ?_
  have := Rat.mul_le_mul_of_nonneg_right hc (Rat.le_of_lt hP)
  grind
 ·refine Rat.not_le.1 fun hc => ?_
  have := Rat.mul_le_mul_of_nonneg_right hc (Rat.le_of_lt hP)
  grind
theorem trim_two {b : Rat} (h : b ≠ 0) (a : Rat) : trimQ [a, b] = [a, b] := by simp [trimQ, h]
theorem trim_two0 : trimQ [((1 : Int) : Rat), 0] = [((1 : Int) : Rat)] := by decide +kernel
theorem trim_three {c : Rat} (h : c ≠ 0) (a b : Rat) : trimQ [a, b, c] = [a, b, c] := by simp [trimQ, h]
theorem trim_three0 (a b : Rat) : trimQ [a, b, 0] = trimQ [a, b] := by simp [trimQ]
def wDn (a b c : Rat) : Nat → List Rat
 | 0 => [((1 : Int) : Rat)]
 | 1 => [((1 : Int) : Rat), a]
 | _ => [((1 : Int) : Rat), b, c]
theorem wDn_len (a b c : Rat) {m : Nat} (h : m ≤ 2) : (wDn a b c m).length = m + 1 := by
 obtain rfl | rfl | rfl : m = 0 ∨ m = 1 ∨ m = 2 := by omega
 all_goals rfl
theorem dn1 {a : Rat} (h : smallQ a = true) : dnS [((1 : Int) : Rat), a] 1 = [((1 : Int) : Rat)] := by
 show [(((1 : Int) : Rat) - a * a) / (((1 : Int) : Rat) - a * a)] = [((1 : Int) : Rat)]
 have h9 := small_nz h
 have e1 : ((1 : Int) : Rat) = 1 := rfl
 rw [e1] at *
 congr 1
 grind
theorem dn2 {g h : Rat} (hg : smallQ (-g) = true) : dnS [((1 : Int) : Rat), h * (g - ((1 : Int) : Rat)), -g] 2 = [((1 : Int) : Rat), -h] := by
 show [(((1 : Int) : Rat) - -g * -g) / (((1 : Int) : Rat) - -g * -g), (h * (g - ((1 : Int) : Rat)) - -g * (h * (g - ((1 : Int) : Rat)))) / (((1 : Int) : Rat) - -g * -g)] = _
 have h9 := small_nz hg
 have e1 : ((1 : Int) : Rat) = 1 := rfl
 rw [e1] at *
 have k1 : (1 - -g * -g) / (1 - -g * -g) = 1 := by grind
 have k2 : (h * (g - 1) - -g * (h * (g - 1))) / (1 - -g * -g) = -h := by
  have : h * (g - 1) - -g * (h * (g - 1)) = -h * (1 - -g * -g) := by grind
  rw [this]; grind
 rw [k1, k2]
theorem wave_down {a b c : Rat} {n S : Nat} (hn : n ≤ 2) (h1 : 1 ≤ n → smallQ a = true) (h2 : n = 2 → smallQ c = true ∧ dnS [((1 : Int) : Rat), b, c] 2 = [((1 : Int) : Rat), a])
  (hs : ∀ m, m ≤ n → ∃ E A, Sm (wDn a b c m) E A ∧ E ≤ 2 ^ A ∧ dg A ≤ S) : Down (wDn a b c n) (wDn a b c) n S := by
 refine ⟨wDn_len _ _ _ hn, ?_, ?_, fun m hm => wDn_len _ _ _ (by omega), fun m hm => ?_, fun m k1 k2 => ?_, hs⟩
 ·obtain rfl | rfl | rfl : n = 0 ∨ n = 1 ∨ n = 2 := by omega
  all_goals exact (by decide +kernel : ((1 : Int) : Rat) ≠ 0)
 ·obtain rfl | rfl | rfl : n = 0 ∨ n = 1 ∨ n = 2 := by omega
  all_goals exact (divI _).symm
 ·obtain ⟨rfl, h⟩ | ⟨rfl, h⟩ : (m = 0 ∧ 1 ≤ n) ∨ (m = 1 ∧ n = 2) := by omega
  ·exact (dn1 (h1 h)).symm
  ·exact (h2 h).2.symm
 ·obtain rfl | ⟨rfl, h⟩ : m = 1 ∨ (m = 2 ∧ n = 2) := by omega
  ·exact h1 k2
  ·exact (h2 h).1
theorem sm_two {D A : Nat} {a : Rat} (hD : 0 < D) (h0 : Wh (((1 : Int) : Rat) * ((D : Int) : Rat)) A) (h1 : Wh (a * ((D : Int) : Rat)) A) : Sm [((1 : Int) : Rat), a] D A := Sm.ofAll hD fun x hx => by
 simp at hx
 rcases hx with rfl | rfl
 ·exact h0
 ·exact h1
theorem sec_down {f : Int} {p : PL} (hf : f ≤ 24) (hp : PasOK f p) : ∃ (D : Nat → List Rat) (n : Nat), Down (trimQ (secA f p)) D n 2 ∧ n ≤ 2 := by
 obtain ⟨hs1, hs⟩ := sec_sm hf hp
 obtain ⟨ho, g0, g1, h0, h1⟩ := hp
 have hD := wD_le hf
 have hD2 : wD f ≤ 2 ^ 49 := Nat.le_trans hD.2 (by decide)
 have kg := wq_small g0 g1
 have kh := wq_small h0 h1
 have sg : smallQ (-wq p.g f) = true := small_iff.2 (by grind)
 have sh : smallQ (-wq p.h f) = true := small_iff.2 (by grind)
 have wh : Wh (-wq p.h f * ((wD f : Int) : Rat)) 49 := wh_of (z := -p.h * p2i f) (by
  have hne : ((p2i f : Int) : Rat) ≠ 0 := fun e => by have : p2i f = 0 := Rat.intCast_inj.1 e; have := p2i_pos f; omega
  unfold wq; rw [Rat.intCast_mul, Rat.intCast_mul, Rat.intCast_neg]; grind) (by
  have hF := p2i_pos f
  have hF2 := p2i_24 hf
  rw [Int.natAbs_mul]
  have := Nat.mul_le_mul (show (-p.h).natAbs ≤ 16777216 by omega) (show (p2i f).natAbs ≤ 16777216 by omega)
  omega)
 have w1 : Wh (((1 : Int) : Rat) * ((wD f : Int) : Rat)) 49 := by
  have := hs.2 0
  unfold secA at this
  split at this <;> exact this
 have s0 : Sm [((1 : Int) : Rat)] (wD f) 49 := Sm.ofAll hD.1 fun x hx => by simp at hx; subst hx; exact w1
 have s1 : Sm [((1 : Int) : Rat), -wq p.h f] (wD f) 49 := sm_two hD.1 w1 wh
 have dgl : dg 49 ≤ 2 := by decide
 by_cases hz : wq p.g f = 0
 ·by_cases ho1 : p.o = 1
  ·refine ⟨wDn 0 0 0, 0, ?_, by decide⟩
   have e : trimQ (secA f p) = wDn 0 0 0 0 := by
    unfold secA; rw [if_pos ho1, hz]
    rw [show (-0 : Rat) = 0 by grind]; exact trim_two0
   rw [e]
   exact wave_down (by decide) (fun h => by omega) (fun h => by omega) (fun m hm => by obtain rfl : m = 0 := (by omega); exact ⟨_, _, s0, hD2, dgl⟩)
  ·by_cases hy : wq p.h f = 0
   ·refine ⟨wDn 0 0 0, 0, ?_, by decide⟩
    have e : trimQ (secA f p) = wDn 0 0 0 0 := by
     unfold secA; rw [if_neg ho1, hz, hy]
     rw [show (-0 : Rat) = 0 by grind, Rat.zero_mul]; decide +kernel
    rw [e]
    exact wave_down (by decide) (fun h => by omega) (fun h => by omega) (fun m hm => by obtain rfl : m = 0 := (by omega); exact ⟨_, _, s0, hD2, dgl⟩)
   ·refine ⟨wDn (-wq p.h f) 0 0, 1, ?_, by decide⟩
    have e : trimQ (secA f p) = wDn (-wq p.h f) 0 0 1 := by
     unfold secA; rw [if_neg ho1, hz]
     have e1 : wq p.h f * (0 - ((1 : Int) : Rat)) = -wq p.h f := by show wq p.h f * (0 - 1) = _; grind
     rw [show (-0 : Rat) = 0 by grind, e1, trim_three0, trim_two (by grind)]; rfl
    rw [e]
    exact wave_down (by decide) (fun _ => sh) (fun h => by omega) (fun m hm => by
     obtain rfl | rfl : m = 0 ∨ m = 1 := by omega
     ·exact ⟨_, _, s0, hD2, dgl⟩
     ·exact ⟨_, _, s1, hD2, dgl⟩)
 ·by_cases ho1 : p.o = 1
  ·refine ⟨wDn (-wq p.g f) 0 0, 1, ?_, by decide⟩
   have e0 : secA f p = [((1 : Int) : Rat), -wq p.g f] := by unfold secA; rw [if_pos ho1]
   have e : trimQ (secA f p) = wDn (-wq p.g f) 0 0 1 := by
    rw [e0, trim_two (by grind)]; rfl
   rw [e]
   rw [e0] at hs
   exact wave_down (by decide) (fun _ => sg) (fun h => by omega) (fun m hm => by
    obtain rfl | rfl : m = 0 ∨ m = 1 := by omega
    ·exact ⟨_, _, s0, hD2, dgl⟩
    ·exact ⟨_, _, hs, hD2, dgl⟩)
  ·refine ⟨wDn (-wq p.h f) (wq p.h f * (wq p.g f - ((1 : Int) : Rat))) (-wq p.g f), 2, ?_, by decide⟩
   have e0 : secA f p = [((1 : Int) : Rat), wq p.h f * (wq p.g f - ((1 : Int) : Rat)), -wq p.g f] := by unfold secA; rw [if_neg ho1]
   have e : trimQ (secA f p) = wDn (-wq p.h f) (wq p.h f * (wq p.g f - ((1 : Int) : Rat))) (-wq p.g f) 2 := by
    rw [e0, trim_three (by grind)]; rfl
   rw [e]
   rw [e0] at hs
   exact wave_down (by decide) (fun _ => sh) (fun _ => ⟨sg, dn2 sg⟩) (fun m hm => by
    obtain rfl | rfl | rfl : m = 0 ∨ m = 1 ∨ m = 2 := by omega
    ·exact ⟨_, _, s0, hD2, dgl⟩
    ·exact ⟨_, _, s1, hD2, dgl⟩
    ·exact ⟨_, _, hs, hD2, dgl⟩)
theorem pass_law (f : Int) (p : PL) : trimQ (magL (trimQ (secB f p))) = trimQ (magL (trimQ (secA f p))) := same_of_ev fun z w e => by
 rw [mag_ev _ e, mag_ev _ e]; exact (sec_ap f p).trim z w e
end Nt
theorem pasok_at {f : Int} {L : List PL} {p : PL} {i : Nat} (hp : p = L.getD i pl0) (h : ∀ q ∈ L, PasOK f q) (hi : i < L.length) : PasOK f p := by
 rw [hp, List.getD_eq_getElem?_getD, List.getElem?_eq_getElem hi]; exact h _ (List.getElem_mem _)
set_option maxHeartbeats 4000000 in
theorem w_wpass {u w : World} {x y : Sl} {l m : List Int} {k : Int} (d : Dat u w) (hx : SlR .i64 u x.a x.n x.c l) (hb : ∀ z ∈ l, -9223372036854775808 ≤ z ∧ z ≤ 9223372036854775807) (hy : SlR .i64 u y.a y.n y.c m) (hc : ∀ z ∈ m, -9223372036854775808 ≤ z ∧ z ≤ 9223372036854775807) (hk0 : -9223372036854775808 ≤ k) (hk1 : k ≤ 9223372036854775807) : Calls Tryz.prog 7 #[.agg #[x.v, y.v], .int .i64 k] w (Post u w fun v _ => v = .bool true) := by
 refine zzl (args := [.agg #[.slice x.a x.n x.c, .slice y.a y.n y.c], .int .i64 k]) Tryz.func7 rfl Tryz.ntmps7 (rs := [.tmp 4]) Tryz.results7 (le_b rfl) (le_b rfl) d ?_
 refine sq9 ?_
 refine zzj 2 ⟨49, [x.v, y.v]⟩ ?_
 refine zza 4 (.v (.bool false)) ?_
 refine zzb 80 [(1, .v (.int .i64 k)), (2, .adr 2 0)] [(2, ⟨49, [x.v, y.v]⟩)] ?_
 refine sq9 ?_
 refine zza 16 (.v (.int .i64 k)) ?_
 refine zzf 17 23 [.int .i64 k] ?_
 intro w11 u11 e11 d11
 have k16 := k_coef (k := k) d11 (by omega) (by omega)
 with_reducible refine Post.mono k16 ?_
 rintro _ u14 g15 ⟨W12, rfl, hW13⟩
 have hw17 := hW13.ok
 have hw17f : 1 ≤ W12.f := by have h9 := hW13; unfold CoefOK at h9; omega
 have hw17g : W12.f ≤ 24 := by have h9 := hW13; unfold CoefOK at h9; omega
 refine zzj 5 ⟨51, [.int .i64 0, .int .i64 0, .int .i64 0, .int .i64 0]⟩ ?_
 refine zzi ⟨51, [.int .i64 W12.b, .int .i64 W12.f, .int .i64 W12.r, .int .i64 W12.o]⟩ ty51 ?_
 refine zzb 80 [(2, .adr 2 0), (5, .adr 5 0)] [(2, ⟨49, [x.v, y.v]⟩), (5, ⟨51, [.int .i64 W12.b, .int .i64 W12.f, .int .i64 W12.r, .int .i64 W12.o]⟩)] ?_
 refine sq9 ?_
 refine zzh 18 (.v (.agg #[x.v, y.v])) ty49 zzd ?_
 refine zzh 19 (.v (.agg #[.int .i64 W12.b, .int .i64 W12.f, .int .i64 W12.r, .int .i64 W12.o])) ty51 zzd ?_
 refine zzf 20 25 [.agg #[x.v, y.v], .agg #[.int .i64 W12.b, .int .i64 W12.f, .int .i64 W12.r, .int .i64 W12.o]] ?_
 intro w18 u18 e18 d18
 have k22 := k_filter (W := W12) d18 (hx.ext (e11.trans (g15.ext.trans e18))) hb (hy.ext (e11.trans (g15.ext.trans e18))) hc hw17
 with_reducible refine Post.mono k22 ?_
 rintro _ u20 g21 ⟨y19, z19, L19, M19, rfl, h119, h219, h319, h419, h519, h619⟩
 have hly19 := h119.len
 have hlz19 := h419.len
 refine zza 21 (.v y19.v) ?_
 refine zza 6 (.v y19.v) ?_
 refine zzb 80 [(5, .adr 5 0), (6, .v y19.v)] [(5, ⟨51, [.int .i64 W12.b, .int .i64 W12.f, .int .i64 W12.r, .int .i64 W12.o]⟩)] ?_
 refine zzc ?_
 refine sq9 ?_
 refine zza 7 (.v (.int .i64 0)) ?_
 refine zzb 80 [(5, .adr 5 0), (6, .v y19.v), (7, .v (.int .i64 0))] [(5, ⟨51, [.int .i64 W12.b, .int .i64 W12.f, .int .i64 W12.r, .int .i64 W12.o]⟩)] ?_
 refine zzs ?_
 have hLn := h319
 refine zym (I := fun m23 S' u' => ∃ (i : Nat), (m23 = L19.length - i) ∧ (i ≤ L19.length) ∧ (S' = St.of 80 [(5, .adr 5 0), (6, .v (.slice y19.a y19.n y19.c)), (7, .v (.int .i64 (i : Int)))] [(5, ⟨51, [.int .i64 W12.b, .int .i64 W12.f, .int .i64 W12.r, .int .i64 W12.o]⟩)]) ∧ (Ext u20 u')) (fun m S u1 u2 e h => by obtain ⟨i, hm, p0, hS, hE⟩ := h; exact ⟨i, hm, p0, hS, hE.trans e⟩) _ (T := St.of 80 [(5, .adr 5 0), (6, .v (.slice y19.a y19.n y19.c)), (7, .v (.int .i64 0))] [(5, ⟨51, [.int .i64 W12.b, .int .i64 W12.f, .int .i64 W12.r, .int .i64 W12.o]⟩)]) (by exact zzu _ _ _) ⟨0, rfl, Nat.zero_le _, rfl, Ext.refl _⟩ ?_
 rintro m23 _ u23 ⟨i, hm23, hi, rfl, e23⟩
 refine zzc ?_
 refine sq9 ?_
 refine zza 22 (.v (.int .i64 (i : Int))) ?_
 refine zza 23 (.v y19.v) ?_
 refine zza 24 (.v (.int .i64 (y19.n : Int))) ?_
 refine zza 25 (.v (.bool (decide ((i : Int) < (y19.n : Int))))) ?_
 refine zzb 80 [(5, .adr 5 0), (6, .v y19.v), (7, .v (.int .i64 (i : Int))), (25, .v (.bool (decide ((i : Int) < (y19.n : Int)))))] [(5, ⟨51, [.int .i64 W12.b, .int .i64 W12.f, .int .i64 W12.r, .int .i64 W12.o]⟩)] ?_
 refine zzt (b := decide ((i : Int) < (y19.n : Int))) (by kernel_rfl) (fun hb24 => ?_) (fun hb24 => ?_)
 ·replace hb24 : (decide ((i : Int) < (y19.n : Int))) = true := hb24
  have qhb24 := of_decide_eq_true hb24
  refine zzr (zzo ?_)
  refine zzc ?_
  refine zzs ?_
  refine zzc ?_
  refine zzy [0, 0, 3, 7, 0, 31, 63, 127, 127, 0, 767, 2047] [(0, []), (1, []), (2, []), (3, []), (4, []), (9, []), (5, []), (6, []), (7, []), (8, []), (10, []), (11, [])] (by kernel_rfl) (by kernel_rfl) ?_
  refine zza 29 (.v y19.v) ?_
  refine zza 30 (.v (.int .i64 (i : Int))) ?_
  have hl25 := ((h119.ext e23)).len
  obtain ⟨p25, b25, o25, hA25, hc25, hp25⟩ := pas_at ((h119.ext e23)) (i := i) (by omega)
  refine zzz 31 (o25 + i * 3) (n := y19.n) (off := o25) (sz := 3) (i := (i : Int)) (by omega) hA25 (by omega) (by omega) sl57 ?_
  refine zyl 32 p25.cs hc25 ty65 ?_
  refine zzh 33 (.v (.agg #[.int .i64 W12.b, .int .i64 W12.f, .int .i64 W12.r, .int .i64 W12.o])) ty51 zzd ?_
  refine zzj 8 ⟨54, [.slice none 0 0, .slice none 0 0]⟩ ?_
  refine zzf 34 28 [.agg #[.int .i64 p25.o, .int .i64 p25.g, .int .i64 p25.h], .agg #[.int .i64 W12.b, .int .i64 W12.f, .int .i64 W12.r, .int .i64 W12.o]] ?_
  intro w26 u26 e26 d26
  have k33 := k_wAllPass (p := p25) (W := W12) d26 hw17 hw17f (pasok_at hp25 h219 (by omega))
  with_reducible refine Post.mono k33 ?_
  rintro _ u31 g32 ⟨y27, y28, rfl, h29, h30⟩
  have hly27 := h29.len
  have hmy27 := Nat.le_trans (Nt.zzg (Nt.secB W12.f p25)) (Nt.sec_len W12.f p25).1
  have hly28 := h30.len
  have hmy28 := Nat.le_trans (Nt.zzg (Nt.secA W12.f p25)) (Nt.sec_len W12.f p25).2
  obtain ⟨D34, n34, hDa34, hn34⟩ := Nt.sec_down (f := W12.f) (p := p25) (by omega) (pasok_at hp25 h219 (by omega))
  have hD34 : Nt.Down (Nt.trimQ (Nt.trimQ (Nt.secA W12.f p25))) D34 n34 2 := by rw [Nt.trim_trim]; exact hDa34
  refine zza 28 (.v (.tuple #[.agg #[y27.v, y28.v], .int .i64 0])) ?_
  refine zza 35 (.v (.agg #[y27.v, y28.v])) ?_
  refine zza 36 (.v (.int .i64 0)) ?_
  refine zzi ⟨54, [y27.v, y28.v]⟩ ty54 ?_
  refine zza 9 (.v (.int .i64 0)) ?_
  refine zzb 80 [(5, .adr 5 0), (6, .v y19.v), (7, .v (.int .i64 (i : Int))), (8, .adr 8 0), (9, .v (.int .i64 0))] [(5, ⟨51, [.int .i64 W12.b, .int .i64 W12.f, .int .i64 W12.r, .int .i64 W12.o]⟩), (8, ⟨54, [y27.v, y28.v]⟩)] ?_
  refine sq9 ?_
  refine zza 38 (.adr 8 0) ?_
  refine zzh 39 (.v y27.v) ty32 zzk ?_
  refine zzf 40 26 [y27.v] ?_
  intro w35 u35 e35 d35
  have k40 := k_magnitude d35 (h29.ext e35).raw (by omega) (by have h9 := hmy27; omega)
  with_reducible refine Post.mono k40 ?_
  rintro _ u38 g39 ⟨y36, rfl, h37⟩
  have hly36 := h37.len
  have hmy36 : (Nt.magL (Nt.trimQ (Nt.secB W12.f p25))).length ≤ 20 := Nat.le_trans (Nt.sumL_len _ _) (Nat.le_trans (Nt.zzg _) (by have h9 := hmy27; omega))
  refine zza 37 (.v (.tuple #[y36.v, .int .i64 0])) ?_
  refine zza 41 (.v y36.v) ?_
  refine zza 42 (.v (.int .i64 0)) ?_
  refine zza 10 (.v y36.v) ?_
  refine zza 11 (.v (.int .i64 0)) ?_
  refine zzb 80 [(5, .adr 5 0), (6, .v y19.v), (7, .v (.int .i64 (i : Int))), (8, .adr 8 0), (9, .v (.int .i64 0)), (10, .v y36.v), (11, .v (.int .i64 0))] [(5, ⟨51, [.int .i64 W12.b, .int .i64 W12.f, .int .i64 W12.r, .int .i64 W12.o]⟩), (8, ⟨54, [y27.v, y28.v]⟩)] ?_
  refine sq9 ?_
  refine zza 44 (.adr 8 1) ?_
  refine zzh 45 (.v y28.v) ty32 zzk ?_
  refine zzf 46 26 [y28.v] ?_
  intro w41 u41 e41 d41
  have k46 := k_magnitude d41 (h30.ext (e35.trans (g39.ext.trans e41))).raw (by omega) (by have h9 := hmy28; omega)
  with_reducible refine Post.mono k46 ?_
  rintro _ u44 g45 ⟨y42, rfl, h43⟩
  have hly42 := h43.len
  have hmy42 : (Nt.magL (Nt.trimQ (Nt.secA W12.f p25))).length ≤ 20 := Nat.le_trans (Nt.sumL_len _ _) (Nat.le_trans (Nt.zzg _) (by have h9 := hmy28; omega))
  refine zza 43 (.v (.tuple #[y42.v, .int .i64 0])) ?_
  refine zza 47 (.v y42.v) ?_
  refine zza 48 (.v (.int .i64 0)) ?_
  refine zza 12 (.v y42.v) ?_
  refine zza 13 (.v (.int .i64 0)) ?_
  refine zzb 80 [(5, .adr 5 0), (6, .v y19.v), (7, .v (.int .i64 (i : Int))), (8, .adr 8 0), (9, .v (.int .i64 0)), (10, .v y36.v), (11, .v (.int .i64 0)), (12, .v y42.v), (13, .v (.int .i64 0))] [(5, ⟨51, [.int .i64 W12.b, .int .i64 W12.f, .int .i64 W12.r, .int .i64 W12.o]⟩), (8, ⟨54, [y27.v, y28.v]⟩)] ?_
  refine sq9 ?_
  refine zza 50 (.adr 8 1) ?_
  refine zzh 51 (.v y28.v) ty32 zzk ?_
  refine zzf 52 37 [y28.v] ?_
  intro w47 u47 e47 d47
  have k50 := k_stable d47 (h30.ext (e35.trans (g39.ext.trans (e41.trans (g45.ext.trans e47))))).raw hD34 (by omega) (by omega) (by omega)
  with_reducible refine Post.mono k50 ?_
  rintro _ u48 g49 rfl
  refine zza 49 (.v (.tuple #[.bool true, .int .i64 0])) ?_
  refine zza 53 (.v (.bool true)) ?_
  refine zza 54 (.v (.int .i64 0)) ?_
  refine zza 14 (.v (.bool true)) ?_
  refine zza 15 (.v (.int .i64 0)) ?_
  refine zzb 80 [(5, .adr 5 0), (6, .v y19.v), (7, .v (.int .i64 (i : Int))), (9, .v (.int .i64 0)), (10, .v y36.v), (11, .v (.int .i64 0)), (12, .v y42.v), (13, .v (.int .i64 0)), (14, .v (.bool true)), (15, .v (.int .i64 0))] [(5, ⟨51, [.int .i64 W12.b, .int .i64 W12.f, .int .i64 W12.r, .int .i64 W12.o]⟩)] ?_
  refine sq9 ?_
  refine zza 55 (.v (.int .i64 0)) ?_
  refine zza 56 (.v (.bool false)) ?_
  refine zza 57 (.v (.bool false)) ?_
  refine zza 58 (.v (.int .i64 0)) ?_ (hw := w1 2 false 57)
  refine zza 59 (.v (.bool false)) ?_ (hw := w1 2 false 57)
  refine zza 60 (.v (.bool false)) ?_
  refine zza 61 (.v (.bool false)) ?_
  refine zza 62 (.v (.int .i64 0)) ?_ (hw := w1 6 false 61)
  refine zza 63 (.v (.bool false)) ?_ (hw := w1 6 false 61)
  refine zza 64 (.v (.bool false)) ?_
  refine zza 65 (.v (.bool false)) ?_
  refine zza 66 (.v (.int .i64 0)) ?_ (hw := w1 10 false 65)
  refine zza 67 (.v (.bool false)) ?_ (hw := w1 10 false 65)
  refine zza 68 (.v (.bool false)) ?_
  refine zza 69 (.v (.bool false)) ?_
  refine zza 70 (.v (.bool true)) ?_ (hw := w1 14 false 69)
  refine zza 71 (.v (.bool false)) ?_ (hw := w1 14 false 69)
  refine zza 72 (.v (.bool false)) ?_
  refine zza 73 (.v (.bool false)) ?_
  refine zza 74 (.v y36.v) ?_ (hw := w1 18 false 73)
  refine zza 75 (.v y42.v) ?_ (hw := w1 18 false 73)
  refine zzf 76 22 [y36.v, y42.v] ?_ (hw := w1 18 false 73)
  intro w51 u51 e51 d51
  have k54 := k_r5Same d51 (h37.ext (e41.trans (g45.ext.trans (e47.trans (g49.ext.trans e51))))).raw (h43.ext (e47.trans (g49.ext.trans e51))).raw (by omega) (by omega) (by first | omega | (simp; done) | (simp; omega) | (refine Nat.le_trans (Nt.zzg _) ?_; rw [Nt.addQ_len]; omega) | (refine Nat.le_trans (Nt.zzg _) ?_; have h9 := Nt.sec_len; exact Nat.le_trans (h9 _ _).1 (by decide)) | (refine Nat.le_trans (Nt.zzg _) ?_; have h9 := Nt.sec_len; exact Nat.le_trans (h9 _ _).2 (by decide))) (by first | omega | (simp; done) | (simp; omega) | (refine Nat.le_trans (Nt.zzg _) ?_; rw [Nt.addQ_len]; omega) | (refine Nat.le_trans (Nt.zzg _) ?_; have h9 := Nt.sec_len; exact Nat.le_trans (h9 _ _).1 (by decide)) | (refine Nat.le_trans (Nt.zzg _) ?_; have h9 := Nt.sec_len; exact Nat.le_trans (h9 _ _).2 (by decide)))
  with_reducible refine Post.mono k54 ?_
  rintro _ u52 g53 rfl
  refine zza 77 (.v (.bool (!(decide (Nt.trimQ (Nt.magL (Nt.trimQ (Nt.secB W12.f p25))) = Nt.trimQ (Nt.magL (Nt.trimQ (Nt.secA W12.f p25)))))))) ?_ (hw := w1 18 false 73)
  refine zza 78 (.v (.bool (!(decide (Nt.trimQ (Nt.magL (Nt.trimQ (Nt.secB W12.f p25))) = Nt.trimQ (Nt.magL (Nt.trimQ (Nt.secA W12.f p25)))))))) ?_
  refine zzb 80 [(5, .adr 5 0), (6, .v y19.v), (7, .v (.int .i64 (i : Int))), (78, .v (.bool (!(decide (Nt.trimQ (Nt.magL (Nt.trimQ (Nt.secB W12.f p25))) = Nt.trimQ (Nt.magL (Nt.trimQ (Nt.secA W12.f p25))))))))] [(5, ⟨51, [.int .i64 W12.b, .int .i64 W12.f, .int .i64 W12.r, .int .i64 W12.o]⟩)] ?_
  refine zzt (b := !(decide (Nt.trimQ (Nt.magL (Nt.trimQ (Nt.secB W12.f p25))) = Nt.trimQ (Nt.magL (Nt.trimQ (Nt.secA W12.f p25)))))) (by kernel_rfl) (fun hb => ?_) (fun hb => ?_)
  ·exact absurd hb (by rw [show (!(decide (Nt.trimQ (Nt.magL (Nt.trimQ (Nt.secB W12.f p25))) = Nt.trimQ (Nt.magL (Nt.trimQ (Nt.secA W12.f p25)))))) = false from (by rw [decide_eq_true (Nt.pass_law W12.f p25)]; rfl)]; decide)
  ·clear hb
   refine zzr (zzo ?_)
   refine zze ?_
   refine zza 26 (.v (.int .i64 (i : Int))) ?_
   refine zyp 27 (x := .v (.int .i64 (IntKind.i64.wrap ((i : Int) + 1)))) (.v (.int .i64 ((i + 1 : Nat) : Int))) (eqI (by rw [IntWalk.i64_in _ (by omega)]; omega)) ?_
   refine zza 7 (.v (.int .i64 ((i + 1 : Nat) : Int))) ?_
   refine zzw ?_
   refine ⟨_, ?_, St.of 80 [(5, .adr 5 0), (6, .v (.slice y19.a y19.n y19.c)), (7, .v (.int .i64 ((i + 1 : Nat) : Int)))] [(5, ⟨51, [.int .i64 W12.b, .int .i64 W12.f, .int .i64 W12.r, .int .i64 W12.o]⟩)], by exact zzu _ _ _, i + 1, rfl, by omega, rfl, (e23.trans (e26.trans (g32.ext.trans (e35.trans (g39.ext.trans (e41.trans (g45.ext.trans (e47.trans (g49.ext.trans (e51.trans g53.ext))))))))))⟩
   omega
 ·replace hb24 : (decide ((i : Int) < (y19.n : Int))) = false := hb24
  have qhb24 := of_decide_eq_false hb24
  refine zyb ?_
  refine zzo ?_
  refine sq9 ?_
  refine zzf 79 27 [] ?_
  intro w55 u55 e55 d55
  have k58 := k_known26 d55
  with_reducible refine Post.mono k58 ?_
  rintro _ u56 g57 rfl
  refine zza 4 (.v (.bool true)) ?_
  refine zzb 80 [(4, .v (.bool true))] [] ?_
  refine zzn (ret0 [.bool true] ⟨zzp, trivial⟩ fun u59 e60 => ?_)
  exact rfl
end Go.Proofs.YtmonfdlnihaabaaGreat
