/- LatticeTaps, walked. Printed by wip/sym/g_ce.py. -/
import Derived.Test.YtmonfdlnihaabaaGreatLtaE
namespace Go.Proofs.YtmonfdlnihaabaaGreat
open Go.RowKit
set_option linter.unusedVariables false
theorem k_withinN {u w : World} {n m : Int} (d : Dat u w) (hm : 1 ≤ m) (hm2 : m ≤ 4611686018427387904) (hn0 : -9223372036854775808 ≤ n) (hn1 : n ≤ 9223372036854775807) : Calls Tryz.prog 9 #[.int .i64 n, .int .i64 m] w (Post u w fun v _ => ∃ z : Nat, v = .int .i64 (z : Int) ∧ (z : Int) < m) :=
 Post.mono (k_within d hm hm2 hn0 hn1) fun v u' _ h => by
  have h1 := Int.emod_nonneg n (show m ≠ 0 by omega)
  have h2 := Int.emod_lt_of_pos n (show 0 < m by omega)
  exact ⟨(n % m).toNat, by rw [h, Int.toNat_of_nonneg h1], by omega⟩
namespace Nt
def ltR (k : List Int) (n : Nat) : List Rat := (List.range n).map fun i => ((((k.getD i 0) % 31 - 15 : Int) : Rat) / ((16 : Int) : Rat))
theorem ltR_len (k : List Int) (n : Nat) : (ltR k n).length = n := by unfold ltR; simp
theorem ltR_at (k : List Int) {n i : Nat} (h : i < n) : (ltR k n).getD i 0 = ((((k.getD i 0) % 31 - 15 : Int) : Rat) / ((16 : Int) : Rat)) := by
 unfold ltR
 rw [List.getD_eq_getElem?_getD, List.getElem?_map, List.getElem?_range h]; rfl
theorem ltR_small (k : List Int) (n : Nat) : ∀ i, i < (ltR k n).length → smallQ ((ltR k n).getD i 0) = true := fun i hi => by
 rw [ltR_len] at hi
 rw [ltR_at k hi]
 obtain ⟨z, hz⟩ : ∃ z : Int, (k.getD i 0) % 31 = z := ⟨_, rfl⟩
 have h0 : 0 ≤ z ∧ z < 31 := by omega
 rw [hz]
 have hz : z = 0 ∨ z = 1 ∨ z = 2 ∨ z = 3 ∨ z = 4 ∨ z = 5 ∨ z = 6 ∨ z = 7 ∨ z = 8 ∨ z = 9 ∨ z = 10 ∨ z = 11 ∨ z = 12 ∨ z = 13 ∨ z = 14 ∨ z = 15 ∨ z = 16 ∨ z = 17 ∨ z = 18 ∨ z = 19 ∨ z = 20 ∨ z = 21 ∨ z = 22 ∨ z = 23 ∨ z = 24 ∨ z = 25 ∨ z = 26 ∨ z = 27 ∨ z = 28 ∨ z = 29 ∨ z = 30 := by omega
 rcases hz with rfl | rfl | rfl | rfl | rfl | rfl | rfl | rfl | rfl | rfl | rfl | rfl | rfl | rfl | rfl | rfl | rfl | rfl | rfl | rfl | rfl | rfl | rfl | rfl | rfl | rfl | rfl | rfl | rfl | rfl | rfl <;> decide +kernel
def wRats (b : List Int) (n : Nat) : List Rat := (List.range n).map fun i => ((((b.getD i 0) % 2000 % 25 - 12 : Int) : Rat) / ((1 + (b.getD i 0) % 2000 / 25 % 8 : Int) : Rat))
theorem wRats_len (b : List Int) (n : Nat) : (wRats b n).length = n := by unfold wRats; simp
theorem wRats_at (b : List Int) {n i : Nat} (h : i < n) : (wRats b n).getD i 0 = ((((b.getD i 0) % 2000 % 25 - 12 : Int) : Rat) / ((1 + (b.getD i 0) % 2000 / 25 % 8 : Int) : Rat)) := by
 unfold wRats
 rw [List.getD_eq_getElem?_getD, List.getElem?_map, List.getElem?_range h]; rfl
theorem tapE_12 {b k : List Rat} (hz : ∀ i, i < k.length → smallQ (k.getD i 0) = true) (h : (tapE b k != 0) = true) : tapE b k = 12 ∧ k.length + 1 < (trimQ b).length := by
 by_cases h9 : k.length + 1 < (trimQ b).length
 ·exact ⟨(tapE_deg hz h9).1, h9⟩
 ·rw [(tapE_ok hz (by omega)).1] at h; cases h
theorem tapE_0 {b k : List Rat} (hz : ∀ i, i < k.length → smallQ (k.getD i 0) = true) (h : (tapE b k != 0) = false) : (trimQ b).length ≤ k.length + 1 ∧ tapO b k = tapL b k := by
 by_cases h9 : k.length + 1 < (trimQ b).length
 ·rw [(tapE_deg hz h9).1] at h; cases h
 ·exact ⟨by omega, (tapE_ok hz (by omega)).2⟩
end Nt
set_option maxHeartbeats 2000000 in
theorem k_wRats {u w : World} {x : Sl} {b : List Int} {n : Nat} (d : Dat u w) (hx : SlR .i64 u x.a x.n x.c b) (hb : ∀ z ∈ b, -9223372036854775808 ≤ z ∧ z ≤ 9223372036854775807) (hn : n ≤ 1000) : Calls Tryz.prog 12 #[x.v, .int .i64 (n : Int)] w (Post u w fun v u' => ∃ y : Sl, v = y.v ∧ PolN u' y (Nt.wRats b n) 3) := by
 have hlen : b.length = x.n := hx.1
 refine zzl (args := [.slice x.a x.n x.c, .int .i64 (n : Int)]) Tryz.func12 rfl Tryz.ntmps12 (rs := [.tmp 4]) Tryz.results12 (le_b rfl) (le_b rfl) d ?_
 refine sq9 ?_
 refine zza 4 (.v (.slice none 0 0)) ?_
 refine zzb 29 [(0, .v x.v), (1, .v (.int .i64 (n : Int)))] [] ?_
 refine sq9 ?_
 refine zza 5 (.v (.slice none 0 0)) ?_
 refine zzb 29 [(0, .v x.v), (1, .v (.int .i64 (n : Int))), (5, .v (.slice none 0 0))] [] ?_
 refine zzc ?_
 refine sq9 ?_
 refine zza 6 (.v (.int .i64 0)) ?_
 refine zzb 29 [(0, .v x.v), (1, .v (.int .i64 (n : Int))), (5, .v (.slice none 0 0)), (6, .v (.int .i64 0))] [] ?_
 refine zzs ?_
 refine zym (I := fun m11 S' u' => (m11 = n ∧ S' = St.of 29 [(0, .v (.slice x.a x.n x.c)), (1, .v (.int .i64 (n : Int))), (5, .v (.slice none 0 0)), (6, .v (.int .i64 0))] [] ∧ Ext u u') ∨ (∃ (i : Nat) (L : List RL) (cs : List Value) (cp : Nat), m11 = n - i ∧ i ≤ n ∧ 0 < i ∧ L.length = i ∧ cs.length = cp * 3 ∧ i ≤ cp ∧ cp ≤ maxLen ∧ cs.take (i * 3) = rcs L ∧ S' = St.of 29 [(0, .v (.slice x.a x.n x.c)), (1, .v (.int .i64 (n : Int))), (5, .slc 27 0 i cp), (6, .v (.int .i64 (i : Int)))] [(27, ⟨29, cs⟩)] ∧ Ext u u' ∧ RatsN u' L ((Nt.wRats b n).take i) 3)) (fun m S u1 u2 e h => by rcases h with ⟨a, b, c⟩ | ⟨a1, a2, a3, a4, b1, b2, b3, b4, b5, b6, b7, b8, b9, b10, b11⟩; exact .inl ⟨a, b, c.trans e⟩; exact .inr ⟨a1, a2, a3, a4, b1, b2, b3, b4, b5, b6, b7, b8, b9, b10.trans e, b11.ext e⟩) _ (T := St.of 29 [(0, .v (.slice x.a x.n x.c)), (1, .v (.int .i64 (n : Int))), (5, .v (.slice none 0 0)), (6, .v (.int .i64 0))] []) (by exact zzu _ _ _) (.inl ⟨rfl, rfl, Ext.refl _⟩) ?_
 rintro m11 _ u11 (⟨hm11, rfl, e11⟩ | ⟨i, L, cs, cp, hm11, hi, hp, hL, hc, hle, hmx, ht, rfl, e11, hR⟩)
 ·change SW _ _ _ _ (St.of 29 [(0, .v (.slice x.a x.n x.c)), (1, .v (.int .i64 (n : Int))), (5, .v (.slice none 0 0)), (6, .v (.int .i64 0))] []) _ _
  refine zzc ?_
  refine sq9 ?_
  refine zza 8 (.v (.int .i64 0)) ?_
  refine zza 9 (.v (.int .i64 (n : Int))) ?_
  refine zza 10 (.v (.bool (decide ((0 : Int) < (n : Int))))) ?_
  refine zzb 29 [(0, .v x.v), (1, .v (.int .i64 (n : Int))), (5, .v (.slice none 0 0)), (6, .v (.int .i64 0)), (10, .v (.bool (decide ((0 : Int) < (n : Int)))))] [] ?_
  refine zzt (b := decide ((0 : Int) < (n : Int))) (by kernel_rfl) (fun hb12 => ?_) (fun hb12 => ?_)
  ·replace hb12 : (decide ((0 : Int) < (n : Int))) = true := hb12
   have qhb12 := of_decide_eq_true hb12
   refine zzr (zzo ?_)
   refine zzc ?_
   refine zzs ?_
   refine sq9 ?_
   refine zza 13 (.v x.v) ?_
   refine zza 14 (.v (.int .i64 0)) ?_
   refine zzf 15 11 [x.v, .int .i64 0] ?_
   intro w13 u13 e13 d13
   have k16 := (show Calls _ _ #[_, .int .i64 0] _ _ from k_wat (x := x) (i := 0) d13 (hx.ext (e11.trans e13)) hb (by omega))
   with_reducible refine Post.mono k16 ?_
   rintro _ u14 g15 rfl
   have hz17 := ints_bd hb (by omega) 0
   refine zzf 16 9 [.int .i64 (b.getD 0 0), .int .i64 2000] ?_
   intro w18 u18 e18 d18
   have k21 := k_within d18 (n := (b.getD 0 0)) (m := 2000) (by omega) (by omega) (by omega) (by omega)
   with_reducible refine Post.mono k21 ?_
   rintro _ u19 g20 rfl
   refine zza 7 (.v (.int .i64 ((b.getD 0 0) % 2000))) ?_
   refine zzb 29 [(0, .v x.v), (1, .v (.int .i64 (n : Int))), (5, .v (.slice none 0 0)), (6, .v (.int .i64 0)), (7, .v (.int .i64 ((b.getD 0 0) % 2000)))] [] ?_
   refine zze ?_
   refine zza 17 (.v (.slice none 0 0)) ?_
   refine zza 18 (.v (.int .i64 ((b.getD 0 0) % 2000))) ?_
   refine sy_rem 19 (n := (b.getD 0 0) % 2000) (m := 25) (((b.getD 0 0) % 2000) % 25) (by decide) (Int.tmod_eq_emod_of_nonneg (by omega)) ?_
   refine zyp 20 (x := .v (.int .i64 (IntKind.i64.wrap ((((b.getD 0 0) % 2000) % 25) - 12)))) (.v (.int .i64 ((((b.getD 0 0) % 2000) % 25) - 12))) (by rw [IntWalk.i64_in _ (by omega)]) ?_
   refine zza 21 (.v (.int .i64 ((b.getD 0 0) % 2000))) ?_
   refine sy_quo 22 (n := (b.getD 0 0) % 2000) (m := 25) (((b.getD 0 0) % 2000) / 25) (by decide) (by rw [Int.tdiv_eq_ediv_of_nonneg (by omega)]; exact IntWalk.i64_in _ (by omega)) ?_
   refine sy_rem 23 (n := ((b.getD 0 0) % 2000) / 25) (m := 8) ((((b.getD 0 0) % 2000) / 25) % 8) (by decide) (Int.tmod_eq_emod_of_nonneg (by omega)) ?_
   refine zyp 24 (x := .v (.int .i64 (IntKind.i64.wrap ((1 : Int) + ((((b.getD 0 0) % 2000) / 25) % 8))))) (.v (.int .i64 ((1 : Int) + ((((b.getD 0 0) % 2000) / 25) % 8)))) (by rw [IntWalk.i64_in _ (by omega)]) ?_
   refine zzf 25 10 [.int .i64 ((((b.getD 0 0) % 2000) % 25) - 12), .int .i64 ((1 : Int) + ((((b.getD 0 0) % 2000) / 25) % 8))] ?_
   intro w22 u22 e22 d22
   have k27 := k_rqFrac d22 (a := (((b.getD 0 0) % 2000) % 25) - 12) (b := (1 : Int) + ((((b.getD 0 0) % 2000) / 25) % 8)) (by omega) (by omega) (by omega) (by omega)
   with_reducible refine Post.mono k27 ?_
   rintro _ u25 g26 ⟨r23, rfl, h24⟩
   refine sy_data 26 ⟨29, r23.cs⟩ 1 (fun b28 u29 e30 h31 => ?_)
   have hp32 : PolN u29 (⟨some ⟨b28, 0, none⟩, 1, 1⟩ : Sl) [((((((b.getD 0 0) % 2000) % 25) - 12 : Int) : Rat) / (((1 : Int) + ((((b.getD 0 0) % 2000) / 25) % 8) : Int) : Rat))] 3 := pol_lit (L := [r23]) h31 (rats1 (h24.ext e30)) rfl (by decide)
   refine sy_app0 27 (T := 24) (E := 29) (z := .agg #[.bool false, .slice none 0 0, .slice none 0 0]) (size := 3) (bytes := 56) (b := b28) (off := 0) (m := 1) r23.cs (by kernel_rfl) (by kernel_rfl) (by kernel_rfl) (by decide) rfl (lit_news ((Ext.refl _).cells h31)) (rl_one r23) (by decide) (by decide) (by decide) ?_
   intro c33 cs33 ha33 hb33 hc33 hd33
   refine zza 5 (.slc 27 0 1 c33) ?_
   refine zzw ?_
   refine zzo ?_
   refine zze ?_
   refine zza 11 (.v (.int .i64 0)) ?_
   refine zza 12 (.v (.int .i64 1)) ?_
   refine zza 6 (.v (.int .i64 1)) ?_
   refine zzw ?_
   have ht34 : 0 < (Nt.wRats b n).length := by rw [Nt.wRats_len]; omega
   refine ⟨_, ?_, St.of 29 [(0, .v (.slice x.a x.n x.c)), (1, .v (.int .i64 (n : Int))), (5, .slc 27 0 1 c33), (6, .v (.int .i64 1))] [(27, ⟨29, cs33⟩)], by exact zzu _ _ _, .inr ⟨1, [r23], cs33, c33, rfl, by omega, by omega, by simp, hc33, by omega, hb33, hd33, rfl, (e11.trans (e13.trans (g15.ext.trans (e18.trans (g20.ext.trans (e22.trans (g26.ext.trans e30))))))), (app_first (RatN.more (K := 3) (h24.ext e30) (by omega)) ht34 (Nt.wRats_at b (i := 0) (by omega)).symm)⟩⟩
   omega
  ·replace hb12 : (decide ((0 : Int) < (n : Int))) = false := hb12
   have qhb12 := of_decide_eq_false hb12
   refine zyb ?_
   refine zzo ?_
   refine zzc ?_
   have hp35 : PolN u11 ⟨none, 0, 0⟩ (Nt.wRats b n) 3 := by have h9 : (Nt.wRats b n) = [] := List.eq_nil_of_length_eq_zero (by rw [Nt.wRats_len]; omega); rw [h9]; exact pol_nil _ _
   refine zze ?_
   refine zza 28 (.v (.slice none 0 0)) ?_
   refine zza 4 (.v (.slice none 0 0)) ?_
   refine zzb 29 [(4, .v (.slice none 0 0))] [] ?_
   refine zzn (ret0 [.slice none 0 0] ⟨zzp, trivial⟩ fun u36 e37 => ?_)
   refine ⟨⟨none, 0, 0⟩, rfl, ?_⟩
   exact (hp35.ext e37)
 ·change SW _ _ _ _ (St.of 29 [(0, .v (.slice x.a x.n x.c)), (1, .v (.int .i64 (n : Int))), (5, .slc 27 0 i cp), (6, .v (.int .i64 (i : Int)))] [(27, ⟨29, cs⟩)]) _ _
  refine zzc ?_
  refine sq9 ?_
  refine zza 8 (.v (.int .i64 (i : Int))) ?_
  refine zza 9 (.v (.int .i64 (n : Int))) ?_
  refine zza 10 (.v (.bool (decide ((i : Int) < (n : Int))))) ?_
  refine zzb 29 [(0, .v x.v), (1, .v (.int .i64 (n : Int))), (5, .slc 27 0 i cp), (6, .v (.int .i64 (i : Int))), (10, .v (.bool (decide ((i : Int) < (n : Int)))))] [(27, ⟨29, cs⟩)] ?_
  refine zzt (b := decide ((i : Int) < (n : Int))) (by kernel_rfl) (fun hb38 => ?_) (fun hb38 => ?_)
  ·replace hb38 : (decide ((i : Int) < (n : Int))) = true := hb38
   have qhb38 := of_decide_eq_true hb38
   refine zzr (zzo ?_)
   refine zzc ?_
   refine zzs ?_
   refine sq9 ?_
   refine zza 13 (.v x.v) ?_
   refine zza 14 (.v (.int .i64 (i : Int))) ?_
   refine zzf 15 11 [x.v, .int .i64 (i : Int)] ?_
   intro w39 u39 e39 d39
   have k42 := (show Calls _ _ #[_, .int .i64 (i : Int)] _ _ from k_wat (x := x) (i := i) d39 (hx.ext (e11.trans e39)) hb (by omega))
   with_reducible refine Post.mono k42 ?_
   rintro _ u40 g41 rfl
   have hz43 := ints_bd hb (by omega) i
   refine zzf 16 9 [.int .i64 (b.getD i 0), .int .i64 2000] ?_
   intro w44 u44 e44 d44
   have k47 := k_within d44 (n := (b.getD i 0)) (m := 2000) (by omega) (by omega) (by omega) (by omega)
   with_reducible refine Post.mono k47 ?_
   rintro _ u45 g46 rfl
   refine zza 7 (.v (.int .i64 ((b.getD i 0) % 2000))) ?_
   refine zzb 29 [(0, .v x.v), (1, .v (.int .i64 (n : Int))), (5, .slc 27 0 i cp), (6, .v (.int .i64 (i : Int))), (7, .v (.int .i64 ((b.getD i 0) % 2000)))] [(27, ⟨29, cs⟩)] ?_
   refine zze ?_
   refine zza 17 (.slc 27 0 i cp) ?_
   refine zza 18 (.v (.int .i64 ((b.getD i 0) % 2000))) ?_
   refine sy_rem 19 (n := (b.getD i 0) % 2000) (m := 25) (((b.getD i 0) % 2000) % 25) (by decide) (Int.tmod_eq_emod_of_nonneg (by omega)) ?_
   refine zyp 20 (x := .v (.int .i64 (IntKind.i64.wrap ((((b.getD i 0) % 2000) % 25) - 12)))) (.v (.int .i64 ((((b.getD i 0) % 2000) % 25) - 12))) (by rw [IntWalk.i64_in _ (by omega)]) ?_
   refine zza 21 (.v (.int .i64 ((b.getD i 0) % 2000))) ?_
   refine sy_quo 22 (n := (b.getD i 0) % 2000) (m := 25) (((b.getD i 0) % 2000) / 25) (by decide) (by rw [Int.tdiv_eq_ediv_of_nonneg (by omega)]; exact IntWalk.i64_in _ (by omega)) ?_
   refine sy_rem 23 (n := ((b.getD i 0) % 2000) / 25) (m := 8) ((((b.getD i 0) % 2000) / 25) % 8) (by decide) (Int.tmod_eq_emod_of_nonneg (by omega)) ?_
   refine zyp 24 (x := .v (.int .i64 (IntKind.i64.wrap ((1 : Int) + ((((b.getD i 0) % 2000) / 25) % 8))))) (.v (.int .i64 ((1 : Int) + ((((b.getD i 0) % 2000) / 25) % 8)))) (by rw [IntWalk.i64_in _ (by omega)]) ?_
   refine zzf 25 10 [.int .i64 ((((b.getD i 0) % 2000) % 25) - 12), .int .i64 ((1 : Int) + ((((b.getD i 0) % 2000) / 25) % 8))] ?_
   intro w48 u48 e48 d48
   have k53 := k_rqFrac d48 (a := (((b.getD i 0) % 2000) % 25) - 12) (b := (1 : Int) + ((((b.getD i 0) % 2000) / 25) % 8)) (by omega) (by omega) (by omega) (by omega)
   with_reducible refine Post.mono k53 ?_
   rintro _ u51 g52 ⟨r49, rfl, h50⟩
   refine sy_data 26 ⟨29, r49.cs⟩ 1 (fun b54 u55 e56 h57 => ?_)
   have hp58 : PolN u55 (⟨some ⟨b54, 0, none⟩, 1, 1⟩ : Sl) [((((((b.getD i 0) % 2000) % 25) - 12 : Int) : Rat) / (((1 : Int) + ((((b.getD i 0) % 2000) / 25) % 8) : Int) : Rat))] 3 := pol_lit (L := [r49]) h57 (rats1 (h50.ext e56)) rfl (by decide)
   refine sy_app1 27 (T := 24) (E := 29) (z := .agg #[.bool false, .slice none 0 0, .slice none 0 0]) (size := 3) (bytes := 56) (b := b54) (off := 0) (m := 1) (n := i) (cap := cp) (t := 27) (cs0 := cs) [5, 17, 27] r49.cs (by kernel_rfl) (by kernel_rfl) (by kernel_rfl) (by decide) rfl (lit_news ((Ext.refl _).cells h57)) (rl_one r49) (by decide) (by unfold maxLen; omega) (by omega) (by omega) (by omega) (by omega) (by repeat first | exact noAt_of | refine zyc ?_ | refine zye ?_ | refine zyd ?_ | refine zzx ?_ | refine zya ?_) ?_
   intro c59 cs59 ha59 hb59 hc59 hd59
   have hd59r : cs59.take ((i + 1) * 3) = rcs (L ++ [r49]) := by rw [hd59, ht, rcs_app]; rfl
   refine zza 5 (.slc 27 0 (i + 1) c59) ?_
   refine zzw ?_
   refine zzo ?_
   refine zze ?_
   refine zza 11 (.v (.int .i64 (i : Int))) ?_
   refine zyp 12 (x := .v (.int .i64 (IntKind.i64.wrap ((i : Int) + 1)))) (.v (.int .i64 ((i + 1 : Nat) : Int))) (eqI (by rw [IntWalk.i64_in _ (by omega)]; omega)) ?_
   refine zza 6 (.v (.int .i64 ((i + 1 : Nat) : Int))) ?_
   refine zzw ?_
   have ht60 : i < (Nt.wRats b n).length := by rw [Nt.wRats_len]; omega
   refine ⟨_, ?_, St.of 29 [(0, .v (.slice x.a x.n x.c)), (1, .v (.int .i64 (n : Int))), (5, .slc 27 0 (i + 1) c59), (6, .v (.int .i64 ((i + 1 : Nat) : Int)))] [(27, ⟨29, cs59⟩)], by exact zzu _ _ _, .inr ⟨i + 1, L ++ [r49], cs59, c59, rfl, by omega, by omega, by simp; omega, hc59, by omega, hb59, hd59r, rfl, (e11.trans (e39.trans (g41.ext.trans (e44.trans (g46.ext.trans (e48.trans (g52.ext.trans e56))))))), (app_next (hR.ext (e39.trans (g41.ext.trans (e44.trans (g46.ext.trans (e48.trans (g52.ext.trans e56))))))) (RatN.more (K := 3) (h50.ext e56) (by omega)) ht60 (Nt.wRats_at b (i := i) (by omega)).symm)⟩⟩
   omega
  ·replace hb38 : (decide ((i : Int) < (n : Int))) = false := hb38
   have qhb38 := of_decide_eq_false hb38
   refine zyb ?_
   refine zzo ?_
   refine zzc ?_
   refine zyo (r := 5) (t := 27) [5, 27] (by repeat first | exact noAt_of | refine zyc ?_ | refine zye ?_ | refine zyd ?_ | refine zzx ?_ | refine zya ?_) (by kernel_rfl) (by rfl) (by rfl) (by kernel_rfl) (fun b62 u63 e64 hb65 hh66 => ?_)
   have hp61 : PolN u63 ⟨some ⟨b62, 0, none⟩, i, cp⟩ (Nt.wRats b n) 3 := by have h8 := pol_data hh66 ht hc hle hmx (hR.ext e64); rw [List.take_of_length_le (l := (Nt.wRats b n)) (by rw [Nt.wRats_len]; omega)] at h8; exact h8
   refine zze ?_
   refine zza 28 (.v (.slice (some ⟨b62, 0, none⟩) i cp)) ?_
   refine zza 4 (.v (.slice (some ⟨b62, 0, none⟩) i cp)) ?_
   refine zzb 29 [(4, .v (.slice (some ⟨b62, 0, none⟩) i cp))] [] ?_
   refine zzn (ret0 [.slice (some ⟨b62, 0, none⟩) i cp] ⟨zzp, trivial⟩ fun u67 e68 => ?_)
   refine ⟨(⟨some ⟨b62, 0, none⟩, i, cp⟩ : Sl), rfl, ?_⟩
   exact (hp61.ext e68)
set_option maxHeartbeats 8000000 in
theorem w_latTaps {u w : World} {x y : Sl} {b k : List Int} {e : Int} (d : Dat u w) (hx : SlR .i64 u x.a x.n x.c b) (hb : ∀ z ∈ b, -9223372036854775808 ≤ z ∧ z ≤ 9223372036854775807) (hy : SlR .i64 u y.a y.n y.c k) (hc : ∀ z ∈ k, -9223372036854775808 ≤ z ∧ z ≤ 9223372036854775807) (he0 : -9223372036854775808 ≤ e) (he1 : e ≤ 9223372036854775807) : Calls Tryz.prog 3 #[x.v, y.v, .int .i64 e] w (Post u w fun v u' => v = .bool true) := by
 have hlx : b.length = x.n := hx.1
 have hly : k.length = y.n := hy.1
 have hmx := Nat.le_trans hy.2.1 hy.2.2.1
 unfold maxLen at hmx
 refine zzl (args := [.slice x.a x.n x.c, .slice y.a y.n y.c, .int .i64 e]) Tryz.func3 rfl Tryz.ntmps3 (rs := [.tmp 6]) Tryz.results3 (le_b rfl) (le_b rfl) d ?_
 refine sq9 ?_
 refine zza 6 (.v (.bool false)) ?_
 refine zzb 129 [(0, .v x.v), (1, .v y.v), (2, .v (.int .i64 e))] [] ?_
 refine sq9 ?_
 refine zza 21 (.v y.v) ?_
 refine zza 22 (.v (.int .i64 (y.n : Int))) ?_
 refine zzf 23 9 [.int .i64 (y.n : Int), .int .i64 5] ?_
 intro w11 u11 e11 d11
 have k16 := (show Calls _ _ #[.int .i64 (y.n : Int), .int .i64 5] _ _ from k_withinN (n := (y.n : Int)) (m := 5) d11 (by omega) (by omega) (by omega) (by omega))
 with_reducible refine Post.mono k16 ?_
 rintro _ u14 g15 ⟨z12, rfl, h13⟩
 refine zza 7 (.v (.int .i64 (z12 : Int))) ?_
 refine zzb 129 [(0, .v x.v), (1, .v y.v), (2, .v (.int .i64 e)), (7, .v (.int .i64 (z12 : Int)))] [] ?_
 refine sq9 ?_
 refine zza 8 (.v (.slice none 0 0)) ?_
 refine zzb 129 [(0, .v x.v), (1, .v y.v), (2, .v (.int .i64 e)), (7, .v (.int .i64 (z12 : Int))), (8, .v (.slice none 0 0))] [] ?_
 refine zzc ?_
 refine sq9 ?_
 refine zza 9 (.v (.int .i64 0)) ?_
 refine zzb 129 [(0, .v x.v), (1, .v y.v), (2, .v (.int .i64 e)), (7, .v (.int .i64 (z12 : Int))), (8, .v (.slice none 0 0)), (9, .v (.int .i64 0))] [] ?_
 refine zzs ?_
 refine zym (I := fun m17 S' u' => (m17 = z12 ∧ S' = St.of 129 [(0, .v (.slice x.a x.n x.c)), (1, .v (.slice y.a y.n y.c)), (2, .v (.int .i64 e)), (7, .v (.int .i64 (z12 : Int))), (8, .v (.slice none 0 0)), (9, .v (.int .i64 0))] [] ∧ Ext u14 u') ∨ (∃ (i0 : Nat) (L0 : List RL) (cs0 : List Value) (cp0 : Nat), m17 = z12 - i0 ∧ i0 ≤ z12 ∧ 0 < i0 ∧ L0.length = i0 ∧ cs0.length = cp0 * 3 ∧ i0 ≤ cp0 ∧ cp0 ≤ maxLen ∧ cs0.take (i0 * 3) = rcs L0 ∧ S' = St.of 129 [(0, .v (.slice x.a x.n x.c)), (1, .v (.slice y.a y.n y.c)), (2, .v (.int .i64 e)), (7, .v (.int .i64 (z12 : Int))), (8, .slc 37 0 i0 cp0), (9, .v (.int .i64 (i0 : Int)))] [(37, ⟨29, cs0⟩)] ∧ Ext u14 u' ∧ RatsN u' L0 ((Nt.ltR k z12).take i0) 3)) (fun m S u1 u2 e h => by rcases h with ⟨a, b, c⟩ | ⟨a1, a2, a3, a4, b1, b2, b3, b4, b5, b6, b7, b8, b9, b10, b11⟩; exact .inl ⟨a, b, c.trans e⟩; exact .inr ⟨a1, a2, a3, a4, b1, b2, b3, b4, b5, b6, b7, b8, b9, b10.trans e, b11.ext e⟩) _ (T := St.of 129 [(0, .v (.slice x.a x.n x.c)), (1, .v (.slice y.a y.n y.c)), (2, .v (.int .i64 e)), (7, .v (.int .i64 (z12 : Int))), (8, .v (.slice none 0 0)), (9, .v (.int .i64 0))] []) (by exact zzu _ _ _) (.inl ⟨rfl, rfl, Ext.refl _⟩) ?_
 rintro m17 _ u17 (⟨hm17, rfl, e17⟩ | ⟨i0, L0, cs0, cp0, hm17, hi0, hp0, hL0, hc0, hle0, hmx0, ht0, rfl, e17, hR0⟩)
 ·change SW _ _ _ _ (St.of 129 [(0, .v (.slice x.a x.n x.c)), (1, .v (.slice y.a y.n y.c)), (2, .v (.int .i64 e)), (7, .v (.int .i64 (z12 : Int))), (8, .v (.slice none 0 0)), (9, .v (.int .i64 0))] []) _ _
  refine zzc ?_
  refine sq9 ?_
  refine zza 24 (.v (.int .i64 0)) ?_
  refine zza 25 (.v (.int .i64 (z12 : Int))) ?_
  refine zza 26 (.v (.bool (decide ((0 : Int) < (z12 : Int))))) ?_
  refine zzb 129 [(0, .v x.v), (1, .v y.v), (2, .v (.int .i64 e)), (7, .v (.int .i64 (z12 : Int))), (8, .v (.slice none 0 0)), (9, .v (.int .i64 0)), (26, .v (.bool (decide ((0 : Int) < (z12 : Int)))))] [] ?_
  refine zzt (b := decide ((0 : Int) < (z12 : Int))) (by kernel_rfl) (fun hb18 => ?_) (fun hb18 => ?_)
  ·replace hb18 : (decide ((0 : Int) < (z12 : Int))) = true := hb18
   have qhb18 := of_decide_eq_true hb18
   refine zzr (zzo ?_)
   refine zzc ?_
   refine zzs ?_
   refine zze ?_
   refine zza 29 (.v (.slice none 0 0)) ?_
   refine zza 30 (.v y.v) ?_
   refine zza 31 (.v (.int .i64 0)) ?_
   refine zzf 32 11 [y.v, .int .i64 0] ?_
   intro w19 u19 e19 d19
   have k22 := (show Calls _ _ #[_, .int .i64 0] _ _ from k_wat (x := y) (i := 0) d19 (hy.ext (e11.trans (g15.ext.trans (e17.trans e19)))) hc (by omega))
   with_reducible refine Post.mono k22 ?_
   rintro _ u20 g21 rfl
   have hz23 := ints_bd hc (by omega) 0
   refine zzf 33 9 [.int .i64 (k.getD 0 0), .int .i64 31] ?_
   intro w24 u24 e24 d24
   have k27 := k_within d24 (n := (k.getD 0 0)) (m := 31) (by omega) (by omega) (by omega) (by omega)
   with_reducible refine Post.mono k27 ?_
   rintro _ u25 g26 rfl
   refine zyp 34 (x := .v (.int .i64 (IntKind.i64.wrap (((k.getD 0 0) % 31) - 15)))) (.v (.int .i64 (((k.getD 0 0) % 31) - 15))) (by rw [IntWalk.i64_in _ (by omega)]) ?_
   refine zzf 35 10 [.int .i64 (((k.getD 0 0) % 31) - 15), .int .i64 16] ?_
   intro w28 u28 e28 d28
   have k33 := k_rqFrac d28 (a := ((k.getD 0 0) % 31) - 15) (b := 16) (by omega) (by omega) (by omega) (by omega)
   with_reducible refine Post.mono k33 ?_
   rintro _ u31 g32 ⟨r29, rfl, h30⟩
   refine sy_data 36 ⟨29, r29.cs⟩ 1 (fun b34 u35 e36 h37 => ?_)
   have hp38 : PolN u35 (⟨some ⟨b34, 0, none⟩, 1, 1⟩ : Sl) [(((((k.getD 0 0) % 31) - 15 : Int) : Rat) / ((16 : Int) : Rat))] 3 := pol_lit (L := [r29]) h37 (rats1 (h30.ext e36)) rfl (by decide)
   refine sy_app0 37 (T := 24) (E := 29) (z := .agg #[.bool false, .slice none 0 0, .slice none 0 0]) (size := 3) (bytes := 56) (b := b34) (off := 0) (m := 1) r29.cs (by kernel_rfl) (by kernel_rfl) (by kernel_rfl) (by decide) rfl (lit_news ((Ext.refl _).cells h37)) (rl_one r29) (by decide) (by decide) (by decide) ?_
   intro c39 cs39 ha39 hb39 hc39 hd39
   refine zza 8 (.slc 37 0 1 c39) ?_
   refine zzw ?_
   refine zzo ?_
   refine zze ?_
   refine zza 27 (.v (.int .i64 0)) ?_
   refine zza 28 (.v (.int .i64 1)) ?_
   refine zza 9 (.v (.int .i64 1)) ?_
   refine zzw ?_
   have ht40 : 0 < (Nt.ltR k z12).length := by rw [Nt.ltR_len]; omega
   refine ⟨_, ?_, St.of 129 [(0, .v (.slice x.a x.n x.c)), (1, .v (.slice y.a y.n y.c)), (2, .v (.int .i64 e)), (7, .v (.int .i64 (z12 : Int))), (8, .slc 37 0 1 c39), (9, .v (.int .i64 1))] [(37, ⟨29, cs39⟩)], by exact zzu _ _ _, .inr ⟨1, [r29], cs39, c39, rfl, by omega, by omega, by simp, hc39, by omega, hb39, hd39, rfl, (e17.trans (e19.trans (g21.ext.trans (e24.trans (g26.ext.trans (e28.trans (g32.ext.trans e36))))))), (app_first (RatN.more (K := 3) (h30.ext e36) (by omega)) ht40 (Nt.ltR_at k (i := 0) (by omega)).symm)⟩⟩
   omega
  ·replace hb18 : (decide ((0 : Int) < (z12 : Int))) = false := hb18
   have qhb18 := of_decide_eq_false hb18
   refine zyb ?_
   refine zzo ?_
   refine zzc ?_
   have hp41 : PolN u17 ⟨none, 0, 0⟩ (Nt.ltR k z12) 3 := by have h9 : (Nt.ltR k z12) = [] := List.eq_nil_of_length_eq_zero (by rw [Nt.ltR_len]; omega); rw [h9]; exact pol_nil _ _
   obtain ⟨l, hle⟩ : ∃ l, l = Nt.ltR k z12 := ⟨_, rfl⟩
   have hlf := hp41
   rw [← hle] at hlf
   have hll : l.length = z12 := by rw [hle, Nt.ltR_len]
   have hz : ∀ i, i < l.length → Nt.smallQ (l.getD i 0) = true := by rw [hle]; exact Nt.ltR_small k z12
   have hln8 := hlf.len
   refine zze ?_
   refine zza 38 (.v x.v) ?_
   refine zza 39 (.v (.int .i64 (z12 : Int))) ?_
   refine zyp 40 (x := .v (.int .i64 (IntKind.i64.wrap ((z12 : Int) + 1)))) (.v (.int .i64 ((z12 + 1 : Nat) : Int))) (eqI (by rw [IntWalk.i64_in _ (by omega)]; omega)) ?_
   refine zza 41 (.v (.int .i64 e)) ?_
   obtain ⟨z42, hz42, ha42, hb42⟩ := wrap64_ex (((z12 + 1 : Nat) : Int) - e)
   refine zyp 42 (x := .v (.int .i64 (IntKind.i64.wrap (((z12 + 1 : Nat) : Int) - e)))) (.v (.int .i64 z42)) (eqI hz42) ?_
   refine zza 43 (.v (.int .i64 (z12 : Int))) ?_
   refine zyp 44 (x := .v (.int .i64 (IntKind.i64.wrap ((z12 : Int) + 3)))) (.v (.int .i64 ((z12 + 3 : Nat) : Int))) (eqI (by rw [IntWalk.i64_in _ (by omega)]; omega)) ?_
   refine zzf 45 9 [.int .i64 z42, .int .i64 ((z12 + 3 : Nat) : Int)] ?_
   intro w43 u43 e43 d43
   have k48 := (show Calls _ _ #[.int .i64 z42, .int .i64 ((z12 + 3 : Nat) : Int)] _ _ from k_withinN (n := z42) (m := ((z12 + 3 : Nat) : Int)) d43 (by omega) (by omega) (by omega) (by omega))
   with_reducible refine Post.mono k48 ?_
   rintro _ u46 g47 ⟨z44, rfl, h45⟩
   refine zzf 46 12 [x.v, .int .i64 (z44 : Int)] ?_
   intro w49 u49 e49 d49
   have k54 := (show Calls _ _ #[_, .int .i64 (z44 : Int)] _ _ from k_wRats (n := z44) d49 (hx.ext (e11.trans (g15.ext.trans (e17.trans (e43.trans (g47.ext.trans e49)))))) hb (by omega))
   with_reducible refine Post.mono k54 ?_
   rintro _ u52 g53 ⟨y50, rfl, h51⟩
   obtain ⟨p, hpe⟩ : ∃ p, p = Nt.wRats b z44 := ⟨_, rfl⟩
   have hpp := h51
   rw [← hpe] at hpp
   have hly50 := hpp.len
   have hpl : p.length = z44 := by rw [hpe, Nt.wRats_len]
   refine zza 10 (.v y50.v) ?_
   refine zzb 129 [(7, .v (.int .i64 (z12 : Int))), (8, .v (.slice none 0 0)), (10, .v y50.v)] [] ?_
   refine sq9 ?_
   refine zza 48 (.v y50.v) ?_
   refine zza 49 (.v (.slice none 0 0)) ?_
   refine zzf 50 13 [y50.v, .slice none 0 0] ?_
   intro w55 u55 e55 d55
   have k60 := k_taps d55 (hpp.ext e55).raw (hlf.ext (e43.trans (g47.ext.trans (e49.trans (g53.ext.trans e55))))).raw (by first | omega | (simp; done) | (simp; omega)) (by omega) (by omega) (by first | omega | (simp; done) | (simp; omega))
   with_reducible refine Post.mono k60 ?_
   rintro _ u58 g59 ⟨y56, rfl, h57⟩
   refine zza 47 (.v (.tuple #[y56.v, .int .i64 (Nt.tapE p l)])) ?_
   refine zza 51 (.v y56.v) ?_
   refine zza 52 (.v (.int .i64 (Nt.tapE p l))) ?_
   refine zza 11 (.v y56.v) ?_
   refine zza 12 (.v (.int .i64 (Nt.tapE p l))) ?_
   refine zzb 129 [(7, .v (.int .i64 (z12 : Int))), (8, .v (.slice none 0 0)), (10, .v y50.v), (11, .v y56.v), (12, .v (.int .i64 (Nt.tapE p l)))] [] ?_
   refine sq9 ?_
   refine zza 54 (.v y50.v) ?_
   refine zza 55 (.v (.slice none 0 0)) ?_
   refine zzf 56 14 [y50.v, .slice none 0 0] ?_
   intro w61 u61 e61 d61
   have k66 := k_rtaps d61 (hpp.ext (e55.trans (g59.ext.trans e61))).raw (hlf.ext (e43.trans (g47.ext.trans (e49.trans (g53.ext.trans (e55.trans (g59.ext.trans e61))))))).raw (by first | omega | (simp; done) | (simp; omega)) (by omega) (by omega) (by first | omega | (simp; done) | (simp; omega))
   with_reducible refine Post.mono k66 ?_
   rintro _ u64 g65 ⟨y62, rfl, h63⟩
   refine zza 53 (.v (.tuple #[y62.v, .int .i64 (Nt.tapE p l)])) ?_
   refine zza 57 (.v y62.v) ?_
   refine zza 58 (.v (.int .i64 (Nt.tapE p l))) ?_
   refine zza 13 (.v y62.v) ?_
   refine zza 14 (.v (.int .i64 (Nt.tapE p l))) ?_
   refine zzb 129 [(7, .v (.int .i64 (z12 : Int))), (8, .v (.slice none 0 0)), (10, .v y50.v), (11, .v y56.v), (12, .v (.int .i64 (Nt.tapE p l))), (13, .v y62.v), (14, .v (.int .i64 (Nt.tapE p l)))] [] ?_
   refine zzc ?_
   refine sq9 ?_
   refine zza 59 (.v (.int .i64 (Nt.tapE p l))) ?_
   refine zza 60 (.v (.int .i64 (Nt.tapE p l))) ?_
   refine zza 61 (.v (.bool ((Nt.tapE p l) != (Nt.tapE p l)))) ?_
   refine zyp 62 (x := .v (.bool ((Nt.tapE p l) != (Nt.tapE p l)))) (.v (.bool false)) (by rw [show ((Nt.tapE p l) != (Nt.tapE p l)) = false from (bne_self_eq_false _)]) ?_
   refine zza 63 (.v y56.v) ?_ (hw := w1 3 false 62)
   refine zza 64 (.v y62.v) ?_ (hw := w1 3 false 62)
   refine zzf 65 15 [y56.v, y62.v] ?_ (hw := w1 3 false 62)
   intro w68 u68 e68 d68
   have k71 := k_sameRats d68 (h57.ext (e61.trans (g65.ext.trans e68))).raw (h63.ext e68).raw (by omega) (by omega)
   with_reducible refine Post.mono k71 ?_
   rintro _ u69 g70 rfl
   refine zza 66 (.v (.bool false)) ?_ (hw := w1 3 false 62)
   refine zza 67 (.v (.bool false)) ?_
   refine zzb 129 [(7, .v (.int .i64 (z12 : Int))), (8, .v (.slice none 0 0)), (10, .v y50.v), (11, .v y56.v), (12, .v (.int .i64 (Nt.tapE p l))), (67, .v (.bool false))] [] ?_
   refine zyr (by kernel_rfl) ?_
   refine zzr (zzo ?_)
   refine zzc ?_
   refine sq9 ?_
   refine zza 68 (.v (.int .i64 (Nt.tapE p l))) ?_
   refine zza 69 (.v (.bool ((Nt.tapE p l) != 0))) ?_
   refine zzb 129 [(7, .v (.int .i64 (z12 : Int))), (8, .v (.slice none 0 0)), (10, .v y50.v), (11, .v y56.v), (12, .v (.int .i64 (Nt.tapE p l))), (69, .v (.bool ((Nt.tapE p l) != 0)))] [] ?_
   refine zzt (b := (Nt.tapE p l) != 0) (by kernel_rfl) (fun hb72 => ?_) (fun hb72 => ?_)
   ·replace hb72 : ((Nt.tapE p l) != 0) = true := hb72
    refine sq9 ?_
    refine zzf 70 16 [] ?_
    intro w73 u73 e73 d73
    have k76 := k_known25 d73
    with_reducible refine Post.mono k76 ?_
    rintro _ u74 g75 rfl
    refine zza 71 (.v (.bool true)) ?_
    refine zza 72 (.v (.int .i64 (Nt.tapE p l))) ?_ (hw := w1 1 true 71)
    refine zza 73 (.v (.bool ((Nt.tapE p l) == 12))) ?_ (hw := w1 1 true 71)
    refine zza 74 (.v (.bool ((Nt.tapE p l) == 12))) ?_
    refine zyp 75 (x := .v (.bool ((Nt.tapE p l) == 12))) (.v (.bool true)) (by rw [show ((Nt.tapE p l) == 12) = true from (by rw [(Nt.tapE_12 hz hb72).1]; rfl)]) ?_
    refine zza 76 (.v y50.v) ?_ (hw := w1 5 true 75)
    refine zzf 77 17 [y50.v] ?_ (hw := w1 5 true 75)
    intro w78 u78 e78 d78
    have k81 := k_r5Degree d78 (hpp.ext (e55.trans (g59.ext.trans (e61.trans (g65.ext.trans (e68.trans (g70.ext.trans (e73.trans (g75.ext.trans e78))))))))).raw (by omega) (by first|omega|(simp;omega) | (refine Nat.le_trans (Nt.zzg _) ?_; first|omega|(simp;omega)) | (refine Nat.le_trans (Nt.zzg _) ?_; simp only [List.length_map]; refine Nat.le_trans (Nt.zzg _) ?_; first|omega|(simp;omega)))
    with_reducible refine Post.mono k81 ?_
    rintro _ u79 g80 rfl
    refine zza 78 (.v (.int .i64 (z12 : Int))) ?_ (hw := w1 5 true 75)
    refine zza 79 (.v (.bool (decide ((z12 : Int) < (((Nt.trimQ p).length : Int) - 1))))) ?_ (hw := w1 5 true 75)
    refine zza 80 (.v (.bool (decide ((z12 : Int) < (((Nt.trimQ p).length : Int) - 1))))) ?_
    refine zza 6 (.v (.bool (decide ((z12 : Int) < (((Nt.trimQ p).length : Int) - 1))))) ?_
    refine zzb 129 [(6, .v (.bool (decide ((z12 : Int) < (((Nt.trimQ p).length : Int) - 1)))))] [] ?_
    refine zzn (zzv (ret0 [.bool (decide ((z12 : Int) < (((Nt.trimQ p).length : Int) - 1)))] ⟨zzp, trivial⟩ fun u82 e83 => ?_))
    show Value.bool _ = Value.bool _
    rw [show (decide ((z12 : Int) < (((Nt.trimQ p).length : Int) - 1))) = true from decide_eq_true (by have h9 := (Nt.tapE_12 hz hb72).2; omega)]
   ·replace hb72 : ((Nt.tapE p l) != 0) = false := hb72
    refine zzr (zzo ?_)
    refine zzc ?_
    have htl0 := (Nt.tapE_0 hz hb72).1
    have hvf := h57
    rw [(Nt.tapE_0 hz hb72).2] at hvf
    have hvl := hvf.len
    rw [Nt.tapL_len] at hvl
    refine zze ?_
    refine zza 15 (.v (.slice none 0 0)) ?_
    refine zzb 129 [(7, .v (.int .i64 (z12 : Int))), (8, .v (.slice none 0 0)), (10, .v y50.v), (11, .v y56.v), (15, .v (.slice none 0 0))] [] ?_
    refine zzc ?_
    refine sq9 ?_
    refine zza 16 (.v (.int .i64 0)) ?_
    refine zzb 129 [(7, .v (.int .i64 (z12 : Int))), (8, .v (.slice none 0 0)), (10, .v y50.v), (11, .v y56.v), (15, .v (.slice none 0 0)), (16, .v (.int .i64 0))] [] ?_
    refine zzs ?_
    refine zym (I := fun m84 S' u' => ∃ (i : Nat) (a : Sl), (m84 = z12 + 1 - i) ∧ (i ≤ z12 + 1) ∧ (S' = St.of 129 [(7, .v (.int .i64 (z12 : Int))), (8, .v (.slice none 0 0)), (10, .v (.slice y50.a y50.n y50.c)), (11, .v (.slice y56.a y56.n y56.c)), (15, .v (.slice a.a a.n a.c)), (16, .v (.int .i64 (i : Int)))] []) ∧ (Ext u69 u') ∧ (PolN u' a (Nt.ltS p l i) (i * 280000 + 1))) (fun m S u1 u2 e h => by obtain ⟨i, a, hm, p0, hS, hE, f0⟩ := h; exact ⟨i, a, hm, p0, hS, hE.trans e, f0.ext e⟩) _ (T := St.of 129 [(7, .v (.int .i64 (z12 : Int))), (8, .v (.slice none 0 0)), (10, .v (.slice y50.a y50.n y50.c)), (11, .v (.slice y56.a y56.n y56.c)), (15, .v (.slice none 0 0)), (16, .v (.int .i64 0))] []) (by exact zzu _ _ _) ⟨0, ⟨none, 0, 0⟩, rfl, Nat.zero_le _, rfl, Ext.refl _, pol_nil _ _⟩ ?_
    rintro m84 _ u84 ⟨i, a, hm84, hi, rfl, e84, hA⟩
    have hal := hA.len
    have hsl := Nt.ltS_len p l i
    have huk := Nt.upK_succ i
    refine zzc ?_
    refine sq9 ?_
    refine zza 81 (.v (.int .i64 (i : Int))) ?_
    refine zza 82 (.v (.int .i64 (z12 : Int))) ?_
    refine zza 83 (.v (.bool (decide ((i : Int) ≤ (z12 : Int))))) ?_
    refine zzb 129 [(7, .v (.int .i64 (z12 : Int))), (8, .v (.slice none 0 0)), (10, .v y50.v), (11, .v y56.v), (15, .v a.v), (16, .v (.int .i64 (i : Int))), (83, .v (.bool (decide ((i : Int) ≤ (z12 : Int)))))] [] ?_
    refine zzt (b := decide ((i : Int) ≤ (z12 : Int))) (by kernel_rfl) (fun hb85 => ?_) (fun hb85 => ?_)
    ·replace hb85 : (decide ((i : Int) ≤ (z12 : Int))) = true := hb85
     have qhb85 := of_decide_eq_true hb85
     refine zzr (zzo ?_)
     refine zzc ?_
     refine zzs ?_
     refine sq9 ?_
     refine zza 87 (.v (.slice none 0 0)) ?_
     refine zza 88 (.v (.int .i64 (i : Int))) ?_
     have hl86 := (hlf.ext (e43.trans (g47.ext.trans (e49.trans (g53.ext.trans (e55.trans (g59.ext.trans (e61.trans (g65.ext.trans (e68.trans (g70.ext.trans e84))))))))))).len
     have hc86 := (hlf.ext (e43.trans (g47.ext.trans (e49.trans (g53.ext.trans (e55.trans (g59.ext.trans (e61.trans (g65.ext.trans (e68.trans (g70.ext.trans e84))))))))))).cap
     change 0 = _ at hl86
     change 0 ≤ 0 at hc86
     refine sy_front 89 (n := 0) (c := 0) i sl24 rfl (by omega) ?_
     refine zzf 90 18 [.slice none i 0] ?_
     intro w87 u87 e87 d87
     have k92 := k_rstepUpG d87 ((pol_takeN (hlf.ext (e43.trans (g47.ext.trans (e49.trans (g53.ext.trans (e55.trans (g59.ext.trans (e61.trans (g65.ext.trans (e68.trans (g70.ext.trans e84))))))))))) (by omega)).ext e87).raw (by rw [List.length_take]; omega) (by omega) (Nt.small_take hz i)
     with_reducible refine Post.mono k92 ?_
     rintro _ u90 g91 ⟨y88, rfl, h89⟩
     rw [List.length_take, Nat.min_eq_left (by omega), Nt.upL_take _ (Nat.le_refl _)] at h89
     have hly88 := h89.len
     have hmy88 := Nt.zzg (Nt.upL l i)
     rw [Nt.upL_len] at hmy88
     have hky88 := Nt.upK_le (show i ≤ 6 by omega)
     refine zza 86 (.v (.tuple #[y88.v, .int .i64 0])) ?_
     refine zza 91 (.v y88.v) ?_
     refine zza 92 (.v (.int .i64 0)) ?_
     refine zza 17 (.v y88.v) ?_
     refine zza 18 (.v (.int .i64 0)) ?_
     refine zzb 129 [(7, .v (.int .i64 (z12 : Int))), (8, .v (.slice none 0 0)), (10, .v y50.v), (11, .v y56.v), (15, .v a.v), (16, .v (.int .i64 (i : Int))), (17, .v y88.v), (18, .v (.int .i64 0))] [] ?_
     refine sq9 ?_
     refine zza 19 (.v (.slice none 0 0)) ?_
     refine zzb 129 [(7, .v (.int .i64 (z12 : Int))), (8, .v (.slice none 0 0)), (10, .v y50.v), (11, .v y56.v), (15, .v a.v), (16, .v (.int .i64 (i : Int))), (17, .v y88.v), (18, .v (.int .i64 0)), (19, .v (.slice none 0 0))] [] ?_
     refine zzc ?_
     refine sq9 ?_
     refine zza 93 (.v (.int .i64 (i : Int))) ?_
     refine zza 20 (.v (.int .i64 (i : Int))) ?_
     refine zzb 129 [(7, .v (.int .i64 (z12 : Int))), (8, .v (.slice none 0 0)), (10, .v y50.v), (11, .v y56.v), (15, .v a.v), (16, .v (.int .i64 (i : Int))), (17, .v y88.v), (18, .v (.int .i64 0)), (19, .v (.slice none 0 0)), (20, .v (.int .i64 (i : Int)))] [] ?_
     refine zzs ?_
     have hsi := Nt.upK_le (show i ≤ 6 by omega)
     refine zym (I := fun m93 S' u' => (m93 = (i + 1) ∧ S' = St.of 129 [(7, .v (.int .i64 (z12 : Int))), (8, .v (.slice none 0 0)), (10, .v (.slice y50.a y50.n y50.c)), (11, .v (.slice y56.a y56.n y56.c)), (15, .v (.slice a.a a.n a.c)), (16, .v (.int .i64 (i : Int))), (17, .v (.slice y88.a y88.n y88.c)), (18, .v (.int .i64 0)), (19, .v (.slice none 0 0)), (20, .v (.int .i64 ((i : Int) - ((0 : Nat) : Int))))] [] ∧ Ext u90 u') ∨ (∃ (i2 : Nat) (L2 : List RL) (cs2 : List Value) (cp2 : Nat), m93 = (i + 1) - i2 ∧ i2 ≤ (i + 1) ∧ 0 < i2 ∧ L2.length = i2 ∧ cs2.length = cp2 * 3 ∧ i2 ≤ cp2 ∧ cp2 ≤ maxLen ∧ cs2.take (i2 * 3) = rcs L2 ∧ S' = St.of 129 [(7, .v (.int .i64 (z12 : Int))), (8, .v (.slice none 0 0)), (10, .v (.slice y50.a y50.n y50.c)), (11, .v (.slice y56.a y56.n y56.c)), (15, .v (.slice a.a a.n a.c)), (16, .v (.int .i64 (i : Int))), (17, .v (.slice y88.a y88.n y88.c)), (18, .v (.int .i64 0)), (19, .slc 108 0 i2 cp2), (20, .v (.int .i64 ((i : Int) - ((i2 : Nat) : Int))))] [(108, ⟨29, cs2⟩)] ∧ Ext u90 u' ∧ RatsN u' L2 ((Nt.revL l i).take i2) (Nt.upK i))) (fun m S u1 u2 e h => by rcases h with ⟨a, b, c⟩ | ⟨a1, a2, a3, a4, b1, b2, b3, b4, b5, b6, b7, b8, b9, b10, b11⟩; exact .inl ⟨a, b, c.trans e⟩; exact .inr ⟨a1, a2, a3, a4, b1, b2, b3, b4, b5, b6, b7, b8, b9, b10.trans e, b11.ext e⟩) _ (T := St.of 129 [(7, .v (.int .i64 (z12 : Int))), (8, .v (.slice none 0 0)), (10, .v (.slice y50.a y50.n y50.c)), (11, .v (.slice y56.a y56.n y56.c)), (15, .v (.slice a.a a.n a.c)), (16, .v (.int .i64 (i : Int))), (17, .v (.slice y88.a y88.n y88.c)), (18, .v (.int .i64 0)), (19, .v (.slice none 0 0)), (20, .v (.int .i64 ((i : Int) - ((0 : Nat) : Int))))] []) (by exact zzu _ _ _) (.inl ⟨rfl, rfl, Ext.refl _⟩) ?_
     rintro m93 _ u93 (⟨hm93, rfl, e93⟩ | ⟨i2, L2, cs2, cp2, hm93, hi2, hp2, hL2, hc2, hle2, hmx2, ht2, rfl, e93, hR2⟩)
     ·change SW _ _ _ _ (St.of 129 [(7, .v (.int .i64 (z12 : Int))), (8, .v (.slice none 0 0)), (10, .v (.slice y50.a y50.n y50.c)), (11, .v (.slice y56.a y56.n y56.c)), (15, .v (.slice a.a a.n a.c)), (16, .v (.int .i64 (i : Int))), (17, .v (.slice y88.a y88.n y88.c)), (18, .v (.int .i64 0)), (19, .v (.slice none 0 0)), (20, .v (.int .i64 ((i : Int) - ((0 : Nat) : Int))))] []) _ _
      refine zzc ?_
      refine sq9 ?_
      refine zza 94 (.v (.int .i64 ((i : Int) - ((0 : Nat) : Int)))) ?_
      refine zza 95 (.v (.bool (decide ((0 : Int) ≤ ((i : Int) - ((0 : Nat) : Int)))))) ?_
      refine zzb 129 [(7, .v (.int .i64 (z12 : Int))), (8, .v (.slice none 0 0)), (10, .v y50.v), (11, .v y56.v), (15, .v a.v), (16, .v (.int .i64 (i : Int))), (17, .v y88.v), (18, .v (.int .i64 0)), (19, .v (.slice none 0 0)), (20, .v (.int .i64 ((i : Int) - ((0 : Nat) : Int)))), (95, .v (.bool (decide ((0 : Int) ≤ ((i : Int) - ((0 : Nat) : Int))))))] [] ?_
      refine zzt (b := decide ((0 : Int) ≤ ((i : Int) - ((0 : Nat) : Int)))) (by kernel_rfl) (fun hb => ?_) (fun hb => ?_)
      ·clear hb
       refine zzr (zzo ?_)
       refine zzc ?_
       refine zzs ?_
       refine zzc ?_
       rw [show (i : Int) - ((0 : Nat) : Int) = ((i - 0 : Nat) : Int) by omega]
       refine zze ?_
       refine zza 98 (.v (.int .i64 ((i - 0 : Nat) : Int))) ?_
       refine zza 99 (.v y88.v) ?_
       refine zza 100 (.v (.int .i64 (y88.n : Int))) ?_
       refine zza 101 (.v (.bool (decide (((i - 0 : Nat) : Int) < (y88.n : Int))))) ?_
       refine zzb 129 [(7, .v (.int .i64 (z12 : Int))), (8, .v (.slice none 0 0)), (10, .v y50.v), (11, .v y56.v), (15, .v a.v), (16, .v (.int .i64 (i : Int))), (17, .v y88.v), (18, .v (.int .i64 0)), (19, .v (.slice none 0 0)), (20, .v (.int .i64 ((i - 0 : Nat) : Int))), (101, .v (.bool (decide (((i - 0 : Nat) : Int) < (y88.n : Int)))))] [] ?_
       refine zzt (b := decide (((i - 0 : Nat) : Int) < (y88.n : Int))) (by kernel_rfl) (fun hb94 => ?_) (fun hb94 => ?_)
       ·replace hb94 : (decide (((i - 0 : Nat) : Int) < (y88.n : Int))) = true := hb94
        have qhb94 := of_decide_eq_true hb94
        refine zze ?_
        refine zza 102 (.v (.slice none 0 0)) ?_
        refine zza 103 (.v y88.v) ?_
        refine zza 104 (.v (.int .i64 ((i - 0 : Nat) : Int))) ?_
        have hl95 := (h89.ext e93).len
        obtain ⟨r95, b95, o95, hA95, hc95, hr95⟩ := pol_atN (h89.ext e93) (i := i - 0) (by omega)
        refine zzz 105 (o95 + (i - 0) * 3) (n := y88.n) (off := o95) (sz := 3) (i := ((i - 0 : Nat) : Int)) (by omega) hA95 (by omega) (by omega) sl32 ?_
        refine zyl 106 r95.cs hc95 ty29 ?_
        refine sy_data 107 ⟨29, r95.cs⟩ 1 (fun b96 u97 e98 h99 => ?_)
        have hp100 : PolN u97 (⟨some ⟨b96, 0, none⟩, 1, 1⟩ : Sl) [((Nt.trimQ (Nt.upL l i)).getD (i - 0) 0)] (Nt.upK i) := pol_lit (L := [r95]) h99 (rats1 (hr95.ext e98)) rfl (by decide)
        refine sy_app0 108 (T := 32) (E := 29) (z := .agg #[.bool false, .slice none 0 0, .slice none 0 0]) (size := 3) (bytes := 56) (b := b96) (off := 0) (m := 1) r95.cs (by kernel_rfl) (by kernel_rfl) (by kernel_rfl) (by decide) rfl (lit_news ((Ext.refl _).cells h99)) (rl_one r95) (by decide) (by decide) (by decide) ?_
        intro c101 cs101 ha101 hb101 hc101 hd101
        refine zza 19 (.slc 108 0 1 c101) ?_
        refine zzw ?_
        refine zzo ?_
        refine zze ?_
        refine zza 96 (.v (.int .i64 ((i - 0 : Nat) : Int))) ?_
        refine zyp 97 (x := .v (.int .i64 (IntKind.i64.wrap (((i - 0 : Nat) : Int) - 1)))) (.v (.int .i64 ((i : Int) - ((1 : Nat) : Int)))) (eqI (by rw [IntWalk.i64_in _ (by omega)]; omega)) ?_
        refine zza 20 (.v (.int .i64 ((i : Int) - ((1 : Nat) : Int)))) ?_
        refine zzw ?_
        have ht102 : 0 < (Nt.revL l i).length := by rw [Nt.revL_len]; omega
        refine ⟨_, ?_, St.of 129 [(7, .v (.int .i64 (z12 : Int))), (8, .v (.slice none 0 0)), (10, .v (.slice y50.a y50.n y50.c)), (11, .v (.slice y56.a y56.n y56.c)), (15, .v (.slice a.a a.n a.c)), (16, .v (.int .i64 (i : Int))), (17, .v (.slice y88.a y88.n y88.c)), (18, .v (.int .i64 0)), (19, .slc 108 0 1 c101), (20, .v (.int .i64 ((i : Int) - ((1 : Nat) : Int))))] [(108, ⟨29, cs101⟩)], by exact zzu _ _ _, .inr ⟨1, [r95], cs101, c101, rfl, by omega, by omega, by simp, hc101, by omega, hb101, hd101, rfl, (e93.trans e98), (app_first (RatN.more (K := (Nt.upK i)) (hr95.ext e98) (by omega)) ht102 (by rw [Nt.revL_at l (by omega)]; exact Nt.trimD _ _))⟩⟩
        omega
       ·replace hb94 : (decide (((i - 0 : Nat) : Int) < (y88.n : Int))) = false := hb94
        have qhb94 := of_decide_eq_false hb94
        refine zze ?_
        refine zza 109 (.v (.slice none 0 0)) ?_
        refine zzf 110 19 [.int .i64 0] ?_
        intro w103 u103 e103 d103
        have k108 := k_rqOf d103 (z := 0) (by omega) (by omega)
        with_reducible refine Post.mono k108 ?_
        rintro _ u106 g107 ⟨r104, rfl, h105⟩
        refine sy_data 111 ⟨29, r104.cs⟩ 1 (fun b109 u110 e111 h112 => ?_)
        have hp113 : PolN u110 (⟨some ⟨b109, 0, none⟩, 1, 1⟩ : Sl) [((0 : Int) : Rat)] 2 := pol_lit (L := [r104]) h112 (rats1 (h105.ext e111)) rfl (by decide)
        refine sy_app0 112 (T := 32) (E := 29) (z := .agg #[.bool false, .slice none 0 0, .slice none 0 0]) (size := 3) (bytes := 56) (b := b109) (off := 0) (m := 1) r104.cs (by kernel_rfl) (by kernel_rfl) (by kernel_rfl) (by decide) rfl (lit_news ((Ext.refl _).cells h112)) (rl_one r104) (by decide) (by decide) (by decide) ?_
        intro c114 cs114 ha114 hb114 hc114 hd114
        refine zza 19 (.slc 112 0 1 c114) ?_
        refine zzw ?_
        refine zzo ?_
        refine sw_ren (r := 19) (t := 112) 108 [19, 112] (by repeat first | exact noAt_of | refine zyc ?_ | refine zye ?_ | refine zyd ?_ | refine zzx ?_ | refine zya ?_) (by kernel_rfl) (by rfl) (by rfl) (by kernel_rfl) (by kernel_rfl) ?_
        refine zze ?_
        refine zza 96 (.v (.int .i64 ((i - 0 : Nat) : Int))) ?_
        refine zyp 97 (x := .v (.int .i64 (IntKind.i64.wrap (((i - 0 : Nat) : Int) - 1)))) (.v (.int .i64 ((i : Int) - ((1 : Nat) : Int)))) (eqI (by rw [IntWalk.i64_in _ (by omega)]; omega)) ?_
        refine zza 20 (.v (.int .i64 ((i : Int) - ((1 : Nat) : Int)))) ?_
        refine zzw ?_
        have ht115 : 0 < (Nt.revL l i).length := by rw [Nt.revL_len]; omega
        refine ⟨_, ?_, St.of 129 [(7, .v (.int .i64 (z12 : Int))), (8, .v (.slice none 0 0)), (10, .v (.slice y50.a y50.n y50.c)), (11, .v (.slice y56.a y56.n y56.c)), (15, .v (.slice a.a a.n a.c)), (16, .v (.int .i64 (i : Int))), (17, .v (.slice y88.a y88.n y88.c)), (18, .v (.int .i64 0)), (19, .slc 108 0 1 c114), (20, .v (.int .i64 ((i : Int) - ((1 : Nat) : Int))))] [(108, ⟨29, cs114⟩)], by exact zzu _ _ _, .inr ⟨1, [r104], cs114, c114, rfl, by omega, by omega, by simp, hc114, by omega, hb114, hd114, rfl, (e93.trans (e103.trans (g107.ext.trans e111))), (app_first (RatN.more (K := 2) (h105.ext e111) (by omega)) ht115 (by rw [Nt.revL_at l (by omega), ← Nt.trimD]; exact (Nt.co_ge (by omega)).symm))⟩⟩
        omega
      ·exact absurd hb (by rw [show (decide ((0 : Int) ≤ ((i : Int) - ((0 : Nat) : Int)))) = true from decide_eq_true (by omega)]; decide)
     ·change SW _ _ _ _ (St.of 129 [(7, .v (.int .i64 (z12 : Int))), (8, .v (.slice none 0 0)), (10, .v (.slice y50.a y50.n y50.c)), (11, .v (.slice y56.a y56.n y56.c)), (15, .v (.slice a.a a.n a.c)), (16, .v (.int .i64 (i : Int))), (17, .v (.slice y88.a y88.n y88.c)), (18, .v (.int .i64 0)), (19, .slc 108 0 i2 cp2), (20, .v (.int .i64 ((i : Int) - ((i2 : Nat) : Int))))] [(108, ⟨29, cs2⟩)]) _ _
      refine zzc ?_
      refine sq9 ?_
      refine zza 94 (.v (.int .i64 ((i : Int) - ((i2 : Nat) : Int)))) ?_
      refine zza 95 (.v (.bool (decide ((0 : Int) ≤ ((i : Int) - ((i2 : Nat) : Int)))))) ?_
      refine zzb 129 [(7, .v (.int .i64 (z12 : Int))), (8, .v (.slice none 0 0)), (10, .v y50.v), (11, .v y56.v), (15, .v a.v), (16, .v (.int .i64 (i : Int))), (17, .v y88.v), (18, .v (.int .i64 0)), (19, .slc 108 0 i2 cp2), (20, .v (.int .i64 ((i : Int) - ((i2 : Nat) : Int)))), (95, .v (.bool (decide ((0 : Int) ≤ ((i : Int) - ((i2 : Nat) : Int))))))] [(108, ⟨29, cs2⟩)] ?_
      refine zzt (b := decide ((0 : Int) ≤ ((i : Int) - ((i2 : Nat) : Int)))) (by kernel_rfl) (fun hb116 => ?_) (fun hb116 => ?_)
      ·replace hb116 : (decide ((0 : Int) ≤ ((i : Int) - ((i2 : Nat) : Int)))) = true := hb116
       have qhb116 := of_decide_eq_true hb116
       refine zzr (zzo ?_)
       refine zzc ?_
       refine zzs ?_
       refine zzc ?_
       rw [show (i : Int) - ((i2 : Nat) : Int) = ((i - i2 : Nat) : Int) by omega]
       refine zze ?_
       refine zza 98 (.v (.int .i64 ((i - i2 : Nat) : Int))) ?_
       refine zza 99 (.v y88.v) ?_
       refine zza 100 (.v (.int .i64 (y88.n : Int))) ?_
       refine zza 101 (.v (.bool (decide (((i - i2 : Nat) : Int) < (y88.n : Int))))) ?_
       refine zzb 129 [(7, .v (.int .i64 (z12 : Int))), (8, .v (.slice none 0 0)), (10, .v y50.v), (11, .v y56.v), (15, .v a.v), (16, .v (.int .i64 (i : Int))), (17, .v y88.v), (18, .v (.int .i64 0)), (19, .slc 108 0 i2 cp2), (20, .v (.int .i64 ((i - i2 : Nat) : Int))), (101, .v (.bool (decide (((i - i2 : Nat) : Int) < (y88.n : Int)))))] [(108, ⟨29, cs2⟩)] ?_
       refine zzt (b := decide (((i - i2 : Nat) : Int) < (y88.n : Int))) (by kernel_rfl) (fun hb117 => ?_) (fun hb117 => ?_)
       ·replace hb117 : (decide (((i - i2 : Nat) : Int) < (y88.n : Int))) = true := hb117
        have qhb117 := of_decide_eq_true hb117
        refine zze ?_
        refine zza 102 (.slc 108 0 i2 cp2) ?_
        refine zza 103 (.v y88.v) ?_
        refine zza 104 (.v (.int .i64 ((i - i2 : Nat) : Int))) ?_
        have hl118 := (h89.ext e93).len
        obtain ⟨r118, b118, o118, hA118, hc118, hr118⟩ := pol_atN (h89.ext e93) (i := i - i2) (by omega)
        refine zzz 105 (o118 + (i - i2) * 3) (n := y88.n) (off := o118) (sz := 3) (i := ((i - i2 : Nat) : Int)) (by omega) hA118 (by omega) (by omega) sl32 ?_
        refine zyl 106 r118.cs hc118 ty29 ?_
        refine sy_data 107 ⟨29, r118.cs⟩ 1 (fun b119 u120 e121 h122 => ?_)
        have hp123 : PolN u120 (⟨some ⟨b119, 0, none⟩, 1, 1⟩ : Sl) [((Nt.trimQ (Nt.upL l i)).getD (i - i2) 0)] (Nt.upK i) := pol_lit (L := [r118]) h122 (rats1 (hr118.ext e121)) rfl (by decide)
        refine sy_app1 108 (T := 32) (E := 29) (z := .agg #[.bool false, .slice none 0 0, .slice none 0 0]) (size := 3) (bytes := 56) (b := b119) (off := 0) (m := 1) (n := i2) (cap := cp2) (t := 108) (cs0 := cs2) [19, 102, 108] r118.cs (by kernel_rfl) (by kernel_rfl) (by kernel_rfl) (by decide) rfl (lit_news ((Ext.refl _).cells h122)) (rl_one r118) (by decide) (by unfold maxLen; omega) (by omega) (by omega) (by omega) (by omega) (by repeat first | exact noAt_of | refine zyc ?_ | refine zye ?_ | refine zyd ?_ | refine zzx ?_ | refine zya ?_) ?_
        intro c124 cs124 ha124 hb124 hc124 hd124
        have hd124r : cs124.take ((i2 + 1) * 3) = rcs (L2 ++ [r118]) := by rw [hd124, ht2, rcs_app]; rfl
        refine zza 19 (.slc 108 0 (i2 + 1) c124) ?_
        refine zzw ?_
        refine zzo ?_
        refine zze ?_
        refine zza 96 (.v (.int .i64 ((i - i2 : Nat) : Int))) ?_
        refine zyp 97 (x := .v (.int .i64 (IntKind.i64.wrap (((i - i2 : Nat) : Int) - 1)))) (.v (.int .i64 ((i : Int) - ((i2 + 1 : Nat) : Int)))) (eqI (by rw [IntWalk.i64_in _ (by omega)]; omega)) ?_
        refine zza 20 (.v (.int .i64 ((i : Int) - ((i2 + 1 : Nat) : Int)))) ?_
        refine zzw ?_
        have ht125 : i2 < (Nt.revL l i).length := by rw [Nt.revL_len]; omega
        refine ⟨_, ?_, St.of 129 [(7, .v (.int .i64 (z12 : Int))), (8, .v (.slice none 0 0)), (10, .v (.slice y50.a y50.n y50.c)), (11, .v (.slice y56.a y56.n y56.c)), (15, .v (.slice a.a a.n a.c)), (16, .v (.int .i64 (i : Int))), (17, .v (.slice y88.a y88.n y88.c)), (18, .v (.int .i64 0)), (19, .slc 108 0 (i2 + 1) c124), (20, .v (.int .i64 ((i : Int) - ((i2 + 1 : Nat) : Int))))] [(108, ⟨29, cs124⟩)], by exact zzu _ _ _, .inr ⟨i2 + 1, L2 ++ [r118], cs124, c124, rfl, by omega, by omega, by simp; omega, hc124, by omega, hb124, hd124r, rfl, (e93.trans e121), (app_next (hR2.ext e121) (RatN.more (K := (Nt.upK i)) (hr118.ext e121) (by omega)) ht125 (by rw [Nt.revL_at l (by omega)]; exact Nt.trimD _ _))⟩⟩
        omega
       ·replace hb117 : (decide (((i - i2 : Nat) : Int) < (y88.n : Int))) = false := hb117
        have qhb117 := of_decide_eq_false hb117
        refine zze ?_
        refine zza 109 (.slc 108 0 i2 cp2) ?_
        refine zzf 110 19 [.int .i64 0] ?_
        intro w126 u126 e126 d126
        have k131 := k_rqOf d126 (z := 0) (by omega) (by omega)
        with_reducible refine Post.mono k131 ?_
        rintro _ u129 g130 ⟨r127, rfl, h128⟩
        refine sy_data 111 ⟨29, r127.cs⟩ 1 (fun b132 u133 e134 h135 => ?_)
        have hp136 : PolN u133 (⟨some ⟨b132, 0, none⟩, 1, 1⟩ : Sl) [((0 : Int) : Rat)] 2 := pol_lit (L := [r127]) h135 (rats1 (h128.ext e134)) rfl (by decide)
        refine sy_app1 112 (T := 32) (E := 29) (z := .agg #[.bool false, .slice none 0 0, .slice none 0 0]) (size := 3) (bytes := 56) (b := b132) (off := 0) (m := 1) (n := i2) (cap := cp2) (t := 108) (cs0 := cs2) [19, 108, 109, 112] r127.cs (by kernel_rfl) (by kernel_rfl) (by kernel_rfl) (by decide) rfl (lit_news ((Ext.refl _).cells h135)) (rl_one r127) (by decide) (by unfold maxLen; omega) (by omega) (by omega) (by omega) (by omega) (by repeat first | exact noAt_of | refine zyc ?_ | refine zye ?_ | refine zyd ?_ | refine zzx ?_ | refine zya ?_) ?_
        intro c137 cs137 ha137 hb137 hc137 hd137
        have hd137r : cs137.take ((i2 + 1) * 3) = rcs (L2 ++ [r127]) := by rw [hd137, ht2, rcs_app]; rfl
        refine zza 19 (.slc 112 0 (i2 + 1) c137) ?_
        refine zzw ?_
        refine zzo ?_
        refine sw_ren (r := 19) (t := 112) 108 [19, 112] (by repeat first | exact noAt_of | refine zyc ?_ | refine zye ?_ | refine zyd ?_ | refine zzx ?_ | refine zya ?_) (by kernel_rfl) (by rfl) (by rfl) (by kernel_rfl) (by kernel_rfl) ?_
        refine zze ?_
        refine zza 96 (.v (.int .i64 ((i - i2 : Nat) : Int))) ?_
        refine zyp 97 (x := .v (.int .i64 (IntKind.i64.wrap (((i - i2 : Nat) : Int) - 1)))) (.v (.int .i64 ((i : Int) - ((i2 + 1 : Nat) : Int)))) (eqI (by rw [IntWalk.i64_in _ (by omega)]; omega)) ?_
        refine zza 20 (.v (.int .i64 ((i : Int) - ((i2 + 1 : Nat) : Int)))) ?_
        refine zzw ?_
        have ht138 : i2 < (Nt.revL l i).length := by rw [Nt.revL_len]; omega
        refine ⟨_, ?_, St.of 129 [(7, .v (.int .i64 (z12 : Int))), (8, .v (.slice none 0 0)), (10, .v (.slice y50.a y50.n y50.c)), (11, .v (.slice y56.a y56.n y56.c)), (15, .v (.slice a.a a.n a.c)), (16, .v (.int .i64 (i : Int))), (17, .v (.slice y88.a y88.n y88.c)), (18, .v (.int .i64 0)), (19, .slc 108 0 (i2 + 1) c137), (20, .v (.int .i64 ((i : Int) - ((i2 + 1 : Nat) : Int))))] [(108, ⟨29, cs137⟩)], by exact zzu _ _ _, .inr ⟨i2 + 1, L2 ++ [r127], cs137, c137, rfl, by omega, by omega, by simp; omega, hc137, by omega, hb137, hd137r, rfl, (e93.trans (e126.trans (g130.ext.trans e134))), (app_next (hR2.ext (e126.trans (g130.ext.trans e134))) (RatN.more (K := 2) (h128.ext e134) (by omega)) ht138 (by rw [Nt.revL_at l (by omega), ← Nt.trimD]; exact (Nt.co_ge (by omega)).symm))⟩⟩
        omega
      ·replace hb116 : (decide ((0 : Int) ≤ ((i : Int) - ((i2 : Nat) : Int)))) = false := hb116
       have qhb116 := of_decide_eq_false hb116
       refine zyb ?_
       refine zzo ?_
       refine zzc ?_
       refine zzc ?_
       refine zyo (r := 19) (t := 108) [19, 108] (by repeat first | exact noAt_of | refine zyc ?_ | refine zye ?_ | refine zyd ?_ | refine zzx ?_ | refine zya ?_) (by kernel_rfl) (by rfl) (by rfl) (by kernel_rfl) (fun b140 u141 e142 hb143 hh144 => ?_)
       have hp139 : PolN u141 ⟨some ⟨b140, 0, none⟩, i2, cp2⟩ (Nt.revL l i) (Nt.upK i) := by have h8 := pol_data hh144 ht2 hc2 hle2 hmx2 (hR2.ext e142); rw [List.take_of_length_le (l := (Nt.revL l i)) (by rw [Nt.revL_len]; omega)] at h8; exact h8
       have hrl := Nt.revL_len l i
       refine zze ?_
       refine zza 113 (.v (.int .i64 0)) ?_
       refine zza 114 (.v (.bool false)) ?_
       refine zzb 129 [(7, .v (.int .i64 (z12 : Int))), (8, .v (.slice none 0 0)), (10, .v y50.v), (11, .v y56.v), (15, .v a.v), (16, .v (.int .i64 (i : Int))), (19, .v (.slice (some ⟨b140, 0, none⟩) i2 cp2)), (114, .v (.bool false))] [] ?_
       refine zyr (by kernel_rfl) ?_
       refine zzr (zzo ?_)
       refine zze ?_
       refine zza 115 (.v a.v) ?_
       refine zza 116 (.v (.slice (some ⟨b140, 0, none⟩) i2 cp2)) ?_
       refine zza 117 (.v y56.v) ?_
       refine zza 118 (.v (.int .i64 (i : Int))) ?_
       have hl145 := (hvf.ext (e61.trans (g65.ext.trans (e68.trans (g70.ext.trans (e84.trans (e87.trans (g91.ext.trans (e93.trans e142))))))))).len
       obtain ⟨r145, b145, o145, hA145, hc145, hr145⟩ := pol_atN (hvf.ext (e61.trans (g65.ext.trans (e68.trans (g70.ext.trans (e84.trans (e87.trans (g91.ext.trans (e93.trans e142))))))))) (i := i) (by omega)
       refine zzz 119 (o145 + i * 3) (n := y56.n) (off := o145) (sz := 3) (i := (i : Int)) (by omega) hA145 (by omega) (by omega) sl24 ?_
       refine zyl 120 r145.cs hc145 ty29 ?_
       refine zzf 121 21 [.slice (some ⟨b140, 0, none⟩) i2 cp2, r145.v] ?_
       intro w146 u146 e146 d146
       have k151 := k_r5Scale d146 (hp139.ext e146).raw (hr145.ext e146).raw (by omega) (by omega) (by omega)
       with_reducible refine Post.mono k151 ?_
       rintro _ u149 g150 ⟨y147, rfl, h148⟩
       have hly147 := h148.len
       refine zzf 122 20 [a.v, y147.v] ?_
       intro w152 u152 e152 d152
       have k157 := k_r5Add d152 (hA.ext (e87.trans (g91.ext.trans (e93.trans (e142.trans (e146.trans (g150.ext.trans e152))))))).raw (h148.ext e152).raw (by omega) (by omega) (by first|omega|(simp;omega) | (refine Nat.le_trans (Nt.zzg _) ?_; first|omega|(simp;omega)) | (refine Nat.le_trans (Nt.zzg _) ?_; simp only [List.length_map]; refine Nat.le_trans (Nt.zzg _) ?_; first|omega|(simp;omega))) (by first|omega|(simp;omega) | (refine Nat.le_trans (Nt.zzg _) ?_; first|omega|(simp;omega)) | (refine Nat.le_trans (Nt.zzg _) ?_; simp only [List.length_map]; refine Nat.le_trans (Nt.zzg _) ?_; first|omega|(simp;omega)))
       with_reducible refine Post.mono k157 ?_
       rintro _ u155 g156 ⟨y153, rfl, h154⟩
       have hly153 := h154.len
       refine zza 15 (.v y153.v) ?_
       refine zzw ?_
       refine zzo ?_
       refine zze ?_
       refine zza 84 (.v (.int .i64 (i : Int))) ?_
       refine zyp 85 (x := .v (.int .i64 (IntKind.i64.wrap ((i : Int) + 1)))) (.v (.int .i64 ((i + 1 : Nat) : Int))) (eqI (by rw [IntWalk.i64_in _ (by omega)]; omega)) ?_
       refine zza 16 (.v (.int .i64 ((i + 1 : Nat) : Int))) ?_
       refine zzw ?_
       refine ⟨_, ?_, St.of 129 [(7, .v (.int .i64 (z12 : Int))), (8, .v (.slice none 0 0)), (10, .v (.slice y50.a y50.n y50.c)), (11, .v (.slice y56.a y56.n y56.c)), (15, .v (.slice y153.a y153.n y153.c)), (16, .v (.int .i64 ((i + 1 : Nat) : Int)))] [], by exact zzu _ _ _, i + 1, y153, rfl, by omega, rfl, (e84.trans (e87.trans (g91.ext.trans (e93.trans (e142.trans (e146.trans (g150.ext.trans (e152.trans g156.ext)))))))), (show PolN _ _ (Nt.ltS p l (i + 1)) _ from PolN.more (K := ((i * 280000 + 1) + ((Nt.upK i) + 270000 + 1) + 6)) h154 (by omega))⟩
       omega
    ·replace hb85 : (decide ((i : Int) ≤ (z12 : Int))) = false := hb85
     have qhb85 := of_decide_eq_false hb85
     refine zyb ?_
     refine zzo ?_
     refine zzc ?_
     have hin : i = l.length + 1 := by omega
     have hA9 := hA
     rw [hin] at hA9
     have hsl9 := Nt.ltS_len p l (l.length + 1)
     refine zze ?_
     refine zzf 123 16 [] ?_
     intro w158 u158 e158 d158
     have k161 := k_known25 d158
     with_reducible refine Post.mono k161 ?_
     rintro _ u159 g160 rfl
     refine zza 124 (.v (.bool true)) ?_
     refine zza 125 (.v a.v) ?_ (hw := w1 1 true 124)
     refine zza 126 (.v y50.v) ?_ (hw := w1 1 true 124)
     refine zzf 127 22 [a.v, y50.v] ?_ (hw := w1 1 true 124)
     intro w162 u162 e162 d162
     have k165 := k_r5Same d162 (hA9.ext (e158.trans (g160.ext.trans e162))).raw (hpp.ext (e55.trans (g59.ext.trans (e61.trans (g65.ext.trans (e68.trans (g70.ext.trans (e84.trans (e158.trans (g160.ext.trans e162)))))))))).raw (by omega) (by omega) (by first|omega|(simp;omega) | (refine Nat.le_trans (Nt.zzg _) ?_; first|omega|(simp;omega)) | (refine Nat.le_trans (Nt.zzg _) ?_; simp only [List.length_map]; refine Nat.le_trans (Nt.zzg _) ?_; first|omega|(simp;omega))) (by first|omega|(simp;omega) | (refine Nat.le_trans (Nt.zzg _) ?_; first|omega|(simp;omega)) | (refine Nat.le_trans (Nt.zzg _) ?_; simp only [List.length_map]; refine Nat.le_trans (Nt.zzg _) ?_; first|omega|(simp;omega)))
     with_reducible refine Post.mono k165 ?_
     rintro _ u163 g164 rfl
     refine zza 128 (.v (.bool (decide (Nt.trimQ (Nt.ltS p l (l.length + 1)) = Nt.trimQ p)))) ?_
     refine zza 6 (.v (.bool (decide (Nt.trimQ (Nt.ltS p l (l.length + 1)) = Nt.trimQ p)))) ?_
     refine zzb 129 [(6, .v (.bool (decide (Nt.trimQ (Nt.ltS p l (l.length + 1)) = Nt.trimQ p))))] [] ?_
     refine zzn (ret0 [.bool (decide (Nt.trimQ (Nt.ltS p l (l.length + 1)) = Nt.trimQ p))] ⟨zzp, trivial⟩ fun u166 e167 => ?_)
     show Value.bool _ = Value.bool _
     rw [show (decide (Nt.trimQ (Nt.ltS p l (l.length + 1)) = Nt.trimQ p)) = true from decide_eq_true (Nt.lt_law htl0)]
 ·change SW _ _ _ _ (St.of 129 [(0, .v (.slice x.a x.n x.c)), (1, .v (.slice y.a y.n y.c)), (2, .v (.int .i64 e)), (7, .v (.int .i64 (z12 : Int))), (8, .slc 37 0 i0 cp0), (9, .v (.int .i64 (i0 : Int)))] [(37, ⟨29, cs0⟩)]) _ _
  refine zzc ?_
  refine sq9 ?_
  refine zza 24 (.v (.int .i64 (i0 : Int))) ?_
  refine zza 25 (.v (.int .i64 (z12 : Int))) ?_
  refine zza 26 (.v (.bool (decide ((i0 : Int) < (z12 : Int))))) ?_
  refine zzb 129 [(0, .v x.v), (1, .v y.v), (2, .v (.int .i64 e)), (7, .v (.int .i64 (z12 : Int))), (8, .slc 37 0 i0 cp0), (9, .v (.int .i64 (i0 : Int))), (26, .v (.bool (decide ((i0 : Int) < (z12 : Int)))))] [(37, ⟨29, cs0⟩)] ?_
  refine zzt (b := decide ((i0 : Int) < (z12 : Int))) (by kernel_rfl) (fun hb168 => ?_) (fun hb168 => ?_)
  ·replace hb168 : (decide ((i0 : Int) < (z12 : Int))) = true := hb168
   have qhb168 := of_decide_eq_true hb168
   refine zzr (zzo ?_)
   refine zzc ?_
   refine zzs ?_
   refine zze ?_
   refine zza 29 (.slc 37 0 i0 cp0) ?_
   refine zza 30 (.v y.v) ?_
   refine zza 31 (.v (.int .i64 (i0 : Int))) ?_
   refine zzf 32 11 [y.v, .int .i64 (i0 : Int)] ?_
   intro w169 u169 e169 d169
   have k172 := (show Calls _ _ #[_, .int .i64 (i0 : Int)] _ _ from k_wat (x := y) (i := i0) d169 (hy.ext (e11.trans (g15.ext.trans (e17.trans e169)))) hc (by omega))
   with_reducible refine Post.mono k172 ?_
   rintro _ u170 g171 rfl
   have hz173 := ints_bd hc (by omega) i0
   refine zzf 33 9 [.int .i64 (k.getD i0 0), .int .i64 31] ?_
   intro w174 u174 e174 d174
   have k177 := k_within d174 (n := (k.getD i0 0)) (m := 31) (by omega) (by omega) (by omega) (by omega)
   with_reducible refine Post.mono k177 ?_
   rintro _ u175 g176 rfl
   refine zyp 34 (x := .v (.int .i64 (IntKind.i64.wrap (((k.getD i0 0) % 31) - 15)))) (.v (.int .i64 (((k.getD i0 0) % 31) - 15))) (by rw [IntWalk.i64_in _ (by omega)]) ?_
   refine zzf 35 10 [.int .i64 (((k.getD i0 0) % 31) - 15), .int .i64 16] ?_
   intro w178 u178 e178 d178
   have k183 := k_rqFrac d178 (a := ((k.getD i0 0) % 31) - 15) (b := 16) (by omega) (by omega) (by omega) (by omega)
   with_reducible refine Post.mono k183 ?_
   rintro _ u181 g182 ⟨r179, rfl, h180⟩
   refine sy_data 36 ⟨29, r179.cs⟩ 1 (fun b184 u185 e186 h187 => ?_)
   have hp188 : PolN u185 (⟨some ⟨b184, 0, none⟩, 1, 1⟩ : Sl) [(((((k.getD i0 0) % 31) - 15 : Int) : Rat) / ((16 : Int) : Rat))] 3 := pol_lit (L := [r179]) h187 (rats1 (h180.ext e186)) rfl (by decide)
   refine sy_app1 37 (T := 24) (E := 29) (z := .agg #[.bool false, .slice none 0 0, .slice none 0 0]) (size := 3) (bytes := 56) (b := b184) (off := 0) (m := 1) (n := i0) (cap := cp0) (t := 37) (cs0 := cs0) [8, 29, 37] r179.cs (by kernel_rfl) (by kernel_rfl) (by kernel_rfl) (by decide) rfl (lit_news ((Ext.refl _).cells h187)) (rl_one r179) (by decide) (by unfold maxLen; omega) (by omega) (by omega) (by omega) (by omega) (by repeat first | exact noAt_of | refine zyc ?_ | refine zye ?_ | refine zyd ?_ | refine zzx ?_ | refine zya ?_) ?_
   intro c189 cs189 ha189 hb189 hc189 hd189
   have hd189r : cs189.take ((i0 + 1) * 3) = rcs (L0 ++ [r179]) := by rw [hd189, ht0, rcs_app]; rfl
   refine zza 8 (.slc 37 0 (i0 + 1) c189) ?_
   refine zzw ?_
   refine zzo ?_
   refine zze ?_
   refine zza 27 (.v (.int .i64 (i0 : Int))) ?_
   refine zyp 28 (x := .v (.int .i64 (IntKind.i64.wrap ((i0 : Int) + 1)))) (.v (.int .i64 ((i0 + 1 : Nat) : Int))) (eqI (by rw [IntWalk.i64_in _ (by omega)]; omega)) ?_
   refine zza 9 (.v (.int .i64 ((i0 + 1 : Nat) : Int))) ?_
   refine zzw ?_
   have ht190 : i0 < (Nt.ltR k z12).length := by rw [Nt.ltR_len]; omega
   refine ⟨_, ?_, St.of 129 [(0, .v (.slice x.a x.n x.c)), (1, .v (.slice y.a y.n y.c)), (2, .v (.int .i64 e)), (7, .v (.int .i64 (z12 : Int))), (8, .slc 37 0 (i0 + 1) c189), (9, .v (.int .i64 ((i0 + 1 : Nat) : Int)))] [(37, ⟨29, cs189⟩)], by exact zzu _ _ _, .inr ⟨i0 + 1, L0 ++ [r179], cs189, c189, rfl, by omega, by omega, by simp; omega, hc189, by omega, hb189, hd189r, rfl, (e17.trans (e169.trans (g171.ext.trans (e174.trans (g176.ext.trans (e178.trans (g182.ext.trans e186))))))), (app_next (hR0.ext (e169.trans (g171.ext.trans (e174.trans (g176.ext.trans (e178.trans (g182.ext.trans e186))))))) (RatN.more (K := 3) (h180.ext e186) (by omega)) ht190 (Nt.ltR_at k (i := i0) (by omega)).symm)⟩⟩
   omega
  ·replace hb168 : (decide ((i0 : Int) < (z12 : Int))) = false := hb168
   have qhb168 := of_decide_eq_false hb168
   refine zyb ?_
   refine zzo ?_
   refine zzc ?_
   refine zyo (r := 8) (t := 37) [8, 37] (by repeat first | exact noAt_of | refine zyc ?_ | refine zye ?_ | refine zyd ?_ | refine zzx ?_ | refine zya ?_) (by kernel_rfl) (by rfl) (by rfl) (by kernel_rfl) (fun b192 u193 e194 hb195 hh196 => ?_)
   have hp191 : PolN u193 ⟨some ⟨b192, 0, none⟩, i0, cp0⟩ (Nt.ltR k z12) 3 := by have h8 := pol_data hh196 ht0 hc0 hle0 hmx0 (hR0.ext e194); rw [List.take_of_length_le (l := (Nt.ltR k z12)) (by rw [Nt.ltR_len]; omega)] at h8; exact h8
   obtain ⟨l, hle⟩ : ∃ l, l = Nt.ltR k z12 := ⟨_, rfl⟩
   have hlf := hp191
   rw [← hle] at hlf
   have hll : l.length = z12 := by rw [hle, Nt.ltR_len]
   have hz : ∀ i, i < l.length → Nt.smallQ (l.getD i 0) = true := by rw [hle]; exact Nt.ltR_small k z12
   have hln8 := hlf.len
   refine zze ?_
   refine zza 38 (.v x.v) ?_
   refine zza 39 (.v (.int .i64 (z12 : Int))) ?_
   refine zyp 40 (x := .v (.int .i64 (IntKind.i64.wrap ((z12 : Int) + 1)))) (.v (.int .i64 ((z12 + 1 : Nat) : Int))) (eqI (by rw [IntWalk.i64_in _ (by omega)]; omega)) ?_
   refine zza 41 (.v (.int .i64 e)) ?_
   obtain ⟨z197, hz197, ha197, hb197⟩ := wrap64_ex (((z12 + 1 : Nat) : Int) - e)
   refine zyp 42 (x := .v (.int .i64 (IntKind.i64.wrap (((z12 + 1 : Nat) : Int) - e)))) (.v (.int .i64 z197)) (eqI hz197) ?_
   refine zza 43 (.v (.int .i64 (z12 : Int))) ?_
   refine zyp 44 (x := .v (.int .i64 (IntKind.i64.wrap ((z12 : Int) + 3)))) (.v (.int .i64 ((z12 + 3 : Nat) : Int))) (eqI (by rw [IntWalk.i64_in _ (by omega)]; omega)) ?_
   refine zzf 45 9 [.int .i64 z197, .int .i64 ((z12 + 3 : Nat) : Int)] ?_
   intro w198 u198 e198 d198
   have k203 := (show Calls _ _ #[.int .i64 z197, .int .i64 ((z12 + 3 : Nat) : Int)] _ _ from k_withinN (n := z197) (m := ((z12 + 3 : Nat) : Int)) d198 (by omega) (by omega) (by omega) (by omega))
   with_reducible refine Post.mono k203 ?_
   rintro _ u201 g202 ⟨z199, rfl, h200⟩
   refine zzf 46 12 [x.v, .int .i64 (z199 : Int)] ?_
   intro w204 u204 e204 d204
   have k209 := (show Calls _ _ #[_, .int .i64 (z199 : Int)] _ _ from k_wRats (n := z199) d204 (hx.ext (e11.trans (g15.ext.trans (e17.trans (e194.trans (e198.trans (g202.ext.trans e204))))))) hb (by omega))
   with_reducible refine Post.mono k209 ?_
   rintro _ u207 g208 ⟨y205, rfl, h206⟩
   obtain ⟨p, hpe⟩ : ∃ p, p = Nt.wRats b z199 := ⟨_, rfl⟩
   have hpp := h206
   rw [← hpe] at hpp
   have hly205 := hpp.len
   have hpl : p.length = z199 := by rw [hpe, Nt.wRats_len]
   refine zza 10 (.v y205.v) ?_
   refine zzb 129 [(7, .v (.int .i64 (z12 : Int))), (8, .v (.slice (some ⟨b192, 0, none⟩) i0 cp0)), (10, .v y205.v)] [] ?_
   refine sq9 ?_
   refine zza 48 (.v y205.v) ?_
   refine zza 49 (.v (.slice (some ⟨b192, 0, none⟩) i0 cp0)) ?_
   refine zzf 50 13 [y205.v, .slice (some ⟨b192, 0, none⟩) i0 cp0] ?_
   intro w210 u210 e210 d210
   have k215 := k_taps d210 (hpp.ext e210).raw (hlf.ext (e198.trans (g202.ext.trans (e204.trans (g208.ext.trans e210))))).raw (by first | omega | (simp; done) | (simp; omega)) (by omega) (by omega) (by first | omega | (simp; done) | (simp; omega))
   with_reducible refine Post.mono k215 ?_
   rintro _ u213 g214 ⟨y211, rfl, h212⟩
   refine zza 47 (.v (.tuple #[y211.v, .int .i64 (Nt.tapE p l)])) ?_
   refine zza 51 (.v y211.v) ?_
   refine zza 52 (.v (.int .i64 (Nt.tapE p l))) ?_
   refine zza 11 (.v y211.v) ?_
   refine zza 12 (.v (.int .i64 (Nt.tapE p l))) ?_
   refine zzb 129 [(7, .v (.int .i64 (z12 : Int))), (8, .v (.slice (some ⟨b192, 0, none⟩) i0 cp0)), (10, .v y205.v), (11, .v y211.v), (12, .v (.int .i64 (Nt.tapE p l)))] [] ?_
   refine sq9 ?_
   refine zza 54 (.v y205.v) ?_
   refine zza 55 (.v (.slice (some ⟨b192, 0, none⟩) i0 cp0)) ?_
   refine zzf 56 14 [y205.v, .slice (some ⟨b192, 0, none⟩) i0 cp0] ?_
   intro w216 u216 e216 d216
   have k221 := k_rtaps d216 (hpp.ext (e210.trans (g214.ext.trans e216))).raw (hlf.ext (e198.trans (g202.ext.trans (e204.trans (g208.ext.trans (e210.trans (g214.ext.trans e216))))))).raw (by first | omega | (simp; done) | (simp; omega)) (by omega) (by omega) (by first | omega | (simp; done) | (simp; omega))
   with_reducible refine Post.mono k221 ?_
   rintro _ u219 g220 ⟨y217, rfl, h218⟩
   refine zza 53 (.v (.tuple #[y217.v, .int .i64 (Nt.tapE p l)])) ?_
   refine zza 57 (.v y217.v) ?_
   refine zza 58 (.v (.int .i64 (Nt.tapE p l))) ?_
   refine zza 13 (.v y217.v) ?_
   refine zza 14 (.v (.int .i64 (Nt.tapE p l))) ?_
   refine zzb 129 [(7, .v (.int .i64 (z12 : Int))), (8, .v (.slice (some ⟨b192, 0, none⟩) i0 cp0)), (10, .v y205.v), (11, .v y211.v), (12, .v (.int .i64 (Nt.tapE p l))), (13, .v y217.v), (14, .v (.int .i64 (Nt.tapE p l)))] [] ?_
   refine zzc ?_
   refine sq9 ?_
   refine zza 59 (.v (.int .i64 (Nt.tapE p l))) ?_
   refine zza 60 (.v (.int .i64 (Nt.tapE p l))) ?_
   refine zza 61 (.v (.bool ((Nt.tapE p l) != (Nt.tapE p l)))) ?_
   refine zyp 62 (x := .v (.bool ((Nt.tapE p l) != (Nt.tapE p l)))) (.v (.bool false)) (by rw [show ((Nt.tapE p l) != (Nt.tapE p l)) = false from (bne_self_eq_false _)]) ?_
   refine zza 63 (.v y211.v) ?_ (hw := w1 3 false 62)
   refine zza 64 (.v y217.v) ?_ (hw := w1 3 false 62)
   refine zzf 65 15 [y211.v, y217.v] ?_ (hw := w1 3 false 62)
   intro w223 u223 e223 d223
   have k226 := k_sameRats d223 (h212.ext (e216.trans (g220.ext.trans e223))).raw (h218.ext e223).raw (by omega) (by omega)
   with_reducible refine Post.mono k226 ?_
   rintro _ u224 g225 rfl
   refine zza 66 (.v (.bool false)) ?_ (hw := w1 3 false 62)
   refine zza 67 (.v (.bool false)) ?_
   refine zzb 129 [(7, .v (.int .i64 (z12 : Int))), (8, .v (.slice (some ⟨b192, 0, none⟩) i0 cp0)), (10, .v y205.v), (11, .v y211.v), (12, .v (.int .i64 (Nt.tapE p l))), (67, .v (.bool false))] [] ?_
   refine zyr (by kernel_rfl) ?_
   refine zzr (zzo ?_)
   refine zzc ?_
   refine sq9 ?_
   refine zza 68 (.v (.int .i64 (Nt.tapE p l))) ?_
   refine zza 69 (.v (.bool ((Nt.tapE p l) != 0))) ?_
   refine zzb 129 [(7, .v (.int .i64 (z12 : Int))), (8, .v (.slice (some ⟨b192, 0, none⟩) i0 cp0)), (10, .v y205.v), (11, .v y211.v), (12, .v (.int .i64 (Nt.tapE p l))), (69, .v (.bool ((Nt.tapE p l) != 0)))] [] ?_
   refine zzt (b := (Nt.tapE p l) != 0) (by kernel_rfl) (fun hb227 => ?_) (fun hb227 => ?_)
   ·replace hb227 : ((Nt.tapE p l) != 0) = true := hb227
    refine sq9 ?_
    refine zzf 70 16 [] ?_
    intro w228 u228 e228 d228
    have k231 := k_known25 d228
    with_reducible refine Post.mono k231 ?_
    rintro _ u229 g230 rfl
    refine zza 71 (.v (.bool true)) ?_
    refine zza 72 (.v (.int .i64 (Nt.tapE p l))) ?_ (hw := w1 1 true 71)
    refine zza 73 (.v (.bool ((Nt.tapE p l) == 12))) ?_ (hw := w1 1 true 71)
    refine zza 74 (.v (.bool ((Nt.tapE p l) == 12))) ?_
    refine zyp 75 (x := .v (.bool ((Nt.tapE p l) == 12))) (.v (.bool true)) (by rw [show ((Nt.tapE p l) == 12) = true from (by rw [(Nt.tapE_12 hz hb227).1]; rfl)]) ?_
    refine zza 76 (.v y205.v) ?_ (hw := w1 5 true 75)
    refine zzf 77 17 [y205.v] ?_ (hw := w1 5 true 75)
    intro w233 u233 e233 d233
    have k236 := k_r5Degree d233 (hpp.ext (e210.trans (g214.ext.trans (e216.trans (g220.ext.trans (e223.trans (g225.ext.trans (e228.trans (g230.ext.trans e233))))))))).raw (by omega) (by first|omega|(simp;omega) | (refine Nat.le_trans (Nt.zzg _) ?_; first|omega|(simp;omega)) | (refine Nat.le_trans (Nt.zzg _) ?_; simp only [List.length_map]; refine Nat.le_trans (Nt.zzg _) ?_; first|omega|(simp;omega)))
    with_reducible refine Post.mono k236 ?_
    rintro _ u234 g235 rfl
    refine zza 78 (.v (.int .i64 (z12 : Int))) ?_ (hw := w1 5 true 75)
    refine zza 79 (.v (.bool (decide ((z12 : Int) < (((Nt.trimQ p).length : Int) - 1))))) ?_ (hw := w1 5 true 75)
    refine zza 80 (.v (.bool (decide ((z12 : Int) < (((Nt.trimQ p).length : Int) - 1))))) ?_
    refine zza 6 (.v (.bool (decide ((z12 : Int) < (((Nt.trimQ p).length : Int) - 1))))) ?_
    refine zzb 129 [(6, .v (.bool (decide ((z12 : Int) < (((Nt.trimQ p).length : Int) - 1)))))] [] ?_
    refine zzn (zzv (ret0 [.bool (decide ((z12 : Int) < (((Nt.trimQ p).length : Int) - 1)))] ⟨zzp, trivial⟩ fun u237 e238 => ?_))
    show Value.bool _ = Value.bool _
    rw [show (decide ((z12 : Int) < (((Nt.trimQ p).length : Int) - 1))) = true from decide_eq_true (by have h9 := (Nt.tapE_12 hz hb227).2; omega)]
   ·replace hb227 : ((Nt.tapE p l) != 0) = false := hb227
    refine zzr (zzo ?_)
    refine zzc ?_
    have htl0 := (Nt.tapE_0 hz hb227).1
    have hvf := h212
    rw [(Nt.tapE_0 hz hb227).2] at hvf
    have hvl := hvf.len
    rw [Nt.tapL_len] at hvl
    refine zze ?_
    refine zza 15 (.v (.slice none 0 0)) ?_
    refine zzb 129 [(7, .v (.int .i64 (z12 : Int))), (8, .v (.slice (some ⟨b192, 0, none⟩) i0 cp0)), (10, .v y205.v), (11, .v y211.v), (15, .v (.slice none 0 0))] [] ?_
    refine zzc ?_
    refine sq9 ?_
    refine zza 16 (.v (.int .i64 0)) ?_
    refine zzb 129 [(7, .v (.int .i64 (z12 : Int))), (8, .v (.slice (some ⟨b192, 0, none⟩) i0 cp0)), (10, .v y205.v), (11, .v y211.v), (15, .v (.slice none 0 0)), (16, .v (.int .i64 0))] [] ?_
    refine zzs ?_
    refine zym (I := fun m239 S' u' => ∃ (i : Nat) (a : Sl), (m239 = z12 + 1 - i) ∧ (i ≤ z12 + 1) ∧ (S' = St.of 129 [(7, .v (.int .i64 (z12 : Int))), (8, .v (.slice (some ⟨b192, 0, none⟩) i0 cp0)), (10, .v (.slice y205.a y205.n y205.c)), (11, .v (.slice y211.a y211.n y211.c)), (15, .v (.slice a.a a.n a.c)), (16, .v (.int .i64 (i : Int)))] []) ∧ (Ext u224 u') ∧ (PolN u' a (Nt.ltS p l i) (i * 280000 + 1))) (fun m S u1 u2 e h => by obtain ⟨i, a, hm, p0, hS, hE, f0⟩ := h; exact ⟨i, a, hm, p0, hS, hE.trans e, f0.ext e⟩) _ (T := St.of 129 [(7, .v (.int .i64 (z12 : Int))), (8, .v (.slice (some ⟨b192, 0, none⟩) i0 cp0)), (10, .v (.slice y205.a y205.n y205.c)), (11, .v (.slice y211.a y211.n y211.c)), (15, .v (.slice none 0 0)), (16, .v (.int .i64 0))] []) (by exact zzu _ _ _) ⟨0, ⟨none, 0, 0⟩, rfl, Nat.zero_le _, rfl, Ext.refl _, pol_nil _ _⟩ ?_
    rintro m239 _ u239 ⟨i, a, hm239, hi, rfl, e239, hA⟩
    have hal := hA.len
    have hsl := Nt.ltS_len p l i
    have huk := Nt.upK_succ i
    refine zzc ?_
    refine sq9 ?_
    refine zza 81 (.v (.int .i64 (i : Int))) ?_
    refine zza 82 (.v (.int .i64 (z12 : Int))) ?_
    refine zza 83 (.v (.bool (decide ((i : Int) ≤ (z12 : Int))))) ?_
    refine zzb 129 [(7, .v (.int .i64 (z12 : Int))), (8, .v (.slice (some ⟨b192, 0, none⟩) i0 cp0)), (10, .v y205.v), (11, .v y211.v), (15, .v a.v), (16, .v (.int .i64 (i : Int))), (83, .v (.bool (decide ((i : Int) ≤ (z12 : Int)))))] [] ?_
    refine zzt (b := decide ((i : Int) ≤ (z12 : Int))) (by kernel_rfl) (fun hb240 => ?_) (fun hb240 => ?_)
    ·replace hb240 : (decide ((i : Int) ≤ (z12 : Int))) = true := hb240
     have qhb240 := of_decide_eq_true hb240
     refine zzr (zzo ?_)
     refine zzc ?_
     refine zzs ?_
     refine sq9 ?_
     refine zza 87 (.v (.slice (some ⟨b192, 0, none⟩) i0 cp0)) ?_
     refine zza 88 (.v (.int .i64 (i : Int))) ?_
     have hl241 := (hlf.ext (e198.trans (g202.ext.trans (e204.trans (g208.ext.trans (e210.trans (g214.ext.trans (e216.trans (g220.ext.trans (e223.trans (g225.ext.trans e239))))))))))).len
     have hc241 := (hlf.ext (e198.trans (g202.ext.trans (e204.trans (g208.ext.trans (e210.trans (g214.ext.trans (e216.trans (g220.ext.trans (e223.trans (g225.ext.trans e239))))))))))).cap
     change i0 = _ at hl241
     change i0 ≤ cp0 at hc241
     refine sy_front 89 (n := i0) (c := cp0) i sl24 rfl (by omega) ?_
     refine zzf 90 18 [.slice (some ⟨b192, 0, none⟩) i cp0] ?_
     intro w242 u242 e242 d242
     have k247 := k_rstepUpG d242 ((pol_takeN (hlf.ext (e198.trans (g202.ext.trans (e204.trans (g208.ext.trans (e210.trans (g214.ext.trans (e216.trans (g220.ext.trans (e223.trans (g225.ext.trans e239))))))))))) (by omega)).ext e242).raw (by rw [List.length_take]; omega) (by omega) (Nt.small_take hz i)
     with_reducible refine Post.mono k247 ?_
     rintro _ u245 g246 ⟨y243, rfl, h244⟩
     rw [List.length_take, Nat.min_eq_left (by omega), Nt.upL_take _ (Nat.le_refl _)] at h244
     have hly243 := h244.len
     have hmy243 := Nt.zzg (Nt.upL l i)
     rw [Nt.upL_len] at hmy243
     have hky243 := Nt.upK_le (show i ≤ 6 by omega)
     refine zza 86 (.v (.tuple #[y243.v, .int .i64 0])) ?_
     refine zza 91 (.v y243.v) ?_
     refine zza 92 (.v (.int .i64 0)) ?_
     refine zza 17 (.v y243.v) ?_
     refine zza 18 (.v (.int .i64 0)) ?_
     refine zzb 129 [(7, .v (.int .i64 (z12 : Int))), (8, .v (.slice (some ⟨b192, 0, none⟩) i0 cp0)), (10, .v y205.v), (11, .v y211.v), (15, .v a.v), (16, .v (.int .i64 (i : Int))), (17, .v y243.v), (18, .v (.int .i64 0))] [] ?_
     refine sq9 ?_
     refine zza 19 (.v (.slice none 0 0)) ?_
     refine zzb 129 [(7, .v (.int .i64 (z12 : Int))), (8, .v (.slice (some ⟨b192, 0, none⟩) i0 cp0)), (10, .v y205.v), (11, .v y211.v), (15, .v a.v), (16, .v (.int .i64 (i : Int))), (17, .v y243.v), (18, .v (.int .i64 0)), (19, .v (.slice none 0 0))] [] ?_
     refine zzc ?_
     refine sq9 ?_
     refine zza 93 (.v (.int .i64 (i : Int))) ?_
     refine zza 20 (.v (.int .i64 (i : Int))) ?_
     refine zzb 129 [(7, .v (.int .i64 (z12 : Int))), (8, .v (.slice (some ⟨b192, 0, none⟩) i0 cp0)), (10, .v y205.v), (11, .v y211.v), (15, .v a.v), (16, .v (.int .i64 (i : Int))), (17, .v y243.v), (18, .v (.int .i64 0)), (19, .v (.slice none 0 0)), (20, .v (.int .i64 (i : Int)))] [] ?_
     refine zzs ?_
     have hsi := Nt.upK_le (show i ≤ 6 by omega)
     refine zym (I := fun m248 S' u' => (m248 = (i + 1) ∧ S' = St.of 129 [(7, .v (.int .i64 (z12 : Int))), (8, .v (.slice (some ⟨b192, 0, none⟩) i0 cp0)), (10, .v (.slice y205.a y205.n y205.c)), (11, .v (.slice y211.a y211.n y211.c)), (15, .v (.slice a.a a.n a.c)), (16, .v (.int .i64 (i : Int))), (17, .v (.slice y243.a y243.n y243.c)), (18, .v (.int .i64 0)), (19, .v (.slice none 0 0)), (20, .v (.int .i64 ((i : Int) - ((0 : Nat) : Int))))] [] ∧ Ext u245 u') ∨ (∃ (i2 : Nat) (L2 : List RL) (cs2 : List Value) (cp2 : Nat), m248 = (i + 1) - i2 ∧ i2 ≤ (i + 1) ∧ 0 < i2 ∧ L2.length = i2 ∧ cs2.length = cp2 * 3 ∧ i2 ≤ cp2 ∧ cp2 ≤ maxLen ∧ cs2.take (i2 * 3) = rcs L2 ∧ S' = St.of 129 [(7, .v (.int .i64 (z12 : Int))), (8, .v (.slice (some ⟨b192, 0, none⟩) i0 cp0)), (10, .v (.slice y205.a y205.n y205.c)), (11, .v (.slice y211.a y211.n y211.c)), (15, .v (.slice a.a a.n a.c)), (16, .v (.int .i64 (i : Int))), (17, .v (.slice y243.a y243.n y243.c)), (18, .v (.int .i64 0)), (19, .slc 108 0 i2 cp2), (20, .v (.int .i64 ((i : Int) - ((i2 : Nat) : Int))))] [(108, ⟨29, cs2⟩)] ∧ Ext u245 u' ∧ RatsN u' L2 ((Nt.revL l i).take i2) (Nt.upK i))) (fun m S u1 u2 e h => by rcases h with ⟨a, b, c⟩ | ⟨a1, a2, a3, a4, b1, b2, b3, b4, b5, b6, b7, b8, b9, b10, b11⟩; exact .inl ⟨a, b, c.trans e⟩; exact .inr ⟨a1, a2, a3, a4, b1, b2, b3, b4, b5, b6, b7, b8, b9, b10.trans e, b11.ext e⟩) _ (T := St.of 129 [(7, .v (.int .i64 (z12 : Int))), (8, .v (.slice (some ⟨b192, 0, none⟩) i0 cp0)), (10, .v (.slice y205.a y205.n y205.c)), (11, .v (.slice y211.a y211.n y211.c)), (15, .v (.slice a.a a.n a.c)), (16, .v (.int .i64 (i : Int))), (17, .v (.slice y243.a y243.n y243.c)), (18, .v (.int .i64 0)), (19, .v (.slice none 0 0)), (20, .v (.int .i64 ((i : Int) - ((0 : Nat) : Int))))] []) (by exact zzu _ _ _) (.inl ⟨rfl, rfl, Ext.refl _⟩) ?_
     rintro m248 _ u248 (⟨hm248, rfl, e248⟩ | ⟨i2, L2, cs2, cp2, hm248, hi2, hp2, hL2, hc2, hle2, hmx2, ht2, rfl, e248, hR2⟩)
     ·change SW _ _ _ _ (St.of 129 [(7, .v (.int .i64 (z12 : Int))), (8, .v (.slice (some ⟨b192, 0, none⟩) i0 cp0)), (10, .v (.slice y205.a y205.n y205.c)), (11, .v (.slice y211.a y211.n y211.c)), (15, .v (.slice a.a a.n a.c)), (16, .v (.int .i64 (i : Int))), (17, .v (.slice y243.a y243.n y243.c)), (18, .v (.int .i64 0)), (19, .v (.slice none 0 0)), (20, .v (.int .i64 ((i : Int) - ((0 : Nat) : Int))))] []) _ _
      refine zzc ?_
      refine sq9 ?_
      refine zza 94 (.v (.int .i64 ((i : Int) - ((0 : Nat) : Int)))) ?_
      refine zza 95 (.v (.bool (decide ((0 : Int) ≤ ((i : Int) - ((0 : Nat) : Int)))))) ?_
      refine zzb 129 [(7, .v (.int .i64 (z12 : Int))), (8, .v (.slice (some ⟨b192, 0, none⟩) i0 cp0)), (10, .v y205.v), (11, .v y211.v), (15, .v a.v), (16, .v (.int .i64 (i : Int))), (17, .v y243.v), (18, .v (.int .i64 0)), (19, .v (.slice none 0 0)), (20, .v (.int .i64 ((i : Int) - ((0 : Nat) : Int)))), (95, .v (.bool (decide ((0 : Int) ≤ ((i : Int) - ((0 : Nat) : Int))))))] [] ?_
      refine zzt (b := decide ((0 : Int) ≤ ((i : Int) - ((0 : Nat) : Int)))) (by kernel_rfl) (fun hb => ?_) (fun hb => ?_)
      ·clear hb
       refine zzr (zzo ?_)
       refine zzc ?_
       refine zzs ?_
       refine zzc ?_
       rw [show (i : Int) - ((0 : Nat) : Int) = ((i - 0 : Nat) : Int) by omega]
       refine zze ?_
       refine zza 98 (.v (.int .i64 ((i - 0 : Nat) : Int))) ?_
       refine zza 99 (.v y243.v) ?_
       refine zza 100 (.v (.int .i64 (y243.n : Int))) ?_
       refine zza 101 (.v (.bool (decide (((i - 0 : Nat) : Int) < (y243.n : Int))))) ?_
       refine zzb 129 [(7, .v (.int .i64 (z12 : Int))), (8, .v (.slice (some ⟨b192, 0, none⟩) i0 cp0)), (10, .v y205.v), (11, .v y211.v), (15, .v a.v), (16, .v (.int .i64 (i : Int))), (17, .v y243.v), (18, .v (.int .i64 0)), (19, .v (.slice none 0 0)), (20, .v (.int .i64 ((i - 0 : Nat) : Int))), (101, .v (.bool (decide (((i - 0 : Nat) : Int) < (y243.n : Int)))))] [] ?_
       refine zzt (b := decide (((i - 0 : Nat) : Int) < (y243.n : Int))) (by kernel_rfl) (fun hb249 => ?_) (fun hb249 => ?_)
       ·replace hb249 : (decide (((i - 0 : Nat) : Int) < (y243.n : Int))) = true := hb249
        have qhb249 := of_decide_eq_true hb249
        refine zze ?_
        refine zza 102 (.v (.slice none 0 0)) ?_
        refine zza 103 (.v y243.v) ?_
        refine zza 104 (.v (.int .i64 ((i - 0 : Nat) : Int))) ?_
        have hl250 := (h244.ext e248).len
        obtain ⟨r250, b250, o250, hA250, hc250, hr250⟩ := pol_atN (h244.ext e248) (i := i - 0) (by omega)
        refine zzz 105 (o250 + (i - 0) * 3) (n := y243.n) (off := o250) (sz := 3) (i := ((i - 0 : Nat) : Int)) (by omega) hA250 (by omega) (by omega) sl32 ?_
        refine zyl 106 r250.cs hc250 ty29 ?_
        refine sy_data 107 ⟨29, r250.cs⟩ 1 (fun b251 u252 e253 h254 => ?_)
        have hp255 : PolN u252 (⟨some ⟨b251, 0, none⟩, 1, 1⟩ : Sl) [((Nt.trimQ (Nt.upL l i)).getD (i - 0) 0)] (Nt.upK i) := pol_lit (L := [r250]) h254 (rats1 (hr250.ext e253)) rfl (by decide)
        refine sy_app0 108 (T := 32) (E := 29) (z := .agg #[.bool false, .slice none 0 0, .slice none 0 0]) (size := 3) (bytes := 56) (b := b251) (off := 0) (m := 1) r250.cs (by kernel_rfl) (by kernel_rfl) (by kernel_rfl) (by decide) rfl (lit_news ((Ext.refl _).cells h254)) (rl_one r250) (by decide) (by decide) (by decide) ?_
        intro c256 cs256 ha256 hb256 hc256 hd256
        refine zza 19 (.slc 108 0 1 c256) ?_
        refine zzw ?_
        refine zzo ?_
        refine zze ?_
        refine zza 96 (.v (.int .i64 ((i - 0 : Nat) : Int))) ?_
        refine zyp 97 (x := .v (.int .i64 (IntKind.i64.wrap (((i - 0 : Nat) : Int) - 1)))) (.v (.int .i64 ((i : Int) - ((1 : Nat) : Int)))) (eqI (by rw [IntWalk.i64_in _ (by omega)]; omega)) ?_
        refine zza 20 (.v (.int .i64 ((i : Int) - ((1 : Nat) : Int)))) ?_
        refine zzw ?_
        have ht257 : 0 < (Nt.revL l i).length := by rw [Nt.revL_len]; omega
        refine ⟨_, ?_, St.of 129 [(7, .v (.int .i64 (z12 : Int))), (8, .v (.slice (some ⟨b192, 0, none⟩) i0 cp0)), (10, .v (.slice y205.a y205.n y205.c)), (11, .v (.slice y211.a y211.n y211.c)), (15, .v (.slice a.a a.n a.c)), (16, .v (.int .i64 (i : Int))), (17, .v (.slice y243.a y243.n y243.c)), (18, .v (.int .i64 0)), (19, .slc 108 0 1 c256), (20, .v (.int .i64 ((i : Int) - ((1 : Nat) : Int))))] [(108, ⟨29, cs256⟩)], by exact zzu _ _ _, .inr ⟨1, [r250], cs256, c256, rfl, by omega, by omega, by simp, hc256, by omega, hb256, hd256, rfl, (e248.trans e253), (app_first (RatN.more (K := (Nt.upK i)) (hr250.ext e253) (by omega)) ht257 (by rw [Nt.revL_at l (by omega)]; exact Nt.trimD _ _))⟩⟩
        omega
       ·replace hb249 : (decide (((i - 0 : Nat) : Int) < (y243.n : Int))) = false := hb249
        have qhb249 := of_decide_eq_false hb249
        refine zze ?_
        refine zza 109 (.v (.slice none 0 0)) ?_
        refine zzf 110 19 [.int .i64 0] ?_
        intro w258 u258 e258 d258
        have k263 := k_rqOf d258 (z := 0) (by omega) (by omega)
        with_reducible refine Post.mono k263 ?_
        rintro _ u261 g262 ⟨r259, rfl, h260⟩
        refine sy_data 111 ⟨29, r259.cs⟩ 1 (fun b264 u265 e266 h267 => ?_)
        have hp268 : PolN u265 (⟨some ⟨b264, 0, none⟩, 1, 1⟩ : Sl) [((0 : Int) : Rat)] 2 := pol_lit (L := [r259]) h267 (rats1 (h260.ext e266)) rfl (by decide)
        refine sy_app0 112 (T := 32) (E := 29) (z := .agg #[.bool false, .slice none 0 0, .slice none 0 0]) (size := 3) (bytes := 56) (b := b264) (off := 0) (m := 1) r259.cs (by kernel_rfl) (by kernel_rfl) (by kernel_rfl) (by decide) rfl (lit_news ((Ext.refl _).cells h267)) (rl_one r259) (by decide) (by decide) (by decide) ?_
        intro c269 cs269 ha269 hb269 hc269 hd269
        refine zza 19 (.slc 112 0 1 c269) ?_
        refine zzw ?_
        refine zzo ?_
        refine sw_ren (r := 19) (t := 112) 108 [19, 112] (by repeat first | exact noAt_of | refine zyc ?_ | refine zye ?_ | refine zyd ?_ | refine zzx ?_ | refine zya ?_) (by kernel_rfl) (by rfl) (by rfl) (by kernel_rfl) (by kernel_rfl) ?_
        refine zze ?_
        refine zza 96 (.v (.int .i64 ((i - 0 : Nat) : Int))) ?_
        refine zyp 97 (x := .v (.int .i64 (IntKind.i64.wrap (((i - 0 : Nat) : Int) - 1)))) (.v (.int .i64 ((i : Int) - ((1 : Nat) : Int)))) (eqI (by rw [IntWalk.i64_in _ (by omega)]; omega)) ?_
        refine zza 20 (.v (.int .i64 ((i : Int) - ((1 : Nat) : Int)))) ?_
        refine zzw ?_
        have ht270 : 0 < (Nt.revL l i).length := by rw [Nt.revL_len]; omega
        refine ⟨_, ?_, St.of 129 [(7, .v (.int .i64 (z12 : Int))), (8, .v (.slice (some ⟨b192, 0, none⟩) i0 cp0)), (10, .v (.slice y205.a y205.n y205.c)), (11, .v (.slice y211.a y211.n y211.c)), (15, .v (.slice a.a a.n a.c)), (16, .v (.int .i64 (i : Int))), (17, .v (.slice y243.a y243.n y243.c)), (18, .v (.int .i64 0)), (19, .slc 108 0 1 c269), (20, .v (.int .i64 ((i : Int) - ((1 : Nat) : Int))))] [(108, ⟨29, cs269⟩)], by exact zzu _ _ _, .inr ⟨1, [r259], cs269, c269, rfl, by omega, by omega, by simp, hc269, by omega, hb269, hd269, rfl, (e248.trans (e258.trans (g262.ext.trans e266))), (app_first (RatN.more (K := 2) (h260.ext e266) (by omega)) ht270 (by rw [Nt.revL_at l (by omega), ← Nt.trimD]; exact (Nt.co_ge (by omega)).symm))⟩⟩
        omega
      ·exact absurd hb (by rw [show (decide ((0 : Int) ≤ ((i : Int) - ((0 : Nat) : Int)))) = true from decide_eq_true (by omega)]; decide)
     ·change SW _ _ _ _ (St.of 129 [(7, .v (.int .i64 (z12 : Int))), (8, .v (.slice (some ⟨b192, 0, none⟩) i0 cp0)), (10, .v (.slice y205.a y205.n y205.c)), (11, .v (.slice y211.a y211.n y211.c)), (15, .v (.slice a.a a.n a.c)), (16, .v (.int .i64 (i : Int))), (17, .v (.slice y243.a y243.n y243.c)), (18, .v (.int .i64 0)), (19, .slc 108 0 i2 cp2), (20, .v (.int .i64 ((i : Int) - ((i2 : Nat) : Int))))] [(108, ⟨29, cs2⟩)]) _ _
      refine zzc ?_
      refine sq9 ?_
      refine zza 94 (.v (.int .i64 ((i : Int) - ((i2 : Nat) : Int)))) ?_
      refine zza 95 (.v (.bool (decide ((0 : Int) ≤ ((i : Int) - ((i2 : Nat) : Int)))))) ?_
      refine zzb 129 [(7, .v (.int .i64 (z12 : Int))), (8, .v (.slice (some ⟨b192, 0, none⟩) i0 cp0)), (10, .v y205.v), (11, .v y211.v), (15, .v a.v), (16, .v (.int .i64 (i : Int))), (17, .v y243.v), (18, .v (.int .i64 0)), (19, .slc 108 0 i2 cp2), (20, .v (.int .i64 ((i : Int) - ((i2 : Nat) : Int)))), (95, .v (.bool (decide ((0 : Int) ≤ ((i : Int) - ((i2 : Nat) : Int))))))] [(108, ⟨29, cs2⟩)] ?_
      refine zzt (b := decide ((0 : Int) ≤ ((i : Int) - ((i2 : Nat) : Int)))) (by kernel_rfl) (fun hb271 => ?_) (fun hb271 => ?_)
      ·replace hb271 : (decide ((0 : Int) ≤ ((i : Int) - ((i2 : Nat) : Int)))) = true := hb271
       have qhb271 := of_decide_eq_true hb271
       refine zzr (zzo ?_)
       refine zzc ?_
       refine zzs ?_
       refine zzc ?_
       rw [show (i : Int) - ((i2 : Nat) : Int) = ((i - i2 : Nat) : Int) by omega]
       refine zze ?_
       refine zza 98 (.v (.int .i64 ((i - i2 : Nat) : Int))) ?_
       refine zza 99 (.v y243.v) ?_
       refine zza 100 (.v (.int .i64 (y243.n : Int))) ?_
       refine zza 101 (.v (.bool (decide (((i - i2 : Nat) : Int) < (y243.n : Int))))) ?_
       refine zzb 129 [(7, .v (.int .i64 (z12 : Int))), (8, .v (.slice (some ⟨b192, 0, none⟩) i0 cp0)), (10, .v y205.v), (11, .v y211.v), (15, .v a.v), (16, .v (.int .i64 (i : Int))), (17, .v y243.v), (18, .v (.int .i64 0)), (19, .slc 108 0 i2 cp2), (20, .v (.int .i64 ((i - i2 : Nat) : Int))), (101, .v (.bool (decide (((i - i2 : Nat) : Int) < (y243.n : Int)))))] [(108, ⟨29, cs2⟩)] ?_
       refine zzt (b := decide (((i - i2 : Nat) : Int) < (y243.n : Int))) (by kernel_rfl) (fun hb272 => ?_) (fun hb272 => ?_)
       ·replace hb272 : (decide (((i - i2 : Nat) : Int) < (y243.n : Int))) = true := hb272
        have qhb272 := of_decide_eq_true hb272
        refine zze ?_
        refine zza 102 (.slc 108 0 i2 cp2) ?_
        refine zza 103 (.v y243.v) ?_
        refine zza 104 (.v (.int .i64 ((i - i2 : Nat) : Int))) ?_
        have hl273 := (h244.ext e248).len
        obtain ⟨r273, b273, o273, hA273, hc273, hr273⟩ := pol_atN (h244.ext e248) (i := i - i2) (by omega)
        refine zzz 105 (o273 + (i - i2) * 3) (n := y243.n) (off := o273) (sz := 3) (i := ((i - i2 : Nat) : Int)) (by omega) hA273 (by omega) (by omega) sl32 ?_
        refine zyl 106 r273.cs hc273 ty29 ?_
        refine sy_data 107 ⟨29, r273.cs⟩ 1 (fun b274 u275 e276 h277 => ?_)
        have hp278 : PolN u275 (⟨some ⟨b274, 0, none⟩, 1, 1⟩ : Sl) [((Nt.trimQ (Nt.upL l i)).getD (i - i2) 0)] (Nt.upK i) := pol_lit (L := [r273]) h277 (rats1 (hr273.ext e276)) rfl (by decide)
        refine sy_app1 108 (T := 32) (E := 29) (z := .agg #[.bool false, .slice none 0 0, .slice none 0 0]) (size := 3) (bytes := 56) (b := b274) (off := 0) (m := 1) (n := i2) (cap := cp2) (t := 108) (cs0 := cs2) [19, 102, 108] r273.cs (by kernel_rfl) (by kernel_rfl) (by kernel_rfl) (by decide) rfl (lit_news ((Ext.refl _).cells h277)) (rl_one r273) (by decide) (by unfold maxLen; omega) (by omega) (by omega) (by omega) (by omega) (by repeat first | exact noAt_of | refine zyc ?_ | refine zye ?_ | refine zyd ?_ | refine zzx ?_ | refine zya ?_) ?_
        intro c279 cs279 ha279 hb279 hc279 hd279
        have hd279r : cs279.take ((i2 + 1) * 3) = rcs (L2 ++ [r273]) := by rw [hd279, ht2, rcs_app]; rfl
        refine zza 19 (.slc 108 0 (i2 + 1) c279) ?_
        refine zzw ?_
        refine zzo ?_
        refine zze ?_
        refine zza 96 (.v (.int .i64 ((i - i2 : Nat) : Int))) ?_
        refine zyp 97 (x := .v (.int .i64 (IntKind.i64.wrap (((i - i2 : Nat) : Int) - 1)))) (.v (.int .i64 ((i : Int) - ((i2 + 1 : Nat) : Int)))) (eqI (by rw [IntWalk.i64_in _ (by omega)]; omega)) ?_
        refine zza 20 (.v (.int .i64 ((i : Int) - ((i2 + 1 : Nat) : Int)))) ?_
        refine zzw ?_
        have ht280 : i2 < (Nt.revL l i).length := by rw [Nt.revL_len]; omega
        refine ⟨_, ?_, St.of 129 [(7, .v (.int .i64 (z12 : Int))), (8, .v (.slice (some ⟨b192, 0, none⟩) i0 cp0)), (10, .v (.slice y205.a y205.n y205.c)), (11, .v (.slice y211.a y211.n y211.c)), (15, .v (.slice a.a a.n a.c)), (16, .v (.int .i64 (i : Int))), (17, .v (.slice y243.a y243.n y243.c)), (18, .v (.int .i64 0)), (19, .slc 108 0 (i2 + 1) c279), (20, .v (.int .i64 ((i : Int) - ((i2 + 1 : Nat) : Int))))] [(108, ⟨29, cs279⟩)], by exact zzu _ _ _, .inr ⟨i2 + 1, L2 ++ [r273], cs279, c279, rfl, by omega, by omega, by simp; omega, hc279, by omega, hb279, hd279r, rfl, (e248.trans e276), (app_next (hR2.ext e276) (RatN.more (K := (Nt.upK i)) (hr273.ext e276) (by omega)) ht280 (by rw [Nt.revL_at l (by omega)]; exact Nt.trimD _ _))⟩⟩
        omega
       ·replace hb272 : (decide (((i - i2 : Nat) : Int) < (y243.n : Int))) = false := hb272
        have qhb272 := of_decide_eq_false hb272
        refine zze ?_
        refine zza 109 (.slc 108 0 i2 cp2) ?_
        refine zzf 110 19 [.int .i64 0] ?_
        intro w281 u281 e281 d281
        have k286 := k_rqOf d281 (z := 0) (by omega) (by omega)
        with_reducible refine Post.mono k286 ?_
        rintro _ u284 g285 ⟨r282, rfl, h283⟩
        refine sy_data 111 ⟨29, r282.cs⟩ 1 (fun b287 u288 e289 h290 => ?_)
        have hp291 : PolN u288 (⟨some ⟨b287, 0, none⟩, 1, 1⟩ : Sl) [((0 : Int) : Rat)] 2 := pol_lit (L := [r282]) h290 (rats1 (h283.ext e289)) rfl (by decide)
        refine sy_app1 112 (T := 32) (E := 29) (z := .agg #[.bool false, .slice none 0 0, .slice none 0 0]) (size := 3) (bytes := 56) (b := b287) (off := 0) (m := 1) (n := i2) (cap := cp2) (t := 108) (cs0 := cs2) [19, 108, 109, 112] r282.cs (by kernel_rfl) (by kernel_rfl) (by kernel_rfl) (by decide) rfl (lit_news ((Ext.refl _).cells h290)) (rl_one r282) (by decide) (by unfold maxLen; omega) (by omega) (by omega) (by omega) (by omega) (by repeat first | exact noAt_of | refine zyc ?_ | refine zye ?_ | refine zyd ?_ | refine zzx ?_ | refine zya ?_) ?_
        intro c292 cs292 ha292 hb292 hc292 hd292
        have hd292r : cs292.take ((i2 + 1) * 3) = rcs (L2 ++ [r282]) := by rw [hd292, ht2, rcs_app]; rfl
        refine zza 19 (.slc 112 0 (i2 + 1) c292) ?_
        refine zzw ?_
        refine zzo ?_
        refine sw_ren (r := 19) (t := 112) 108 [19, 112] (by repeat first | exact noAt_of | refine zyc ?_ | refine zye ?_ | refine zyd ?_ | refine zzx ?_ | refine zya ?_) (by kernel_rfl) (by rfl) (by rfl) (by kernel_rfl) (by kernel_rfl) ?_
        refine zze ?_
        refine zza 96 (.v (.int .i64 ((i - i2 : Nat) : Int))) ?_
        refine zyp 97 (x := .v (.int .i64 (IntKind.i64.wrap (((i - i2 : Nat) : Int) - 1)))) (.v (.int .i64 ((i : Int) - ((i2 + 1 : Nat) : Int)))) (eqI (by rw [IntWalk.i64_in _ (by omega)]; omega)) ?_
        refine zza 20 (.v (.int .i64 ((i : Int) - ((i2 + 1 : Nat) : Int)))) ?_
        refine zzw ?_
        have ht293 : i2 < (Nt.revL l i).length := by rw [Nt.revL_len]; omega
        refine ⟨_, ?_, St.of 129 [(7, .v (.int .i64 (z12 : Int))), (8, .v (.slice (some ⟨b192, 0, none⟩) i0 cp0)), (10, .v (.slice y205.a y205.n y205.c)), (11, .v (.slice y211.a y211.n y211.c)), (15, .v (.slice a.a a.n a.c)), (16, .v (.int .i64 (i : Int))), (17, .v (.slice y243.a y243.n y243.c)), (18, .v (.int .i64 0)), (19, .slc 108 0 (i2 + 1) c292), (20, .v (.int .i64 ((i : Int) - ((i2 + 1 : Nat) : Int))))] [(108, ⟨29, cs292⟩)], by exact zzu _ _ _, .inr ⟨i2 + 1, L2 ++ [r282], cs292, c292, rfl, by omega, by omega, by simp; omega, hc292, by omega, hb292, hd292r, rfl, (e248.trans (e281.trans (g285.ext.trans e289))), (app_next (hR2.ext (e281.trans (g285.ext.trans e289))) (RatN.more (K := 2) (h283.ext e289) (by omega)) ht293 (by rw [Nt.revL_at l (by omega), ← Nt.trimD]; exact (Nt.co_ge (by omega)).symm))⟩⟩
        omega
      ·replace hb271 : (decide ((0 : Int) ≤ ((i : Int) - ((i2 : Nat) : Int)))) = false := hb271
       have qhb271 := of_decide_eq_false hb271
       refine zyb ?_
       refine zzo ?_
       refine zzc ?_
       refine zzc ?_
       refine zyo (r := 19) (t := 108) [19, 108] (by repeat first | exact noAt_of | refine zyc ?_ | refine zye ?_ | refine zyd ?_ | refine zzx ?_ | refine zya ?_) (by kernel_rfl) (by rfl) (by rfl) (by kernel_rfl) (fun b295 u296 e297 hb298 hh299 => ?_)
       have hp294 : PolN u296 ⟨some ⟨b295, 0, none⟩, i2, cp2⟩ (Nt.revL l i) (Nt.upK i) := by have h8 := pol_data hh299 ht2 hc2 hle2 hmx2 (hR2.ext e297); rw [List.take_of_length_le (l := (Nt.revL l i)) (by rw [Nt.revL_len]; omega)] at h8; exact h8
       have hrl := Nt.revL_len l i
       refine zze ?_
       refine zza 113 (.v (.int .i64 0)) ?_
       refine zza 114 (.v (.bool false)) ?_
       refine zzb 129 [(7, .v (.int .i64 (z12 : Int))), (8, .v (.slice (some ⟨b192, 0, none⟩) i0 cp0)), (10, .v y205.v), (11, .v y211.v), (15, .v a.v), (16, .v (.int .i64 (i : Int))), (19, .v (.slice (some ⟨b295, 0, none⟩) i2 cp2)), (114, .v (.bool false))] [] ?_
       refine zyr (by kernel_rfl) ?_
       refine zzr (zzo ?_)
       refine zze ?_
       refine zza 115 (.v a.v) ?_
       refine zza 116 (.v (.slice (some ⟨b295, 0, none⟩) i2 cp2)) ?_
       refine zza 117 (.v y211.v) ?_
       refine zza 118 (.v (.int .i64 (i : Int))) ?_
       have hl300 := (hvf.ext (e216.trans (g220.ext.trans (e223.trans (g225.ext.trans (e239.trans (e242.trans (g246.ext.trans (e248.trans e297))))))))).len
       obtain ⟨r300, b300, o300, hA300, hc300, hr300⟩ := pol_atN (hvf.ext (e216.trans (g220.ext.trans (e223.trans (g225.ext.trans (e239.trans (e242.trans (g246.ext.trans (e248.trans e297))))))))) (i := i) (by omega)
       refine zzz 119 (o300 + i * 3) (n := y211.n) (off := o300) (sz := 3) (i := (i : Int)) (by omega) hA300 (by omega) (by omega) sl24 ?_
       refine zyl 120 r300.cs hc300 ty29 ?_
       refine zzf 121 21 [.slice (some ⟨b295, 0, none⟩) i2 cp2, r300.v] ?_
       intro w301 u301 e301 d301
       have k306 := k_r5Scale d301 (hp294.ext e301).raw (hr300.ext e301).raw (by omega) (by omega) (by omega)
       with_reducible refine Post.mono k306 ?_
       rintro _ u304 g305 ⟨y302, rfl, h303⟩
       have hly302 := h303.len
       refine zzf 122 20 [a.v, y302.v] ?_
       intro w307 u307 e307 d307
       have k312 := k_r5Add d307 (hA.ext (e242.trans (g246.ext.trans (e248.trans (e297.trans (e301.trans (g305.ext.trans e307))))))).raw (h303.ext e307).raw (by omega) (by omega) (by first|omega|(simp;omega) | (refine Nat.le_trans (Nt.zzg _) ?_; first|omega|(simp;omega)) | (refine Nat.le_trans (Nt.zzg _) ?_; simp only [List.length_map]; refine Nat.le_trans (Nt.zzg _) ?_; first|omega|(simp;omega))) (by first|omega|(simp;omega) | (refine Nat.le_trans (Nt.zzg _) ?_; first|omega|(simp;omega)) | (refine Nat.le_trans (Nt.zzg _) ?_; simp only [List.length_map]; refine Nat.le_trans (Nt.zzg _) ?_; first|omega|(simp;omega)))
       with_reducible refine Post.mono k312 ?_
       rintro _ u310 g311 ⟨y308, rfl, h309⟩
       have hly308 := h309.len
       refine zza 15 (.v y308.v) ?_
       refine zzw ?_
       refine zzo ?_
       refine zze ?_
       refine zza 84 (.v (.int .i64 (i : Int))) ?_
       refine zyp 85 (x := .v (.int .i64 (IntKind.i64.wrap ((i : Int) + 1)))) (.v (.int .i64 ((i + 1 : Nat) : Int))) (eqI (by rw [IntWalk.i64_in _ (by omega)]; omega)) ?_
       refine zza 16 (.v (.int .i64 ((i + 1 : Nat) : Int))) ?_
       refine zzw ?_
       refine ⟨_, ?_, St.of 129 [(7, .v (.int .i64 (z12 : Int))), (8, .v (.slice (some ⟨b192, 0, none⟩) i0 cp0)), (10, .v (.slice y205.a y205.n y205.c)), (11, .v (.slice y211.a y211.n y211.c)), (15, .v (.slice y308.a y308.n y308.c)), (16, .v (.int .i64 ((i + 1 : Nat) : Int)))] [], by exact zzu _ _ _, i + 1, y308, rfl, by omega, rfl, (e239.trans (e242.trans (g246.ext.trans (e248.trans (e297.trans (e301.trans (g305.ext.trans (e307.trans g311.ext)))))))), (show PolN _ _ (Nt.ltS p l (i + 1)) _ from PolN.more (K := ((i * 280000 + 1) + ((Nt.upK i) + 270000 + 1) + 6)) h309 (by omega))⟩
       omega
    ·replace hb240 : (decide ((i : Int) ≤ (z12 : Int))) = false := hb240
     have qhb240 := of_decide_eq_false hb240
     refine zyb ?_
     refine zzo ?_
     refine zzc ?_
     have hin : i = l.length + 1 := by omega
     have hA9 := hA
     rw [hin] at hA9
     have hsl9 := Nt.ltS_len p l (l.length + 1)
     refine zze ?_
     refine zzf 123 16 [] ?_
     intro w313 u313 e313 d313
     have k316 := k_known25 d313
     with_reducible refine Post.mono k316 ?_
     rintro _ u314 g315 rfl
     refine zza 124 (.v (.bool true)) ?_
     refine zza 125 (.v a.v) ?_ (hw := w1 1 true 124)
     refine zza 126 (.v y205.v) ?_ (hw := w1 1 true 124)
     refine zzf 127 22 [a.v, y205.v] ?_ (hw := w1 1 true 124)
     intro w317 u317 e317 d317
     have k320 := k_r5Same d317 (hA9.ext (e313.trans (g315.ext.trans e317))).raw (hpp.ext (e210.trans (g214.ext.trans (e216.trans (g220.ext.trans (e223.trans (g225.ext.trans (e239.trans (e313.trans (g315.ext.trans e317)))))))))).raw (by omega) (by omega) (by first|omega|(simp;omega) | (refine Nat.le_trans (Nt.zzg _) ?_; first|omega|(simp;omega)) | (refine Nat.le_trans (Nt.zzg _) ?_; simp only [List.length_map]; refine Nat.le_trans (Nt.zzg _) ?_; first|omega|(simp;omega))) (by first|omega|(simp;omega) | (refine Nat.le_trans (Nt.zzg _) ?_; first|omega|(simp;omega)) | (refine Nat.le_trans (Nt.zzg _) ?_; simp only [List.length_map]; refine Nat.le_trans (Nt.zzg _) ?_; first|omega|(simp;omega)))
     with_reducible refine Post.mono k320 ?_
     rintro _ u318 g319 rfl
     refine zza 128 (.v (.bool (decide (Nt.trimQ (Nt.ltS p l (l.length + 1)) = Nt.trimQ p)))) ?_
     refine zza 6 (.v (.bool (decide (Nt.trimQ (Nt.ltS p l (l.length + 1)) = Nt.trimQ p)))) ?_
     refine zzb 129 [(6, .v (.bool (decide (Nt.trimQ (Nt.ltS p l (l.length + 1)) = Nt.trimQ p))))] [] ?_
     refine zzn (ret0 [.bool (decide (Nt.trimQ (Nt.ltS p l (l.length + 1)) = Nt.trimQ p))] ⟨zzp, trivial⟩ fun u321 e322 => ?_)
     show Value.bool _ = Value.bool _
     rw [show (decide (Nt.trimQ (Nt.ltS p l (l.length + 1)) = Nt.trimQ p)) = true from decide_eq_true (Nt.lt_law htl0)]
end Go.Proofs.YtmonfdlnihaabaaGreat
