/- Parts of the proof: contracts of functions, each walked once, and plain laws. -/
import Derived.Test.YtbolmkfphieogaaGreatEroD
namespace Go.Proofs.YtbolmkfphieogaaGreat
open Go.RowKit
set_option linter.unusedVariables false
theorem Nt.rtH_of {q : Rat} {n k : Nat} (h : q.num.natAbs * 2 ^ (n * k) % q.den = 0) : Nt.rtH q n k = if (Nt.cmpS ((Nt.rtN q n k ^ n : Nat) : Int) ((Nt.rtD q n k : Nat) : Int) == 0) = true then (Nt.rtN q n k : Int) else (Nt.rtN q n k : Int) + 1 := by
 unfold Nt.rtH
 by_cases h1 : Nt.rtN q n k ^ n = Nt.rtD q n k
 ·rw [if_pos ⟨h, h1⟩, if_pos (by rw [Nt.cmp_eq (congrArg _ h1)]; rfl)]
 ·rw [if_neg (fun h2 => h1 h2.2), if_neg ?_]
  intro h2
  rcases Nt.cmp_range ((Nt.rtN q n k ^ n : Nat) : Int) ((Nt.rtD q n k : Nat) : Int) with ⟨e, h3⟩ | ⟨e, h3⟩ | ⟨e, h3⟩
  ·rw [e] at h2; exact absurd h2 xw
  ·exact h1 (Int.ofNat_inj.1 h3)
  ·rw [e] at h2; exact absurd h2 xw
set_option maxHeartbeats 2000000 in
theorem k_RootG {u w : World} {r : RL} {q : Rat} {K n k : Nat} (d : Dat u w) (hr : RatV u r q K) (hq0 : 0 ≤ q) (hn1 : 1 ≤ n) (hn : n ≤ 64) (hk : k ≤ 256) (hK : K ≤ 100) : Calls Tryz.prog 20 #[r.v, .int .i64 (n : Int), .int .i64 (k : Int)] w (Post u w fun v u' => ∃ r1 r2 : RL, v = .tuple #[IV r1 r2, .int .i64 0] ∧ RatN u' r1 (Nt.gr k (Nt.rtN q n k : Int)) 1000 ∧ RatN u' r2 (Nt.gr k (Nt.rtH q n k)) 1000) := by
 have hnk : n * k ≤ 64 * 256 := Nat.mul_le_mul hn hk
 refine zzl (args := [r.v, .int .i64 n, .int .i64 k]) Tryz.func20 rfl Tryz.ntmps20 (rs := [.cell 6 32, .tmp 7]) Tryz.results20 (le_b rfl) (le_b rfl) d ?_
 refine sq9 (zzj 3 ⟨26, r.cs⟩ (zzj 6 ⟨32, [.bool false, .slice none 0 0, .slice none 0 0, .bool false, .slice none 0 0, .slice none 0 0]⟩ (zza 7 (zI 0) (zzb (zzd (sq9 (zzh 17 (.v (r.v)) ty26 zze (zzg 18 76 [r.v] ?_))))))))
 intro w11 u11 e11 d11
 have k14 := k_ratSign d11 (hr.ext e11)
 with_reducible refine zPm k14 ?_
 rintro _ u12 g13 rfl
 refine zza 19 (zB (decide ((Nt.sgQ q) < 0))) (zyn 20 (x := zB (decide ((Nt.sgQ q) < 0))) (zB false) (by rw [show (decide ((Nt.sgQ q) < 0)) = false from decide_eq_false (Nt.sgQ_nn hq0)]) (zza 21 (zI k) ?_ (hw := w1 3 false 20)))
 refine zzg 22 77 [.int .i64 k] ?_ (hw := w1 3 false 20)
 intro w16 u16 e16 d16
 have k19 := k_ePermitted (n := (k : Int)) d16
 with_reducible refine zPm k19 ?_
 rintro _ u17 g18 rfl
 refine zza 23 (zB (!(decide (0 ≤ (k : Int) ∧ (k : Int) ≤ 256)))) ?_ (hw := w1 3 false 20)
 refine zza 24 (zB (!(decide (0 ≤ (k : Int) ∧ (k : Int) ≤ 256)))) (zyn 25 (x := zB (!(decide (0 ≤ (k : Int) ∧ (k : Int) ≤ 256)))) (zB false) (by rw [show (!(decide (0 ≤ (k : Int) ∧ (k : Int) ≤ 256))) = false from (by rw [decide_eq_true xq]; rfl)]) (zza 26 (zI n) ?_ (hw := w1 8 false 25)))
 refine zza 27 (zB (decide ((n : Int) < 1))) ?_ (hw := w1 8 false 25)
 refine zza 28 (zB (decide ((n : Int) < 1))) (zyn 29 (x := zB (decide ((n : Int) < 1))) (zB false) (by rw [show (decide ((n : Int) < 1)) = false from decide_eq_false xq]) (zza 30 (zI n) ?_ (hw := w1 12 false 29)))
 refine zza 31 (zB (decide ((64 : Int) < (n : Int)))) ?_ (hw := w1 12 false 29)
 refine zza 32 (zB (decide ((64 : Int) < (n : Int)))) (zzb (zzt (b := decide ((64 : Int) < (n : Int))) xj (fun hb => ?_) (fun hb => ?_)))
 ·exact absurd hb (by rw [show (decide ((64 : Int) < (n : Int))) = false from decide_eq_false xq]; decide)
 ·clear hb
  refine zzr (zzo ?_)
  refine sq9 (zzh 34 (.v (r.v)) ty26 zze (zzg 35 78 [r.v] ?_))
  intro w22 u22 e22 d22
  have k27 := k_ratTrim d22 (hr.ext (e11.trans (g13.ext.trans (e16.trans (g18.ext.trans e22))))) xq
  with_reducible refine zPm k27 ?_
  rintro _ u25 g26 ⟨r23, rfl, h24⟩
  refine zzi ⟨26, r23.cs⟩ ty26 ?_
  refine zzb (sq9 (zza 36 (.adr 3 0) (zza 37 (.adr 3 1) (zzh 38 (.v r23.m.v) ty22 zzk (zza 39 (zI n) (zza 40 (zI k) (zyn 41 (x := zI (IntKind.i64.wrap ((n : Int) * (k : Int)))) (zI (n * k : Nat)) (eqI (by rw [← Int.natCast_mul]; exact IntWalk.i64_in _ xq)) (zzg 42 79 [r23.m.v, .int .i64 (n * k : Nat)] ?_))))))))
  intro w28 u28 e28 d28
  have k33 := k_natShift (s := n * k) d28 ((int_mag (RatN.num h24)).ext e28).raw xq xq
  with_reducible refine zPm k33 ?_
  rintro _ u31 g32 ⟨x29, rfl, h30⟩
  refine zza 8 (.v x29.v) (zzb (sq9 (zza 44 (.v x29.v) (zza 45 (.adr 3 2) (zzh 46 (.v r23.d.v) ty22 zzk (zzg 47 80 [x29.v, r23.d.v] ?_))))))
  intro w34 u34 e34 d34
  have k41 := k_natDivMod d34 (h30.ext e34).raw ((RatN.den h24).ext (e28.trans (g32.ext.trans e34))).raw q.den_pos xq xq
  with_reducible refine zPm k41 ?_
  rintro _ u39 g40 ⟨x35, x36, rfl, h37, h38⟩
  refine zza 43 (.v (.tuple #[x35.v, x36.v, .int .i64 0])) (zza 48 (.v x35.v) (zza 49 (.v x36.v) (zza 50 (zI 0) (zza 9 (.v x35.v) (zza 10 (.v x36.v) (zza 11 (zI 0) (zzc 77 [(1, zI n), (2, zI k), (6, .adr 6 0), (9, .v x35.v), (10, .v x36.v)] [(6, ⟨32, [.bool false, .slice none 0 0, .slice none 0 0, .bool false, .slice none 0 0, .slice none 0 0]⟩)] (sq9 (zza 52 (.v x35.v) (zza 53 (zI n) (zzg 54 81 [x35.v, .int .i64 n] ?_)))))))))))
  intro w42 u42 e42 d42
  have k47 := k_natRoot (n := n) d42 (h37.ext e42).raw xq xq xq
  with_reducible refine zPm k47 ?_
  rintro _ u45 g46 ⟨x43, rfl, h44⟩
  refine zza 51 (.v (.tuple #[x43.v, .int .i64 0])) (zza 55 (.v x43.v) (zza 56 (zI 0) (zza 12 (.v x43.v) (zza 13 (zI 0) (zzb (sq9 (zza 58 (.v x43.v) (zza 59 (zI n) (zzg 60 82 [x43.v, .int .i64 n] ?_)))))))))
  intro w48 u48 e48 d48
  have k53 := k_natPow (n := n) d48 (h44.ext e48) xq xq
  with_reducible refine zPm k53 ?_
  rintro _ u51 g52 ⟨x49, rfl, h50⟩
  refine zza 57 (.v (.tuple #[x49.v, .int .i64 0])) (zza 61 (.v x49.v) (zza 62 (zI 0) (zza 14 (.v x49.v) (zza 15 (zI 0) (zzb (sq9 (zza 63 (.v x36.v) (zza 64 (zI x36.n) (zza 65 (zB ((x36.n : Int) == 0)) ?_)))))))))
  rcases Bool.eq_false_or_eq_true ((x36.n : Int) == 0) with hs54 | hs54
  ·refine zyn 66 (x := zB ((x36.n : Int) == 0)) (zB true) (by rw [hs54]) ?_
   have qhs54 : (x36.n : Int) = 0 := by simpa using hs54
   refine zza 67 (.v x49.v) ?_ (hw := w1 3 true 66)
   refine zza 68 (.v x35.v) ?_ (hw := w1 3 true 66)
   refine zzg 69 83 [x49.v, x35.v] ?_ (hw := w1 3 true 66)
   intro w55 u55 e55 d55
   have k58 := k_natCompare d55 (h50.ext e55).raw (h37.ext (e42.trans (g46.ext.trans (e48.trans (g52.ext.trans e55))))).raw
   with_reducible refine zPm k58 ?_
   rintro _ u56 g57 rfl
   refine zza 70 (zB ((Nt.cmpS ((((Nt.irt n ((((q.num : Int).natAbs) * 2 ^ (n * k)) / q.den)) ^ n) : Nat) : Int) ((((((q.num : Int).natAbs) * 2 ^ (n * k)) / q.den) : Nat) : Int)) == 0)) ?_ (hw := w1 3 true 66)
   refine zza 71 (zB ((Nt.cmpS ((((Nt.irt n ((((q.num : Int).natAbs) * 2 ^ (n * k)) / q.den)) ^ n) : Nat) : Int) ((((((q.num : Int).natAbs) * 2 ^ (n * k)) / q.den) : Nat) : Int)) == 0)) (zza 16 (zB ((Nt.cmpS ((((Nt.irt n ((((q.num : Int).natAbs) * 2 ^ (n * k)) / q.den)) ^ n) : Nat) : Int) ((((((q.num : Int).natAbs) * 2 ^ (n * k)) / q.den) : Nat) : Int)) == 0)) (zzb (sq9 (zza 72 (.v x43.v) (zza 73 (.v (.agg #[.bool false, x43.v])) (zza 74 (zB ((Nt.cmpS ((((Nt.irt n ((((q.num : Int).natAbs) * 2 ^ (n * k)) / q.den)) ^ n) : Nat) : Int) ((((((q.num : Int).natAbs) * 2 ^ (n * k)) / q.den) : Nat) : Int)) == 0)) (zza 75 (zI k) (zzg 76 84 [.agg #[.bool false, x43.v], .bool ((Nt.cmpS ((((Nt.irt n ((((q.num : Int).natAbs) * 2 ^ (n * k)) / q.den)) ^ n) : Nat) : Int) ((((((q.num : Int).natAbs) * 2 ^ (n * k)) / q.den) : Nat) : Int)) == 0), .int .i64 k] ?_))))))))
   intro w59 u59 e59 d59
   have k66 := k_betweenB (k := k) (e := (Nt.cmpS ((((Nt.irt n ((((q.num : Int).natAbs) * 2 ^ (n * k)) / q.den)) ^ n) : Nat) : Int) ((((((q.num : Int).natAbs) * 2 ^ (n * k)) / q.den) : Nat) : Int)) == 0) d59 (nat_intN (h44.ext (e48.trans (g52.ext.trans (e55.trans (g57.ext.trans e59)))))) xq xq xq
   with_reducible refine zPm k66 ?_
   rintro _ u64 g65 ⟨r60, r62, rfl, h61, h63⟩
   refine zzi ⟨32, r60.cs ++ r62.cs⟩ ty32 ?_
   refine zza 7 (zI 0) (zzc 77 [(6, .adr 6 0), (7, zI 0)] [(6, ⟨32, r60.cs ++ r62.cs⟩)] (zzn (ret0 [.agg #[.bool r60.s, .slice r60.m.a r60.m.n r60.m.c, .slice r60.d.a r60.d.n r60.d.c, .bool r62.s, .slice r62.m.a r62.m.n r62.m.c, .slice r62.d.a r62.d.n r62.d.c], .int .i64 0] ⟨zzq ty32 zze, zzp, trivial⟩ fun u67 e68 => ?_)))
   have hps := h38.pos
   have hx0 : q.num.natAbs * 2 ^ (n * k) % q.den = 0 := by have h8 := hs54; simp at h8; omega
   have he := Nt.rtH_of hx0
   exact ⟨r60, r62, rfl, RatN.more (h61.ext e68) xq, by rw [he]; exact RatN.more (h63.ext e68) xq⟩
  ·refine zyn 66 (x := zB ((x36.n : Int) == 0)) (zB false) (by rw [hs54]) ?_
   have qhs54 : ¬ ((x36.n : Int) = 0) := by simpa using hs54
   refine zzm 67 (uw 3 true false 66) (zzm 68 (uw 3 true false 66) (zzm 69 (uw 3 true false 66) (zzm 70 (uw 3 true false 66) (zza 71 (zB false) (zza 16 (zB false) (zzb (sq9 (zza 72 (.v x43.v) (zza 73 (.v (.agg #[.bool false, x43.v])) (zza 74 (zB false) (zza 75 (zI k) ?_)))))))))))
   refine zzg 76 84 [.agg #[.bool false, x43.v], .bool false, .int .i64 k] ?_
   intro w69 u69 e69 d69
   have k76 := k_betweenN (k := k) d69 (nat_intN (h44.ext (e48.trans (g52.ext.trans e69)))) xq xq xq
   with_reducible refine zPm k76 ?_
   rintro _ u74 g75 ⟨r70, r72, rfl, h71, h73⟩
   refine zzi ⟨32, r70.cs ++ r72.cs⟩ ty32 ?_
   refine zza 7 (zI 0) (zzc 77 [(6, .adr 6 0), (7, zI 0)] [(6, ⟨32, r70.cs ++ r72.cs⟩)] (zzn (ret0 [.agg #[.bool r70.s, .slice r70.m.a r70.m.n r70.m.c, .slice r70.d.a r70.d.n r70.d.c, .bool r72.s, .slice r72.m.a r72.m.n r72.m.c, .slice r72.d.a r72.d.n r72.d.c], .int .i64 0] ⟨zzq ty32 zze, zzp, trivial⟩ fun u77 e78 => ?_)))
   have hps := h38.pos
   have hx : ¬ Nt.rtX q n k := fun h9 => by have h8 := hs54; simp at h8; have h7 := h9.1; omega
   have he : Nt.rtH q n k = _ := if_neg hx
   exact ⟨r70, r72, rfl, RatN.more (h71.ext e78) xq, by rw [he]; exact RatN.more (h73.ext e78) xq⟩
theorem k_RootB {u w : World} {r : RL} {q : Rat} {K : Nat} {n b : Int} (d : Dat u w) (hr : RatV u r q K) (hK : K ≤ 100) (hbad : q < 0 ∨ ¬ (0 ≤ b ∧ b ≤ 256) ∨ n < 1 ∨ 64 < n) : Calls Tryz.prog 20 #[r.v, .int .i64 n, .int .i64 b] w (Post u w fun v u' => v = .tuple #[.agg #[.bool false, .slice none 0 0, .slice none 0 0, .bool false, .slice none 0 0, .slice none 0 0], .int .i64 1]) := by
 refine zzl (args := [r.v, .int .i64 n, .int .i64 b]) Tryz.func20 rfl Tryz.ntmps20 (rs := [.cell 6 32, .tmp 7]) Tryz.results20 (le_b rfl) (le_b rfl) d ?_
 refine sq9 (zzj 3 ⟨26, r.cs⟩ (zzj 6 ⟨32, [.bool false, .slice none 0 0, .slice none 0 0, .bool false, .slice none 0 0, .slice none 0 0]⟩ (zza 7 (zI 0) (zzb (zzd (sq9 (zzh 17 (.v (r.v)) ty26 zze (zzg 18 76 [r.v] ?_))))))))
 intro w11 u11 e11 d11
 have k14 := k_ratSign d11 (hr.ext e11)
 with_reducible refine zPm k14 ?_
 rintro _ u12 g13 rfl
 refine zza 19 (zB (decide ((Nt.sgQ q) < 0))) ?_
 rcases Bool.eq_false_or_eq_true (decide ((Nt.sgQ q) < 0)) with hs15 | hs15
 ·refine zyn 20 (x := zB (decide ((Nt.sgQ q) < 0))) (zB true) (by rw [hs15]) ?_
  have qhs15 := of_decide_eq_true hs15
  refine zzm 21 (uw 3 false true 20) (zzm 22 (uw 3 false true 20) (zzm 23 (uw 3 false true 20) (zza 24 (zB true) (zza 25 (zB true) (zzm 26 (uw 8 false true 25) (zzm 27 (uw 8 false true 25) (zza 28 (zB true) (zza 29 (zB true) (zzm 30 (uw 12 false true 29) (zzm 31 (uw 12 false true 29) (zza 32 (zB true) ?_)))))))))))
  refine zzb (zyo xj (sq9 (zza 33 (.v (.agg #[.bool false, .slice none 0 0, .slice none 0 0, .bool false, .slice none 0 0, .slice none 0 0])) (zzi ⟨32, [.bool false, .slice none 0 0, .slice none 0 0, .bool false, .slice none 0 0, .slice none 0 0]⟩ ty32 ?_))))
  refine zza 7 (zI 1) (zzb (zzn (zzv (ret0 [.agg #[.bool false, .slice none 0 0, .slice none 0 0, .bool false, .slice none 0 0, .slice none 0 0], .int .i64 1] ⟨zzq ty32 zze, zzp, trivial⟩ fun u16 e17 => ?_))))
  rfl
 ·refine zyn 20 (x := zB (decide ((Nt.sgQ q) < 0))) (zB false) (by rw [hs15]) ?_
  have qhs15 := of_decide_eq_false hs15
  refine zza 21 (zI b) ?_ (hw := w1 3 false 20)
  refine zzg 22 77 [.int .i64 b] ?_ (hw := w1 3 false 20)
  intro w18 u18 e18 d18
  have k21 := k_ePermitted (n := b) d18
  with_reducible refine zPm k21 ?_
  rintro _ u19 g20 rfl
  refine zza 23 (zB (!(decide (0 ≤ b ∧ b ≤ 256)))) ?_ (hw := w1 3 false 20)
  refine zza 24 (zB (!(decide (0 ≤ b ∧ b ≤ 256)))) ?_
  rcases Bool.eq_false_or_eq_true (!(decide (0 ≤ b ∧ b ≤ 256))) with hs22 | hs22
  ·refine zyn 25 (x := zB (!(decide (0 ≤ b ∧ b ≤ 256)))) (zB true) (by rw [hs22]) (zzm 26 (uw 8 false true 25) (zzm 27 (uw 8 false true 25) (zza 28 (zB true) (zza 29 (zB true) (zzm 30 (uw 12 false true 29) (zzm 31 (uw 12 false true 29) (zza 32 (zB true) (zzb (zyo xj (sq9 (zza 33 (.v (.agg #[.bool false, .slice none 0 0, .slice none 0 0, .bool false, .slice none 0 0, .slice none 0 0])) ?_)))))))))))
   refine zzi ⟨32, [.bool false, .slice none 0 0, .slice none 0 0, .bool false, .slice none 0 0, .slice none 0 0]⟩ ty32 ?_
   refine zza 7 (zI 1) (zzb (zzn (zzv (ret0 [.agg #[.bool false, .slice none 0 0, .slice none 0 0, .bool false, .slice none 0 0, .slice none 0 0], .int .i64 1] ⟨zzq ty32 zze, zzp, trivial⟩ fun u23 e24 => ?_))))
   rfl
  ·refine zyn 25 (x := zB (!(decide (0 ≤ b ∧ b ≤ 256)))) (zB false) (by rw [hs22]) (zza 26 (zI n) ?_ (hw := w1 8 false 25))
   refine zza 27 (zB (decide (n < 1))) ?_ (hw := w1 8 false 25)
   refine zza 28 (zB (decide (n < 1))) ?_
   rcases Bool.eq_false_or_eq_true (decide (n < 1)) with hs25 | hs25
   ·refine zyn 29 (x := zB (decide (n < 1))) (zB true) (by rw [hs25]) ?_
    have qhs25 := of_decide_eq_true hs25
    refine zzm 30 (uw 12 false true 29) (zzm 31 (uw 12 false true 29) (zza 32 (zB true) (zzb (zyo xj (sq9 (zza 33 (.v (.agg #[.bool false, .slice none 0 0, .slice none 0 0, .bool false, .slice none 0 0, .slice none 0 0])) (zzi ⟨32, [.bool false, .slice none 0 0, .slice none 0 0, .bool false, .slice none 0 0, .slice none 0 0]⟩ ty32 ?_)))))))
    refine zza 7 (zI 1) (zzb (zzn (zzv (ret0 [.agg #[.bool false, .slice none 0 0, .slice none 0 0, .bool false, .slice none 0 0, .slice none 0 0], .int .i64 1] ⟨zzq ty32 zze, zzp, trivial⟩ fun u26 e27 => ?_))))
    rfl
   ·refine zyn 29 (x := zB (decide (n < 1))) (zB false) (by rw [hs25]) ?_
    have qhs25 := of_decide_eq_false hs25
    refine zza 30 (zI n) ?_ (hw := w1 12 false 29)
    refine zza 31 (zB (decide ((64 : Int) < n))) ?_ (hw := w1 12 false 29)
    refine zza 32 (zB (decide ((64 : Int) < n))) (zzb (zzt (b := decide ((64 : Int) < n)) xj (fun hb28 => ?_) (fun hb28 => ?_)))
    ·replace hb28 : (decide ((64 : Int) < n)) = true := hb28
     have qhb28 := of_decide_eq_true hb28
     refine sq9 (zza 33 (.v (.agg #[.bool false, .slice none 0 0, .slice none 0 0, .bool false, .slice none 0 0, .slice none 0 0])) (zzi ⟨32, [.bool false, .slice none 0 0, .slice none 0 0, .bool false, .slice none 0 0, .slice none 0 0]⟩ ty32 ?_))
     refine zza 7 (zI 1) (zzb (zzn (zzv (ret0 [.agg #[.bool false, .slice none 0 0, .slice none 0 0, .bool false, .slice none 0 0, .slice none 0 0], .int .i64 1] ⟨zzq ty32 zze, zzp, trivial⟩ fun u29 e30 => ?_))))
     rfl
    ·replace hb28 : (decide ((64 : Int) < n)) = false := hb28
     have qhb28 := of_decide_eq_false hb28
     refine zzr (zzo ?_)
     refine zzd ?_
     exfalso
     have h9hs15 := hs15
     rw [Nt.sgQ_lt] at h9hs15
     simp at h9hs15
     have h9hs22 := hs22
     simp at h9hs22
     have h9hs25 := hs25
     simp at h9hs25
     have h9hb28 := hb28
     simp at h9hb28
     rcases hbad with h | h | h | h
     ·exact absurd h (by assumption)
     all_goals omega
theorem k_SqrtG {u w : World} {r : RL} {q : Rat} {K k : Nat} (d : Dat u w) (hr : RatV u r q K) (hq0 : 0 ≤ q) (hk : k ≤ 256) (hK : K ≤ 100) : Calls Tryz.prog 18 #[r.v, .int .i64 (k : Int)] w (Post u w fun v u' => ∃ r1 r2 : RL, v = .tuple #[IV r1 r2, .int .i64 0] ∧ RatN u' r1 (Nt.gr k (Nt.rtN q 2 k : Int)) 1000 ∧ RatN u' r2 (Nt.gr k (Nt.rtH q 2 k)) 1000) := by
 refine zzl (args := [r.v, .int .i64 k]) Tryz.func18 rfl Tryz.ntmps18 (rs := [.cell 4 32, .tmp 5]) Tryz.results18 (le_b rfl) (le_b rfl) d ?_
 refine sq9 (zzj 2 ⟨26, r.cs⟩ (zzj 4 ⟨32, [.bool false, .slice none 0 0, .slice none 0 0, .bool false, .slice none 0 0, .slice none 0 0]⟩ (zza 5 (zI 0) (zzb (sq9 (zzh 6 (.v (r.v)) ty26 zze (zza 7 (zI k) (zzg 8 20 [r.v, .int .i64 2, .int .i64 k] ?_))))))))
 intro w11 u11 e11 d11
 have k18 := k_RootG (n := 2) (k := k) d11 (hr.ext e11) hq0 xq xq xq xq
 with_reducible refine zPm k18 ?_
 rintro _ u16 g17 ⟨r12, r14, rfl, h13, h15⟩
 refine zza 9 (.v (.agg #[.bool r12.s, r12.m.v, r12.d.v, .bool r14.s, r14.m.v, r14.d.v])) (zza 10 (zI 0) (zzi ⟨32, r12.cs ++ r14.cs⟩ ty32 ?_))
 refine zza 5 (zI 0) (zzb (zzn (ret0 [.agg #[.bool r12.s, .slice r12.m.a r12.m.n r12.m.c, .slice r12.d.a r12.d.n r12.d.c, .bool r14.s, .slice r14.m.a r14.m.n r14.m.c, .slice r14.d.a r14.d.n r14.d.c], .int .i64 0] ⟨zzq ty32 zze, zzp, trivial⟩ fun u19 e20 => ?_)))
 exact ⟨r12, r14, rfl, RatN.more (h13.ext e20) xq, RatN.more (h15.ext e20) xq⟩
set_option maxHeartbeats 1000000 in
theorem k_awake10 {u w : World} (d : Dat u w) : Calls Tryz.prog 16 #[] w (Post u w fun v _ => v = .bool true) := by
 refine zzl (args := []) Tryz.func16 rfl Tryz.ntmps16 (rs := [.tmp 0]) Tryz.results16 (le_b rfl) (le_b rfl) d ?_
 refine sq9 (zza 0 (zB false) (zzb (sq9 (zzg 10 30 [.int .i64 2] ?_))))
 intro w11 u11 e11 d11
 have k16 := k_rqOf d11 (z := 2) xq xq
 with_reducible refine zPm k16 ?_
 rintro _ u14 g15 ⟨r12, rfl, h13⟩
 refine zzg 11 18 [r12.v, .int .i64 2] ?_
 intro w17 u17 e17 d17
 have k24 := (Post.mono (k_SqrtG (k := 2) d17 (h13.ext e17).raw (by decide +kernel) xq xq) fun v u9 _ ⟨p, q, e1, e2, e3⟩ => (⟨p, q, e1, by rw [← Nt.rt_22.1]; exact e2, by rw [← Nt.rt_22.2]; exact e3⟩ : ∃ r1 r2 : RL, v = Value.tuple #[IV r1 r2, Value.int .i64 0] ∧ RatN u9 r1 (((5 : Int) : Rat) / ((4 : Int) : Rat)) 1000 ∧ RatN u9 r2 (((3 : Int) : Rat) / ((2 : Int) : Rat)) 1000))
 with_reducible refine zPm k24 ?_
 rintro _ u22 g23 ⟨r18, r20, rfl, h19, h21⟩
 refine zza 9 (.v (.tuple #[.agg #[.bool r18.s, r18.m.v, r18.d.v, .bool r20.s, r20.m.v, r20.d.v], .int .i64 0])) (zza 12 (.v (.agg #[.bool r18.s, r18.m.v, r18.d.v, .bool r20.s, r20.m.v, r20.d.v])) (zza 13 (zI 0) (zzj 1 ⟨32, [.bool false, .slice none 0 0, .slice none 0 0, .bool false, .slice none 0 0, .slice none 0 0]⟩ (zzi ⟨32, r18.cs ++ r20.cs⟩ ty32 ?_))))
 refine zza 2 (zI 0) (zzb (sq9 (zzg 15 32 [.int .i64 0] ?_)))
 intro w25 u25 e25 d25
 have k32 := (Post.mono (k_PiG (k := 0) d25 xq) fun v u9 _ ⟨p, q, e1, e2, e3⟩ => (⟨p, q, e1, by rw [← Nt.pi_0.1]; exact e2, by rw [← Nt.pi_0.2]; exact e3⟩ : ∃ r1 r2 : RL, v = Value.tuple #[IV r1 r2, Value.int .i64 0] ∧ RatN u9 r1 ((3 : Int) : Rat) 80 ∧ RatN u9 r2 ((4 : Int) : Rat) 80))
 with_reducible refine zPm k32 ?_
 rintro _ u30 g31 ⟨r26, r28, rfl, h27, h29⟩
 refine zza 14 (.v (.tuple #[.agg #[.bool r26.s, r26.m.v, r26.d.v, .bool r28.s, r28.m.v, r28.d.v], .int .i64 0])) (zza 16 (.v (.agg #[.bool r26.s, r26.m.v, r26.d.v, .bool r28.s, r28.m.v, r28.d.v])) (zza 17 (zI 0) (zzj 3 ⟨32, [.bool false, .slice none 0 0, .slice none 0 0, .bool false, .slice none 0 0, .slice none 0 0]⟩ (zzi ⟨32, r26.cs ++ r28.cs⟩ ty32 ?_))))
 refine zza 4 (zI 0) (zzb (sq9 (zzg 19 31 [.int .i64 1, .int .i64 3, .int .i64 8] ?_)))
 intro w33 u33 e33 d33
 have k40 := (Post.mono (k_CosPiG (p := 1) (q := 3) (k := 8) d33 xq xq xq xq xq (Nt.gapQ_80 xw xw xw)) fun v u9 _ ⟨p, q, e1, e2, e3⟩ => (⟨p, q, e1, by rw [Nt.cosV_13] at e2; exact e2, by rw [Nt.cosV_13] at e3; exact e3⟩ : ∃ r1 r2 : RL, v = Value.tuple #[IV r1 r2, Value.int .i64 0] ∧ RatN u9 r1 (((1 : Int) : Rat) / ((2 : Int) : Rat)) 80 ∧ RatN u9 r2 (((1 : Int) : Rat) / ((2 : Int) : Rat)) 80))
 with_reducible refine zPm k40 ?_
 rintro _ u38 g39 ⟨r34, r36, rfl, h35, h37⟩
 refine zza 18 (.v (.tuple #[.agg #[.bool r34.s, r34.m.v, r34.d.v, .bool r36.s, r36.m.v, r36.d.v], .int .i64 0])) (zza 20 (.v (.agg #[.bool r34.s, r34.m.v, r34.d.v, .bool r36.s, r36.m.v, r36.d.v])) (zza 21 (zI 0) (zzj 5 ⟨32, [.bool false, .slice none 0 0, .slice none 0 0, .bool false, .slice none 0 0, .slice none 0 0]⟩ (zzi ⟨32, r34.cs ++ r36.cs⟩ ty32 ?_))))
 refine zza 6 (zI 0) (zzb (sq9 (zzg 23 31 [.int .i64 1, .int .i64 4, .int .i64 1] ?_)))
 intro w41 u41 e41 d41
 have k48 := (Post.mono (k_CosPiG (p := 1) (q := 4) (k := 1) d41 xq xq xq xq xq (Nt.gapQ_80 xw xw xw)) fun v u9 _ ⟨p, q, e1, e2, e3⟩ => (⟨p, q, e1, by rw [Nt.cosV_14] at e2; exact e2, by rw [Nt.cosV_14] at e3; exact e3⟩ : ∃ r1 r2 : RL, v = Value.tuple #[IV r1 r2, Value.int .i64 0] ∧ RatN u9 r1 (((1 : Int) : Rat) / ((2 : Int) : Rat)) 80 ∧ RatN u9 r2 ((1 : Int) : Rat) 80))
 with_reducible refine zPm k48 ?_
 rintro _ u46 g47 ⟨r42, r44, rfl, h43, h45⟩
 refine zza 22 (.v (.tuple #[.agg #[.bool r42.s, r42.m.v, r42.d.v, .bool r44.s, r44.m.v, r44.d.v], .int .i64 0])) (zza 24 (.v (.agg #[.bool r42.s, r42.m.v, r42.d.v, .bool r44.s, r44.m.v, r44.d.v])) (zza 25 (zI 0) (zzj 7 ⟨32, [.bool false, .slice none 0 0, .slice none 0 0, .bool false, .slice none 0 0, .slice none 0 0]⟩ (zzi ⟨32, r42.cs ++ r44.cs⟩ ty32 ?_))))
 refine zza 8 (zI 0) (zzb (zzd (zzy [0, 1, 3, 7, 15, 31, 63, 127, 255, 511, 1023, 2047, 4095, 8191, 16383, 32767, 32767, 98303, 229375, 524287, 1048575, 2097151, 4194303, 4194303, 12582911, 29360127, 67108863, 134217727, 268435455, 536870911, 536870911, 1610612735, 3758096383, 8589934591, 17179869183, 34359738367, 68719476735, 68719476735, 206158430207, 481036337151, 1099511627775, 2199023255551, 4398046511103] [(0, []), (1, []), (2, []), (3, []), (4, []), (5, []), (6, []), (7, []), (8, []), (9, []), (10, []), (11, []), (12, []), (13, []), (14, []), (15, []), (16, []), (17, []), (18, []), (19, []), (20, []), (21, []), (22, []), (23, []), (24, []), (25, []), (26, []), (27, []), (28, []), (29, []), (30, []), (31, []), (32, []), (33, []), (34, []), (35, []), (36, []), (37, []), (38, []), (39, []), (40, []), (41, []), (42, [])] xj xj (zza 26 (zI 0) (zza 27 (zB true) (zza 28 (zB true) (zza 29 (zI 0) ?_ (hw := w1 2 true 28))))))))
 refine zza 30 (zB true) ?_ (hw := w1 2 true 28)
 refine zza 31 (zB true) (zza 32 (zB true) (zza 33 (zI 0) ?_ (hw := w1 6 true 32)))
 refine zza 34 (zB true) ?_ (hw := w1 6 true 32)
 refine zza 35 (zB true) (zza 36 (zB true) (zza 37 (zI 0) ?_ (hw := w1 10 true 36)))
 refine zza 38 (zB true) ?_ (hw := w1 10 true 36)
 refine zza 39 (zB true) (zza 40 (zB true) (zzh 41 (.v (.agg #[.bool r18.s, r18.m.v, r18.d.v, .bool r20.s, r20.m.v, r20.d.v])) ty32 zze ?_ (hw := w1 14 true 40)))
 refine zzg 42 75 [.int .i64 5, .int .i64 4] ?_ (hw := w1 14 true 40)
 intro w49 u49 e49 d49
 have k54 := k_rqFrac d49 (a := 5) (b := 4) xq xq xq xq
 with_reducible refine zPm k54 ?_
 rintro _ u52 g53 ⟨r50, rfl, h51⟩
 refine zzg 43 75 [.int .i64 3, .int .i64 2] ?_ (hw := w1 14 true 40)
 intro w55 u55 e55 d55
 have k60 := k_rqFrac d55 (a := 3) (b := 2) xq xq xq xq
 with_reducible refine zPm k60 ?_
 rintro _ u58 g59 ⟨r56, rfl, h57⟩
 refine zzg 44 38 [r50.v, r56.v] ?_ (hw := w1 14 true 40)
 intro w61 u61 e61 d61
 have k68 := k_r4Make d61 (h51.ext (e55.trans (g59.ext.trans e61))).raw (h57.ext e61).raw xq
 with_reducible refine zPm k68 ?_
 rintro _ u66 g67 ⟨r62, r64, rfl, h63, h65⟩
 refine zzg 45 22 [.agg #[.bool r18.s, r18.m.v, r18.d.v, .bool r20.s, r20.m.v, r20.d.v], .agg #[.bool r62.s, r62.m.v, r62.d.v, .bool r64.s, r64.m.v, r64.d.v]] ?_ (hw := w1 14 true 40)
 intro w69 u69 e69 d69
 have k72 := k_r4Same d69 (h19.ext (e25.trans (g31.ext.trans (e33.trans (g39.ext.trans (e41.trans (g47.ext.trans (e49.trans (g53.ext.trans (e55.trans (g59.ext.trans (e61.trans (g67.ext.trans e69))))))))))))) (h21.ext (e25.trans (g31.ext.trans (e33.trans (g39.ext.trans (e41.trans (g47.ext.trans (e49.trans (g53.ext.trans (e55.trans (g59.ext.trans (e61.trans (g67.ext.trans e69))))))))))))) (h63.ext e69) (h65.ext e69)
 with_reducible refine zPm k72 ?_
 rintro _ u70 g71 rfl
 refine zza 46 (zB (decide ((((5 : Int) : Rat) / ((4 : Int) : Rat)) = (Nt.lo (((5 : Int) : Rat) / ((4 : Int) : Rat)) (((3 : Int) : Rat) / ((2 : Int) : Rat)))) && decide ((((3 : Int) : Rat) / ((2 : Int) : Rat)) = (Nt.hi (((5 : Int) : Rat) / ((4 : Int) : Rat)) (((3 : Int) : Rat) / ((2 : Int) : Rat)))))) (zyn 47 (x := zB (decide ((((5 : Int) : Rat) / ((4 : Int) : Rat)) = (Nt.lo (((5 : Int) : Rat) / ((4 : Int) : Rat)) (((3 : Int) : Rat) / ((2 : Int) : Rat)))) && decide ((((3 : Int) : Rat) / ((2 : Int) : Rat)) = (Nt.hi (((5 : Int) : Rat) / ((4 : Int) : Rat)) (((3 : Int) : Rat) / ((2 : Int) : Rat)))))) (zB true) (by rw [show (decide ((((5 : Int) : Rat) / ((4 : Int) : Rat)) = (Nt.lo (((5 : Int) : Rat) / ((4 : Int) : Rat)) (((3 : Int) : Rat) / ((2 : Int) : Rat)))) && decide ((((3 : Int) : Rat) / ((2 : Int) : Rat)) = (Nt.hi (((5 : Int) : Rat) / ((4 : Int) : Rat)) (((3 : Int) : Rat) / ((2 : Int) : Rat))))) = true from (by decide +kernel)]) (zzh 48 (.v (.agg #[.bool r26.s, r26.m.v, r26.d.v, .bool r28.s, r28.m.v, r28.d.v])) ty32 zze ?_ (hw := w1 21 true 47)))
 refine zzg 49 30 [.int .i64 3] ?_ (hw := w1 21 true 47)
 intro w74 u74 e74 d74
 have k79 := k_rqOf d74 (z := 3) xq xq
 with_reducible refine zPm k79 ?_
 rintro _ u77 g78 ⟨r75, rfl, h76⟩
 refine zzg 50 30 [.int .i64 4] ?_ (hw := w1 21 true 47)
 intro w80 u80 e80 d80
 have k85 := k_rqOf d80 (z := 4) xq xq
 with_reducible refine zPm k85 ?_
 rintro _ u83 g84 ⟨r81, rfl, h82⟩
 refine zzg 51 38 [r75.v, r81.v] ?_ (hw := w1 21 true 47)
 intro w86 u86 e86 d86
 have k93 := k_r4Make d86 (h76.ext (e80.trans (g84.ext.trans e86))).raw (h82.ext e86).raw xq
 with_reducible refine zPm k93 ?_
 rintro _ u91 g92 ⟨r87, r89, rfl, h88, h90⟩
 refine zzg 52 22 [.agg #[.bool r26.s, r26.m.v, r26.d.v, .bool r28.s, r28.m.v, r28.d.v], .agg #[.bool r87.s, r87.m.v, r87.d.v, .bool r89.s, r89.m.v, r89.d.v]] ?_ (hw := w1 21 true 47)
 intro w94 u94 e94 d94
 have k97 := k_r4Same d94 (h27.ext (e33.trans (g39.ext.trans (e41.trans (g47.ext.trans (e49.trans (g53.ext.trans (e55.trans (g59.ext.trans (e61.trans (g67.ext.trans (e69.trans (g71.ext.trans (e74.trans (g78.ext.trans (e80.trans (g84.ext.trans (e86.trans (g92.ext.trans e94))))))))))))))))))) (h29.ext (e33.trans (g39.ext.trans (e41.trans (g47.ext.trans (e49.trans (g53.ext.trans (e55.trans (g59.ext.trans (e61.trans (g67.ext.trans (e69.trans (g71.ext.trans (e74.trans (g78.ext.trans (e80.trans (g84.ext.trans (e86.trans (g92.ext.trans e94))))))))))))))))))) (h88.ext e94) (h90.ext e94)
 with_reducible refine zPm k97 ?_
 rintro _ u95 g96 rfl
 refine zza 53 (zB (decide (((3 : Int) : Rat) = (Nt.lo ((3 : Int) : Rat) ((4 : Int) : Rat))) && decide (((4 : Int) : Rat) = (Nt.hi ((3 : Int) : Rat) ((4 : Int) : Rat))))) (zyn 54 (x := zB (decide (((3 : Int) : Rat) = (Nt.lo ((3 : Int) : Rat) ((4 : Int) : Rat))) && decide (((4 : Int) : Rat) = (Nt.hi ((3 : Int) : Rat) ((4 : Int) : Rat))))) (zB true) (by rw [show (decide (((3 : Int) : Rat) = (Nt.lo ((3 : Int) : Rat) ((4 : Int) : Rat))) && decide (((4 : Int) : Rat) = (Nt.hi ((3 : Int) : Rat) ((4 : Int) : Rat)))) = true from (by decide +kernel)]) (zzh 55 (.v (.agg #[.bool r34.s, r34.m.v, r34.d.v, .bool r36.s, r36.m.v, r36.d.v])) ty32 zze ?_ (hw := w1 28 true 54)))
 refine zzg 56 75 [.int .i64 1, .int .i64 2] ?_ (hw := w1 28 true 54)
 intro w99 u99 e99 d99
 have k104 := k_rqFrac d99 (a := 1) (b := 2) xq xq xq xq
 with_reducible refine zPm k104 ?_
 rintro _ u102 g103 ⟨r100, rfl, h101⟩
 refine zzg 57 75 [.int .i64 1, .int .i64 2] ?_ (hw := w1 28 true 54)
 intro w105 u105 e105 d105
 have k110 := k_rqFrac d105 (a := 1) (b := 2) xq xq xq xq
 with_reducible refine zPm k110 ?_
 rintro _ u108 g109 ⟨r106, rfl, h107⟩
 refine zzg 58 38 [r100.v, r106.v] ?_ (hw := w1 28 true 54)
 intro w111 u111 e111 d111
 have k118 := k_r4Make d111 (h101.ext (e105.trans (g109.ext.trans e111))).raw (h107.ext e111).raw xq
 with_reducible refine zPm k118 ?_
 rintro _ u116 g117 ⟨r112, r114, rfl, h113, h115⟩
 refine zzg 59 22 [.agg #[.bool r34.s, r34.m.v, r34.d.v, .bool r36.s, r36.m.v, r36.d.v], .agg #[.bool r112.s, r112.m.v, r112.d.v, .bool r114.s, r114.m.v, r114.d.v]] ?_ (hw := w1 28 true 54)
 intro w119 u119 e119 d119
 have k122 := k_r4Same d119 (h35.ext (e41.trans (g47.ext.trans (e49.trans (g53.ext.trans (e55.trans (g59.ext.trans (e61.trans (g67.ext.trans (e69.trans (g71.ext.trans (e74.trans (g78.ext.trans (e80.trans (g84.ext.trans (e86.trans (g92.ext.trans (e94.trans (g96.ext.trans (e99.trans (g103.ext.trans (e105.trans (g109.ext.trans (e111.trans (g117.ext.trans e119))))))))))))))))))))))))) (h37.ext (e41.trans (g47.ext.trans (e49.trans (g53.ext.trans (e55.trans (g59.ext.trans (e61.trans (g67.ext.trans (e69.trans (g71.ext.trans (e74.trans (g78.ext.trans (e80.trans (g84.ext.trans (e86.trans (g92.ext.trans (e94.trans (g96.ext.trans (e99.trans (g103.ext.trans (e105.trans (g109.ext.trans (e111.trans (g117.ext.trans e119))))))))))))))))))))))))) (h113.ext e119) (h115.ext e119)
 with_reducible refine zPm k122 ?_
 rintro _ u120 g121 rfl
 refine zza 60 (zB (decide ((((1 : Int) : Rat) / ((2 : Int) : Rat)) = (Nt.lo (((1 : Int) : Rat) / ((2 : Int) : Rat)) (((1 : Int) : Rat) / ((2 : Int) : Rat)))) && decide ((((1 : Int) : Rat) / ((2 : Int) : Rat)) = (Nt.hi (((1 : Int) : Rat) / ((2 : Int) : Rat)) (((1 : Int) : Rat) / ((2 : Int) : Rat)))))) (zyn 61 (x := zB (decide ((((1 : Int) : Rat) / ((2 : Int) : Rat)) = (Nt.lo (((1 : Int) : Rat) / ((2 : Int) : Rat)) (((1 : Int) : Rat) / ((2 : Int) : Rat)))) && decide ((((1 : Int) : Rat) / ((2 : Int) : Rat)) = (Nt.hi (((1 : Int) : Rat) / ((2 : Int) : Rat)) (((1 : Int) : Rat) / ((2 : Int) : Rat)))))) (zB true) (by rw [show (decide ((((1 : Int) : Rat) / ((2 : Int) : Rat)) = (Nt.lo (((1 : Int) : Rat) / ((2 : Int) : Rat)) (((1 : Int) : Rat) / ((2 : Int) : Rat)))) && decide ((((1 : Int) : Rat) / ((2 : Int) : Rat)) = (Nt.hi (((1 : Int) : Rat) / ((2 : Int) : Rat)) (((1 : Int) : Rat) / ((2 : Int) : Rat))))) = true from (by decide +kernel)]) (zzh 62 (.v (.agg #[.bool r42.s, r42.m.v, r42.d.v, .bool r44.s, r44.m.v, r44.d.v])) ty32 zze ?_ (hw := w1 35 true 61)))
 refine zzg 63 75 [.int .i64 1, .int .i64 2] ?_ (hw := w1 35 true 61)
 intro w124 u124 e124 d124
 have k129 := k_rqFrac d124 (a := 1) (b := 2) xq xq xq xq
 with_reducible refine zPm k129 ?_
 rintro _ u127 g128 ⟨r125, rfl, h126⟩
 refine zzg 64 30 [.int .i64 1] ?_ (hw := w1 35 true 61)
 intro w130 u130 e130 d130
 have k135 := k_rqOf d130 (z := 1) xq xq
 with_reducible refine zPm k135 ?_
 rintro _ u133 g134 ⟨r131, rfl, h132⟩
 refine zzg 65 38 [r125.v, r131.v] ?_ (hw := w1 35 true 61)
 intro w136 u136 e136 d136
 have k143 := k_r4Make d136 ((h126.ext (e130.trans (g134.ext.trans e136))).raw.more (Nat.le_max_left 3 2)) ((h132.ext e136).raw.more (Nat.le_max_right 3 2)) xq
 with_reducible refine zPm k143 ?_
 rintro _ u141 g142 ⟨r137, r139, rfl, h138, h140⟩
 refine zzg 66 22 [.agg #[.bool r42.s, r42.m.v, r42.d.v, .bool r44.s, r44.m.v, r44.d.v], .agg #[.bool r137.s, r137.m.v, r137.d.v, .bool r139.s, r139.m.v, r139.d.v]] ?_ (hw := w1 35 true 61)
 intro w144 u144 e144 d144
 have k147 := k_r4Same d144 (h43.ext (e49.trans (g53.ext.trans (e55.trans (g59.ext.trans (e61.trans (g67.ext.trans (e69.trans (g71.ext.trans (e74.trans (g78.ext.trans (e80.trans (g84.ext.trans (e86.trans (g92.ext.trans (e94.trans (g96.ext.trans (e99.trans (g103.ext.trans (e105.trans (g109.ext.trans (e111.trans (g117.ext.trans (e119.trans (g121.ext.trans (e124.trans (g128.ext.trans (e130.trans (g134.ext.trans (e136.trans (g142.ext.trans e144))))))))))))))))))))))))))))))) (h45.ext (e49.trans (g53.ext.trans (e55.trans (g59.ext.trans (e61.trans (g67.ext.trans (e69.trans (g71.ext.trans (e74.trans (g78.ext.trans (e80.trans (g84.ext.trans (e86.trans (g92.ext.trans (e94.trans (g96.ext.trans (e99.trans (g103.ext.trans (e105.trans (g109.ext.trans (e111.trans (g117.ext.trans (e119.trans (g121.ext.trans (e124.trans (g128.ext.trans (e130.trans (g134.ext.trans (e136.trans (g142.ext.trans e144))))))))))))))))))))))))))))))) (h138.ext e144) (h140.ext e144)
 with_reducible refine zPm k147 ?_
 rintro _ u145 g146 rfl
 refine zza 67 (zB (decide ((((1 : Int) : Rat) / ((2 : Int) : Rat)) = (Nt.lo (((1 : Int) : Rat) / ((2 : Int) : Rat)) ((1 : Int) : Rat))) && decide (((1 : Int) : Rat) = (Nt.hi (((1 : Int) : Rat) / ((2 : Int) : Rat)) ((1 : Int) : Rat))))) (zza 0 (zB (decide ((((1 : Int) : Rat) / ((2 : Int) : Rat)) = (Nt.lo (((1 : Int) : Rat) / ((2 : Int) : Rat)) ((1 : Int) : Rat))) && decide (((1 : Int) : Rat) = (Nt.hi (((1 : Int) : Rat) / ((2 : Int) : Rat)) ((1 : Int) : Rat))))) (zzc 68 [(0, zB (decide ((((1 : Int) : Rat) / ((2 : Int) : Rat)) = (Nt.lo (((1 : Int) : Rat) / ((2 : Int) : Rat)) ((1 : Int) : Rat))) && decide (((1 : Int) : Rat) = (Nt.hi (((1 : Int) : Rat) / ((2 : Int) : Rat)) ((1 : Int) : Rat)))))] [] (zzn (ret0 [.bool (decide ((((1 : Int) : Rat) / ((2 : Int) : Rat)) = (Nt.lo (((1 : Int) : Rat) / ((2 : Int) : Rat)) ((1 : Int) : Rat))) && decide (((1 : Int) : Rat) = (Nt.hi (((1 : Int) : Rat) / ((2 : Int) : Rat)) ((1 : Int) : Rat))))] ⟨zzp, trivial⟩ fun u148 e149 => ?_))))
 show Value.bool _ = Value.bool _
 rw [show (decide ((((1 : Int) : Rat) / ((2 : Int) : Rat)) = (Nt.lo (((1 : Int) : Rat) / ((2 : Int) : Rat)) ((1 : Int) : Rat))) && decide (((1 : Int) : Rat) = (Nt.hi (((1 : Int) : Rat) / ((2 : Int) : Rat)) ((1 : Int) : Rat)))) = true from by decide +kernel]
set_option maxHeartbeats 1000000 in
theorem k_rqPow {u w : World} {r : RL} {q : Rat} {K n : Nat} (d : Dat u w) (hr : RatV u r q K) (hn : n ≤ 64) (hK : K ≤ 100000) : Calls Tryz.prog 24 #[r.v, .int .i64 (n : Int)] w (Post u w fun v u' => ∃ p : RL, v = .tuple #[p.v, .int .i64 0] ∧ RatN u' p (q ^ n) (n * (K + 2) + 2)) := by
 refine zzl (args := [r.v, .int .i64 n]) Tryz.func24 rfl Tryz.ntmps24 (rs := [.cell 4 26, .tmp 5]) Tryz.results24 (le_b rfl) (le_b rfl) d ?_
 refine sq9 (zzj 2 ⟨26, r.cs⟩ (zzj 4 ⟨26, [.bool false, .slice none 0 0, .slice none 0 0]⟩ (zza 5 (zI 0) (zzb (zzd (sq9 (zza 7 (zI n) (zza 8 (zB (decide ((n : Int) < 0))) (zyn 9 (x := zB (decide ((n : Int) < 0))) (zB false) (by rw [show (decide ((n : Int) < 0)) = false from decide_eq_false xq]) (zza 10 (zI n) ?_ (hw := w1 2 false 9)))))))))))
 refine zza 11 (zB (decide ((64 : Int) < (n : Int)))) ?_ (hw := w1 2 false 9)
 refine zza 12 (zB (decide ((64 : Int) < (n : Int)))) (zzb (zzt (b := decide ((64 : Int) < (n : Int))) xj (fun hb => ?_) (fun hb => ?_)))
 ·exact absurd hb (by rw [show (decide ((64 : Int) < (n : Int))) = false from decide_eq_false xq]; decide)
 ·clear hb
  refine zzr (zzo ?_)
  refine sq9 (zzg 14 30 [.int .i64 1] ?_)
  intro w12 u12 e12 d12
  have k17 := k_rqOf d12 (z := 1) xq xq
  with_reducible refine zPm k17 ?_
  rintro _ u15 g16 ⟨r13, rfl, h14⟩
  refine zzj 6 ⟨26, [.bool false, .slice none 0 0, .slice none 0 0]⟩ (zzi ⟨26, r13.cs⟩ ty26 ?_)
  refine zzb (zzd (zzs (zyl (I := fun m18 S' u' => ∃ (m : Nat) (i : Nat) (y : RL), (m18 = m) ∧ (m + i = n) ∧ (m ≤ n) ∧ (S' = St.of 23 [(1, zI m), (2, .adr 2 0), (4, .adr 4 0), (6, .adr 6 0)] [(2, ⟨26, r.cs⟩), (4, ⟨26, [.bool false, .slice none 0 0, .slice none 0 0]⟩), (6, ⟨26, y.cs⟩)]) ∧ (Ext u15 u') ∧ (RatN u' y (q ^ i) (i * (K + 2) + 2))) (fun m S u1 u2 e h => by obtain ⟨m, i, y, hm, p0, p1, hS, hE, f0⟩ := h; exact ⟨m, i, y, hm, p0, p1, hS, hE.trans e, f0.ext e⟩) _ (by exact zzu _ _ _) ⟨n, 0, r13, rfl, rfl, xq, rfl, (Ext.refl _), (by rw [Rat.pow_zero]; exact RatN.more h14 xq)⟩ ?_)))
  rintro m18 _ u18 ⟨m, i, y, hm18, hmi, hmn, rfl, e18, f0⟩
  have hsi : i * (K + 2) ≤ 64 * (K + 2) := Nat.mul_le_mul_right _ xq
  refine zzd (sq9 (zza 15 (zI m) (zza 16 (zB (decide ((0 : Int) < (m : Int)))) (zzb (zzt (b := decide ((0 : Int) < (m : Int))) xj (fun hb19 => ?_) (fun hb19 => ?_))))))
  ·replace hb19 : (decide ((0 : Int) < (m : Int))) = true := hb19
   have qhb19 := of_decide_eq_true hb19
   refine zzr (zzo ?_)
   refine zzd (zzs (zzf (zzh 19 (.v (y.v)) ty26 zze (zzh 20 (.v (r.v)) ty26 zze (zzg 21 25 [y.v, r.v] ?_)))))
   intro w20 u20 e20 d20
   have k25 := k_rqMul d20 (f0.ext e20).raw (hr.ext (e12.trans (g16.ext.trans (e18.trans e20)))) xq xq
   with_reducible refine zPm k25 ?_
   rintro _ u23 g24 ⟨r21, rfl, h22⟩
   refine zzi ⟨26, r21.cs⟩ ty26 ?_
   refine zzw ?_
   refine zzo (zzf (zza 17 (zI m) (zyn 18 (x := zI (IntKind.i64.wrap ((m : Int) - 1))) (zI (m - 1 : Nat)) (eqI xk) (zza 1 (zI (m - 1 : Nat)) (zzw ?_)))))
   have hsm : (i + 1) * (K + 2) = i * (K + 2) + (K + 2) := Nat.succ_mul _ _
   refine ⟨_, ?_, _, by exact zzu _ _ _, m - 1, i + 1, r21, rfl, xq, xq, rfl, (e18.trans (e20.trans g24.ext)), (by rw [Rat.pow_succ]; exact RatN.more h22 xq)⟩
   omega
  ·replace hb19 : (decide ((0 : Int) < (m : Int))) = false := hb19
   have qhb19 := of_decide_eq_false hb19
   refine zyb (zzo (sq9 (zzh 22 (.v (y.v)) ty26 zze (zzi ⟨26, y.cs⟩ ty26 ?_))))
   refine zza 5 (zI 0) (zzb (zzn (ret0 [y.v, .int .i64 0] ⟨zzq ty26 zze, zzp, trivial⟩ fun u26 e27 => ?_)))
   have hm0 : m = 0 := by have h9 := of_decide_eq_false hb19; omega
   subst hm0
   have hin : i = n := by omega
   subst hin
   exact ⟨y, rfl, RatN.more (f0.ext e27) xq⟩
namespace Nt
section
variable {k j : Nat} {a b c d D : Int}
end
section
variable {k j : Nat} {tl th ql qh c d z : Int}
end
end Nt
theorem k_r10bad {u w : World} {n : Int} (d : Dat u w) : Calls Tryz.prog 85 #[.int .i64 n] w (Post u w fun v _ => v = .bool (decide (n < 0 ∨ 256 < n))) := by
 refine zzl (args := [.int .i64 n]) Tryz.func85 rfl Tryz.ntmps85 (rs := [.tmp 2]) Tryz.results85 (le_b rfl) (le_b rfl) d ?_
 refine sq9 (zza 2 (zB false) (zzb (sq9 (zza 3 (zI n) (zza 4 (zB (decide (n < 0))) ?_)))))
 rcases Bool.eq_false_or_eq_true (decide (n < 0)) with hs11 | hs11
 ·refine zyn 5 (x := zB (decide (n < 0))) (zB true) (by rw [hs11]) ?_
  have qhs11 := of_decide_eq_true hs11
  refine zzm 6 (uw 2 false true 5) (zzm 7 (uw 2 false true 5) (zza 8 (zB true) (zza 2 (zB true) (zzb (zzn (ret0 [.bool true] ⟨zzp, trivial⟩ fun u12 e13 => ?_))))))
  show Value.bool _ = Value.bool _
  congr 1
  symm
  exact decide_eq_true (.inl (of_decide_eq_true hs11))
 ·refine zyn 5 (x := zB (decide (n < 0))) (zB false) (by rw [hs11]) ?_
  have qhs11 := of_decide_eq_false hs11
  refine zza 6 (zI n) ?_ (hw := w1 2 false 5)
  refine zza 7 (zB (decide ((256 : Int) < n))) ?_ (hw := w1 2 false 5)
  refine zza 8 (zB (decide ((256 : Int) < n))) (zza 2 (zB (decide ((256 : Int) < n))) (zzb (zzn (ret0 [.bool (decide ((256 : Int) < n))] ⟨zzp, trivial⟩ fun u14 e15 => ?_))))
  show Value.bool _ = Value.bool _
  congr 1
  symm
  have h9 := of_decide_eq_false hs11
  by_cases h8 : 256 < n
  ·rw [decide_eq_true h8]; exact decide_eq_true (.inr h8)
  ·rw [decide_eq_false h8]; exact decide_eq_false (fun h => h.elim h9 h8)
end Go.Proofs.YtbolmkfphieogaaGreat
namespace Go.Proofs.YtbolmkfphieogaaGreat
set_option linter.unusedVariables false
namespace Nt
theorem rt_scale (n k : Nat) : (((2 ^ k : Nat) : Int) : Rat) ^ n = ((2 ^ (n * k) : Nat) : Rat) := by
 have e : (((2 ^ k : Nat) : Int) : Rat) = ((2 ^ k : Nat) : Rat) := rfl
 rw [e, ← rat_pow_cast, ← Nat.pow_mul, Nat.mul_comm]
theorem flr_rtD {q : Rat} {n k : Nat} (hq : 0 ≤ q) : (flr (q * (((2 ^ k : Nat) : Int) : Rat) ^ n)).natAbs = rtD q n k := by
 have h2 : 0 ≤ q.num := Rat.num_nonneg.2 hq
 have hd := q.den_pos
 have e : q * (((2 ^ k : Nat) : Int) : Rat) ^ n = mkRat ((q.num.natAbs * 2 ^ (n * k) : Nat) : Int) q.den := by
  rw [rt_scale, ← mk_div]
  have hdr := cast_pos hd
  have h3 := q_den hq
  have e1 : (((q.num.natAbs * 2 ^ (n * k) : Nat) : Int) : Rat) = (q.num.natAbs : Rat) * ((2 ^ (n * k) : Nat) : Rat) := by
   have : (((q.num.natAbs * 2 ^ (n * k) : Nat) : Int) : Rat) = ((q.num.natAbs * 2 ^ (n * k) : Nat) : Rat) := rfl
   rw [this, Rat.natCast_mul]
  rw [e1, ← h3]
  have e2 : ((q.den : Int) : Rat) = (q.den : Rat) := rfl
  rw [e2]
  generalize ((2 ^ (n * k) : Nat) : Rat) = P at *
  generalize (q.den : Rat) = D at *
  have hD : D ≠ 0 := by grind
  grind
 rw [e, flr_mk hd, ← Int.natCast_ediv, Int.natAbs_natCast]
 rfl
theorem rt_cmp {q : Rat} {n k : Nat} (hq : 0 ≤ q) (hn : 1 ≤ n) : decide (cmpQ (mkRat ((rtN q n k : Nat) : Int) 1 ^ n) (q * (((2 ^ k : Nat) : Int) : Rat) ^ n) < 0) = true ↔ ¬ rtX q n k := by
 rw [cmpQ_lt, decide_eq_true_iff, mk_one, rt_scale]
 obtain ⟨h1, h2, h3⟩ := rt_tight (k := k) hq hn
 have h4 := gr_pow k (rtN q n k) n
 have e0 : (((rtN q n k : Nat) : Int) : Rat) ^ n = ((rtN q n k ^ n : Nat) : Rat) := by
  have : (((rtN q n k : Nat) : Int) : Rat) = ((rtN q n k : Nat) : Rat) := rfl
  rw [this, rat_pow_cast]
 rw [e0, ← h4, ← h3]
 have hp := cast_pos (Nat.pow_pos (n := n * k) (show 0 < 2 by decide))
 generalize gr k (rtN q n k : Int) ^ n = y at *
 generalize ((2 ^ (n * k) : Nat) : Rat) = P at *
 constructor
 ·intro h e; rw [e] at h; grind
 ·intro h
  by_cases h5 : y * P < q * P
  ·exact h5
  ·have h5 := Rat.not_lt.1 h5
   have := Rat.le_of_mul_le_mul_right h5 hp
   exact absurd (Rat.le_antisymm h1 this) h
theorem rt_lo (k : Nat) (z : Int) : mkRat z 1 / (((2 ^ k : Nat) : Int) : Rat) = gr k z := by rw [mk_one]; rfl
theorem rt_hi (k : Nat) (z : Int) : (mkRat z 1 + ((1 : Int) : Rat)) / (((2 ^ k : Nat) : Int) : Rat) = gr k (z + 1) := by
 rw [mk_one, ← Rat.intCast_add]; rfl
def rootB (q : Rat) (n b : Int) : Prop := 0 ≤ q ∧ 0 ≤ b ∧ b ≤ 256 ∧ 1 ≤ n ∧ n ≤ 64
instance (q : Rat) (n b : Int) : Decidable (rootB q n b) := by unfold rootB; infer_instance
def rootE (q : Rat) (n b : Int) : Int := if rootB q n b then 0 else 1
def rootO (q : Rat) (n b : Int) : Option (Rat × Rat) := if rootB q n b then some (gr b.toNat (rtN q n.toNat b.toNat : Int), gr b.toNat (rtH q n.toNat b.toNat)) else none
theorem rootE_in {q : Rat} {n b : Int} (h : rootB q n b) : rootE q n b = 0 := if_pos h
theorem rootE_out {q : Rat} {n b : Int} (h : ¬ rootB q n b) : rootE q n b = 1 := if_neg h
theorem rootO_in {q : Rat} {n k : Nat} (h : rootB q (n : Int) (k : Int)) : rootO q (n : Int) (k : Int) = some (gr k (rtN q n k : Int), gr k (rtH q n k)) := if_pos h
theorem rootO_out {q : Rat} {n b : Int} (h : ¬ rootB q n b) : rootO q n b = none := if_neg h
theorem rootB_not {q : Rat} {n b : Int} (h : ¬ rootB q n b) : q < 0 ∨ ¬ (0 ≤ b ∧ b ≤ 256) ∨ n < 1 ∨ 64 < n := by
 unfold rootB at h
 by_cases h1 : q < 0
 ·exact .inl h1
 ·have h1 := Rat.not_lt.1 h1
  have : ¬ (0 ≤ b ∧ b ≤ 256 ∧ 1 ≤ n ∧ n ≤ 64) := fun h2 => h ⟨h1, h2⟩
  omega
theorem rootE_abs (q : Rat) (n : Int) : (rootE (absQ q) n 4 == 1) = (decide (n < 1) || decide (64 < n)) := by
 unfold rootE
 have h0 := absQ_nn q
 by_cases h : rootB (absQ q) n 4
 ·rw [if_pos h]
  have h1 := h.2.2.2.1; have h2 := h.2.2.2.2
  rw [decide_eq_false xq, decide_eq_false xq]; rfl
 ·rw [if_neg h]
  have h2 : n < 1 ∨ 64 < n := by
   rcases rootB_not h with h3 | h3 | h3 | h3
   ·exact absurd h0 (by grind)
   ·omega
   ·exact .inl h3
   ·exact .inr h3
  rcases h2 with h3 | h3 <;> simp [h3]
end Nt
end Go.Proofs.YtbolmkfphieogaaGreat
namespace Go.Proofs.YtbolmkfphieogaaGreat
open Go.RowKit
set_option linter.unusedVariables false
theorem k_rnBitLen {u w : World} {x : Sl} {N K : Nat} (d : Dat u w) (h : NatV u x N K) (hK : K ≤ 500000000) : Calls Tryz.prog 163 #[x.v] w (Post u w fun v _ => v = .int .i64 ((Nt.bitl N : Nat) : Int)) := by
 obtain ⟨a, a1, a2, a3, a4⟩ := h
 refine (rBitLen_any _ _ _ _ _ (a1.ext d.ext) a2 xq).mono fun e w' ⟨he, hb⟩ => ?_
 rw [a4, Int.toNat_natCast] at he
 exact post_below d he hb
set_option maxHeartbeats 1000000 in
theorem k_rnPow {u w : World} {x : Sl} {M K n : Nat} (d : Dat u w) (hx : NatV u x M K) (hn : n ≤ 64) (hK : K ≤ 1000000) : Calls Tryz.prog 165 #[x.v, .int .i64 (n : Int)] w (Post u w fun v u' => ∃ y : Sl, v = .tuple #[y.v, .int .i64 0] ∧ NatN u' y (M ^ n) (n * K + 1)) := by
 refine zzl (args := [.slice x.a x.n x.c, .int .i64 n]) Tryz.func165 rfl Tryz.ntmps165 (rs := [.tmp 4, .tmp 5]) Tryz.results165 (le_b rfl) (le_b rfl) d ?_
 refine sq9 (zza 4 (.v (.slice none 0 0)) (zza 5 (zI 0) (zzb (zzd (sq9 (zza 7 (zI n) (zza 8 (zB (decide ((n : Int) < 0))) (zyn 9 (x := zB (decide ((n : Int) < 0))) (zB false) (by rw [show (decide ((n : Int) < 0)) = false from decide_eq_false xq]) (zza 10 (zI n) ?_ (hw := w1 2 false 9))))))))))
 refine zza 11 (zB (decide ((64 : Int) < (n : Int)))) ?_ (hw := w1 2 false 9)
 refine zza 12 (zB (decide ((64 : Int) < (n : Int)))) (zzb (zzt (b := decide ((64 : Int) < (n : Int))) xj (fun hb => ?_) (fun hb => ?_)))
 ·exact absurd hb (by rw [show (decide ((64 : Int) < (n : Int))) = false from decide_eq_false xq]; decide)
 ·clear hb
  refine zzr (zzo ?_)
  refine sq9 (zxp 13 ⟨104, [.int .u32 1]⟩ 1 (fun b12 u13 e14 h15 => ?_))
  refine zza 6 (.v (.slice (some ⟨b12, 0, none⟩) 1 1)) (zzb (zzd (zzs (zyl (I := fun m16 S' u' => ∃ (m : Nat) (i : Nat) (y : Sl), (m16 = m) ∧ (m + i = n) ∧ (m ≤ n) ∧ (S' = St.of 22 [(0, .v (.slice x.a x.n x.c)), (1, zI m), (6, .v (.slice y.a y.n y.c))] []) ∧ (Ext u13 u') ∧ (NatN u' y (M ^ i) (i * K + 1))) (fun m S u1 u2 e h => by obtain ⟨m, i, y, hm, p0, p1, hS, hE, f0⟩ := h; exact ⟨m, i, y, hm, p0, p1, hS, hE.trans e, f0.ext e⟩) _ (by exact zzu _ _ _) ⟨n, 0, (⟨some ⟨b12, 0, none⟩, 1, 1⟩ : Sl), rfl, rfl, xq, rfl, (Ext.refl _), (by rw [Nat.pow_zero]; exact NatN.more (one_data h15) xq)⟩ ?_))))
  rintro m16 _ u16 ⟨m, i, y, hm16, hmi, hmn, rfl, e16, f0⟩
  have hsi : i * K ≤ 64 * K := Nat.mul_le_mul_right _ xq
  refine zzd (sq9 (zza 14 (zI m) (zza 15 (zB (decide ((0 : Int) < (m : Int)))) (zzb (zzt (b := decide ((0 : Int) < (m : Int))) xj (fun hb17 => ?_) (fun hb17 => ?_))))))
  ·replace hb17 : (decide ((0 : Int) < (m : Int))) = true := hb17
   have qhb17 := of_decide_eq_true hb17
   refine zzr (zzo ?_)
   refine zzd (zzs (zzf (zza 18 (.v y.v) (zza 19 (.v x.v) (zzg 20 174 [y.v, x.v] ?_)))))
   intro w18 u18 e18 d18
   have k23 := k_rnMul d18 (f0.ext e18).raw (hx.ext (e14.trans (e16.trans e18))) xq xq
   with_reducible refine zPm k23 ?_
   rintro _ u21 g22 ⟨x19, rfl, h20⟩
   refine zza 6 (.v x19.v) (zzw ?_)
   refine zzo (zzf (zza 16 (zI m) (zyn 17 (x := zI (IntKind.i64.wrap ((m : Int) - 1))) (zI (m - 1 : Nat)) (eqI xk) (zza 1 (zI (m - 1 : Nat)) (zzw ?_)))))
   have hsm : (i + 1) * K = i * K + K := Nat.succ_mul _ _
   refine ⟨_, ?_, _, by exact zzu _ _ _, m - 1, i + 1, x19, rfl, xq, xq, rfl, (e16.trans (e18.trans g22.ext)), (by rw [Nat.pow_succ]; exact NatN.more h20 xq)⟩
   omega
  ·replace hb17 : (decide ((0 : Int) < (m : Int))) = false := hb17
   have qhb17 := of_decide_eq_false hb17
   refine zyb (zzo (sq9 (zza 21 (.v y.v) (zza 4 (.v y.v) (zza 5 (zI 0) (zzb (zzn (ret0 [.slice y.a y.n y.c, .int .i64 0] ⟨zzp, zzp, trivial⟩ fun u24 e25 => ?_))))))))
   have hm0 : m = 0 := by have h9 := of_decide_eq_false hb17; omega
   subst hm0
   have hin : i = n := by omega
   subst hin
   exact ⟨y, rfl, (f0.ext e25)⟩
set_option maxHeartbeats 2000000 in
theorem k_rnRoot {u w : World} {x : Sl} {N n K : Nat} (d : Dat u w) (hx : NatV u x N K) (hn1 : 1 ≤ n) (hn : n ≤ 64) (hK : K ≤ 2000) : Calls Tryz.prog 86 #[x.v, .int .i64 (n : Int)] w (Post u w fun v u' => ∃ y : Sl, v = .tuple #[y.v, .int .i64 0] ∧ NatN u' y (Nt.irt n N) K) := by
 have hB : Nt.bitl N ≤ 32 * K := Nt.bitl_dl hx.size
 have hdv := Nat.div_le_self (Nt.bitl N) n
 obtain ⟨s, hs⟩ : ∃ s, Nt.bitl N / n = s := ⟨_, rfl⟩
 rw [hs] at hdv
 refine zzl (args := [.slice x.a x.n x.c, .int .i64 n]) Tryz.func86 rfl Tryz.ntmps86 (rs := [.tmp 4, .tmp 5]) Tryz.results86 (le_b rfl) (le_b rfl) d ?_
 refine sq9 (zza 4 (.v (.slice none 0 0)) (zza 5 (zI 0) (zzb (zzd (sq9 (zza 11 (zI n) (zza 12 (zB (decide ((n : Int) < 1))) (zyn 13 (x := zB (decide ((n : Int) < 1))) (zB false) (by rw [show (decide ((n : Int) < 1)) = false from decide_eq_false xq]) (zza 14 (zI n) ?_ (hw := w1 2 false 13))))))))))
 refine zza 15 (zB (decide ((64 : Int) < (n : Int)))) ?_ (hw := w1 2 false 13)
 refine zza 16 (zB (decide ((64 : Int) < (n : Int)))) (zzb (zzt (b := decide ((64 : Int) < (n : Int))) xj (fun hb => ?_) (fun hb => ?_)))
 ·exact absurd hb (by rw [show (decide ((64 : Int) < (n : Int))) = false from decide_eq_false xq]; decide)
 ·clear hb
  refine zzr (zzo ?_)
  refine sq9 (zza 6 (.v (.slice none 0 0)) (zzb (zzd (sq9 (zza 17 (.v x.v) (zzg 18 163 [x.v] ?_))))))
  intro w12 u12 e12 d12
  have k15 := k_rnBitLen d12 (hx.ext e12) xq
  with_reducible refine zPm k15 ?_
  rintro _ u13 g14 rfl
  refine zza 19 (zI n) (sy_quo 20 (n := ((Nt.bitl N : Nat) : Int)) (m := (n : Int)) ((s : Nat) : Int) xq (by rw [Int.tdiv_eq_ediv_of_nonneg xq, ← Int.natCast_ediv, hs]; exact IntWalk.i64_in _ xq) ?_)
  refine zza 7 (zI s) (zzb (zzs (zyl (I := fun m16 S' u' => ∃ (k : Nat) (out : Nat) (y : Sl) (z : Int), (m16 = k) ∧ (Nt.BitI n N k out) ∧ (k ≤ s + 1) ∧ (z = (k : Int) - 1) ∧ (S' = St.of 42 [(0, .v (.slice x.a x.n x.c)), (1, zI n), (6, .v (.slice y.a y.n y.c)), (7, zI z)] []) ∧ (Ext u13 u') ∧ (NatN u' y out K)) (fun m S u1 u2 e h => by obtain ⟨k, out, y, z, hm, p0, p1, p2, hS, hE, f0⟩ := h; exact ⟨k, out, y, z, hm, p0, p1, p2, hS, hE.trans e, f0.ext e⟩) _ (by exact zzu _ _ _) ⟨(s + 1), 0, ⟨none, 0, 0⟩, (s : Int), rfl, (hs ▸ Nt.BitI.start hn1 (Nt.bitl_lt N)), xq, xq, rfl, (Ext.refl _), (nat_nilN _ _)⟩ ?_)))
  rintro m16 _ u16 ⟨k, out, y, z, hm16, hI, hks, hz, rfl, e16, f0⟩
  refine zzd (sq9 (zza 21 (zI z) (zza 22 (zB (decide ((0 : Int) ≤ z))) (zzb (zzt (b := decide ((0 : Int) ≤ z)) xj (fun hb17 => ?_) (fun hb17 => ?_))))))
  ·replace hb17 : (decide ((0 : Int) ≤ z)) = true := hb17
   have qhb17 := of_decide_eq_true hb17
   refine zzr (zzo ?_)
   refine zzd (zzs (zzd ?_))
   obtain ⟨j, rfl⟩ : ∃ j : Nat, k = j + 1 := ⟨k - 1, by have h9 := of_decide_eq_true hb17; omega⟩
   obtain rfl : z = (j : Int) := by omega
   have hjs : j / 32 ≤ K := by omega
   have hnk : n * (max K (1 + j / 32 + 1) + 1) ≤ 64 * (K + 3) := Nat.mul_le_mul hn xq
   refine zzf (zza 25 (.v y.v) (zxp 26 ⟨104, [.int .u32 1]⟩ 1 (fun b18 u19 e20 h21 => ?_)))
   refine zza 27 (zI j) (zzg 28 96 [.slice (some ⟨b18, 0, none⟩) 1 1, .int .i64 j] ?_)
   intro w22 u22 e22 d22
   have k27 := k_rnShift (s := j) d22 ((one_data h21).ext e22).raw xq xq
   with_reducible refine zPm k27 ?_
   rintro _ u25 g26 ⟨x23, rfl, h24⟩
   refine zzg 29 164 [y.v, x23.v] ?_
   intro w28 u28 e28 d28
   have k33 := k_rnAdd d28 (f0.ext (e20.trans (e22.trans (g26.ext.trans e28)))).raw (h24.ext e28).raw xq xq
   with_reducible refine zPm k33 ?_
   rintro _ u31 g32 ⟨x29, rfl, h30⟩
   refine zza 8 (.v x29.v) (zzb (sq9 (zza 31 (.v x29.v) (zza 32 (zI n) (zzg 33 165 [x29.v, .int .i64 n] ?_)))))
   intro w34 u34 e34 d34
   have k39 := k_rnPow (n := n) d34 (h30.ext e34).raw xq xq
   with_reducible refine zPm k39 ?_
   rintro _ u37 g38 ⟨x35, rfl, h36⟩
   refine zza 30 (.v (.tuple #[x35.v, .int .i64 0])) (zza 34 (.v x35.v) (zza 35 (zI 0) (zza 9 (.v x35.v) (zza 10 (zI 0) (zzb (sq9 (zza 36 (.v x35.v) (zza 37 (.v x.v) (zzg 38 166 [x35.v, x.v] ?_)))))))))
   intro w40 u40 e40 d40
   have k43 := k_rnCompare d40 (h36.ext e40).raw (hx.ext (e12.trans (g14.ext.trans (e16.trans (e20.trans (e22.trans (g26.ext.trans (e28.trans (g32.ext.trans (e34.trans (g38.ext.trans e40))))))))))) xq xq
   with_reducible refine zPm k43 ?_
   rintro _ u41 g42 rfl
   refine zza 39 (zB (decide ((Nt.cmpS ((out + (1 * 2 ^ j)) ^ n) N) ≤ 0))) (zzc 42 [(0, .v x.v), (1, zI n), (6, .v y.v), (7, zI j), (8, .v x29.v), (39, zB (decide ((Nt.cmpS ((out + (1 * 2 ^ j)) ^ n) N) ≤ 0)))] [] (zzt (b := decide ((Nt.cmpS ((out + (1 * 2 ^ j)) ^ n) N) ≤ 0)) xj (fun hb44 => ?_) (fun hb44 => ?_)))
   ·replace hb44 : (decide ((Nt.cmpS ((out + (1 * 2 ^ j)) ^ n) N) ≤ 0)) = true := hb44
    have qhb44 := of_decide_eq_true hb44
    refine zzf (zza 40 (.v x29.v) (zza 6 (.v x29.v) (zzw ?_)))
    refine zzo (zzf (zza 23 (zI j) (zyn 24 (x := zI (IntKind.i64.wrap ((j : Int) - 1))) (zI ((j : Int) - 1)) (by rw [IntWalk.i64_in _ xq]) (zza 7 (zI ((j : Int) - 1)) (zzw ?_)))))
    have hle : (out + 2 ^ j) ^ n ≤ N := by have h9 := hb44; rw [Nt.cmp_le] at h9; have h8 := of_decide_eq_true h9; rw [Int.one_mul] at h8; exact_mod_cast h8
    have hI2 := hI.yes hle
    have hdl : dl (out + 2 ^ j) ≤ K := Nat.le_trans (Nt.dl_mono (Nat.le_trans (Nat.le_self_pow xq _) hle)) hx.size
    refine ⟨_, ?_, _, by exact zzu _ _ _, j, (out + 2 ^ j), x29, ((j : Int) - 1), rfl, hI2, xq, xq, rfl, (e16.trans (e20.trans (e22.trans (g26.ext.trans (e28.trans (g32.ext.trans (e34.trans (g38.ext.trans (e40.trans g42.ext))))))))), (by have h9 := (h30.ext (e34.trans (g38.ext.trans (e40.trans g42.ext)))); rw [Nat.one_mul] at h9; exact NatN.fit h9 hdl)⟩
    omega
   ·replace hb44 : (decide ((Nt.cmpS ((out + (1 * 2 ^ j)) ^ n) N) ≤ 0)) = false := hb44
    have qhb44 := of_decide_eq_false hb44
    refine zzr (zzo ?_)
    refine zzf (zza 23 (zI j) (zyn 24 (x := zI (IntKind.i64.wrap ((j : Int) - 1))) (zI ((j : Int) - 1)) (by rw [IntWalk.i64_in _ xq]) (zza 7 (zI ((j : Int) - 1)) (zzw ?_))))
    have hle : ¬ (out + 2 ^ j) ^ n ≤ N := by have h9 := hb44; rw [Nt.cmp_le] at h9; have h8 := of_decide_eq_false h9; rw [Int.one_mul] at h8; exact_mod_cast h8
    have hI2 := hI.no hle
    refine ⟨_, ?_, _, by exact zzu _ _ _, j, out, y, ((j : Int) - 1), rfl, hI2, xq, xq, rfl, (e16.trans (e20.trans (e22.trans (g26.ext.trans (e28.trans (g32.ext.trans (e34.trans (g38.ext.trans (e40.trans g42.ext))))))))), (f0.ext (e20.trans (e22.trans (g26.ext.trans (e28.trans (g32.ext.trans (e34.trans (g38.ext.trans (e40.trans g42.ext)))))))))⟩
    omega
  ·replace hb17 : (decide ((0 : Int) ≤ z)) = false := hb17
   have qhb17 := of_decide_eq_false hb17
   refine zyb (zzo (sq9 (zza 41 (.v y.v) (zza 4 (.v y.v) (zza 5 (zI 0) (zzb (zzn (ret0 [.slice y.a y.n y.c, .int .i64 0] ⟨zzp, zzp, trivial⟩ fun u45 e46 => ?_))))))))
   have hk0 : k = 0 := by have h9 := of_decide_eq_false hb17; omega
   subst hk0
   have hd := hI.done hn1
   subst hd
   exact ⟨y, rfl, (f0.ext e46)⟩
set_option maxHeartbeats 4000000 in
theorem k_r10RootG {u w : World} {r : RL} {q : Rat} {K n k : Nat} (d : Dat u w) (hr : RatV u r q K) (hq0 : 0 ≤ q) (hn1 : 1 ≤ n) (hn : n ≤ 64) (hk : k ≤ 256) (hK : K ≤ 100) : Calls Tryz.prog 21 #[r.v, .int .i64 (n : Int), .int .i64 (k : Int)] w (Post u w fun v u' => ∃ r1 r2 : RL, v = .tuple #[IV r1 r2, .int .i64 0] ∧ RatN u' r1 (Nt.gr k (Nt.rtN q n k : Int)) 5000 ∧ RatN u' r2 (Nt.gr k (Nt.rtH q n k)) 5000) := by
 have hnk : n * (k / 32 + 2 + 2) ≤ 64 * 12 := Nat.mul_le_mul hn xq
 have hnk2 : n * 2000 ≤ 64 * 2000 := Nat.mul_le_mul_right _ hn
 refine zzl (args := [r.v, .int .i64 n, .int .i64 k]) Tryz.func21 rfl Tryz.ntmps21 (rs := [.cell 6 32, .tmp 7]) Tryz.results21 (le_b rfl) (le_b rfl) d ?_
 refine sq9 (zzj 3 ⟨26, r.cs⟩ (zzj 6 ⟨32, [.bool false, .slice none 0 0, .slice none 0 0, .bool false, .slice none 0 0, .slice none 0 0]⟩ (zza 7 (zI 0) (zzb (zzd (sq9 (zzh 18 (.v (r.v)) ty26 zze (zzg 19 29 [r.v] ?_))))))))
 intro w11 u11 e11 d11
 have k14 := k_rqSign d11 (hr.ext e11) xq
 with_reducible refine zPm k14 ?_
 rintro _ u12 g13 rfl
 refine zza 20 (zB (decide ((Nt.sgQ q) < 0))) (zyn 21 (x := zB (decide ((Nt.sgQ q) < 0))) (zB false) (by rw [show (decide ((Nt.sgQ q) < 0)) = false from decide_eq_false (Nt.sgQ_nn hq0)]) (zza 22 (zI k) ?_ (hw := w1 3 false 21)))
 refine zzg 23 85 [.int .i64 k] ?_ (hw := w1 3 false 21)
 intro w16 u16 e16 d16
 have k19 := k_r10bad (n := (k : Int)) d16
 with_reducible refine zPm k19 ?_
 rintro _ u17 g18 rfl
 refine zza 24 (zB (decide ((k : Int) < 0 ∨ 256 < (k : Int)))) (zyn 25 (x := zB (decide ((k : Int) < 0 ∨ 256 < (k : Int)))) (zB false) (by rw [show (decide ((k : Int) < 0 ∨ 256 < (k : Int))) = false from decide_eq_false xq]) (zza 26 (zI n) ?_ (hw := w1 7 false 25)))
 refine zza 27 (zB (decide ((n : Int) < 1))) ?_ (hw := w1 7 false 25)
 refine zza 28 (zB (decide ((n : Int) < 1))) (zyn 29 (x := zB (decide ((n : Int) < 1))) (zB false) (by rw [show (decide ((n : Int) < 1)) = false from decide_eq_false xq]) (zza 30 (zI n) ?_ (hw := w1 11 false 29)))
 refine zza 31 (zB (decide ((64 : Int) < (n : Int)))) ?_ (hw := w1 11 false 29)
 refine zza 32 (zB (decide ((64 : Int) < (n : Int)))) (zzb (zzt (b := decide ((64 : Int) < (n : Int))) xj (fun hb => ?_) (fun hb => ?_)))
 ·exact absurd hb (by rw [show (decide ((64 : Int) < (n : Int))) = false from decide_eq_false xq]; decide)
 ·clear hb
  refine zzr (zzo ?_)
  refine sq9 (zza 34 (zI k) (zzg 35 27 [.int .i64 k] ?_))
  intro w22 u22 e22 d22
  have k27 := k_unit (k := k) d22 xq
  with_reducible refine zPm k27 ?_
  rintro _ u25 g26 ⟨r23, rfl, h24⟩
  refine zzj 8 ⟨26, [.bool false, .slice none 0 0, .slice none 0 0]⟩ (zzi ⟨26, r23.cs⟩ ty26 ?_)
  refine zzb (sq9 (zzh 37 (.v (r23.v)) ty26 zze (zza 38 (zI n) (zzg 39 24 [r23.v, .int .i64 n] ?_))))
  intro w28 u28 e28 d28
  have k33 := k_rqPow (n := n) d28 (h24.ext e28).raw xq xq
  with_reducible refine zPm k33 ?_
  rintro _ u31 g32 ⟨r29, rfl, h30⟩
  refine zza 36 (.v (.tuple #[r29.v, .int .i64 0])) (zza 40 (.v (r29.v)) (zza 41 (zI 0) (zzj 9 ⟨26, [.bool false, .slice none 0 0, .slice none 0 0]⟩ (zzi ⟨26, r29.cs⟩ ty26 ?_))))
  refine zza 10 (zI 0) (zzc 78 [(1, zI n), (3, .adr 3 0), (6, .adr 6 0), (8, .adr 8 0), (9, .adr 9 0)] [(3, ⟨26, r.cs⟩), (6, ⟨32, [.bool false, .slice none 0 0, .slice none 0 0, .bool false, .slice none 0 0, .slice none 0 0]⟩), (8, ⟨26, r23.cs⟩), (9, ⟨26, r29.cs⟩)] (sq9 (zzh 42 (.v (r.v)) ty26 zze (zzh 43 (.v (r29.v)) ty26 zze (zzg 44 25 [r.v, r29.v] ?_)))))
  intro w34 u34 e34 d34
  have k39 := k_rqMul d34 (hr.ext (e11.trans (g13.ext.trans (e16.trans (g18.ext.trans (e22.trans (g26.ext.trans (e28.trans (g32.ext.trans e34))))))))) (h30.ext e34).raw xq xq
  with_reducible refine zPm k39 ?_
  rintro _ u37 g38 ⟨r35, rfl, h36⟩
  refine zzj 11 ⟨26, [.bool false, .slice none 0 0, .slice none 0 0]⟩ (zzi ⟨26, r35.cs⟩ ty26 ?_)
  refine zzb (sq9 (zzh 46 (.v (r35.v)) ty26 zze (zzg 47 87 [r35.v] ?_)))
  intro w40 u40 e40 d40
  have k45 := k_floor d40 (h36.ext e40).raw xq
  with_reducible refine zPm k45 ?_
  rintro _ u43 g44 ⟨i41, rfl, h42⟩
  refine zza 48 (.v i41.m.v) (zza 49 (zI n) (zzg 50 86 [i41.m.v, .int .i64 n] ?_))
  intro w46 u46 e46 d46
  have k51 := k_rnRoot (n := n) d46 ((int_mag h42).ext e46).raw xq xq xq
  with_reducible refine zPm k51 ?_
  rintro _ u49 g50 ⟨x47, rfl, h48⟩
  refine zza 45 (.v (.tuple #[x47.v, .int .i64 0])) (zza 51 (.v x47.v) (zza 52 (zI 0) (zza 12 (.v x47.v) (zza 13 (zI 0) (zzb (sq9 (zza 53 (.v x47.v) (zza 54 (.v (.agg #[.bool false, x47.v])) (zxp 55 ⟨104, [.int .u32 1]⟩ 1 (fun b52 u53 e54 h55 => ?_))))))))))
  refine zza 56 (.v (.agg #[.bool false, x47.v, .slice (some ⟨b52, 0, none⟩) 1 1])) (zzj 14 ⟨26, [.bool false, .slice none 0 0, .slice none 0 0]⟩ (zzi ⟨26, [.bool false, x47.v, .slice (some ⟨b52, 0, none⟩) 1 1]⟩ ty26 ?_))
  refine zzb (sq9 (zzh 57 (.v (.agg #[.bool false, x47.v, .slice (some ⟨b52, 0, none⟩) 1 1])) ty26 zze (zzj 15 ⟨26, [.bool false, .slice none 0 0, .slice none 0 0]⟩ (zzi ⟨26, [.bool false, x47.v, .slice (some ⟨b52, 0, none⟩) 1 1]⟩ ty26 ?_))))
  refine zzb (zzd (zzd ?_))
  have hnk3 : n * ((max (max ((K + (n * ((k / 32 + 2) + 2) + 2) + 1) + 1) 1) 1) + 2) ≤ 64 * 2000 := Nat.mul_le_mul hn xq
  refine zzf (zzh 59 (.v (.agg #[.bool false, x47.v, .slice (some ⟨b52, 0, none⟩) 1 1])) ty26 zze (zza 60 (zI n) (zzg 61 24 [.agg #[.bool false, x47.v, .slice (some ⟨b52, 0, none⟩) 1 1], .int .i64 n] ?_)))
  intro w56 u56 e56 d56
  have k61 := k_rqPow (n := n) d56 (rat_mk2 (s := false) (nat_int (h48.ext (e54.trans e56)).raw) ((one_data h55).ext e56).raw) xq xq
  with_reducible refine zPm k61 ?_
  rintro _ u59 g60 ⟨r57, rfl, h58⟩
  refine zza 58 (.v (.tuple #[r57.v, .int .i64 0])) (zza 62 (.v (r57.v)) (zza 63 (zI 0) (zzj 16 ⟨26, [.bool false, .slice none 0 0, .slice none 0 0]⟩ (zzi ⟨26, r57.cs⟩ ty26 ?_))))
  refine zza 17 (zI 0) (zzc 78 [(6, .adr 6 0), (8, .adr 8 0), (11, .adr 11 0), (14, .adr 14 0), (15, .adr 15 0), (16, .adr 16 0)] [(6, ⟨32, [.bool false, .slice none 0 0, .slice none 0 0, .bool false, .slice none 0 0, .slice none 0 0]⟩), (8, ⟨26, r23.cs⟩), (11, ⟨26, r35.cs⟩), (14, ⟨26, [.bool false, x47.v, .slice (some ⟨b52, 0, none⟩) 1 1]⟩), (15, ⟨26, [.bool false, x47.v, .slice (some ⟨b52, 0, none⟩) 1 1]⟩), (16, ⟨26, r57.cs⟩)] (sq9 (zzh 64 (.v (r57.v)) ty26 zze (zzh 65 (.v (r35.v)) ty26 zze (zzg 66 28 [r57.v, r35.v] ?_)))))
  intro w62 u62 e62 d62
  have k65 := k_rqCompare d62 (h58.ext e62).raw (h36.ext (e40.trans (g44.ext.trans (e46.trans (g50.ext.trans (e54.trans (e56.trans (g60.ext.trans e62)))))))).raw xq xq
  with_reducible refine zPm k65 ?_
  rintro _ u63 g64 rfl
  refine zza 67 (zB (decide ((Nt.cmpQ ((mkRat ((Nt.irt n ((Nt.flr (q * ((((2 ^ k : Nat) : Int) : Rat) ^ n))).natAbs)) : Int) 1) ^ n) (q * ((((2 ^ k : Nat) : Int) : Rat) ^ n))) < 0))) (zzb (zzt (b := decide ((Nt.cmpQ ((mkRat ((Nt.irt n ((Nt.flr (q * ((((2 ^ k : Nat) : Int) : Rat) ^ n))).natAbs)) : Int) 1) ^ n) (q * ((((2 ^ k : Nat) : Int) : Rat) ^ n))) < 0)) xj (fun hb66 => ?_) (fun hb66 => ?_)))
  ·replace hb66 : (decide ((Nt.cmpQ ((mkRat ((Nt.irt n ((Nt.flr (q * ((((2 ^ k : Nat) : Int) : Rat) ^ n))).natAbs)) : Int) 1) ^ n) (q * ((((2 ^ k : Nat) : Int) : Rat) ^ n))) < 0)) = true := hb66
   have qhb66 := of_decide_eq_true hb66
   refine zzy [0, 0, 3, 7] [(0, []), (1, []), (2, []), (3, [])] xj xj (zzh 68 (.v (.agg #[.bool false, x47.v, .slice (some ⟨b52, 0, none⟩) 1 1])) ty26 zze (zzg 69 30 [.int .i64 1] ?_))
   intro w67 u67 e67 d67
   have k72 := k_rqOf d67 (z := 1) xq xq
   with_reducible refine zPm k72 ?_
   rintro _ u70 g71 ⟨r68, rfl, h69⟩
   refine zzg 70 57 [.agg #[.bool false, x47.v, .slice (some ⟨b52, 0, none⟩) 1 1], r68.v] ?_
   intro w73 u73 e73 d73
   have k78 := k_rqAdd d73 (rat_mk2 (s := false) (nat_int (h48.ext (e54.trans (e56.trans (g60.ext.trans (e62.trans (g64.ext.trans (e67.trans (g71.ext.trans e73)))))))).raw) ((one_data h55).ext (e56.trans (g60.ext.trans (e62.trans (g64.ext.trans (e67.trans (g71.ext.trans e73))))))).raw) (h69.ext e73).raw xq xq
   with_reducible refine zPm k78 ?_
   rintro _ u76 g77 ⟨r74, rfl, h75⟩
   refine zzi ⟨26, r74.cs⟩ ty26 ?_
   refine zzb (zzd (zzy [0, 0, 3, 0, 0, 31, 63, 127, 255] [(0, []), (1, []), (3, []), (4, []), (2, []), (5, []), (6, []), (7, []), (8, [])] xj xj (zzh 71 (.v (.agg #[.bool false, x47.v, .slice (some ⟨b52, 0, none⟩) 1 1])) ty26 zze (zzh 72 (.v (r23.v)) ty26 zze (zzh 74 (.v (r74.v)) ty26 zze (zzh 75 (.v (r23.v)) ty26 zze (zzg 73 88 [.agg #[.bool false, x47.v, .slice (some ⟨b52, 0, none⟩) 1 1], r23.v] ?_)))))))
   intro w79 u79 e79 d79
   have k84 := k_rqOver d79 (rat_mk2 (s := false) (nat_int (h48.ext (e54.trans (e56.trans (g60.ext.trans (e62.trans (g64.ext.trans (e67.trans (g71.ext.trans (e73.trans (g77.ext.trans e79)))))))))).raw) ((one_data h55).ext (e56.trans (g60.ext.trans (e62.trans (g64.ext.trans (e67.trans (g71.ext.trans (e73.trans (g77.ext.trans e79))))))))).raw) (h24.ext (e28.trans (g32.ext.trans (e34.trans (g38.ext.trans (e40.trans (g44.ext.trans (e46.trans (g50.ext.trans (e54.trans (e56.trans (g60.ext.trans (e62.trans (g64.ext.trans (e67.trans (g71.ext.trans (e73.trans (g77.ext.trans e79)))))))))))))))))).raw xq xq
   with_reducible refine zPm k84 ?_
   rintro _ u82 g83 ⟨r80, rfl, h81⟩
   refine zzg 76 88 [r74.v, r23.v] ?_
   intro w85 u85 e85 d85
   have k90 := k_rqOver d85 (h75.ext (e79.trans (g83.ext.trans e85))).raw (h24.ext (e28.trans (g32.ext.trans (e34.trans (g38.ext.trans (e40.trans (g44.ext.trans (e46.trans (g50.ext.trans (e54.trans (e56.trans (g60.ext.trans (e62.trans (g64.ext.trans (e67.trans (g71.ext.trans (e73.trans (g77.ext.trans (e79.trans (g83.ext.trans e85)))))))))))))))))))).raw xq xq
   with_reducible refine zPm k90 ?_
   rintro _ u88 g89 ⟨r86, rfl, h87⟩
   refine zza 77 (.v (.agg #[.bool r80.s, r80.m.v, r80.d.v, .bool r86.s, r86.m.v, r86.d.v])) (zzi ⟨32, r80.cs ++ r86.cs⟩ ty32 ?_)
   refine zza 7 (zI 0) (zzb (zzn (ret0 [.agg #[.bool r80.s, .slice r80.m.a r80.m.n r80.m.c, .slice r80.d.a r80.d.n r80.d.c, .bool r86.s, .slice r86.m.a r86.m.n r86.m.c, .slice r86.d.a r86.d.n r86.d.c], .int .i64 0] ⟨zzq ty32 zze, zzp, trivial⟩ fun u91 e92 => ?_)))
   have hx9 := Nt.rt_cmp (k := k) hq0 hn1
   have hH : Nt.rtH q n k = (Nt.rtN q n k : Int) + 1 := if_neg (hx9.1 (by have h9 := hb66; rw [Nt.flr_rtD hq0] at h9; exact h9))
   refine ⟨r80, r86, rfl, RatN.more (K := ((max (max ((K + (n * ((k / 32 + 2) + 2) + 2) + 1) + 1) 1) 1) + (k / 32 + 2) + 2)) ?_ xq, RatN.more (K := (((max (max ((K + (n * ((k / 32 + 2) + 2) + 2) + 1) + 1) 1) 1) + 2 + 2) + (k / 32 + 2) + 2)) ?_ xq⟩
   ·have h9 := (h81.ext (e85.trans (g89.ext.trans e92)))
    rw [Nt.flr_rtD hq0, Nt.rt_lo] at h9
    exact h9
   ·have h9 := (h87.ext e92)
    rw [Nt.flr_rtD hq0, Nt.rt_hi] at h9
    rw [hH]
    exact h9
  ·replace hb66 : (decide ((Nt.cmpQ ((mkRat ((Nt.irt n ((Nt.flr (q * ((((2 ^ k : Nat) : Int) : Rat) ^ n))).natAbs)) : Int) 1) ^ n) (q * ((((2 ^ k : Nat) : Int) : Rat) ^ n))) < 0)) = false := hb66
   have qhb66 := of_decide_eq_false hb66
   refine zzr (zzo ?_)
   refine zzd (zzy [0, 0, 3, 0, 0, 31, 63, 127, 255] [(0, []), (1, []), (3, []), (4, []), (2, []), (5, []), (6, []), (7, []), (8, [])] xj xj (zzh 71 (.v (.agg #[.bool false, x47.v, .slice (some ⟨b52, 0, none⟩) 1 1])) ty26 zze (zzh 72 (.v (r23.v)) ty26 zze (zzh 74 (.v (.agg #[.bool false, x47.v, .slice (some ⟨b52, 0, none⟩) 1 1])) ty26 zze (zzh 75 (.v (r23.v)) ty26 zze (zzg 73 88 [.agg #[.bool false, x47.v, .slice (some ⟨b52, 0, none⟩) 1 1], r23.v] ?_))))))
   intro w93 u93 e93 d93
   have k98 := k_rqOver d93 (rat_mk2 (s := false) (nat_int (h48.ext (e54.trans (e56.trans (g60.ext.trans (e62.trans (g64.ext.trans e93)))))).raw) ((one_data h55).ext (e56.trans (g60.ext.trans (e62.trans (g64.ext.trans e93))))).raw) (h24.ext (e28.trans (g32.ext.trans (e34.trans (g38.ext.trans (e40.trans (g44.ext.trans (e46.trans (g50.ext.trans (e54.trans (e56.trans (g60.ext.trans (e62.trans (g64.ext.trans e93)))))))))))))).raw xq xq
   with_reducible refine zPm k98 ?_
   rintro _ u96 g97 ⟨r94, rfl, h95⟩
   refine zzg 76 88 [.agg #[.bool false, x47.v, .slice (some ⟨b52, 0, none⟩) 1 1], r23.v] ?_
   intro w99 u99 e99 d99
   have k104 := k_rqOver d99 (rat_mk2 (s := false) (nat_int (h48.ext (e54.trans (e56.trans (g60.ext.trans (e62.trans (g64.ext.trans (e93.trans (g97.ext.trans e99)))))))).raw) ((one_data h55).ext (e56.trans (g60.ext.trans (e62.trans (g64.ext.trans (e93.trans (g97.ext.trans e99))))))).raw) (h24.ext (e28.trans (g32.ext.trans (e34.trans (g38.ext.trans (e40.trans (g44.ext.trans (e46.trans (g50.ext.trans (e54.trans (e56.trans (g60.ext.trans (e62.trans (g64.ext.trans (e93.trans (g97.ext.trans e99)))))))))))))))).raw xq xq
   with_reducible refine zPm k104 ?_
   rintro _ u102 g103 ⟨r100, rfl, h101⟩
   refine zza 77 (.v (.agg #[.bool r94.s, r94.m.v, r94.d.v, .bool r100.s, r100.m.v, r100.d.v])) (zzi ⟨32, r94.cs ++ r100.cs⟩ ty32 ?_)
   refine zza 7 (zI 0) (zzb (zzn (ret0 [.agg #[.bool r94.s, .slice r94.m.a r94.m.n r94.m.c, .slice r94.d.a r94.d.n r94.d.c, .bool r100.s, .slice r100.m.a r100.m.n r100.m.c, .slice r100.d.a r100.d.n r100.d.c], .int .i64 0] ⟨zzq ty32 zze, zzp, trivial⟩ fun u105 e106 => ?_)))
   have hx9 := Nt.rt_cmp (k := k) hq0 hn1
   have hH : Nt.rtH q n k = (Nt.rtN q n k : Int) := if_pos (Decidable.not_not.1 (fun h8 => by have h7 := hx9.2 h8; have h9 := hb66; rw [Nt.flr_rtD hq0] at h9; rw [show Nt.irt n (Nt.rtD q n k) = Nt.rtN q n k from rfl, h7] at h9; exact absurd h9 xw))
   refine ⟨r94, r100, rfl, RatN.more (K := ((max (max ((K + (n * ((k / 32 + 2) + 2) + 2) + 1) + 1) 1) 1) + (k / 32 + 2) + 2)) ?_ xq, RatN.more (K := ((max (max ((K + (n * ((k / 32 + 2) + 2) + 2) + 1) + 1) 1) 1) + (k / 32 + 2) + 2)) ?_ xq⟩
   ·have h9 := (h95.ext (e99.trans (g103.ext.trans e106)))
    rw [Nt.flr_rtD hq0, Nt.rt_lo] at h9
    exact h9
   ·have h9 := (h101.ext e106)
    rw [Nt.flr_rtD hq0, Nt.rt_lo] at h9
    rw [hH]
    exact h9
theorem k_r10RootB {u w : World} {r : RL} {q : Rat} {K : Nat} {n b : Int} (d : Dat u w) (hr : RatV u r q K) (hK : K ≤ 100) (hbad : q < 0 ∨ ¬ (0 ≤ b ∧ b ≤ 256) ∨ n < 1 ∨ 64 < n) : Calls Tryz.prog 21 #[r.v, .int .i64 n, .int .i64 b] w (Post u w fun v u' => v = .tuple #[.agg #[.bool false, .slice none 0 0, .slice none 0 0, .bool false, .slice none 0 0, .slice none 0 0], .int .i64 1]) := by
 refine zzl (args := [r.v, .int .i64 n, .int .i64 b]) Tryz.func21 rfl Tryz.ntmps21 (rs := [.cell 6 32, .tmp 7]) Tryz.results21 (le_b rfl) (le_b rfl) d ?_
 refine sq9 (zzj 3 ⟨26, r.cs⟩ (zzj 6 ⟨32, [.bool false, .slice none 0 0, .slice none 0 0, .bool false, .slice none 0 0, .slice none 0 0]⟩ (zza 7 (zI 0) (zzb (zzd (sq9 (zzh 18 (.v (r.v)) ty26 zze (zzg 19 29 [r.v] ?_))))))))
 intro w11 u11 e11 d11
 have k14 := k_rqSign d11 (hr.ext e11) xq
 with_reducible refine zPm k14 ?_
 rintro _ u12 g13 rfl
 refine zza 20 (zB (decide ((Nt.sgQ q) < 0))) ?_
 rcases Bool.eq_false_or_eq_true (decide ((Nt.sgQ q) < 0)) with hs15 | hs15
 ·refine zyn 21 (x := zB (decide ((Nt.sgQ q) < 0))) (zB true) (by rw [hs15]) ?_
  have qhs15 := of_decide_eq_true hs15
  refine zzm 22 (uw 3 false true 21) (zzm 23 (uw 3 false true 21) (zza 24 (zB true) (zza 25 (zB true) (zzm 26 (uw 7 false true 25) (zzm 27 (uw 7 false true 25) (zza 28 (zB true) (zza 29 (zB true) (zzm 30 (uw 11 false true 29) (zzm 31 (uw 11 false true 29) (zza 32 (zB true) (zzb ?_)))))))))))
  refine zyo xj (sq9 (zza 33 (.v (.agg #[.bool false, .slice none 0 0, .slice none 0 0, .bool false, .slice none 0 0, .slice none 0 0])) (zzi ⟨32, [.bool false, .slice none 0 0, .slice none 0 0, .bool false, .slice none 0 0, .slice none 0 0]⟩ ty32 ?_)))
  refine zza 7 (zI 1) (zzb (zzn (zzv (ret0 [.agg #[.bool false, .slice none 0 0, .slice none 0 0, .bool false, .slice none 0 0, .slice none 0 0], .int .i64 1] ⟨zzq ty32 zze, zzp, trivial⟩ fun u16 e17 => ?_))))
  rfl
 ·refine zyn 21 (x := zB (decide ((Nt.sgQ q) < 0))) (zB false) (by rw [hs15]) ?_
  have qhs15 := of_decide_eq_false hs15
  refine zza 22 (zI b) ?_ (hw := w1 3 false 21)
  refine zzg 23 85 [.int .i64 b] ?_ (hw := w1 3 false 21)
  intro w18 u18 e18 d18
  have k21 := k_r10bad (n := b) d18
  with_reducible refine zPm k21 ?_
  rintro _ u19 g20 rfl
  refine zza 24 (zB (decide (b < 0 ∨ 256 < b))) ?_
  rcases Bool.eq_false_or_eq_true (decide (b < 0 ∨ 256 < b)) with hs22 | hs22
  ·refine zyn 25 (x := zB (decide (b < 0 ∨ 256 < b))) (zB true) (by rw [hs22]) ?_
   have qhs22 := of_decide_eq_true hs22
   refine zzm 26 (uw 7 false true 25) (zzm 27 (uw 7 false true 25) (zza 28 (zB true) (zza 29 (zB true) (zzm 30 (uw 11 false true 29) (zzm 31 (uw 11 false true 29) (zza 32 (zB true) (zzb (zyo xj (sq9 (zza 33 (.v (.agg #[.bool false, .slice none 0 0, .slice none 0 0, .bool false, .slice none 0 0, .slice none 0 0])) (zzi ⟨32, [.bool false, .slice none 0 0, .slice none 0 0, .bool false, .slice none 0 0, .slice none 0 0]⟩ ty32 ?_)))))))))))
   refine zza 7 (zI 1) (zzb (zzn (zzv (ret0 [.agg #[.bool false, .slice none 0 0, .slice none 0 0, .bool false, .slice none 0 0, .slice none 0 0], .int .i64 1] ⟨zzq ty32 zze, zzp, trivial⟩ fun u23 e24 => ?_))))
   rfl
  ·refine zyn 25 (x := zB (decide (b < 0 ∨ 256 < b))) (zB false) (by rw [hs22]) ?_
   have qhs22 := of_decide_eq_false hs22
   refine zza 26 (zI n) ?_ (hw := w1 7 false 25)
   refine zza 27 (zB (decide (n < 1))) ?_ (hw := w1 7 false 25)
   refine zza 28 (zB (decide (n < 1))) ?_
   rcases Bool.eq_false_or_eq_true (decide (n < 1)) with hs25 | hs25
   ·refine zyn 29 (x := zB (decide (n < 1))) (zB true) (by rw [hs25]) ?_
    have qhs25 := of_decide_eq_true hs25
    refine zzm 30 (uw 11 false true 29) (zzm 31 (uw 11 false true 29) (zza 32 (zB true) (zzb (zyo xj (sq9 (zza 33 (.v (.agg #[.bool false, .slice none 0 0, .slice none 0 0, .bool false, .slice none 0 0, .slice none 0 0])) (zzi ⟨32, [.bool false, .slice none 0 0, .slice none 0 0, .bool false, .slice none 0 0, .slice none 0 0]⟩ ty32 ?_)))))))
    refine zza 7 (zI 1) (zzb (zzn (zzv (ret0 [.agg #[.bool false, .slice none 0 0, .slice none 0 0, .bool false, .slice none 0 0, .slice none 0 0], .int .i64 1] ⟨zzq ty32 zze, zzp, trivial⟩ fun u26 e27 => ?_))))
    rfl
   ·refine zyn 29 (x := zB (decide (n < 1))) (zB false) (by rw [hs25]) ?_
    have qhs25 := of_decide_eq_false hs25
    refine zza 30 (zI n) ?_ (hw := w1 11 false 29)
    refine zza 31 (zB (decide ((64 : Int) < n))) ?_ (hw := w1 11 false 29)
    refine zza 32 (zB (decide ((64 : Int) < n))) (zzb (zzt (b := decide ((64 : Int) < n)) xj (fun hb28 => ?_) (fun hb28 => ?_)))
    ·replace hb28 : (decide ((64 : Int) < n)) = true := hb28
     have qhb28 := of_decide_eq_true hb28
     refine sq9 (zza 33 (.v (.agg #[.bool false, .slice none 0 0, .slice none 0 0, .bool false, .slice none 0 0, .slice none 0 0])) (zzi ⟨32, [.bool false, .slice none 0 0, .slice none 0 0, .bool false, .slice none 0 0, .slice none 0 0]⟩ ty32 ?_))
     refine zza 7 (zI 1) (zzb (zzn (zzv (ret0 [.agg #[.bool false, .slice none 0 0, .slice none 0 0, .bool false, .slice none 0 0, .slice none 0 0], .int .i64 1] ⟨zzq ty32 zze, zzp, trivial⟩ fun u29 e30 => ?_))))
     rfl
    ·replace hb28 : (decide ((64 : Int) < n)) = false := hb28
     have qhb28 := of_decide_eq_false hb28
     refine zzr (zzo ?_)
     refine zzd ?_
     exfalso
     have h9hs15 := hs15
     rw [Nt.sgQ_lt] at h9hs15
     simp at h9hs15
     have h9hs22 := hs22
     simp at h9hs22
     have h9hs25 := hs25
     simp at h9hs25
     have h9hb28 := hb28
     simp at h9hb28
     rcases hbad with h | h | h | h
     ·exact absurd h (by assumption)
     all_goals omega
theorem k_RootO {u w : World} {r : RL} {q : Rat} {K : Nat} {n b : Int} (d : Dat u w) (hr : RatV u r q K) (hK : K ≤ 100) : Calls Tryz.prog 20 #[r.v, .int .i64 n, .int .i64 b] w (Post u w fun v u' => ∃ r1 r2 : RL, v = .tuple #[IV r1 r2, .int .i64 (Nt.rootE q n b)] ∧ OptI u' r1 r2 (Nt.rootO q n b) 5000) := by
 by_cases h : Nt.rootB q n b
 ·obtain ⟨h1, h2, h3, h4, h5⟩ := id h
  obtain ⟨n, rfl⟩ : ∃ m : Nat, n = (m : Int) := ⟨n.toNat, by omega⟩
  obtain ⟨b, rfl⟩ : ∃ m : Nat, b = (m : Int) := ⟨b.toNat, by omega⟩
  refine Post.mono (k_RootG d hr h1 xq xq xq hK) ?_
  rintro _ u' _ ⟨r1, r2, rfl, g1, g2⟩
  rw [Nt.rootE_in h, Nt.rootO_in h]
  exact ⟨r1, r2, rfl, g1.more xq, g2.more xq⟩
 ·refine Post.mono (k_RootB d hr hK (Nt.rootB_not h)) ?_
  rintro _ u' _ rfl
  rw [Nt.rootE_out h, Nt.rootO_out h]
  exact ⟨rl0, rl0, rfl, rfl, rfl⟩
theorem k_r10RootO {u w : World} {r : RL} {q : Rat} {K : Nat} {n b : Int} (d : Dat u w) (hr : RatV u r q K) (hK : K ≤ 100) : Calls Tryz.prog 21 #[r.v, .int .i64 n, .int .i64 b] w (Post u w fun v u' => ∃ r1 r2 : RL, v = .tuple #[IV r1 r2, .int .i64 (Nt.rootE q n b)] ∧ OptI u' r1 r2 (Nt.rootO q n b) 5000) := by
 by_cases h : Nt.rootB q n b
 ·obtain ⟨h1, h2, h3, h4, h5⟩ := id h
  obtain ⟨n, rfl⟩ : ∃ m : Nat, n = (m : Int) := ⟨n.toNat, by omega⟩
  obtain ⟨b, rfl⟩ : ∃ m : Nat, b = (m : Int) := ⟨b.toNat, by omega⟩
  refine Post.mono (k_r10RootG d hr h1 xq xq xq hK) ?_
  rintro _ u' _ ⟨r1, r2, rfl, g1, g2⟩
  rw [Nt.rootE_in h, Nt.rootO_in h]
  exact ⟨r1, r2, rfl, g1.more xq, g2.more xq⟩
 ·refine Post.mono (k_r10RootB d hr hK (Nt.rootB_not h)) ?_
  rintro _ u' _ rfl
  rw [Nt.rootE_out h, Nt.rootO_out h]
  exact ⟨rl0, rl0, rfl, rfl, rfl⟩
theorem k_SqrtO {u w : World} {r : RL} {q : Rat} {K : Nat} {b : Int} (d : Dat u w) (hr : RatV u r q K) (hK : K ≤ 100) : Calls Tryz.prog 18 #[r.v, .int .i64 b] w (Post u w fun v u' => ∃ r1 r2 : RL, v = .tuple #[IV r1 r2, .int .i64 (Nt.rootE q 2 b)] ∧ OptI u' r1 r2 (Nt.rootO q 2 b) 5000) := by
 refine zzl (args := [r.v, .int .i64 b]) Tryz.func18 rfl Tryz.ntmps18 (rs := [.cell 4 32, .tmp 5]) Tryz.results18 (le_b rfl) (le_b rfl) d ?_
 refine sq9 (zzj 2 ⟨26, r.cs⟩ (zzj 4 ⟨32, [.bool false, .slice none 0 0, .slice none 0 0, .bool false, .slice none 0 0, .slice none 0 0]⟩ (zza 5 (zI 0) (zzb (sq9 (zzh 6 (.v (r.v)) ty26 zze (zza 7 (zI b) (zzg 8 20 [r.v, .int .i64 2, .int .i64 b] ?_))))))))
 intro w11 u11 e11 d11
 have k17 := k_RootO (n := 2) (b := b) d11 (hr.ext e11) xq
 with_reducible refine zPm k17 ?_
 rintro _ u15 g16 ⟨r12, r13, rfl, h14⟩
 refine zza 9 (.v (.agg #[.bool r12.s, r12.m.v, r12.d.v, .bool r13.s, r13.m.v, r13.d.v])) (zza 10 (zI (Nt.rootE q (2 : Int) b)) (zzi ⟨32, r12.cs ++ r13.cs⟩ ty32 ?_))
 refine zza 5 (zI (Nt.rootE q (2 : Int) b)) (zzb (zzn (ret0 [.agg #[.bool r12.s, .slice r12.m.a r12.m.n r12.m.c, .slice r12.d.a r12.d.n r12.d.c, .bool r13.s, .slice r13.m.a r13.m.n r13.m.c, .slice r13.d.a r13.d.n r13.d.c], .int .i64 (Nt.rootE q (2 : Int) b)] ⟨zzq ty32 zze, zzp, trivial⟩ fun u18 e19 => ?_)))
 exact ⟨r12, r13, rfl, (h14.ext e19)⟩
theorem k_r10SqrtO {u w : World} {r : RL} {q : Rat} {K : Nat} {b : Int} (d : Dat u w) (hr : RatV u r q K) (hK : K ≤ 100) : Calls Tryz.prog 19 #[r.v, .int .i64 b] w (Post u w fun v u' => ∃ r1 r2 : RL, v = .tuple #[IV r1 r2, .int .i64 (Nt.rootE q 2 b)] ∧ OptI u' r1 r2 (Nt.rootO q 2 b) 5000) := by
 refine zzl (args := [r.v, .int .i64 b]) Tryz.func19 rfl Tryz.ntmps19 (rs := [.cell 4 32, .tmp 5]) Tryz.results19 (le_b rfl) (le_b rfl) d ?_
 refine sq9 (zzj 2 ⟨26, r.cs⟩ (zzj 4 ⟨32, [.bool false, .slice none 0 0, .slice none 0 0, .bool false, .slice none 0 0, .slice none 0 0]⟩ (zza 5 (zI 0) (zzb (sq9 (zzh 6 (.v (r.v)) ty26 zze (zza 7 (zI b) (zzg 8 21 [r.v, .int .i64 2, .int .i64 b] ?_))))))))
 intro w11 u11 e11 d11
 have k17 := k_r10RootO (n := 2) (b := b) d11 (hr.ext e11) xq
 with_reducible refine zPm k17 ?_
 rintro _ u15 g16 ⟨r12, r13, rfl, h14⟩
 refine zza 9 (.v (.agg #[.bool r12.s, r12.m.v, r12.d.v, .bool r13.s, r13.m.v, r13.d.v])) (zza 10 (zI (Nt.rootE q (2 : Int) b)) (zzi ⟨32, r12.cs ++ r13.cs⟩ ty32 ?_))
 refine zza 5 (zI (Nt.rootE q (2 : Int) b)) (zzb (zzn (ret0 [.agg #[.bool r12.s, .slice r12.m.a r12.m.n r12.m.c, .slice r12.d.a r12.d.n r12.d.c, .bool r13.s, .slice r13.m.a r13.m.n r13.m.c, .slice r13.d.a r13.d.n r13.d.c], .int .i64 (Nt.rootE q (2 : Int) b)] ⟨zzq ty32 zze, zzp, trivial⟩ fun u18 e19 => ?_)))
 exact ⟨r12, r13, rfl, (h14.ext e19)⟩
set_option maxHeartbeats 4000000 in
theorem w_roots {u w : World} {a : RL} {x : Rat} {K : Nat} {n b : Int} (d : Dat u w) (ha : RatV u a x K) (hn0 : -9223372036854775808 ≤ n) (hn1 : n ≤ 9223372036854775807) (hb0 : -9223372036854775808 ≤ b) (hb1 : b ≤ 9223372036854775807) : Calls Tryz.prog 3 #[a.v, .int .i64 n, .int .i64 b] w (Post u w fun v _ => v = .bool true) := by
 refine zzl (args := [a.v, .int .i64 n, .int .i64 b]) Tryz.func3 rfl Tryz.ntmps3 (rs := [.tmp 6]) Tryz.results3 (le_b rfl) (le_b rfl) d ?_
 refine sq9 (zzj 3 ⟨26, a.cs⟩ (zza 6 (zB false) (zzb (zzd (sq9 (zzh 20 (.v (a.v)) ty26 zze (zzg 21 15 [a.v] ?_)))))))
 intro w11 u11 e11 d11
 have k14 := k_smallRat (r := a) d11
 with_reducible refine zPm k14 ?_
 rintro _ u12 g13 rfl
 refine zza 22 (zB (!(smR a))) (zzb (zzt (b := !(smR a)) xj (fun hb15 => ?_) (fun hb15 => ?_)))
 ·replace hb15 : (!(smR a)) = true := hb15
  refine sq9 (zzg 23 16 [] ?_)
  intro w16 u16 e16 d16
  have k19 := k_awake10 d16
  with_reducible refine zPm k19 ?_
  rintro _ u17 g18 rfl
  refine zza 6 (zB true) (zzb (zzn (zzv (ret0 [.bool true] ⟨zzp, trivial⟩ fun u20 e21 => ?_))))
  exact rfl
 ·replace hb15 : (!(smR a)) = false := hb15
  have qhb15 : smR a = true := by simpa using hb15
  have haf := smR_few ha qhb15
  refine zzr (zzo ?_)
  refine zzd (sq9 (zza 24 (zI b) (zza 25 (zI b) (zzg 26 17 [.int .i64 b, .int .i64 40] ?_))))
  intro w22 u22 e22 d22
  have k25 := k_Mod d22 (n := b) (m := 40) xq xq xq xq
  with_reducible refine zPm k25 ?_
  rintro _ u23 g24 rfl
  refine sy_lit 27 ⟨3, [.int .i64 b, .int .i64 (b % 40)]⟩ 2 ?_
  refine zza 28 (zI 2) (zza 29 (zI 0) (zzb (zzs (sw_rounds 2 ?_))))
  refine sq9 (zza 30 (zB true) (zzb (zzd (zyo xj (zzr (zzo ?_))))))
  refine zzd (zzs (sq9 (zza 31 (.adr 27 0) (zzh 32 (zI b) ty3 zzk (zza 8 (zI b) (zzb (sq9 (zzh 34 (.v (a.v)) ty26 zze (zza 35 (zI b) (zzg 36 18 [a.v, .int .i64 b] ?_))))))))))
  intro w26 u26 e26 d26
  have k32 := k_SqrtO (b := b) d26 (haf.ext (e11.trans (g13.ext.trans (e22.trans (g24.ext.trans e26))))) xq
  with_reducible refine zPm k32 ?_
  rintro _ u30 g31 ⟨r27, r28, rfl, h29⟩
  refine zza 33 (.v (.tuple #[.agg #[.bool r27.s, r27.m.v, r27.d.v, .bool r28.s, r28.m.v, r28.d.v], .int .i64 (Nt.rootE x 2 b)])) (zza 37 (.v (.agg #[.bool r27.s, r27.m.v, r27.d.v, .bool r28.s, r28.m.v, r28.d.v])) (zza 38 (zI (Nt.rootE x 2 b)) (zzj 9 ⟨32, [.bool false, .slice none 0 0, .slice none 0 0, .bool false, .slice none 0 0, .slice none 0 0]⟩ (zzi ⟨32, r27.cs ++ r28.cs⟩ ty32 ?_))))
  refine zza 10 (zI (Nt.rootE x 2 b)) (zzb (sq9 (zzh 40 (.v (a.v)) ty26 zze (zza 41 (zI b) (zzg 42 19 [a.v, .int .i64 b] ?_)))))
  intro w33 u33 e33 d33
  have k39 := k_r10SqrtO (b := b) d33 (haf.ext (e11.trans (g13.ext.trans (e22.trans (g24.ext.trans (e26.trans (g31.ext.trans e33))))))) xq
  with_reducible refine zPm k39 ?_
  rintro _ u37 g38 ⟨r34, r35, rfl, h36⟩
  refine zza 39 (.v (.tuple #[.agg #[.bool r34.s, r34.m.v, r34.d.v, .bool r35.s, r35.m.v, r35.d.v], .int .i64 (Nt.rootE x 2 b)])) (zza 43 (.v (.agg #[.bool r34.s, r34.m.v, r34.d.v, .bool r35.s, r35.m.v, r35.d.v])) (zza 44 (zI (Nt.rootE x 2 b)) (zzj 11 ⟨32, [.bool false, .slice none 0 0, .slice none 0 0, .bool false, .slice none 0 0, .slice none 0 0]⟩ (zzi ⟨32, r34.cs ++ r35.cs⟩ ty32 ?_))))
  refine zza 12 (zI (Nt.rootE x 2 b)) (zzc 101 [(1, zI n), (3, .adr 3 0), (8, zI b), (9, .adr 9 0), (10, zI (Nt.rootE x 2 b)), (11, .adr 11 0), (12, zI (Nt.rootE x 2 b)), (27, .slc 27 0 2 2), (28, zI 2), (29, zI 0)] [(3, ⟨26, a.cs⟩), (9, ⟨32, r27.cs ++ r28.cs⟩), (11, ⟨32, r34.cs ++ r35.cs⟩), (27, ⟨3, [.int .i64 b, .int .i64 (b % 40)]⟩)] (sq9 (zza 45 (zI n) (zzg 46 17 [.int .i64 n, .int .i64 7] ?_))))
  intro w40 u40 e40 d40
  have k43 := k_Mod d40 (n := n) (m := 7) xq xq xq xq
  with_reducible refine zPm k43 ?_
  rintro _ u41 g42 rfl
  refine zza 13 (zI (n % 7)) (zzb (sq9 (zzh 48 (.v (a.v)) ty26 zze (zza 49 (zI (n % 7)) (zza 50 (zI b) (zzg 51 20 [a.v, .int .i64 (n % 7), .int .i64 b] ?_))))))
  intro w44 u44 e44 d44
  have k50 := k_RootO (n := n % 7) (b := b) d44 (haf.ext (e11.trans (g13.ext.trans (e22.trans (g24.ext.trans (e26.trans (g31.ext.trans (e33.trans (g38.ext.trans (e40.trans (g42.ext.trans e44))))))))))) xq
  with_reducible refine zPm k50 ?_
  rintro _ u48 g49 ⟨r45, r46, rfl, h47⟩
  refine zza 47 (.v (.tuple #[.agg #[.bool r45.s, r45.m.v, r45.d.v, .bool r46.s, r46.m.v, r46.d.v], .int .i64 (Nt.rootE x (n % 7) b)])) (zza 52 (.v (.agg #[.bool r45.s, r45.m.v, r45.d.v, .bool r46.s, r46.m.v, r46.d.v])) (zza 53 (zI (Nt.rootE x (n % 7) b)) (zzj 14 ⟨32, [.bool false, .slice none 0 0, .slice none 0 0, .bool false, .slice none 0 0, .slice none 0 0]⟩ (zzi ⟨32, r45.cs ++ r46.cs⟩ ty32 ?_))))
  refine zza 15 (zI (Nt.rootE x (n % 7) b)) (zzb (sq9 (zzh 55 (.v (a.v)) ty26 zze (zza 56 (zI (n % 7)) (zza 57 (zI b) (zzg 58 21 [a.v, .int .i64 (n % 7), .int .i64 b] ?_))))))
  intro w51 u51 e51 d51
  have k57 := k_r10RootO (n := n % 7) (b := b) d51 (haf.ext (e11.trans (g13.ext.trans (e22.trans (g24.ext.trans (e26.trans (g31.ext.trans (e33.trans (g38.ext.trans (e40.trans (g42.ext.trans (e44.trans (g49.ext.trans e51))))))))))))) xq
  with_reducible refine zPm k57 ?_
  rintro _ u55 g56 ⟨r52, r53, rfl, h54⟩
  refine zza 54 (.v (.tuple #[.agg #[.bool r52.s, r52.m.v, r52.d.v, .bool r53.s, r53.m.v, r53.d.v], .int .i64 (Nt.rootE x (n % 7) b)])) (zza 59 (.v (.agg #[.bool r52.s, r52.m.v, r52.d.v, .bool r53.s, r53.m.v, r53.d.v])) (zza 60 (zI (Nt.rootE x (n % 7) b)) (zzj 16 ⟨32, [.bool false, .slice none 0 0, .slice none 0 0, .bool false, .slice none 0 0, .slice none 0 0]⟩ (zzi ⟨32, r52.cs ++ r53.cs⟩ ty32 ?_))))
  refine zza 17 (zI (Nt.rootE x (n % 7) b)) (zzb (sq9 (zza 61 (zI (Nt.rootE x 2 b)) (zza 62 (zI (Nt.rootE x 2 b)) (zza 63 (zB ((Nt.rootE x 2 b) != (Nt.rootE x 2 b))) (zyn 64 (x := zB ((Nt.rootE x 2 b) != (Nt.rootE x 2 b))) (zB false) (by rw [show ((Nt.rootE x 2 b) != (Nt.rootE x 2 b)) = false from (by simp)]) (zza 65 (zI (Nt.rootE x (n % 7) b)) ?_ (hw := w1 3 false 64))))))))
  refine zza 66 (zI (Nt.rootE x (n % 7) b)) ?_ (hw := w1 3 false 64)
  refine zza 67 (zB ((Nt.rootE x (n % 7) b) != (Nt.rootE x (n % 7) b))) ?_ (hw := w1 3 false 64)
  refine zza 68 (zB ((Nt.rootE x (n % 7) b) != (Nt.rootE x (n % 7) b))) (zyn 69 (x := zB ((Nt.rootE x (n % 7) b) != (Nt.rootE x (n % 7) b))) (zB false) (by rw [show ((Nt.rootE x (n % 7) b) != (Nt.rootE x (n % 7) b)) = false from (by simp)]) (zzh 70 (.v (.agg #[.bool r27.s, r27.m.v, r27.d.v, .bool r28.s, r28.m.v, r28.d.v])) ty32 zze ?_ (hw := w1 8 false 69)))
  refine zzh 71 (.v (.agg #[.bool r34.s, r34.m.v, r34.d.v, .bool r35.s, r35.m.v, r35.d.v])) ty32 zze ?_ (hw := w1 8 false 69)
  refine zzg 72 22 [.agg #[.bool r27.s, r27.m.v, r27.d.v, .bool r28.s, r28.m.v, r28.d.v], .agg #[.bool r34.s, r34.m.v, r34.d.v, .bool r35.s, r35.m.v, r35.d.v]] ?_ (hw := w1 8 false 69)
  intro w60 u60 e60 d60
  have k63 := k_r4SameO d60 (h29.ext (e33.trans (g38.ext.trans (e40.trans (g42.ext.trans (e44.trans (g49.ext.trans (e51.trans (g56.ext.trans e60))))))))) (h36.ext (e40.trans (g42.ext.trans (e44.trans (g49.ext.trans (e51.trans (g56.ext.trans e60)))))))
  with_reducible refine zPm k63 ?_
  rintro _ u61 g62 rfl
  refine zza 73 (zB false) ?_ (hw := w1 8 false 69)
  refine zza 74 (zB false) (zza 75 (zB false) (zzh 76 (.v (.agg #[.bool r45.s, r45.m.v, r45.d.v, .bool r46.s, r46.m.v, r46.d.v])) ty32 zze ?_ (hw := w1 14 false 75)))
  refine zzh 77 (.v (.agg #[.bool r52.s, r52.m.v, r52.d.v, .bool r53.s, r53.m.v, r53.d.v])) ty32 zze ?_ (hw := w1 14 false 75)
  refine zzg 78 22 [.agg #[.bool r45.s, r45.m.v, r45.d.v, .bool r46.s, r46.m.v, r46.d.v], .agg #[.bool r52.s, r52.m.v, r52.d.v, .bool r53.s, r53.m.v, r53.d.v]] ?_ (hw := w1 14 false 75)
  intro w64 u64 e64 d64
  have k67 := k_r4SameO d64 (h47.ext (e51.trans (g56.ext.trans (e60.trans (g62.ext.trans e64))))) (h54.ext (e60.trans (g62.ext.trans e64)))
  with_reducible refine zPm k67 ?_
  rintro _ u65 g66 rfl
  refine zza 79 (zB false) ?_ (hw := w1 14 false 75)
  refine zza 80 (zB false) (zzc 101 [(1, zI n), (3, .adr 3 0), (27, .slc 27 0 2 2), (28, zI 2), (29, zI 0), (80, zB false)] [(3, ⟨26, a.cs⟩), (27, ⟨3, [.int .i64 b, .int .i64 (b % 40)]⟩)] (zyp xj (zzr (zzo ?_))))
  refine zzf (zza 81 (zI 1) (zza 29 (zI 1) (zzw ?_)))
  refine rn_next ?_
  refine sw_weak (T := St.of 101 [(1, zI n), (3, .adr 3 0), (27, .slc 27 0 2 2), (28, zI 2), (29, zI 1)] [(3, ⟨26, a.cs⟩), (27, ⟨3, [.int .i64 b, .int .i64 (b % 40)]⟩)]) (by exact zzu _ _ _) ?_
  refine sq9 (zza 30 (zB true) (zzb (zzd (zyo xj (zzr (zzo ?_))))))
  refine zzd (zzs (sq9 (zza 31 (.adr 27 1) (zzh 32 (zI (b % 40)) ty3 zzk (zza 8 (zI (b % 40)) (zzb (sq9 (zzh 34 (.v (a.v)) ty26 zze (zza 35 (zI (b % 40)) (zzg 36 18 [a.v, .int .i64 (b % 40)] ?_))))))))))
  intro w68 u68 e68 d68
  have k74 := k_SqrtO (b := b % 40) d68 (haf.ext (e11.trans (g13.ext.trans (e22.trans (g24.ext.trans (e26.trans (g31.ext.trans (e33.trans (g38.ext.trans (e40.trans (g42.ext.trans (e44.trans (g49.ext.trans (e51.trans (g56.ext.trans (e60.trans (g62.ext.trans (e64.trans (g66.ext.trans e68))))))))))))))))))) xq
  with_reducible refine zPm k74 ?_
  rintro _ u72 g73 ⟨r69, r70, rfl, h71⟩
  refine zza 33 (.v (.tuple #[.agg #[.bool r69.s, r69.m.v, r69.d.v, .bool r70.s, r70.m.v, r70.d.v], .int .i64 (Nt.rootE x 2 (b % 40))])) (zza 37 (.v (.agg #[.bool r69.s, r69.m.v, r69.d.v, .bool r70.s, r70.m.v, r70.d.v])) (zza 38 (zI (Nt.rootE x 2 (b % 40))) (zzj 9 ⟨32, [.bool false, .slice none 0 0, .slice none 0 0, .bool false, .slice none 0 0, .slice none 0 0]⟩ (zzi ⟨32, r69.cs ++ r70.cs⟩ ty32 ?_))))
  refine zza 10 (zI (Nt.rootE x 2 (b % 40))) (zzb (sq9 (zzh 40 (.v (a.v)) ty26 zze (zza 41 (zI (b % 40)) (zzg 42 19 [a.v, .int .i64 (b % 40)] ?_)))))
  intro w75 u75 e75 d75
  have k81 := k_r10SqrtO (b := b % 40) d75 (haf.ext (e11.trans (g13.ext.trans (e22.trans (g24.ext.trans (e26.trans (g31.ext.trans (e33.trans (g38.ext.trans (e40.trans (g42.ext.trans (e44.trans (g49.ext.trans (e51.trans (g56.ext.trans (e60.trans (g62.ext.trans (e64.trans (g66.ext.trans (e68.trans (g73.ext.trans e75))))))))))))))))))))) xq
  with_reducible refine zPm k81 ?_
  rintro _ u79 g80 ⟨r76, r77, rfl, h78⟩
  refine zza 39 (.v (.tuple #[.agg #[.bool r76.s, r76.m.v, r76.d.v, .bool r77.s, r77.m.v, r77.d.v], .int .i64 (Nt.rootE x 2 (b % 40))])) (zza 43 (.v (.agg #[.bool r76.s, r76.m.v, r76.d.v, .bool r77.s, r77.m.v, r77.d.v])) (zza 44 (zI (Nt.rootE x 2 (b % 40))) (zzj 11 ⟨32, [.bool false, .slice none 0 0, .slice none 0 0, .bool false, .slice none 0 0, .slice none 0 0]⟩ (zzi ⟨32, r76.cs ++ r77.cs⟩ ty32 ?_))))
  refine zza 12 (zI (Nt.rootE x 2 (b % 40))) (zzb (sq9 (zza 45 (zI n) (zzg 46 17 [.int .i64 n, .int .i64 7] ?_))))
  intro w82 u82 e82 d82
  have k85 := k_Mod d82 (n := n) (m := 7) xq xq xq xq
  with_reducible refine zPm k85 ?_
  rintro _ u83 g84 rfl
  refine zza 13 (zI (n % 7)) (zzb (sq9 (zzh 48 (.v (a.v)) ty26 zze (zza 49 (zI (n % 7)) (zza 50 (zI (b % 40)) (zzg 51 20 [a.v, .int .i64 (n % 7), .int .i64 (b % 40)] ?_))))))
  intro w86 u86 e86 d86
  have k92 := k_RootO (n := n % 7) (b := b % 40) d86 (haf.ext (e11.trans (g13.ext.trans (e22.trans (g24.ext.trans (e26.trans (g31.ext.trans (e33.trans (g38.ext.trans (e40.trans (g42.ext.trans (e44.trans (g49.ext.trans (e51.trans (g56.ext.trans (e60.trans (g62.ext.trans (e64.trans (g66.ext.trans (e68.trans (g73.ext.trans (e75.trans (g80.ext.trans (e82.trans (g84.ext.trans e86))))))))))))))))))))))))) xq
  with_reducible refine zPm k92 ?_
  rintro _ u90 g91 ⟨r87, r88, rfl, h89⟩
  refine zza 47 (.v (.tuple #[.agg #[.bool r87.s, r87.m.v, r87.d.v, .bool r88.s, r88.m.v, r88.d.v], .int .i64 (Nt.rootE x (n % 7) (b % 40))])) (zza 52 (.v (.agg #[.bool r87.s, r87.m.v, r87.d.v, .bool r88.s, r88.m.v, r88.d.v])) (zza 53 (zI (Nt.rootE x (n % 7) (b % 40))) (zzj 14 ⟨32, [.bool false, .slice none 0 0, .slice none 0 0, .bool false, .slice none 0 0, .slice none 0 0]⟩ (zzi ⟨32, r87.cs ++ r88.cs⟩ ty32 ?_))))
  refine zza 15 (zI (Nt.rootE x (n % 7) (b % 40))) (zzc 101 [(1, zI n), (3, .adr 3 0), (8, zI (b % 40)), (9, .adr 9 0), (10, zI (Nt.rootE x 2 (b % 40))), (11, .adr 11 0), (12, zI (Nt.rootE x 2 (b % 40))), (13, zI (n % 7)), (14, .adr 14 0), (15, zI (Nt.rootE x (n % 7) (b % 40))), (27, .slc 27 0 2 2), (28, zI 2), (29, zI 1)] [(3, ⟨26, a.cs⟩), (9, ⟨32, r69.cs ++ r70.cs⟩), (11, ⟨32, r76.cs ++ r77.cs⟩), (14, ⟨32, r87.cs ++ r88.cs⟩), (27, ⟨3, [.int .i64 b, .int .i64 (b % 40)]⟩)] (sq9 (zzh 55 (.v (a.v)) ty26 zze (zza 56 (zI (n % 7)) (zza 57 (zI (b % 40)) (zzg 58 21 [a.v, .int .i64 (n % 7), .int .i64 (b % 40)] ?_))))))
  intro w93 u93 e93 d93
  have k99 := k_r10RootO (n := n % 7) (b := b % 40) d93 (haf.ext (e11.trans (g13.ext.trans (e22.trans (g24.ext.trans (e26.trans (g31.ext.trans (e33.trans (g38.ext.trans (e40.trans (g42.ext.trans (e44.trans (g49.ext.trans (e51.trans (g56.ext.trans (e60.trans (g62.ext.trans (e64.trans (g66.ext.trans (e68.trans (g73.ext.trans (e75.trans (g80.ext.trans (e82.trans (g84.ext.trans (e86.trans (g91.ext.trans e93))))))))))))))))))))))))))) xq
  with_reducible refine zPm k99 ?_
  rintro _ u97 g98 ⟨r94, r95, rfl, h96⟩
  refine zza 54 (.v (.tuple #[.agg #[.bool r94.s, r94.m.v, r94.d.v, .bool r95.s, r95.m.v, r95.d.v], .int .i64 (Nt.rootE x (n % 7) (b % 40))])) (zza 59 (.v (.agg #[.bool r94.s, r94.m.v, r94.d.v, .bool r95.s, r95.m.v, r95.d.v])) (zza 60 (zI (Nt.rootE x (n % 7) (b % 40))) (zzj 16 ⟨32, [.bool false, .slice none 0 0, .slice none 0 0, .bool false, .slice none 0 0, .slice none 0 0]⟩ (zzi ⟨32, r94.cs ++ r95.cs⟩ ty32 ?_))))
  refine zza 17 (zI (Nt.rootE x (n % 7) (b % 40))) (zzb (sq9 (zza 61 (zI (Nt.rootE x 2 (b % 40))) (zza 62 (zI (Nt.rootE x 2 (b % 40))) (zza 63 (zB ((Nt.rootE x 2 (b % 40)) != (Nt.rootE x 2 (b % 40)))) (zyn 64 (x := zB ((Nt.rootE x 2 (b % 40)) != (Nt.rootE x 2 (b % 40)))) (zB false) (by rw [show ((Nt.rootE x 2 (b % 40)) != (Nt.rootE x 2 (b % 40))) = false from (by simp)]) (zza 65 (zI (Nt.rootE x (n % 7) (b % 40))) ?_ (hw := w1 3 false 64))))))))
  refine zza 66 (zI (Nt.rootE x (n % 7) (b % 40))) ?_ (hw := w1 3 false 64)
  refine zza 67 (zB ((Nt.rootE x (n % 7) (b % 40)) != (Nt.rootE x (n % 7) (b % 40)))) ?_ (hw := w1 3 false 64)
  refine zza 68 (zB ((Nt.rootE x (n % 7) (b % 40)) != (Nt.rootE x (n % 7) (b % 40)))) (zyn 69 (x := zB ((Nt.rootE x (n % 7) (b % 40)) != (Nt.rootE x (n % 7) (b % 40)))) (zB false) (by rw [show ((Nt.rootE x (n % 7) (b % 40)) != (Nt.rootE x (n % 7) (b % 40))) = false from (by simp)]) (zzh 70 (.v (.agg #[.bool r69.s, r69.m.v, r69.d.v, .bool r70.s, r70.m.v, r70.d.v])) ty32 zze ?_ (hw := w1 8 false 69)))
  refine zzh 71 (.v (.agg #[.bool r76.s, r76.m.v, r76.d.v, .bool r77.s, r77.m.v, r77.d.v])) ty32 zze ?_ (hw := w1 8 false 69)
  refine zzg 72 22 [.agg #[.bool r69.s, r69.m.v, r69.d.v, .bool r70.s, r70.m.v, r70.d.v], .agg #[.bool r76.s, r76.m.v, r76.d.v, .bool r77.s, r77.m.v, r77.d.v]] ?_ (hw := w1 8 false 69)
  intro w102 u102 e102 d102
  have k105 := k_r4SameO d102 (h71.ext (e75.trans (g80.ext.trans (e82.trans (g84.ext.trans (e86.trans (g91.ext.trans (e93.trans (g98.ext.trans e102))))))))) (h78.ext (e82.trans (g84.ext.trans (e86.trans (g91.ext.trans (e93.trans (g98.ext.trans e102)))))))
  with_reducible refine zPm k105 ?_
  rintro _ u103 g104 rfl
  refine zza 73 (zB false) ?_ (hw := w1 8 false 69)
  refine zza 74 (zB false) (zza 75 (zB false) (zzh 76 (.v (.agg #[.bool r87.s, r87.m.v, r87.d.v, .bool r88.s, r88.m.v, r88.d.v])) ty32 zze ?_ (hw := w1 14 false 75)))
  refine zzh 77 (.v (.agg #[.bool r94.s, r94.m.v, r94.d.v, .bool r95.s, r95.m.v, r95.d.v])) ty32 zze ?_ (hw := w1 14 false 75)
  refine zzg 78 22 [.agg #[.bool r87.s, r87.m.v, r87.d.v, .bool r88.s, r88.m.v, r88.d.v], .agg #[.bool r94.s, r94.m.v, r94.d.v, .bool r95.s, r95.m.v, r95.d.v]] ?_ (hw := w1 14 false 75)
  intro w106 u106 e106 d106
  have k109 := k_r4SameO d106 (h89.ext (e93.trans (g98.ext.trans (e102.trans (g104.ext.trans e106))))) (h96.ext (e102.trans (g104.ext.trans e106)))
  with_reducible refine zPm k109 ?_
  rintro _ u107 g108 rfl
  refine zza 79 (zB false) ?_ (hw := w1 14 false 75)
  refine zza 80 (zB false) (zzb (zyp xj (zzr (zzo ?_))))
  refine zzf (zza 81 (zI 2) (zza 29 (zI 2) (zzw ?_)))
  refine rn_next ?_
  refine sw_weak (T := St.of 101 [(1, zI n), (3, .adr 3 0), (27, .slc 27 0 2 2), (28, zI 2), (29, zI 2)] [(3, ⟨26, a.cs⟩), (27, ⟨3, [.int .i64 b, .int .i64 (b % 40)]⟩)]) (by exact zzu _ _ _) ?_
  refine sq9 (zza 30 (zB false) (zzc 101 [(1, zI n), (3, .adr 3 0), (27, .slc 27 0 2 2), (28, zI 2), (29, zI 2), (30, zB false)] [(3, ⟨26, a.cs⟩), (27, ⟨3, [.int .i64 b, .int .i64 (b % 40)]⟩)] (zzd (zyp xj (zyb (zzo (sq9 (zzh 83 (.v (a.v)) ty26 zze (zzg 84 23 [a.v] ?_)))))))))
  intro w110 u110 e110 d110
  have k115 := k_rqAbs d110 (haf.ext (e11.trans (g13.ext.trans (e22.trans (g24.ext.trans (e26.trans (g31.ext.trans (e33.trans (g38.ext.trans (e40.trans (g42.ext.trans (e44.trans (g49.ext.trans (e51.trans (g56.ext.trans (e60.trans (g62.ext.trans (e64.trans (g66.ext.trans (e68.trans (g73.ext.trans (e75.trans (g80.ext.trans (e82.trans (g84.ext.trans (e86.trans (g91.ext.trans (e93.trans (g98.ext.trans (e102.trans (g104.ext.trans (e106.trans (g108.ext.trans e110))))))))))))))))))))))))))))))))) xq
  with_reducible refine zPm k115 ?_
  rintro _ u113 g114 ⟨r111, rfl, h112⟩
  refine zza 85 (zI n) (zzg 86 20 [r111.v, .int .i64 n, .int .i64 4] ?_)
  intro w116 u116 e116 d116
  have k122 := k_RootO (n := n) (b := 4) d116 (h112.ext e116).raw xq
  with_reducible refine zPm k122 ?_
  rintro _ u120 g121 ⟨r117, r118, rfl, h119⟩
  refine zza 82 (.v (.tuple #[.agg #[.bool r117.s, r117.m.v, r117.d.v, .bool r118.s, r118.m.v, r118.d.v], .int .i64 (Nt.rootE (Nt.absQ x) n (4 : Int))])) (zza 87 (.v (.agg #[.bool r117.s, r117.m.v, r117.d.v, .bool r118.s, r118.m.v, r118.d.v])) (zza 88 (zI (Nt.rootE (Nt.absQ x) n (4 : Int))) (zzj 18 ⟨32, [.bool false, .slice none 0 0, .slice none 0 0, .bool false, .slice none 0 0, .slice none 0 0]⟩ (zzi ⟨32, r117.cs ++ r118.cs⟩ ty32 ?_))))
  refine zza 19 (zI (Nt.rootE (Nt.absQ x) n (4 : Int))) (zzb (sq9 (zzg 89 16 [] ?_)))
  intro w123 u123 e123 d123
  have k126 := k_awake10 d123
  with_reducible refine zPm k126 ?_
  rintro _ u124 g125 rfl
  refine zza 90 (zB true) (zza 91 (zI (Nt.rootE (Nt.absQ x) n (4 : Int))) ?_ (hw := w1 1 true 90))
  refine zza 92 (zB ((Nt.rootE (Nt.absQ x) n (4 : Int)) == 1)) ?_ (hw := w1 1 true 90)
  refine zza 93 (zI n) ?_ (hw := w1 1 true 90)
  refine zza 94 (zB (decide (n < 1))) ?_ (hw := w1 1 true 90)
  rcases Bool.eq_false_or_eq_true (decide (n < 1)) with hs127 | hs127
  ·refine zyn 95 (x := zB (decide (n < 1))) (zB true) (by rw [hs127]) ?_ (hw := w1 1 true 90)
   have qhs127 := of_decide_eq_true hs127
   refine zzm 96 (uw 6 false true 95) (zzm 97 (uw 6 false true 95) (zza 98 (zB true) ?_ (hw := w1 1 true 90)))
   refine zza 99 (zB (((Nt.rootE (Nt.absQ x) n (4 : Int)) == 1) == true)) ?_ (hw := w1 1 true 90)
   refine zza 100 (zB (((Nt.rootE (Nt.absQ x) n (4 : Int)) == 1) == true)) (zza 6 (zB (((Nt.rootE (Nt.absQ x) n (4 : Int)) == 1) == true)) (zzb (zzn (ret0 [.bool (((Nt.rootE (Nt.absQ x) n (4 : Int)) == 1) == true)] ⟨zzp, trivial⟩ fun u128 e129 => ?_))))
   show Value.bool _ = Value.bool true
   congr 1
   have h9 := Nt.rootE_abs x n
   skip
   rw [h9]
   simp [hs127]
  ·refine zyn 95 (x := zB (decide (n < 1))) (zB false) (by rw [hs127]) ?_ (hw := w1 1 true 90)
   have qhs127 := of_decide_eq_false hs127
   refine zza 96 (zI n) ?_ (hw := w1 6 false 95)
   refine zza 97 (zB (decide ((64 : Int) < n))) ?_ (hw := w1 6 false 95)
   refine zza 98 (zB (decide ((64 : Int) < n))) ?_ (hw := w1 1 true 90)
   refine zza 99 (zB (((Nt.rootE (Nt.absQ x) n (4 : Int)) == 1) == (decide ((64 : Int) < n)))) ?_ (hw := w1 1 true 90)
   refine zza 100 (zB (((Nt.rootE (Nt.absQ x) n (4 : Int)) == 1) == (decide ((64 : Int) < n)))) (zza 6 (zB (((Nt.rootE (Nt.absQ x) n (4 : Int)) == 1) == (decide ((64 : Int) < n)))) (zzb (zzn (ret0 [.bool (((Nt.rootE (Nt.absQ x) n (4 : Int)) == 1) == (decide ((64 : Int) < n)))] ⟨zzp, trivial⟩ fun u130 e131 => ?_))))
   show Value.bool _ = Value.bool true
   congr 1
   have h9 := Nt.rootE_abs x n
   skip
   rw [h9]
   simp [hs127]
end Go.Proofs.YtbolmkfphieogaaGreat
