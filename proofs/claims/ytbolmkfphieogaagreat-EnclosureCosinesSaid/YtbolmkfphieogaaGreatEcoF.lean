/- The reference: pi, the cosine, tightest enclosures. Printed by wip/sym/g_ek.py. The reference: tightest enclosures of pi and of cosines. Printed by wip/sym/g_el.py. The reference: tightest enclosures of cosines. Printed by wip/sym/g_em.py. The reference: SinPi. Printed by wip/sym/g_eo.py. EnclosureCosines, walked. Printed by wip/sym/g_ep.py. -/
import Derived.Test.YtbolmkfphieogaaGreatEcoE
namespace Go.Proofs.YtbolmkfphieogaaGreat
open Go.RowKit
set_option linter.unusedVariables false
set_option maxHeartbeats 2000000 in
theorem k_r10pi {u w : World} {k : Nat} (d : Dat u w) (hk0 : 16 ≤ k) (hk : k ≤ 800) : Calls Tryz.prog 104 #[.int .i64 (k : Int)] w (Post u w fun v u' => ∃ (r1 r2 : RL) (a b : Int), v = IV r1 r2 ∧ RatN u' r1 (Nt.gr k a) 40 ∧ RatN u' r2 (Nt.gr k b) 40 ∧ Nt.PiR k a b) := by
 have hbig := Nt.big hk
 have hu2 := Nt.u2_pos k
 refine zzl (args := [.int .i64 k]) Tryz.func104 rfl Tryz.ntmps104 (rs := [.cell 2 32]) Tryz.results104 (le_b rfl) (le_b rfl) d ?_
 refine sq9 (zzj 2 ⟨32, [.bool false, .slice none 0 0, .slice none 0 0, .bool false, .slice none 0 0, .slice none 0 0]⟩ (zzb (sq9 (zza 5 (zI k) (zzg 6 185 [.int .i64 5, .int .i64 k] ?_)))))
 intro w11 u11 e11 d11
 have k15 := k_atan d11 (n := 5) (k := k) xq xq xq
 with_reducible refine zPm k15 ?_
 rintro _ u13 g14 ⟨si12, sj12, sa12, sb12, rfl, ha12, hb12, hR12⟩
 refine zzg 7 30 [.int .i64 16] ?_
 intro w16 u16 e16 d16
 have k21 := k_rqOf d16 (z := 16) xq xq
 with_reducible refine zPm k21 ?_
 rintro _ u19 g20 ⟨r17, rfl, h18⟩
 refine zzg 8 30 [.int .i64 16] ?_
 intro w22 u22 e22 d22
 have k27 := k_rqOf d22 (z := 16) xq xq
 with_reducible refine zPm k27 ?_
 rintro _ u25 g26 ⟨r23, rfl, h24⟩
 refine zzg 9 38 [r17.v, r23.v] ?_
 intro w28 u28 e28 d28
 have k35 := k_r4Make d28 (h18.ext (e22.trans (g26.ext.trans e28))).raw (h24.ext e28).raw xq
 with_reducible refine zPm k35 ?_
 rintro _ u33 g34 ⟨r29, r31, rfl, h30, h32⟩
 refine zzg 10 68 [.agg #[.bool si12.s, si12.m.v, si12.d.v, .bool sj12.s, sj12.m.v, sj12.d.v], .agg #[.bool r29.s, r29.m.v, r29.d.v, .bool r31.s, r31.m.v, r31.d.v]] ?_
 intro w36 u36 e36 d36
 have k43 := k_r4Mul d36 (ha12.ext (e16.trans (g20.ext.trans (e22.trans (g26.ext.trans (e28.trans (g34.ext.trans e36))))))).raw (hb12.ext (e16.trans (g20.ext.trans (e22.trans (g26.ext.trans (e28.trans (g34.ext.trans e36))))))).raw (h30.ext e36).raw (h32.ext e36).raw xq xq
 with_reducible refine zPm k43 ?_
 rintro _ u41 g42 ⟨r37, r39, rfl, h38, h40⟩
 refine zzj 3 ⟨32, [.bool false, .slice none 0 0, .slice none 0 0, .bool false, .slice none 0 0, .slice none 0 0]⟩ (zzi ⟨32, r37.cs ++ r39.cs⟩ ty32 ?_)
 refine zzb (zzd ?_)
 have hab44 := (Nt.atR_bd hR12 xq).2.2.2.2
 have hn45 : RatN u41 r37 (Nt.gr k (sa12 * 16)) (40 + 2 + 1) := by have h9 := h38; rw [show (Nt.lo4 ((Nt.gr k sa12) * (Nt.lo ((16 : Int) : Rat) ((16 : Int) : Rat))) ((Nt.gr k sa12) * (Nt.hi ((16 : Int) : Rat) ((16 : Int) : Rat))) ((Nt.gr k sb12) * (Nt.lo ((16 : Int) : Rat) ((16 : Int) : Rat))) ((Nt.gr k sb12) * (Nt.hi ((16 : Int) : Rat) ((16 : Int) : Rat)))) = (Nt.gr k (sa12 * 16)) from (Nt.pi_m (m := 16) hab44).1] at h9; exact h9
 have hn46 : RatN u41 r39 (Nt.gr k (sb12 * 16)) (40 + 2 + 1) := by have h9 := h40; rw [show (Nt.hi4 ((Nt.gr k sa12) * (Nt.lo ((16 : Int) : Rat) ((16 : Int) : Rat))) ((Nt.gr k sa12) * (Nt.hi ((16 : Int) : Rat) ((16 : Int) : Rat))) ((Nt.gr k sb12) * (Nt.lo ((16 : Int) : Rat) ((16 : Int) : Rat))) ((Nt.gr k sb12) * (Nt.hi ((16 : Int) : Rat) ((16 : Int) : Rat)))) = (Nt.gr k (sb12 * 16)) from (Nt.pi_m (m := 16) hab44).2] at h9; exact h9
 refine zzf (zza 11 (zI k) (zzg 12 185 [.int .i64 239, .int .i64 k] ?_))
 intro w47 u47 e47 d47
 have k51 := k_atan d47 (n := 239) (k := k) xq xq xq
 with_reducible refine zPm k51 ?_
 rintro _ u49 g50 ⟨si48, sj48, sa48, sb48, rfl, ha48, hb48, hR48⟩
 refine zzg 13 30 [.int .i64 4] ?_
 intro w52 u52 e52 d52
 have k57 := k_rqOf d52 (z := 4) xq xq
 with_reducible refine zPm k57 ?_
 rintro _ u55 g56 ⟨r53, rfl, h54⟩
 refine zzg 14 30 [.int .i64 4] ?_
 intro w58 u58 e58 d58
 have k63 := k_rqOf d58 (z := 4) xq xq
 with_reducible refine zPm k63 ?_
 rintro _ u61 g62 ⟨r59, rfl, h60⟩
 refine zzg 15 38 [r53.v, r59.v] ?_
 intro w64 u64 e64 d64
 have k71 := k_r4Make d64 (h54.ext (e58.trans (g62.ext.trans e64))).raw (h60.ext e64).raw xq
 with_reducible refine zPm k71 ?_
 rintro _ u69 g70 ⟨r65, r67, rfl, h66, h68⟩
 refine zzg 16 68 [.agg #[.bool si48.s, si48.m.v, si48.d.v, .bool sj48.s, sj48.m.v, sj48.d.v], .agg #[.bool r65.s, r65.m.v, r65.d.v, .bool r67.s, r67.m.v, r67.d.v]] ?_
 intro w72 u72 e72 d72
 have k79 := k_r4Mul d72 (ha48.ext (e52.trans (g56.ext.trans (e58.trans (g62.ext.trans (e64.trans (g70.ext.trans e72))))))).raw (hb48.ext (e52.trans (g56.ext.trans (e58.trans (g62.ext.trans (e64.trans (g70.ext.trans e72))))))).raw (h66.ext e72).raw (h68.ext e72).raw xq xq
 with_reducible refine zPm k79 ?_
 rintro _ u77 g78 ⟨r73, r75, rfl, h74, h76⟩
 refine zzj 4 ⟨32, [.bool false, .slice none 0 0, .slice none 0 0, .bool false, .slice none 0 0, .slice none 0 0]⟩ (zzi ⟨32, r73.cs ++ r75.cs⟩ ty32 ?_)
 refine zzb (zzd ?_)
 have hab80 := (Nt.atR_bd hR48 xq).2.2.2.2
 have hn81 : RatN u77 r73 (Nt.gr k (sa48 * 4)) (40 + 2 + 1) := by have h9 := h74; rw [show (Nt.lo4 ((Nt.gr k sa48) * (Nt.lo ((4 : Int) : Rat) ((4 : Int) : Rat))) ((Nt.gr k sa48) * (Nt.hi ((4 : Int) : Rat) ((4 : Int) : Rat))) ((Nt.gr k sb48) * (Nt.lo ((4 : Int) : Rat) ((4 : Int) : Rat))) ((Nt.gr k sb48) * (Nt.hi ((4 : Int) : Rat) ((4 : Int) : Rat)))) = (Nt.gr k (sa48 * 4)) from (Nt.pi_m (m := 4) hab80).1] at h9; exact h9
 have hn82 : RatN u77 r75 (Nt.gr k (sb48 * 4)) (40 + 2 + 1) := by have h9 := h76; rw [show (Nt.hi4 ((Nt.gr k sa48) * (Nt.lo ((4 : Int) : Rat) ((4 : Int) : Rat))) ((Nt.gr k sa48) * (Nt.hi ((4 : Int) : Rat) ((4 : Int) : Rat))) ((Nt.gr k sb48) * (Nt.lo ((4 : Int) : Rat) ((4 : Int) : Rat))) ((Nt.gr k sb48) * (Nt.hi ((4 : Int) : Rat) ((4 : Int) : Rat)))) = (Nt.gr k (sb48 * 4)) from (Nt.pi_m (m := 4) hab80).2] at h9; exact h9
 refine zzf (zzh 17 (.v (.agg #[.bool r37.s, r37.m.v, r37.d.v, .bool r39.s, r39.m.v, r39.d.v])) ty32 zze (zzh 18 (.v (.agg #[.bool r73.s, r73.m.v, r73.d.v, .bool r75.s, r75.m.v, r75.d.v])) ty32 zze (zzg 19 145 [.agg #[.bool r37.s, r37.m.v, r37.d.v, .bool r39.s, r39.m.v, r39.d.v], .agg #[.bool r73.s, r73.m.v, r73.d.v, .bool r75.s, r75.m.v, r75.d.v]] ?_)))
 intro w83 u83 e83 d83
 have k90 := k_r4Sub d83 (hn45.ext (e47.trans (g50.ext.trans (e52.trans (g56.ext.trans (e58.trans (g62.ext.trans (e64.trans (g70.ext.trans (e72.trans (g78.ext.trans e83))))))))))).raw (hn46.ext (e47.trans (g50.ext.trans (e52.trans (g56.ext.trans (e58.trans (g62.ext.trans (e64.trans (g70.ext.trans (e72.trans (g78.ext.trans e83))))))))))).raw (hn81.ext e83).raw (hn82.ext e83).raw xq xq
 with_reducible refine zPm k90 ?_
 rintro _ u88 g89 ⟨r84, r86, rfl, h85, h87⟩
 refine zzi ⟨32, r84.cs ++ r86.cs⟩ ty32 ?_
 refine zzb (zzn (ret0 [.agg #[.bool r84.s, .slice r84.m.a r84.m.n r84.m.c, .slice r84.d.a r84.d.n r84.d.c, .bool r86.s, .slice r86.m.a r86.m.n r86.m.c, .slice r86.d.a r86.d.n r86.d.c]] ⟨zzq ty32 zze, trivial⟩ fun u91 e92 => ?_))
 have hP := Nt.PiR.of hR12 hR48
 have hb9 := hP.bd hk0
 refine ⟨r84, r86, _, _, rfl, RatN.limG (K := ((40 + 2 + 1) + (40 + 2 + 1) + 2)) (z := sa12 * 16 - sb48 * 4) ?_ xq xq hk, RatN.limG (K := ((40 + 2 + 1) + (40 + 2 + 1) + 2)) (z := sb12 * 16 - sa48 * 4) ?_ xq xq hk, hP⟩
 ·have h9 := (h85.ext e92)
  rw [(Nt.cs_s xq xq).1] at h9
  exact h9
 ·have h9 := (h87.ext e92)
  rw [(Nt.cs_s xq xq).2] at h9
  exact h9
set_option maxHeartbeats 4000000 in
theorem k_r10cos {u w : World} {a1 a2 : RL} {p q k K : Nat} {a b : Int} (d : Dat u w) (hP : Nt.PiR k a b) (hq0 : 0 < q) (hp : 2 * p ≤ q) (hp1 : 1 ≤ p) (hk0 : 16 ≤ k) (hk : k ≤ 800) (ha1 : RatN u a1 (Nt.gr k a * (((p : Int) : Rat) / ((q : Int) : Rat))) K) (ha2 : RatN u a2 (Nt.gr k b * (((p : Int) : Rat) / ((q : Int) : Rat))) K) (hK : K ≤ 1000) : Calls Tryz.prog 106 #[IV a1 a2, .int .i64 (k : Int)] w (Post u w fun v u' => ∃ (r1 r2 : RL) (a b : Int), v = IV r1 r2 ∧ RatN u' r1 (Nt.gr k a) 40 ∧ RatN u' r2 (Nt.gr k b) 40 ∧ Nt.CsR p q k a b) := by
 have hbig := Nt.big hk
 have hu2 := Nt.u2_pos k
 have hw0 := Nt.csW_le hk
 have hQ0 : Nt.CsQ p q k (Nt.flU k ((Nt.gr k a * (((p : Int) : Rat) / ((q : Int) : Rat))) * (Nt.gr k a * (((p : Int) : Rat) / ((q : Int) : Rat))))) (Nt.ceU k ((Nt.gr k b * (((p : Int) : Rat) / ((q : Int) : Rat))) * (Nt.gr k b * (((p : Int) : Rat) / ((q : Int) : Rat))))) ∧ 0 ≤ (Nt.gr k a * (((p : Int) : Rat) / ((q : Int) : Rat))) ∧ (Nt.gr k a * (((p : Int) : Rat) / ((q : Int) : Rat))) ≤ (Nt.gr k b * (((p : Int) : Rat) / ((q : Int) : Rat))) ∧ 0 < (Nt.gr k b * (((p : Int) : Rat) / ((q : Int) : Rat))) := Nt.CsQ.ofR hP hk0 hq0 hp hp1
 obtain ⟨hQ, hx0, hxy, hy0⟩ := hQ0
 have hS := Nt.sq_of_nn hx0 hxy hy0
 obtain ⟨ql, hql⟩ : ∃ z : Int, Nt.flU k ((Nt.gr k a * (((p : Int) : Rat) / ((q : Int) : Rat))) * (Nt.gr k a * (((p : Int) : Rat) / ((q : Int) : Rat)))) = z := ⟨_, rfl⟩
 obtain ⟨qh, hqh⟩ : ∃ z : Int, Nt.ceU k ((Nt.gr k b * (((p : Int) : Rat) / ((q : Int) : Rat))) * (Nt.gr k b * (((p : Int) : Rat) / ((q : Int) : Rat)))) = z := ⟨_, rfl⟩
 rw [hql, hqh] at hQ
 obtain ⟨_, hQ2, hQ3, hQ4, hQ5, hQ6⟩ := id hQ
 refine zzl (args := [.agg #[.bool a1.s, .slice a1.m.a a1.m.n a1.m.c, .slice a1.d.a a1.d.n a1.d.c, .bool a2.s, .slice a2.m.a a2.m.n a2.m.c, .slice a2.d.a a2.d.n a2.d.c], .int .i64 k]) Tryz.func106 rfl Tryz.ntmps106 (rs := [.cell 4 32]) Tryz.results106 (le_b rfl) (le_b rfl) d ?_
 refine sq9 (zzj 2 ⟨32, a1.cs ++ a2.cs⟩ (zzj 4 ⟨32, [.bool false, .slice none 0 0, .slice none 0 0, .bool false, .slice none 0 0, .slice none 0 0]⟩ (zzb (sq9 (zzg 11 30 [.int .i64 0] ?_)))))
 intro w11 u11 e11 d11
 have k16 := k_rqOf d11 (z := 0) xq xq
 with_reducible refine zPm k16 ?_
 rintro _ u14 g15 ⟨r12, rfl, h13⟩
 refine zzg 12 30 [.int .i64 0] ?_
 intro w17 u17 e17 d17
 have k22 := k_rqOf d17 (z := 0) xq xq
 with_reducible refine zPm k22 ?_
 rintro _ u20 g21 ⟨r18, rfl, h19⟩
 refine zzg 13 38 [r12.v, r18.v] ?_
 intro w23 u23 e23 d23
 have k30 := k_r4Make d23 (h13.ext (e17.trans (g21.ext.trans e23))).raw (h19.ext e23).raw xq
 with_reducible refine zPm k30 ?_
 rintro _ u28 g29 ⟨r24, r26, rfl, h25, h27⟩
 refine zzj 5 ⟨32, [.bool false, .slice none 0 0, .slice none 0 0, .bool false, .slice none 0 0, .slice none 0 0]⟩ (zzi ⟨32, r24.cs ++ r26.cs⟩ ty32 ?_)
 refine zzb (sq9 (zzg 14 30 [.int .i64 1] ?_))
 intro w31 u31 e31 d31
 have k36 := k_rqOf d31 (z := 1) xq xq
 with_reducible refine zPm k36 ?_
 rintro _ u34 g35 ⟨r32, rfl, h33⟩
 refine zzg 15 30 [.int .i64 1] ?_
 intro w37 u37 e37 d37
 have k42 := k_rqOf d37 (z := 1) xq xq
 with_reducible refine zPm k42 ?_
 rintro _ u40 g41 ⟨r38, rfl, h39⟩
 refine zzg 16 38 [r32.v, r38.v] ?_
 intro w43 u43 e43 d43
 have k50 := k_r4Make d43 (h33.ext (e37.trans (g41.ext.trans e43))).raw (h39.ext e43).raw xq
 with_reducible refine zPm k50 ?_
 rintro _ u48 g49 ⟨r44, r46, rfl, h45, h47⟩
 refine zzj 6 ⟨32, [.bool false, .slice none 0 0, .slice none 0 0, .bool false, .slice none 0 0, .slice none 0 0]⟩ (zzi ⟨32, r44.cs ++ r46.cs⟩ ty32 ?_)
 refine zzb (sq9 (zzh 17 (.v (.agg #[.bool a1.s, a1.m.v, a1.d.v, .bool a2.s, a2.m.v, a2.d.v])) ty32 zze (zzg 18 44 [.agg #[.bool a1.s, a1.m.v, a1.d.v, .bool a2.s, a2.m.v, a2.d.v]] ?_)))
 intro w51 u51 e51 d51
 have k58 := k_r4Square d51 (ha1.ext (e11.trans (g15.ext.trans (e17.trans (g21.ext.trans (e23.trans (g29.ext.trans (e31.trans (g35.ext.trans (e37.trans (g41.ext.trans (e43.trans (g49.ext.trans e51))))))))))))).raw (ha2.ext (e11.trans (g15.ext.trans (e17.trans (g21.ext.trans (e23.trans (g29.ext.trans (e31.trans (g35.ext.trans (e37.trans (g41.ext.trans (e43.trans (g49.ext.trans e51))))))))))))).raw xq
 with_reducible refine zPm k58 ?_
 rintro _ u56 g57 ⟨r52, r54, rfl, h53, h55⟩
 refine zza 19 (zI k) (zzg 20 187 [.agg #[.bool r52.s, r52.m.v, r52.d.v, .bool r54.s, r54.m.v, r54.d.v], .int .i64 k] ?_)
 intro w59 u59 e59 d59
 have k66 := k_wide (k := k) d59 (h53.ext e59).raw (h55.ext e59).raw xq xq
 with_reducible refine zPm k66 ?_
 rintro _ u64 g65 ⟨r60, r62, rfl, h61, h63⟩
 refine zzj 7 ⟨32, [.bool false, .slice none 0 0, .slice none 0 0, .bool false, .slice none 0 0, .slice none 0 0]⟩ (zzi ⟨32, r60.cs ++ r62.cs⟩ ty32 ?_)
 refine zzb (zzd ?_)
 have hn67 : RatN u64 r60 (Nt.gr k ql) ((K + K + 3) + 70) := by have h9 := h61; rw [show (Nt.gr k (Nt.flU k (if Nt.sgI (Nt.gr k a * (((p : Int) : Rat) / ((q : Int) : Rat))) (Nt.gr k b * (((p : Int) : Rat) / ((q : Int) : Rat))) = 0 then 0 else Nt.lo ((Nt.gr k a * (((p : Int) : Rat) / ((q : Int) : Rat))) * (Nt.gr k a * (((p : Int) : Rat) / ((q : Int) : Rat)))) ((Nt.gr k b * (((p : Int) : Rat) / ((q : Int) : Rat))) * (Nt.gr k b * (((p : Int) : Rat) / ((q : Int) : Rat))))))) = (Nt.gr k ql) from (congrArg (fun z => Nt.gr k (Nt.flU k z)) hS.1).trans (by rw [hql])] at h9; exact h9
 have hn68 : RatN u64 r62 (Nt.gr k qh) ((K + K + 3) + 70) := by have h9 := h63; rw [show (Nt.gr k (Nt.ceU k (Nt.hi ((Nt.gr k a * (((p : Int) : Rat) / ((q : Int) : Rat))) * (Nt.gr k a * (((p : Int) : Rat) / ((q : Int) : Rat)))) ((Nt.gr k b * (((p : Int) : Rat) / ((q : Int) : Rat))) * (Nt.gr k b * (((p : Int) : Rat) / ((q : Int) : Rat))))))) = (Nt.gr k qh) from (congrArg (fun z => Nt.gr k (Nt.ceU k z)) hS.2).trans (by rw [hqh])] at h9; exact h9
 have hl69 : RatN u64 r60 (Nt.gr k ql) 40 := RatN.limG hn67 xq xq hk
 have hl70 : RatN u64 r62 (Nt.gr k qh) 40 := RatN.limG hn68 xq xq hk
 refine zzf (zzg 21 30 [.int .i64 1] ?_)
 intro w71 u71 e71 d71
 have k76 := k_rqOf d71 (z := 1) xq xq
 with_reducible refine zPm k76 ?_
 rintro _ u74 g75 ⟨r72, rfl, h73⟩
 refine zza 22 (zI k) (zzg 23 27 [.int .i64 k] ?_)
 intro w77 u77 e77 d77
 have k82 := k_unit (k := k) d77 xq
 with_reducible refine zPm k82 ?_
 rintro _ u80 g81 ⟨r78, rfl, h79⟩
 refine zzg 24 88 [r72.v, r78.v] ?_
 intro w83 u83 e83 d83
 have k88 := k_rqOver d83 (h73.ext (e77.trans (g81.ext.trans e83))).raw (h79.ext e83).raw xq xq
 with_reducible refine zPm k88 ?_
 rintro _ u86 g87 ⟨r84, rfl, h85⟩
 refine zzj 8 ⟨26, [.bool false, .slice none 0 0, .slice none 0 0]⟩ (zzi ⟨26, r84.cs⟩ ty26 ?_)
 refine zzb (sq9 (zza 9 (zI 0) (zzb (zzs (zyl (I := fun m89 S' u' => ∃ (j : Nat) (x1 : RL) (x2 : RL) (y1 : RL) (y2 : RL) (tl : Int) (th : Int) (cc : Int) (dd : Int), (m89 = Nt.csMF k j th) ∧ (Nt.CsF p q k j tl th cc dd) ∧ (S' = St.of 70 [(1, zI k), (4, .adr 4 0), (5, .adr 5 0), (6, .adr 6 0), (7, .adr 7 0), (8, .adr 8 0), (9, zI j)] [(4, ⟨32, [.bool false, .slice none 0 0, .slice none 0 0, .bool false, .slice none 0 0, .slice none 0 0]⟩), (5, ⟨32, y1.cs ++ y2.cs⟩), (6, ⟨32, x1.cs ++ x2.cs⟩), (7, ⟨32, r60.cs ++ r62.cs⟩), (8, ⟨26, r84.cs⟩)]) ∧ (Ext u86 u') ∧ (RatN u' x1 (Nt.gr k tl) 40) ∧ (RatN u' x2 (Nt.gr k th) 40) ∧ (RatN u' y1 (Nt.gr k cc) 40) ∧ (RatN u' y2 (Nt.gr k dd) 40)) (fun m S u1 u2 e h => by obtain ⟨j, x1, x2, y1, y2, tl, th, cc, dd, hm, p0, hS, hE, f0, f1, f2, f3⟩ := h; exact ⟨j, x1, x2, y1, y2, tl, th, cc, dd, hm, p0, hS, hE.trans e, f0.ext e, f1.ext e, f2.ext e, f3.ext e⟩) _ yq ⟨0, r44, r46, r24, r26, (Nt.u2 k), (Nt.u2 k), 0, 0, rfl, Nt.CsF.start, rfl, (Ext.refl _), (by have h9 := (h45.ext (e51.trans (g57.ext.trans (e59.trans (g65.ext.trans (e71.trans (g75.ext.trans (e77.trans (g81.ext.trans (e83.trans g87.ext)))))))))); simp only [Nt.lo_self, Nt.hi_self] at h9; rw [show ((1 : Int) : Rat) = Nt.gr k (Nt.u2 k) from (Nt.gr_one k).symm] at h9; exact RatN.more h9 xq), (by have h9 := (h47.ext (e51.trans (g57.ext.trans (e59.trans (g65.ext.trans (e71.trans (g75.ext.trans (e77.trans (g81.ext.trans (e83.trans g87.ext)))))))))); simp only [Nt.lo_self, Nt.hi_self] at h9; rw [show ((1 : Int) : Rat) = Nt.gr k (Nt.u2 k) from (Nt.gr_one k).symm] at h9; exact RatN.more h9 xq), (by have h9 := (h25.ext (e31.trans (g35.ext.trans (e37.trans (g41.ext.trans (e43.trans (g49.ext.trans (e51.trans (g57.ext.trans (e59.trans (g65.ext.trans (e71.trans (g75.ext.trans (e77.trans (g81.ext.trans (e83.trans g87.ext)))))))))))))))); simp only [Nt.lo_self, Nt.hi_self] at h9; rw [show ((0 : Int) : Rat) = Nt.gr k 0 from (Nt.gr_zero k).symm] at h9; exact RatN.more h9 xq), (by have h9 := (h27.ext (e31.trans (g35.ext.trans (e37.trans (g41.ext.trans (e43.trans (g49.ext.trans (e51.trans (g57.ext.trans (e59.trans (g65.ext.trans (e71.trans (g75.ext.trans (e77.trans (g81.ext.trans (e83.trans g87.ext)))))))))))))))); simp only [Nt.lo_self, Nt.hi_self] at h9; rw [show ((0 : Int) : Rat) = Nt.gr k 0 from (Nt.gr_zero k).symm] at h9; exact RatN.more h9 xq)⟩ ?_)))))
 rintro m89 _ u89 ⟨j, x1, x2, y1, y2, tl, th, cc, dd, hm89, hI, rfl, e89, f0, f1, f2, f3⟩
 have hjw := hI.t.jw
 have ht0 := hI.t.t0
 have ht1 := hI.t.t1
 have htt := hI.t.tt
 have ht2 := hI.t.t2
 have hcd := hI.cd
 have hbd := hI.bd hq0 hp
 have hD1 := Nt.coD_pos j
 have hD2 := Nt.coD_mulR (j := j) xq
 refine zzd (zzs (zzd (sq9 (zza 27 (zI j) (zza 28 (zB (decide ((1 : Int) < (j : Int)))) ?_)))))
 rcases Bool.eq_false_or_eq_true (decide ((1 : Int) < (j : Int))) with hs90 | hs90
 ·refine zyn 29 (x := zB (decide ((1 : Int) < (j : Int)))) (zB true) (by rw [hs90]) ?_
  have qhs90 := of_decide_eq_true hs90
  refine zza 30 (.adr 6 3) ?_ (hw := w1 2 true 29)
  refine zzh 31 (.v (x2.v)) ty26 zze ?_ (hw := w1 2 true 29)
  refine zzh 32 (.v (r84.v)) ty26 zze ?_ (hw := w1 2 true 29)
  refine zzg 33 28 [x2.v, r84.v] ?_ (hw := w1 2 true 29)
  intro w91 u91 e91 d91
  have k94 := k_rqCompare d91 (f1.ext e91).raw (h85.ext (e89.trans e91)).raw xq xq
  with_reducible refine zPm k94 ?_
  rintro _ u92 g93 rfl
  refine zza 34 (zB (decide ((Nt.cmpQ (Nt.gr k th) (((1 : Int) : Rat) / (((2 ^ k : Nat) : Int) : Rat))) ≤ 0))) ?_ (hw := w1 2 true 29)
  refine zza 35 (zB (decide ((Nt.cmpQ (Nt.gr k th) (((1 : Int) : Rat) / (((2 ^ k : Nat) : Int) : Rat))) ≤ 0))) (zzc 70 [(1, zI k), (4, .adr 4 0), (5, .adr 5 0), (6, .adr 6 0), (7, .adr 7 0), (8, .adr 8 0), (9, zI j), (35, zB (decide ((Nt.cmpQ (Nt.gr k th) (((1 : Int) : Rat) / (((2 ^ k : Nat) : Int) : Rat))) ≤ 0)))] [(4, ⟨32, [.bool false, .slice none 0 0, .slice none 0 0, .bool false, .slice none 0 0, .slice none 0 0]⟩), (5, ⟨32, y1.cs ++ y2.cs⟩), (6, ⟨32, x1.cs ++ x2.cs⟩), (7, ⟨32, r60.cs ++ r62.cs⟩), (8, ⟨26, r84.cs⟩)] (zzt (b := decide ((Nt.cmpQ (Nt.gr k th) (((1 : Int) : Rat) / (((2 ^ k : Nat) : Int) : Rat))) ≤ 0)) xk (fun hb95 => ?_) (fun hb95 => ?_)))
  ·replace hb95 : (decide ((Nt.cmpQ (Nt.gr k th) (((1 : Int) : Rat) / (((2 ^ k : Nat) : Int) : Rat))) ≤ 0)) = true := hb95
   have qhb95 := of_decide_eq_true hb95
   refine zzd (zzy [0, 0, 2, 6, 0, 16, 62, 127, 255] [(0, []), (1, []), (2, []), (4, []), (5, []), (3, []), (6, []), (7, []), (8, [])] xk xk (zzh 36 (.v (.agg #[.bool y1.s, y1.m.v, y1.d.v, .bool y2.s, y2.m.v, y2.d.v])) ty32 zze (zza 37 (.adr 6 3) (zzh 38 (.v (x2.v)) ty26 zze (zza 40 (.adr 6 3) (zzh 41 (.v (x2.v)) ty26 zze (zzg 39 39 [x2.v] ?_)))))))
   intro w96 u96 e96 d96
   have k101 := k_rqNeg d96 (f1.ext (e91.trans (g93.ext.trans e96))).raw xq
   with_reducible refine zPm k101 ?_
   rintro _ u99 g100 ⟨r97, rfl, h98⟩
   refine zzg 42 38 [r97.v, x2.v] ?_
   intro w102 u102 e102 d102
   have k109 := k_r4Make d102 (h98.ext e102).raw (f1.ext (e91.trans (g93.ext.trans (e96.trans (g100.ext.trans e102))))).raw xq
   with_reducible refine zPm k109 ?_
   rintro _ u107 g108 ⟨r103, r105, rfl, h104, h106⟩
   refine zzg 43 43 [.agg #[.bool y1.s, y1.m.v, y1.d.v, .bool y2.s, y2.m.v, y2.d.v], .agg #[.bool r103.s, r103.m.v, r103.d.v, .bool r105.s, r105.m.v, r105.d.v]] ?_
   intro w110 u110 e110 d110
   have k117 := k_r4Add d110 (f2.ext (e91.trans (g93.ext.trans (e96.trans (g100.ext.trans (e102.trans (g108.ext.trans e110))))))).raw (f3.ext (e91.trans (g93.ext.trans (e96.trans (g100.ext.trans (e102.trans (g108.ext.trans e110))))))).raw (h104.ext e110).raw (h106.ext e110).raw xq xq
   with_reducible refine zPm k117 ?_
   rintro _ u115 g116 ⟨r111, r113, rfl, h112, h114⟩
   refine zzi ⟨32, r111.cs ++ r113.cs⟩ ty32 ?_
   refine zzb (zzn (zzv (zyr (zzv (zyq (zyr (ret0 [.agg #[.bool r111.s, .slice r111.m.a r111.m.n r111.m.c, .slice r111.d.a r111.d.n r111.d.c, .bool r113.s, .slice r113.m.a r113.m.n r113.m.c, .slice r113.d.a r113.d.n r113.d.c]] ⟨zzq ty32 zze, trivial⟩ fun u118 e119 => ?_)))))))
   have hle : 1 < j ∧ th ≤ 1 := by have h8 := of_decide_eq_true hs90; have h9 := hb95; rw [show (((1 : Int) : Rat) / (((2 ^ k : Nat) : Int) : Rat)) = Nt.gr k 1 from rfl, Nt.cs_end] at h9; have h7 := of_decide_eq_true h9; omega
   have ho := hI.out hq0 hp hle.1 hle.2
   have hob := Nt.csR_bd ho hq0 hp hk
   refine ⟨r111, r113, _, _, rfl, RatN.limG (K := (40 + 40 + 2)) (z := cc - th) ?_ xq xq hk, RatN.limG (K := (40 + 40 + 2)) (z := dd + th) ?_ xq xq hk, ho⟩
   ·have h9 := (h112.ext e119)
    rw [(Nt.cs_o xq hcd).1] at h9
    exact h9
   ·have h9 := (h114.ext e119)
    rw [(Nt.cs_o xq hcd).2] at h9
    exact h9
  ·replace hb95 : (decide ((Nt.cmpQ (Nt.gr k th) (((1 : Int) : Rat) / (((2 ^ k : Nat) : Int) : Rat))) ≤ 0)) = false := hb95
   have qhb95 := of_decide_eq_false hb95
   refine zzr (zzo ?_)
   refine zzd (sq9 (zza 44 (zI j) (zza 45 (zI (Int.tmod (j : Int) 2)) (zza 46 (zB ((Int.tmod (j : Int) 2) == 0)) (zzb (zzt (b := (Int.tmod (j : Int) 2) == 0) xk (fun hb120 => ?_) (fun hb120 => ?_)))))))
   ·replace hb120 : ((Int.tmod (j : Int) 2) == 0) = true := hb120
    have ehb120 : Int.tmod (j : Int) 2 = (j : Int) % 2 := Int.tmod_eq_emod_of_nonneg xq
    have q2hb120 :  j % 2 = 0 := by have h9 := hb120; rw [ehb120] at h9; simp at h9; omega
    refine zzf (zzh 47 (.v (.agg #[.bool y1.s, y1.m.v, y1.d.v, .bool y2.s, y2.m.v, y2.d.v])) ty32 zze (zzh 48 (.v (.agg #[.bool x1.s, x1.m.v, x1.d.v, .bool x2.s, x2.m.v, x2.d.v])) ty32 zze (zzg 49 43 [.agg #[.bool y1.s, y1.m.v, y1.d.v, .bool y2.s, y2.m.v, y2.d.v], .agg #[.bool x1.s, x1.m.v, x1.d.v, .bool x2.s, x2.m.v, x2.d.v]] ?_)))
    intro w121 u121 e121 d121
    have k128 := k_r4Add d121 (f2.ext (e91.trans (g93.ext.trans e121))).raw (f3.ext (e91.trans (g93.ext.trans e121))).raw (f0.ext (e91.trans (g93.ext.trans e121))).raw (f1.ext (e91.trans (g93.ext.trans e121))).raw xq xq
    with_reducible refine zPm k128 ?_
    rintro _ u126 g127 ⟨r122, r124, rfl, h123, h125⟩
    refine zzi ⟨32, r122.cs ++ r124.cs⟩ ty32 ?_
    refine zzb (zzd ?_)
    have hn129 : RatN u126 r122 (Nt.gr k (cc + tl)) (40 + 40 + 2) := by have h9 := h123; rw [show (Nt.lo (Nt.gr k cc) (Nt.gr k dd) + Nt.lo (Nt.gr k tl) (Nt.gr k th)) = (Nt.gr k (cc + tl)) from (Nt.cs_a htt hcd).1] at h9; exact h9
    have hn130 : RatN u126 r124 (Nt.gr k (dd + th)) (40 + 40 + 2) := by have h9 := h125; rw [show (Nt.hi (Nt.gr k cc) (Nt.gr k dd) + Nt.hi (Nt.gr k tl) (Nt.gr k th)) = (Nt.gr k (dd + th)) from (Nt.cs_a htt hcd).2] at h9; exact h9
    refine zzf (zza 53 (zI j) (zyn 54 (x := zI (IntKind.i64.wrap ((2 : Int) * (j : Int)))) (zI (2 * j : Nat)) (eqI xj) (zyn 55 (x := zI (IntKind.i64.wrap (((2 * j : Nat) : Int) + 1))) (zI (((2 * j) + 1 : Nat) : Int)) (eqI xj) (zza 56 (zI j) (zyn 57 (x := zI (IntKind.i64.wrap ((2 : Int) * (j : Int)))) (zI (2 * j : Nat)) (eqI xj) (zyn 58 (x := zI (IntKind.i64.wrap (((2 * j : Nat) : Int) + 2))) (zI (((2 * j) + 2 : Nat) : Int)) (eqI xj) (zyn 59 (x := zI (IntKind.i64.wrap (((2 * j + 1 : Nat) : Int) * ((2 * j + 2 : Nat) : Int)))) (zI (Nt.coD j)) (by rw [show (IntKind.i64.wrap (((2 * j + 1 : Nat) : Int) * ((2 * j + 2 : Nat) : Int))) = (Nt.coD j) from hD2.1]) (zzg 60 75 [.int .i64 1, .int .i64 (Nt.coD j)] ?_))))))))
    intro w131 u131 e131 d131
    have k136 := k_rqFrac d131 (a := 1) (b := (Nt.coD j)) xq xq xq xq
    with_reducible refine zPm k136 ?_
    rintro _ u134 g135 ⟨r132, rfl, h133⟩
    refine zzj 10 ⟨26, [.bool false, .slice none 0 0, .slice none 0 0]⟩ (zzi ⟨26, r132.cs⟩ ty26 ?_)
    refine zzb (zzy [0, 0, 3, 0, 0, 31, 63, 0, 255, 511] [(0, []), (1, []), (3, []), (4, []), (7, []), (2, []), (5, []), (6, []), (8, []), (9, [])] xk xk (zzh 61 (.v (.agg #[.bool x1.s, x1.m.v, x1.d.v, .bool x2.s, x2.m.v, x2.d.v])) ty32 zze (zzh 62 (.v (.agg #[.bool r60.s, r60.m.v, r60.d.v, .bool r62.s, r62.m.v, r62.d.v])) ty32 zze (zzh 64 (.v (r132.v)) ty26 zze (zzh 65 (.v (r132.v)) ty26 zze (zza 68 (zI k) (zzg 63 68 [.agg #[.bool x1.s, x1.m.v, x1.d.v, .bool x2.s, x2.m.v, x2.d.v], .agg #[.bool r60.s, r60.m.v, r60.d.v, .bool r62.s, r62.m.v, r62.d.v]] ?_)))))))
    intro w137 u137 e137 d137
    have k144 := k_r4Mul d137 (f0.ext (e91.trans (g93.ext.trans (e121.trans (g127.ext.trans (e131.trans (g135.ext.trans e137))))))).raw (f1.ext (e91.trans (g93.ext.trans (e121.trans (g127.ext.trans (e131.trans (g135.ext.trans e137))))))).raw (hl69.ext (e71.trans (g75.ext.trans (e77.trans (g81.ext.trans (e83.trans (g87.ext.trans (e89.trans (e91.trans (g93.ext.trans (e121.trans (g127.ext.trans (e131.trans (g135.ext.trans e137)))))))))))))).raw (hl70.ext (e71.trans (g75.ext.trans (e77.trans (g81.ext.trans (e83.trans (g87.ext.trans (e89.trans (e91.trans (g93.ext.trans (e121.trans (g127.ext.trans (e131.trans (g135.ext.trans e137)))))))))))))).raw xq xq
    with_reducible refine zPm k144 ?_
    rintro _ u142 g143 ⟨r138, r140, rfl, h139, h141⟩
    refine zzg 66 38 [r132.v, r132.v] ?_
    intro w145 u145 e145 d145
    have k152 := k_r4Make d145 (h133.ext (e137.trans (g143.ext.trans e145))).raw (h133.ext (e137.trans (g143.ext.trans e145))).raw xq
    with_reducible refine zPm k152 ?_
    rintro _ u150 g151 ⟨r146, r148, rfl, h147, h149⟩
    refine zzg 67 68 [.agg #[.bool r138.s, r138.m.v, r138.d.v, .bool r140.s, r140.m.v, r140.d.v], .agg #[.bool r146.s, r146.m.v, r146.d.v, .bool r148.s, r148.m.v, r148.d.v]] ?_
    intro w153 u153 e153 d153
    have k160 := k_r4Mul d153 (h139.ext (e145.trans (g151.ext.trans e153))).raw (h141.ext (e145.trans (g151.ext.trans e153))).raw (h147.ext e153).raw (h149.ext e153).raw xq xq
    with_reducible refine zPm k160 ?_
    rintro _ u158 g159 ⟨r154, r156, rfl, h155, h157⟩
    refine zzg 69 187 [.agg #[.bool r154.s, r154.m.v, r154.d.v, .bool r156.s, r156.m.v, r156.d.v], .int .i64 k] ?_
    intro w161 u161 e161 d161
    have k168 := k_wide (k := k) d161 (h155.ext e161).raw (h157.ext e161).raw xq xq
    with_reducible refine zPm k168 ?_
    rintro _ u166 g167 ⟨r162, r164, rfl, h163, h165⟩
    refine zzi ⟨32, r162.cs ++ r164.cs⟩ ty32 ?_
    refine zzw ?_
    refine zzo ?_
    have hn169 : RatN u166 r162 (Nt.gr k (Nt.csL k j tl ql)) (((40 + 40 + 1) + 3 + 1) + 70) := by have h9 := h163; rw [show (Nt.gr k (Nt.flU k (Nt.lo4 ((Nt.lo4 ((Nt.gr k tl) * (Nt.gr k ql)) ((Nt.gr k tl) * (Nt.gr k qh)) ((Nt.gr k th) * (Nt.gr k ql)) ((Nt.gr k th) * (Nt.gr k qh))) * (Nt.lo (((1 : Int) : Rat) / (((Nt.coD j) : Int) : Rat)) (((1 : Int) : Rat) / (((Nt.coD j) : Int) : Rat)))) ((Nt.lo4 ((Nt.gr k tl) * (Nt.gr k ql)) ((Nt.gr k tl) * (Nt.gr k qh)) ((Nt.gr k th) * (Nt.gr k ql)) ((Nt.gr k th) * (Nt.gr k qh))) * (Nt.hi (((1 : Int) : Rat) / (((Nt.coD j) : Int) : Rat)) (((1 : Int) : Rat) / (((Nt.coD j) : Int) : Rat)))) ((Nt.hi4 ((Nt.gr k tl) * (Nt.gr k ql)) ((Nt.gr k tl) * (Nt.gr k qh)) ((Nt.gr k th) * (Nt.gr k ql)) ((Nt.gr k th) * (Nt.gr k qh))) * (Nt.lo (((1 : Int) : Rat) / (((Nt.coD j) : Int) : Rat)) (((1 : Int) : Rat) / (((Nt.coD j) : Int) : Rat)))) ((Nt.hi4 ((Nt.gr k tl) * (Nt.gr k ql)) ((Nt.gr k tl) * (Nt.gr k qh)) ((Nt.gr k th) * (Nt.gr k ql)) ((Nt.gr k th) * (Nt.gr k qh))) * (Nt.hi (((1 : Int) : Rat) / (((Nt.coD j) : Int) : Rat)) (((1 : Int) : Rat) / (((Nt.coD j) : Int) : Rat))))))) = (Nt.gr k (Nt.csL k j tl ql)) from (congrArg (Nt.gr k) (Nt.cs_t (j := j) (F := (((1 : Int) : Rat) / ((Nt.coD j : Int) : Rat))) ht0 htt hQ3 hQ5 rfl).1)] at h9; exact h9
    have hn170 : RatN u166 r164 (Nt.gr k (Nt.csH k j th qh)) (((40 + 40 + 1) + 3 + 1) + 70) := by have h9 := h165; rw [show (Nt.gr k (Nt.ceU k (Nt.hi4 ((Nt.lo4 ((Nt.gr k tl) * (Nt.gr k ql)) ((Nt.gr k tl) * (Nt.gr k qh)) ((Nt.gr k th) * (Nt.gr k ql)) ((Nt.gr k th) * (Nt.gr k qh))) * (Nt.lo (((1 : Int) : Rat) / (((Nt.coD j) : Int) : Rat)) (((1 : Int) : Rat) / (((Nt.coD j) : Int) : Rat)))) ((Nt.lo4 ((Nt.gr k tl) * (Nt.gr k ql)) ((Nt.gr k tl) * (Nt.gr k qh)) ((Nt.gr k th) * (Nt.gr k ql)) ((Nt.gr k th) * (Nt.gr k qh))) * (Nt.hi (((1 : Int) : Rat) / (((Nt.coD j) : Int) : Rat)) (((1 : Int) : Rat) / (((Nt.coD j) : Int) : Rat)))) ((Nt.hi4 ((Nt.gr k tl) * (Nt.gr k ql)) ((Nt.gr k tl) * (Nt.gr k qh)) ((Nt.gr k th) * (Nt.gr k ql)) ((Nt.gr k th) * (Nt.gr k qh))) * (Nt.lo (((1 : Int) : Rat) / (((Nt.coD j) : Int) : Rat)) (((1 : Int) : Rat) / (((Nt.coD j) : Int) : Rat)))) ((Nt.hi4 ((Nt.gr k tl) * (Nt.gr k ql)) ((Nt.gr k tl) * (Nt.gr k qh)) ((Nt.gr k th) * (Nt.gr k ql)) ((Nt.gr k th) * (Nt.gr k qh))) * (Nt.hi (((1 : Int) : Rat) / (((Nt.coD j) : Int) : Rat)) (((1 : Int) : Rat) / (((Nt.coD j) : Int) : Rat))))))) = (Nt.gr k (Nt.csH k j th qh)) from (congrArg (Nt.gr k) (Nt.cs_t (j := j) (F := (((1 : Int) : Rat) / ((Nt.coD j : Int) : Rat))) ht0 htt hQ3 hQ5 rfl).2)] at h9; exact h9
    refine zzf (zza 25 (zI j) (zyn 26 (x := zI (IntKind.i64.wrap ((j : Int) + 1))) (zI (j + 1 : Nat)) (eqI xj) (zza 9 (zI (j + 1 : Nat)) (zzw ?_))))
    have hne : j ≤ 1 ∨ 2 ≤ th := by have h9 := hb95; rw [show (((1 : Int) : Rat) / (((2 ^ k : Nat) : Int) : Rat)) = Nt.gr k 1 from rfl, Nt.cs_end] at h9; have h7 := of_decide_eq_false h9; omega
    have hgo := hI.go hQ hne (.inl ⟨q2hb120, rfl, rfl⟩)
    have hb9 := hgo.1.bd hq0 hp
    have hw9 := Nt.csW_le hk
    have hg0 := hgo.1.t.t0
    have hg1 := hgo.1.t.t1
    have hgt := hgo.1.t.tt
    have hg2 := hgo.1.t.t2
    have hmm := hgo.2
    refine ⟨_, ?_, _, by exact zzu _ _ _, j + 1, r162, r164, r122, r124, (Nt.csL k j tl ql), (Nt.csH k j th qh), (cc + tl), (dd + th), rfl, hgo.1, rfl, (e89.trans (e91.trans (g93.ext.trans (e121.trans (g127.ext.trans (e131.trans (g135.ext.trans (e137.trans (g143.ext.trans (e145.trans (g151.ext.trans (e153.trans (g159.ext.trans (e161.trans g167.ext)))))))))))))), (RatN.limG hn169 xq xq hk), (RatN.limG hn170 xq xq hk), (RatN.limG (hn129.ext (e131.trans (g135.ext.trans (e137.trans (g143.ext.trans (e145.trans (g151.ext.trans (e153.trans (g159.ext.trans (e161.trans g167.ext)))))))))) xq xq hk), (RatN.limG (hn130.ext (e131.trans (g135.ext.trans (e137.trans (g143.ext.trans (e145.trans (g151.ext.trans (e153.trans (g159.ext.trans (e161.trans g167.ext)))))))))) xq xq hk)⟩
    omega
   ·replace hb120 : ((Int.tmod (j : Int) 2) == 0) = false := hb120
    have ehb120 : Int.tmod (j : Int) 2 = (j : Int) % 2 := Int.tmod_eq_emod_of_nonneg xq
    have q2hb120 : ¬ j % 2 = 0 := by have h9 := hb120; rw [ehb120] at h9; simp at h9; omega
    refine zzf (zzh 50 (.v (.agg #[.bool y1.s, y1.m.v, y1.d.v, .bool y2.s, y2.m.v, y2.d.v])) ty32 zze (zzh 51 (.v (.agg #[.bool x1.s, x1.m.v, x1.d.v, .bool x2.s, x2.m.v, x2.d.v])) ty32 zze (zzg 52 145 [.agg #[.bool y1.s, y1.m.v, y1.d.v, .bool y2.s, y2.m.v, y2.d.v], .agg #[.bool x1.s, x1.m.v, x1.d.v, .bool x2.s, x2.m.v, x2.d.v]] ?_)))
    intro w171 u171 e171 d171
    have k178 := k_r4Sub d171 (f2.ext (e91.trans (g93.ext.trans e171))).raw (f3.ext (e91.trans (g93.ext.trans e171))).raw (f0.ext (e91.trans (g93.ext.trans e171))).raw (f1.ext (e91.trans (g93.ext.trans e171))).raw xq xq
    with_reducible refine zPm k178 ?_
    rintro _ u176 g177 ⟨r172, r174, rfl, h173, h175⟩
    refine zzi ⟨32, r172.cs ++ r174.cs⟩ ty32 ?_
    refine zzb (zzd ?_)
    have hn179 : RatN u176 r172 (Nt.gr k (cc - th)) (40 + 40 + 2) := by have h9 := h173; rw [show (Nt.lo (Nt.gr k cc) (Nt.gr k dd) - Nt.hi (Nt.gr k tl) (Nt.gr k th)) = (Nt.gr k (cc - th)) from (Nt.cs_s htt hcd).1] at h9; exact h9
    have hn180 : RatN u176 r174 (Nt.gr k (dd - tl)) (40 + 40 + 2) := by have h9 := h175; rw [show (Nt.hi (Nt.gr k cc) (Nt.gr k dd) - Nt.lo (Nt.gr k tl) (Nt.gr k th)) = (Nt.gr k (dd - tl)) from (Nt.cs_s htt hcd).2] at h9; exact h9
    refine zzf (zza 53 (zI j) (zyn 54 (x := zI (IntKind.i64.wrap ((2 : Int) * (j : Int)))) (zI (2 * j : Nat)) (eqI xj) (zyn 55 (x := zI (IntKind.i64.wrap (((2 * j : Nat) : Int) + 1))) (zI (((2 * j) + 1 : Nat) : Int)) (eqI xj) (zza 56 (zI j) (zyn 57 (x := zI (IntKind.i64.wrap ((2 : Int) * (j : Int)))) (zI (2 * j : Nat)) (eqI xj) (zyn 58 (x := zI (IntKind.i64.wrap (((2 * j : Nat) : Int) + 2))) (zI (((2 * j) + 2 : Nat) : Int)) (eqI xj) (zyn 59 (x := zI (IntKind.i64.wrap (((2 * j + 1 : Nat) : Int) * ((2 * j + 2 : Nat) : Int)))) (zI (Nt.coD j)) (by rw [show (IntKind.i64.wrap (((2 * j + 1 : Nat) : Int) * ((2 * j + 2 : Nat) : Int))) = (Nt.coD j) from hD2.1]) (zzg 60 75 [.int .i64 1, .int .i64 (Nt.coD j)] ?_))))))))
    intro w181 u181 e181 d181
    have k186 := k_rqFrac d181 (a := 1) (b := (Nt.coD j)) xq xq xq xq
    with_reducible refine zPm k186 ?_
    rintro _ u184 g185 ⟨r182, rfl, h183⟩
    refine zzj 10 ⟨26, [.bool false, .slice none 0 0, .slice none 0 0]⟩ (zzi ⟨26, r182.cs⟩ ty26 ?_)
    refine zzb (zzy [0, 0, 3, 0, 0, 31, 63, 0, 255, 511] [(0, []), (1, []), (3, []), (4, []), (7, []), (2, []), (5, []), (6, []), (8, []), (9, [])] xk xk (zzh 61 (.v (.agg #[.bool x1.s, x1.m.v, x1.d.v, .bool x2.s, x2.m.v, x2.d.v])) ty32 zze (zzh 62 (.v (.agg #[.bool r60.s, r60.m.v, r60.d.v, .bool r62.s, r62.m.v, r62.d.v])) ty32 zze (zzh 64 (.v (r182.v)) ty26 zze (zzh 65 (.v (r182.v)) ty26 zze (zza 68 (zI k) (zzg 63 68 [.agg #[.bool x1.s, x1.m.v, x1.d.v, .bool x2.s, x2.m.v, x2.d.v], .agg #[.bool r60.s, r60.m.v, r60.d.v, .bool r62.s, r62.m.v, r62.d.v]] ?_)))))))
    intro w187 u187 e187 d187
    have k194 := k_r4Mul d187 (f0.ext (e91.trans (g93.ext.trans (e171.trans (g177.ext.trans (e181.trans (g185.ext.trans e187))))))).raw (f1.ext (e91.trans (g93.ext.trans (e171.trans (g177.ext.trans (e181.trans (g185.ext.trans e187))))))).raw (hl69.ext (e71.trans (g75.ext.trans (e77.trans (g81.ext.trans (e83.trans (g87.ext.trans (e89.trans (e91.trans (g93.ext.trans (e171.trans (g177.ext.trans (e181.trans (g185.ext.trans e187)))))))))))))).raw (hl70.ext (e71.trans (g75.ext.trans (e77.trans (g81.ext.trans (e83.trans (g87.ext.trans (e89.trans (e91.trans (g93.ext.trans (e171.trans (g177.ext.trans (e181.trans (g185.ext.trans e187)))))))))))))).raw xq xq
    with_reducible refine zPm k194 ?_
    rintro _ u192 g193 ⟨r188, r190, rfl, h189, h191⟩
    refine zzg 66 38 [r182.v, r182.v] ?_
    intro w195 u195 e195 d195
    have k202 := k_r4Make d195 (h183.ext (e187.trans (g193.ext.trans e195))).raw (h183.ext (e187.trans (g193.ext.trans e195))).raw xq
    with_reducible refine zPm k202 ?_
    rintro _ u200 g201 ⟨r196, r198, rfl, h197, h199⟩
    refine zzg 67 68 [.agg #[.bool r188.s, r188.m.v, r188.d.v, .bool r190.s, r190.m.v, r190.d.v], .agg #[.bool r196.s, r196.m.v, r196.d.v, .bool r198.s, r198.m.v, r198.d.v]] ?_
    intro w203 u203 e203 d203
    have k210 := k_r4Mul d203 (h189.ext (e195.trans (g201.ext.trans e203))).raw (h191.ext (e195.trans (g201.ext.trans e203))).raw (h197.ext e203).raw (h199.ext e203).raw xq xq
    with_reducible refine zPm k210 ?_
    rintro _ u208 g209 ⟨r204, r206, rfl, h205, h207⟩
    refine zzg 69 187 [.agg #[.bool r204.s, r204.m.v, r204.d.v, .bool r206.s, r206.m.v, r206.d.v], .int .i64 k] ?_
    intro w211 u211 e211 d211
    have k218 := k_wide (k := k) d211 (h205.ext e211).raw (h207.ext e211).raw xq xq
    with_reducible refine zPm k218 ?_
    rintro _ u216 g217 ⟨r212, r214, rfl, h213, h215⟩
    refine zzi ⟨32, r212.cs ++ r214.cs⟩ ty32 ?_
    refine zzw ?_
    refine zzo ?_
    have hn219 : RatN u216 r212 (Nt.gr k (Nt.csL k j tl ql)) (((40 + 40 + 1) + 3 + 1) + 70) := by have h9 := h213; rw [show (Nt.gr k (Nt.flU k (Nt.lo4 ((Nt.lo4 ((Nt.gr k tl) * (Nt.gr k ql)) ((Nt.gr k tl) * (Nt.gr k qh)) ((Nt.gr k th) * (Nt.gr k ql)) ((Nt.gr k th) * (Nt.gr k qh))) * (Nt.lo (((1 : Int) : Rat) / (((Nt.coD j) : Int) : Rat)) (((1 : Int) : Rat) / (((Nt.coD j) : Int) : Rat)))) ((Nt.lo4 ((Nt.gr k tl) * (Nt.gr k ql)) ((Nt.gr k tl) * (Nt.gr k qh)) ((Nt.gr k th) * (Nt.gr k ql)) ((Nt.gr k th) * (Nt.gr k qh))) * (Nt.hi (((1 : Int) : Rat) / (((Nt.coD j) : Int) : Rat)) (((1 : Int) : Rat) / (((Nt.coD j) : Int) : Rat)))) ((Nt.hi4 ((Nt.gr k tl) * (Nt.gr k ql)) ((Nt.gr k tl) * (Nt.gr k qh)) ((Nt.gr k th) * (Nt.gr k ql)) ((Nt.gr k th) * (Nt.gr k qh))) * (Nt.lo (((1 : Int) : Rat) / (((Nt.coD j) : Int) : Rat)) (((1 : Int) : Rat) / (((Nt.coD j) : Int) : Rat)))) ((Nt.hi4 ((Nt.gr k tl) * (Nt.gr k ql)) ((Nt.gr k tl) * (Nt.gr k qh)) ((Nt.gr k th) * (Nt.gr k ql)) ((Nt.gr k th) * (Nt.gr k qh))) * (Nt.hi (((1 : Int) : Rat) / (((Nt.coD j) : Int) : Rat)) (((1 : Int) : Rat) / (((Nt.coD j) : Int) : Rat))))))) = (Nt.gr k (Nt.csL k j tl ql)) from (congrArg (Nt.gr k) (Nt.cs_t (j := j) (F := (((1 : Int) : Rat) / ((Nt.coD j : Int) : Rat))) ht0 htt hQ3 hQ5 rfl).1)] at h9; exact h9
    have hn220 : RatN u216 r214 (Nt.gr k (Nt.csH k j th qh)) (((40 + 40 + 1) + 3 + 1) + 70) := by have h9 := h215; rw [show (Nt.gr k (Nt.ceU k (Nt.hi4 ((Nt.lo4 ((Nt.gr k tl) * (Nt.gr k ql)) ((Nt.gr k tl) * (Nt.gr k qh)) ((Nt.gr k th) * (Nt.gr k ql)) ((Nt.gr k th) * (Nt.gr k qh))) * (Nt.lo (((1 : Int) : Rat) / (((Nt.coD j) : Int) : Rat)) (((1 : Int) : Rat) / (((Nt.coD j) : Int) : Rat)))) ((Nt.lo4 ((Nt.gr k tl) * (Nt.gr k ql)) ((Nt.gr k tl) * (Nt.gr k qh)) ((Nt.gr k th) * (Nt.gr k ql)) ((Nt.gr k th) * (Nt.gr k qh))) * (Nt.hi (((1 : Int) : Rat) / (((Nt.coD j) : Int) : Rat)) (((1 : Int) : Rat) / (((Nt.coD j) : Int) : Rat)))) ((Nt.hi4 ((Nt.gr k tl) * (Nt.gr k ql)) ((Nt.gr k tl) * (Nt.gr k qh)) ((Nt.gr k th) * (Nt.gr k ql)) ((Nt.gr k th) * (Nt.gr k qh))) * (Nt.lo (((1 : Int) : Rat) / (((Nt.coD j) : Int) : Rat)) (((1 : Int) : Rat) / (((Nt.coD j) : Int) : Rat)))) ((Nt.hi4 ((Nt.gr k tl) * (Nt.gr k ql)) ((Nt.gr k tl) * (Nt.gr k qh)) ((Nt.gr k th) * (Nt.gr k ql)) ((Nt.gr k th) * (Nt.gr k qh))) * (Nt.hi (((1 : Int) : Rat) / (((Nt.coD j) : Int) : Rat)) (((1 : Int) : Rat) / (((Nt.coD j) : Int) : Rat))))))) = (Nt.gr k (Nt.csH k j th qh)) from (congrArg (Nt.gr k) (Nt.cs_t (j := j) (F := (((1 : Int) : Rat) / ((Nt.coD j : Int) : Rat))) ht0 htt hQ3 hQ5 rfl).2)] at h9; exact h9
    refine zzf (zza 25 (zI j) (zyn 26 (x := zI (IntKind.i64.wrap ((j : Int) + 1))) (zI (j + 1 : Nat)) (eqI xj) (zza 9 (zI (j + 1 : Nat)) (zzw ?_))))
    have hne : j ≤ 1 ∨ 2 ≤ th := by have h9 := hb95; rw [show (((1 : Int) : Rat) / (((2 ^ k : Nat) : Int) : Rat)) = Nt.gr k 1 from rfl, Nt.cs_end] at h9; have h7 := of_decide_eq_false h9; omega
    have hgo := hI.go hQ hne (.inr ⟨q2hb120, rfl, rfl⟩)
    have hb9 := hgo.1.bd hq0 hp
    have hw9 := Nt.csW_le hk
    have hg0 := hgo.1.t.t0
    have hg1 := hgo.1.t.t1
    have hgt := hgo.1.t.tt
    have hg2 := hgo.1.t.t2
    have hmm := hgo.2
    refine ⟨_, ?_, _, by exact zzu _ _ _, j + 1, r212, r214, r172, r174, (Nt.csL k j tl ql), (Nt.csH k j th qh), (cc - th), (dd - tl), rfl, hgo.1, rfl, (e89.trans (e91.trans (g93.ext.trans (e171.trans (g177.ext.trans (e181.trans (g185.ext.trans (e187.trans (g193.ext.trans (e195.trans (g201.ext.trans (e203.trans (g209.ext.trans (e211.trans g217.ext)))))))))))))), (RatN.limG hn219 xq xq hk), (RatN.limG hn220 xq xq hk), (RatN.limG (hn179.ext (e181.trans (g185.ext.trans (e187.trans (g193.ext.trans (e195.trans (g201.ext.trans (e203.trans (g209.ext.trans (e211.trans g217.ext)))))))))) xq xq hk), (RatN.limG (hn180.ext (e181.trans (g185.ext.trans (e187.trans (g193.ext.trans (e195.trans (g201.ext.trans (e203.trans (g209.ext.trans (e211.trans g217.ext)))))))))) xq xq hk)⟩
    omega
 ·refine zyn 29 (x := zB (decide ((1 : Int) < (j : Int)))) (zB false) (by rw [hs90]) ?_
  have qhs90 := of_decide_eq_false hs90
  refine zzm 30 (uw 2 true false 29) (zzm 31 (uw 2 true false 29) (zzm 32 (uw 2 true false 29) (zzm 33 (uw 2 true false 29) (zzm 34 (uw 2 true false 29) (zza 35 (zB false) (zzc 70 [(1, zI k), (4, .adr 4 0), (5, .adr 5 0), (6, .adr 6 0), (7, .adr 7 0), (8, .adr 8 0), (9, zI j), (35, zB false)] [(4, ⟨32, [.bool false, .slice none 0 0, .slice none 0 0, .bool false, .slice none 0 0, .slice none 0 0]⟩), (5, ⟨32, y1.cs ++ y2.cs⟩), (6, ⟨32, x1.cs ++ x2.cs⟩), (7, ⟨32, r60.cs ++ r62.cs⟩), (8, ⟨26, r84.cs⟩)] (zyp xk (zzr (zzo ?_)))))))))
  refine zzd (sq9 (zza 44 (zI j) (zza 45 (zI (Int.tmod (j : Int) 2)) (zza 46 (zB ((Int.tmod (j : Int) 2) == 0)) (zzb (zzt (b := (Int.tmod (j : Int) 2) == 0) xk (fun hb221 => ?_) (fun hb221 => ?_)))))))
  ·replace hb221 : ((Int.tmod (j : Int) 2) == 0) = true := hb221
   have ehb221 : Int.tmod (j : Int) 2 = (j : Int) % 2 := Int.tmod_eq_emod_of_nonneg xq
   have q2hb221 :  j % 2 = 0 := by have h9 := hb221; rw [ehb221] at h9; simp at h9; omega
   refine zzf (zzh 47 (.v (.agg #[.bool y1.s, y1.m.v, y1.d.v, .bool y2.s, y2.m.v, y2.d.v])) ty32 zze (zzh 48 (.v (.agg #[.bool x1.s, x1.m.v, x1.d.v, .bool x2.s, x2.m.v, x2.d.v])) ty32 zze (zzg 49 43 [.agg #[.bool y1.s, y1.m.v, y1.d.v, .bool y2.s, y2.m.v, y2.d.v], .agg #[.bool x1.s, x1.m.v, x1.d.v, .bool x2.s, x2.m.v, x2.d.v]] ?_)))
   intro w222 u222 e222 d222
   have k229 := k_r4Add d222 (f2.ext e222).raw (f3.ext e222).raw (f0.ext e222).raw (f1.ext e222).raw xq xq
   with_reducible refine zPm k229 ?_
   rintro _ u227 g228 ⟨r223, r225, rfl, h224, h226⟩
   refine zzi ⟨32, r223.cs ++ r225.cs⟩ ty32 ?_
   refine zzb (zzd ?_)
   have hn230 : RatN u227 r223 (Nt.gr k (cc + tl)) (40 + 40 + 2) := by have h9 := h224; rw [show (Nt.lo (Nt.gr k cc) (Nt.gr k dd) + Nt.lo (Nt.gr k tl) (Nt.gr k th)) = (Nt.gr k (cc + tl)) from (Nt.cs_a htt hcd).1] at h9; exact h9
   have hn231 : RatN u227 r225 (Nt.gr k (dd + th)) (40 + 40 + 2) := by have h9 := h226; rw [show (Nt.hi (Nt.gr k cc) (Nt.gr k dd) + Nt.hi (Nt.gr k tl) (Nt.gr k th)) = (Nt.gr k (dd + th)) from (Nt.cs_a htt hcd).2] at h9; exact h9
   refine zzf (zza 53 (zI j) (zyn 54 (x := zI (IntKind.i64.wrap ((2 : Int) * (j : Int)))) (zI (2 * j : Nat)) (eqI xj) (zyn 55 (x := zI (IntKind.i64.wrap (((2 * j : Nat) : Int) + 1))) (zI (((2 * j) + 1 : Nat) : Int)) (eqI xj) (zza 56 (zI j) (zyn 57 (x := zI (IntKind.i64.wrap ((2 : Int) * (j : Int)))) (zI (2 * j : Nat)) (eqI xj) (zyn 58 (x := zI (IntKind.i64.wrap (((2 * j : Nat) : Int) + 2))) (zI (((2 * j) + 2 : Nat) : Int)) (eqI xj) (zyn 59 (x := zI (IntKind.i64.wrap (((2 * j + 1 : Nat) : Int) * ((2 * j + 2 : Nat) : Int)))) (zI (Nt.coD j)) (by rw [show (IntKind.i64.wrap (((2 * j + 1 : Nat) : Int) * ((2 * j + 2 : Nat) : Int))) = (Nt.coD j) from hD2.1]) (zzg 60 75 [.int .i64 1, .int .i64 (Nt.coD j)] ?_))))))))
   intro w232 u232 e232 d232
   have k237 := k_rqFrac d232 (a := 1) (b := (Nt.coD j)) xq xq xq xq
   with_reducible refine zPm k237 ?_
   rintro _ u235 g236 ⟨r233, rfl, h234⟩
   refine zzj 10 ⟨26, [.bool false, .slice none 0 0, .slice none 0 0]⟩ (zzi ⟨26, r233.cs⟩ ty26 ?_)
   refine zzb (zzy [0, 0, 3, 0, 0, 31, 63, 0, 255, 511] [(0, []), (1, []), (3, []), (4, []), (7, []), (2, []), (5, []), (6, []), (8, []), (9, [])] xk xk (zzh 61 (.v (.agg #[.bool x1.s, x1.m.v, x1.d.v, .bool x2.s, x2.m.v, x2.d.v])) ty32 zze (zzh 62 (.v (.agg #[.bool r60.s, r60.m.v, r60.d.v, .bool r62.s, r62.m.v, r62.d.v])) ty32 zze (zzh 64 (.v (r233.v)) ty26 zze (zzh 65 (.v (r233.v)) ty26 zze (zza 68 (zI k) (zzg 63 68 [.agg #[.bool x1.s, x1.m.v, x1.d.v, .bool x2.s, x2.m.v, x2.d.v], .agg #[.bool r60.s, r60.m.v, r60.d.v, .bool r62.s, r62.m.v, r62.d.v]] ?_)))))))
   intro w238 u238 e238 d238
   have k245 := k_r4Mul d238 (f0.ext (e222.trans (g228.ext.trans (e232.trans (g236.ext.trans e238))))).raw (f1.ext (e222.trans (g228.ext.trans (e232.trans (g236.ext.trans e238))))).raw (hl69.ext (e71.trans (g75.ext.trans (e77.trans (g81.ext.trans (e83.trans (g87.ext.trans (e89.trans (e222.trans (g228.ext.trans (e232.trans (g236.ext.trans e238)))))))))))).raw (hl70.ext (e71.trans (g75.ext.trans (e77.trans (g81.ext.trans (e83.trans (g87.ext.trans (e89.trans (e222.trans (g228.ext.trans (e232.trans (g236.ext.trans e238)))))))))))).raw xq xq
   with_reducible refine zPm k245 ?_
   rintro _ u243 g244 ⟨r239, r241, rfl, h240, h242⟩
   refine zzg 66 38 [r233.v, r233.v] ?_
   intro w246 u246 e246 d246
   have k253 := k_r4Make d246 (h234.ext (e238.trans (g244.ext.trans e246))).raw (h234.ext (e238.trans (g244.ext.trans e246))).raw xq
   with_reducible refine zPm k253 ?_
   rintro _ u251 g252 ⟨r247, r249, rfl, h248, h250⟩
   refine zzg 67 68 [.agg #[.bool r239.s, r239.m.v, r239.d.v, .bool r241.s, r241.m.v, r241.d.v], .agg #[.bool r247.s, r247.m.v, r247.d.v, .bool r249.s, r249.m.v, r249.d.v]] ?_
   intro w254 u254 e254 d254
   have k261 := k_r4Mul d254 (h240.ext (e246.trans (g252.ext.trans e254))).raw (h242.ext (e246.trans (g252.ext.trans e254))).raw (h248.ext e254).raw (h250.ext e254).raw xq xq
   with_reducible refine zPm k261 ?_
   rintro _ u259 g260 ⟨r255, r257, rfl, h256, h258⟩
   refine zzg 69 187 [.agg #[.bool r255.s, r255.m.v, r255.d.v, .bool r257.s, r257.m.v, r257.d.v], .int .i64 k] ?_
   intro w262 u262 e262 d262
   have k269 := k_wide (k := k) d262 (h256.ext e262).raw (h258.ext e262).raw xq xq
   with_reducible refine zPm k269 ?_
   rintro _ u267 g268 ⟨r263, r265, rfl, h264, h266⟩
   refine zzi ⟨32, r263.cs ++ r265.cs⟩ ty32 ?_
   refine zzw ?_
   refine zzo ?_
   have hn270 : RatN u267 r263 (Nt.gr k (Nt.csL k j tl ql)) (((40 + 40 + 1) + 3 + 1) + 70) := by have h9 := h264; rw [show (Nt.gr k (Nt.flU k (Nt.lo4 ((Nt.lo4 ((Nt.gr k tl) * (Nt.gr k ql)) ((Nt.gr k tl) * (Nt.gr k qh)) ((Nt.gr k th) * (Nt.gr k ql)) ((Nt.gr k th) * (Nt.gr k qh))) * (Nt.lo (((1 : Int) : Rat) / (((Nt.coD j) : Int) : Rat)) (((1 : Int) : Rat) / (((Nt.coD j) : Int) : Rat)))) ((Nt.lo4 ((Nt.gr k tl) * (Nt.gr k ql)) ((Nt.gr k tl) * (Nt.gr k qh)) ((Nt.gr k th) * (Nt.gr k ql)) ((Nt.gr k th) * (Nt.gr k qh))) * (Nt.hi (((1 : Int) : Rat) / (((Nt.coD j) : Int) : Rat)) (((1 : Int) : Rat) / (((Nt.coD j) : Int) : Rat)))) ((Nt.hi4 ((Nt.gr k tl) * (Nt.gr k ql)) ((Nt.gr k tl) * (Nt.gr k qh)) ((Nt.gr k th) * (Nt.gr k ql)) ((Nt.gr k th) * (Nt.gr k qh))) * (Nt.lo (((1 : Int) : Rat) / (((Nt.coD j) : Int) : Rat)) (((1 : Int) : Rat) / (((Nt.coD j) : Int) : Rat)))) ((Nt.hi4 ((Nt.gr k tl) * (Nt.gr k ql)) ((Nt.gr k tl) * (Nt.gr k qh)) ((Nt.gr k th) * (Nt.gr k ql)) ((Nt.gr k th) * (Nt.gr k qh))) * (Nt.hi (((1 : Int) : Rat) / (((Nt.coD j) : Int) : Rat)) (((1 : Int) : Rat) / (((Nt.coD j) : Int) : Rat))))))) = (Nt.gr k (Nt.csL k j tl ql)) from (congrArg (Nt.gr k) (Nt.cs_t (j := j) (F := (((1 : Int) : Rat) / ((Nt.coD j : Int) : Rat))) ht0 htt hQ3 hQ5 rfl).1)] at h9; exact h9
   have hn271 : RatN u267 r265 (Nt.gr k (Nt.csH k j th qh)) (((40 + 40 + 1) + 3 + 1) + 70) := by have h9 := h266; rw [show (Nt.gr k (Nt.ceU k (Nt.hi4 ((Nt.lo4 ((Nt.gr k tl) * (Nt.gr k ql)) ((Nt.gr k tl) * (Nt.gr k qh)) ((Nt.gr k th) * (Nt.gr k ql)) ((Nt.gr k th) * (Nt.gr k qh))) * (Nt.lo (((1 : Int) : Rat) / (((Nt.coD j) : Int) : Rat)) (((1 : Int) : Rat) / (((Nt.coD j) : Int) : Rat)))) ((Nt.lo4 ((Nt.gr k tl) * (Nt.gr k ql)) ((Nt.gr k tl) * (Nt.gr k qh)) ((Nt.gr k th) * (Nt.gr k ql)) ((Nt.gr k th) * (Nt.gr k qh))) * (Nt.hi (((1 : Int) : Rat) / (((Nt.coD j) : Int) : Rat)) (((1 : Int) : Rat) / (((Nt.coD j) : Int) : Rat)))) ((Nt.hi4 ((Nt.gr k tl) * (Nt.gr k ql)) ((Nt.gr k tl) * (Nt.gr k qh)) ((Nt.gr k th) * (Nt.gr k ql)) ((Nt.gr k th) * (Nt.gr k qh))) * (Nt.lo (((1 : Int) : Rat) / (((Nt.coD j) : Int) : Rat)) (((1 : Int) : Rat) / (((Nt.coD j) : Int) : Rat)))) ((Nt.hi4 ((Nt.gr k tl) * (Nt.gr k ql)) ((Nt.gr k tl) * (Nt.gr k qh)) ((Nt.gr k th) * (Nt.gr k ql)) ((Nt.gr k th) * (Nt.gr k qh))) * (Nt.hi (((1 : Int) : Rat) / (((Nt.coD j) : Int) : Rat)) (((1 : Int) : Rat) / (((Nt.coD j) : Int) : Rat))))))) = (Nt.gr k (Nt.csH k j th qh)) from (congrArg (Nt.gr k) (Nt.cs_t (j := j) (F := (((1 : Int) : Rat) / ((Nt.coD j : Int) : Rat))) ht0 htt hQ3 hQ5 rfl).2)] at h9; exact h9
   refine zzf (zza 25 (zI j) (zyn 26 (x := zI (IntKind.i64.wrap ((j : Int) + 1))) (zI (j + 1 : Nat)) (eqI xj) (zza 9 (zI (j + 1 : Nat)) (zzw ?_))))
   have hne : j ≤ 1 ∨ 2 ≤ th := by have h8 := of_decide_eq_false hs90; omega
   have hgo := hI.go hQ hne (.inl ⟨q2hb221, rfl, rfl⟩)
   have hb9 := hgo.1.bd hq0 hp
   have hw9 := Nt.csW_le hk
   have hg0 := hgo.1.t.t0
   have hg1 := hgo.1.t.t1
   have hgt := hgo.1.t.tt
   have hg2 := hgo.1.t.t2
   have hmm := hgo.2
   refine ⟨_, ?_, _, by exact zzu _ _ _, j + 1, r263, r265, r223, r225, (Nt.csL k j tl ql), (Nt.csH k j th qh), (cc + tl), (dd + th), rfl, hgo.1, rfl, (e89.trans (e222.trans (g228.ext.trans (e232.trans (g236.ext.trans (e238.trans (g244.ext.trans (e246.trans (g252.ext.trans (e254.trans (g260.ext.trans (e262.trans g268.ext)))))))))))), (RatN.limG hn270 xq xq hk), (RatN.limG hn271 xq xq hk), (RatN.limG (hn230.ext (e232.trans (g236.ext.trans (e238.trans (g244.ext.trans (e246.trans (g252.ext.trans (e254.trans (g260.ext.trans (e262.trans g268.ext)))))))))) xq xq hk), (RatN.limG (hn231.ext (e232.trans (g236.ext.trans (e238.trans (g244.ext.trans (e246.trans (g252.ext.trans (e254.trans (g260.ext.trans (e262.trans g268.ext)))))))))) xq xq hk)⟩
   omega
  ·replace hb221 : ((Int.tmod (j : Int) 2) == 0) = false := hb221
   have ehb221 : Int.tmod (j : Int) 2 = (j : Int) % 2 := Int.tmod_eq_emod_of_nonneg xq
   have q2hb221 : ¬ j % 2 = 0 := by have h9 := hb221; rw [ehb221] at h9; simp at h9; omega
   refine zzf (zzh 50 (.v (.agg #[.bool y1.s, y1.m.v, y1.d.v, .bool y2.s, y2.m.v, y2.d.v])) ty32 zze (zzh 51 (.v (.agg #[.bool x1.s, x1.m.v, x1.d.v, .bool x2.s, x2.m.v, x2.d.v])) ty32 zze (zzg 52 145 [.agg #[.bool y1.s, y1.m.v, y1.d.v, .bool y2.s, y2.m.v, y2.d.v], .agg #[.bool x1.s, x1.m.v, x1.d.v, .bool x2.s, x2.m.v, x2.d.v]] ?_)))
   intro w272 u272 e272 d272
   have k279 := k_r4Sub d272 (f2.ext e272).raw (f3.ext e272).raw (f0.ext e272).raw (f1.ext e272).raw xq xq
   with_reducible refine zPm k279 ?_
   rintro _ u277 g278 ⟨r273, r275, rfl, h274, h276⟩
   refine zzi ⟨32, r273.cs ++ r275.cs⟩ ty32 ?_
   refine zzb (zzd ?_)
   have hn280 : RatN u277 r273 (Nt.gr k (cc - th)) (40 + 40 + 2) := by have h9 := h274; rw [show (Nt.lo (Nt.gr k cc) (Nt.gr k dd) - Nt.hi (Nt.gr k tl) (Nt.gr k th)) = (Nt.gr k (cc - th)) from (Nt.cs_s htt hcd).1] at h9; exact h9
   have hn281 : RatN u277 r275 (Nt.gr k (dd - tl)) (40 + 40 + 2) := by have h9 := h276; rw [show (Nt.hi (Nt.gr k cc) (Nt.gr k dd) - Nt.lo (Nt.gr k tl) (Nt.gr k th)) = (Nt.gr k (dd - tl)) from (Nt.cs_s htt hcd).2] at h9; exact h9
   refine zzf (zza 53 (zI j) (zyn 54 (x := zI (IntKind.i64.wrap ((2 : Int) * (j : Int)))) (zI (2 * j : Nat)) (eqI xj) (zyn 55 (x := zI (IntKind.i64.wrap (((2 * j : Nat) : Int) + 1))) (zI (((2 * j) + 1 : Nat) : Int)) (eqI xj) (zza 56 (zI j) (zyn 57 (x := zI (IntKind.i64.wrap ((2 : Int) * (j : Int)))) (zI (2 * j : Nat)) (eqI xj) (zyn 58 (x := zI (IntKind.i64.wrap (((2 * j : Nat) : Int) + 2))) (zI (((2 * j) + 2 : Nat) : Int)) (eqI xj) (zyn 59 (x := zI (IntKind.i64.wrap (((2 * j + 1 : Nat) : Int) * ((2 * j + 2 : Nat) : Int)))) (zI (Nt.coD j)) (by rw [show (IntKind.i64.wrap (((2 * j + 1 : Nat) : Int) * ((2 * j + 2 : Nat) : Int))) = (Nt.coD j) from hD2.1]) (zzg 60 75 [.int .i64 1, .int .i64 (Nt.coD j)] ?_))))))))
   intro w282 u282 e282 d282
   have k287 := k_rqFrac d282 (a := 1) (b := (Nt.coD j)) xq xq xq xq
   with_reducible refine zPm k287 ?_
   rintro _ u285 g286 ⟨r283, rfl, h284⟩
   refine zzj 10 ⟨26, [.bool false, .slice none 0 0, .slice none 0 0]⟩ (zzi ⟨26, r283.cs⟩ ty26 ?_)
   refine zzb (zzy [0, 0, 3, 0, 0, 31, 63, 0, 255, 511] [(0, []), (1, []), (3, []), (4, []), (7, []), (2, []), (5, []), (6, []), (8, []), (9, [])] xk xk (zzh 61 (.v (.agg #[.bool x1.s, x1.m.v, x1.d.v, .bool x2.s, x2.m.v, x2.d.v])) ty32 zze (zzh 62 (.v (.agg #[.bool r60.s, r60.m.v, r60.d.v, .bool r62.s, r62.m.v, r62.d.v])) ty32 zze (zzh 64 (.v (r283.v)) ty26 zze (zzh 65 (.v (r283.v)) ty26 zze (zza 68 (zI k) (zzg 63 68 [.agg #[.bool x1.s, x1.m.v, x1.d.v, .bool x2.s, x2.m.v, x2.d.v], .agg #[.bool r60.s, r60.m.v, r60.d.v, .bool r62.s, r62.m.v, r62.d.v]] ?_)))))))
   intro w288 u288 e288 d288
   have k295 := k_r4Mul d288 (f0.ext (e272.trans (g278.ext.trans (e282.trans (g286.ext.trans e288))))).raw (f1.ext (e272.trans (g278.ext.trans (e282.trans (g286.ext.trans e288))))).raw (hl69.ext (e71.trans (g75.ext.trans (e77.trans (g81.ext.trans (e83.trans (g87.ext.trans (e89.trans (e272.trans (g278.ext.trans (e282.trans (g286.ext.trans e288)))))))))))).raw (hl70.ext (e71.trans (g75.ext.trans (e77.trans (g81.ext.trans (e83.trans (g87.ext.trans (e89.trans (e272.trans (g278.ext.trans (e282.trans (g286.ext.trans e288)))))))))))).raw xq xq
   with_reducible refine zPm k295 ?_
   rintro _ u293 g294 ⟨r289, r291, rfl, h290, h292⟩
   refine zzg 66 38 [r283.v, r283.v] ?_
   intro w296 u296 e296 d296
   have k303 := k_r4Make d296 (h284.ext (e288.trans (g294.ext.trans e296))).raw (h284.ext (e288.trans (g294.ext.trans e296))).raw xq
   with_reducible refine zPm k303 ?_
   rintro _ u301 g302 ⟨r297, r299, rfl, h298, h300⟩
   refine zzg 67 68 [.agg #[.bool r289.s, r289.m.v, r289.d.v, .bool r291.s, r291.m.v, r291.d.v], .agg #[.bool r297.s, r297.m.v, r297.d.v, .bool r299.s, r299.m.v, r299.d.v]] ?_
   intro w304 u304 e304 d304
   have k311 := k_r4Mul d304 (h290.ext (e296.trans (g302.ext.trans e304))).raw (h292.ext (e296.trans (g302.ext.trans e304))).raw (h298.ext e304).raw (h300.ext e304).raw xq xq
   with_reducible refine zPm k311 ?_
   rintro _ u309 g310 ⟨r305, r307, rfl, h306, h308⟩
   refine zzg 69 187 [.agg #[.bool r305.s, r305.m.v, r305.d.v, .bool r307.s, r307.m.v, r307.d.v], .int .i64 k] ?_
   intro w312 u312 e312 d312
   have k319 := k_wide (k := k) d312 (h306.ext e312).raw (h308.ext e312).raw xq xq
   with_reducible refine zPm k319 ?_
   rintro _ u317 g318 ⟨r313, r315, rfl, h314, h316⟩
   refine zzi ⟨32, r313.cs ++ r315.cs⟩ ty32 ?_
   refine zzw ?_
   refine zzo ?_
   have hn320 : RatN u317 r313 (Nt.gr k (Nt.csL k j tl ql)) (((40 + 40 + 1) + 3 + 1) + 70) := by have h9 := h314; rw [show (Nt.gr k (Nt.flU k (Nt.lo4 ((Nt.lo4 ((Nt.gr k tl) * (Nt.gr k ql)) ((Nt.gr k tl) * (Nt.gr k qh)) ((Nt.gr k th) * (Nt.gr k ql)) ((Nt.gr k th) * (Nt.gr k qh))) * (Nt.lo (((1 : Int) : Rat) / (((Nt.coD j) : Int) : Rat)) (((1 : Int) : Rat) / (((Nt.coD j) : Int) : Rat)))) ((Nt.lo4 ((Nt.gr k tl) * (Nt.gr k ql)) ((Nt.gr k tl) * (Nt.gr k qh)) ((Nt.gr k th) * (Nt.gr k ql)) ((Nt.gr k th) * (Nt.gr k qh))) * (Nt.hi (((1 : Int) : Rat) / (((Nt.coD j) : Int) : Rat)) (((1 : Int) : Rat) / (((Nt.coD j) : Int) : Rat)))) ((Nt.hi4 ((Nt.gr k tl) * (Nt.gr k ql)) ((Nt.gr k tl) * (Nt.gr k qh)) ((Nt.gr k th) * (Nt.gr k ql)) ((Nt.gr k th) * (Nt.gr k qh))) * (Nt.lo (((1 : Int) : Rat) / (((Nt.coD j) : Int) : Rat)) (((1 : Int) : Rat) / (((Nt.coD j) : Int) : Rat)))) ((Nt.hi4 ((Nt.gr k tl) * (Nt.gr k ql)) ((Nt.gr k tl) * (Nt.gr k qh)) ((Nt.gr k th) * (Nt.gr k ql)) ((Nt.gr k th) * (Nt.gr k qh))) * (Nt.hi (((1 : Int) : Rat) / (((Nt.coD j) : Int) : Rat)) (((1 : Int) : Rat) / (((Nt.coD j) : Int) : Rat))))))) = (Nt.gr k (Nt.csL k j tl ql)) from (congrArg (Nt.gr k) (Nt.cs_t (j := j) (F := (((1 : Int) : Rat) / ((Nt.coD j : Int) : Rat))) ht0 htt hQ3 hQ5 rfl).1)] at h9; exact h9
   have hn321 : RatN u317 r315 (Nt.gr k (Nt.csH k j th qh)) (((40 + 40 + 1) + 3 + 1) + 70) := by have h9 := h316; rw [show (Nt.gr k (Nt.ceU k (Nt.hi4 ((Nt.lo4 ((Nt.gr k tl) * (Nt.gr k ql)) ((Nt.gr k tl) * (Nt.gr k qh)) ((Nt.gr k th) * (Nt.gr k ql)) ((Nt.gr k th) * (Nt.gr k qh))) * (Nt.lo (((1 : Int) : Rat) / (((Nt.coD j) : Int) : Rat)) (((1 : Int) : Rat) / (((Nt.coD j) : Int) : Rat)))) ((Nt.lo4 ((Nt.gr k tl) * (Nt.gr k ql)) ((Nt.gr k tl) * (Nt.gr k qh)) ((Nt.gr k th) * (Nt.gr k ql)) ((Nt.gr k th) * (Nt.gr k qh))) * (Nt.hi (((1 : Int) : Rat) / (((Nt.coD j) : Int) : Rat)) (((1 : Int) : Rat) / (((Nt.coD j) : Int) : Rat)))) ((Nt.hi4 ((Nt.gr k tl) * (Nt.gr k ql)) ((Nt.gr k tl) * (Nt.gr k qh)) ((Nt.gr k th) * (Nt.gr k ql)) ((Nt.gr k th) * (Nt.gr k qh))) * (Nt.lo (((1 : Int) : Rat) / (((Nt.coD j) : Int) : Rat)) (((1 : Int) : Rat) / (((Nt.coD j) : Int) : Rat)))) ((Nt.hi4 ((Nt.gr k tl) * (Nt.gr k ql)) ((Nt.gr k tl) * (Nt.gr k qh)) ((Nt.gr k th) * (Nt.gr k ql)) ((Nt.gr k th) * (Nt.gr k qh))) * (Nt.hi (((1 : Int) : Rat) / (((Nt.coD j) : Int) : Rat)) (((1 : Int) : Rat) / (((Nt.coD j) : Int) : Rat))))))) = (Nt.gr k (Nt.csH k j th qh)) from (congrArg (Nt.gr k) (Nt.cs_t (j := j) (F := (((1 : Int) : Rat) / ((Nt.coD j : Int) : Rat))) ht0 htt hQ3 hQ5 rfl).2)] at h9; exact h9
   refine zzf (zza 25 (zI j) (zyn 26 (x := zI (IntKind.i64.wrap ((j : Int) + 1))) (zI (j + 1 : Nat)) (eqI xj) (zza 9 (zI (j + 1 : Nat)) (zzw ?_))))
   have hne : j ≤ 1 ∨ 2 ≤ th := by have h8 := of_decide_eq_false hs90; omega
   have hgo := hI.go hQ hne (.inr ⟨q2hb221, rfl, rfl⟩)
   have hb9 := hgo.1.bd hq0 hp
   have hw9 := Nt.csW_le hk
   have hg0 := hgo.1.t.t0
   have hg1 := hgo.1.t.t1
   have hgt := hgo.1.t.tt
   have hg2 := hgo.1.t.t2
   have hmm := hgo.2
   refine ⟨_, ?_, _, by exact zzu _ _ _, j + 1, r313, r315, r273, r275, (Nt.csL k j tl ql), (Nt.csH k j th qh), (cc - th), (dd - tl), rfl, hgo.1, rfl, (e89.trans (e272.trans (g278.ext.trans (e282.trans (g286.ext.trans (e288.trans (g294.ext.trans (e296.trans (g302.ext.trans (e304.trans (g310.ext.trans (e312.trans g318.ext)))))))))))), (RatN.limG hn320 xq xq hk), (RatN.limG hn321 xq xq hk), (RatN.limG (hn280.ext (e282.trans (g286.ext.trans (e288.trans (g294.ext.trans (e296.trans (g302.ext.trans (e304.trans (g310.ext.trans (e312.trans g318.ext)))))))))) xq xq hk), (RatN.limG (hn281.ext (e282.trans (g286.ext.trans (e288.trans (g294.ext.trans (e296.trans (g302.ext.trans (e304.trans (g310.ext.trans (e312.trans g318.ext)))))))))) xq xq hk)⟩
   omega
set_option maxHeartbeats 2000000 in
theorem k_r10tight {u w : World} {a1 a2 : RL} {a b : Int} {k m : Nat} (d : Dat u w) (ha1 : RatN u a1 (Nt.gr m a) 40) (ha2 : RatN u a2 (Nt.gr m b) 40) (hkm : k ≤ m) (hk : k ≤ 256) (hm : m ≤ 800) : Calls Tryz.prog 103 #[IV a1 a2, .int .i64 (k : Int)] w (Post u w fun v u' => ∃ r1 r2 : RL, v = .tuple #[IV r1 r2, .bool (!(Nt.cmpS (a / Nt.u2 (m - k)) (b / Nt.u2 (m - k)) != 0))] ∧ ((Nt.cmpS (a / Nt.u2 (m - k)) (b / Nt.u2 (m - k)) != 0) = false → RatN u' r1 (Nt.gr k (a / Nt.u2 (m - k))) 200 ∧ RatN u' r2 (Nt.gr k (a / Nt.u2 (m - k) + 1)) 200)) := by
 refine zzl (args := [.agg #[.bool a1.s, .slice a1.m.a a1.m.n a1.m.c, .slice a1.d.a a1.d.n a1.d.c, .bool a2.s, .slice a2.m.a a2.m.n a2.m.c, .slice a2.d.a a2.d.n a2.d.c], .int .i64 k]) Tryz.func103 rfl Tryz.ntmps103 (rs := [.cell 4 32, .tmp 5]) Tryz.results103 (le_b rfl) (le_b rfl) d ?_
 refine sq9 (zzj 2 ⟨32, a1.cs ++ a2.cs⟩ (zzj 4 ⟨32, [.bool false, .slice none 0 0, .slice none 0 0, .bool false, .slice none 0 0, .slice none 0 0]⟩ (zza 5 (zB false) (zzb (sq9 (zza 10 (zI k) (zzg 11 27 [.int .i64 k] ?_)))))))
 intro w11 u11 e11 d11
 have k16 := k_unit (k := k) d11 xq
 with_reducible refine zPm k16 ?_
 rintro _ u14 g15 ⟨r12, rfl, h13⟩
 refine zzj 6 ⟨26, [.bool false, .slice none 0 0, .slice none 0 0]⟩ (zzi ⟨26, r12.cs⟩ ty26 ?_)
 refine zzb (zzd (zzy [0, 1, 0, 7, 15, 0, 32, 0, 255, 511, 0, 0, 4095, 8191] [(0, []), (1, []), (2, []), (5, []), (6, []), (7, []), (10, []), (11, []), (3, []), (4, []), (8, []), (9, []), (12, []), (13, [])] xk xk (zza 12 (.adr 2 0) (zzh 13 (.v (a1.v)) ty26 zze (zzh 14 (.v (r12.v)) ty26 zze (zza 17 (.adr 2 3) (zzh 18 (.v (a2.v)) ty26 zze (zzh 19 (.v (r12.v)) ty26 zze (zzj 7 ⟨24, [.bool false, .slice none 0 0]⟩ (zzj 8 ⟨24, [.bool false, .slice none 0 0]⟩ (zzg 15 25 [a1.v, r12.v] ?_)))))))))))
 intro w17 u17 e17 d17
 have k22 := k_rqMul d17 (ha1.ext (e11.trans (g15.ext.trans e17))).raw (h13.ext e17).raw xq xq
 with_reducible refine zPm k22 ?_
 rintro _ u20 g21 ⟨r18, rfl, h19⟩
 refine zzg 16 87 [r18.v] ?_
 intro w23 u23 e23 d23
 have k28 := k_floor d23 (h19.ext e23).raw xq
 with_reducible refine zPm k28 ?_
 rintro _ u26 g27 ⟨i24, rfl, h25⟩
 refine zzg 20 25 [a2.v, r12.v] ?_
 intro w29 u29 e29 d29
 have k34 := k_rqMul d29 (ha2.ext (e11.trans (g15.ext.trans (e17.trans (g21.ext.trans (e23.trans (g27.ext.trans e29))))))).raw (h13.ext (e17.trans (g21.ext.trans (e23.trans (g27.ext.trans e29))))).raw xq xq
 with_reducible refine zPm k34 ?_
 rintro _ u32 g33 ⟨r30, rfl, h31⟩
 refine zzg 21 87 [r30.v] ?_
 intro w35 u35 e35 d35
 have k40 := k_floor d35 (h31.ext e35).raw xq
 with_reducible refine zPm k40 ?_
 rintro _ u38 g39 ⟨i36, rfl, h37⟩
 refine zzi ⟨24, i24.cs⟩ ty24 ?_
 refine zzi ⟨24, i36.cs⟩ ty24 ?_
 refine zzb (zzd (zzd ?_))
 have hn41 : IntN u38 i24 (a / Nt.u2 (m - k)) ((40 + (k / 32 + 2) + 1) + 1) := by have h9 := (h25.ext (e29.trans (g33.ext.trans (e35.trans g39.ext)))); rw [Nt.flr_gr hkm] at h9; exact h9
 have hn42 : IntN u38 i36 (b / Nt.u2 (m - k)) ((40 + (k / 32 + 2) + 1) + 1) := by have h9 := h37; rw [Nt.flr_gr hkm] at h9; exact h9
 refine zzf (zzh 22 (.v (i24.v)) ty24 zze (zzh 23 (.v (i36.v)) ty24 zze (zzg 24 97 [i24.v, i36.v] ?_)))
 intro w43 u43 e43 d43
 have k46 := k_riCompare d43 (hn41.ext e43).raw (hn42.ext e43).raw xq xq
 with_reducible refine zPm k46 ?_
 rintro _ u44 g45 rfl
 refine zza 25 (zB ((Nt.cmpS (a / Nt.u2 (m - k)) (b / Nt.u2 (m - k))) != 0)) (zzb (zzt (b := (Nt.cmpS (a / Nt.u2 (m - k)) (b / Nt.u2 (m - k))) != 0) xk (fun hb47 => ?_) (fun hb47 => ?_)))
 ·replace hb47 : ((Nt.cmpS (a / Nt.u2 (m - k)) (b / Nt.u2 (m - k))) != 0) = true := hb47
  refine sq9 (zza 26 (.v (.agg #[.bool false, .slice none 0 0, .slice none 0 0, .bool false, .slice none 0 0, .slice none 0 0])) (zzi ⟨32, [.bool false, .slice none 0 0, .slice none 0 0, .bool false, .slice none 0 0, .slice none 0 0]⟩ ty32 ?_))
  refine zza 5 (zB false) (zzb (zzn (zzv (ret0 [.agg #[.bool false, .slice none 0 0, .slice none 0 0, .bool false, .slice none 0 0, .slice none 0 0], .bool false] ⟨zzq ty32 zze, zzp, trivial⟩ fun u48 e49 => ?_))))
  refine ⟨(⟨false, ⟨none, 0, 0⟩, ⟨none, 0, 0⟩⟩ : RL), (⟨false, ⟨none, 0, 0⟩, ⟨none, 0, 0⟩⟩ : RL), ?_, fun h8 => absurd (h8.symm.trans hb47) xw⟩
  rw [hb47]; rfl
 ·replace hb47 : ((Nt.cmpS (a / Nt.u2 (m - k)) (b / Nt.u2 (m - k))) != 0) = false := hb47
  refine zzr (zzo ?_)
  refine sq9 (zzh 27 (.v (i24.v)) ty24 zze (zxp 28 ⟨104, [.int .u32 1]⟩ 1 (fun b50 u51 e52 h53 => ?_)))
  refine zza 29 (.v (.agg #[.bool i24.s, i24.m.v, .slice (some ⟨b50, 0, none⟩) 1 1])) (zzj 9 ⟨26, [.bool false, .slice none 0 0, .slice none 0 0]⟩ (zzi ⟨26, i24.cs ++ [.slice (some ⟨b50, 0, none⟩) 1 1]⟩ ty26 ?_))
  refine zzb (zzd (zzy [0, 0, 3, 0, 7, 31, 0, 127, 255, 511, 1023] [(0, []), (1, []), (3, []), (6, []), (2, []), (4, []), (5, []), (7, []), (8, []), (9, []), (10, [])] xk xk (zzh 30 (.v (.agg #[.bool i24.s, i24.m.v, .slice (some ⟨b50, 0, none⟩) 1 1])) ty26 zze (zzh 31 (.v (r12.v)) ty26 zze (zzh 33 (.v (.agg #[.bool i24.s, i24.m.v, .slice (some ⟨b50, 0, none⟩) 1 1])) ty26 zze (zzh 36 (.v (r12.v)) ty26 zze (zzg 32 88 [.agg #[.bool i24.s, i24.m.v, .slice (some ⟨b50, 0, none⟩) 1 1], r12.v] ?_)))))))
  intro w54 u54 e54 d54
  have k59 := k_rqOver d54 (rat_mk2 (s := i24.s) (hn41.ext (e43.trans (g45.ext.trans (e52.trans e54)))).raw ((one_data h53).ext e54).raw) (h13.ext (e17.trans (g21.ext.trans (e23.trans (g27.ext.trans (e29.trans (g33.ext.trans (e35.trans (g39.ext.trans (e43.trans (g45.ext.trans (e52.trans e54)))))))))))).raw xq xq
  with_reducible refine zPm k59 ?_
  rintro _ u57 g58 ⟨r55, rfl, h56⟩
  refine zzg 34 30 [.int .i64 1] ?_
  intro w60 u60 e60 d60
  have k65 := k_rqOf d60 (z := 1) xq xq
  with_reducible refine zPm k65 ?_
  rintro _ u63 g64 ⟨r61, rfl, h62⟩
  refine zzg 35 57 [.agg #[.bool i24.s, i24.m.v, .slice (some ⟨b50, 0, none⟩) 1 1], r61.v] ?_
  intro w66 u66 e66 d66
  have k71 := k_rqAdd d66 (rat_mk2 (s := i24.s) (hn41.ext (e43.trans (g45.ext.trans (e52.trans (e54.trans (g58.ext.trans (e60.trans (g64.ext.trans e66)))))))).raw ((one_data h53).ext (e54.trans (g58.ext.trans (e60.trans (g64.ext.trans e66))))).raw) (h62.ext e66).raw xq xq
  with_reducible refine zPm k71 ?_
  rintro _ u69 g70 ⟨r67, rfl, h68⟩
  refine zzg 37 88 [r67.v, r12.v] ?_
  intro w72 u72 e72 d72
  have k77 := k_rqOver d72 (h68.ext e72).raw (h13.ext (e17.trans (g21.ext.trans (e23.trans (g27.ext.trans (e29.trans (g33.ext.trans (e35.trans (g39.ext.trans (e43.trans (g45.ext.trans (e52.trans (e54.trans (g58.ext.trans (e60.trans (g64.ext.trans (e66.trans (g70.ext.trans e72)))))))))))))))))).raw xq xq
  with_reducible refine zPm k77 ?_
  rintro _ u75 g76 ⟨r73, rfl, h74⟩
  refine zza 38 (.v (.agg #[.bool r55.s, r55.m.v, r55.d.v, .bool r73.s, r73.m.v, r73.d.v])) (zzi ⟨32, r55.cs ++ r73.cs⟩ ty32 ?_)
  refine zza 5 (zB true) (zzc 39 [(4, .adr 4 0), (5, zB true)] [(4, ⟨32, r55.cs ++ r73.cs⟩)] (zzn (ret0 [.agg #[.bool r55.s, .slice r55.m.a r55.m.n r55.m.c, .slice r55.d.a r55.d.n r55.d.c, .bool r73.s, .slice r73.m.a r73.m.n r73.m.c, .slice r73.d.a r73.d.n r73.d.c], .bool true] ⟨zzq ty32 zze, zzp, trivial⟩ fun u78 e79 => ?_)))
  refine ⟨r55, r73, by rw [hb47]; rfl, fun _ => ⟨RatN.more (K := ((max (max ((40 + (k / 32 + 2) + 1) + 1) 1) 1) + (k / 32 + 2) + 2)) ?_ xq, RatN.more (K := (((max (max ((40 + (k / 32 + 2) + 1) + 1) 1) 1) + 2 + 2) + (k / 32 + 2) + 2)) ?_ xq⟩⟩
  ·have h9 := (h56.ext (e60.trans (g64.ext.trans (e66.trans (g70.ext.trans (e72.trans (g76.ext.trans e79)))))))
   rw [Nt.tight_lo] at h9
   exact h9
  ·have h9 := (h74.ext e79)
   rw [Nt.tight_hi] at h9
   exact h9
theorem Nt.not_f {b : Bool} (h : (!b) = false) : b = true := by cases b with | true => rfl | false => exact absurd h xw
theorem Nt.not_t {b : Bool} (h : (!b) = true) : b = false := by cases b with | false => rfl | true => exact absurd h xw
def IfI (u : World) (ok : Bool) (r1 r2 : RL) (x y : Rat) : Prop := ok = true → RatN u r1 x 200 ∧ RatN u r2 y 200
theorem IfI.ext {u u' : World} {ok : Bool} {r1 r2 : RL} {x y : Rat} (h : IfI u ok r1 r2 x y) (e : Ext u u') : IfI u' ok r1 r2 x y := fun k => ⟨(h k).1.ext e, (h k).2.ext e⟩
theorem k_r10bad {u w : World} {n : Int} (d : Dat u w) : Calls Tryz.prog 85 #[.int .i64 n] w (Post u w fun v _ => v = .bool (decide (n < 0 ∨ 256 < n))) := by
 refine zzl (args := [.int .i64 n]) Tryz.func85 rfl Tryz.ntmps85 (rs := [.tmp 2]) Tryz.results85 (le_b rfl) (le_b rfl) d ?_
 refine sq9 (zza 2 (zB false) (zzb (sq9 (zza 3 (zI n) (zza 4 (zB (decide (n < 0))) ?_)))))
 rcases Bool.eq_false_or_eq_true (decide (n < 0)) with hs11 | hs11
 ·refine zyn 5 (x := zB (decide (n < 0))) (zB true) (by rw [hs11]) ?_
  have qhs11 := of_decide_eq_true hs11
  refine zzm 6 (uw 2 false true 5) (zzm 7 (uw 2 false true 5) (zza 8 (zB true) (zza 2 (zB true) (zzb (zzn (ret0 [.bool true] ⟨zzp, trivial⟩ fun u12 e13 => ?_))))))
  show Value.bool _ = Value.bool _
  congr 1
  symm
  exact decide_eq_true (.inl (of_decide_eq_true hs11))
 ·refine zyn 5 (x := zB (decide (n < 0))) (zB false) (by rw [hs11]) ?_
  have qhs11 := of_decide_eq_false hs11
  refine zza 6 (zI n) ?_ (hw := w1 2 false 5)
  refine zza 7 (zB (decide ((256 : Int) < n))) ?_ (hw := w1 2 false 5)
  refine zza 8 (zB (decide ((256 : Int) < n))) (zza 2 (zB (decide ((256 : Int) < n))) (zzb (zzn (ret0 [.bool (decide ((256 : Int) < n))] ⟨zzp, trivial⟩ fun u14 e15 => ?_))))
  show Value.bool _ = Value.bool _
  congr 1
  symm
  have h9 := of_decide_eq_false hs11
  by_cases h8 : 256 < n
  ·rw [decide_eq_true h8]; exact decide_eq_true (.inr h8)
  ·rw [decide_eq_false h8]; exact decide_eq_false (fun h => h.elim h9 h8)
theorem k_r10point {u w : World} {r : RL} {q : Rat} {K k : Nat} (d : Dat u w) (hr : RatN u r q K) (hk : k ≤ 256) (hK : K ≤ 10) : Calls Tryz.prog 105 #[r.v, .int .i64 (k : Int)] w (Post u w fun v u' => ∃ r1 r2 : RL, v = IV r1 r2 ∧ RatN u' r1 (Nt.dnQ q k) 80 ∧ RatN u' r2 (-Nt.dnQ (-q) k) 80) := by
 refine zzl (args := [r.v, .int .i64 k]) Tryz.func105 rfl Tryz.ntmps105 (rs := [.cell 4 32]) Tryz.results105 (le_b rfl) (le_b rfl) d ?_
 refine sq9 (zzj 2 ⟨26, r.cs⟩ (zzj 4 ⟨32, [.bool false, .slice none 0 0, .slice none 0 0, .bool false, .slice none 0 0, .slice none 0 0]⟩ (zzb (sq9 (zzh 8 (.v (r.v)) ty26 zze (zzh 9 (.v (r.v)) ty26 zze (zzg 10 38 [r.v, r.v] ?_)))))))
 intro w11 u11 e11 d11
 have k18 := k_r4Make d11 (hr.ext e11).raw (hr.ext e11).raw xq
 with_reducible refine zPm k18 ?_
 rintro _ u16 g17 ⟨r12, r14, rfl, h13, h15⟩
 refine zza 11 (zI k) (zzg 12 186 [.agg #[.bool r12.s, r12.m.v, r12.d.v, .bool r14.s, r14.m.v, r14.d.v], .int .i64 k] ?_)
 intro w19 u19 e19 d19
 have k25 := k_r4RoundG (k := k) xq d19 (h13.ext e19).raw (h15.ext e19).raw xq
 with_reducible refine zPm k25 ?_
 rintro _ u23 g24 ⟨r20, r21, rfl, h22⟩
 refine zza 7 (.v (.tuple #[.agg #[.bool r20.s, r20.m.v, r20.d.v, .bool r21.s, r21.m.v, r21.d.v], .int .i64 (Nt.rndE (k : Int))])) (zza 13 (.v (.agg #[.bool r20.s, r20.m.v, r20.d.v, .bool r21.s, r21.m.v, r21.d.v])) (zza 14 (zI (Nt.rndE (k : Int))) (zzj 5 ⟨32, [.bool false, .slice none 0 0, .slice none 0 0, .bool false, .slice none 0 0, .slice none 0 0]⟩ (zzi ⟨32, r20.cs ++ r21.cs⟩ ty32 ?_))))
 refine zza 6 (zI (Nt.rndE (k : Int))) (zzb (sq9 (zzh 15 (.v (.agg #[.bool r20.s, r20.m.v, r20.d.v, .bool r21.s, r21.m.v, r21.d.v])) ty32 zze (zzi ⟨32, r20.cs ++ r21.cs⟩ ty32 ?_))))
 refine zzb (zzn (ret0 [.agg #[.bool r20.s, .slice r20.m.a r20.m.n r20.m.c, .slice r20.d.a r20.d.n r20.d.c, .bool r21.s, .slice r21.m.a r21.m.n r21.m.c, .slice r21.d.a r21.d.n r21.d.c]] ⟨zzq ty32 zze, trivial⟩ fun u26 e27 => ?_))
 have h9 := (h22.ext e27)
 rw [Nt.rnd_pt hk] at h9
 exact ⟨r20, r21, rfl, RatN.more h9.1 xq, RatN.more h9.2 xq⟩
set_option maxHeartbeats 2000000 in
theorem k_r10PiG {u w : World} {k : Nat} (d : Dat u w) (hk : k ≤ 256) : Calls Tryz.prog 34 #[.int .i64 (k : Int)] w (Post u w fun v u' => ∃ r1 r2 : RL, v = .tuple #[IV r1 r2, .int .i64 0] ∧ RatN u' r1 (Nt.gr k (Nt.flo Nt.piN k)) 200 ∧ RatN u' r2 (Nt.gr k (Nt.flo Nt.piN k + 1)) 200) := by
 have hg := Nt.gap_pi.lower hk
 have hg3 : 260 ≤ 300 := by decide
 refine zzl (args := [.int .i64 k]) Tryz.func34 rfl Tryz.ntmps34 (rs := [.cell 2 32, .tmp 3]) Tryz.results34 (le_b rfl) (le_b rfl) d ?_
 refine sq9 (zzj 2 ⟨32, [.bool false, .slice none 0 0, .slice none 0 0, .bool false, .slice none 0 0, .slice none 0 0]⟩ (zza 3 (zI 0) (zzb (zzd (sq9 (zza 7 (zI k) (zzg 8 85 [.int .i64 k] ?_)))))))
 intro w11 u11 e11 d11
 have k14 := k_r10bad (n := (k : Int)) d11
 with_reducible refine zPm k14 ?_
 rintro _ u12 g13 rfl
 refine zzb (zzt (b := decide ((k : Int) < 0 ∨ 256 < (k : Int))) xk (fun hb => ?_) (fun hb => ?_))
 ·exact absurd hb (by rw [show (decide ((k : Int) < 0 ∨ 256 < (k : Int))) = false from decide_eq_false xq]; decide)
 ·clear hb
  refine zzr (zzo ?_)
  refine sq9 (zza 10 (zI k) (zyn 11 (x := zI (IntKind.i64.wrap ((k : Int) + 16))) (zI (k + 16 : Nat)) (eqI xj) (zza 4 (zI (k + 16 : Nat)) (zzb (zzs (zyl (I := fun m15 S' u' => ∃ (wk : Nat), (m15 = 1000 - wk) ∧ (k + 16 ≤ wk) ∧ (wk ≤ 674 ∨ wk = k + 16) ∧ (S' = St.of 23 [(0, zI k), (2, .adr 2 0), (4, zI wk)] [(2, ⟨32, [.bool false, .slice none 0 0, .slice none 0 0, .bool false, .slice none 0 0, .slice none 0 0]⟩)]) ∧ (Ext u12 u')) (fun m S u1 u2 e h => by obtain ⟨wk, hm, p0, p1, hS, hE⟩ := h; exact ⟨wk, hm, p0, p1, hS, hE.trans e⟩) _ yq ⟨k + 16, rfl, by omega, .inr rfl, rfl, (Ext.refl _)⟩ ?_))))))
  rintro m15 _ u15 ⟨wk, hm15, hw0, hw1, rfl, e15⟩
  refine zzd (zzs (sq9 (zza 15 (zI wk) (zzg 16 104 [.int .i64 wk] ?_))))
  intro w16 u16 e16 d16
  have k20 := k_r10pi d16 (k := wk) xq xq
  with_reducible refine zPm k20 ?_
  rintro _ u18 g19 ⟨si17, sj17, sa17, sb17, rfl, ha17, hb17, hR17⟩
  refine zza 17 (zI k) (zzg 18 103 [.agg #[.bool si17.s, si17.m.v, si17.d.v, .bool sj17.s, sj17.m.v, sj17.d.v], .int .i64 k] ?_)
  intro w21 u21 e21 d21
  have k25 := k_r10tight (k := k) (m := wk) (a := sa17) (b := sb17) d21 (ha17.ext e21) (hb17.ext e21) xq xq xq
  with_reducible refine zPm k25 ?_
  rintro _ u23 g24 ⟨tp22, tq22, rfl, hT22⟩
  refine zza 14 (.v (.tuple #[.agg #[.bool tp22.s, tp22.m.v, tp22.d.v, .bool tq22.s, tq22.m.v, tq22.d.v], .bool (!(Nt.cmpS (sa17 / Nt.u2 (wk - k)) (sb17 / Nt.u2 (wk - k)) != 0))])) (zza 19 (.v (.agg #[.bool tp22.s, tp22.m.v, tp22.d.v, .bool tq22.s, tq22.m.v, tq22.d.v])) (zza 20 (zB (!(Nt.cmpS (sa17 / Nt.u2 (wk - k)) (sb17 / Nt.u2 (wk - k)) != 0))) (zzj 5 ⟨32, [.bool false, .slice none 0 0, .slice none 0 0, .bool false, .slice none 0 0, .slice none 0 0]⟩ (zzi ⟨32, tp22.cs ++ tq22.cs⟩ ty32 ?_))))
  refine zza 6 (zB (!(Nt.cmpS (sa17 / Nt.u2 (wk - k)) (sb17 / Nt.u2 (wk - k)) != 0))) (zzb (sq9 (zza 21 (zB (!(Nt.cmpS (sa17 / Nt.u2 (wk - k)) (sb17 / Nt.u2 (wk - k)) != 0))) (zzb (zzt (b := (!(Nt.cmpS (sa17 / Nt.u2 (wk - k)) (sb17 / Nt.u2 (wk - k)) != 0))) xk (fun hb26 => ?_) (fun hb26 => ?_))))))
  ·replace hb26 : (!(Nt.cmpS (sa17 / Nt.u2 (wk - k)) (sb17 / Nt.u2 (wk - k)) != 0)) = true := hb26
   refine sq9 (zzh 22 (.v (.agg #[.bool tp22.s, tp22.m.v, tp22.d.v, .bool tq22.s, tq22.m.v, tq22.d.v])) ty32 zze (zzi ⟨32, tp22.cs ++ tq22.cs⟩ ty32 ?_))
   refine zza 3 (zI 0) (zzb (zzn (zyr (zzv (zyq (zyr (ret0 [.agg #[.bool tp22.s, .slice tp22.m.a tp22.m.n tp22.m.c, .slice tp22.d.a tp22.d.n tp22.d.c, .bool tq22.s, .slice tq22.m.a tq22.m.n tq22.m.c, .slice tq22.d.a tq22.d.n tq22.d.c], .int .i64 0] ⟨zzq ty32 zze, zzp, trivial⟩ fun u27 e28 => ?_)))))))
   have hfl := Nt.flo_of hR17.1 xq (Nt.not_t hb26)
   refine ⟨tp22, tq22, rfl, RatN.more (K := 200) ?_ xq, RatN.more (K := 200) ?_ xq⟩
   ·rw [← hfl]; exact ((hT22 (Nt.not_t hb26)).1.ext e28)
   ·rw [← hfl]; exact ((hT22 (Nt.not_t hb26)).2.ext e28)
  ·replace hb26 : (!(Nt.cmpS (sa17 / Nt.u2 (wk - k)) (sb17 / Nt.u2 (wk - k)) != 0)) = false := hb26
   refine zzr (zzo ?_)
   refine zzf (zza 12 (zI wk) (zyn 13 (x := zI (IntKind.i64.wrap ((wk : Int) * 2))) (zI (wk * 2 : Nat)) (eqI xj) (zza 4 (zI (wk * 2 : Nat)) (zzw ?_))))
   have hny := Nt.not_yet hg hR17.1 (Nt.piR_w hR17 xq) (Nt.not_f hb26)
   refine ⟨_, ?_, _, by exact zzu _ _ _, wk * 2, rfl, by omega, by omega, rfl, (e15.trans (e16.trans (g19.ext.trans (e21.trans g24.ext))))⟩
   omega
theorem Nt.cs_x {k : Nat} {a b : Int} {F : Rat} (h : a ≤ b) (hF : 0 ≤ F) : Nt.lo4 (Nt.gr k a * Nt.lo F F) (Nt.gr k a * Nt.hi F F) (Nt.gr k b * Nt.lo F F) (Nt.gr k b * Nt.hi F F) = Nt.gr k a * F ∧ Nt.hi4 (Nt.gr k a * Nt.lo F F) (Nt.gr k a * Nt.hi F F) (Nt.gr k b * Nt.lo F F) (Nt.gr k b * Nt.hi F F) = Nt.gr k b * F := by
 rw [Nt.lo_self, Nt.hi_self]
 exact Nt.lo4_pt (Nt.gr_mono h) hF
theorem Nt.fr_nn {s q : Nat} (h : 0 < q) : (0 : Rat) ≤ (((s : Int) : Rat) / ((q : Int) : Rat)) := Nt.div_nn (Rat.intCast_le_intCast.2 (show (0 : Int) ≤ (s : Int) by omega)) (Nt.castI_pos (show (0 : Int) < (q : Int) by omega))
theorem Nt.GapQ.half {q b : Nat} (hq : 0 < q) (h : Nt.GapQ (2 * q) b) : Nt.GapQ q b := by
 obtain ⟨g, hg, h⟩ := h
 refine ⟨g, hg, fun p h1 h2 h3 => ?_⟩
 have h4 := h (2 * p) xq xq xq
 exact (Nt.Gap.scale (k := 2) xw hq).1 h4
set_option maxHeartbeats 8000000 in
theorem k_r10CosPiG {u w : World} {p : Int} {q k : Nat} (d : Dat u w) (hq1 : 1 ≤ q) (hq2 : q ≤ 1000) (hp0 : -1000000 ≤ p) (hp1 : p ≤ 1000000) (hk : k ≤ 256) (hG0 : Nt.GapQ q k) : Calls Tryz.prog 35 #[.int .i64 p, .int .i64 (q : Int), .int .i64 (k : Int)] w (Post u w fun v u' => ∃ r1 r2 : RL, v = .tuple #[IV r1 r2, .int .i64 0] ∧ RatN u' r1 ((Nt.cosV p q k).1) 200 ∧ RatN u' r2 ((Nt.cosV p q k).2) 200) := by
 have hq0 : 0 < q := by omega
 have htm := Nt.tmod_bd p hq0
 obtain ⟨g, hg3, hG⟩ := id hG0
 refine zzl (args := [.int .i64 p, .int .i64 q, .int .i64 k]) Tryz.func35 rfl Tryz.ntmps35 (rs := [.cell 6 32, .tmp 7]) Tryz.results35 (le_b rfl) (le_b rfl) d ?_
 refine sq9 (zzj 6 ⟨32, [.bool false, .slice none 0 0, .slice none 0 0, .bool false, .slice none 0 0, .slice none 0 0]⟩ (zza 7 (zI 0) (zzb (zzd (sq9 (zza 13 (zI k) (zzg 14 85 [.int .i64 k] ?_)))))))
 intro w11 u11 e11 d11
 have k14 := k_r10bad (n := (k : Int)) d11
 with_reducible refine zPm k14 ?_
 rintro _ u12 g13 rfl
 refine zyn 15 (x := zB (decide ((k : Int) < 0 ∨ 256 < (k : Int)))) (zB false) (by rw [show (decide ((k : Int) < 0 ∨ 256 < (k : Int))) = false from decide_eq_false xq]) (zza 16 (zI q) ?_ (hw := w1 2 false 15))
 refine zza 17 (zB (decide ((q : Int) < 1))) ?_ (hw := w1 2 false 15)
 refine zza 18 (zB (decide ((q : Int) < 1))) (zyn 19 (x := zB (decide ((q : Int) < 1))) (zB false) (by rw [show (decide ((q : Int) < 1)) = false from decide_eq_false xq]) (zza 20 (zI q) ?_ (hw := w1 6 false 19)))
 refine zza 21 (zB (decide ((1000 : Int) < (q : Int)))) ?_ (hw := w1 6 false 19)
 refine zza 22 (zB (decide ((1000 : Int) < (q : Int)))) (zyn 23 (x := zB (decide ((1000 : Int) < (q : Int)))) (zB false) (by rw [show (decide ((1000 : Int) < (q : Int))) = false from decide_eq_false xq]) (zza 24 (zI p) ?_ (hw := w1 10 false 23)))
 refine zza 25 (zB (decide (p < (-1000000)))) ?_ (hw := w1 10 false 23)
 refine zza 26 (zB (decide (p < (-1000000)))) (zyn 27 (x := zB (decide (p < (-1000000)))) (zB false) (by rw [show (decide (p < (-1000000))) = false from decide_eq_false xq]) (zza 28 (zI p) ?_ (hw := w1 14 false 27)))
 refine zza 29 (zB (decide ((1000000 : Int) < p))) ?_ (hw := w1 14 false 27)
 refine zza 30 (zB (decide ((1000000 : Int) < p))) (zzb (zzt (b := decide ((1000000 : Int) < p)) xk (fun hb => ?_) (fun hb => ?_)))
 ·exact absurd hb (by rw [show (decide ((1000000 : Int) < p)) = false from decide_eq_false xq]; decide)
 ·clear hb
  refine zzr (zzo ?_)
  refine sq9 (zza 32 (zI p) (zza 33 (zI q) (zyn 34 (x := zI (IntKind.i64.wrap ((2 : Int) * (q : Int)))) (zI (2 * q : Nat)) (eqI xj) (sy_rem 35 (m := ((2 * q : Nat) : Int)) (Int.tmod p (2 * (q : Int))) xq (by rw [Int.natCast_mul]; rfl) ?_))))
  refine zza 0 (zI (Int.tmod p (2 * (q : Int)))) (zzb (zzd (sq9 (zza 36 (zI (Int.tmod p (2 * (q : Int)))) (zza 37 (zB (decide ((Int.tmod p (2 * (q : Int))) < 0))) (zzb (zzt (b := decide ((Int.tmod p (2 * (q : Int))) < 0)) xk (fun hb19 => ?_) (fun hb19 => ?_))))))))
  ·replace hb19 : (decide ((Int.tmod p (2 * (q : Int))) < 0)) = true := hb19
   have qhb19 := of_decide_eq_true hb19
   refine zzf (zza 38 (zI (Int.tmod p (2 * (q : Int)))) (zza 39 (zI q) (zyn 40 (x := zI (IntKind.i64.wrap ((2 : Int) * (q : Int)))) (zI (2 * q : Nat)) (eqI xj) (zyn 41 (x := zI (IntKind.i64.wrap ((Int.tmod p (2 * (q : Int))) + ((2 * q : Nat) : Int)))) (zI ((Int.tmod p (2 * (q : Int))) + ((2 * q : Nat) : Int))) yv (zza 0 (zI ((Int.tmod p (2 * (q : Int))) + ((2 * q : Nat) : Int))) (zzc 113 [(0, zI ((Int.tmod p (2 * (q : Int))) + ((2 * q : Nat) : Int))), (1, zI q), (2, zI k), (6, .adr 6 0)] [(6, ⟨32, [.bool false, .slice none 0 0, .slice none 0 0, .bool false, .slice none 0 0, .slice none 0 0]⟩)] (zzd (sw_joinP (I := fun S' u' => ∃ (r : Nat), (Nt.fold p q = r) ∧ (r ≤ q) ∧ (S' = St.of 113 [(0, zI r), (1, zI q), (2, zI k), (6, .adr 6 0)] [(6, ⟨32, [.bool false, .slice none 0 0, .slice none 0 0, .bool false, .slice none 0 0, .slice none 0 0]⟩)])) ?_ (fun rest20 => ?_)))))))))
   ·rintro _ uj20 ej20 ⟨r, hr, hfl, rfl⟩
    refine sq9 (zza 49 (zI r) (zyn 50 (x := zI (IntKind.i64.wrap ((2 : Int) * (r : Int)))) (zI (2 * r : Nat)) (eqI xj) (zza 51 (zI q) (zza 52 (zB (decide ((q : Int) < ((2 * r : Nat) : Int)))) (zza 8 (zB (decide ((q : Int) < ((2 * r : Nat) : Int)))) (zzb (zzd (sw_joinP (I := fun S' u' => ∃ (s : Nat) (ng : Bool), ((ng = true ∧ q < 2 * r ∧ s = q - r) ∨ (ng = false ∧ ¬ q < 2 * r ∧ s = r)) ∧ (2 * s ≤ q) ∧ (S' = St.of 113 [(0, zI s), (1, zI q), (2, zI k), (6, .adr 6 0), (8, zB ng)] [(6, ⟨32, [.bool false, .slice none 0 0, .slice none 0 0, .bool false, .slice none 0 0, .slice none 0 0]⟩)])) ?_ (fun rest21 => ?_)))))))))
    ·rintro _ uj21 ej21 ⟨s, ng, hs, hsq, rfl⟩
     refine sq9 (zza 57 (.v (.agg #[.bool false, .slice none 0 0, .slice none 0 0, .bool false, .slice none 0 0, .slice none 0 0])) (zzj 9 ⟨32, [.bool false, .slice none 0 0, .slice none 0 0, .bool false, .slice none 0 0, .slice none 0 0]⟩ (zzi ⟨32, [.bool false, .slice none 0 0, .slice none 0 0, .bool false, .slice none 0 0, .slice none 0 0]⟩ ty32 ?_)))
     refine zzb (zzd (sw_joinP (I := fun S' u' => ∃ (x1 : RL) (x2 : RL), (S' = St.of 113 [(6, .adr 6 0), (8, zB ng), (9, .adr 9 0)] [(6, ⟨32, [.bool false, .slice none 0 0, .slice none 0 0, .bool false, .slice none 0 0, .slice none 0 0]⟩), (9, ⟨32, x1.cs ++ x2.cs⟩)]) ∧ (RatN u' x1 (Nt.cosA s q k).1 200) ∧ (RatN u' x2 (Nt.cosA s q k).2 200)) ?_ (fun rest22 => ?_)))
     ·rintro _ uj22 ej22 ⟨x1, x2, rfl, fx1, fx2⟩
      refine zzd (sq9 (zza 104 (zB ng) (zzb (zzt (b := ng) xk (fun hb23 => ?_) (fun hb23 => ?_)))))
      ·replace hb23 : ng = true := hb23
       refine zzy [0, 1, 3, 0, 8, 31, 63, 127] [(0, []), (1, []), (3, []), (4, []), (2, []), (5, []), (6, []), (7, [])] xk xk (zza 105 (.adr 9 3) (zzh 106 (.v (x2.v)) ty26 zze (zza 108 (.adr 9 0) (zzh 109 (.v (x1.v)) ty26 zze (zzg 107 39 [x2.v] ?_)))))
       intro w24 u24 e24 d24
       have k29 := k_rqNeg d24 (fx2.ext e24).raw xq
       with_reducible refine zPm k29 ?_
       rintro _ u27 g28 ⟨r25, rfl, h26⟩
       refine zzg 110 39 [x1.v] ?_
       intro w30 u30 e30 d30
       have k35 := k_rqNeg d30 (fx1.ext (e24.trans (g28.ext.trans e30))).raw xq
       with_reducible refine zPm k35 ?_
       rintro _ u33 g34 ⟨r31, rfl, h32⟩
       refine zza 111 (.v (.agg #[.bool r25.s, r25.m.v, r25.d.v, .bool r31.s, r31.m.v, r31.d.v])) (zzi ⟨32, r25.cs ++ r31.cs⟩ ty32 ?_)
       refine zzb (sq9 (zzh 112 (.v (.agg #[.bool r25.s, r25.m.v, r25.d.v, .bool r31.s, r31.m.v, r31.d.v])) ty32 zze (zzi ⟨32, r25.cs ++ r31.cs⟩ ty32 ?_)))
       refine zza 7 (zI 0) (zzb (zzn (ret0 [.agg #[.bool r25.s, .slice r25.m.a r25.m.n r25.m.c, .slice r25.d.a r25.d.n r25.d.c, .bool r31.s, .slice r31.m.a r31.m.n r31.m.c, .slice r31.d.a r31.d.n r31.d.c], .int .i64 0] ⟨zzq ty32 zze, zzp, trivial⟩ fun u36 e37 => ?_)))
       have hs9 := hs.resolve_right (fun h => by rw [hb23] at h; exact absurd h.1 xw)
       have hc := Nt.cosV_hi (b := k) hr hs9.2.1
       rw [← hs9.2.2] at hc
       refine ⟨r25, r31, rfl, RatN.more (K := 200) ?_ xq, RatN.more (K := 200) ?_ xq⟩
       ·rw [hc]; exact (h26.ext (e30.trans (g34.ext.trans e37)))
       ·rw [hc]; exact (h32.ext e37)
      ·replace hb23 : ng = false := hb23
       refine zzr (zzo ?_)
       refine sq9 (zzh 112 (.v (.agg #[.bool x1.s, x1.m.v, x1.d.v, .bool x2.s, x2.m.v, x2.d.v])) ty32 zze (zzi ⟨32, x1.cs ++ x2.cs⟩ ty32 ?_))
       refine zza 7 (zI 0) (zzb (zzn (ret0 [.agg #[.bool x1.s, .slice x1.m.a x1.m.n x1.m.c, .slice x1.d.a x1.d.n x1.d.c, .bool x2.s, .slice x2.m.a x2.m.n x2.m.c, .slice x2.d.a x2.d.n x2.d.c], .int .i64 0] ⟨zzq ty32 zze, zzp, trivial⟩ fun u38 e39 => ?_)))
       have hs9 := hs.resolve_left (fun h => by rw [hb23] at h; exact absurd h.1 xw)
       have hc := Nt.cosV_lo (b := k) hr hs9.2.1
       rw [← hs9.2.2] at hc
       refine ⟨x1, x2, rfl, RatN.more (K := 200) ?_ xq, RatN.more (K := 200) ?_ xq⟩
       ·rw [hc]; exact (fx1.ext e39)
       ·rw [hc]; exact (fx2.ext e39)
     ·skip
      refine zzs (sq9 (zza 83 (zI s) (zza 84 (zB ((s : Int) == 0)) (zza 82 (zB ((s : Int) == 0)) (zzb (zzt (b := (s : Int) == 0) xk (fun hb40 => ?_) (fun hb40 => ?_)))))))
      ·replace hb40 : ((s : Int) == 0) = true := hb40
       have qhb40 : (s : Int) = 0 := by simpa using hb40
       have q9hb40 : s = 0 := by have h9 := hb40; simp at h9; omega
       refine zzf (zzg 85 30 [.int .i64 1] ?_)
       intro w41 u41 e41 d41
       have k46 := k_rqOf d41 (z := 1) xq xq
       with_reducible refine zPm k46 ?_
       rintro _ u44 g45 ⟨r42, rfl, h43⟩
       refine zza 86 (zI k) (zzg 87 105 [r42.v, .int .i64 k] ?_)
       intro w47 u47 e47 d47
       have k54 := k_r10point (k := k) d47 (h43.ext e47) xq xq
       with_reducible refine zPm k54 ?_
       rintro _ u52 g53 ⟨r48, r50, rfl, h49, h51⟩
       refine zzi ⟨32, r48.cs ++ r50.cs⟩ ty32 ?_
       refine zzw ?_
       refine zzo ?_
       have hcA := Nt.cosA_0 (r := s) (q := q) (b := k) q9hb40
       refine sw_weak (T := St.of 113 [(6, .adr 6 0), (8, zB ng), (9, .adr 9 0)] [(6, ⟨32, [.bool false, .slice none 0 0, .slice none 0 0, .bool false, .slice none 0 0, .slice none 0 0]⟩), (9, ⟨32, r48.cs ++ r50.cs⟩)]) yq ?_
       exact rest22 _ _ (e41.trans (g45.ext.trans (e47.trans g53.ext))) ⟨r48, r50, rfl, (by rw [hcA]; exact RatN.more h49 xq), (by rw [hcA]; exact RatN.more h51 xq)⟩
      ·replace hb40 : ((s : Int) == 0) = false := hb40
       have qhb40 : ¬ ((s : Int) = 0) := by simpa using hb40
       have q9hb40 : ¬ s = 0 := by have h9 := hb40; simp at h9; omega
       refine sq9 (zza 89 (zI s) (zyn 90 (x := zI (IntKind.i64.wrap ((2 : Int) * (s : Int)))) (zI (2 * s : Nat)) (eqI xj) (zza 91 (zI q) (zza 92 (zB (((2 * s : Nat) : Int) == (q : Int))) (zza 88 (zB (((2 * s : Nat) : Int) == (q : Int))) (zzb (zzt (b := ((2 * s : Nat) : Int) == (q : Int)) xk (fun hb55 => ?_) (fun hb55 => ?_))))))))
       ·replace hb55 : (((2 * s : Nat) : Int) == (q : Int)) = true := hb55
        have q9hb55 : 2 * s = q := by have h9 := hb55; simp at h9; omega
        refine zzf (zzg 93 30 [.int .i64 0] ?_)
        intro w56 u56 e56 d56
        have k61 := k_rqOf d56 (z := 0) xq xq
        with_reducible refine zPm k61 ?_
        rintro _ u59 g60 ⟨r57, rfl, h58⟩
        refine zza 94 (zI k) (zzg 95 105 [r57.v, .int .i64 k] ?_)
        intro w62 u62 e62 d62
        have k69 := k_r10point (k := k) d62 (h58.ext e62) xq xq
        with_reducible refine zPm k69 ?_
        rintro _ u67 g68 ⟨r63, r65, rfl, h64, h66⟩
        refine zzi ⟨32, r63.cs ++ r65.cs⟩ ty32 ?_
        refine zzw ?_
        refine zzo ?_
        have hcA := Nt.cosA_h (r := s) (q := q) (b := k) q9hb40 q9hb55
        refine sw_weak (T := St.of 113 [(6, .adr 6 0), (8, zB ng), (9, .adr 9 0)] [(6, ⟨32, [.bool false, .slice none 0 0, .slice none 0 0, .bool false, .slice none 0 0, .slice none 0 0]⟩), (9, ⟨32, r63.cs ++ r65.cs⟩)]) yq ?_
        exact rest22 _ _ (e56.trans (g60.ext.trans (e62.trans g68.ext))) ⟨r63, r65, rfl, (by rw [hcA]; exact RatN.more h64 xq), (by rw [hcA]; exact RatN.more h66 xq)⟩
       ·replace hb55 : (((2 * s : Nat) : Int) == (q : Int)) = false := hb55
        have q9hb55 : ¬ 2 * s = q := by have h9 := hb55; simp at h9; omega
        refine sq9 (zza 97 (zI s) (zyn 98 (x := zI (IntKind.i64.wrap ((3 : Int) * (s : Int)))) (zI (3 * s : Nat)) (eqI xj) (zza 99 (zI q) (zza 100 (zB (((3 * s : Nat) : Int) == (q : Int))) (zza 96 (zB (((3 * s : Nat) : Int) == (q : Int))) (zzb (zzt (b := ((3 * s : Nat) : Int) == (q : Int)) xk (fun hb70 => ?_) (fun hb70 => ?_))))))))
        ·replace hb70 : (((3 * s : Nat) : Int) == (q : Int)) = true := hb70
         have q9hb70 : 3 * s = q := by have h9 := hb70; simp at h9; omega
         refine zzf (zzg 101 75 [.int .i64 1, .int .i64 2] ?_)
         intro w71 u71 e71 d71
         have k76 := k_rqFrac d71 (a := 1) (b := 2) xq xq xq xq
         with_reducible refine zPm k76 ?_
         rintro _ u74 g75 ⟨r72, rfl, h73⟩
         refine zza 102 (zI k) (zzg 103 105 [r72.v, .int .i64 k] ?_)
         intro w77 u77 e77 d77
         have k84 := k_r10point (k := k) d77 (h73.ext e77) xq xq
         with_reducible refine zPm k84 ?_
         rintro _ u82 g83 ⟨r78, r80, rfl, h79, h81⟩
         refine zzi ⟨32, r78.cs ++ r80.cs⟩ ty32 ?_
         refine zzw ?_
         refine zzo ?_
         have hcA := Nt.cosA_3 (r := s) (q := q) (b := k) q9hb40 q9hb55 q9hb70
         refine sw_weak (T := St.of 113 [(6, .adr 6 0), (8, zB ng), (9, .adr 9 0)] [(6, ⟨32, [.bool false, .slice none 0 0, .slice none 0 0, .bool false, .slice none 0 0, .slice none 0 0]⟩), (9, ⟨32, r78.cs ++ r80.cs⟩)]) yq ?_
         exact rest22 _ _ (e71.trans (g75.ext.trans (e77.trans g83.ext))) ⟨r78, r80, rfl, (by rw [hcA]; exact RatN.more h79 xq), (by rw [hcA]; exact RatN.more h81 xq)⟩
        ·replace hb70 : (((3 * s : Nat) : Int) == (q : Int)) = false := hb70
         have q9hb70 : ¬ 3 * s = q := by have h9 := hb70; simp at h9; omega
         refine sq9 (zza 10 (zB false) (zzb (sq9 (zza 58 (zI s) (zza 59 (zI q) (zzg 60 75 [.int .i64 s, .int .i64 q] ?_))))))
         intro w85 u85 e85 d85
         have k90 := k_rqFrac d85 (a := (s : Int)) (b := (q : Int)) xq xq xq xq
         with_reducible refine zPm k90 ?_
         rintro _ u88 g89 ⟨r86, rfl, h87⟩
         refine zza 61 (zI s) (zza 62 (zI q) (zzg 63 75 [.int .i64 s, .int .i64 q] ?_))
         intro w91 u91 e91 d91
         have k96 := k_rqFrac d91 (a := (s : Int)) (b := (q : Int)) xq xq xq xq
         with_reducible refine zPm k96 ?_
         rintro _ u94 g95 ⟨r92, rfl, h93⟩
         refine zzg 64 38 [r86.v, r92.v] ?_
         intro w97 u97 e97 d97
         have k104 := k_r4Make d97 (h87.ext (e91.trans (g95.ext.trans e97))).raw (h93.ext e97).raw xq
         with_reducible refine zPm k104 ?_
         rintro _ u102 g103 ⟨r98, r100, rfl, h99, h101⟩
         refine zzj 11 ⟨32, [.bool false, .slice none 0 0, .slice none 0 0, .bool false, .slice none 0 0, .slice none 0 0]⟩ (zzi ⟨32, r98.cs ++ r100.cs⟩ ty32 ?_)
         refine zzb (sq9 (zza 65 (zI k) (zyn 66 (x := zI (IntKind.i64.wrap ((k : Int) + 16))) (zI (k + 16 : Nat)) (eqI xj) (zza 12 (zI (k + 16 : Nat)) (zzb (zzs (zyl (I := fun m105 S' u' => ∃ (t : Nat) (wk : Nat) (ok : Bool) (x1 : RL) (x2 : RL), (m105 = t) ∧ (k + 16 ≤ wk) ∧ (wk ≤ 1400) ∧ (ok = true ∨ (t = 2001 - wk ∧ (wk ≤ 674 ∨ wk = k + 16))) ∧ (S' = St.of 113 [(2, zI k), (6, .adr 6 0), (8, zB ng), (9, .adr 9 0), (10, zB ok), (11, .adr 11 0), (12, zI wk)] [(6, ⟨32, [.bool false, .slice none 0 0, .slice none 0 0, .bool false, .slice none 0 0, .slice none 0 0]⟩), (9, ⟨32, x1.cs ++ x2.cs⟩), (11, ⟨32, r98.cs ++ r100.cs⟩)]) ∧ (Ext u102 u') ∧ (IfI u' ok x1 x2 (Nt.gr k (Nt.flo (Nt.coN s q) k)) (Nt.gr k (Nt.flo (Nt.coN s q) k + 1)))) (fun m S u1 u2 e h => by obtain ⟨t, wk, ok, x1, x2, hm, p0, p1, p2, hS, hE, f0⟩ := h; exact ⟨t, wk, ok, x1, x2, hm, p0, p1, p2, hS, hE.trans e, f0.ext e⟩) _ yq ⟨(2001 - (k + 16)), (k + 16), false, (⟨false, ⟨none, 0, 0⟩, ⟨none, 0, 0⟩⟩ : RL), (⟨false, ⟨none, 0, 0⟩, ⟨none, 0, 0⟩⟩ : RL), rfl, by omega, by omega, .inr ⟨rfl, .inr rfl⟩, rfl, (Ext.refl _), (fun h => absurd h xw)⟩ ?_)))))))
         rintro m105 _ u105 ⟨t, wk, ok, x1, x2, hm105, hw0, hw2, hw1, rfl, e105, f0⟩
         refine zzd (sq9 (zza 67 (zB ok) (zza 68 (zB (!ok)) (zzc 113 [(2, zI k), (6, .adr 6 0), (8, zB ng), (9, .adr 9 0), (11, .adr 11 0), (12, zI wk), (68, zB (!ok))] [(6, ⟨32, [.bool false, .slice none 0 0, .slice none 0 0, .bool false, .slice none 0 0, .slice none 0 0]⟩), (9, ⟨32, x1.cs ++ x2.cs⟩), (11, ⟨32, r98.cs ++ r100.cs⟩)] (zzt (b := !ok) xk (fun hb106 => ?_) (fun hb106 => ?_))))))
         ·replace hb106 : (!ok) = true := hb106
          have hok := Nt.not_t hb106
          have hw9 : t = 2001 - wk ∧ (wk ≤ 674 ∨ wk = k + 16) := hw1.resolve_left (by rw [hok]; decide)
          have hg := hG s xq xq xq
          refine zzr (zzo ?_)
          refine zzd (zzs (zzy [0, 1, 0, 7, 0, 31, 0, 127, 255, 511, 511, 1023, 4095] [(0, []), (2, []), (4, []), (6, []), (1, []), (3, []), (5, []), (7, []), (8, []), (9, []), (10, []), (11, []), (12, [])] xk xk (zza 72 (zI wk) (zzh 74 (.v (.agg #[.bool r98.s, r98.m.v, r98.d.v, .bool r100.s, r100.m.v, r100.d.v])) ty32 zze (zza 76 (zI wk) (zza 78 (zI k) (zzg 73 104 [.int .i64 wk] ?_)))))))
          intro w107 u107 e107 d107
          have k111 := k_r10pi d107 (k := wk) xq xq
          with_reducible refine zPm k111 ?_
          rintro _ u109 g110 ⟨si108, sj108, sa108, sb108, rfl, ha108, hb108, hR108⟩
          refine zzg 75 68 [.agg #[.bool si108.s, si108.m.v, si108.d.v, .bool sj108.s, sj108.m.v, sj108.d.v], .agg #[.bool r98.s, r98.m.v, r98.d.v, .bool r100.s, r100.m.v, r100.d.v]] ?_
          intro w112 u112 e112 d112
          have k119 := k_r4Mul d112 (ha108.ext e112).raw (hb108.ext e112).raw (h99.ext (e105.trans (e107.trans (g110.ext.trans e112)))).raw (h101.ext (e105.trans (e107.trans (g110.ext.trans e112)))).raw xq xq
          with_reducible refine zPm k119 ?_
          rintro _ u117 g118 ⟨r113, r115, rfl, h114, h116⟩
          refine zzg 77 106 [.agg #[.bool r113.s, r113.m.v, r113.d.v, .bool r115.s, r115.m.v, r115.d.v], .int .i64 wk] ?_
          intro w120 u120 e120 d120
          have k124 := k_r10cos (p := s) (q := q) (k := wk) (a := sa108) (b := sb108) (K := 1000) d120 hR108 hq0 xq xq xq xq (by have h9 := (h114.ext e120); rw [(Nt.cs_x (hR108.bd xq).2.2.1 (Nt.fr_nn hq0)).1] at h9; exact RatN.more (L := 1000) h9 xq) (by have h9 := (h116.ext e120); rw [(Nt.cs_x (hR108.bd xq).2.2.1 (Nt.fr_nn hq0)).2] at h9; exact RatN.more (L := 1000) h9 xq) xq
          with_reducible refine zPm k124 ?_
          rintro _ u122 g123 ⟨si121, sj121, sa121, sb121, rfl, ha121, hb121, hC121⟩
          refine zzg 79 103 [.agg #[.bool si121.s, si121.m.v, si121.d.v, .bool sj121.s, sj121.m.v, sj121.d.v], .int .i64 k] ?_
          intro w125 u125 e125 d125
          have k129 := k_r10tight (k := k) (m := wk) (a := sa121) (b := sb121) d125 (ha121.ext e125) (hb121.ext e125) xq xq xq
          with_reducible refine zPm k129 ?_
          rintro _ u127 g128 ⟨tp126, tq126, rfl, hT126⟩
          refine zza 71 (.v (.tuple #[.agg #[.bool tp126.s, tp126.m.v, tp126.d.v, .bool tq126.s, tq126.m.v, tq126.d.v], .bool (!(Nt.cmpS (sa121 / Nt.u2 (wk - k)) (sb121 / Nt.u2 (wk - k)) != 0))])) (zza 80 (.v (.agg #[.bool tp126.s, tp126.m.v, tp126.d.v, .bool tq126.s, tq126.m.v, tq126.d.v])) (zza 81 (zB (!(Nt.cmpS (sa121 / Nt.u2 (wk - k)) (sb121 / Nt.u2 (wk - k)) != 0))) (zzi ⟨32, tp126.cs ++ tq126.cs⟩ ty32 ?_)))
          refine zza 10 (zB (!(Nt.cmpS (sa121 / Nt.u2 (wk - k)) (sb121 / Nt.u2 (wk - k)) != 0))) (zzw ?_)
          refine zzo (zzf (zza 69 (zI wk) (zyn 70 (x := zI (IntKind.i64.wrap ((wk : Int) * 2))) (zI (wk * 2 : Nat)) (eqI xj) (zza 12 (zI (wk * 2 : Nat)) (zzw ?_)))))
          obtain ⟨t1, ht1, hlt⟩ : ∃ t1 : Nat, ((!(Nt.cmpS (sa121 / Nt.u2 (wk - k)) (sb121 / Nt.u2 (wk - k)) != 0)) = true ∨ (t1 = 2001 - wk * 2 ∧ (wk * 2 ≤ 674 ∨ wk * 2 = k + 16))) ∧ t1 < t := by (cases hcc : (Nt.cmpS (sa121 / Nt.u2 (wk - k)) (sb121 / Nt.u2 (wk - k)) != 0) with | false => exact ⟨0, .inl rfl, by omega⟩ | true => (have hny := Nt.not_yet hg hC121.1 (Nt.csR_bd hC121 hq0 xq xq).2.2.2.2.2 hcc; exact ⟨2001 - wk * 2, .inr ⟨rfl, .inl xq⟩, by omega⟩))
          refine ⟨_, ?_, _, by exact zzu _ _ _, t1, wk * 2, (!(Nt.cmpS (sa121 / Nt.u2 (wk - k)) (sb121 / Nt.u2 (wk - k)) != 0)), tp126, tq126, rfl, by omega, by omega, ht1, rfl, (e105.trans (e107.trans (g110.ext.trans (e112.trans (g118.ext.trans (e120.trans (g123.ext.trans (e125.trans g128.ext)))))))), (fun h => by have h8 := Nt.not_t h; have h9 := hT126 h8; rw [Nt.flo_of hC121.1 xq h8] at h9; exact ⟨h9.1, h9.2⟩)⟩
          omega
         ·replace hb106 : (!ok) = false := hb106
          refine zyb (zzo ?_)
          have hcA := Nt.cosA_g (r := s) (q := q) (b := k) q9hb40 q9hb55 q9hb70
          refine sw_weak (T := St.of 113 [(6, .adr 6 0), (8, zB ng), (9, .adr 9 0)] [(6, ⟨32, [.bool false, .slice none 0 0, .slice none 0 0, .bool false, .slice none 0 0, .slice none 0 0]⟩), (9, ⟨32, x1.cs ++ x2.cs⟩)]) yq ?_
          exact rest22 _ _ (e85.trans (g89.ext.trans (e91.trans (g95.ext.trans (e97.trans (g103.ext.trans e105)))))) ⟨x1, x2, rfl, (by rw [hcA]; exact RatN.more (f0 (Nt.not_f hb106)).1 xq), (by rw [hcA]; exact RatN.more (f0 (Nt.not_f hb106)).2 xq)⟩
    ·skip
     refine sq9 (zza 53 (zB (decide ((q : Int) < ((2 * r : Nat) : Int)))) (zzb (zzt (b := decide ((q : Int) < ((2 * r : Nat) : Int))) xk (fun hb130 => ?_) (fun hb130 => ?_))))
     ·replace hb130 : (decide ((q : Int) < ((2 * r : Nat) : Int))) = true := hb130
      have qhb130 := of_decide_eq_true hb130
      refine zzf (zza 54 (zI q) (zza 55 (zI r) (zyn 56 (x := zI (IntKind.i64.wrap ((q : Int) - (r : Int)))) (zI (q - r : Nat)) (eqI xj) (zza 0 (zI (q - r : Nat)) (zzc 113 [(0, zI (q - r : Nat)), (1, zI q), (2, zI k), (6, .adr 6 0), (8, zB (decide ((q : Int) < ((2 * r : Nat) : Int))))] [(6, ⟨32, [.bool false, .slice none 0 0, .slice none 0 0, .bool false, .slice none 0 0, .slice none 0 0]⟩)] ?_)))))
      exact rest21 _ _ (Ext.refl _) ⟨q - r, (decide ((q : Int) < ((2 * r : Nat) : Int))), (.inl ⟨hb130, by have h9 := of_decide_eq_true hb130; omega, rfl⟩), (by have h9 := of_decide_eq_true hb130; omega), rfl⟩
     ·replace hb130 : (decide ((q : Int) < ((2 * r : Nat) : Int))) = false := hb130
      have qhb130 := of_decide_eq_false hb130
      refine zzr (zzo ?_)
      refine sw_weak (T := St.of 113 [(0, zI r), (1, zI q), (2, zI k), (6, .adr 6 0), (8, zB (decide ((q : Int) < ((2 * r : Nat) : Int))))] [(6, ⟨32, [.bool false, .slice none 0 0, .slice none 0 0, .bool false, .slice none 0 0, .slice none 0 0]⟩)]) yq ?_
      exact rest21 _ _ (Ext.refl _) ⟨r, (decide ((q : Int) < ((2 * r : Nat) : Int))), (.inr ⟨hb130, by have h9 := of_decide_eq_false hb130; omega, rfl⟩), (by have h9 := of_decide_eq_false hb130; omega), rfl⟩
   ·skip
    refine sq9 (zza 42 (zI ((Int.tmod p (2 * (q : Int))) + ((2 * q : Nat) : Int))) (zza 43 (zI q) (zza 44 (zB (decide ((q : Int) < ((Int.tmod p (2 * (q : Int))) + ((2 * q : Nat) : Int))))) (zzb (zzt (b := decide ((q : Int) < ((Int.tmod p (2 * (q : Int))) + ((2 * q : Nat) : Int)))) xk (fun hb131 => ?_) (fun hb131 => ?_))))))
    ·replace hb131 : (decide ((q : Int) < ((Int.tmod p (2 * (q : Int))) + ((2 * q : Nat) : Int)))) = true := hb131
     have qhb131 := of_decide_eq_true hb131
     refine zzf (zza 45 (zI q) (zyn 46 (x := zI (IntKind.i64.wrap ((2 : Int) * (q : Int)))) (zI (2 * q : Nat)) (eqI xj) (zza 47 (zI ((Int.tmod p (2 * (q : Int))) + ((2 * q : Nat) : Int))) (zyn 48 (x := zI (IntKind.i64.wrap (((2 * q : Nat) : Int) - ((Int.tmod p (2 * (q : Int))) + ((2 * q : Nat) : Int))))) (zI (((2 * q : Nat) : Int) - ((Int.tmod p (2 * (q : Int))) + ((2 * q : Nat) : Int)))) yv (zza 0 (zI (((2 * q : Nat) : Int) - ((Int.tmod p (2 * (q : Int))) + ((2 * q : Nat) : Int)))) ?_)))))
     have hfold : (((2 * q : Nat) : Int) - ((Int.tmod p (2 * (q : Int))) + ((2 * q : Nat) : Int))) = ((Nt.fold p q : Nat) : Int) := by unfold Nt.fold; dsimp only; split <;> omega
     rw [hfold]
     refine zzc 113 [(0, zI (((Nt.fold p q) : Nat) : Int)), (1, zI q), (2, zI k), (6, .adr 6 0)] [(6, ⟨32, [.bool false, .slice none 0 0, .slice none 0 0, .bool false, .slice none 0 0, .slice none 0 0]⟩)] ?_
     exact rest20 _ _ (Ext.refl _) ⟨(Nt.fold p q), rfl, (Nt.fold_le p q hq0), rfl⟩
    ·replace hb131 : (decide ((q : Int) < ((Int.tmod p (2 * (q : Int))) + ((2 * q : Nat) : Int)))) = false := hb131
     have qhb131 := of_decide_eq_false hb131
     refine zzr (zzo ?_)
     have hfold : ((Int.tmod p (2 * (q : Int))) + ((2 * q : Nat) : Int)) = ((Nt.fold p q : Nat) : Int) := by unfold Nt.fold; dsimp only; split <;> omega
     rw [hfold]
     refine sw_weak (T := St.of 113 [(0, zI (((Nt.fold p q) : Nat) : Int)), (1, zI q), (2, zI k), (6, .adr 6 0)] [(6, ⟨32, [.bool false, .slice none 0 0, .slice none 0 0, .bool false, .slice none 0 0, .slice none 0 0]⟩)]) yq ?_
     exact rest20 _ _ (Ext.refl _) ⟨(Nt.fold p q), rfl, (Nt.fold_le p q hq0), rfl⟩
  ·replace hb19 : (decide ((Int.tmod p (2 * (q : Int))) < 0)) = false := hb19
   have qhb19 := of_decide_eq_false hb19
   refine zzr (zzo ?_)
   refine zzd (sw_joinP (I := fun S' u' => ∃ (r : Nat), (Nt.fold p q = r) ∧ (r ≤ q) ∧ (S' = St.of 113 [(0, zI r), (1, zI q), (2, zI k), (6, .adr 6 0)] [(6, ⟨32, [.bool false, .slice none 0 0, .slice none 0 0, .bool false, .slice none 0 0, .slice none 0 0]⟩)])) ?_ (fun rest132 => ?_))
   ·rintro _ uj132 ej132 ⟨r, hr, hfl, rfl⟩
    refine sq9 (zza 49 (zI r) (zyn 50 (x := zI (IntKind.i64.wrap ((2 : Int) * (r : Int)))) (zI (2 * r : Nat)) (eqI xj) (zza 51 (zI q) (zza 52 (zB (decide ((q : Int) < ((2 * r : Nat) : Int)))) (zza 8 (zB (decide ((q : Int) < ((2 * r : Nat) : Int)))) (zzb (zzd (sw_joinP (I := fun S' u' => ∃ (s : Nat) (ng : Bool), ((ng = true ∧ q < 2 * r ∧ s = q - r) ∨ (ng = false ∧ ¬ q < 2 * r ∧ s = r)) ∧ (2 * s ≤ q) ∧ (S' = St.of 113 [(0, zI s), (1, zI q), (2, zI k), (6, .adr 6 0), (8, zB ng)] [(6, ⟨32, [.bool false, .slice none 0 0, .slice none 0 0, .bool false, .slice none 0 0, .slice none 0 0]⟩)])) ?_ (fun rest133 => ?_)))))))))
    ·rintro _ uj133 ej133 ⟨s, ng, hs, hsq, rfl⟩
     refine sq9 (zza 57 (.v (.agg #[.bool false, .slice none 0 0, .slice none 0 0, .bool false, .slice none 0 0, .slice none 0 0])) (zzj 9 ⟨32, [.bool false, .slice none 0 0, .slice none 0 0, .bool false, .slice none 0 0, .slice none 0 0]⟩ (zzi ⟨32, [.bool false, .slice none 0 0, .slice none 0 0, .bool false, .slice none 0 0, .slice none 0 0]⟩ ty32 ?_)))
     refine zzb (zzd (sw_joinP (I := fun S' u' => ∃ (x1 : RL) (x2 : RL), (S' = St.of 113 [(6, .adr 6 0), (8, zB ng), (9, .adr 9 0)] [(6, ⟨32, [.bool false, .slice none 0 0, .slice none 0 0, .bool false, .slice none 0 0, .slice none 0 0]⟩), (9, ⟨32, x1.cs ++ x2.cs⟩)]) ∧ (RatN u' x1 (Nt.cosA s q k).1 200) ∧ (RatN u' x2 (Nt.cosA s q k).2 200)) ?_ (fun rest134 => ?_)))
     ·rintro _ uj134 ej134 ⟨x1, x2, rfl, fx1, fx2⟩
      refine zzd (sq9 (zza 104 (zB ng) (zzb (zzt (b := ng) xk (fun hb135 => ?_) (fun hb135 => ?_)))))
      ·replace hb135 : ng = true := hb135
       refine zzy [0, 1, 3, 0, 8, 31, 63, 127] [(0, []), (1, []), (3, []), (4, []), (2, []), (5, []), (6, []), (7, [])] xk xk (zza 105 (.adr 9 3) (zzh 106 (.v (x2.v)) ty26 zze (zza 108 (.adr 9 0) (zzh 109 (.v (x1.v)) ty26 zze (zzg 107 39 [x2.v] ?_)))))
       intro w136 u136 e136 d136
       have k141 := k_rqNeg d136 (fx2.ext e136).raw xq
       with_reducible refine zPm k141 ?_
       rintro _ u139 g140 ⟨r137, rfl, h138⟩
       refine zzg 110 39 [x1.v] ?_
       intro w142 u142 e142 d142
       have k147 := k_rqNeg d142 (fx1.ext (e136.trans (g140.ext.trans e142))).raw xq
       with_reducible refine zPm k147 ?_
       rintro _ u145 g146 ⟨r143, rfl, h144⟩
       refine zza 111 (.v (.agg #[.bool r137.s, r137.m.v, r137.d.v, .bool r143.s, r143.m.v, r143.d.v])) (zzi ⟨32, r137.cs ++ r143.cs⟩ ty32 ?_)
       refine zzb (sq9 (zzh 112 (.v (.agg #[.bool r137.s, r137.m.v, r137.d.v, .bool r143.s, r143.m.v, r143.d.v])) ty32 zze (zzi ⟨32, r137.cs ++ r143.cs⟩ ty32 ?_)))
       refine zza 7 (zI 0) (zzb (zzn (ret0 [.agg #[.bool r137.s, .slice r137.m.a r137.m.n r137.m.c, .slice r137.d.a r137.d.n r137.d.c, .bool r143.s, .slice r143.m.a r143.m.n r143.m.c, .slice r143.d.a r143.d.n r143.d.c], .int .i64 0] ⟨zzq ty32 zze, zzp, trivial⟩ fun u148 e149 => ?_)))
       have hs9 := hs.resolve_right (fun h => by rw [hb135] at h; exact absurd h.1 xw)
       have hc := Nt.cosV_hi (b := k) hr hs9.2.1
       rw [← hs9.2.2] at hc
       refine ⟨r137, r143, rfl, RatN.more (K := 200) ?_ xq, RatN.more (K := 200) ?_ xq⟩
       ·rw [hc]; exact (h138.ext (e142.trans (g146.ext.trans e149)))
       ·rw [hc]; exact (h144.ext e149)
      ·replace hb135 : ng = false := hb135
       refine zzr (zzo ?_)
       refine sq9 (zzh 112 (.v (.agg #[.bool x1.s, x1.m.v, x1.d.v, .bool x2.s, x2.m.v, x2.d.v])) ty32 zze (zzi ⟨32, x1.cs ++ x2.cs⟩ ty32 ?_))
       refine zza 7 (zI 0) (zzb (zzn (ret0 [.agg #[.bool x1.s, .slice x1.m.a x1.m.n x1.m.c, .slice x1.d.a x1.d.n x1.d.c, .bool x2.s, .slice x2.m.a x2.m.n x2.m.c, .slice x2.d.a x2.d.n x2.d.c], .int .i64 0] ⟨zzq ty32 zze, zzp, trivial⟩ fun u150 e151 => ?_)))
       have hs9 := hs.resolve_left (fun h => by rw [hb135] at h; exact absurd h.1 xw)
       have hc := Nt.cosV_lo (b := k) hr hs9.2.1
       rw [← hs9.2.2] at hc
       refine ⟨x1, x2, rfl, RatN.more (K := 200) ?_ xq, RatN.more (K := 200) ?_ xq⟩
       ·rw [hc]; exact (fx1.ext e151)
       ·rw [hc]; exact (fx2.ext e151)
     ·skip
      refine zzs (sq9 (zza 83 (zI s) (zza 84 (zB ((s : Int) == 0)) (zza 82 (zB ((s : Int) == 0)) (zzb (zzt (b := (s : Int) == 0) xk (fun hb152 => ?_) (fun hb152 => ?_)))))))
      ·replace hb152 : ((s : Int) == 0) = true := hb152
       have qhb152 : (s : Int) = 0 := by simpa using hb152
       have q9hb152 : s = 0 := by have h9 := hb152; simp at h9; omega
       refine zzf (zzg 85 30 [.int .i64 1] ?_)
       intro w153 u153 e153 d153
       have k158 := k_rqOf d153 (z := 1) xq xq
       with_reducible refine zPm k158 ?_
       rintro _ u156 g157 ⟨r154, rfl, h155⟩
       refine zza 86 (zI k) (zzg 87 105 [r154.v, .int .i64 k] ?_)
       intro w159 u159 e159 d159
       have k166 := k_r10point (k := k) d159 (h155.ext e159) xq xq
       with_reducible refine zPm k166 ?_
       rintro _ u164 g165 ⟨r160, r162, rfl, h161, h163⟩
       refine zzi ⟨32, r160.cs ++ r162.cs⟩ ty32 ?_
       refine zzw ?_
       refine zzo ?_
       have hcA := Nt.cosA_0 (r := s) (q := q) (b := k) q9hb152
       refine sw_weak (T := St.of 113 [(6, .adr 6 0), (8, zB ng), (9, .adr 9 0)] [(6, ⟨32, [.bool false, .slice none 0 0, .slice none 0 0, .bool false, .slice none 0 0, .slice none 0 0]⟩), (9, ⟨32, r160.cs ++ r162.cs⟩)]) yq ?_
       exact rest134 _ _ (e153.trans (g157.ext.trans (e159.trans g165.ext))) ⟨r160, r162, rfl, (by rw [hcA]; exact RatN.more h161 xq), (by rw [hcA]; exact RatN.more h163 xq)⟩
      ·replace hb152 : ((s : Int) == 0) = false := hb152
       have qhb152 : ¬ ((s : Int) = 0) := by simpa using hb152
       have q9hb152 : ¬ s = 0 := by have h9 := hb152; simp at h9; omega
       refine sq9 (zza 89 (zI s) (zyn 90 (x := zI (IntKind.i64.wrap ((2 : Int) * (s : Int)))) (zI (2 * s : Nat)) (eqI xj) (zza 91 (zI q) (zza 92 (zB (((2 * s : Nat) : Int) == (q : Int))) (zza 88 (zB (((2 * s : Nat) : Int) == (q : Int))) (zzb (zzt (b := ((2 * s : Nat) : Int) == (q : Int)) xk (fun hb167 => ?_) (fun hb167 => ?_))))))))
       ·replace hb167 : (((2 * s : Nat) : Int) == (q : Int)) = true := hb167
        have q9hb167 : 2 * s = q := by have h9 := hb167; simp at h9; omega
        refine zzf (zzg 93 30 [.int .i64 0] ?_)
        intro w168 u168 e168 d168
        have k173 := k_rqOf d168 (z := 0) xq xq
        with_reducible refine zPm k173 ?_
        rintro _ u171 g172 ⟨r169, rfl, h170⟩
        refine zza 94 (zI k) (zzg 95 105 [r169.v, .int .i64 k] ?_)
        intro w174 u174 e174 d174
        have k181 := k_r10point (k := k) d174 (h170.ext e174) xq xq
        with_reducible refine zPm k181 ?_
        rintro _ u179 g180 ⟨r175, r177, rfl, h176, h178⟩
        refine zzi ⟨32, r175.cs ++ r177.cs⟩ ty32 ?_
        refine zzw ?_
        refine zzo ?_
        have hcA := Nt.cosA_h (r := s) (q := q) (b := k) q9hb152 q9hb167
        refine sw_weak (T := St.of 113 [(6, .adr 6 0), (8, zB ng), (9, .adr 9 0)] [(6, ⟨32, [.bool false, .slice none 0 0, .slice none 0 0, .bool false, .slice none 0 0, .slice none 0 0]⟩), (9, ⟨32, r175.cs ++ r177.cs⟩)]) yq ?_
        exact rest134 _ _ (e168.trans (g172.ext.trans (e174.trans g180.ext))) ⟨r175, r177, rfl, (by rw [hcA]; exact RatN.more h176 xq), (by rw [hcA]; exact RatN.more h178 xq)⟩
       ·replace hb167 : (((2 * s : Nat) : Int) == (q : Int)) = false := hb167
        have q9hb167 : ¬ 2 * s = q := by have h9 := hb167; simp at h9; omega
        refine sq9 (zza 97 (zI s) (zyn 98 (x := zI (IntKind.i64.wrap ((3 : Int) * (s : Int)))) (zI (3 * s : Nat)) (eqI xj) (zza 99 (zI q) (zza 100 (zB (((3 * s : Nat) : Int) == (q : Int))) (zza 96 (zB (((3 * s : Nat) : Int) == (q : Int))) (zzb (zzt (b := ((3 * s : Nat) : Int) == (q : Int)) xk (fun hb182 => ?_) (fun hb182 => ?_))))))))
        ·replace hb182 : (((3 * s : Nat) : Int) == (q : Int)) = true := hb182
         have q9hb182 : 3 * s = q := by have h9 := hb182; simp at h9; omega
         refine zzf (zzg 101 75 [.int .i64 1, .int .i64 2] ?_)
         intro w183 u183 e183 d183
         have k188 := k_rqFrac d183 (a := 1) (b := 2) xq xq xq xq
         with_reducible refine zPm k188 ?_
         rintro _ u186 g187 ⟨r184, rfl, h185⟩
         refine zza 102 (zI k) (zzg 103 105 [r184.v, .int .i64 k] ?_)
         intro w189 u189 e189 d189
         have k196 := k_r10point (k := k) d189 (h185.ext e189) xq xq
         with_reducible refine zPm k196 ?_
         rintro _ u194 g195 ⟨r190, r192, rfl, h191, h193⟩
         refine zzi ⟨32, r190.cs ++ r192.cs⟩ ty32 ?_
         refine zzw ?_
         refine zzo ?_
         have hcA := Nt.cosA_3 (r := s) (q := q) (b := k) q9hb152 q9hb167 q9hb182
         refine sw_weak (T := St.of 113 [(6, .adr 6 0), (8, zB ng), (9, .adr 9 0)] [(6, ⟨32, [.bool false, .slice none 0 0, .slice none 0 0, .bool false, .slice none 0 0, .slice none 0 0]⟩), (9, ⟨32, r190.cs ++ r192.cs⟩)]) yq ?_
         exact rest134 _ _ (e183.trans (g187.ext.trans (e189.trans g195.ext))) ⟨r190, r192, rfl, (by rw [hcA]; exact RatN.more h191 xq), (by rw [hcA]; exact RatN.more h193 xq)⟩
        ·replace hb182 : (((3 * s : Nat) : Int) == (q : Int)) = false := hb182
         have q9hb182 : ¬ 3 * s = q := by have h9 := hb182; simp at h9; omega
         refine sq9 (zza 10 (zB false) (zzb (sq9 (zza 58 (zI s) (zza 59 (zI q) (zzg 60 75 [.int .i64 s, .int .i64 q] ?_))))))
         intro w197 u197 e197 d197
         have k202 := k_rqFrac d197 (a := (s : Int)) (b := (q : Int)) xq xq xq xq
         with_reducible refine zPm k202 ?_
         rintro _ u200 g201 ⟨r198, rfl, h199⟩
         refine zza 61 (zI s) (zza 62 (zI q) (zzg 63 75 [.int .i64 s, .int .i64 q] ?_))
         intro w203 u203 e203 d203
         have k208 := k_rqFrac d203 (a := (s : Int)) (b := (q : Int)) xq xq xq xq
         with_reducible refine zPm k208 ?_
         rintro _ u206 g207 ⟨r204, rfl, h205⟩
         refine zzg 64 38 [r198.v, r204.v] ?_
         intro w209 u209 e209 d209
         have k216 := k_r4Make d209 (h199.ext (e203.trans (g207.ext.trans e209))).raw (h205.ext e209).raw xq
         with_reducible refine zPm k216 ?_
         rintro _ u214 g215 ⟨r210, r212, rfl, h211, h213⟩
         refine zzj 11 ⟨32, [.bool false, .slice none 0 0, .slice none 0 0, .bool false, .slice none 0 0, .slice none 0 0]⟩ (zzi ⟨32, r210.cs ++ r212.cs⟩ ty32 ?_)
         refine zzb (sq9 (zza 65 (zI k) (zyn 66 (x := zI (IntKind.i64.wrap ((k : Int) + 16))) (zI (k + 16 : Nat)) (eqI xj) (zza 12 (zI (k + 16 : Nat)) (zzb (zzs (zyl (I := fun m217 S' u' => ∃ (t : Nat) (wk : Nat) (ok : Bool) (x1 : RL) (x2 : RL), (m217 = t) ∧ (k + 16 ≤ wk) ∧ (wk ≤ 1400) ∧ (ok = true ∨ (t = 2001 - wk ∧ (wk ≤ 674 ∨ wk = k + 16))) ∧ (S' = St.of 113 [(2, zI k), (6, .adr 6 0), (8, zB ng), (9, .adr 9 0), (10, zB ok), (11, .adr 11 0), (12, zI wk)] [(6, ⟨32, [.bool false, .slice none 0 0, .slice none 0 0, .bool false, .slice none 0 0, .slice none 0 0]⟩), (9, ⟨32, x1.cs ++ x2.cs⟩), (11, ⟨32, r210.cs ++ r212.cs⟩)]) ∧ (Ext u214 u') ∧ (IfI u' ok x1 x2 (Nt.gr k (Nt.flo (Nt.coN s q) k)) (Nt.gr k (Nt.flo (Nt.coN s q) k + 1)))) (fun m S u1 u2 e h => by obtain ⟨t, wk, ok, x1, x2, hm, p0, p1, p2, hS, hE, f0⟩ := h; exact ⟨t, wk, ok, x1, x2, hm, p0, p1, p2, hS, hE.trans e, f0.ext e⟩) _ yq ⟨(2001 - (k + 16)), (k + 16), false, (⟨false, ⟨none, 0, 0⟩, ⟨none, 0, 0⟩⟩ : RL), (⟨false, ⟨none, 0, 0⟩, ⟨none, 0, 0⟩⟩ : RL), rfl, by omega, by omega, .inr ⟨rfl, .inr rfl⟩, rfl, (Ext.refl _), (fun h => absurd h xw)⟩ ?_)))))))
         rintro m217 _ u217 ⟨t, wk, ok, x1, x2, hm217, hw0, hw2, hw1, rfl, e217, f0⟩
         refine zzd (sq9 (zza 67 (zB ok) (zza 68 (zB (!ok)) (zzc 113 [(2, zI k), (6, .adr 6 0), (8, zB ng), (9, .adr 9 0), (11, .adr 11 0), (12, zI wk), (68, zB (!ok))] [(6, ⟨32, [.bool false, .slice none 0 0, .slice none 0 0, .bool false, .slice none 0 0, .slice none 0 0]⟩), (9, ⟨32, x1.cs ++ x2.cs⟩), (11, ⟨32, r210.cs ++ r212.cs⟩)] (zzt (b := !ok) xk (fun hb218 => ?_) (fun hb218 => ?_))))))
         ·replace hb218 : (!ok) = true := hb218
          have hok := Nt.not_t hb218
          have hw9 : t = 2001 - wk ∧ (wk ≤ 674 ∨ wk = k + 16) := hw1.resolve_left (by rw [hok]; decide)
          have hg := hG s xq xq xq
          refine zzr (zzo ?_)
          refine zzd (zzs (zzy [0, 1, 0, 7, 0, 31, 0, 127, 255, 511, 511, 1023, 4095] [(0, []), (2, []), (4, []), (6, []), (1, []), (3, []), (5, []), (7, []), (8, []), (9, []), (10, []), (11, []), (12, [])] xk xk (zza 72 (zI wk) (zzh 74 (.v (.agg #[.bool r210.s, r210.m.v, r210.d.v, .bool r212.s, r212.m.v, r212.d.v])) ty32 zze (zza 76 (zI wk) (zza 78 (zI k) (zzg 73 104 [.int .i64 wk] ?_)))))))
          intro w219 u219 e219 d219
          have k223 := k_r10pi d219 (k := wk) xq xq
          with_reducible refine zPm k223 ?_
          rintro _ u221 g222 ⟨si220, sj220, sa220, sb220, rfl, ha220, hb220, hR220⟩
          refine zzg 75 68 [.agg #[.bool si220.s, si220.m.v, si220.d.v, .bool sj220.s, sj220.m.v, sj220.d.v], .agg #[.bool r210.s, r210.m.v, r210.d.v, .bool r212.s, r212.m.v, r212.d.v]] ?_
          intro w224 u224 e224 d224
          have k231 := k_r4Mul d224 (ha220.ext e224).raw (hb220.ext e224).raw (h211.ext (e217.trans (e219.trans (g222.ext.trans e224)))).raw (h213.ext (e217.trans (e219.trans (g222.ext.trans e224)))).raw xq xq
          with_reducible refine zPm k231 ?_
          rintro _ u229 g230 ⟨r225, r227, rfl, h226, h228⟩
          refine zzg 77 106 [.agg #[.bool r225.s, r225.m.v, r225.d.v, .bool r227.s, r227.m.v, r227.d.v], .int .i64 wk] ?_
          intro w232 u232 e232 d232
          have k236 := k_r10cos (p := s) (q := q) (k := wk) (a := sa220) (b := sb220) (K := 1000) d232 hR220 hq0 xq xq xq xq (by have h9 := (h226.ext e232); rw [(Nt.cs_x (hR220.bd xq).2.2.1 (Nt.fr_nn hq0)).1] at h9; exact RatN.more (L := 1000) h9 xq) (by have h9 := (h228.ext e232); rw [(Nt.cs_x (hR220.bd xq).2.2.1 (Nt.fr_nn hq0)).2] at h9; exact RatN.more (L := 1000) h9 xq) xq
          with_reducible refine zPm k236 ?_
          rintro _ u234 g235 ⟨si233, sj233, sa233, sb233, rfl, ha233, hb233, hC233⟩
          refine zzg 79 103 [.agg #[.bool si233.s, si233.m.v, si233.d.v, .bool sj233.s, sj233.m.v, sj233.d.v], .int .i64 k] ?_
          intro w237 u237 e237 d237
          have k241 := k_r10tight (k := k) (m := wk) (a := sa233) (b := sb233) d237 (ha233.ext e237) (hb233.ext e237) xq xq xq
          with_reducible refine zPm k241 ?_
          rintro _ u239 g240 ⟨tp238, tq238, rfl, hT238⟩
          refine zza 71 (.v (.tuple #[.agg #[.bool tp238.s, tp238.m.v, tp238.d.v, .bool tq238.s, tq238.m.v, tq238.d.v], .bool (!(Nt.cmpS (sa233 / Nt.u2 (wk - k)) (sb233 / Nt.u2 (wk - k)) != 0))])) (zza 80 (.v (.agg #[.bool tp238.s, tp238.m.v, tp238.d.v, .bool tq238.s, tq238.m.v, tq238.d.v])) (zza 81 (zB (!(Nt.cmpS (sa233 / Nt.u2 (wk - k)) (sb233 / Nt.u2 (wk - k)) != 0))) (zzi ⟨32, tp238.cs ++ tq238.cs⟩ ty32 ?_)))
          refine zza 10 (zB (!(Nt.cmpS (sa233 / Nt.u2 (wk - k)) (sb233 / Nt.u2 (wk - k)) != 0))) (zzw ?_)
          refine zzo (zzf (zza 69 (zI wk) (zyn 70 (x := zI (IntKind.i64.wrap ((wk : Int) * 2))) (zI (wk * 2 : Nat)) (eqI xj) (zza 12 (zI (wk * 2 : Nat)) (zzw ?_)))))
          obtain ⟨t1, ht1, hlt⟩ : ∃ t1 : Nat, ((!(Nt.cmpS (sa233 / Nt.u2 (wk - k)) (sb233 / Nt.u2 (wk - k)) != 0)) = true ∨ (t1 = 2001 - wk * 2 ∧ (wk * 2 ≤ 674 ∨ wk * 2 = k + 16))) ∧ t1 < t := by (cases hcc : (Nt.cmpS (sa233 / Nt.u2 (wk - k)) (sb233 / Nt.u2 (wk - k)) != 0) with | false => exact ⟨0, .inl rfl, by omega⟩ | true => (have hny := Nt.not_yet hg hC233.1 (Nt.csR_bd hC233 hq0 xq xq).2.2.2.2.2 hcc; exact ⟨2001 - wk * 2, .inr ⟨rfl, .inl xq⟩, by omega⟩))
          refine ⟨_, ?_, _, by exact zzu _ _ _, t1, wk * 2, (!(Nt.cmpS (sa233 / Nt.u2 (wk - k)) (sb233 / Nt.u2 (wk - k)) != 0)), tp238, tq238, rfl, by omega, by omega, ht1, rfl, (e217.trans (e219.trans (g222.ext.trans (e224.trans (g230.ext.trans (e232.trans (g235.ext.trans (e237.trans g240.ext)))))))), (fun h => by have h8 := Nt.not_t h; have h9 := hT238 h8; rw [Nt.flo_of hC233.1 xq h8] at h9; exact ⟨h9.1, h9.2⟩)⟩
          omega
         ·replace hb218 : (!ok) = false := hb218
          refine zyb (zzo ?_)
          have hcA := Nt.cosA_g (r := s) (q := q) (b := k) q9hb152 q9hb167 q9hb182
          refine sw_weak (T := St.of 113 [(6, .adr 6 0), (8, zB ng), (9, .adr 9 0)] [(6, ⟨32, [.bool false, .slice none 0 0, .slice none 0 0, .bool false, .slice none 0 0, .slice none 0 0]⟩), (9, ⟨32, x1.cs ++ x2.cs⟩)]) yq ?_
          exact rest134 _ _ (e197.trans (g201.ext.trans (e203.trans (g207.ext.trans (e209.trans (g215.ext.trans e217)))))) ⟨x1, x2, rfl, (by rw [hcA]; exact RatN.more (f0 (Nt.not_f hb218)).1 xq), (by rw [hcA]; exact RatN.more (f0 (Nt.not_f hb218)).2 xq)⟩
    ·skip
     refine sq9 (zza 53 (zB (decide ((q : Int) < ((2 * r : Nat) : Int)))) (zzb (zzt (b := decide ((q : Int) < ((2 * r : Nat) : Int))) xk (fun hb242 => ?_) (fun hb242 => ?_))))
     ·replace hb242 : (decide ((q : Int) < ((2 * r : Nat) : Int))) = true := hb242
      have qhb242 := of_decide_eq_true hb242
      refine zzf (zza 54 (zI q) (zza 55 (zI r) (zyn 56 (x := zI (IntKind.i64.wrap ((q : Int) - (r : Int)))) (zI (q - r : Nat)) (eqI xj) (zza 0 (zI (q - r : Nat)) (zzc 113 [(0, zI (q - r : Nat)), (1, zI q), (2, zI k), (6, .adr 6 0), (8, zB (decide ((q : Int) < ((2 * r : Nat) : Int))))] [(6, ⟨32, [.bool false, .slice none 0 0, .slice none 0 0, .bool false, .slice none 0 0, .slice none 0 0]⟩)] ?_)))))
      exact rest133 _ _ (Ext.refl _) ⟨q - r, (decide ((q : Int) < ((2 * r : Nat) : Int))), (.inl ⟨hb242, by have h9 := of_decide_eq_true hb242; omega, rfl⟩), (by have h9 := of_decide_eq_true hb242; omega), rfl⟩
     ·replace hb242 : (decide ((q : Int) < ((2 * r : Nat) : Int))) = false := hb242
      have qhb242 := of_decide_eq_false hb242
      refine zzr (zzo ?_)
      refine sw_weak (T := St.of 113 [(0, zI r), (1, zI q), (2, zI k), (6, .adr 6 0), (8, zB (decide ((q : Int) < ((2 * r : Nat) : Int))))] [(6, ⟨32, [.bool false, .slice none 0 0, .slice none 0 0, .bool false, .slice none 0 0, .slice none 0 0]⟩)]) yq ?_
      exact rest133 _ _ (Ext.refl _) ⟨r, (decide ((q : Int) < ((2 * r : Nat) : Int))), (.inr ⟨hb242, by have h9 := of_decide_eq_false hb242; omega, rfl⟩), (by have h9 := of_decide_eq_false hb242; omega), rfl⟩
   ·skip
    refine sq9 (zza 42 (zI (Int.tmod p (2 * (q : Int)))) (zza 43 (zI q) (zza 44 (zB (decide ((q : Int) < (Int.tmod p (2 * (q : Int)))))) (zzb (zzt (b := decide ((q : Int) < (Int.tmod p (2 * (q : Int))))) xk (fun hb243 => ?_) (fun hb243 => ?_))))))
    ·replace hb243 : (decide ((q : Int) < (Int.tmod p (2 * (q : Int))))) = true := hb243
     have qhb243 := of_decide_eq_true hb243
     refine zzf (zza 45 (zI q) (zyn 46 (x := zI (IntKind.i64.wrap ((2 : Int) * (q : Int)))) (zI (2 * q : Nat)) (eqI xj) (zza 47 (zI (Int.tmod p (2 * (q : Int)))) (zyn 48 (x := zI (IntKind.i64.wrap (((2 * q : Nat) : Int) - (Int.tmod p (2 * (q : Int)))))) (zI (((2 * q : Nat) : Int) - (Int.tmod p (2 * (q : Int))))) yv (zza 0 (zI (((2 * q : Nat) : Int) - (Int.tmod p (2 * (q : Int))))) ?_)))))
     have hfold : (((2 * q : Nat) : Int) - (Int.tmod p (2 * (q : Int)))) = ((Nt.fold p q : Nat) : Int) := by unfold Nt.fold; dsimp only; split <;> omega
     rw [hfold]
     refine zzc 113 [(0, zI (((Nt.fold p q) : Nat) : Int)), (1, zI q), (2, zI k), (6, .adr 6 0)] [(6, ⟨32, [.bool false, .slice none 0 0, .slice none 0 0, .bool false, .slice none 0 0, .slice none 0 0]⟩)] ?_
     exact rest132 _ _ (Ext.refl _) ⟨(Nt.fold p q), rfl, (Nt.fold_le p q hq0), rfl⟩
    ·replace hb243 : (decide ((q : Int) < (Int.tmod p (2 * (q : Int))))) = false := hb243
     have qhb243 := of_decide_eq_false hb243
     refine zzr (zzo ?_)
     have hfold : (Int.tmod p (2 * (q : Int))) = ((Nt.fold p q : Nat) : Int) := by unfold Nt.fold; dsimp only; split <;> omega
     rw [hfold]
     refine sw_weak (T := St.of 113 [(0, zI (((Nt.fold p q) : Nat) : Int)), (1, zI q), (2, zI k), (6, .adr 6 0)] [(6, ⟨32, [.bool false, .slice none 0 0, .slice none 0 0, .bool false, .slice none 0 0, .slice none 0 0]⟩)]) yq ?_
     exact rest132 _ _ (Ext.refl _) ⟨(Nt.fold p q), rfl, (Nt.fold_le p q hq0), rfl⟩
theorem k_r10halfE {u w : World} {pp : Int} {q0 k : Nat} (d : Dat u w) (hq1 : 1 ≤ q0) (hq2 : q0 ≤ 1000) (hp0 : -1000000 ≤ pp) (hp1 : pp ≤ 1000000) (hk : k ≤ 256) (hG0 : Nt.GapQ q0 k) : Calls Tryz.prog 107 #[.int .i64 (2 * pp), .int .i64 ((2 * q0 : Nat) : Int), .int .i64 (k : Int)] w (Post u w fun v u' => ∃ r1 r2 : RL, v = .tuple #[IV r1 r2, .int .i64 0] ∧ RatN u' r1 ((Nt.cosV pp q0 k).1) 200 ∧ RatN u' r2 ((Nt.cosV pp q0 k).2) 200) := by
 refine zzl (args := [.int .i64 (2 * pp), .int .i64 (2 * q0 : Nat), .int .i64 k]) Tryz.func107 rfl Tryz.ntmps107 (rs := [.cell 6 32, .tmp 7]) Tryz.results107 (le_b rfl) (le_b rfl) d ?_
 refine sq9 (zzj 6 ⟨32, [.bool false, .slice none 0 0, .slice none 0 0, .bool false, .slice none 0 0, .slice none 0 0]⟩ (zza 7 (zI 0) (zzb (zzd (sq9 (zza 13 (zI (2 * pp)) (sy_rem 14 (n := (2 * pp)) (m := 2) (0 : Int) xw (by exact Int.mul_tmod_right 2 pp) ?_)))))))
 refine zza 15 (zB true) (zza 16 (zB true) (zza 17 (zI (2 * q0 : Nat)) ?_ (hw := w1 3 true 16)))
 refine sy_rem 18 (n := ((2 * q0 : Nat) : Int)) (m := 2) (0 : Int) xw (by rw [Int.natCast_mul]; exact Int.mul_tmod_right 2 _) ?_ (hw := w1 3 true 16)
 refine zza 19 (zB true) ?_ (hw := w1 3 true 16)
 refine zza 20 (zB true) (zzb (zyo xk (sq9 (zza 21 (zI (2 * pp)) (sy_quo 22 (n := (2 * pp)) (m := 2) (pp) xw (by rw [Int.mul_tdiv_cancel_left _ xw]; exact IntWalk.i64_in _ xq) ?_)))))
 refine zza 23 (zI (2 * q0 : Nat)) (sy_quo 24 (n := ((2 * q0 : Nat) : Int)) (m := 2) ((q0 : Int)) xw (by rw [Int.natCast_mul]; exact (congrArg IntKind.i64.wrap (Int.mul_tdiv_cancel_left (q0 : Int) (by decide : (2 : Int) ≠ 0))).trans (IntWalk.i64_in _ xq)) ?_)
 refine zza 25 (zI k) (zzg 26 35 [.int .i64 pp, .int .i64 q0, .int .i64 k] ?_)
 intro w11 u11 e11 d11
 have k18 := k_r10CosPiG (p := pp) (q := q0) (k := k) d11 xq xq xq xq hk hG0
 with_reducible refine zPm k18 ?_
 rintro _ u16 g17 ⟨r12, r14, rfl, h13, h15⟩
 refine zza 27 (.v (.agg #[.bool r12.s, r12.m.v, r12.d.v, .bool r14.s, r14.m.v, r14.d.v])) (zza 28 (zI 0) (zzi ⟨32, r12.cs ++ r14.cs⟩ ty32 ?_))
 refine zza 7 (zI 0) (zzb (zzn (zzv (ret0 [.agg #[.bool r12.s, .slice r12.m.a r12.m.n r12.m.c, .slice r12.d.a r12.d.n r12.d.c, .bool r14.s, .slice r14.m.a r14.m.n r14.m.c, .slice r14.d.a r14.d.n r14.d.c], .int .i64 0] ⟨zzq ty32 zze, zzp, trivial⟩ fun u19 e20 => ?_))))
 exact ⟨r12, r14, rfl, RatN.more (h13.ext e20) xq, RatN.more (h15.ext e20) xq⟩
set_option maxHeartbeats 8000000 in
theorem k_r10halfO {u w : World} {p : Int} {q k : Nat} (d : Dat u w) (hq1 : 1 ≤ q) (hq2 : q ≤ 2000) (hp0 : -1000000 ≤ p) (hp1 : p ≤ 1000000) (hodd : ¬ Int.tmod p 2 = 0) (hk : k ≤ 256) (hG0 : Nt.GapQ q k) : Calls Tryz.prog 107 #[.int .i64 p, .int .i64 (q : Int), .int .i64 (k : Int)] w (Post u w fun v u' => ∃ r1 r2 : RL, v = .tuple #[IV r1 r2, .int .i64 0] ∧ RatN u' r1 ((Nt.cosV p q k).1) 200 ∧ RatN u' r2 ((Nt.cosV p q k).2) 200) := by
 have hq0 : 0 < q := by omega
 have htm := Nt.tmod_bd p hq0
 obtain ⟨g, hg3, hG⟩ := id hG0
 refine zzl (args := [.int .i64 p, .int .i64 q, .int .i64 k]) Tryz.func107 rfl Tryz.ntmps107 (rs := [.cell 6 32, .tmp 7]) Tryz.results107 (le_b rfl) (le_b rfl) d ?_
 refine sq9 (zzj 6 ⟨32, [.bool false, .slice none 0 0, .slice none 0 0, .bool false, .slice none 0 0, .slice none 0 0]⟩ (zza 7 (zI 0) (zzb (zzd (sq9 (zza 13 (zI p) (zza 14 (zI (Int.tmod p 2)) (zza 15 (zB ((Int.tmod p 2) == 0)) (zyn 16 (x := zB ((Int.tmod p 2) == 0)) (zB false) (by rw [show ((Int.tmod p 2) == 0) = false from (beq_false_of_ne hodd)]) (zzm 17 (uw 3 true false 16) (zzm 18 (uw 3 true false 16) ?_)))))))))))
 refine zzm 19 (uw 3 true false 16) (zza 20 (zB false) (zzb (zyp xk (zzr (zzo ?_)))))
 refine sq9 (zza 29 (zI p) (zza 30 (zI q) (zyn 31 (x := zI (IntKind.i64.wrap ((2 : Int) * (q : Int)))) (zI (2 * q : Nat)) (eqI xj) (sy_rem 32 (m := ((2 * q : Nat) : Int)) (Int.tmod p (2 * (q : Int))) xq (by rw [Int.natCast_mul]; rfl) ?_))))
 refine zza 0 (zI (Int.tmod p (2 * (q : Int)))) (zzb (zzd (sq9 (zza 33 (zI (Int.tmod p (2 * (q : Int)))) (zza 34 (zB (decide ((Int.tmod p (2 * (q : Int))) < 0))) (zzb (zzt (b := decide ((Int.tmod p (2 * (q : Int))) < 0)) xk (fun hb12 => ?_) (fun hb12 => ?_))))))))
 ·replace hb12 : (decide ((Int.tmod p (2 * (q : Int))) < 0)) = true := hb12
  have qhb12 := of_decide_eq_true hb12
  refine zzf (zza 35 (zI (Int.tmod p (2 * (q : Int)))) (zza 36 (zI q) (zyn 37 (x := zI (IntKind.i64.wrap ((2 : Int) * (q : Int)))) (zI (2 * q : Nat)) (eqI xj) (zyn 38 (x := zI (IntKind.i64.wrap ((Int.tmod p (2 * (q : Int))) + ((2 * q : Nat) : Int)))) (zI ((Int.tmod p (2 * (q : Int))) + ((2 * q : Nat) : Int))) yv (zza 0 (zI ((Int.tmod p (2 * (q : Int))) + ((2 * q : Nat) : Int))) (zzb (zzd (sw_joinP (I := fun S' u' => ∃ (r : Nat), (Nt.fold p q = r) ∧ (r ≤ q) ∧ (S' = St.of 110 [(0, zI r), (1, zI q), (2, zI k), (6, .adr 6 0)] [(6, ⟨32, [.bool false, .slice none 0 0, .slice none 0 0, .bool false, .slice none 0 0, .slice none 0 0]⟩)])) ?_ (fun rest13 => ?_)))))))))
  ·rintro _ uj13 ej13 ⟨r, hr, hfl, rfl⟩
   refine sq9 (zza 46 (zI r) (zyn 47 (x := zI (IntKind.i64.wrap ((2 : Int) * (r : Int)))) (zI (2 * r : Nat)) (eqI xj) (zza 48 (zI q) (zza 49 (zB (decide ((q : Int) < ((2 * r : Nat) : Int)))) (zza 8 (zB (decide ((q : Int) < ((2 * r : Nat) : Int)))) (zzb (zzd (sw_joinP (I := fun S' u' => ∃ (s : Nat) (ng : Bool), ((ng = true ∧ q < 2 * r ∧ s = q - r) ∨ (ng = false ∧ ¬ q < 2 * r ∧ s = r)) ∧ (2 * s ≤ q) ∧ (S' = St.of 110 [(0, zI s), (1, zI q), (2, zI k), (6, .adr 6 0), (8, zB ng)] [(6, ⟨32, [.bool false, .slice none 0 0, .slice none 0 0, .bool false, .slice none 0 0, .slice none 0 0]⟩)])) ?_ (fun rest14 => ?_)))))))))
   ·rintro _ uj14 ej14 ⟨s, ng, hs, hsq, rfl⟩
    refine sq9 (zza 54 (.v (.agg #[.bool false, .slice none 0 0, .slice none 0 0, .bool false, .slice none 0 0, .slice none 0 0])) (zzj 9 ⟨32, [.bool false, .slice none 0 0, .slice none 0 0, .bool false, .slice none 0 0, .slice none 0 0]⟩ (zzi ⟨32, [.bool false, .slice none 0 0, .slice none 0 0, .bool false, .slice none 0 0, .slice none 0 0]⟩ ty32 ?_)))
    refine zzb (zzd (sw_joinP (I := fun S' u' => ∃ (x1 : RL) (x2 : RL), (S' = St.of 110 [(6, .adr 6 0), (8, zB ng), (9, .adr 9 0)] [(6, ⟨32, [.bool false, .slice none 0 0, .slice none 0 0, .bool false, .slice none 0 0, .slice none 0 0]⟩), (9, ⟨32, x1.cs ++ x2.cs⟩)]) ∧ (RatN u' x1 (Nt.cosA s q k).1 200) ∧ (RatN u' x2 (Nt.cosA s q k).2 200)) ?_ (fun rest15 => ?_)))
    ·rintro _ uj15 ej15 ⟨x1, x2, rfl, fx1, fx2⟩
     refine zzd (sq9 (zza 101 (zB ng) (zzb (zzt (b := ng) xk (fun hb16 => ?_) (fun hb16 => ?_)))))
     ·replace hb16 : ng = true := hb16
      refine zzy [0, 1, 3, 0, 8, 31, 63, 127] [(0, []), (1, []), (3, []), (4, []), (2, []), (5, []), (6, []), (7, [])] xk xk (zza 102 (.adr 9 3) (zzh 103 (.v (x2.v)) ty26 zze (zza 105 (.adr 9 0) (zzh 106 (.v (x1.v)) ty26 zze (zzg 104 39 [x2.v] ?_)))))
      intro w17 u17 e17 d17
      have k22 := k_rqNeg d17 (fx2.ext e17).raw xq
      with_reducible refine zPm k22 ?_
      rintro _ u20 g21 ⟨r18, rfl, h19⟩
      refine zzg 107 39 [x1.v] ?_
      intro w23 u23 e23 d23
      have k28 := k_rqNeg d23 (fx1.ext (e17.trans (g21.ext.trans e23))).raw xq
      with_reducible refine zPm k28 ?_
      rintro _ u26 g27 ⟨r24, rfl, h25⟩
      refine zza 108 (.v (.agg #[.bool r18.s, r18.m.v, r18.d.v, .bool r24.s, r24.m.v, r24.d.v])) (zzi ⟨32, r18.cs ++ r24.cs⟩ ty32 ?_)
      refine zzb (sq9 (zzh 109 (.v (.agg #[.bool r18.s, r18.m.v, r18.d.v, .bool r24.s, r24.m.v, r24.d.v])) ty32 zze (zzi ⟨32, r18.cs ++ r24.cs⟩ ty32 ?_)))
      refine zza 7 (zI 0) (zzb (zzn (ret0 [.agg #[.bool r18.s, .slice r18.m.a r18.m.n r18.m.c, .slice r18.d.a r18.d.n r18.d.c, .bool r24.s, .slice r24.m.a r24.m.n r24.m.c, .slice r24.d.a r24.d.n r24.d.c], .int .i64 0] ⟨zzq ty32 zze, zzp, trivial⟩ fun u29 e30 => ?_)))
      have hs9 := hs.resolve_right (fun h => by rw [hb16] at h; exact absurd h.1 xw)
      have hc := Nt.cosV_hi (b := k) hr hs9.2.1
      rw [← hs9.2.2] at hc
      refine ⟨r18, r24, rfl, RatN.more (K := 200) ?_ xq, RatN.more (K := 200) ?_ xq⟩
      ·rw [hc]; exact (h19.ext (e23.trans (g27.ext.trans e30)))
      ·rw [hc]; exact (h25.ext e30)
     ·replace hb16 : ng = false := hb16
      refine zzr (zzo ?_)
      refine sq9 (zzh 109 (.v (.agg #[.bool x1.s, x1.m.v, x1.d.v, .bool x2.s, x2.m.v, x2.d.v])) ty32 zze (zzi ⟨32, x1.cs ++ x2.cs⟩ ty32 ?_))
      refine zza 7 (zI 0) (zzb (zzn (ret0 [.agg #[.bool x1.s, .slice x1.m.a x1.m.n x1.m.c, .slice x1.d.a x1.d.n x1.d.c, .bool x2.s, .slice x2.m.a x2.m.n x2.m.c, .slice x2.d.a x2.d.n x2.d.c], .int .i64 0] ⟨zzq ty32 zze, zzp, trivial⟩ fun u31 e32 => ?_)))
      have hs9 := hs.resolve_left (fun h => by rw [hb16] at h; exact absurd h.1 xw)
      have hc := Nt.cosV_lo (b := k) hr hs9.2.1
      rw [← hs9.2.2] at hc
      refine ⟨x1, x2, rfl, RatN.more (K := 200) ?_ xq, RatN.more (K := 200) ?_ xq⟩
      ·rw [hc]; exact (fx1.ext e32)
      ·rw [hc]; exact (fx2.ext e32)
    ·skip
     refine zzs (sq9 (zza 80 (zI s) (zza 81 (zB ((s : Int) == 0)) (zza 79 (zB ((s : Int) == 0)) (zzb (zzt (b := (s : Int) == 0) xk (fun hb33 => ?_) (fun hb33 => ?_)))))))
     ·replace hb33 : ((s : Int) == 0) = true := hb33
      have qhb33 : (s : Int) = 0 := by simpa using hb33
      have q9hb33 : s = 0 := by have h9 := hb33; simp at h9; omega
      refine zzf (zzg 82 30 [.int .i64 1] ?_)
      intro w34 u34 e34 d34
      have k39 := k_rqOf d34 (z := 1) xq xq
      with_reducible refine zPm k39 ?_
      rintro _ u37 g38 ⟨r35, rfl, h36⟩
      refine zza 83 (zI k) (zzg 84 105 [r35.v, .int .i64 k] ?_)
      intro w40 u40 e40 d40
      have k47 := k_r10point (k := k) d40 (h36.ext e40) xq xq
      with_reducible refine zPm k47 ?_
      rintro _ u45 g46 ⟨r41, r43, rfl, h42, h44⟩
      refine zzi ⟨32, r41.cs ++ r43.cs⟩ ty32 ?_
      refine zzw ?_
      refine zzo ?_
      have hcA := Nt.cosA_0 (r := s) (q := q) (b := k) q9hb33
      refine sw_weak (T := St.of 110 [(6, .adr 6 0), (8, zB ng), (9, .adr 9 0)] [(6, ⟨32, [.bool false, .slice none 0 0, .slice none 0 0, .bool false, .slice none 0 0, .slice none 0 0]⟩), (9, ⟨32, r41.cs ++ r43.cs⟩)]) yq ?_
      exact rest15 _ _ (e34.trans (g38.ext.trans (e40.trans g46.ext))) ⟨r41, r43, rfl, (by rw [hcA]; exact RatN.more h42 xq), (by rw [hcA]; exact RatN.more h44 xq)⟩
     ·replace hb33 : ((s : Int) == 0) = false := hb33
      have qhb33 : ¬ ((s : Int) = 0) := by simpa using hb33
      have q9hb33 : ¬ s = 0 := by have h9 := hb33; simp at h9; omega
      refine sq9 (zza 86 (zI s) (zyn 87 (x := zI (IntKind.i64.wrap ((2 : Int) * (s : Int)))) (zI (2 * s : Nat)) (eqI xj) (zza 88 (zI q) (zza 89 (zB (((2 * s : Nat) : Int) == (q : Int))) (zza 85 (zB (((2 * s : Nat) : Int) == (q : Int))) (zzb (zzt (b := ((2 * s : Nat) : Int) == (q : Int)) xk (fun hb48 => ?_) (fun hb48 => ?_))))))))
      ·replace hb48 : (((2 * s : Nat) : Int) == (q : Int)) = true := hb48
       have q9hb48 : 2 * s = q := by have h9 := hb48; simp at h9; omega
       refine zzf (zzg 90 30 [.int .i64 0] ?_)
       intro w49 u49 e49 d49
       have k54 := k_rqOf d49 (z := 0) xq xq
       with_reducible refine zPm k54 ?_
       rintro _ u52 g53 ⟨r50, rfl, h51⟩
       refine zza 91 (zI k) (zzg 92 105 [r50.v, .int .i64 k] ?_)
       intro w55 u55 e55 d55
       have k62 := k_r10point (k := k) d55 (h51.ext e55) xq xq
       with_reducible refine zPm k62 ?_
       rintro _ u60 g61 ⟨r56, r58, rfl, h57, h59⟩
       refine zzi ⟨32, r56.cs ++ r58.cs⟩ ty32 ?_
       refine zzw ?_
       refine zzo ?_
       have hcA := Nt.cosA_h (r := s) (q := q) (b := k) q9hb33 q9hb48
       refine sw_weak (T := St.of 110 [(6, .adr 6 0), (8, zB ng), (9, .adr 9 0)] [(6, ⟨32, [.bool false, .slice none 0 0, .slice none 0 0, .bool false, .slice none 0 0, .slice none 0 0]⟩), (9, ⟨32, r56.cs ++ r58.cs⟩)]) yq ?_
       exact rest15 _ _ (e49.trans (g53.ext.trans (e55.trans g61.ext))) ⟨r56, r58, rfl, (by rw [hcA]; exact RatN.more h57 xq), (by rw [hcA]; exact RatN.more h59 xq)⟩
      ·replace hb48 : (((2 * s : Nat) : Int) == (q : Int)) = false := hb48
       have q9hb48 : ¬ 2 * s = q := by have h9 := hb48; simp at h9; omega
       refine sq9 (zza 94 (zI s) (zyn 95 (x := zI (IntKind.i64.wrap ((3 : Int) * (s : Int)))) (zI (3 * s : Nat)) (eqI xj) (zza 96 (zI q) (zza 97 (zB (((3 * s : Nat) : Int) == (q : Int))) (zza 93 (zB (((3 * s : Nat) : Int) == (q : Int))) (zzb (zzt (b := ((3 * s : Nat) : Int) == (q : Int)) xk (fun hb63 => ?_) (fun hb63 => ?_))))))))
       ·replace hb63 : (((3 * s : Nat) : Int) == (q : Int)) = true := hb63
        have q9hb63 : 3 * s = q := by have h9 := hb63; simp at h9; omega
        refine zzf (zzg 98 75 [.int .i64 1, .int .i64 2] ?_)
        intro w64 u64 e64 d64
        have k69 := k_rqFrac d64 (a := 1) (b := 2) xq xq xq xq
        with_reducible refine zPm k69 ?_
        rintro _ u67 g68 ⟨r65, rfl, h66⟩
        refine zza 99 (zI k) (zzg 100 105 [r65.v, .int .i64 k] ?_)
        intro w70 u70 e70 d70
        have k77 := k_r10point (k := k) d70 (h66.ext e70) xq xq
        with_reducible refine zPm k77 ?_
        rintro _ u75 g76 ⟨r71, r73, rfl, h72, h74⟩
        refine zzi ⟨32, r71.cs ++ r73.cs⟩ ty32 ?_
        refine zzw ?_
        refine zzo ?_
        have hcA := Nt.cosA_3 (r := s) (q := q) (b := k) q9hb33 q9hb48 q9hb63
        refine sw_weak (T := St.of 110 [(6, .adr 6 0), (8, zB ng), (9, .adr 9 0)] [(6, ⟨32, [.bool false, .slice none 0 0, .slice none 0 0, .bool false, .slice none 0 0, .slice none 0 0]⟩), (9, ⟨32, r71.cs ++ r73.cs⟩)]) yq ?_
        exact rest15 _ _ (e64.trans (g68.ext.trans (e70.trans g76.ext))) ⟨r71, r73, rfl, (by rw [hcA]; exact RatN.more h72 xq), (by rw [hcA]; exact RatN.more h74 xq)⟩
       ·replace hb63 : (((3 * s : Nat) : Int) == (q : Int)) = false := hb63
        have q9hb63 : ¬ 3 * s = q := by have h9 := hb63; simp at h9; omega
        refine sq9 (zza 10 (zB false) (zzb (sq9 (zza 55 (zI s) (zza 56 (zI q) (zzg 57 75 [.int .i64 s, .int .i64 q] ?_))))))
        intro w78 u78 e78 d78
        have k83 := k_rqFrac d78 (a := (s : Int)) (b := (q : Int)) xq xq xq xq
        with_reducible refine zPm k83 ?_
        rintro _ u81 g82 ⟨r79, rfl, h80⟩
        refine zza 58 (zI s) (zza 59 (zI q) (zzg 60 75 [.int .i64 s, .int .i64 q] ?_))
        intro w84 u84 e84 d84
        have k89 := k_rqFrac d84 (a := (s : Int)) (b := (q : Int)) xq xq xq xq
        with_reducible refine zPm k89 ?_
        rintro _ u87 g88 ⟨r85, rfl, h86⟩
        refine zzg 61 38 [r79.v, r85.v] ?_
        intro w90 u90 e90 d90
        have k97 := k_r4Make d90 (h80.ext (e84.trans (g88.ext.trans e90))).raw (h86.ext e90).raw xq
        with_reducible refine zPm k97 ?_
        rintro _ u95 g96 ⟨r91, r93, rfl, h92, h94⟩
        refine zzj 11 ⟨32, [.bool false, .slice none 0 0, .slice none 0 0, .bool false, .slice none 0 0, .slice none 0 0]⟩ (zzi ⟨32, r91.cs ++ r93.cs⟩ ty32 ?_)
        refine zzb (sq9 (zza 62 (zI k) (zyn 63 (x := zI (IntKind.i64.wrap ((k : Int) + 16))) (zI (k + 16 : Nat)) (eqI xj) (zza 12 (zI (k + 16 : Nat)) (zzb (zzs (zyl (I := fun m98 S' u' => ∃ (t : Nat) (wk : Nat) (ok : Bool) (x1 : RL) (x2 : RL), (m98 = t) ∧ (k + 16 ≤ wk) ∧ (wk ≤ 1400) ∧ (ok = true ∨ (t = 2001 - wk ∧ (wk ≤ 674 ∨ wk = k + 16))) ∧ (S' = St.of 110 [(2, zI k), (6, .adr 6 0), (8, zB ng), (9, .adr 9 0), (10, zB ok), (11, .adr 11 0), (12, zI wk)] [(6, ⟨32, [.bool false, .slice none 0 0, .slice none 0 0, .bool false, .slice none 0 0, .slice none 0 0]⟩), (9, ⟨32, x1.cs ++ x2.cs⟩), (11, ⟨32, r91.cs ++ r93.cs⟩)]) ∧ (Ext u95 u') ∧ (IfI u' ok x1 x2 (Nt.gr k (Nt.flo (Nt.coN s q) k)) (Nt.gr k (Nt.flo (Nt.coN s q) k + 1)))) (fun m S u1 u2 e h => by obtain ⟨t, wk, ok, x1, x2, hm, p0, p1, p2, hS, hE, f0⟩ := h; exact ⟨t, wk, ok, x1, x2, hm, p0, p1, p2, hS, hE.trans e, f0.ext e⟩) _ yq ⟨(2001 - (k + 16)), (k + 16), false, (⟨false, ⟨none, 0, 0⟩, ⟨none, 0, 0⟩⟩ : RL), (⟨false, ⟨none, 0, 0⟩, ⟨none, 0, 0⟩⟩ : RL), rfl, by omega, by omega, .inr ⟨rfl, .inr rfl⟩, rfl, (Ext.refl _), (fun h => absurd h xw)⟩ ?_)))))))
        rintro m98 _ u98 ⟨t, wk, ok, x1, x2, hm98, hw0, hw2, hw1, rfl, e98, f0⟩
        refine zzd (sq9 (zza 64 (zB ok) (zza 65 (zB (!ok)) (zzc 110 [(2, zI k), (6, .adr 6 0), (8, zB ng), (9, .adr 9 0), (11, .adr 11 0), (12, zI wk), (65, zB (!ok))] [(6, ⟨32, [.bool false, .slice none 0 0, .slice none 0 0, .bool false, .slice none 0 0, .slice none 0 0]⟩), (9, ⟨32, x1.cs ++ x2.cs⟩), (11, ⟨32, r91.cs ++ r93.cs⟩)] (zzt (b := !ok) xk (fun hb99 => ?_) (fun hb99 => ?_))))))
        ·replace hb99 : (!ok) = true := hb99
         have hok := Nt.not_t hb99
         have hw9 : t = 2001 - wk ∧ (wk ≤ 674 ∨ wk = k + 16) := hw1.resolve_left (by rw [hok]; decide)
         have hg := hG s xq xq xq
         refine zzr (zzo ?_)
         refine zzd (zzs (zzy [0, 1, 0, 7, 0, 31, 0, 127, 255, 511, 511, 1023, 4095] [(0, []), (2, []), (4, []), (6, []), (1, []), (3, []), (5, []), (7, []), (8, []), (9, []), (10, []), (11, []), (12, [])] xk xk (zza 69 (zI wk) (zzh 71 (.v (.agg #[.bool r91.s, r91.m.v, r91.d.v, .bool r93.s, r93.m.v, r93.d.v])) ty32 zze (zza 73 (zI wk) (zza 75 (zI k) (zzg 70 104 [.int .i64 wk] ?_)))))))
         intro w100 u100 e100 d100
         have k104 := k_r10pi d100 (k := wk) xq xq
         with_reducible refine zPm k104 ?_
         rintro _ u102 g103 ⟨si101, sj101, sa101, sb101, rfl, ha101, hb101, hR101⟩
         refine zzg 72 68 [.agg #[.bool si101.s, si101.m.v, si101.d.v, .bool sj101.s, sj101.m.v, sj101.d.v], .agg #[.bool r91.s, r91.m.v, r91.d.v, .bool r93.s, r93.m.v, r93.d.v]] ?_
         intro w105 u105 e105 d105
         have k112 := k_r4Mul d105 (ha101.ext e105).raw (hb101.ext e105).raw (h92.ext (e98.trans (e100.trans (g103.ext.trans e105)))).raw (h94.ext (e98.trans (e100.trans (g103.ext.trans e105)))).raw xq xq
         with_reducible refine zPm k112 ?_
         rintro _ u110 g111 ⟨r106, r108, rfl, h107, h109⟩
         refine zzg 74 106 [.agg #[.bool r106.s, r106.m.v, r106.d.v, .bool r108.s, r108.m.v, r108.d.v], .int .i64 wk] ?_
         intro w113 u113 e113 d113
         have k117 := k_r10cos (p := s) (q := q) (k := wk) (a := sa101) (b := sb101) (K := 1000) d113 hR101 hq0 xq xq xq xq (by have h9 := (h107.ext e113); rw [(Nt.cs_x (hR101.bd xq).2.2.1 (Nt.fr_nn hq0)).1] at h9; exact RatN.more (L := 1000) h9 xq) (by have h9 := (h109.ext e113); rw [(Nt.cs_x (hR101.bd xq).2.2.1 (Nt.fr_nn hq0)).2] at h9; exact RatN.more (L := 1000) h9 xq) xq
         with_reducible refine zPm k117 ?_
         rintro _ u115 g116 ⟨si114, sj114, sa114, sb114, rfl, ha114, hb114, hC114⟩
         refine zzg 76 103 [.agg #[.bool si114.s, si114.m.v, si114.d.v, .bool sj114.s, sj114.m.v, sj114.d.v], .int .i64 k] ?_
         intro w118 u118 e118 d118
         have k122 := k_r10tight (k := k) (m := wk) (a := sa114) (b := sb114) d118 (ha114.ext e118) (hb114.ext e118) xq xq xq
         with_reducible refine zPm k122 ?_
         rintro _ u120 g121 ⟨tp119, tq119, rfl, hT119⟩
         refine zza 68 (.v (.tuple #[.agg #[.bool tp119.s, tp119.m.v, tp119.d.v, .bool tq119.s, tq119.m.v, tq119.d.v], .bool (!(Nt.cmpS (sa114 / Nt.u2 (wk - k)) (sb114 / Nt.u2 (wk - k)) != 0))])) (zza 77 (.v (.agg #[.bool tp119.s, tp119.m.v, tp119.d.v, .bool tq119.s, tq119.m.v, tq119.d.v])) (zza 78 (zB (!(Nt.cmpS (sa114 / Nt.u2 (wk - k)) (sb114 / Nt.u2 (wk - k)) != 0))) (zzi ⟨32, tp119.cs ++ tq119.cs⟩ ty32 ?_)))
         refine zza 10 (zB (!(Nt.cmpS (sa114 / Nt.u2 (wk - k)) (sb114 / Nt.u2 (wk - k)) != 0))) (zzw ?_)
         refine zzo (zzf (zza 66 (zI wk) (zyn 67 (x := zI (IntKind.i64.wrap ((wk : Int) * 2))) (zI (wk * 2 : Nat)) (eqI xj) (zza 12 (zI (wk * 2 : Nat)) (zzw ?_)))))
         obtain ⟨t1, ht1, hlt⟩ : ∃ t1 : Nat, ((!(Nt.cmpS (sa114 / Nt.u2 (wk - k)) (sb114 / Nt.u2 (wk - k)) != 0)) = true ∨ (t1 = 2001 - wk * 2 ∧ (wk * 2 ≤ 674 ∨ wk * 2 = k + 16))) ∧ t1 < t := by (cases hcc : (Nt.cmpS (sa114 / Nt.u2 (wk - k)) (sb114 / Nt.u2 (wk - k)) != 0) with | false => exact ⟨0, .inl rfl, by omega⟩ | true => (have hny := Nt.not_yet hg hC114.1 (Nt.csR_bd hC114 hq0 xq xq).2.2.2.2.2 hcc; exact ⟨2001 - wk * 2, .inr ⟨rfl, .inl xq⟩, by omega⟩))
         refine ⟨_, ?_, _, by exact zzu _ _ _, t1, wk * 2, (!(Nt.cmpS (sa114 / Nt.u2 (wk - k)) (sb114 / Nt.u2 (wk - k)) != 0)), tp119, tq119, rfl, by omega, by omega, ht1, rfl, (e98.trans (e100.trans (g103.ext.trans (e105.trans (g111.ext.trans (e113.trans (g116.ext.trans (e118.trans g121.ext)))))))), (fun h => by have h8 := Nt.not_t h; have h9 := hT119 h8; rw [Nt.flo_of hC114.1 xq h8] at h9; exact ⟨h9.1, h9.2⟩)⟩
         omega
        ·replace hb99 : (!ok) = false := hb99
         refine zyb (zzo ?_)
         have hcA := Nt.cosA_g (r := s) (q := q) (b := k) q9hb33 q9hb48 q9hb63
         refine sw_weak (T := St.of 110 [(6, .adr 6 0), (8, zB ng), (9, .adr 9 0)] [(6, ⟨32, [.bool false, .slice none 0 0, .slice none 0 0, .bool false, .slice none 0 0, .slice none 0 0]⟩), (9, ⟨32, x1.cs ++ x2.cs⟩)]) yq ?_
         exact rest15 _ _ (e78.trans (g82.ext.trans (e84.trans (g88.ext.trans (e90.trans (g96.ext.trans e98)))))) ⟨x1, x2, rfl, (by rw [hcA]; exact RatN.more (f0 (Nt.not_f hb99)).1 xq), (by rw [hcA]; exact RatN.more (f0 (Nt.not_f hb99)).2 xq)⟩
   ·skip
    refine sq9 (zza 50 (zB (decide ((q : Int) < ((2 * r : Nat) : Int)))) (zzb (zzt (b := decide ((q : Int) < ((2 * r : Nat) : Int))) xk (fun hb123 => ?_) (fun hb123 => ?_))))
    ·replace hb123 : (decide ((q : Int) < ((2 * r : Nat) : Int))) = true := hb123
     have qhb123 := of_decide_eq_true hb123
     refine zzf (zza 51 (zI q) (zza 52 (zI r) (zyn 53 (x := zI (IntKind.i64.wrap ((q : Int) - (r : Int)))) (zI (q - r : Nat)) (eqI xj) (zza 0 (zI (q - r : Nat)) (zzc 110 [(0, zI (q - r : Nat)), (1, zI q), (2, zI k), (6, .adr 6 0), (8, zB (decide ((q : Int) < ((2 * r : Nat) : Int))))] [(6, ⟨32, [.bool false, .slice none 0 0, .slice none 0 0, .bool false, .slice none 0 0, .slice none 0 0]⟩)] ?_)))))
     exact rest14 _ _ (Ext.refl _) ⟨q - r, (decide ((q : Int) < ((2 * r : Nat) : Int))), (.inl ⟨hb123, by have h9 := of_decide_eq_true hb123; omega, rfl⟩), (by have h9 := of_decide_eq_true hb123; omega), rfl⟩
    ·replace hb123 : (decide ((q : Int) < ((2 * r : Nat) : Int))) = false := hb123
     have qhb123 := of_decide_eq_false hb123
     refine zzr (zzo ?_)
     refine sw_weak (T := St.of 110 [(0, zI r), (1, zI q), (2, zI k), (6, .adr 6 0), (8, zB (decide ((q : Int) < ((2 * r : Nat) : Int))))] [(6, ⟨32, [.bool false, .slice none 0 0, .slice none 0 0, .bool false, .slice none 0 0, .slice none 0 0]⟩)]) yq ?_
     exact rest14 _ _ (Ext.refl _) ⟨r, (decide ((q : Int) < ((2 * r : Nat) : Int))), (.inr ⟨hb123, by have h9 := of_decide_eq_false hb123; omega, rfl⟩), (by have h9 := of_decide_eq_false hb123; omega), rfl⟩
  ·skip
   refine sq9 (zza 39 (zI ((Int.tmod p (2 * (q : Int))) + ((2 * q : Nat) : Int))) (zza 40 (zI q) (zza 41 (zB (decide ((q : Int) < ((Int.tmod p (2 * (q : Int))) + ((2 * q : Nat) : Int))))) (zzb (zzt (b := decide ((q : Int) < ((Int.tmod p (2 * (q : Int))) + ((2 * q : Nat) : Int)))) xk (fun hb124 => ?_) (fun hb124 => ?_))))))
   ·replace hb124 : (decide ((q : Int) < ((Int.tmod p (2 * (q : Int))) + ((2 * q : Nat) : Int)))) = true := hb124
    have qhb124 := of_decide_eq_true hb124
    refine zzf (zza 42 (zI q) (zyn 43 (x := zI (IntKind.i64.wrap ((2 : Int) * (q : Int)))) (zI (2 * q : Nat)) (eqI xj) (zza 44 (zI ((Int.tmod p (2 * (q : Int))) + ((2 * q : Nat) : Int))) (zyn 45 (x := zI (IntKind.i64.wrap (((2 * q : Nat) : Int) - ((Int.tmod p (2 * (q : Int))) + ((2 * q : Nat) : Int))))) (zI (((2 * q : Nat) : Int) - ((Int.tmod p (2 * (q : Int))) + ((2 * q : Nat) : Int)))) yv (zza 0 (zI (((2 * q : Nat) : Int) - ((Int.tmod p (2 * (q : Int))) + ((2 * q : Nat) : Int)))) ?_)))))
    have hfold : (((2 * q : Nat) : Int) - ((Int.tmod p (2 * (q : Int))) + ((2 * q : Nat) : Int))) = ((Nt.fold p q : Nat) : Int) := by unfold Nt.fold; dsimp only; split <;> omega
    rw [hfold]
    refine zzc 110 [(0, zI (((Nt.fold p q) : Nat) : Int)), (1, zI q), (2, zI k), (6, .adr 6 0)] [(6, ⟨32, [.bool false, .slice none 0 0, .slice none 0 0, .bool false, .slice none 0 0, .slice none 0 0]⟩)] ?_
    exact rest13 _ _ (Ext.refl _) ⟨(Nt.fold p q), rfl, (Nt.fold_le p q hq0), rfl⟩
   ·replace hb124 : (decide ((q : Int) < ((Int.tmod p (2 * (q : Int))) + ((2 * q : Nat) : Int)))) = false := hb124
    have qhb124 := of_decide_eq_false hb124
    refine zzr (zzo ?_)
    have hfold : ((Int.tmod p (2 * (q : Int))) + ((2 * q : Nat) : Int)) = ((Nt.fold p q : Nat) : Int) := by unfold Nt.fold; dsimp only; split <;> omega
    rw [hfold]
    refine sw_weak (T := St.of 110 [(0, zI (((Nt.fold p q) : Nat) : Int)), (1, zI q), (2, zI k), (6, .adr 6 0)] [(6, ⟨32, [.bool false, .slice none 0 0, .slice none 0 0, .bool false, .slice none 0 0, .slice none 0 0]⟩)]) yq ?_
    exact rest13 _ _ (Ext.refl _) ⟨(Nt.fold p q), rfl, (Nt.fold_le p q hq0), rfl⟩
 ·replace hb12 : (decide ((Int.tmod p (2 * (q : Int))) < 0)) = false := hb12
  have qhb12 := of_decide_eq_false hb12
  refine zzr (zzo ?_)
  refine zzd (sw_joinP (I := fun S' u' => ∃ (r : Nat), (Nt.fold p q = r) ∧ (r ≤ q) ∧ (S' = St.of 110 [(0, zI r), (1, zI q), (2, zI k), (6, .adr 6 0)] [(6, ⟨32, [.bool false, .slice none 0 0, .slice none 0 0, .bool false, .slice none 0 0, .slice none 0 0]⟩)])) ?_ (fun rest125 => ?_))
  ·rintro _ uj125 ej125 ⟨r, hr, hfl, rfl⟩
   refine sq9 (zza 46 (zI r) (zyn 47 (x := zI (IntKind.i64.wrap ((2 : Int) * (r : Int)))) (zI (2 * r : Nat)) (eqI xj) (zza 48 (zI q) (zza 49 (zB (decide ((q : Int) < ((2 * r : Nat) : Int)))) (zza 8 (zB (decide ((q : Int) < ((2 * r : Nat) : Int)))) (zzb (zzd (sw_joinP (I := fun S' u' => ∃ (s : Nat) (ng : Bool), ((ng = true ∧ q < 2 * r ∧ s = q - r) ∨ (ng = false ∧ ¬ q < 2 * r ∧ s = r)) ∧ (2 * s ≤ q) ∧ (S' = St.of 110 [(0, zI s), (1, zI q), (2, zI k), (6, .adr 6 0), (8, zB ng)] [(6, ⟨32, [.bool false, .slice none 0 0, .slice none 0 0, .bool false, .slice none 0 0, .slice none 0 0]⟩)])) ?_ (fun rest126 => ?_)))))))))
   ·rintro _ uj126 ej126 ⟨s, ng, hs, hsq, rfl⟩
    refine sq9 (zza 54 (.v (.agg #[.bool false, .slice none 0 0, .slice none 0 0, .bool false, .slice none 0 0, .slice none 0 0])) (zzj 9 ⟨32, [.bool false, .slice none 0 0, .slice none 0 0, .bool false, .slice none 0 0, .slice none 0 0]⟩ (zzi ⟨32, [.bool false, .slice none 0 0, .slice none 0 0, .bool false, .slice none 0 0, .slice none 0 0]⟩ ty32 ?_)))
    refine zzb (zzd (sw_joinP (I := fun S' u' => ∃ (x1 : RL) (x2 : RL), (S' = St.of 110 [(6, .adr 6 0), (8, zB ng), (9, .adr 9 0)] [(6, ⟨32, [.bool false, .slice none 0 0, .slice none 0 0, .bool false, .slice none 0 0, .slice none 0 0]⟩), (9, ⟨32, x1.cs ++ x2.cs⟩)]) ∧ (RatN u' x1 (Nt.cosA s q k).1 200) ∧ (RatN u' x2 (Nt.cosA s q k).2 200)) ?_ (fun rest127 => ?_)))
    ·rintro _ uj127 ej127 ⟨x1, x2, rfl, fx1, fx2⟩
     refine zzd (sq9 (zza 101 (zB ng) (zzb (zzt (b := ng) xk (fun hb128 => ?_) (fun hb128 => ?_)))))
     ·replace hb128 : ng = true := hb128
      refine zzy [0, 1, 3, 0, 8, 31, 63, 127] [(0, []), (1, []), (3, []), (4, []), (2, []), (5, []), (6, []), (7, [])] xk xk (zza 102 (.adr 9 3) (zzh 103 (.v (x2.v)) ty26 zze (zza 105 (.adr 9 0) (zzh 106 (.v (x1.v)) ty26 zze (zzg 104 39 [x2.v] ?_)))))
      intro w129 u129 e129 d129
      have k134 := k_rqNeg d129 (fx2.ext e129).raw xq
      with_reducible refine zPm k134 ?_
      rintro _ u132 g133 ⟨r130, rfl, h131⟩
      refine zzg 107 39 [x1.v] ?_
      intro w135 u135 e135 d135
      have k140 := k_rqNeg d135 (fx1.ext (e129.trans (g133.ext.trans e135))).raw xq
      with_reducible refine zPm k140 ?_
      rintro _ u138 g139 ⟨r136, rfl, h137⟩
      refine zza 108 (.v (.agg #[.bool r130.s, r130.m.v, r130.d.v, .bool r136.s, r136.m.v, r136.d.v])) (zzi ⟨32, r130.cs ++ r136.cs⟩ ty32 ?_)
      refine zzb (sq9 (zzh 109 (.v (.agg #[.bool r130.s, r130.m.v, r130.d.v, .bool r136.s, r136.m.v, r136.d.v])) ty32 zze (zzi ⟨32, r130.cs ++ r136.cs⟩ ty32 ?_)))
      refine zza 7 (zI 0) (zzb (zzn (ret0 [.agg #[.bool r130.s, .slice r130.m.a r130.m.n r130.m.c, .slice r130.d.a r130.d.n r130.d.c, .bool r136.s, .slice r136.m.a r136.m.n r136.m.c, .slice r136.d.a r136.d.n r136.d.c], .int .i64 0] ⟨zzq ty32 zze, zzp, trivial⟩ fun u141 e142 => ?_)))
      have hs9 := hs.resolve_right (fun h => by rw [hb128] at h; exact absurd h.1 xw)
      have hc := Nt.cosV_hi (b := k) hr hs9.2.1
      rw [← hs9.2.2] at hc
      refine ⟨r130, r136, rfl, RatN.more (K := 200) ?_ xq, RatN.more (K := 200) ?_ xq⟩
      ·rw [hc]; exact (h131.ext (e135.trans (g139.ext.trans e142)))
      ·rw [hc]; exact (h137.ext e142)
     ·replace hb128 : ng = false := hb128
      refine zzr (zzo ?_)
      refine sq9 (zzh 109 (.v (.agg #[.bool x1.s, x1.m.v, x1.d.v, .bool x2.s, x2.m.v, x2.d.v])) ty32 zze (zzi ⟨32, x1.cs ++ x2.cs⟩ ty32 ?_))
      refine zza 7 (zI 0) (zzb (zzn (ret0 [.agg #[.bool x1.s, .slice x1.m.a x1.m.n x1.m.c, .slice x1.d.a x1.d.n x1.d.c, .bool x2.s, .slice x2.m.a x2.m.n x2.m.c, .slice x2.d.a x2.d.n x2.d.c], .int .i64 0] ⟨zzq ty32 zze, zzp, trivial⟩ fun u143 e144 => ?_)))
      have hs9 := hs.resolve_left (fun h => by rw [hb128] at h; exact absurd h.1 xw)
      have hc := Nt.cosV_lo (b := k) hr hs9.2.1
      rw [← hs9.2.2] at hc
      refine ⟨x1, x2, rfl, RatN.more (K := 200) ?_ xq, RatN.more (K := 200) ?_ xq⟩
      ·rw [hc]; exact (fx1.ext e144)
      ·rw [hc]; exact (fx2.ext e144)
    ·skip
     refine zzs (sq9 (zza 80 (zI s) (zza 81 (zB ((s : Int) == 0)) (zza 79 (zB ((s : Int) == 0)) (zzb (zzt (b := (s : Int) == 0) xk (fun hb145 => ?_) (fun hb145 => ?_)))))))
     ·replace hb145 : ((s : Int) == 0) = true := hb145
      have qhb145 : (s : Int) = 0 := by simpa using hb145
      have q9hb145 : s = 0 := by have h9 := hb145; simp at h9; omega
      refine zzf (zzg 82 30 [.int .i64 1] ?_)
      intro w146 u146 e146 d146
      have k151 := k_rqOf d146 (z := 1) xq xq
      with_reducible refine zPm k151 ?_
      rintro _ u149 g150 ⟨r147, rfl, h148⟩
      refine zza 83 (zI k) (zzg 84 105 [r147.v, .int .i64 k] ?_)
      intro w152 u152 e152 d152
      have k159 := k_r10point (k := k) d152 (h148.ext e152) xq xq
      with_reducible refine zPm k159 ?_
      rintro _ u157 g158 ⟨r153, r155, rfl, h154, h156⟩
      refine zzi ⟨32, r153.cs ++ r155.cs⟩ ty32 ?_
      refine zzw ?_
      refine zzo ?_
      have hcA := Nt.cosA_0 (r := s) (q := q) (b := k) q9hb145
      refine sw_weak (T := St.of 110 [(6, .adr 6 0), (8, zB ng), (9, .adr 9 0)] [(6, ⟨32, [.bool false, .slice none 0 0, .slice none 0 0, .bool false, .slice none 0 0, .slice none 0 0]⟩), (9, ⟨32, r153.cs ++ r155.cs⟩)]) yq ?_
      exact rest127 _ _ (e146.trans (g150.ext.trans (e152.trans g158.ext))) ⟨r153, r155, rfl, (by rw [hcA]; exact RatN.more h154 xq), (by rw [hcA]; exact RatN.more h156 xq)⟩
     ·replace hb145 : ((s : Int) == 0) = false := hb145
      have qhb145 : ¬ ((s : Int) = 0) := by simpa using hb145
      have q9hb145 : ¬ s = 0 := by have h9 := hb145; simp at h9; omega
      refine sq9 (zza 86 (zI s) (zyn 87 (x := zI (IntKind.i64.wrap ((2 : Int) * (s : Int)))) (zI (2 * s : Nat)) (eqI xj) (zza 88 (zI q) (zza 89 (zB (((2 * s : Nat) : Int) == (q : Int))) (zza 85 (zB (((2 * s : Nat) : Int) == (q : Int))) (zzb (zzt (b := ((2 * s : Nat) : Int) == (q : Int)) xk (fun hb160 => ?_) (fun hb160 => ?_))))))))
      ·replace hb160 : (((2 * s : Nat) : Int) == (q : Int)) = true := hb160
       have q9hb160 : 2 * s = q := by have h9 := hb160; simp at h9; omega
       refine zzf (zzg 90 30 [.int .i64 0] ?_)
       intro w161 u161 e161 d161
       have k166 := k_rqOf d161 (z := 0) xq xq
       with_reducible refine zPm k166 ?_
       rintro _ u164 g165 ⟨r162, rfl, h163⟩
       refine zza 91 (zI k) (zzg 92 105 [r162.v, .int .i64 k] ?_)
       intro w167 u167 e167 d167
       have k174 := k_r10point (k := k) d167 (h163.ext e167) xq xq
       with_reducible refine zPm k174 ?_
       rintro _ u172 g173 ⟨r168, r170, rfl, h169, h171⟩
       refine zzi ⟨32, r168.cs ++ r170.cs⟩ ty32 ?_
       refine zzw ?_
       refine zzo ?_
       have hcA := Nt.cosA_h (r := s) (q := q) (b := k) q9hb145 q9hb160
       refine sw_weak (T := St.of 110 [(6, .adr 6 0), (8, zB ng), (9, .adr 9 0)] [(6, ⟨32, [.bool false, .slice none 0 0, .slice none 0 0, .bool false, .slice none 0 0, .slice none 0 0]⟩), (9, ⟨32, r168.cs ++ r170.cs⟩)]) yq ?_
       exact rest127 _ _ (e161.trans (g165.ext.trans (e167.trans g173.ext))) ⟨r168, r170, rfl, (by rw [hcA]; exact RatN.more h169 xq), (by rw [hcA]; exact RatN.more h171 xq)⟩
      ·replace hb160 : (((2 * s : Nat) : Int) == (q : Int)) = false := hb160
       have q9hb160 : ¬ 2 * s = q := by have h9 := hb160; simp at h9; omega
       refine sq9 (zza 94 (zI s) (zyn 95 (x := zI (IntKind.i64.wrap ((3 : Int) * (s : Int)))) (zI (3 * s : Nat)) (eqI xj) (zza 96 (zI q) (zza 97 (zB (((3 * s : Nat) : Int) == (q : Int))) (zza 93 (zB (((3 * s : Nat) : Int) == (q : Int))) (zzb (zzt (b := ((3 * s : Nat) : Int) == (q : Int)) xk (fun hb175 => ?_) (fun hb175 => ?_))))))))
       ·replace hb175 : (((3 * s : Nat) : Int) == (q : Int)) = true := hb175
        have q9hb175 : 3 * s = q := by have h9 := hb175; simp at h9; omega
        refine zzf (zzg 98 75 [.int .i64 1, .int .i64 2] ?_)
        intro w176 u176 e176 d176
        have k181 := k_rqFrac d176 (a := 1) (b := 2) xq xq xq xq
        with_reducible refine zPm k181 ?_
        rintro _ u179 g180 ⟨r177, rfl, h178⟩
        refine zza 99 (zI k) (zzg 100 105 [r177.v, .int .i64 k] ?_)
        intro w182 u182 e182 d182
        have k189 := k_r10point (k := k) d182 (h178.ext e182) xq xq
        with_reducible refine zPm k189 ?_
        rintro _ u187 g188 ⟨r183, r185, rfl, h184, h186⟩
        refine zzi ⟨32, r183.cs ++ r185.cs⟩ ty32 ?_
        refine zzw ?_
        refine zzo ?_
        have hcA := Nt.cosA_3 (r := s) (q := q) (b := k) q9hb145 q9hb160 q9hb175
        refine sw_weak (T := St.of 110 [(6, .adr 6 0), (8, zB ng), (9, .adr 9 0)] [(6, ⟨32, [.bool false, .slice none 0 0, .slice none 0 0, .bool false, .slice none 0 0, .slice none 0 0]⟩), (9, ⟨32, r183.cs ++ r185.cs⟩)]) yq ?_
        exact rest127 _ _ (e176.trans (g180.ext.trans (e182.trans g188.ext))) ⟨r183, r185, rfl, (by rw [hcA]; exact RatN.more h184 xq), (by rw [hcA]; exact RatN.more h186 xq)⟩
       ·replace hb175 : (((3 * s : Nat) : Int) == (q : Int)) = false := hb175
        have q9hb175 : ¬ 3 * s = q := by have h9 := hb175; simp at h9; omega
        refine sq9 (zza 10 (zB false) (zzb (sq9 (zza 55 (zI s) (zza 56 (zI q) (zzg 57 75 [.int .i64 s, .int .i64 q] ?_))))))
        intro w190 u190 e190 d190
        have k195 := k_rqFrac d190 (a := (s : Int)) (b := (q : Int)) xq xq xq xq
        with_reducible refine zPm k195 ?_
        rintro _ u193 g194 ⟨r191, rfl, h192⟩
        refine zza 58 (zI s) (zza 59 (zI q) (zzg 60 75 [.int .i64 s, .int .i64 q] ?_))
        intro w196 u196 e196 d196
        have k201 := k_rqFrac d196 (a := (s : Int)) (b := (q : Int)) xq xq xq xq
        with_reducible refine zPm k201 ?_
        rintro _ u199 g200 ⟨r197, rfl, h198⟩
        refine zzg 61 38 [r191.v, r197.v] ?_
        intro w202 u202 e202 d202
        have k209 := k_r4Make d202 (h192.ext (e196.trans (g200.ext.trans e202))).raw (h198.ext e202).raw xq
        with_reducible refine zPm k209 ?_
        rintro _ u207 g208 ⟨r203, r205, rfl, h204, h206⟩
        refine zzj 11 ⟨32, [.bool false, .slice none 0 0, .slice none 0 0, .bool false, .slice none 0 0, .slice none 0 0]⟩ (zzi ⟨32, r203.cs ++ r205.cs⟩ ty32 ?_)
        refine zzb (sq9 (zza 62 (zI k) (zyn 63 (x := zI (IntKind.i64.wrap ((k : Int) + 16))) (zI (k + 16 : Nat)) (eqI xj) (zza 12 (zI (k + 16 : Nat)) (zzb (zzs (zyl (I := fun m210 S' u' => ∃ (t : Nat) (wk : Nat) (ok : Bool) (x1 : RL) (x2 : RL), (m210 = t) ∧ (k + 16 ≤ wk) ∧ (wk ≤ 1400) ∧ (ok = true ∨ (t = 2001 - wk ∧ (wk ≤ 674 ∨ wk = k + 16))) ∧ (S' = St.of 110 [(2, zI k), (6, .adr 6 0), (8, zB ng), (9, .adr 9 0), (10, zB ok), (11, .adr 11 0), (12, zI wk)] [(6, ⟨32, [.bool false, .slice none 0 0, .slice none 0 0, .bool false, .slice none 0 0, .slice none 0 0]⟩), (9, ⟨32, x1.cs ++ x2.cs⟩), (11, ⟨32, r203.cs ++ r205.cs⟩)]) ∧ (Ext u207 u') ∧ (IfI u' ok x1 x2 (Nt.gr k (Nt.flo (Nt.coN s q) k)) (Nt.gr k (Nt.flo (Nt.coN s q) k + 1)))) (fun m S u1 u2 e h => by obtain ⟨t, wk, ok, x1, x2, hm, p0, p1, p2, hS, hE, f0⟩ := h; exact ⟨t, wk, ok, x1, x2, hm, p0, p1, p2, hS, hE.trans e, f0.ext e⟩) _ yq ⟨(2001 - (k + 16)), (k + 16), false, (⟨false, ⟨none, 0, 0⟩, ⟨none, 0, 0⟩⟩ : RL), (⟨false, ⟨none, 0, 0⟩, ⟨none, 0, 0⟩⟩ : RL), rfl, by omega, by omega, .inr ⟨rfl, .inr rfl⟩, rfl, (Ext.refl _), (fun h => absurd h xw)⟩ ?_)))))))
        rintro m210 _ u210 ⟨t, wk, ok, x1, x2, hm210, hw0, hw2, hw1, rfl, e210, f0⟩
        refine zzd (sq9 (zza 64 (zB ok) (zza 65 (zB (!ok)) (zzc 110 [(2, zI k), (6, .adr 6 0), (8, zB ng), (9, .adr 9 0), (11, .adr 11 0), (12, zI wk), (65, zB (!ok))] [(6, ⟨32, [.bool false, .slice none 0 0, .slice none 0 0, .bool false, .slice none 0 0, .slice none 0 0]⟩), (9, ⟨32, x1.cs ++ x2.cs⟩), (11, ⟨32, r203.cs ++ r205.cs⟩)] (zzt (b := !ok) xk (fun hb211 => ?_) (fun hb211 => ?_))))))
        ·replace hb211 : (!ok) = true := hb211
         have hok := Nt.not_t hb211
         have hw9 : t = 2001 - wk ∧ (wk ≤ 674 ∨ wk = k + 16) := hw1.resolve_left (by rw [hok]; decide)
         have hg := hG s xq xq xq
         refine zzr (zzo ?_)
         refine zzd (zzs (zzy [0, 1, 0, 7, 0, 31, 0, 127, 255, 511, 511, 1023, 4095] [(0, []), (2, []), (4, []), (6, []), (1, []), (3, []), (5, []), (7, []), (8, []), (9, []), (10, []), (11, []), (12, [])] xk xk (zza 69 (zI wk) (zzh 71 (.v (.agg #[.bool r203.s, r203.m.v, r203.d.v, .bool r205.s, r205.m.v, r205.d.v])) ty32 zze (zza 73 (zI wk) (zza 75 (zI k) (zzg 70 104 [.int .i64 wk] ?_)))))))
         intro w212 u212 e212 d212
         have k216 := k_r10pi d212 (k := wk) xq xq
         with_reducible refine zPm k216 ?_
         rintro _ u214 g215 ⟨si213, sj213, sa213, sb213, rfl, ha213, hb213, hR213⟩
         refine zzg 72 68 [.agg #[.bool si213.s, si213.m.v, si213.d.v, .bool sj213.s, sj213.m.v, sj213.d.v], .agg #[.bool r203.s, r203.m.v, r203.d.v, .bool r205.s, r205.m.v, r205.d.v]] ?_
         intro w217 u217 e217 d217
         have k224 := k_r4Mul d217 (ha213.ext e217).raw (hb213.ext e217).raw (h204.ext (e210.trans (e212.trans (g215.ext.trans e217)))).raw (h206.ext (e210.trans (e212.trans (g215.ext.trans e217)))).raw xq xq
         with_reducible refine zPm k224 ?_
         rintro _ u222 g223 ⟨r218, r220, rfl, h219, h221⟩
         refine zzg 74 106 [.agg #[.bool r218.s, r218.m.v, r218.d.v, .bool r220.s, r220.m.v, r220.d.v], .int .i64 wk] ?_
         intro w225 u225 e225 d225
         have k229 := k_r10cos (p := s) (q := q) (k := wk) (a := sa213) (b := sb213) (K := 1000) d225 hR213 hq0 xq xq xq xq (by have h9 := (h219.ext e225); rw [(Nt.cs_x (hR213.bd xq).2.2.1 (Nt.fr_nn hq0)).1] at h9; exact RatN.more (L := 1000) h9 xq) (by have h9 := (h221.ext e225); rw [(Nt.cs_x (hR213.bd xq).2.2.1 (Nt.fr_nn hq0)).2] at h9; exact RatN.more (L := 1000) h9 xq) xq
         with_reducible refine zPm k229 ?_
         rintro _ u227 g228 ⟨si226, sj226, sa226, sb226, rfl, ha226, hb226, hC226⟩
         refine zzg 76 103 [.agg #[.bool si226.s, si226.m.v, si226.d.v, .bool sj226.s, sj226.m.v, sj226.d.v], .int .i64 k] ?_
         intro w230 u230 e230 d230
         have k234 := k_r10tight (k := k) (m := wk) (a := sa226) (b := sb226) d230 (ha226.ext e230) (hb226.ext e230) xq xq xq
         with_reducible refine zPm k234 ?_
         rintro _ u232 g233 ⟨tp231, tq231, rfl, hT231⟩
         refine zza 68 (.v (.tuple #[.agg #[.bool tp231.s, tp231.m.v, tp231.d.v, .bool tq231.s, tq231.m.v, tq231.d.v], .bool (!(Nt.cmpS (sa226 / Nt.u2 (wk - k)) (sb226 / Nt.u2 (wk - k)) != 0))])) (zza 77 (.v (.agg #[.bool tp231.s, tp231.m.v, tp231.d.v, .bool tq231.s, tq231.m.v, tq231.d.v])) (zza 78 (zB (!(Nt.cmpS (sa226 / Nt.u2 (wk - k)) (sb226 / Nt.u2 (wk - k)) != 0))) (zzi ⟨32, tp231.cs ++ tq231.cs⟩ ty32 ?_)))
         refine zza 10 (zB (!(Nt.cmpS (sa226 / Nt.u2 (wk - k)) (sb226 / Nt.u2 (wk - k)) != 0))) (zzw ?_)
         refine zzo (zzf (zza 66 (zI wk) (zyn 67 (x := zI (IntKind.i64.wrap ((wk : Int) * 2))) (zI (wk * 2 : Nat)) (eqI xj) (zza 12 (zI (wk * 2 : Nat)) (zzw ?_)))))
         obtain ⟨t1, ht1, hlt⟩ : ∃ t1 : Nat, ((!(Nt.cmpS (sa226 / Nt.u2 (wk - k)) (sb226 / Nt.u2 (wk - k)) != 0)) = true ∨ (t1 = 2001 - wk * 2 ∧ (wk * 2 ≤ 674 ∨ wk * 2 = k + 16))) ∧ t1 < t := by (cases hcc : (Nt.cmpS (sa226 / Nt.u2 (wk - k)) (sb226 / Nt.u2 (wk - k)) != 0) with | false => exact ⟨0, .inl rfl, by omega⟩ | true => (have hny := Nt.not_yet hg hC226.1 (Nt.csR_bd hC226 hq0 xq xq).2.2.2.2.2 hcc; exact ⟨2001 - wk * 2, .inr ⟨rfl, .inl xq⟩, by omega⟩))
         refine ⟨_, ?_, _, by exact zzu _ _ _, t1, wk * 2, (!(Nt.cmpS (sa226 / Nt.u2 (wk - k)) (sb226 / Nt.u2 (wk - k)) != 0)), tp231, tq231, rfl, by omega, by omega, ht1, rfl, (e210.trans (e212.trans (g215.ext.trans (e217.trans (g223.ext.trans (e225.trans (g228.ext.trans (e230.trans g233.ext)))))))), (fun h => by have h8 := Nt.not_t h; have h9 := hT231 h8; rw [Nt.flo_of hC226.1 xq h8] at h9; exact ⟨h9.1, h9.2⟩)⟩
         omega
        ·replace hb211 : (!ok) = false := hb211
         refine zyb (zzo ?_)
         have hcA := Nt.cosA_g (r := s) (q := q) (b := k) q9hb145 q9hb160 q9hb175
         refine sw_weak (T := St.of 110 [(6, .adr 6 0), (8, zB ng), (9, .adr 9 0)] [(6, ⟨32, [.bool false, .slice none 0 0, .slice none 0 0, .bool false, .slice none 0 0, .slice none 0 0]⟩), (9, ⟨32, x1.cs ++ x2.cs⟩)]) yq ?_
         exact rest127 _ _ (e190.trans (g194.ext.trans (e196.trans (g200.ext.trans (e202.trans (g208.ext.trans e210)))))) ⟨x1, x2, rfl, (by rw [hcA]; exact RatN.more (f0 (Nt.not_f hb211)).1 xq), (by rw [hcA]; exact RatN.more (f0 (Nt.not_f hb211)).2 xq)⟩
   ·skip
    refine sq9 (zza 50 (zB (decide ((q : Int) < ((2 * r : Nat) : Int)))) (zzb (zzt (b := decide ((q : Int) < ((2 * r : Nat) : Int))) xk (fun hb235 => ?_) (fun hb235 => ?_))))
    ·replace hb235 : (decide ((q : Int) < ((2 * r : Nat) : Int))) = true := hb235
     have qhb235 := of_decide_eq_true hb235
     refine zzf (zza 51 (zI q) (zza 52 (zI r) (zyn 53 (x := zI (IntKind.i64.wrap ((q : Int) - (r : Int)))) (zI (q - r : Nat)) (eqI xj) (zza 0 (zI (q - r : Nat)) (zzc 110 [(0, zI (q - r : Nat)), (1, zI q), (2, zI k), (6, .adr 6 0), (8, zB (decide ((q : Int) < ((2 * r : Nat) : Int))))] [(6, ⟨32, [.bool false, .slice none 0 0, .slice none 0 0, .bool false, .slice none 0 0, .slice none 0 0]⟩)] ?_)))))
     exact rest126 _ _ (Ext.refl _) ⟨q - r, (decide ((q : Int) < ((2 * r : Nat) : Int))), (.inl ⟨hb235, by have h9 := of_decide_eq_true hb235; omega, rfl⟩), (by have h9 := of_decide_eq_true hb235; omega), rfl⟩
    ·replace hb235 : (decide ((q : Int) < ((2 * r : Nat) : Int))) = false := hb235
     have qhb235 := of_decide_eq_false hb235
     refine zzr (zzo ?_)
     refine sw_weak (T := St.of 110 [(0, zI r), (1, zI q), (2, zI k), (6, .adr 6 0), (8, zB (decide ((q : Int) < ((2 * r : Nat) : Int))))] [(6, ⟨32, [.bool false, .slice none 0 0, .slice none 0 0, .bool false, .slice none 0 0, .slice none 0 0]⟩)]) yq ?_
     exact rest126 _ _ (Ext.refl _) ⟨r, (decide ((q : Int) < ((2 * r : Nat) : Int))), (.inr ⟨hb235, by have h9 := of_decide_eq_false hb235; omega, rfl⟩), (by have h9 := of_decide_eq_false hb235; omega), rfl⟩
  ·skip
   refine sq9 (zza 39 (zI (Int.tmod p (2 * (q : Int)))) (zza 40 (zI q) (zza 41 (zB (decide ((q : Int) < (Int.tmod p (2 * (q : Int)))))) (zzb (zzt (b := decide ((q : Int) < (Int.tmod p (2 * (q : Int))))) xk (fun hb236 => ?_) (fun hb236 => ?_))))))
   ·replace hb236 : (decide ((q : Int) < (Int.tmod p (2 * (q : Int))))) = true := hb236
    have qhb236 := of_decide_eq_true hb236
    refine zzf (zza 42 (zI q) (zyn 43 (x := zI (IntKind.i64.wrap ((2 : Int) * (q : Int)))) (zI (2 * q : Nat)) (eqI xj) (zza 44 (zI (Int.tmod p (2 * (q : Int)))) (zyn 45 (x := zI (IntKind.i64.wrap (((2 * q : Nat) : Int) - (Int.tmod p (2 * (q : Int)))))) (zI (((2 * q : Nat) : Int) - (Int.tmod p (2 * (q : Int))))) yv (zza 0 (zI (((2 * q : Nat) : Int) - (Int.tmod p (2 * (q : Int))))) ?_)))))
    have hfold : (((2 * q : Nat) : Int) - (Int.tmod p (2 * (q : Int)))) = ((Nt.fold p q : Nat) : Int) := by unfold Nt.fold; dsimp only; split <;> omega
    rw [hfold]
    refine zzc 110 [(0, zI (((Nt.fold p q) : Nat) : Int)), (1, zI q), (2, zI k), (6, .adr 6 0)] [(6, ⟨32, [.bool false, .slice none 0 0, .slice none 0 0, .bool false, .slice none 0 0, .slice none 0 0]⟩)] ?_
    exact rest125 _ _ (Ext.refl _) ⟨(Nt.fold p q), rfl, (Nt.fold_le p q hq0), rfl⟩
   ·replace hb236 : (decide ((q : Int) < (Int.tmod p (2 * (q : Int))))) = false := hb236
    have qhb236 := of_decide_eq_false hb236
    refine zzr (zzo ?_)
    have hfold : (Int.tmod p (2 * (q : Int))) = ((Nt.fold p q : Nat) : Int) := by unfold Nt.fold; dsimp only; split <;> omega
    rw [hfold]
    refine sw_weak (T := St.of 110 [(0, zI (((Nt.fold p q) : Nat) : Int)), (1, zI q), (2, zI k), (6, .adr 6 0)] [(6, ⟨32, [.bool false, .slice none 0 0, .slice none 0 0, .bool false, .slice none 0 0, .slice none 0 0]⟩)]) yq ?_
    exact rest125 _ _ (Ext.refl _) ⟨(Nt.fold p q), rfl, (Nt.fold_le p q hq0), rfl⟩
theorem k_r10half2 {u w : World} {t : Int} {q k : Nat} (d : Dat u w) (hq1 : 1 ≤ q) (hq2 : q ≤ 1000) (ht0 : -2000 ≤ t) (ht1 : t ≤ 2000) (hk : k ≤ 256) (hG0 : Nt.GapQ (2 * q) k) : Calls Tryz.prog 107 #[.int .i64 ((q : Int) - 2 * t), .int .i64 ((2 * q : Nat) : Int), .int .i64 (k : Int)] w (Post u w fun v u' => ∃ r1 r2 : RL, v = .tuple #[IV r1 r2, .int .i64 0] ∧ RatN u' r1 ((Nt.cosV ((q : Int) - 2 * t) (2 * q) k).1) 200 ∧ RatN u' r2 ((Nt.cosV ((q : Int) - 2 * t) (2 * q) k).2) 200) := by
 by_cases h : q % 2 = 0
 ·obtain ⟨q1, rfl⟩ : ∃ q1, q = 2 * q1 := ⟨q / 2, by omega⟩
  have h9 := k_r10halfE (pp := (q1 : Int) - t) (q0 := 2 * q1) (k := k) d xq xq xq xq hk (Nt.GapQ.half xq hG0)
  rw [show 2 * ((q1 : Int) - t) = ((2 * q1 : Nat) : Int) - 2 * t by omega, ← Nt.cosV_two (p := (q1 : Int) - t) (q := 2 * q1) (b := k) xq, show 2 * ((q1 : Int) - t) = ((2 * q1 : Nat) : Int) - 2 * t by omega] at h9
  exact h9
 ·exact k_r10halfO (p := (q : Int) - 2 * t) (q := 2 * q) d xq xq xq xq (fun h8 => by have h9 := Int.dvd_of_tmod_eq_zero h8; omega) hk hG0
set_option maxHeartbeats 2000000 in
theorem k_r10SinPiG {u w : World} {p : Int} {q k : Nat} (d : Dat u w) (hq1 : 1 ≤ q) (hq2 : q ≤ 1000) (hp0 : -1000000 ≤ p) (hp1 : p ≤ 1000000) (hk : k ≤ 256) (hG0 : Nt.GapQ (2 * q) k) : Calls Tryz.prog 37 #[.int .i64 p, .int .i64 (q : Int), .int .i64 (k : Int)] w (Post u w fun v u' => ∃ r1 r2 : RL, v = .tuple #[IV r1 r2, .int .i64 0] ∧ RatN u' r1 ((Nt.cosV ((q : Int) - 2 * p) (2 * q) k).1) 200 ∧ RatN u' r2 ((Nt.cosV ((q : Int) - 2 * p) (2 * q) k).2) 200) := by
 have hq0 : 0 < q := by omega
 have htm := Nt.tmod_bd p hq0
 have hct : Nt.cosV ((q : Int) - 2 * Int.tmod p (2 * (q : Int))) (2 * q) k = Nt.cosV ((q : Int) - 2 * p) (2 * q) k := by
  have e := Int.tmod_add_mul_tdiv p (2 * (q : Int))
  have e2 : 2 * ((2 * q : Nat) : Int) * Int.tdiv p (2 * (q : Int)) = 2 * (2 * (q : Int) * Int.tdiv p (2 * (q : Int))) := by rw [Int.mul_assoc, Int.natCast_mul]; rfl
  rw [show (q : Int) - 2 * Int.tmod p (2 * (q : Int)) = ((q : Int) - 2 * p) + 2 * ((2 * q : Nat) : Int) * Int.tdiv p (2 * (q : Int)) by omega]
  exact Nt.cosV_turn xq
 refine zzl (args := [.int .i64 p, .int .i64 q, .int .i64 k]) Tryz.func37 rfl Tryz.ntmps37 (rs := [.cell 6 32, .tmp 7]) Tryz.results37 (le_b rfl) (le_b rfl) d ?_
 refine sq9 (zzj 6 ⟨32, [.bool false, .slice none 0 0, .slice none 0 0, .bool false, .slice none 0 0, .slice none 0 0]⟩ (zza 7 (zI 0) (zzb (zzd (sq9 (zza 10 (zI k) (zzg 11 85 [.int .i64 k] ?_)))))))
 intro w11 u11 e11 d11
 have k14 := k_r10bad (n := (k : Int)) d11
 with_reducible refine zPm k14 ?_
 rintro _ u12 g13 rfl
 refine zyn 12 (x := zB (decide ((k : Int) < 0 ∨ 256 < (k : Int)))) (zB false) (by rw [show (decide ((k : Int) < 0 ∨ 256 < (k : Int))) = false from decide_eq_false xq]) (zza 13 (zI q) ?_ (hw := w1 2 false 12))
 refine zza 14 (zB (decide ((q : Int) < 1))) ?_ (hw := w1 2 false 12)
 refine zza 15 (zB (decide ((q : Int) < 1))) (zyn 16 (x := zB (decide ((q : Int) < 1))) (zB false) (by rw [show (decide ((q : Int) < 1)) = false from decide_eq_false xq]) (zza 17 (zI q) ?_ (hw := w1 6 false 16)))
 refine zza 18 (zB (decide ((1000 : Int) < (q : Int)))) ?_ (hw := w1 6 false 16)
 refine zza 19 (zB (decide ((1000 : Int) < (q : Int)))) (zyn 20 (x := zB (decide ((1000 : Int) < (q : Int)))) (zB false) (by rw [show (decide ((1000 : Int) < (q : Int))) = false from decide_eq_false xq]) (zza 21 (zI p) ?_ (hw := w1 10 false 20)))
 refine zza 22 (zB (decide (p < (-1000000)))) ?_ (hw := w1 10 false 20)
 refine zza 23 (zB (decide (p < (-1000000)))) (zyn 24 (x := zB (decide (p < (-1000000)))) (zB false) (by rw [show (decide (p < (-1000000))) = false from decide_eq_false xq]) (zza 25 (zI p) ?_ (hw := w1 14 false 24)))
 refine zza 26 (zB (decide ((1000000 : Int) < p))) ?_ (hw := w1 14 false 24)
 refine zza 27 (zB (decide ((1000000 : Int) < p))) (zzb (zzt (b := decide ((1000000 : Int) < p)) xk (fun hb => ?_) (fun hb => ?_)))
 ·exact absurd hb (by rw [show (decide ((1000000 : Int) < p)) = false from decide_eq_false xq]; decide)
 ·clear hb
  refine zzr (zzo ?_)
  refine sq9 (zza 29 (zI p) (zza 30 (zI q) (zyn 31 (x := zI (IntKind.i64.wrap ((2 : Int) * (q : Int)))) (zI (2 * q : Nat)) (eqI xj) (sy_rem 32 (m := ((2 * q : Nat) : Int)) (Int.tmod p (2 * (q : Int))) xq (by rw [Int.natCast_mul]; rfl) ?_))))
  refine zza 0 (zI (Int.tmod p (2 * (q : Int)))) (zzb (sq9 (zza 34 (zI q) (zza 35 (zI (Int.tmod p (2 * (q : Int)))) (zyn 36 (x := zI (IntKind.i64.wrap ((2 : Int) * (Int.tmod p (2 * (q : Int)))))) (zI ((2 : Int) * (Int.tmod p (2 * (q : Int))))) yv (zyn 37 (x := zI (IntKind.i64.wrap ((q : Int) - ((2 : Int) * (Int.tmod p (2 * (q : Int))))))) (zI ((q : Int) - ((2 : Int) * (Int.tmod p (2 * (q : Int)))))) yv (zza 38 (zI q) (zyn 39 (x := zI (IntKind.i64.wrap ((2 : Int) * (q : Int)))) (zI (2 * q : Nat)) (eqI xj) (zza 40 (zI k) (zzg 41 107 [.int .i64 ((q : Int) - ((2 : Int) * (Int.tmod p (2 * (q : Int))))), .int .i64 (2 * q : Nat), .int .i64 k] ?_))))))))))
  intro w19 u19 e19 d19
  have k26 := k_r10half2 (t := Int.tmod p (2 * (q : Int))) (q := q) (k := k) d19 hq1 hq2 xq xq hk hG0
  with_reducible refine zPm k26 ?_
  rintro _ u24 g25 ⟨r20, r22, rfl, h21, h23⟩
  refine zza 33 (.v (.tuple #[.agg #[.bool r20.s, r20.m.v, r20.d.v, .bool r22.s, r22.m.v, r22.d.v], .int .i64 0])) (zza 42 (.v (.agg #[.bool r20.s, r20.m.v, r20.d.v, .bool r22.s, r22.m.v, r22.d.v])) (zza 43 (zI 0) (zzj 8 ⟨32, [.bool false, .slice none 0 0, .slice none 0 0, .bool false, .slice none 0 0, .slice none 0 0]⟩ (zzi ⟨32, r20.cs ++ r22.cs⟩ ty32 ?_))))
  refine zza 9 (zI 0) (zzc 46 [(6, .adr 6 0), (8, .adr 8 0), (9, zI 0)] [(6, ⟨32, [.bool false, .slice none 0 0, .slice none 0 0, .bool false, .slice none 0 0, .slice none 0 0]⟩), (8, ⟨32, r20.cs ++ r22.cs⟩)] (sq9 (zzh 44 (.v (.agg #[.bool r20.s, r20.m.v, r20.d.v, .bool r22.s, r22.m.v, r22.d.v])) ty32 zze (zza 45 (zI 0) (zzi ⟨32, r20.cs ++ r22.cs⟩ ty32 ?_)))))
  refine zza 7 (zI 0) (zzb (zzn (ret0 [.agg #[.bool r20.s, .slice r20.m.a r20.m.n r20.m.c, .slice r20.d.a r20.d.n r20.d.c, .bool r22.s, .slice r22.m.a r22.m.n r22.m.c, .slice r22.d.a r22.d.n r22.d.c], .int .i64 0] ⟨zzq ty32 zze, zzp, trivial⟩ fun u27 e28 => ?_)))
  rw [← hct]
  exact ⟨r20, r22, rfl, RatN.more (h21.ext e28) xq, RatN.more (h23.ext e28) xq⟩
def Nt.trigE (p q : Int) : Int := if 1 ≤ q ∧ q ≤ 1000 ∧ -1000000 ≤ p ∧ p ≤ 1000000 then 0 else 1
def Nt.piE (n : Int) : Int := if 0 ≤ n ∧ n ≤ 256 then 0 else 1
theorem Nt.trigE_in {p q : Int} (h : 1 ≤ q ∧ q ≤ 1000 ∧ -1000000 ≤ p ∧ p ≤ 1000000) : Nt.trigE p q = 0 := if_pos h
theorem Nt.trigE_out {p q : Int} (h : ¬ (1 ≤ q ∧ q ≤ 1000 ∧ -1000000 ≤ p ∧ p ≤ 1000000)) : Nt.trigE p q = 1 := if_neg h
theorem Nt.piE_in {n : Int} (h : 0 ≤ n ∧ n ≤ 256) : Nt.piE n = 0 := if_pos h
theorem Nt.piE_out {n : Int} (h : ¬ (0 ≤ n ∧ n ≤ 256)) : Nt.piE n = 1 := if_neg h
theorem k_CosPiE {u w : World} {p q : Int} (d : Dat u w) : Calls Tryz.prog 31 #[.int .i64 p, .int .i64 q, .int .i64 4] w (Post u w fun v u' => ∃ r1 r2 : RL, v = .tuple #[IV r1 r2, .int .i64 (Nt.trigE p q)]) := by
 by_cases h : 1 ≤ q ∧ q ≤ 1000 ∧ -1000000 ≤ p ∧ p ≤ 1000000
 ·rw [Nt.trigE_in h]
  obtain ⟨q, rfl⟩ : ∃ n : Nat, q = (n : Int) := ⟨q.toNat, by omega⟩
  refine Post.mono (k_CosPiG (p := p) (q := q) (k := 4) d xq xq xq xq xw (Nt.gapQ_4 xq)) ?_
  rintro _ u' _ ⟨r1, r2, rfl, _⟩
  exact ⟨r1, r2, rfl⟩
 ·rw [Nt.trigE_out h]
  refine Post.mono (k_CosPiB (p := p) (q := q) (n := 4) d xq) ?_
  rintro _ u' _ rfl
  exact ⟨rl0, rl0, rfl⟩
theorem k_SinPiE {u w : World} {p q : Int} (d : Dat u w) : Calls Tryz.prog 36 #[.int .i64 p, .int .i64 q, .int .i64 4] w (Post u w fun v u' => ∃ r1 r2 : RL, v = .tuple #[IV r1 r2, .int .i64 (Nt.trigE p q)]) := by
 by_cases h : 1 ≤ q ∧ q ≤ 1000 ∧ -1000000 ≤ p ∧ p ≤ 1000000
 ·rw [Nt.trigE_in h]
  obtain ⟨q, rfl⟩ : ∃ n : Nat, q = (n : Int) := ⟨q.toNat, by omega⟩
  refine Post.mono (k_SinPiG (p := p) (q := q) (k := 4) d xq xq xq xq xw (Nt.gapQ_4 xq)) ?_
  rintro _ u' _ ⟨r1, r2, rfl, _⟩
  exact ⟨r1, r2, rfl⟩
 ·rw [Nt.trigE_out h]
  refine Post.mono (k_SinPiB (p := p) (q := q) (n := 4) d xq) ?_
  rintro _ u' _ rfl
  exact ⟨rl0, rl0, rfl⟩
theorem k_PiE {u w : World} {n : Int} (d : Dat u w) : Calls Tryz.prog 32 #[.int .i64 n] w (Post u w fun v u' => ∃ r1 r2 : RL, v = .tuple #[IV r1 r2, .int .i64 (Nt.piE n)]) := by
 by_cases h : 0 ≤ n ∧ n ≤ 256
 ·rw [Nt.piE_in h]
  obtain ⟨n, rfl⟩ : ∃ m : Nat, n = (m : Int) := ⟨n.toNat, by omega⟩
  refine Post.mono (k_PiG (k := n) d xq) ?_
  rintro _ u' _ ⟨r1, r2, rfl, _⟩
  exact ⟨r1, r2, rfl⟩
 ·rw [Nt.piE_out h]
  refine Post.mono (k_PiB (n := n) d h) ?_
  rintro _ u' _ rfl
  exact ⟨rl0, rl0, rfl⟩
set_option maxHeartbeats 4000000 in
theorem w_cosines {u w : World} {p q b : Int} (d : Dat u w) (hp0 : -9223372036854775808 ≤ p) (hp1 : p ≤ 9223372036854775807) (hq0 : -9223372036854775808 ≤ q) (hq1 : q ≤ 9223372036854775807) (hb0 : -9223372036854775808 ≤ b) (hb1 : b ≤ 9223372036854775807) : Calls Tryz.prog 6 #[.int .i64 p, .int .i64 q, .int .i64 b] w (Post u w fun v _ => v = .bool true) := by
 refine zzl (args := [.int .i64 p, .int .i64 q, .int .i64 b]) Tryz.func6 rfl Tryz.ntmps6 (rs := [.tmp 6]) Tryz.results6 (le_b rfl) (le_b rfl) d ?_
 refine sq9 (zza 6 (zB false) (zzb (sq9 (zza 23 (zI b) (zzg 24 17 [.int .i64 b, .int .i64 60] ?_)))))
 intro w11 u11 e11 d11
 have k14 := k_Mod d11 (n := b) (m := 60) xq xq xq xq
 with_reducible refine zPm k14 ?_
 rintro _ u12 g13 rfl
 refine zza 7 (zI (b % 60)) (zzb (zzd ?_))
 obtain ⟨k, hnk⟩ : ∃ n : Nat, b % 60 = (n : Int) := ⟨(b % 60).toNat, by omega⟩
 rw [hnk]
 have hbk : k ≤ 59 := by omega
 refine zzf (zza 26 (zI k) (zzg 27 32 [.int .i64 k] ?_))
 intro w15 u15 e15 d15
 have k22 := k_PiG (k := k) d15 xq
 with_reducible refine zPm k22 ?_
 rintro _ u20 g21 ⟨r16, r18, rfl, h17, h19⟩
 refine zza 25 (.v (.tuple #[.agg #[.bool r16.s, r16.m.v, r16.d.v, .bool r18.s, r18.m.v, r18.d.v], .int .i64 0])) (zza 28 (.v (.agg #[.bool r16.s, r16.m.v, r16.d.v, .bool r18.s, r18.m.v, r18.d.v])) (zza 29 (zI 0) (zzj 8 ⟨32, [.bool false, .slice none 0 0, .slice none 0 0, .bool false, .slice none 0 0, .slice none 0 0]⟩ (zzi ⟨32, r16.cs ++ r18.cs⟩ ty32 ?_))))
 refine zza 9 (zI 0) (zzb (sq9 (zza 31 (zI k) (zzg 32 34 [.int .i64 k] ?_))))
 intro w23 u23 e23 d23
 have k30 := k_r10PiG (k := k) d23 xq
 with_reducible refine zPm k30 ?_
 rintro _ u28 g29 ⟨r24, r26, rfl, h25, h27⟩
 refine zza 30 (.v (.tuple #[.agg #[.bool r24.s, r24.m.v, r24.d.v, .bool r26.s, r26.m.v, r26.d.v], .int .i64 0])) (zza 33 (.v (.agg #[.bool r24.s, r24.m.v, r24.d.v, .bool r26.s, r26.m.v, r26.d.v])) (zza 34 (zI 0) (zzj 10 ⟨32, [.bool false, .slice none 0 0, .slice none 0 0, .bool false, .slice none 0 0, .slice none 0 0]⟩ (zzi ⟨32, r24.cs ++ r26.cs⟩ ty32 ?_))))
 refine zza 11 (zI 0) (zzb (sq9 (zza 35 (zI p) (zzg 36 17 [.int .i64 p, .int .i64 200] ?_))))
 intro w31 u31 e31 d31
 have k34 := k_Mod d31 (n := p) (m := 200) xq xq xq xq
 with_reducible refine zPm k34 ?_
 rintro _ u32 g33 rfl
 refine zyn 37 (x := zI (IntKind.i64.wrap ((p % 200) - 100))) (zI ((p % 200) - 100)) yv (zza 38 (zI q) (zzg 39 17 [.int .i64 q, .int .i64 40] ?_))
 intro w35 u35 e35 d35
 have k38 := k_Mod d35 (n := q) (m := 40) xq xq xq xq
 with_reducible refine zPm k38 ?_
 rintro _ u36 g37 rfl
 refine zyn 40 (x := zI (IntKind.i64.wrap ((1 : Int) + (q % 40)))) (zI ((1 : Int) + (q % 40))) yv (zza 12 (zI ((p % 200) - 100)) (zza 13 (zI ((1 : Int) + (q % 40))) (zzb (zzd ?_))))
 obtain ⟨D, hnD⟩ : ∃ n : Nat, (1 : Int) + (q % 40) = (n : Int) := ⟨((1 : Int) + (q % 40)).toNat, by omega⟩
 rw [hnD]
 have hbD : 1 ≤ D ∧ D ≤ 40 := by omega
 refine zzf (zza 42 (zI ((p % 200) - 100)) (zza 43 (zI D) (zza 44 (zI k) (zzg 45 31 [.int .i64 ((p % 200) - 100), .int .i64 D, .int .i64 k] ?_))))
 intro w39 u39 e39 d39
 have k46 := k_CosPiG (p := (p % 200) - 100) (q := D) (k := k) d39 xq xq xq xq xq (Nt.gapQ_80 xq xq xq)
 with_reducible refine zPm k46 ?_
 rintro _ u44 g45 ⟨r40, r42, rfl, h41, h43⟩
 refine zza 41 (.v (.tuple #[.agg #[.bool r40.s, r40.m.v, r40.d.v, .bool r42.s, r42.m.v, r42.d.v], .int .i64 0])) (zza 46 (.v (.agg #[.bool r40.s, r40.m.v, r40.d.v, .bool r42.s, r42.m.v, r42.d.v])) (zza 47 (zI 0) (zzj 14 ⟨32, [.bool false, .slice none 0 0, .slice none 0 0, .bool false, .slice none 0 0, .slice none 0 0]⟩ (zzi ⟨32, r40.cs ++ r42.cs⟩ ty32 ?_))))
 refine zza 15 (zI 0) (zzc 155 [(0, zI p), (1, zI q), (2, zI b), (7, zI k), (8, .adr 8 0), (9, zI 0), (10, .adr 10 0), (11, zI 0), (12, zI ((p % 200) - 100)), (13, zI D), (14, .adr 14 0), (15, zI 0)] [(8, ⟨32, r16.cs ++ r18.cs⟩), (10, ⟨32, r24.cs ++ r26.cs⟩), (14, ⟨32, r40.cs ++ r42.cs⟩)] (sq9 (zza 49 (zI ((p % 200) - 100)) (zza 50 (zI D) (zza 51 (zI k) (zzg 52 35 [.int .i64 ((p % 200) - 100), .int .i64 D, .int .i64 k] ?_))))))
 intro w47 u47 e47 d47
 have k54 := k_r10CosPiG (p := (p % 200) - 100) (q := D) (k := k) d47 xq xq xq xq xq (Nt.gapQ_80 xq xq xq)
 with_reducible refine zPm k54 ?_
 rintro _ u52 g53 ⟨r48, r50, rfl, h49, h51⟩
 refine zza 48 (.v (.tuple #[.agg #[.bool r48.s, r48.m.v, r48.d.v, .bool r50.s, r50.m.v, r50.d.v], .int .i64 0])) (zza 53 (.v (.agg #[.bool r48.s, r48.m.v, r48.d.v, .bool r50.s, r50.m.v, r50.d.v])) (zza 54 (zI 0) (zzj 16 ⟨32, [.bool false, .slice none 0 0, .slice none 0 0, .bool false, .slice none 0 0, .slice none 0 0]⟩ (zzi ⟨32, r48.cs ++ r50.cs⟩ ty32 ?_))))
 refine zza 17 (zI 0) (zzb (sq9 (zza 56 (zI ((p % 200) - 100)) (zza 57 (zI D) (zza 58 (zI k) (zzg 59 36 [.int .i64 ((p % 200) - 100), .int .i64 D, .int .i64 k] ?_))))))
 intro w55 u55 e55 d55
 have k62 := k_SinPiG (p := (p % 200) - 100) (q := D) (k := k) d55 xq xq xq xq xq (Nt.gapQ_80 xq xq xq)
 with_reducible refine zPm k62 ?_
 rintro _ u60 g61 ⟨r56, r58, rfl, h57, h59⟩
 refine zza 55 (.v (.tuple #[.agg #[.bool r56.s, r56.m.v, r56.d.v, .bool r58.s, r58.m.v, r58.d.v], .int .i64 0])) (zza 60 (.v (.agg #[.bool r56.s, r56.m.v, r56.d.v, .bool r58.s, r58.m.v, r58.d.v])) (zza 61 (zI 0) (zzj 18 ⟨32, [.bool false, .slice none 0 0, .slice none 0 0, .bool false, .slice none 0 0, .slice none 0 0]⟩ (zzi ⟨32, r56.cs ++ r58.cs⟩ ty32 ?_))))
 refine zza 19 (zI 0) (zzb (sq9 (zza 63 (zI ((p % 200) - 100)) (zza 64 (zI D) (zza 65 (zI k) (zzg 66 37 [.int .i64 ((p % 200) - 100), .int .i64 D, .int .i64 k] ?_))))))
 intro w63 u63 e63 d63
 have k70 := k_r10SinPiG (p := (p % 200) - 100) (q := D) (k := k) d63 xq xq xq xq xq (Nt.gapQ_80 xq xq xq)
 with_reducible refine zPm k70 ?_
 rintro _ u68 g69 ⟨r64, r66, rfl, h65, h67⟩
 refine zza 62 (.v (.tuple #[.agg #[.bool r64.s, r64.m.v, r64.d.v, .bool r66.s, r66.m.v, r66.d.v], .int .i64 0])) (zza 67 (.v (.agg #[.bool r64.s, r64.m.v, r64.d.v, .bool r66.s, r66.m.v, r66.d.v])) (zza 68 (zI 0) (zzj 20 ⟨32, [.bool false, .slice none 0 0, .slice none 0 0, .bool false, .slice none 0 0, .slice none 0 0]⟩ (zzi ⟨32, r64.cs ++ r66.cs⟩ ty32 ?_))))
 refine zza 21 (zI 0) (zzb (zzd (sq9 (zza 69 (zI 0) (zza 70 (zI 0) (zza 71 (zB false) (zza 72 (zB false) (zza 73 (zI 0) ?_ (hw := w1 3 false 72)))))))))
 refine zza 74 (zI 0) ?_ (hw := w1 3 false 72)
 refine zza 75 (zB false) ?_ (hw := w1 3 false 72)
 refine zza 76 (zB false) (zza 77 (zB false) (zza 78 (zI 0) ?_ (hw := w1 8 false 77)))
 refine zza 79 (zI 0) ?_ (hw := w1 8 false 77)
 refine zza 80 (zB false) ?_ (hw := w1 8 false 77)
 refine zza 81 (zB false) (zza 82 (zB false) (zzh 83 (.v (.agg #[.bool r16.s, r16.m.v, r16.d.v, .bool r18.s, r18.m.v, r18.d.v])) ty32 zze ?_ (hw := w1 13 false 82)))
 refine zzh 84 (.v (.agg #[.bool r24.s, r24.m.v, r24.d.v, .bool r26.s, r26.m.v, r26.d.v])) ty32 zze ?_ (hw := w1 13 false 82)
 refine zzg 85 22 [.agg #[.bool r16.s, r16.m.v, r16.d.v, .bool r18.s, r18.m.v, r18.d.v], .agg #[.bool r24.s, r24.m.v, r24.d.v, .bool r26.s, r26.m.v, r26.d.v]] ?_ (hw := w1 13 false 82)
 intro w71 u71 e71 d71
 have k74 := k_r4Same d71 (h17.ext (e23.trans (g29.ext.trans (e31.trans (g33.ext.trans (e35.trans (g37.ext.trans (e39.trans (g45.ext.trans (e47.trans (g53.ext.trans (e55.trans (g61.ext.trans (e63.trans (g69.ext.trans e71))))))))))))))) (h19.ext (e23.trans (g29.ext.trans (e31.trans (g33.ext.trans (e35.trans (g37.ext.trans (e39.trans (g45.ext.trans (e47.trans (g53.ext.trans (e55.trans (g61.ext.trans (e63.trans (g69.ext.trans e71))))))))))))))) (h25.ext (e31.trans (g33.ext.trans (e35.trans (g37.ext.trans (e39.trans (g45.ext.trans (e47.trans (g53.ext.trans (e55.trans (g61.ext.trans (e63.trans (g69.ext.trans e71))))))))))))) (h27.ext (e31.trans (g33.ext.trans (e35.trans (g37.ext.trans (e39.trans (g45.ext.trans (e47.trans (g53.ext.trans (e55.trans (g61.ext.trans (e63.trans (g69.ext.trans e71)))))))))))))
 with_reducible refine zPm k74 ?_
 rintro _ u72 g73 rfl
 refine zza 86 (zB (!(decide ((Nt.gr k (Nt.flo Nt.piN k)) = (Nt.gr k (Nt.flo Nt.piN k))) && decide ((Nt.gr k (Nt.flo Nt.piN k + 1)) = (Nt.gr k (Nt.flo Nt.piN k + 1)))))) ?_ (hw := w1 13 false 82)
 refine zza 87 (zB (!(decide ((Nt.gr k (Nt.flo Nt.piN k)) = (Nt.gr k (Nt.flo Nt.piN k))) && decide ((Nt.gr k (Nt.flo Nt.piN k + 1)) = (Nt.gr k (Nt.flo Nt.piN k + 1)))))) (zyn 88 (x := zB (!(decide ((Nt.gr k (Nt.flo Nt.piN k)) = (Nt.gr k (Nt.flo Nt.piN k))) && decide ((Nt.gr k (Nt.flo Nt.piN k + 1)) = (Nt.gr k (Nt.flo Nt.piN k + 1)))))) (zB false) (by rw [show (!(decide ((Nt.gr k (Nt.flo Nt.piN k)) = (Nt.gr k (Nt.flo Nt.piN k))) && decide ((Nt.gr k (Nt.flo Nt.piN k + 1)) = (Nt.gr k (Nt.flo Nt.piN k + 1))))) = false from (by simp)]) (zzh 89 (.v (.agg #[.bool r40.s, r40.m.v, r40.d.v, .bool r42.s, r42.m.v, r42.d.v])) ty32 zze ?_ (hw := w1 19 false 88)))
 refine zzh 90 (.v (.agg #[.bool r48.s, r48.m.v, r48.d.v, .bool r50.s, r50.m.v, r50.d.v])) ty32 zze ?_ (hw := w1 19 false 88)
 refine zzg 91 22 [.agg #[.bool r40.s, r40.m.v, r40.d.v, .bool r42.s, r42.m.v, r42.d.v], .agg #[.bool r48.s, r48.m.v, r48.d.v, .bool r50.s, r50.m.v, r50.d.v]] ?_ (hw := w1 19 false 88)
 intro w76 u76 e76 d76
 have k79 := k_r4Same d76 (h41.ext (e47.trans (g53.ext.trans (e55.trans (g61.ext.trans (e63.trans (g69.ext.trans (e71.trans (g73.ext.trans e76))))))))) (h43.ext (e47.trans (g53.ext.trans (e55.trans (g61.ext.trans (e63.trans (g69.ext.trans (e71.trans (g73.ext.trans e76))))))))) (h49.ext (e55.trans (g61.ext.trans (e63.trans (g69.ext.trans (e71.trans (g73.ext.trans e76))))))) (h51.ext (e55.trans (g61.ext.trans (e63.trans (g69.ext.trans (e71.trans (g73.ext.trans e76)))))))
 with_reducible refine zPm k79 ?_
 rintro _ u77 g78 rfl
 refine zza 92 (zB (!(decide ((Nt.cosV ((p % 200) - 100) D k).1 = (Nt.cosV ((p % 200) - 100) D k).1) && decide ((Nt.cosV ((p % 200) - 100) D k).2 = (Nt.cosV ((p % 200) - 100) D k).2)))) ?_ (hw := w1 19 false 88)
 refine zza 93 (zB (!(decide ((Nt.cosV ((p % 200) - 100) D k).1 = (Nt.cosV ((p % 200) - 100) D k).1) && decide ((Nt.cosV ((p % 200) - 100) D k).2 = (Nt.cosV ((p % 200) - 100) D k).2)))) (zyn 94 (x := zB (!(decide ((Nt.cosV ((p % 200) - 100) D k).1 = (Nt.cosV ((p % 200) - 100) D k).1) && decide ((Nt.cosV ((p % 200) - 100) D k).2 = (Nt.cosV ((p % 200) - 100) D k).2)))) (zB false) (by rw [show (!(decide ((Nt.cosV ((p % 200) - 100) D k).1 = (Nt.cosV ((p % 200) - 100) D k).1) && decide ((Nt.cosV ((p % 200) - 100) D k).2 = (Nt.cosV ((p % 200) - 100) D k).2))) = false from (by simp)]) (zzh 95 (.v (.agg #[.bool r56.s, r56.m.v, r56.d.v, .bool r58.s, r58.m.v, r58.d.v])) ty32 zze ?_ (hw := w1 25 false 94)))
 refine zzh 96 (.v (.agg #[.bool r64.s, r64.m.v, r64.d.v, .bool r66.s, r66.m.v, r66.d.v])) ty32 zze ?_ (hw := w1 25 false 94)
 refine zzg 97 22 [.agg #[.bool r56.s, r56.m.v, r56.d.v, .bool r58.s, r58.m.v, r58.d.v], .agg #[.bool r64.s, r64.m.v, r64.d.v, .bool r66.s, r66.m.v, r66.d.v]] ?_ (hw := w1 25 false 94)
 intro w81 u81 e81 d81
 have k84 := k_r4Same d81 (h57.ext (e63.trans (g69.ext.trans (e71.trans (g73.ext.trans (e76.trans (g78.ext.trans e81))))))) (h59.ext (e63.trans (g69.ext.trans (e71.trans (g73.ext.trans (e76.trans (g78.ext.trans e81))))))) (h65.ext (e71.trans (g73.ext.trans (e76.trans (g78.ext.trans e81))))) (h67.ext (e71.trans (g73.ext.trans (e76.trans (g78.ext.trans e81)))))
 with_reducible refine zPm k84 ?_
 rintro _ u82 g83 rfl
 refine zza 98 (zB (!(decide ((Nt.cosV (((D : Nat) : Int) - 2 * ((p % 200) - 100)) (2 * D) k).1 = (Nt.cosV (((D : Nat) : Int) - 2 * ((p % 200) - 100)) (2 * D) k).1) && decide ((Nt.cosV (((D : Nat) : Int) - 2 * ((p % 200) - 100)) (2 * D) k).2 = (Nt.cosV (((D : Nat) : Int) - 2 * ((p % 200) - 100)) (2 * D) k).2)))) ?_ (hw := w1 25 false 94)
 refine zza 99 (zB (!(decide ((Nt.cosV (((D : Nat) : Int) - 2 * ((p % 200) - 100)) (2 * D) k).1 = (Nt.cosV (((D : Nat) : Int) - 2 * ((p % 200) - 100)) (2 * D) k).1) && decide ((Nt.cosV (((D : Nat) : Int) - 2 * ((p % 200) - 100)) (2 * D) k).2 = (Nt.cosV (((D : Nat) : Int) - 2 * ((p % 200) - 100)) (2 * D) k).2)))) (zzc 155 [(0, zI p), (1, zI q), (2, zI b), (99, zB (!(decide ((Nt.cosV (((D : Nat) : Int) - 2 * ((p % 200) - 100)) (2 * D) k).1 = (Nt.cosV (((D : Nat) : Int) - 2 * ((p % 200) - 100)) (2 * D) k).1) && decide ((Nt.cosV (((D : Nat) : Int) - 2 * ((p % 200) - 100)) (2 * D) k).2 = (Nt.cosV (((D : Nat) : Int) - 2 * ((p % 200) - 100)) (2 * D) k).2))))] [] (zzt (b := !(decide ((Nt.cosV (((D : Nat) : Int) - 2 * ((p % 200) - 100)) (2 * D) k).1 = (Nt.cosV (((D : Nat) : Int) - 2 * ((p % 200) - 100)) (2 * D) k).1) && decide ((Nt.cosV (((D : Nat) : Int) - 2 * ((p % 200) - 100)) (2 * D) k).2 = (Nt.cosV (((D : Nat) : Int) - 2 * ((p % 200) - 100)) (2 * D) k).2))) xk (fun hb => ?_) (fun hb => ?_)))
 ·exact absurd hb (by rw [show (!(decide ((Nt.cosV (((D : Nat) : Int) - 2 * ((p % 200) - 100)) (2 * D) k).1 = (Nt.cosV (((D : Nat) : Int) - 2 * ((p % 200) - 100)) (2 * D) k).1) && decide ((Nt.cosV (((D : Nat) : Int) - 2 * ((p % 200) - 100)) (2 * D) k).2 = (Nt.cosV (((D : Nat) : Int) - 2 * ((p % 200) - 100)) (2 * D) k).2))) = false from (by simp)]; decide)
 ·clear hb
  refine zzr (zzo ?_)
  refine sq9 (zza 101 (zI p) (zza 102 (zI q) (zzg 103 31 [.int .i64 p, .int .i64 q, .int .i64 4] ?_)))
  intro w85 u85 e85 d85
  have k89 := k_CosPiE (p := p) (q := q) d85
  with_reducible refine zPm k89 ?_
  rintro _ u87 g88 ⟨ep86, eq86, rfl⟩
  refine zza 100 (.v (.tuple #[.agg #[.bool ep86.s, ep86.m.v, ep86.d.v, .bool eq86.s, eq86.m.v, eq86.d.v], .int .i64 (Nt.trigE p q)])) (zza 104 (.v (.agg #[.bool ep86.s, ep86.m.v, ep86.d.v, .bool eq86.s, eq86.m.v, eq86.d.v])) (zza 105 (zI (Nt.trigE p q)) (zza 9 (zI (Nt.trigE p q)) (zzb (sq9 (zza 107 (zI p) (zza 108 (zI q) (zzg 109 36 [.int .i64 p, .int .i64 q, .int .i64 4] ?_))))))))
  intro w90 u90 e90 d90
  have k94 := k_SinPiE (p := p) (q := q) d90
  with_reducible refine zPm k94 ?_
  rintro _ u92 g93 ⟨ep91, eq91, rfl⟩
  refine zza 106 (.v (.tuple #[.agg #[.bool ep91.s, ep91.m.v, ep91.d.v, .bool eq91.s, eq91.m.v, eq91.d.v], .int .i64 (Nt.trigE p q)])) (zza 110 (.v (.agg #[.bool ep91.s, ep91.m.v, ep91.d.v, .bool eq91.s, eq91.m.v, eq91.d.v])) (zza 111 (zI (Nt.trigE p q)) (zza 11 (zI (Nt.trigE p q)) (zzb (sq9 (zza 113 (zI b) (zzg 114 32 [.int .i64 b] ?_)))))))
  intro w95 u95 e95 d95
  have k99 := k_PiE (n := b) d95
  with_reducible refine zPm k99 ?_
  rintro _ u97 g98 ⟨ep96, eq96, rfl⟩
  refine zza 112 (.v (.tuple #[.agg #[.bool ep96.s, ep96.m.v, ep96.d.v, .bool eq96.s, eq96.m.v, eq96.d.v], .int .i64 (Nt.piE b)])) (zza 115 (.v (.agg #[.bool ep96.s, ep96.m.v, ep96.d.v, .bool eq96.s, eq96.m.v, eq96.d.v])) (zza 116 (zI (Nt.piE b)) (zza 15 (zI (Nt.piE b)) (zzb (sq9 (zza 117 (zI q) (zza 118 (zB (decide ((1 : Int) ≤ q))) ?_)))))))
  rcases Bool.eq_false_or_eq_true (decide ((1 : Int) ≤ q)) with hs100 | hs100
  ·refine zyn 119 (x := zB (decide ((1 : Int) ≤ q))) (zB true) (by rw [hs100]) ?_
   have qhs100 := of_decide_eq_true hs100
   refine zza 120 (zI q) ?_ (hw := w1 2 true 119)
   refine zza 121 (zB (decide (q ≤ 1000))) ?_ (hw := w1 2 true 119)
   refine zza 122 (zB (decide (q ≤ 1000))) ?_
   rcases Bool.eq_false_or_eq_true (decide (q ≤ 1000)) with hs101 | hs101
   ·refine zyn 123 (x := zB (decide (q ≤ 1000))) (zB true) (by rw [hs101]) ?_
    have qhs101 := of_decide_eq_true hs101
    refine zza 124 (zI p) ?_ (hw := w1 6 true 123)
    refine zza 125 (zB (decide (((-1000000) : Int) ≤ p))) ?_ (hw := w1 6 true 123)
    refine zza 126 (zB (decide (((-1000000) : Int) ≤ p))) ?_
    rcases Bool.eq_false_or_eq_true (decide (((-1000000) : Int) ≤ p)) with hs102 | hs102
    ·refine zyn 127 (x := zB (decide (((-1000000) : Int) ≤ p))) (zB true) (by rw [hs102]) ?_
     have qhs102 := of_decide_eq_true hs102
     refine zza 128 (zI p) ?_ (hw := w1 10 true 127)
     refine zza 129 (zB (decide (p ≤ 1000000))) ?_ (hw := w1 10 true 127)
     refine zza 130 (zB (decide (p ≤ 1000000))) (zza 22 (zB (decide (p ≤ 1000000))) (zzc 155 [(2, zI b), (9, zI (Nt.trigE p q)), (11, zI (Nt.trigE p q)), (15, zI (Nt.piE b)), (22, zB (decide (p ≤ 1000000)))] [] (sq9 (zzg 131 16 [] ?_))))
     intro w103 u103 e103 d103
     have k106 := k_awake10 d103
     with_reducible refine zPm k106 ?_
     rintro _ u104 g105 rfl
     refine zza 132 (zB true) (zza 133 (zI (Nt.trigE p q)) ?_ (hw := w1 1 true 132))
     refine zza 134 (zB ((Nt.trigE p q) == 0)) ?_ (hw := w1 1 true 132)
     refine zza 135 (zB (decide (p ≤ 1000000))) ?_ (hw := w1 1 true 132)
     refine zza 136 (zB (((Nt.trigE p q) == 0) == (decide (p ≤ 1000000)))) ?_ (hw := w1 1 true 132)
     refine zza 137 (zB (((Nt.trigE p q) == 0) == (decide (p ≤ 1000000)))) (zyn 138 (x := zB (((Nt.trigE p q) == 0) == (decide (p ≤ 1000000)))) (zB true) (by rw [show (((Nt.trigE p q) == 0) == (decide (p ≤ 1000000))) = true from (by by_cases h9 : 1 ≤ q ∧ q ≤ 1000 ∧ -1000000 ≤ p ∧ p ≤ 1000000 <;> first | (exfalso; omega) | (rw [Nt.trigE_in h9]; simp; done) | (rw [Nt.trigE_out h9]; simp; done) | (rw [Nt.trigE_in h9]; simp; omega) | (rw [Nt.trigE_out h9]; simp; omega))]) (zza 139 (zI (Nt.trigE p q)) ?_ (hw := w1 7 true 138)))
     refine zza 140 (zB ((Nt.trigE p q) == 0)) ?_ (hw := w1 7 true 138)
     refine zza 141 (zB (decide (p ≤ 1000000))) ?_ (hw := w1 7 true 138)
     refine zza 142 (zB (((Nt.trigE p q) == 0) == (decide (p ≤ 1000000)))) ?_ (hw := w1 7 true 138)
     refine zza 143 (zB (((Nt.trigE p q) == 0) == (decide (p ≤ 1000000)))) (zyn 144 (x := zB (((Nt.trigE p q) == 0) == (decide (p ≤ 1000000)))) (zB true) (by rw [show (((Nt.trigE p q) == 0) == (decide (p ≤ 1000000))) = true from (by by_cases h9 : 1 ≤ q ∧ q ≤ 1000 ∧ -1000000 ≤ p ∧ p ≤ 1000000 <;> first | (exfalso; omega) | (rw [Nt.trigE_in h9]; simp; done) | (rw [Nt.trigE_out h9]; simp; done) | (rw [Nt.trigE_in h9]; simp; omega) | (rw [Nt.trigE_out h9]; simp; omega))]) (zza 145 (zI (Nt.piE b)) ?_ (hw := w1 13 true 144)))
     refine zza 146 (zB ((Nt.piE b) == 0)) ?_ (hw := w1 13 true 144)
     refine zza 147 (zI b) ?_ (hw := w1 13 true 144)
     refine zza 148 (zB (decide ((0 : Int) ≤ b))) ?_ (hw := w1 13 true 144)
     rcases Bool.eq_false_or_eq_true (decide ((0 : Int) ≤ b)) with hs109 | hs109
     ·refine zyn 149 (x := zB (decide ((0 : Int) ≤ b))) (zB true) (by rw [hs109]) ?_ (hw := w1 13 true 144)
      have qhs109 := of_decide_eq_true hs109
      refine zza 150 (zI b) ?_ (hw := w1 18 true 149)
      refine zza 151 (zB (decide (b ≤ 256))) ?_ (hw := w1 18 true 149)
      refine zza 152 (zB (decide (b ≤ 256))) ?_ (hw := w1 13 true 144)
      refine zza 153 (zB (((Nt.piE b) == 0) == (decide (b ≤ 256)))) ?_ (hw := w1 13 true 144)
      refine zza 154 (zB (((Nt.piE b) == 0) == (decide (b ≤ 256)))) (zza 6 (zB (((Nt.piE b) == 0) == (decide (b ≤ 256)))) (zzb (zzn (ret0 [.bool (((Nt.piE b) == 0) == (decide (b ≤ 256)))] ⟨zzp, trivial⟩ fun u110 e111 => ?_))))
      exact congrArg Value.bool (by by_cases h9 : 0 ≤ b ∧ b ≤ 256 <;> first | (exfalso; omega) | (rw [Nt.piE_in h9]; simp; done) | (rw [Nt.piE_out h9]; simp; done) | (rw [Nt.piE_in h9]; simp; omega) | (rw [Nt.piE_out h9]; simp; omega))
     ·refine zyn 149 (x := zB (decide ((0 : Int) ≤ b))) (zB false) (by rw [hs109]) ?_ (hw := w1 13 true 144)
      have qhs109 := of_decide_eq_false hs109
      refine zzm 150 (uw 18 true false 149) (zzm 151 (uw 18 true false 149) (zza 152 (zB false) ?_ (hw := w1 13 true 144)))
      refine zza 153 (zB (((Nt.piE b) == 0) == false)) ?_ (hw := w1 13 true 144)
      refine zza 154 (zB (((Nt.piE b) == 0) == false)) (zza 6 (zB (((Nt.piE b) == 0) == false)) (zzb (zzn (ret0 [.bool (((Nt.piE b) == 0) == false)] ⟨zzp, trivial⟩ fun u112 e113 => ?_))))
      exact congrArg Value.bool (by by_cases h9 : 0 ≤ b ∧ b ≤ 256 <;> first | (exfalso; omega) | (rw [Nt.piE_in h9]; simp; done) | (rw [Nt.piE_out h9]; simp; done) | (rw [Nt.piE_in h9]; simp; omega) | (rw [Nt.piE_out h9]; simp; omega))
    ·refine zyn 127 (x := zB (decide (((-1000000) : Int) ≤ p))) (zB false) (by rw [hs102]) ?_
     have qhs102 := of_decide_eq_false hs102
     refine zzm 128 (uw 10 true false 127) (zzm 129 (uw 10 true false 127) (zza 130 (zB false) (zza 22 (zB false) (zzc 155 [(2, zI b), (9, zI (Nt.trigE p q)), (11, zI (Nt.trigE p q)), (15, zI (Nt.piE b)), (22, zB false)] [] (sq9 (zzg 131 16 [] ?_))))))
     intro w114 u114 e114 d114
     have k117 := k_awake10 d114
     with_reducible refine zPm k117 ?_
     rintro _ u115 g116 rfl
     refine zza 132 (zB true) (zza 133 (zI (Nt.trigE p q)) ?_ (hw := w1 1 true 132))
     refine zza 134 (zB ((Nt.trigE p q) == 0)) ?_ (hw := w1 1 true 132)
     refine zza 135 (zB false) ?_ (hw := w1 1 true 132)
     refine zza 136 (zB (((Nt.trigE p q) == 0) == false)) ?_ (hw := w1 1 true 132)
     refine zza 137 (zB (((Nt.trigE p q) == 0) == false)) (zyn 138 (x := zB (((Nt.trigE p q) == 0) == false)) (zB true) (by rw [show (((Nt.trigE p q) == 0) == false) = true from (by by_cases h9 : 1 ≤ q ∧ q ≤ 1000 ∧ -1000000 ≤ p ∧ p ≤ 1000000 <;> first | (exfalso; omega) | (rw [Nt.trigE_in h9]; simp; done) | (rw [Nt.trigE_out h9]; simp; done) | (rw [Nt.trigE_in h9]; simp; omega) | (rw [Nt.trigE_out h9]; simp; omega))]) (zza 139 (zI (Nt.trigE p q)) ?_ (hw := w1 7 true 138)))
     refine zza 140 (zB ((Nt.trigE p q) == 0)) ?_ (hw := w1 7 true 138)
     refine zza 141 (zB false) ?_ (hw := w1 7 true 138)
     refine zza 142 (zB (((Nt.trigE p q) == 0) == false)) ?_ (hw := w1 7 true 138)
     refine zza 143 (zB (((Nt.trigE p q) == 0) == false)) (zyn 144 (x := zB (((Nt.trigE p q) == 0) == false)) (zB true) (by rw [show (((Nt.trigE p q) == 0) == false) = true from (by by_cases h9 : 1 ≤ q ∧ q ≤ 1000 ∧ -1000000 ≤ p ∧ p ≤ 1000000 <;> first | (exfalso; omega) | (rw [Nt.trigE_in h9]; simp; done) | (rw [Nt.trigE_out h9]; simp; done) | (rw [Nt.trigE_in h9]; simp; omega) | (rw [Nt.trigE_out h9]; simp; omega))]) (zza 145 (zI (Nt.piE b)) ?_ (hw := w1 13 true 144)))
     refine zza 146 (zB ((Nt.piE b) == 0)) ?_ (hw := w1 13 true 144)
     refine zza 147 (zI b) ?_ (hw := w1 13 true 144)
     refine zza 148 (zB (decide ((0 : Int) ≤ b))) ?_ (hw := w1 13 true 144)
     rcases Bool.eq_false_or_eq_true (decide ((0 : Int) ≤ b)) with hs120 | hs120
     ·refine zyn 149 (x := zB (decide ((0 : Int) ≤ b))) (zB true) (by rw [hs120]) ?_ (hw := w1 13 true 144)
      have qhs120 := of_decide_eq_true hs120
      refine zza 150 (zI b) ?_ (hw := w1 18 true 149)
      refine zza 151 (zB (decide (b ≤ 256))) ?_ (hw := w1 18 true 149)
      refine zza 152 (zB (decide (b ≤ 256))) ?_ (hw := w1 13 true 144)
      refine zza 153 (zB (((Nt.piE b) == 0) == (decide (b ≤ 256)))) ?_ (hw := w1 13 true 144)
      refine zza 154 (zB (((Nt.piE b) == 0) == (decide (b ≤ 256)))) (zza 6 (zB (((Nt.piE b) == 0) == (decide (b ≤ 256)))) (zzb (zzn (ret0 [.bool (((Nt.piE b) == 0) == (decide (b ≤ 256)))] ⟨zzp, trivial⟩ fun u121 e122 => ?_))))
      exact congrArg Value.bool (by by_cases h9 : 0 ≤ b ∧ b ≤ 256 <;> first | (exfalso; omega) | (rw [Nt.piE_in h9]; simp; done) | (rw [Nt.piE_out h9]; simp; done) | (rw [Nt.piE_in h9]; simp; omega) | (rw [Nt.piE_out h9]; simp; omega))
     ·refine zyn 149 (x := zB (decide ((0 : Int) ≤ b))) (zB false) (by rw [hs120]) ?_ (hw := w1 13 true 144)
      have qhs120 := of_decide_eq_false hs120
      refine zzm 150 (uw 18 true false 149) (zzm 151 (uw 18 true false 149) (zza 152 (zB false) ?_ (hw := w1 13 true 144)))
      refine zza 153 (zB (((Nt.piE b) == 0) == false)) ?_ (hw := w1 13 true 144)
      refine zza 154 (zB (((Nt.piE b) == 0) == false)) (zza 6 (zB (((Nt.piE b) == 0) == false)) (zzb (zzn (ret0 [.bool (((Nt.piE b) == 0) == false)] ⟨zzp, trivial⟩ fun u123 e124 => ?_))))
      exact congrArg Value.bool (by by_cases h9 : 0 ≤ b ∧ b ≤ 256 <;> first | (exfalso; omega) | (rw [Nt.piE_in h9]; simp; done) | (rw [Nt.piE_out h9]; simp; done) | (rw [Nt.piE_in h9]; simp; omega) | (rw [Nt.piE_out h9]; simp; omega))
   ·refine zyn 123 (x := zB (decide (q ≤ 1000))) (zB false) (by rw [hs101]) ?_
    have qhs101 := of_decide_eq_false hs101
    refine zzm 124 (uw 6 true false 123) (zzm 125 (uw 6 true false 123) (zza 126 (zB false) (zza 127 (zB false) (zzm 128 (uw 10 true false 127) (zzm 129 (uw 10 true false 127) (zza 130 (zB false) (zza 22 (zB false) (zzc 155 [(2, zI b), (9, zI (Nt.trigE p q)), (11, zI (Nt.trigE p q)), (15, zI (Nt.piE b)), (22, zB false)] [] (sq9 (zzg 131 16 [] ?_))))))))))
    intro w125 u125 e125 d125
    have k128 := k_awake10 d125
    with_reducible refine zPm k128 ?_
    rintro _ u126 g127 rfl
    refine zza 132 (zB true) (zza 133 (zI (Nt.trigE p q)) ?_ (hw := w1 1 true 132))
    refine zza 134 (zB ((Nt.trigE p q) == 0)) ?_ (hw := w1 1 true 132)
    refine zza 135 (zB false) ?_ (hw := w1 1 true 132)
    refine zza 136 (zB (((Nt.trigE p q) == 0) == false)) ?_ (hw := w1 1 true 132)
    refine zza 137 (zB (((Nt.trigE p q) == 0) == false)) (zyn 138 (x := zB (((Nt.trigE p q) == 0) == false)) (zB true) (by rw [show (((Nt.trigE p q) == 0) == false) = true from (by by_cases h9 : 1 ≤ q ∧ q ≤ 1000 ∧ -1000000 ≤ p ∧ p ≤ 1000000 <;> first | (exfalso; omega) | (rw [Nt.trigE_in h9]; simp; done) | (rw [Nt.trigE_out h9]; simp; done) | (rw [Nt.trigE_in h9]; simp; omega) | (rw [Nt.trigE_out h9]; simp; omega))]) (zza 139 (zI (Nt.trigE p q)) ?_ (hw := w1 7 true 138)))
    refine zza 140 (zB ((Nt.trigE p q) == 0)) ?_ (hw := w1 7 true 138)
    refine zza 141 (zB false) ?_ (hw := w1 7 true 138)
    refine zza 142 (zB (((Nt.trigE p q) == 0) == false)) ?_ (hw := w1 7 true 138)
    refine zza 143 (zB (((Nt.trigE p q) == 0) == false)) (zyn 144 (x := zB (((Nt.trigE p q) == 0) == false)) (zB true) (by rw [show (((Nt.trigE p q) == 0) == false) = true from (by by_cases h9 : 1 ≤ q ∧ q ≤ 1000 ∧ -1000000 ≤ p ∧ p ≤ 1000000 <;> first | (exfalso; omega) | (rw [Nt.trigE_in h9]; simp; done) | (rw [Nt.trigE_out h9]; simp; done) | (rw [Nt.trigE_in h9]; simp; omega) | (rw [Nt.trigE_out h9]; simp; omega))]) (zza 145 (zI (Nt.piE b)) ?_ (hw := w1 13 true 144)))
    refine zza 146 (zB ((Nt.piE b) == 0)) ?_ (hw := w1 13 true 144)
    refine zza 147 (zI b) ?_ (hw := w1 13 true 144)
    refine zza 148 (zB (decide ((0 : Int) ≤ b))) ?_ (hw := w1 13 true 144)
    rcases Bool.eq_false_or_eq_true (decide ((0 : Int) ≤ b)) with hs131 | hs131
    ·refine zyn 149 (x := zB (decide ((0 : Int) ≤ b))) (zB true) (by rw [hs131]) ?_ (hw := w1 13 true 144)
     have qhs131 := of_decide_eq_true hs131
     refine zza 150 (zI b) ?_ (hw := w1 18 true 149)
     refine zza 151 (zB (decide (b ≤ 256))) ?_ (hw := w1 18 true 149)
     refine zza 152 (zB (decide (b ≤ 256))) ?_ (hw := w1 13 true 144)
     refine zza 153 (zB (((Nt.piE b) == 0) == (decide (b ≤ 256)))) ?_ (hw := w1 13 true 144)
     refine zza 154 (zB (((Nt.piE b) == 0) == (decide (b ≤ 256)))) (zza 6 (zB (((Nt.piE b) == 0) == (decide (b ≤ 256)))) (zzb (zzn (ret0 [.bool (((Nt.piE b) == 0) == (decide (b ≤ 256)))] ⟨zzp, trivial⟩ fun u132 e133 => ?_))))
     exact congrArg Value.bool (by by_cases h9 : 0 ≤ b ∧ b ≤ 256 <;> first | (exfalso; omega) | (rw [Nt.piE_in h9]; simp; done) | (rw [Nt.piE_out h9]; simp; done) | (rw [Nt.piE_in h9]; simp; omega) | (rw [Nt.piE_out h9]; simp; omega))
    ·refine zyn 149 (x := zB (decide ((0 : Int) ≤ b))) (zB false) (by rw [hs131]) ?_ (hw := w1 13 true 144)
     have qhs131 := of_decide_eq_false hs131
     refine zzm 150 (uw 18 true false 149) (zzm 151 (uw 18 true false 149) (zza 152 (zB false) ?_ (hw := w1 13 true 144)))
     refine zza 153 (zB (((Nt.piE b) == 0) == false)) ?_ (hw := w1 13 true 144)
     refine zza 154 (zB (((Nt.piE b) == 0) == false)) (zza 6 (zB (((Nt.piE b) == 0) == false)) (zzb (zzn (ret0 [.bool (((Nt.piE b) == 0) == false)] ⟨zzp, trivial⟩ fun u134 e135 => ?_))))
     exact congrArg Value.bool (by by_cases h9 : 0 ≤ b ∧ b ≤ 256 <;> first | (exfalso; omega) | (rw [Nt.piE_in h9]; simp; done) | (rw [Nt.piE_out h9]; simp; done) | (rw [Nt.piE_in h9]; simp; omega) | (rw [Nt.piE_out h9]; simp; omega))
  ·refine zyn 119 (x := zB (decide ((1 : Int) ≤ q))) (zB false) (by rw [hs100]) ?_
   have qhs100 := of_decide_eq_false hs100
   refine zzm 120 (uw 2 true false 119) (zzm 121 (uw 2 true false 119) (zza 122 (zB false) (zza 123 (zB false) (zzm 124 (uw 6 true false 123) (zzm 125 (uw 6 true false 123) (zza 126 (zB false) (zza 127 (zB false) (zzm 128 (uw 10 true false 127) (zzm 129 (uw 10 true false 127) (zza 130 (zB false) (zza 22 (zB false) ?_)))))))))))
   refine zzc 155 [(2, zI b), (9, zI (Nt.trigE p q)), (11, zI (Nt.trigE p q)), (15, zI (Nt.piE b)), (22, zB false)] [] (sq9 (zzg 131 16 [] ?_))
   intro w136 u136 e136 d136
   have k139 := k_awake10 d136
   with_reducible refine zPm k139 ?_
   rintro _ u137 g138 rfl
   refine zza 132 (zB true) (zza 133 (zI (Nt.trigE p q)) ?_ (hw := w1 1 true 132))
   refine zza 134 (zB ((Nt.trigE p q) == 0)) ?_ (hw := w1 1 true 132)
   refine zza 135 (zB false) ?_ (hw := w1 1 true 132)
   refine zza 136 (zB (((Nt.trigE p q) == 0) == false)) ?_ (hw := w1 1 true 132)
   refine zza 137 (zB (((Nt.trigE p q) == 0) == false)) (zyn 138 (x := zB (((Nt.trigE p q) == 0) == false)) (zB true) (by rw [show (((Nt.trigE p q) == 0) == false) = true from (by by_cases h9 : 1 ≤ q ∧ q ≤ 1000 ∧ -1000000 ≤ p ∧ p ≤ 1000000 <;> first | (exfalso; omega) | (rw [Nt.trigE_in h9]; simp; done) | (rw [Nt.trigE_out h9]; simp; done) | (rw [Nt.trigE_in h9]; simp; omega) | (rw [Nt.trigE_out h9]; simp; omega))]) (zza 139 (zI (Nt.trigE p q)) ?_ (hw := w1 7 true 138)))
   refine zza 140 (zB ((Nt.trigE p q) == 0)) ?_ (hw := w1 7 true 138)
   refine zza 141 (zB false) ?_ (hw := w1 7 true 138)
   refine zza 142 (zB (((Nt.trigE p q) == 0) == false)) ?_ (hw := w1 7 true 138)
   refine zza 143 (zB (((Nt.trigE p q) == 0) == false)) (zyn 144 (x := zB (((Nt.trigE p q) == 0) == false)) (zB true) (by rw [show (((Nt.trigE p q) == 0) == false) = true from (by by_cases h9 : 1 ≤ q ∧ q ≤ 1000 ∧ -1000000 ≤ p ∧ p ≤ 1000000 <;> first | (exfalso; omega) | (rw [Nt.trigE_in h9]; simp; done) | (rw [Nt.trigE_out h9]; simp; done) | (rw [Nt.trigE_in h9]; simp; omega) | (rw [Nt.trigE_out h9]; simp; omega))]) (zza 145 (zI (Nt.piE b)) ?_ (hw := w1 13 true 144)))
   refine zza 146 (zB ((Nt.piE b) == 0)) ?_ (hw := w1 13 true 144)
   refine zza 147 (zI b) ?_ (hw := w1 13 true 144)
   refine zza 148 (zB (decide ((0 : Int) ≤ b))) ?_ (hw := w1 13 true 144)
   rcases Bool.eq_false_or_eq_true (decide ((0 : Int) ≤ b)) with hs142 | hs142
   ·refine zyn 149 (x := zB (decide ((0 : Int) ≤ b))) (zB true) (by rw [hs142]) ?_ (hw := w1 13 true 144)
    have qhs142 := of_decide_eq_true hs142
    refine zza 150 (zI b) ?_ (hw := w1 18 true 149)
    refine zza 151 (zB (decide (b ≤ 256))) ?_ (hw := w1 18 true 149)
    refine zza 152 (zB (decide (b ≤ 256))) ?_ (hw := w1 13 true 144)
    refine zza 153 (zB (((Nt.piE b) == 0) == (decide (b ≤ 256)))) ?_ (hw := w1 13 true 144)
    refine zza 154 (zB (((Nt.piE b) == 0) == (decide (b ≤ 256)))) (zza 6 (zB (((Nt.piE b) == 0) == (decide (b ≤ 256)))) (zzb (zzn (ret0 [.bool (((Nt.piE b) == 0) == (decide (b ≤ 256)))] ⟨zzp, trivial⟩ fun u143 e144 => ?_))))
    exact congrArg Value.bool (by by_cases h9 : 0 ≤ b ∧ b ≤ 256 <;> first | (exfalso; omega) | (rw [Nt.piE_in h9]; simp; done) | (rw [Nt.piE_out h9]; simp; done) | (rw [Nt.piE_in h9]; simp; omega) | (rw [Nt.piE_out h9]; simp; omega))
   ·refine zyn 149 (x := zB (decide ((0 : Int) ≤ b))) (zB false) (by rw [hs142]) ?_ (hw := w1 13 true 144)
    have qhs142 := of_decide_eq_false hs142
    refine zzm 150 (uw 18 true false 149) (zzm 151 (uw 18 true false 149) (zza 152 (zB false) ?_ (hw := w1 13 true 144)))
    refine zza 153 (zB (((Nt.piE b) == 0) == false)) ?_ (hw := w1 13 true 144)
    refine zza 154 (zB (((Nt.piE b) == 0) == false)) (zza 6 (zB (((Nt.piE b) == 0) == false)) (zzb (zzn (ret0 [.bool (((Nt.piE b) == 0) == false)] ⟨zzp, trivial⟩ fun u145 e146 => ?_))))
    exact congrArg Value.bool (by by_cases h9 : 0 ≤ b ∧ b ≤ 256 <;> first | (exfalso; omega) | (rw [Nt.piE_in h9]; simp; done) | (rw [Nt.piE_out h9]; simp; done) | (rw [Nt.piE_in h9]; simp; omega) | (rw [Nt.piE_out h9]; simp; omega))
end Go.Proofs.YtbolmkfphieogaaGreat
