/- Parts of the proof: contracts of functions, each walked once, and plain laws. -/
import Derived.Test.YtdmpfhhhlhoeiaaCstC
namespace Go.Proofs.Ytdmpfhhhlhoeiaa
open Go.RowKit
set_option linter.unusedVariables false
set_option maxHeartbeats 1000000 in
theorem k_dn1 {u w : World} {r v : RL} {q y : Rat} {K M j b6 : Nat} (d : Dat u w) (hr : RatV u r q M) (hv : RatN u v y K) (h6 : u.heap[b6]? = some (.cells r.cs.toArray 82 (0, 0))) (hq : q ≠ 0) (hK : K ≤ 10000000) (hM : M ≤ 10000000) : Calls Try.prog 57 #[.int .i64 (j : Int), v.v, .pointer (some ⟨b6, 0, none⟩)] w (Post u w fun v u' => ∃ r : RL, v = r.v ∧ RatN u' r (y / q) (K + M)) := by
 refine zzm (args := [.int .i64 j, v.v, .pointer (some ⟨b6, 0, none⟩)]) Try.func57 rfl Try.ntmps57 (rs := [.cell 5 82]) Try.results57 (le_b rfl) (le_b rfl) d ?_
 refine sq9 (zzk 4 ⟨82, v.cs⟩ (zzk 5 ⟨82, [.bool false, .slice none 0 0, .slice none 0 0]⟩ (zzb (sq9 (zzi 9 (.v (v.v)) ty82 zze (zym 10 (r.cs) (var_cells h6) ty82 (zzg 11 58 [v.v, r.v] ?_)))))))
 intro w11 u11 e11 d11
 have k16 := k_ratDiv1 d11 (hv.ext e11).raw (hr.ext e11) hq xq xq
 with_reducible refine zPm k16 ?_
 rintro _ u14 g15 ⟨r12, rfl, h13⟩
 refine zza 8 (.v (.tuple #[r12.v, .int .i64 0])) (zza 12 (.v (r12.v)) (zza 13 (zI 0) (zzk 6 ⟨82, [.bool false, .slice none 0 0, .slice none 0 0]⟩ (zzj ⟨82, r12.cs⟩ ty82 ?_))))
 refine zza 7 (zI 0) (zzb (sq9 (zzi 14 (.v (r12.v)) ty82 zze (zzj ⟨82, r12.cs⟩ ty82 ?_))))
 refine zzb (zzo (ret0 [r12.v] ⟨zzr ty82 zze, trivial⟩ fun u17 e18 => ?_))
 exact ⟨r12, rfl, RatN.more (K := (K + M)) (h13.ext e18) xq⟩
set_option maxHeartbeats 2000000 in
theorem k_mapDn1 {u w : World} {x : Sl} {l : List Rat} {r : RL} {q : Rat} {K M b6 : Nat} (d : Dat u w) (hx : PolN u x l K) (hr : RatV u r q M) (h6 : u.heap[b6]? = some (.cells r.cs.toArray 82 (0, 0))) (hq : q ≠ 0) (hK : K ≤ 10000000) (hM : M ≤ 10000000) (hl : l.length ≤ 1000000) : Calls Try.prog 56 #[x.v, .func (.func 57) #[] #[.pointer (some ⟨b6, 0, none⟩)]] w (Post u w fun v u' => NewR u x.n (Nt.divS l q) (K + M) v u') := by
 have hlen := hx.len
 have hul := Nt.divS_len l q
 refine zzm (args := [.slice x.a x.n x.c, .func (.func 57) #[] #[.pointer (some ⟨b6, 0, none⟩)]]) Try.func56 rfl Try.ntmps56 (rs := [.tmp 4]) Try.results56 (le_b rfl) (le_b rfl) d ?_
 refine sq9 (zza 4 (.v (.slice none 0 0)) (zzb (sq9 (zza 8 (.v x.v) (zza 9 (zI x.n) (sy_make 10 (T := 42) (E := 82) (z := .agg #[.bool false, .slice none 0 0, .slice none 0 0]) (size := 3) (bytes := 56) x.n (rcs (List.replicate x.n rl0)) xv xv rfl rfl xq yq (made_rcs _) ?_))))))
 refine zza 5 (.slc 10 0 x.n x.n) (zzc 27 [(0, .v x.v), (1, .v (.func (.func 57) #[] #[.pointer (some ⟨b6, 0, none⟩)])), (5, .slc 10 0 x.n x.n)] [(10, ⟨82, rcs (List.replicate x.n rl0)⟩)] (zzd (sq9 (zza 11 (.v x.v) (zza 12 (zI x.n) (zza 13 (zI 0) (zzb (zzt (zyn (I := fun m11 S' u' => ∃ (i : Nat) (L : List RL), (m11 = x.n - i) ∧ (i ≤ x.n) ∧ (L.length = x.n) ∧ (S' = St.of 27 [(1, .v (.func (.func 57) #[] #[.pointer (some ⟨b6, 0, none⟩)])), (5, .slc 10 0 x.n x.n), (11, .v (.slice x.a x.n x.c)), (12, zI x.n), (13, zI i)] [(10, ⟨82, rcs L⟩)]) ∧ (Ext u u') ∧ (RatsN u' (L.take i) ((Nt.divS l q).take i) (K + M))) (fun m S u1 u2 e h => by obtain ⟨i, L, hm, p0, p1, hS, hE, f0⟩ := h; exact ⟨i, L, hm, p0, p1, hS, hE.trans e, f0.ext e⟩) _ yj ⟨0, List.replicate x.n rl0, rfl, by omega, by simp, rfl, (Ext.refl _), RatsN.tnil _ _ _ _⟩ ?_)))))))))
 rintro m11 _ u11 ⟨i, L, hm11, hi, hL, rfl, e11, hR⟩
 refine sq9 (zza 14 (zB (decide ((i : Int) < (x.n : Int)))) (zzb (zzd (zzu (b := decide ((i : Int) < (x.n : Int))) xv (fun hb12 => ?_) (fun hb12 => ?_)))))
 ·replace hb12 : (decide ((i : Int) < (x.n : Int))) = true := hb12
  have qhb12 := of_decide_eq_true hb12
  refine zzs (zzp ?_)
  refine zzd (zzt (sq9 (zza 15 (zI i) ?_)))
  have hl13 := (hx.ext e11).len
  obtain ⟨r13, b13, o13, hA13, hc13, hr13⟩ := pol_atN (hx.ext e11) (i := i) xq
  refine zya 16 (o13 + i * 3) (n := x.n) (off := o13) (sz := 3) (i := (i : Int)) xq hA13 xq xq sl42 (zym 17 r13.cs hc13 ty82 (zzk 7 ⟨82, [.bool false, .slice none 0 0, .slice none 0 0]⟩ (zza 6 (zI i) (zzj ⟨82, r13.cs⟩ ty82 ?_))))
  refine zzb (zzf (zza 18 (.slc 10 0 x.n x.n) (zza 19 (zI i) (zza 20 (.v (.func (.func 57) #[] #[.pointer (some ⟨b6, 0, none⟩)])) (zza 21 (zI i) (zzi 22 (.v (r13.v)) ty82 zze (zzg 23 57 [.int .i64 i, r13.v, .pointer (some ⟨b6, 0, none⟩)] ?_)))))))
  intro w14 u14 e14 d14
  have k19 := k_dn1 (j := i) d14 (hr.ext (e11.trans e14)) (hr13.ext e14) ((e11.trans e14).cells h6) hq xq xq
  with_reducible refine zPm k19 ?_
  rintro _ u17 g18 ⟨r15, rfl, h16⟩
  refine zyw 24 (off' := i * 3) (n := x.n) (off := 0) (sz := 3) (i := (i : Int)) sl42 xq xq xq ?_
  refine zyv (V := ⟨82, rcs L⟩) (off := i * 3) (rcs ((L).set i r15)) ty82 yy (zyx (r := r15) (i := i) yw rfl) ?_
  refine zzx ?_
  refine zzp (zzf (zyq 25 (x := zI (IntKind.i64.wrap ((i : Int) + 1))) (zI (i + 1 : Nat)) (eqI xk) (zza 13 (zI (i + 1 : Nat)) (zzx ?_))))
  have ht20 : i < (Nt.divS l q).length := by rw [hul]; omega
  refine ⟨_, ?_, _, by exact zzv _ _ _, i + 1, (L).set i r15, rfl, by omega, by simpa using hL, rfl, (e11.trans (e14.trans g18.ext)), RatsN.tstep (hR.ext (e14.trans g18.ext)) xq ht20 (RatN.more (K := (K + M)) h16 xq) (by rw [← Nt.divS_at l q (j := i) xq])⟩
  omega
 ·replace hb12 : (decide ((i : Int) < (x.n : Int))) = false := hb12
  have qhb12 := of_decide_eq_false hb12
  refine zyc (zzp (zzd (zyp (r := 5) (t := 10) [5, 10] xj xv zv zv xv (fun b21 u22 e23 hb24 hh25 => ?_))))
  have hp26 : PolN u22 ⟨some ⟨b21, 0, none⟩, x.n, x.n⟩ (Nt.divS l q) (K + M) := pol_data1 hh25 yq (RatsN.tdone (hR.ext e23) xq (by rw [hul]; omega)) xq
  refine zzf (zza 26 (.v (.slice (some ⟨b21, 0, none⟩) x.n x.n)) (zza 4 (.v (.slice (some ⟨b21, 0, none⟩) x.n x.n)) (zzb (zzo (ret0 [.slice (some ⟨b21, 0, none⟩) x.n x.n] ⟨zzq, trivial⟩ fun u27 e28 => ?_)))))
  exact ⟨b21, L, rfl, hb24, e28.cells hh25, by omega, (RatsN.tdone (hR.ext (e23.trans e28)) xq (by rw [hul]; omega))⟩
set_option maxHeartbeats 2000000 in
theorem k_dn2 {u w : World} {x : Sl} {l : List Rat} {r s v : RL} {q p y : Rat} {K M N m j b10 b7 b9 b11 : Nat} (d : Dat u w) (hx : PolN u x l K) (hr : RatV u r q M) (hs : RatV u s p N) (hv : RatN u v y K) (h10 : u.heap[b10]? = some (.cells r.cs.toArray 82 (0, 0))) (h7 : u.heap[b7]? = some (.cells [Value.slice x.a x.n x.c].toArray 42 (0, 0))) (h9 : u.heap[b9]? = some (.cells [Value.int .i64 (m : Int)].toArray 3 (0, 0))) (h11 : u.heap[b11]? = some (.cells s.cs.toArray 82 (0, 0))) (hp : p ≠ 0) (hm : m + 1 = l.length) (hj : j < m) (hK : K ≤ 10000000) (hM : M ≤ 10000000) (hN : N ≤ 10000000) (hl : l.length ≤ 1000000) : Calls Try.prog 62 #[.int .i64 (j : Int), v.v, .pointer (some ⟨b10, 0, none⟩), .pointer (some ⟨b7, 0, none⟩), .pointer (some ⟨b9, 0, none⟩), .pointer (some ⟨b11, 0, none⟩)] w (Post u w fun v u' => ∃ r : RL, v = r.v ∧ RatN u' r ((y - q * l.getD (m - j) 0) / p) (2 * K + M + N + 1)) := by
 have hlen := hx.len
 refine zzm (args := [.int .i64 j, v.v, .pointer (some ⟨b10, 0, none⟩), .pointer (some ⟨b7, 0, none⟩), .pointer (some ⟨b9, 0, none⟩), .pointer (some ⟨b11, 0, none⟩)]) Try.func62 rfl Try.ntmps62 (rs := [.cell 8 82]) Try.results62 (le_b rfl) (le_b rfl) d ?_
 refine sq9 (zzk 7 ⟨82, v.cs⟩ (zzk 8 ⟨82, [.bool false, .slice none 0 0, .slice none 0 0]⟩ (zzb (zzd (zzz [0, 0, 0, 0, 0, 24, 60, 124, 254, 511, 0, 2047, 4095, 8191, 8191, 0, 49151, 131071] [(0, []), (1, []), (2, []), (3, []), (4, []), (5, []), (6, []), (7, []), (10, []), (15, []), (8, []), (9, []), (11, []), (12, []), (13, []), (14, []), (16, []), (17, [])] xv xv (zzi 12 (.v (v.v)) ty82 zze (zym 13 (r.cs) (var_cells h10) ty82 (zyl 14 x.v (var_cell1 h7) ty42 (zyl 15 (.int .i64 m) (var_cell1 h9) ty3 (zza 16 (zI j) (zyq 17 (x := zI (IntKind.i64.wrap ((m : Int) - (j : Int)))) (zI (m - j : Nat)) (eqI xk) ?_)))))))))))
 have hl11 := hx.len
 obtain ⟨r11, b11, o11, hA11, hc11, hr11⟩ := pol_atN hx (i := m - j) xq
 refine zya 18 (o11 + (m - j) * 3) (n := x.n) (off := o11) (sz := 3) (i := ((m - j : Nat) : Int)) xq hA11 xq xq sl42 (zym 19 r11.cs hc11 ty82 (zym 22 (s.cs) (var_cells h11) ty82 (zzk 9 ⟨82, [.bool false, .slice none 0 0, .slice none 0 0]⟩ (zzg 20 52 [r.v, r11.v] ?_))))
 intro w12 u12 e12 d12
 have k17 := k_ratMul d12 (hr.ext e12) (hr11.ext e12).raw xq xq
 with_reducible refine zPm k17 ?_
 rintro _ u15 g16 ⟨r13, rfl, h14⟩
 refine zzg 21 61 [v.v, r13.v] ?_
 intro w18 u18 e18 d18
 have k23 := k_ratSub d18 (hv.ext (e12.trans (g16.ext.trans e18))).raw (h14.ext e18).raw xq xq
 with_reducible refine zPm k23 ?_
 rintro _ u21 g22 ⟨r19, rfl, h20⟩
 refine zzg 23 58 [r19.v, s.v] ?_
 intro w24 u24 e24 d24
 have k29 := k_ratDiv1 d24 (h20.ext e24).raw (hs.ext (e12.trans (g16.ext.trans (e18.trans (g22.ext.trans e24))))) hp xq xq
 with_reducible refine zPm k29 ?_
 rintro _ u27 g28 ⟨r25, rfl, h26⟩
 refine zza 11 (.v (.tuple #[r25.v, .int .i64 0])) (zza 24 (.v (r25.v)) (zza 25 (zI 0) (zzj ⟨82, r25.cs⟩ ty82 ?_)))
 refine zza 10 (zI 0) (zzb (sq9 (zzi 26 (.v (r25.v)) ty82 zze (zzj ⟨82, r25.cs⟩ ty82 ?_))))
 refine zzb (zzo (ret0 [r25.v] ⟨zzr ty82 zze, trivial⟩ fun u30 e31 => ?_))
 exact ⟨r25, rfl, RatN.more (K := ((K + (M + K) + 1) + N)) (h26.ext e31) xq⟩
theorem getD_take (l : List Rat) {m i : Nat} (h : i < m) : (l.take m).getD i 0 = l.getD i 0 := by
 rw [List.getD_eq_getElem?_getD, List.getD_eq_getElem?_getD, List.getElem?_take_of_lt h]
set_option maxHeartbeats 2000000 in
theorem k_mapDn2 {u w : World} {x z : Sl} {l : List Rat} {r s : RL} {q p : Rat} {K M N m b10 b7 b9 b11 : Nat} (d : Dat u w) (hx : PolN u x l K) (hr : RatV u r q M) (hs : RatV u s p N) (hz : PolN u z (l.take m) K) (h10 : u.heap[b10]? = some (.cells r.cs.toArray 82 (0, 0))) (h7 : u.heap[b7]? = some (.cells [Value.slice x.a x.n x.c].toArray 42 (0, 0))) (h9 : u.heap[b9]? = some (.cells [Value.int .i64 (m : Int)].toArray 3 (0, 0))) (h11 : u.heap[b11]? = some (.cells s.cs.toArray 82 (0, 0))) (hp : p ≠ 0) (hm : m + 1 = l.length) (hqe : q = l.getD m 0) (hpe : p = ((1 : Int) : Rat) - q * q) (hK : K ≤ 10000000) (hM : M ≤ 10000000) (hN : N ≤ 10000000) (hl : l.length ≤ 1000000) : Calls Try.prog 56 #[z.v, .func (.func 62) #[] #[.pointer (some ⟨b10, 0, none⟩), .pointer (some ⟨b7, 0, none⟩), .pointer (some ⟨b9, 0, none⟩), .pointer (some ⟨b11, 0, none⟩)]] w (Post u w fun v u' => NewR u z.n (Nt.dnS l m) (2 * K + M + N + 1) v u') := by
 have hlen := hx.len
 have hlez := hz.len
 rw [List.length_take] at hlez
 have hul := Nt.dnS_len l m
 refine zzm (args := [.slice z.a z.n z.c, .func (.func 62) #[] #[.pointer (some ⟨b10, 0, none⟩), .pointer (some ⟨b7, 0, none⟩), .pointer (some ⟨b9, 0, none⟩), .pointer (some ⟨b11, 0, none⟩)]]) Try.func56 rfl Try.ntmps56 (rs := [.tmp 4]) Try.results56 (le_b rfl) (le_b rfl) d ?_
 refine sq9 (zza 4 (.v (.slice none 0 0)) (zzb (sq9 (zza 8 (.v z.v) (zza 9 (zI z.n) (sy_make 10 (T := 42) (E := 82) (z := .agg #[.bool false, .slice none 0 0, .slice none 0 0]) (size := 3) (bytes := 56) z.n (rcs (List.replicate z.n rl0)) xv xv rfl rfl xq yq (made_rcs _) ?_))))))
 refine zza 5 (.slc 10 0 z.n z.n) (zzc 27 [(0, .v z.v), (1, .v (.func (.func 62) #[] #[.pointer (some ⟨b10, 0, none⟩), .pointer (some ⟨b7, 0, none⟩), .pointer (some ⟨b9, 0, none⟩), .pointer (some ⟨b11, 0, none⟩)])), (5, .slc 10 0 z.n z.n)] [(10, ⟨82, rcs (List.replicate z.n rl0)⟩)] (zzd (sq9 (zza 11 (.v z.v) (zza 12 (zI z.n) (zza 13 (zI 0) (zzb (zzt (zyn (I := fun m11 S' u' => ∃ (i : Nat) (L : List RL), (m11 = z.n - i) ∧ (i ≤ z.n) ∧ (L.length = z.n) ∧ (S' = St.of 27 [(1, .v (.func (.func 62) #[] #[.pointer (some ⟨b10, 0, none⟩), .pointer (some ⟨b7, 0, none⟩), .pointer (some ⟨b9, 0, none⟩), .pointer (some ⟨b11, 0, none⟩)])), (5, .slc 10 0 z.n z.n), (11, .v (.slice z.a z.n z.c)), (12, zI z.n), (13, zI i)] [(10, ⟨82, rcs L⟩)]) ∧ (Ext u u') ∧ (RatsN u' (L.take i) ((Nt.dnS l m).take i) (2 * K + M + N + 1))) (fun m S u1 u2 e h => by obtain ⟨i, L, hm, p0, p1, hS, hE, f0⟩ := h; exact ⟨i, L, hm, p0, p1, hS, hE.trans e, f0.ext e⟩) _ yj ⟨0, List.replicate z.n rl0, rfl, by omega, by simp, rfl, (Ext.refl _), RatsN.tnil _ _ _ _⟩ ?_)))))))))
 rintro m11 _ u11 ⟨i, L, hm11, hi, hL, rfl, e11, hR⟩
 refine sq9 (zza 14 (zB (decide ((i : Int) < (z.n : Int)))) (zzb (zzd (zzu (b := decide ((i : Int) < (z.n : Int))) xv (fun hb12 => ?_) (fun hb12 => ?_)))))
 ·replace hb12 : (decide ((i : Int) < (z.n : Int))) = true := hb12
  have qhb12 := of_decide_eq_true hb12
  refine zzs (zzp ?_)
  refine zzd (zzt (sq9 (zza 15 (zI i) ?_)))
  have hl13 := (hz.ext e11).len
  obtain ⟨r13, b13, o13, hA13, hc13, hr13⟩ := pol_atN (hz.ext e11) (i := i) xq
  refine zya 16 (o13 + i * 3) (n := z.n) (off := o13) (sz := 3) (i := (i : Int)) xq hA13 xq xq sl42 (zym 17 r13.cs hc13 ty82 (zzk 7 ⟨82, [.bool false, .slice none 0 0, .slice none 0 0]⟩ (zza 6 (zI i) (zzj ⟨82, r13.cs⟩ ty82 ?_))))
  refine zzb (zzf (zza 18 (.slc 10 0 z.n z.n) (zza 19 (zI i) (zza 20 (.v (.func (.func 62) #[] #[.pointer (some ⟨b10, 0, none⟩), .pointer (some ⟨b7, 0, none⟩), .pointer (some ⟨b9, 0, none⟩), .pointer (some ⟨b11, 0, none⟩)])) (zza 21 (zI i) (zzi 22 (.v (r13.v)) ty82 zze (zzg 23 62 [.int .i64 i, r13.v, .pointer (some ⟨b10, 0, none⟩), .pointer (some ⟨b7, 0, none⟩), .pointer (some ⟨b9, 0, none⟩), .pointer (some ⟨b11, 0, none⟩)] ?_)))))))
  intro w14 u14 e14 d14
  have k19 := k_dn2 (j := i) d14 (hx.ext (e11.trans e14)) (hr.ext (e11.trans e14)) (hs.ext (e11.trans e14)) (hr13.ext e14) ((e11.trans e14).cells h10) ((e11.trans e14).cells h7) ((e11.trans e14).cells h9) ((e11.trans e14).cells h11) hp hm xq xq xq xq xq
  with_reducible refine zPm k19 ?_
  rintro _ u17 g18 ⟨r15, rfl, h16⟩
  refine zyw 24 (off' := i * 3) (n := z.n) (off := 0) (sz := 3) (i := (i : Int)) sl42 xq xq xq ?_
  refine zyv (V := ⟨82, rcs L⟩) (off := i * 3) (rcs ((L).set i r15)) ty82 yy (zyx (r := r15) (i := i) yw rfl) ?_
  refine zzx ?_
  refine zzp (zzf (zyq 25 (x := zI (IntKind.i64.wrap ((i : Int) + 1))) (zI (i + 1 : Nat)) (eqI xk) (zza 13 (zI (i + 1 : Nat)) (zzx ?_))))
  have ht20 : i < (Nt.dnS l m).length := by rw [hul]; omega
  refine ⟨_, ?_, _, by exact zzv _ _ _, i + 1, (L).set i r15, rfl, by omega, by simpa using hL, rfl, (e11.trans (e14.trans g18.ext)), RatsN.tstep (hR.ext (e14.trans g18.ext)) xq ht20 (RatN.more (K := (2 * K + M + N + 1)) h16 xq) (by rw [Nt.dnS_at l xq, hqe, hpe, hqe, getD_take l xq])⟩
  omega
 ·replace hb12 : (decide ((i : Int) < (z.n : Int))) = false := hb12
  have qhb12 := of_decide_eq_false hb12
  refine zyc (zzp (zzd (zyp (r := 5) (t := 10) [5, 10] xj xv zv zv xv (fun b21 u22 e23 hb24 hh25 => ?_))))
  have hp26 : PolN u22 ⟨some ⟨b21, 0, none⟩, z.n, z.n⟩ (Nt.dnS l m) (2 * K + M + N + 1) := pol_data1 hh25 yq (RatsN.tdone (hR.ext e23) xq (by rw [hul]; omega)) xq
  refine zzf (zza 26 (.v (.slice (some ⟨b21, 0, none⟩) z.n z.n)) (zza 4 (.v (.slice (some ⟨b21, 0, none⟩) z.n z.n)) (zzb (zzo (ret0 [.slice (some ⟨b21, 0, none⟩) z.n z.n] ⟨zzq, trivial⟩ fun u27 e28 => ?_)))))
  exact ⟨b21, L, rfl, hb24, e28.cells hh25, by omega, (RatsN.tdone (hR.ext (e23.trans e28)) xq (by rw [hul]; omega))⟩
theorem k_stWrong {u w : World} {x : Sl} {l : List Rat} {K : Nat} (d : Dat u w) (hx : PolV u x l K) (hn : l.getD 0 0 ≠ 0) (hK : K ≤ 10000000) (hl : l.length ≤ 40) : Calls Try.prog 54 #[x.v] w (Post u w fun v _ => v = .int .i64 0) := by
 have hlen := hx.len
 have hpos : 0 < l.length := by
  cases l with
  | nil => exact absurd rfl hn
  | cons a l => simp
 refine zzm (args := [.slice x.a x.n x.c]) Try.func54 rfl Try.ntmps54 (rs := [.tmp 2]) Try.results54 (le_b rfl) (le_b rfl) d ?_
 refine sq9 (zza 2 (zI 0) (zzb (zzd (sq9 (zza 3 (.v x.v) (zzg 4 81 [x.v] ?_))))))
 intro w11 u11 e11 d11
 have k14 := k_poDegree d11 (hx.ext e11) xq xz
 with_reducible refine zPm k14 ?_
 rintro _ u12 g13 rfl
 refine zza 5 (zB (decide ((48 : Int) < (((Nt.trimQ l).length : Int) - 1)))) (zzb (zzu (b := decide ((48 : Int) < (((Nt.trimQ l).length : Int) - 1))) xv (fun hb => ?_) (fun hb => ?_)))
 ·exact absurd hb (by rw [show (decide ((48 : Int) < (((Nt.trimQ l).length : Int) - 1))) = false from decide_eq_false (by have h9 := Nt.zzh l; omega)]; decide)
 ·clear hb
  refine zzs (zzp ?_)
  refine zzd (sq9 (zza 6 (.v x.v) (zza 7 (zI x.n) (zza 8 (zB ((x.n : Int) == 0)) (zyq 9 (x := zB ((x.n : Int) == 0)) (zB false) (by rw [show ((x.n : Int) == 0) = false from yz]) (zza 10 (.v x.v) ?_ (hw := w1 3 false 9)))))))
  have hl16 := (hx.ext (e11.trans g13.ext)).len
  obtain ⟨r16, b16, o16, hA16, hc16, hr16⟩ := pol_at (hx.ext (e11.trans g13.ext)) (i := 0) xq
  refine zya 11 (o16 + 0 * 3) (n := x.n) (off := o16) (sz := 3) (i := 0) xq hA16 xq xq sl43 ?_ (hw := w1 3 false 9)
  refine zym 12 r16.cs hc16 ty82 ?_ (hw := w1 3 false 9)
  refine zzg 13 82 [r16.v] ?_ (hw := w1 3 false 9)
  intro w17 u17 e17 d17
  have k20 := k_ratSign d17 (hr16.ext e17)
  with_reducible refine zPm k20 ?_
  rintro _ u18 g19 rfl
  refine zza 14 (zB ((Nt.sgQ (l.getD 0 0)) == 0)) ?_ (hw := w1 3 false 9)
  refine zza 15 (zB ((Nt.sgQ (l.getD 0 0)) == 0)) (zzb (zzu (b := (Nt.sgQ (l.getD 0 0)) == 0) xv (fun hb => ?_) (fun hb => ?_)))
  ·exact absurd hb (by rw [show ((Nt.sgQ (l.getD 0 0)) == 0) = false from (by rw [Nt.sgQ_eq]; exact decide_eq_false hn)]; decide)
  ·clear hb
   refine zzs (zzp ?_)
   refine sq9 (zza 2 (zI 0) (zzb (zzo (ret0 [.int .i64 0] ⟨zzq, trivial⟩ fun u21 e22 => ?_))))
   rfl
set_option maxHeartbeats 4000000 in
theorem k_reflect {u w : World} {x : Sl} {l : List Rat} {D : Nat → List Rat} {K n S : Nat} (d : Dat u w) (hx : PolV u x l K) (hD : Nt.Down (Nt.trimQ l) D n S) (hK : K ≤ 10000) (hS : S ≤ 10000) (hl : l.length ≤ 40) : Calls Try.prog 33 #[x.v] w (Post u w fun v u' => ∃ y : Sl, v = .tuple #[y.v, .int .i64 0] ∧ PolN u' y (Nt.refL D n) S) := by
 have hlen := hx.len
 have hDl := hD.len
 have htl := Nt.zzh l
 refine zzm (args := [.slice x.a x.n x.c]) Try.func33 rfl Try.ntmps33 (rs := [.tmp 2, .tmp 3]) Try.results33 (le_b rfl) (le_b rfl) d ?_
 refine sq9 (zza 2 (.v (.slice none 0 0)) (zza 3 (zI 0) (zzb (zzd (sq9 (zza 12 (.v x.v) (zzg 13 54 [x.v] ?_)))))))
 intro w11 u11 e11 d11
 have k14 := k_stWrong d11 (hx.ext e11) (fun h => hD.nz ((Nt.trim_co l 0).trans h)) xq xq
 with_reducible refine zPm k14 ?_
 rintro _ u12 g13 rfl
 refine zza 4 (zI 0) (zzb (sq9 (zza 14 (zI 0) (zza 15 (zB false) (zzb (zys xv (zzs (zzp ?_))))))))
 refine sq9 (zza 17 (.v x.v) (zzg 18 55 [x.v] ?_))
 intro w15 u15 e15 d15
 have k20 := k_poTrim d15 (hx.ext (e11.trans (g13.ext.trans e15))) xq (by first | omega | (simp; done) | (simp; omega))
 with_reducible refine zPm k20 ?_
 rintro _ u18 g19 ⟨y16, rfl, h17⟩
 have hly16 := h17.len
 refine zza 5 (.v y16.v) (zzb (sq9 (zza 19 (.v y16.v) ?_)))
 have hl21 := h17.len
 obtain ⟨r21, b21, o21, hA21, hc21, hr21⟩ := pol_atN h17 (i := 0) xq
 refine zya 20 (o21 + 0 * 3) (n := y16.n) (off := o21) (sz := 3) (i := 0) xq hA21 xq xq sl43 (zym 21 r21.cs hc21 ty82 (zzk 6 ⟨82, [.bool false, .slice none 0 0, .slice none 0 0]⟩ (zzj ⟨82, r21.cs⟩ ty82 ?_)))
 refine zzb (zzd (sw_pubA (r := 6) (t := 6) [6] xj xv zv zv xv (fun b22 u23 e24 hb25 hv26 hh27 => ?_)))
 refine zzf (zza 22 (.v y16.v) (sy_fun 23 [.pointer (some ⟨b22, 0, none⟩)] ?_))
 refine zzg 24 56 [y16.v, .func (.func 57) #[] #[.pointer (some ⟨b22, 0, none⟩)]] ?_
 intro w28 u28 e28 d28
 have k37 := k_mapDn1 d28 (h17.ext (e24.trans e28)) (hr21.ext (e24.trans e28)).raw (e28.cells hh27) hD.nz xq xq xq
 with_reducible refine zPm k37 ?_
 rintro _ u35 g36 ⟨b29, L30, rfl, hb31, hh32, hL33, hR34⟩
 have hp38 : PolN u35 (⟨some ⟨b29, 0, none⟩, y16.n, y16.n⟩ : Sl) (Nt.divS (Nt.trimQ l) ((Nt.trimQ l).getD 0 0)) (K + K) := pol_data1 hh32 yq hR34 xq
 refine zzk 7 ⟨42, [.slice none 0 0]⟩ (zzj ⟨42, [.slice (some ⟨b29, 0, none⟩) y16.n y16.n]⟩ ty42 ?_)
 refine zzb (sq9 (zzi 25 (.v (.slice (some ⟨b29, 0, none⟩) y16.n y16.n)) ty42 zzl (zza 26 (zI y16.n) (zyq 27 (x := zI (IntKind.i64.wrap ((y16.n : Int) - 1))) (zI n) (eqI xk) (sy_make 28 (T := 42) (E := 82) (z := .agg #[.bool false, .slice none 0 0, .slice none 0 0]) (size := 3) (bytes := 56) n (rcs (List.replicate n rl0)) xv xv rfl rfl xq yq (made_rcs _) ?_)))))
 refine zza 8 (.slc 28 0 n n) (zzc 61 [(7, .adr 7 0), (8, .slc 28 0 n n)] [(7, ⟨42, [.slice (some ⟨b29, 0, none⟩) y16.n y16.n]⟩), (28, ⟨82, rcs (List.replicate n rl0)⟩)] (zzd (sq9 (zzi 29 (.v (.slice (some ⟨b29, 0, none⟩) y16.n y16.n)) ty42 zzl (zza 30 (zI y16.n) (zyq 31 (x := zI (IntKind.i64.wrap ((y16.n : Int) - 1))) (zI n) (eqI xk) (zzk 9 ⟨3, [.int .i64 0]⟩ (zzj ⟨3, [.int .i64 n]⟩ ty3 ?_))))))))
 refine zzb (zzt ?_)
 have hn9 : n ≤ 40 := by have h9 := Nt.zzh l; omega
 refine zyn (I := fun m39 S' u' => ∃ (m : Nat) (c : Sl) (L : List RL), (m39 = m) ∧ (m ≤ n) ∧ (L.length = n) ∧ (S' = St.of 61 [(7, .adr 7 0), (8, .slc 28 0 n n), (9, .adr 9 0)] [(7, ⟨42, [.slice c.a c.n c.c]⟩), (9, ⟨3, [.int .i64 m]⟩), (28, ⟨82, rcs L⟩)]) ∧ (Ext u35 u') ∧ (PolN u' c (D m) S) ∧ (RatsN u' (L.drop m) ((Nt.refL D n).drop m) S)) (fun m S u1 u2 e h => by obtain ⟨m, c, L, hm, p0, p1, hS, hE, f0, f1⟩ := h; exact ⟨m, c, L, hm, p0, p1, hS, hE.trans e, f0.ext e, f1.ext e⟩) _ yj ⟨n, (⟨some ⟨b29, 0, none⟩, y16.n, y16.n⟩ : Sl), List.replicate n rl0, rfl, Nat.le_refl _, zq, rfl, (Ext.refl _), (hD.fit (Nat.le_refl _) (by rw [hD.top]; exact hp38)), (RatsN.dnil zq (Nt.refL_len D n))⟩ ?_
 rintro m39 _ u39 ⟨m, c, L, hm39, hm9, hL, rfl, e39, hC, hR⟩
 have hcl := hC.len
 have hdl := hD.dlen m hm9
 refine zzd (sq9 (zzi 32 (zI m) ty3 zzl (zza 33 (zB (decide ((1 : Int) ≤ (m : Int)))) (zzb (zzu (b := decide ((1 : Int) ≤ (m : Int))) xv (fun hb40 => ?_) (fun hb40 => ?_))))))
 ·replace hb40 : (decide ((1 : Int) ≤ (m : Int))) = true := hb40
  have qhb40 := of_decide_eq_true hb40
  refine zzs (zzp ?_)
  refine zzd (zzt (sq9 (zzi 36 (.v c.v) ty42 zzl (zzi 37 (zI m) ty3 zzl ?_))))
  have hl41 := hC.len
  obtain ⟨r41, b41, o41, hA41, hc41, hr41⟩ := pol_atN hC (i := m) xq
  refine zya 38 (o41 + m * 3) (n := c.n) (off := o41) (sz := 3) (i := (m : Int)) xq hA41 xq xq sl42 (zym 39 r41.cs hc41 ty82 (zzg 40 59 [r41.v] ?_))
  intro w42 u42 e42 d42
  have k47 := k_ratTrim d42 (hr41.ext e42).raw xq
  with_reducible refine zPm k47 ?_
  rintro _ u45 g46 ⟨r43, rfl, h44⟩
  refine zzk 10 ⟨82, [.bool false, .slice none 0 0, .slice none 0 0]⟩ (zzj ⟨82, r43.cs⟩ ty82 ?_)
  refine zzb (zzd (sq9 (zzi 41 (.v (r43.v)) ty82 zze (zzg 42 60 [r43.v] ?_))))
  intro w48 u48 e48 d48
  have k51 := k_small d48 (h44.ext e48).raw xq
  with_reducible refine zPm k51 ?_
  rintro _ u49 g50 rfl
  refine zza 43 (zB (!(Nt.smallQ ((D m).getD m 0)))) (zzb (zzu (b := !(Nt.smallQ ((D m).getD m 0))) xv (fun hb => ?_) (fun hb => ?_)))
  ·exact absurd hb (by rw [show (!(Nt.smallQ ((D m).getD m 0))) = false from (by rw [hD.small m xq xq]; rfl)]; decide)
  ·clear hb
   refine zzs (zzp ?_)
   refine sq9 (zza 44 (.slc 28 0 n n) (zzi 45 (zI m) ty3 zzl (zyq 46 (x := zI (IntKind.i64.wrap ((m : Int) - 1))) (zI (m - 1 : Nat)) (eqI xk) (zzi 47 (.v (r43.v)) ty82 zze (zyw 48 (off' := (m - 1) * 3) (n := n) (off := 0) (sz := 3) (i := ((m - 1 : Nat) : Int)) sl42 xq xq xq ?_)))))
   refine zyv (V := ⟨82, rcs L⟩) (off := (m - 1) * 3) (rcs ((L).set (m - 1) r43)) ty82 yy (zyx (r := r43) (i := m - 1) yw rfl) ?_
   refine zzc 61 [(7, .adr 7 0), (8, .slc 28 0 n n), (9, .adr 9 0), (10, .adr 10 0)] [(7, ⟨42, [c.v]⟩), (9, ⟨3, [.int .i64 m]⟩), (10, ⟨82, r43.cs⟩), (28, ⟨82, rcs ((L).set (m - 1) r43)⟩)] (zzd (zzz [0, 0, 0, 7, 15, 0, 63] [(1, []), (2, []), (5, []), (0, []), (3, []), (4, []), (6, [])] xv xv (zzi 50 (.v (r43.v)) ty82 zze (zzi 51 (.v (r43.v)) ty82 zze (zzk 11 ⟨82, [.bool false, .slice none 0 0, .slice none 0 0]⟩ (zzg 49 29 [.int .i64 1] ?_))))))
   intro w52 u52 e52 d52
   have k57 := k_ratOf d52 (z := 1) xq xq
   with_reducible refine zPm k57 ?_
   rintro _ u55 g56 ⟨r53, rfl, h54⟩
   refine zzg 52 52 [r43.v, r43.v] ?_
   intro w58 u58 e58 d58
   have k63 := k_ratMul d58 (h44.ext (e48.trans (g50.ext.trans (e52.trans (g56.ext.trans e58))))).raw (h44.ext (e48.trans (g50.ext.trans (e52.trans (g56.ext.trans e58))))).raw xq xq
   with_reducible refine zPm k63 ?_
   rintro _ u61 g62 ⟨r59, rfl, h60⟩
   refine zzg 53 61 [r53.v, r59.v] ?_
   intro w64 u64 e64 d64
   have k69 := k_ratSub d64 (h54.ext (e58.trans (g62.ext.trans e64))).raw (h60.ext e64).raw xq xq
   with_reducible refine zPm k69 ?_
   rintro _ u67 g68 ⟨r65, rfl, h66⟩
   refine zzj ⟨82, r65.cs⟩ ty82 ?_
   refine zzb (sw_pubA (r := 10) (t := 10) [10] xj xv zv zv xv (fun b70 u71 e72 hb73 hv74 hh75 => ?_))
   refine sw_pubA (r := 9) (t := 9) [9] xj xv zv zv xv (fun b76 u77 e78 hb79 hv80 hh81 => ?_)
   refine sw_pubA (r := 11) (t := 11) [11] xj xv zv zv xv (fun b82 u83 e84 hb85 hv86 hh87 => ?_)
   refine sw_pubA (r := 7) (t := 7) [7] xj xv zv zv xv (fun b88 u89 e90 hb91 hv92 hh93 => ?_)
   refine sw_cut 5 ?_
   refine zyl 54 c.v (var_cell1 hh93) ty42 (zyl 55 (.int .i64 m) (var_cell1 ((e84.trans e90).cells hh81)) ty3 ?_)
   have hl94 := (hC.ext (e42.trans (g46.ext.trans (e48.trans (g50.ext.trans (e52.trans (g56.ext.trans (e58.trans (g62.ext.trans (e64.trans (g68.ext.trans (e72.trans (e78.trans (e84.trans e90)))))))))))))).len
   have hc94 := (hC.ext (e42.trans (g46.ext.trans (e48.trans (g50.ext.trans (e52.trans (g56.ext.trans (e58.trans (g62.ext.trans (e64.trans (g68.ext.trans (e72.trans (e78.trans (e84.trans e90)))))))))))))).cap
   refine sy_front 56 (n := c.n) (c := c.c) m sl42 rfl xq ?_
   refine sy_fun 57 [.pointer (some ⟨b70, 0, none⟩), .pointer (some ⟨b88, 0, none⟩), .pointer (some ⟨b76, 0, none⟩), .pointer (some ⟨b82, 0, none⟩)] ?_
   refine zzg 58 56 [.slice c.a m c.c, .func (.func 62) #[] #[.pointer (some ⟨b70, 0, none⟩), .pointer (some ⟨b88, 0, none⟩), .pointer (some ⟨b76, 0, none⟩), .pointer (some ⟨b82, 0, none⟩)]] ?_
   intro w95 u95 e95 d95
   have k104 := k_mapDn2 (m := m) d95 (hC.ext (e42.trans (g46.ext.trans (e48.trans (g50.ext.trans (e52.trans (g56.ext.trans (e58.trans (g62.ext.trans (e64.trans (g68.ext.trans (e72.trans (e78.trans (e84.trans (e90.trans e95))))))))))))))) (h44.ext (e48.trans (g50.ext.trans (e52.trans (g56.ext.trans (e58.trans (g62.ext.trans (e64.trans (g68.ext.trans (e72.trans (e78.trans (e84.trans (e90.trans e95))))))))))))).raw (h66.ext (e72.trans (e78.trans (e84.trans (e90.trans e95))))).raw ((pol_takeN (hC.ext (e42.trans (g46.ext.trans (e48.trans (g50.ext.trans (e52.trans (g56.ext.trans (e58.trans (g62.ext.trans (e64.trans (g68.ext.trans (e72.trans (e78.trans (e84.trans e90)))))))))))))) xq).ext e95) ((e78.trans (e84.trans (e90.trans e95))).cells hh75) (e95.cells hh93) ((e84.trans (e90.trans e95)).cells hh81) ((e90.trans e95).cells hh87) (Nt.small_nz (hD.small m xq xq)) (by rw [hD.dlen m xq]) rfl rfl xq xq xq (by rw [hD.dlen m xq]; omega)
   with_reducible refine zPm k104 ?_
   rintro _ u102 g103 ⟨b96, L97, rfl, hb98, hh99, hL100, hR101⟩
   refine zzx ?_
   refine sl_adoptA (r := 7) (k := 7) zv ((e95.trans g103.ext).cells hh93) hb91 xv (fun u105 eB106 => ?_)
   have hp107 : PolN u105 (⟨some ⟨b96, 0, none⟩, m, m⟩ : Sl) (Nt.dnS (D m) m) (2 * S + S + (2 + (S + S) + 1) + 1) := newR_adopt hb98 ((Ext.refl _).cells hh99) hL100 (hR101.ext (Ext.refl _)) yq (e95.cells hh93) ((e95.trans g103.ext).cells hh93) zq eB106
   refine sl_sym ?_
   refine zzj ⟨42, [.slice (some ⟨b96, 0, none⟩) m m]⟩ ty42 ?_
   refine zzx ?_
   refine zzp (zzd (sq9 (zyl 59 (.int .i64 m) (var_cell1 ((e84.trans (ExtB.old2 eB106 (e90.trans (e95.trans g103.ext)) hv92)).cells hh81)) ty3 (zzb (zzf (zzk 9 ⟨3, [.int .i64 0]⟩ (zzj ⟨3, [.int .i64 m]⟩ ty3 ?_)))))))
   refine zzb (zzf (zzi 34 (zI m) ty3 zzl (zyq 35 (x := zI (IntKind.i64.wrap ((m : Int) - 1))) (zI (m - 1 : Nat)) (eqI xk) (zzj ⟨3, [.int .i64 (m - 1 : Nat)]⟩ ty3 ?_))))
   refine zzx ?_
   refine ⟨_, ?_, _, by exact zzv _ _ _, m - 1, (⟨some ⟨b96, 0, none⟩, m, m⟩ : Sl), (L).set (m - 1) r43, rfl, by omega, by simpa using hL, rfl, (e39.trans (e42.trans (g46.ext.trans (e48.trans (g50.ext.trans (e52.trans (g56.ext.trans (e58.trans (g62.ext.trans (e64.trans (g68.ext.trans (e72.trans (e78.trans (e84.trans (ExtB.old2 eB106 (e90.trans (e95.trans g103.ext)) hv92))))))))))))))), (hD.fit xq (by rw [hD.step (m - 1) xq, show m - 1 + 1 = m by omega]; exact hp107)), (RatsN.dstep (hR.ext (e42.trans (g46.ext.trans (e48.trans (g50.ext.trans (e52.trans (g56.ext.trans (e58.trans (g62.ext.trans (e64.trans (g68.ext.trans (e72.trans (e78.trans (e84.trans (ExtB.old2 eB106 (e90.trans (e95.trans g103.ext)) hv92))))))))))))))) xq xq (by rw [Nt.refL_len]; exact hL) (by rw [Nt.refL_at D xq, show m - 1 + 1 = m by omega]; exact (h44.ext (e48.trans (g50.ext.trans (e52.trans (g56.ext.trans (e58.trans (g62.ext.trans (e64.trans (g68.ext.trans (e72.trans (e78.trans (e84.trans (ExtB.old2 eB106 (e90.trans (e95.trans g103.ext)) hv92)))))))))))))))⟩
   omega
 ·replace hb40 : (decide ((1 : Int) ≤ (m : Int))) = false := hb40
  have qhb40 := of_decide_eq_false hb40
  refine zyc (zzp (zzd ?_))
  have hm0 : m = 0 := by omega
  refine zyp (r := 8) (t := 28) [8, 28] xj xv zv zv xv (fun b108 u109 e110 hb111 hh112 => ?_)
  have hp113 : PolN u109 ⟨some ⟨b108, 0, none⟩, n, n⟩ (Nt.refL D n) S := pol_data1 hh112 yq ((RatsN.dall hR hm0).ext e110) xq
  refine zzf (zza 60 (.v (.slice (some ⟨b108, 0, none⟩) n n)) (zza 2 (.v (.slice (some ⟨b108, 0, none⟩) n n)) (zza 3 (zI 0) (zzb (zzo (ret0 [.slice (some ⟨b108, 0, none⟩) n n, .int .i64 0] ⟨zzq, zzq, trivial⟩ fun u114 e115 => ?_))))))
  exact ⟨(⟨some ⟨b108, 0, none⟩, n, n⟩ : Sl), rfl, (hp113.ext e115)⟩
theorem k_stable {u w : World} {x : Sl} {l : List Rat} {D : Nat → List Rat} {K n S : Nat} (d : Dat u w) (hx : PolV u x l K) (hD : Nt.Down (Nt.trimQ l) D n S) (hK : K ≤ 10000) (hS : S ≤ 10000) (hl : l.length ≤ 40) : Calls Try.prog 15 #[x.v] w (Post u w fun v u' => v = .tuple #[.bool true, .int .i64 0]) := by
 refine zzm (args := [.slice x.a x.n x.c]) Try.func15 rfl Try.ntmps15 (rs := [.tmp 2, .tmp 3]) Try.results15 (le_b rfl) (le_b rfl) d ?_
 refine sq9 (zza 2 (zB false) (zza 3 (zI 0) (zzb (sq9 (zza 7 (.v x.v) (zzg 8 33 [x.v] ?_))))))
 intro w11 u11 e11 d11
 have k16 := k_reflect d11 (hx.ext e11) hD xq xq xq
 with_reducible refine zPm k16 ?_
 rintro _ u14 g15 ⟨y12, rfl, h13⟩
 have hly12 := h13.len
 rw [Nt.refL_len] at hly12
 refine zza 6 (.v (.tuple #[y12.v, .int .i64 0])) (zza 9 (.v y12.v) (zza 10 (zI 0) (zza 4 (.v y12.v) (zza 5 (zI 0) (zzb (zzd (sq9 (zza 11 (zI 0) (zza 12 (zB false) (zzb (zys xv ?_)))))))))))
 refine zzs (zzp ?_)
 refine sq9 (zza 13 (zI 0) (zza 14 (zB true) (zza 15 (zI 0) (zza 2 (zB true) (zza 3 (zI 0) (zzb (zzo (ret0 [.bool true, .int .i64 0] ⟨zzq, zzq, trivial⟩ fun u17 e18 => ?_))))))))
 rfl
set_option maxHeartbeats 2000000 in
theorem k_belowN {u w : World} {x : Sl} {l : List Int} {b : Int} {n : Nat} (d : Dat u w) (hx : SlR .i64 u x.a x.n x.c l) (hb : ∀ z ∈ l, -9223372036854775808 ≤ z ∧ z ≤ 9223372036854775807) (hb0 : 0 ≤ b) (hb1 : b ≤ 16777216) (hn : n ≤ 1000) : Calls Try.prog 19 #[.int .i64 b, x.v, .int .i64 (n : Int)] w (Post u w fun v u' => ∃ (y : Sl) (m : List Int), v = y.v ∧ m.length = n ∧ SlR .i64 u' y.a y.n y.c m ∧ (∀ z ∈ m, -b ≤ z ∧ z ≤ b)) := by
 refine zzm (args := [.int .i64 b, .slice x.a x.n x.c, .int .i64 n]) Try.func19 rfl Try.ntmps19 (rs := [.tmp 6]) Try.results19 (le_b rfl) (le_b rfl) d ?_
 refine sq9 (zza 6 (.v (.slice none 0 0)) (zzb (sq9 (zza 7 (.v (.slice none 0 0)) (zzb (zzd (sq9 (zza 8 (zI 0) (zzb (zzt (zyn (I := fun m11 S' u' => (m11 = n ∧ S' = St.of 29 [(0, zI b), (1, .v (.slice x.a x.n x.c)), (2, zI n), (7, .v (.slice none 0 0)), (8, zI 0)] [] ∧ Ext u u') ∨ (∃ (i : Nat) (L : List Int) (cs : List Value) (cp : Nat), m11 = n - i ∧ i ≤ n ∧ 0 < i ∧ L.length = i ∧ cs.length = cp * 1 ∧ i ≤ cp ∧ cp ≤ maxLen ∧ cs.take (i * 1) = L.map (Value.int .i64) ∧ S' = St.of 29 [(0, zI b), (1, .v (.slice x.a x.n x.c)), (2, zI n), (7, .slc 27 0 i cp), (8, zI i)] [(27, ⟨3, cs⟩)] ∧ Ext u u' ∧ (∀ z ∈ L, -b ≤ z ∧ z ≤ b))) (fun m S u1 u2 e h => by rcases h with ⟨a, b, c⟩ | ⟨a1, a2, a3, a4, b1, b2, b3, b4, b5, b6, b7, b8, b9, b10, b11⟩; exact .inl ⟨a, b, c.trans e⟩; exact .inr ⟨a1, a2, a3, a4, b1, b2, b3, b4, b5, b6, b7, b8, b9, b10.trans e, b11⟩) _ yj (.inl ⟨rfl, rfl, Ext.refl _⟩) ?_)))))))))))
 rintro m11 _ u11 (⟨hm11, rfl, e11⟩ | ⟨i, L, cs, cp, hm11, hi, hp, hL, hc, hle, hmx, ht, rfl, e11, hP⟩)
 ·change SW _ _ _ _ (St.of 29 [(0, .v (.int .i64 b)), (1, .v (.slice x.a x.n x.c)), (2, .v (.int .i64 (n : Int))), (7, .v (.slice none 0 0)), (8, .v (.int .i64 0))] []) _ _
  refine zzd (sq9 (zza 9 (zI 0) (zza 10 (zI n) (zza 11 (zB (decide ((0 : Int) < (n : Int)))) (zzb (zzu (b := decide ((0 : Int) < (n : Int))) xv (fun hb12 => ?_) (fun hb12 => ?_)))))))
  ·replace hb12 : (decide ((0 : Int) < (n : Int))) = true := hb12
   have qhb12 := of_decide_eq_true hb12
   refine zzs (zzp ?_)
   refine zzd (zzt (zzf (zza 14 (.v (.slice none 0 0)) (zza 15 (.v x.v) (zza 16 (zI 0) (zzg 17 20 [x.v, .int .i64 0] ?_))))))
   intro w13 u13 e13 d13
   have k16 := (show Calls _ _ #[_, .int .i64 0] _ _ from k_wat (x := x) (i := 0) d13 (hx.ext (e11.trans e13)) hb xq)
   with_reducible refine zPm k16 ?_
   rintro _ u14 g15 rfl
   have hz17 := ints_bd hb xq 0
   refine zza 18 (zI b) ?_
   obtain ⟨z18, hz18, ha18, hb18⟩ := wrap64_ex ((l.getD 0 0) + b)
   refine zyq 19 (x := zI (IntKind.i64.wrap ((l.getD 0 0) + b))) (zI z18) (eqI hz18) (zza 20 (zI b) (zyq 21 (x := zI (IntKind.i64.wrap ((2 : Int) * b))) (zI ((2 : Int) * b)) yv (zyq 22 (x := zI (IntKind.i64.wrap (((2 : Int) * b) + 1))) (zI (((2 : Int) * b) + 1)) yv (zzg 23 18 [.int .i64 z18, .int .i64 (((2 : Int) * b) + 1)] ?_))))
   intro w19 u19 e19 d19
   have k25 := (show Calls _ _ #[.int .i64 z18, .int .i64 (((2 : Int) * b) + 1)] _ _ from k_withinB (n := z18) (m := ((2 : Int) * b) + 1) d19 xq xq xq xq)
   with_reducible refine zPm k25 ?_
   rintro _ u23 g24 ⟨z20, rfl, h21, h22⟩
   refine zza 24 (zI b) ?_
   obtain ⟨g26, hg26⟩ : ∃ g, z20 - b = g := ⟨_, rfl⟩
   refine zyq 25 (x := zI (IntKind.i64.wrap (z20 - b))) (zI g26) (eqI (by rw [IntWalk.i64_in _ xq]; exact hg26)) (zxx 26 ⟨3, [.int .i64 g26]⟩ 1 (fun b27 u28 e29 h30 => ?_))
   refine sy_app0 27 (T := 22) (E := 3) (z := .int .i64 0) (size := 1) (bytes := 8) (b := b27) (off := 0) (m := 1) [.int .i64 g26] xv xv xv xw rfl (lit_news ((Ext.refl _).cells h30)) (int_one _) xw xw xw ?_
   intro c31 cs31 ha31 hb31 hc31 hd31
   have hd31r : cs31.take (1 * 1) = ([g26]).map (Value.int .i64) := hd31
   refine zza 7 (.slc 27 0 1 c31) (zzx ?_)
   refine zzp (zzf (zza 12 (zI 0) (zza 13 (zI 1) (zza 8 (zI 1) (zzx ?_)))))
   refine ⟨_, ?_, _, by exact zzv _ _ _, .inr ⟨1, [g26], cs31, c31, rfl, by omega, by omega, by simp, hc31, by omega, hb31, hd31r, rfl, (e11.trans (e13.trans (g15.ext.trans (e19.trans (g24.ext.trans e29))))), (all_snoc (L := []) all_nil xq xq)⟩⟩
   omega
  ·replace hb12 : (decide ((0 : Int) < (n : Int))) = false := hb12
   have qhb12 := of_decide_eq_false hb12
   refine zyc (zzp (zzd ?_))
   have hp32 : SlR .i64 u11 none 0 0 [] := ints_nil
   refine zzf (zza 28 (.v (.slice none 0 0)) (zza 6 (.v (.slice none 0 0)) (zzb (zzo (ret0 [.slice none 0 0] ⟨zzq, trivial⟩ fun u33 e34 => ?_)))))
   exact ⟨⟨none, 0, 0⟩, [], rfl, yw, (hp32.ext e34), all_nil⟩
 ·change SW _ _ _ _ (St.of 29 [(0, .v (.int .i64 b)), (1, .v (.slice x.a x.n x.c)), (2, .v (.int .i64 (n : Int))), (7, .slc 27 0 i cp), (8, .v (.int .i64 (i : Int)))] [(27, ⟨3, cs⟩)]) _ _
  refine zzd (sq9 (zza 9 (zI i) (zza 10 (zI n) (zza 11 (zB (decide ((i : Int) < (n : Int)))) (zzb (zzu (b := decide ((i : Int) < (n : Int))) xv (fun hb35 => ?_) (fun hb35 => ?_)))))))
  ·replace hb35 : (decide ((i : Int) < (n : Int))) = true := hb35
   have qhb35 := of_decide_eq_true hb35
   refine zzs (zzp ?_)
   refine zzd (zzt (zzf (zza 14 (.slc 27 0 i cp) (zza 15 (.v x.v) (zza 16 (zI i) (zzg 17 20 [x.v, .int .i64 i] ?_))))))
   intro w36 u36 e36 d36
   have k39 := (show Calls _ _ #[_, .int .i64 (i : Int)] _ _ from k_wat (x := x) (i := i) d36 (hx.ext (e11.trans e36)) hb xq)
   with_reducible refine zPm k39 ?_
   rintro _ u37 g38 rfl
   have hz40 := ints_bd hb xq i
   refine zza 18 (zI b) ?_
   obtain ⟨z41, hz41, ha41, hb41⟩ := wrap64_ex ((l.getD i 0) + b)
   refine zyq 19 (x := zI (IntKind.i64.wrap ((l.getD i 0) + b))) (zI z41) (eqI hz41) (zza 20 (zI b) (zyq 21 (x := zI (IntKind.i64.wrap ((2 : Int) * b))) (zI ((2 : Int) * b)) yv (zyq 22 (x := zI (IntKind.i64.wrap (((2 : Int) * b) + 1))) (zI (((2 : Int) * b) + 1)) yv (zzg 23 18 [.int .i64 z41, .int .i64 (((2 : Int) * b) + 1)] ?_))))
   intro w42 u42 e42 d42
   have k48 := (show Calls _ _ #[.int .i64 z41, .int .i64 (((2 : Int) * b) + 1)] _ _ from k_withinB (n := z41) (m := ((2 : Int) * b) + 1) d42 xq xq xq xq)
   with_reducible refine zPm k48 ?_
   rintro _ u46 g47 ⟨z43, rfl, h44, h45⟩
   refine zza 24 (zI b) ?_
   obtain ⟨g49, hg49⟩ : ∃ g, z43 - b = g := ⟨_, rfl⟩
   refine zyq 25 (x := zI (IntKind.i64.wrap (z43 - b))) (zI g49) (eqI (by rw [IntWalk.i64_in _ xq]; exact hg49)) (zxx 26 ⟨3, [.int .i64 g49]⟩ 1 (fun b50 u51 e52 h53 => ?_))
   refine sy_app1 27 (T := 22) (E := 3) (z := .int .i64 0) (size := 1) (bytes := 8) (b := b50) (off := 0) (m := 1) (n := i) (cap := cp) (t := 27) (cs0 := cs) [7, 14, 27] [.int .i64 g49] xv xv xv xw rfl (lit_news ((Ext.refl _).cells h53)) (int_one _) xw yq xq xq xq xq xj ?_
   intro c54 cs54 ha54 hb54 hc54 hd54
   have hd54r : cs54.take ((i + 1) * 1) = (L ++ [g49]).map (Value.int .i64) := by rw [hd54, ht, List.map_append]; rfl
   refine zza 7 (.slc 27 0 (i + 1) c54) (zzx ?_)
   refine zzp (zzf (zza 12 (zI i) (zyq 13 (x := zI (IntKind.i64.wrap ((i : Int) + 1))) (zI (i + 1 : Nat)) (eqI xk) (zza 8 (zI (i + 1 : Nat)) (zzx ?_)))))
   refine ⟨_, ?_, _, by exact zzv _ _ _, .inr ⟨i + 1, L ++ [g49], cs54, c54, rfl, by omega, by omega, by simp; omega, hc54, by omega, hb54, hd54r, rfl, (e11.trans (e36.trans (g38.ext.trans (e42.trans (g47.ext.trans e52))))), (all_snoc (L := L) hP xq xq)⟩⟩
   omega
  ·replace hb35 : (decide ((i : Int) < (n : Int))) = false := hb35
   have qhb35 := of_decide_eq_false hb35
   refine zyc (zzp (zzd (zyp (r := 7) (t := 27) [7, 27] xj xv zv zv xv (fun b56 u57 e58 hb59 hh60 => ?_))))
   have hp55 : SlR .i64 u57 (some ⟨b56, 0, none⟩) i cp L := ints_data hh60 (by have h9 := ht; rw [Nat.mul_one] at h9; exact h9) (by have h9 := hc; rw [Nat.mul_one] at h9; exact h9) hle hmx
   refine zzf (zza 28 (.v (.slice (some ⟨b56, 0, none⟩) i cp)) (zza 6 (.v (.slice (some ⟨b56, 0, none⟩) i cp)) (zzb (zzo (ret0 [.slice (some ⟨b56, 0, none⟩) i cp] ⟨zzq, trivial⟩ fun u61 e62 => ?_)))))
   exact ⟨(⟨some ⟨b56, 0, none⟩, i, cp⟩ : Sl), L, rfl, yw, (hp55.ext e62), hP⟩
instance wdDec (W : WL) : Decidable (WdOK W) := by unfold WdOK; exact inferInstance
namespace Nt
def fitB (W : WL) (z : Int) : Bool := decide (-p2i (W.b - 1) ≤ z) && decide (z ≤ p2i (W.b - 1) - 1)
theorem fit_iff {W : WL} {z : Int} : fitB W z = true ↔ -p2i (W.b - 1) ≤ z ∧ z ≤ p2i (W.b - 1) - 1 := by unfold fitB; simp
variable {W : WL} {l m : List Int} {i : Nat}
end Nt
theorem k_modeG {u w : World} {r : Int} (d : Dat u w) : Calls Try.prog 42 #[.int .i64 r] w (Post u w fun v _ => v = .bool (decide (1 ≤ r) && decide (r ≤ 3))) := by
 refine zzm (args := [.int .i64 r]) Try.func42 rfl Try.ntmps42 (rs := [.tmp 2]) Try.results42 (le_b rfl) (le_b rfl) d ?_
 refine sq9 (zza 2 (zB false) (zzb (sq9 (zza 3 (zI r) (zza 4 (zB (decide ((1 : Int) ≤ r))) ?_)))))
 rcases Bool.eq_false_or_eq_true (decide ((1 : Int) ≤ r)) with hs11 | hs11
 ·refine zyq 5 (x := zB (decide ((1 : Int) ≤ r))) (zB true) (by rw [hs11]) ?_
  have qhs11 := of_decide_eq_true hs11
  refine zza 6 (zI r) ?_ (hw := w1 2 true 5)
  refine zza 7 (zB (decide (r ≤ 3))) ?_ (hw := w1 2 true 5)
  refine zza 8 (zB (decide (r ≤ 3))) (zza 2 (zB (decide (r ≤ 3))) (zzb (zzo (ret0 [.bool (decide (r ≤ 3))] ⟨zzq, trivial⟩ fun u12 e13 => ?_))))
  show Value.bool _ = Value.bool _
  congr 1
  rw [Bool.eq_iff_iff]
  simp
  omega
 ·refine zyq 5 (x := zB (decide ((1 : Int) ≤ r))) (zB false) (by rw [hs11]) ?_
  have qhs11 := of_decide_eq_false hs11
  refine zzn 6 (uw 2 true false 5) (zzn 7 (uw 2 true false 5) (zza 8 (zB false) (zza 2 (zB false) (zzb (zzo (ret0 [.bool false] ⟨zzq, trivial⟩ fun u14 e15 => ?_))))))
  show Value.bool _ = Value.bool _
  congr 1
  rw [Bool.eq_iff_iff]
  simp
  omega
theorem k_fxValidG {u w : World} {W : WL} (d : Dat u w) : Calls Try.prog 23 #[W.v] w (Post u w fun v _ => v = .bool (decide (WdOK W))) := by
 refine zzm (args := [.agg #[.int .i64 W.b, .int .i64 W.f, .int .i64 W.r, .int .i64 W.o]]) Try.func23 rfl Try.ntmps23 (rs := [.tmp 2]) Try.results23 (le_b rfl) (le_b rfl) d ?_
 refine sq9 (zzk 1 ⟨27, W.cs⟩ (zza 2 (zB false) (zzb (zzd (sq9 (zza 3 (.adr 1 0) (zzi 4 (zI W.b) ty3 zzl (zza 5 (zB (decide (W.b < 4))) ?_))))))))
 rcases Bool.eq_false_or_eq_true (decide (W.b < 4)) with hs11 | hs11
 ·refine zyq 6 (x := zB (decide (W.b < 4))) (zB true) (by rw [hs11]) ?_
  have qhs11 := of_decide_eq_true hs11
  refine zzn 7 (uw 3 false true 6) (zzn 8 (uw 3 false true 6) (zzn 9 (uw 3 false true 6) (zza 10 (zB true) (zza 11 (zB true) (zzn 12 (uw 8 false true 11) (zzn 13 (uw 8 false true 11) (zzn 14 (uw 8 false true 11) (zza 15 (zB true) (zza 16 (zB true) (zzn 17 (uw 13 false true 16) (zzn 18 (uw 13 false true 16) ?_)))))))))))
  refine zzn 19 (uw 13 false true 16) (zzn 20 (uw 13 false true 16) (zzn 21 (uw 13 false true 16) (zza 22 (zB true) (zzb (zyr xv (sq9 (zza 2 (zB false) (zzb (zzo (zzw (ret0 [.bool false] ⟨zzq, trivial⟩ fun u12 e13 => ?_)))))))))))
  show Value.bool _ = Value.bool _
  congr 1
  exact (decide_eq_false (by unfold WdOK; omega)).symm
 ·refine zyq 6 (x := zB (decide (W.b < 4))) (zB false) (by rw [hs11]) ?_
  have qhs11 := of_decide_eq_false hs11
  refine zza 7 (.adr 1 0) ?_ (hw := w1 3 false 6)
  refine zzi 8 (zI W.b) ty3 zzl ?_ (hw := w1 3 false 6)
  refine zza 9 (zB (decide ((24 : Int) < W.b))) ?_ (hw := w1 3 false 6)
  refine zza 10 (zB (decide ((24 : Int) < W.b))) ?_
  rcases Bool.eq_false_or_eq_true (decide ((24 : Int) < W.b)) with hs14 | hs14
  ·refine zyq 11 (x := zB (decide ((24 : Int) < W.b))) (zB true) (by rw [hs14]) ?_
   have qhs14 := of_decide_eq_true hs14
   refine zzn 12 (uw 8 false true 11) (zzn 13 (uw 8 false true 11) (zzn 14 (uw 8 false true 11) (zza 15 (zB true) (zza 16 (zB true) (zzn 17 (uw 13 false true 16) (zzn 18 (uw 13 false true 16) (zzn 19 (uw 13 false true 16) (zzn 20 (uw 13 false true 16) (zzn 21 (uw 13 false true 16) (zza 22 (zB true) (zzb ?_)))))))))))
   refine zyr xv (sq9 (zza 2 (zB false) (zzb (zzo (zzw (ret0 [.bool false] ⟨zzq, trivial⟩ fun u15 e16 => ?_))))))
   show Value.bool _ = Value.bool _
   congr 1
   exact (decide_eq_false (by unfold WdOK; omega)).symm
  ·refine zyq 11 (x := zB (decide ((24 : Int) < W.b))) (zB false) (by rw [hs14]) ?_
   have qhs14 := of_decide_eq_false hs14
   refine zza 12 (.adr 1 1) ?_ (hw := w1 8 false 11)
   refine zzi 13 (zI W.f) ty3 zzl ?_ (hw := w1 8 false 11)
   refine zza 14 (zB (decide (W.f < 0))) ?_ (hw := w1 8 false 11)
   refine zza 15 (zB (decide (W.f < 0))) ?_
   rcases Bool.eq_false_or_eq_true (decide (W.f < 0)) with hs17 | hs17
   ·refine zyq 16 (x := zB (decide (W.f < 0))) (zB true) (by rw [hs17]) ?_
    have qhs17 := of_decide_eq_true hs17
    refine zzn 17 (uw 13 false true 16) (zzn 18 (uw 13 false true 16) (zzn 19 (uw 13 false true 16) (zzn 20 (uw 13 false true 16) (zzn 21 (uw 13 false true 16) (zza 22 (zB true) (zzb (zyr xv (sq9 (zza 2 (zB false) (zzb (zzo (zzw (ret0 [.bool false] ⟨zzq, trivial⟩ fun u18 e19 => ?_)))))))))))))
    show Value.bool _ = Value.bool _
    congr 1
    exact (decide_eq_false (by unfold WdOK; omega)).symm
   ·refine zyq 16 (x := zB (decide (W.f < 0))) (zB false) (by rw [hs17]) ?_
    have qhs17 := of_decide_eq_false hs17
    refine zza 17 (.adr 1 1) ?_ (hw := w1 13 false 16)
    refine zzi 18 (zI W.f) ty3 zzl ?_ (hw := w1 13 false 16)
    refine zza 19 (.adr 1 0) ?_ (hw := w1 13 false 16)
    refine zzi 20 (zI W.b) ty3 zzl ?_ (hw := w1 13 false 16)
    refine zza 21 (zB (decide (W.b ≤ W.f))) ?_ (hw := w1 13 false 16)
    refine zza 22 (zB (decide (W.b ≤ W.f))) (zzb (zzu (b := decide (W.b ≤ W.f)) xv (fun hb20 => ?_) (fun hb20 => ?_)))
    ·replace hb20 : (decide (W.b ≤ W.f)) = true := hb20
     have qhb20 := of_decide_eq_true hb20
     refine sq9 (zza 2 (zB false) (zzb (zzo (zzw (ret0 [.bool false] ⟨zzq, trivial⟩ fun u21 e22 => ?_)))))
     show Value.bool _ = Value.bool _
     congr 1
     exact (decide_eq_false (by unfold WdOK; omega)).symm
    ·replace hb20 : (decide (W.b ≤ W.f)) = false := hb20
     have qhb20 := of_decide_eq_false hb20
     refine zzs (zzp ?_)
     refine sq9 (zza 23 (.adr 1 2) (zzi 24 (zI W.r) ty3 zzl (zzg 25 42 [.int .i64 W.r] ?_)))
     intro w23 u23 e23 d23
     have k26 := k_modeG d23 (r := W.r)
     with_reducible refine zPm k26 ?_
     rintro _ u24 g25 rfl
     rcases Bool.eq_false_or_eq_true (decide (1 ≤ W.r) && decide (W.r ≤ 3)) with hs27 | hs27
     ·refine zyq 26 (x := zB (decide (1 ≤ W.r) && decide (W.r ≤ 3))) (zB true) (by rw [hs27]) ?_
      have qhs27 := hs27
      simp at qhs27
      refine zza 27 (.adr 1 3) ?_ (hw := w1 3 true 26)
      refine zzi 28 (zI W.o) ty3 zzl ?_ (hw := w1 3 true 26)
      refine zza 29 (zB (W.o == 1)) ?_ (hw := w1 3 true 26)
      rcases Bool.eq_false_or_eq_true (W.o == 1) with hs28 | hs28
      ·refine zyq 30 (x := zB (W.o == 1)) (zB true) (by rw [hs28]) ?_ (hw := w1 3 true 26)
       have qhs28 := hs28
       simp at qhs28
       refine zzn 31 (uw 7 false true 30) (zzn 32 (uw 7 false true 30) (zzn 33 (uw 7 false true 30) (zza 34 (zB true) ?_ (hw := w1 3 true 26))))
       refine zza 35 (zB true) (zza 2 (zB true) (zzc 36 [(2, zB true)] [] (zzo (ret0 [.bool true] ⟨zzq, trivial⟩ fun u29 e30 => ?_))))
       show Value.bool _ = Value.bool _
       congr 1
       exact (decide_eq_true (by unfold WdOK; omega)).symm
      ·refine zyq 30 (x := zB (W.o == 1)) (zB false) (by rw [hs28]) ?_ (hw := w1 3 true 26)
       have qhs28 := hs28
       simp at qhs28
       refine zza 31 (.adr 1 3) ?_ (hw := w1 7 false 30)
       refine zzi 32 (zI W.o) ty3 zzl ?_ (hw := w1 7 false 30)
       refine zza 33 (zB (W.o == 2)) ?_ (hw := w1 7 false 30)
       refine zza 34 (zB (W.o == 2)) ?_ (hw := w1 3 true 26)
       refine zza 35 (zB (W.o == 2)) (zza 2 (zB (W.o == 2)) (zzc 36 [(2, zB (W.o == 2))] [] (zzo (ret0 [.bool (W.o == 2)] ⟨zzq, trivial⟩ fun u31 e32 => ?_))))
       show Value.bool _ = Value.bool _
       congr 1
       rw [Bool.eq_iff_iff]
       simp
       unfold WdOK
       omega
     ·refine zyq 26 (x := zB (decide (1 ≤ W.r) && decide (W.r ≤ 3))) (zB false) (by rw [hs27]) ?_
      have qhs27 := hs27
      simp at qhs27
      refine zzn 27 (uw 3 true false 26) (zzn 28 (uw 3 true false 26) (zzn 29 (uw 3 true false 26) (zzn 30 (uw 3 true false 26) (zzn 31 (unwantedU (g := 7) (b := false) (t := 30) xv xv xv) (zzn 32 (unwantedU (g := 7) (b := false) (t := 30) xv xv xv) (zzn 33 (unwantedU (g := 7) (b := false) (t := 30) xv xv xv) (zzn 34 (uw 3 true false 26) (zza 35 (zB false) (zza 2 (zB false) (zzc 36 [(2, zB false)] [] (zzo (ret0 [.bool false] ⟨zzq, trivial⟩ fun u33 e34 => ?_))))))))))))
      show Value.bool _ = Value.bool _
      congr 1
      exact (decide_eq_false (by unfold WdOK; omega)).symm
theorem k_fxFitsG {u w : World} {W : WL} {z : Int} (d : Dat u w) (hW : WdOK W) : Calls Try.prog 43 #[W.v, .int .i64 z] w (Post u w fun v _ => v = .bool (Nt.fitB W z)) := by
 obtain ⟨hw1, hw2, hw3, hw4, hw5, hw6, hw7, hw8⟩ := id hW
 refine zzm (args := [.agg #[.int .i64 W.b, .int .i64 W.f, .int .i64 W.r, .int .i64 W.o], .int .i64 z]) Try.func43 rfl Try.ntmps43 (rs := [.tmp 4]) Try.results43 (le_b rfl) (le_b rfl) d ?_
 refine sq9 (zzk 2 ⟨27, W.cs⟩ (zza 4 (zB false) (zzb (sq9 (zzi 5 (.v (W.v)) ty27 zze (zzg 6 23 [W.v] ?_))))))
 intro w11 u11 e11 d11
 have k14 := k_fxValid (W := W) d11 hW
 with_reducible refine zPm k14 ?_
 rintro _ u12 g13 rfl
 refine zza 7 (zB true) (zza 8 (zI z) ?_ (hw := w1 2 true 7))
 refine zzi 9 (.v (W.v)) ty27 zze ?_ (hw := w1 2 true 7)
 refine zzg 10 65 [W.v] ?_ (hw := w1 2 true 7)
 intro w15 u15 e15 d15
 have k18 := k_fxLow (W := W) d15 hW
 with_reducible refine zPm k18 ?_
 rintro _ u16 g17 rfl
 refine zza 11 (zB (decide ((-Nt.p2i (W.b - 1)) ≤ z))) ?_ (hw := w1 2 true 7)
 refine zza 12 (zB (decide ((-Nt.p2i (W.b - 1)) ≤ z))) ?_
 rcases Bool.eq_false_or_eq_true (decide ((-Nt.p2i (W.b - 1)) ≤ z)) with hs19 | hs19
 ·refine zyq 13 (x := zB (decide ((-Nt.p2i (W.b - 1)) ≤ z))) (zB true) (by rw [hs19]) ?_
  have qhs19 := of_decide_eq_true hs19
  refine zza 14 (zI z) ?_ (hw := w1 8 true 13)
  refine zzi 15 (.v (W.v)) ty27 zze ?_ (hw := w1 8 true 13)
  refine zzg 16 66 [W.v] ?_ (hw := w1 8 true 13)
  intro w20 u20 e20 d20
  have k23 := k_fxHigh (W := W) d20 hW
  with_reducible refine zPm k23 ?_
  rintro _ u21 g22 rfl
  refine zza 17 (zB (decide (z ≤ (Nt.p2i (W.b - 1) - 1)))) ?_ (hw := w1 8 true 13)
  refine zza 18 (zB (decide (z ≤ (Nt.p2i (W.b - 1) - 1)))) (zza 4 (zB (decide (z ≤ (Nt.p2i (W.b - 1) - 1)))) (zzb (zzo (ret0 [.bool (decide (z ≤ (Nt.p2i (W.b - 1) - 1)))] ⟨zzq, trivial⟩ fun u24 e25 => ?_))))
  show Value.bool _ = Value.bool _
  first | rfl | (congr 1; rw [Bool.eq_iff_iff, Nt.fit_iff]; first | (simp; done) | (simp; omega))
 ·refine zyq 13 (x := zB (decide ((-Nt.p2i (W.b - 1)) ≤ z))) (zB false) (by rw [hs19]) ?_
  have qhs19 := of_decide_eq_false hs19
  refine zzn 14 (uw 8 true false 13) (zzn 15 (uw 8 true false 13) (zzn 16 (uw 8 true false 13) (zzn 17 (uw 8 true false 13) (zza 18 (zB false) (zza 4 (zB false) (zzb (zzo (ret0 [.bool false] ⟨zzq, trivial⟩ fun u26 e27 => ?_))))))))
  show Value.bool _ = Value.bool _
  first | rfl | (congr 1; rw [Bool.eq_iff_iff, Nt.fit_iff]; first | (simp; done) | (simp; omega))
section
variable {P : Program} {ops : Array Oper} {w0 : Base} {u0 : World} {S : St} {u : World} {o : Oper} {p : List Tmp} {seq : Bool} {rest : List (Oper × List Tmp)} {K : St → World → Prop}
end
namespace Nt
structure NetOK (D W : WL) (s : Nat) (N : List (List TL)) (nx : List Int) (q : Int) : Prop where
 hd : WdOK D
 hw : WdOK W
 hs : s ≤ 64
 hn : N.length ≤ 64
 hx : nx.length = s
 ht : ∀ k, k < N.length → (N.getD k []).length ≤ 64 ∧ ∀ j, j < (N.getD k []).length → 0 ≤ ((N.getD k []).getD j tl0).f ∧ ((N.getD k []).getD j tl0).f ≤ s + k ∧ (((N.getD k []).getD j tl0).c = p2i W.f ∨ fitB W ((N.getD k []).getD j tl0).c = true)
 hr : ∀ j, j < nx.length → 0 ≤ nx.getD j 0 ∧ nx.getD j 0 ≤ s + N.length
 hq : 0 ≤ q ∧ q ≤ s + N.length
variable {D W : WL} {s : Nat} {N : List (List TL)} {nx v0 st xs vals : List Int} {q : Int} {k j : Nat} {T : List TL}
end Nt
namespace Nt
def secFit (W : WL) (p : List Int) : Bool := fitB W (p.getD 0 0) && fitB W (p.getD 1 0) && fitB W (p.getD 2 0) && (fitB W (p.getD 3 0) && fitB W (-p.getD 3 0)) && (fitB W (p.getD 4 0) && fitB W (-p.getD 4 0))
def csE (W : WL) (L : List (List Int)) : Int :=
 if ¬ WdOK W then 2 else if L.length < 1 ∨ 8 < L.length then 1 else if ∀ i, i < L.length → secFit W (L.getD i []) = true then 0 else 17
variable {D W : WL} {L : List (List Int)} {i j n k : Nat}
theorem csE_2 (h : ¬ WdOK W) : csE W L = 2 := by unfold csE; rw [if_pos h]
theorem csE_1 (hW : WdOK W) (h : L.length < 1 ∨ 8 < L.length) : csE W L = 1 := by unfold csE; rw [if_neg (not_not_intro hW), if_pos h]
theorem csE_17 (hW : WdOK W) (h1 : 1 ≤ L.length) (h8 : L.length ≤ 8) (hi : i < L.length) (h : secFit W (L.getD i []) = false) : csE W L = 17 := by
 unfold csE
 rw [if_neg (not_not_intro hW), if_neg xq, if_neg (fun k => by rw [k i hi] at h; cases h)]
theorem csE_0 (hW : WdOK W) (h1 : 1 ≤ L.length) (h8 : L.length ≤ 8) (h : ∀ i, i < L.length → secFit W (L.getD i []) = true) : csE W L = 0 := by
 unfold csE
 rw [if_neg (not_not_intro hW), if_neg xq, if_pos h]
theorem csE_ok (h : csE W L = 0) : WdOK W ∧ 1 ≤ L.length ∧ L.length ≤ 8 ∧ ∀ i, i < L.length → secFit W (L.getD i []) = true := by
 unfold csE at h
 by_cases hW : WdOK W
 ·rw [if_neg (not_not_intro hW)] at h
  by_cases hl : L.length < 1 ∨ 8 < L.length
  ·rw [if_pos hl] at h; cases h
  ·rw [if_neg hl] at h
   by_cases ha : ∀ i, i < L.length → secFit W (L.getD i []) = true
   ·exact ⟨hW, by omega, by omega, ha⟩
   ·rw [if_neg ha] at h; cases h
 ·rw [if_pos hW] at h; cases h
theorem secFit_ok (h : secFit W (L.getD i []) = true) : ∀ j, j < 5 → -p2i (W.b - 1) ≤ gi L i j ∧ gi L i j ≤ p2i (W.b - 1) - 1 := by
 unfold secFit at h
 simp only [Bool.and_eq_true] at h
 obtain ⟨⟨⟨⟨h0, h1⟩, h2⟩, h3, _⟩, h4, _⟩ := h
 intro j hj
 obtain rfl | rfl | rfl | rfl | rfl : j = 0 ∨ j = 1 ∨ j = 2 ∨ j = 3 ∨ j = 4 := by omega
 ·exact fit_iff.1 h0
 ·exact fit_iff.1 h1
 ·exact fit_iff.1 h2
 ·exact fit_iff.1 h3
 ·exact fit_iff.1 h4
end Nt
theorem k_csize {u w : World} {z : Int} (d : Dat u w) (h0 : -1000000000 ≤ z) (h1 : z ≤ 1000000000) : Calls Try.prog 32 #[.int .i64 z] w (Post u w fun v _ => v = .int .i64 (Nt.az z)) := by
 refine zzm (args := [.int .i64 z]) Try.func32 rfl Try.ntmps32 (rs := [.tmp 2]) Try.results32 (le_b rfl) (le_b rfl) d ?_
 refine sq9 (zza 2 (zI 0) (zzb (sq9 (zza 3 (zI z) (zza 4 (zI z) (zyq 5 (x := zI (IntKind.i64.wrap (0 - z))) (zI (-z)) (eqI xk) (sy_maxN 6 (n := z) (m := -z) (v := Nt.az z) (by unfold Nt.az; split <;> omega) ?_)))))))
 refine zza 2 (zI (Nt.az z)) (zzb (zzo (ret0 [.int .i64 (Nt.az z)] ⟨zzq, trivial⟩ fun u11 e12 => ?_)))
 rfl
theorem k_cdist {u w : World} {b0 b1 b2 a0 a1 : Int} (d : Dat u w) (hb1 : -16777216 ≤ b1 ∧ b1 ≤ 16777216) (hb2 : -16777216 ≤ b2 ∧ b2 ≤ 16777216) (ha0 : -16777216 ≤ a0 ∧ a0 ≤ 16777216) (ha1 : -16777216 ≤ a1 ∧ a1 ≤ 16777216) : Calls Try.prog 39 #[.agg #[.int .i64 b0, .int .i64 b1, .int .i64 b2], .agg #[.int .i64 a0, .int .i64 a1]] w (Post u w fun v _ => v = .int .i64 (Nt.distZ b1 b2 a0 a1)) := by
 refine zzm (args := [.agg #[.int .i64 b0, .int .i64 b1, .int .i64 b2], .agg #[.int .i64 a0, .int .i64 a1]]) Try.func39 rfl Try.ntmps39 (rs := [.tmp 4]) Try.results39 (le_b rfl) (le_b rfl) d ?_
 refine sq9 (zzk 2 ⟨54, [.int .i64 b0, .int .i64 b1, .int .i64 b2]⟩ (zzk 3 ⟨56, [.int .i64 a0, .int .i64 a1]⟩ (zza 4 (zI 0) (zzb (zzd (zzz [0, 1, 0, 4, 15, 31, 0, 64, 0, 256, 960, 2047, 4095, 8191] [(0, []), (1, []), (2, []), (3, []), (4, []), (6, []), (7, []), (8, []), (9, []), (10, []), (5, []), (11, []), (12, []), (13, [])] xv xv (zza 5 (.adr 2 1) (zzi 6 (zI b1) ty3 zzl (zza 7 (.adr 3 0) (zzi 8 (zI a0) ty3 zzl (zyq 9 (x := zI (IntKind.i64.wrap (b1 - a0))) (zI (b1 - a0)) yv ?_)))))))))))
 refine zza 11 (.adr 2 2) (zzi 12 (zI b2) ty3 zzl (zza 13 (.adr 3 1) (zzi 14 (zI a1) ty3 zzl (zyq 15 (x := zI (IntKind.i64.wrap (b2 - a1))) (zI (b2 - a1)) yv (zzg 10 32 [.int .i64 (b1 - a0)] ?_)))))
 intro w11 u11 e11 d11
 have k14 := k_csize (z := b1 - a0) d11 xq xq
 with_reducible refine zPm k14 ?_
 rintro _ u12 g13 rfl
 have haz15 := Nt.az_bd (z := b1 - a0) xq xq
 refine zzg 16 32 [.int .i64 (b2 - a1)] ?_
 intro w16 u16 e16 d16
 have k19 := k_csize (z := b2 - a1) d16 xq xq
 with_reducible refine zPm k19 ?_
 rintro _ u17 g18 rfl
 have haz20 := Nt.az_bd (z := b2 - a1) xq xq
 refine zyq 17 (x := zI (IntKind.i64.wrap ((Nt.az (b1 - a0)) + (Nt.az (b2 - a1))))) (zI ((Nt.az (b1 - a0)) + (Nt.az (b2 - a1)))) yv (zza 4 (zI ((Nt.az (b1 - a0)) + (Nt.az (b2 - a1)))) (zzb (zzo (ret0 [.int .i64 ((Nt.az (b1 - a0)) + (Nt.az (b2 - a1)))] ⟨zzq, trivial⟩ fun u21 e22 => ?_))))
 rfl
theorem k_ccmp {u w : World} {a0 a1 b0 b1 : Int} (d : Dat u w) (ha0 : -16777216 ≤ a0 ∧ a0 ≤ 16777216) (ha1 : -16777216 ≤ a1 ∧ a1 ≤ 16777216) (hb0 : -16777216 ≤ b0 ∧ b0 ≤ 16777216) (hb1 : -16777216 ≤ b1 ∧ b1 ≤ 16777216) : Calls Try.prog 37 #[.agg #[.int .i64 a0, .int .i64 a1], .agg #[.int .i64 b0, .int .i64 b1]] w (Post u w fun v _ => v = .int .i64 (Nt.cmpZ a0 a1 b0 b1)) := by
 refine zzm (args := [.agg #[.int .i64 a0, .int .i64 a1], .agg #[.int .i64 b0, .int .i64 b1]]) Try.func37 rfl Try.ntmps37 (rs := [.tmp 4]) Try.results37 (le_b rfl) (le_b rfl) d ?_
 refine sq9 (zzk 2 ⟨56, [.int .i64 a0, .int .i64 a1]⟩ (zzk 3 ⟨56, [.int .i64 b0, .int .i64 b1]⟩ (zza 4 (zI 0) (zzb (zzd (zzd (zzz [0, 1, 3, 0, 8, 31, 63] [(0, []), (1, []), (3, []), (4, []), (2, []), (5, []), (6, [])] xv xv (zza 5 (.adr 2 1) (zzi 6 (zI a1) ty3 zzl (zza 8 (.adr 3 1) (zzi 9 (zI b1) ty3 zzl ?_)))))))))))
 refine zzg 7 32 [.int .i64 a1] ?_
 intro w11 u11 e11 d11
 have k14 := k_csize (z := a1) d11 xq xq
 with_reducible refine zPm k14 ?_
 rintro _ u12 g13 rfl
 have haz15 := Nt.az_bd (z := a1) xq xq
 refine zzg 10 32 [.int .i64 b1] ?_
 intro w16 u16 e16 d16
 have k19 := k_csize (z := b1) d16 xq xq
 with_reducible refine zPm k19 ?_
 rintro _ u17 g18 rfl
 have haz20 := Nt.az_bd (z := b1) xq xq
 refine zza 11 (zB ((Nt.az a1) != (Nt.az b1))) (zzb (zzu (b := (Nt.az a1) != (Nt.az b1)) xv (fun hb21 => ?_) (fun hb21 => ?_)))
 ·replace hb21 : ((Nt.az a1) != (Nt.az b1)) = true := hb21
  have qhb21 := hb21
  simp at qhb21
  refine zzd (zzz [0, 1, 3, 0, 8, 31, 63, 127] [(0, []), (1, []), (3, []), (4, []), (2, []), (5, []), (6, []), (7, [])] xv xv (zza 12 (.adr 3 1) (zzi 13 (zI b1) ty3 zzl (zza 15 (.adr 2 1) (zzi 16 (zI a1) ty3 zzl (zzg 14 32 [.int .i64 b1] ?_))))))
  intro w22 u22 e22 d22
  have k25 := k_csize (z := b1) d22 xq xq
  with_reducible refine zPm k25 ?_
  rintro _ u23 g24 rfl
  have haz26 := Nt.az_bd (z := b1) xq xq
  refine zzg 17 32 [.int .i64 a1] ?_
  intro w27 u27 e27 d27
  have k30 := k_csize (z := a1) d27 xq xq
  with_reducible refine zPm k30 ?_
  rintro _ u28 g29 rfl
  have haz31 := Nt.az_bd (z := a1) xq xq
  refine zyq 18 (x := zI (IntKind.i64.wrap ((Nt.az b1) - (Nt.az a1)))) (zI ((Nt.az b1) - (Nt.az a1))) yv (zza 4 (zI ((Nt.az b1) - (Nt.az a1))) (zzb (zzo (zzw (ret0 [.int .i64 ((Nt.az b1) - (Nt.az a1))] ⟨zzq, trivial⟩ fun u32 e33 => ?_)))))
  show Value.int _ _ = Value.int _ _
  unfold Nt.cmpZ
  rw [if_neg qhb21]
 ·replace hb21 : ((Nt.az a1) != (Nt.az b1)) = false := hb21
  have qhb21 := hb21
  simp at qhb21
  refine zzs (zzp ?_)
  refine zzd (zzz [0, 1, 3, 0, 8, 31, 63, 127] [(0, []), (1, []), (3, []), (4, []), (2, []), (5, []), (6, []), (7, [])] xv xv (zza 19 (.adr 3 0) (zzi 20 (zI b0) ty3 zzl (zza 22 (.adr 2 0) (zzi 23 (zI a0) ty3 zzl (zzg 21 32 [.int .i64 b0] ?_))))))
  intro w34 u34 e34 d34
  have k37 := k_csize (z := b0) d34 xq xq
  with_reducible refine zPm k37 ?_
  rintro _ u35 g36 rfl
  have haz38 := Nt.az_bd (z := b0) xq xq
  refine zzg 24 32 [.int .i64 a0] ?_
  intro w39 u39 e39 d39
  have k42 := k_csize (z := a0) d39 xq xq
  with_reducible refine zPm k42 ?_
  rintro _ u40 g41 rfl
  have haz43 := Nt.az_bd (z := a0) xq xq
  refine zyq 25 (x := zI (IntKind.i64.wrap ((Nt.az b0) - (Nt.az a0)))) (zI ((Nt.az b0) - (Nt.az a0))) yv (zza 4 (zI ((Nt.az b0) - (Nt.az a0))) (zzb (zzo (ret0 [.int .i64 ((Nt.az b0) - (Nt.az a0))] ⟨zzq, trivial⟩ fun u44 e45 => ?_))))
  show Value.int _ _ = Value.int _ _
  unfold Nt.cmpZ
  rw [if_pos qhb21]
set_option maxHeartbeats 2000000 in
theorem k_cins {u w : World} {g n c : Nat} {L : List (List Int)} {X : List Value} (d : Dat u w) (hg : w.heap[g]? = some (.cells (kcs L ++ X).toArray 56 (0, 0))) (hu : u.heap[g]? = some hidO) (hL : OkR 2 L) (hLn : L.length = n) (hn9 : n ≤ 1000) : Calls Try.prog 87 #[.slice (some ⟨g, 0, none⟩) n c, .int .i64 0, .int .i64 (n : Int), .func (.func 37) #[] #[]] w (PostL u w g fun V u' => V = ⟨56, kcs (Nt.sortR L) ++ X⟩) := by
 refine calls_lent (args := [.int .i64 0, .int .i64 (n : Int), .func (.func 37) #[] #[]]) Try.func87 rfl Try.ntmps87 Try.results87 (le_b rfl) d hg hu ?_
 refine sq9 (zza 10 (zI 0) (zza 11 (zI 1) (zza 8 (zI 1) (zzb (zzt (zyn (I := fun m11 S' u' => ∃ (i : Nat) (L' : List (List Int)), (m11 = n - i) ∧ (1 ≤ i) ∧ (OkR 2 L') ∧ (L'.length = n) ∧ (Nt.outR L' i (n - i) = Nt.sortR L) ∧ (S' = St.of 53 [(0, .slc 53 0 n c), (1, zI 0), (2, zI n), (3, .v (.func (.func 37) #[] #[])), (8, zI i)] [(53, ⟨56, kcs L' ++ X⟩)]) ∧ (Ext u u')) (fun m S u1 u2 e h => by obtain ⟨i, L', hm, p0, p1, p2, p3, hS, hE⟩ := h; exact ⟨i, L', hm, p0, p1, p2, p3, hS, hE.trans e⟩) _ yj ⟨1, L, rfl, Nat.le_refl _, hL, hLn, (by rw [← hLn]; rfl), rfl, (Ext.refl _)⟩ ?_))))))
 rintro m11 _ u11 ⟨i, L', hm11, hi, hL', hLn', hOut, rfl, e11⟩
 refine zzd (sq9 (zza 12 (zI i) (zza 13 (zI n) (zza 14 (zB (decide ((i : Int) < (n : Int)))) (zzb (zzu (b := decide ((i : Int) < (n : Int))) xv (fun hb12 => ?_) (fun hb12 => ?_)))))))
 ·replace hb12 : (decide ((i : Int) < (n : Int))) = true := hb12
  have qhb12 := of_decide_eq_true hb12
  refine zzs (zzp ?_)
  refine zzd (zzt (sq9 (zza 17 (zI i) (zza 9 (zI i) (zzb (zzt (zyn (I := fun m13 S' u' => ∃ (j : Nat) (M : List (List Int)), (m13 = j) ∧ (j < n) ∧ (OkR 2 M) ∧ (M.length = n) ∧ (Nt.insR M j = Nt.insR L' i) ∧ (S' = St.of 53 [(0, .slc 53 0 n c), (1, zI 0), (2, zI n), (3, .v (.func (.func 37) #[] #[])), (8, zI i), (9, zI j)] [(53, ⟨56, kcs M ++ X⟩)]) ∧ (Ext u11 u')) (fun m S u1 u2 e h => by obtain ⟨j, M, hm, p0, p1, p2, p3, hS, hE⟩ := h; exact ⟨j, M, hm, p0, p1, p2, p3, hS, hE.trans e⟩) _ yj ⟨i, L', rfl, by omega, hL', hLn', rfl, rfl, (Ext.refl _)⟩ ?_)))))))
  rintro m13 _ u13 ⟨j, M, hm13, hj, hM, hMn, hIns, rfl, e13⟩
  refine zzd (zzd (zzz [0, 0, 3, 7, 15, 15, 15, 111, 239, 15, 15, 1039, 3599, 7695, 16383, 32767, 65535] [(0, []), (1, []), (2, []), (3, []), (4, []), (5, []), (6, []), (7, []), (8, []), (9, []), (10, []), (11, []), (12, []), (13, []), (14, []), (15, []), (16, [])] xv xv (zza 18 (zI j) (zza 19 (zI 0) (zza 20 (zB (decide ((0 : Int) < (j : Int)))) ?_)))))
  rcases Bool.eq_false_or_eq_true (decide ((0 : Int) < (j : Int))) with hs14 | hs14
  ·refine zyq 21 (x := zB (decide ((0 : Int) < (j : Int)))) (zB true) (by rw [hs14]) ?_
   have qhs14 := of_decide_eq_true hs14
   refine zza 22 (.v (.func (.func 37) #[] #[])) ?_ (hw := w1 3 true 21)
   refine zza 23 (.slc 53 0 n c) ?_ (hw := w1 3 true 21)
   refine zza 24 (zI j) ?_ (hw := w1 3 true 21)
   refine zyw 25 (off' := j * 2) (n := n) (off := 0) (sz := 2) (i := (j : Int)) sl57 xq xq xq ?_ (hw := w1 3 true 21)
   refine zzi 26 (V := ⟨56, kcs M ++ X⟩) (off := j * 2) (.v (.agg #[.int .i64 (gi M j 0), .int .i64 (gi M j 1)])) ty56 (part_k2 (OkR.rows hM) (i := j) (by rw [hMn]; omega) rfl) ?_ (hw := w1 3 true 21)
   have hz150 := OkR.bd hM (i := j) (j := 0) (by rw [hMn]; omega) xw
   have hz151 := OkR.bd hM (i := j) (j := 1) (by rw [hMn]; omega) xw
   refine zza 27 (.slc 53 0 n c) ?_ (hw := w1 3 true 21)
   refine zza 28 (zI j) ?_ (hw := w1 3 true 21)
   refine zyq 29 (x := zI (IntKind.i64.wrap ((j : Int) - 1))) (zI (j - 1 : Nat)) (eqI xk) ?_ (hw := w1 3 true 21)
   refine zyw 30 (off' := (j - 1) * 2) (n := n) (off := 0) (sz := 2) (i := ((j - 1 : Nat) : Int)) sl57 xq xq xq ?_ (hw := w1 3 true 21)
   refine zzi 31 (V := ⟨56, kcs M ++ X⟩) (off := (j - 1) * 2) (.v (.agg #[.int .i64 (gi M (j - 1) 0), .int .i64 (gi M (j - 1) 1)])) ty56 (part_k2 (OkR.rows hM) (i := j - 1) (by rw [hMn]; omega) rfl) ?_ (hw := w1 3 true 21)
   have hz160 := OkR.bd hM (i := j - 1) (j := 0) (by rw [hMn]; omega) xw
   have hz161 := OkR.bd hM (i := j - 1) (j := 1) (by rw [hMn]; omega) xw
   refine zzg 32 37 [.agg #[.int .i64 (gi M j 0), .int .i64 (gi M j 1)], .agg #[.int .i64 (gi M (j - 1) 0), .int .i64 (gi M (j - 1) 1)]] ?_ (hw := w1 3 true 21)
   intro w17 u17 e17 d17
   have k20 := k_ccmp (a0 := gi M j 0) (a1 := gi M j 1) (b0 := gi M (j - 1) 0) (b1 := gi M (j - 1) 1) d17 xq xq xq xq
   with_reducible refine zPm k20 ?_
   rintro _ u18 g19 rfl
   refine zza 33 (zB (decide ((Nt.cmpZ (gi M j 0) (gi M j 1) (gi M (j - 1) 0) (gi M (j - 1) 1)) < 0))) ?_ (hw := w1 3 true 21)
   refine zza 34 (zB (decide ((Nt.cmpZ (gi M j 0) (gi M j 1) (gi M (j - 1) 0) (gi M (j - 1) 1)) < 0))) (zzc 53 [(0, .slc 53 0 n c), (1, zI 0), (2, zI n), (3, .v (.func (.func 37) #[] #[])), (8, zI i), (9, zI j), (34, zB (decide ((Nt.cmpZ (gi M j 0) (gi M j 1) (gi M (j - 1) 0) (gi M (j - 1) 1)) < 0)))] [(53, ⟨56, kcs M ++ X⟩)] (zzu (b := decide ((Nt.cmpZ (gi M j 0) (gi M j 1) (gi M (j - 1) 0) (gi M (j - 1) 1)) < 0)) xv (fun hb21 => ?_) (fun hb21 => ?_)))
   ·replace hb21 : (decide ((Nt.cmpZ (gi M j 0) (gi M j 1) (gi M (j - 1) 0) (gi M (j - 1) 1)) < 0)) = true := hb21
    have qhb21 := of_decide_eq_true hb21
    refine zzs (zzp ?_)
    refine zzd (zzt (zzz [0, 0, 0, 0, 8, 0, 0, 64, 224, 480, 0, 0, 3072, 7168, 16355, 32739, 65535, 131071] [(0, []), (1, []), (2, []), (3, []), (4, []), (5, []), (6, []), (7, []), (8, []), (9, []), (10, []), (11, []), (12, []), (13, []), (14, []), (15, []), (16, []), (17, [])] xv xv (zza 37 (.slc 53 0 n c) (zza 38 (zI j) (zza 39 (.slc 53 0 n c) (zza 40 (zI j) (zyq 41 (x := zI (IntKind.i64.wrap ((j : Int) - 1))) (zI (j - 1 : Nat)) (eqI xk) (zza 42 (.slc 53 0 n c) (zza 43 (zI j) (zyq 44 (x := zI (IntKind.i64.wrap ((j : Int) - 1))) (zI (j - 1 : Nat)) (eqI xk) (zyw 45 (off' := (j - 1) * 2) (n := n) (off := 0) (sz := 2) (i := ((j - 1 : Nat) : Int)) sl57 xq xq xq ?_)))))))))))
    refine zzi 46 (V := ⟨56, kcs M ++ X⟩) (off := (j - 1) * 2) (.v (.agg #[.int .i64 (gi M (j - 1) 0), .int .i64 (gi M (j - 1) 1)])) ty56 (part_k2 (OkR.rows hM) (i := j - 1) (by rw [hMn]; omega) rfl) ?_
    have hz220 := OkR.bd hM (i := j - 1) (j := 0) (by rw [hMn]; omega) xw
    have hz221 := OkR.bd hM (i := j - 1) (j := 1) (by rw [hMn]; omega) xw
    refine zza 47 (.slc 53 0 n c) (zza 48 (zI j) (zyw 49 (off' := j * 2) (n := n) (off := 0) (sz := 2) (i := (j : Int)) sl57 xq xq xq ?_))
    refine zzi 50 (V := ⟨56, kcs M ++ X⟩) (off := j * 2) (.v (.agg #[.int .i64 (gi M j 0), .int .i64 (gi M j 1)])) ty56 (part_k2 (OkR.rows hM) (i := j) (by rw [hMn]; omega) rfl) ?_
    have hz230 := OkR.bd hM (i := j) (j := 0) (by rw [hMn]; omega) xw
    have hz231 := OkR.bd hM (i := j) (j := 1) (by rw [hMn]; omega) xw
    refine zyw 51 (off' := j * 2) (n := n) (off := 0) (sz := 2) (i := (j : Int)) sl57 xq xq xq ?_
    have hS24 : OkR 2 (M.set j [gi M (j - 1) 0, gi M (j - 1) 1]) := (OkR.set2 hM xq xq)
    have hT24 : (M.set j [gi M (j - 1) 0, gi M (j - 1) 1]).length = n := (by rw [List.length_set]; exact hMn)
    refine zyv (V := ⟨56, kcs M ++ X⟩) (off := j * 2) (kcs (M.set j [gi M (j - 1) 0, gi M (j - 1) 1]) ++ X) ty56 (by rw [List.length_append, kcs_len (OkR.rows hM), hMn]; omega) (setL_k2 (OkR.rows hM) (i := j) (by rw [hMn]; omega) rfl) ?_
    refine zyw 52 (off' := (j - 1) * 2) (n := n) (off := 0) (sz := 2) (i := ((j - 1 : Nat) : Int)) sl57 xq xq xq ?_
    have hS25 : OkR 2 ((M.set j [gi M (j - 1) 0, gi M (j - 1) 1]).set (j - 1) [gi M j 0, gi M j 1]) := (OkR.set2 hS24 xq xq)
    have hT25 : ((M.set j [gi M (j - 1) 0, gi M (j - 1) 1]).set (j - 1) [gi M j 0, gi M j 1]).length = n := (by rw [List.length_set]; exact hT24)
    refine zyv (V := ⟨56, kcs (M.set j [gi M (j - 1) 0, gi M (j - 1) 1]) ++ X⟩) (off := (j - 1) * 2) (kcs ((M.set j [gi M (j - 1) 0, gi M (j - 1) 1]).set (j - 1) [gi M j 0, gi M j 1]) ++ X) ty56 (by rw [List.length_append, kcs_len (OkR.rows hS24), hT24]; omega) (setL_k2 (OkR.rows hS24) (i := j - 1) (by rw [hT24]; omega) rfl) ?_
    refine zzx ?_
    refine zzp (zzf (zza 35 (zI j) (zyq 36 (x := zI (IntKind.i64.wrap ((j : Int) - 1))) (zI (j - 1 : Nat)) (eqI xk) (zza 9 (zI (j - 1 : Nat)) (zzx ?_)))))
    refine ⟨_, ?_, _, by exact zzv _ _ _, j - 1, ((M.set j [gi M (j - 1) 0, gi M (j - 1) 1]).set (j - 1) [gi M j 0, gi M j 1]), rfl, by omega, hS25, hT25, (by rw [← hIns, Nt.insR_go xq qhb21]; rfl), rfl, (e13.trans (e17.trans g19.ext))⟩
    omega
   ·replace hb21 : (decide ((Nt.cmpZ (gi M j 0) (gi M j 1) (gi M (j - 1) 0) (gi M (j - 1) 1)) < 0)) = false := hb21
    have qhb21 := of_decide_eq_false hb21
    refine zyc (zzp (zzf (zza 15 (zI i) (zyq 16 (x := zI (IntKind.i64.wrap ((i : Int) + 1))) (zI (i + 1 : Nat)) (eqI xk) (zza 8 (zI (i + 1 : Nat)) (zzx ?_))))))
    refine ⟨_, ?_, _, by exact zzv _ _ _, i + 1, M, rfl, by omega, hM, hMn, (by have h9 := hOut; rw [Nt.outR_step xq, ← hIns, Nt.insR_stop (fun _ => qhb21)] at h9; exact h9), rfl, (e11.trans (e13.trans (e17.trans g19.ext)))⟩
    omega
  ·refine zyq 21 (x := zB (decide ((0 : Int) < (j : Int)))) (zB false) (by rw [hs14]) ?_
   have qhs14 := of_decide_eq_false hs14
   refine zzn 22 (uw 3 true false 21) (zzn 23 (uw 3 true false 21) (zzn 24 (uw 3 true false 21) (zzn 25 (uw 3 true false 21) (zzn 26 (uw 3 true false 21) (zzn 27 (uw 3 true false 21) (zzn 28 (uw 3 true false 21) (zzn 29 (uw 3 true false 21) (zzn 30 (uw 3 true false 21) (zzn 31 (uw 3 true false 21) (zzn 32 (uw 3 true false 21) (zzn 33 (uw 3 true false 21) ?_)))))))))))
   refine zza 34 (zB false) (zzb (zys xv (zyc (zzp (zzf (zza 15 (zI i) (zyq 16 (x := zI (IntKind.i64.wrap ((i : Int) + 1))) (zI (i + 1 : Nat)) (eqI xk) (zza 8 (zI (i + 1 : Nat)) (zzx ?_)))))))))
   refine ⟨_, ?_, _, by exact zzv _ _ _, i + 1, M, rfl, by omega, hM, hMn, (by have h9 := hOut; rw [Nt.outR_step xq, ← hIns, Nt.insR_stop (fun h9 => absurd h9 xq)] at h9; exact h9), rfl, (e11.trans e13)⟩
   omega
 ·replace hb12 : (decide ((i : Int) < (n : Int))) = false := hb12
  have qhb12 := of_decide_eq_false hb12
  refine zyc ?_
  refine lent_end (V := ⟨56, kcs L' ++ X⟩) rfl rfl (fun _ _ => ?_)
  have h9 := hOut
  rw [show n - i = 0 by omega] at h9
  rw [← h9]; rfl
theorem k_cstable {u w : World} {g n c : Nat} {L : List (List Int)} {X : List Value} (d : Dat u w) (hg : w.heap[g]? = some (.cells (kcs L ++ X).toArray 56 (0, 0))) (hu : u.heap[g]? = some hidO) (hL : OkR 2 L) (hLn : L.length = n) (hn0 : 0 < n ∧ n ≤ 12) : Calls Try.prog 63 #[.slice (some ⟨g, 0, none⟩) n c, .int .i64 (n : Int), .func (.func 37) #[] #[]] w (PostL u w g fun V u' => V = ⟨56, kcs (Nt.sortR L) ++ X⟩) := by
 refine calls_lent (args := [.int .i64 (n : Int), .func (.func 37) #[] #[]]) Try.func63 rfl Try.ntmps63 Try.results63 (le_b rfl) d hg hu ?_
 refine sq9 (zza 6 (zI 20) (zzb (sq9 (zza 10 (zI 20) (zza 7 (zI 0) (zza 8 (zI 20) (zzb (zzd (zzt (sw_rounds 0 ?_))))))))))
 refine zzd (sq9 (zza 11 (zI 20) (zza 12 (zI n) (zza 13 (zB (decide ((20 : Int) ≤ (n : Int)))) (zzb (zzu (b := decide ((20 : Int) ≤ (n : Int))) xv (fun hb => ?_) (fun hb => ?_)))))))
 ·exact absurd hb (by rw [show (decide ((20 : Int) ≤ (n : Int))) = false from decide_eq_false xq]; decide)
 ·clear hb
  refine zyc (zzp (sq9 (zza 23 (.slc 63 0 n c) (zza 24 (zI 0) (zza 25 (zI n) (zza 26 (.v (.func (.func 37) #[] #[])) ?_))))))
  have kc11 := fun (g : Nat) (w u1 : World) (e : Ext u u1) (d : Dat u1 w) (hg : w.heap[g]? = some (.cells (kcs L ++ X).toArray 56 (0, 0))) (hu : u1.heap[g]? = some hidO) => k_cins (n := n) (c := c) d hg hu hL hLn xq
  refine sy_lend 27 87 (t := 63) (V := ⟨56, kcs L ++ X⟩) (len := n) (cap := c) [.int .i64 0, .int .i64 n, .func (.func 37) #[] #[]] xv kc11 ?_
  clear kc11
  rintro _ u11 e11 rfl
  refine zzc 63 [(0, .slc 63 0 n c), (1, zI n), (2, .v (.func (.func 37) #[] #[])), (6, zI 20)] [(63, ⟨56, kcs (Nt.sortR L) ++ X⟩)] (zzt (sw_rounds 0 ?_))
  refine zzd (sq9 (zza 28 (zI 20) (zza 29 (zI n) (zza 30 (zB (decide ((20 : Int) < (n : Int)))) (zzb (zzu (b := decide ((20 : Int) < (n : Int))) xv (fun hb => ?_) (fun hb => ?_)))))))
  ·exact absurd hb (by rw [show (decide ((20 : Int) < (n : Int))) = false from decide_eq_false xq]; decide)
  ·clear hb
   refine zyc ?_
   exact lent_end rfl rfl (fun _ _ => rfl)
theorem k_csort {u w : World} {g n c : Nat} {L : List (List Int)} {X : List Value} (d : Dat u w) (hg : w.heap[g]? = some (.cells (kcs L ++ X).toArray 56 (0, 0))) (hu : u.heap[g]? = some hidO) (hL : OkR 2 L) (hLn : L.length = n) (hn0 : 0 < n ∧ n ≤ 12) : Calls Try.prog 36 #[.slice (some ⟨g, 0, none⟩) n c, .func (.func 37) #[] #[]] w (PostL u w g fun V u' => V = ⟨56, kcs (Nt.sortR L) ++ X⟩) := by
 refine calls_lent (args := [.func (.func 37) #[] #[]]) Try.func36 rfl Try.ntmps36 Try.results36 (le_b rfl) d hg hu ?_
 refine zzf (zza 4 (.slc 9 0 n c) (zza 5 (.slc 9 0 n c) (zza 6 (zI n) (zza 7 (.v (.func (.func 37) #[] #[])) ?_))))
 have kc11 := fun (g : Nat) (w u1 : World) (e : Ext u u1) (d : Dat u1 w) (hg : w.heap[g]? = some (.cells (kcs L ++ X).toArray 56 (0, 0))) (hu : u1.heap[g]? = some hidO) => k_cstable (n := n) (c := c) d hg hu hL hLn xq
 refine sy_lend 8 63 (t := 9) (V := ⟨56, kcs L ++ X⟩) (len := n) (cap := c) [.int .i64 n, .func (.func 37) #[] #[]] xv kc11 ?_
 clear kc11
 rintro _ u11 e11 rfl
 refine zzx ?_
 exact lent_end rfl rfl (fun _ _ => rfl)
set_option maxHeartbeats 1000000 in
theorem k_clone2 {u w : World} {x : Sl} {L : List (List Int)} (d : Dat u w) (hx : IrV 2 u x L) (h0 : 0 < L.length) (h9 : L.length ≤ 1000000000) : Calls Try.prog 35 #[x.v] w (Post u w fun v u' => ∃ (b c : Nat) (X : List Value), v = .slice (some ⟨b, 0, none⟩) x.n c ∧ u.heap.size ≤ b ∧ u'.heap[b]? = some (.cells (kcs L ++ X).toArray 56 (0, 0)) ∧ (kcs L ++ X).length = c * 2 ∧ x.n ≤ c ∧ c ≤ maxLen) := by
 have hn := hx.len
 obtain ⟨xa, n0, c0⟩ := x
 obtain ⟨hR, h1, h2, h3, h4⟩ := hx
 change n0 = L.length at hn
 obtain ⟨b0, o0, e, hb0, hc⟩ := h4 (by show 0 < n0; omega)
 change xa = _ at e
 subst e
 change Calls _ _ #[.slice (some ⟨b0, o0, none⟩) n0 c0] _ _
 refine zzm (args := [.slice (some ⟨b0, o0, none⟩) n0 c0]) Try.func35 rfl Try.ntmps35 (rs := [.tmp 2]) Try.results35 (le_b rfl) (le_b rfl) d ?_
 refine sq9 (zza 2 (.v (.slice none 0 0)) (zzb (zzd (sq9 (zza 3 (.v (.slice (some ⟨b0, o0, none⟩) n0 c0)) (zza 4 (zB false) (zzb (zys xv (zzs (zzp ?_))))))))))
 refine sq9 (sy_lit 5 ⟨56, []⟩ 0 ?_)
 refine zza 6 (.v (.slice (some ⟨b0, o0, none⟩) n0 c0)) (sy_app1 7 (T := 57) (E := 56) (z := .agg #[.int .i64 0, .int .i64 0]) (size := 2) (bytes := 16) (b := b0) (off := o0) (m := n0) (c := c0) (n := 0) (cap := 0) (t := 5) (cs0 := []) [5, 7] (kcs L) xv xv xv xw (by rw [kcs_len hR, hn]) (fun j v hv => by have h9 := (List.getElem?_eq_some_iff.1 hv).1; rw [kcs_len hR] at h9; rw [hc j h9]; exact hv) kcs_one xq yq xq xq xw rfl xj ?_)
 intro c1 cs k1 k2 k3 k4
 refine zza 2 (.slc 7 0 (0 + n0) c1) (zzc 8 [(2, .slc 7 0 (0 + n0) c1)] [(7, ⟨56, cs⟩)] (zyp (r := 2) (t := 7) [2, 7] xj xv zv zv xv (fun b u2 e2 hb hh => ?_)))
 refine zzo (ret0 [.slice (some ⟨b, 0, none⟩) (0 + n0) c1] ⟨zzq, trivial⟩ fun u11 e12 => ?_)
 rw [Nat.zero_add] at k1 k4
 change cs.take (n0 * 2) = kcs L at k4
 have e9 : cs = kcs L ++ cs.drop (n0 * 2) := by rw [← k4]; exact (List.take_append_drop (n0 * 2) cs).symm
 refine ⟨b, c1, cs.drop (n0 * 2), ?_, hb, ?_, by rw [← e9]; exact k3, k1, k2⟩
 ·show Value.slice _ (0 + n0) _ = _; rw [Nat.zero_add]
 ·rw [← e9]; exact e12.cells hh
set_option maxHeartbeats 1000000 in
theorem k_clone3 {u w : World} {x : Sl} {L : List (List Int)} (d : Dat u w) (hx : IrV 3 u x L) (h0 : 0 < L.length) (h9 : L.length ≤ 1000000000) : Calls Try.prog 38 #[x.v] w (Post u w fun v u' => ∃ (b c : Nat) (X : List Value), v = .slice (some ⟨b, 0, none⟩) x.n c ∧ u.heap.size ≤ b ∧ u'.heap[b]? = some (.cells (kcs L ++ X).toArray 54 (0, 0)) ∧ (kcs L ++ X).length = c * 3 ∧ x.n ≤ c ∧ c ≤ maxLen) := by
 have hn := hx.len
 obtain ⟨xa, n0, c0⟩ := x
 obtain ⟨hR, h1, h2, h3, h4⟩ := hx
 change n0 = L.length at hn
 obtain ⟨b0, o0, e, hb0, hc⟩ := h4 (by show 0 < n0; omega)
 change xa = _ at e
 subst e
 change Calls _ _ #[.slice (some ⟨b0, o0, none⟩) n0 c0] _ _
 refine zzm (args := [.slice (some ⟨b0, o0, none⟩) n0 c0]) Try.func38 rfl Try.ntmps38 (rs := [.tmp 2]) Try.results38 (le_b rfl) (le_b rfl) d ?_
 refine sq9 (zza 2 (.v (.slice none 0 0)) (zzb (zzd (sq9 (zza 3 (.v (.slice (some ⟨b0, o0, none⟩) n0 c0)) (zza 4 (zB false) (zzb (zys xv (zzs (zzp ?_))))))))))
 refine sq9 (sy_lit 5 ⟨54, []⟩ 0 ?_)
 refine zza 6 (.v (.slice (some ⟨b0, o0, none⟩) n0 c0)) (sy_app1 7 (T := 55) (E := 54) (z := .agg #[.int .i64 0, .int .i64 0, .int .i64 0]) (size := 3) (bytes := 24) (b := b0) (off := o0) (m := n0) (c := c0) (n := 0) (cap := 0) (t := 5) (cs0 := []) [5, 7] (kcs L) xv xv xv xw (by rw [kcs_len hR, hn]) (fun j v hv => by have h9 := (List.getElem?_eq_some_iff.1 hv).1; rw [kcs_len hR] at h9; rw [hc j h9]; exact hv) kcs_one xq yq xq xq xw rfl xj ?_)
 intro c1 cs k1 k2 k3 k4
 refine zza 2 (.slc 7 0 (0 + n0) c1) (zzc 8 [(2, .slc 7 0 (0 + n0) c1)] [(7, ⟨54, cs⟩)] (zyp (r := 2) (t := 7) [2, 7] xj xv zv zv xv (fun b u2 e2 hb hh => ?_)))
 refine zzo (ret0 [.slice (some ⟨b, 0, none⟩) (0 + n0) c1] ⟨zzq, trivial⟩ fun u11 e12 => ?_)
 rw [Nat.zero_add] at k1 k4
 change cs.take (n0 * 3) = kcs L at k4
 have e9 : cs = kcs L ++ cs.drop (n0 * 3) := by rw [← k4]; exact (List.take_append_drop (n0 * 3) cs).symm
 refine ⟨b, c1, cs.drop (n0 * 3), ?_, hb, ?_, by rw [← e9]; exact k3, k1, k2⟩
 ·show Value.slice _ (0 + n0) _ = _; rw [Nat.zero_add]
 ·rw [← e9]; exact e12.cells hh
def Nt.smallB (l : List Int) : Bool := decide (∀ j, j < l.length → -16777216 ≤ l.getD j 0 ∧ l.getD j 0 ≤ 16777216)
theorem Nt.smallB_of {k i : Nat} {L : List (List Int)} (h : OkR k L) (hi : i < L.length) : Nt.smallB (L.getD i []) = true := decide_eq_true (fun j hj => by
 have h9 := h.bd hi (j := j) (by rw [(h.mem hi).1] at hj; exact hj)
 exact h9)
theorem k_cwithin {u w : World} {x : Sl} {l : List Int} (d : Dat u w) (hx : SlR .i64 u x.a x.n x.c l) (hb : ∀ z ∈ l, -9223372036854775808 ≤ z ∧ z ≤ 9223372036854775807) : Calls Try.prog 34 #[x.v] w (Post u w fun v _ => v = .bool (Nt.smallB l)) := by
 have hlen : l.length = x.n := hx.1
 have hmx8 := Nat.le_trans hx.2.1 hx.2.2.1
 unfold maxLen at hmx8
 refine zzm (args := [.slice x.a x.n x.c]) Try.func34 rfl Try.ntmps34 (rs := [.tmp 2]) Try.results34 (le_b rfl) (le_b rfl) d ?_
 refine sq9 (zza 2 (zB false) (zzb (zzd (sq9 (zza 5 (.v x.v) (zza 6 (zI x.n) (zza 7 (zI 0) (zzb (zzt (zyn (I := fun m11 S' u' => ∃ (i : Nat), (m11 = x.n - i) ∧ (i ≤ x.n) ∧ (∀ j, j < i → -16777216 ≤ l.getD j 0 ∧ l.getD j 0 ≤ 16777216) ∧ (S' = St.of 18 [(5, .v (.slice x.a x.n x.c)), (6, zI x.n), (7, zI i)] []) ∧ (Ext u u')) (fun m S u1 u2 e h => by obtain ⟨i, hm, p0, p1, hS, hE⟩ := h; exact ⟨i, hm, p0, p1, hS, hE.trans e⟩) _ yj ⟨0, rfl, Nat.zero_le _, fun j hj => absurd hj (Nat.not_lt_zero j), rfl, (Ext.refl _)⟩ ?_))))))))))
 rintro m11 _ u11 ⟨i, hm11, hi, hs, rfl, e11⟩
 refine sq9 (zza 8 (zB (decide ((i : Int) < (x.n : Int)))) (zzb (zzd (zzu (b := decide ((i : Int) < (x.n : Int))) xv (fun hb12 => ?_) (fun hb12 => ?_)))))
 ·replace hb12 : (decide ((i : Int) < (x.n : Int))) = true := hb12
  have qhb12 := of_decide_eq_true hb12
  refine zzs (zzp ?_)
  refine zzd (zzt (sq9 ?_))
  have hl13 := ((hx.ext e11)).1
  obtain ⟨b13, o13, hA13, hc13⟩ := ints_at (hx.ext e11) (i := i) xq
  have hz13 := ints_bd hb xq i
  refine zya 9 (o13 + i * 1) (n := x.n) (off := o13) (sz := 1) (i := (i : Int)) xq hA13 xq xq sl22 (zyl 10 (.int .i64 (l.getD i 0)) hc13 ty3 (zza 4 (zI (l.getD i 0)) (zzb (sq9 (zza 11 (zI (l.getD i 0)) (zza 12 (zB (decide ((l.getD i 0) < (-16777216)))) ?_))))))
  rcases Bool.eq_false_or_eq_true (decide ((l.getD i 0) < (-16777216))) with hs14 | hs14
  ·refine zyq 13 (x := zB (decide ((l.getD i 0) < (-16777216)))) (zB true) (by rw [hs14]) ?_
   have qhs14 := of_decide_eq_true hs14
   refine zzn 14 (uw 2 false true 13) (zzn 15 (uw 2 false true 13) (zza 16 (zB true) (zzb (zyr xv (sq9 (zza 2 (zB false) (zzb (zzo (zyu (zzw (zyt (zyu (zzw (ret0 [.bool false] ⟨zzq, trivial⟩ fun u15 e16 => ?_))))))))))))))
   show Value.bool _ = Value.bool _
   congr 1
   exact (decide_eq_false (fun k => by have h9 := k i xq; omega)).symm
  ·refine zyq 13 (x := zB (decide ((l.getD i 0) < (-16777216)))) (zB false) (by rw [hs14]) ?_
   have qhs14 := of_decide_eq_false hs14
   refine zza 14 (zI (l.getD i 0)) ?_ (hw := w1 2 false 13)
   refine zza 15 (zB (decide ((16777216 : Int) < (l.getD i 0)))) ?_ (hw := w1 2 false 13)
   refine zza 16 (zB (decide ((16777216 : Int) < (l.getD i 0)))) (zzb (zzu (b := decide ((16777216 : Int) < (l.getD i 0))) xv (fun hb17 => ?_) (fun hb17 => ?_)))
   ·replace hb17 : (decide ((16777216 : Int) < (l.getD i 0))) = true := hb17
    have qhb17 := of_decide_eq_true hb17
    refine sq9 (zza 2 (zB false) (zzb (zzo (zyu (zzw (zyt (zyu (zzw (ret0 [.bool false] ⟨zzq, trivial⟩ fun u18 e19 => ?_)))))))))
    show Value.bool _ = Value.bool _
    congr 1
    exact (decide_eq_false (fun k => by have h9 := k i xq; omega)).symm
   ·replace hb17 : (decide ((16777216 : Int) < (l.getD i 0))) = false := hb17
    have qhb17 := of_decide_eq_false hb17
    refine zzs (zzp ?_)
    refine zzf (zyq 17 (x := zI (IntKind.i64.wrap ((i : Int) + 1))) (zI (i + 1 : Nat)) (eqI xk) (zza 7 (zI (i + 1 : Nat)) (zzx ?_)))
    refine ⟨_, ?_, _, by exact zzv _ _ _, i + 1, rfl, by omega, (fun j hj => by by_cases e : j = i; (rw [e]; omega); exact hs j xq), rfl, e11⟩
    omega
 ·replace hb12 : (decide ((i : Int) < (x.n : Int))) = false := hb12
  have qhb12 := of_decide_eq_false hb12
  refine zyc (zzp (sq9 (zza 2 (zB true) (zzb (zzo (ret0 [.bool true] ⟨zzq, trivial⟩ fun u20 e21 => ?_))))))
  show Value.bool _ = Value.bool _
  congr 1
  exact (decide_eq_true (fun j hj => hs j xq)).symm
set_option maxHeartbeats 1000000 in
theorem k_cdelete {u w : World} {g n c i : Nat} {L : List (List Int)} {X : List Value} (d : Dat u w) (hg : w.heap[g]? = some (.cells (kcs L ++ X).toArray 54 (0, 0))) (hu : u.heap[g]? = some hidO) (hL : OkR 3 L) (hLn : L.length = n) (hcl : (kcs L ++ X).length = c * 3) (hi : i < n) (hnc : n ≤ c) (hn9 : n ≤ 1000) : Calls Try.prog 40 #[.slice (some ⟨g, 0, none⟩) n c, .int .i64 (i : Int), .int .i64 ((i + 1 : Nat) : Int)] w (PostS u w g c fun m V u' => m = n - 1 ∧ ∃ X', V = ⟨54, kcs (L.eraseIdx i) ++ X'⟩ ∧ (kcs (L.eraseIdx i) ++ X').length = c * 3) := by
 refine calls_lentS (args := [.int .i64 (i : Int), .int .i64 ((i + 1 : Nat) : Int)]) Try.func40 rfl Try.ntmps40 Try.results40 (le_b rfl) d hg hu ?_
 refine sq9 (zza 6 (.v (.slice none 0 0)) (zzb (sq9 (zza 8 (.slc 33 0 n c) (zza 9 (zI i) (zza 10 (zI (i + 1 : Nat)) (zza 11 (.slc 33 0 n c) (zza 12 (zI n) (sy_subO3 13 (off := 0) (n := n) (c := c) i (i + 1) n sl55 rfl rfl rfl xq xq xq (fun o11 ho11 => ?_))))))))))
 refine zzc 33 [(0, .slc 33 0 n c), (1, zI i), (2, zI (i + 1 : Nat))] [(33, ⟨54, kcs L ++ X⟩)] (zzd (sq9 (zza 14 (zI i) (zza 15 (zI (i + 1 : Nat)) (zza 16 (zB ((i : Int) == ((i + 1 : Nat) : Int))) (zzb (zzu (b := (i : Int) == ((i + 1 : Nat) : Int)) xv (fun hb => ?_) (fun hb => ?_))))))))
 ·exact absurd hb (by rw [show ((i : Int) == ((i + 1 : Nat) : Int)) = false from yz]; decide)
 ·clear hb
  refine zzs (zzp ?_)
  refine sq9 (zza 18 (.slc 33 0 n c) (zza 19 (zI n) (zza 7 (zI n) (zzc 33 [(0, .slc 33 0 n c), (1, zI i), (2, zI (i + 1 : Nat)), (7, zI n)] [(33, ⟨54, kcs L ++ X⟩)] (zzd (sw_anyC [0, 0, 3, 0, 0, 24, 63, 127] [(0, []), (1, []), (2, []), (3, []), (4, []), (5, []), (6, [])] [(7, [])] xv xv xv ?_))))))
  refine zza 20 (.slc 33 0 n c) (zza 21 (zI i) (sy_frontO 22 (n := n) (c := c) i sl55 rfl xq ?_))
  refine zza 23 (.slc 33 0 n c) (zza 24 (zI (i + 1 : Nat)) (sy_tailO 25 (off := 0) (n := n) (c := c) (i + 1) sl55 rfl xq xq (fun o13 ho13 => ?_)))
  have hdl := del_rows (X := X) (zs := ics [0, 0, 0]) (OkR.rows hL) (i := i) xq rfl (off := o13) (fun h9 => by rw [ho13, if_neg xq]; omega)
  refine sy_appT 26 (T := 55) (E := 54) (z := .agg #[.int .i64 0, .int .i64 0, .int .i64 0]) (size := 3) (bytes := 24) (off := o13) (m := n - (i + 1)) (c := c - (i + 1)) (t := 33) (n := i) (cap := c) (cs0 := kcs L ++ X) (ns := kcs (L.drop (i + 1))) xv xv hcl (by rw [ho13, hcl]; split <;> omega) xq (by have h9 := hdl.1; rw [hLn] at h9; exact h9) kcs_one ?_
  refine zzx ?_
  refine sy_over 0 (.slc 33 0 (i + (n - (i + 1))) c) (zzc 33 [(0, .slc 33 0 (i + (n - (i + 1))) c), (7, zI n)] [(33, ⟨54, setL (kcs L ++ X) (i * 3) (kcs (L.drop (i + 1)))⟩)] (sq9 (zza 27 (.slc 33 0 (i + (n - (i + 1))) c) (zza 28 (.slc 33 0 (i + (n - (i + 1))) c) (zza 29 (zI ((i + (n - (i + 1)) : Nat) : Int)) (zza 30 (zI n) (sy_subO2 31 (off := 0) (n := (i + (n - (i + 1)))) (c := c) (i + (n - (i + 1))) n sl55 rfl rfl xq xq (fun o9 ho9 => ?_))))))))
  have e9 : o9 = (L.length - 1) * 3 := by rw [ho9, if_neg xq, hLn]; omega
  refine sy_clear1 (T := 55) (E := 54) (z := .agg #[.int .i64 0, .int .i64 0, .int .i64 0]) (size := 3) (bytes := 24) (off := o9) (m := n - (i + (n - (i + 1)))) (c := c - (i + (n - (i + 1)))) (t := 33) (cs0 := setL (kcs L ++ X) (i * 3) (kcs (L.drop (i + 1)))) (zs := ics [0, 0, 0]) xv xv xq xv (by rw [e9, setL_length (by rw [kcs_len (OkR.drop hL).rows, List.length_drop, hcl, hLn]; omega), hcl]; show _ + 3 ≤ _; omega) ics_one ?_
  rw [e9, hdl.2]
  refine zzc 33 [(0, .slc 33 0 (i + (n - (i + 1))) c)] [(33, ⟨54, kcs (L.eraseIdx i) ++ (ics [0, 0, 0] ++ X)⟩)] (sq9 (zza 32 (.slc 33 0 (i + (n - (i + 1))) c) (zza 6 (.slc 33 0 (i + (n - (i + 1))) c) (zzc 33 [(6, .slc 33 0 (i + (n - (i + 1))) c)] [(33, ⟨54, kcs (L.eraseIdx i) ++ (ics [0, 0, 0] ++ X)⟩)] (zzo (lentS_ret (V := ⟨54, kcs (L.eraseIdx i) ++ (ics [0, 0, 0] ++ X)⟩) (i + (n - (i + 1))) rfl rfl zzq (fun _ _ => ⟨by omega, ics [0, 0, 0] ++ X, rfl, ?_⟩)))))))
  rw [List.length_append, kcs_len (OkR.erase hL).rows, List.length_eraseIdx, if_pos xq, List.length_append, hLn]
  rw [List.length_append, kcs_len hL.rows, hLn] at hcl
  show _ + (3 + _) = _; omega
instance {k : Nat} {L : List (List Int)} : Decidable (OkR k L) := by unfold OkR; exact inferInstance
instance {k : Nat} {L : List (List Int)} : Decidable (Rows k L) := by unfold Rows; exact inferInstance
theorem okR_fill {A : List (List Int)} {m : Nat} (h : OkR 5 A) : OkR 5 (List.replicate m [0, 0, 0, 0, 0] ++ A) := fun p hp => by
 rcases List.mem_append.1 hp with hp | hp
 ·rw [(List.mem_replicate.1 hp).2]; decide
 ·exact h p hp
theorem okR_cons5 {A : List (List Int)} {a b c d e : Int} (h : OkR 5 A) (ha : -16777216 ≤ a ∧ a ≤ 16777216) (hb : -16777216 ≤ b ∧ b ≤ 16777216) (hc : -16777216 ≤ c ∧ c ≤ 16777216) (hd : -16777216 ≤ d ∧ d ≤ 16777216) (he : -16777216 ≤ e ∧ e ≤ 16777216) : OkR 5 ([a, b, c, d, e] :: A) := fun p hp => by
 rcases List.mem_cons.1 hp with rfl | hp
 ·refine ⟨rfl, fun z hz => ?_⟩
  simp at hz
  rcases hz with rfl | rfl | rfl | rfl | rfl
  ·exact ha
  ·exact hb
  ·exact hc
  ·exact hd
  ·exact he
 ·exact h p hp
theorem Nt.best_in {Z : List (List Int)} {a b : Int} {n j : Nat} (h : 0 < n) (hj : j ≤ n) : Nt.bestR Z a b j < n := by
 cases j with
 | zero => exact h
 | succ j => have := Nt.bestR_lt (Z := Z) (a0 := a) (a1 := b) (n := j + 1) xq; omega
set_option maxHeartbeats 8000000 in
theorem k_cpair {u w : World} {x y : Sl} {Z D : List (List Int)} (d : Dat u w) (hx : IrV 3 u x Z) (hy : IrV 2 u y D) (hZ : OkR 3 Z) (hD : OkR 2 D) (hl : Z.length = D.length) (h0 : 0 < D.length) (h8 : D.length ≤ 8) : Calls Try.prog 16 #[x.v, y.v] w (Post u w fun v u' => ∃ z : Sl, v = .tuple #[z.v, .int .i64 0] ∧ IrV 5 u' z (Nt.pairR (Nt.sortR D) Z [])) := by
 have hlx := hx.len
 have hly := hy.len
 obtain ⟨ya, yn, yc⟩ := y
 change yn = D.length at hly
 obtain rfl : yn = x.n := by omega
 refine zzm (args := [.slice x.a x.n x.c, .slice ya x.n yc]) Try.func16 rfl Try.ntmps16 (rs := [.tmp 4, .tmp 5]) Try.results16 (le_b rfl) (le_b rfl) d ?_
 refine sq9 (zza 4 (.v (.slice none 0 0)) (zza 5 (zI 0) (zzb (zzd (sq9 (zza 14 (.v x.v) (zza 15 (zI x.n) (zza 16 (.v (.slice ya x.n yc)) (zza 17 (zI x.n) (zza 18 (zB ((x.n : Int) != (x.n : Int))) (zyq 19 (x := zB ((x.n : Int) != (x.n : Int))) (zB false) (by rw [show ((x.n : Int) != (x.n : Int)) = false from (by first | (simp; done) | (simp; omega))]) ?_)))))))))))
 refine zza 20 (.v x.v) ?_ (hw := w1 5 false 19)
 refine zza 21 (zI x.n) ?_ (hw := w1 5 false 19)
 refine zza 22 (zB (decide ((x.n : Int) < 1))) ?_ (hw := w1 5 false 19)
 refine zza 23 (zB (decide ((x.n : Int) < 1))) (zyq 24 (x := zB (decide ((x.n : Int) < 1))) (zB false) (by rw [show (decide ((x.n : Int) < 1)) = false from decide_eq_false xq]) (zza 25 (.v x.v) ?_ (hw := w1 10 false 24)))
 refine zza 26 (zI x.n) ?_ (hw := w1 10 false 24)
 refine zza 27 (zB (decide ((8 : Int) < (x.n : Int)))) ?_ (hw := w1 10 false 24)
 refine zza 28 (zB (decide ((8 : Int) < (x.n : Int)))) (zzb (zzu (b := decide ((8 : Int) < (x.n : Int))) xv (fun hb => ?_) (fun hb => ?_)))
 ·exact absurd hb (by rw [show (decide ((8 : Int) < (x.n : Int))) = false from decide_eq_false xq]; decide)
 ·clear hb
  refine zzs (zzp ?_)
  refine zzd (sq9 (zza 29 (.v x.v) (zza 30 (zI x.n) (zza 31 (zI 0) (zzb (zzt (zyn (I := fun m13 S' u' => ∃ (i : Nat), (m13 = x.n - i) ∧ (i ≤ x.n) ∧ (S' = St.of 105 [(0, .v (.slice x.a x.n x.c)), (1, .v (.slice ya x.n yc)), (30, zI x.n), (31, zI i)] []) ∧ (Ext u u')) (fun m S u1 u2 e h => by obtain ⟨i, hm, p0, hS, hE⟩ := h; exact ⟨i, hm, p0, hS, hE.trans e⟩) _ yj ⟨0, rfl, Nat.zero_le _, rfl, (Ext.refl _)⟩ ?_)))))))
  rintro m13 _ u13 ⟨i, hm13, hi, rfl, e13⟩
  refine sq9 (zza 32 (zB (decide ((i : Int) < (x.n : Int)))) (zzb (zzd (zzu (b := decide ((i : Int) < (x.n : Int))) xv (fun hb14 => ?_) (fun hb14 => ?_)))))
  ·replace hb14 : (decide ((i : Int) < (x.n : Int))) = true := hb14
   have qhb14 := of_decide_eq_true hb14
   refine zzs (zzp ?_)
   refine zzd (zzt (sq9 (zza 33 (zI i) (zza 6 (zI i) (zzb (sq9 (zza 34 (.v x.v) (zza 35 (zI i) ?_))))))))
   have hl15 := ((hx.ext e13)).len
   obtain ⟨b15, o15, hA15, hc15⟩ := ir_row (hx.ext e13) (i := i) xq yq
   refine zya 36 (o15 + i * 3) (n := x.n) (off := o15) (sz := 3) (i := (i : Int)) xq hA15 xq xq sl55 (zza 37 (.v (.slice (some ⟨b15, o15 + i * 3, none⟩) 3 3)) (zzg 38 34 [.slice (some ⟨b15, o15 + i * 3, none⟩) 3 3] ?_))
   intro w16 u16 e16 d16
   have k19 := (show Calls _ _ #[.slice (some ⟨b15, o15 + i * 3, none⟩) 3 3] _ _ from k_cwithin (x := (⟨some ⟨b15, o15 + i * 3, none⟩, 3, 3⟩ : Sl)) d16 (hc15.ext e16) (fun z hz => by have h9 := (OkR.mem hZ (i := i) xq).2 z hz; omega))
   with_reducible refine zPm k19 ?_
   rintro _ u17 g18 rfl
   refine zza 39 (zB (!(Nt.smallB (Z.getD i [])))) (zyq 40 (x := zB (!(Nt.smallB (Z.getD i [])))) (zB false) (by rw [show (!(Nt.smallB (Z.getD i []))) = false from (by rw [Nt.smallB_of hZ xq]; rfl)]) (zza 41 (.v (.slice ya x.n yc)) ?_ (hw := w1 6 false 40)))
   refine zza 42 (zI i) ?_ (hw := w1 6 false 40)
   have hl21 := ((hy.ext (e13.trans (e16.trans g18.ext)))).len
   change x.n = _ at hl21
   obtain ⟨b21, o21, hA21, hc21⟩ := ir_row (hy.ext (e13.trans (e16.trans g18.ext))) (i := i) xq yq
   refine zya 43 (o21 + i * 2) (n := x.n) (off := o21) (sz := 2) (i := (i : Int)) xq hA21 xq xq sl57 ?_ (hw := w1 6 false 40)
   refine zza 44 (.v (.slice (some ⟨b21, o21 + i * 2, none⟩) 2 2)) ?_ (hw := w1 6 false 40)
   refine zzg 45 34 [.slice (some ⟨b21, o21 + i * 2, none⟩) 2 2] ?_ (hw := w1 6 false 40)
   intro w22 u22 e22 d22
   have k25 := (show Calls _ _ #[.slice (some ⟨b21, o21 + i * 2, none⟩) 2 2] _ _ from k_cwithin (x := (⟨some ⟨b21, o21 + i * 2, none⟩, 2, 2⟩ : Sl)) d22 (hc21.ext e22) (fun z hz => by have h9 := (OkR.mem hD (i := i) xq).2 z hz; omega))
   with_reducible refine zPm k25 ?_
   rintro _ u23 g24 rfl
   refine zza 46 (zB (!(Nt.smallB (D.getD i [])))) ?_ (hw := w1 6 false 40)
   refine zza 47 (zB (!(Nt.smallB (D.getD i [])))) (zzc 105 [(0, .v x.v), (1, .v (.slice ya x.n yc)), (30, zI x.n), (31, zI i), (47, zB (!(Nt.smallB (D.getD i []))))] [] (zzu (b := !(Nt.smallB (D.getD i []))) xv (fun hb => ?_) (fun hb => ?_)))
   ·exact absurd hb (by rw [show (!(Nt.smallB (D.getD i []))) = false from (by rw [Nt.smallB_of hD xq]; rfl)]; decide)
   ·clear hb
    refine zzs (zzp ?_)
    refine zzf (zyq 48 (x := zI (IntKind.i64.wrap ((i : Int) + 1))) (zI (i + 1 : Nat)) (eqI xk) (zza 31 (zI (i + 1 : Nat)) (zzx ?_)))
    refine ⟨_, ?_, _, by exact zzv _ _ _, i + 1, rfl, by omega, rfl, (e13.trans (e16.trans (g18.ext.trans (e22.trans g24.ext))))⟩
    omega
  ·replace hb14 : (decide ((i : Int) < (x.n : Int))) = false := hb14
   have qhb14 := of_decide_eq_false hb14
   refine zyc (zzp (sq9 (zza 49 (.v (.slice ya x.n yc)) (zzg 50 35 [.slice ya x.n yc] ?_))))
   intro w26 u26 e26 d26
   have k37 := k_clone2 d26 (hy.ext (e13.trans e26)) xq xq
   with_reducible refine zPm k37 ?_
   rintro _ u35 g36 ⟨b27, c28, X29, rfl, hb30, hh31, hlX32, hle33, hmx34⟩
   refine zza 7 (.v (.slice (some ⟨b27, 0, none⟩) x.n c28)) (zzb (zzd (sw_adopt (r := 7) (k := 50) (cs := kcs D ++ X29) zv hh31 (Nat.le_trans ((e13.trans e26).size) hb30) xv (fun u38 eB39 => ?_))))
   refine zzf (zza 51 (.slc 50 0 x.n c28) ?_)
   have kc40 := fun (g : Nat) (w u1 : World) (e : Ext u38 u1) (d : Dat u1 w) (hg : w.heap[g]? = some (.cells (kcs D ++ X29).toArray 56 (0, 0))) (hu : u1.heap[g]? = some hidO) => k_csort (n := x.n) (c := c28) d hg hu hD (show D.length = x.n by omega) xq
   refine sy_lend 52 36 (t := 50) (V := ⟨56, kcs D ++ X29⟩) (len := x.n) (cap := c28) [.func (.func 37) #[] #[]] xv kc40 ?_
   clear kc40
   rintro _ u40 e40 rfl
   refine zzc 105 [(0, .v x.v), (7, .slc 50 0 x.n c28)] [(50, ⟨56, kcs (Nt.sortR D) ++ X29⟩)] (sq9 (zza 53 (.v x.v) (zzg 54 38 [x.v] ?_)))
   intro w41 u41 e41 d41
   have k52 := k_clone3 d41 (hx.ext (e13.trans (e26.trans ((ExtB.old eB39 g36.ext hb30).trans (e40.trans e41))))) xq xq
   with_reducible refine zPm k52 ?_
   rintro _ u50 g51 ⟨b42, c43, X44, rfl, hb45, hh46, hlX47, hle48, hmx49⟩
   refine zza 8 (.v (.slice (some ⟨b42, 0, none⟩) x.n c43)) (zzb (zzd (sw_adopt (r := 8) (k := 54) (cs := kcs Z ++ X44) zv hh46 (Nat.le_trans ((e13.trans (e26.trans ((ExtB.old eB39 g36.ext hb30).trans (e40.trans e41)))).size) hb45) xv (fun u53 eB54 => ?_))))
   refine zzf (zza 55 (.slc 50 0 x.n c28) (zza 56 (zI x.n) (sy_make 57 (T := 29) (E := 59) (z := .agg #[.int .i64 0, .int .i64 0, .int .i64 0, .int .i64 0, .int .i64 0]) (size := 5) (bytes := 40) x.n (kcs (List.replicate x.n [0, 0, 0, 0, 0] ++ []) ++ []) xv xv rfl rfl xq yq (by rw [List.append_nil, List.append_nil]; exact made_k (z := [0, 0, 0, 0, 0]) rfl xw _) ?_)))
   refine zza 9 (.slc 57 0 x.n x.n) (zzc 105 [(7, .slc 50 0 x.n c28), (8, .slc 54 0 x.n c43), (9, .slc 57 0 x.n x.n)] [(50, ⟨56, kcs (Nt.sortR D) ++ X29⟩), (54, ⟨54, kcs Z ++ X44⟩), (57, ⟨59, kcs (List.replicate x.n [0, 0, 0, 0, 0] ++ []) ++ []⟩)] (zzd (sq9 (zza 58 (.slc 50 0 x.n c28) (zza 59 (zI x.n) (zza 60 (zI 0) (zzb (zzt (zyn (I := fun m55 S' u' => ∃ (i : Nat) (Z' : List (List Int)) (X' : List Value) (A' : List (List Int)), (m55 = x.n - i) ∧ (i ≤ x.n) ∧ (OkR 3 Z') ∧ (Z'.length = x.n - i) ∧ ((kcs Z' ++ X').length = c43 * 3) ∧ (OkR 5 A') ∧ (A'.length = i) ∧ (Nt.pairR ((Nt.sortR D).drop i) Z' A' = Nt.pairR (Nt.sortR D) Z []) ∧ (S' = St.of 105 [(7, .slc 50 0 x.n c28), (8, .slc 54 0 (x.n - i) c43), (9, .slc 57 0 x.n x.n), (58, .slc 50 0 x.n c28), (59, zI x.n), (60, zI i)] [(50, ⟨56, kcs (Nt.sortR D) ++ X29⟩), (54, ⟨54, kcs Z' ++ X'⟩), (57, ⟨59, kcs (List.replicate (x.n - i) [0, 0, 0, 0, 0] ++ A') ++ []⟩)]) ∧ (Ext u53 u')) (fun m S u1 u2 e h => by obtain ⟨i, Z', X', A', hm, p0, p1, p2, p3, p4, p5, p6, hS, hE⟩ := h; exact ⟨i, Z', X', A', hm, p0, p1, p2, p3, p4, p5, p6, hS, hE.trans e⟩) _ yj ⟨0, Z, X44, [], rfl, Nat.zero_le _, hZ, xq, hlX47, (fun p hp => by cases hp), rfl, rfl, rfl, (Ext.refl _)⟩ ?_)))))))))
   rintro m55 _ u55 ⟨i, Z', X', A', hm55, hi1, hZ', hZn', hX', hA', hAn', hP', rfl, e55⟩
   have hO9 : OkR 5 (List.replicate (x.n - i) [0, 0, 0, 0, 0] ++ A') := okR_fill hA'
   have hO8 : (List.replicate (x.n - i) [0, 0, 0, 0, 0] ++ A').length = x.n := by rw [List.length_append, List.length_replicate, hAn']; omega
   refine sq9 (zza 61 (zB (decide ((i : Int) < (x.n : Int)))) (zzb (zzd (zzu (b := decide ((i : Int) < (x.n : Int))) xv (fun hb56 => ?_) (fun hb56 => ?_)))))
   ·replace hb56 : (decide ((i : Int) < (x.n : Int))) = true := hb56
    have qhb56 := of_decide_eq_true hb56
    refine zzs (zzp ?_)
    refine zzd (zzt (sq9 (zza 62 (zI i) (zyw 63 (off' := i * 2) (n := x.n) (off := 0) (sz := 2) (i := (i : Int)) sl57 xq xq xq ?_))))
    refine zzi 64 (V := ⟨56, kcs (Nt.sortR D) ++ X29⟩) (off := i * 2) (.v (.agg #[.int .i64 (gi (Nt.sortR D) i 0), .int .i64 (gi (Nt.sortR D) i 1)])) ty56 (part_k2 (OkR.rows (Nt.sortR_ok hD (by rw [(show D.length = x.n by omega)]; omega))) (i := i) (by rw [(Nt.sortR_len.trans (show D.length = x.n by omega))]; omega) rfl) ?_
    have hz570 := OkR.bd (Nt.sortR_ok hD (by rw [(show D.length = x.n by omega)]; omega)) (i := i) (j := 0) (by rw [(Nt.sortR_len.trans (show D.length = x.n by omega))]; omega) xw
    have hz571 := OkR.bd (Nt.sortR_ok hD (by rw [(show D.length = x.n by omega)]; omega)) (i := i) (j := 1) (by rw [(Nt.sortR_len.trans (show D.length = x.n by omega))]; omega) xw
    refine zzk 11 ⟨56, [.int .i64 0, .int .i64 0]⟩ (zza 10 (zI i) (zzj ⟨56, [.int .i64 (gi (Nt.sortR D) i 0), .int .i64 (gi (Nt.sortR D) i 1)]⟩ ty56 ?_))
    refine zzc 105 [(7, .slc 50 0 x.n c28), (8, .slc 54 0 (x.n - i) c43), (9, .slc 57 0 x.n x.n), (10, zI i), (11, .adr 11 0), (58, .slc 50 0 x.n c28), (59, zI x.n), (60, zI i)] [(11, ⟨56, [.int .i64 (gi (Nt.sortR D) i 0), .int .i64 (gi (Nt.sortR D) i 1)]⟩), (50, ⟨56, kcs (Nt.sortR D) ++ X29⟩), (54, ⟨54, kcs Z' ++ X'⟩), (57, ⟨59, kcs (List.replicate (x.n - i) [0, 0, 0, 0, 0] ++ A') ++ []⟩)] (sq9 (zza 12 (zI 0) (zzb (zzd (sq9 (zza 65 (.slc 54 0 (x.n - i) c43) (zza 66 (zI (x.n - i : Nat)) (zza 67 (zI 0) (zzc 105 [(7, .slc 50 0 x.n c28), (8, .slc 54 0 (x.n - i) c43), (9, .slc 57 0 x.n x.n), (10, zI i), (11, .adr 11 0), (12, zI 0), (58, .slc 50 0 x.n c28), (59, zI x.n), (60, zI i), (66, zI (x.n - i : Nat)), (67, zI 0)] [(11, ⟨56, [.int .i64 (gi (Nt.sortR D) i 0), .int .i64 (gi (Nt.sortR D) i 1)]⟩), (50, ⟨56, kcs (Nt.sortR D) ++ X29⟩), (54, ⟨54, kcs Z' ++ X'⟩), (57, ⟨59, kcs (List.replicate (x.n - i) [0, 0, 0, 0, 0] ++ A') ++ []⟩)] (zzt (zyn (I := fun m58 S' u' => ∃ (j : Nat) (m : Nat), (m58 = x.n - i - j) ∧ (j ≤ x.n - i) ∧ (m = Nt.bestR Z' (gi (Nt.sortR D) i 0) (gi (Nt.sortR D) i 1) j) ∧ (S' = St.of 105 [(7, .slc 50 0 x.n c28), (8, .slc 54 0 (x.n - i) c43), (9, .slc 57 0 x.n x.n), (10, zI i), (11, .adr 11 0), (12, zI m), (58, .slc 50 0 x.n c28), (59, zI x.n), (60, zI i), (66, zI (x.n - i : Nat)), (67, zI j)] [(11, ⟨56, [.int .i64 (gi (Nt.sortR D) i 0), .int .i64 (gi (Nt.sortR D) i 1)]⟩), (50, ⟨56, kcs (Nt.sortR D) ++ X29⟩), (54, ⟨54, kcs Z' ++ X'⟩), (57, ⟨59, kcs (List.replicate (x.n - i) [0, 0, 0, 0, 0] ++ A') ++ []⟩)]) ∧ (Ext u55 u')) (fun m S u1 u2 e h => by obtain ⟨j, m, hm, p0, p1, hS, hE⟩ := h; exact ⟨j, m, hm, p0, p1, hS, hE.trans e⟩) _ yj ⟨0, 0, rfl, Nat.zero_le _, rfl, rfl, (Ext.refl _)⟩ ?_)))))))))))
    rintro m58 _ u58 ⟨j, m, hm58, hj, hm, rfl, e58⟩
    have hmL : m < x.n - i := by rw [hm]; exact Nt.best_in xq hj
    refine sq9 (zza 68 (zB (decide ((j : Int) < ((x.n - i : Nat) : Int)))) (zzb (zzd (zzu (b := decide ((j : Int) < ((x.n - i : Nat) : Int))) xv (fun hb59 => ?_) (fun hb59 => ?_)))))
    ·replace hb59 : (decide ((j : Int) < ((x.n - i : Nat) : Int))) = true := hb59
     have qhb59 := of_decide_eq_true hb59
     refine zzs (zzp ?_)
     refine zzd (zzt (sq9 (zza 69 (zI j) (zza 13 (zI j) (zzb (zzd (zzz [0, 0, 3, 7, 0, 31, 0, 0, 192, 448, 0, 2047, 4095] [(0, []), (1, []), (2, []), (3, []), (4, []), (6, []), (7, []), (8, []), (9, []), (10, []), (5, []), (11, []), (12, [])] xv xv (zza 70 (.slc 54 0 (x.n - i) c43) (zza 71 (zI j) (zyw 72 (off' := j * 3) (n := (x.n - i)) (off := 0) (sz := 3) (i := (j : Int)) sl55 xq xq xq ?_))))))))))
     refine zzi 73 (V := ⟨54, kcs Z' ++ X'⟩) (off := j * 3) (.v (.agg #[.int .i64 (gi Z' j 0), .int .i64 (gi Z' j 1), .int .i64 (gi Z' j 2)])) ty54 (part_k3 (OkR.rows hZ') (i := j) (by rw [hZn']; omega) rfl) ?_
     have hz600 := OkR.bd hZ' (i := j) (j := 0) (by rw [hZn']; omega) xw
     have hz601 := OkR.bd hZ' (i := j) (j := 1) (by rw [hZn']; omega) xw
     have hz602 := OkR.bd hZ' (i := j) (j := 2) (by rw [hZn']; omega) xw
     refine zzi 74 (.v (.agg #[.int .i64 (gi (Nt.sortR D) i 0), .int .i64 (gi (Nt.sortR D) i 1)])) ty56 zze (zza 76 (.slc 54 0 (x.n - i) c43) (zza 77 (zI m) (zyw 78 (off' := m * 3) (n := (x.n - i)) (off := 0) (sz := 3) (i := (m : Int)) sl55 xq xq xq ?_)))
     refine zzi 79 (V := ⟨54, kcs Z' ++ X'⟩) (off := m * 3) (.v (.agg #[.int .i64 (gi Z' m 0), .int .i64 (gi Z' m 1), .int .i64 (gi Z' m 2)])) ty54 (part_k3 (OkR.rows hZ') (i := m) (by rw [hZn']; omega) rfl) ?_
     have hz610 := OkR.bd hZ' (i := m) (j := 0) (by rw [hZn']; omega) xw
     have hz611 := OkR.bd hZ' (i := m) (j := 1) (by rw [hZn']; omega) xw
     have hz612 := OkR.bd hZ' (i := m) (j := 2) (by rw [hZn']; omega) xw
     refine zzi 80 (.v (.agg #[.int .i64 (gi (Nt.sortR D) i 0), .int .i64 (gi (Nt.sortR D) i 1)])) ty56 zze (zzg 75 39 [.agg #[.int .i64 (gi Z' j 0), .int .i64 (gi Z' j 1), .int .i64 (gi Z' j 2)], .agg #[.int .i64 (gi (Nt.sortR D) i 0), .int .i64 (gi (Nt.sortR D) i 1)]] ?_)
     intro w62 u62 e62 d62
     have k65 := k_cdist (b0 := gi Z' j 0) (b1 := gi Z' j 1) (b2 := gi Z' j 2) (a0 := gi (Nt.sortR D) i 0) (a1 := gi (Nt.sortR D) i 1) d62 xq xq xq xq
     with_reducible refine zPm k65 ?_
     rintro _ u63 g64 rfl
     have hdz66 := Nt.dist_bd (b1 := gi Z' j 1) (b2 := gi Z' j 2) (a0 := gi (Nt.sortR D) i 0) (a1 := gi (Nt.sortR D) i 1) xq xq xq xq
     refine zzg 81 39 [.agg #[.int .i64 (gi Z' m 0), .int .i64 (gi Z' m 1), .int .i64 (gi Z' m 2)], .agg #[.int .i64 (gi (Nt.sortR D) i 0), .int .i64 (gi (Nt.sortR D) i 1)]] ?_
     intro w67 u67 e67 d67
     have k70 := k_cdist (b0 := gi Z' m 0) (b1 := gi Z' m 1) (b2 := gi Z' m 2) (a0 := gi (Nt.sortR D) i 0) (a1 := gi (Nt.sortR D) i 1) d67 xq xq xq xq
     with_reducible refine zPm k70 ?_
     rintro _ u68 g69 rfl
     have hdz71 := Nt.dist_bd (b1 := gi Z' m 1) (b2 := gi Z' m 2) (a0 := gi (Nt.sortR D) i 0) (a1 := gi (Nt.sortR D) i 1) xq xq xq xq
     refine zza 82 (zB (decide ((Nt.distZ (gi Z' j 1) (gi Z' j 2) (gi (Nt.sortR D) i 0) (gi (Nt.sortR D) i 1)) < (Nt.distZ (gi Z' m 1) (gi Z' m 2) (gi (Nt.sortR D) i 0) (gi (Nt.sortR D) i 1))))) (zzc 105 [(7, .slc 50 0 x.n c28), (8, .slc 54 0 (x.n - i) c43), (9, .slc 57 0 x.n x.n), (10, zI i), (11, .adr 11 0), (12, zI m), (13, zI j), (58, .slc 50 0 x.n c28), (59, zI x.n), (60, zI i), (66, zI (x.n - i : Nat)), (67, zI j), (82, zB (decide ((Nt.distZ (gi Z' j 1) (gi Z' j 2) (gi (Nt.sortR D) i 0) (gi (Nt.sortR D) i 1)) < (Nt.distZ (gi Z' m 1) (gi Z' m 2) (gi (Nt.sortR D) i 0) (gi (Nt.sortR D) i 1)))))] [(11, ⟨56, [.int .i64 (gi (Nt.sortR D) i 0), .int .i64 (gi (Nt.sortR D) i 1)]⟩), (50, ⟨56, kcs (Nt.sortR D) ++ X29⟩), (54, ⟨54, kcs Z' ++ X'⟩), (57, ⟨59, kcs (List.replicate (x.n - i) [0, 0, 0, 0, 0] ++ A') ++ []⟩)] (zzu (b := decide ((Nt.distZ (gi Z' j 1) (gi Z' j 2) (gi (Nt.sortR D) i 0) (gi (Nt.sortR D) i 1)) < (Nt.distZ (gi Z' m 1) (gi Z' m 2) (gi (Nt.sortR D) i 0) (gi (Nt.sortR D) i 1)))) xv (fun hb72 => ?_) (fun hb72 => ?_)))
     ·replace hb72 : (decide ((Nt.distZ (gi Z' j 1) (gi Z' j 2) (gi (Nt.sortR D) i 0) (gi (Nt.sortR D) i 1)) < (Nt.distZ (gi Z' m 1) (gi Z' m 2) (gi (Nt.sortR D) i 0) (gi (Nt.sortR D) i 1)))) = true := hb72
      have qhb72 := of_decide_eq_true hb72
      refine zzf (zza 83 (zI j) (zza 12 (zI j) (zzx ?_)))
      refine zzp (zzf (zyq 84 (x := zI (IntKind.i64.wrap ((j : Int) + 1))) (zI (j + 1 : Nat)) (eqI xk) (zza 67 (zI (j + 1 : Nat)) (zzx ?_))))
      refine ⟨_, ?_, _, by exact zzv _ _ _, j + 1, j, rfl, by omega, (by have h9 := qhb72; rw [hm] at h9; exact (Nt.best_yes h9).symm), rfl, (e58.trans (e62.trans (g64.ext.trans (e67.trans g69.ext))))⟩
      omega
     ·replace hb72 : (decide ((Nt.distZ (gi Z' j 1) (gi Z' j 2) (gi (Nt.sortR D) i 0) (gi (Nt.sortR D) i 1)) < (Nt.distZ (gi Z' m 1) (gi Z' m 2) (gi (Nt.sortR D) i 0) (gi (Nt.sortR D) i 1)))) = false := hb72
      have qhb72 := of_decide_eq_false hb72
      refine zzs (zzp ?_)
      refine zzf (zyq 84 (x := zI (IntKind.i64.wrap ((j : Int) + 1))) (zI (j + 1 : Nat)) (eqI xk) (zza 67 (zI (j + 1 : Nat)) (zzx ?_)))
      refine ⟨_, ?_, _, by exact zzv _ _ _, j + 1, m, rfl, by omega, (by have h9 := qhb72; rw [hm] at h9; exact hm.trans (Nt.best_no h9).symm), rfl, (e58.trans (e62.trans (g64.ext.trans (e67.trans g69.ext))))⟩
      omega
    ·replace hb59 : (decide ((j : Int) < ((x.n - i : Nat) : Int))) = false := hb59
     have qhb59 := of_decide_eq_false hb59
     refine zyc (zzp (zzd (zzz [0, 0, 2, 6, 0, 30, 0, 0, 192, 448, 0, 1984, 4095, 8191] [(0, []), (1, []), (2, []), (3, []), (4, []), (5, []), (6, []), (7, []), (8, []), (9, []), (10, []), (11, []), (12, []), (13, [])] xv xv (zza 85 (.slc 57 0 x.n x.n) (zza 86 (.slc 50 0 x.n c28) (zza 87 (zI x.n) (zyq 88 (x := zI (IntKind.i64.wrap ((x.n : Int) - 1))) (zI (x.n - 1 : Nat)) (eqI xk) (zza 89 (zI i) (zyq 90 (x := zI (IntKind.i64.wrap (((x.n - 1 : Nat) : Int) - (i : Int)))) (zI (((x.n - 1) - i : Nat) : Int)) (eqI xk) (zza 91 (.slc 54 0 (x.n - i) c43) (zza 92 (zI m) ?_)))))))))))
     refine zyw 93 (off' := m * 3) (n := (x.n - i)) (off := 0) (sz := 3) (i := (m : Int)) sl55 xq xq xq ?_
     refine zzi 94 (V := ⟨54, kcs Z' ++ X'⟩) (off := m * 3) (.v (.agg #[.int .i64 (gi Z' m 0), .int .i64 (gi Z' m 1), .int .i64 (gi Z' m 2)])) ty54 (part_k3 (OkR.rows hZ') (i := m) (by rw [hZn']; omega) rfl) ?_
     have hz730 := OkR.bd hZ' (i := m) (j := 0) (by rw [hZn']; omega) xw
     have hz731 := OkR.bd hZ' (i := m) (j := 1) (by rw [hZn']; omega) xw
     have hz732 := OkR.bd hZ' (i := m) (j := 2) (by rw [hZn']; omega) xw
     refine zzi 95 (.v (.agg #[.int .i64 (gi (Nt.sortR D) i 0), .int .i64 (gi (Nt.sortR D) i 1)])) ty56 zze (zza 96 (.v (.agg #[.int .i64 (gi Z' m 0), .int .i64 (gi Z' m 1), .int .i64 (gi Z' m 2), .int .i64 (gi (Nt.sortR D) i 0), .int .i64 (gi (Nt.sortR D) i 1)])) (zyw 97 (off' := ((x.n - 1) - i) * 5) (n := x.n) (off := 0) (sz := 5) (i := (((x.n - 1) - i : Nat) : Int)) sl29 xq xq xq ?_))
     have hA74 : OkR 5 ([gi Z' m 0, gi Z' m 1, gi Z' m 2, gi (Nt.sortR D) i 0, gi (Nt.sortR D) i 1] :: A') := okR_cons5 hA' xq xq xq xq xq
     have hO74 : OkR 5 (List.replicate (x.n - (i + 1)) [0, 0, 0, 0, 0] ++ ([gi Z' m 0, gi Z' m 1, gi Z' m 2, gi (Nt.sortR D) i 0, gi (Nt.sortR D) i 1] :: A')) := okR_fill hA74
     have hP74 : (List.replicate (x.n - (i + 1)) [0, 0, 0, 0, 0] ++ ([gi Z' m 0, gi Z' m 1, gi Z' m 2, gi (Nt.sortR D) i 0, gi (Nt.sortR D) i 1] :: A')).length = x.n := by rw [List.length_append, List.length_replicate, List.length_cons, hAn']; omega
     refine zyv (V := ⟨59, kcs (List.replicate (x.n - i) [0, 0, 0, 0, 0] ++ A') ++ []⟩) (off := ((x.n - 1) - i) * 5) (kcs (List.replicate (x.n - (i + 1)) [0, 0, 0, 0, 0] ++ ([gi Z' m 0, gi Z' m 1, gi Z' m 2, gi (Nt.sortR D) i 0, gi (Nt.sortR D) i 1] :: A')) ++ []) ty59 (by rw [List.length_append, kcs_len (OkR.rows hO9), hO8]; omega) (by rw [← Nt.fill_back (z := [0, 0, 0, 0, 0]) (show i < x.n by omega) [gi Z' m 0, gi Z' m 1, gi Z' m 2, gi (Nt.sortR D) i 0, gi (Nt.sortR D) i 1]]; exact (setL_k5 (OkR.rows hO9) (i := (x.n - 1) - i) (by rw [hO8]; omega) rfl)) ?_
     refine zzc 105 [(7, .slc 50 0 x.n c28), (8, .slc 54 0 (x.n - i) c43), (9, .slc 57 0 x.n x.n), (12, zI m), (58, .slc 50 0 x.n c28), (59, zI x.n), (60, zI i)] [(50, ⟨56, kcs (Nt.sortR D) ++ X29⟩), (54, ⟨54, kcs Z' ++ X'⟩), (57, ⟨59, kcs (List.replicate (x.n - (i + 1)) [0, 0, 0, 0, 0] ++ ([gi Z' m 0, gi Z' m 1, gi Z' m 2, gi (Nt.sortR D) i 0, gi (Nt.sortR D) i 1] :: A')) ++ []⟩)] (zzf (zza 98 (.slc 54 0 (x.n - i) c43) (zza 99 (zI m) (zza 100 (zI m) (zyq 101 (x := zI (IntKind.i64.wrap ((m : Int) + 1))) (zI (m + 1 : Nat)) (eqI xk) ?_)))))
     have kc75 := fun (g : Nat) (w u1 : World) (e : Ext u58 u1) (d : Dat u1 w) (hg : w.heap[g]? = some (.cells (kcs Z' ++ X').toArray 54 (0, 0))) (hu : u1.heap[g]? = some hidO) => k_cdelete (n := x.n - i) (c := c43) (i := m) d hg hu hZ' hZn' hX' xq xq xq
     refine sy_lendS 102 40 (t := 54) (V := ⟨54, kcs Z' ++ X'⟩) (len := (x.n - i)) (cap := c43) [.int .i64 m, .int .i64 (m + 1 : Nat)] xv kc75 ?_
     clear kc75
     rintro m75 _ u75 e75 ⟨hm75, X75, rfl, hX75⟩
     obtain rfl : m75 = x.n - (i + 1) := by omega
     have hE75 : (Z'.eraseIdx m).length = x.n - (i + 1) := by rw [List.length_eraseIdx, if_pos xq, hZn']; omega
     refine sy_over 8 (.slc 54 0 (x.n - (i + 1)) c43) (zzx ?_)
     refine zzp (zzf (zyq 103 (x := zI (IntKind.i64.wrap ((i : Int) + 1))) (zI (i + 1 : Nat)) (eqI xk) (zza 60 (zI (i + 1 : Nat)) (zzx ?_))))
     refine ⟨_, ?_, _, by exact zzv _ _ _, i + 1, (Z'.eraseIdx m), X75, [gi Z' m 0, gi Z' m 1, gi Z' m 2, gi (Nt.sortR D) i 0, gi (Nt.sortR D) i 1] :: A', rfl, by omega, (OkR.erase hZ'), hE75, hX75, hA74, (by rw [List.length_cons, hAn']), (by have h9 := hP'; rw [Nt.pairR_step (by rw [Nt.sortR_len]; omega), hZn', show x.n - i = j by omega, ← hm] at h9; exact h9), rfl, (e55.trans (e58.trans e75))⟩
     omega
   ·replace hb56 : (decide ((i : Int) < (x.n : Int))) = false := hb56
    have qhb56 := of_decide_eq_false hb56
    refine zyc (zzp (zzd (zyp (r := 9) (t := 57) [9, 57] xj xv zv zv xv (fun b76 u77 e78 hb79 hh80 => ?_))))
    have hp81 : IrV 5 u77 ⟨some ⟨b76, 0, none⟩, x.n, x.n⟩ (List.replicate (x.n - i) [0, 0, 0, 0, 0] ++ A') := ir_data hh80 (OkR.rows hO9) (by rw [List.append_nil, List.take_of_length_le (by rw [kcs_len (OkR.rows hO9), hO8]; omega)]) (by rw [hO8]) (by rw [List.append_nil, kcs_len (OkR.rows hO9), hO8]) xq yq
    refine zzf (zza 104 (.v (.slice (some ⟨b76, 0, none⟩) x.n x.n)) (zza 4 (.v (.slice (some ⟨b76, 0, none⟩) x.n x.n)) (zza 5 (zI 0) (zzc 105 [(4, .v (.slice (some ⟨b76, 0, none⟩) x.n x.n)), (5, zI 0)] [] (zzo (ret0 [.slice (some ⟨b76, 0, none⟩) x.n x.n, .int .i64 0] ⟨zzq, zzq, trivial⟩ fun u82 e83 => ?_))))))
    have hi9 : i = x.n := by omega
    have h9 := (hp81.ext e83)
    rw [show x.n - i = 0 by omega] at h9
    have h8 := hP'
    rw [List.drop_of_length_le (by rw [Nt.sortR_len]; omega)] at h8
    refine ⟨(⟨some ⟨b76, 0, none⟩, x.n, x.n⟩ : Sl), rfl, ?_⟩
    rw [← h8]
    exact h9
set_option maxHeartbeats 2000000 in
theorem k_known24 {u w : World} (d : Dat u w) : Calls Try.prog 5 #[] w (Post u w fun v _ => v = .bool true) := by
 refine zzm (args := []) Try.func5 rfl Try.ntmps5 (rs := [.tmp 0]) Try.results5 (le_b rfl) (le_b rfl) d ?_
 refine sq9 (zza 0 (zB false) (zzb (sq9 (zza 4 (.v (.agg #[.int .i64 1, .int .i64 0, .int .i64 1])) (zza 5 (.v (.agg #[.int .i64 1, .int .i64 2, .int .i64 1])) (zxx 6 ⟨54, [.int .i64 1, .int .i64 0, .int .i64 1, .int .i64 1, .int .i64 2, .int .i64 1]⟩ 2 (fun b11 u12 e13 h14 => ?_)))))))
 have hI15 : IrV 3 u12 (⟨some ⟨b11, 0, none⟩, 2, 2⟩ : Sl) [[1, 0, 1], [1, 2, 1]] := ir_data (cs := [.int .i64 1, .int .i64 0, .int .i64 1, .int .i64 1, .int .i64 2, .int .i64 1]) h14 xw rfl rfl rfl xw (by unfold maxLen; decide)
 refine zza 7 (.v (.agg #[.int .i64 0, .int .i64 1])) (zza 8 (.v (.agg #[.int .i64 2, .int .i64 2])) (zxx 9 ⟨56, [.int .i64 0, .int .i64 1, .int .i64 2, .int .i64 2]⟩ 2 (fun b16 u17 e18 h19 => ?_)))
 have hI20 : IrV 2 u17 (⟨some ⟨b16, 0, none⟩, 2, 2⟩ : Sl) [[0, 1], [2, 2]] := ir_data (cs := [.int .i64 0, .int .i64 1, .int .i64 2, .int .i64 2]) h19 xw rfl rfl rfl xw (by unfold maxLen; decide)
 refine zzg 10 16 [.slice (some ⟨b11, 0, none⟩) 2 2, .slice (some ⟨b16, 0, none⟩) 2 2] ?_
 intro w21 u21 e21 d21
 have k25 := (show Calls _ _ #[.slice (some ⟨b11, 0, none⟩) 2 2, .slice (some ⟨b16, 0, none⟩) 2 2] _ _ from k_cpair (x := (⟨some ⟨b11, 0, none⟩, 2, 2⟩ : Sl)) (y := (⟨some ⟨b16, 0, none⟩, 2, 2⟩ : Sl)) d21 (hI15.ext (e18.trans e21)) (hI20.ext e21) xw xw xw xw xw)
 with_reducible refine zPm k25 ?_
 rintro _ u23 g24 ⟨z22, rfl, hz22⟩
 refine zza 3 (.v (.tuple #[z22.v, .int .i64 0])) (zza 11 (.v z22.v) (zza 12 (zI 0) (zza 1 (.v z22.v) (zza 2 (zI 0) (zzb (zzd ?_))))))
 have hP9 := hz22
 rw [show (Nt.pairR (Nt.sortR ([[0, 1], [2, 2]])) ([[1, 0, 1], [1, 2, 1]]) []) = [[1, 0, 1, 0, 1], [1, 2, 1, 2, 2]] by decide] at hP9
 have hn9 := hP9.len
 change _ = 2 at hn9
 refine zzf (zza 13 (zI 0) (zza 14 (zB true) (zza 15 (zB true) (zza 16 (.v z22.v) ?_ (hw := w1 2 true 15)))))
 refine zza 17 (zI z22.n) ?_ (hw := w1 2 true 15)
 refine zza 18 (zB ((z22.n : Int) == 2)) ?_ (hw := w1 2 true 15)
 refine zza 19 (zB ((z22.n : Int) == 2)) (zyq 20 (x := zB ((z22.n : Int) == 2)) (zB true) (by rw [show ((z22.n : Int) == 2) = true from yz]) (zza 21 (.v z22.v) ?_ (hw := w1 7 true 20)))
 have hl27 := (hP9).len
 obtain ⟨b27, o27, hA27, hc27⟩ := ir_at5 hP9 (i := 0) xq
 refine zya 22 (o27 + 0 * 5) (n := z22.n) (off := o27) (sz := 5) (i := 0) xq hA27 xq xq sl29 ?_ (hw := w1 7 true 20)
 refine zym 23 [.int .i64 (gi ([[1, 0, 1, 0, 1], [1, 2, 1, 2, 2]]) 0 0), .int .i64 (gi ([[1, 0, 1, 0, 1], [1, 2, 1, 2, 2]]) 0 1), .int .i64 (gi ([[1, 0, 1, 0, 1], [1, 2, 1, 2, 2]]) 0 2), .int .i64 (gi ([[1, 0, 1, 0, 1], [1, 2, 1, 2, 2]]) 0 3), .int .i64 (gi ([[1, 0, 1, 0, 1], [1, 2, 1, 2, 2]]) 0 4)] hc27 ty59 ?_ (hw := w1 7 true 20)
 refine zza 24 (.v (.agg #[.int .i64 1, .int .i64 0, .int .i64 1])) ?_ (hw := w1 7 true 20)
 refine zza 25 (.v (.agg #[.int .i64 0, .int .i64 1])) ?_ (hw := w1 7 true 20)
 refine zza 26 (.v (.agg #[.int .i64 1, .int .i64 0, .int .i64 1, .int .i64 0, .int .i64 1])) ?_ (hw := w1 7 true 20)
 refine zza 27 (zB true) ?_ (hw := w1 7 true 20)
 refine zza 28 (zB true) (zza 29 (zB true) (zza 30 (.v z22.v) ?_ (hw := w1 16 true 29)))
 have hl28 := (hP9).len
 obtain ⟨b28, o28, hA28, hc28⟩ := ir_at5 hP9 (i := 1) xq
 refine zya 31 (o28 + 1 * 5) (n := z22.n) (off := o28) (sz := 5) (i := 1) xq hA28 xq xq sl29 ?_ (hw := w1 16 true 29)
 refine zym 32 [.int .i64 (gi ([[1, 0, 1, 0, 1], [1, 2, 1, 2, 2]]) 1 0), .int .i64 (gi ([[1, 0, 1, 0, 1], [1, 2, 1, 2, 2]]) 1 1), .int .i64 (gi ([[1, 0, 1, 0, 1], [1, 2, 1, 2, 2]]) 1 2), .int .i64 (gi ([[1, 0, 1, 0, 1], [1, 2, 1, 2, 2]]) 1 3), .int .i64 (gi ([[1, 0, 1, 0, 1], [1, 2, 1, 2, 2]]) 1 4)] hc28 ty59 ?_ (hw := w1 16 true 29)
 refine zza 33 (.v (.agg #[.int .i64 1, .int .i64 2, .int .i64 1])) ?_ (hw := w1 16 true 29)
 refine zza 34 (.v (.agg #[.int .i64 2, .int .i64 2])) ?_ (hw := w1 16 true 29)
 refine zza 35 (.v (.agg #[.int .i64 1, .int .i64 2, .int .i64 1, .int .i64 2, .int .i64 2])) ?_ (hw := w1 16 true 29)
 refine zza 36 (zB true) ?_ (hw := w1 16 true 29)
 refine zza 37 (zB true) (zza 0 (zB true) (zzc 38 [(0, zB true)] [] (zzo (ret0 [.bool true] ⟨zzq, trivial⟩ fun u29 e30 => ?_))))
 rfl
theorem Nt.fit7 {a b c d e f g : Bool} (h0 : a = true) (h1 : b = true) (h2 : c = true) (h3 : d = true) (h4 : e = true) (h5 : f = true) (h6 : g = true) : (a && b && c && (d && e) && (f && g)) = true := by rw [h0, h1, h2, h3, h4, h5, h6]; rfl
theorem Nt.secFit_no {W : WL} {p : List Int} (h : fitB W (p.getD 0 0) = false ∨ fitB W (p.getD 1 0) = false ∨ fitB W (p.getD 2 0) = false ∨ fitB W (p.getD 3 0) = false ∨ fitB W (-p.getD 3 0) = false ∨ fitB W (p.getD 4 0) = false ∨ fitB W (-p.getD 4 0) = false) : secFit W p = false := by
 unfold secFit
 rcases h with h | h | h | h | h | h | h <;> rw [h] <;> simp
set_option maxHeartbeats 4000000 in
theorem k_csWrong {u w : World} {x : Sl} {L : List (List Int)} {W : WL} (d : Dat u w) (hx : IrV 5 u x L) (hb : ∀ p ∈ L, ∀ z ∈ p, -9223372036854775808 ≤ z ∧ z ≤ 9223372036854775807) : Calls Try.prog 24 #[x.v, W.v] w (Post u w fun v _ => v = .int .i64 (Nt.csE W L)) := by
 have hlx := hx.len
 refine zzm (args := [.slice x.a x.n x.c, .agg #[.int .i64 W.b, .int .i64 W.f, .int .i64 W.r, .int .i64 W.o]]) Try.func24 rfl Try.ntmps24 (rs := [.tmp 4]) Try.results24 (le_b rfl) (le_b rfl) d ?_
 refine sq9 (zzk 3 ⟨27, W.cs⟩ (zza 4 (zI 0) (zzb (zzd (sq9 (zzi 11 (.v (W.v)) ty27 zze (zzg 12 23 [W.v] ?_)))))))
 intro w11 u11 e11 d11
 have k14 := k_fxValidG (W := W) d11
 with_reducible refine zPm k14 ?_
 rintro _ u12 g13 rfl
 refine zza 13 (zB (!(decide (WdOK W)))) (zzb (zzu (b := !(decide (WdOK W))) xv (fun hb15 => ?_) (fun hb15 => ?_)))
 ·replace hb15 : (!(decide (WdOK W))) = true := hb15
  have nhW : ¬ WdOK W := by simpa using hb15
  refine sq9 (zza 4 (zI 2) (zzb (zzo (zzw (ret0 [.int .i64 2] ⟨zzq, trivial⟩ fun u16 e17 => ?_)))))
  show Value.int _ _ = Value.int _ _
  rw [Nt.csE_2 nhW]
 ·replace hb15 : (!(decide (WdOK W))) = false := hb15
  have hW : WdOK W := by simpa using hb15
  refine zzs (zzp ?_)
  refine zzd (sq9 (zza 14 (.v x.v) (zza 15 (zI x.n) (zza 16 (zB (decide ((x.n : Int) < 1))) ?_))))
  rcases Bool.eq_false_or_eq_true (decide ((x.n : Int) < 1)) with hs18 | hs18
  ·refine zyq 17 (x := zB (decide ((x.n : Int) < 1))) (zB true) (by rw [hs18]) ?_
   have qhs18 := of_decide_eq_true hs18
   refine zzn 18 (uw 3 false true 17) (zzn 19 (uw 3 false true 17) (zzn 20 (uw 3 false true 17) (zza 21 (zB true) (zzb (zyr xv (sq9 (zza 4 (zI 1) (zzb (zzo (zzw (ret0 [.int .i64 1] ⟨zzq, trivial⟩ fun u19 e20 => ?_)))))))))))
   show Value.int _ _ = Value.int _ _
   rw [Nt.csE_1 hW xq]
  ·refine zyq 17 (x := zB (decide ((x.n : Int) < 1))) (zB false) (by rw [hs18]) ?_
   have qhs18 := of_decide_eq_false hs18
   refine zza 18 (.v x.v) ?_ (hw := w1 3 false 17)
   refine zza 19 (zI x.n) ?_ (hw := w1 3 false 17)
   refine zza 20 (zB (decide ((8 : Int) < (x.n : Int)))) ?_ (hw := w1 3 false 17)
   refine zza 21 (zB (decide ((8 : Int) < (x.n : Int)))) (zzb (zzu (b := decide ((8 : Int) < (x.n : Int))) xv (fun hb21 => ?_) (fun hb21 => ?_)))
   ·replace hb21 : (decide ((8 : Int) < (x.n : Int))) = true := hb21
    have qhb21 := of_decide_eq_true hb21
    refine sq9 (zza 4 (zI 1) (zzb (zzo (zzw (ret0 [.int .i64 1] ⟨zzq, trivial⟩ fun u22 e23 => ?_)))))
    show Value.int _ _ = Value.int _ _
    rw [Nt.csE_1 hW xq]
   ·replace hb21 : (decide ((8 : Int) < (x.n : Int))) = false := hb21
    have qhb21 := of_decide_eq_false hb21
    refine zzs (zzp ?_)
    refine zzd (sq9 (zza 22 (.v x.v) (zza 23 (zI x.n) (zza 24 (zI 0) (zzb (zzt (zyn (I := fun m24 S' u' => ∃ (i : Nat), (m24 = x.n - i) ∧ (i ≤ x.n) ∧ (∀ j, j < i → Nt.secFit W (L.getD j []) = true) ∧ (S' = St.of 56 [(3, .adr 3 0), (22, .v (.slice x.a x.n x.c)), (23, zI x.n), (24, zI i)] [(3, ⟨27, [.int .i64 W.b, .int .i64 W.f, .int .i64 W.r, .int .i64 W.o]⟩)]) ∧ (Ext u12 u')) (fun m S u1 u2 e h => by obtain ⟨i, hm, p0, p1, hS, hE⟩ := h; exact ⟨i, hm, p0, p1, hS, hE.trans e⟩) _ yj ⟨0, rfl, Nat.zero_le _, (fun j hj => absurd hj (Nat.not_lt_zero j)), rfl, (Ext.refl _)⟩ ?_)))))))
    rintro m24 _ u24 ⟨i, hm24, hi, hs, rfl, e24⟩
    refine sq9 (zza 25 (zB (decide ((i : Int) < (x.n : Int)))) (zzb (zzd (zzu (b := decide ((i : Int) < (x.n : Int))) xv (fun hb25 => ?_) (fun hb25 => ?_)))))
    ·replace hb25 : (decide ((i : Int) < (x.n : Int))) = true := hb25
     have qhb25 := of_decide_eq_true hb25
     refine zzs (zzp ?_)
     refine zzd (zzt (sq9 ?_))
     have hl26 := ((hx.ext (e11.trans (g13.ext.trans e24)))).len
     obtain ⟨b26, o26, hA26, hc26⟩ := ir_at5 (hx.ext (e11.trans (g13.ext.trans e24))) (i := i) xq
     refine zya 26 (o26 + i * 5) (n := x.n) (off := o26) (sz := 5) (i := (i : Int)) xq hA26 xq xq sl29 (zym 27 [.int .i64 (gi L i 0), .int .i64 (gi L i 1), .int .i64 (gi L i 2), .int .i64 (gi L i 3), .int .i64 (gi L i 4)] hc26 ty59 (zzk 6 ⟨59, [.int .i64 0, .int .i64 0, .int .i64 0, .int .i64 0, .int .i64 0]⟩ (zzj ⟨59, [.int .i64 (gi L i 0), .int .i64 (gi L i 1), .int .i64 (gi L i 2), .int .i64 (gi L i 3), .int .i64 (gi L i 4)]⟩ ty59 ?_)))
     refine zzb (zzd (sq9 (zza 28 (.adr 6 0) (zzi 29 (.v (.agg #[.int .i64 (gi L i 0), .int .i64 (gi L i 1), .int .i64 (gi L i 2)])) ty54 zze (zza 30 (zI 0) (zzb (zzt (sw_rounds 3 ?_))))))))
     refine sq9 (zza 31 (zB true) (zzb (zzd (zyr xv (zzs (zzp ?_))))))
     refine zzd (zzt (sq9 (zza 32 (zI (gi L i 0)) (zza 8 (zI (gi L i 0)) (zzb (sq9 (zzi 33 (.v (W.v)) ty27 zze (zza 34 (zI (gi L i 0)) (zzg 35 43 [W.v, .int .i64 (gi L i 0)] ?_)))))))))
     intro w27 u27 e27 d27
     have k30 := k_fxFitsG (W := W) (z := gi L i 0) d27 hW
     with_reducible refine zPm k30 ?_
     rintro _ u28 g29 rfl
     refine zza 36 (zB (!(Nt.fitB W (gi L i 0)))) (zzc 56 [(3, .adr 3 0), (6, .adr 6 0), (22, .v x.v), (23, zI x.n), (24, zI i), (29, .v (.agg #[.int .i64 (gi L i 0), .int .i64 (gi L i 1), .int .i64 (gi L i 2)])), (30, zI 0), (36, zB (!(Nt.fitB W (gi L i 0))))] [(3, ⟨27, W.cs⟩), (6, ⟨59, [.int .i64 (gi L i 0), .int .i64 (gi L i 1), .int .i64 (gi L i 2), .int .i64 (gi L i 3), .int .i64 (gi L i 4)]⟩)] (zzu (b := !(Nt.fitB W (gi L i 0))) xv (fun hb31 => ?_) (fun hb31 => ?_)))
     ·replace hb31 : (!(Nt.fitB W (gi L i 0))) = true := hb31
      have qhb31 := hb31
      simp at qhb31
      refine sq9 (zza 4 (zI 17) (zzb (zzo (zyu (zzw (mpr_rn (zyu (zzw (zyu (zzw (zyt (zyu (zzw (ret0 [.int .i64 17] ⟨zzq, trivial⟩ fun u32 e33 => ?_))))))))))))))
      show Value.int _ _ = Value.int _ _
      rw [Nt.csE_17 hW xq xq (i := i) xq (Nt.secFit_no (.inl qhb31))]
     ·replace hb31 : (!(Nt.fitB W (gi L i 0))) = false := hb31
      have qhb31 := hb31
      simp at qhb31
      have rhb31 := Nt.fit_iff.1 qhb31
      have hp9 := Nt.p2i_24 (n := W.b - 1) (by have h9 := hW; unfold WdOK at h9; omega)
      refine zzs (zzp ?_)
      refine zzf (zza 37 (zI 1) (zza 30 (zI 1) (zzx ?_)))
      refine rn_next ?_
      refine sw_weak (T := St.of 56 [(3, .adr 3 0), (6, .adr 6 0), (22, .v (.slice x.a x.n x.c)), (23, zI x.n), (24, zI i), (29, .v (.agg #[.int .i64 (gi L i 0), .int .i64 (gi L i 1), .int .i64 (gi L i 2)])), (30, zI 1)] [(3, ⟨27, [.int .i64 W.b, .int .i64 W.f, .int .i64 W.r, .int .i64 W.o]⟩), (6, ⟨59, [.int .i64 (gi L i 0), .int .i64 (gi L i 1), .int .i64 (gi L i 2), .int .i64 (gi L i 3), .int .i64 (gi L i 4)]⟩)]) yj ?_
      refine sq9 (zza 31 (zB true) (zzb (zzd (zyr xv (zzs (zzp ?_))))))
      refine zzd (zzt (sq9 (zza 32 (zI (gi L i 1)) (zza 8 (zI (gi L i 1)) (zzb (sq9 (zzi 33 (.v (W.v)) ty27 zze (zza 34 (zI (gi L i 1)) (zzg 35 43 [W.v, .int .i64 (gi L i 1)] ?_)))))))))
      intro w34 u34 e34 d34
      have k37 := k_fxFitsG (W := W) (z := gi L i 1) d34 hW
      with_reducible refine zPm k37 ?_
      rintro _ u35 g36 rfl
      refine zza 36 (zB (!(Nt.fitB W (gi L i 1)))) (zzb (zzu (b := !(Nt.fitB W (gi L i 1))) xv (fun hb38 => ?_) (fun hb38 => ?_)))
      ·replace hb38 : (!(Nt.fitB W (gi L i 1))) = true := hb38
       have qhb38 := hb38
       simp at qhb38
       refine sq9 (zza 4 (zI 17) (zzb (zzo (zyu (zzw (mpr_rn (zyu (zzw (zyu (zzw (zyt (zyu (zzw (ret0 [.int .i64 17] ⟨zzq, trivial⟩ fun u39 e40 => ?_))))))))))))))
       show Value.int _ _ = Value.int _ _
       rw [Nt.csE_17 hW xq xq (i := i) xq (Nt.secFit_no (.inr (.inl qhb38)))]
      ·replace hb38 : (!(Nt.fitB W (gi L i 1))) = false := hb38
       have qhb38 := hb38
       simp at qhb38
       have rhb38 := Nt.fit_iff.1 qhb38
       have hp9 := Nt.p2i_24 (n := W.b - 1) (by have h9 := hW; unfold WdOK at h9; omega)
       refine zzs (zzp ?_)
       refine zzf (zza 37 (zI 2) (zza 30 (zI 2) (zzx ?_)))
       refine rn_next ?_
       refine sw_weak (T := St.of 56 [(3, .adr 3 0), (6, .adr 6 0), (22, .v (.slice x.a x.n x.c)), (23, zI x.n), (24, zI i), (29, .v (.agg #[.int .i64 (gi L i 0), .int .i64 (gi L i 1), .int .i64 (gi L i 2)])), (30, zI 2)] [(3, ⟨27, [.int .i64 W.b, .int .i64 W.f, .int .i64 W.r, .int .i64 W.o]⟩), (6, ⟨59, [.int .i64 (gi L i 0), .int .i64 (gi L i 1), .int .i64 (gi L i 2), .int .i64 (gi L i 3), .int .i64 (gi L i 4)]⟩)]) yj ?_
       refine sq9 (zza 31 (zB true) (zzb (zzd (zyr xv (zzs (zzp ?_))))))
       refine zzd (zzt (sq9 (zza 32 (zI (gi L i 2)) (zza 8 (zI (gi L i 2)) (zzb (sq9 (zzi 33 (.v (W.v)) ty27 zze (zza 34 (zI (gi L i 2)) (zzg 35 43 [W.v, .int .i64 (gi L i 2)] ?_)))))))))
       intro w41 u41 e41 d41
       have k44 := k_fxFitsG (W := W) (z := gi L i 2) d41 hW
       with_reducible refine zPm k44 ?_
       rintro _ u42 g43 rfl
       refine zza 36 (zB (!(Nt.fitB W (gi L i 2)))) (zzb (zzu (b := !(Nt.fitB W (gi L i 2))) xv (fun hb45 => ?_) (fun hb45 => ?_)))
       ·replace hb45 : (!(Nt.fitB W (gi L i 2))) = true := hb45
        have qhb45 := hb45
        simp at qhb45
        refine sq9 (zza 4 (zI 17) (zzb (zzo (zyu (zzw (mpr_rn (zyu (zzw (zyu (zzw (zyt (zyu (zzw (ret0 [.int .i64 17] ⟨zzq, trivial⟩ fun u46 e47 => ?_))))))))))))))
        show Value.int _ _ = Value.int _ _
        rw [Nt.csE_17 hW xq xq (i := i) xq (Nt.secFit_no (.inr (.inr (.inl qhb45))))]
       ·replace hb45 : (!(Nt.fitB W (gi L i 2))) = false := hb45
        have qhb45 := hb45
        simp at qhb45
        have rhb45 := Nt.fit_iff.1 qhb45
        have hp9 := Nt.p2i_24 (n := W.b - 1) (by have h9 := hW; unfold WdOK at h9; omega)
        refine zzs (zzp ?_)
        refine zzf (zza 37 (zI 3) (zza 30 (zI 3) (zzx ?_)))
        refine rn_next ?_
        refine sw_weak (T := St.of 56 [(3, .adr 3 0), (6, .adr 6 0), (22, .v (.slice x.a x.n x.c)), (23, zI x.n), (24, zI i), (29, .v (.agg #[.int .i64 (gi L i 0), .int .i64 (gi L i 1), .int .i64 (gi L i 2)])), (30, zI 3)] [(3, ⟨27, [.int .i64 W.b, .int .i64 W.f, .int .i64 W.r, .int .i64 W.o]⟩), (6, ⟨59, [.int .i64 (gi L i 0), .int .i64 (gi L i 1), .int .i64 (gi L i 2), .int .i64 (gi L i 3), .int .i64 (gi L i 4)]⟩)]) yj ?_
        refine sq9 (zza 31 (zB false) (zzb (zzd (zys xv (zyc (zzp (sq9 (zza 38 (.adr 6 3) (zzi 39 (.v (.agg #[.int .i64 (gi L i 3), .int .i64 (gi L i 4)])) ty56 zze (zza 40 (zI 0) (zzb ?_)))))))))))
        refine zzt (sw_rounds 2 ?_)
        refine sq9 (zza 41 (zB true) (zzb (zzd (zyr xv (zzs (zzp ?_))))))
        refine zzd (zzt (sq9 (zza 42 (zI (gi L i 3)) (zza 10 (zI (gi L i 3)) (zzb (sq9 (zzi 43 (.v (W.v)) ty27 zze (zza 44 (zI (gi L i 3)) (zzg 45 43 [W.v, .int .i64 (gi L i 3)] ?_)))))))))
        intro w48 u48 e48 d48
        have k51 := k_fxFitsG (W := W) (z := gi L i 3) d48 hW
        with_reducible refine zPm k51 ?_
        rintro _ u49 g50 rfl
        refine zza 46 (zB (!(Nt.fitB W (gi L i 3)))) ?_
        rcases Bool.eq_false_or_eq_true (!(Nt.fitB W (gi L i 3))) with hs52 | hs52
        ·refine zyq 47 (x := zB (!(Nt.fitB W (gi L i 3)))) (zB true) (by rw [hs52]) ?_
         have qhs52 := hs52
         simp at qhs52
         refine zzn 48 (uw 4 false true 47) (zzn 49 (uw 4 false true 47) (zzn 50 (uw 4 false true 47) (zzn 51 (uw 4 false true 47) (zzn 52 (uw 4 false true 47) (zza 53 (zB true) (zzc 56 [(3, .adr 3 0), (22, .v x.v), (23, zI x.n), (24, zI i), (39, .v (.agg #[.int .i64 (gi L i 3), .int .i64 (gi L i 4)])), (40, zI 0), (53, zB true)] [(3, ⟨27, W.cs⟩)] (zyr xv (sq9 (zza 4 (zI 17) (zzb (zzo (zyu (zzw (mpr_rn (zyu (zyu (zzw (zyt (zyu (zzw (ret0 [.int .i64 17] ⟨zzq, trivial⟩ fun u53 e54 => ?_)))))))))))))))))))))
         show Value.int _ _ = Value.int _ _
         rw [Nt.csE_17 hW xq xq (i := i) xq (Nt.secFit_no (.inr (.inr (.inr (.inl qhs52)))))]
        ·refine zyq 47 (x := zB (!(Nt.fitB W (gi L i 3)))) (zB false) (by rw [hs52]) ?_
         have qhs52 := hs52
         simp at qhs52
         have rhs52 := Nt.fit_iff.1 qhs52
         have hp9 := Nt.p2i_24 (n := W.b - 1) (by have h9 := hW; unfold WdOK at h9; omega)
         refine zzi 48 (.v (W.v)) ty27 zze ?_ (hw := w1 4 false 47)
         refine zza 49 (zI (gi L i 3)) ?_ (hw := w1 4 false 47)
         refine zyq 50 (x := zI (IntKind.i64.wrap (0 - (gi L i 3)))) (zI (-(gi L i 3))) (eqI xk) ?_ (hw := w1 4 false 47)
         refine zzg 51 43 [W.v, .int .i64 (-(gi L i 3))] ?_ (hw := w1 4 false 47)
         intro w55 u55 e55 d55
         have k58 := k_fxFitsG (W := W) (z := -(gi L i 3)) d55 hW
         with_reducible refine zPm k58 ?_
         rintro _ u56 g57 rfl
         refine zza 52 (zB (!(Nt.fitB W (-(gi L i 3))))) ?_ (hw := w1 4 false 47)
         refine zza 53 (zB (!(Nt.fitB W (-(gi L i 3))))) (zzc 56 [(3, .adr 3 0), (22, .v x.v), (23, zI x.n), (24, zI i), (39, .v (.agg #[.int .i64 (gi L i 3), .int .i64 (gi L i 4)])), (40, zI 0), (53, zB (!(Nt.fitB W (-(gi L i 3)))))] [(3, ⟨27, W.cs⟩)] (zzu (b := !(Nt.fitB W (-(gi L i 3)))) xv (fun hb59 => ?_) (fun hb59 => ?_)))
         ·replace hb59 : (!(Nt.fitB W (-(gi L i 3)))) = true := hb59
          have qhb59 := hb59
          simp at qhb59
          refine sq9 (zza 4 (zI 17) (zzb (zzo (zyu (zzw (mpr_rn (zyu (zyu (zzw (zyt (zyu (zzw (ret0 [.int .i64 17] ⟨zzq, trivial⟩ fun u60 e61 => ?_)))))))))))))
          show Value.int _ _ = Value.int _ _
          rw [Nt.csE_17 hW xq xq (i := i) xq (Nt.secFit_no (.inr (.inr (.inr (.inr (.inl qhb59))))))]
         ·replace hb59 : (!(Nt.fitB W (-(gi L i 3)))) = false := hb59
          have qhb59 := hb59
          simp at qhb59
          have rhb59 := Nt.fit_iff.1 qhb59
          have hp9 := Nt.p2i_24 (n := W.b - 1) (by have h9 := hW; unfold WdOK at h9; omega)
          refine zzs (zzp ?_)
          refine zzf (zza 54 (zI 1) (zza 40 (zI 1) (zzx ?_)))
          refine rn_next ?_
          refine sw_weak (T := St.of 56 [(3, .adr 3 0), (22, .v (.slice x.a x.n x.c)), (23, zI x.n), (24, zI i), (39, .v (.agg #[.int .i64 (gi L i 3), .int .i64 (gi L i 4)])), (40, zI 1)] [(3, ⟨27, [.int .i64 W.b, .int .i64 W.f, .int .i64 W.r, .int .i64 W.o]⟩)]) yj ?_
          refine sq9 (zza 41 (zB true) (zzb (zzd (zyr xv (zzs (zzp ?_))))))
          refine zzd (zzt (sq9 (zza 42 (zI (gi L i 4)) (zza 10 (zI (gi L i 4)) (zzb (sq9 (zzi 43 (.v (W.v)) ty27 zze (zza 44 (zI (gi L i 4)) (zzg 45 43 [W.v, .int .i64 (gi L i 4)] ?_)))))))))
          intro w62 u62 e62 d62
          have k65 := k_fxFitsG (W := W) (z := gi L i 4) d62 hW
          with_reducible refine zPm k65 ?_
          rintro _ u63 g64 rfl
          refine zza 46 (zB (!(Nt.fitB W (gi L i 4)))) ?_
          rcases Bool.eq_false_or_eq_true (!(Nt.fitB W (gi L i 4))) with hs66 | hs66
          ·refine zyq 47 (x := zB (!(Nt.fitB W (gi L i 4)))) (zB true) (by rw [hs66]) ?_
           have qhs66 := hs66
           simp at qhs66
           refine zzn 48 (uw 4 false true 47) (zzn 49 (uw 4 false true 47) (zzn 50 (uw 4 false true 47) (zzn 51 (uw 4 false true 47) (zzn 52 (uw 4 false true 47) (zza 53 (zB true) (zzb (zyr xv (sq9 (zza 4 (zI 17) (zzb (zzo (zyu (zzw (mpr_rn (zyu (zyu (zzw (zyt (zyu (zzw (ret0 [.int .i64 17] ⟨zzq, trivial⟩ fun u67 e68 => ?_)))))))))))))))))))))
           show Value.int _ _ = Value.int _ _
           rw [Nt.csE_17 hW xq xq (i := i) xq (Nt.secFit_no (.inr (.inr (.inr (.inr (.inr (.inl qhs66)))))))]
          ·refine zyq 47 (x := zB (!(Nt.fitB W (gi L i 4)))) (zB false) (by rw [hs66]) ?_
           have qhs66 := hs66
           simp at qhs66
           have rhs66 := Nt.fit_iff.1 qhs66
           have hp9 := Nt.p2i_24 (n := W.b - 1) (by have h9 := hW; unfold WdOK at h9; omega)
           refine zzi 48 (.v (W.v)) ty27 zze ?_ (hw := w1 4 false 47)
           refine zza 49 (zI (gi L i 4)) ?_ (hw := w1 4 false 47)
           refine zyq 50 (x := zI (IntKind.i64.wrap (0 - (gi L i 4)))) (zI (-(gi L i 4))) (eqI xk) ?_ (hw := w1 4 false 47)
           refine zzg 51 43 [W.v, .int .i64 (-(gi L i 4))] ?_ (hw := w1 4 false 47)
           intro w69 u69 e69 d69
           have k72 := k_fxFitsG (W := W) (z := -(gi L i 4)) d69 hW
           with_reducible refine zPm k72 ?_
           rintro _ u70 g71 rfl
           refine zza 52 (zB (!(Nt.fitB W (-(gi L i 4))))) ?_ (hw := w1 4 false 47)
           refine zza 53 (zB (!(Nt.fitB W (-(gi L i 4))))) (zzb (zzu (b := !(Nt.fitB W (-(gi L i 4)))) xv (fun hb73 => ?_) (fun hb73 => ?_)))
           ·replace hb73 : (!(Nt.fitB W (-(gi L i 4)))) = true := hb73
            have qhb73 := hb73
            simp at qhb73
            refine sq9 (zza 4 (zI 17) (zzb (zzo (zyu (zzw (mpr_rn (zyu (zyu (zzw (zyt (zyu (zzw (ret0 [.int .i64 17] ⟨zzq, trivial⟩ fun u74 e75 => ?_)))))))))))))
            show Value.int _ _ = Value.int _ _
            rw [Nt.csE_17 hW xq xq (i := i) xq (Nt.secFit_no (.inr (.inr (.inr (.inr (.inr (.inr (qhb73))))))))]
           ·replace hb73 : (!(Nt.fitB W (-(gi L i 4)))) = false := hb73
            have qhb73 := hb73
            simp at qhb73
            have rhb73 := Nt.fit_iff.1 qhb73
            have hp9 := Nt.p2i_24 (n := W.b - 1) (by have h9 := hW; unfold WdOK at h9; omega)
            refine zzs (zzp ?_)
            refine zzf (zza 54 (zI 2) (zza 40 (zI 2) (zzx ?_)))
            refine rn_next ?_
            refine sw_weak (T := St.of 56 [(3, .adr 3 0), (22, .v (.slice x.a x.n x.c)), (23, zI x.n), (24, zI i), (39, .v (.agg #[.int .i64 (gi L i 3), .int .i64 (gi L i 4)])), (40, zI 2)] [(3, ⟨27, [.int .i64 W.b, .int .i64 W.f, .int .i64 W.r, .int .i64 W.o]⟩)]) yj ?_
            refine sq9 (zza 41 (zB false) (zzb (zzd (zys xv (zyc (zzp (zzf (zyq 55 (x := zI (IntKind.i64.wrap ((i : Int) + 1))) (zI (i + 1 : Nat)) (eqI xk) (zza 24 (zI (i + 1 : Nat)) (zzx ?_))))))))))
            refine ⟨_, ?_, _, by exact zzv _ _ _, i + 1, rfl, by omega, (fun j hj => by by_cases e : j = i; (rw [e]; unfold Nt.secFit; exact Nt.fit7 qhb31 qhb38 qhb45 qhs52 qhb59 qhs66 qhb73); exact hs j xq), rfl, (e24.trans (e27.trans (g29.ext.trans (e34.trans (g36.ext.trans (e41.trans (g43.ext.trans (e48.trans (g50.ext.trans (e55.trans (g57.ext.trans (e62.trans (g64.ext.trans (e69.trans g71.ext))))))))))))))⟩
            omega
    ·replace hb25 : (decide ((i : Int) < (x.n : Int))) = false := hb25
     have qhb25 := of_decide_eq_false hb25
     refine zyc (zzp (sq9 (zza 4 (zI 0) (zzb (zzo (ret0 [.int .i64 0] ⟨zzq, trivial⟩ fun u76 e77 => ?_))))))
     show Value.int _ _ = Value.int _ _
     rw [Nt.csE_0 hW xq xq (fun i hi => hs i xq)]
namespace Nt
variable {D W : WL} {L : List (List Int)} {N : List (List TL)} {nx st xs : List Int} {q : Int} {n k : Nat} {p p1 p2 : List Int} {x x1 x2 y1 y2 z1 z2 : Int}
theorem csE_rows {L : List (List Int)} (hW : WdOK W) (h1 : 1 ≤ L.length) (h8 : L.length ≤ 8) (h : ∀ p ∈ L, p.length = 5 ∧ ∀ z ∈ p, -(p2i (W.b - 1) - 1) ≤ z ∧ z ≤ p2i (W.b - 1) - 1) : csE W L = 0 := by
 refine csE_0 hW h1 h8 (fun i hi => ?_)
 have e : L[i] = L.getD i [] := by rw [List.getD_eq_getElem?_getD, List.getElem?_eq_getElem hi]; rfl
 obtain ⟨hl, hz⟩ := h _ (List.getElem_mem hi)
 rw [e] at hl hz
 have hj : ∀ j, j < 5 → -(p2i (W.b - 1) - 1) ≤ (L.getD i []).getD j 0 ∧ (L.getD i []).getD j 0 ≤ p2i (W.b - 1) - 1 := fun j hj => by
  refine hz _ ?_
  rw [List.getD_eq_getElem?_getD (l := L.getD i []), List.getElem?_eq_getElem xq]
  exact List.getElem_mem _
 have f0 := hj 0 xw
 have f1 := hj 1 xw
 have f2 := hj 2 xw
 have f3 := hj 3 xw
 have f4 := hj 4 xw
 unfold secFit
 rw [(fit_iff (z := (L.getD i []).getD 0 0)).2 xq, (fit_iff (z := (L.getD i []).getD 1 0)).2 xq, (fit_iff (z := (L.getD i []).getD 2 0)).2 xq, (fit_iff (z := (L.getD i []).getD 3 0)).2 xq, (fit_iff (z := -(L.getD i []).getD 3 0)).2 xq, (fit_iff (z := (L.getD i []).getD 4 0)).2 xq, (fit_iff (z := -(L.getD i []).getD 4 0)).2 xq]
 rfl
end Nt
section
variable {k n : Nat} {u : World} {x : Sl} {L : List (List Int)}
end
theorem bd_five {lo hi a b c d e : Int} (h1 : lo ≤ a ∧ a ≤ hi) (h2 : lo ≤ b ∧ b ≤ hi) (h3 : lo ≤ c ∧ c ≤ hi) (h4 : lo ≤ d ∧ d ≤ hi) (h5 : lo ≤ e ∧ e ≤ hi) : ∀ z ∈ [a, b, c, d, e], lo ≤ z ∧ z ≤ hi := fun z hz => by
 rcases List.mem_cons.1 hz with rfl | hz
 ·exact h1
 rcases List.mem_cons.1 hz with rfl | hz
 ·exact h2
 rcases List.mem_cons.1 hz with rfl | hz
 ·exact h3
 rcases List.mem_cons.1 hz with rfl | hz
 ·exact h4
 rcases List.mem_cons.1 hz with rfl | hz
 ·exact h5
 cases hz
theorem sec_nil {b : Int} : ∀ p ∈ ([] : List (List Int)), p.length = 5 ∧ ∀ z ∈ p, -b ≤ z ∧ z ≤ b := fun p hp => by cases hp
theorem sec_snoc {L : List (List Int)} {lo a b c d e : Int} (h : ∀ p ∈ L, p.length = 5 ∧ ∀ z ∈ p, -lo ≤ z ∧ z ≤ lo) (h1 : -lo ≤ a ∧ a ≤ lo) (h2 : -lo ≤ b ∧ b ≤ lo) (h3 : -lo ≤ c ∧ c ≤ lo) (h4 : -lo ≤ d ∧ d ≤ lo) (h5 : -lo ≤ e ∧ e ≤ lo) : ∀ p ∈ L ++ [[a, b, c, d, e]], p.length = 5 ∧ ∀ z ∈ p, -lo ≤ z ∧ z ≤ lo := fun p hp => by
 rcases List.mem_append.1 hp with hp | hp
 ·exact h p hp
 ·rw [List.mem_singleton.1 hp]; exact ⟨rfl, bd_five h1 h2 h3 h4 h5⟩
set_option maxHeartbeats 4000000 in
theorem k_sections24 {u w : World} {x y : Sl} {l m : List Int} {W : WL} {n q : Int} (d : Dat u w) (hx : SlR .i64 u x.a x.n x.c l) (hb : ∀ z ∈ l, -9223372036854775808 ≤ z ∧ z ≤ 9223372036854775807) (hy : SlR .i64 u y.a y.n y.c m) (hbm : ∀ z ∈ m, -9223372036854775808 ≤ z ∧ z ≤ 9223372036854775807) (hW : WdOK W) (hq1 : 1 ≤ q) (hq2 : q ≤ 8) (hn0 : -9223372036854775808 ≤ n) (hn1 : n ≤ 9223372036854775807) : Calls Try.prog 8 #[.agg #[x.v, y.v], .int .i64 n, .int .i64 q, W.v] w (Post u w fun v u' => ∃ (y : Sl) (L : List (List Int)), v = y.v ∧ IrV 5 u' y L ∧ L.length = (n % q).toNat + 1 ∧ ∀ p ∈ L, p.length = 5 ∧ ∀ z ∈ p, -(Nt.p2i (W.b - 1) - 1) ≤ z ∧ z ≤ Nt.p2i (W.b - 1) - 1) := by
 obtain ⟨hw1, hw2, hw3, hw4, hw5, hw6, hw7, hw8⟩ := id hW
 have hu0 := Nt.zxo W.f
 have hu1 := Nt.p2i_24 (n := W.f) xq
 have hu2 := Nt.zwe (a := W.f) (b := W.b - 1) xq
 have hu3 := Nt.p2i_24 (n := W.b - 1) xq
 have hm0 := Int.emod_nonneg n (show q ≠ 0 by omega)
 have hm1 := Int.emod_lt_of_pos n (show 0 < q by omega)
 have hlx : l.length = x.n := hx.1
 have hly : m.length = y.n := hy.1
 refine zzm (args := [.agg #[.slice x.a x.n x.c, .slice y.a y.n y.c], .int .i64 n, .int .i64 q, .agg #[.int .i64 W.b, .int .i64 W.f, .int .i64 W.r, .int .i64 W.o]]) Try.func8 rfl Try.ntmps8 (rs := [.tmp 8]) Try.results8 (le_b rfl) (le_b rfl) d ?_
 refine sq9 (zzk 4 ⟨24, [x.v, y.v]⟩ (zzk 7 ⟨27, W.cs⟩ (zza 8 (.v (.slice none 0 0)) (zzb (sq9 (zza 9 (.v (.slice none 0 0)) (zzb (sq9 (zza 13 (.adr 7 0) (zzi 14 (zI W.b) ty3 zzl (zyq 15 (x := zI (IntKind.i64.wrap (W.b - 1))) (zI (W.b - 1)) yv ?_)))))))))))
 refine sy_conv 16 (W.b - 1) (fun w => by kernel_rfl) (IntWalk.u64_in _ xq) ?_
 refine sy_shl 17 (k := .i64) (s := W.b - 1) (Nt.p2i (W.b - 1)) xq (by show _ ≤ (64 : Int); omega) (shl_one xq xq) ?_
 refine zyq 18 (x := zI (IntKind.i64.wrap ((Nt.p2i (W.b - 1)) - 1))) (zI ((Nt.p2i (W.b - 1)) - 1)) yv (zza 10 (zI ((Nt.p2i (W.b - 1)) - 1)) (zzb (zzd (sq9 (zza 11 (zI 0) (zzb (zzt (zyn (I := fun m11 S' u' => (m11 = ((n % q).toNat + 1) ∧ S' = St.of 79 [(1, zI n), (2, zI q), (4, .adr 4 0), (9, .v (.slice none 0 0)), (10, zI ((Nt.p2i (W.b - 1)) - 1)), (11, zI 0)] [(4, ⟨24, [.slice x.a x.n x.c, .slice y.a y.n y.c]⟩)] ∧ Ext u u') ∨ (∃ (i : Nat) (L : List (List Int)) (cs : List Value) (cp : Nat), m11 = ((n % q).toNat + 1) - i ∧ i ≤ ((n % q).toNat + 1) ∧ 0 < i ∧ L.length = i ∧ cs.length = cp * 5 ∧ i ≤ cp ∧ cp ≤ maxLen ∧ cs.take (i * 5) = kcs L ∧ S' = St.of 79 [(1, zI n), (2, zI q), (4, .adr 4 0), (9, .slc 77 0 i cp), (10, zI ((Nt.p2i (W.b - 1)) - 1)), (11, zI i)] [(4, ⟨24, [.slice x.a x.n x.c, .slice y.a y.n y.c]⟩), (77, ⟨59, cs⟩)] ∧ Ext u u' ∧ (∀ p ∈ L, p.length = 5 ∧ ∀ z ∈ p, -(Nt.p2i (W.b - 1) - 1) ≤ z ∧ z ≤ Nt.p2i (W.b - 1) - 1))) (fun m S u1 u2 e h => by rcases h with ⟨a, b, c⟩ | ⟨a1, a2, a3, a4, b1, b2, b3, b4, b5, b6, b7, b8, b9, b10, b11⟩; exact .inl ⟨a, b, c.trans e⟩; exact .inr ⟨a1, a2, a3, a4, b1, b2, b3, b4, b5, b6, b7, b8, b9, b10.trans e, b11⟩) _ yj (.inl ⟨rfl, rfl, Ext.refl _⟩) ?_))))))))
 rintro m11 _ u11 (⟨hm11, rfl, e11⟩ | ⟨i, L, cs, cp, hm11, hi, hp, hL, hc, hle, hmx, ht, rfl, e11, hP⟩)
 ·change SW _ _ _ _ (St.of 79 [(1, .v (.int .i64 n)), (2, .v (.int .i64 q)), (4, .adr 4 0), (9, .v (.slice none 0 0)), (10, .v (.int .i64 ((Nt.p2i (W.b - 1)) - 1))), (11, .v (.int .i64 0))] [(4, ⟨24, [.slice x.a x.n x.c, .slice y.a y.n y.c]⟩)]) _ _
  refine zzd (sq9 (zza 19 (zI 0) (zza 20 (zI n) (zza 21 (zI q) (zzg 22 18 [.int .i64 n, .int .i64 q] ?_)))))
  intro w12 u12 e12 d12
  have k15 := k_within d12 (n := n) (m := q) xq xq xq xq
  with_reducible refine zPm k15 ?_
  rintro _ u13 g14 rfl
  refine zza 23 (zB (decide ((0 : Int) ≤ (n % q)))) (zzb (zzu (b := decide ((0 : Int) ≤ (n % q))) xv (fun hb => ?_) (fun hb => ?_)))
  ·clear hb
   refine zzs (zzp ?_)
   refine zzd (zzt (zzd (zzz [0, 0, 2, 0, 8, 30, 0, 64, 0, 256, 768, 2046, 0, 4096, 0, 16384, 49152, 131070, 0, 262144, 0, 1048576, 4194302, 0, 8388608, 0, 33554432, 100663296, 268435454, 536870910, 1073741823, 2147483647] [(0, []), (1, []), (2, []), (3, []), (4, []), (6, []), (7, []), (8, []), (9, []), (10, []), (12, []), (13, []), (14, []), (15, []), (16, []), (18, []), (19, []), (20, []), (21, []), (23, []), (24, []), (25, []), (26, []), (27, []), (5, []), (11, []), (17, []), (22, []), (28, []), (29, []), (30, [55]), (31, [])] xv xv (zza 26 (zI ((Nt.p2i (W.b - 1)) - 1)) (zza 27 (.adr 4 0) (zzi 28 (.v x.v) ty22 zzl (zza 29 (zI 0) (zza 30 (zI 0) (zza 32 (.adr 4 0) (zzi 33 (.v x.v) ty22 zzl (zza 34 (zI 0) ?_)))))))))))
   refine zza 35 (zI 0) (zza 36 (zI 1) (zza 38 (.adr 4 0) (zzi 39 (.v x.v) ty22 zzl (zza 40 (zI 0) (zza 41 (zI 0) (zza 42 (zI 2) (zza 44 (.adr 4 1) (zzi 45 (.v y.v) ty22 zzl (zza 46 (zI 0) (zza 47 (zI 0) (zza 49 (.adr 4 1) ?_)))))))))))
   refine zzi 50 (.v y.v) ty22 zzl (zza 51 (zI 0) (zza 52 (zI 0) (zza 53 (zI 1) (zzg 31 20 [x.v, .int .i64 0] ?_))))
   intro w16 u16 e16 d16
   have k19 := (show Calls _ _ #[_, .int .i64 0] _ _ from k_wat (x := x) (i := 0) d16 (hx.ext (e11.trans (e12.trans (g14.ext.trans e16)))) hb xq)
   with_reducible refine zPm k19 ?_
   rintro _ u17 g18 rfl
   have hz20 := ints_bd hb xq 0
   refine zzg 37 20 [x.v, .int .i64 1] ?_
   intro w21 u21 e21 d21
   have k24 := (show Calls _ _ #[_, .int .i64 1] _ _ from k_wat (x := x) (i := 1) d21 (hx.ext (e11.trans (e12.trans (g14.ext.trans (e16.trans (g18.ext.trans e21)))))) hb xq)
   with_reducible refine zPm k24 ?_
   rintro _ u22 g23 rfl
   have hz25 := ints_bd hb xq 1
   refine zzg 43 20 [x.v, .int .i64 2] ?_
   intro w26 u26 e26 d26
   have k29 := (show Calls _ _ #[_, .int .i64 2] _ _ from k_wat (x := x) (i := 2) d26 (hx.ext (e11.trans (e12.trans (g14.ext.trans (e16.trans (g18.ext.trans (e21.trans (g23.ext.trans e26)))))))) hb xq)
   with_reducible refine zPm k29 ?_
   rintro _ u27 g28 rfl
   have hz30 := ints_bd hb xq 2
   refine zzg 48 20 [y.v, .int .i64 0] ?_
   intro w31 u31 e31 d31
   have k34 := (show Calls _ _ #[_, .int .i64 0] _ _ from k_wat (x := y) (i := 0) d31 (hy.ext (e11.trans (e12.trans (g14.ext.trans (e16.trans (g18.ext.trans (e21.trans (g23.ext.trans (e26.trans (g28.ext.trans e31)))))))))) hbm xq)
   with_reducible refine zPm k34 ?_
   rintro _ u32 g33 rfl
   have hz35 := ints_bd hbm xq 0
   refine zzg 54 20 [y.v, .int .i64 1] ?_
   intro w36 u36 e36 d36
   have k39 := (show Calls _ _ #[_, .int .i64 1] _ _ from k_wat (x := y) (i := 1) d36 (hy.ext (e11.trans (e12.trans (g14.ext.trans (e16.trans (g18.ext.trans (e21.trans (g23.ext.trans (e26.trans (g28.ext.trans (e31.trans (g33.ext.trans e36)))))))))))) hbm xq)
   with_reducible refine zPm k39 ?_
   rintro _ u37 g38 rfl
   have hz40 := ints_bd hbm xq 1
   refine sy_lit 55 ⟨3, [.int .i64 (l.getD 0 0), .int .i64 (l.getD 1 0), .int .i64 (l.getD 2 0), .int .i64 (m.getD 0 0), .int .i64 (m.getD 1 0)]⟩ 5 ?_
   refine zyo 56 19 [.v (.int .i64 ((Nt.p2i (W.b - 1)) - 1)), .slc 55 0 5 5, zI 5] [55] (.inr rfl) (pub_mk xj) (k := ?_)
   intro B41 w41 u41 e41 d41 v41
   have h43 : u41.heap[B41 55]? = some (.cells #[.int .i64 (l.getD 0 0), .int .i64 (l.getD 1 0), .int .i64 (l.getD 2 0), .int .i64 (m.getD 0 0), .int .i64 (m.getD 1 0)] 3 (0, 0)) := v41 55 zq _ rfl
   obtain ⟨b42, hBb42⟩ : ∃ b, B41 55 = b := ⟨_, rfl⟩
   rw [hBb42] at h43
   have hI44 : SlR .i64 u41 (some ⟨b42, 0, none⟩) 5 5 [(l.getD 0 0), (l.getD 1 0), (l.getD 2 0), (m.getD 0 0), (m.getD 1 0)] := ints_data (cs := [.int .i64 (l.getD 0 0), .int .i64 (l.getD 1 0), .int .i64 (l.getD 2 0), .int .i64 (m.getD 0 0), .int .i64 (m.getD 1 0)]) h43 rfl rfl xw (by unfold maxLen; decide)
   show Calls _ _ #[.int .i64 ((Nt.p2i (W.b - 1)) - 1), .slice (some ⟨B41 55, 0, none⟩) 5 5, .int .i64 5] _ _
   rw [hBb42]
   have k48 := (show Calls _ _ #[.int .i64 ((Nt.p2i (W.b - 1)) - 1), .slice (⟨some ⟨b42, 0, none⟩, 5, 5⟩ : Sl).a (⟨some ⟨b42, 0, none⟩, 5, 5⟩ : Sl).n (⟨some ⟨b42, 0, none⟩, 5, 5⟩ : Sl).c, .int .i64 5] _ _ from k_belowN (x := (⟨some ⟨b42, 0, none⟩, 5, 5⟩ : Sl)) (b := (Nt.p2i (W.b - 1)) - 1) (n := 5) d41 hI44 (bd_five xq xq xq xq xq) xq xq xq)
   with_reducible refine zPm k48 ?_
   rintro _ u46 g47 ⟨y45, m45, rfl, hln45, hs45, hal45⟩
   have hly45 : m45.length = y45.n := hs45.1
   refine zza 12 (.v y45.v) (zzc 79 [(1, zI n), (2, zI q), (4, .adr 4 0), (9, .v (.slice none 0 0)), (10, zI ((Nt.p2i (W.b - 1)) - 1)), (11, zI 0), (12, .v y45.v)] [(4, ⟨24, [x.v, y.v]⟩)] (zzz [0, 0, 2, 6, 0, 16, 48, 0, 128, 384, 1022, 0, 2048, 6144, 0, 16384, 49152, 129024, 262142, 524286, 1048575, 2097151] [(0, []), (1, []), (2, []), (3, []), (4, []), (5, []), (6, []), (7, []), (8, []), (9, []), (10, []), (11, []), (12, []), (13, []), (14, []), (15, []), (16, []), (17, []), (18, []), (19, []), (20, []), (21, [])] xv xv (zza 57 (.v (.slice none 0 0)) (zza 58 (.v y45.v) ?_))))
   have hl49 := (hs45).1
   obtain ⟨b49, o49, hA49, hc49⟩ := ints_at hs45 (i := 0) xq
   have hz49 := ints_bd hal45 xq 0
   refine zya 59 (o49 + 0 * 1) (n := y45.n) (off := o49) (sz := 1) (i := 0) xq hA49 xq xq sl22 (zyl 60 (.int .i64 (m45.getD 0 0)) hc49 ty3 (zza 61 (.v y45.v) ?_))
   have hl50 := (hs45).1
   obtain ⟨b50, o50, hA50, hc50⟩ := ints_at hs45 (i := 1) xq
   have hz50 := ints_bd hal45 xq 1
   refine zya 62 (o50 + 1 * 1) (n := y45.n) (off := o50) (sz := 1) (i := 1) xq hA50 xq xq sl22 (zyl 63 (.int .i64 (m45.getD 1 0)) hc50 ty3 (zza 64 (.v y45.v) ?_))
   have hl51 := (hs45).1
   obtain ⟨b51, o51, hA51, hc51⟩ := ints_at hs45 (i := 2) xq
   have hz51 := ints_bd hal45 xq 2
   refine zya 65 (o51 + 2 * 1) (n := y45.n) (off := o51) (sz := 1) (i := 2) xq hA51 xq xq sl22 (zyl 66 (.int .i64 (m45.getD 2 0)) hc51 ty3 (zza 67 (.v (.agg #[.int .i64 (m45.getD 0 0), .int .i64 (m45.getD 1 0), .int .i64 (m45.getD 2 0)])) (zza 68 (.v y45.v) ?_)))
   have hl52 := (hs45).1
   obtain ⟨b52, o52, hA52, hc52⟩ := ints_at hs45 (i := 3) xq
   have hz52 := ints_bd hal45 xq 3
   refine zya 69 (o52 + 3 * 1) (n := y45.n) (off := o52) (sz := 1) (i := 3) xq hA52 xq xq sl22 (zyl 70 (.int .i64 (m45.getD 3 0)) hc52 ty3 (zza 71 (.v y45.v) ?_))
   have hl53 := (hs45).1
   obtain ⟨b53, o53, hA53, hc53⟩ := ints_at hs45 (i := 4) xq
   have hz53 := ints_bd hal45 xq 4
   refine zya 72 (o53 + 4 * 1) (n := y45.n) (off := o53) (sz := 1) (i := 4) xq hA53 xq xq sl22 (zyl 73 (.int .i64 (m45.getD 4 0)) hc53 ty3 (zza 74 (.v (.agg #[.int .i64 (m45.getD 3 0), .int .i64 (m45.getD 4 0)])) (zza 75 (.v (.agg #[.int .i64 (m45.getD 0 0), .int .i64 (m45.getD 1 0), .int .i64 (m45.getD 2 0), .int .i64 (m45.getD 3 0), .int .i64 (m45.getD 4 0)])) (sy_lit 76 ⟨59, [.int .i64 (m45.getD 0 0), .int .i64 (m45.getD 1 0), .int .i64 (m45.getD 2 0), .int .i64 (m45.getD 3 0), .int .i64 (m45.getD 4 0)]⟩ 1 ?_))))
   refine sy_appL0 77 (T := 29) (E := 59) (z := .agg #[.int .i64 0, .int .i64 0, .int .i64 0, .int .i64 0, .int .i64 0]) (size := 5) (bytes := 40) (m := 1) (t2 := 76) [.int .i64 (m45.getD 0 0), .int .i64 (m45.getD 1 0), .int .i64 (m45.getD 2 0), .int .i64 (m45.getD 3 0), .int .i64 (m45.getD 4 0)] xv xv xv xw rfl (ics_one (p := [(m45.getD 0 0), (m45.getD 1 0), (m45.getD 2 0), (m45.getD 3 0), (m45.getD 4 0)])) xw xw xw ?_
   intro c54 cs54 ha54 hb54 hc54 hd54
   have hd54r : cs54.take (1 * 5) = kcs ([[(m45.getD 0 0), (m45.getD 1 0), (m45.getD 2 0), (m45.getD 3 0), (m45.getD 4 0)]]) := hd54
   refine zza 9 (.slc 77 0 1 c54) (zzx ?_)
   refine zzp (zzf (zza 24 (zI 0) (zza 25 (zI 1) (zza 11 (zI 1) (zzx ?_)))))
   refine ⟨_, ?_, _, by exact zzv _ _ _, .inr ⟨1, [[(m45.getD 0 0), (m45.getD 1 0), (m45.getD 2 0), (m45.getD 3 0), (m45.getD 4 0)]], cs54, c54, rfl, by omega, by omega, by simp, hc54, by omega, hb54, hd54r, rfl, (e11.trans (e12.trans (g14.ext.trans (e16.trans (g18.ext.trans (e21.trans (g23.ext.trans (e26.trans (g28.ext.trans (e31.trans (g33.ext.trans (e36.trans (g38.ext.trans (e41.trans g47.ext)))))))))))))), (sec_snoc (L := []) sec_nil xq xq xq xq xq)⟩⟩
   omega
  ·exact absurd hb (by rw [show (decide ((0 : Int) ≤ (n % q))) = true from decide_eq_true xq]; decide)
 ·change SW _ _ _ _ (St.of 79 [(1, .v (.int .i64 n)), (2, .v (.int .i64 q)), (4, .adr 4 0), (9, .slc 77 0 i cp), (10, .v (.int .i64 ((Nt.p2i (W.b - 1)) - 1))), (11, .v (.int .i64 (i : Int)))] [(4, ⟨24, [.slice x.a x.n x.c, .slice y.a y.n y.c]⟩), (77, ⟨59, cs⟩)]) _ _
  refine zzd (sq9 (zza 19 (zI i) (zza 20 (zI n) (zza 21 (zI q) (zzg 22 18 [.int .i64 n, .int .i64 q] ?_)))))
  intro w55 u55 e55 d55
  have k58 := k_within d55 (n := n) (m := q) xq xq xq xq
  with_reducible refine zPm k58 ?_
  rintro _ u56 g57 rfl
  refine zza 23 (zB (decide ((i : Int) ≤ (n % q)))) (zzb (zzu (b := decide ((i : Int) ≤ (n % q))) xv (fun hb59 => ?_) (fun hb59 => ?_)))
  ·replace hb59 : (decide ((i : Int) ≤ (n % q))) = true := hb59
   have qhb59 := of_decide_eq_true hb59
   refine zzs (zzp ?_)
   refine zzd (zzt (zzd (zzz [0, 0, 2, 0, 8, 30, 0, 64, 0, 256, 768, 2046, 0, 4096, 0, 16384, 49152, 131070, 0, 262144, 0, 1048576, 4194302, 0, 8388608, 0, 33554432, 100663296, 268435454, 536870910, 1073741823, 2147483647] [(0, []), (1, []), (2, []), (3, []), (4, []), (6, []), (7, []), (8, []), (9, []), (10, []), (12, []), (13, []), (14, []), (15, []), (16, []), (18, []), (19, []), (20, []), (21, []), (23, []), (24, []), (25, []), (26, []), (27, []), (5, []), (11, []), (17, []), (22, []), (28, []), (29, []), (30, [55]), (31, [])] xv xv (zza 26 (zI ((Nt.p2i (W.b - 1)) - 1)) (zza 27 (.adr 4 0) (zzi 28 (.v x.v) ty22 zzl (zza 29 (zI i) (zyq 30 (x := zI (IntKind.i64.wrap ((3 : Int) * (i : Int)))) (zI (3 * i : Nat)) (eqI xk) (zza 32 (.adr 4 0) (zzi 33 (.v x.v) ty22 zzl (zza 34 (zI i) ?_)))))))))))
   refine zyq 35 (x := zI (IntKind.i64.wrap ((3 : Int) * (i : Int)))) (zI (3 * i : Nat)) (eqI xk) (zyq 36 (x := zI (IntKind.i64.wrap (((3 * i : Nat) : Int) + 1))) (zI (((3 * i) + 1 : Nat) : Int)) (eqI xk) (zza 38 (.adr 4 0) (zzi 39 (.v x.v) ty22 zzl (zza 40 (zI i) (zyq 41 (x := zI (IntKind.i64.wrap ((3 : Int) * (i : Int)))) (zI (3 * i : Nat)) (eqI xk) (zyq 42 (x := zI (IntKind.i64.wrap (((3 * i : Nat) : Int) + 2))) (zI (((3 * i) + 2 : Nat) : Int)) (eqI xk) (zza 44 (.adr 4 1) (zzi 45 (.v y.v) ty22 zzl (zza 46 (zI i) (zyq 47 (x := zI (IntKind.i64.wrap ((2 : Int) * (i : Int)))) (zI (2 * i : Nat)) (eqI xk) (zza 49 (.adr 4 1) ?_)))))))))))
   refine zzi 50 (.v y.v) ty22 zzl (zza 51 (zI i) (zyq 52 (x := zI (IntKind.i64.wrap ((2 : Int) * (i : Int)))) (zI (2 * i : Nat)) (eqI xk) (zyq 53 (x := zI (IntKind.i64.wrap (((2 * i : Nat) : Int) + 1))) (zI (((2 * i) + 1 : Nat) : Int)) (eqI xk) (zzg 31 20 [x.v, .int .i64 (3 * i : Nat)] ?_))))
   intro w60 u60 e60 d60
   have k63 := (show Calls _ _ #[_, .int .i64 ((3 * i : Nat) : Int)] _ _ from k_wat (x := x) (i := 3 * i) d60 (hx.ext (e11.trans (e55.trans (g57.ext.trans e60)))) hb xq)
   with_reducible refine zPm k63 ?_
   rintro _ u61 g62 rfl
   have hz64 := ints_bd hb xq (3 * i)
   refine zzg 37 20 [x.v, .int .i64 (((3 * i) + 1 : Nat) : Int)] ?_
   intro w65 u65 e65 d65
   have k68 := (show Calls _ _ #[_, .int .i64 (((3 * i) + 1 : Nat) : Int)] _ _ from k_wat (x := x) (i := (3 * i) + 1) d65 (hx.ext (e11.trans (e55.trans (g57.ext.trans (e60.trans (g62.ext.trans e65)))))) hb xq)
   with_reducible refine zPm k68 ?_
   rintro _ u66 g67 rfl
   have hz69 := ints_bd hb xq ((3 * i) + 1)
   refine zzg 43 20 [x.v, .int .i64 (((3 * i) + 2 : Nat) : Int)] ?_
   intro w70 u70 e70 d70
   have k73 := (show Calls _ _ #[_, .int .i64 (((3 * i) + 2 : Nat) : Int)] _ _ from k_wat (x := x) (i := (3 * i) + 2) d70 (hx.ext (e11.trans (e55.trans (g57.ext.trans (e60.trans (g62.ext.trans (e65.trans (g67.ext.trans e70)))))))) hb xq)
   with_reducible refine zPm k73 ?_
   rintro _ u71 g72 rfl
   have hz74 := ints_bd hb xq ((3 * i) + 2)
   refine zzg 48 20 [y.v, .int .i64 (2 * i : Nat)] ?_
   intro w75 u75 e75 d75
   have k78 := (show Calls _ _ #[_, .int .i64 ((2 * i : Nat) : Int)] _ _ from k_wat (x := y) (i := 2 * i) d75 (hy.ext (e11.trans (e55.trans (g57.ext.trans (e60.trans (g62.ext.trans (e65.trans (g67.ext.trans (e70.trans (g72.ext.trans e75)))))))))) hbm xq)
   with_reducible refine zPm k78 ?_
   rintro _ u76 g77 rfl
   have hz79 := ints_bd hbm xq (2 * i)
   refine zzg 54 20 [y.v, .int .i64 (((2 * i) + 1 : Nat) : Int)] ?_
   intro w80 u80 e80 d80
   have k83 := (show Calls _ _ #[_, .int .i64 (((2 * i) + 1 : Nat) : Int)] _ _ from k_wat (x := y) (i := (2 * i) + 1) d80 (hy.ext (e11.trans (e55.trans (g57.ext.trans (e60.trans (g62.ext.trans (e65.trans (g67.ext.trans (e70.trans (g72.ext.trans (e75.trans (g77.ext.trans e80)))))))))))) hbm xq)
   with_reducible refine zPm k83 ?_
   rintro _ u81 g82 rfl
   have hz84 := ints_bd hbm xq ((2 * i) + 1)
   refine sy_lit 55 ⟨3, [.int .i64 (l.getD (3 * i) 0), .int .i64 (l.getD ((3 * i) + 1) 0), .int .i64 (l.getD ((3 * i) + 2) 0), .int .i64 (m.getD (2 * i) 0), .int .i64 (m.getD ((2 * i) + 1) 0)]⟩ 5 ?_
   refine zyo 56 19 [.v (.int .i64 ((Nt.p2i (W.b - 1)) - 1)), .slc 55 0 5 5, zI 5] [55] (.inr rfl) (pub_mk xj) (k := ?_)
   intro B85 w85 u85 e85 d85 v85
   have h87 : u85.heap[B85 55]? = some (.cells #[.int .i64 (l.getD (3 * i) 0), .int .i64 (l.getD ((3 * i) + 1) 0), .int .i64 (l.getD ((3 * i) + 2) 0), .int .i64 (m.getD (2 * i) 0), .int .i64 (m.getD ((2 * i) + 1) 0)] 3 (0, 0)) := v85 55 zq _ rfl
   obtain ⟨b86, hBb86⟩ : ∃ b, B85 55 = b := ⟨_, rfl⟩
   rw [hBb86] at h87
   have hI88 : SlR .i64 u85 (some ⟨b86, 0, none⟩) 5 5 [(l.getD (3 * i) 0), (l.getD ((3 * i) + 1) 0), (l.getD ((3 * i) + 2) 0), (m.getD (2 * i) 0), (m.getD ((2 * i) + 1) 0)] := ints_data (cs := [.int .i64 (l.getD (3 * i) 0), .int .i64 (l.getD ((3 * i) + 1) 0), .int .i64 (l.getD ((3 * i) + 2) 0), .int .i64 (m.getD (2 * i) 0), .int .i64 (m.getD ((2 * i) + 1) 0)]) h87 rfl rfl xw (by unfold maxLen; decide)
   show Calls _ _ #[.int .i64 ((Nt.p2i (W.b - 1)) - 1), .slice (some ⟨B85 55, 0, none⟩) 5 5, .int .i64 5] _ _
   rw [hBb86]
   have k92 := (show Calls _ _ #[.int .i64 ((Nt.p2i (W.b - 1)) - 1), .slice (⟨some ⟨b86, 0, none⟩, 5, 5⟩ : Sl).a (⟨some ⟨b86, 0, none⟩, 5, 5⟩ : Sl).n (⟨some ⟨b86, 0, none⟩, 5, 5⟩ : Sl).c, .int .i64 5] _ _ from k_belowN (x := (⟨some ⟨b86, 0, none⟩, 5, 5⟩ : Sl)) (b := (Nt.p2i (W.b - 1)) - 1) (n := 5) d85 hI88 (bd_five xq xq xq xq xq) xq xq xq)
   with_reducible refine zPm k92 ?_
   rintro _ u90 g91 ⟨y89, m89, rfl, hln89, hs89, hal89⟩
   have hly89 : m89.length = y89.n := hs89.1
   refine zza 12 (.v y89.v) (zzc 79 [(1, zI n), (2, zI q), (4, .adr 4 0), (9, .slc 77 0 i cp), (10, zI ((Nt.p2i (W.b - 1)) - 1)), (11, zI i), (12, .v y89.v)] [(4, ⟨24, [x.v, y.v]⟩), (77, ⟨59, cs⟩)] (zzz [0, 0, 2, 6, 0, 16, 48, 0, 128, 384, 1022, 0, 2048, 6144, 0, 16384, 49152, 129024, 262142, 524286, 1048575, 2097151] [(0, []), (1, []), (2, []), (3, []), (4, []), (5, []), (6, []), (7, []), (8, []), (9, []), (10, []), (11, []), (12, []), (13, []), (14, []), (15, []), (16, []), (17, []), (18, []), (19, []), (20, []), (21, [])] xv xv (zza 57 (.slc 77 0 i cp) (zza 58 (.v y89.v) ?_))))
   have hl93 := (hs89).1
   obtain ⟨b93, o93, hA93, hc93⟩ := ints_at hs89 (i := 0) xq
   have hz93 := ints_bd hal89 xq 0
   refine zya 59 (o93 + 0 * 1) (n := y89.n) (off := o93) (sz := 1) (i := 0) xq hA93 xq xq sl22 (zyl 60 (.int .i64 (m89.getD 0 0)) hc93 ty3 (zza 61 (.v y89.v) ?_))
   have hl94 := (hs89).1
   obtain ⟨b94, o94, hA94, hc94⟩ := ints_at hs89 (i := 1) xq
   have hz94 := ints_bd hal89 xq 1
   refine zya 62 (o94 + 1 * 1) (n := y89.n) (off := o94) (sz := 1) (i := 1) xq hA94 xq xq sl22 (zyl 63 (.int .i64 (m89.getD 1 0)) hc94 ty3 (zza 64 (.v y89.v) ?_))
   have hl95 := (hs89).1
   obtain ⟨b95, o95, hA95, hc95⟩ := ints_at hs89 (i := 2) xq
   have hz95 := ints_bd hal89 xq 2
   refine zya 65 (o95 + 2 * 1) (n := y89.n) (off := o95) (sz := 1) (i := 2) xq hA95 xq xq sl22 (zyl 66 (.int .i64 (m89.getD 2 0)) hc95 ty3 (zza 67 (.v (.agg #[.int .i64 (m89.getD 0 0), .int .i64 (m89.getD 1 0), .int .i64 (m89.getD 2 0)])) (zza 68 (.v y89.v) ?_)))
   have hl96 := (hs89).1
   obtain ⟨b96, o96, hA96, hc96⟩ := ints_at hs89 (i := 3) xq
   have hz96 := ints_bd hal89 xq 3
   refine zya 69 (o96 + 3 * 1) (n := y89.n) (off := o96) (sz := 1) (i := 3) xq hA96 xq xq sl22 (zyl 70 (.int .i64 (m89.getD 3 0)) hc96 ty3 (zza 71 (.v y89.v) ?_))
   have hl97 := (hs89).1
   obtain ⟨b97, o97, hA97, hc97⟩ := ints_at hs89 (i := 4) xq
   have hz97 := ints_bd hal89 xq 4
   refine zya 72 (o97 + 4 * 1) (n := y89.n) (off := o97) (sz := 1) (i := 4) xq hA97 xq xq sl22 (zyl 73 (.int .i64 (m89.getD 4 0)) hc97 ty3 (zza 74 (.v (.agg #[.int .i64 (m89.getD 3 0), .int .i64 (m89.getD 4 0)])) (zza 75 (.v (.agg #[.int .i64 (m89.getD 0 0), .int .i64 (m89.getD 1 0), .int .i64 (m89.getD 2 0), .int .i64 (m89.getD 3 0), .int .i64 (m89.getD 4 0)])) (sy_lit 76 ⟨59, [.int .i64 (m89.getD 0 0), .int .i64 (m89.getD 1 0), .int .i64 (m89.getD 2 0), .int .i64 (m89.getD 3 0), .int .i64 (m89.getD 4 0)]⟩ 1 ?_))))
   refine sy_appL1 77 (T := 29) (E := 59) (z := .agg #[.int .i64 0, .int .i64 0, .int .i64 0, .int .i64 0, .int .i64 0]) (size := 5) (bytes := 40) (m := 1) (t2 := 76) (n := i) (cap := cp) (t := 77) (cs0 := cs) [9, 57, 77] [.int .i64 (m89.getD 0 0), .int .i64 (m89.getD 1 0), .int .i64 (m89.getD 2 0), .int .i64 (m89.getD 3 0), .int .i64 (m89.getD 4 0)] xv xv xv xw rfl (ics_one (p := [(m89.getD 0 0), (m89.getD 1 0), (m89.getD 2 0), (m89.getD 3 0), (m89.getD 4 0)])) xw yq xq xq xq xq xj ?_
   intro c98 cs98 ha98 hb98 hc98 hd98
   have hd98r : cs98.take ((i + 1) * 5) = kcs (L ++ [[(m89.getD 0 0), (m89.getD 1 0), (m89.getD 2 0), (m89.getD 3 0), (m89.getD 4 0)]]) := by rw [hd98, ht, kcs_app]; rfl
   refine zza 9 (.slc 77 0 (i + 1) c98) (zzx ?_)
   refine zzp (zzf (zza 24 (zI i) (zyq 25 (x := zI (IntKind.i64.wrap ((i : Int) + 1))) (zI (i + 1 : Nat)) (eqI xk) (zza 11 (zI (i + 1 : Nat)) (zzx ?_)))))
   refine ⟨_, ?_, _, by exact zzv _ _ _, .inr ⟨i + 1, L ++ [[(m89.getD 0 0), (m89.getD 1 0), (m89.getD 2 0), (m89.getD 3 0), (m89.getD 4 0)]], cs98, c98, rfl, by omega, by omega, by simp; omega, hc98, by omega, hb98, hd98r, rfl, (e11.trans (e55.trans (g57.ext.trans (e60.trans (g62.ext.trans (e65.trans (g67.ext.trans (e70.trans (g72.ext.trans (e75.trans (g77.ext.trans (e80.trans (g82.ext.trans (e85.trans g91.ext)))))))))))))), (sec_snoc (L := L) hP xq xq xq xq xq)⟩⟩
   omega
  ·replace hb59 : (decide ((i : Int) ≤ (n % q))) = false := hb59
   have qhb59 := of_decide_eq_false hb59
   refine zyc (zzp (zzd (zyp (r := 9) (t := 77) [9, 77] xj xv zv zv xv (fun b99 u100 e101 hb102 hh103 => ?_))))
   have hp104 : IrV 5 u100 ⟨some ⟨b99, 0, none⟩, i, cp⟩ L := ir_data hh103 (fun p hp => (hP p hp).1) ht xq hc hle hmx
   refine zzf (zza 78 (.v (.slice (some ⟨b99, 0, none⟩) i cp)) (zza 8 (.v (.slice (some ⟨b99, 0, none⟩) i cp)) (zzb (zzo (ret0 [.slice (some ⟨b99, 0, none⟩) i cp] ⟨zzq, trivial⟩ fun u105 e106 => ?_)))))
   exact ⟨(⟨some ⟨b99, 0, none⟩, i, cp⟩ : Sl), L, rfl, (hp104.ext e106), by omega, hP⟩
theorem rows_bd {W : WL} {L : List (List Int)} (hW : WdOK W) (h : ∀ p ∈ L, p.length = 5 ∧ ∀ z ∈ p, -(Nt.p2i (W.b - 1) - 1) ≤ z ∧ z ≤ Nt.p2i (W.b - 1) - 1) : ∀ p ∈ L, ∀ z ∈ p, -9223372036854775808 ≤ z ∧ z ≤ 9223372036854775807 := fun p hp z hz => by
 have h1 := (h p hp).2 z hz
 have h2 := Nt.p2i_24 (n := W.b - 1) (by obtain ⟨_, h3, _⟩ := hW; omega)
 omega
namespace Nt
theorem wq_wh {z f : Int} {b : Nat} (hz : z.natAbs ≤ 2 ^ b) : Wh (wq z f * ((((p2i f).toNat : Nat) : Int) : Rat)) b := by
 have hp := zxo f
 rw [Int.toNat_of_nonneg (Int.le_of_lt hp)]
 refine ⟨z, ?_, hz⟩
 unfold wq
 exact Rat.div_mul_cancel (fun e => by have : p2i f = 0 := Rat.intCast_inj.1 e; omega)
def csN (f : Int) (p : List Int) : List Rat := [wq (p.getD 0 0) f, wq (p.getD 1 0) f, wq (p.getD 2 0) f]
def csD (f : Int) (p : List Int) : List Rat := [1, wq (p.getD 3 0) f, wq (p.getD 4 0) f]
def csP (g : List Int → List Rat) (L : List (List Int)) : Nat → List Rat
 | 0 => [1]
 | k + 1 => trimQ (mulQ (csP g L k) (g (L.getD k [])))
theorem csN_sm {f : Int} {p : List Int} (h : ∀ j, j < 5 → (p.getD j 0).natAbs ≤ 2 ^ 24) : Sm (csN f p) (p2i f).toNat 24 := by
 have hp := zxo f
 refine Sm.ofAll xq (fun x hx => ?_)
 rcases List.mem_cons.1 hx with rfl | hx
 ·exact wq_wh (h 0 xw)
 rcases List.mem_cons.1 hx with rfl | hx
 ·exact wq_wh (h 1 xw)
 rw [List.mem_singleton.1 hx]
 exact wq_wh (h 2 xw)
theorem csD_sm {f : Int} {p : List Int} (hf : p2i f ≤ 16777216) (h : ∀ j, j < 5 → (p.getD j 0).natAbs ≤ 2 ^ 24) : Sm (csD f p) (p2i f).toNat 24 := by
 have hp := zxo f
 refine Sm.ofAll xq (fun x hx => ?_)
 rcases List.mem_cons.1 hx with rfl | hx
 ·exact ⟨((p2i f).toNat : Int), by rw [Rat.one_mul], by omega⟩
 rcases List.mem_cons.1 hx with rfl | hx
 ·exact wq_wh (h 3 xw)
 rw [List.mem_singleton.1 hx]
 exact wq_wh (h 4 xw)
section
variable {g : List Int → List Rat} {L : List (List Int)} {k P K : Nat}
theorem csP_len (hg : ∀ p, (g p).length = 3) : (csP g L k).length ≤ 2 * k + 1 := by
 induction k with
 | zero => exact Nat.le_refl _
 | succ k ih => exact Nat.le_trans (zxt ih (Nat.le_of_eq (hg _))) xq
theorem csP_sm (hP : 0 < P) (hg : ∀ p, (g p).length = 3) (hs : ∀ i, i < k → Sm (g (L.getD i [])) P 24) : Sm (csP g L k) (P ^ k) (27 * k) := by
 induction k with
 | zero => exact Sm.ofAll (Nat.lt_of_lt_of_le (by decide : 0 < 1) (Nat.le_of_eq (Nat.pow_zero P).symm)) (fun x hx => by rw [List.mem_singleton.1 hx]; exact ⟨1, by simp, by decide⟩)
 | succ k ih =>
  have h1 := (Sm.mulR (ih (fun i hi => hs i xq)) (hs k xq)).trim
  rw [hg] at h1
  rw [Nat.pow_succ]
  exact h1.more xq
end
def secSt (f : Int) (p : List Int) : Bool := decide (az (p.getD 4 0) < p2i f) && decide (az (p.getD 3 0) < p2i f + p.getD 4 0)
def csSt (f : Int) (L : List (List Int)) : Bool := decide (∀ i, i < L.length → secSt f (L.getD i []) = true)
theorem csSt_yes {f : Int} {L : List (List Int)} (h : ∀ i, i < L.length → secSt f (L.getD i []) = true) : csSt f L = true := decide_eq_true h
theorem csSt_no {f : Int} {L : List (List Int)} {i : Nat} (hi : i < L.length) (h : secSt f (L.getD i []) = false) : csSt f L = false := decide_eq_false (fun k => by rw [k i hi] at h; cases h)
theorem secSt_yes {f : Int} {L : List (List Int)} {i : Nat} (h1 : az (gi L i 4) < p2i f) (h2 : az (gi L i 3) < p2i f + gi L i 4) : secSt f (L.getD i []) = true := by
 unfold gi at h1 h2
 unfold secSt; rw [decide_eq_true h1, decide_eq_true h2]; rfl
theorem secSt_no1 {f : Int} {L : List (List Int)} {i : Nat} (h1 : ¬ az (gi L i 4) < p2i f) : secSt f (L.getD i []) = false := by
 unfold gi at h1
 unfold secSt; rw [decide_eq_false h1]; rfl
theorem secSt_no2 {f : Int} {L : List (List Int)} {i : Nat} (h2 : ¬ az (gi L i 3) < p2i f + gi L i 4) : secSt f (L.getD i []) = false := by
 unfold gi at h2
 unfold secSt; rw [decide_eq_false h2, Bool.and_false]
end Nt
theorem csP_fit {u : World} {x : Sl} {g : List Int → List Rat} {L : List (List Int)} {k P K : Nat} (h : PolN u x (Nt.csP g L k) K) (hP : 0 < P) (hP2 : P ≤ 2 ^ 24) (hk : k ≤ 8) (hg : ∀ p, (g p).length = 3) (hs : ∀ i, i < k → Nt.Sm (g (L.getD i [])) P 24) : PolN u x (Nt.csP g L k) 7 := by
 refine (PolN.fitS h (Nt.csP_sm hP hg hs) ?_).more ?_
 ·refine Nat.le_trans (Nat.pow_le_pow_left hP2 k) ?_
  rw [← Nat.pow_mul]
  exact Nat.pow_le_pow_right xw xq
 ·exact Nat.le_trans (Nt.dg_mono (show 27 * k ≤ 216 by omega)) xw
set_option maxHeartbeats 4000000 in
theorem k_csIdeal {u w : World} {x : Sl} {L : List (List Int)} {W : WL} (d : Dat u w) (hE : Nt.csE W L = 0) (hx : IrV 5 u x L) (hb : ∀ p ∈ L, ∀ z ∈ p, -9223372036854775808 ≤ z ∧ z ≤ 9223372036854775807) : Calls Try.prog 13 #[x.v, W.v] w (Post u w fun v u' => ∃ y z : Sl, v = .tuple #[.agg #[y.v, z.v], .int .i64 0] ∧ PolN u' y (Nt.csP (Nt.csN W.f) L L.length) 7 ∧ PolN u' z (Nt.csP (Nt.csD W.f) L L.length) 7) := by
 obtain ⟨hW, h1, h8, hall⟩ := Nt.csE_ok hE
 have hlx := hx.len
 obtain ⟨hw1, hw2, hw3, hw4, hw5, hw6, hw7, hw8⟩ := id hW
 have hp24 := Nt.p2i_24 (n := W.b - 1) xq
 have hpf := Nt.p2i_24 (n := W.f) xq
 have hpp := Nt.zxo W.f
 have hbd5 : ∀ i, i < L.length → ∀ j, j < 5 → ((L.getD i []).getD j 0).natAbs ≤ 2 ^ 24 := fun i hi j hj => by have h9 := Nt.secFit_ok (hall i hi) j hj; unfold gi at h9; omega
 refine zzm (args := [.slice x.a x.n x.c, .agg #[.int .i64 W.b, .int .i64 W.f, .int .i64 W.r, .int .i64 W.o]]) Try.func13 rfl Try.ntmps13 (rs := [.cell 4 45, .tmp 5]) Try.results13 (le_b rfl) (le_b rfl) d ?_
 refine sq9 (zzk 3 ⟨27, W.cs⟩ (zzk 4 ⟨45, [.slice none 0 0, .slice none 0 0]⟩ (zza 5 (zI 0) (zzb (zzd (sq9 (zza 17 (.v x.v) (zzi 18 (.v (W.v)) ty27 zze (zzg 19 24 [x.v, W.v] ?_)))))))))
 intro w11 u11 e11 d11
 have k14 := (Post.mono (Ψ := fun v _ => v = .int .i64 0) (k_csWrong (W := W) d11 (hx.ext e11) hb) (fun v u9 _ h => by rw [hE] at h; exact h))
 with_reducible refine zPm k14 ?_
 rintro _ u12 g13 rfl
 refine zza 6 (zI 0) (zzb (sq9 (zza 20 (zI 0) (zza 21 (zB false) (zzb (zys xv (zzs (zzp ?_))))))))
 refine sq9 (zzg 24 29 [.int .i64 1] ?_)
 intro w15 u15 e15 d15
 have k20 := k_ratOf d15 (z := 1) xq xq
 with_reducible refine zPm k20 ?_
 rintro _ u18 g19 ⟨r16, rfl, h17⟩
 refine zxx 25 ⟨82, r16.cs⟩ 1 (fun b21 u22 e23 h24 => ?_)
 have hp25 : PolN u22 (⟨some ⟨b21, 0, none⟩, 1, 1⟩ : Sl) [((1 : Int) : Rat)] 2 := pol_lit (L := [r16]) h24 (rats1 (h17.ext e23)) rfl xw
 refine zzg 26 29 [.int .i64 1] ?_
 intro w26 u26 e26 d26
 have k31 := k_ratOf d26 (z := 1) xq xq
 with_reducible refine zPm k31 ?_
 rintro _ u29 g30 ⟨r27, rfl, h28⟩
 refine zxx 27 ⟨82, r27.cs⟩ 1 (fun b32 u33 e34 h35 => ?_)
 have hp36 : PolN u33 (⟨some ⟨b32, 0, none⟩, 1, 1⟩ : Sl) [((1 : Int) : Rat)] 2 := pol_lit (L := [r27]) h35 (rats1 (h28.ext e34)) rfl xw
 refine zza 7 (.v (.slice (some ⟨b21, 0, none⟩) 1 1)) (zza 8 (.v (.slice (some ⟨b32, 0, none⟩) 1 1)) (zzb (zzd (sq9 (zza 28 (.v x.v) (zza 29 (zI x.n) (zza 30 (zI 0) (zzb (zzt (zyn (I := fun m37 S' u' => ∃ (i : Nat) (a : Sl) (b : Sl), (m37 = x.n - i) ∧ (i ≤ x.n) ∧ (S' = St.of 71 [(3, .adr 3 0), (4, .adr 4 0), (7, .v (.slice a.a a.n a.c)), (8, .v (.slice b.a b.n b.c)), (28, .v (.slice x.a x.n x.c)), (29, zI x.n), (30, zI i)] [(3, ⟨27, [.int .i64 W.b, .int .i64 W.f, .int .i64 W.r, .int .i64 W.o]⟩), (4, ⟨45, [.slice none 0 0, .slice none 0 0]⟩)]) ∧ (Ext u33 u') ∧ (PolN u' a (Nt.csP (Nt.csN W.f) L i) 7) ∧ (PolN u' b (Nt.csP (Nt.csD W.f) L i) 7)) (fun m S u1 u2 e h => by obtain ⟨i, a, b, hm, p0, hS, hE, f0, f1⟩ := h; exact ⟨i, a, b, hm, p0, hS, hE.trans e, f0.ext e, f1.ext e⟩) _ yj ⟨0, (⟨some ⟨b21, 0, none⟩, 1, 1⟩ : Sl), (⟨some ⟨b32, 0, none⟩, 1, 1⟩ : Sl), rfl, Nat.zero_le _, rfl, (Ext.refl _), (show PolN _ _ [1] _ from PolN.more (K := 2) (hp25.ext (e26.trans (g30.ext.trans e34))) xq), (show PolN _ _ [1] _ from PolN.more (K := 2) hp36 xq)⟩ ?_))))))))))
 rintro m37 _ u37 ⟨i, a, b, hm37, hi, rfl, e37, hA, hB⟩
 have hal := hA.len
 have hbl := hB.len
 have hla : ((Nt.csP (Nt.csN W.f) L i)).length ≤ 17 := Nat.le_trans (Nt.csP_len (fun _ => rfl)) xq
 have hlb : ((Nt.csP (Nt.csD W.f) L i)).length ≤ 17 := Nat.le_trans (Nt.csP_len (fun _ => rfl)) xq
 refine sq9 (zza 31 (zB (decide ((i : Int) < (x.n : Int)))) (zzb (zzd (zzu (b := decide ((i : Int) < (x.n : Int))) xv (fun hb38 => ?_) (fun hb38 => ?_)))))
 ·replace hb38 : (decide ((i : Int) < (x.n : Int))) = true := hb38
  have qhb38 := of_decide_eq_true hb38
  refine zzs (zzp ?_)
  refine zzd (zzt (zzd ?_))
  have hbd := Nt.secFit_ok (hall i xq)
  have hbd0 := hbd 0 xw
  have hbd1 := hbd 1 xw
  have hbd2 := hbd 2 xw
  have hbd3 := hbd 3 xw
  have hbd4 := hbd 4 xw
  refine zzf ?_
  have hl39 := ((hx.ext (e11.trans (g13.ext.trans (e15.trans (g19.ext.trans (e23.trans (e26.trans (g30.ext.trans (e34.trans e37)))))))))).len
  obtain ⟨b39, o39, hA39, hc39⟩ := ir_at5 (hx.ext (e11.trans (g13.ext.trans (e15.trans (g19.ext.trans (e23.trans (e26.trans (g30.ext.trans (e34.trans e37))))))))) (i := i) xq
  refine zya 32 (o39 + i * 5) (n := x.n) (off := o39) (sz := 5) (i := (i : Int)) xq hA39 xq xq sl29 (zym 33 [.int .i64 (gi L i 0), .int .i64 (gi L i 1), .int .i64 (gi L i 2), .int .i64 (gi L i 3), .int .i64 (gi L i 4)] hc39 ty59 (zzk 10 ⟨59, [.int .i64 0, .int .i64 0, .int .i64 0, .int .i64 0, .int .i64 0]⟩ (zzj ⟨59, [.int .i64 (gi L i 0), .int .i64 (gi L i 1), .int .i64 (gi L i 2), .int .i64 (gi L i 3), .int .i64 (gi L i 4)]⟩ ty59 ?_)))
  refine zzb (sq9 (zzk 11 ⟨84, [.bool false, .slice none 0 0, .slice none 0 0, .bool false, .slice none 0 0, .slice none 0 0, .bool false, .slice none 0 0, .slice none 0 0]⟩ (zzb (sq9 (zzg 34 29 [.int .i64 1] ?_)))))
  intro w40 u40 e40 d40
  have k45 := k_ratOf d40 (z := 1) xq xq
  with_reducible refine zPm k45 ?_
  rintro _ u43 g44 ⟨r41, rfl, h42⟩
  refine zza 35 (.v (.agg #[.bool r41.s, r41.m.v, r41.d.v, .bool false, .slice none 0 0, .slice none 0 0, .bool false, .slice none 0 0, .slice none 0 0])) (zzk 12 ⟨84, [.bool false, .slice none 0 0, .slice none 0 0, .bool false, .slice none 0 0, .slice none 0 0, .bool false, .slice none 0 0, .slice none 0 0]⟩ (zzj ⟨84, r41.cs ++ [.bool false, .slice none 0 0, .slice none 0 0, .bool false, .slice none 0 0, .slice none 0 0]⟩ ty84 ?_))
  refine zzb (zzd (sq9 (zza 36 (.adr 10 0) (zzi 37 (.v (.agg #[.int .i64 (gi L i 0), .int .i64 (gi L i 1), .int .i64 (gi L i 2)])) ty54 zze (zza 38 (zI 0) (zzc 71 [(3, .adr 3 0), (4, .adr 4 0), (7, .v a.v), (8, .v b.v), (10, .adr 10 0), (11, .adr 11 0), (12, .adr 12 0), (28, .v x.v), (29, zI x.n), (30, zI i), (37, .v (.agg #[.int .i64 (gi L i 0), .int .i64 (gi L i 1), .int .i64 (gi L i 2)])), (38, zI 0)] [(3, ⟨27, W.cs⟩), (4, ⟨45, [.slice none 0 0, .slice none 0 0]⟩), (10, ⟨59, [.int .i64 (gi L i 0), .int .i64 (gi L i 1), .int .i64 (gi L i 2), .int .i64 (gi L i 3), .int .i64 (gi L i 4)]⟩), (11, ⟨84, [.bool false, .slice none 0 0, .slice none 0 0, .bool false, .slice none 0 0, .slice none 0 0, .bool false, .slice none 0 0, .slice none 0 0]⟩), (12, ⟨84, r41.cs ++ [.bool false, .slice none 0 0, .slice none 0 0, .bool false, .slice none 0 0, .slice none 0 0]⟩)] (zzt (sw_rounds 3 ?_))))))))
  refine sq9 (zza 39 (zB true) (zzb (zzd (zyr xv (zzs (zzp ?_))))))
  refine zzd (zzt (sq9 (zza 40 (zI 0) (zza 41 (zI (gi L i 0)) (zza 13 (zI 0) (zza 14 (zI (gi L i 0)) (zzb (zzf (zza 42 (zI 0) (zzi 43 (.v (W.v)) ty27 zze (zza 44 (zI (gi L i 0)) ?_)))))))))))
  refine zzg 45 30 [W.v, .int .i64 (gi L i 0)] ?_
  intro w46 u46 e46 d46
  have k51 := k_fxValue (W := W) (z := gi L i 0) d46 hW xq xq
  with_reducible refine zPm k51 ?_
  rintro _ u49 g50 ⟨r47, rfl, h48⟩
  refine zza 46 (.adr 11 0) (zzj ⟨84, r47.cs ++ [.bool false, .slice none 0 0, .slice none 0 0, .bool false, .slice none 0 0, .slice none 0 0]⟩ ty82 ?_)
  refine zzx ?_
  refine zzp (zzf (zza 47 (zI 1) (zza 38 (zI 1) (zzx ?_))))
  refine rn_next ?_
  refine sw_weak (T := St.of 71 [(3, .adr 3 0), (4, .adr 4 0), (7, .v (.slice a.a a.n a.c)), (8, .v (.slice b.a b.n b.c)), (10, .adr 10 0), (11, .adr 11 0), (12, .adr 12 0), (28, .v (.slice x.a x.n x.c)), (29, zI x.n), (30, zI i), (37, .v (.agg #[.int .i64 (gi L i 0), .int .i64 (gi L i 1), .int .i64 (gi L i 2)])), (38, zI 1)] [(3, ⟨27, [.int .i64 W.b, .int .i64 W.f, .int .i64 W.r, .int .i64 W.o]⟩), (4, ⟨45, [.slice none 0 0, .slice none 0 0]⟩), (10, ⟨59, [.int .i64 (gi L i 0), .int .i64 (gi L i 1), .int .i64 (gi L i 2), .int .i64 (gi L i 3), .int .i64 (gi L i 4)]⟩), (11, ⟨84, r47.cs ++ [.bool false, .slice none 0 0, .slice none 0 0, .bool false, .slice none 0 0, .slice none 0 0]⟩), (12, ⟨84, r41.cs ++ [.bool false, .slice none 0 0, .slice none 0 0, .bool false, .slice none 0 0, .slice none 0 0]⟩)]) yj ?_
  refine sq9 (zza 39 (zB true) (zzb (zzd (zyr xv (zzs (zzp ?_))))))
  refine zzd (zzt (sq9 (zza 40 (zI 1) (zza 41 (zI (gi L i 1)) (zza 13 (zI 1) (zza 14 (zI (gi L i 1)) (zzb (zzf (zza 42 (zI 1) (zzi 43 (.v (W.v)) ty27 zze (zza 44 (zI (gi L i 1)) ?_)))))))))))
  refine zzg 45 30 [W.v, .int .i64 (gi L i 1)] ?_
  intro w52 u52 e52 d52
  have k57 := k_fxValue (W := W) (z := gi L i 1) d52 hW xq xq
  with_reducible refine zPm k57 ?_
  rintro _ u55 g56 ⟨r53, rfl, h54⟩
  refine zza 46 (.adr 11 3) (zzj ⟨84, r47.cs ++ r53.cs ++ [.bool false, .slice none 0 0, .slice none 0 0]⟩ ty82 ?_)
  refine zzx ?_
  refine zzp (zzf (zza 47 (zI 2) (zza 38 (zI 2) (zzx ?_))))
  refine rn_next ?_
  refine sw_weak (T := St.of 71 [(3, .adr 3 0), (4, .adr 4 0), (7, .v (.slice a.a a.n a.c)), (8, .v (.slice b.a b.n b.c)), (10, .adr 10 0), (11, .adr 11 0), (12, .adr 12 0), (28, .v (.slice x.a x.n x.c)), (29, zI x.n), (30, zI i), (37, .v (.agg #[.int .i64 (gi L i 0), .int .i64 (gi L i 1), .int .i64 (gi L i 2)])), (38, zI 2)] [(3, ⟨27, [.int .i64 W.b, .int .i64 W.f, .int .i64 W.r, .int .i64 W.o]⟩), (4, ⟨45, [.slice none 0 0, .slice none 0 0]⟩), (10, ⟨59, [.int .i64 (gi L i 0), .int .i64 (gi L i 1), .int .i64 (gi L i 2), .int .i64 (gi L i 3), .int .i64 (gi L i 4)]⟩), (11, ⟨84, r47.cs ++ r53.cs ++ [.bool false, .slice none 0 0, .slice none 0 0]⟩), (12, ⟨84, r41.cs ++ [.bool false, .slice none 0 0, .slice none 0 0, .bool false, .slice none 0 0, .slice none 0 0]⟩)]) yj ?_
  refine sq9 (zza 39 (zB true) (zzb (zzd (zyr xv (zzs (zzp ?_))))))
  refine zzd (zzt (sq9 (zza 40 (zI 2) (zza 41 (zI (gi L i 2)) (zza 13 (zI 2) (zza 14 (zI (gi L i 2)) (zzb (zzf (zza 42 (zI 2) (zzi 43 (.v (W.v)) ty27 zze (zza 44 (zI (gi L i 2)) ?_)))))))))))
  refine zzg 45 30 [W.v, .int .i64 (gi L i 2)] ?_
  intro w58 u58 e58 d58
  have k63 := k_fxValue (W := W) (z := gi L i 2) d58 hW xq xq
  with_reducible refine zPm k63 ?_
  rintro _ u61 g62 ⟨r59, rfl, h60⟩
  refine zza 46 (.adr 11 6) (zzj ⟨84, r47.cs ++ r53.cs ++ r59.cs⟩ ty82 ?_)
  refine zzx ?_
  refine zzp (zzf (zza 47 (zI 3) (zza 38 (zI 3) (zzx ?_))))
  refine rn_next ?_
  refine sw_weak (T := St.of 71 [(3, .adr 3 0), (4, .adr 4 0), (7, .v (.slice a.a a.n a.c)), (8, .v (.slice b.a b.n b.c)), (10, .adr 10 0), (11, .adr 11 0), (12, .adr 12 0), (28, .v (.slice x.a x.n x.c)), (29, zI x.n), (30, zI i), (37, .v (.agg #[.int .i64 (gi L i 0), .int .i64 (gi L i 1), .int .i64 (gi L i 2)])), (38, zI 3)] [(3, ⟨27, [.int .i64 W.b, .int .i64 W.f, .int .i64 W.r, .int .i64 W.o]⟩), (4, ⟨45, [.slice none 0 0, .slice none 0 0]⟩), (10, ⟨59, [.int .i64 (gi L i 0), .int .i64 (gi L i 1), .int .i64 (gi L i 2), .int .i64 (gi L i 3), .int .i64 (gi L i 4)]⟩), (11, ⟨84, r47.cs ++ r53.cs ++ r59.cs⟩), (12, ⟨84, r41.cs ++ [.bool false, .slice none 0 0, .slice none 0 0, .bool false, .slice none 0 0, .slice none 0 0]⟩)]) yj ?_
  refine sq9 (zza 39 (zB false) (zzb (zzd (zys xv (zyc (zzp (zzd (sq9 (zza 48 (.adr 10 3) (zzi 49 (.v (.agg #[.int .i64 (gi L i 3), .int .i64 (gi L i 4)])) ty56 zze (zza 50 (zI 0) ?_)))))))))))
  refine zzb (zzt (sw_rounds 2 ?_))
  refine sq9 (zza 51 (zB true) (zzb (zzd (zyr xv (zzs (zzp ?_))))))
  refine zzd (zzt (sq9 (zza 52 (zI 0) (zza 53 (zI (gi L i 3)) (zza 15 (zI 0) (zza 16 (zI (gi L i 3)) (zzb (zzf (zza 54 (zI 0) (zza 55 (zI 1) (zzi 56 (.v (W.v)) ty27 zze ?_)))))))))))
  refine zza 57 (zI (gi L i 3)) (zzg 58 30 [W.v, .int .i64 (gi L i 3)] ?_)
  intro w64 u64 e64 d64
  have k69 := k_fxValue (W := W) (z := gi L i 3) d64 hW xq xq
  with_reducible refine zPm k69 ?_
  rintro _ u67 g68 ⟨r65, rfl, h66⟩
  refine zza 59 (.adr 12 3) (zzj ⟨84, r41.cs ++ r65.cs ++ [.bool false, .slice none 0 0, .slice none 0 0]⟩ ty82 ?_)
  refine zzx ?_
  refine zzp (zzf (zza 60 (zI 1) (zza 50 (zI 1) (zzx ?_))))
  refine rn_next ?_
  refine sw_weak (T := St.of 71 [(3, .adr 3 0), (4, .adr 4 0), (7, .v (.slice a.a a.n a.c)), (8, .v (.slice b.a b.n b.c)), (11, .adr 11 0), (12, .adr 12 0), (28, .v (.slice x.a x.n x.c)), (29, zI x.n), (30, zI i), (49, .v (.agg #[.int .i64 (gi L i 3), .int .i64 (gi L i 4)])), (50, zI 1)] [(3, ⟨27, [.int .i64 W.b, .int .i64 W.f, .int .i64 W.r, .int .i64 W.o]⟩), (4, ⟨45, [.slice none 0 0, .slice none 0 0]⟩), (11, ⟨84, r47.cs ++ r53.cs ++ r59.cs⟩), (12, ⟨84, r41.cs ++ r65.cs ++ [.bool false, .slice none 0 0, .slice none 0 0]⟩)]) yj ?_
  refine sq9 (zza 51 (zB true) (zzb (zzd (zyr xv (zzs (zzp ?_))))))
  refine zzd (zzt (sq9 (zza 52 (zI 1) (zza 53 (zI (gi L i 4)) (zza 15 (zI 1) (zza 16 (zI (gi L i 4)) (zzb (zzf (zza 54 (zI 1) (zza 55 (zI 2) (zzi 56 (.v (W.v)) ty27 zze ?_)))))))))))
  refine zza 57 (zI (gi L i 4)) (zzg 58 30 [W.v, .int .i64 (gi L i 4)] ?_)
  intro w70 u70 e70 d70
  have k75 := k_fxValue (W := W) (z := gi L i 4) d70 hW xq xq
  with_reducible refine zPm k75 ?_
  rintro _ u73 g74 ⟨r71, rfl, h72⟩
  refine zza 59 (.adr 12 6) (zzj ⟨84, r41.cs ++ r65.cs ++ r71.cs⟩ ty82 ?_)
  refine zzx ?_
  refine zzp (zzf (zza 60 (zI 2) (zza 50 (zI 2) (zzx ?_))))
  refine rn_next ?_
  refine sw_weak (T := St.of 71 [(3, .adr 3 0), (4, .adr 4 0), (7, .v (.slice a.a a.n a.c)), (8, .v (.slice b.a b.n b.c)), (11, .adr 11 0), (12, .adr 12 0), (28, .v (.slice x.a x.n x.c)), (29, zI x.n), (30, zI i), (49, .v (.agg #[.int .i64 (gi L i 3), .int .i64 (gi L i 4)])), (50, zI 2)] [(3, ⟨27, [.int .i64 W.b, .int .i64 W.f, .int .i64 W.r, .int .i64 W.o]⟩), (4, ⟨45, [.slice none 0 0, .slice none 0 0]⟩), (11, ⟨84, r47.cs ++ r53.cs ++ r59.cs⟩), (12, ⟨84, r41.cs ++ r65.cs ++ r71.cs⟩)]) yj ?_
  refine sq9 (zza 51 (zB false) (zzb (zzd (zys xv (zyc (zzp (sq9 (zza 61 (.v a.v) (zza 62 (.slc 11 0 3 3) (zyo 63 31 [.v a.v, .slc 11 0 3 3] [11, 62] (.inl rfl) (pub_mk xj) (k := ?_)))))))))))
  intro B76 w76 u76 e76 d76 v76
  have h78 : u76.heap[B76 11]? = some (.cells #[.bool r47.s, .slice r47.m.a r47.m.n r47.m.c, .slice r47.d.a r47.d.n r47.d.c, .bool r53.s, .slice r53.m.a r53.m.n r53.m.c, .slice r53.d.a r53.d.n r53.d.c, .bool r59.s, .slice r59.m.a r59.m.n r59.m.c, .slice r59.d.a r59.d.n r59.d.c] 84 (0, 0)) := v76 11 zq _ rfl
  obtain ⟨b77, hBb77⟩ : ∃ b, B76 11 = b := ⟨_, rfl⟩
  rw [hBb77] at h78
  have hp79 : PolN u76 (⟨some ⟨b77, 0, none⟩, 3, 3⟩ : Sl) [(((gi L i 0 : Int) : Rat) / ((Nt.p2i W.f : Int) : Rat)), (((gi L i 1 : Int) : Rat) / ((Nt.p2i W.f : Int) : Rat)), (((gi L i 2 : Int) : Rat) / ((Nt.p2i W.f : Int) : Rat))] 2 := pol_lit (L := [r47, r53, r59]) h78 (rats3 (h48.ext (e52.trans (g56.ext.trans (e58.trans (g62.ext.trans (e64.trans (g68.ext.trans (e70.trans (g74.ext.trans e76))))))))) (h54.ext (e58.trans (g62.ext.trans (e64.trans (g68.ext.trans (e70.trans (g74.ext.trans e76))))))) (h60.ext (e64.trans (g68.ext.trans (e70.trans (g74.ext.trans e76)))))) rfl xw
  show Calls _ _ #[.slice a.a a.n a.c, .slice (some ⟨B76 11, 0, none⟩) 3 3] _ _
  rw [hBb77]
  have k84 := k_poMul d76 (hA.ext (e40.trans (g44.ext.trans (e46.trans (g50.ext.trans (e52.trans (g56.ext.trans (e58.trans (g62.ext.trans (e64.trans (g68.ext.trans (e70.trans (g74.ext.trans e76))))))))))))).raw hp79.raw (Nat.le_trans (Nt.mlK_mono hla (show ([(((gi L i 0 : Int) : Rat) / ((Nt.p2i W.f : Int) : Rat)), (((gi L i 1 : Int) : Rat) / ((Nt.p2i W.f : Int) : Rat)), (((gi L i 2 : Int) : Rat) / ((Nt.p2i W.f : Int) : Rat))]).length ≤ 3 from Nat.le_refl _) (Nat.le_refl _) (Nat.le_refl _)) (by decide +kernel)) (by have h9 := hla; omega) (by have h9 := (show ([(((gi L i 0 : Int) : Rat) / ((Nt.p2i W.f : Int) : Rat)), (((gi L i 1 : Int) : Rat) / ((Nt.p2i W.f : Int) : Rat)), (((gi L i 2 : Int) : Rat) / ((Nt.p2i W.f : Int) : Rat))]).length ≤ 3 from Nat.le_refl _); omega) (by have h9 := hla; omega) (by have h9 := (show ([(((gi L i 0 : Int) : Rat) / ((Nt.p2i W.f : Int) : Rat)), (((gi L i 1 : Int) : Rat) / ((Nt.p2i W.f : Int) : Rat)), (((gi L i 2 : Int) : Rat) / ((Nt.p2i W.f : Int) : Rat))]).length ≤ 3 from Nat.le_refl _); omega)
  with_reducible refine zPm k84 ?_
  rintro _ u82 g83 ⟨y80, rfl, h81⟩
  replace h81 := PolN.more h81 (Nat.le_trans (Nt.mlK_mono hla (show ([(((gi L i 0 : Int) : Rat) / ((Nt.p2i W.f : Int) : Rat)), (((gi L i 1 : Int) : Rat) / ((Nt.p2i W.f : Int) : Rat)), (((gi L i 2 : Int) : Rat) / ((Nt.p2i W.f : Int) : Rat))]).length ≤ 3 from Nat.le_refl _) (Nat.le_refl _) (Nat.le_refl _)) (by decide +kernel : _ ≤ 7220))
  have hly80 := h81.len
  have hm85 : (Nt.trimQ (Nt.mulQ (Nt.csP (Nt.csN W.f) L i) [(((gi L i 0 : Int) : Rat) / ((Nt.p2i W.f : Int) : Rat)), (((gi L i 1 : Int) : Rat) / ((Nt.p2i W.f : Int) : Rat)), (((gi L i 2 : Int) : Rat) / ((Nt.p2i W.f : Int) : Rat))])).length ≤ 19 := Nt.zxt hla (show ([(((gi L i 0 : Int) : Rat) / ((Nt.p2i W.f : Int) : Rat)), (((gi L i 1 : Int) : Rat) / ((Nt.p2i W.f : Int) : Rat)), (((gi L i 2 : Int) : Rat) / ((Nt.p2i W.f : Int) : Rat))]).length ≤ 3 from Nat.le_refl _)
  have hk86 : PolN _ y80 (Nt.trimQ (Nt.mulQ (Nt.csP (Nt.csN W.f) L i) [(((gi L i 0 : Int) : Rat) / ((Nt.p2i W.f : Int) : Rat)), (((gi L i 1 : Int) : Rat) / ((Nt.p2i W.f : Int) : Rat)), (((gi L i 2 : Int) : Rat) / ((Nt.p2i W.f : Int) : Rat))])) 7220 := PolN.more h81 xq
  refine zza 7 (.v y80.v) (zzc 71 [(3, .adr 3 0), (4, .adr 4 0), (7, .v y80.v), (8, .v b.v), (12, .adr 12 0), (28, .v x.v), (29, zI x.n), (30, zI i)] [(3, ⟨27, W.cs⟩), (4, ⟨45, [.slice none 0 0, .slice none 0 0]⟩), (12, ⟨84, r41.cs ++ r65.cs ++ r71.cs⟩)] (zzf (zza 64 (.v b.v) (zza 65 (.slc 12 0 3 3) (zyo 66 31 [.v b.v, .slc 12 0 3 3] [12, 65] (.inl rfl) (pub_mk xj) (k := ?_))))))
  intro B87 w87 u87 e87 d87 v87
  have h89 : u87.heap[B87 12]? = some (.cells #[.bool r41.s, .slice r41.m.a r41.m.n r41.m.c, .slice r41.d.a r41.d.n r41.d.c, .bool r65.s, .slice r65.m.a r65.m.n r65.m.c, .slice r65.d.a r65.d.n r65.d.c, .bool r71.s, .slice r71.m.a r71.m.n r71.m.c, .slice r71.d.a r71.d.n r71.d.c] 84 (0, 0)) := v87 12 zq _ rfl
  obtain ⟨b88, hBb88⟩ : ∃ b, B87 12 = b := ⟨_, rfl⟩
  rw [hBb88] at h89
  have hp90 : PolN u87 (⟨some ⟨b88, 0, none⟩, 3, 3⟩ : Sl) [((1 : Int) : Rat), (((gi L i 3 : Int) : Rat) / ((Nt.p2i W.f : Int) : Rat)), (((gi L i 4 : Int) : Rat) / ((Nt.p2i W.f : Int) : Rat))] 2 := pol_lit (L := [r41, r65, r71]) h89 (rats3 (h42.ext (e46.trans (g50.ext.trans (e52.trans (g56.ext.trans (e58.trans (g62.ext.trans (e64.trans (g68.ext.trans (e70.trans (g74.ext.trans (e76.trans (g83.ext.trans e87))))))))))))) (h66.ext (e70.trans (g74.ext.trans (e76.trans (g83.ext.trans e87))))) (h72.ext (e76.trans (g83.ext.trans e87)))) rfl xw
  show Calls _ _ #[.slice b.a b.n b.c, .slice (some ⟨B87 12, 0, none⟩) 3 3] _ _
  rw [hBb88]
  have k95 := k_poMul d87 (hB.ext (e40.trans (g44.ext.trans (e46.trans (g50.ext.trans (e52.trans (g56.ext.trans (e58.trans (g62.ext.trans (e64.trans (g68.ext.trans (e70.trans (g74.ext.trans (e76.trans (g83.ext.trans e87))))))))))))))).raw hp90.raw (Nat.le_trans (Nt.mlK_mono hlb (show ([((1 : Int) : Rat), (((gi L i 3 : Int) : Rat) / ((Nt.p2i W.f : Int) : Rat)), (((gi L i 4 : Int) : Rat) / ((Nt.p2i W.f : Int) : Rat))]).length ≤ 3 from Nat.le_refl _) (Nat.le_refl _) (Nat.le_refl _)) (by decide +kernel)) (by have h9 := hlb; omega) (by have h9 := (show ([((1 : Int) : Rat), (((gi L i 3 : Int) : Rat) / ((Nt.p2i W.f : Int) : Rat)), (((gi L i 4 : Int) : Rat) / ((Nt.p2i W.f : Int) : Rat))]).length ≤ 3 from Nat.le_refl _); omega) (by have h9 := hlb; omega) (by have h9 := (show ([((1 : Int) : Rat), (((gi L i 3 : Int) : Rat) / ((Nt.p2i W.f : Int) : Rat)), (((gi L i 4 : Int) : Rat) / ((Nt.p2i W.f : Int) : Rat))]).length ≤ 3 from Nat.le_refl _); omega)
  with_reducible refine zPm k95 ?_
  rintro _ u93 g94 ⟨y91, rfl, h92⟩
  replace h92 := PolN.more h92 (Nat.le_trans (Nt.mlK_mono hlb (show ([((1 : Int) : Rat), (((gi L i 3 : Int) : Rat) / ((Nt.p2i W.f : Int) : Rat)), (((gi L i 4 : Int) : Rat) / ((Nt.p2i W.f : Int) : Rat))]).length ≤ 3 from Nat.le_refl _) (Nat.le_refl _) (Nat.le_refl _)) (by decide +kernel : _ ≤ 7220))
  have hly91 := h92.len
  have hm96 : (Nt.trimQ (Nt.mulQ (Nt.csP (Nt.csD W.f) L i) [((1 : Int) : Rat), (((gi L i 3 : Int) : Rat) / ((Nt.p2i W.f : Int) : Rat)), (((gi L i 4 : Int) : Rat) / ((Nt.p2i W.f : Int) : Rat))])).length ≤ 19 := Nt.zxt hlb (show ([((1 : Int) : Rat), (((gi L i 3 : Int) : Rat) / ((Nt.p2i W.f : Int) : Rat)), (((gi L i 4 : Int) : Rat) / ((Nt.p2i W.f : Int) : Rat))]).length ≤ 3 from Nat.le_refl _)
  have hk97 : PolN _ y91 (Nt.trimQ (Nt.mulQ (Nt.csP (Nt.csD W.f) L i) [((1 : Int) : Rat), (((gi L i 3 : Int) : Rat) / ((Nt.p2i W.f : Int) : Rat)), (((gi L i 4 : Int) : Rat) / ((Nt.p2i W.f : Int) : Rat))])) 7220 := PolN.more h92 xq
  refine zza 8 (.v y91.v) (zzx ?_)
  refine zzp (zzf (zyq 67 (x := zI (IntKind.i64.wrap ((i : Int) + 1))) (zI (i + 1 : Nat)) (eqI xk) (zza 30 (zI (i + 1 : Nat)) (zzx ?_))))
  refine ⟨_, ?_, _, by exact zzv _ _ _, i + 1, y80, y91, rfl, by omega, rfl, (e37.trans (e40.trans (g44.ext.trans (e46.trans (g50.ext.trans (e52.trans (g56.ext.trans (e58.trans (g62.ext.trans (e64.trans (g68.ext.trans (e70.trans (g74.ext.trans (e76.trans (g83.ext.trans (e87.trans g94.ext)))))))))))))))), (csP_fit (g := Nt.csN W.f) (L := L) (k := i + 1) (P := (Nt.p2i W.f).toNat) (K := 7220) (show PolN _ _ (Nt.csP (Nt.csN W.f) L (i + 1)) _ from (hk86.ext (e87.trans g94.ext))) xq xq xq (fun _ => rfl) (fun i hi => Nt.csN_sm (hbd5 i xq))), (csP_fit (g := Nt.csD W.f) (L := L) (k := i + 1) (P := (Nt.p2i W.f).toNat) (K := 7220) (show PolN _ _ (Nt.csP (Nt.csD W.f) L (i + 1)) _ from hk97) xq xq xq (fun _ => rfl) (fun i hi => Nt.csD_sm xq (hbd5 i xq)))⟩
  omega
 ·replace hb38 : (decide ((i : Int) < (x.n : Int))) = false := hb38
  have qhb38 := of_decide_eq_false hb38
  refine zyc (zzp (sq9 (zza 68 (.v a.v) (zza 69 (.v b.v) (zza 70 (.v (.agg #[a.v, b.v])) (zzj ⟨45, [a.v, b.v]⟩ ty45 ?_))))))
  refine zza 5 (zI 0) (zzb (zzo (ret0 [.agg #[.slice a.a a.n a.c, .slice b.a b.n b.c], .int .i64 0] ⟨zzr ty45 zze, zzq, trivial⟩ fun u98 e99 => ?_)))
  have hi9 : i = L.length := by omega
  have h9 := (hA.ext e99)
  have h7 := (hB.ext e99)
  rw [hi9] at h9 h7
  exact ⟨a, b, rfl, h9, h7⟩
set_option maxHeartbeats 4000000 in
theorem k_csStable {u w : World} {x : Sl} {L : List (List Int)} {W : WL} (d : Dat u w) (hE : Nt.csE W L = 0) (hx : IrV 5 u x L) (hb : ∀ p ∈ L, ∀ z ∈ p, -9223372036854775808 ≤ z ∧ z ≤ 9223372036854775807) : Calls Try.prog 14 #[x.v, W.v] w (Post u w fun v u' => v = .tuple #[.bool (Nt.csSt W.f L), .int .i64 0]) := by
 obtain ⟨hW, h1, h8, hall⟩ := Nt.csE_ok hE
 have hlx := hx.len
 obtain ⟨hw1, hw2, hw3, hw4, hw5, hw6, hw7, hw8⟩ := id hW
 have hp24 := Nt.p2i_24 (n := W.b - 1) xq
 have hpf := Nt.p2i_24 (n := W.f) xq
 have hpp := Nt.zxo W.f
 have hbd5 : ∀ i, i < L.length → ∀ j, j < 5 → ((L.getD i []).getD j 0).natAbs ≤ 2 ^ 24 := fun i hi j hj => by have h9 := Nt.secFit_ok (hall i hi) j hj; unfold gi at h9; omega
 refine zzm (args := [.slice x.a x.n x.c, .agg #[.int .i64 W.b, .int .i64 W.f, .int .i64 W.r, .int .i64 W.o]]) Try.func14 rfl Try.ntmps14 (rs := [.tmp 4, .tmp 5]) Try.results14 (le_b rfl) (le_b rfl) d ?_
 refine sq9 (zzk 3 ⟨27, W.cs⟩ (zza 4 (zB false) (zza 5 (zI 0) (zzb (zzd (sq9 (zza 10 (.v x.v) (zzi 11 (.v (W.v)) ty27 zze (zzg 12 24 [x.v, W.v] ?_)))))))))
 intro w11 u11 e11 d11
 have k14 := (Post.mono (Ψ := fun v _ => v = .int .i64 0) (k_csWrong (W := W) d11 (hx.ext e11) hb) (fun v u9 _ h => by rw [hE] at h; exact h))
 with_reducible refine zPm k14 ?_
 rintro _ u12 g13 rfl
 refine zza 6 (zI 0) (zzb (sq9 (zza 13 (zI 0) (zza 14 (zB false) (zzb (zys xv (zzs (zzp ?_))))))))
 refine sq9 (zza 16 (.adr 3 1) (zzi 17 (zI W.f) ty3 zzl (sy_shl 18 (k := .i64) (s := W.f) (Nt.p2i W.f) xq (by show _ ≤ (64 : Int); omega) (shl_one xq xq) ?_)))
 refine zza 7 (zI (Nt.p2i W.f)) (zzb (zzd (sq9 (zza 19 (.v x.v) (zza 20 (zI x.n) (zza 21 (zI 0) (zzb (zzt (zyn (I := fun m15 S' u' => ∃ (i : Nat), (m15 = x.n - i) ∧ (i ≤ x.n) ∧ (∀ j, j < i → Nt.secSt W.f (L.getD j []) = true) ∧ (S' = St.of 44 [(7, zI (Nt.p2i W.f)), (19, .v (.slice x.a x.n x.c)), (20, zI x.n), (21, zI i)] []) ∧ (Ext u12 u')) (fun m S u1 u2 e h => by obtain ⟨i, hm, p0, p1, hS, hE⟩ := h; exact ⟨i, hm, p0, p1, hS, hE.trans e⟩) _ yj ⟨0, rfl, Nat.zero_le _, (fun j hj => absurd hj (Nat.not_lt_zero j)), rfl, (Ext.refl _)⟩ ?_)))))))))
 rintro m15 _ u15 ⟨i, hm15, hi, hs, rfl, e15⟩
 refine sq9 (zza 22 (zB (decide ((i : Int) < (x.n : Int)))) (zzb (zzd (zzu (b := decide ((i : Int) < (x.n : Int))) xv (fun hb16 => ?_) (fun hb16 => ?_)))))
 ·replace hb16 : (decide ((i : Int) < (x.n : Int))) = true := hb16
  have qhb16 := of_decide_eq_true hb16
  refine zzs (zzp ?_)
  refine zzd (zzt (zzd ?_))
  have hbd := Nt.secFit_ok (hall i xq)
  have hbd3 := hbd 3 xw
  have hbd4 := hbd 4 xw
  refine zzf ?_
  have hl17 := ((hx.ext (e11.trans (g13.ext.trans e15)))).len
  obtain ⟨b17, o17, hA17, hc17⟩ := ir_at5 (hx.ext (e11.trans (g13.ext.trans e15))) (i := i) xq
  refine zya 23 (o17 + i * 5) (n := x.n) (off := o17) (sz := 5) (i := (i : Int)) xq hA17 xq xq sl29 (zym 24 [.int .i64 (gi L i 0), .int .i64 (gi L i 1), .int .i64 (gi L i 2), .int .i64 (gi L i 3), .int .i64 (gi L i 4)] hc17 ty59 (zzk 9 ⟨59, [.int .i64 0, .int .i64 0, .int .i64 0, .int .i64 0, .int .i64 0]⟩ (zzj ⟨59, [.int .i64 (gi L i 0), .int .i64 (gi L i 1), .int .i64 (gi L i 2), .int .i64 (gi L i 3), .int .i64 (gi L i 4)]⟩ ty59 ?_)))
  refine zzb (zzd (zzz [0, 1, 3, 7, 0, 31, 63, 127, 255, 511, 1023, 127, 127, 4223, 12415, 30847, 65535, 131071] [(0, []), (1, []), (2, []), (4, []), (3, []), (5, []), (6, []), (7, []), (8, []), (9, []), (11, []), (12, []), (13, []), (14, []), (15, []), (10, []), (16, []), (17, [])] xv xv (zza 25 (.adr 9 3) (zza 26 (.adr 9 4) (zzi 27 (zI (gi L i 4)) ty3 zzl (zza 29 (zI (Nt.p2i W.f)) (zzg 28 32 [.int .i64 (gi L i 4)] ?_)))))))
  intro w18 u18 e18 d18
  have k21 := k_csize (z := gi L i 4) d18 xq xq
  with_reducible refine zPm k21 ?_
  rintro _ u19 g20 rfl
  have haz22 := Nt.az_bd (z := gi L i 4) xq xq
  refine zza 30 (zB (decide ((Nt.p2i W.f) ≤ (Nt.az (gi L i 4))))) ?_
  rcases Bool.eq_false_or_eq_true (decide ((Nt.p2i W.f) ≤ (Nt.az (gi L i 4)))) with hs23 | hs23
  ·refine zyq 31 (x := zB (decide ((Nt.p2i W.f) ≤ (Nt.az (gi L i 4))))) (zB true) (by rw [hs23]) ?_
   have qhs23 := of_decide_eq_true hs23
   refine zzn 32 (uw 6 false true 31) (zzn 33 (uw 6 false true 31) (zzn 34 (uw 6 false true 31) (zzn 36 (uw 6 false true 31) (zzn 37 (uw 6 false true 31) (zzn 38 (uw 6 false true 31) (zzn 39 (uw 6 false true 31) (zzn 40 (uw 6 false true 31) (zzn 35 (uw 6 false true 31) (zzn 41 (uw 6 false true 31) (zza 42 (zB true) (zzc 44 [(7, zI (Nt.p2i W.f)), (19, .v x.v), (20, zI x.n), (21, zI i), (42, zB true)] [] ?_)))))))))))
   refine zyr xv (sq9 (zza 4 (zB false) (zza 5 (zI 0) (zzb (zzo (zyu (zzw (zyt (zyu (zzw (ret0 [.bool false, .int .i64 0] ⟨zzq, zzq, trivial⟩ fun u24 e25 => ?_)))))))))))
   rw [Nt.csSt_no (i := i) xq (Nt.secSt_no1 xq)]
   rfl
  ·refine zyq 31 (x := zB (decide ((Nt.p2i W.f) ≤ (Nt.az (gi L i 4))))) (zB false) (by rw [hs23]) ?_
   have qhs23 := of_decide_eq_false hs23
   refine zza 32 (.adr 9 3) ?_ (hw := w1 6 false 31)
   refine zza 33 (.adr 9 3) ?_ (hw := w1 6 false 31)
   refine zzi 34 (zI (gi L i 3)) ty3 zzl ?_ (hw := w1 6 false 31)
   refine zza 36 (zI (Nt.p2i W.f)) ?_ (hw := w1 6 false 31)
   refine zza 37 (.adr 9 3) ?_ (hw := w1 6 false 31)
   refine zza 38 (.adr 9 4) ?_ (hw := w1 6 false 31)
   refine zzi 39 (zI (gi L i 4)) ty3 zzl ?_ (hw := w1 6 false 31)
   refine zyq 40 (x := zI (IntKind.i64.wrap ((Nt.p2i W.f) + (gi L i 4)))) (zI ((Nt.p2i W.f) + (gi L i 4))) yv ?_ (hw := w1 6 false 31)
   refine zzg 35 32 [.int .i64 (gi L i 3)] ?_ (hw := w1 6 false 31)
   intro w26 u26 e26 d26
   have k29 := k_csize (z := gi L i 3) d26 xq xq
   with_reducible refine zPm k29 ?_
   rintro _ u27 g28 rfl
   have haz30 := Nt.az_bd (z := gi L i 3) xq xq
   refine zza 41 (zB (decide (((Nt.p2i W.f) + (gi L i 4)) ≤ (Nt.az (gi L i 3))))) ?_ (hw := w1 6 false 31)
   refine zza 42 (zB (decide (((Nt.p2i W.f) + (gi L i 4)) ≤ (Nt.az (gi L i 3))))) (zzc 44 [(7, zI (Nt.p2i W.f)), (19, .v x.v), (20, zI x.n), (21, zI i), (42, zB (decide (((Nt.p2i W.f) + (gi L i 4)) ≤ (Nt.az (gi L i 3)))))] [] (zzu (b := decide (((Nt.p2i W.f) + (gi L i 4)) ≤ (Nt.az (gi L i 3)))) xv (fun hb31 => ?_) (fun hb31 => ?_)))
   ·replace hb31 : (decide (((Nt.p2i W.f) + (gi L i 4)) ≤ (Nt.az (gi L i 3)))) = true := hb31
    have qhb31 := of_decide_eq_true hb31
    refine sq9 (zza 4 (zB false) (zza 5 (zI 0) (zzb (zzo (zyu (zzw (zyt (zyu (zzw (ret0 [.bool false, .int .i64 0] ⟨zzq, zzq, trivial⟩ fun u32 e33 => ?_))))))))))
    rw [Nt.csSt_no (i := i) xq (Nt.secSt_no2 xq)]
    rfl
   ·replace hb31 : (decide (((Nt.p2i W.f) + (gi L i 4)) ≤ (Nt.az (gi L i 3)))) = false := hb31
    have qhb31 := of_decide_eq_false hb31
    refine zzs (zzp ?_)
    refine zzf (zyq 43 (x := zI (IntKind.i64.wrap ((i : Int) + 1))) (zI (i + 1 : Nat)) (eqI xk) (zza 21 (zI (i + 1 : Nat)) (zzx ?_)))
    refine ⟨_, ?_, _, by exact zzv _ _ _, i + 1, rfl, by omega, (fun j hj => by by_cases e : j = i; (rw [e]; exact Nt.secSt_yes xq xq); exact hs j xq), rfl, (e15.trans (e18.trans (g20.ext.trans (e26.trans g28.ext))))⟩
    omega
 ·replace hb16 : (decide ((i : Int) < (x.n : Int))) = false := hb16
  have qhb16 := of_decide_eq_false hb16
  refine zyc (zzp (sq9 (zza 4 (zB true) (zza 5 (zI 0) (zzb (zzo (ret0 [.bool true, .int .i64 0] ⟨zzq, zzq, trivial⟩ fun u34 e35 => ?_)))))))
  rw [Nt.csSt_yes (fun i hi => hs i xq)]
  rfl
end Go.Proofs.Ytdmpfhhhlhoeiaa
namespace Go.Proofs.Ytdmpfhhhlhoeiaa
set_option linter.unusedVariables false
namespace Nt
theorem sq0 (x : Rat) : 0 ≤ x * x := by
 rcases Rat.le_total (a := 0) (b := x) with h | h
 ·exact Rat.mul_nonneg h h
 ·have h1 : 0 ≤ -x := by grind
  have h2 := Rat.mul_nonneg h1 h1
  grind
def su (f : Nat → Rat) : Nat → Rat
 | 0 => 0
 | n + 1 => su f n + f n
section
variable {f g : Nat → Rat} {n m : Nat}
theorem su_s : su f (n + 1) = su f n + f n := rfl
theorem su_congr (h : ∀ i, i < n → f i = g i) : su f n = su g n := by
 induction n with
 | zero => rfl
 | succ n ih => rw [su_s, su_s, ih (fun i hi => h i xq), h n xq]
theorem su_add : su (fun i => f i + g i) n = su f n + su g n := by
 induction n with
 | zero => show (0 : Rat) = 0 + 0; grind
 | succ n ih => rw [su_s, su_s, su_s, ih]; grind
theorem su_mul (c : Rat) : su (fun i => c * f i) n = c * su f n := by
 induction n with
 | zero => show (0 : Rat) = c * 0; grind
 | succ n ih => rw [su_s, su_s, ih]; grind
theorem su_le (h : ∀ i, i < n → f i ≤ g i) : su f n ≤ su g n := by
 induction n with
 | zero => exact Rat.le_refl
 | succ n ih =>
  have h1 := ih (fun i hi => h i xq)
  have h2 := h n xq
  rw [su_s, su_s]; grind
theorem su_0 (h : ∀ i, i < n → f i = 0) : su f n = 0 := by
 induction n with
 | zero => rfl
 | succ n ih => rw [su_s, ih (fun i hi => h i xq), h n xq]; grind
theorem su_nn (h : ∀ i, i < n → 0 ≤ f i) : 0 ≤ su f n := by
 induction n with
 | zero => exact Rat.le_refl
 | succ n ih =>
  have h1 := ih (fun i hi => h i xq)
  have h2 := h n xq
  rw [su_s]; grind
theorem su_head : su f (n + 1) = f 0 + su (fun i => f (i + 1)) n := by
 induction n with
 | zero => show (0 : Rat) + f 0 = f 0 + 0; grind
 | succ n ih => rw [su_s, ih, su_s]; grind
theorem su_split (n m : Nat) : su f (n + m) = su f n + su (fun i => f (n + i)) m := by
 induction m with
 | zero => show su f n = su f n + 0; grind
 | succ m ih => rw [← Nat.add_assoc, su_s, ih, su_s]; grind
theorem su_mono (h : ∀ i, 0 ≤ f i) (hnm : n ≤ m) : su f n ≤ su f m := by
 obtain ⟨k, rfl⟩ : ∃ k, m = n + k := ⟨m - n, by omega⟩
 have h1 : 0 ≤ su (fun i => f (n + i)) k := su_nn (fun i _ => h _)
 rw [su_split]; grind
theorem su_swap {F : Nat → Nat → Rat} : su (fun i => su (F i) m) n = su (fun j => su (fun i => F i j) n) m := by
 induction n with
 | zero => exact (su_0 (fun i _ => rfl)).symm
 | succ n ih =>
  rw [su_s, ih, ← su_add]
  exact su_congr (fun i _ => rfl)
theorem su_rev : su (fun i => f (n - i)) (n + 1) = su f (n + 1) := by
 induction n with
 | zero => rfl
 | succ n ih =>
  rw [su_head, su_s (f := f) (n := n + 1), ← ih]
  have e : su (fun i => f (n + 1 - (i + 1))) (n + 1) = su (fun i => f (n - i)) (n + 1) := su_congr (fun i _ => by rw [Nat.add_sub_add_right])
  rw [e, Nat.sub_zero]; grind
end
def cv (a y : Nat → Rat) (n : Nat) : Rat := su (fun i => a i * y (n - i)) (n + 1)
section
variable {a b y z : Nat → Rat} {n m N M : Nat} {k : Rat}
theorem cv_0 : cv a y 0 = a 0 * y 0 := by show (0 : Rat) + a 0 * y 0 = _; grind
theorem cv_s : cv a y (n + 1) = a 0 * y (n + 1) + cv (fun i => a (i + 1)) y n := by
 unfold cv
 rw [su_head]
 have e : su (fun i => a (i + 1) * y (n + 1 - (i + 1))) (n + 1) = su (fun i => a (i + 1) * y (n - i)) (n + 1) := su_congr (fun i _ => by rw [Nat.add_sub_add_right])
 rw [e]; rfl
theorem cv_comm (a y : Nat → Rat) : cv a y = cv y a := funext fun n => by
 unfold cv
 rw [← su_rev]
 exact su_congr (fun i hi => by rw [show n - (n - i) = i by omega]; grind)
theorem cv_lin {p : Rat} : cv (fun i => p * a i + b i) y n = p * cv a y n + cv b y n := by
 unfold cv
 rw [← su_mul, ← su_add]
 exact su_congr (fun i _ => by grind)
theorem cv_congr (ha : ∀ i, i ≤ n → a i = b i) (hy : ∀ i, i ≤ n → y i = z i) : cv a y n = cv b z n := su_congr (fun i hi => by rw [ha i xq, hy (n - i) xq])
theorem cv_assoc (a b y : Nat → Rat) (n : Nat) : cv (cv a b) y n = cv a (cv b y) n := by
 induction n generalizing a with
 | zero => rw [cv_0, cv_0, cv_0, cv_0]; grind
 | succ n ih =>
  rw [cv_s, cv_s (a := a), cv_s (a := b), cv_0]
  have e : (fun i => cv a b (i + 1)) = fun i => a 0 * (fun j => b (j + 1)) i + cv (fun j => a (j + 1)) b i := funext fun i => cv_s
  rw [e, cv_lin, ih]
  have e2 : cv (fun j => a (j + 1)) (cv b y) n = cv (fun i => a (i + 1)) (cv b y) n := rfl
  grind
def en (y : Nat → Rat) (N : Nat) : Rat := su (fun i => y i * y i) N
theorem en_nn : 0 ≤ en y N := su_nn (fun i _ => sq0 _)
theorem en_mono (h : N ≤ M) : en y N ≤ en y M := su_mono (fun i => sq0 _) h
theorem en_congr (h : ∀ i, i < N → y i = z i) : en y N = en z N := su_congr (fun i hi => by rw [h i hi])
theorem sh_0 : sh y 0 = 0 := rfl
theorem sh_s : sh y (n + 1) = y n := rfl
theorem en_sh : en (sh y) N ≤ en y N := by
 cases N with
 | zero => exact Rat.le_refl
 | succ N =>
  unfold en
  rw [su_head, su_s]
  have e : su (fun i => sh y (i + 1) * sh y (i + 1)) N = su (fun i => y i * y i) N := su_congr (fun i _ => by rw [sh_s])
  rw [e, sh_0]
  have := sq0 (y N)
  grind
theorem cv_sh : cv (sh a) y n = sh (cv a y) n := by
 cases n with
 | zero => rw [cv_0, sh_0, sh_0]; grind
 | succ n => rw [cv_s, sh_s, sh_0]; show 0 * y (n + 1) + cv a y n = _; grind
theorem cv_bd (m : Nat) : ∀ a : Nat → Rat, (∀ i, m ≤ i → a i = 0) → ∃ B, 0 ≤ B ∧ ∀ y N, en (cv a y) N ≤ B * en y N := by
 induction m with
 | zero =>
  intro a ha
  refine ⟨0, Rat.le_refl, fun y N => ?_⟩
  have e : en (cv a y) N = 0 := su_0 (fun i _ => by rw [show cv a y i = 0 from su_0 (fun j _ => by rw [ha j (Nat.zero_le _)]; grind)]; grind)
  rw [e]; grind
 | succ m ih =>
  intro a ha
  obtain ⟨B, hB, h⟩ := ih (fun i => a (i + 1)) (fun i hi => ha (i + 1) xq)
  refine ⟨2 * (a 0 * a 0) + 2 * B, by have := sq0 (a 0); grind, fun y N => ?_⟩
  have h1 := h y N
  have h2 : en (sh (cv (fun i => a (i + 1)) y)) N ≤ en (cv (fun i => a (i + 1)) y) N := en_sh
  have h3 : en (cv a y) N ≤ su (fun i => 2 * (a 0 * a 0) * (y i * y i) + 2 * (sh (cv (fun i => a (i + 1)) y) i * sh (cv (fun i => a (i + 1)) y) i)) N := su_le (fun i _ => by
   have e : cv a y i = a 0 * y i + sh (cv (fun i => a (i + 1)) y) i := by
    cases i with
    | zero => rw [cv_0, sh_0]; grind
    | succ i => rw [cv_s, sh_s]
   rw [e]
   have := sq0 (a 0 * y i - sh (cv (fun i => a (i + 1)) y) i)
   grind)
  rw [su_add, su_mul, su_mul] at h3
  unfold en at *
  grind
def OB (a : Nat → Rat) : Prop := ∃ C, 0 ≤ C ∧ ∀ y N, en y N ≤ C * en (cv a y) N
theorem OB.mul (h : OB a) (k : OB b) : OB (cv a b) := by
 obtain ⟨C, hC, h⟩ := h
 obtain ⟨D, hD, k⟩ := k
 refine ⟨D * C, Rat.mul_nonneg hD hC, fun y N => ?_⟩
 have h1 := k y N
 have h2 := Rat.mul_le_mul_of_nonneg_left (h (cv b y) N) hD
 rw [en_congr (y := cv (cv a b) y) (z := cv a (cv b y)) (fun i _ => cv_assoc a b y i)]
 grind
theorem OB.right (ha : ∀ i, m ≤ i → a i = 0) (h : OB (cv a b)) : OB b := by
 obtain ⟨C, hC, h⟩ := h
 obtain ⟨B, hB, k⟩ := cv_bd m a ha
 refine ⟨C * B, Rat.mul_nonneg hC hB, fun y N => ?_⟩
 have h1 := h y N
 rw [en_congr (y := cv (cv a b) y) (z := cv a (cv b y)) (fun i _ => cv_assoc a b y i)] at h1
 have h2 := Rat.mul_le_mul_of_nonneg_left (k (cv b y) N) hC
 grind
theorem OB.left (hb : ∀ i, m ≤ i → b i = 0) (h : OB (cv a b)) : OB a := by
 rw [cv_comm] at h; exact h.right hb
theorem OB.one (h0 : a 0 = 1) (h : ∀ i, 1 ≤ i → a i = 0) : OB a := by
 refine ⟨1, by decide, fun y N => ?_⟩
 have e : en (cv a y) N = en y N := en_congr (fun i _ => by
  show su _ (i + 1) = _
  rw [su_head, su_0 (fun j _ => by rw [h (j + 1) xq]; grind), h0, Nat.sub_zero]; grind)
 rw [e]; grind
def rv (m : Nat) (a : Nat → Rat) (i : Nat) : Rat := if i ≤ m then a (m - i) else 0
def PA (m : Nat) (a : Nat → Rat) : Prop := ∀ y N, en (cv (rv m a) y) N ≤ en (cv a y) N
structure Step (m : Nat) (a b : Nat → Rat) (k : Rat) : Prop where
 up : ∀ i, a i = b i + k * sh (rv m b) i
 rev : ∀ i, rv (m + 1) a i = sh (rv m b) i + k * b i
section
variable {y : Nat → Rat}
theorem Step.u (s : Step m a b k) (n : Nat) : cv a y n = cv b y n + k * sh (cv (rv m b) y) n := by
 have e : a = fun i => k * sh (rv m b) i + b i := funext fun i => by rw [s.up i]; grind
 rw [e, cv_lin, cv_sh]; grind
theorem Step.v (s : Step m a b k) (n : Nat) : cv (rv (m + 1) a) y n = sh (cv (rv m b) y) n + k * cv b y n := by
 have e : rv (m + 1) a = fun i => k * b i + sh (rv m b) i := funext fun i => by rw [s.rev i]; grind
 rw [e, cv_lin, cv_sh]; grind
theorem Step.en (s : Step m a b k) (N : Nat) : en (cv a y) N - en (cv (rv (m + 1) a) y) N = (1 - k * k) * (en (cv b y) N - en (sh (cv (rv m b) y)) N) := by
 have e1 : Nt.en (cv a y) N = su (fun i => (1 - k * k) * (cv b y i * cv b y i) + ((k * k - 1) * (sh (cv (rv m b) y) i * sh (cv (rv m b) y) i) + cv (rv (m + 1) a) y i * cv (rv (m + 1) a) y i)) N := su_congr (fun i _ => by rw [s.u i, s.v i]; grind)
 rw [e1, su_add, su_mul, su_add, su_mul]
 unfold Nt.en
 grind
theorem Step.pa (s : Step m a b k) (hk : k * k ≤ 1) (h : PA m b) : PA (m + 1) a := fun y N => by
 have h1 := s.en (y := y) N
 have h2 : Nt.en (sh (cv (rv m b) y)) N ≤ Nt.en (cv (rv m b) y) N := en_sh
 have h3 := h y N
 have h4 : 0 ≤ (1 - k * k) * (Nt.en (cv b y) N - Nt.en (sh (cv (rv m b) y)) N) := Rat.mul_nonneg (by grind) (by grind)
 grind
theorem Step.ob (s : Step m a b k) (h1 : -1 < k) (h2 : k < 1) (h : PA m b) (hb : OB b) : OB a := by
 obtain ⟨C, hC, hb⟩ := hb
 obtain ⟨c, hc0, hc1, hc⟩ : ∃ c : Rat, 0 ≤ c ∧ c < 1 ∧ (c = k ∨ c = -k) := by
  rcases Rat.le_total (a := 0) (b := k) with h | h
  ·exact ⟨k, h, h2, .inl rfl⟩
  ·exact ⟨-k, by grind, by grind, .inr rfl⟩
 have hd : (0 : Rat) < (1 - c) * (1 - c) := Rat.mul_pos (by grind) (by grind)
 refine ⟨C * ((1 - c) * (1 - c))⁻¹, Rat.mul_nonneg hC (Rat.le_of_lt (Rat.inv_pos.2 hd)), fun y N => ?_⟩
 have g1 := hb y N
 have g2 : Nt.en (sh (cv (rv m b) y)) N ≤ Nt.en (cv b y) N := Rat.le_trans en_sh (h y N)
 have g3 : su (fun i => (1 - c) * (cv b y i * cv b y i) + (-(c * (1 - c))) * (sh (cv (rv m b) y) i * sh (cv (rv m b) y) i)) N ≤ Nt.en (cv a y) N := su_le (fun i _ => by
  rw [s.u i]
  rcases hc with rfl | rfl
  ·have := Rat.mul_nonneg hc0 (sq0 (cv b y i + sh (cv (rv m b) y) i)); grind
  ·have := Rat.mul_nonneg hc0 (sq0 (cv b y i - sh (cv (rv m b) y) i)); grind)
 rw [su_add, su_mul, su_mul] at g3
 have g4 : (1 - c) * (1 - c) * Nt.en (cv b y) N ≤ Nt.en (cv a y) N := by
  have := Rat.mul_le_mul_of_nonneg_left g2 (Rat.mul_nonneg hc0 (show 0 ≤ 1 - c by grind))
  unfold Nt.en at *
  grind
 have g5 : Nt.en (cv b y) N ≤ ((1 - c) * (1 - c))⁻¹ * Nt.en (cv a y) N := by
  have := Rat.mul_le_mul_of_nonneg_left g4 (Rat.le_of_lt (Rat.inv_pos.2 hd))
  rw [← Rat.mul_assoc, Rat.inv_mul_cancel _ (by grind), Rat.one_mul] at this
  exact this
 have g6 := Rat.mul_le_mul_of_nonneg_left g5 hC
 rw [Rat.mul_assoc]
 exact Rat.le_trans g1 g6
end
end
end Nt
end Go.Proofs.Ytdmpfhhhlhoeiaa
